/- Part 2 of 5 of the proof that the law FnExactReadCombCardSaid holds: for every input that can be read the call returns true and leaves its arguments as they were; no condition but those each theorem names. -/
import Derived.Test.YtcjhhdecckcibaaDoorQReadCombW1
import Derived.Test.YtcjhhdecckcibaaDoorQReadComb1
namespace Go.Proofs.YtcjhhdecckcibaaDoor.G
open Go.RowKit Go.Proofs.YtcjhhdecckcibaaDoorW.PrintWords Go.Proofs.YtcjhhdecckcibaaDoorW.PrintLast Go.Proofs.YtcjhhdecckcibaaDoorW.PrintMore Go.Proofs.YtcjhhdecckcibaaDoor.Short
attribute [local go_sem] max2_int min2_int max_two min_two max_three min_three max_four min_four   -- for this text's walks alone
set_option linter.unusedVariables false
set_option linter.unusedSimpArgs false

mutual
def spec_ldRead.j0 : Nat → ByteArray → Int → Bool → Option (Int × Int × (List (S48)) × Int)
  | 0, _, _, _ => none
  | k + 1, x0, x1, x17 => if x17 = true then (some (0, 0, ([] : List (S48)), 0)) else (if 0 < (x0.size : Int) then (if (bt x0 0) = 83 then ((spec_ldOne.f 3).bind fun bt102 => (some (bt102.1, bt102.2.1, bt102.2.2, 1))) else (if (bt x0 0) = 75 then ((spec_ldOne.f 4).bind fun bt107 => (some (bt107.1, bt107.2.1, bt107.2.2, 1))) else (if (bt x0 0) = 73 then ((spec_ldOne.f 5).bind fun bt112 => (some (bt112.1, bt112.2.1, bt112.2.2, 1))) else (if (bt x0 0) = 120 then (spec_ldRead.l0 k x0 1) else (if (bt x0 0) = 40 then (if 1 ≤ (x0.size : Int) then ((spec_ldRead.f k (x0.extract 1 x0.size) (wrap64 (x1 + 1))).bind fun bt121 => (if bt121.2.2.2 = 0 then (spec_ldRead.j2 k x0 x1 bt121.2.2.2 true bt121.1 bt121.2.1 bt121.2.2.1) else (if (wrap64 (bt121.2.2.2 + 1)) ≥ (x0.size : Int) then (spec_ldRead.j2 k x0 x1 bt121.2.2.2 true bt121.1 bt121.2.1 bt121.2.2.1) else (if 0 ≤ (wrap64 (bt121.2.2.2 + 1)) then (if (wrap64 (bt121.2.2.2 + 1)) < (x0.size : Int) then (spec_ldRead.j2 k x0 x1 bt121.2.2.2 ((bt x0 (wrap64 (bt121.2.2.2 + 1))) != 32) bt121.1 bt121.2.1 bt121.2.2.1) else (none)) else (none))))) else (none)) else (some (0, 0, ([] : List (S48)), 0))))))) else (none))
def spec_ldRead.l0 : Nat → ByteArray → Int → Option (Int × Int × (List (S48)) × Int)
  | 0, _, _ => none
  | k + 1, x0, x6 => if x6 < (x0.size : Int) then (if x6 < 4 then (if 0 ≤ x6 then (if (bt x0 x6) ≥ 48 then (if (bt x0 x6) ≤ 57 then (spec_ldRead.l0 k x0 (wrap64 (x6 + 1))) else (if x6 = 1 then (some (0, 0, ([] : List (S48)), 0)) else (if 1 ≤ x6 then (if x6 ≤ (x0.size : Int) then ((spec_laSmall.f k (x0.extract 1 (x6 : Int).toNat)).bind fun t117 => (some (1, t117, ([] : List (S48)), x6))) else (none)) else (none)))) else (if x6 = 1 then (some (0, 0, ([] : List (S48)), 0)) else (if 1 ≤ x6 then (if x6 ≤ (x0.size : Int) then ((spec_laSmall.f k (x0.extract 1 (x6 : Int).toNat)).bind fun t118 => (some (1, t118, ([] : List (S48)), x6))) else (none)) else (none)))) else (none)) else (if x6 = 1 then (some (0, 0, ([] : List (S48)), 0)) else (if 1 ≤ x6 then (if x6 ≤ (x0.size : Int) then ((spec_laSmall.f k (x0.extract 1 (x6 : Int).toNat)).bind fun t119 => (some (1, t119, ([] : List (S48)), x6))) else (none)) else (none)))) else (if x6 = 1 then (some (0, 0, ([] : List (S48)), 0)) else (if 1 ≤ x6 then (if x6 ≤ (x0.size : Int) then ((spec_laSmall.f k (x0.extract 1 (x6 : Int).toNat)).bind fun t120 => (some (1, t120, ([] : List (S48)), x6))) else (none)) else (none)))
def spec_ldRead.j2 : Nat → ByteArray → Int → Int → Bool → Int → Int → List (S48) → Option (Int × Int × (List (S48)) × Int)
  | 0, _, _, _, _, _, _, _ => none
  | k + 1, x0, x1, x8, x89, x128000, x128001, x128002 => if x89 = true then (some (0, 0, ([] : List (S48)), 0)) else (if 0 ≤ (wrap64 (x8 + 2)) then (if (wrap64 (x8 + 2)) ≤ (x0.size : Int) then ((spec_ldRead.f k (x0.extract ((wrap64 (x8 + 2)) : Int).toNat x0.size) (wrap64 (x1 + 1))).bind fun bt128 => (if bt128.2.2.2 = 0 then (some (0, 0, ([] : List (S48)), 0)) else (if (wrap64 ((wrap64 (x8 + 2)) + bt128.2.2.2)) ≥ (x0.size : Int) then (some (0, 0, ([] : List (S48)), 0)) else (if 0 ≤ (wrap64 ((wrap64 (x8 + 2)) + bt128.2.2.2)) then (if (wrap64 ((wrap64 (x8 + 2)) + bt128.2.2.2)) < (x0.size : Int) then (if (bt x0 (wrap64 ((wrap64 (x8 + 2)) + bt128.2.2.2))) = 41 then ((spec_ldApp.f x128000 x128001 x128002 bt128.1 bt128.2.1 bt128.2.2.1).bind fun bt135 => (some (bt135.1, bt135.2.1, bt135.2.2, wrap64 ((wrap64 ((wrap64 (x8 + 2)) + bt128.2.2.2)) + 1)))) else (some (0, 0, ([] : List (S48)), 0))) else (none)) else (none))))) else (none)) else (none))
def spec_ldRead.f : Nat → ByteArray → Int → Option (Int × Int × (List (S48)) × Int)
  | 0, _, _ => none
  | k + 1, a0, a1 => if a1 > 60 then (spec_ldRead.j0 k a0 a1 true) else (spec_ldRead.j0 k a0 a1 (a0.toList == ([] : List UInt8)))
end
set_option maxHeartbeats 8000000 in
set_option maxRecDepth 100000 in
theorem spec_ldRead.calls (k : Nat) : ∀ (a0 : ByteArray) (a1 : Int) (r1 : Int) (r2 : Int) (r3 : List (S48)) (r4 : Int) (w : World) (h : spec_ldRead.f k a0 a1 = some (r1, r2, r3, r4)),
    Calls Tryd.prog 39 #[.string a0, .int .i64 a1] w fun e w' => ∃ v2_ : Value, e = .returned (.tuple #[.agg #[.int .i64 r1, .int .i64 r2, v2_], .int .i64 r4]) ∧ Kd.N k48 48 w' w.heap.size (fun k_ => (w.heap.size ≤ k_)) v2_ r3 ∧ Below w.heap.size w w' := by
  induction k using Nat.strongRecOn with
  | _ k ih =>
  intro a0 a1 r1 r2 r3 r4 w h
  cases k with
  | zero => exact absurd h (by simp [spec_ldRead.f])
  | succ k =>
  simp only [spec_ldRead.f] at h
  have hu48 := Tryd.underlying48
  have HB := aM (Below.refl w.heap.size w)
  have H : (if a1 > 60 then (spec_ldRead.j0 k a0 a1 true) else (spec_ldRead.j0 k a0 a1 (a0.toList == ([] : List UInt8)))) = some (r1, r2, r3, r4) := h
  clear h
  have HC3 := aM H
  clear H
  go_enter Tryd.func39, Tryd.ntmps39
  go_upto_region 1 with (first | ((with_reducible refine gate_dst (N := 4) rfl ?_); (try (refine gate_guard (by rfl) ?_; dsimp only)); refine box_event ?hg (N := 4) ?hd (cs := #[.int .i64 0, .int .i64 0, .slice none 0 0]) (t := 48) ?hr ?_; (case hd => rfl); (case hg => rfl); (case hr => first | (go_simp; done) | (go_simp; rfl)); intro gb101 hg w4 hbox hb; have n0_ := aM (below_step (by repeat (first | (with_reducible first | exact HB.out | apply below_alloc | apply pw_below_drewN | apply below_drew1) | exact HB.out)) hb); have n1_ := aM (hbox); have n2_ := aM ((by rw [hg]; exact (below_size (by repeat (first | (with_reducible first | exact HB.out | apply below_alloc | apply pw_below_drewN | apply below_drew1) | exact HB.out))) : w.heap.size ≤ gb101)); have n3_ := aM ((by rw [hg]; exact (below_size (by repeat (first | (with_reducible first | exact HB.out | apply below_alloc | apply pw_below_drewN | apply below_drew1) | exact HB.out))) : w.heap.size ≤ gb101)); clear HB; have HB := n0_; have BK101 := n1_; have GW101 := n2_; have GE101 := n3_; clear n0_ n1_ n2_ n3_; clear hb hbox hg))
  (try simp only [Act.put, List.setIfInBounds_toArray, List.set_cons_zero, List.set_cons_succ])
  go_cut [17] (fun v17 wc => ∃ (kq : Nat) (x17_2 : Bool), v17 = .bool x17_2 ∧ Aside0 (spec_ldRead.j0 kq a0 a1 x17_2 = some (r1, r2, r3, r4)) ∧ Aside0 (kq ≤ k) ∧ Aside0 (wc.heap[gb101]? = some (.cells #[.int .i64 0, .int .i64 0, (.slice none 0 0)] 48 (0, 0))) ∧ Aside0 (Below w.heap.size w wc))
  case first =>
    have H := HC3.out
    clear HC3
    by_cases c5 : a1 > 60
    · rw [if_pos c5] at H
      have c5b0 : decide (60 < a1) = true := decide_eq_true c5
      clear c5
      (first | rw [c5b0] | (simp only [i64_w, i32_w]; rw [c5b0]) | skip)
      have H' := aM H
      clear H
      go_wp2
      go_meet
      case rel => exact ⟨_, (true), (by first | rfl | (simp; done) | (simp [*]; done)), H', ⟨by first | omega | exact Nat.le_refl _⟩, ⟨by (with_reducible repeat (first | refine bN ?_ _ | refine bD ?_ | refine bA ?_ _)); exact BK101.out⟩, ⟨by repeat (first | (with_reducible first | exact HB.out | apply below_alloc | apply pw_below_drewN | apply below_drew1 | refine below_set ?_ GE101.out) | exact HB.out)⟩⟩
    · rw [if_neg c5] at H
      have c5b0 : decide (60 < a1) = false := decide_eq_false c5
      clear c5
      (first | rw [c5b0] | (simp only [i64_w, i32_w]; rw [c5b0]) | skip)
      have H' := aM H
      clear H
      go_wp2
      go_meet
      case rel => exact ⟨_, ((a0.toList == ([] : List UInt8))), (by first | rfl | (simp; done) | (simp [*]; done)), H', ⟨by first | omega | exact Nat.le_refl _⟩, ⟨by (with_reducible repeat (first | refine bN ?_ _ | refine bD ?_ | refine bA ?_ _)); exact BK101.out⟩, ⟨by repeat (first | (with_reducible first | exact HB.out | apply below_alloc | apply pw_below_drewN | apply below_drew1 | refine below_set ?_ GE101.out) | exact HB.out)⟩⟩
  case rest =>
    clear HC3
    try clear p2
    try clear c3
    try clear c5
    try clear c5b0
    obtain ⟨kq, x17_2, rfl, HA, HJ2, BK101, HB⟩ := hcut
    cases kq with
    | zero => exact absurd HA.out (by simp [spec_ldRead.j0])
    | succ kj2 =>
      have H := HA.out
      clear HA
      simp only [spec_ldRead.j0] at H
      by_cases c6 : x17_2 = true
      · subst c6
        have H1 : (some (0, 0, ([] : List (S48)), 0)) = some (r1, r2, r3, r4) := by rw [if_pos rfl] at H; exact H
        clear H
        have H := H1
        clear H1
        simp only [Option.some.injEq, Prod.mk.injEq] at H
        obtain ⟨rfl, rfl, rfl, rfl⟩ := H
        have hcz7_0 : wc.cell? ⟨gb101, 0, none⟩ = some (.int .i64 0) := (blk_cell BK101.out 0).trans rfl
        have hcz7_1 : wc.cell? ⟨gb101, 1, none⟩ = some (.int .i64 0) := (blk_cell BK101.out 1).trans rfl
        have hcz7_2 : wc.cell? ⟨gb101, 2, none⟩ = some (.slice none 0 0) := (blk_cell BK101.out 2).trans rfl
        have hfz7_0 := blk_frozen BK101.out 0
        have hfz7_1 := blk_frozen BK101.out 1
        have hfz7_2 := blk_frozen BK101.out 2
        go_wp2
        refine bodyPost_ret (results_ct rfl _ _ gb101 48 #[.int .i64 0, .int .i64 0, .slice none 0 0] (0, 0) _ rfl (by (with_reducible repeat (first | refine bN ?_ _ | refine bD ?_ | refine bA ?_ _)); refine blk_put (cs := #[.int .i64 0, .int .i64 0, .slice none 0 0]) ?_ 2 _ rfl; (with_reducible repeat (first | refine bN ?_ _ | refine bD ?_ | refine bA ?_ _)); refine blk_put (cs := #[.int .i64 0, .int .i64 0, .slice none 0 0]) ?_ 1 _ rfl; (with_reducible repeat (first | refine bN ?_ _ | refine bD ?_ | refine bA ?_ _)); refine blk_put (cs := #[.int .i64 0, .int .i64 0, .slice none 0 0]) ?_ 0 _ rfl; (with_reducible repeat (first | refine bN ?_ _ | refine bD ?_ | refine bA ?_ _)); exact BK101.out) Tryd.underlying48 rfl (by kernel_rfl)) rfl ?_
        exact ⟨_, by first | rfl | (simp [errW_none, errW_some] <;> rfl) | (simp [*, errW_none, errW_some] <;> rfl), by first | exact Kd.R_nil _ _ _ _ _ | exact Kd.N_nil _ _ _ _ _ | exact Kd.V_nil _ _ _ _ _ | exact Kd.Q_nil _ _ _ _ _ | exact Kd.S_nil _ _ _ _ _, by repeat (first | (with_reducible first | exact HB.out | apply below_alloc | apply pw_below_drewN | apply below_drew1 | refine below_set ?_ GE101.out) | exact HB.out)⟩
      · replace c6 := Bool.eq_false_iff.mpr c6
        subst c6
        have H1 : (if 0 < (a0.size : Int) then (if (bt a0 0) = 83 then ((spec_ldOne.f 3).bind fun bt102 => (some (bt102.1, bt102.2.1, bt102.2.2, 1))) else (if (bt a0 0) = 75 then ((spec_ldOne.f 4).bind fun bt107 => (some (bt107.1, bt107.2.1, bt107.2.2, 1))) else (if (bt a0 0) = 73 then ((spec_ldOne.f 5).bind fun bt112 => (some (bt112.1, bt112.2.1, bt112.2.2, 1))) else (if (bt a0 0) = 120 then (spec_ldRead.l0 kj2 a0 1) else (if (bt a0 0) = 40 then (if 1 ≤ (a0.size : Int) then ((spec_ldRead.f kj2 (a0.extract 1 a0.size) (wrap64 (a1 + 1))).bind fun bt121 => (if bt121.2.2.2 = 0 then (spec_ldRead.j2 kj2 a0 a1 bt121.2.2.2 true bt121.1 bt121.2.1 bt121.2.2.1) else (if (wrap64 (bt121.2.2.2 + 1)) ≥ (a0.size : Int) then (spec_ldRead.j2 kj2 a0 a1 bt121.2.2.2 true bt121.1 bt121.2.1 bt121.2.2.1) else (if 0 ≤ (wrap64 (bt121.2.2.2 + 1)) then (if (wrap64 (bt121.2.2.2 + 1)) < (a0.size : Int) then (spec_ldRead.j2 kj2 a0 a1 bt121.2.2.2 ((bt a0 (wrap64 (bt121.2.2.2 + 1))) != 32) bt121.1 bt121.2.1 bt121.2.2.1) else (none)) else (none))))) else (none)) else (some (0, 0, ([] : List (S48)), 0))))))) else (none)) = some (r1, r2, r3, r4) := by rw [if_neg (show ¬ (false = true) by decide)] at H; exact H
        clear H
        have H := H1
        clear H1
        by_cases c8 : 0 < (a0.size : Int)
        · rw [if_pos c8] at H
          have c8b0 : decide (0 < (a0.size : Int)) = true := decide_eq_true c8
          have c8b1 : decide (0 < a0.size) = true := decide_eq_true (by omega)
          clear c8
          by_cases c10 : (bt a0 0) = 83
          · rw [if_pos c10] at H
            have c10b0 : ((bt a0 0) == 83) = true := beq_iff_eq.mpr c10
            have c10b1 : ((bt a0 0) != 83) = false := bne_eq_false_iff_eq.mpr c10
            clear c10
            replace H := Option.bind_eq_some_iff.mp H
            obtain ⟨⟨t102, t103, t104⟩, A110, H⟩ := H
            replace H : (some (t102, t103, t104, 1)) = some (r1, r2, r3, r4) := H
            have A11 := aM A110
            clear A110
            simp only [Option.some.injEq, Prod.mk.injEq] at H
            obtain ⟨rfl, rfl, rfl, rfl⟩ := H
            have p9 : 0 ≤ (0 : Int) := (by omega)
            have q9 : 0 < a0.size := (by have : (0 : Int) < (a0.size : Int) := of_decide_eq_true (by first | (with_reducible assumption) | assumption); omega)
            have hx9 : ∀ h : 0 < a0.size, ((a0[0]'h).toNat : Int) = bt a0 0 := bt_at a0 0
            clear p9
            have qi9 : (0 < (a0.size : Int)) = True := eq_true (of_decide_eq_true (by first | (with_reducible assumption) | assumption))
            replace q9 := eq_true q9
            go_wp2_with (first | ((with_reducible refine gate_callee (f := 56) rfl ?_); refine goesL_ (some 24) rfl rfl Tryd.func56 (by kernel_rfl) rfl #[.int .i64 3] rfl (by (try simp only [List.map_toArray, List.map_cons, List.map_nil]); first | done | rfl | (simp only [List.length_drop, List.length_take]; rfl)) ?_; (with_reducible refine (spec_ldOne.calls 3 t102 t103 t104 _ A11.out).mono ?_); rintro e w12 ⟨v105, rfl, ho0, hb⟩; refine ⟨_, rfl, ?_⟩; have n0_ := aM (Kd.N_lower (Kd.N_mono (ok' := fun k_ => (w.heap.size ≤ k_) ∧ k_ ≠ gb101) (Kd.R_N (Kd.R_bound ho0)) (fun k_ hk_ => ⟨(Nat.le_trans (below_size (by repeat (first | (with_reducible first | exact HB.out | apply below_alloc | apply pw_below_drewN | apply below_drew1 | refine below_set ?_ GE101.out) | exact HB.out))) hk_.2.1), (Kd.freshB (g := gb101) (o := .cells #[.int .i64 0, .int .i64 0, .slice none 0 0] 48 (0, 0)) (by (with_reducible repeat (first | refine bN ?_ _ | refine bD ?_ | refine bA ?_ _)); exact BK101.out) k_ hk_.2.1)⟩)) (below_size (by repeat (first | (with_reducible first | exact HB.out | apply below_alloc | apply pw_below_drewN | apply below_drew1 | refine below_set ?_ GE101.out) | exact HB.out)))); have n1_ := aM (blk_below (g := gb101) (o := .cells #[.int .i64 0, .int .i64 0, .slice none 0 0] 48 (0, 0)) (by (with_reducible repeat (first | refine bN ?_ _ | refine bD ?_ | refine bA ?_ _)); exact BK101.out) hb); have n2_ := aM (below_step (by repeat (first | (with_reducible first | exact HB.out | apply below_alloc | apply pw_below_drewN | apply below_drew1 | refine below_set ?_ GE101.out) | exact HB.out)) hb); clear BK101; clear HB; have HO106 := n0_; have BK101 := n1_; have HB := n2_; clear n0_ n1_ n2_; (try clear hb); (try clear hb2); (try clear hk); (try clear hi); (try clear ho0); have hcz13_0 : w12.cell? ⟨gb101, 0, none⟩ = some (.int .i64 0) := (blk_cell BK101.out 0).trans rfl; have hcz13_1 : w12.cell? ⟨gb101, 1, none⟩ = some (.int .i64 0) := (blk_cell BK101.out 1).trans rfl; have hcz13_2 : w12.cell? ⟨gb101, 2, none⟩ = some (.slice none 0 0) := (blk_cell BK101.out 2).trans rfl; have hfz13_0 := blk_frozen BK101.out 0; have hfz13_1 := blk_frozen BK101.out 1; have hfz13_2 := blk_frozen BK101.out 2; obtain ⟨Ao14, co14, eo14⟩ := Kd.N_slice HO106.out; subst eo14))
            refine bodyPost_ret (results_ct rfl _ _ gb101 48 #[.int .i64 t102, .int .i64 t103, .slice Ao14 t104.length co14] (0, 0) _ rfl (by (with_reducible repeat (first | refine bN ?_ _ | refine bD ?_ | refine bA ?_ _)); refine blk_put (cs := #[.int .i64 t102, .int .i64 t103, .slice none 0 0]) ?_ 2 _ rfl; (with_reducible repeat (first | refine bN ?_ _ | refine bD ?_ | refine bA ?_ _)); refine blk_put (cs := #[.int .i64 t102, .int .i64 0, .slice none 0 0]) ?_ 1 _ rfl; (with_reducible repeat (first | refine bN ?_ _ | refine bD ?_ | refine bA ?_ _)); refine blk_put (cs := #[.int .i64 0, .int .i64 0, .slice none 0 0]) ?_ 0 _ rfl; (with_reducible repeat (first | refine bN ?_ _ | refine bD ?_ | refine bA ?_ _)); exact BK101.out) Tryd.underlying48 rfl (by kernel_rfl)) rfl ?_
            exact ⟨_, by first | rfl | (simp [errW_none, errW_some] <;> rfl) | (simp [*, errW_none, errW_some] <;> rfl), by (with_reducible repeat (first | apply Kd.N_alloc | apply Kd.N_drewN | apply Kd.N_drew)); exact Kd.N_mono (Kd.N_far (p := ⟨gb101, 2, none⟩) (Kd.N_far (p := ⟨gb101, 1, none⟩) (Kd.N_far (p := ⟨gb101, 0, none⟩) (Kd.N_mono HO106.out (fun k_ hk => (⟨hk, hk.2⟩ : _ ∧ k_ ≠ gb101))) (fun _ hk => hk.2) (.int .i64 t102)) (fun _ hk => hk.2) (.int .i64 t103)) (fun _ hk => hk.2) (.slice Ao14 t104.length co14)) (fun _ hk => hk.1.1), by repeat (first | (with_reducible first | exact HB.out | apply below_alloc | apply pw_below_drewN | apply below_drew1 | refine below_set ?_ GE101.out) | exact HB.out)⟩
          · rw [if_neg c10] at H
            have c10b0 : ((bt a0 0) == 83) = false := beq_eq_false_iff_ne.mpr c10
            have c10b1 : ((bt a0 0) != 83) = true := bne_iff_ne.mpr c10
            by_cases c15 : (bt a0 0) = 75
            · rw [if_pos c15] at H
              have c15b0 : ((bt a0 0) == 75) = true := beq_iff_eq.mpr c15
              have c15b1 : ((bt a0 0) != 75) = false := bne_eq_false_iff_eq.mpr c15
              clear c15
              replace H := Option.bind_eq_some_iff.mp H
              obtain ⟨⟨t107, t108, t109⟩, A160, H⟩ := H
              replace H : (some (t107, t108, t109, 1)) = some (r1, r2, r3, r4) := H
              have A16 := aM A160
              clear A160
              simp only [Option.some.injEq, Prod.mk.injEq] at H
              obtain ⟨rfl, rfl, rfl, rfl⟩ := H
              have p9 : 0 ≤ (0 : Int) := (by omega)
              have q9 : 0 < a0.size := (by have : (0 : Int) < (a0.size : Int) := of_decide_eq_true (by first | (with_reducible assumption) | assumption); omega)
              have hx9 : ∀ h : 0 < a0.size, ((a0[0]'h).toNat : Int) = bt a0 0 := bt_at a0 0
              clear p9
              have qi9 : (0 < (a0.size : Int)) = True := eq_true (of_decide_eq_true (by first | (with_reducible assumption) | assumption))
              replace q9 := eq_true q9
              go_wp2_with (first | ((with_reducible refine gate_callee (f := 56) rfl ?_); refine goesL_ (some 27) rfl rfl Tryd.func56 (by kernel_rfl) rfl #[.int .i64 4] rfl (by (try simp only [List.map_toArray, List.map_cons, List.map_nil]); first | done | rfl | (simp only [List.length_drop, List.length_take]; rfl)) ?_; (with_reducible refine (spec_ldOne.calls 4 t107 t108 t109 _ A16.out).mono ?_); rintro e w17 ⟨v110, rfl, ho0, hb⟩; refine ⟨_, rfl, ?_⟩; have n0_ := aM (Kd.N_lower (Kd.N_mono (ok' := fun k_ => (w.heap.size ≤ k_) ∧ k_ ≠ gb101) (Kd.R_N (Kd.R_bound ho0)) (fun k_ hk_ => ⟨(Nat.le_trans (below_size (by repeat (first | (with_reducible first | exact HB.out | apply below_alloc | apply pw_below_drewN | apply below_drew1 | refine below_set ?_ GE101.out) | exact HB.out))) hk_.2.1), (Kd.freshB (g := gb101) (o := .cells #[.int .i64 0, .int .i64 0, .slice none 0 0] 48 (0, 0)) (by (with_reducible repeat (first | refine bN ?_ _ | refine bD ?_ | refine bA ?_ _)); exact BK101.out) k_ hk_.2.1)⟩)) (below_size (by repeat (first | (with_reducible first | exact HB.out | apply below_alloc | apply pw_below_drewN | apply below_drew1 | refine below_set ?_ GE101.out) | exact HB.out)))); have n1_ := aM (blk_below (g := gb101) (o := .cells #[.int .i64 0, .int .i64 0, .slice none 0 0] 48 (0, 0)) (by (with_reducible repeat (first | refine bN ?_ _ | refine bD ?_ | refine bA ?_ _)); exact BK101.out) hb); have n2_ := aM (below_step (by repeat (first | (with_reducible first | exact HB.out | apply below_alloc | apply pw_below_drewN | apply below_drew1 | refine below_set ?_ GE101.out) | exact HB.out)) hb); clear BK101; clear HB; have HO111 := n0_; have BK101 := n1_; have HB := n2_; clear n0_ n1_ n2_; (try clear hb); (try clear hb2); (try clear hk); (try clear hi); (try clear ho0); have hcz18_0 : w17.cell? ⟨gb101, 0, none⟩ = some (.int .i64 0) := (blk_cell BK101.out 0).trans rfl; have hcz18_1 : w17.cell? ⟨gb101, 1, none⟩ = some (.int .i64 0) := (blk_cell BK101.out 1).trans rfl; have hcz18_2 : w17.cell? ⟨gb101, 2, none⟩ = some (.slice none 0 0) := (blk_cell BK101.out 2).trans rfl; have hfz18_0 := blk_frozen BK101.out 0; have hfz18_1 := blk_frozen BK101.out 1; have hfz18_2 := blk_frozen BK101.out 2; obtain ⟨Ao19, co19, eo19⟩ := Kd.N_slice HO111.out; subst eo19))
              refine bodyPost_ret (results_ct rfl _ _ gb101 48 #[.int .i64 t107, .int .i64 t108, .slice Ao19 t109.length co19] (0, 0) _ rfl (by (with_reducible repeat (first | refine bN ?_ _ | refine bD ?_ | refine bA ?_ _)); refine blk_put (cs := #[.int .i64 t107, .int .i64 t108, .slice none 0 0]) ?_ 2 _ rfl; (with_reducible repeat (first | refine bN ?_ _ | refine bD ?_ | refine bA ?_ _)); refine blk_put (cs := #[.int .i64 t107, .int .i64 0, .slice none 0 0]) ?_ 1 _ rfl; (with_reducible repeat (first | refine bN ?_ _ | refine bD ?_ | refine bA ?_ _)); refine blk_put (cs := #[.int .i64 0, .int .i64 0, .slice none 0 0]) ?_ 0 _ rfl; (with_reducible repeat (first | refine bN ?_ _ | refine bD ?_ | refine bA ?_ _)); exact BK101.out) Tryd.underlying48 rfl (by kernel_rfl)) rfl ?_
              exact ⟨_, by first | rfl | (simp [errW_none, errW_some] <;> rfl) | (simp [*, errW_none, errW_some] <;> rfl), by (with_reducible repeat (first | apply Kd.N_alloc | apply Kd.N_drewN | apply Kd.N_drew)); exact Kd.N_mono (Kd.N_far (p := ⟨gb101, 2, none⟩) (Kd.N_far (p := ⟨gb101, 1, none⟩) (Kd.N_far (p := ⟨gb101, 0, none⟩) (Kd.N_mono HO111.out (fun k_ hk => (⟨hk, hk.2⟩ : _ ∧ k_ ≠ gb101))) (fun _ hk => hk.2) (.int .i64 t107)) (fun _ hk => hk.2) (.int .i64 t108)) (fun _ hk => hk.2) (.slice Ao19 t109.length co19)) (fun _ hk => hk.1.1), by repeat (first | (with_reducible first | exact HB.out | apply below_alloc | apply pw_below_drewN | apply below_drew1 | refine below_set ?_ GE101.out) | exact HB.out)⟩
            · rw [if_neg c15] at H
              have c15b0 : ((bt a0 0) == 75) = false := beq_eq_false_iff_ne.mpr c15
              have c15b1 : ((bt a0 0) != 75) = true := bne_iff_ne.mpr c15
              by_cases c20 : (bt a0 0) = 73
              · rw [if_pos c20] at H
                have c20b0 : ((bt a0 0) == 73) = true := beq_iff_eq.mpr c20
                have c20b1 : ((bt a0 0) != 73) = false := bne_eq_false_iff_eq.mpr c20
                clear c20
                replace H := Option.bind_eq_some_iff.mp H
                obtain ⟨⟨t112, t113, t114⟩, A210, H⟩ := H
                replace H : (some (t112, t113, t114, 1)) = some (r1, r2, r3, r4) := H
                have A21 := aM A210
                clear A210
                simp only [Option.some.injEq, Prod.mk.injEq] at H
                obtain ⟨rfl, rfl, rfl, rfl⟩ := H
                have p9 : 0 ≤ (0 : Int) := (by omega)
                have q9 : 0 < a0.size := (by have : (0 : Int) < (a0.size : Int) := of_decide_eq_true (by first | (with_reducible assumption) | assumption); omega)
                have hx9 : ∀ h : 0 < a0.size, ((a0[0]'h).toNat : Int) = bt a0 0 := bt_at a0 0
                clear p9
                have qi9 : (0 < (a0.size : Int)) = True := eq_true (of_decide_eq_true (by first | (with_reducible assumption) | assumption))
                replace q9 := eq_true q9
                go_wp2_with (first | ((with_reducible refine gate_callee (f := 56) rfl ?_); refine goesL_ (some 30) rfl rfl Tryd.func56 (by kernel_rfl) rfl #[.int .i64 5] rfl (by (try simp only [List.map_toArray, List.map_cons, List.map_nil]); first | done | rfl | (simp only [List.length_drop, List.length_take]; rfl)) ?_; (with_reducible refine (spec_ldOne.calls 5 t112 t113 t114 _ A21.out).mono ?_); rintro e w22 ⟨v115, rfl, ho0, hb⟩; refine ⟨_, rfl, ?_⟩; have n0_ := aM (Kd.N_lower (Kd.N_mono (ok' := fun k_ => (w.heap.size ≤ k_) ∧ k_ ≠ gb101) (Kd.R_N (Kd.R_bound ho0)) (fun k_ hk_ => ⟨(Nat.le_trans (below_size (by repeat (first | (with_reducible first | exact HB.out | apply below_alloc | apply pw_below_drewN | apply below_drew1 | refine below_set ?_ GE101.out) | exact HB.out))) hk_.2.1), (Kd.freshB (g := gb101) (o := .cells #[.int .i64 0, .int .i64 0, .slice none 0 0] 48 (0, 0)) (by (with_reducible repeat (first | refine bN ?_ _ | refine bD ?_ | refine bA ?_ _)); exact BK101.out) k_ hk_.2.1)⟩)) (below_size (by repeat (first | (with_reducible first | exact HB.out | apply below_alloc | apply pw_below_drewN | apply below_drew1 | refine below_set ?_ GE101.out) | exact HB.out)))); have n1_ := aM (blk_below (g := gb101) (o := .cells #[.int .i64 0, .int .i64 0, .slice none 0 0] 48 (0, 0)) (by (with_reducible repeat (first | refine bN ?_ _ | refine bD ?_ | refine bA ?_ _)); exact BK101.out) hb); have n2_ := aM (below_step (by repeat (first | (with_reducible first | exact HB.out | apply below_alloc | apply pw_below_drewN | apply below_drew1 | refine below_set ?_ GE101.out) | exact HB.out)) hb); clear BK101; clear HB; have HO116 := n0_; have BK101 := n1_; have HB := n2_; clear n0_ n1_ n2_; (try clear hb); (try clear hb2); (try clear hk); (try clear hi); (try clear ho0); have hcz23_0 : w22.cell? ⟨gb101, 0, none⟩ = some (.int .i64 0) := (blk_cell BK101.out 0).trans rfl; have hcz23_1 : w22.cell? ⟨gb101, 1, none⟩ = some (.int .i64 0) := (blk_cell BK101.out 1).trans rfl; have hcz23_2 : w22.cell? ⟨gb101, 2, none⟩ = some (.slice none 0 0) := (blk_cell BK101.out 2).trans rfl; have hfz23_0 := blk_frozen BK101.out 0; have hfz23_1 := blk_frozen BK101.out 1; have hfz23_2 := blk_frozen BK101.out 2; obtain ⟨Ao24, co24, eo24⟩ := Kd.N_slice HO116.out; subst eo24))
                refine bodyPost_ret (results_ct rfl _ _ gb101 48 #[.int .i64 t112, .int .i64 t113, .slice Ao24 t114.length co24] (0, 0) _ rfl (by (with_reducible repeat (first | refine bN ?_ _ | refine bD ?_ | refine bA ?_ _)); refine blk_put (cs := #[.int .i64 t112, .int .i64 t113, .slice none 0 0]) ?_ 2 _ rfl; (with_reducible repeat (first | refine bN ?_ _ | refine bD ?_ | refine bA ?_ _)); refine blk_put (cs := #[.int .i64 t112, .int .i64 0, .slice none 0 0]) ?_ 1 _ rfl; (with_reducible repeat (first | refine bN ?_ _ | refine bD ?_ | refine bA ?_ _)); refine blk_put (cs := #[.int .i64 0, .int .i64 0, .slice none 0 0]) ?_ 0 _ rfl; (with_reducible repeat (first | refine bN ?_ _ | refine bD ?_ | refine bA ?_ _)); exact BK101.out) Tryd.underlying48 rfl (by kernel_rfl)) rfl ?_
                exact ⟨_, by first | rfl | (simp [errW_none, errW_some] <;> rfl) | (simp [*, errW_none, errW_some] <;> rfl), by (with_reducible repeat (first | apply Kd.N_alloc | apply Kd.N_drewN | apply Kd.N_drew)); exact Kd.N_mono (Kd.N_far (p := ⟨gb101, 2, none⟩) (Kd.N_far (p := ⟨gb101, 1, none⟩) (Kd.N_far (p := ⟨gb101, 0, none⟩) (Kd.N_mono HO116.out (fun k_ hk => (⟨hk, hk.2⟩ : _ ∧ k_ ≠ gb101))) (fun _ hk => hk.2) (.int .i64 t112)) (fun _ hk => hk.2) (.int .i64 t113)) (fun _ hk => hk.2) (.slice Ao24 t114.length co24)) (fun _ hk => hk.1.1), by repeat (first | (with_reducible first | exact HB.out | apply below_alloc | apply pw_below_drewN | apply below_drew1 | refine below_set ?_ GE101.out) | exact HB.out)⟩
              · rw [if_neg c20] at H
                have c20b0 : ((bt a0 0) == 73) = false := beq_eq_false_iff_ne.mpr c20
                have c20b1 : ((bt a0 0) != 73) = true := bne_iff_ne.mpr c20
                by_cases c25 : (bt a0 0) = 120
                · rw [if_pos c25] at H
                  have c25b0 : ((bt a0 0) == 120) = true := beq_iff_eq.mpr c25
                  have c25b1 : ((bt a0 0) != 120) = false := bne_eq_false_iff_eq.mpr c25
                  clear c25
                  have H' := aM H
                  clear H
                  have p9 : 0 ≤ (0 : Int) := (by omega)
                  have q9 : 0 < a0.size := (by have : (0 : Int) < (a0.size : Int) := of_decide_eq_true (by first | (with_reducible assumption) | assumption); omega)
                  have hx9 : ∀ h : 0 < a0.size, ((a0[0]'h).toNat : Int) = bt a0 0 := bt_at a0 0
                  clear p9
                  have qi9 : (0 < (a0.size : Int)) = True := eq_true (of_decide_eq_true (by first | (with_reducible assumption) | assumption))
                  replace q9 := eq_true q9
                  go_wp2
                  go_loopg [6] kj2 (fun kq v6 w' => ∃ (x6_2 : Int), v6 = .int .i64 x6_2 ∧ Aside0 (spec_ldRead.l0 kq a0 x6_2 = some (r1, r2, r3, r4)) ∧ Aside0 (kq ≤ kj2) ∧ Aside0 (w'.heap[gb101]? = some (.cells #[.int .i64 0, .int .i64 0, (.slice none 0 0)] 48 (0, 0))) ∧ Aside0 (Below w.heap.size w w'))
                  case atStart => exact ⟨(1), (by first | rfl | (simp; done) | (simp [*]; done)), H', ⟨Nat.le_refl _⟩, ⟨by (with_reducible repeat (first | refine bN ?_ _ | refine bD ?_ | refine bA ?_ _)); exact BK101.out⟩, ⟨by repeat (first | (with_reducible first | exact HB.out | apply below_alloc | apply pw_below_drewN | apply below_drew1 | refine below_set ?_ GE101.out) | exact HB.out)⟩⟩
                  case round =>
                    clear H'
                    try clear c1
                    try clear c2
                    try clear p2
                    try clear c3
                    try clear c5
                    try clear c5b0
                    try clear c6
                    try clear p6
                    try clear c8
                    try clear c8b0
                    try clear c8b1
                    try clear p9
                    try clear q9
                    try clear hx9
                    try clear qi9
                    try clear c10
                    try clear c10b0
                    try clear c10b1
                    try clear c15
                    try clear c15b0
                    try clear c15b1
                    try clear c20
                    try clear c20b0
                    try clear c20b1
                    try clear c25
                    try clear c25b0
                    try clear c25b1
                    try clear hcz13_0
                    try clear hcz13_1
                    try clear hcz13_2
                    try clear hcz18_0
                    try clear hcz18_1
                    try clear hcz18_2
                    try clear hcz23_0
                    try clear hcz23_1
                    try clear hcz23_2
                    try clear hcz7_0
                    try clear hcz7_1
                    try clear hcz7_2
                    try clear hfz13_0
                    try clear hfz13_1
                    try clear hfz13_2
                    try clear hfz18_0
                    try clear hfz18_1
                    try clear hfz18_2
                    try clear hfz23_0
                    try clear hfz23_1
                    try clear hfz23_2
                    try clear hfz7_0
                    try clear hfz7_1
                    try clear hfz7_2
                    try clear p2
                    try clear p9
                    try clear q9
                    obtain ⟨x6_2, rfl, HA, HK2, BK101, HB⟩ := hrel
                    cases gk with
                    | zero => exact absurd HA.out (by simp [spec_ldRead.l0])
                    | succ k2 =>
                      have H := HA.out
                      clear HA
                      simp only [spec_ldRead.l0] at H
                      by_cases c26 : x6_2 < (a0.size : Int)
                      · rw [if_pos c26] at H
                        have c26b0 : decide (x6_2 < (a0.size : Int)) = true := decide_eq_true c26
                        clear c26
                        by_cases c27 : x6_2 < 4
                        · rw [if_pos c27] at H
                          have c27b0 : decide (x6_2 < 4) = true := decide_eq_true c27
                          clear c27
                          by_cases c28 : 0 ≤ x6_2
                          · rw [if_pos c28] at H
                            have c28b0 : decide (0 ≤ x6_2) = true := decide_eq_true c28
                            clear c28
                            by_cases c30 : (bt a0 x6_2) ≥ 48
                            · rw [if_pos c30] at H
                              have c30b0 : decide (48 ≤ (bt a0 x6_2)) = true := decide_eq_true c30
                              clear c30
                              by_cases c32 : (bt a0 x6_2) ≤ 57
                              · rw [if_pos c32] at H
                                have c32b0 : decide ((bt a0 x6_2) ≤ 57) = true := decide_eq_true c32
                                clear c32
                                have H' := aM H
                                clear H
                                have p29 : 0 ≤ (x6_2 : Int) := of_decide_eq_true (by first | (with_reducible assumption) | assumption)
                                have q29 : x6_2 < (a0.size : Int) := of_decide_eq_true (by first | (with_reducible assumption) | assumption)
                                have hx29 := bt_at a0 x6_2
                                replace p29 := eq_true p29
                                replace q29 := eq_true q29
                                have p31 : 0 ≤ (x6_2 : Int) := of_decide_eq_true (by first | (with_reducible assumption) | assumption)
                                have q31 : x6_2 < (a0.size : Int) := of_decide_eq_true (by first | (with_reducible assumption) | assumption)
                                have hx31 := bt_at a0 x6_2
                                replace p31 := eq_true p31
                                replace q31 := eq_true q31
                                go_wp2
                                go_roundg k2
                                case measure => have := HJ2.out; have := HK2.out; omega
                                case rel => exact ⟨(wrap64 (x6_2 + 1)), (by first | rfl | (simp; done) | (simp [*]; done)), H', ⟨by have := HJ2.out; have := HK2.out; omega⟩, ⟨by (with_reducible repeat (first | refine bN ?_ _ | refine bD ?_ | refine bA ?_ _)); exact BK101.out⟩, ⟨by repeat (first | (with_reducible first | exact HB.out | apply below_alloc | apply pw_below_drewN | apply below_drew1 | refine below_set ?_ GE101.out) | exact HB.out)⟩⟩
                              · rw [if_neg c32] at H
                                have c32b0 : decide ((bt a0 x6_2) ≤ 57) = false := decide_eq_false c32
                                clear c32
                                by_cases c33 : x6_2 = 1
                                · rw [if_pos c33] at H
                                  have c33b0 : (x6_2 == 1) = true := beq_iff_eq.mpr c33
                                  have c33b1 : (x6_2 != 1) = false := bne_eq_false_iff_eq.mpr c33
                                  clear c33
                                  simp only [Option.some.injEq, Prod.mk.injEq] at H
                                  obtain ⟨rfl, rfl, rfl, rfl⟩ := H
                                  have p29 : 0 ≤ (x6_2 : Int) := of_decide_eq_true (by first | (with_reducible assumption) | assumption)
                                  have q29 : x6_2 < (a0.size : Int) := of_decide_eq_true (by first | (with_reducible assumption) | assumption)
                                  have hx29 := bt_at a0 x6_2
                                  replace p29 := eq_true p29
                                  replace q29 := eq_true q29
                                  have p31 : 0 ≤ (x6_2 : Int) := of_decide_eq_true (by first | (with_reducible assumption) | assumption)
                                  have q31 : x6_2 < (a0.size : Int) := of_decide_eq_true (by first | (with_reducible assumption) | assumption)
                                  have hx31 := bt_at a0 x6_2
                                  replace p31 := eq_true p31
                                  replace q31 := eq_true q31
                                  have hcz34_0 : wr.cell? ⟨gb101, 0, none⟩ = some (.int .i64 0) := (blk_cell BK101.out 0).trans rfl
                                  have hcz34_1 : wr.cell? ⟨gb101, 1, none⟩ = some (.int .i64 0) := (blk_cell BK101.out 1).trans rfl
                                  have hcz34_2 : wr.cell? ⟨gb101, 2, none⟩ = some (.slice none 0 0) := (blk_cell BK101.out 2).trans rfl
                                  have hfz34_0 := blk_frozen BK101.out 0
                                  have hfz34_1 := blk_frozen BK101.out 1
                                  have hfz34_2 := blk_frozen BK101.out 2
                                  go_wp2
                                  refine bodyPost_ret (results_ct rfl _ _ gb101 48 #[.int .i64 0, .int .i64 0, .slice none 0 0] (0, 0) _ rfl (by (with_reducible repeat (first | refine bN ?_ _ | refine bD ?_ | refine bA ?_ _)); refine blk_put (cs := #[.int .i64 0, .int .i64 0, .slice none 0 0]) ?_ 2 _ rfl; (with_reducible repeat (first | refine bN ?_ _ | refine bD ?_ | refine bA ?_ _)); refine blk_put (cs := #[.int .i64 0, .int .i64 0, .slice none 0 0]) ?_ 1 _ rfl; (with_reducible repeat (first | refine bN ?_ _ | refine bD ?_ | refine bA ?_ _)); refine blk_put (cs := #[.int .i64 0, .int .i64 0, .slice none 0 0]) ?_ 0 _ rfl; (with_reducible repeat (first | refine bN ?_ _ | refine bD ?_ | refine bA ?_ _)); exact BK101.out) Tryd.underlying48 rfl (by kernel_rfl)) rfl ?_
                                  exact ⟨_, by first | rfl | (simp [errW_none, errW_some] <;> rfl) | (simp [*, errW_none, errW_some] <;> rfl), by first | exact Kd.R_nil _ _ _ _ _ | exact Kd.N_nil _ _ _ _ _ | exact Kd.V_nil _ _ _ _ _ | exact Kd.Q_nil _ _ _ _ _ | exact Kd.S_nil _ _ _ _ _, by repeat (first | (with_reducible first | exact HB.out | apply below_alloc | apply pw_below_drewN | apply below_drew1 | refine below_set ?_ GE101.out) | exact HB.out)⟩
                                · rw [if_neg c33] at H
                                  have c33b0 : (x6_2 == 1) = false := beq_eq_false_iff_ne.mpr c33
                                  have c33b1 : (x6_2 != 1) = true := bne_iff_ne.mpr c33
                                  by_cases c35 : 1 ≤ x6_2
                                  · rw [if_pos c35] at H
                                    have c35b0 := eq_true c35
                                    have c35b1 : decide (1 ≤ x6_2) = true := decide_eq_true c35
                                    clear c35
                                    by_cases c36 : x6_2 ≤ (a0.size : Int)
                                    · rw [if_pos c36] at H
                                      have c36b0 := eq_true c36
                                      have c36b1 : decide (x6_2 ≤ (a0.size : Int)) = true := decide_eq_true c36
                                      clear c36
                                      replace H := Option.bind_eq_some_iff.mp H
                                      obtain ⟨t117, A370, H⟩ := H
                                      replace H : (some (1, t117, ([] : List (S48)), x6_2)) = some (r1, r2, r3, r4) := H
                                      have A37 := aM A370
                                      clear A370
                                      simp only [Option.some.injEq, Prod.mk.injEq] at H
                                      obtain ⟨rfl, rfl, rfl, rfl⟩ := H
                                      have p29 : 0 ≤ (x6_2 : Int) := of_decide_eq_true (by first | (with_reducible assumption) | assumption)
                                      have q29 : x6_2 < (a0.size : Int) := of_decide_eq_true (by first | (with_reducible assumption) | assumption)
                                      have hx29 := bt_at a0 x6_2
                                      replace p29 := eq_true p29
                                      replace q29 := eq_true q29
                                      have p31 : 0 ≤ (x6_2 : Int) := of_decide_eq_true (by first | (with_reducible assumption) | assumption)
                                      have q31 : x6_2 < (a0.size : Int) := of_decide_eq_true (by first | (with_reducible assumption) | assumption)
                                      have hx31 := bt_at a0 x6_2
                                      replace p31 := eq_true p31
                                      replace q31 := eq_true q31
                                      go_wp2_with (first | ((with_reducible refine gate_callee (f := 57) rfl ?_); refine goesL_ (some 61) rfl rfl Tryd.func57 (by kernel_rfl) rfl #[.string (a0.extract 1 (x6_2 : Int).toNat)] rfl (by (try simp only [List.map_toArray, List.map_cons, List.map_nil]); first | done | rfl | (simp only [List.length_drop, List.length_take]; rfl)) ?_; (with_reducible refine (spec_laSmall.calls k2 (a0.extract 1 (x6_2 : Int).toNat) t117 _ A37.out).mono ?_); rintro e w' ⟨rfl, ⟨nd, rfl⟩⟩; refine ⟨_, rfl, ?_⟩; (try (rw [drewN_self wr]; generalize hq_ : World.drewN wr _ = wr; have n0_ : Aside0 (wr.heap[gb101]? = some (.cells #[.int .i64 0, .int .i64 0, .slice none 0 0] 48 (0, 0))) := ⟨by rw [← hq_]; exact (by (with_reducible repeat (first | refine bN ?_ _ | refine bD ?_ | refine bA ?_ _)); exact BK101.out)⟩; have n1_ : Aside0 (Below w.heap.size w wr) := ⟨by rw [← hq_]; exact (by repeat (first | (with_reducible first | exact HB.out | apply below_alloc | apply pw_below_drewN | apply below_drew1 | refine below_set ?_ GE101.out) | exact HB.out))⟩; clear BK101 HB hq_; have BK101 := n0_; have HB := n1_; clear n0_ n1_)); have hcz38_0 : wr.cell? ⟨gb101, 0, none⟩ = some (.int .i64 0) := (blk_cell BK101.out 0).trans rfl; have hcz38_1 : wr.cell? ⟨gb101, 1, none⟩ = some (.int .i64 0) := (blk_cell BK101.out 1).trans rfl; have hcz38_2 : wr.cell? ⟨gb101, 2, none⟩ = some (.slice none 0 0) := (blk_cell BK101.out 2).trans rfl; have hfz38_0 := blk_frozen BK101.out 0; have hfz38_1 := blk_frozen BK101.out 1; have hfz38_2 := blk_frozen BK101.out 2))
                                      refine bodyPost_ret (results_ct rfl _ _ gb101 48 #[.int .i64 1, .int .i64 t117, .slice none 0 0] (0, 0) _ rfl (by (with_reducible repeat (first | refine bN ?_ _ | refine bD ?_ | refine bA ?_ _)); refine blk_put (cs := #[.int .i64 1, .int .i64 t117, .slice none 0 0]) ?_ 2 _ rfl; (with_reducible repeat (first | refine bN ?_ _ | refine bD ?_ | refine bA ?_ _)); refine blk_put (cs := #[.int .i64 1, .int .i64 0, .slice none 0 0]) ?_ 1 _ rfl; (with_reducible repeat (first | refine bN ?_ _ | refine bD ?_ | refine bA ?_ _)); refine blk_put (cs := #[.int .i64 0, .int .i64 0, .slice none 0 0]) ?_ 0 _ rfl; (with_reducible repeat (first | refine bN ?_ _ | refine bD ?_ | refine bA ?_ _)); exact BK101.out) Tryd.underlying48 rfl (by kernel_rfl)) rfl ?_
                                      exact ⟨_, by first | rfl | (simp [errW_none, errW_some] <;> rfl) | (simp [*, errW_none, errW_some] <;> rfl), by first | exact Kd.R_nil _ _ _ _ _ | exact Kd.N_nil _ _ _ _ _ | exact Kd.V_nil _ _ _ _ _ | exact Kd.Q_nil _ _ _ _ _ | exact Kd.S_nil _ _ _ _ _, by repeat (first | (with_reducible first | exact HB.out | apply below_alloc | apply pw_below_drewN | apply below_drew1 | refine below_set ?_ GE101.out) | exact HB.out)⟩
                                    · rw [if_neg c36] at H
                                      exact absurd H (by simp)
                                  · rw [if_neg c35] at H
                                    exact absurd H (by simp)
                            · rw [if_neg c30] at H
                              have c30b0 : decide (48 ≤ (bt a0 x6_2)) = false := decide_eq_false c30
                              clear c30
                              by_cases c39 : x6_2 = 1
                              · rw [if_pos c39] at H
                                have c39b0 : (x6_2 == 1) = true := beq_iff_eq.mpr c39
                                have c39b1 : (x6_2 != 1) = false := bne_eq_false_iff_eq.mpr c39
                                clear c39
                                simp only [Option.some.injEq, Prod.mk.injEq] at H
                                obtain ⟨rfl, rfl, rfl, rfl⟩ := H
                                have p29 : 0 ≤ (x6_2 : Int) := of_decide_eq_true (by first | (with_reducible assumption) | assumption)
                                have q29 : x6_2 < (a0.size : Int) := of_decide_eq_true (by first | (with_reducible assumption) | assumption)
                                have hx29 := bt_at a0 x6_2
                                replace p29 := eq_true p29
                                replace q29 := eq_true q29
                                have hcz40_0 : wr.cell? ⟨gb101, 0, none⟩ = some (.int .i64 0) := (blk_cell BK101.out 0).trans rfl
                                have hcz40_1 : wr.cell? ⟨gb101, 1, none⟩ = some (.int .i64 0) := (blk_cell BK101.out 1).trans rfl
                                have hcz40_2 : wr.cell? ⟨gb101, 2, none⟩ = some (.slice none 0 0) := (blk_cell BK101.out 2).trans rfl
                                have hfz40_0 := blk_frozen BK101.out 0
                                have hfz40_1 := blk_frozen BK101.out 1
                                have hfz40_2 := blk_frozen BK101.out 2
                                go_wp2
                                refine bodyPost_ret (results_ct rfl _ _ gb101 48 #[.int .i64 0, .int .i64 0, .slice none 0 0] (0, 0) _ rfl (by (with_reducible repeat (first | refine bN ?_ _ | refine bD ?_ | refine bA ?_ _)); refine blk_put (cs := #[.int .i64 0, .int .i64 0, .slice none 0 0]) ?_ 2 _ rfl; (with_reducible repeat (first | refine bN ?_ _ | refine bD ?_ | refine bA ?_ _)); refine blk_put (cs := #[.int .i64 0, .int .i64 0, .slice none 0 0]) ?_ 1 _ rfl; (with_reducible repeat (first | refine bN ?_ _ | refine bD ?_ | refine bA ?_ _)); refine blk_put (cs := #[.int .i64 0, .int .i64 0, .slice none 0 0]) ?_ 0 _ rfl; (with_reducible repeat (first | refine bN ?_ _ | refine bD ?_ | refine bA ?_ _)); exact BK101.out) Tryd.underlying48 rfl (by kernel_rfl)) rfl ?_
                                exact ⟨_, by first | rfl | (simp [errW_none, errW_some] <;> rfl) | (simp [*, errW_none, errW_some] <;> rfl), by first | exact Kd.R_nil _ _ _ _ _ | exact Kd.N_nil _ _ _ _ _ | exact Kd.V_nil _ _ _ _ _ | exact Kd.Q_nil _ _ _ _ _ | exact Kd.S_nil _ _ _ _ _, by repeat (first | (with_reducible first | exact HB.out | apply below_alloc | apply pw_below_drewN | apply below_drew1 | refine below_set ?_ GE101.out) | exact HB.out)⟩
                              · rw [if_neg c39] at H
                                have c39b0 : (x6_2 == 1) = false := beq_eq_false_iff_ne.mpr c39
                                have c39b1 : (x6_2 != 1) = true := bne_iff_ne.mpr c39
                                by_cases c41 : 1 ≤ x6_2
                                · rw [if_pos c41] at H
                                  have c41b0 := eq_true c41
                                  have c41b1 : decide (1 ≤ x6_2) = true := decide_eq_true c41
                                  clear c41
                                  by_cases c42 : x6_2 ≤ (a0.size : Int)
                                  · rw [if_pos c42] at H
                                    have c42b0 := eq_true c42
                                    have c42b1 : decide (x6_2 ≤ (a0.size : Int)) = true := decide_eq_true c42
                                    clear c42
                                    replace H := Option.bind_eq_some_iff.mp H
                                    obtain ⟨t118, A430, H⟩ := H
                                    replace H : (some (1, t118, ([] : List (S48)), x6_2)) = some (r1, r2, r3, r4) := H
                                    have A43 := aM A430
                                    clear A430
                                    simp only [Option.some.injEq, Prod.mk.injEq] at H
                                    obtain ⟨rfl, rfl, rfl, rfl⟩ := H
                                    have p29 : 0 ≤ (x6_2 : Int) := of_decide_eq_true (by first | (with_reducible assumption) | assumption)
                                    have q29 : x6_2 < (a0.size : Int) := of_decide_eq_true (by first | (with_reducible assumption) | assumption)
                                    have hx29 := bt_at a0 x6_2
                                    replace p29 := eq_true p29
                                    replace q29 := eq_true q29
                                    go_wp2_with (first | ((with_reducible refine gate_callee (f := 57) rfl ?_); refine goesL_ (some 61) rfl rfl Tryd.func57 (by kernel_rfl) rfl #[.string (a0.extract 1 (x6_2 : Int).toNat)] rfl (by (try simp only [List.map_toArray, List.map_cons, List.map_nil]); first | done | rfl | (simp only [List.length_drop, List.length_take]; rfl)) ?_; (with_reducible refine (spec_laSmall.calls k2 (a0.extract 1 (x6_2 : Int).toNat) t118 _ A43.out).mono ?_); rintro e w' ⟨rfl, ⟨nd, rfl⟩⟩; refine ⟨_, rfl, ?_⟩; (try (rw [drewN_self wr]; generalize hq_ : World.drewN wr _ = wr; have n0_ : Aside0 (wr.heap[gb101]? = some (.cells #[.int .i64 0, .int .i64 0, .slice none 0 0] 48 (0, 0))) := ⟨by rw [← hq_]; exact (by (with_reducible repeat (first | refine bN ?_ _ | refine bD ?_ | refine bA ?_ _)); exact BK101.out)⟩; have n1_ : Aside0 (Below w.heap.size w wr) := ⟨by rw [← hq_]; exact (by repeat (first | (with_reducible first | exact HB.out | apply below_alloc | apply pw_below_drewN | apply below_drew1 | refine below_set ?_ GE101.out) | exact HB.out))⟩; clear BK101 HB hq_; have BK101 := n0_; have HB := n1_; clear n0_ n1_)); have hcz44_0 : wr.cell? ⟨gb101, 0, none⟩ = some (.int .i64 0) := (blk_cell BK101.out 0).trans rfl; have hcz44_1 : wr.cell? ⟨gb101, 1, none⟩ = some (.int .i64 0) := (blk_cell BK101.out 1).trans rfl; have hcz44_2 : wr.cell? ⟨gb101, 2, none⟩ = some (.slice none 0 0) := (blk_cell BK101.out 2).trans rfl; have hfz44_0 := blk_frozen BK101.out 0; have hfz44_1 := blk_frozen BK101.out 1; have hfz44_2 := blk_frozen BK101.out 2))
                                    refine bodyPost_ret (results_ct rfl _ _ gb101 48 #[.int .i64 1, .int .i64 t118, .slice none 0 0] (0, 0) _ rfl (by (with_reducible repeat (first | refine bN ?_ _ | refine bD ?_ | refine bA ?_ _)); refine blk_put (cs := #[.int .i64 1, .int .i64 t118, .slice none 0 0]) ?_ 2 _ rfl; (with_reducible repeat (first | refine bN ?_ _ | refine bD ?_ | refine bA ?_ _)); refine blk_put (cs := #[.int .i64 1, .int .i64 0, .slice none 0 0]) ?_ 1 _ rfl; (with_reducible repeat (first | refine bN ?_ _ | refine bD ?_ | refine bA ?_ _)); refine blk_put (cs := #[.int .i64 0, .int .i64 0, .slice none 0 0]) ?_ 0 _ rfl; (with_reducible repeat (first | refine bN ?_ _ | refine bD ?_ | refine bA ?_ _)); exact BK101.out) Tryd.underlying48 rfl (by kernel_rfl)) rfl ?_
                                    exact ⟨_, by first | rfl | (simp [errW_none, errW_some] <;> rfl) | (simp [*, errW_none, errW_some] <;> rfl), by first | exact Kd.R_nil _ _ _ _ _ | exact Kd.N_nil _ _ _ _ _ | exact Kd.V_nil _ _ _ _ _ | exact Kd.Q_nil _ _ _ _ _ | exact Kd.S_nil _ _ _ _ _, by repeat (first | (with_reducible first | exact HB.out | apply below_alloc | apply pw_below_drewN | apply below_drew1 | refine below_set ?_ GE101.out) | exact HB.out)⟩
                                  · rw [if_neg c42] at H
                                    exact absurd H (by simp)
                                · rw [if_neg c41] at H
                                  exact absurd H (by simp)
                          · rw [if_neg c28] at H
                            exact absurd H (by simp)
                        · rw [if_neg c27] at H
                          have c27b0 : decide (x6_2 < 4) = false := decide_eq_false c27
                          clear c27
                          by_cases c45 : x6_2 = 1
                          · rw [if_pos c45] at H
                            have c45b0 : (x6_2 == 1) = true := beq_iff_eq.mpr c45
                            have c45b1 : (x6_2 != 1) = false := bne_eq_false_iff_eq.mpr c45
                            clear c45
                            simp only [Option.some.injEq, Prod.mk.injEq] at H
                            obtain ⟨rfl, rfl, rfl, rfl⟩ := H
                            have hcz46_0 : wr.cell? ⟨gb101, 0, none⟩ = some (.int .i64 0) := (blk_cell BK101.out 0).trans rfl
                            have hcz46_1 : wr.cell? ⟨gb101, 1, none⟩ = some (.int .i64 0) := (blk_cell BK101.out 1).trans rfl
                            have hcz46_2 : wr.cell? ⟨gb101, 2, none⟩ = some (.slice none 0 0) := (blk_cell BK101.out 2).trans rfl
                            have hfz46_0 := blk_frozen BK101.out 0
                            have hfz46_1 := blk_frozen BK101.out 1
                            have hfz46_2 := blk_frozen BK101.out 2
                            go_wp2
                            refine bodyPost_ret (results_ct rfl _ _ gb101 48 #[.int .i64 0, .int .i64 0, .slice none 0 0] (0, 0) _ rfl (by (with_reducible repeat (first | refine bN ?_ _ | refine bD ?_ | refine bA ?_ _)); refine blk_put (cs := #[.int .i64 0, .int .i64 0, .slice none 0 0]) ?_ 2 _ rfl; (with_reducible repeat (first | refine bN ?_ _ | refine bD ?_ | refine bA ?_ _)); refine blk_put (cs := #[.int .i64 0, .int .i64 0, .slice none 0 0]) ?_ 1 _ rfl; (with_reducible repeat (first | refine bN ?_ _ | refine bD ?_ | refine bA ?_ _)); refine blk_put (cs := #[.int .i64 0, .int .i64 0, .slice none 0 0]) ?_ 0 _ rfl; (with_reducible repeat (first | refine bN ?_ _ | refine bD ?_ | refine bA ?_ _)); exact BK101.out) Tryd.underlying48 rfl (by kernel_rfl)) rfl ?_
                            exact ⟨_, by first | rfl | (simp [errW_none, errW_some] <;> rfl) | (simp [*, errW_none, errW_some] <;> rfl), by first | exact Kd.R_nil _ _ _ _ _ | exact Kd.N_nil _ _ _ _ _ | exact Kd.V_nil _ _ _ _ _ | exact Kd.Q_nil _ _ _ _ _ | exact Kd.S_nil _ _ _ _ _, by repeat (first | (with_reducible first | exact HB.out | apply below_alloc | apply pw_below_drewN | apply below_drew1 | refine below_set ?_ GE101.out) | exact HB.out)⟩
                          · rw [if_neg c45] at H
                            have c45b0 : (x6_2 == 1) = false := beq_eq_false_iff_ne.mpr c45
                            have c45b1 : (x6_2 != 1) = true := bne_iff_ne.mpr c45
                            by_cases c47 : 1 ≤ x6_2
                            · rw [if_pos c47] at H
                              have c47b0 := eq_true c47
                              have c47b1 : decide (1 ≤ x6_2) = true := decide_eq_true c47
                              clear c47
                              by_cases c48 : x6_2 ≤ (a0.size : Int)
                              · rw [if_pos c48] at H
                                have c48b0 := eq_true c48
                                have c48b1 : decide (x6_2 ≤ (a0.size : Int)) = true := decide_eq_true c48
                                clear c48
                                replace H := Option.bind_eq_some_iff.mp H
                                obtain ⟨t119, A490, H⟩ := H
                                replace H : (some (1, t119, ([] : List (S48)), x6_2)) = some (r1, r2, r3, r4) := H
                                have A49 := aM A490
                                clear A490
                                simp only [Option.some.injEq, Prod.mk.injEq] at H
                                obtain ⟨rfl, rfl, rfl, rfl⟩ := H
                                go_wp2_with (first | ((with_reducible refine gate_callee (f := 57) rfl ?_); refine goesL_ (some 61) rfl rfl Tryd.func57 (by kernel_rfl) rfl #[.string (a0.extract 1 (x6_2 : Int).toNat)] rfl (by (try simp only [List.map_toArray, List.map_cons, List.map_nil]); first | done | rfl | (simp only [List.length_drop, List.length_take]; rfl)) ?_; (with_reducible refine (spec_laSmall.calls k2 (a0.extract 1 (x6_2 : Int).toNat) t119 _ A49.out).mono ?_); rintro e w' ⟨rfl, ⟨nd, rfl⟩⟩; refine ⟨_, rfl, ?_⟩; (try (rw [drewN_self wr]; generalize hq_ : World.drewN wr _ = wr; have n0_ : Aside0 (wr.heap[gb101]? = some (.cells #[.int .i64 0, .int .i64 0, .slice none 0 0] 48 (0, 0))) := ⟨by rw [← hq_]; exact (by (with_reducible repeat (first | refine bN ?_ _ | refine bD ?_ | refine bA ?_ _)); exact BK101.out)⟩; have n1_ : Aside0 (Below w.heap.size w wr) := ⟨by rw [← hq_]; exact (by repeat (first | (with_reducible first | exact HB.out | apply below_alloc | apply pw_below_drewN | apply below_drew1 | refine below_set ?_ GE101.out) | exact HB.out))⟩; clear BK101 HB hq_; have BK101 := n0_; have HB := n1_; clear n0_ n1_)); have hcz50_0 : wr.cell? ⟨gb101, 0, none⟩ = some (.int .i64 0) := (blk_cell BK101.out 0).trans rfl; have hcz50_1 : wr.cell? ⟨gb101, 1, none⟩ = some (.int .i64 0) := (blk_cell BK101.out 1).trans rfl; have hcz50_2 : wr.cell? ⟨gb101, 2, none⟩ = some (.slice none 0 0) := (blk_cell BK101.out 2).trans rfl; have hfz50_0 := blk_frozen BK101.out 0; have hfz50_1 := blk_frozen BK101.out 1; have hfz50_2 := blk_frozen BK101.out 2))
                                refine bodyPost_ret (results_ct rfl _ _ gb101 48 #[.int .i64 1, .int .i64 t119, .slice none 0 0] (0, 0) _ rfl (by (with_reducible repeat (first | refine bN ?_ _ | refine bD ?_ | refine bA ?_ _)); refine blk_put (cs := #[.int .i64 1, .int .i64 t119, .slice none 0 0]) ?_ 2 _ rfl; (with_reducible repeat (first | refine bN ?_ _ | refine bD ?_ | refine bA ?_ _)); refine blk_put (cs := #[.int .i64 1, .int .i64 0, .slice none 0 0]) ?_ 1 _ rfl; (with_reducible repeat (first | refine bN ?_ _ | refine bD ?_ | refine bA ?_ _)); refine blk_put (cs := #[.int .i64 0, .int .i64 0, .slice none 0 0]) ?_ 0 _ rfl; (with_reducible repeat (first | refine bN ?_ _ | refine bD ?_ | refine bA ?_ _)); exact BK101.out) Tryd.underlying48 rfl (by kernel_rfl)) rfl ?_
                                exact ⟨_, by first | rfl | (simp [errW_none, errW_some] <;> rfl) | (simp [*, errW_none, errW_some] <;> rfl), by first | exact Kd.R_nil _ _ _ _ _ | exact Kd.N_nil _ _ _ _ _ | exact Kd.V_nil _ _ _ _ _ | exact Kd.Q_nil _ _ _ _ _ | exact Kd.S_nil _ _ _ _ _, by repeat (first | (with_reducible first | exact HB.out | apply below_alloc | apply pw_below_drewN | apply below_drew1 | refine below_set ?_ GE101.out) | exact HB.out)⟩
                              · rw [if_neg c48] at H
                                exact absurd H (by simp)
                            · rw [if_neg c47] at H
                              exact absurd H (by simp)
                      · rw [if_neg c26] at H
                        have c26b0 : decide (x6_2 < (a0.size : Int)) = false := decide_eq_false c26
                        clear c26
                        by_cases c51 : x6_2 = 1
                        · rw [if_pos c51] at H
                          have c51b0 : (x6_2 == 1) = true := beq_iff_eq.mpr c51
                          have c51b1 : (x6_2 != 1) = false := bne_eq_false_iff_eq.mpr c51
                          clear c51
                          simp only [Option.some.injEq, Prod.mk.injEq] at H
                          obtain ⟨rfl, rfl, rfl, rfl⟩ := H
                          have hcz52_0 : wr.cell? ⟨gb101, 0, none⟩ = some (.int .i64 0) := (blk_cell BK101.out 0).trans rfl
                          have hcz52_1 : wr.cell? ⟨gb101, 1, none⟩ = some (.int .i64 0) := (blk_cell BK101.out 1).trans rfl
                          have hcz52_2 : wr.cell? ⟨gb101, 2, none⟩ = some (.slice none 0 0) := (blk_cell BK101.out 2).trans rfl
                          have hfz52_0 := blk_frozen BK101.out 0
                          have hfz52_1 := blk_frozen BK101.out 1
                          have hfz52_2 := blk_frozen BK101.out 2
                          go_wp2
                          refine bodyPost_ret (results_ct rfl _ _ gb101 48 #[.int .i64 0, .int .i64 0, .slice none 0 0] (0, 0) _ rfl (by (with_reducible repeat (first | refine bN ?_ _ | refine bD ?_ | refine bA ?_ _)); refine blk_put (cs := #[.int .i64 0, .int .i64 0, .slice none 0 0]) ?_ 2 _ rfl; (with_reducible repeat (first | refine bN ?_ _ | refine bD ?_ | refine bA ?_ _)); refine blk_put (cs := #[.int .i64 0, .int .i64 0, .slice none 0 0]) ?_ 1 _ rfl; (with_reducible repeat (first | refine bN ?_ _ | refine bD ?_ | refine bA ?_ _)); refine blk_put (cs := #[.int .i64 0, .int .i64 0, .slice none 0 0]) ?_ 0 _ rfl; (with_reducible repeat (first | refine bN ?_ _ | refine bD ?_ | refine bA ?_ _)); exact BK101.out) Tryd.underlying48 rfl (by kernel_rfl)) rfl ?_
                          exact ⟨_, by first | rfl | (simp [errW_none, errW_some] <;> rfl) | (simp [*, errW_none, errW_some] <;> rfl), by first | exact Kd.R_nil _ _ _ _ _ | exact Kd.N_nil _ _ _ _ _ | exact Kd.V_nil _ _ _ _ _ | exact Kd.Q_nil _ _ _ _ _ | exact Kd.S_nil _ _ _ _ _, by repeat (first | (with_reducible first | exact HB.out | apply below_alloc | apply pw_below_drewN | apply below_drew1 | refine below_set ?_ GE101.out) | exact HB.out)⟩
                        · rw [if_neg c51] at H
                          have c51b0 : (x6_2 == 1) = false := beq_eq_false_iff_ne.mpr c51
                          have c51b1 : (x6_2 != 1) = true := bne_iff_ne.mpr c51
                          by_cases c53 : 1 ≤ x6_2
                          · rw [if_pos c53] at H
                            have c53b0 := eq_true c53
                            have c53b1 : decide (1 ≤ x6_2) = true := decide_eq_true c53
                            clear c53
                            by_cases c54 : x6_2 ≤ (a0.size : Int)
                            · rw [if_pos c54] at H
                              have c54b0 := eq_true c54
                              have c54b1 : decide (x6_2 ≤ (a0.size : Int)) = true := decide_eq_true c54
                              clear c54
                              replace H := Option.bind_eq_some_iff.mp H
                              obtain ⟨t120, A550, H⟩ := H
                              replace H : (some (1, t120, ([] : List (S48)), x6_2)) = some (r1, r2, r3, r4) := H
                              have A55 := aM A550
                              clear A550
                              simp only [Option.some.injEq, Prod.mk.injEq] at H
                              obtain ⟨rfl, rfl, rfl, rfl⟩ := H
                              go_wp2_with (first | ((with_reducible refine gate_callee (f := 57) rfl ?_); refine goesL_ (some 61) rfl rfl Tryd.func57 (by kernel_rfl) rfl #[.string (a0.extract 1 (x6_2 : Int).toNat)] rfl (by (try simp only [List.map_toArray, List.map_cons, List.map_nil]); first | done | rfl | (simp only [List.length_drop, List.length_take]; rfl)) ?_; (with_reducible refine (spec_laSmall.calls k2 (a0.extract 1 (x6_2 : Int).toNat) t120 _ A55.out).mono ?_); rintro e w' ⟨rfl, ⟨nd, rfl⟩⟩; refine ⟨_, rfl, ?_⟩; (try (rw [drewN_self wr]; generalize hq_ : World.drewN wr _ = wr; have n0_ : Aside0 (wr.heap[gb101]? = some (.cells #[.int .i64 0, .int .i64 0, .slice none 0 0] 48 (0, 0))) := ⟨by rw [← hq_]; exact (by (with_reducible repeat (first | refine bN ?_ _ | refine bD ?_ | refine bA ?_ _)); exact BK101.out)⟩; have n1_ : Aside0 (Below w.heap.size w wr) := ⟨by rw [← hq_]; exact (by repeat (first | (with_reducible first | exact HB.out | apply below_alloc | apply pw_below_drewN | apply below_drew1 | refine below_set ?_ GE101.out) | exact HB.out))⟩; clear BK101 HB hq_; have BK101 := n0_; have HB := n1_; clear n0_ n1_)); have hcz56_0 : wr.cell? ⟨gb101, 0, none⟩ = some (.int .i64 0) := (blk_cell BK101.out 0).trans rfl; have hcz56_1 : wr.cell? ⟨gb101, 1, none⟩ = some (.int .i64 0) := (blk_cell BK101.out 1).trans rfl; have hcz56_2 : wr.cell? ⟨gb101, 2, none⟩ = some (.slice none 0 0) := (blk_cell BK101.out 2).trans rfl; have hfz56_0 := blk_frozen BK101.out 0; have hfz56_1 := blk_frozen BK101.out 1; have hfz56_2 := blk_frozen BK101.out 2))
                              refine bodyPost_ret (results_ct rfl _ _ gb101 48 #[.int .i64 1, .int .i64 t120, .slice none 0 0] (0, 0) _ rfl (by (with_reducible repeat (first | refine bN ?_ _ | refine bD ?_ | refine bA ?_ _)); refine blk_put (cs := #[.int .i64 1, .int .i64 t120, .slice none 0 0]) ?_ 2 _ rfl; (with_reducible repeat (first | refine bN ?_ _ | refine bD ?_ | refine bA ?_ _)); refine blk_put (cs := #[.int .i64 1, .int .i64 0, .slice none 0 0]) ?_ 1 _ rfl; (with_reducible repeat (first | refine bN ?_ _ | refine bD ?_ | refine bA ?_ _)); refine blk_put (cs := #[.int .i64 0, .int .i64 0, .slice none 0 0]) ?_ 0 _ rfl; (with_reducible repeat (first | refine bN ?_ _ | refine bD ?_ | refine bA ?_ _)); exact BK101.out) Tryd.underlying48 rfl (by kernel_rfl)) rfl ?_
                              exact ⟨_, by first | rfl | (simp [errW_none, errW_some] <;> rfl) | (simp [*, errW_none, errW_some] <;> rfl), by first | exact Kd.R_nil _ _ _ _ _ | exact Kd.N_nil _ _ _ _ _ | exact Kd.V_nil _ _ _ _ _ | exact Kd.Q_nil _ _ _ _ _ | exact Kd.S_nil _ _ _ _ _, by repeat (first | (with_reducible first | exact HB.out | apply below_alloc | apply pw_below_drewN | apply below_drew1 | refine below_set ?_ GE101.out) | exact HB.out)⟩
                            · rw [if_neg c54] at H
                              exact absurd H (by simp)
                          · rw [if_neg c53] at H
                            exact absurd H (by simp)
                · rw [if_neg c25] at H
                  have c25b0 : ((bt a0 0) == 120) = false := beq_eq_false_iff_ne.mpr c25
                  have c25b1 : ((bt a0 0) != 120) = true := bne_iff_ne.mpr c25
                  by_cases c57 : (bt a0 0) = 40
                  · rw [if_pos c57] at H
                    have c57b0 : ((bt a0 0) == 40) = true := beq_iff_eq.mpr c57
                    have c57b1 : ((bt a0 0) != 40) = false := bne_eq_false_iff_eq.mpr c57
                    clear c57
                    by_cases c58 : 1 ≤ (a0.size : Int)
                    · rw [if_pos c58] at H
                      have c58b0 := eq_true c58
                      have c58b1 : decide (1 ≤ (a0.size : Int)) = true := decide_eq_true c58
                      clear c58
                      replace H := Option.bind_eq_some_iff.mp H
                      obtain ⟨⟨t121, t122, t123, t126⟩, A590, H⟩ := H
                      replace H : (if t126 = 0 then (spec_ldRead.j2 kj2 a0 a1 t126 true t121 t122 t123) else (if (wrap64 (t126 + 1)) ≥ (a0.size : Int) then (spec_ldRead.j2 kj2 a0 a1 t126 true t121 t122 t123) else (if 0 ≤ (wrap64 (t126 + 1)) then (if (wrap64 (t126 + 1)) < (a0.size : Int) then (spec_ldRead.j2 kj2 a0 a1 t126 ((bt a0 (wrap64 (t126 + 1))) != 32) t121 t122 t123) else (none)) else (none)))) = some (r1, r2, r3, r4) := H
                      have A59 := aM A590
                      clear A590
                      have HC60 := aM H
                      clear H
                      have p9 : 0 ≤ (0 : Int) := (by omega)
                      have q9 : 0 < a0.size := (by have : (0 : Int) < (a0.size : Int) := of_decide_eq_true (by first | (with_reducible assumption) | assumption); omega)
                      have hx9 : ∀ h : 0 < a0.size, ((a0[0]'h).toNat : Int) = bt a0 0 := bt_at a0 0
                      clear p9
                      have qi9 : (0 < (a0.size : Int)) = True := eq_true (of_decide_eq_true (by first | (with_reducible assumption) | assumption))
                      replace q9 := eq_true q9
                      go_upto_region 20 with (first | ((with_reducible refine gate_callee (f := 39) rfl ?_); refine goesL_ (some 71) rfl rfl Tryd.func39 (by kernel_rfl) rfl #[.string (a0.extract 1 a0.size), .int .i64 (wrap64 (a1 + 1))] rfl (by (try simp only [List.map_toArray, List.map_cons, List.map_nil]); first | done | rfl | (simp only [List.length_drop, List.length_take]; rfl)) ?_; (with_reducible refine (ih kj2 (by have := HJ2.out; omega) (a0.extract 1 a0.size) (wrap64 (a1 + 1)) t121 t122 t123 t126 _ A59.out).mono ?_); rintro e w61 ⟨v124, rfl, ho0, hb⟩; refine ⟨_, rfl, ?_⟩; have n0_ := aM (Kd.N_lower (Kd.N_mono (ok' := fun k_ => (w.heap.size ≤ k_) ∧ k_ ≠ gb101) ho0 (fun k_ hk_ => ⟨(Nat.le_trans (below_size (by repeat (first | (with_reducible first | exact HB.out | apply below_alloc | apply pw_below_drewN | apply below_drew1 | refine below_set ?_ GE101.out) | exact HB.out))) hk_), (Kd.freshB (g := gb101) (o := .cells #[.int .i64 0, .int .i64 0, .slice none 0 0] 48 (0, 0)) (by (with_reducible repeat (first | refine bN ?_ _ | refine bD ?_ | refine bA ?_ _)); exact BK101.out) k_ hk_)⟩)) (below_size (by repeat (first | (with_reducible first | exact HB.out | apply below_alloc | apply pw_below_drewN | apply below_drew1 | refine below_set ?_ GE101.out) | exact HB.out)))); have n1_ := aM (blk_below (g := gb101) (o := .cells #[.int .i64 0, .int .i64 0, .slice none 0 0] 48 (0, 0)) (by (with_reducible repeat (first | refine bN ?_ _ | refine bD ?_ | refine bA ?_ _)); exact BK101.out) hb); have n2_ := aM (below_step (by repeat (first | (with_reducible first | exact HB.out | apply below_alloc | apply pw_below_drewN | apply below_drew1 | refine below_set ?_ GE101.out) | exact HB.out)) hb); clear BK101; clear HB; have HO125 := n0_; have BK101 := n1_; have HB := n2_; clear n0_ n1_ n2_; (try clear hb); (try clear hb2); (try clear hk); (try clear hi); (try clear ho0)) | ((with_reducible refine gate_dst (N := 7) rfl ?_); (try (refine gate_guard (by rfl) ?_; dsimp only)); refine box_event ?hg (N := 7) ?hd (cs := #[.int .i64 0, .int .i64 0, .slice none 0 0]) (t := 48) ?hr ?_; (case hd => rfl); (case hg => rfl); (case hr => first | (go_simp; done) | (go_simp; rfl)); intro gb127 hg w62 hbox hb; have n0_ := aM (Kd.N_below (Kd.N_elderB (by (with_reducible repeat (first | apply Kd.N_alloc | apply Kd.N_drewN | apply Kd.N_drew)); exact HO125.out) gb127 (Nat.le_of_eq hg.symm)) hb); have n1_ := aM (blk_below (g := gb101) (o := .cells #[.int .i64 0, .int .i64 0, .slice none 0 0] 48 (0, 0)) (by (with_reducible repeat (first | refine bN ?_ _ | refine bD ?_ | refine bA ?_ _)); exact BK101.out) hb); have n2_ := aM (below_step (by repeat (first | (with_reducible first | exact HB.out | apply below_alloc | apply pw_below_drewN | apply below_drew1 | refine below_set ?_ GE101.out) | exact HB.out)) hb); have n3_ := aM (hbox); have n4_ := aM ((by rw [hg]; exact (below_size (by repeat (first | (with_reducible first | exact HB.out | apply below_alloc | apply pw_below_drewN | apply below_drew1 | refine below_set ?_ GE101.out) | exact HB.out))) : w.heap.size ≤ gb127)); have n5_ := aM ((by rw [hg]; exact (below_size (by repeat (first | (with_reducible first | exact HB.out | apply below_alloc | apply pw_below_drewN | apply below_drew1 | refine below_set ?_ GE101.out) | exact HB.out))) : w.heap.size ≤ gb127)); have n6_ := aM ((by rw [hg]; exact Nat.ne_of_lt (blk_lt (g := gb101) (o := .cells #[.int .i64 0, .int .i64 0, .slice none 0 0] 48 (0, 0)) (by (with_reducible repeat (first | refine bN ?_ _ | refine bD ?_ | refine bA ?_ _)); exact BK101.out)) : gb101 ≠ gb127)); have n7_ := aM ((by rw [hg]; exact Nat.ne_of_gt (blk_lt (g := gb101) (o := .cells #[.int .i64 0, .int .i64 0, .slice none 0 0] 48 (0, 0)) (by (with_reducible repeat (first | refine bN ?_ _ | refine bD ?_ | refine bA ?_ _)); exact BK101.out)) : gb127 ≠ gb101)); clear HO125; clear BK101; clear HB; have HO125 := n0_; have BK101 := n1_; have HB := n2_; have BK127 := n3_; have GW127 := n4_; have GE127 := n5_; have NB101_127 := n6_; have NB127_101 := n7_; clear n0_ n1_ n2_ n3_ n4_ n5_ n6_ n7_; clear hb hbox hg; have hnb63 := NB127_101.out; have hnc63 := NB101_127.out; have hcz64_0 : w62.cell? ⟨gb127, 0, none⟩ = some (.int .i64 0) := (blk_cell BK127.out 0).trans rfl; have hcz64_1 : w62.cell? ⟨gb127, 1, none⟩ = some (.int .i64 0) := (blk_cell BK127.out 1).trans rfl; have hcz64_2 : w62.cell? ⟨gb127, 2, none⟩ = some (.slice none 0 0) := (blk_cell BK127.out 2).trans rfl; have hfz64_0 := blk_frozen BK127.out 0; have hfz64_1 := blk_frozen BK127.out 1; have hfz64_2 := blk_frozen BK127.out 2; obtain ⟨Ao65, co65, eo65⟩ := Kd.N_slice HO125.out; subst eo65))
                      (try simp only [Act.put, List.setIfInBounds_toArray, List.set_cons_zero, List.set_cons_succ])
                      go_cut [89] (fun v89 wc => ∃ (kq : Nat) (x89_59 : Bool), v89 = .bool x89_59 ∧ Aside0 (spec_ldRead.j2 kq a0 a1 t126 x89_59 t121 t122 t123 = some (r1, r2, r3, r4)) ∧ Aside0 (kq ≤ kj2) ∧ Aside0 (Kd.N k48 48 wc w.heap.size (fun k_ => (w.heap.size ≤ k_) ∧ k_ ≠ gb101 ∧ k_ ≠ gb127) (.slice Ao65 t123.length co65) t123) ∧ Aside0 (wc.heap[gb101]? = some (.cells #[.int .i64 0, .int .i64 0, (.slice none 0 0)] 48 (0, 0))) ∧ Aside0 (wc.heap[gb127]? = some (.cells #[.int .i64 t121, .int .i64 t122, (.slice Ao65 t123.length co65)] 48 (0, 0))) ∧ Aside0 (Below w.heap.size w wc))
                      case first =>
                        have H := HC60.out
                        clear HC60
                        by_cases c66 : t126 = 0
                        · rw [if_pos c66] at H
                          have c66b0 : (t126 == 0) = true := beq_iff_eq.mpr c66
                          have c66b1 : (t126 != 0) = false := bne_eq_false_iff_eq.mpr c66
                          clear c66
                          (first | rw [c66b0] | (simp only [i64_w, i32_w]; rw [c66b0]) | skip)
                          have H' := aM H
                          clear H
                          go_wp2
                          go_meet
                          case rel => exact ⟨_, (true), (by first | rfl | (simp; done) | (simp [*]; done)), H', ⟨by have := HJ2.out; first | omega | exact Nat.le_refl _⟩, ⟨by (with_reducible repeat (first | apply Kd.N_alloc | apply Kd.N_drewN | apply Kd.N_drew)); exact Kd.N_mono (Kd.N_far (p := ⟨gb127, 2, none⟩) (Kd.N_far (p := ⟨gb127, 1, none⟩) (Kd.N_far (p := ⟨gb127, 0, none⟩) (Kd.N_mono HO125.out (fun k_ hk => (⟨hk, hk.2⟩ : _ ∧ k_ ≠ gb127))) (fun _ hk => hk.2) (.int .i64 t121)) (fun _ hk => hk.2) (.int .i64 t122)) (fun _ hk => hk.2) (.slice Ao65 t123.length co65)) (fun _ hk => ⟨hk.1.1.1, ⟨hk.1.1.2, hk.1.2⟩⟩)⟩, ⟨by (with_reducible repeat (first | refine bN ?_ _ | refine bD ?_ | refine bA ?_ _)); refine blk_far ?_ NB101_127.out _; (with_reducible repeat (first | refine bN ?_ _ | refine bD ?_ | refine bA ?_ _)); refine blk_far ?_ NB101_127.out _; (with_reducible repeat (first | refine bN ?_ _ | refine bD ?_ | refine bA ?_ _)); refine blk_far ?_ NB101_127.out _; (with_reducible repeat (first | refine bN ?_ _ | refine bD ?_ | refine bA ?_ _)); exact BK101.out⟩, ⟨by (with_reducible repeat (first | refine bN ?_ _ | refine bD ?_ | refine bA ?_ _)); refine blk_put (cs := #[.int .i64 t121, .int .i64 t122, .slice none 0 0]) ?_ 2 _ rfl; (with_reducible repeat (first | refine bN ?_ _ | refine bD ?_ | refine bA ?_ _)); refine blk_put (cs := #[.int .i64 t121, .int .i64 0, .slice none 0 0]) ?_ 1 _ rfl; (with_reducible repeat (first | refine bN ?_ _ | refine bD ?_ | refine bA ?_ _)); refine blk_put (cs := #[.int .i64 0, .int .i64 0, .slice none 0 0]) ?_ 0 _ rfl; (with_reducible repeat (first | refine bN ?_ _ | refine bD ?_ | refine bA ?_ _)); exact BK127.out⟩, ⟨by repeat (first | (with_reducible first | exact HB.out | apply below_alloc | apply pw_below_drewN | apply below_drew1 | refine below_set ?_ GE101.out | refine below_set ?_ GE127.out) | exact HB.out)⟩⟩
                        · rw [if_neg c66] at H
                          have c66b0 : (t126 == 0) = false := beq_eq_false_iff_ne.mpr c66
                          have c66b1 : (t126 != 0) = true := bne_iff_ne.mpr c66
                          (first | rw [c66b0] | (simp only [i64_w, i32_w]; rw [c66b0]) | skip)
                          by_cases c67 : (wrap64 (t126 + 1)) ≥ (a0.size : Int)
                          · rw [if_pos c67] at H
                            have c67b0 : decide ((a0.size : Int) ≤ (wrap64 (t126 + 1))) = true := decide_eq_true c67
                            clear c67
                            have H' := aM H
                            clear H
                            go_wp2
                            go_meet
                            case rel => exact ⟨_, (true), (by first | rfl | (simp; done) | (simp [*]; done)), H', ⟨by have := HJ2.out; first | omega | exact Nat.le_refl _⟩, ⟨by (with_reducible repeat (first | apply Kd.N_alloc | apply Kd.N_drewN | apply Kd.N_drew)); exact Kd.N_mono (Kd.N_far (p := ⟨gb127, 2, none⟩) (Kd.N_far (p := ⟨gb127, 1, none⟩) (Kd.N_far (p := ⟨gb127, 0, none⟩) (Kd.N_mono HO125.out (fun k_ hk => (⟨hk, hk.2⟩ : _ ∧ k_ ≠ gb127))) (fun _ hk => hk.2) (.int .i64 t121)) (fun _ hk => hk.2) (.int .i64 t122)) (fun _ hk => hk.2) (.slice Ao65 t123.length co65)) (fun _ hk => ⟨hk.1.1.1, ⟨hk.1.1.2, hk.1.2⟩⟩)⟩, ⟨by (with_reducible repeat (first | refine bN ?_ _ | refine bD ?_ | refine bA ?_ _)); refine blk_far ?_ NB101_127.out _; (with_reducible repeat (first | refine bN ?_ _ | refine bD ?_ | refine bA ?_ _)); refine blk_far ?_ NB101_127.out _; (with_reducible repeat (first | refine bN ?_ _ | refine bD ?_ | refine bA ?_ _)); refine blk_far ?_ NB101_127.out _; (with_reducible repeat (first | refine bN ?_ _ | refine bD ?_ | refine bA ?_ _)); exact BK101.out⟩, ⟨by (with_reducible repeat (first | refine bN ?_ _ | refine bD ?_ | refine bA ?_ _)); refine blk_put (cs := #[.int .i64 t121, .int .i64 t122, .slice none 0 0]) ?_ 2 _ rfl; (with_reducible repeat (first | refine bN ?_ _ | refine bD ?_ | refine bA ?_ _)); refine blk_put (cs := #[.int .i64 t121, .int .i64 0, .slice none 0 0]) ?_ 1 _ rfl; (with_reducible repeat (first | refine bN ?_ _ | refine bD ?_ | refine bA ?_ _)); refine blk_put (cs := #[.int .i64 0, .int .i64 0, .slice none 0 0]) ?_ 0 _ rfl; (with_reducible repeat (first | refine bN ?_ _ | refine bD ?_ | refine bA ?_ _)); exact BK127.out⟩, ⟨by repeat (first | (with_reducible first | exact HB.out | apply below_alloc | apply pw_below_drewN | apply below_drew1 | refine below_set ?_ GE101.out | refine below_set ?_ GE127.out) | exact HB.out)⟩⟩
                          · rw [if_neg c67] at H
                            have c67b0 : decide ((a0.size : Int) ≤ (wrap64 (t126 + 1))) = false := decide_eq_false c67
                            clear c67
                            obtain ⟨ji68, hji68⟩ : ∃ j_ : Int, (wrap64 (t126 + 1)) = j_ := ⟨_, rfl⟩
                            replace H : (if 0 ≤ (ji68) then (if (ji68) < (a0.size : Int) then (spec_ldRead.j2 kj2 a0 a1 t126 ((bt a0 (ji68)) != 32) t121 t122 t123) else (none)) else (none)) = some (r1, r2, r3, r4) := by first | (rw [hji68] at H; exact H) | (simp only [hji68] at H ⊢; exact H)
                            (try rw [hji68] at c67b0)
                            have hji68w : (IntKind.i64.wrap (t126 + 1)) = ji68 := (i64_w _).trans hji68
                            by_cases c69 : 0 ≤ (ji68)
                            · rw [if_pos c69] at H
                              have c69b0 : decide (0 ≤ (ji68)) = true := decide_eq_true c69
                              clear c69
                              by_cases c70 : (ji68) < (a0.size : Int)
                              · rw [if_pos c70] at H
                                have c70b0 : decide ((ji68) < (a0.size : Int)) = true := decide_eq_true c70
                                clear c70
                                have H' := aM H
                                clear H
                                have p71 : 0 ≤ ((ji68) : Int) := of_decide_eq_true (by first | (with_reducible assumption) | assumption)
                                have q71 : (ji68) < (a0.size : Int) := of_decide_eq_true (by first | (with_reducible assumption) | assumption)
                                have hx71 := bt_at a0 (ji68)
                                replace p71 := eq_true p71
                                replace q71 := eq_true q71
                                go_wp2
                                go_meet
                                case rel => exact ⟨_, (((bt a0 (ji68)) != 32)), (by first | rfl | (simp; done) | (simp only [← hji68] <;> (first | rfl | simp)) | (simp [*]; done)), H', ⟨by have := HJ2.out; first | omega | exact Nat.le_refl _⟩, ⟨by (with_reducible repeat (first | apply Kd.N_alloc | apply Kd.N_drewN | apply Kd.N_drew)); exact Kd.N_mono (Kd.N_far (p := ⟨gb127, 2, none⟩) (Kd.N_far (p := ⟨gb127, 1, none⟩) (Kd.N_far (p := ⟨gb127, 0, none⟩) (Kd.N_mono HO125.out (fun k_ hk => (⟨hk, hk.2⟩ : _ ∧ k_ ≠ gb127))) (fun _ hk => hk.2) (.int .i64 t121)) (fun _ hk => hk.2) (.int .i64 t122)) (fun _ hk => hk.2) (.slice Ao65 t123.length co65)) (fun _ hk => ⟨hk.1.1.1, ⟨hk.1.1.2, hk.1.2⟩⟩)⟩, ⟨by (with_reducible repeat (first | refine bN ?_ _ | refine bD ?_ | refine bA ?_ _)); refine blk_far ?_ NB101_127.out _; (with_reducible repeat (first | refine bN ?_ _ | refine bD ?_ | refine bA ?_ _)); refine blk_far ?_ NB101_127.out _; (with_reducible repeat (first | refine bN ?_ _ | refine bD ?_ | refine bA ?_ _)); refine blk_far ?_ NB101_127.out _; (with_reducible repeat (first | refine bN ?_ _ | refine bD ?_ | refine bA ?_ _)); exact BK101.out⟩, ⟨by (with_reducible repeat (first | refine bN ?_ _ | refine bD ?_ | refine bA ?_ _)); refine blk_put (cs := #[.int .i64 t121, .int .i64 t122, .slice none 0 0]) ?_ 2 _ rfl; (with_reducible repeat (first | refine bN ?_ _ | refine bD ?_ | refine bA ?_ _)); refine blk_put (cs := #[.int .i64 t121, .int .i64 0, .slice none 0 0]) ?_ 1 _ rfl; (with_reducible repeat (first | refine bN ?_ _ | refine bD ?_ | refine bA ?_ _)); refine blk_put (cs := #[.int .i64 0, .int .i64 0, .slice none 0 0]) ?_ 0 _ rfl; (with_reducible repeat (first | refine bN ?_ _ | refine bD ?_ | refine bA ?_ _)); exact BK127.out⟩, ⟨by repeat (first | (with_reducible first | exact HB.out | apply below_alloc | apply pw_below_drewN | apply below_drew1 | refine below_set ?_ GE101.out | refine below_set ?_ GE127.out) | exact HB.out)⟩⟩
                              · rw [if_neg c70] at H
                                exact absurd H (by simp)
                            · rw [if_neg c69] at H
                              exact absurd H (by simp)
                      case rest =>
                        clear HC60
                        try clear c1
                        try clear c2
                        try clear p2
                        try clear q2
                        try clear hx2
                        try clear c3
                        try clear p3
                        try clear q3
                        try clear hx3
                        try clear c4
                        try clear c5
                        try clear c5b0
                        try clear c6
                        try clear p6
                        try clear c7
                        try clear p7
                        try clear q7
                        try clear hx7
                        try clear c8
                        try clear c8b0
                        try clear c8b1
                        try clear p9
                        try clear q9
                        try clear hx9
                        try clear qi9
                        try clear c10
                        try clear c10b0
                        try clear c10b1
                        try clear c15
                        try clear c15b0
                        try clear c15b1
                        try clear c20
                        try clear c20b0
                        try clear c20b1
                        try clear c25
                        try clear c25b0
                        try clear c25b1
                        try clear c26
                        try clear c26b0
                        try clear c27
                        try clear c27b0
                        try clear c28
                        try clear c28b0
                        try clear p29
                        try clear q29
                        try clear hx29
                        try clear c30
                        try clear c30b0
                        try clear p31
                        try clear q31
                        try clear hx31
                        try clear c32
                        try clear c32b0
                        try clear c33
                        try clear c33b0
                        try clear c33b1
                        try clear c35
                        try clear c35b0
                        try clear c35b1
                        try clear c36
                        try clear c36b0
                        try clear c36b1
                        try clear c39
                        try clear c39b0
                        try clear c39b1
                        try clear c41
                        try clear c41b0
                        try clear c41b1
                        try clear c42
                        try clear c42b0
                        try clear c42b1
                        try clear c45
                        try clear c45b0
                        try clear c45b1
                        try clear c47
                        try clear c47b0
                        try clear c47b1
                        try clear c48
                        try clear c48b0
                        try clear c48b1
                        try clear c51
                        try clear c51b0
                        try clear c51b1
                        try clear c53
                        try clear c53b0
                        try clear c53b1
                        try clear c54
                        try clear c54b0
                        try clear c54b1
                        try clear c56
                        try clear c57
                        try clear c57b0
                        try clear c57b1
                        try clear c58
                        try clear c58b0
                        try clear c58b1
                        try clear c63
                        try clear p64
                        try clear c66
                        try clear c66b0
                        try clear c66b1
                        try clear c67
                        try clear c67b0
                        try clear c69
                        try clear c69b0
                        try clear c70
                        try clear c70b0
                        try clear p71
                        try clear q71
                        try clear hx71
                        try clear hcz13_0
                        try clear hcz13_1
                        try clear hcz13_2
                        try clear hcz18_0
                        try clear hcz18_1
                        try clear hcz18_2
                        try clear hcz23_0
                        try clear hcz23_1
                        try clear hcz23_2
                        try clear hcz34_0
                        try clear hcz34_1
                        try clear hcz34_2
                        try clear hcz38_0
                        try clear hcz38_1
                        try clear hcz38_2
                        try clear hcz40_0
                        try clear hcz40_1
                        try clear hcz40_2
                        try clear hcz44_0
                        try clear hcz44_1
                        try clear hcz44_2
                        try clear hcz46_0
                        try clear hcz46_1
                        try clear hcz46_2
                        try clear hcz50_0
                        try clear hcz50_1
                        try clear hcz50_2
                        try clear hcz52_0
                        try clear hcz52_1
                        try clear hcz52_2
                        try clear hcz56_0
                        try clear hcz56_1
                        try clear hcz56_2
                        try clear hcz64_0
                        try clear hcz64_1
                        try clear hcz64_2
                        try clear hcz7_0
                        try clear hcz7_1
                        try clear hcz7_2
                        try clear hfz13_0
                        try clear hfz13_1
                        try clear hfz13_2
                        try clear hfz18_0
                        try clear hfz18_1
                        try clear hfz18_2
                        try clear hfz23_0
                        try clear hfz23_1
                        try clear hfz23_2
                        try clear hfz34_0
                        try clear hfz34_1
                        try clear hfz34_2
                        try clear hfz38_0
                        try clear hfz38_1
                        try clear hfz38_2
                        try clear hfz40_0
                        try clear hfz40_1
                        try clear hfz40_2
                        try clear hfz44_0
                        try clear hfz44_1
                        try clear hfz44_2
                        try clear hfz46_0
                        try clear hfz46_1
                        try clear hfz46_2
                        try clear hfz50_0
                        try clear hfz50_1
                        try clear hfz50_2
                        try clear hfz52_0
                        try clear hfz52_1
                        try clear hfz52_2
                        try clear hfz56_0
                        try clear hfz56_1
                        try clear hfz56_2
                        try clear hfz64_0
                        try clear hfz64_1
                        try clear hfz64_2
                        try clear hfz7_0
                        try clear hfz7_1
                        try clear hfz7_2
                        try clear p2
                        try clear p29
                        try clear p31
                        try clear p6
                        try clear p71
                        try clear p9
                        try clear q29
                        try clear q31
                        try clear q71
                        try clear q9
                        obtain ⟨kq, x89_59, rfl, HA, HJ59, HO_128002, BK101, BK127, HB⟩ := hcut
                        cases kq with
                        | zero => exact absurd HA.out (by simp [spec_ldRead.j2])
                        | succ kj59 =>
                          have H := HA.out
                          clear HA
                          simp only [spec_ldRead.j2] at H
                          by_cases c72 : x89_59 = true
                          · subst c72
                            have H1 : (some (0, 0, ([] : List (S48)), 0)) = some (r1, r2, r3, r4) := by rw [if_pos rfl] at H; exact H
                            clear H
                            have H := H1
                            clear H1
                            simp only [Option.some.injEq, Prod.mk.injEq] at H
                            obtain ⟨rfl, rfl, rfl, rfl⟩ := H
                            have hnb73 := NB101_127.out
                            have hnc73 := NB127_101.out
                            have hcz74_0 : wc.cell? ⟨gb101, 0, none⟩ = some (.int .i64 0) := (blk_cell BK101.out 0).trans rfl
                            have hcz74_1 : wc.cell? ⟨gb101, 1, none⟩ = some (.int .i64 0) := (blk_cell BK101.out 1).trans rfl
                            have hcz74_2 : wc.cell? ⟨gb101, 2, none⟩ = some (.slice none 0 0) := (blk_cell BK101.out 2).trans rfl
                            have hfz74_0 := blk_frozen BK101.out 0
                            have hfz74_1 := blk_frozen BK101.out 1
                            have hfz74_2 := blk_frozen BK101.out 2
                            go_wp2
                            refine bodyPost_ret (results_ct rfl _ _ gb101 48 #[.int .i64 0, .int .i64 0, .slice none 0 0] (0, 0) _ rfl (by (with_reducible repeat (first | refine bN ?_ _ | refine bD ?_ | refine bA ?_ _)); refine blk_put (cs := #[.int .i64 0, .int .i64 0, .slice none 0 0]) ?_ 2 _ rfl; (with_reducible repeat (first | refine bN ?_ _ | refine bD ?_ | refine bA ?_ _)); refine blk_put (cs := #[.int .i64 0, .int .i64 0, .slice none 0 0]) ?_ 1 _ rfl; (with_reducible repeat (first | refine bN ?_ _ | refine bD ?_ | refine bA ?_ _)); refine blk_put (cs := #[.int .i64 0, .int .i64 0, .slice none 0 0]) ?_ 0 _ rfl; (with_reducible repeat (first | refine bN ?_ _ | refine bD ?_ | refine bA ?_ _)); exact BK101.out) Tryd.underlying48 rfl (by kernel_rfl)) rfl ?_
                            exact ⟨_, by first | rfl | (simp [errW_none, errW_some] <;> rfl) | (simp [*, errW_none, errW_some] <;> rfl), by first | exact Kd.R_nil _ _ _ _ _ | exact Kd.N_nil _ _ _ _ _ | exact Kd.V_nil _ _ _ _ _ | exact Kd.Q_nil _ _ _ _ _ | exact Kd.S_nil _ _ _ _ _, by repeat (first | (with_reducible first | exact HB.out | apply below_alloc | apply pw_below_drewN | apply below_drew1 | refine below_set ?_ GE101.out | refine below_set ?_ GE127.out) | exact HB.out)⟩
                          · replace c72 := Bool.eq_false_iff.mpr c72
                            subst c72
                            have H1 : (if 0 ≤ (wrap64 (t126 + 2)) then (if (wrap64 (t126 + 2)) ≤ (a0.size : Int) then ((spec_ldRead.f kj59 (a0.extract ((wrap64 (t126 + 2)) : Int).toNat a0.size) (wrap64 (a1 + 1))).bind fun bt128 => (if bt128.2.2.2 = 0 then (some (0, 0, ([] : List (S48)), 0)) else (if (wrap64 ((wrap64 (t126 + 2)) + bt128.2.2.2)) ≥ (a0.size : Int) then (some (0, 0, ([] : List (S48)), 0)) else (if 0 ≤ (wrap64 ((wrap64 (t126 + 2)) + bt128.2.2.2)) then (if (wrap64 ((wrap64 (t126 + 2)) + bt128.2.2.2)) < (a0.size : Int) then (if (bt a0 (wrap64 ((wrap64 (t126 + 2)) + bt128.2.2.2))) = 41 then ((spec_ldApp.f t121 t122 t123 bt128.1 bt128.2.1 bt128.2.2.1).bind fun bt135 => (some (bt135.1, bt135.2.1, bt135.2.2, wrap64 ((wrap64 ((wrap64 (t126 + 2)) + bt128.2.2.2)) + 1)))) else (some (0, 0, ([] : List (S48)), 0))) else (none)) else (none))))) else (none)) else (none)) = some (r1, r2, r3, r4) := by rw [if_neg (show ¬ (false = true) by decide)] at H; exact H
                            clear H
                            have H := H1
                            clear H1
                            obtain ⟨ji75, hji75⟩ : ∃ j_ : Int, (wrap64 (t126 + 2)) = j_ := ⟨_, rfl⟩
                            replace H : (if 0 ≤ (ji75) then (if (ji75) ≤ (a0.size : Int) then ((spec_ldRead.f kj59 (a0.extract ((ji75) : Int).toNat a0.size) (wrap64 (a1 + 1))).bind fun bt128 => (if bt128.2.2.2 = 0 then (some (0, 0, ([] : List (S48)), 0)) else (if (wrap64 ((ji75) + bt128.2.2.2)) ≥ (a0.size : Int) then (some (0, 0, ([] : List (S48)), 0)) else (if 0 ≤ (wrap64 ((ji75) + bt128.2.2.2)) then (if (wrap64 ((ji75) + bt128.2.2.2)) < (a0.size : Int) then (if (bt a0 (wrap64 ((ji75) + bt128.2.2.2))) = 41 then ((spec_ldApp.f t121 t122 t123 bt128.1 bt128.2.1 bt128.2.2.1).bind fun bt135 => (some (bt135.1, bt135.2.1, bt135.2.2, wrap64 ((wrap64 ((ji75) + bt128.2.2.2)) + 1)))) else (some (0, 0, ([] : List (S48)), 0))) else (none)) else (none))))) else (none)) else (none)) = some (r1, r2, r3, r4) := by first | (rw [hji75] at H; exact H) | (simp only [hji75] at H ⊢; exact H)
                            have hji75w : (IntKind.i64.wrap (t126 + 2)) = ji75 := (i64_w _).trans hji75
                            by_cases c76 : 0 ≤ (ji75)
                            · rw [if_pos c76] at H
                              have c76b0 := eq_true c76
                              have c76b1 : decide (0 ≤ (ji75)) = true := decide_eq_true c76
                              clear c76
                              by_cases c77 : (ji75) ≤ (a0.size : Int)
                              · rw [if_pos c77] at H
                                have c77b0 := eq_true c77
                                have c77b1 : decide ((ji75) ≤ (a0.size : Int)) = true := decide_eq_true c77
                                clear c77
                                replace H := Option.bind_eq_some_iff.mp H
                                obtain ⟨⟨t128, t129, t130, t133⟩, A780, H⟩ := H
                                replace H : (if t133 = 0 then (some (0, 0, ([] : List (S48)), 0)) else (if (wrap64 ((ji75) + t133)) ≥ (a0.size : Int) then (some (0, 0, ([] : List (S48)), 0)) else (if 0 ≤ (wrap64 ((ji75) + t133)) then (if (wrap64 ((ji75) + t133)) < (a0.size : Int) then (if (bt a0 (wrap64 ((ji75) + t133))) = 41 then ((spec_ldApp.f t121 t122 t123 t128 t129 t130).bind fun bt135 => (some (bt135.1, bt135.2.1, bt135.2.2, wrap64 ((wrap64 ((ji75) + t133)) + 1)))) else (some (0, 0, ([] : List (S48)), 0))) else (none)) else (none)))) = some (r1, r2, r3, r4) := H
                                have A78 := aM A780
                                clear A780
                                by_cases c79 : t133 = 0
                                · rw [if_pos c79] at H
                                  have c79b0 : (t133 == 0) = true := beq_iff_eq.mpr c79
                                  have c79b1 : (t133 != 0) = false := bne_eq_false_iff_eq.mpr c79
                                  clear c79
                                  simp only [Option.some.injEq, Prod.mk.injEq] at H
                                  obtain ⟨rfl, rfl, rfl, rfl⟩ := H
                                  go_wp2_with (first | ((with_reducible refine gate_callee (f := 39) rfl ?_); refine goesL_ (some 98) rfl rfl Tryd.func39 (by kernel_rfl) rfl #[.string (a0.extract ((ji75) : Int).toNat a0.size), .int .i64 (wrap64 (a1 + 1))] rfl (by (try simp only [List.map_toArray, List.map_cons, List.map_nil]); first | done | (simp only [hji75]; rfl) | rfl | (simp only [List.length_drop, List.length_take]; rfl)) ?_; (with_reducible refine (ih kj59 (by have := HJ2.out; have := HJ59.out; omega) (a0.extract ((ji75) : Int).toNat a0.size) (wrap64 (a1 + 1)) t128 t129 t130 t133 _ A78.out).mono ?_); rintro e w80 ⟨v131, rfl, ho0, hb⟩; refine ⟨_, rfl, ?_⟩; have n0_ := aM (Kd.N_elder' (by (with_reducible repeat (first | apply Kd.N_alloc | apply Kd.N_drewN | apply Kd.N_drew)); exact HO_128002.out) (Kd.N_base ho0) hb); have n1_ := aM (Kd.N_lower (Kd.N_mono (ok' := fun k_ => (w.heap.size ≤ k_) ∧ some k_ ≠ (.slice Ao65 t123.length co65 : Value).ownBlock ∧ k_ ≠ gb101 ∧ k_ ≠ gb127) ho0 (fun k_ hk_ => ⟨(Nat.le_trans (below_size (by repeat (first | (with_reducible first | exact HB.out | apply below_alloc | apply pw_below_drewN | apply below_drew1 | refine below_set ?_ GE101.out | refine below_set ?_ GE127.out) | exact HB.out))) hk_), (Kd.fresh' (Kd.N_lt (by (with_reducible repeat (first | apply Kd.N_alloc | apply Kd.N_drewN | apply Kd.N_drew)); exact HO_128002.out)) k_ hk_), (Kd.freshB (g := gb101) (o := .cells #[.int .i64 0, .int .i64 0, .slice none 0 0] 48 (0, 0)) (by (with_reducible repeat (first | refine bN ?_ _ | refine bD ?_ | refine bA ?_ _)); exact BK101.out) k_ hk_), (Kd.freshB (g := gb127) (o := .cells #[.int .i64 t121, .int .i64 t122, .slice Ao65 t123.length co65] 48 (0, 0)) (by (with_reducible repeat (first | refine bN ?_ _ | refine bD ?_ | refine bA ?_ _)); exact BK127.out) k_ hk_)⟩)) (below_size (by repeat (first | (with_reducible first | exact HB.out | apply below_alloc | apply pw_below_drewN | apply below_drew1 | refine below_set ?_ GE101.out | refine below_set ?_ GE127.out) | exact HB.out)))); have n2_ := aM (blk_below (g := gb101) (o := .cells #[.int .i64 0, .int .i64 0, .slice none 0 0] 48 (0, 0)) (by (with_reducible repeat (first | refine bN ?_ _ | refine bD ?_ | refine bA ?_ _)); exact BK101.out) hb); have n3_ := aM (blk_below (g := gb127) (o := .cells #[.int .i64 t121, .int .i64 t122, .slice Ao65 t123.length co65] 48 (0, 0)) (by (with_reducible repeat (first | refine bN ?_ _ | refine bD ?_ | refine bA ?_ _)); exact BK127.out) hb); have n4_ := aM (below_step (by repeat (first | (with_reducible first | exact HB.out | apply below_alloc | apply pw_below_drewN | apply below_drew1 | refine below_set ?_ GE101.out | refine below_set ?_ GE127.out) | exact HB.out)) hb); clear HO_128002; clear BK101; clear BK127; clear HB; have HO_128002 := n0_; have HO132 := n1_; have BK101 := n2_; have BK127 := n3_; have HB := n4_; clear n0_ n1_ n2_ n3_ n4_; (try clear hb); (try clear hb2); (try clear hk); (try clear hi); (try clear ho0)) | ((with_reducible refine gate_dst (N := 9) rfl ?_); (try (refine gate_guard (by rfl) ?_; dsimp only)); refine box_event ?hg (N := 9) ?hd (cs := #[.int .i64 0, .int .i64 0, .slice none 0 0]) (t := 48) ?hr ?_; (case hd => rfl); (case hg => rfl); (case hr => first | (go_simp; done) | (go_simp; rfl)); intro gb134 hg w81 hbox hb; have n0_ := aM (Kd.N_below (Kd.N_elderB (by (with_reducible repeat (first | apply Kd.N_alloc | apply Kd.N_drewN | apply Kd.N_drew)); exact HO_128002.out) gb134 (Nat.le_of_eq hg.symm)) hb); have n1_ := aM (Kd.N_below (Kd.N_elderB (by (with_reducible repeat (first | apply Kd.N_alloc | apply Kd.N_drewN | apply Kd.N_drew)); exact HO132.out) gb134 (Nat.le_of_eq hg.symm)) hb); have n2_ := aM (blk_below (g := gb101) (o := .cells #[.int .i64 0, .int .i64 0, .slice none 0 0] 48 (0, 0)) (by (with_reducible repeat (first | refine bN ?_ _ | refine bD ?_ | refine bA ?_ _)); exact BK101.out) hb); have n3_ := aM (blk_below (g := gb127) (o := .cells #[.int .i64 t121, .int .i64 t122, .slice Ao65 t123.length co65] 48 (0, 0)) (by (with_reducible repeat (first | refine bN ?_ _ | refine bD ?_ | refine bA ?_ _)); exact BK127.out) hb); have n4_ := aM (below_step (by repeat (first | (with_reducible first | exact HB.out | apply below_alloc | apply pw_below_drewN | apply below_drew1 | refine below_set ?_ GE101.out | refine below_set ?_ GE127.out) | exact HB.out)) hb); have n5_ := aM (hbox); have n6_ := aM ((by rw [hg]; exact (below_size (by repeat (first | (with_reducible first | exact HB.out | apply below_alloc | apply pw_below_drewN | apply below_drew1 | refine below_set ?_ GE101.out | refine below_set ?_ GE127.out) | exact HB.out))) : w.heap.size ≤ gb134)); have n7_ := aM ((by rw [hg]; exact (below_size (by repeat (first | (with_reducible first | exact HB.out | apply below_alloc | apply pw_below_drewN | apply below_drew1 | refine below_set ?_ GE101.out | refine below_set ?_ GE127.out) | exact HB.out))) : w.heap.size ≤ gb134)); have n8_ := aM ((by rw [hg]; exact Nat.ne_of_lt (blk_lt (g := gb101) (o := .cells #[.int .i64 0, .int .i64 0, .slice none 0 0] 48 (0, 0)) (by (with_reducible repeat (first | refine bN ?_ _ | refine bD ?_ | refine bA ?_ _)); exact BK101.out)) : gb101 ≠ gb134)); have n9_ := aM ((by rw [hg]; exact Nat.ne_of_gt (blk_lt (g := gb101) (o := .cells #[.int .i64 0, .int .i64 0, .slice none 0 0] 48 (0, 0)) (by (with_reducible repeat (first | refine bN ?_ _ | refine bD ?_ | refine bA ?_ _)); exact BK101.out)) : gb134 ≠ gb101)); have n10_ := aM ((by rw [hg]; exact Nat.ne_of_lt (blk_lt (g := gb127) (o := .cells #[.int .i64 t121, .int .i64 t122, .slice Ao65 t123.length co65] 48 (0, 0)) (by (with_reducible repeat (first | refine bN ?_ _ | refine bD ?_ | refine bA ?_ _)); exact BK127.out)) : gb127 ≠ gb134)); have n11_ := aM ((by rw [hg]; exact Nat.ne_of_gt (blk_lt (g := gb127) (o := .cells #[.int .i64 t121, .int .i64 t122, .slice Ao65 t123.length co65] 48 (0, 0)) (by (with_reducible repeat (first | refine bN ?_ _ | refine bD ?_ | refine bA ?_ _)); exact BK127.out)) : gb134 ≠ gb127)); clear HO_128002; clear HO132; clear BK101; clear BK127; clear HB; have HO_128002 := n0_; have HO132 := n1_; have BK101 := n2_; have BK127 := n3_; have HB := n4_; have BK134 := n5_; have GW134 := n6_; have GE134 := n7_; have NB101_134 := n8_; have NB134_101 := n9_; have NB127_134 := n10_; have NB134_127 := n11_; clear n0_ n1_ n2_ n3_ n4_ n5_ n6_ n7_ n8_ n9_ n10_ n11_; clear hb hbox hg; have hnb82 := NB134_101.out; have hnc82 := NB101_134.out; have hnb83 := NB134_127.out; have hnc83 := NB127_134.out; have hcz84_0 : w81.cell? ⟨gb134, 0, none⟩ = some (.int .i64 0) := (blk_cell BK134.out 0).trans rfl; have hcz84_1 : w81.cell? ⟨gb134, 1, none⟩ = some (.int .i64 0) := (blk_cell BK134.out 1).trans rfl; have hcz84_2 : w81.cell? ⟨gb134, 2, none⟩ = some (.slice none 0 0) := (blk_cell BK134.out 2).trans rfl; have hfz84_0 := blk_frozen BK134.out 0; have hfz84_1 := blk_frozen BK134.out 1; have hfz84_2 := blk_frozen BK134.out 2; obtain ⟨Ao85, co85, eo85⟩ := Kd.N_slice HO132.out; subst eo85; have hnb86 := NB101_127.out; have hnc86 := NB127_101.out; have hcz87_0 : w81.cell? ⟨gb101, 0, none⟩ = some (.int .i64 0) := (blk_cell BK101.out 0).trans rfl; have hcz87_1 : w81.cell? ⟨gb101, 1, none⟩ = some (.int .i64 0) := (blk_cell BK101.out 1).trans rfl; have hcz87_2 : w81.cell? ⟨gb101, 2, none⟩ = some (.slice none 0 0) := (blk_cell BK101.out 2).trans rfl; have hfz87_0 := blk_frozen BK101.out 0; have hfz87_1 := blk_frozen BK101.out 1; have hfz87_2 := blk_frozen BK101.out 2))
                                  refine bodyPost_ret (results_ct rfl _ _ gb101 48 #[.int .i64 0, .int .i64 0, .slice none 0 0] (0, 0) _ rfl (by (with_reducible repeat (first | refine bN ?_ _ | refine bD ?_ | refine bA ?_ _)); refine blk_put (cs := #[.int .i64 0, .int .i64 0, .slice none 0 0]) ?_ 2 _ rfl; (with_reducible repeat (first | refine bN ?_ _ | refine bD ?_ | refine bA ?_ _)); refine blk_put (cs := #[.int .i64 0, .int .i64 0, .slice none 0 0]) ?_ 1 _ rfl; (with_reducible repeat (first | refine bN ?_ _ | refine bD ?_ | refine bA ?_ _)); refine blk_put (cs := #[.int .i64 0, .int .i64 0, .slice none 0 0]) ?_ 0 _ rfl; (with_reducible repeat (first | refine bN ?_ _ | refine bD ?_ | refine bA ?_ _)); refine blk_far ?_ NB101_134.out _; (with_reducible repeat (first | refine bN ?_ _ | refine bD ?_ | refine bA ?_ _)); refine blk_far ?_ NB101_134.out _; (with_reducible repeat (first | refine bN ?_ _ | refine bD ?_ | refine bA ?_ _)); refine blk_far ?_ NB101_134.out _; (with_reducible repeat (first | refine bN ?_ _ | refine bD ?_ | refine bA ?_ _)); exact BK101.out) Tryd.underlying48 rfl (by kernel_rfl)) rfl ?_
                                  exact ⟨_, by first | rfl | (simp [errW_none, errW_some] <;> rfl) | (simp only [← hji75]; first | rfl | (simp [errW_none, errW_some] <;> rfl)) | (simp [*, errW_none, errW_some] <;> rfl), by first | exact Kd.R_nil _ _ _ _ _ | exact Kd.N_nil _ _ _ _ _ | exact Kd.V_nil _ _ _ _ _ | exact Kd.Q_nil _ _ _ _ _ | exact Kd.S_nil _ _ _ _ _, by repeat (first | (with_reducible first | exact HB.out | apply below_alloc | apply pw_below_drewN | apply below_drew1 | refine below_set ?_ GE101.out | refine below_set ?_ GE127.out | refine below_set ?_ GE134.out) | exact HB.out)⟩
                                · rw [if_neg c79] at H
                                  have c79b0 : (t133 == 0) = false := beq_eq_false_iff_ne.mpr c79
                                  have c79b1 : (t133 != 0) = true := bne_iff_ne.mpr c79
                                  by_cases c88 : (wrap64 ((ji75) + t133)) ≥ (a0.size : Int)
                                  · rw [if_pos c88] at H
                                    have c88b0 : decide ((a0.size : Int) ≤ (wrap64 ((ji75) + t133))) = true := decide_eq_true c88
                                    clear c88
                                    simp only [Option.some.injEq, Prod.mk.injEq] at H
                                    obtain ⟨rfl, rfl, rfl, rfl⟩ := H
                                    go_wp2_with (first | ((with_reducible refine gate_callee (f := 39) rfl ?_); refine goesL_ (some 98) rfl rfl Tryd.func39 (by kernel_rfl) rfl #[.string (a0.extract ((ji75) : Int).toNat a0.size), .int .i64 (wrap64 (a1 + 1))] rfl (by (try simp only [List.map_toArray, List.map_cons, List.map_nil]); first | done | (simp only [hji75]; rfl) | rfl | (simp only [List.length_drop, List.length_take]; rfl)) ?_; (with_reducible refine (ih kj59 (by have := HJ2.out; have := HJ59.out; omega) (a0.extract ((ji75) : Int).toNat a0.size) (wrap64 (a1 + 1)) t128 t129 t130 t133 _ A78.out).mono ?_); rintro e w89 ⟨v131, rfl, ho0, hb⟩; refine ⟨_, rfl, ?_⟩; have n0_ := aM (Kd.N_elder' (by (with_reducible repeat (first | apply Kd.N_alloc | apply Kd.N_drewN | apply Kd.N_drew)); exact HO_128002.out) (Kd.N_base ho0) hb); have n1_ := aM (Kd.N_lower (Kd.N_mono (ok' := fun k_ => (w.heap.size ≤ k_) ∧ some k_ ≠ (.slice Ao65 t123.length co65 : Value).ownBlock ∧ k_ ≠ gb101 ∧ k_ ≠ gb127) ho0 (fun k_ hk_ => ⟨(Nat.le_trans (below_size (by repeat (first | (with_reducible first | exact HB.out | apply below_alloc | apply pw_below_drewN | apply below_drew1 | refine below_set ?_ GE101.out | refine below_set ?_ GE127.out) | exact HB.out))) hk_), (Kd.fresh' (Kd.N_lt (by (with_reducible repeat (first | apply Kd.N_alloc | apply Kd.N_drewN | apply Kd.N_drew)); exact HO_128002.out)) k_ hk_), (Kd.freshB (g := gb101) (o := .cells #[.int .i64 0, .int .i64 0, .slice none 0 0] 48 (0, 0)) (by (with_reducible repeat (first | refine bN ?_ _ | refine bD ?_ | refine bA ?_ _)); exact BK101.out) k_ hk_), (Kd.freshB (g := gb127) (o := .cells #[.int .i64 t121, .int .i64 t122, .slice Ao65 t123.length co65] 48 (0, 0)) (by (with_reducible repeat (first | refine bN ?_ _ | refine bD ?_ | refine bA ?_ _)); exact BK127.out) k_ hk_)⟩)) (below_size (by repeat (first | (with_reducible first | exact HB.out | apply below_alloc | apply pw_below_drewN | apply below_drew1 | refine below_set ?_ GE101.out | refine below_set ?_ GE127.out) | exact HB.out)))); have n2_ := aM (blk_below (g := gb101) (o := .cells #[.int .i64 0, .int .i64 0, .slice none 0 0] 48 (0, 0)) (by (with_reducible repeat (first | refine bN ?_ _ | refine bD ?_ | refine bA ?_ _)); exact BK101.out) hb); have n3_ := aM (blk_below (g := gb127) (o := .cells #[.int .i64 t121, .int .i64 t122, .slice Ao65 t123.length co65] 48 (0, 0)) (by (with_reducible repeat (first | refine bN ?_ _ | refine bD ?_ | refine bA ?_ _)); exact BK127.out) hb); have n4_ := aM (below_step (by repeat (first | (with_reducible first | exact HB.out | apply below_alloc | apply pw_below_drewN | apply below_drew1 | refine below_set ?_ GE101.out | refine below_set ?_ GE127.out) | exact HB.out)) hb); clear HO_128002; clear BK101; clear BK127; clear HB; have HO_128002 := n0_; have HO132 := n1_; have BK101 := n2_; have BK127 := n3_; have HB := n4_; clear n0_ n1_ n2_ n3_ n4_; (try clear hb); (try clear hb2); (try clear hk); (try clear hi); (try clear ho0)) | ((with_reducible refine gate_dst (N := 9) rfl ?_); (try (refine gate_guard (by rfl) ?_; dsimp only)); refine box_event ?hg (N := 9) ?hd (cs := #[.int .i64 0, .int .i64 0, .slice none 0 0]) (t := 48) ?hr ?_; (case hd => rfl); (case hg => rfl); (case hr => first | (go_simp; done) | (go_simp; rfl)); intro gb134 hg w90 hbox hb; have n0_ := aM (Kd.N_below (Kd.N_elderB (by (with_reducible repeat (first | apply Kd.N_alloc | apply Kd.N_drewN | apply Kd.N_drew)); exact HO_128002.out) gb134 (Nat.le_of_eq hg.symm)) hb); have n1_ := aM (Kd.N_below (Kd.N_elderB (by (with_reducible repeat (first | apply Kd.N_alloc | apply Kd.N_drewN | apply Kd.N_drew)); exact HO132.out) gb134 (Nat.le_of_eq hg.symm)) hb); have n2_ := aM (blk_below (g := gb101) (o := .cells #[.int .i64 0, .int .i64 0, .slice none 0 0] 48 (0, 0)) (by (with_reducible repeat (first | refine bN ?_ _ | refine bD ?_ | refine bA ?_ _)); exact BK101.out) hb); have n3_ := aM (blk_below (g := gb127) (o := .cells #[.int .i64 t121, .int .i64 t122, .slice Ao65 t123.length co65] 48 (0, 0)) (by (with_reducible repeat (first | refine bN ?_ _ | refine bD ?_ | refine bA ?_ _)); exact BK127.out) hb); have n4_ := aM (below_step (by repeat (first | (with_reducible first | exact HB.out | apply below_alloc | apply pw_below_drewN | apply below_drew1 | refine below_set ?_ GE101.out | refine below_set ?_ GE127.out) | exact HB.out)) hb); have n5_ := aM (hbox); have n6_ := aM ((by rw [hg]; exact (below_size (by repeat (first | (with_reducible first | exact HB.out | apply below_alloc | apply pw_below_drewN | apply below_drew1 | refine below_set ?_ GE101.out | refine below_set ?_ GE127.out) | exact HB.out))) : w.heap.size ≤ gb134)); have n7_ := aM ((by rw [hg]; exact (below_size (by repeat (first | (with_reducible first | exact HB.out | apply below_alloc | apply pw_below_drewN | apply below_drew1 | refine below_set ?_ GE101.out | refine below_set ?_ GE127.out) | exact HB.out))) : w.heap.size ≤ gb134)); have n8_ := aM ((by rw [hg]; exact Nat.ne_of_lt (blk_lt (g := gb101) (o := .cells #[.int .i64 0, .int .i64 0, .slice none 0 0] 48 (0, 0)) (by (with_reducible repeat (first | refine bN ?_ _ | refine bD ?_ | refine bA ?_ _)); exact BK101.out)) : gb101 ≠ gb134)); have n9_ := aM ((by rw [hg]; exact Nat.ne_of_gt (blk_lt (g := gb101) (o := .cells #[.int .i64 0, .int .i64 0, .slice none 0 0] 48 (0, 0)) (by (with_reducible repeat (first | refine bN ?_ _ | refine bD ?_ | refine bA ?_ _)); exact BK101.out)) : gb134 ≠ gb101)); have n10_ := aM ((by rw [hg]; exact Nat.ne_of_lt (blk_lt (g := gb127) (o := .cells #[.int .i64 t121, .int .i64 t122, .slice Ao65 t123.length co65] 48 (0, 0)) (by (with_reducible repeat (first | refine bN ?_ _ | refine bD ?_ | refine bA ?_ _)); exact BK127.out)) : gb127 ≠ gb134)); have n11_ := aM ((by rw [hg]; exact Nat.ne_of_gt (blk_lt (g := gb127) (o := .cells #[.int .i64 t121, .int .i64 t122, .slice Ao65 t123.length co65] 48 (0, 0)) (by (with_reducible repeat (first | refine bN ?_ _ | refine bD ?_ | refine bA ?_ _)); exact BK127.out)) : gb134 ≠ gb127)); clear HO_128002; clear HO132; clear BK101; clear BK127; clear HB; have HO_128002 := n0_; have HO132 := n1_; have BK101 := n2_; have BK127 := n3_; have HB := n4_; have BK134 := n5_; have GW134 := n6_; have GE134 := n7_; have NB101_134 := n8_; have NB134_101 := n9_; have NB127_134 := n10_; have NB134_127 := n11_; clear n0_ n1_ n2_ n3_ n4_ n5_ n6_ n7_ n8_ n9_ n10_ n11_; clear hb hbox hg; have hnb91 := NB134_101.out; have hnc91 := NB101_134.out; have hnb92 := NB134_127.out; have hnc92 := NB127_134.out; have hcz93_0 : w90.cell? ⟨gb134, 0, none⟩ = some (.int .i64 0) := (blk_cell BK134.out 0).trans rfl; have hcz93_1 : w90.cell? ⟨gb134, 1, none⟩ = some (.int .i64 0) := (blk_cell BK134.out 1).trans rfl; have hcz93_2 : w90.cell? ⟨gb134, 2, none⟩ = some (.slice none 0 0) := (blk_cell BK134.out 2).trans rfl; have hfz93_0 := blk_frozen BK134.out 0; have hfz93_1 := blk_frozen BK134.out 1; have hfz93_2 := blk_frozen BK134.out 2; obtain ⟨Ao94, co94, eo94⟩ := Kd.N_slice HO132.out; subst eo94; have hnb95 := NB101_127.out; have hnc95 := NB127_101.out; have hcz96_0 : w90.cell? ⟨gb101, 0, none⟩ = some (.int .i64 0) := (blk_cell BK101.out 0).trans rfl; have hcz96_1 : w90.cell? ⟨gb101, 1, none⟩ = some (.int .i64 0) := (blk_cell BK101.out 1).trans rfl; have hcz96_2 : w90.cell? ⟨gb101, 2, none⟩ = some (.slice none 0 0) := (blk_cell BK101.out 2).trans rfl; have hfz96_0 := blk_frozen BK101.out 0; have hfz96_1 := blk_frozen BK101.out 1; have hfz96_2 := blk_frozen BK101.out 2))
                                    refine bodyPost_ret (results_ct rfl _ _ gb101 48 #[.int .i64 0, .int .i64 0, .slice none 0 0] (0, 0) _ rfl (by (with_reducible repeat (first | refine bN ?_ _ | refine bD ?_ | refine bA ?_ _)); refine blk_put (cs := #[.int .i64 0, .int .i64 0, .slice none 0 0]) ?_ 2 _ rfl; (with_reducible repeat (first | refine bN ?_ _ | refine bD ?_ | refine bA ?_ _)); refine blk_put (cs := #[.int .i64 0, .int .i64 0, .slice none 0 0]) ?_ 1 _ rfl; (with_reducible repeat (first | refine bN ?_ _ | refine bD ?_ | refine bA ?_ _)); refine blk_put (cs := #[.int .i64 0, .int .i64 0, .slice none 0 0]) ?_ 0 _ rfl; (with_reducible repeat (first | refine bN ?_ _ | refine bD ?_ | refine bA ?_ _)); refine blk_far ?_ NB101_134.out _; (with_reducible repeat (first | refine bN ?_ _ | refine bD ?_ | refine bA ?_ _)); refine blk_far ?_ NB101_134.out _; (with_reducible repeat (first | refine bN ?_ _ | refine bD ?_ | refine bA ?_ _)); refine blk_far ?_ NB101_134.out _; (with_reducible repeat (first | refine bN ?_ _ | refine bD ?_ | refine bA ?_ _)); exact BK101.out) Tryd.underlying48 rfl (by kernel_rfl)) rfl ?_
                                    exact ⟨_, by first | rfl | (simp [errW_none, errW_some] <;> rfl) | (simp only [← hji75]; first | rfl | (simp [errW_none, errW_some] <;> rfl)) | (simp [*, errW_none, errW_some] <;> rfl), by first | exact Kd.R_nil _ _ _ _ _ | exact Kd.N_nil _ _ _ _ _ | exact Kd.V_nil _ _ _ _ _ | exact Kd.Q_nil _ _ _ _ _ | exact Kd.S_nil _ _ _ _ _, by repeat (first | (with_reducible first | exact HB.out | apply below_alloc | apply pw_below_drewN | apply below_drew1 | refine below_set ?_ GE101.out | refine below_set ?_ GE127.out | refine below_set ?_ GE134.out) | exact HB.out)⟩
                                  · rw [if_neg c88] at H
                                    have c88b0 : decide ((a0.size : Int) ≤ (wrap64 ((ji75) + t133))) = false := decide_eq_false c88
                                    clear c88
                                    obtain ⟨ji97, hji97⟩ : ∃ j_ : Int, (wrap64 ((ji75) + t133)) = j_ := ⟨_, rfl⟩
                                    replace H : (if 0 ≤ (ji97) then (if (ji97) < (a0.size : Int) then (if (bt a0 (ji97)) = 41 then ((spec_ldApp.f t121 t122 t123 t128 t129 t130).bind fun bt135 => (some (bt135.1, bt135.2.1, bt135.2.2, wrap64 ((ji97) + 1)))) else (some (0, 0, ([] : List (S48)), 0))) else (none)) else (none)) = some (r1, r2, r3, r4) := by first | (rw [hji97] at H; exact H) | (simp only [hji97] at H ⊢; exact H)
                                    (try rw [hji97] at c88b0)
                                    (try rw [hji97] at A78)
                                    have hji97w : (IntKind.i64.wrap ((ji75) + t133)) = ji97 := (i64_w _).trans hji97
                                    by_cases c98 : 0 ≤ (ji97)
                                    · rw [if_pos c98] at H
                                      have c98b0 : decide (0 ≤ (ji97)) = true := decide_eq_true c98
                                      clear c98
                                      by_cases c99 : (ji97) < (a0.size : Int)
                                      · rw [if_pos c99] at H
                                        have c99b0 : decide ((ji97) < (a0.size : Int)) = true := decide_eq_true c99
                                        clear c99
                                        by_cases c101 : (bt a0 (ji97)) = 41
                                        · rw [if_pos c101] at H
                                          have c101b0 : ((bt a0 (ji97)) == 41) = true := beq_iff_eq.mpr c101
                                          have c101b1 : ((bt a0 (ji97)) != 41) = false := bne_eq_false_iff_eq.mpr c101
                                          clear c101
                                          replace H := Option.bind_eq_some_iff.mp H
                                          obtain ⟨⟨t135, t136, t137⟩, A1020, H⟩ := H
                                          replace H : (some (t135, t136, t137, wrap64 ((ji97) + 1))) = some (r1, r2, r3, r4) := H
                                          have A102 := aM A1020
                                          clear A1020
                                          simp only [Option.some.injEq, Prod.mk.injEq] at H
                                          obtain ⟨rfl, rfl, rfl, rfl⟩ := H
                                          go_wp2_with (first | ((with_reducible refine gate_callee (f := 39) rfl ?_); refine goesL_ (some 98) rfl rfl Tryd.func39 (by kernel_rfl) rfl #[.string (a0.extract ((ji75) : Int).toNat a0.size), .int .i64 (wrap64 (a1 + 1))] rfl (by (try simp only [List.map_toArray, List.map_cons, List.map_nil]); first | done | (simp only [hji75]; rfl) | rfl | (simp only [List.length_drop, List.length_take]; rfl)) ?_; (with_reducible refine (ih kj59 (by have := HJ2.out; have := HJ59.out; omega) (a0.extract ((ji75) : Int).toNat a0.size) (wrap64 (a1 + 1)) t128 t129 t130 t133 _ A78.out).mono ?_); rintro e w103 ⟨v131, rfl, ho0, hb⟩; refine ⟨_, rfl, ?_⟩; have n0_ := aM (Kd.N_elder' (by (with_reducible repeat (first | apply Kd.N_alloc | apply Kd.N_drewN | apply Kd.N_drew)); exact HO_128002.out) (Kd.N_base ho0) hb); have n1_ := aM (Kd.N_lower (Kd.N_mono (ok' := fun k_ => (w.heap.size ≤ k_) ∧ some k_ ≠ (.slice Ao65 t123.length co65 : Value).ownBlock ∧ k_ ≠ gb101 ∧ k_ ≠ gb127) ho0 (fun k_ hk_ => ⟨(Nat.le_trans (below_size (by repeat (first | (with_reducible first | exact HB.out | apply below_alloc | apply pw_below_drewN | apply below_drew1 | refine below_set ?_ GE101.out | refine below_set ?_ GE127.out) | exact HB.out))) hk_), (Kd.fresh' (Kd.N_lt (by (with_reducible repeat (first | apply Kd.N_alloc | apply Kd.N_drewN | apply Kd.N_drew)); exact HO_128002.out)) k_ hk_), (Kd.freshB (g := gb101) (o := .cells #[.int .i64 0, .int .i64 0, .slice none 0 0] 48 (0, 0)) (by (with_reducible repeat (first | refine bN ?_ _ | refine bD ?_ | refine bA ?_ _)); exact BK101.out) k_ hk_), (Kd.freshB (g := gb127) (o := .cells #[.int .i64 t121, .int .i64 t122, .slice Ao65 t123.length co65] 48 (0, 0)) (by (with_reducible repeat (first | refine bN ?_ _ | refine bD ?_ | refine bA ?_ _)); exact BK127.out) k_ hk_)⟩)) (below_size (by repeat (first | (with_reducible first | exact HB.out | apply below_alloc | apply pw_below_drewN | apply below_drew1 | refine below_set ?_ GE101.out | refine below_set ?_ GE127.out) | exact HB.out)))); have n2_ := aM (blk_below (g := gb101) (o := .cells #[.int .i64 0, .int .i64 0, .slice none 0 0] 48 (0, 0)) (by (with_reducible repeat (first | refine bN ?_ _ | refine bD ?_ | refine bA ?_ _)); exact BK101.out) hb); have n3_ := aM (blk_below (g := gb127) (o := .cells #[.int .i64 t121, .int .i64 t122, .slice Ao65 t123.length co65] 48 (0, 0)) (by (with_reducible repeat (first | refine bN ?_ _ | refine bD ?_ | refine bA ?_ _)); exact BK127.out) hb); have n4_ := aM (below_step (by repeat (first | (with_reducible first | exact HB.out | apply below_alloc | apply pw_below_drewN | apply below_drew1 | refine below_set ?_ GE101.out | refine below_set ?_ GE127.out) | exact HB.out)) hb); clear HO_128002; clear BK101; clear BK127; clear HB; have HO_128002 := n0_; have HO132 := n1_; have BK101 := n2_; have BK127 := n3_; have HB := n4_; clear n0_ n1_ n2_ n3_ n4_; (try clear hb); (try clear hb2); (try clear hk); (try clear hi); (try clear ho0)) | ((with_reducible refine gate_dst (N := 9) rfl ?_); (try (refine gate_guard (by rfl) ?_; dsimp only)); refine box_event ?hg (N := 9) ?hd (cs := #[.int .i64 0, .int .i64 0, .slice none 0 0]) (t := 48) ?hr ?_; (case hd => rfl); (case hg => rfl); (case hr => first | (go_simp; done) | (go_simp; rfl)); intro gb134 hg w104 hbox hb; have n0_ := aM (Kd.N_below (Kd.N_elderB (by (with_reducible repeat (first | apply Kd.N_alloc | apply Kd.N_drewN | apply Kd.N_drew)); exact HO_128002.out) gb134 (Nat.le_of_eq hg.symm)) hb); have n1_ := aM (Kd.N_below (Kd.N_elderB (by (with_reducible repeat (first | apply Kd.N_alloc | apply Kd.N_drewN | apply Kd.N_drew)); exact HO132.out) gb134 (Nat.le_of_eq hg.symm)) hb); have n2_ := aM (blk_below (g := gb101) (o := .cells #[.int .i64 0, .int .i64 0, .slice none 0 0] 48 (0, 0)) (by (with_reducible repeat (first | refine bN ?_ _ | refine bD ?_ | refine bA ?_ _)); exact BK101.out) hb); have n3_ := aM (blk_below (g := gb127) (o := .cells #[.int .i64 t121, .int .i64 t122, .slice Ao65 t123.length co65] 48 (0, 0)) (by (with_reducible repeat (first | refine bN ?_ _ | refine bD ?_ | refine bA ?_ _)); exact BK127.out) hb); have n4_ := aM (below_step (by repeat (first | (with_reducible first | exact HB.out | apply below_alloc | apply pw_below_drewN | apply below_drew1 | refine below_set ?_ GE101.out | refine below_set ?_ GE127.out) | exact HB.out)) hb); have n5_ := aM (hbox); have n6_ := aM ((by rw [hg]; exact (below_size (by repeat (first | (with_reducible first | exact HB.out | apply below_alloc | apply pw_below_drewN | apply below_drew1 | refine below_set ?_ GE101.out | refine below_set ?_ GE127.out) | exact HB.out))) : w.heap.size ≤ gb134)); have n7_ := aM ((by rw [hg]; exact (below_size (by repeat (first | (with_reducible first | exact HB.out | apply below_alloc | apply pw_below_drewN | apply below_drew1 | refine below_set ?_ GE101.out | refine below_set ?_ GE127.out) | exact HB.out))) : w.heap.size ≤ gb134)); have n8_ := aM ((by rw [hg]; exact Nat.ne_of_lt (blk_lt (g := gb101) (o := .cells #[.int .i64 0, .int .i64 0, .slice none 0 0] 48 (0, 0)) (by (with_reducible repeat (first | refine bN ?_ _ | refine bD ?_ | refine bA ?_ _)); exact BK101.out)) : gb101 ≠ gb134)); have n9_ := aM ((by rw [hg]; exact Nat.ne_of_gt (blk_lt (g := gb101) (o := .cells #[.int .i64 0, .int .i64 0, .slice none 0 0] 48 (0, 0)) (by (with_reducible repeat (first | refine bN ?_ _ | refine bD ?_ | refine bA ?_ _)); exact BK101.out)) : gb134 ≠ gb101)); have n10_ := aM ((by rw [hg]; exact Nat.ne_of_lt (blk_lt (g := gb127) (o := .cells #[.int .i64 t121, .int .i64 t122, .slice Ao65 t123.length co65] 48 (0, 0)) (by (with_reducible repeat (first | refine bN ?_ _ | refine bD ?_ | refine bA ?_ _)); exact BK127.out)) : gb127 ≠ gb134)); have n11_ := aM ((by rw [hg]; exact Nat.ne_of_gt (blk_lt (g := gb127) (o := .cells #[.int .i64 t121, .int .i64 t122, .slice Ao65 t123.length co65] 48 (0, 0)) (by (with_reducible repeat (first | refine bN ?_ _ | refine bD ?_ | refine bA ?_ _)); exact BK127.out)) : gb134 ≠ gb127)); clear HO_128002; clear HO132; clear BK101; clear BK127; clear HB; have HO_128002 := n0_; have HO132 := n1_; have BK101 := n2_; have BK127 := n3_; have HB := n4_; have BK134 := n5_; have GW134 := n6_; have GE134 := n7_; have NB101_134 := n8_; have NB134_101 := n9_; have NB127_134 := n10_; have NB134_127 := n11_; clear n0_ n1_ n2_ n3_ n4_ n5_ n6_ n7_ n8_ n9_ n10_ n11_; clear hb hbox hg; have hnb105 := NB134_101.out; have hnc105 := NB101_134.out; have hnb106 := NB134_127.out; have hnc106 := NB127_134.out; have hcz107_0 : w104.cell? ⟨gb134, 0, none⟩ = some (.int .i64 0) := (blk_cell BK134.out 0).trans rfl; have hcz107_1 : w104.cell? ⟨gb134, 1, none⟩ = some (.int .i64 0) := (blk_cell BK134.out 1).trans rfl; have hcz107_2 : w104.cell? ⟨gb134, 2, none⟩ = some (.slice none 0 0) := (blk_cell BK134.out 2).trans rfl; have hfz107_0 := blk_frozen BK134.out 0; have hfz107_1 := blk_frozen BK134.out 1; have hfz107_2 := blk_frozen BK134.out 2; obtain ⟨Ao108, co108, eo108⟩ := Kd.N_slice HO132.out; subst eo108) | ((with_reducible refine gate_store (t := 48) (p := 9) rfl ?_); refine store_event (t := 48) (p := 9) (v := ?vo_w109) (w1 := (((w104.setCell ⟨gb134, 0, none⟩ (.int .i64 t128)).setCell ⟨gb134, 1, none⟩ (.int .i64 t129)).setCell ⟨gb134, 2, none⟩ (.slice Ao108 t130.length co108))) ?hg ?ho ?hn ?hr ?_; (case ho => rfl); (case hg => rfl); (case hn => rfl); (case hr => first | (go_simp; done) | (go_simp; rfl)); intro w109 hw; have n0_ : Aside0 (Kd.N k48 48 w109 w.heap.size (fun k_ => (w.heap.size ≤ k_) ∧ some k_ ≠ (.slice Ao108 t130.length co108 : Value).ownBlock ∧ k_ ≠ gb101 ∧ k_ ≠ gb127 ∧ k_ ≠ gb134) (.slice Ao65 t123.length co65) t123) := ⟨(by rw [hw]; exact (by (with_reducible repeat (first | apply Kd.N_alloc | apply Kd.N_drewN | apply Kd.N_drew)); exact Kd.N_mono (Kd.N_far (p := ⟨gb134, 2, none⟩) (Kd.N_far (p := ⟨gb134, 1, none⟩) (Kd.N_far (p := ⟨gb134, 0, none⟩) (Kd.N_mono HO_128002.out (fun k_ hk => (⟨hk, hk.2⟩ : _ ∧ k_ ≠ gb134))) (fun _ hk => hk.2) (.int .i64 t128)) (fun _ hk => hk.2) (.int .i64 t129)) (fun _ hk => hk.2) (.slice Ao108 t130.length co108)) (fun _ hk => ⟨hk.1.1.1.1, ⟨hk.1.1.2, ⟨hk.1.1.1.2.1, ⟨hk.1.1.1.2.2, hk.1.2⟩⟩⟩⟩)))⟩; have n1_ : Aside0 (Kd.N k48 48 w109 w.heap.size (fun k_ => (w.heap.size ≤ k_) ∧ some k_ ≠ (.slice Ao65 t123.length co65 : Value).ownBlock ∧ k_ ≠ gb101 ∧ k_ ≠ gb127 ∧ k_ ≠ gb134) (.slice Ao108 t130.length co108) t130) := ⟨(by rw [hw]; exact (by (with_reducible repeat (first | apply Kd.N_alloc | apply Kd.N_drewN | apply Kd.N_drew)); exact Kd.N_mono (Kd.N_far (p := ⟨gb134, 2, none⟩) (Kd.N_far (p := ⟨gb134, 1, none⟩) (Kd.N_far (p := ⟨gb134, 0, none⟩) (Kd.N_mono HO132.out (fun k_ hk => (⟨hk, hk.2⟩ : _ ∧ k_ ≠ gb134))) (fun _ hk => hk.2) (.int .i64 t128)) (fun _ hk => hk.2) (.int .i64 t129)) (fun _ hk => hk.2) (.slice Ao108 t130.length co108)) (fun _ hk => ⟨hk.1.1.1, ⟨hk.1.1.2.1, ⟨hk.1.1.2.2.1, ⟨hk.1.1.2.2.2, hk.1.2⟩⟩⟩⟩)))⟩; have n2_ : Aside0 (w109.heap[gb101]? = some (.cells #[.int .i64 0, .int .i64 0, .slice none 0 0] 48 (0, 0))) := ⟨(by rw [hw]; exact (by (with_reducible repeat (first | refine bN ?_ _ | refine bD ?_ | refine bA ?_ _)); refine blk_far ?_ NB101_134.out _; (with_reducible repeat (first | refine bN ?_ _ | refine bD ?_ | refine bA ?_ _)); refine blk_far ?_ NB101_134.out _; (with_reducible repeat (first | refine bN ?_ _ | refine bD ?_ | refine bA ?_ _)); refine blk_far ?_ NB101_134.out _; (with_reducible repeat (first | refine bN ?_ _ | refine bD ?_ | refine bA ?_ _)); exact BK101.out))⟩; have n3_ : Aside0 (w109.heap[gb127]? = some (.cells #[.int .i64 t121, .int .i64 t122, .slice Ao65 t123.length co65] 48 (0, 0))) := ⟨(by rw [hw]; exact (by (with_reducible repeat (first | refine bN ?_ _ | refine bD ?_ | refine bA ?_ _)); refine blk_far ?_ NB127_134.out _; (with_reducible repeat (first | refine bN ?_ _ | refine bD ?_ | refine bA ?_ _)); refine blk_far ?_ NB127_134.out _; (with_reducible repeat (first | refine bN ?_ _ | refine bD ?_ | refine bA ?_ _)); refine blk_far ?_ NB127_134.out _; (with_reducible repeat (first | refine bN ?_ _ | refine bD ?_ | refine bA ?_ _)); exact BK127.out))⟩; have n4_ : Aside0 (w109.heap[gb134]? = some (.cells #[.int .i64 t128, .int .i64 t129, .slice Ao108 t130.length co108] 48 (0, 0))) := ⟨(by rw [hw]; exact (by (with_reducible repeat (first | refine bN ?_ _ | refine bD ?_ | refine bA ?_ _)); refine blk_put (cs := #[.int .i64 t128, .int .i64 t129, .slice none 0 0]) ?_ 2 _ rfl; (with_reducible repeat (first | refine bN ?_ _ | refine bD ?_ | refine bA ?_ _)); refine blk_put (cs := #[.int .i64 t128, .int .i64 0, .slice none 0 0]) ?_ 1 _ rfl; (with_reducible repeat (first | refine bN ?_ _ | refine bD ?_ | refine bA ?_ _)); refine blk_put (cs := #[.int .i64 0, .int .i64 0, .slice none 0 0]) ?_ 0 _ rfl; (with_reducible repeat (first | refine bN ?_ _ | refine bD ?_ | refine bA ?_ _)); exact BK134.out))⟩; have n5_ : Aside0 (Below w.heap.size w w109) := ⟨(by rw [hw]; exact (by repeat (first | (with_reducible first | exact HB.out | apply below_alloc | apply pw_below_drewN | apply below_drew1 | refine below_set ?_ GE101.out | refine below_set ?_ GE127.out | refine below_set ?_ GE134.out) | exact HB.out)))⟩; clear hw; clear HO_128002; clear HO132; clear BK101; clear BK127; clear BK134; clear HB; have HO_128002 := n0_; have HO132 := n1_; have BK101 := n2_; have BK127 := n3_; have BK134 := n4_; have HB := n5_; clear n0_ n1_ n2_ n3_ n4_ n5_; have p100 : 0 ≤ ((ji97) : Int) := of_decide_eq_true (by first | (with_reducible assumption) | assumption); have q100 : (ji97) < (a0.size : Int) := of_decide_eq_true (by first | (with_reducible assumption) | assumption); have hx100 := bt_at a0 (ji97); replace p100 := eq_true p100; replace q100 := eq_true q100; have hnb110 := NB127_101.out; have hnc110 := NB101_127.out; have hcz111_0 : w109.cell? ⟨gb127, 0, none⟩ = some (.int .i64 t121) := (blk_cell BK127.out 0).trans rfl; have hcz111_1 : w109.cell? ⟨gb127, 1, none⟩ = some (.int .i64 t122) := (blk_cell BK127.out 1).trans rfl; have hcz111_2 : w109.cell? ⟨gb127, 2, none⟩ = some (.slice Ao65 t123.length co65) := (blk_cell BK127.out 2).trans rfl; have hfz111_0 := blk_frozen BK127.out 0; have hfz111_1 := blk_frozen BK127.out 1; have hfz111_2 := blk_frozen BK127.out 2; have hcz112_0 : w109.cell? ⟨gb134, 0, none⟩ = some (.int .i64 t128) := (blk_cell BK134.out 0).trans rfl; have hcz112_1 : w109.cell? ⟨gb134, 1, none⟩ = some (.int .i64 t129) := (blk_cell BK134.out 1).trans rfl; have hcz112_2 : w109.cell? ⟨gb134, 2, none⟩ = some (.slice Ao108 t130.length co108) := (blk_cell BK134.out 2).trans rfl; have hfz112_0 := blk_frozen BK134.out 0; have hfz112_1 := blk_frozen BK134.out 1; have hfz112_2 := blk_frozen BK134.out 2) | ((with_reducible refine gate_callee (f := 58) rfl ?_); refine goesL_ (some 122) rfl rfl Tryd.func58 (by kernel_rfl) rfl #[.agg #[.int .i64 t121, .int .i64 t122, .slice Ao65 t123.length co65], .agg #[.int .i64 t128, .int .i64 t129, .slice Ao108 t130.length co108]] rfl (by (try simp only [List.map_toArray, List.map_cons, List.map_nil]); first | done | rfl | (simp only [List.length_drop, List.length_take]; rfl)) ?_; (with_reducible refine (spec_ldApp.calls t121 t122 (fun k_ => ((w.heap.size ≤ k_) ∧ (some k_ ≠ (.slice Ao108 t130.length co108 : Value).ownBlock ∧ (k_ ≠ gb101 ∧ (k_ ≠ gb127 ∧ k_ ≠ gb134))))) _ _ t123 t128 t129 (fun k_ => ((w.heap.size ≤ k_) ∧ (some k_ ≠ (.slice Ao65 t123.length co65 : Value).ownBlock ∧ (k_ ≠ gb101 ∧ (k_ ≠ gb127 ∧ k_ ≠ gb134))))) _ _ t130 t135 t136 t137 _ ?side1 ?side2 A102.out).mono ?_); (case side1 => exact Kd.N_V (HO_128002.out)); (case side2 => exact Kd.N_V (HO132.out)); rintro e w113 ⟨v138, rfl, ho0, hb⟩; refine ⟨_, rfl, ?_⟩; have n0_ := aM (Kd.N_elder' (by (with_reducible repeat (first | apply Kd.N_alloc | apply Kd.N_drewN | apply Kd.N_drew)); exact HO_128002.out) (Kd.N_base ho0) hb); have n1_ := aM (Kd.N_elder' (by (with_reducible repeat (first | apply Kd.N_alloc | apply Kd.N_drewN | apply Kd.N_drew)); exact HO132.out) (Kd.N_base ho0) hb); have n2_ := aM (Kd.N_lower (Kd.N_mono (ok' := fun k_ => (w.heap.size ≤ k_) ∧ k_ ≠ gb101 ∧ k_ ≠ gb127 ∧ k_ ≠ gb134) ho0 (fun k_ hk_ => ⟨Or.elim hk_ (fun hs_ => Or.elim hs_ (fun hs_ => hs_.1) (fun hs_ => hs_.1)) (fun hn_ => (Nat.le_trans (below_size (by repeat (first | (with_reducible first | exact HB.out | apply below_alloc | apply pw_below_drewN | apply below_drew1 | refine below_set ?_ GE101.out | refine below_set ?_ GE127.out | refine below_set ?_ GE134.out) | exact HB.out))) hn_)), Or.elim hk_ (fun hs_ => Or.elim hs_ (fun hs_ => hs_.2.2.1) (fun hs_ => hs_.2.2.1)) (fun hn_ => (Kd.freshB (g := gb101) (o := .cells #[.int .i64 0, .int .i64 0, .slice none 0 0] 48 (0, 0)) (by (with_reducible repeat (first | refine bN ?_ _ | refine bD ?_ | refine bA ?_ _)); exact BK101.out) k_ hn_)), Or.elim hk_ (fun hs_ => Or.elim hs_ (fun hs_ => hs_.2.2.2.1) (fun hs_ => hs_.2.2.2.1)) (fun hn_ => (Kd.freshB (g := gb127) (o := .cells #[.int .i64 t121, .int .i64 t122, .slice Ao65 t123.length co65] 48 (0, 0)) (by (with_reducible repeat (first | refine bN ?_ _ | refine bD ?_ | refine bA ?_ _)); exact BK127.out) k_ hn_)), Or.elim hk_ (fun hs_ => Or.elim hs_ (fun hs_ => hs_.2.2.2.2) (fun hs_ => hs_.2.2.2.2)) (fun hn_ => (Kd.freshB (g := gb134) (o := .cells #[.int .i64 t128, .int .i64 t129, .slice Ao108 t130.length co108] 48 (0, 0)) (by (with_reducible repeat (first | refine bN ?_ _ | refine bD ?_ | refine bA ?_ _)); exact BK134.out) k_ hn_))⟩)) (below_size (by repeat (first | (with_reducible first | exact HB.out | apply below_alloc | apply pw_below_drewN | apply below_drew1 | refine below_set ?_ GE101.out | refine below_set ?_ GE127.out | refine below_set ?_ GE134.out) | exact HB.out)))); have n3_ := aM (blk_below (g := gb101) (o := .cells #[.int .i64 0, .int .i64 0, .slice none 0 0] 48 (0, 0)) (by (with_reducible repeat (first | refine bN ?_ _ | refine bD ?_ | refine bA ?_ _)); exact BK101.out) hb); have n4_ := aM (blk_below (g := gb127) (o := .cells #[.int .i64 t121, .int .i64 t122, .slice Ao65 t123.length co65] 48 (0, 0)) (by (with_reducible repeat (first | refine bN ?_ _ | refine bD ?_ | refine bA ?_ _)); exact BK127.out) hb); have n5_ := aM (blk_below (g := gb134) (o := .cells #[.int .i64 t128, .int .i64 t129, .slice Ao108 t130.length co108] 48 (0, 0)) (by (with_reducible repeat (first | refine bN ?_ _ | refine bD ?_ | refine bA ?_ _)); exact BK134.out) hb); have n6_ := aM (below_step (by repeat (first | (with_reducible first | exact HB.out | apply below_alloc | apply pw_below_drewN | apply below_drew1 | refine below_set ?_ GE101.out | refine below_set ?_ GE127.out | refine below_set ?_ GE134.out) | exact HB.out)) hb); clear HO_128002; clear HO132; clear BK101; clear BK127; clear BK134; clear HB; have HO_128002 := n0_; have HO132 := n1_; have HO139 := n2_; have BK101 := n3_; have BK127 := n4_; have BK134 := n5_; have HB := n6_; clear n0_ n1_ n2_ n3_ n4_ n5_ n6_; (try clear hb); (try clear hb2); (try clear hk); (try clear hi); (try clear ho0); have hcz114_0 : w113.cell? ⟨gb101, 0, none⟩ = some (.int .i64 0) := (blk_cell BK101.out 0).trans rfl; have hcz114_1 : w113.cell? ⟨gb101, 1, none⟩ = some (.int .i64 0) := (blk_cell BK101.out 1).trans rfl; have hcz114_2 : w113.cell? ⟨gb101, 2, none⟩ = some (.slice none 0 0) := (blk_cell BK101.out 2).trans rfl; have hfz114_0 := blk_frozen BK101.out 0; have hfz114_1 := blk_frozen BK101.out 1; have hfz114_2 := blk_frozen BK101.out 2; obtain ⟨Ao115, co115, eo115⟩ := Kd.N_slice HO139.out; subst eo115))
                                          refine bodyPost_ret (results_ct rfl _ _ gb101 48 #[.int .i64 t135, .int .i64 t136, .slice Ao115 t137.length co115] (0, 0) _ rfl (by (with_reducible repeat (first | refine bN ?_ _ | refine bD ?_ | refine bA ?_ _)); refine blk_put (cs := #[.int .i64 t135, .int .i64 t136, .slice none 0 0]) ?_ 2 _ rfl; (with_reducible repeat (first | refine bN ?_ _ | refine bD ?_ | refine bA ?_ _)); refine blk_put (cs := #[.int .i64 t135, .int .i64 0, .slice none 0 0]) ?_ 1 _ rfl; (with_reducible repeat (first | refine bN ?_ _ | refine bD ?_ | refine bA ?_ _)); refine blk_put (cs := #[.int .i64 0, .int .i64 0, .slice none 0 0]) ?_ 0 _ rfl; (with_reducible repeat (first | refine bN ?_ _ | refine bD ?_ | refine bA ?_ _)); exact BK101.out) Tryd.underlying48 rfl (by kernel_rfl)) rfl ?_
                                          exact ⟨_, by first | rfl | (simp [errW_none, errW_some] <;> rfl) | (simp only [← hji75, ← hji97]; first | rfl | (simp [errW_none, errW_some] <;> rfl)) | (simp [*, errW_none, errW_some] <;> rfl), by (with_reducible repeat (first | apply Kd.N_alloc | apply Kd.N_drewN | apply Kd.N_drew)); exact Kd.N_mono (Kd.N_far (p := ⟨gb101, 2, none⟩) (Kd.N_far (p := ⟨gb101, 1, none⟩) (Kd.N_far (p := ⟨gb101, 0, none⟩) (Kd.N_mono HO139.out (fun k_ hk => (⟨hk, hk.2.1⟩ : _ ∧ k_ ≠ gb101))) (fun _ hk => hk.2) (.int .i64 t135)) (fun _ hk => hk.2) (.int .i64 t136)) (fun _ hk => hk.2) (.slice Ao115 t137.length co115)) (fun _ hk => hk.1.1), by repeat (first | (with_reducible first | exact HB.out | apply below_alloc | apply pw_below_drewN | apply below_drew1 | refine below_set ?_ GE101.out | refine below_set ?_ GE127.out | refine below_set ?_ GE134.out) | exact HB.out)⟩
                                        · rw [if_neg c101] at H
                                          have c101b0 : ((bt a0 (ji97)) == 41) = false := beq_eq_false_iff_ne.mpr c101
                                          have c101b1 : ((bt a0 (ji97)) != 41) = true := bne_iff_ne.mpr c101
                                          simp only [Option.some.injEq, Prod.mk.injEq] at H
                                          obtain ⟨rfl, rfl, rfl, rfl⟩ := H
                                          go_wp2_with (first | ((with_reducible refine gate_callee (f := 39) rfl ?_); refine goesL_ (some 98) rfl rfl Tryd.func39 (by kernel_rfl) rfl #[.string (a0.extract ((ji75) : Int).toNat a0.size), .int .i64 (wrap64 (a1 + 1))] rfl (by (try simp only [List.map_toArray, List.map_cons, List.map_nil]); first | done | (simp only [hji75]; rfl) | rfl | (simp only [List.length_drop, List.length_take]; rfl)) ?_; (with_reducible refine (ih kj59 (by have := HJ2.out; have := HJ59.out; omega) (a0.extract ((ji75) : Int).toNat a0.size) (wrap64 (a1 + 1)) t128 t129 t130 t133 _ A78.out).mono ?_); rintro e w116 ⟨v131, rfl, ho0, hb⟩; refine ⟨_, rfl, ?_⟩; have n0_ := aM (Kd.N_elder' (by (with_reducible repeat (first | apply Kd.N_alloc | apply Kd.N_drewN | apply Kd.N_drew)); exact HO_128002.out) (Kd.N_base ho0) hb); have n1_ := aM (Kd.N_lower (Kd.N_mono (ok' := fun k_ => (w.heap.size ≤ k_) ∧ some k_ ≠ (.slice Ao65 t123.length co65 : Value).ownBlock ∧ k_ ≠ gb101 ∧ k_ ≠ gb127) ho0 (fun k_ hk_ => ⟨(Nat.le_trans (below_size (by repeat (first | (with_reducible first | exact HB.out | apply below_alloc | apply pw_below_drewN | apply below_drew1 | refine below_set ?_ GE101.out | refine below_set ?_ GE127.out) | exact HB.out))) hk_), (Kd.fresh' (Kd.N_lt (by (with_reducible repeat (first | apply Kd.N_alloc | apply Kd.N_drewN | apply Kd.N_drew)); exact HO_128002.out)) k_ hk_), (Kd.freshB (g := gb101) (o := .cells #[.int .i64 0, .int .i64 0, .slice none 0 0] 48 (0, 0)) (by (with_reducible repeat (first | refine bN ?_ _ | refine bD ?_ | refine bA ?_ _)); exact BK101.out) k_ hk_), (Kd.freshB (g := gb127) (o := .cells #[.int .i64 t121, .int .i64 t122, .slice Ao65 t123.length co65] 48 (0, 0)) (by (with_reducible repeat (first | refine bN ?_ _ | refine bD ?_ | refine bA ?_ _)); exact BK127.out) k_ hk_)⟩)) (below_size (by repeat (first | (with_reducible first | exact HB.out | apply below_alloc | apply pw_below_drewN | apply below_drew1 | refine below_set ?_ GE101.out | refine below_set ?_ GE127.out) | exact HB.out)))); have n2_ := aM (blk_below (g := gb101) (o := .cells #[.int .i64 0, .int .i64 0, .slice none 0 0] 48 (0, 0)) (by (with_reducible repeat (first | refine bN ?_ _ | refine bD ?_ | refine bA ?_ _)); exact BK101.out) hb); have n3_ := aM (blk_below (g := gb127) (o := .cells #[.int .i64 t121, .int .i64 t122, .slice Ao65 t123.length co65] 48 (0, 0)) (by (with_reducible repeat (first | refine bN ?_ _ | refine bD ?_ | refine bA ?_ _)); exact BK127.out) hb); have n4_ := aM (below_step (by repeat (first | (with_reducible first | exact HB.out | apply below_alloc | apply pw_below_drewN | apply below_drew1 | refine below_set ?_ GE101.out | refine below_set ?_ GE127.out) | exact HB.out)) hb); clear HO_128002; clear BK101; clear BK127; clear HB; have HO_128002 := n0_; have HO132 := n1_; have BK101 := n2_; have BK127 := n3_; have HB := n4_; clear n0_ n1_ n2_ n3_ n4_; (try clear hb); (try clear hb2); (try clear hk); (try clear hi); (try clear ho0)) | ((with_reducible refine gate_dst (N := 9) rfl ?_); (try (refine gate_guard (by rfl) ?_; dsimp only)); refine box_event ?hg (N := 9) ?hd (cs := #[.int .i64 0, .int .i64 0, .slice none 0 0]) (t := 48) ?hr ?_; (case hd => rfl); (case hg => rfl); (case hr => first | (go_simp; done) | (go_simp; rfl)); intro gb134 hg w117 hbox hb; have n0_ := aM (Kd.N_below (Kd.N_elderB (by (with_reducible repeat (first | apply Kd.N_alloc | apply Kd.N_drewN | apply Kd.N_drew)); exact HO_128002.out) gb134 (Nat.le_of_eq hg.symm)) hb); have n1_ := aM (Kd.N_below (Kd.N_elderB (by (with_reducible repeat (first | apply Kd.N_alloc | apply Kd.N_drewN | apply Kd.N_drew)); exact HO132.out) gb134 (Nat.le_of_eq hg.symm)) hb); have n2_ := aM (blk_below (g := gb101) (o := .cells #[.int .i64 0, .int .i64 0, .slice none 0 0] 48 (0, 0)) (by (with_reducible repeat (first | refine bN ?_ _ | refine bD ?_ | refine bA ?_ _)); exact BK101.out) hb); have n3_ := aM (blk_below (g := gb127) (o := .cells #[.int .i64 t121, .int .i64 t122, .slice Ao65 t123.length co65] 48 (0, 0)) (by (with_reducible repeat (first | refine bN ?_ _ | refine bD ?_ | refine bA ?_ _)); exact BK127.out) hb); have n4_ := aM (below_step (by repeat (first | (with_reducible first | exact HB.out | apply below_alloc | apply pw_below_drewN | apply below_drew1 | refine below_set ?_ GE101.out | refine below_set ?_ GE127.out) | exact HB.out)) hb); have n5_ := aM (hbox); have n6_ := aM ((by rw [hg]; exact (below_size (by repeat (first | (with_reducible first | exact HB.out | apply below_alloc | apply pw_below_drewN | apply below_drew1 | refine below_set ?_ GE101.out | refine below_set ?_ GE127.out) | exact HB.out))) : w.heap.size ≤ gb134)); have n7_ := aM ((by rw [hg]; exact (below_size (by repeat (first | (with_reducible first | exact HB.out | apply below_alloc | apply pw_below_drewN | apply below_drew1 | refine below_set ?_ GE101.out | refine below_set ?_ GE127.out) | exact HB.out))) : w.heap.size ≤ gb134)); have n8_ := aM ((by rw [hg]; exact Nat.ne_of_lt (blk_lt (g := gb101) (o := .cells #[.int .i64 0, .int .i64 0, .slice none 0 0] 48 (0, 0)) (by (with_reducible repeat (first | refine bN ?_ _ | refine bD ?_ | refine bA ?_ _)); exact BK101.out)) : gb101 ≠ gb134)); have n9_ := aM ((by rw [hg]; exact Nat.ne_of_gt (blk_lt (g := gb101) (o := .cells #[.int .i64 0, .int .i64 0, .slice none 0 0] 48 (0, 0)) (by (with_reducible repeat (first | refine bN ?_ _ | refine bD ?_ | refine bA ?_ _)); exact BK101.out)) : gb134 ≠ gb101)); have n10_ := aM ((by rw [hg]; exact Nat.ne_of_lt (blk_lt (g := gb127) (o := .cells #[.int .i64 t121, .int .i64 t122, .slice Ao65 t123.length co65] 48 (0, 0)) (by (with_reducible repeat (first | refine bN ?_ _ | refine bD ?_ | refine bA ?_ _)); exact BK127.out)) : gb127 ≠ gb134)); have n11_ := aM ((by rw [hg]; exact Nat.ne_of_gt (blk_lt (g := gb127) (o := .cells #[.int .i64 t121, .int .i64 t122, .slice Ao65 t123.length co65] 48 (0, 0)) (by (with_reducible repeat (first | refine bN ?_ _ | refine bD ?_ | refine bA ?_ _)); exact BK127.out)) : gb134 ≠ gb127)); clear HO_128002; clear HO132; clear BK101; clear BK127; clear HB; have HO_128002 := n0_; have HO132 := n1_; have BK101 := n2_; have BK127 := n3_; have HB := n4_; have BK134 := n5_; have GW134 := n6_; have GE134 := n7_; have NB101_134 := n8_; have NB134_101 := n9_; have NB127_134 := n10_; have NB134_127 := n11_; clear n0_ n1_ n2_ n3_ n4_ n5_ n6_ n7_ n8_ n9_ n10_ n11_; clear hb hbox hg; have hnb118 := NB134_101.out; have hnc118 := NB101_134.out; have hnb119 := NB134_127.out; have hnc119 := NB127_134.out; have hcz120_0 : w117.cell? ⟨gb134, 0, none⟩ = some (.int .i64 0) := (blk_cell BK134.out 0).trans rfl; have hcz120_1 : w117.cell? ⟨gb134, 1, none⟩ = some (.int .i64 0) := (blk_cell BK134.out 1).trans rfl; have hcz120_2 : w117.cell? ⟨gb134, 2, none⟩ = some (.slice none 0 0) := (blk_cell BK134.out 2).trans rfl; have hfz120_0 := blk_frozen BK134.out 0; have hfz120_1 := blk_frozen BK134.out 1; have hfz120_2 := blk_frozen BK134.out 2; obtain ⟨Ao121, co121, eo121⟩ := Kd.N_slice HO132.out; subst eo121; have p100 : 0 ≤ ((ji97) : Int) := of_decide_eq_true (by first | (with_reducible assumption) | assumption); have q100 : (ji97) < (a0.size : Int) := of_decide_eq_true (by first | (with_reducible assumption) | assumption); have hx100 := bt_at a0 (ji97); replace p100 := eq_true p100; replace q100 := eq_true q100; have hnb122 := NB101_127.out; have hnc122 := NB127_101.out; have hcz123_0 : w117.cell? ⟨gb101, 0, none⟩ = some (.int .i64 0) := (blk_cell BK101.out 0).trans rfl; have hcz123_1 : w117.cell? ⟨gb101, 1, none⟩ = some (.int .i64 0) := (blk_cell BK101.out 1).trans rfl; have hcz123_2 : w117.cell? ⟨gb101, 2, none⟩ = some (.slice none 0 0) := (blk_cell BK101.out 2).trans rfl; have hfz123_0 := blk_frozen BK101.out 0; have hfz123_1 := blk_frozen BK101.out 1; have hfz123_2 := blk_frozen BK101.out 2))
                                          refine bodyPost_ret (results_ct rfl _ _ gb101 48 #[.int .i64 0, .int .i64 0, .slice none 0 0] (0, 0) _ rfl (by (with_reducible repeat (first | refine bN ?_ _ | refine bD ?_ | refine bA ?_ _)); refine blk_put (cs := #[.int .i64 0, .int .i64 0, .slice none 0 0]) ?_ 2 _ rfl; (with_reducible repeat (first | refine bN ?_ _ | refine bD ?_ | refine bA ?_ _)); refine blk_put (cs := #[.int .i64 0, .int .i64 0, .slice none 0 0]) ?_ 1 _ rfl; (with_reducible repeat (first | refine bN ?_ _ | refine bD ?_ | refine bA ?_ _)); refine blk_put (cs := #[.int .i64 0, .int .i64 0, .slice none 0 0]) ?_ 0 _ rfl; (with_reducible repeat (first | refine bN ?_ _ | refine bD ?_ | refine bA ?_ _)); refine blk_far ?_ NB101_134.out _; (with_reducible repeat (first | refine bN ?_ _ | refine bD ?_ | refine bA ?_ _)); refine blk_far ?_ NB101_134.out _; (with_reducible repeat (first | refine bN ?_ _ | refine bD ?_ | refine bA ?_ _)); refine blk_far ?_ NB101_134.out _; (with_reducible repeat (first | refine bN ?_ _ | refine bD ?_ | refine bA ?_ _)); exact BK101.out) Tryd.underlying48 rfl (by kernel_rfl)) rfl ?_
                                          exact ⟨_, by first | rfl | (simp [errW_none, errW_some] <;> rfl) | (simp only [← hji75, ← hji97]; first | rfl | (simp [errW_none, errW_some] <;> rfl)) | (simp [*, errW_none, errW_some] <;> rfl), by first | exact Kd.R_nil _ _ _ _ _ | exact Kd.N_nil _ _ _ _ _ | exact Kd.V_nil _ _ _ _ _ | exact Kd.Q_nil _ _ _ _ _ | exact Kd.S_nil _ _ _ _ _, by repeat (first | (with_reducible first | exact HB.out | apply below_alloc | apply pw_below_drewN | apply below_drew1 | refine below_set ?_ GE101.out | refine below_set ?_ GE127.out | refine below_set ?_ GE134.out) | exact HB.out)⟩
                                      · rw [if_neg c99] at H
                                        exact absurd H (by simp)
                                    · rw [if_neg c98] at H
                                      exact absurd H (by simp)
                              · rw [if_neg c77] at H
                                exact absurd H (by simp)
                            · rw [if_neg c76] at H
                              exact absurd H (by simp)
                    · rw [if_neg c58] at H
                      exact absurd H (by simp)
                  · rw [if_neg c57] at H
                    have c57b0 : ((bt a0 0) == 40) = false := beq_eq_false_iff_ne.mpr c57
                    have c57b1 : ((bt a0 0) != 40) = true := bne_iff_ne.mpr c57
                    simp only [Option.some.injEq, Prod.mk.injEq] at H
                    obtain ⟨rfl, rfl, rfl, rfl⟩ := H
                    have p9 : 0 ≤ (0 : Int) := (by omega)
                    have q9 : 0 < a0.size := (by have : (0 : Int) < (a0.size : Int) := of_decide_eq_true (by first | (with_reducible assumption) | assumption); omega)
                    have hx9 : ∀ h : 0 < a0.size, ((a0[0]'h).toNat : Int) = bt a0 0 := bt_at a0 0
                    clear p9
                    have qi9 : (0 < (a0.size : Int)) = True := eq_true (of_decide_eq_true (by first | (with_reducible assumption) | assumption))
                    replace q9 := eq_true q9
                    have hcz124_0 : wc.cell? ⟨gb101, 0, none⟩ = some (.int .i64 0) := (blk_cell BK101.out 0).trans rfl
                    have hcz124_1 : wc.cell? ⟨gb101, 1, none⟩ = some (.int .i64 0) := (blk_cell BK101.out 1).trans rfl
                    have hcz124_2 : wc.cell? ⟨gb101, 2, none⟩ = some (.slice none 0 0) := (blk_cell BK101.out 2).trans rfl
                    have hfz124_0 := blk_frozen BK101.out 0
                    have hfz124_1 := blk_frozen BK101.out 1
                    have hfz124_2 := blk_frozen BK101.out 2
                    go_wp2
                    refine bodyPost_ret (results_ct rfl _ _ gb101 48 #[.int .i64 0, .int .i64 0, .slice none 0 0] (0, 0) _ rfl (by (with_reducible repeat (first | refine bN ?_ _ | refine bD ?_ | refine bA ?_ _)); refine blk_put (cs := #[.int .i64 0, .int .i64 0, .slice none 0 0]) ?_ 2 _ rfl; (with_reducible repeat (first | refine bN ?_ _ | refine bD ?_ | refine bA ?_ _)); refine blk_put (cs := #[.int .i64 0, .int .i64 0, .slice none 0 0]) ?_ 1 _ rfl; (with_reducible repeat (first | refine bN ?_ _ | refine bD ?_ | refine bA ?_ _)); refine blk_put (cs := #[.int .i64 0, .int .i64 0, .slice none 0 0]) ?_ 0 _ rfl; (with_reducible repeat (first | refine bN ?_ _ | refine bD ?_ | refine bA ?_ _)); exact BK101.out) Tryd.underlying48 rfl (by kernel_rfl)) rfl ?_
                    exact ⟨_, by first | rfl | (simp [errW_none, errW_some] <;> rfl) | (simp [*, errW_none, errW_some] <;> rfl), by first | exact Kd.R_nil _ _ _ _ _ | exact Kd.N_nil _ _ _ _ _ | exact Kd.V_nil _ _ _ _ _ | exact Kd.Q_nil _ _ _ _ _ | exact Kd.S_nil _ _ _ _ _, by repeat (first | (with_reducible first | exact HB.out | apply below_alloc | apply pw_below_drewN | apply below_drew1 | refine below_set ?_ GE101.out) | exact HB.out)⟩
        · rw [if_neg c8] at H
          exact absurd H (by simp)

end Go.Proofs.YtcjhhdecckcibaaDoor.G

namespace Go.Proofs.YtcjhhdecckcibaaDoor.G
open Go.RowKit Go.Proofs.YtcjhhdecckcibaaDoorW.PrintWords Go.Proofs.YtcjhhdecckcibaaDoorW.PrintLast Go.Proofs.YtcjhhdecckcibaaDoorW.PrintMore Go.Proofs.YtcjhhdecckcibaaDoor.Short
attribute [local go_sem] max2_int min2_int max_two min_two max_three min_three max_four min_four   -- for this text's walks alone
set_option linter.unusedVariables false
set_option linter.unusedSimpArgs false

def spec_l1In.f (a0 : Int) (a1 : Int) (a2 : Int) : Option (Bool) := if a0 ≥ a1 then (some (decide (a0 ≤ a2))) else (some false)
set_option maxHeartbeats 8000000 in
set_option maxRecDepth 100000 in
theorem spec_l1In.calls (a0 : Int) (a1 : Int) (a2 : Int) (r : Bool) (w : World) (h : spec_l1In.f a0 a1 a2 = some r) :
    Calls Tryd.prog 47 #[.int .i64 a0, .int .i64 a1, .int .i64 a2] w fun e w' => e = .returned (.bool r) ∧ Drawn0 w w' := by
  have H : (if a0 ≥ a1 then (some (decide (a0 ≤ a2))) else (some false)) = some r := h
  clear h
  by_cases c4 : a0 ≥ a1
  · rw [if_pos c4] at H
    have c4b0 : decide (a1 ≤ a0) = true := decide_eq_true c4
    clear c4
    obtain rfl := Option.some.inj H
    go_enter Tryd.func47, Tryd.ntmps47
    go_wp2
    go_ret
    exact ⟨by first | rfl | (simp; done) | (simp [*]; done), by repeat (first | exact Drawn0.refl _ | apply Drawn0.step)⟩
  · rw [if_neg c4] at H
    have c4b0 : decide (a1 ≤ a0) = false := decide_eq_false c4
    clear c4
    obtain rfl := Option.some.inj H
    go_enter Tryd.func47, Tryd.ntmps47
    go_wp2
    go_ret
    exact ⟨by first | rfl | (simp; done) | (simp [*]; done), by repeat (first | exact Drawn0.refl _ | apply Drawn0.step)⟩

end Go.Proofs.YtcjhhdecckcibaaDoor.G

namespace Go.Proofs.YtcjhhdecckcibaaDoor.G
open Go.RowKit Go.Proofs.YtcjhhdecckcibaaDoorW.PrintWords Go.Proofs.YtcjhhdecckcibaaDoorW.PrintLast Go.Proofs.YtcjhhdecckcibaaDoorW.PrintMore Go.Proofs.YtcjhhdecckcibaaDoor.Short
attribute [local go_sem] max2_int min2_int max_two min_two max_three min_three max_four min_four   -- for this text's walks alone
set_option linter.unusedVariables false
set_option linter.unusedSimpArgs false

def spec_ldParts.l0 : Nat → List (S51) → Int → List Int → Int → Option (List Int)
  | 0, _, _, _, _ => none
  | k + 1, x0, x1, x5, x6 => if x6 < (x0.length : Int) then (if 0 ≤ x6 then (if ((rd_T51 x0 x6).f2) = x1 then (if x5.length < 17592186044416 then (spec_ldParts.l0 k x0 x1 (x5 ++ [x6]) (wrap64 (x6 + 1))) else (none)) else (spec_ldParts.l0 k x0 x1 x5 (wrap64 (x6 + 1)))) else (none)) else (some x5)
def spec_ldParts.f (k : Nat) (l0 : List (S51)) (a1 : Int) : Option (List Int) := spec_ldParts.l0 k l0 a1 ([] : List Int) (wrap64 (a1 + 1))
set_option maxHeartbeats 8000000 in
set_option maxRecDepth 100000 in
theorem spec_ldParts.calls (k : Nat) (A0 : Option Addr) (c0 : Nat) (l0 : List (S51)) (a1 : Int) (r : List Int) (w : World) (hr0 : Kd.C k51 w A0 l0.length l0) (hc0 : l0.length ≤ c0) (h : spec_ldParts.f k l0 a1 = some r) :
    Calls Tryd.prog 48 #[.slice A0 l0.length c0, .int .i64 a1] w fun e w' => ∃ v0_ : Value, e = .returned (v0_) ∧ Kd.R (Kd.int .i64) 3 w' w.heap.size (fun _ => True) v0_ r ∧ Below w.heap.size w w' := by
  have HR0 := aM hr0
  have HC0 := aM hc0
  clear hr0 hc0
  have HB := aM (Below.refl w.heap.size w)
  have H : (spec_ldParts.l0 k l0 a1 ([] : List Int) (wrap64 (a1 + 1))) = some r := h
  clear h
  have H' := aM H
  clear H
  go_enter Tryd.func48, Tryd.ntmps48
  go_wp2
  go_loopg [5, 6] k (fun kq v5 v6 w' => ∃ (x5_1 : List Int) (x6_1 : Int), v6 = .int .i64 x6_1 ∧ Aside0 (spec_ldParts.l0 kq l0 a1 x5_1 x6_1 = some r) ∧ Aside0 (kq ≤ k) ∧ Aside0 (Kd.R (Kd.int .i64) 3 w' w.heap.size (fun _ => True) v5 x5_1) ∧ Aside0 (Below w.heap.size w w'))
  case atStart => exact ⟨(([] : List Int)), (wrap64 (a1 + 1)), (by first | rfl | (simp; done) | (simp [*]; done)), H', ⟨Nat.le_refl _⟩, ⟨by first | exact Kd.R_nil _ _ _ _ _ | exact Kd.N_nil _ _ _ _ _ | exact Kd.V_nil _ _ _ _ _ | exact Kd.Q_nil _ _ _ _ _ | exact Kd.S_nil _ _ _ _ _⟩, ⟨by repeat (first | (with_reducible first | exact HB.out | apply below_alloc | apply pw_below_drewN | apply below_drew1) | exact HB.out)⟩⟩
  case round =>
    clear H'
    try clear p2
    obtain ⟨x5_1, x6_1, rfl, HA, HK1, HO_5, HB⟩ := hrel
    cases gk with
    | zero => exact absurd HA.out (by simp [spec_ldParts.l0])
    | succ k1 =>
      have H := HA.out
      clear HA
      simp only [spec_ldParts.l0] at H
      by_cases c3 : x6_1 < (l0.length : Int)
      · rw [if_pos c3] at H
        have c3b0 : decide (x6_1 < (l0.length : Int)) = true := decide_eq_true c3
        clear c3
        by_cases c4 : 0 ≤ x6_1
        · rw [if_pos c4] at H
          have c4b0 : decide (0 ≤ x6_1) = true := decide_eq_true c4
          clear c4
          by_cases c5 : ((rd_T51 l0 x6_1).f2) = a1
          · rw [if_pos c5] at H
            have c5b0 : (((rd_T51 l0 x6_1).f2) == a1) = true := beq_iff_eq.mpr c5
            have c5b1 : (((rd_T51 l0 x6_1).f2) != a1) = false := bne_eq_false_iff_eq.mpr c5
            clear c5
            by_cases c6 : x5_1.length < 17592186044416
            · rw [if_pos c6] at H
              have LMc6 := aM c6
              clear c6
              obtain ⟨y102, hy102⟩ : ∃ y_ : List Int, y_ = (x5_1 ++ [x6_1]) := ⟨_, rfl⟩
              replace H : (spec_ldParts.l0 k1 l0 a1 y102 (wrap64 (x6_1 + 1))) = some r := by first | (rw [hy102]; with_reducible exact H) | (have H2_ := (Option.bind_some _ _).symm.trans H; rw [hy102]; with_reducible exact H2_) | (have H2_ := (Option.bind_some _ _).symm.trans H; with_reducible exact H2_) | with_reducible exact H | (rw [hy102]; exact H) | exact H
              have Ny102 := aM hy102
              clear hy102
              have H' := aM H
              clear H
              have p101 : 0 ≤ (x6_1 : Int) := of_decide_eq_true (by first | (with_reducible assumption) | assumption)
              have q101 : x6_1 < (l0.length : Int) := of_decide_eq_true (by first | (with_reducible assumption) | assumption)
              obtain ⟨ad101, e101, hx101_0, hx101_1, hx101_2⟩ := at_T51 HR0.out x6_1 p101 q101
              cases e101
              replace hx101_0 := (HB.out.cell (World.block_lt_of_cell? w _ hx101_0)).trans hx101_0
              replace hx101_1 := (HB.out.cell (World.block_lt_of_cell? w _ hx101_1)).trans hx101_1
              replace hx101_2 := (HB.out.cell (World.block_lt_of_cell? w _ hx101_2)).trans hx101_2
              replace p101 := eq_true p101
              replace q101 := eq_true q101
              go_wp2_with (first | ((with_reducible refine gate_builtin (b := .append) (xs := #[.tmp 22, .tmp 24]) rfl ?_); at_builtin; refine Kd.R_append (Kd.int .i64) (w0 := w) w.heap.size rfl (.tmp 22) (.tmp 24) 89 3 (.int .i64 0) 8 rfl Tryd.underlying89 info3 rfl (by decide) (by omega) u5 x5_1 x6_1 [.int .i64 x6_1] (fun _ => True) (fun _ => False) rfl rfl ?aP (fun _ hk => hk.elim) ?aF ?aO ?aB ?aS ?aL ?_; (case aP => exact rfl); (case aB => exact (by repeat (first | (with_reducible first | exact HB.out | apply below_alloc | apply pw_below_drewN | apply below_drew1) | exact HB.out))); (case aF => exact (fun _ _ => trivial)); (case aO => exact (by (with_reducible repeat (first | apply rA | apply rN | apply rD)); exact HO_5.out)); (case aS => exact (below_size (by repeat (first | (with_reducible first | exact HB.out | apply below_alloc | apply pw_below_drewN | apply below_drew1) | exact HB.out)))); (case aL => have := LMc6.out; omega); intro v103 w7 ho hb hg hat; rw [← Ny102.out] at ho; have n0_ := aM (hb); have n1_ := aM (ho); clear HB; clear HO_5; have HB := n0_; have HO104 := n1_; clear n0_ n1_; clear ho hb hg hat))
              go_roundg k1
              case measure => have := HK1.out; omega
              case rel => exact ⟨(y102), (wrap64 (x6_1 + 1)), (by first | rfl | (simp; done) | (simp [*]; done)), H', ⟨by have := HK1.out; omega⟩, ⟨by (with_reducible repeat (first | apply rA | apply rN | apply rD)); exact HO104.out⟩, ⟨by repeat (first | (with_reducible first | exact HB.out | apply below_alloc | apply pw_below_drewN | apply below_drew1) | exact HB.out)⟩⟩
            · rw [if_neg c6] at H
              exact absurd H (by simp)
          · rw [if_neg c5] at H
            have c5b0 : (((rd_T51 l0 x6_1).f2) == a1) = false := beq_eq_false_iff_ne.mpr c5
            have c5b1 : (((rd_T51 l0 x6_1).f2) != a1) = true := bne_iff_ne.mpr c5
            have H' := aM H
            clear H
            have p101 : 0 ≤ (x6_1 : Int) := of_decide_eq_true (by first | (with_reducible assumption) | assumption)
            have q101 : x6_1 < (l0.length : Int) := of_decide_eq_true (by first | (with_reducible assumption) | assumption)
            obtain ⟨ad101, e101, hx101_0, hx101_1, hx101_2⟩ := at_T51 HR0.out x6_1 p101 q101
            cases e101
            replace hx101_0 := (HB.out.cell (World.block_lt_of_cell? w _ hx101_0)).trans hx101_0
            replace hx101_1 := (HB.out.cell (World.block_lt_of_cell? w _ hx101_1)).trans hx101_1
            replace hx101_2 := (HB.out.cell (World.block_lt_of_cell? w _ hx101_2)).trans hx101_2
            replace p101 := eq_true p101
            replace q101 := eq_true q101
            go_wp2
            go_roundg k1
            case measure => have := HK1.out; omega
            case rel => exact ⟨(x5_1), (wrap64 (x6_1 + 1)), (by first | rfl | (simp; done) | (simp [*]; done)), H', ⟨by have := HK1.out; omega⟩, ⟨by (with_reducible repeat (first | apply rA | apply rN | apply rD)); exact HO_5.out⟩, ⟨by repeat (first | (with_reducible first | exact HB.out | apply below_alloc | apply pw_below_drewN | apply below_drew1) | exact HB.out)⟩⟩
        · rw [if_neg c4] at H
          exact absurd H (by simp)
      · rw [if_neg c3] at H
        have c3b0 : decide (x6_1 < (l0.length : Int)) = false := decide_eq_false c3
        clear c3
        obtain rfl := Option.some.inj H
        go_wp2
        go_ret
        exact ⟨_, by first | rfl | (simp [errW_none, errW_some] <;> rfl) | (simp [*, errW_none, errW_some] <;> rfl), by (with_reducible repeat (first | apply rA | apply rN | apply rD)); exact HO_5.out, by repeat (first | (with_reducible first | exact HB.out | apply below_alloc | apply pw_below_drewN | apply below_drew1) | exact HB.out)⟩

end Go.Proofs.YtcjhhdecckcibaaDoor.G

namespace Go.Proofs.YtcjhhdecckcibaaDoor.G
open Go.RowKit Go.Proofs.YtcjhhdecckcibaaDoorW.PrintWords Go.Proofs.YtcjhhdecckcibaaDoorW.PrintLast Go.Proofs.YtcjhhdecckcibaaDoorW.PrintMore Go.Proofs.YtcjhhdecckcibaaDoor.Short
attribute [local go_sem] max2_int min2_int max_two min_two max_three min_three max_four min_four   -- for this text's walks alone
set_option linter.unusedVariables false
set_option linter.unusedSimpArgs false

mutual
def spec_GoodComb.l0 : Nat → List (S51) → List (S51) → Int → Int → Option (Bool)
  | 0, _, _, _, _ => none
  | k + 1, x0, x14, x15, x16 => if x16 < x15 then (if 0 ≤ x16 then (if x16 < (x14.length : Int) then (if ((x16 == 0) != (((rd_T51 x14 x16).f2) == (-1))) = true then (spec_GoodComb.j1 k x0 x16 x14 x15 x16 true ((rd_T51 x14 x16).f0) ((rd_T51 x14 x16).f1) ((rd_T51 x14 x16).f2)) else ((spec_l1In.f ((rd_T51 x14 x16).f2) (-1) (wrap64 (x16 - 1))).bind fun t104 => (if t104 = true then ((spec_l1In.f ((rd_T51 x14 x16).f0) 1 5).bind fun t105 => (if t105 = true then ((spec_l1In.f ((rd_T51 x14 x16).f1) 0 999).bind fun t106 => (if t106 = true then (if ((rd_T51 x14 x16).f0) = 1 then (spec_GoodComb.j1 k x0 x16 x14 x15 x16 false ((rd_T51 x14 x16).f0) ((rd_T51 x14 x16).f1) ((rd_T51 x14 x16).f2)) else (spec_GoodComb.j1 k x0 x16 x14 x15 x16 (((rd_T51 x14 x16).f1) != 0) ((rd_T51 x14 x16).f0) ((rd_T51 x14 x16).f1) ((rd_T51 x14 x16).f2))) else (spec_GoodComb.j1 k x0 x16 x14 x15 x16 true ((rd_T51 x14 x16).f0) ((rd_T51 x14 x16).f1) ((rd_T51 x14 x16).f2)))) else (spec_GoodComb.j1 k x0 x16 x14 x15 x16 true ((rd_T51 x14 x16).f0) ((rd_T51 x14 x16).f1) ((rd_T51 x14 x16).f2)))) else (spec_GoodComb.j1 k x0 x16 x14 x15 x16 true ((rd_T51 x14 x16).f0) ((rd_T51 x14 x16).f1) ((rd_T51 x14 x16).f2))))) else (none)) else (none)) else (some true)
def spec_GoodComb.j1 : Nat → List (S51) → Int → List (S51) → Int → Int → Bool → Int → Int → Int → Option (Bool)
  | 0, _, _, _, _, _, _, _, _, _ => none
  | k + 1, x0, x3, x14, x15, x16, x56, x104000, x104001, x104002 => if x56 = true then (some false) else (spec_GoodComb.l1 k x0 x3 (x3 == 0) (wrap64 (x3 - 1)) x14 x15 x16 x104000 x104001 x104002)
def spec_GoodComb.j3 : Nat → List (S51) → Int → Bool → List (S51) → Int → Int → Int → Int → Int → Option (Bool)
  | 0, _, _, _, _, _, _, _, _, _ => none
  | k + 1, x0, x3, x5, x14, x15, x16, x104000, x104001, x104002 => spec_GoodComb.l2 k x0 x3 x5 0 x3 x14 x15 x16 x104000 x104001 x104002
def spec_GoodComb.l2 : Nat → List (S51) → Int → Bool → Int → Int → List (S51) → Int → Int → Int → Int → Int → Option (Bool)
  | 0, _, _, _, _, _, _, _, _, _, _, _ => none
  | k + 1, x0, x3, x5, x7, x8, x14, x15, x16, x104000, x104001, x104002 => if x8 ≥ 0 then (if 0 ≤ x8 then (if x8 < (x0.length : Int) then (spec_GoodComb.l2 k x0 x3 x5 (wrap64 (x7 + 1)) ((rd_T51 x0 x8).f2) x14 x15 x16 x104000 x104001 x104002) else (none)) else (none)) else (if x104000 = 2 then (if x5 = true then (if x7 > 60 then (some false) else ((spec_ldParts.f k x0 x3).bind fun t109 => (if (t109.length : Int) = 2 then (spec_GoodComb.l0 k x0 x14 x15 (wrap64 (x16 + 1))) else (some false)))) else (some false)) else (if x5 = true then (if x7 > 60 then (some false) else ((spec_ldParts.f k x0 x3).bind fun t112 => (if (t112.length : Int) = 0 then (spec_GoodComb.l0 k x0 x14 x15 (wrap64 (x16 + 1))) else (some false)))) else (some false)))
def spec_GoodComb.l1 : Nat → List (S51) → Int → Bool → Int → List (S51) → Int → Int → Int → Int → Int → Option (Bool)
  | 0, _, _, _, _, _, _, _, _, _, _ => none
  | k + 1, x0, x3, x5, x6, x14, x15, x16, x104000, x104001, x104002 => if x6 ≥ 0 then (if x5 = true then (spec_GoodComb.j3 k x0 x3 x5 x14 x15 x16 x104000 x104001 x104002) else (if 0 ≤ x6 then (if x6 < (x0.length : Int) then (spec_GoodComb.l1 k x0 x3 (x6 == x104002) ((rd_T51 x0 x6).f2) x14 x15 x16 x104000 x104001 x104002) else (none)) else (none))) else (spec_GoodComb.j3 k x0 x3 x5 x14 x15 x16 x104000 x104001 x104002)
end
def spec_GoodComb.f (k : Nat) (l0 : List (S51)) : Option (Bool) := (spec_l1In.f (l0.length : Int) 1 200).bind fun t101 => (if t101 = true then (spec_GoodComb.l0 k l0 l0 (l0.length : Int) 0) else (some false))
set_option maxHeartbeats 8000000 in
set_option maxRecDepth 100000 in
theorem spec_GoodComb.calls (k : Nat) (A0 : Option Addr) (c0 : Nat) (l0 : List (S51)) (r : Bool) (w : World) (hr0 : Kd.C k51 w A0 l0.length l0) (hc0 : l0.length ≤ c0) (h : spec_GoodComb.f k l0 = some r) :
    Calls Tryd.prog 25 #[.slice A0 l0.length c0] w fun e w' => e = .returned (.bool r) ∧ Below w.heap.size w w' := by
  have hu51 := Tryd.underlying51
  have HR0 := aM hr0
  have HC0 := aM hc0
  clear hr0 hc0
  have HB := aM (Below.refl w.heap.size w)
  have H : ((spec_l1In.f (l0.length : Int) 1 200).bind fun t101 => (if t101 = true then (spec_GoodComb.l0 k l0 l0 (l0.length : Int) 0) else (some false))) = some r := h
  clear h
  replace H := Option.bind_eq_some_iff.mp H
  obtain ⟨t101, A20, H⟩ := H
  replace H : (if t101 = true then (spec_GoodComb.l0 k l0 l0 (l0.length : Int) 0) else (some false)) = some r := H
  have A2 := aM A20
  clear A20
  by_cases c3 : t101 = true
  · subst c3
    have H1 : (spec_GoodComb.l0 k l0 l0 (l0.length : Int) 0) = some r := by rw [if_pos rfl] at H; exact H
    clear H
    have H := H1
    clear H1
    have H' := aM H
    clear H
    go_enter Tryd.func25, Tryd.ntmps25
    go_wp2_with (first | ((with_reducible refine gate_callee (f := 47) rfl ?_); refine goesL_ (some 12) rfl rfl Tryd.func47 (by kernel_rfl) rfl #[.int .i64 (l0.length : Int), .int .i64 1, .int .i64 200] rfl (by (try simp only [List.map_toArray, List.map_cons, List.map_nil]); first | done | rfl | (simp only [List.length_drop, List.length_take]; rfl)) ?_; (with_reducible refine (spec_l1In.calls (l0.length : Int) 1 200 true _ A2.out).mono ?_); rintro e w' ⟨rfl, ⟨nd, rfl⟩⟩; refine ⟨_, rfl, ?_⟩))
    go_loopg [16] k (fun kq v16 w' => ∃ (x16_1 : Int), v16 = .int .i64 x16_1 ∧ Aside0 (spec_GoodComb.l0 kq l0 l0 (l0.length : Int) x16_1 = some r) ∧ Aside0 (kq ≤ k) ∧ Aside0 (Below w.heap.size w w'))
    case atStart => exact ⟨(0), (by first | rfl | (simp; done) | (simp [*]; done)), H', ⟨Nat.le_refl _⟩, ⟨by repeat (first | (with_reducible first | exact HB.out | apply below_alloc | apply pw_below_drewN | apply below_drew1) | exact HB.out)⟩⟩
    case round =>
      clear H'
      try clear c2
      try clear p2
      try clear c3
      obtain ⟨x16_1, rfl, HA, HK1, HB⟩ := hrel
      cases gk with
      | zero => exact absurd HA.out (by simp [spec_GoodComb.l0])
      | succ k1 =>
        have H := HA.out
        clear HA
        simp only [spec_GoodComb.l0] at H
        by_cases c4 : x16_1 < (l0.length : Int)
        · rw [if_pos c4] at H
          have c4b0 : decide (x16_1 < (l0.length : Int)) = true := decide_eq_true c4
          clear c4
          by_cases c5 : 0 ≤ x16_1
          · rw [if_pos c5] at H
            have c5b0 : decide (0 ≤ x16_1) = true := decide_eq_true c5
            clear c5
            by_cases c6 : x16_1 < (l0.length : Int)
            · rw [if_pos c6] at H
              have c6b0 : decide (x16_1 < (l0.length : Int)) = true := decide_eq_true c6
              clear c6
              have HC7 := aM H
              clear H
              have p102 : 0 ≤ (x16_1 : Int) := of_decide_eq_true (by first | (with_reducible assumption) | assumption)
              have q102 : x16_1 < (l0.length : Int) := of_decide_eq_true (by first | (with_reducible assumption) | assumption)
              obtain ⟨ad102, e102, hx102_0, hx102_1, hx102_2⟩ := at_T51 HR0.out x16_1 p102 q102
              cases e102
              replace hx102_0 := (HB.out.cell (World.block_lt_of_cell? w _ hx102_0)).trans hx102_0
              replace hx102_1 := (HB.out.cell (World.block_lt_of_cell? w _ hx102_1)).trans hx102_1
              replace hx102_2 := (HB.out.cell (World.block_lt_of_cell? w _ hx102_2)).trans hx102_2
              replace p102 := eq_true p102
              replace q102 := eq_true q102
              go_upto_region 6 with (first | ((with_reducible refine gate_dst (N := 4) rfl ?_); (try (refine gate_guard (by rfl) ?_; dsimp only)); refine box_event ?hg (N := 4) ?hd (cs := #[.int .i64 0, .int .i64 0, .int .i64 0]) (t := 51) ?hr ?_; (case hd => rfl); (case hg => rfl); (case hr => first | (go_simp; done) | (go_simp; rfl)); intro gb103 hg w8 hbox hb; have n0_ := aM (below_step (by repeat (first | (with_reducible first | exact HB.out | apply below_alloc | apply pw_below_drewN | apply below_drew1) | exact HB.out)) hb); have n1_ := aM (hbox); have n2_ := aM ((by rw [hg]; exact (below_size (by repeat (first | (with_reducible first | exact HB.out | apply below_alloc | apply pw_below_drewN | apply below_drew1) | exact HB.out))) : w.heap.size ≤ gb103)); have n3_ := aM ((by rw [hg]; exact (below_size (by repeat (first | (with_reducible first | exact HB.out | apply below_alloc | apply pw_below_drewN | apply below_drew1) | exact HB.out))) : w.heap.size ≤ gb103)); clear HB; have HB := n0_; have BK103 := n1_; have GW103 := n2_; have GE103 := n3_; clear n0_ n1_ n2_ n3_; clear hb hbox hg; have hcz9_0 : w8.cell? ⟨gb103, 0, none⟩ = some (.int .i64 0) := (blk_cell BK103.out 0).trans rfl; have hcz9_1 : w8.cell? ⟨gb103, 1, none⟩ = some (.int .i64 0) := (blk_cell BK103.out 1).trans rfl; have hcz9_2 : w8.cell? ⟨gb103, 2, none⟩ = some (.int .i64 0) := (blk_cell BK103.out 2).trans rfl; have hfz9_0 := blk_frozen BK103.out 0; have hfz9_1 := blk_frozen BK103.out 1; have hfz9_2 := blk_frozen BK103.out 2))
              (try simp only [Act.put, List.setIfInBounds_toArray, List.set_cons_zero, List.set_cons_succ])
              go_cut [56] (fun v56 wc => ∃ (kq : Nat) (x56_6 : Bool), v56 = .bool x56_6 ∧ Aside0 (spec_GoodComb.j1 kq l0 x16_1 l0 (l0.length : Int) x16_1 x56_6 ((rd_T51 l0 x16_1).f0) ((rd_T51 l0 x16_1).f1) ((rd_T51 l0 x16_1).f2) = some r) ∧ Aside0 (kq ≤ k1) ∧ Aside0 (wc.heap[gb103]? = some (.cells #[.int .i64 ((rd_T51 l0 x16_1).f0), .int .i64 ((rd_T51 l0 x16_1).f1), .int .i64 ((rd_T51 l0 x16_1).f2)] 51 (0, 0))) ∧ Aside0 (Below w.heap.size w wc))
              case first =>
                have H := HC7.out
                clear HC7
                by_cases c10 : ((x16_1 == 0) != (((rd_T51 l0 x16_1).f2) == (-1))) = true
                · rw [if_pos c10] at H
                  have c10b0 : ((x16_1 == 0) != (((rd_T51 l0 x16_1).f2) == (-1))) = true := c10
                  (try (have c10b1 : decide ((x16_1 == 0) = (((rd_T51 l0 x16_1).f2) == (-1))) = false := by simpa using c10))
                  (try (have c10b2 : ((x16_1 == 0) == (((rd_T51 l0 x16_1).f2) == (-1))) = false := by simpa using c10))
                  (try (have c10b3 : ¬ ((x16_1 == 0) = (((rd_T51 l0 x16_1).f2) == (-1))) := by simpa using c10))
                  clear c10
                  (first | rw [c10b0] | (simp only [i64_w, i32_w]; rw [c10b0]) | skip)
                  have H' := aM H
                  clear H
                  have hcz11_0 : w8.cell? ⟨gb103, 0, none⟩ = some (.int .i64 0) := (blk_cell BK103.out 0).trans rfl
                  have hcz11_1 : w8.cell? ⟨gb103, 1, none⟩ = some (.int .i64 0) := (blk_cell BK103.out 1).trans rfl
                  have hcz11_2 : w8.cell? ⟨gb103, 2, none⟩ = some (.int .i64 0) := (blk_cell BK103.out 2).trans rfl
                  have hfz11_0 := blk_frozen BK103.out 0
                  have hfz11_1 := blk_frozen BK103.out 1
                  have hfz11_2 := blk_frozen BK103.out 2
                  go_wp2
                  go_meet
                  case rel => exact ⟨_, (true), (by first | rfl | (simp; done) | (simp [*]; done)), H', ⟨by have := HK1.out; first | omega | exact Nat.le_refl _⟩, ⟨by (with_reducible repeat (first | refine bN ?_ _ | refine bD ?_ | refine bA ?_ _)); refine blk_put (cs := #[.int .i64 ((rd_T51 l0 x16_1).f0), .int .i64 ((rd_T51 l0 x16_1).f1), .int .i64 0]) ?_ 2 _ rfl; (with_reducible repeat (first | refine bN ?_ _ | refine bD ?_ | refine bA ?_ _)); refine blk_put (cs := #[.int .i64 ((rd_T51 l0 x16_1).f0), .int .i64 0, .int .i64 0]) ?_ 1 _ rfl; (with_reducible repeat (first | refine bN ?_ _ | refine bD ?_ | refine bA ?_ _)); refine blk_put (cs := #[.int .i64 0, .int .i64 0, .int .i64 0]) ?_ 0 _ rfl; (with_reducible repeat (first | refine bN ?_ _ | refine bD ?_ | refine bA ?_ _)); exact BK103.out⟩, ⟨by repeat (first | (with_reducible first | exact HB.out | apply below_alloc | apply pw_below_drewN | apply below_drew1 | refine below_set ?_ GE103.out) | exact HB.out)⟩⟩
                · rw [if_neg c10] at H
                  have c10b0 : ((x16_1 == 0) != (((rd_T51 l0 x16_1).f2) == (-1))) = false := by simpa using c10
                  (try (have c10b1 : decide ((x16_1 == 0) = (((rd_T51 l0 x16_1).f2) == (-1))) = true := by simpa using c10))
                  (try (have c10b2 : ((x16_1 == 0) == (((rd_T51 l0 x16_1).f2) == (-1))) = true := by simpa using c10))
                  clear c10
                  (first | rw [c10b0] | (simp only [i64_w, i32_w]; rw [c10b0]) | skip)
                  replace H := Option.bind_eq_some_iff.mp H
                  obtain ⟨t104, A120, H⟩ := H
                  replace H : (if t104 = true then ((spec_l1In.f ((rd_T51 l0 x16_1).f0) 1 5).bind fun t105 => (if t105 = true then ((spec_l1In.f ((rd_T51 l0 x16_1).f1) 0 999).bind fun t106 => (if t106 = true then (if ((rd_T51 l0 x16_1).f0) = 1 then (spec_GoodComb.j1 k1 l0 x16_1 l0 (l0.length : Int) x16_1 false ((rd_T51 l0 x16_1).f0) ((rd_T51 l0 x16_1).f1) ((rd_T51 l0 x16_1).f2)) else (spec_GoodComb.j1 k1 l0 x16_1 l0 (l0.length : Int) x16_1 (((rd_T51 l0 x16_1).f1) != 0) ((rd_T51 l0 x16_1).f0) ((rd_T51 l0 x16_1).f1) ((rd_T51 l0 x16_1).f2))) else (spec_GoodComb.j1 k1 l0 x16_1 l0 (l0.length : Int) x16_1 true ((rd_T51 l0 x16_1).f0) ((rd_T51 l0 x16_1).f1) ((rd_T51 l0 x16_1).f2)))) else (spec_GoodComb.j1 k1 l0 x16_1 l0 (l0.length : Int) x16_1 true ((rd_T51 l0 x16_1).f0) ((rd_T51 l0 x16_1).f1) ((rd_T51 l0 x16_1).f2)))) else (spec_GoodComb.j1 k1 l0 x16_1 l0 (l0.length : Int) x16_1 true ((rd_T51 l0 x16_1).f0) ((rd_T51 l0 x16_1).f1) ((rd_T51 l0 x16_1).f2))) = some r := H
                  have A12 := aM A120
                  clear A120
                  by_cases c13 : t104 = true
                  · subst c13
                    have H1 : ((spec_l1In.f ((rd_T51 l0 x16_1).f0) 1 5).bind fun t105 => (if t105 = true then ((spec_l1In.f ((rd_T51 l0 x16_1).f1) 0 999).bind fun t106 => (if t106 = true then (if ((rd_T51 l0 x16_1).f0) = 1 then (spec_GoodComb.j1 k1 l0 x16_1 l0 (l0.length : Int) x16_1 false ((rd_T51 l0 x16_1).f0) ((rd_T51 l0 x16_1).f1) ((rd_T51 l0 x16_1).f2)) else (spec_GoodComb.j1 k1 l0 x16_1 l0 (l0.length : Int) x16_1 (((rd_T51 l0 x16_1).f1) != 0) ((rd_T51 l0 x16_1).f0) ((rd_T51 l0 x16_1).f1) ((rd_T51 l0 x16_1).f2))) else (spec_GoodComb.j1 k1 l0 x16_1 l0 (l0.length : Int) x16_1 true ((rd_T51 l0 x16_1).f0) ((rd_T51 l0 x16_1).f1) ((rd_T51 l0 x16_1).f2)))) else (spec_GoodComb.j1 k1 l0 x16_1 l0 (l0.length : Int) x16_1 true ((rd_T51 l0 x16_1).f0) ((rd_T51 l0 x16_1).f1) ((rd_T51 l0 x16_1).f2)))) = some r := by rw [if_pos rfl] at H; exact H
                    clear H
                    have H := H1
                    clear H1
                    replace H := Option.bind_eq_some_iff.mp H
                    obtain ⟨t105, A140, H⟩ := H
                    replace H : (if t105 = true then ((spec_l1In.f ((rd_T51 l0 x16_1).f1) 0 999).bind fun t106 => (if t106 = true then (if ((rd_T51 l0 x16_1).f0) = 1 then (spec_GoodComb.j1 k1 l0 x16_1 l0 (l0.length : Int) x16_1 false ((rd_T51 l0 x16_1).f0) ((rd_T51 l0 x16_1).f1) ((rd_T51 l0 x16_1).f2)) else (spec_GoodComb.j1 k1 l0 x16_1 l0 (l0.length : Int) x16_1 (((rd_T51 l0 x16_1).f1) != 0) ((rd_T51 l0 x16_1).f0) ((rd_T51 l0 x16_1).f1) ((rd_T51 l0 x16_1).f2))) else (spec_GoodComb.j1 k1 l0 x16_1 l0 (l0.length : Int) x16_1 true ((rd_T51 l0 x16_1).f0) ((rd_T51 l0 x16_1).f1) ((rd_T51 l0 x16_1).f2)))) else (spec_GoodComb.j1 k1 l0 x16_1 l0 (l0.length : Int) x16_1 true ((rd_T51 l0 x16_1).f0) ((rd_T51 l0 x16_1).f1) ((rd_T51 l0 x16_1).f2))) = some r := H
                    have A14 := aM A140
                    clear A140
                    by_cases c15 : t105 = true
                    · subst c15
                      have H1 : ((spec_l1In.f ((rd_T51 l0 x16_1).f1) 0 999).bind fun t106 => (if t106 = true then (if ((rd_T51 l0 x16_1).f0) = 1 then (spec_GoodComb.j1 k1 l0 x16_1 l0 (l0.length : Int) x16_1 false ((rd_T51 l0 x16_1).f0) ((rd_T51 l0 x16_1).f1) ((rd_T51 l0 x16_1).f2)) else (spec_GoodComb.j1 k1 l0 x16_1 l0 (l0.length : Int) x16_1 (((rd_T51 l0 x16_1).f1) != 0) ((rd_T51 l0 x16_1).f0) ((rd_T51 l0 x16_1).f1) ((rd_T51 l0 x16_1).f2))) else (spec_GoodComb.j1 k1 l0 x16_1 l0 (l0.length : Int) x16_1 true ((rd_T51 l0 x16_1).f0) ((rd_T51 l0 x16_1).f1) ((rd_T51 l0 x16_1).f2)))) = some r := by rw [if_pos rfl] at H; exact H
                      clear H
                      have H := H1
                      clear H1
                      replace H := Option.bind_eq_some_iff.mp H
                      obtain ⟨t106, A160, H⟩ := H
                      replace H : (if t106 = true then (if ((rd_T51 l0 x16_1).f0) = 1 then (spec_GoodComb.j1 k1 l0 x16_1 l0 (l0.length : Int) x16_1 false ((rd_T51 l0 x16_1).f0) ((rd_T51 l0 x16_1).f1) ((rd_T51 l0 x16_1).f2)) else (spec_GoodComb.j1 k1 l0 x16_1 l0 (l0.length : Int) x16_1 (((rd_T51 l0 x16_1).f1) != 0) ((rd_T51 l0 x16_1).f0) ((rd_T51 l0 x16_1).f1) ((rd_T51 l0 x16_1).f2))) else (spec_GoodComb.j1 k1 l0 x16_1 l0 (l0.length : Int) x16_1 true ((rd_T51 l0 x16_1).f0) ((rd_T51 l0 x16_1).f1) ((rd_T51 l0 x16_1).f2))) = some r := H
                      have A16 := aM A160
                      clear A160
                      by_cases c17 : t106 = true
                      · subst c17
                        have H1 : (if ((rd_T51 l0 x16_1).f0) = 1 then (spec_GoodComb.j1 k1 l0 x16_1 l0 (l0.length : Int) x16_1 false ((rd_T51 l0 x16_1).f0) ((rd_T51 l0 x16_1).f1) ((rd_T51 l0 x16_1).f2)) else (spec_GoodComb.j1 k1 l0 x16_1 l0 (l0.length : Int) x16_1 (((rd_T51 l0 x16_1).f1) != 0) ((rd_T51 l0 x16_1).f0) ((rd_T51 l0 x16_1).f1) ((rd_T51 l0 x16_1).f2))) = some r := by rw [if_pos rfl] at H; exact H
                        clear H
                        have H := H1
                        clear H1
                        by_cases c18 : ((rd_T51 l0 x16_1).f0) = 1
                        · rw [if_pos c18] at H
                          have c18b0 : (((rd_T51 l0 x16_1).f0) == 1) = true := beq_iff_eq.mpr c18
                          have c18b1 : (((rd_T51 l0 x16_1).f0) != 1) = false := bne_eq_false_iff_eq.mpr c18
                          clear c18
                          have H' := aM H
                          clear H
                          have hcz19_0 : w8.cell? ⟨gb103, 0, none⟩ = some (.int .i64 0) := (blk_cell BK103.out 0).trans rfl
                          have hcz19_1 : w8.cell? ⟨gb103, 1, none⟩ = some (.int .i64 0) := (blk_cell BK103.out 1).trans rfl
                          have hcz19_2 : w8.cell? ⟨gb103, 2, none⟩ = some (.int .i64 0) := (blk_cell BK103.out 2).trans rfl
                          have hfz19_0 := blk_frozen BK103.out 0
                          have hfz19_1 := blk_frozen BK103.out 1
                          have hfz19_2 := blk_frozen BK103.out 2
                          go_wp2_with (first | (go_at_call 47; (with_reducible refine (spec_l1In.calls ((rd_T51 l0 x16_1).f2) (-1) (wrap64 (x16_1 - 1)) true _ A12.out).mono ?_); rintro e w' ⟨rfl, ⟨nd, rfl⟩⟩) | (go_at_call 47; (with_reducible refine (spec_l1In.calls ((rd_T51 l0 x16_1).f0) 1 5 true _ A14.out).mono ?_); rintro e w' ⟨rfl, ⟨nd, rfl⟩⟩) | (go_at_call 47; (with_reducible refine (spec_l1In.calls ((rd_T51 l0 x16_1).f1) 0 999 true _ A16.out).mono ?_); rintro e w' ⟨rfl, ⟨nd, rfl⟩⟩))
                          go_meet
                          case rel => exact ⟨_, (false), (by first | rfl | (simp; done) | (simp [*]; done)), H', ⟨by have := HK1.out; first | omega | exact Nat.le_refl _⟩, ⟨by (with_reducible repeat (first | refine bN ?_ _ | refine bD ?_ | refine bA ?_ _)); refine blk_put (cs := #[.int .i64 ((rd_T51 l0 x16_1).f0), .int .i64 ((rd_T51 l0 x16_1).f1), .int .i64 0]) ?_ 2 _ rfl; (with_reducible repeat (first | refine bN ?_ _ | refine bD ?_ | refine bA ?_ _)); refine blk_put (cs := #[.int .i64 ((rd_T51 l0 x16_1).f0), .int .i64 0, .int .i64 0]) ?_ 1 _ rfl; (with_reducible repeat (first | refine bN ?_ _ | refine bD ?_ | refine bA ?_ _)); refine blk_put (cs := #[.int .i64 0, .int .i64 0, .int .i64 0]) ?_ 0 _ rfl; (with_reducible repeat (first | refine bN ?_ _ | refine bD ?_ | refine bA ?_ _)); exact BK103.out⟩, ⟨by repeat (first | (with_reducible first | exact HB.out | apply below_alloc | apply pw_below_drewN | apply below_drew1 | refine below_set ?_ GE103.out) | exact HB.out)⟩⟩
                        · rw [if_neg c18] at H
                          have c18b0 : (((rd_T51 l0 x16_1).f0) == 1) = false := beq_eq_false_iff_ne.mpr c18
                          have c18b1 : (((rd_T51 l0 x16_1).f0) != 1) = true := bne_iff_ne.mpr c18
                          have H' := aM H
                          clear H
                          have hcz20_0 : w8.cell? ⟨gb103, 0, none⟩ = some (.int .i64 0) := (blk_cell BK103.out 0).trans rfl
                          have hcz20_1 : w8.cell? ⟨gb103, 1, none⟩ = some (.int .i64 0) := (blk_cell BK103.out 1).trans rfl
                          have hcz20_2 : w8.cell? ⟨gb103, 2, none⟩ = some (.int .i64 0) := (blk_cell BK103.out 2).trans rfl
                          have hfz20_0 := blk_frozen BK103.out 0
                          have hfz20_1 := blk_frozen BK103.out 1
                          have hfz20_2 := blk_frozen BK103.out 2
                          go_wp2_with (first | (go_at_call 47; (with_reducible refine (spec_l1In.calls ((rd_T51 l0 x16_1).f2) (-1) (wrap64 (x16_1 - 1)) true _ A12.out).mono ?_); rintro e w' ⟨rfl, ⟨nd, rfl⟩⟩) | (go_at_call 47; (with_reducible refine (spec_l1In.calls ((rd_T51 l0 x16_1).f0) 1 5 true _ A14.out).mono ?_); rintro e w' ⟨rfl, ⟨nd, rfl⟩⟩) | (go_at_call 47; (with_reducible refine (spec_l1In.calls ((rd_T51 l0 x16_1).f1) 0 999 true _ A16.out).mono ?_); rintro e w' ⟨rfl, ⟨nd, rfl⟩⟩))
                          go_meet
                          case rel => exact ⟨_, ((((rd_T51 l0 x16_1).f1) != 0)), (by first | rfl | (simp; done) | (simp [*]; done)), H', ⟨by have := HK1.out; first | omega | exact Nat.le_refl _⟩, ⟨by (with_reducible repeat (first | refine bN ?_ _ | refine bD ?_ | refine bA ?_ _)); refine blk_put (cs := #[.int .i64 ((rd_T51 l0 x16_1).f0), .int .i64 ((rd_T51 l0 x16_1).f1), .int .i64 0]) ?_ 2 _ rfl; (with_reducible repeat (first | refine bN ?_ _ | refine bD ?_ | refine bA ?_ _)); refine blk_put (cs := #[.int .i64 ((rd_T51 l0 x16_1).f0), .int .i64 0, .int .i64 0]) ?_ 1 _ rfl; (with_reducible repeat (first | refine bN ?_ _ | refine bD ?_ | refine bA ?_ _)); refine blk_put (cs := #[.int .i64 0, .int .i64 0, .int .i64 0]) ?_ 0 _ rfl; (with_reducible repeat (first | refine bN ?_ _ | refine bD ?_ | refine bA ?_ _)); exact BK103.out⟩, ⟨by repeat (first | (with_reducible first | exact HB.out | apply below_alloc | apply pw_below_drewN | apply below_drew1 | refine below_set ?_ GE103.out) | exact HB.out)⟩⟩
                      · replace c17 := Bool.eq_false_iff.mpr c17
                        subst c17
                        have H1 : (spec_GoodComb.j1 k1 l0 x16_1 l0 (l0.length : Int) x16_1 true ((rd_T51 l0 x16_1).f0) ((rd_T51 l0 x16_1).f1) ((rd_T51 l0 x16_1).f2)) = some r := by rw [if_neg (show ¬ (false = true) by decide)] at H; exact H
                        clear H
                        have H := H1
                        clear H1
                        have H' := aM H
                        clear H
                        have hcz21_0 : w8.cell? ⟨gb103, 0, none⟩ = some (.int .i64 0) := (blk_cell BK103.out 0).trans rfl
                        have hcz21_1 : w8.cell? ⟨gb103, 1, none⟩ = some (.int .i64 0) := (blk_cell BK103.out 1).trans rfl
                        have hcz21_2 : w8.cell? ⟨gb103, 2, none⟩ = some (.int .i64 0) := (blk_cell BK103.out 2).trans rfl
                        have hfz21_0 := blk_frozen BK103.out 0
                        have hfz21_1 := blk_frozen BK103.out 1
                        have hfz21_2 := blk_frozen BK103.out 2
                        go_wp2_with (first | (go_at_call 47; (with_reducible refine (spec_l1In.calls ((rd_T51 l0 x16_1).f2) (-1) (wrap64 (x16_1 - 1)) true _ A12.out).mono ?_); rintro e w' ⟨rfl, ⟨nd, rfl⟩⟩) | (go_at_call 47; (with_reducible refine (spec_l1In.calls ((rd_T51 l0 x16_1).f0) 1 5 true _ A14.out).mono ?_); rintro e w' ⟨rfl, ⟨nd, rfl⟩⟩) | (go_at_call 47; (with_reducible refine (spec_l1In.calls ((rd_T51 l0 x16_1).f1) 0 999 false _ A16.out).mono ?_); rintro e w' ⟨rfl, ⟨nd, rfl⟩⟩))
                        go_meet
                        case rel => exact ⟨_, (true), (by first | rfl | (simp; done) | (simp [*]; done)), H', ⟨by have := HK1.out; first | omega | exact Nat.le_refl _⟩, ⟨by (with_reducible repeat (first | refine bN ?_ _ | refine bD ?_ | refine bA ?_ _)); refine blk_put (cs := #[.int .i64 ((rd_T51 l0 x16_1).f0), .int .i64 ((rd_T51 l0 x16_1).f1), .int .i64 0]) ?_ 2 _ rfl; (with_reducible repeat (first | refine bN ?_ _ | refine bD ?_ | refine bA ?_ _)); refine blk_put (cs := #[.int .i64 ((rd_T51 l0 x16_1).f0), .int .i64 0, .int .i64 0]) ?_ 1 _ rfl; (with_reducible repeat (first | refine bN ?_ _ | refine bD ?_ | refine bA ?_ _)); refine blk_put (cs := #[.int .i64 0, .int .i64 0, .int .i64 0]) ?_ 0 _ rfl; (with_reducible repeat (first | refine bN ?_ _ | refine bD ?_ | refine bA ?_ _)); exact BK103.out⟩, ⟨by repeat (first | (with_reducible first | exact HB.out | apply below_alloc | apply pw_below_drewN | apply below_drew1 | refine below_set ?_ GE103.out) | exact HB.out)⟩⟩
                    · replace c15 := Bool.eq_false_iff.mpr c15
                      subst c15
                      have H1 : (spec_GoodComb.j1 k1 l0 x16_1 l0 (l0.length : Int) x16_1 true ((rd_T51 l0 x16_1).f0) ((rd_T51 l0 x16_1).f1) ((rd_T51 l0 x16_1).f2)) = some r := by rw [if_neg (show ¬ (false = true) by decide)] at H; exact H
                      clear H
                      have H := H1
                      clear H1
                      have H' := aM H
                      clear H
                      have hcz22_0 : w8.cell? ⟨gb103, 0, none⟩ = some (.int .i64 0) := (blk_cell BK103.out 0).trans rfl
                      have hcz22_1 : w8.cell? ⟨gb103, 1, none⟩ = some (.int .i64 0) := (blk_cell BK103.out 1).trans rfl
                      have hcz22_2 : w8.cell? ⟨gb103, 2, none⟩ = some (.int .i64 0) := (blk_cell BK103.out 2).trans rfl
                      have hfz22_0 := blk_frozen BK103.out 0
                      have hfz22_1 := blk_frozen BK103.out 1
                      have hfz22_2 := blk_frozen BK103.out 2
                      go_wp2_with (first | (go_at_call 47; (with_reducible refine (spec_l1In.calls ((rd_T51 l0 x16_1).f2) (-1) (wrap64 (x16_1 - 1)) true _ A12.out).mono ?_); rintro e w' ⟨rfl, ⟨nd, rfl⟩⟩) | (go_at_call 47; (with_reducible refine (spec_l1In.calls ((rd_T51 l0 x16_1).f0) 1 5 false _ A14.out).mono ?_); rintro e w' ⟨rfl, ⟨nd, rfl⟩⟩))
                      go_meet
                      case rel => exact ⟨_, (true), (by first | rfl | (simp; done) | (simp [*]; done)), H', ⟨by have := HK1.out; first | omega | exact Nat.le_refl _⟩, ⟨by (with_reducible repeat (first | refine bN ?_ _ | refine bD ?_ | refine bA ?_ _)); refine blk_put (cs := #[.int .i64 ((rd_T51 l0 x16_1).f0), .int .i64 ((rd_T51 l0 x16_1).f1), .int .i64 0]) ?_ 2 _ rfl; (with_reducible repeat (first | refine bN ?_ _ | refine bD ?_ | refine bA ?_ _)); refine blk_put (cs := #[.int .i64 ((rd_T51 l0 x16_1).f0), .int .i64 0, .int .i64 0]) ?_ 1 _ rfl; (with_reducible repeat (first | refine bN ?_ _ | refine bD ?_ | refine bA ?_ _)); refine blk_put (cs := #[.int .i64 0, .int .i64 0, .int .i64 0]) ?_ 0 _ rfl; (with_reducible repeat (first | refine bN ?_ _ | refine bD ?_ | refine bA ?_ _)); exact BK103.out⟩, ⟨by repeat (first | (with_reducible first | exact HB.out | apply below_alloc | apply pw_below_drewN | apply below_drew1 | refine below_set ?_ GE103.out) | exact HB.out)⟩⟩
                  · replace c13 := Bool.eq_false_iff.mpr c13
                    subst c13
                    have H1 : (spec_GoodComb.j1 k1 l0 x16_1 l0 (l0.length : Int) x16_1 true ((rd_T51 l0 x16_1).f0) ((rd_T51 l0 x16_1).f1) ((rd_T51 l0 x16_1).f2)) = some r := by rw [if_neg (show ¬ (false = true) by decide)] at H; exact H
                    clear H
                    have H := H1
                    clear H1
                    have H' := aM H
                    clear H
                    have hcz23_0 : w8.cell? ⟨gb103, 0, none⟩ = some (.int .i64 0) := (blk_cell BK103.out 0).trans rfl
                    have hcz23_1 : w8.cell? ⟨gb103, 1, none⟩ = some (.int .i64 0) := (blk_cell BK103.out 1).trans rfl
                    have hcz23_2 : w8.cell? ⟨gb103, 2, none⟩ = some (.int .i64 0) := (blk_cell BK103.out 2).trans rfl
                    have hfz23_0 := blk_frozen BK103.out 0
                    have hfz23_1 := blk_frozen BK103.out 1
                    have hfz23_2 := blk_frozen BK103.out 2
                    go_wp2_with (first | (go_at_call 47; (with_reducible refine (spec_l1In.calls ((rd_T51 l0 x16_1).f2) (-1) (wrap64 (x16_1 - 1)) false _ A12.out).mono ?_); rintro e w' ⟨rfl, ⟨nd, rfl⟩⟩))
                    go_meet
                    case rel => exact ⟨_, (true), (by first | rfl | (simp; done) | (simp [*]; done)), H', ⟨by have := HK1.out; first | omega | exact Nat.le_refl _⟩, ⟨by (with_reducible repeat (first | refine bN ?_ _ | refine bD ?_ | refine bA ?_ _)); refine blk_put (cs := #[.int .i64 ((rd_T51 l0 x16_1).f0), .int .i64 ((rd_T51 l0 x16_1).f1), .int .i64 0]) ?_ 2 _ rfl; (with_reducible repeat (first | refine bN ?_ _ | refine bD ?_ | refine bA ?_ _)); refine blk_put (cs := #[.int .i64 ((rd_T51 l0 x16_1).f0), .int .i64 0, .int .i64 0]) ?_ 1 _ rfl; (with_reducible repeat (first | refine bN ?_ _ | refine bD ?_ | refine bA ?_ _)); refine blk_put (cs := #[.int .i64 0, .int .i64 0, .int .i64 0]) ?_ 0 _ rfl; (with_reducible repeat (first | refine bN ?_ _ | refine bD ?_ | refine bA ?_ _)); exact BK103.out⟩, ⟨by repeat (first | (with_reducible first | exact HB.out | apply below_alloc | apply pw_below_drewN | apply below_drew1 | refine below_set ?_ GE103.out) | exact HB.out)⟩⟩
              case rest =>
                clear HC7
                try clear c1
                try clear p1
                try clear q1
                try clear hx1
                try clear c2
                try clear p2
                try clear c3
                try clear c4
                try clear c4b0
                try clear c5
                try clear c5b0
                try clear c6
                try clear c6b0
                try clear p6
                try clear c10
                try clear c10b0
                try clear c10b1
                try clear c10b2
                try clear p10
                try clear q10
                try clear hx10
                try clear c13
                try clear c15
                try clear c17
                try clear c18
                try clear c18b0
                try clear c18b1
                try clear hcz11_0
                try clear hcz11_1
                try clear hcz11_2
                try clear hcz19_0
                try clear hcz19_1
                try clear hcz19_2
                try clear hcz20_0
                try clear hcz20_1
                try clear hcz20_2
                try clear hcz21_0
                try clear hcz21_1
                try clear hcz21_2
                try clear hcz22_0
                try clear hcz22_1
                try clear hcz22_2
                try clear hcz23_0
                try clear hcz23_1
                try clear hcz23_2
                try clear hcz9_0
                try clear hcz9_1
                try clear hcz9_2
                try clear hfz11_0
                try clear hfz11_1
                try clear hfz11_2
                try clear hfz19_0
                try clear hfz19_1
                try clear hfz19_2
                try clear hfz20_0
                try clear hfz20_1
                try clear hfz20_2
                try clear hfz21_0
                try clear hfz21_1
                try clear hfz21_2
                try clear hfz22_0
                try clear hfz22_1
                try clear hfz22_2
                try clear hfz23_0
                try clear hfz23_1
                try clear hfz23_2
                try clear hfz9_0
                try clear hfz9_1
                try clear hfz9_2
                try clear hx102_0
                try clear hx102_1
                try clear hx102_2
                try clear p102
                try clear p2
                try clear q102
                obtain ⟨kq, x56_6, rfl, HA, HJ6, BK103, HB⟩ := hcut
                cases kq with
                | zero => exact absurd HA.out (by simp [spec_GoodComb.j1])
                | succ kj6 =>
                  have H := HA.out
                  clear HA
                  simp only [spec_GoodComb.j1] at H
                  by_cases c24 : x56_6 = true
                  · subst c24
                    have H1 : (some false) = some r := by rw [if_pos rfl] at H; exact H
                    clear H
                    have H := H1
                    clear H1
                    obtain rfl := Option.some.inj H
                    go_wp2
                    go_ret
                    exact ⟨by first | rfl | (simp [errW_none, errW_some] <;> rfl) | (simp [*, errW_none, errW_some] <;> rfl), by repeat (first | (with_reducible first | exact HB.out | apply below_alloc | apply pw_below_drewN | apply below_drew1 | refine below_set ?_ GE103.out) | exact HB.out)⟩
                  · replace c24 := Bool.eq_false_iff.mpr c24
                    subst c24
                    have H1 : (spec_GoodComb.l1 kj6 l0 x16_1 (x16_1 == 0) (wrap64 (x16_1 - 1)) l0 (l0.length : Int) x16_1 ((rd_T51 l0 x16_1).f0) ((rd_T51 l0 x16_1).f1) ((rd_T51 l0 x16_1).f2)) = some r := by rw [if_neg (show ¬ (false = true) by decide)] at H; exact H
                    clear H
                    have H := H1
                    clear H1
                    have HC25 := aM H
                    clear H
                    go_upto_block 2 with (fail)
                    go_cut [5] (fun v5 wc => ∃ (kq : Nat) (x5_24 : Bool), v5 = .bool x5_24 ∧ Aside0 (spec_GoodComb.j3 kq l0 x16_1 x5_24 l0 (l0.length : Int) x16_1 ((rd_T51 l0 x16_1).f0) ((rd_T51 l0 x16_1).f1) ((rd_T51 l0 x16_1).f2) = some r) ∧ Aside0 (kq ≤ kj6) ∧ Aside0 (wc.heap[gb103]? = some (.cells #[.int .i64 ((rd_T51 l0 x16_1).f0), .int .i64 ((rd_T51 l0 x16_1).f1), .int .i64 ((rd_T51 l0 x16_1).f2)] 51 (0, 0))) ∧ Aside0 (Below w.heap.size w wc))
                    case first =>
                      have H := HC25.out
                      clear HC25
                      have H' := aM H
                      clear H
                      go_wp2
                      go_loopg [5, 6] kj6 (fun kq v5 v6 w' => ∃ (x5_3 : Bool) (x6_3 : Int), v5 = .bool x5_3 ∧ v6 = .int .i64 x6_3 ∧ Aside0 (spec_GoodComb.l1 kq l0 x16_1 x5_3 x6_3 l0 (l0.length : Int) x16_1 ((rd_T51 l0 x16_1).f0) ((rd_T51 l0 x16_1).f1) ((rd_T51 l0 x16_1).f2) = some r) ∧ Aside0 (kq ≤ kj6) ∧ Aside0 (w'.heap[gb103]? = some (.cells #[.int .i64 ((rd_T51 l0 x16_1).f0), .int .i64 ((rd_T51 l0 x16_1).f1), .int .i64 ((rd_T51 l0 x16_1).f2)] 51 (0, 0))) ∧ Aside0 (Below w.heap.size w w'))
                      case atStart => exact ⟨((x16_1 == 0)), (wrap64 (x16_1 - 1)), (by first | rfl | (simp; done) | (simp [*]; done)), (by first | rfl | (simp; done) | (simp [*]; done)), H', ⟨Nat.le_refl _⟩, ⟨by (with_reducible repeat (first | refine bN ?_ _ | refine bD ?_ | refine bA ?_ _)); exact BK103.out⟩, ⟨by repeat (first | (with_reducible first | exact HB.out | apply below_alloc | apply pw_below_drewN | apply below_drew1 | refine below_set ?_ GE103.out) | exact HB.out)⟩⟩
                      case round =>
                        clear H'
                        try clear c1
                        try clear p1
                        try clear q1
                        try clear hx1
                        try clear c2
                        try clear p2
                        try clear c3
                        try clear c4
                        try clear c4b0
                        try clear c5
                        try clear c5b0
                        try clear c6
                        try clear c6b0
                        try clear p6
                        try clear c10
                        try clear c10b0
                        try clear c10b1
                        try clear c10b2
                        try clear p10
                        try clear q10
                        try clear hx10
                        try clear c13
                        try clear c15
                        try clear c17
                        try clear c18
                        try clear c18b0
                        try clear c18b1
                        try clear c24
                        try clear c25
                        try clear hcz11_0
                        try clear hcz11_1
                        try clear hcz11_2
                        try clear hcz19_0
                        try clear hcz19_1
                        try clear hcz19_2
                        try clear hcz20_0
                        try clear hcz20_1
                        try clear hcz20_2
                        try clear hcz21_0
                        try clear hcz21_1
                        try clear hcz21_2
                        try clear hcz22_0
                        try clear hcz22_1
                        try clear hcz22_2
                        try clear hcz23_0
                        try clear hcz23_1
                        try clear hcz23_2
                        try clear hcz9_0
                        try clear hcz9_1
                        try clear hcz9_2
                        try clear hfz11_0
                        try clear hfz11_1
                        try clear hfz11_2
                        try clear hfz19_0
                        try clear hfz19_1
                        try clear hfz19_2
                        try clear hfz20_0
                        try clear hfz20_1
                        try clear hfz20_2
                        try clear hfz21_0
                        try clear hfz21_1
                        try clear hfz21_2
                        try clear hfz22_0
                        try clear hfz22_1
                        try clear hfz22_2
                        try clear hfz23_0
                        try clear hfz23_1
                        try clear hfz23_2
                        try clear hfz9_0
                        try clear hfz9_1
                        try clear hfz9_2
                        try clear hx102_0
                        try clear hx102_1
                        try clear hx102_2
                        try clear p1
                        try clear p10
                        try clear p102
                        try clear p2
                        try clear p6
                        try clear q1
                        try clear q10
                        try clear q102
                        obtain ⟨x5_3, x6_3, rfl, rfl, HA, HK3, BK103, HB⟩ := hrel
                        cases gk with
                        | zero => exact absurd HA.out (by simp [spec_GoodComb.l1])
                        | succ k3 =>
                          have H := HA.out
                          clear HA
                          simp only [spec_GoodComb.l1] at H
                          by_cases c26 : x6_3 ≥ 0
                          · rw [if_pos c26] at H
                            have c26b0 : decide (0 ≤ x6_3) = true := decide_eq_true c26
                            clear c26
                            (first | rw [c26b0] | (simp only [i64_w, i32_w]; rw [c26b0]) | skip)
                            by_cases c27 : x5_3 = true
                            · subst c27
                              have H1 : (spec_GoodComb.j3 k3 l0 x16_1 true l0 (l0.length : Int) x16_1 ((rd_T51 l0 x16_1).f0) ((rd_T51 l0 x16_1).f1) ((rd_T51 l0 x16_1).f2)) = some r := by rw [if_pos rfl] at H; exact H
                              clear H
                              have H := H1
                              clear H1
                              have H' := aM H
                              clear H
                              go_wp2
                              go_meet
                              case rel => exact ⟨_, (true), (by first | rfl | (simp; done) | (simp [*]; done)), H', ⟨by have := HK1.out; have := HJ6.out; have := HK3.out; first | omega | exact Nat.le_refl _⟩, ⟨by (with_reducible repeat (first | refine bN ?_ _ | refine bD ?_ | refine bA ?_ _)); exact BK103.out⟩, ⟨by repeat (first | (with_reducible first | exact HB.out | apply below_alloc | apply pw_below_drewN | apply below_drew1 | refine below_set ?_ GE103.out) | exact HB.out)⟩⟩
                            · replace c27 := Bool.eq_false_iff.mpr c27
                              subst c27
                              have H1 : (if 0 ≤ x6_3 then (if x6_3 < (l0.length : Int) then (spec_GoodComb.l1 k3 l0 x16_1 (x6_3 == ((rd_T51 l0 x16_1).f2)) ((rd_T51 l0 x6_3).f2) l0 (l0.length : Int) x16_1 ((rd_T51 l0 x16_1).f0) ((rd_T51 l0 x16_1).f1) ((rd_T51 l0 x16_1).f2)) else (none)) else (none)) = some r := by rw [if_neg (show ¬ (false = true) by decide)] at H; exact H
                              clear H
                              have H := H1
                              clear H1
                              by_cases c28 : 0 ≤ x6_3
                              · rw [if_pos c28] at H
                                have c28b0 : decide (0 ≤ x6_3) = true := decide_eq_true c28
                                clear c28
                                by_cases c29 : x6_3 < (l0.length : Int)
                                · rw [if_pos c29] at H
                                  have c29b0 : decide (x6_3 < (l0.length : Int)) = true := decide_eq_true c29
                                  clear c29
                                  have H' := aM H
                                  clear H
                                  have hcz30_0 : wr.cell? ⟨gb103, 0, none⟩ = some (.int .i64 ((rd_T51 l0 x16_1).f0)) := (blk_cell BK103.out 0).trans rfl
                                  have hcz30_1 : wr.cell? ⟨gb103, 1, none⟩ = some (.int .i64 ((rd_T51 l0 x16_1).f1)) := (blk_cell BK103.out 1).trans rfl
                                  have hcz30_2 : wr.cell? ⟨gb103, 2, none⟩ = some (.int .i64 ((rd_T51 l0 x16_1).f2)) := (blk_cell BK103.out 2).trans rfl
                                  have hfz30_0 := blk_frozen BK103.out 0
                                  have hfz30_1 := blk_frozen BK103.out 1
                                  have hfz30_2 := blk_frozen BK103.out 2
                                  have p107 : 0 ≤ (x6_3 : Int) := of_decide_eq_true (by first | (with_reducible assumption) | assumption)
                                  have q107 : x6_3 < (l0.length : Int) := of_decide_eq_true (by first | (with_reducible assumption) | assumption)
                                  obtain ⟨ad107, e107, hx107_0, hx107_1, hx107_2⟩ := at_T51 HR0.out x6_3 p107 q107
                                  obtain rfl : ad102 = ad107 := (by injection e107)
                                  replace hx107_0 := (HB.out.cell (World.block_lt_of_cell? w _ hx107_0)).trans hx107_0
                                  replace hx107_1 := (HB.out.cell (World.block_lt_of_cell? w _ hx107_1)).trans hx107_1
                                  replace hx107_2 := (HB.out.cell (World.block_lt_of_cell? w _ hx107_2)).trans hx107_2
                                  replace p107 := eq_true p107
                                  replace q107 := eq_true q107
                                  go_wp2
                                  go_roundg k3
                                  case measure => have := HK1.out; have := HJ6.out; have := HK3.out; omega
                                  case rel => exact ⟨((x6_3 == ((rd_T51 l0 x16_1).f2))), ((rd_T51 l0 x6_3).f2), (by first | rfl | (simp; done) | (simp [*]; done)), (by first | rfl | (simp; done) | (simp [*]; done)), H', ⟨by have := HK1.out; have := HJ6.out; have := HK3.out; omega⟩, ⟨by (with_reducible repeat (first | refine bN ?_ _ | refine bD ?_ | refine bA ?_ _)); exact BK103.out⟩, ⟨by repeat (first | (with_reducible first | exact HB.out | apply below_alloc | apply pw_below_drewN | apply below_drew1 | refine below_set ?_ GE103.out) | exact HB.out)⟩⟩
                                · rw [if_neg c29] at H
                                  exact absurd H (by simp)
                              · rw [if_neg c28] at H
                                exact absurd H (by simp)
                          · rw [if_neg c26] at H
                            have c26b0 : decide (0 ≤ x6_3) = false := decide_eq_false c26
                            clear c26
                            (first | rw [c26b0] | (simp only [i64_w, i32_w]; rw [c26b0]) | skip)
                            have H' := aM H
                            clear H
                            go_wp2
                            go_meet
                            case rel => exact ⟨_, (x5_3), (by first | rfl | (simp; done) | (simp [*]; done)), H', ⟨by have := HK1.out; have := HJ6.out; have := HK3.out; first | omega | exact Nat.le_refl _⟩, ⟨by (with_reducible repeat (first | refine bN ?_ _ | refine bD ?_ | refine bA ?_ _)); exact BK103.out⟩, ⟨by repeat (first | (with_reducible first | exact HB.out | apply below_alloc | apply pw_below_drewN | apply below_drew1 | refine below_set ?_ GE103.out) | exact HB.out)⟩⟩
                    case rest =>
                      clear HC25
                      try clear c1
                      try clear p1
                      try clear q1
                      try clear hx1
                      try clear c2
                      try clear p2
                      try clear c3
                      try clear c4
                      try clear c4b0
                      try clear c5
                      try clear c5b0
                      try clear c6
                      try clear c6b0
                      try clear p6
                      try clear c10
                      try clear c10b0
                      try clear c10b1
                      try clear c10b2
                      try clear p10
                      try clear q10
                      try clear hx10
                      try clear c13
                      try clear c15
                      try clear c17
                      try clear c18
                      try clear c18b0
                      try clear c18b1
                      try clear c24
                      try clear c25
                      try clear c26
                      try clear c26b0
                      try clear c27
                      try clear c28
                      try clear c28b0
                      try clear c29
                      try clear c29b0
                      try clear hcz11_0
                      try clear hcz11_1
                      try clear hcz11_2
                      try clear hcz19_0
                      try clear hcz19_1
                      try clear hcz19_2
                      try clear hcz20_0
                      try clear hcz20_1
                      try clear hcz20_2
                      try clear hcz21_0
                      try clear hcz21_1
                      try clear hcz21_2
                      try clear hcz22_0
                      try clear hcz22_1
                      try clear hcz22_2
                      try clear hcz23_0
                      try clear hcz23_1
                      try clear hcz23_2
                      try clear hcz30_0
                      try clear hcz30_1
                      try clear hcz30_2
                      try clear hcz9_0
                      try clear hcz9_1
                      try clear hcz9_2
                      try clear hfz11_0
                      try clear hfz11_1
                      try clear hfz11_2
                      try clear hfz19_0
                      try clear hfz19_1
                      try clear hfz19_2
                      try clear hfz20_0
                      try clear hfz20_1
                      try clear hfz20_2
                      try clear hfz21_0
                      try clear hfz21_1
                      try clear hfz21_2
                      try clear hfz22_0
                      try clear hfz22_1
                      try clear hfz22_2
                      try clear hfz23_0
                      try clear hfz23_1
                      try clear hfz23_2
                      try clear hfz30_0
                      try clear hfz30_1
                      try clear hfz30_2
                      try clear hfz9_0
                      try clear hfz9_1
                      try clear hfz9_2
                      try clear hx102_0
                      try clear hx102_1
                      try clear hx102_2
                      try clear hx107_0
                      try clear hx107_1
                      try clear hx107_2
                      try clear p1
                      try clear p10
                      try clear p102
                      try clear p107
                      try clear p2
                      try clear p6
                      try clear q1
                      try clear q10
                      try clear q102
                      try clear q107
                      obtain ⟨kq, x5_24, rfl, HA, HJ24, BK103, HB⟩ := hcut
                      cases kq with
                      | zero => exact absurd HA.out (by simp [spec_GoodComb.j3])
                      | succ kj24 =>
                        have H := HA.out
                        clear HA
                        simp only [spec_GoodComb.j3] at H
                        have H' := aM H
                        clear H
                        go_wp2
                        go_loopg [7, 8] kj24 (fun kq v7 v8 w' => ∃ (x7_4 : Int) (x8_4 : Int), v7 = .int .i64 x7_4 ∧ v8 = .int .i64 x8_4 ∧ Aside0 (spec_GoodComb.l2 kq l0 x16_1 x5_24 x7_4 x8_4 l0 (l0.length : Int) x16_1 ((rd_T51 l0 x16_1).f0) ((rd_T51 l0 x16_1).f1) ((rd_T51 l0 x16_1).f2) = some r) ∧ Aside0 (kq ≤ kj24) ∧ Aside0 (w'.heap[gb103]? = some (.cells #[.int .i64 ((rd_T51 l0 x16_1).f0), .int .i64 ((rd_T51 l0 x16_1).f1), .int .i64 ((rd_T51 l0 x16_1).f2)] 51 (0, 0))) ∧ Aside0 (Below w.heap.size w w'))
                        case atStart => exact ⟨(0), (x16_1), (by first | rfl | (simp; done) | (simp [*]; done)), (by first | rfl | (simp; done) | (simp [*]; done)), H', ⟨Nat.le_refl _⟩, ⟨by (with_reducible repeat (first | refine bN ?_ _ | refine bD ?_ | refine bA ?_ _)); exact BK103.out⟩, ⟨by repeat (first | (with_reducible first | exact HB.out | apply below_alloc | apply pw_below_drewN | apply below_drew1 | refine below_set ?_ GE103.out) | exact HB.out)⟩⟩
                        case round =>
                          clear H'
                          try clear c1
                          try clear p1
                          try clear q1
                          try clear hx1
                          try clear c2
                          try clear p2
                          try clear c3
                          try clear c4
                          try clear c4b0
                          try clear c5
                          try clear c5b0
                          try clear c6
                          try clear c6b0
                          try clear p6
                          try clear c10
                          try clear c10b0
                          try clear c10b1
                          try clear c10b2
                          try clear p10
                          try clear q10
                          try clear hx10
                          try clear c13
                          try clear c15
                          try clear c17
                          try clear c18
                          try clear c18b0
                          try clear c18b1
                          try clear c24
                          try clear c25
                          try clear c26
                          try clear c26b0
                          try clear c27
                          try clear c28
                          try clear c28b0
                          try clear c29
                          try clear c29b0
                          try clear hcz11_0
                          try clear hcz11_1
                          try clear hcz11_2
                          try clear hcz19_0
                          try clear hcz19_1
                          try clear hcz19_2
                          try clear hcz20_0
                          try clear hcz20_1
                          try clear hcz20_2
                          try clear hcz21_0
                          try clear hcz21_1
                          try clear hcz21_2
                          try clear hcz22_0
                          try clear hcz22_1
                          try clear hcz22_2
                          try clear hcz23_0
                          try clear hcz23_1
                          try clear hcz23_2
                          try clear hcz30_0
                          try clear hcz30_1
                          try clear hcz30_2
                          try clear hcz9_0
                          try clear hcz9_1
                          try clear hcz9_2
                          try clear hfz11_0
                          try clear hfz11_1
                          try clear hfz11_2
                          try clear hfz19_0
                          try clear hfz19_1
                          try clear hfz19_2
                          try clear hfz20_0
                          try clear hfz20_1
                          try clear hfz20_2
                          try clear hfz21_0
                          try clear hfz21_1
                          try clear hfz21_2
                          try clear hfz22_0
                          try clear hfz22_1
                          try clear hfz22_2
                          try clear hfz23_0
                          try clear hfz23_1
                          try clear hfz23_2
                          try clear hfz30_0
                          try clear hfz30_1
                          try clear hfz30_2
                          try clear hfz9_0
                          try clear hfz9_1
                          try clear hfz9_2
                          try clear hx102_0
                          try clear hx102_1
                          try clear hx102_2
                          try clear hx107_0
                          try clear hx107_1
                          try clear hx107_2
                          try clear p1
                          try clear p10
                          try clear p102
                          try clear p107
                          try clear p2
                          try clear p6
                          try clear q1
                          try clear q10
                          try clear q102
                          try clear q107
                          obtain ⟨x7_4, x8_4, rfl, rfl, HA, HK4, BK103, HB⟩ := hrel
                          cases gk with
                          | zero => exact absurd HA.out (by simp [spec_GoodComb.l2])
                          | succ k4 =>
                            have H := HA.out
                            clear HA
                            simp only [spec_GoodComb.l2] at H
                            by_cases c31 : x8_4 ≥ 0
                            · rw [if_pos c31] at H
                              have c31b0 : decide (0 ≤ x8_4) = true := decide_eq_true c31
                              clear c31
                              by_cases c32 : 0 ≤ x8_4
                              · rw [if_pos c32] at H
                                have c32b0 : decide (0 ≤ x8_4) = true := decide_eq_true c32
                                clear c32
                                by_cases c33 : x8_4 < (l0.length : Int)
                                · rw [if_pos c33] at H
                                  have c33b0 : decide (x8_4 < (l0.length : Int)) = true := decide_eq_true c33
                                  clear c33
                                  have H' := aM H
                                  clear H
                                  have p108 : 0 ≤ (x8_4 : Int) := of_decide_eq_true (by first | (with_reducible assumption) | assumption)
                                  have q108 : x8_4 < (l0.length : Int) := of_decide_eq_true (by first | (with_reducible assumption) | assumption)
                                  obtain ⟨ad108, e108, hx108_0, hx108_1, hx108_2⟩ := at_T51 HR0.out x8_4 p108 q108
                                  obtain rfl : ad102 = ad108 := (by injection e108)
                                  replace hx108_0 := (HB.out.cell (World.block_lt_of_cell? w _ hx108_0)).trans hx108_0
                                  replace hx108_1 := (HB.out.cell (World.block_lt_of_cell? w _ hx108_1)).trans hx108_1
                                  replace hx108_2 := (HB.out.cell (World.block_lt_of_cell? w _ hx108_2)).trans hx108_2
                                  replace p108 := eq_true p108
                                  replace q108 := eq_true q108
                                  go_wp2
                                  go_roundg k4
                                  case measure => have := HK1.out; have := HJ6.out; have := HJ24.out; have := HK4.out; omega
                                  case rel => exact ⟨(wrap64 (x7_4 + 1)), ((rd_T51 l0 x8_4).f2), (by first | rfl | (simp; done) | (simp [*]; done)), (by first | rfl | (simp; done) | (simp [*]; done)), H', ⟨by have := HK1.out; have := HJ6.out; have := HJ24.out; have := HK4.out; omega⟩, ⟨by (with_reducible repeat (first | refine bN ?_ _ | refine bD ?_ | refine bA ?_ _)); exact BK103.out⟩, ⟨by repeat (first | (with_reducible first | exact HB.out | apply below_alloc | apply pw_below_drewN | apply below_drew1 | refine below_set ?_ GE103.out) | exact HB.out)⟩⟩
                                · rw [if_neg c33] at H
                                  exact absurd H (by simp)
                              · rw [if_neg c32] at H
                                exact absurd H (by simp)
                            · rw [if_neg c31] at H
                              have c31b0 : decide (0 ≤ x8_4) = false := decide_eq_false c31
                              clear c31
                              by_cases c34 : ((rd_T51 l0 x16_1).f0) = 2
                              · rw [if_pos c34] at H
                                have c34b0 : (((rd_T51 l0 x16_1).f0) == 2) = true := beq_iff_eq.mpr c34
                                have c34b1 : (((rd_T51 l0 x16_1).f0) != 2) = false := bne_eq_false_iff_eq.mpr c34
                                clear c34
                                by_cases c35 : x5_24 = true
                                · subst c35
                                  have H1 : (if x7_4 > 60 then (some false) else ((spec_ldParts.f k4 l0 x16_1).bind fun t109 => (if (t109.length : Int) = 2 then (spec_GoodComb.l0 k4 l0 l0 (l0.length : Int) (wrap64 (x16_1 + 1))) else (some false)))) = some r := by rw [if_pos rfl] at H; exact H
                                  clear H
                                  have H := H1
                                  clear H1
                                  by_cases c36 : x7_4 > 60
                                  · rw [if_pos c36] at H
                                    have c36b0 : decide (60 < x7_4) = true := decide_eq_true c36
                                    clear c36
                                    obtain rfl := Option.some.inj H
                                    have hcz37_0 : wr.cell? ⟨gb103, 0, none⟩ = some (.int .i64 ((rd_T51 l0 x16_1).f0)) := (blk_cell BK103.out 0).trans rfl
                                    have hcz37_1 : wr.cell? ⟨gb103, 1, none⟩ = some (.int .i64 ((rd_T51 l0 x16_1).f1)) := (blk_cell BK103.out 1).trans rfl
                                    have hcz37_2 : wr.cell? ⟨gb103, 2, none⟩ = some (.int .i64 ((rd_T51 l0 x16_1).f2)) := (blk_cell BK103.out 2).trans rfl
                                    have hfz37_0 := blk_frozen BK103.out 0
                                    have hfz37_1 := blk_frozen BK103.out 1
                                    have hfz37_2 := blk_frozen BK103.out 2
                                    go_wp2
                                    go_ret
                                    exact ⟨by first | rfl | (simp [errW_none, errW_some] <;> rfl) | (simp [*, errW_none, errW_some] <;> rfl), by repeat (first | (with_reducible first | exact HB.out | apply below_alloc | apply pw_below_drewN | apply below_drew1 | refine below_set ?_ GE103.out) | exact HB.out)⟩
                                  · rw [if_neg c36] at H
                                    have c36b0 : decide (60 < x7_4) = false := decide_eq_false c36
                                    clear c36
                                    replace H := Option.bind_eq_some_iff.mp H
                                    obtain ⟨t109, A380, H⟩ := H
                                    replace H : (if (t109.length : Int) = 2 then (spec_GoodComb.l0 k4 l0 l0 (l0.length : Int) (wrap64 (x16_1 + 1))) else (some false)) = some r := H
                                    have A38 := aM A380
                                    clear A380
                                    by_cases c39 : (t109.length : Int) = 2
                                    · rw [if_pos c39] at H
                                      have c39b0 : ((t109.length : Int) == 2) = true := beq_iff_eq.mpr c39
                                      have c39b1 : ((t109.length : Int) != 2) = false := bne_eq_false_iff_eq.mpr c39
                                      clear c39
                                      have H' := aM H
                                      clear H
                                      have hcz40_0 : wr.cell? ⟨gb103, 0, none⟩ = some (.int .i64 ((rd_T51 l0 x16_1).f0)) := (blk_cell BK103.out 0).trans rfl
                                      have hcz40_1 : wr.cell? ⟨gb103, 1, none⟩ = some (.int .i64 ((rd_T51 l0 x16_1).f1)) := (blk_cell BK103.out 1).trans rfl
                                      have hcz40_2 : wr.cell? ⟨gb103, 2, none⟩ = some (.int .i64 ((rd_T51 l0 x16_1).f2)) := (blk_cell BK103.out 2).trans rfl
                                      have hfz40_0 := blk_frozen BK103.out 0
                                      have hfz40_1 := blk_frozen BK103.out 1
                                      have hfz40_2 := blk_frozen BK103.out 2
                                      go_wp2_with (first | (go_at_call 48; (with_reducible refine (spec_ldParts.calls k4 _ _ l0 x16_1 t109 _ ?side1 ?side2 A38.out).mono ?_); (case side1 => repeat (first | exact (Kd.C_below HR0.out HB.out) | (with_reducible refine Kd.C_alloc ?_ _) | (with_reducible refine Kd.C_drewN ?_ _) | (with_reducible refine Kd.C_drew ?_))); (case side2 => exact HC0.out); rintro e w41 ⟨v110, rfl, ho0, hb⟩; have n0_ := aM (Kd.R_lower ho0 (below_size (by repeat (first | (with_reducible first | exact HB.out | apply below_alloc | apply pw_below_drewN | apply below_drew1 | refine below_set ?_ GE103.out) | exact HB.out)))); have n1_ := aM (blk_below (g := gb103) (o := .cells #[.int .i64 ((rd_T51 l0 x16_1).f0), .int .i64 ((rd_T51 l0 x16_1).f1), .int .i64 ((rd_T51 l0 x16_1).f2)] 51 (0, 0)) (by (with_reducible repeat (first | refine bN ?_ _ | refine bD ?_ | refine bA ?_ _)); exact BK103.out) hb); have n2_ := aM (below_step (by repeat (first | (with_reducible first | exact HB.out | apply below_alloc | apply pw_below_drewN | apply below_drew1 | refine below_set ?_ GE103.out) | exact HB.out)) hb); clear BK103; clear HB; have HO111 := n0_; have BK103 := n1_; have HB := n2_; clear n0_ n1_ n2_; (try clear hb); (try clear hb2); (try clear hk); (try clear hi); (try clear ho0); obtain ⟨Ao42, co42, eo42⟩ := Kd.R_slice HO111.out; subst eo42))
                                      go_roundg k4
                                      case measure => have := HK1.out; have := HJ6.out; have := HJ24.out; have := HK4.out; omega
                                      case rel => exact ⟨(wrap64 (x16_1 + 1)), (by first | rfl | (simp; done) | (simp [*]; done)), H', ⟨by have := HK1.out; have := HJ6.out; have := HJ24.out; have := HK4.out; omega⟩, ⟨by repeat (first | (with_reducible first | exact HB.out | apply below_alloc | apply pw_below_drewN | apply below_drew1 | refine below_set ?_ GE103.out) | exact HB.out)⟩⟩
                                    · rw [if_neg c39] at H
                                      have c39b0 : ((t109.length : Int) == 2) = false := beq_eq_false_iff_ne.mpr c39
                                      have c39b1 : ((t109.length : Int) != 2) = true := bne_iff_ne.mpr c39
                                      obtain rfl := Option.some.inj H
                                      have hcz43_0 : wr.cell? ⟨gb103, 0, none⟩ = some (.int .i64 ((rd_T51 l0 x16_1).f0)) := (blk_cell BK103.out 0).trans rfl
                                      have hcz43_1 : wr.cell? ⟨gb103, 1, none⟩ = some (.int .i64 ((rd_T51 l0 x16_1).f1)) := (blk_cell BK103.out 1).trans rfl
                                      have hcz43_2 : wr.cell? ⟨gb103, 2, none⟩ = some (.int .i64 ((rd_T51 l0 x16_1).f2)) := (blk_cell BK103.out 2).trans rfl
                                      have hfz43_0 := blk_frozen BK103.out 0
                                      have hfz43_1 := blk_frozen BK103.out 1
                                      have hfz43_2 := blk_frozen BK103.out 2
                                      go_wp2_with (first | (go_at_call 48; (with_reducible refine (spec_ldParts.calls k4 _ _ l0 x16_1 t109 _ ?side1 ?side2 A38.out).mono ?_); (case side1 => repeat (first | exact (Kd.C_below HR0.out HB.out) | (with_reducible refine Kd.C_alloc ?_ _) | (with_reducible refine Kd.C_drewN ?_ _) | (with_reducible refine Kd.C_drew ?_))); (case side2 => exact HC0.out); rintro e w44 ⟨v110, rfl, ho0, hb⟩; have n0_ := aM (Kd.R_lower ho0 (below_size (by repeat (first | (with_reducible first | exact HB.out | apply below_alloc | apply pw_below_drewN | apply below_drew1 | refine below_set ?_ GE103.out) | exact HB.out)))); have n1_ := aM (blk_below (g := gb103) (o := .cells #[.int .i64 ((rd_T51 l0 x16_1).f0), .int .i64 ((rd_T51 l0 x16_1).f1), .int .i64 ((rd_T51 l0 x16_1).f2)] 51 (0, 0)) (by (with_reducible repeat (first | refine bN ?_ _ | refine bD ?_ | refine bA ?_ _)); exact BK103.out) hb); have n2_ := aM (below_step (by repeat (first | (with_reducible first | exact HB.out | apply below_alloc | apply pw_below_drewN | apply below_drew1 | refine below_set ?_ GE103.out) | exact HB.out)) hb); clear BK103; clear HB; have HO111 := n0_; have BK103 := n1_; have HB := n2_; clear n0_ n1_ n2_; (try clear hb); (try clear hb2); (try clear hk); (try clear hi); (try clear ho0); obtain ⟨Ao45, co45, eo45⟩ := Kd.R_slice HO111.out; subst eo45))
                                      go_ret
                                      exact ⟨by first | rfl | (simp [errW_none, errW_some] <;> rfl) | (simp [*, errW_none, errW_some] <;> rfl), by repeat (first | (with_reducible first | exact HB.out | apply below_alloc | apply pw_below_drewN | apply below_drew1 | refine below_set ?_ GE103.out) | exact HB.out)⟩
                                · replace c35 := Bool.eq_false_iff.mpr c35
                                  subst c35
                                  have H1 : (some false) = some r := by rw [if_neg (show ¬ (false = true) by decide)] at H; exact H
                                  clear H
                                  have H := H1
                                  clear H1
                                  obtain rfl := Option.some.inj H
                                  have hcz46_0 : wr.cell? ⟨gb103, 0, none⟩ = some (.int .i64 ((rd_T51 l0 x16_1).f0)) := (blk_cell BK103.out 0).trans rfl
                                  have hcz46_1 : wr.cell? ⟨gb103, 1, none⟩ = some (.int .i64 ((rd_T51 l0 x16_1).f1)) := (blk_cell BK103.out 1).trans rfl
                                  have hcz46_2 : wr.cell? ⟨gb103, 2, none⟩ = some (.int .i64 ((rd_T51 l0 x16_1).f2)) := (blk_cell BK103.out 2).trans rfl
                                  have hfz46_0 := blk_frozen BK103.out 0
                                  have hfz46_1 := blk_frozen BK103.out 1
                                  have hfz46_2 := blk_frozen BK103.out 2
                                  go_wp2
                                  go_ret
                                  exact ⟨by first | rfl | (simp [errW_none, errW_some] <;> rfl) | (simp [*, errW_none, errW_some] <;> rfl), by repeat (first | (with_reducible first | exact HB.out | apply below_alloc | apply pw_below_drewN | apply below_drew1 | refine below_set ?_ GE103.out) | exact HB.out)⟩
                              · rw [if_neg c34] at H
                                have c34b0 : (((rd_T51 l0 x16_1).f0) == 2) = false := beq_eq_false_iff_ne.mpr c34
                                have c34b1 : (((rd_T51 l0 x16_1).f0) != 2) = true := bne_iff_ne.mpr c34
                                by_cases c47 : x5_24 = true
                                · subst c47
                                  have H1 : (if x7_4 > 60 then (some false) else ((spec_ldParts.f k4 l0 x16_1).bind fun t112 => (if (t112.length : Int) = 0 then (spec_GoodComb.l0 k4 l0 l0 (l0.length : Int) (wrap64 (x16_1 + 1))) else (some false)))) = some r := by rw [if_pos rfl] at H; exact H
                                  clear H
                                  have H := H1
                                  clear H1
                                  by_cases c48 : x7_4 > 60
                                  · rw [if_pos c48] at H
                                    have c48b0 : decide (60 < x7_4) = true := decide_eq_true c48
                                    clear c48
                                    obtain rfl := Option.some.inj H
                                    have hcz49_0 : wr.cell? ⟨gb103, 0, none⟩ = some (.int .i64 ((rd_T51 l0 x16_1).f0)) := (blk_cell BK103.out 0).trans rfl
                                    have hcz49_1 : wr.cell? ⟨gb103, 1, none⟩ = some (.int .i64 ((rd_T51 l0 x16_1).f1)) := (blk_cell BK103.out 1).trans rfl
                                    have hcz49_2 : wr.cell? ⟨gb103, 2, none⟩ = some (.int .i64 ((rd_T51 l0 x16_1).f2)) := (blk_cell BK103.out 2).trans rfl
                                    have hfz49_0 := blk_frozen BK103.out 0
                                    have hfz49_1 := blk_frozen BK103.out 1
                                    have hfz49_2 := blk_frozen BK103.out 2
                                    go_wp2
                                    go_ret
                                    exact ⟨by first | rfl | (simp [errW_none, errW_some] <;> rfl) | (simp [*, errW_none, errW_some] <;> rfl), by repeat (first | (with_reducible first | exact HB.out | apply below_alloc | apply pw_below_drewN | apply below_drew1 | refine below_set ?_ GE103.out) | exact HB.out)⟩
                                  · rw [if_neg c48] at H
                                    have c48b0 : decide (60 < x7_4) = false := decide_eq_false c48
                                    clear c48
                                    replace H := Option.bind_eq_some_iff.mp H
                                    obtain ⟨t112, A500, H⟩ := H
                                    replace H : (if (t112.length : Int) = 0 then (spec_GoodComb.l0 k4 l0 l0 (l0.length : Int) (wrap64 (x16_1 + 1))) else (some false)) = some r := H
                                    have A50 := aM A500
                                    clear A500
                                    by_cases c51 : (t112.length : Int) = 0
                                    · rw [if_pos c51] at H
                                      have c51b0 : ((t112.length : Int) == 0) = true := beq_iff_eq.mpr c51
                                      have c51b1 : ((t112.length : Int) != 0) = false := bne_eq_false_iff_eq.mpr c51
                                      clear c51
                                      have H' := aM H
                                      clear H
                                      have hcz52_0 : wr.cell? ⟨gb103, 0, none⟩ = some (.int .i64 ((rd_T51 l0 x16_1).f0)) := (blk_cell BK103.out 0).trans rfl
                                      have hcz52_1 : wr.cell? ⟨gb103, 1, none⟩ = some (.int .i64 ((rd_T51 l0 x16_1).f1)) := (blk_cell BK103.out 1).trans rfl
                                      have hcz52_2 : wr.cell? ⟨gb103, 2, none⟩ = some (.int .i64 ((rd_T51 l0 x16_1).f2)) := (blk_cell BK103.out 2).trans rfl
                                      have hfz52_0 := blk_frozen BK103.out 0
                                      have hfz52_1 := blk_frozen BK103.out 1
                                      have hfz52_2 := blk_frozen BK103.out 2
                                      go_wp2_with (first | (go_at_call 48; (with_reducible refine (spec_ldParts.calls k4 _ _ l0 x16_1 t112 _ ?side1 ?side2 A50.out).mono ?_); (case side1 => repeat (first | exact (Kd.C_below HR0.out HB.out) | (with_reducible refine Kd.C_alloc ?_ _) | (with_reducible refine Kd.C_drewN ?_ _) | (with_reducible refine Kd.C_drew ?_))); (case side2 => exact HC0.out); rintro e w53 ⟨v113, rfl, ho0, hb⟩; have n0_ := aM (Kd.R_lower ho0 (below_size (by repeat (first | (with_reducible first | exact HB.out | apply below_alloc | apply pw_below_drewN | apply below_drew1 | refine below_set ?_ GE103.out) | exact HB.out)))); have n1_ := aM (blk_below (g := gb103) (o := .cells #[.int .i64 ((rd_T51 l0 x16_1).f0), .int .i64 ((rd_T51 l0 x16_1).f1), .int .i64 ((rd_T51 l0 x16_1).f2)] 51 (0, 0)) (by (with_reducible repeat (first | refine bN ?_ _ | refine bD ?_ | refine bA ?_ _)); exact BK103.out) hb); have n2_ := aM (below_step (by repeat (first | (with_reducible first | exact HB.out | apply below_alloc | apply pw_below_drewN | apply below_drew1 | refine below_set ?_ GE103.out) | exact HB.out)) hb); clear BK103; clear HB; have HO114 := n0_; have BK103 := n1_; have HB := n2_; clear n0_ n1_ n2_; (try clear hb); (try clear hb2); (try clear hk); (try clear hi); (try clear ho0); obtain ⟨Ao54, co54, eo54⟩ := Kd.R_slice HO114.out; subst eo54))
                                      go_roundg k4
                                      case measure => have := HK1.out; have := HJ6.out; have := HJ24.out; have := HK4.out; omega
                                      case rel => exact ⟨(wrap64 (x16_1 + 1)), (by first | rfl | (simp; done) | (simp [*]; done)), H', ⟨by have := HK1.out; have := HJ6.out; have := HJ24.out; have := HK4.out; omega⟩, ⟨by repeat (first | (with_reducible first | exact HB.out | apply below_alloc | apply pw_below_drewN | apply below_drew1 | refine below_set ?_ GE103.out) | exact HB.out)⟩⟩
                                    · rw [if_neg c51] at H
                                      have c51b0 : ((t112.length : Int) == 0) = false := beq_eq_false_iff_ne.mpr c51
                                      have c51b1 : ((t112.length : Int) != 0) = true := bne_iff_ne.mpr c51
                                      have c51b2 : ¬ (t112 = []) := fun h_ => c51 (by rw [h_]; rfl)
                                      obtain rfl := Option.some.inj H
                                      have hcz55_0 : wr.cell? ⟨gb103, 0, none⟩ = some (.int .i64 ((rd_T51 l0 x16_1).f0)) := (blk_cell BK103.out 0).trans rfl
                                      have hcz55_1 : wr.cell? ⟨gb103, 1, none⟩ = some (.int .i64 ((rd_T51 l0 x16_1).f1)) := (blk_cell BK103.out 1).trans rfl
                                      have hcz55_2 : wr.cell? ⟨gb103, 2, none⟩ = some (.int .i64 ((rd_T51 l0 x16_1).f2)) := (blk_cell BK103.out 2).trans rfl
                                      have hfz55_0 := blk_frozen BK103.out 0
                                      have hfz55_1 := blk_frozen BK103.out 1
                                      have hfz55_2 := blk_frozen BK103.out 2
                                      go_wp2_with (first | (go_at_call 48; (with_reducible refine (spec_ldParts.calls k4 _ _ l0 x16_1 t112 _ ?side1 ?side2 A50.out).mono ?_); (case side1 => repeat (first | exact (Kd.C_below HR0.out HB.out) | (with_reducible refine Kd.C_alloc ?_ _) | (with_reducible refine Kd.C_drewN ?_ _) | (with_reducible refine Kd.C_drew ?_))); (case side2 => exact HC0.out); rintro e w56 ⟨v113, rfl, ho0, hb⟩; have n0_ := aM (Kd.R_lower ho0 (below_size (by repeat (first | (with_reducible first | exact HB.out | apply below_alloc | apply pw_below_drewN | apply below_drew1 | refine below_set ?_ GE103.out) | exact HB.out)))); have n1_ := aM (blk_below (g := gb103) (o := .cells #[.int .i64 ((rd_T51 l0 x16_1).f0), .int .i64 ((rd_T51 l0 x16_1).f1), .int .i64 ((rd_T51 l0 x16_1).f2)] 51 (0, 0)) (by (with_reducible repeat (first | refine bN ?_ _ | refine bD ?_ | refine bA ?_ _)); exact BK103.out) hb); have n2_ := aM (below_step (by repeat (first | (with_reducible first | exact HB.out | apply below_alloc | apply pw_below_drewN | apply below_drew1 | refine below_set ?_ GE103.out) | exact HB.out)) hb); clear BK103; clear HB; have HO114 := n0_; have BK103 := n1_; have HB := n2_; clear n0_ n1_ n2_; (try clear hb); (try clear hb2); (try clear hk); (try clear hi); (try clear ho0); obtain ⟨Ao57, co57, eo57⟩ := Kd.R_slice HO114.out; subst eo57))
                                      go_ret
                                      exact ⟨by first | rfl | (simp [errW_none, errW_some] <;> rfl) | (simp [*, errW_none, errW_some] <;> rfl), by repeat (first | (with_reducible first | exact HB.out | apply below_alloc | apply pw_below_drewN | apply below_drew1 | refine below_set ?_ GE103.out) | exact HB.out)⟩
                                · replace c47 := Bool.eq_false_iff.mpr c47
                                  subst c47
                                  have H1 : (some false) = some r := by rw [if_neg (show ¬ (false = true) by decide)] at H; exact H
                                  clear H
                                  have H := H1
                                  clear H1
                                  obtain rfl := Option.some.inj H
                                  have hcz58_0 : wr.cell? ⟨gb103, 0, none⟩ = some (.int .i64 ((rd_T51 l0 x16_1).f0)) := (blk_cell BK103.out 0).trans rfl
                                  have hcz58_1 : wr.cell? ⟨gb103, 1, none⟩ = some (.int .i64 ((rd_T51 l0 x16_1).f1)) := (blk_cell BK103.out 1).trans rfl
                                  have hcz58_2 : wr.cell? ⟨gb103, 2, none⟩ = some (.int .i64 ((rd_T51 l0 x16_1).f2)) := (blk_cell BK103.out 2).trans rfl
                                  have hfz58_0 := blk_frozen BK103.out 0
                                  have hfz58_1 := blk_frozen BK103.out 1
                                  have hfz58_2 := blk_frozen BK103.out 2
                                  go_wp2
                                  go_ret
                                  exact ⟨by first | rfl | (simp [errW_none, errW_some] <;> rfl) | (simp [*, errW_none, errW_some] <;> rfl), by repeat (first | (with_reducible first | exact HB.out | apply below_alloc | apply pw_below_drewN | apply below_drew1 | refine below_set ?_ GE103.out) | exact HB.out)⟩
            · rw [if_neg c6] at H
              exact absurd H (by simp)
          · rw [if_neg c5] at H
            exact absurd H (by simp)
        · rw [if_neg c4] at H
          have c4b0 : decide (x16_1 < (l0.length : Int)) = false := decide_eq_false c4
          clear c4
          obtain rfl := Option.some.inj H
          go_wp2
          go_ret
          exact ⟨by first | rfl | (simp [errW_none, errW_some] <;> rfl) | (simp [*, errW_none, errW_some] <;> rfl), by repeat (first | (with_reducible first | exact HB.out | apply below_alloc | apply pw_below_drewN | apply below_drew1) | exact HB.out)⟩
  · replace c3 := Bool.eq_false_iff.mpr c3
    subst c3
    have H1 : (some false) = some r := by rw [if_neg (show ¬ (false = true) by decide)] at H; exact H
    clear H
    have H := H1
    clear H1
    obtain rfl := Option.some.inj H
    go_enter Tryd.func25, Tryd.ntmps25
    go_wp2_with (first | ((with_reducible refine gate_callee (f := 47) rfl ?_); refine goesL_ (some 12) rfl rfl Tryd.func47 (by kernel_rfl) rfl #[.int .i64 (l0.length : Int), .int .i64 1, .int .i64 200] rfl (by (try simp only [List.map_toArray, List.map_cons, List.map_nil]); first | done | rfl | (simp only [List.length_drop, List.length_take]; rfl)) ?_; (with_reducible refine (spec_l1In.calls (l0.length : Int) 1 200 false _ A2.out).mono ?_); rintro e w' ⟨rfl, ⟨nd, rfl⟩⟩; refine ⟨_, rfl, ?_⟩))
    go_ret
    exact ⟨by first | rfl | (simp [errW_none, errW_some] <;> rfl) | (simp [*, errW_none, errW_some] <;> rfl), by repeat (first | (with_reducible first | exact HB.out | apply below_alloc | apply pw_below_drewN | apply below_drew1) | exact HB.out)⟩

end Go.Proofs.YtcjhhdecckcibaaDoor.G

namespace Go.Proofs.YtcjhhdecckcibaaDoor.G
open Go.RowKit Go.Proofs.YtcjhhdecckcibaaDoorW.PrintWords Go.Proofs.YtcjhhdecckcibaaDoorW.PrintLast Go.Proofs.YtcjhhdecckcibaaDoorW.PrintMore Go.Proofs.YtcjhhdecckcibaaDoor.Short
attribute [local go_sem] max2_int min2_int max_two min_two max_three min_three max_four min_four   -- for this text's walks alone
set_option linter.unusedVariables false
set_option linter.unusedSimpArgs false

namespace Flat48
mutual
def flT : S48 → Int → List S51 → List S51
  | ⟨k, n, ks⟩, up, l => flL ks (l.length : Int) (l ++ [⟨k, n, up⟩])
def flL : List S48 → Int → List S51 → List S51
  | [], _, l => l
  | x :: xs, k, l => flL xs k (if l.length ≤ 200 then flT x k l else l)
end
theorem flT_eq (x : S48) (up : Int) (l : List S51) : flT x up l = flL x.f2 (l.length : Int) (l ++ [⟨x.f0, x.f1, up⟩]) := by cases x; rw [flT]
theorem flL_cons (x : S48) (xs : List S48) (k : Int) (l : List S51) : flL (x :: xs) k l = flL xs k (if l.length ≤ 200 then flT x k l else l) := by rw [flL]
theorem flL_nil (k : Int) (l : List S51) : flL [] k l = l := by rw [flL]
theorem rd_drop (l : List S48) (i : Nat) (h : i < l.length) : l.drop i = rd_T48 l (i : Int) :: l.drop (i + 1) := by
  rw [List.drop_eq_getElem_cons h]
  congr 1
  unfold rd_T48
  rw [Int.toNat_natCast, List.getD_eq_getElem?_getD, List.getElem?_eq_getElem h]; rfl
theorem rd_mem (l : List S48) (i : Int) (h0 : 0 ≤ i) (h1 : i < l.length) : rd_T48 l i ∈ l := by
  have hlt : i.toNat < l.length := by omega
  have e : rd_T48 l i = l[i.toNat] := by unfold rd_T48; rw [List.getD_eq_getElem?_getD, List.getElem?_eq_getElem hlt]; rfl
  rw [e]; exact List.getElem_mem hlt
theorem len_of : ∀ (N : Nat), (∀ (x : S48) (up : Int) (l : List S51), SizeOf.sizeOf x ≤ N → l.length ≤ 200 → (flT x up l).length ≤ 201) ∧ (∀ (xs : List S48) (k : Int) (l : List S51), SizeOf.sizeOf xs ≤ N → l.length ≤ 201 → (flL xs k l).length ≤ 201) := by
  intro N
  induction N with
  | zero =>
    refine ⟨fun x up l h => ?_, fun xs k l h => ?_⟩
    · cases x; simp at h
    · cases xs <;> simp at h
  | succ N ih =>
    refine ⟨fun x up l h hl => ?_, fun xs k l h hl => ?_⟩
    · cases x with
      | mk k n ks =>
        rw [flT]
        refine ih.2 ks _ _ (by simp at h; omega) ?_
        rw [List.length_append]; show l.length + 1 ≤ 201; omega
    · cases xs with
      | nil => rw [flL]; exact hl
      | cons x xs =>
        rw [flL]
        have h1 : SizeOf.sizeOf x ≤ N := by simp at h; omega
        have h2 : SizeOf.sizeOf xs ≤ N := by simp at h; omega
        refine ih.2 xs k _ h2 ?_
        split
        · exact ih.1 x k l h1 (by assumption)
        · exact hl
theorem flT_len (x : S48) (up : Int) (l : List S51) (h : l.length ≤ 200) : (flT x up l).length ≤ 201 := (len_of _).1 x up l (Nat.le_refl _) h

set_option maxHeartbeats 4000000 in
set_option maxRecDepth 100000 in
theorem node_some (w0 : World) (a0 a1 up : Int) (ks : List S48) (A : Option Addr) (c : Nat) (l : List S51) (A0 : Option Addr) (c0 : Nat) (w : World) (hC : Kd.C k48 w0 A ks.length ks) (hc : ks.length ≤ c) (hl : l.length ≤ 200)
    (hO : Kd.R k51 51 w w0.heap.size (fun _ => True) (.slice A0 l.length c0) l) (hB : Below w0.heap.size w0 w)
    (ih : ∀ (j : Nat) (A : Option Addr) (c : Nat) (acc : List S51) (v : Value) (w : World), j < ks.length → (rd_T48 ks (j : Int)).f2.length ≤ c → acc.length ≤ 200 → Kd.R k51 51 w w0.heap.size (fun _ => True) v acc → Below w0.heap.size w0 w → Kd.C k48 w0 A (rd_T48 ks (j : Int)).f2.length (rd_T48 ks (j : Int)).f2 →
      Calls Tryd.prog 59 #[v, .agg #[.int .i64 (rd_T48 ks (j : Int)).f0, .int .i64 (rd_T48 ks (j : Int)).f1, .slice A (rd_T48 ks (j : Int)).f2.length c], .int .i64 (l.length : Int)] w fun e w' => ∃ v2, e = .returned v2 ∧ Kd.R k51 51 w' w0.heap.size (fun _ => True) v2 (flT (rd_T48 ks (j : Int)) (l.length : Int) acc) ∧ Below w0.heap.size w0 w') :
    Calls Tryd.prog 59 #[.slice A0 l.length c0, .agg #[.int .i64 a0, .int .i64 a1, .slice A ks.length c], .int .i64 up] w fun e w' => ∃ v2, e = .returned v2 ∧ Kd.R k51 51 w' w0.heap.size (fun _ => True) v2 (flL ks (l.length : Int) (l ++ [⟨a0, a1, up⟩])) ∧ Below w0.heap.size w0 w' := by
  have hu77 := Tryd.underlying48
  have HM := aM hC.2.1
  have HC0 := aM hC
  have HL := aM hl
  have HO := aM hO
  have HB := aM hB
  have IH := aM ih
  clear hC hl hO hB ih
  go_enter Tryd.func59, Tryd.ntmps59
  go_wp2_with (first | ((with_reducible refine gate_dst (N := 4) rfl ?_); refine box_event ?hg (N := 4) ?hd (cs := #[.int .i64 a0, .int .i64 a1, .slice A ks.length c]) (t := 48) ?hr ?_; (case hd => rfl); (case hg => rfl); (case hr => first | (go_simp; done) | (go_simp; rfl)); intro gb hg w5 hbox hb; have n0_ := aM (below_step HB.out hb); have n1_ := aM (hbox); have n2_ := aM (Kd.R_below HO.out hb); clear HB HO; have HB := n0_; have BK := n1_; have HO := n2_; clear n0_ n1_ n2_; clear hb hbox hg; have hcz_0 : w5.cell? ⟨gb, 0, none⟩ = some (.int .i64 a0) := (blk_cell BK.out 0).trans rfl; have hcz_1 : w5.cell? ⟨gb, 1, none⟩ = some (.int .i64 a1) := (blk_cell BK.out 1).trans rfl; have hcz_2 : w5.cell? ⟨gb, 2, none⟩ = some (.slice A ks.length c) := (blk_cell BK.out 2).trans rfl; have hfz_0 := blk_frozen BK.out 0; have hfz_1 := blk_frozen BK.out 1; have hfz_2 := blk_frozen BK.out 2) | ((with_reducible refine gate_builtin (b := .append) (xs := #[.tmp 12, .tmp 19]) rfl ?_); at_builtin; refine Kd.R_append k51 (w0 := w0) w0.heap.size rfl (.tmp 12) (.tmp 19) 26 51 (.agg #[(.int .i64 0), (.int .i64 0), (.int .i64 0)]) 24 rfl Tryd.underlying26 info51 rfl (by decide) (by omega) (.slice A0 l.length c0) l (⟨a0, a1, up⟩ : S51) [.int .i64 a0, .int .i64 a1, .int .i64 up] (fun _ => True) (fun _ => False) rfl (by first | (go_simp; done) | (go_simp; rfl)) ?aP (fun _ hk => hk.elim) ?aF ?aO ?aB ?aS ?aL ?_; (case aP => exact k51_mkM _ _ _ (⟨a0, a1, up⟩ : S51)); (case aB => exact HB.out); (case aF => exact (fun _ _ => trivial)); (case aO => exact HO.out); (case aS => exact (below_size HB.out)); (case aL => have := HL.out; omega); intro v1 w7 ho hb hg hat; have n0_ := aM (hb); have n1_ := aM (ho); have n2_ := aM ((hg.block gb (blk_lt BK.out) (Kd.R_ne HO.out BK.out (by decide))).trans BK.out); clear HB HO BK; clear hcz_0 hfz_0 hcz_1 hfz_1 hcz_2 hfz_2; have HB := n0_; have HO := n1_; have BK := n2_; clear n0_ n1_ n2_; clear ho hb hg hat; have hcza_0 : w7.cell? ⟨gb, 0, none⟩ = some (.int .i64 a0) := (blk_cell BK.out 0).trans rfl; have hcza_1 : w7.cell? ⟨gb, 1, none⟩ = some (.int .i64 a1) := (blk_cell BK.out 1).trans rfl; have hcza_2 : w7.cell? ⟨gb, 2, none⟩ = some (.slice A ks.length c) := (blk_cell BK.out 2).trans rfl; have hfza_0 := blk_frozen BK.out 0; have hfza_1 := blk_frozen BK.out 1; have hfza_2 := blk_frozen BK.out 2))
  go_loopg [0, 24] (ks.length + 1) (fun kq v0 v24 w' => ∃ (i : Int) (acc : List S51), v24 = .int .i64 i ∧ Aside0 (Kd.R k51 51 w' w0.heap.size (fun _ => True) v0 acc) ∧ Aside0 (0 ≤ i ∧ i ≤ ks.length ∧ (kq : Int) = ks.length - i + 1) ∧ Aside0 (acc.length ≤ 201 ∧ flL (ks.drop i.toNat) (l.length : Int) acc = flL ks (l.length : Int) (l ++ [⟨a0, a1, up⟩])) ∧ Aside0 (Below w0.heap.size w0 w'))
  case atStart => exact ⟨0, l ++ [⟨a0, a1, up⟩], rfl, HO, ⟨by omega, by omega, by omega⟩, ⟨by have := HL.out; rw [List.length_append]; show l.length + 1 ≤ 201; omega, by rw [show (0 : Int).toNat = 0 from rfl, List.drop_zero]⟩, HB⟩
  case round =>
    clear HB HO BK
    obtain ⟨i, acc, rfl, HO0, HA, HF, HB⟩ := hrel
    obtain ⟨A1, c1, rfl⟩ := Kd.R_slice HO0.out
    have HO := HO0
    clear HO0
    by_cases c2 : i < (ks.length : Int)
    · have cb : decide (i < (ks.length : Int)) = true := decide_eq_true c2
      have cz : decide (0 ≤ i) = true := decide_eq_true HA.out.1
      obtain ⟨j, rfl⟩ : ∃ j : Nat, i = (j : Int) := ⟨i.toNat, by have := HA.out.1; omega⟩
      obtain ⟨ad, A2, c2_, e1, hx0, hx1, hx2, hl2, hi2⟩ := at_T48 (HC0.out) (j : Int) HA.out.1 c2
      cases e1
      simp only [Int.toNat_natCast] at hx0 hx1 hx2
      have HC2 := aM hl2
      have HR2 := aM hi2
      clear hl2 hi2
      replace hx0 := (HB.out.cell (World.block_lt_of_cell? w0 _ hx0)).trans hx0
      replace hx1 := (HB.out.cell (World.block_lt_of_cell? w0 _ hx1)).trans hx1
      replace hx2 := (HB.out.cell (World.block_lt_of_cell? w0 _ hx2)).trans hx2
      have w1 : wrap64 ((j : Int) + 1) = (j : Int) + 1 := by have := HM.out; unfold wrap64; omega
      have W1 := aM w1
      have PI := aM (show j < ks.length by omega)
      have p1 := eq_true HA.out.1
      have q1 := eq_true c2
      clear c2 w1
      have e9 : flL (ks.drop j) (l.length : Int) acc = flL (ks.drop (j + 1)) (l.length : Int) (if acc.length ≤ 200 then flT (rd_T48 ks (j : Int)) (l.length : Int) acc else acc) := by rw [rd_drop ks j PI.out, flL_cons]
      have E9 := aM e9
      clear e9
      obtain ⟨k1, rfl⟩ : ∃ m, gk = m + 1 := ⟨gk - 1, by have := HA.out; have := PI.out; omega⟩
      by_cases c3 : acc.length ≤ 200
      · have c3b : decide ((acc.length : Int) ≤ 200) = true := decide_eq_true (by omega)
        have CL := aM c3
        clear c3
        go_wp2_with (first | ((with_reducible refine gate_dst (N := 9) rfl ?_); refine box_event ?hg (N := 9) ?hd (cs := #[.int .i64 0, .int .i64 0, .slice none 0 0]) (t := 48) ?hr ?_; (case hd => rfl); (case hg => rfl); (case hr => first | (go_simp; done) | (go_simp; rfl)); intro g2 hg w9 hbox hb; have n0_ := aM (below_step HB.out hb); have n1_ := aM (hbox); have n2_ := aM (Kd.R_below HO.out hb); have n3_ := aM ((by rw [hg]; exact below_size HB.out : w0.heap.size ≤ g2)); have hy0 := (hb.cell (World.block_lt_of_cell? _ _ hx0)).trans hx0; have hy1 := (hb.cell (World.block_lt_of_cell? _ _ hx1)).trans hx1; have hy2 := (hb.cell (World.block_lt_of_cell? _ _ hx2)).trans hx2; clear hx0 hx1 hx2; have hx0 := hy0; have hx1 := hy1; have hx2 := hy2; clear hy0 hy1 hy2; clear HB HO; have HB := n0_; have BK2 := n1_; have HO := n2_; have GE2 := n3_; clear n0_ n1_ n2_ n3_; clear hb hbox hg; have hczb_0 : w9.cell? ⟨g2, 0, none⟩ = some (.int .i64 0) := (blk_cell BK2.out 0).trans rfl; have hczb_1 : w9.cell? ⟨g2, 1, none⟩ = some (.int .i64 0) := (blk_cell BK2.out 1).trans rfl; have hczb_2 : w9.cell? ⟨g2, 2, none⟩ = some (.slice none 0 0) := (blk_cell BK2.out 2).trans rfl; have hfzb_0 := blk_frozen BK2.out 0; have hfzb_1 := blk_frozen BK2.out 1; have hfzb_2 := blk_frozen BK2.out 2) | ((with_reducible refine gate_callee (f := 59) rfl ?_); refine goesL_ (some 34) rfl rfl Tryd.func59 (by kernel_rfl) rfl #[.slice A1 acc.length c1, .agg #[.int .i64 (rd_T48 ks (j : Int)).f0, .int .i64 (rd_T48 ks (j : Int)).f1, .slice A2 (rd_T48 ks (j : Int)).f2.length c2_], .int .i64 (l.length : Int)] rfl (by (try simp only [List.map_toArray, List.map_cons, List.map_nil]); first | done | rfl) ?_; refine (IH.out j A2 c2_ acc (.slice A1 acc.length c1) _ (PI.out) HC2.out (by have := CL.out; omega) (Kd.R_mono (Kd.R_far (p := ⟨g2, 2, none⟩) (Kd.R_far (p := ⟨g2, 1, none⟩) (Kd.R_far (p := ⟨g2, 0, none⟩) (Kd.R_types HO.out BK2.out (by decide)) (fun _ hk => hk.2) (.int .i64 (rd_T48 ks (j : Int)).f0)) (fun _ hk => hk.2) (.int .i64 (rd_T48 ks (j : Int)).f1)) (fun _ hk => hk.2) (.slice A2 (rd_T48 ks (j : Int)).f2.length c2_)) (fun _ hk => hk.1)) (below_set (below_set (below_set HB.out GE2.out) GE2.out) GE2.out) HR2.out).mono ?_; rintro e w7 ⟨v2, rfl, ho2, hb2⟩; refine ⟨_, rfl, ?_⟩; have n0_ := aM hb2; have n1_ := aM ho2; clear HB HO BK2; have HB := n0_; have HO := n1_; clear n0_ n1_; clear ho2 hb2))
        go_roundg k1
        case measure => omega
        case rel => exact ⟨(j : Int) + 1, _, by first | rfl | rw [W1.out], HO, ⟨by have := HA.out; omega, by have := PI.out; omega, by have := HA.out; omega⟩, ⟨flT_len _ _ _ CL.out, by rw [← HF.out.2, show ((j : Int) + 1).toNat = j + 1 by omega, show ((j : Int)).toNat = j by omega, E9.out, if_pos CL.out]⟩, HB⟩
      · have c3b : decide ((acc.length : Int) ≤ 200) = false := decide_eq_false (by omega)
        have CL := aM c3
        clear c3
        go_wp2_with ((with_reducible refine gate_dst (N := 9) rfl ?_); refine box_event ?hg (N := 9) ?hd (cs := #[.int .i64 0, .int .i64 0, .slice none 0 0]) (t := 48) ?hr ?_; (case hd => rfl); (case hg => rfl); (case hr => first | (go_simp; done) | (go_simp; rfl)); intro g2 hg w9 hbox hb; have n0_ := aM (below_step HB.out hb); have n1_ := aM (hbox); have n2_ := aM (Kd.R_below HO.out hb); have n3_ := aM ((by rw [hg]; exact below_size HB.out : w0.heap.size ≤ g2)); have hy0 := (hb.cell (World.block_lt_of_cell? _ _ hx0)).trans hx0; have hy1 := (hb.cell (World.block_lt_of_cell? _ _ hx1)).trans hx1; have hy2 := (hb.cell (World.block_lt_of_cell? _ _ hx2)).trans hx2; clear hx0 hx1 hx2; have hx0 := hy0; have hx1 := hy1; have hx2 := hy2; clear hy0 hy1 hy2; clear HB HO; have HB := n0_; have BK2 := n1_; have HO := n2_; have GE2 := n3_; clear n0_ n1_ n2_ n3_; clear hb hbox hg; have hczb_0 : w9.cell? ⟨g2, 0, none⟩ = some (.int .i64 0) := (blk_cell BK2.out 0).trans rfl; have hczb_1 : w9.cell? ⟨g2, 1, none⟩ = some (.int .i64 0) := (blk_cell BK2.out 1).trans rfl; have hczb_2 : w9.cell? ⟨g2, 2, none⟩ = some (.slice none 0 0) := (blk_cell BK2.out 2).trans rfl; have hfzb_0 := blk_frozen BK2.out 0; have hfzb_1 := blk_frozen BK2.out 1; have hfzb_2 := blk_frozen BK2.out 2)
        go_roundg k1
        case measure => omega
        case rel => exact ⟨(j : Int) + 1, acc, by first | rfl | rw [W1.out], ⟨(Kd.R_mono (Kd.R_far (p := ⟨g2, 2, none⟩) (Kd.R_far (p := ⟨g2, 1, none⟩) (Kd.R_far (p := ⟨g2, 0, none⟩) (Kd.R_types HO.out BK2.out (by decide)) (fun _ hk => hk.2) (.int .i64 (rd_T48 ks (j : Int)).f0)) (fun _ hk => hk.2) (.int .i64 (rd_T48 ks (j : Int)).f1)) (fun _ hk => hk.2) (.slice A2 (rd_T48 ks (j : Int)).f2.length c2_)) (fun _ hk => hk.1))⟩, ⟨by have := HA.out; omega, by have := PI.out; omega, by have := HA.out; omega⟩, ⟨HF.out.1, by rw [← HF.out.2, show ((j : Int) + 1).toNat = j + 1 by omega, show ((j : Int)).toNat = j by omega, E9.out, if_neg CL.out]⟩, ⟨(below_set (below_set (below_set HB.out GE2.out) GE2.out) GE2.out)⟩⟩
    · have cb : decide (i < (ks.length : Int)) = false := decide_eq_false c2
      have hi : i.toNat = ks.length := by have := HA.out; omega
      have e := HF.out.2
      rw [hi, List.drop_length, flL_nil] at e
      have E := aM e
      clear c2 hi e
      go_wp2
      go_ret
      exact ⟨_, rfl, by rw [← E.out]; exact HO.out, HB.out⟩

theorem flat_some (w0 : World) : ∀ (N : Nat) (x : S48) (up : Int) (A : Option Addr) (c : Nat) (l : List S51) (v : Value) (w : World), SizeOf.sizeOf x.f2 ≤ N → x.f2.length ≤ c → l.length ≤ 200 → Kd.R k51 51 w w0.heap.size (fun _ => True) v l → Below w0.heap.size w0 w → Kd.C k48 w0 A x.f2.length x.f2 →
    Calls Tryd.prog 59 #[v, .agg #[.int .i64 x.f0, .int .i64 x.f1, .slice A x.f2.length c], .int .i64 up] w fun e w' => ∃ v2, e = .returned v2 ∧ Kd.R k51 51 w' w0.heap.size (fun _ => True) v2 (flT x up l) ∧ Below w0.heap.size w0 w' := by
  intro N
  induction N with
  | zero =>
    intro x up A c l v w hN
    cases h : x.f2 with
    | nil => rw [h] at hN; simp at hN
    | cons y ys => rw [h] at hN; simp at hN
  | succ N ih =>
    intro x up A c l v w hN hc hl hO hB hC
    obtain ⟨A0, c0, rfl⟩ := Kd.R_slice hO
    rw [flT_eq]
    refine node_some w0 x.f0 x.f1 up x.f2 A c l A0 c0 w hC hc hl hO hB fun j A2 c2 acc v2 w2 hj hc2 hacc hO2 hB2 hC2 => ?_
    refine ih (rd_T48 x.f2 (j : Int)) (l.length : Int) A2 c2 acc v2 w2 ?_ hc2 hacc hO2 hB2 hC2
    have h1 := List.sizeOf_lt_of_mem (rd_mem x.f2 (j : Int) (by omega) (by omega))
    have h2 : ∀ y : S48, SizeOf.sizeOf y.f2 < SizeOf.sizeOf y := fun y => by cases y; simp; omega
    have h3 := h2 (rd_T48 x.f2 (j : Int))
    omega
end Flat48

def spec_ldTold.f (k : Nat) (a0_0 : Int) (a0_1 : Int) (l0_2 : List (S48)) : Option ((List (S51)) × Bool) := (spec_GoodComb.f k (Flat48.flT ⟨a0_0, a0_1, l0_2⟩ (-1) [])).bind fun b => (if b = true then (some (Flat48.flT ⟨a0_0, a0_1, l0_2⟩ (-1) [], true)) else (some (([] : List S51), false)))
set_option maxHeartbeats 4000000 in
set_option maxRecDepth 100000 in
theorem spec_ldTold.calls (k : Nat) (a0_0 : Int) (a0_1 : Int) (A0_2 : Option Addr) (c0_2 : Nat) (l0_2 : List (S48)) (r1 : List (S51)) (r2 : Bool) (w : World) (hr0_2 : Kd.C k48 w A0_2 l0_2.length l0_2) (hc0_2 : l0_2.length ≤ c0_2) (h : spec_ldTold.f k a0_0 a0_1 l0_2 = some (r1, r2)) :
    Calls Tryd.prog 40 #[.agg #[.int .i64 a0_0, .int .i64 a0_1, .slice A0_2 l0_2.length c0_2]] w fun e w' => ∃ v0_ : Value, e = .returned (.tuple #[v0_, .bool r2]) ∧ Kd.R k51 51 w' w.heap.size (fun _ => True) v0_ r1 ∧ Below w.heap.size w w' := by
  have hu77 := Tryd.underlying48
  have HR0 := aM hr0_2
  have HC0 := aM hc0_2
  clear hr0_2 hc0_2
  have HB := aM (Below.refl w.heap.size w)
  have H : ((spec_GoodComb.f k (Flat48.flT ⟨a0_0, a0_1, l0_2⟩ (-1) [])).bind fun b => (if b = true then (some (Flat48.flT ⟨a0_0, a0_1, l0_2⟩ (-1) [], true)) else (some (([] : List S51), false)))) = some (r1, r2) := h
  clear h
  replace H := Option.bind_eq_some_iff.mp H
  obtain ⟨b, HG0, H⟩ := H
  have HG := aM HG0
  clear HG0
  cases b with
  | true =>
    rw [if_pos rfl] at H
    simp only [Option.some.injEq, Prod.mk.injEq] at H
    obtain ⟨rfl, rfl⟩ := H
    go_enter Tryd.func40, Tryd.ntmps40
    go_wp2_with (first | ((with_reducible refine gate_dst (N := 1) rfl ?_); refine box_event ?hg (N := 1) ?hd (cs := #[.int .i64 a0_0, .int .i64 a0_1, .slice A0_2 l0_2.length c0_2]) (t := 48) ?hr ?_; (case hd => rfl); (case hg => rfl); (case hr => first | (go_simp; done) | (go_simp; rfl)); intro gb hg w5 hbox hb; have n0_ := aM (below_step HB.out hb); have n1_ := aM (hbox); clear HB; have HB := n0_; have BK := n1_; clear n0_ n1_; clear hb hbox hg; have hcz_0 : w5.cell? ⟨gb, 0, none⟩ = some (.int .i64 a0_0) := (blk_cell BK.out 0).trans rfl; have hcz_1 : w5.cell? ⟨gb, 1, none⟩ = some (.int .i64 a0_1) := (blk_cell BK.out 1).trans rfl; have hcz_2 : w5.cell? ⟨gb, 2, none⟩ = some (.slice A0_2 l0_2.length c0_2) := (blk_cell BK.out 2).trans rfl; have hfz_0 := blk_frozen BK.out 0; have hfz_1 := blk_frozen BK.out 1; have hfz_2 := blk_frozen BK.out 2) | ((with_reducible refine gate_callee (f := 59) rfl ?_); refine goesL_ (some 6) rfl rfl Tryd.func59 (by kernel_rfl) rfl #[.slice none 0 0, .agg #[.int .i64 a0_0, .int .i64 a0_1, .slice A0_2 l0_2.length c0_2], .int .i64 (-1)] rfl (by (try simp only [List.map_toArray, List.map_cons, List.map_nil]); first | done | rfl) ?_; refine (Flat48.flat_some w (SizeOf.sizeOf l0_2) (⟨a0_0, a0_1, l0_2⟩ : S48) (-1) A0_2 c0_2 [] (.slice none 0 0) _ (Nat.le_refl _) HC0.out (by simp) (Kd.R_nil _ _ _ _ _) HB.out HR0.out).mono ?_; rintro e w7 ⟨v2, rfl, ho2, hb2⟩; refine ⟨_, rfl, ?_⟩; obtain ⟨A1, c1, rfl⟩ := Kd.R_slice ho2; have n0_ := aM hb2; have n1_ := aM ho2; clear HB BK; have HB := n0_; have HO := n1_; clear n0_ n1_; clear ho2 hb2) | ((with_reducible refine gate_callee (f := 25) rfl ?_); refine goesL_ (some 8) rfl rfl Tryd.func25 (by kernel_rfl) rfl #[.slice A1 (Flat48.flT (⟨a0_0, a0_1, l0_2⟩ : S48) (-1) []).length c1] rfl (by (try simp only [List.map_toArray, List.map_cons, List.map_nil]); first | done | rfl) ?_; refine (spec_GoodComb.calls k _ _ _ true _ (Kd.R_reads' HO.out).2.2 (Kd.R_reads' HO.out).2.1 HG.out).mono ?_; rintro e w8 ⟨rfl, hb⟩; refine ⟨_, rfl, ?_⟩; have n0_ := aM (below_step HB.out hb); have n1_ := aM (Kd.R_below HO.out hb); clear HB HO; have HB := n0_; have HO := n1_; clear n0_ n1_; clear hb))
    go_ret2
    exact ⟨_, rfl, HO.out, HB.out⟩
  | false =>
    rw [if_neg (by decide)] at H
    simp only [Option.some.injEq, Prod.mk.injEq] at H
    obtain ⟨rfl, rfl⟩ := H
    go_enter Tryd.func40, Tryd.ntmps40
    go_wp2_with (first | ((with_reducible refine gate_dst (N := 1) rfl ?_); refine box_event ?hg (N := 1) ?hd (cs := #[.int .i64 a0_0, .int .i64 a0_1, .slice A0_2 l0_2.length c0_2]) (t := 48) ?hr ?_; (case hd => rfl); (case hg => rfl); (case hr => first | (go_simp; done) | (go_simp; rfl)); intro gb hg w5 hbox hb; have n0_ := aM (below_step HB.out hb); have n1_ := aM (hbox); clear HB; have HB := n0_; have BK := n1_; clear n0_ n1_; clear hb hbox hg; have hcz_0 : w5.cell? ⟨gb, 0, none⟩ = some (.int .i64 a0_0) := (blk_cell BK.out 0).trans rfl; have hcz_1 : w5.cell? ⟨gb, 1, none⟩ = some (.int .i64 a0_1) := (blk_cell BK.out 1).trans rfl; have hcz_2 : w5.cell? ⟨gb, 2, none⟩ = some (.slice A0_2 l0_2.length c0_2) := (blk_cell BK.out 2).trans rfl; have hfz_0 := blk_frozen BK.out 0; have hfz_1 := blk_frozen BK.out 1; have hfz_2 := blk_frozen BK.out 2) | ((with_reducible refine gate_callee (f := 59) rfl ?_); refine goesL_ (some 6) rfl rfl Tryd.func59 (by kernel_rfl) rfl #[.slice none 0 0, .agg #[.int .i64 a0_0, .int .i64 a0_1, .slice A0_2 l0_2.length c0_2], .int .i64 (-1)] rfl (by (try simp only [List.map_toArray, List.map_cons, List.map_nil]); first | done | rfl) ?_; refine (Flat48.flat_some w (SizeOf.sizeOf l0_2) (⟨a0_0, a0_1, l0_2⟩ : S48) (-1) A0_2 c0_2 [] (.slice none 0 0) _ (Nat.le_refl _) HC0.out (by simp) (Kd.R_nil _ _ _ _ _) HB.out HR0.out).mono ?_; rintro e w7 ⟨v2, rfl, ho2, hb2⟩; refine ⟨_, rfl, ?_⟩; obtain ⟨A1, c1, rfl⟩ := Kd.R_slice ho2; have n0_ := aM hb2; have n1_ := aM ho2; clear HB BK; have HB := n0_; have HO := n1_; clear n0_ n1_; clear ho2 hb2) | ((with_reducible refine gate_callee (f := 25) rfl ?_); refine goesL_ (some 8) rfl rfl Tryd.func25 (by kernel_rfl) rfl #[.slice A1 (Flat48.flT (⟨a0_0, a0_1, l0_2⟩ : S48) (-1) []).length c1] rfl (by (try simp only [List.map_toArray, List.map_cons, List.map_nil]); first | done | rfl) ?_; refine (spec_GoodComb.calls k _ _ _ false _ (Kd.R_reads' HO.out).2.2 (Kd.R_reads' HO.out).2.1 HG.out).mono ?_; rintro e w8 ⟨rfl, hb⟩; refine ⟨_, rfl, ?_⟩; have n0_ := aM (below_step HB.out hb); have n1_ := aM (Kd.R_below HO.out hb); clear HB HO; have HB := n0_; have HO := n1_; clear n0_ n1_; clear hb))
    go_ret2
    exact ⟨_, rfl, Kd.R_nil _ _ _ _ _, HB.out⟩
end Go.Proofs.YtcjhhdecckcibaaDoor.G
