/- Part 3 of 6 of the proof that the law FnCombsCardSaid holds: for every input that can be read the call returns true and leaves its arguments as they were; no condition but those each theorem names. -/
import Derived.Maps.Own
import Derived.Maps.OwnOps
import Derived.Carry
import Derived.Ground.NamesProg
import Derived.Shelf.Lay
import Derived.Shelf.Small.Wraps
import Derived.Test.YthfkimbmepmelaaDoorQCombsW1
import Derived.Test.YthfkimbmepmelaaDoorQCombs1
import Derived.Test.YthfkimbmepmelaaDoorQCombs2
namespace Go.Proofs.YthfkimbmepmelaaDoor.G
open Go.RowKit Go.Proofs.YthfkimbmepmelaaDoorW.PrintWords Go.Proofs.YthfkimbmepmelaaDoorW.PrintLast Go.Proofs.YthfkimbmepmelaaDoorW.PrintMore Go.Proofs.YthfkimbmepmelaaDoor.Short
attribute [local go_sem] max2_int min2_int max_two min_two max_three min_three max_four min_four   -- for this text's walks alone
set_option linter.unusedVariables false
set_option linter.unusedSimpArgs false

def spec_DrawNormalComb.f (k : Nat) (l0 : List Int) : Option ((List (S65)) × Int) := (spec_l1Cur_one.f l0 0 0 8).bind fun b => if b.1 = true then (spec_l1Cur_among.f l0 b.2.1 b.2.2 ([(-1), 0, 1, 1000, 1001] : List Int)).bind fun c => (spec_l1Cur_combs.f k l0 c.2.1 c.2.2).bind fun d => some (d.1, c.1) else (spec_l1Cur_combs.f k l0 b.2.1 b.2.2).bind fun d => some (d.1, 60)
set_option maxHeartbeats 4000000 in
set_option maxRecDepth 100000 in
theorem spec_DrawNormalComb.calls (k : Nat) (A0 : Option Addr) (c0 : Nat) (l0 : List Int) (r1 : List (S65)) (r2 : Int) (w : World) (hr0 : Kd.C (Kd.int .u8) w A0 l0.length l0) (hc0 : l0.length ≤ c0) (h : spec_DrawNormalComb.f k l0 = some (r1, r2)) :
  Calls Tryd.prog 4 #[.slice A0 l0.length c0] w fun e w' => ∃ v0_ : Value, e = .returned (.tuple #[v0_, .int .i64 r2]) ∧ Kd.R k65 65 w' w.heap.size (fun _ => True) v0_ r1 ∧ Below w.heap.size w w' := by
 obtain ⟨⟨b, t1, t2⟩, H, h⟩ := Option.bind_eq_some_iff.mp h
 have HR0 := aK hr0
 have HB := aK (Below.refl w.heap.size w)
 have H1 := aK H
 clear hr0 H
 cases b with
 | true =>
  replace h := (if_pos rfl).symm.trans h
  obtain ⟨⟨n, t3, t4⟩, H, h⟩ := Option.bind_eq_some_iff.mp h
  obtain ⟨⟨l, t5, t6⟩, H', h⟩ := Option.bind_eq_some_iff.mp h
  simp only [Option.some.injEq, Prod.mk.injEq] at h
  obtain ⟨rfl, rfl⟩ := h
  have H2 := aK H
  have H3 := aK H'
  clear H H'
  go_enter Tryd.func4, Tryd.ntmps4
  go_wp2_with (first | (go_at_call 12; refine (spec_l1Cur_one.calls _ l0 0 0 8 true t1 t2 w _ (IsS38.new w w A0 c0 l0 0 0 HB.out HR0.out) (below_alloc HB.out _) H1.out).mono ?_; rintro e w6 ⟨rfl, hi, hb, hk⟩; have HI := aK hi; have HB2 := aK hb; clear HB hi hb hk) | ((with_reducible refine gate_dst (N := 12) rfl ?_); refine Kd.R_lit (Kd.int .i64) _ 3 ?hg (N := 12) ?hd (xs := ([(-1), 0, 1, 1000, 1001] : List Int)) (inner := [.int .i64 (-1), .int .i64 0, .int .i64 1, .int .i64 1000, .int .i64 1001]) (ok := fun _ => True) (okp := fun _ => True) ?hr ?hp (fun _ hk => hk) trivial (Below.refl _ _) (Nat.le_refl _) (by simp) ?_; (case hd => rfl); (case hg => rfl); (case hr => go_simp); (case hp => exact (Reps.one (show Kd.M (Kd.int .i64) _ _ _ (-1) [.int .i64 (-1)] from rfl) (Reps.one (show Kd.M (Kd.int .i64) _ _ _ 0 [.int .i64 0] from rfl) (Reps.one (show Kd.M (Kd.int .i64) _ _ _ 1 [.int .i64 1] from rfl) (Reps.one (show Kd.M (Kd.int .i64) _ _ _ 1000 [.int .i64 1000] from rfl) (Reps.one (show Kd.M (Kd.int .i64) _ _ _ 1001 [.int .i64 1001] from rfl) (Reps.none _ _))))))); intro v118 w18 ho19 hb hg_ hnew_; have HO := aK ho19; have n_ := aJ (aK (IsS38.below HI.out hb)) (aK (below_step HB2.out hb)); clear HI HB2 ho19 hb hg_ hnew_; obtain ⟨HI, HB2⟩ := n_; obtain ⟨Ao, co, eo⟩ := Kd.R_slice HO.out; subst eo) | (go_at_call 13; refine (spec_l1Cur_among.calls _ l0 t1 t2 _ _ ([(-1), 0, 1, 1000, 1001] : List Int) n t3 t4 w _ HI.out HB2.out (Kd.R_reads' HO.out).2.2 (Kd.R_reads' HO.out).2.1 (far_slice (IsS38.own_ne HI.out HO.out (by decide))) H2.out).mono ?_; rintro e w7 ⟨rfl, hi, hb, hk⟩; have n_ := aJ (aK hi) (aK hb); clear HI HB2 HO hi hb hk; obtain ⟨HI, HB2⟩ := n_) | (go_at_call 14; refine (spec_l1Cur_combs.calls k _ l0 t3 t4 l t5 t6 w _ HI.out HB2.out H3.out).mono ?_; rintro e w8 ⟨v0, rfl, hR, hi, hb, hk⟩; have n_ := aJ (aK (Kd.R_lower hR HB2.out.size)) (aK hb); clear HI HB2 hR hi hb hk; obtain ⟨HO, HB3⟩ := n_))
  go_ret2
  exact ⟨_, rfl, HO.out, HB3.out⟩
 | false =>
  replace h := (if_neg (by simp)).symm.trans h
  obtain ⟨⟨l, t5, t6⟩, H', h⟩ := Option.bind_eq_some_iff.mp h
  simp only [Option.some.injEq, Prod.mk.injEq] at h
  obtain ⟨rfl, rfl⟩ := h
  have H3 := aK H'
  clear H'
  go_enter Tryd.func4, Tryd.ntmps4
  go_wp2_with (first | (go_at_call 12; refine (spec_l1Cur_one.calls _ l0 0 0 8 false t1 t2 w _ (IsS38.new w w A0 c0 l0 0 0 HB.out HR0.out) (below_alloc HB.out _) H1.out).mono ?_; rintro e w6 ⟨rfl, hi, hb, hk⟩; have HI := aK hi; have HB2 := aK hb; clear HB hi hb hk) | (go_at_call 14; refine (spec_l1Cur_combs.calls k _ l0 t1 t2 l t5 t6 w _ HI.out HB2.out H3.out).mono ?_; rintro e w8 ⟨v0, rfl, hR, hi, hb, hk⟩; have n_ := aJ (aK (Kd.R_lower hR HB2.out.size)) (aK hb); clear HI HB2 hR hi hb hk; obtain ⟨HO, HB3⟩ := n_))
  go_ret2
  exact ⟨_, rfl, HO.out, HB3.out⟩

def Rs : Value → Option (DataW Unit × List MemPlace) := fun v => match v with
 | .string s => some (.lit (.string s.data.toList), [])
 | _ => none
theorem Rs_inv {v : Value} {bs : List UInt8} {ps : List MemPlace} (h : Rs v = some (.lit (.string bs), ps)) : v = .string ⟨bs.toArray⟩ := by
 cases v with
 | string s =>
  have h1 : (DataW.lit (.string s.data.toList) : DataW Unit) = .lit (.string bs) := congrArg Prod.fst (Option.some.inj h)
  injection h1 with h2
  injection h2 with h3
  rw [← h3]
 | _ => cases h
theorem comb_map (W : World) (kd : Int) (s : ByteArray) (h : (kd = 3 ∧ s = ⟨#[83]⟩) ∨ (kd = 4 ∧ s = ⟨#[75]⟩) ∨ (kd = 5 ∧ s = ⟨#[73]⟩)) : ∃ w1 w2 w3,
  (Instr.mapUpdate 72 (.map (some W.heap.size)) (.int .i64 3) (.string ⟨#[83]⟩)).run Tryd.prog (W.alloc (.map #[] 0)) = .ok () w1 ∧
  (Instr.mapUpdate 72 (.map (some W.heap.size)) (.int .i64 4) (.string ⟨#[75]⟩)).run Tryd.prog w1 = .ok () w2 ∧
  (Instr.mapUpdate 72 (.map (some W.heap.size)) (.int .i64 5) (.string ⟨#[73]⟩)).run Tryd.prog w2 = .ok () w3 ∧
  (Instr.lookup 72 (.map (some W.heap.size)) (.int .i64 kd) false).run Tryd.prog w3 = .ok (.string s) w3 ∧ Below W.heap.size W w3 := by
 have K : Maps.Keyed Tryd.prog 3 := Maps.int_keyed Tryd.underlying3
 have o0 := World.ownsMap_made W Tryd.prog 3 Rs
 obtain ⟨w1, r1, o1, g1⟩ := o0.update K Tryd.underlying72 (by decide) (key := .int .i64 3) (val := .string ⟨#[83]⟩) (Maps.keyOf_int_mk Tryd.underlying3 (by decide)) rfl
 obtain ⟨w2, r2, o2, g2⟩ := o1.update K Tryd.underlying72 (by decide) (key := .int .i64 4) (val := .string ⟨#[75]⟩) (Maps.keyOf_int_mk Tryd.underlying3 (by decide)) rfl
 obtain ⟨w3, r3, o3, g3⟩ := o2.update K Tryd.underlying72 (by decide) (key := .int .i64 5) (val := .string ⟨#[73]⟩) (Maps.keyOf_int_mk Tryd.underlying3 (by decide)) rfl
 have hr : ∀ k, some W.heap.size = some k → W.heap.size ≤ k := fun k e => by injection e with e; omega
 have b1 : Below W.heap.size W w1 := (below_alloc (Below.refl _ W) _).grown g1 (by simp) hr
 have b2 : Below W.heap.size W w2 := b1.grown g2 (below_size b1) hr
 have b3 : Below W.heap.size W w3 := b2.grown g3 (below_size b2) hr
 have hz : (zeroValue 9).run Tryd.prog w3 = .ok (.string ⟨#[]⟩) w3 := by kernel_rfl
 refine ⟨w1, w2, w3, r1, r2, r3, ?_, b3⟩
 rcases h with ⟨rfl, rfl⟩ | ⟨rfl, rfl⟩ | ⟨rfl, rfl⟩
 ·obtain ⟨v, ps, hrun, hv⟩ := o3.lookup K Tryd.underlying72 hz rfl (key := .int .i64 3) (Maps.keyOf_int_mk Tryd.underlying3 (by decide))
  rw [hrun, Rs_inv (bs := [83]) hv]
 ·obtain ⟨v, ps, hrun, hv⟩ := o3.lookup K Tryd.underlying72 hz rfl (key := .int .i64 4) (Maps.keyOf_int_mk Tryd.underlying3 (by decide))
  rw [hrun, Rs_inv (bs := [75]) hv]
 ·obtain ⟨v, ps, hrun, hv⟩ := o3.lookup K Tryd.underlying72 hz rfl (key := .int .i64 5) (Maps.keyOf_int_mk Tryd.underlying3 (by decide))
  rw [hrun, Rs_inv (bs := [73]) hv]
def impl_comb_text.f : Nat → Int → Int → List (S45) → Option (ByteArray)
 | 0, _, _, _ => none
 | k + 1, a0_0, a0_1, l0_2 => if a0_0 = 1 then ((strconv_Itoa_32.f a0_1).bind fun t102 => (if 1 + t102.size ≤ 9223372036854775807 then (some ((⟨#[120]⟩ : ByteArray) ++ t102)) else (none))) else (if a0_0 = 2 then (if 0 < (l0_2.length : Int) then ((impl_comb_text.f k ((rd_T45 l0_2 0).f0) ((rd_T45 l0_2 0).f1) ((rd_T45 l0_2 0).f2)).bind fun t104 => (if 1 + t104.size ≤ 9223372036854775807 then (if ((⟨#[40]⟩ : ByteArray) ++ t104).size + 1 ≤ 9223372036854775807 then (if 1 < (l0_2.length : Int) then ((impl_comb_text.f k ((rd_T45 l0_2 1).f0) ((rd_T45 l0_2 1).f1) ((rd_T45 l0_2 1).f2)).bind fun t106 => (if (((⟨#[40]⟩ : ByteArray) ++ t104) ++ (⟨#[32]⟩ : ByteArray)).size + t106.size ≤ 9223372036854775807 then (if ((((⟨#[40]⟩ : ByteArray) ++ t104) ++ (⟨#[32]⟩ : ByteArray)) ++ t106).size + 1 ≤ 9223372036854775807 then (some (((((⟨#[40]⟩ : ByteArray) ++ t104) ++ (⟨#[32]⟩ : ByteArray)) ++ t106) ++ (⟨#[41]⟩ : ByteArray))) else (none)) else (none))) else (none)) else (none)) else (none))) else (none)) else (if a0_0 = 3 then (some (⟨#[83]⟩ : ByteArray)) else (if a0_0 = 4 then (some (⟨#[75]⟩ : ByteArray)) else (if a0_0 = 5 then (some (⟨#[73]⟩ : ByteArray)) else (none)))))
def impl_comb_text.T5 : Bool × List (List Nat × List Nat) := (true, [([], []), ([0], [0]), ([1], [1]), ([2], [2]), ([3], [3]), ([4], [4]), ([5], [5]), ([], []), ([7], [7]), ([8], [8]), ([9], [9]), ([10, 4], [10]), ([6, 11], [6, 11]), ([12], [12]), ([13, 11, 0, 1, 2, 3, 4, 5, 6, 7, 8, 9, 10, 11, 12, 13], [13])])
def impl_comb_text.B5 : List Nat := [0, 1, 3, 7, 15, 31, 63, 0, 128, 384, 896, 1951, 4095, 8191, 16383]
theorem impl_comb_text.tab5 : rtab .any (opsOf Tryd.f16 5) = impl_comb_text.T5 := by kernel_rfl
theorem impl_comb_text.bits5 : waitsOk impl_comb_text.T5.2 impl_comb_text.B5 = true := by kernel_rfl
set_option maxHeartbeats 8000000 in
set_option maxRecDepth 100000 in
theorem impl_comb_text.calls (k : Nat) : ∀ (a0_0 : Int) (a0_1 : Int) (A0_2 : Option Addr) (c0_2 : Nat) (l0_2 : List (S45)) (r : ByteArray) (w : World) (hr0_2 : Kd.C k45 w A0_2 l0_2.length l0_2) (hc0_2 : l0_2.length ≤ c0_2) (h : impl_comb_text.f k a0_0 a0_1 l0_2 = some r) (hT : Tab w),
  Calls Tryd.prog 16 #[.agg #[.int .i64 a0_0, .int .i64 a0_1, .slice A0_2 l0_2.length c0_2]] w fun e w' => e = .returned (.string r) ∧ Below w.heap.size w w' := by
 induction k using Nat.strongRecOn with
 | _ k ih =>
 intro a0_0 a0_1 A0_2 c0_2 l0_2 r w hr0_2 hc0_2 h hT
 cases k with
 | zero => exact absurd h (by simp [impl_comb_text.f])
 | succ k =>
 simp only [impl_comb_text.f] at h
 have hu56 := Tryd.underlying45
 have HT := aK hT
 clear hT
 have HR0_2 := aK hr0_2
 have HC0_2 := aK hc0_2
 clear hr0_2 hc0_2
 have HB := aK (Below.refl w.heap.size w)
 have H : (if a0_0 = 1 then ((strconv_Itoa_32.f a0_1).bind fun t102 => (if 1 + t102.size ≤ 9223372036854775807 then (some ((⟨#[120]⟩ : ByteArray) ++ t102)) else (none))) else (if a0_0 = 2 then (if 0 < (l0_2.length : Int) then ((impl_comb_text.f k ((rd_T45 l0_2 0).f0) ((rd_T45 l0_2 0).f1) ((rd_T45 l0_2 0).f2)).bind fun t104 => (if 1 + t104.size ≤ 9223372036854775807 then (if ((⟨#[40]⟩ : ByteArray) ++ t104).size + 1 ≤ 9223372036854775807 then (if 1 < (l0_2.length : Int) then ((impl_comb_text.f k ((rd_T45 l0_2 1).f0) ((rd_T45 l0_2 1).f1) ((rd_T45 l0_2 1).f2)).bind fun t106 => (if (((⟨#[40]⟩ : ByteArray) ++ t104) ++ (⟨#[32]⟩ : ByteArray)).size + t106.size ≤ 9223372036854775807 then (if ((((⟨#[40]⟩ : ByteArray) ++ t104) ++ (⟨#[32]⟩ : ByteArray)) ++ t106).size + 1 ≤ 9223372036854775807 then (some (((((⟨#[40]⟩ : ByteArray) ++ t104) ++ (⟨#[32]⟩ : ByteArray)) ++ t106) ++ (⟨#[41]⟩ : ByteArray))) else (none)) else (none))) else (none)) else (none)) else (none))) else (none)) else (if a0_0 = 3 then (some (⟨#[83]⟩ : ByteArray)) else (if a0_0 = 4 then (some (⟨#[75]⟩ : ByteArray)) else (if a0_0 = 5 then (some (⟨#[73]⟩ : ByteArray)) else (none)))))) = some r := h
 clear h
 by_cases c2 : a0_0 = 1
 ·rw [if_pos c2] at H
  have c2b0 : (a0_0 == 1) = true := beq_iff_eq.mpr c2
  have c2b1 : (a0_0 != 1) = false := bne_eq_false_iff_eq.mpr c2
  clear c2
  obtain ⟨t102, A3, H⟩ := oB H
  try dsimp only at H
  by_cases c4 : 1 + t102.size ≤ 9223372036854775807
  ·rw [if_pos c4] at H
   have c4b0 := eq_true c4
   have c4b1 : decide (1 + t102.size ≤ 9223372036854775807) = true := decide_eq_true c4
   try have c4b2 : (9223372036854775807 < 1 + t102.size) = False := eq_false (Nat.not_lt.2 c4)
   obtain rfl := Option.some.inj H
   go_enter Tryd.func16, Tryd.ntmps16
   go_wp2_with (first | ((with_reducible refine gate_dst (N := 1) rfl ?_); refine bE (N := 1) (cs := #[.int .i64 a0_0, .int .i64 a0_1, .slice A0_2 l0_2.length c0_2]) (t := 45) ?_; intro gb101 hg w5 hbox hb; have GW101 := qw HB hg; have GE101 := qw HB hg; have BK101 := aK hbox; replace HB := qs HB hb; clear hb hbox hg; obtain ⟨hcz6_0, hcz6_1, hcz6_2, hfz6_0, hfz6_1, hfz6_2⟩ := cA3 BK101) | ((with_reducible refine gate_callee (f := 32) rfl ?_); refine goesL_ (some 9) rfl rfl Tryd.func32 (by kernel_rfl) rfl #[.int .i64 a0_1] rfl tA ?_; (with_reducible refine (strconv_Itoa_32.calls a0_1 t102 _ A3.out ?sideT).mono ?_); (case sideT => exact Tab.below HT.out HB.out); rintro e w7 ⟨rfl, hb⟩; refine ⟨_, rfl, ?_⟩; replace BK101 := qb BK101 hb; replace HB := qs HB hb; (try clear hb)))
   go_ret
   exact ⟨eW, pH HB⟩
  ·rw [if_neg c4] at H
   exact absurd H (by simp)
 ·rw [if_neg c2] at H
  have c2b0 : (a0_0 == 1) = false := beq_eq_false_iff_ne.mpr c2
  have c2b1 : (a0_0 != 1) = true := bne_iff_ne.mpr c2
  by_cases c8 : a0_0 = 2
  ·rw [if_pos c8] at H
   have c8b0 : (a0_0 == 2) = true := beq_iff_eq.mpr c8
   have c8b1 : (a0_0 != 2) = false := bne_eq_false_iff_eq.mpr c8
   clear c8
   by_cases c9 : 0 < (l0_2.length : Int)
   ·rw [if_pos c9] at H
    have c9b0 : decide (0 < (l0_2.length : Int)) = true := decide_eq_true c9
    have c9b1 : decide (0 < l0_2.length) = true := decide_eq_true (by omega)
    clear c9
    obtain ⟨t104, A10, H⟩ := oB H
    try dsimp only at H
    by_cases c11 : 1 + t104.size ≤ 9223372036854775807
    ·rw [if_pos c11] at H
     have c11b0 := eq_true c11
     have c11b1 : decide (1 + t104.size ≤ 9223372036854775807) = true := decide_eq_true c11
     try have c11b2 : (9223372036854775807 < 1 + t104.size) = False := eq_false (Nat.not_lt.2 c11)
     by_cases c12 : ((⟨#[40]⟩ : ByteArray) ++ t104).size + 1 ≤ 9223372036854775807
     ·rw [if_pos c12] at H
      have c12b0 := eq_true c12
      have c12b1 : decide (((⟨#[40]⟩ : ByteArray) ++ t104).size + 1 ≤ 9223372036854775807) = true := decide_eq_true c12
      try have c12b2 : (9223372036854775807 < ((⟨#[40]⟩ : ByteArray) ++ t104).size + 1) = False := eq_false (Nat.not_lt.2 c12)
      have c12b3 : (9223372036854775807 < 1 + t104.size + 1) = False := by have e := c12b2; simp only [ByteArray.size_append] at e; exact e
      by_cases c13 : 1 < (l0_2.length : Int)
      ·rw [if_pos c13] at H
       have c13b0 : decide (1 < (l0_2.length : Int)) = true := decide_eq_true c13
       have c13b1 : decide (1 < l0_2.length) = true := decide_eq_true (by omega)
       clear c13
       obtain ⟨t106, A14, H⟩ := oB H
       try dsimp only at H
       by_cases c15 : (((⟨#[40]⟩ : ByteArray) ++ t104) ++ (⟨#[32]⟩ : ByteArray)).size + t106.size ≤ 9223372036854775807
       ·rw [if_pos c15] at H
        have c15b0 := eq_true c15
        have c15b1 : decide ((((⟨#[40]⟩ : ByteArray) ++ t104) ++ (⟨#[32]⟩ : ByteArray)).size + t106.size ≤ 9223372036854775807) = true := decide_eq_true c15
        try have c15b2 : (9223372036854775807 < (((⟨#[40]⟩ : ByteArray) ++ t104) ++ (⟨#[32]⟩ : ByteArray)).size + t106.size) = False := eq_false (Nat.not_lt.2 c15)
        have c15b3 : (9223372036854775807 < 1 + t104.size + 1 + t106.size) = False := by have e := c15b2; simp only [ByteArray.size_append] at e; exact e
        by_cases c16 : ((((⟨#[40]⟩ : ByteArray) ++ t104) ++ (⟨#[32]⟩ : ByteArray)) ++ t106).size + 1 ≤ 9223372036854775807
        ·rw [if_pos c16] at H
         have c16b0 := eq_true c16
         have c16b1 : decide (((((⟨#[40]⟩ : ByteArray) ++ t104) ++ (⟨#[32]⟩ : ByteArray)) ++ t106).size + 1 ≤ 9223372036854775807) = true := decide_eq_true c16
         try have c16b2 : (9223372036854775807 < ((((⟨#[40]⟩ : ByteArray) ++ t104) ++ (⟨#[32]⟩ : ByteArray)) ++ t106).size + 1) = False := eq_false (Nat.not_lt.2 c16)
         have c16b3 : (9223372036854775807 < 1 + t104.size + 1 + t106.size + 1) = False := by have e := c16b2; simp only [ByteArray.size_append] at e; exact e
         obtain rfl := Option.some.inj H
         go_enter Tryd.func16, Tryd.ntmps16
         try go_wp2_with (first | ((with_reducible refine gate_dst (N := 1) rfl ?_); refine bE (N := 1) (cs := #[.int .i64 a0_0, .int .i64 a0_1, .slice A0_2 l0_2.length c0_2]) (t := 45) ?_; intro gb101 hg w17 hbox hb; have GW101 := qw HB hg; have GE101 := qw HB hg; have BK101 := aK hbox; replace HB := qs HB hb; clear hb hbox hg; obtain ⟨hcz18_0, hcz18_1, hcz18_2, hfz18_0, hfz18_1, hfz18_2⟩ := cA3 BK101))
         have n_ := aJ (aK (blk_drew BK101.out)) (aK (below_drew1 HB.out))
         clear BK101 HB
         obtain ⟨BK101, HB⟩ := n_
         have p103 : 0 ≤ (0 : Int) := (by omega)
         have q103 : 0 < (l0_2.length : Int) := dA
         obtain ⟨ad103, A103_2, c103_2, e103, hx103_0, hx103_1, hx103_2, hl103_2, hi103_2⟩ := at_T45 HR0_2.out 0 p103 q103
         have hw103_2 := hx103_2
         (try rw [show ((0 : Int)).toNat = 0 from rfl] at hw103_2)
         (try rw [show 0 * 3 = 0 from rfl] at hw103_2)
         (try rw [Addr.add_zero'] at hw103_2)
         have hw103_1 := hx103_1
         (try rw [show ((0 : Int)).toNat = 0 from rfl] at hw103_1)
         (try rw [show 0 * 3 = 0 from rfl] at hw103_1)
         (try rw [Addr.add_zero'] at hw103_1)
         have hw103_0 := hx103_0
         (try rw [show ((0 : Int)).toNat = 0 from rfl] at hw103_0)
         (try rw [show 0 * 3 = 0 from rfl] at hw103_0)
         (try rw [Addr.add_zero'] at hw103_0)
         cases e103
         have qi103 : (0 < l0_2.length) = True := eq_true (by omega)
         (try rw [show ((0 : Int)).toNat = 0 from rfl] at hx103_0)
         (try rw [show 0 * 3 = 0 from rfl] at hx103_0)
         (try rw [Addr.add_zero'] at hx103_0)
         (try rw [show ((0 : Int)).toNat = 0 from rfl] at hx103_1)
         (try rw [show 0 * 3 = 0 from rfl] at hx103_1)
         (try rw [Addr.add_zero'] at hx103_1)
         (try rw [show ((0 : Int)).toNat = 0 from rfl] at hx103_2)
         (try rw [show 0 * 3 = 0 from rfl] at hx103_2)
         (try rw [Addr.add_zero'] at hx103_2)
         replace hx103_0 := uC HB hx103_0
         replace hx103_1 := uC HB hx103_1
         replace hx103_2 := uC HB hx103_2
         have HR103_2 := aK hi103_2
         have HC103_2 := aK hl103_2
         clear hi103_2 hl103_2
         replace p103 := eq_true p103
         replace q103 := eq_true q103
         have p105 : 0 ≤ (1 : Int) := (by omega)
         have q105 : 1 < (l0_2.length : Int) := dA
         obtain ⟨ad105, A105_2, c105_2, e105, hx105_0, hx105_1, hx105_2, hl105_2, hi105_2⟩ := at_T45 HR0_2.out 1 p105 q105
         have hw105_2 := hx105_2
         (try rw [show ((1 : Int)).toNat = 1 from rfl] at hw105_2)
         (try rw [show 1 * 3 = 3 from rfl] at hw105_2)
         (try simp only [Nat.reduceMul, Nat.reduceEqDiff, Go.Addr.add, ↓reduceIte] at hw105_2)
         have hw105_1 := hx105_1
         (try rw [show ((1 : Int)).toNat = 1 from rfl] at hw105_1)
         (try rw [show 1 * 3 = 3 from rfl] at hw105_1)
         (try simp only [Nat.reduceMul, Nat.reduceEqDiff, Go.Addr.add, ↓reduceIte] at hw105_1)
         have hw105_0 := hx105_0
         (try rw [show ((1 : Int)).toNat = 1 from rfl] at hw105_0)
         (try rw [show 1 * 3 = 3 from rfl] at hw105_0)
         (try simp only [Nat.reduceMul, Nat.reduceEqDiff, Go.Addr.add, ↓reduceIte] at hw105_0)
         obtain rfl : ad103 = ad105 := (by injection e105)
         (try simp only [show (1 : Int).toNat = 1 from rfl, Nat.reduceMul, Nat.reduceEqDiff, Go.Addr.add, ↓reduceIte] at hx105_0)
         (try simp only [show (1 : Int).toNat = 1 from rfl, Nat.reduceMul, Nat.reduceEqDiff, Go.Addr.add, ↓reduceIte] at hx105_1)
         (try simp only [show (1 : Int).toNat = 1 from rfl, Nat.reduceMul, Nat.reduceEqDiff, Go.Addr.add, ↓reduceIte] at hx105_2)
         have qi105 : (1 < l0_2.length) = True := eq_true (by omega)
         (try rw [show ((1 : Int)).toNat = 1 from rfl] at hx105_0)
         (try rw [show 1 * 3 = 3 from rfl] at hx105_0)
         (try rw [show ((1 : Int)).toNat = 1 from rfl] at hx105_1)
         (try rw [show 1 * 3 = 3 from rfl] at hx105_1)
         (try rw [show ((1 : Int)).toNat = 1 from rfl] at hx105_2)
         (try rw [show 1 * 3 = 3 from rfl] at hx105_2)
         replace hx105_0 := uC HB hx105_0
         replace hx105_1 := uC HB hx105_1
         replace hx105_2 := uC HB hx105_2
         have HR105_2 := aK hi105_2
         have HC105_2 := aK hl105_2
         clear hi105_2 hl105_2
         replace p105 := eq_true p105
         replace q105 := eq_true q105
         refine start_ (n := 15) (S := fun w' => w'.cell? ⟨gb101, 0, none⟩ = some (.int .i64 a0_0) ∧ w'.cell? ⟨gb101, 1, none⟩ = some (.int .i64 a0_1) ∧ w'.cell? ⟨gb101, 2, none⟩ = some (.slice (some ad103) l0_2.length c0_2) ∧ w'.cell? ad103 = some (.int .i64 ((rd_T45 l0_2 0).f0)) ∧ w'.cell? ⟨ad103.block, ad103.off + 1, none⟩ = some (.int .i64 ((rd_T45 l0_2 0).f1)) ∧ w'.cell? ⟨ad103.block, ad103.off + 2, none⟩ = some (.slice A103_2 ((rd_T45 l0_2 0).f2).length c103_2) ∧ w'.cell? ⟨ad103.block, ad103.off + 3, none⟩ = some (.int .i64 ((rd_T45 l0_2 1).f0)) ∧ w'.cell? ⟨ad103.block, ad103.off + 3 + 1, none⟩ = some (.int .i64 ((rd_T45 l0_2 1).f1)) ∧ w'.cell? ⟨ad103.block, ad103.off + 3 + 2, none⟩ = some (.slice A105_2 ((rd_T45 l0_2 1).f2).length c105_2)) (ds := []) (bs 0 15) (by kernel_rfl) rfl rfl ⟨(blk_cell BK101.out 0).trans rfl, (blk_cell BK101.out 1).trans rfl, (blk_cell BK101.out 2).trans rfl, (uC HB hw103_0), (uC HB hw103_1), (uC HB hw103_2), (uC HB hw105_0), (uC HB hw105_1), (uC HB hw105_2)⟩ (fun hHeld => ?_); refine with_tabW impl_comb_text.tab5 impl_comb_text.bits5 (fun HT_ HW_ => ?_)
         generalize w17.drew = w19 at BK101 HB HR103_2 HR105_2 hx103_0 hx103_1 hx103_2 hx105_0 hx105_1 hx105_2 hHeld ⊢
         refine pS (i := 0) (N := some 13) (bs 1 14) (aO HT_) ?_
         refine pS (i := 7) (N := some 20) #[true, false, false, false, false, false, false, true, false, false, false, false, false, false, false] (aO HT_) ?_
         refine take_ (i := 1) (N := some 14) (v := ?_) (a' := ?_) #[true, true, false, false, false, false, false, true, false, false, false, false, false, false, false] rfl rfl (take_ofW HT_.out HW_.out (by kernel_rfl)) (fun _ _ _ h => h) (Or.inl ⟨by rfl, ?_⟩) hHeld ?_ ?_
         rotate_left
         ·rintro w' ⟨s0, s1, s2, s3, s4, s5, s6, s7, s8⟩
          go_simp
          with_reducible rfl
         rotate_left
         ·simp only [sP, i64_w, i32_w]
          rfl
         refine pS (i := 2) (N := some 15) #[true, true, true, false, false, false, false, true, false, false, false, false, false, false, false] (aO HT_) ?_
         refine take_ (i := 3) (N := some 16) (v := ?_) (a' := ?_) #[true, true, true, true, false, false, false, true, false, false, false, false, false, false, false] rfl rfl (take_ofW HT_.out HW_.out (by kernel_rfl)) (fun _ _ _ h => h) (Or.inl ⟨by rfl, ?_⟩) hHeld ?_ ?_
         rotate_left
         ·rintro w' ⟨s0, s1, s2, s3, s4, s5, s6, s7, s8⟩
          go_simp
          with_reducible rfl
         rotate_left
         ·simp only [sP, i64_w, i32_w]
          rfl
         refine take_ (i := 8) (N := some 21) (v := ?_) (a' := ?_) #[true, true, true, true, false, false, false, true, true, false, false, false, false, false, false] rfl rfl (take_ofW HT_.out HW_.out (by kernel_rfl)) (fun _ _ _ h => h) (Or.inl ⟨by rfl, ?_⟩) hHeld ?_ ?_
         rotate_left
         ·rintro w' ⟨s0, s1, s2, s3, s4, s5, s6, s7, s8⟩
          go_simp
          with_reducible rfl
         rotate_left
         ·simp only [sP, i64_w, i32_w]
          rfl
         refine pS (i := 9) (N := some 22) #[true, true, true, true, false, false, false, true, true, true, false, false, false, false, false] (aO HT_) ?_
         refine take_ (i := 10) (N := some 23) (v := ?_) (a' := ?_) #[true, true, true, true, false, false, false, true, true, true, true, false, false, false, false] rfl rfl (take_ofW HT_.out HW_.out (by kernel_rfl)) (fun _ _ _ h => h) (Or.inl ⟨by rfl, ?_⟩) hHeld ?_ ?_
         rotate_left
         ·rintro w' ⟨s0, s1, s2, s3, s4, s5, s6, s7, s8⟩
          go_simp
          with_reducible rfl
         rotate_left
         ·simp only [sP, i64_w, i32_w]
          rfl
         refine one_ (i := 4) (N := some 17) #[true, true, true, true, true, false, false, true, true, true, true, false, false, false, false] rfl rfl (one_of HT_.out (by kernel_rfl)) (by decide) (fun K hK => ?_)
         refine goes_ Tryd.func16 (by kernel_rfl) rfl #[.agg #[.int .i64 ((rd_T45 l0_2 0).f0), .int .i64 ((rd_T45 l0_2 0).f1), .slice A103_2 ((rd_T45 l0_2 0).f2).length c103_2]] (by rfl) rfl rfl tA ?_
         with_reducible refine (ih k (by omega) ((rd_T45 l0_2 0).f0) ((rd_T45 l0_2 0).f1) _ _ ((rd_T45 l0_2 0).f2) t104 _ ?side1 ?side2 A10.out ?sideT).mono ?_
         case sideT => exact Tab.below HT.out HB.out
         (case side1 => exact sC (Kd.C_below HR103_2.out HB.out))
         (case side2 => exact HC103_2.out)
         rintro e w20 ⟨rfl, hb⟩
         refine ⟨_, rfl, ?_⟩
         have n_ := aJ (aK (blk_below BK101.out hb)) (aK (below_step (pH HB) hb))
         clear BK101 HB
         obtain ⟨BK101, HB⟩ := n_
         (try clear hb)
         (try clear hb2)
         (try clear hk)
         (try clear hi)
         refine hK.out _ _ ⟨(blk_cell BK101.out 0).trans rfl, (blk_cell BK101.out 1).trans rfl, (blk_cell BK101.out 2).trans rfl, (uC HB hw103_0), (uC HB hw103_1), (uC HB hw103_2), (uC HB hw105_0), (uC HB hw105_1), (uC HB hw105_2)⟩ (fun hHeld => ?_)
         clear hK K
         refine norm_ (a' := ?_) ?_ ?_
         rotate_left
         ·show Act.put _ (some 17) _ = _
          simp only [sP, i64_w, i32_w]
          rfl
         refine pS (i := 5) (N := some 18) #[true, true, true, true, true, true, false, true, true, true, true, false, false, false, false] (aO HT_) ?_
         refine pS (i := 6) (N := some 19) (bs 11 4) (aO HT_) ?_
         refine one_ (i := 11) (N := some 24) (bs 12 3) rfl rfl (one_of HT_.out (by kernel_rfl)) (by decide) (fun K hK => ?_)
         refine goes_ Tryd.func16 (by kernel_rfl) rfl #[.agg #[.int .i64 ((rd_T45 l0_2 1).f0), .int .i64 ((rd_T45 l0_2 1).f1), .slice A105_2 ((rd_T45 l0_2 1).f2).length c105_2]] (by rfl) rfl rfl tA ?_
         with_reducible refine (ih k (by omega) ((rd_T45 l0_2 1).f0) ((rd_T45 l0_2 1).f1) _ _ ((rd_T45 l0_2 1).f2) t106 _ ?side1 ?side2 A14.out ?sideT).mono ?_
         case sideT => exact Tab.below HT.out HB.out
         (case side1 => exact sC (Kd.C_below HR105_2.out HB.out))
         (case side2 => exact HC105_2.out)
         rintro e w21 ⟨rfl, hb⟩
         refine ⟨_, rfl, ?_⟩
         have n_ := aJ (aK (blk_below BK101.out hb)) (aK (below_step (pH HB) hb))
         clear BK101 HB
         obtain ⟨BK101, HB⟩ := n_
         (try clear hb)
         (try clear hb2)
         (try clear hk)
         (try clear hi)
         refine hK.out _ _ ⟨(blk_cell BK101.out 0).trans rfl, (blk_cell BK101.out 1).trans rfl, (blk_cell BK101.out 2).trans rfl, (uC HB hw103_0), (uC HB hw103_1), (uC HB hw103_2), (uC HB hw105_0), (uC HB hw105_1), (uC HB hw105_2)⟩ (fun hHeld => ?_)
         clear hK K
         refine norm_ (a' := ?_) ?_ ?_
         rotate_left
         ·show Act.put _ (some 24) _ = _
          simp only [sP, i64_w, i32_w]
          rfl
         refine pS (i := 12) (N := some 25) (bs 13 2) (aO HT_) ?_
         refine pS (i := 13) (N := some 26) (bs 14 1) (aO HT_) ?_
         refine pS (i := 14) (N := some 2) (bs 15 0) (aO HT_) ?_
         refine done_ (done_of HT_.out (by kernel_rfl)) ?_
         try go_wp2
         go_ret
         exact ⟨eW, pH HB⟩
        ·rw [if_neg c16] at H
         exact absurd H (by simp)
       ·rw [if_neg c15] at H
        exact absurd H (by simp)
      ·rw [if_neg c13] at H
       exact absurd H (by simp)
     ·rw [if_neg c12] at H
      exact absurd H (by simp)
    ·rw [if_neg c11] at H
     exact absurd H (by simp)
   ·rw [if_neg c9] at H
    exact absurd H (by simp)
  ·rw [if_neg c8] at H
   have c8b0 : (a0_0 == 2) = false := beq_eq_false_iff_ne.mpr c8
   have c8b1 : (a0_0 != 2) = true := bne_iff_ne.mpr c8
   have hk : (a0_0 = 3 ∧ r = ⟨#[83]⟩) ∨ (a0_0 = 4 ∧ r = ⟨#[75]⟩) ∨ (a0_0 = 5 ∧ r = ⟨#[73]⟩) := by
    by_cases h3 : a0_0 = 3
    ·rw [if_pos h3] at H; exact .inl ⟨h3, (Option.some.inj H).symm⟩
    rw [if_neg h3] at H
    by_cases h4 : a0_0 = 4
    ·rw [if_pos h4] at H; exact .inr (.inl ⟨h4, (Option.some.inj H).symm⟩)
    rw [if_neg h4] at H
    by_cases h5 : a0_0 = 5
    ·rw [if_pos h5] at H; exact .inr (.inr ⟨h5, (Option.some.inj H).symm⟩)
    rw [if_neg h5] at H; cases H
   clear H
   have HK := aK hk
   clear hk
   have hmm := @run_makeMap Tryd.prog
   go_enter Tryd.func16, Tryd.ntmps16
   go_wp2_with (first | ((with_reducible refine gate_dst (N := 1) rfl ?_); refine bE (N := 1) (cs := #[.int .i64 a0_0, .int .i64 a0_1, .slice A0_2 l0_2.length c0_2]) (t := 45) ?_; intro gb101 hg w22 hbox hb; have GW101 := qw HB hg; have GE101 := qw HB hg; have BK101 := aK hbox; replace HB := qs HB hb; clear hb hbox hg; obtain ⟨hcz23_0, hcz23_1, hcz23_2, hfz23_0, hfz23_1, hfz23_2⟩ := cA3 BK101; obtain ⟨m1, m2, m3, hr1, hr2, hr3, hlk, hbm⟩ := comb_map w22 a0_0 r HK.out; have HM := aK hbm; have hcm_0 : m3.cell? ⟨gb101, 0, none⟩ = some (.int .i64 a0_0) := (blk_cell (blk_below BK101.out hbm) 0).trans rfl; clear hbm))
   go_ret
   exact ⟨rfl, below_step HB.out HM.out⟩


def impl_CombText.f (k : Nat) (l0 : List (S65)) : Option (ByteArray × Bool) := (impl_combRoot.f k l0).bind fun bt101 => (if bt101.2.2.2 = true then ((impl_comb_text.f k bt101.1 bt101.2.1 bt101.2.2.1).bind fun t108 => (some (t108, true))) else (some ((⟨#[]⟩ : ByteArray), false)))
set_option maxHeartbeats 8000000 in
set_option maxRecDepth 100000 in
theorem impl_CombText.calls (k : Nat) (A0 : Option Addr) (c0 : Nat) (l0 : List (S65)) (r1 : ByteArray) (r2 : Bool) (w : World) (hr0 : Kd.C k65 w A0 l0.length l0) (hc0 : l0.length ≤ c0) (h : impl_CombText.f k l0 = some (r1, r2)) (hT : Tab w) :
  Calls Tryd.prog 5 #[.slice A0 l0.length c0] w fun e w' => e = .returned (.tuple #[.string r1, .bool r2]) ∧ Below w.heap.size w w' := by
 have HT := aK hT
 clear hT
 have hu56 := Tryd.underlying45
 have HR0 := aK hr0
 have HC0 := aK hc0
 clear hr0 hc0
 have HB := aK (Below.refl w.heap.size w)
 have H : ((impl_combRoot.f k l0).bind fun bt101 => (if bt101.2.2.2 = true then ((impl_comb_text.f k bt101.1 bt101.2.1 bt101.2.2.1).bind fun t108 => (some (t108, true))) else (some ((⟨#[]⟩ : ByteArray), false)))) = some (r1, r2) := h
 clear h
 obtain ⟨⟨t101, t102, t103, t106⟩, A2, H⟩ := oB H
 try dsimp only at H
 by_cases c3 : t106 = true
 ·subst c3
  rw [if_pos rfl] at H
  obtain ⟨t108, A4, H⟩ := oB H
  try dsimp only at H
  simp only [Option.some.injEq, Prod.mk.injEq] at H
  obtain ⟨rfl, rfl⟩ := H
  go_enter Tryd.func5, Tryd.ntmps5
  go_wp2_with (first | ((with_reducible refine gate_callee (f := 15) rfl ?_); refine goesL_ (some 8) rfl rfl Tryd.func15 (by kernel_rfl) rfl #[.slice A0 l0.length c0] rfl tA ?_; (with_reducible refine (impl_combRoot.calls k _ _ l0 t101 t102 t103 true _ ?side1 ?side2 A2.out).mono ?_); (case side1 => exact sC HR0.out); (case side2 => exact HC0.out); rintro e w5 ⟨v104, rfl, ho0, hb⟩; refine ⟨_, rfl, ?_⟩; have HO105 := aK (Kd.R_lower ho0 (below_size HB.out)); replace HB := qs HB hb; (try clear hb); (try clear ho0)) | ((with_reducible refine gate_dst (N := 4) rfl ?_); refine bE (N := 4) (cs := #[.int .i64 0, .int .i64 0, .slice none 0 0]) (t := 45) ?_; intro gb107 hg w6 hbox hb; have n0_ := aK (Kd.R_below (Kd.R_elderB HO105.out gb107 (Nat.le_of_eq hg.symm)) hb); have GW107 := qw HB hg; have GE107 := qw HB hg; have BK107 := aK hbox; clear HO105; have HO105 := n0_; clear n0_; replace HB := qs HB hb; clear hb hbox hg; obtain ⟨hcz7_0, hcz7_1, hcz7_2, hfz7_0, hfz7_1, hfz7_2⟩ := cA3 BK107; obtain ⟨Ao8, co8, eo8⟩ := Kd.R_slice HO105.out; subst eo8) | ((with_reducible refine gate_callee (f := 16) rfl ?_); refine goesL_ (some 14) rfl rfl Tryd.func16 (by kernel_rfl) rfl #[.agg #[.int .i64 t101, .int .i64 t102, .slice Ao8 t103.length co8]] rfl tA ?_; (with_reducible refine (impl_comb_text.calls k t101 t102 _ _ t103 t108 _ ?side1 ?side2 A4.out ?sideT).mono ?_); (case sideT => exact Tab.below HT.out (pH HB)); (case side1 => refine (Kd.R_reads' (e := 45) (base := w.heap.size) (ok := fun k_ => (True ∧ k_ ≠ gb107)) (n := t103.length) (c := co8) ?_).2.2; exact (by (with_reducible repeat (first | apply rA | apply rN | apply rD)); exact (Kd.R_mono (Kd.R_far (p := ⟨gb107, 2, none⟩) (Kd.R_far (p := ⟨gb107, 1, none⟩) (Kd.R_far (p := ⟨gb107, 0, none⟩) (Kd.R_mono HO105.out (fun k_ hk => (⟨hk, hk.2⟩ : _ ∧ k_ ≠ gb107))) (fun _ hk => hk.2) (.int .i64 t101)) (fun _ hk => hk.2) (.int .i64 t102)) (fun _ hk => hk.2) (.slice Ao8 t103.length co8)) (fun _ h_ => h_.1)))); (case side2 => exact (Kd.R_reads' HO105.out).2.1); rintro e w9 ⟨rfl, hb⟩; refine ⟨_, rfl, ?_⟩; have n_ := aJ (aK (Kd.R_below (by (with_reducible repeat (first | apply rA | apply rN | apply rD)); exact (Kd.R_mono (Kd.R_far (p := ⟨gb107, 2, none⟩) (Kd.R_far (p := ⟨gb107, 1, none⟩) (Kd.R_far (p := ⟨gb107, 0, none⟩) (Kd.R_mono HO105.out (fun k_ hk => (⟨hk, hk.2⟩ : _ ∧ k_ ≠ gb107))) (fun _ hk => hk.2) (.int .i64 t101)) (fun _ hk => hk.2) (.int .i64 t102)) (fun _ hk => hk.2) (.slice Ao8 t103.length co8)) (fun _ h_ => h_.1))) hb)) (aJ (aK (blk_below (g := gb107) (o := .cells #[.int .i64 t101, .int .i64 t102, .slice Ao8 t103.length co8] 45 (0, 0)) (p3 BK107) hb)) (aK (below_step (pH HB) hb))); clear HO105 BK107 HB; obtain ⟨HO105, BK107, HB⟩ := n_; (try clear hb)))
  go_ret2
  exact ⟨eW, pH HB⟩
 ·replace c3 := Bool.eq_false_iff.mpr c3
  subst c3
  rw [if_neg (show ¬ (false = true) by decide)] at H
  simp only [Option.some.injEq, Prod.mk.injEq] at H
  obtain ⟨rfl, rfl⟩ := H
  go_enter Tryd.func5, Tryd.ntmps5
  go_wp2_with (first | ((with_reducible refine gate_callee (f := 15) rfl ?_); refine goesL_ (some 8) rfl rfl Tryd.func15 (by kernel_rfl) rfl #[.slice A0 l0.length c0] rfl tA ?_; (with_reducible refine (impl_combRoot.calls k _ _ l0 t101 t102 t103 false _ ?side1 ?side2 A2.out).mono ?_); (case side1 => exact sC HR0.out); (case side2 => exact HC0.out); rintro e w10 ⟨v104, rfl, ho0, hb⟩; refine ⟨_, rfl, ?_⟩; have HO105 := aK (Kd.R_lower ho0 (below_size HB.out)); replace HB := qs HB hb; (try clear hb); (try clear ho0)) | ((with_reducible refine gate_dst (N := 4) rfl ?_); refine bE (N := 4) (cs := #[.int .i64 0, .int .i64 0, .slice none 0 0]) (t := 45) ?_; intro gb107 hg w11 hbox hb; have n0_ := aK (Kd.R_below (Kd.R_elderB HO105.out gb107 (Nat.le_of_eq hg.symm)) hb); have GW107 := qw HB hg; have GE107 := qw HB hg; have BK107 := aK hbox; clear HO105; have HO105 := n0_; clear n0_; replace HB := qs HB hb; clear hb hbox hg; obtain ⟨hcz12_0, hcz12_1, hcz12_2, hfz12_0, hfz12_1, hfz12_2⟩ := cA3 BK107; obtain ⟨Ao13, co13, eo13⟩ := Kd.R_slice HO105.out; subst eo13))
  go_ret2
  exact ⟨eW, pH HB⟩


def spec_l1In.f (a0 : Int) (a1 : Int) (a2 : Int) : Option (Bool) := if a0 ≥ a1 then (some (decide (a0 ≤ a2))) else (some false)
set_option maxHeartbeats 8000000 in
set_option maxRecDepth 100000 in
theorem spec_l1In.calls (a0 : Int) (a1 : Int) (a2 : Int) (r : Bool) (w : World) (h : spec_l1In.f a0 a1 a2 = some r) :
  Calls Tryd.prog 25 #[.int .i64 a0, .int .i64 a1, .int .i64 a2] w fun e w' => e = .returned (.bool r) ∧ Drawn0 w w' := by
 have H : (if a0 ≥ a1 then (some (decide (a0 ≤ a2))) else (some false)) = some r := h
 clear h
 by_cases c4 : a0 ≥ a1
 ·rw [if_pos c4] at H
  have c4b0 : decide (a1 ≤ a0) = true := decide_eq_true c4
  clear c4
  obtain rfl := Option.some.inj H
  go_enter Tryd.func25, Tryd.ntmps25
  go_wp2
  go_ret
  exact ⟨by first | rfl | (simp; done) | (simp [*]; done), by repeat (first | exact Drawn0.refl _ | apply Drawn0.step)⟩
 ·rw [if_neg c4] at H
  have c4b0 : decide (a1 ≤ a0) = false := decide_eq_false c4
  clear c4
  obtain rfl := Option.some.inj H
  go_enter Tryd.func25, Tryd.ntmps25
  go_wp2
  go_ret
  exact ⟨by first | rfl | (simp; done) | (simp [*]; done), by repeat (first | exact Drawn0.refl _ | apply Drawn0.step)⟩


def spec_ldParts.l0 : Nat → List (S65) → Int → List Int → Int → Option (List Int)
 | 0, _, _, _, _ => none
 | k + 1, x0, x1, x5, x6 => if x6 < (x0.length : Int) then (if 0 ≤ x6 then (if ((rd_T65 x0 x6).f2) = x1 then (if x5.length < 17592186044416 then (spec_ldParts.l0 k x0 x1 (x5 ++ [x6]) (wrap64 (x6 + 1))) else (none)) else (spec_ldParts.l0 k x0 x1 x5 (wrap64 (x6 + 1)))) else (none)) else (some x5)
def spec_ldParts.f (k : Nat) (l0 : List (S65)) (a1 : Int) : Option (List Int) := spec_ldParts.l0 k l0 a1 ([] : List Int) (wrap64 (a1 + 1))
set_option maxHeartbeats 8000000 in
set_option maxRecDepth 100000 in
theorem spec_ldParts.calls (k : Nat) (A0 : Option Addr) (c0 : Nat) (l0 : List (S65)) (a1 : Int) (r : List Int) (w : World) (hr0 : Kd.C k65 w A0 l0.length l0) (hc0 : l0.length ≤ c0) (h : spec_ldParts.f k l0 a1 = some r) :
  Calls Tryd.prog 33 #[.slice A0 l0.length c0, .int .i64 a1] w fun e w' => ∃ v0_ : Value, e = .returned (v0_) ∧ Kd.R (Kd.int .i64) 3 w' w.heap.size (fun _ => True) v0_ r ∧ Below w.heap.size w w' := by
 have HR0 := aK hr0
 have HC0 := aK hc0
 clear hr0 hc0
 have HB := aK (Below.refl w.heap.size w)
 have H : (spec_ldParts.l0 k l0 a1 ([] : List Int) (wrap64 (a1 + 1))) = some r := h
 clear h
 have H' := aK H
 clear H
 go_enter Tryd.func33, Tryd.ntmps33
 go_wp2
 go_loopg [5, 6] k (fun kq v5 v6 w' => ∃ (x5_1 : List Int) (x6_1 : Int), v6 = .int .i64 x6_1 ∧ Aside0 (spec_ldParts.l0 kq l0 a1 x5_1 x6_1 = some r) ∧ Aside0 (kq ≤ k) ∧ Aside0 (Kd.R (Kd.int .i64) 3 w' w.heap.size (fun _ => True) v5 x5_1) ∧ Aside0 (Below w.heap.size w w'))
 case atStart => exact ⟨(([] : List Int)), (wrap64 (a1 + 1)), rS, H', ⟨Nat.le_refl _⟩, ⟨by first | exact Kd.R_nil _ _ _ _ _ | exact Kd.N_nil _ _ _ _ _ | exact Kd.V_nil _ _ _ _ _ | exact Kd.Q_nil _ _ _ _ _ | exact Kd.S_nil _ _ _ _ _⟩, ⟨pH HB⟩⟩
 case round =>
  clear H'
  try clear p2
  obtain ⟨x5_1, x6_1, rfl, HA, HK1, HO_5, HB⟩ := hrel
  cases gk with
  | zero => exact absurd HA.out (by simp [spec_ldParts.l0])
  | succ k1 =>
   have H := HA.out
   clear HA
   simp only [spec_ldParts.l0] at H
   by_cases c3 : x6_1 < (l0.length : Int)
   ·rw [if_pos c3] at H
    have c3b0 : decide (x6_1 < (l0.length : Int)) = true := decide_eq_true c3
    clear c3
    by_cases c4 : 0 ≤ x6_1
    ·rw [if_pos c4] at H
     have c4b0 : decide (0 ≤ x6_1) = true := decide_eq_true c4
     clear c4
     by_cases c5 : ((rd_T65 l0 x6_1).f2) = a1
     ·rw [if_pos c5] at H
      have c5b0 : (((rd_T65 l0 x6_1).f2) == a1) = true := beq_iff_eq.mpr c5
      have c5b1 : (((rd_T65 l0 x6_1).f2) != a1) = false := bne_eq_false_iff_eq.mpr c5
      clear c5
      by_cases c6 : x5_1.length < 17592186044416
      ·rw [if_pos c6] at H
       have LMc6 := aK c6
       clear c6
       obtain ⟨y102, hy102⟩ : ∃ y_ : List Int, y_ = (x5_1 ++ [x6_1]) := ⟨_, rfl⟩
       replace H : (spec_ldParts.l0 k1 l0 a1 y102 (wrap64 (x6_1 + 1))) = some r := by first | (rw [hy102]; with_reducible exact H) | (have H2_ := (Option.bind_some _ _).symm.trans H; rw [hy102]; with_reducible exact H2_) | (have H2_ := (Option.bind_some _ _).symm.trans H; with_reducible exact H2_) | with_reducible exact H | (rw [hy102]; exact H) | exact H
       have Ny102 := aK hy102
       clear hy102
       have H' := aK H
       clear H
       have p101 : 0 ≤ (x6_1 : Int) := dA
       have q101 : x6_1 < (l0.length : Int) := dA
       obtain ⟨ad101, e101, hx101_0, hx101_1, hx101_2⟩ := at_T65 HR0.out x6_1 p101 q101
       cases e101
       replace hx101_0 := uC HB hx101_0
       replace hx101_1 := uC HB hx101_1
       replace hx101_2 := uC HB hx101_2
       replace p101 := eq_true p101
       replace q101 := eq_true q101
       go_wp2_with (first | ((with_reducible refine gate_builtin (b := .append) (xs := #[.tmp 22, .tmp 24]) rfl ?_); at_builtin; refine Kd.R_append (Kd.int .i64) (w0 := w) w.heap.size rfl (.tmp 22) (.tmp 24) 41 3 (.int .i64 0) 8 rfl Tryd.underlying41 info3 rfl (by decide) (by omega) u5 x5_1 x6_1 [.int .i64 x6_1] (fun _ => True) (fun _ => False) rfl rfl ?aP (fun _ hk => hk.elim) ?aF ?aO ?aB ?aS ?aL ?_; (case aP => exact rfl); (case aB => exact HB.out); (case aF => exact (fun _ _ => trivial)); (case aO => exact HO_5.out); (case aS => exact (below_size HB.out)); (case aL => have := LMc6.out; omega); intro v103 w7 ho hb hg hat; rw [← Ny102.out] at ho; have n0_ := aK (hb); have HO104 := aK (ho); clear HB; have HB := n0_; clear n0_; clear HO_5; clear ho hb hg hat))
       go_roundg k1
       case measure => have := HK1.out; omega
       case rel => exact ⟨(y102), (wrap64 (x6_1 + 1)), rS, H', ⟨by have := HK1.out; omega⟩, ⟨by (with_reducible repeat (first | apply rA | apply rN | apply rD)); exact HO104.out⟩, ⟨pH HB⟩⟩
      ·rw [if_neg c6] at H
       exact absurd H (by simp)
     ·rw [if_neg c5] at H
      have c5b0 : (((rd_T65 l0 x6_1).f2) == a1) = false := beq_eq_false_iff_ne.mpr c5
      have c5b1 : (((rd_T65 l0 x6_1).f2) != a1) = true := bne_iff_ne.mpr c5
      have H' := aK H
      clear H
      have p101 : 0 ≤ (x6_1 : Int) := dA
      have q101 : x6_1 < (l0.length : Int) := dA
      obtain ⟨ad101, e101, hx101_0, hx101_1, hx101_2⟩ := at_T65 HR0.out x6_1 p101 q101
      cases e101
      replace hx101_0 := uC HB hx101_0
      replace hx101_1 := uC HB hx101_1
      replace hx101_2 := uC HB hx101_2
      replace p101 := eq_true p101
      replace q101 := eq_true q101
      go_wp2
      go_roundg k1
      case measure => have := HK1.out; omega
      case rel => exact ⟨(x5_1), (wrap64 (x6_1 + 1)), rS, H', ⟨by have := HK1.out; omega⟩, ⟨by (with_reducible repeat (first | apply rA | apply rN | apply rD)); exact HO_5.out⟩, ⟨pH HB⟩⟩
    ·rw [if_neg c4] at H
     exact absurd H (by simp)
   ·rw [if_neg c3] at H
    have c3b0 : decide (x6_1 < (l0.length : Int)) = false := decide_eq_false c3
    clear c3
    obtain rfl := Option.some.inj H
    go_wp2
    go_ret
    exact ⟨_, eW, by (with_reducible repeat (first | apply rA | apply rN | apply rD)); exact HO_5.out, pH HB⟩


mutual
def spec_GoodComb.l0 : Nat → List (S65) → List (S65) → Int → Int → Option (Bool)
 | 0, _, _, _, _ => none
 | k + 1, x0, x14, x15, x16 => if x16 < x15 then (if 0 ≤ x16 then (if x16 < (x14.length : Int) then (if ((x16 == 0) != (((rd_T65 x14 x16).f2) == (-1))) = true then (spec_GoodComb.j1 k x0 x16 x14 x15 x16 true ((rd_T65 x14 x16).f0) ((rd_T65 x14 x16).f1) ((rd_T65 x14 x16).f2)) else ((spec_l1In.f ((rd_T65 x14 x16).f2) (-1) (wrap64 (x16 - 1))).bind fun t104 => (if t104 = true then ((spec_l1In.f ((rd_T65 x14 x16).f0) 1 5).bind fun t105 => (if t105 = true then ((spec_l1In.f ((rd_T65 x14 x16).f1) 0 999).bind fun t106 => (if t106 = true then (if ((rd_T65 x14 x16).f0) = 1 then (spec_GoodComb.j1 k x0 x16 x14 x15 x16 false ((rd_T65 x14 x16).f0) ((rd_T65 x14 x16).f1) ((rd_T65 x14 x16).f2)) else (spec_GoodComb.j1 k x0 x16 x14 x15 x16 (((rd_T65 x14 x16).f1) != 0) ((rd_T65 x14 x16).f0) ((rd_T65 x14 x16).f1) ((rd_T65 x14 x16).f2))) else (spec_GoodComb.j1 k x0 x16 x14 x15 x16 true ((rd_T65 x14 x16).f0) ((rd_T65 x14 x16).f1) ((rd_T65 x14 x16).f2)))) else (spec_GoodComb.j1 k x0 x16 x14 x15 x16 true ((rd_T65 x14 x16).f0) ((rd_T65 x14 x16).f1) ((rd_T65 x14 x16).f2)))) else (spec_GoodComb.j1 k x0 x16 x14 x15 x16 true ((rd_T65 x14 x16).f0) ((rd_T65 x14 x16).f1) ((rd_T65 x14 x16).f2))))) else (none)) else (none)) else (some true)
def spec_GoodComb.j1 : Nat → List (S65) → Int → List (S65) → Int → Int → Bool → Int → Int → Int → Option (Bool)
 | 0, _, _, _, _, _, _, _, _, _ => none
 | k + 1, x0, x3, x14, x15, x16, x56, x104000, x104001, x104002 => if x56 = true then (some false) else (spec_GoodComb.l1 k x0 x3 (x3 == 0) (wrap64 (x3 - 1)) x14 x15 x16 x104000 x104001 x104002)
def spec_GoodComb.j3 : Nat → List (S65) → Int → Bool → List (S65) → Int → Int → Int → Int → Int → Option (Bool)
 | 0, _, _, _, _, _, _, _, _, _ => none
 | k + 1, x0, x3, x5, x14, x15, x16, x104000, x104001, x104002 => spec_GoodComb.l2 k x0 x3 x5 0 x3 x14 x15 x16 x104000 x104001 x104002
def spec_GoodComb.l2 : Nat → List (S65) → Int → Bool → Int → Int → List (S65) → Int → Int → Int → Int → Int → Option (Bool)
 | 0, _, _, _, _, _, _, _, _, _, _, _ => none
 | k + 1, x0, x3, x5, x7, x8, x14, x15, x16, x104000, x104001, x104002 => if x8 ≥ 0 then (if 0 ≤ x8 then (if x8 < (x0.length : Int) then (spec_GoodComb.l2 k x0 x3 x5 (wrap64 (x7 + 1)) ((rd_T65 x0 x8).f2) x14 x15 x16 x104000 x104001 x104002) else (none)) else (none)) else (if x104000 = 2 then (if x5 = true then (if x7 > 60 then (some false) else ((spec_ldParts.f k x0 x3).bind fun t109 => (if (t109.length : Int) = 2 then (spec_GoodComb.l0 k x0 x14 x15 (wrap64 (x16 + 1))) else (some false)))) else (some false)) else (if x5 = true then (if x7 > 60 then (some false) else ((spec_ldParts.f k x0 x3).bind fun t112 => (if (t112.length : Int) = 0 then (spec_GoodComb.l0 k x0 x14 x15 (wrap64 (x16 + 1))) else (some false)))) else (some false)))
def spec_GoodComb.l1 : Nat → List (S65) → Int → Bool → Int → List (S65) → Int → Int → Int → Int → Int → Option (Bool)
 | 0, _, _, _, _, _, _, _, _, _, _ => none
 | k + 1, x0, x3, x5, x6, x14, x15, x16, x104000, x104001, x104002 => if x6 ≥ 0 then (if x5 = true then (spec_GoodComb.j3 k x0 x3 x5 x14 x15 x16 x104000 x104001 x104002) else (if 0 ≤ x6 then (if x6 < (x0.length : Int) then (spec_GoodComb.l1 k x0 x3 (x6 == x104002) ((rd_T65 x0 x6).f2) x14 x15 x16 x104000 x104001 x104002) else (none)) else (none))) else (spec_GoodComb.j3 k x0 x3 x5 x14 x15 x16 x104000 x104001 x104002)
end
def spec_GoodComb.f (k : Nat) (l0 : List (S65)) : Option (Bool) := (spec_l1In.f (l0.length : Int) 1 200).bind fun t101 => (if t101 = true then (spec_GoodComb.l0 k l0 l0 (l0.length : Int) 0) else (some false))
set_option maxHeartbeats 8000000 in
set_option maxRecDepth 100000 in
theorem spec_GoodComb.calls (k : Nat) (A0 : Option Addr) (c0 : Nat) (l0 : List (S65)) (r : Bool) (w : World) (hr0 : Kd.C k65 w A0 l0.length l0) (hc0 : l0.length ≤ c0) (h : spec_GoodComb.f k l0 = some r) :
  Calls Tryd.prog 17 #[.slice A0 l0.length c0] w fun e w' => e = .returned (.bool r) ∧ Below w.heap.size w w' := by
 have hu65 := Tryd.underlying65
 have HR0 := aK hr0
 have HC0 := aK hc0
 clear hr0 hc0
 have HB := aK (Below.refl w.heap.size w)
 have H : ((spec_l1In.f (l0.length : Int) 1 200).bind fun t101 => (if t101 = true then (spec_GoodComb.l0 k l0 l0 (l0.length : Int) 0) else (some false))) = some r := h
 clear h
 obtain ⟨t101, A2, H⟩ := oB H
 try dsimp only at H
 by_cases c3 : t101 = true
 ·subst c3
  rw [if_pos rfl] at H
  have H' := aK H
  clear H
  go_enter Tryd.func17, Tryd.ntmps17
  go_wp2_with (first | ((with_reducible refine gate_callee (f := 25) rfl ?_); refine goesL_ (some 12) rfl rfl Tryd.func25 (by kernel_rfl) rfl #[.int .i64 (l0.length : Int), .int .i64 1, .int .i64 200] rfl tA ?_; (with_reducible refine (spec_l1In.calls (l0.length : Int) 1 200 true _ A2.out).mono ?_); rintro e w' ⟨rfl, ⟨nd, rfl⟩⟩; refine ⟨_, rfl, ?_⟩))
  go_loopg [16] k (fun kq v16 w' => ∃ (x16_1 : Int), v16 = .int .i64 x16_1 ∧ Aside0 (spec_GoodComb.l0 kq l0 l0 (l0.length : Int) x16_1 = some r) ∧ Aside0 (kq ≤ k) ∧ Aside0 (Below w.heap.size w w'))
  case atStart => exact ⟨(0), rS, H', ⟨Nat.le_refl _⟩, ⟨pH HB⟩⟩
  case round =>
   clear H'
   try clear c1; try clear c2; try clear p2; try clear c3
   obtain ⟨x16_1, rfl, HA, HK1, HB⟩ := hrel
   cases gk with
   | zero => exact absurd HA.out (by simp [spec_GoodComb.l0])
   | succ k1 =>
    have H := HA.out
    clear HA
    simp only [spec_GoodComb.l0] at H
    by_cases c4 : x16_1 < (l0.length : Int)
    ·rw [if_pos c4] at H
     have c4b0 : decide (x16_1 < (l0.length : Int)) = true := decide_eq_true c4
     clear c4
     by_cases c5 : 0 ≤ x16_1
     ·rw [if_pos c5] at H
      have c5b0 : decide (0 ≤ x16_1) = true := decide_eq_true c5
      clear c5
      by_cases c6 : x16_1 < (l0.length : Int)
      ·rw [if_pos c6] at H
       have c6b0 : decide (x16_1 < (l0.length : Int)) = true := decide_eq_true c6
       clear c6
       have HC7 := aK H
       clear H
       have p102 : 0 ≤ (x16_1 : Int) := dA
       have q102 : x16_1 < (l0.length : Int) := dA
       obtain ⟨ad102, e102, hx102_0, hx102_1, hx102_2⟩ := at_T65 HR0.out x16_1 p102 q102
       cases e102
       replace hx102_0 := uC HB hx102_0
       replace hx102_1 := uC HB hx102_1
       replace hx102_2 := uC HB hx102_2
       replace p102 := eq_true p102
       replace q102 := eq_true q102
       go_upto_region 6 with (first | ((with_reducible refine gate_dst (N := 4) rfl ?_); (try (refine gate_guard (by rfl) ?_; dsimp only)); refine bE (N := 4) (cs := #[.int .i64 0, .int .i64 0, .int .i64 0]) (t := 65) ?_; intro gb103 hg w8 hbox hb; have GW103 := qw HB hg; have GE103 := qw HB hg; have BK103 := aK hbox; replace HB := qs HB hb; clear hb hbox hg; obtain ⟨hcz9_0, hcz9_1, hcz9_2, hfz9_0, hfz9_1, hfz9_2⟩ := cA3 BK103))
       (try simp only [Act.put, List.setIfInBounds_toArray, List.set_cons_zero, List.set_cons_succ])
       go_cut [56] (fun v56 wc => ∃ (kq : Nat) (x56_6 : Bool), v56 = .bool x56_6 ∧ Aside0 (spec_GoodComb.j1 kq l0 x16_1 l0 (l0.length : Int) x16_1 x56_6 ((rd_T65 l0 x16_1).f0) ((rd_T65 l0 x16_1).f1) ((rd_T65 l0 x16_1).f2) = some r) ∧ Aside0 (kq ≤ k1) ∧ Aside0 (wc.heap[gb103]? = some (.cells #[.int .i64 ((rd_T65 l0 x16_1).f0), .int .i64 ((rd_T65 l0 x16_1).f1), .int .i64 ((rd_T65 l0 x16_1).f2)] 65 (0, 0))) ∧ Aside0 (Below w.heap.size w wc))
       case first =>
        have H := HC7.out
        clear HC7
        by_cases c10 : ((x16_1 == 0) != (((rd_T65 l0 x16_1).f2) == (-1))) = true
        ·rw [if_pos c10] at H
         have c10b0 : ((x16_1 == 0) != (((rd_T65 l0 x16_1).f2) == (-1))) = true := c10
         (try (have c10b1 : decide ((x16_1 == 0) = (((rd_T65 l0 x16_1).f2) == (-1))) = false := by simpa using c10))
         (try (have c10b2 : ((x16_1 == 0) == (((rd_T65 l0 x16_1).f2) == (-1))) = false := by simpa using c10))
         (try (have c10b3 : ¬ ((x16_1 == 0) = (((rd_T65 l0 x16_1).f2) == (-1))) := by simpa using c10))
         clear c10
         (first | rw [c10b0] | (simp only [i64_w, i32_w]; rw [c10b0]) | skip)
         have H' := aK H
         clear H
         obtain ⟨hcz11_0, hcz11_1, hcz11_2, hfz11_0, hfz11_1, hfz11_2⟩ := cA3 BK103
         go_wp2
         go_meet
         case rel => exact ⟨_, (true), rS, H', ⟨by have := HK1.out; first | omega | exact Nat.le_refl _⟩, ⟨p3 BK103⟩, ⟨pH HB⟩⟩
        ·rw [if_neg c10] at H
         have c10b0 : ((x16_1 == 0) != (((rd_T65 l0 x16_1).f2) == (-1))) = false := by simpa using c10
         (try (have c10b1 : decide ((x16_1 == 0) = (((rd_T65 l0 x16_1).f2) == (-1))) = true := by simpa using c10))
         (try (have c10b2 : ((x16_1 == 0) == (((rd_T65 l0 x16_1).f2) == (-1))) = true := by simpa using c10))
         clear c10
         (first | rw [c10b0] | (simp only [i64_w, i32_w]; rw [c10b0]) | skip)
         obtain ⟨t104, A12, H⟩ := oB H
         try dsimp only at H
         by_cases c13 : t104 = true
         ·subst c13
          rw [if_pos rfl] at H
          obtain ⟨t105, A14, H⟩ := oB H
          try dsimp only at H
          by_cases c15 : t105 = true
          ·subst c15
           rw [if_pos rfl] at H
           obtain ⟨t106, A16, H⟩ := oB H
           try dsimp only at H
           by_cases c17 : t106 = true
           ·subst c17
            rw [if_pos rfl] at H
            by_cases c18 : ((rd_T65 l0 x16_1).f0) = 1
            ·rw [if_pos c18] at H
             have c18b0 : (((rd_T65 l0 x16_1).f0) == 1) = true := beq_iff_eq.mpr c18
             have c18b1 : (((rd_T65 l0 x16_1).f0) != 1) = false := bne_eq_false_iff_eq.mpr c18
             clear c18
             have H' := aK H
             clear H
             obtain ⟨hcz19_0, hcz19_1, hcz19_2, hfz19_0, hfz19_1, hfz19_2⟩ := cA3 BK103
             go_wp2_with (first | (go_at_call 25; (with_reducible refine (spec_l1In.calls ((rd_T65 l0 x16_1).f2) (-1) (wrap64 (x16_1 - 1)) true _ A12.out).mono ?_); rintro e w' ⟨rfl, ⟨nd, rfl⟩⟩) | (go_at_call 25; (with_reducible refine (spec_l1In.calls ((rd_T65 l0 x16_1).f0) 1 5 true _ A14.out).mono ?_); rintro e w' ⟨rfl, ⟨nd, rfl⟩⟩) | (go_at_call 25; (with_reducible refine (spec_l1In.calls ((rd_T65 l0 x16_1).f1) 0 999 true _ A16.out).mono ?_); rintro e w' ⟨rfl, ⟨nd, rfl⟩⟩))
             go_meet
             case rel => exact ⟨_, (false), rS, H', ⟨by have := HK1.out; first | omega | exact Nat.le_refl _⟩, ⟨p3 BK103⟩, ⟨pH HB⟩⟩
            ·rw [if_neg c18] at H
             have c18b0 : (((rd_T65 l0 x16_1).f0) == 1) = false := beq_eq_false_iff_ne.mpr c18
             have c18b1 : (((rd_T65 l0 x16_1).f0) != 1) = true := bne_iff_ne.mpr c18
             have H' := aK H
             clear H
             obtain ⟨hcz20_0, hcz20_1, hcz20_2, hfz20_0, hfz20_1, hfz20_2⟩ := cA3 BK103
             go_wp2_with (first | (go_at_call 25; (with_reducible refine (spec_l1In.calls ((rd_T65 l0 x16_1).f2) (-1) (wrap64 (x16_1 - 1)) true _ A12.out).mono ?_); rintro e w' ⟨rfl, ⟨nd, rfl⟩⟩) | (go_at_call 25; (with_reducible refine (spec_l1In.calls ((rd_T65 l0 x16_1).f0) 1 5 true _ A14.out).mono ?_); rintro e w' ⟨rfl, ⟨nd, rfl⟩⟩) | (go_at_call 25; (with_reducible refine (spec_l1In.calls ((rd_T65 l0 x16_1).f1) 0 999 true _ A16.out).mono ?_); rintro e w' ⟨rfl, ⟨nd, rfl⟩⟩))
             go_meet
             case rel => exact ⟨_, ((((rd_T65 l0 x16_1).f1) != 0)), rS, H', ⟨by have := HK1.out; first | omega | exact Nat.le_refl _⟩, ⟨p3 BK103⟩, ⟨pH HB⟩⟩
           ·replace c17 := Bool.eq_false_iff.mpr c17
            subst c17
            rw [if_neg (show ¬ (false = true) by decide)] at H
            have H' := aK H
            clear H
            obtain ⟨hcz21_0, hcz21_1, hcz21_2, hfz21_0, hfz21_1, hfz21_2⟩ := cA3 BK103
            go_wp2_with (first | (go_at_call 25; (with_reducible refine (spec_l1In.calls ((rd_T65 l0 x16_1).f2) (-1) (wrap64 (x16_1 - 1)) true _ A12.out).mono ?_); rintro e w' ⟨rfl, ⟨nd, rfl⟩⟩) | (go_at_call 25; (with_reducible refine (spec_l1In.calls ((rd_T65 l0 x16_1).f0) 1 5 true _ A14.out).mono ?_); rintro e w' ⟨rfl, ⟨nd, rfl⟩⟩) | (go_at_call 25; (with_reducible refine (spec_l1In.calls ((rd_T65 l0 x16_1).f1) 0 999 false _ A16.out).mono ?_); rintro e w' ⟨rfl, ⟨nd, rfl⟩⟩))
            go_meet
            case rel => exact ⟨_, (true), rS, H', ⟨by have := HK1.out; first | omega | exact Nat.le_refl _⟩, ⟨p3 BK103⟩, ⟨pH HB⟩⟩
          ·replace c15 := Bool.eq_false_iff.mpr c15
           subst c15
           rw [if_neg (show ¬ (false = true) by decide)] at H
           have H' := aK H
           clear H
           obtain ⟨hcz22_0, hcz22_1, hcz22_2, hfz22_0, hfz22_1, hfz22_2⟩ := cA3 BK103
           go_wp2_with (first | (go_at_call 25; (with_reducible refine (spec_l1In.calls ((rd_T65 l0 x16_1).f2) (-1) (wrap64 (x16_1 - 1)) true _ A12.out).mono ?_); rintro e w' ⟨rfl, ⟨nd, rfl⟩⟩) | (go_at_call 25; (with_reducible refine (spec_l1In.calls ((rd_T65 l0 x16_1).f0) 1 5 false _ A14.out).mono ?_); rintro e w' ⟨rfl, ⟨nd, rfl⟩⟩))
           go_meet
           case rel => exact ⟨_, (true), rS, H', ⟨by have := HK1.out; first | omega | exact Nat.le_refl _⟩, ⟨p3 BK103⟩, ⟨pH HB⟩⟩
         ·replace c13 := Bool.eq_false_iff.mpr c13
          subst c13
          rw [if_neg (show ¬ (false = true) by decide)] at H
          have H' := aK H
          clear H
          obtain ⟨hcz23_0, hcz23_1, hcz23_2, hfz23_0, hfz23_1, hfz23_2⟩ := cA3 BK103
          go_wp2_with (first | (go_at_call 25; (with_reducible refine (spec_l1In.calls ((rd_T65 l0 x16_1).f2) (-1) (wrap64 (x16_1 - 1)) false _ A12.out).mono ?_); rintro e w' ⟨rfl, ⟨nd, rfl⟩⟩))
          go_meet
          case rel => exact ⟨_, (true), rS, H', ⟨by have := HK1.out; first | omega | exact Nat.le_refl _⟩, ⟨p3 BK103⟩, ⟨pH HB⟩⟩
       case rest =>
        clear HC7
        try clear c1; try clear p1; try clear q1; try clear hx1; try clear c2; try clear p2; try clear c3; try clear c4; try clear c4b0; try clear c5; try clear c5b0; try clear c6; try clear c6b0; try clear p6; try clear c10; try clear c10b0; try clear c10b1; try clear c10b2; try clear p10; try clear q10; try clear hx10; try clear c13; try clear c15; try clear c17; try clear c18; try clear c18b0; try clear c18b1; try clear hx102_0; try clear hx102_1; try clear hx102_2; try clear p102; try clear p2; try clear q102; try clear hcz11_0 hcz11_1 hcz11_2 hfz11_0 hfz11_1 hfz11_2; try clear hcz19_0 hcz19_1 hcz19_2 hfz19_0 hfz19_1 hfz19_2; try clear hcz20_0 hcz20_1 hcz20_2 hfz20_0 hfz20_1 hfz20_2; try clear hcz21_0 hcz21_1 hcz21_2 hfz21_0 hfz21_1 hfz21_2; try clear hcz22_0 hcz22_1 hcz22_2 hfz22_0 hfz22_1 hfz22_2; try clear hcz23_0 hcz23_1 hcz23_2 hfz23_0 hfz23_1 hfz23_2; try clear hcz9_0 hcz9_1 hcz9_2 hfz9_0 hfz9_1 hfz9_2
        obtain ⟨kq, x56_6, rfl, HA, HJ6, BK103, HB⟩ := hcut
        cases kq with
        | zero => exact absurd HA.out (by simp [spec_GoodComb.j1])
        | succ kj6 =>
         have H := HA.out
         clear HA
         simp only [spec_GoodComb.j1] at H
         by_cases c24 : x56_6 = true
         ·subst c24
          rw [if_pos rfl] at H
          obtain rfl := Option.some.inj H
          go_wp2
          go_ret
          exact ⟨eW, pH HB⟩
         ·replace c24 := Bool.eq_false_iff.mpr c24
          subst c24
          rw [if_neg (show ¬ (false = true) by decide)] at H
          have HC25 := aK H
          clear H
          go_upto_block 2 with (fail)
          go_cut [5] (fun v5 wc => ∃ (kq : Nat) (x5_24 : Bool), v5 = .bool x5_24 ∧ Aside0 (spec_GoodComb.j3 kq l0 x16_1 x5_24 l0 (l0.length : Int) x16_1 ((rd_T65 l0 x16_1).f0) ((rd_T65 l0 x16_1).f1) ((rd_T65 l0 x16_1).f2) = some r) ∧ Aside0 (kq ≤ kj6) ∧ Aside0 (wc.heap[gb103]? = some (.cells #[.int .i64 ((rd_T65 l0 x16_1).f0), .int .i64 ((rd_T65 l0 x16_1).f1), .int .i64 ((rd_T65 l0 x16_1).f2)] 65 (0, 0))) ∧ Aside0 (Below w.heap.size w wc))
          case first =>
           have H := HC25.out
           clear HC25
           have H' := aK H
           clear H
           go_wp2
           go_loopg [5, 6] kj6 (fun kq v5 v6 w' => ∃ (x5_3 : Bool) (x6_3 : Int), v5 = .bool x5_3 ∧ v6 = .int .i64 x6_3 ∧ Aside0 (spec_GoodComb.l1 kq l0 x16_1 x5_3 x6_3 l0 (l0.length : Int) x16_1 ((rd_T65 l0 x16_1).f0) ((rd_T65 l0 x16_1).f1) ((rd_T65 l0 x16_1).f2) = some r) ∧ Aside0 (kq ≤ kj6) ∧ Aside0 (w'.heap[gb103]? = some (.cells #[.int .i64 ((rd_T65 l0 x16_1).f0), .int .i64 ((rd_T65 l0 x16_1).f1), .int .i64 ((rd_T65 l0 x16_1).f2)] 65 (0, 0))) ∧ Aside0 (Below w.heap.size w w'))
           case atStart => exact ⟨((x16_1 == 0)), (wrap64 (x16_1 - 1)), rS, rS, H', ⟨Nat.le_refl _⟩, ⟨pB BK103⟩, ⟨pH HB⟩⟩
           case round =>
            clear H'
            try clear c1; try clear p1; try clear q1; try clear hx1; try clear c2; try clear p2; try clear c3; try clear c4; try clear c4b0; try clear c5; try clear c5b0; try clear c6; try clear c6b0; try clear p6; try clear c10; try clear c10b0; try clear c10b1; try clear c10b2; try clear p10; try clear q10; try clear hx10; try clear c13; try clear c15; try clear c17; try clear c18; try clear c18b0; try clear c18b1; try clear c24; try clear c25; try clear hx102_0; try clear hx102_1; try clear hx102_2; try clear p1; try clear p10; try clear p102; try clear p2; try clear p6; try clear q1; try clear q10; try clear q102; try clear hcz11_0 hcz11_1 hcz11_2 hfz11_0 hfz11_1 hfz11_2; try clear hcz19_0 hcz19_1 hcz19_2 hfz19_0 hfz19_1 hfz19_2; try clear hcz20_0 hcz20_1 hcz20_2 hfz20_0 hfz20_1 hfz20_2; try clear hcz21_0 hcz21_1 hcz21_2 hfz21_0 hfz21_1 hfz21_2; try clear hcz22_0 hcz22_1 hcz22_2 hfz22_0 hfz22_1 hfz22_2; try clear hcz23_0 hcz23_1 hcz23_2 hfz23_0 hfz23_1 hfz23_2; try clear hcz9_0 hcz9_1 hcz9_2 hfz9_0 hfz9_1 hfz9_2
            obtain ⟨x5_3, x6_3, rfl, rfl, HA, HK3, BK103, HB⟩ := hrel
            cases gk with
            | zero => exact absurd HA.out (by simp [spec_GoodComb.l1])
            | succ k3 =>
             have H := HA.out
             clear HA
             simp only [spec_GoodComb.l1] at H
             by_cases c26 : x6_3 ≥ 0
             ·rw [if_pos c26] at H
              have c26b0 : decide (0 ≤ x6_3) = true := decide_eq_true c26
              clear c26
              (first | rw [c26b0] | (simp only [i64_w, i32_w]; rw [c26b0]) | skip)
              by_cases c27 : x5_3 = true
              ·subst c27
               rw [if_pos rfl] at H
               have H' := aK H
               clear H
               go_wp2
               go_meet
               case rel => exact ⟨_, (true), rS, H', ⟨by have := HK1.out; have := HJ6.out; have := HK3.out; first | omega | exact Nat.le_refl _⟩, ⟨pB BK103⟩, ⟨pH HB⟩⟩
              ·replace c27 := Bool.eq_false_iff.mpr c27
               subst c27
               rw [if_neg (show ¬ (false = true) by decide)] at H
               by_cases c28 : 0 ≤ x6_3
               ·rw [if_pos c28] at H
                have c28b0 : decide (0 ≤ x6_3) = true := decide_eq_true c28
                clear c28
                by_cases c29 : x6_3 < (l0.length : Int)
                ·rw [if_pos c29] at H
                 have c29b0 : decide (x6_3 < (l0.length : Int)) = true := decide_eq_true c29
                 clear c29
                 have H' := aK H
                 clear H
                 obtain ⟨hcz30_0, hcz30_1, hcz30_2, hfz30_0, hfz30_1, hfz30_2⟩ := cA3 BK103
                 have p107 : 0 ≤ (x6_3 : Int) := dA
                 have q107 : x6_3 < (l0.length : Int) := dA
                 obtain ⟨ad107, e107, hx107_0, hx107_1, hx107_2⟩ := at_T65 HR0.out x6_3 p107 q107
                 obtain rfl : ad102 = ad107 := (by injection e107)
                 replace hx107_0 := uC HB hx107_0
                 replace hx107_1 := uC HB hx107_1
                 replace hx107_2 := uC HB hx107_2
                 replace p107 := eq_true p107
                 replace q107 := eq_true q107
                 go_wp2
                 go_roundg k3
                 case measure => have := HK1.out; have := HJ6.out; have := HK3.out; omega
                 case rel => exact ⟨((x6_3 == ((rd_T65 l0 x16_1).f2))), ((rd_T65 l0 x6_3).f2), rS, rS, H', ⟨by have := HK1.out; have := HJ6.out; have := HK3.out; omega⟩, ⟨pB BK103⟩, ⟨pH HB⟩⟩
                ·rw [if_neg c29] at H
                 exact absurd H (by simp)
               ·rw [if_neg c28] at H
                exact absurd H (by simp)
             ·rw [if_neg c26] at H
              have c26b0 : decide (0 ≤ x6_3) = false := decide_eq_false c26
              clear c26
              (first | rw [c26b0] | (simp only [i64_w, i32_w]; rw [c26b0]) | skip)
              have H' := aK H
              clear H
              go_wp2
              go_meet
              case rel => exact ⟨_, (x5_3), rS, H', ⟨by have := HK1.out; have := HJ6.out; have := HK3.out; first | omega | exact Nat.le_refl _⟩, ⟨pB BK103⟩, ⟨pH HB⟩⟩
          case rest =>
           clear HC25
           try clear c1; try clear p1; try clear q1; try clear hx1; try clear c2; try clear p2; try clear c3; try clear c4; try clear c4b0; try clear c5; try clear c5b0; try clear c6; try clear c6b0; try clear p6; try clear c10; try clear c10b0; try clear c10b1; try clear c10b2; try clear p10; try clear q10; try clear hx10; try clear c13; try clear c15; try clear c17; try clear c18; try clear c18b0; try clear c18b1; try clear c24; try clear c25; try clear c26; try clear c26b0; try clear c27; try clear c28; try clear c28b0; try clear c29; try clear c29b0; try clear hx102_0; try clear hx102_1; try clear hx102_2; try clear hx107_0; try clear hx107_1; try clear hx107_2; try clear p1; try clear p10; try clear p102; try clear p107; try clear p2; try clear p6; try clear q1; try clear q10; try clear q102; try clear q107; try clear hcz11_0 hcz11_1 hcz11_2 hfz11_0 hfz11_1 hfz11_2; try clear hcz19_0 hcz19_1 hcz19_2 hfz19_0 hfz19_1 hfz19_2; try clear hcz20_0 hcz20_1 hcz20_2 hfz20_0 hfz20_1 hfz20_2; try clear hcz21_0 hcz21_1 hcz21_2 hfz21_0 hfz21_1 hfz21_2; try clear hcz22_0 hcz22_1 hcz22_2 hfz22_0 hfz22_1 hfz22_2; try clear hcz23_0 hcz23_1 hcz23_2 hfz23_0 hfz23_1 hfz23_2; try clear hcz30_0 hcz30_1 hcz30_2 hfz30_0 hfz30_1 hfz30_2; try clear hcz9_0 hcz9_1 hcz9_2 hfz9_0 hfz9_1 hfz9_2
           obtain ⟨kq, x5_24, rfl, HA, HJ24, BK103, HB⟩ := hcut
           cases kq with
           | zero => exact absurd HA.out (by simp [spec_GoodComb.j3])
           | succ kj24 =>
            have H := HA.out
            clear HA
            simp only [spec_GoodComb.j3] at H
            have H' := aK H
            clear H
            go_wp2
            go_loopg [7, 8] kj24 (fun kq v7 v8 w' => ∃ (x7_4 : Int) (x8_4 : Int), v7 = .int .i64 x7_4 ∧ v8 = .int .i64 x8_4 ∧ Aside0 (spec_GoodComb.l2 kq l0 x16_1 x5_24 x7_4 x8_4 l0 (l0.length : Int) x16_1 ((rd_T65 l0 x16_1).f0) ((rd_T65 l0 x16_1).f1) ((rd_T65 l0 x16_1).f2) = some r) ∧ Aside0 (kq ≤ kj24) ∧ Aside0 (w'.heap[gb103]? = some (.cells #[.int .i64 ((rd_T65 l0 x16_1).f0), .int .i64 ((rd_T65 l0 x16_1).f1), .int .i64 ((rd_T65 l0 x16_1).f2)] 65 (0, 0))) ∧ Aside0 (Below w.heap.size w w'))
            case atStart => exact ⟨(0), (x16_1), rS, rS, H', ⟨Nat.le_refl _⟩, ⟨pB BK103⟩, ⟨pH HB⟩⟩
            case round =>
             clear H'
             try clear c1; try clear p1; try clear q1; try clear hx1; try clear c2; try clear p2; try clear c3; try clear c4; try clear c4b0; try clear c5; try clear c5b0; try clear c6; try clear c6b0; try clear p6; try clear c10; try clear c10b0; try clear c10b1; try clear c10b2; try clear p10; try clear q10; try clear hx10; try clear c13; try clear c15; try clear c17; try clear c18; try clear c18b0; try clear c18b1; try clear c24; try clear c25; try clear c26; try clear c26b0; try clear c27; try clear c28; try clear c28b0; try clear c29; try clear c29b0; try clear hx102_0; try clear hx102_1; try clear hx102_2; try clear hx107_0; try clear hx107_1; try clear hx107_2; try clear p1; try clear p10; try clear p102; try clear p107; try clear p2; try clear p6; try clear q1; try clear q10; try clear q102; try clear q107; try clear hcz11_0 hcz11_1 hcz11_2 hfz11_0 hfz11_1 hfz11_2; try clear hcz19_0 hcz19_1 hcz19_2 hfz19_0 hfz19_1 hfz19_2; try clear hcz20_0 hcz20_1 hcz20_2 hfz20_0 hfz20_1 hfz20_2; try clear hcz21_0 hcz21_1 hcz21_2 hfz21_0 hfz21_1 hfz21_2; try clear hcz22_0 hcz22_1 hcz22_2 hfz22_0 hfz22_1 hfz22_2; try clear hcz23_0 hcz23_1 hcz23_2 hfz23_0 hfz23_1 hfz23_2; try clear hcz30_0 hcz30_1 hcz30_2 hfz30_0 hfz30_1 hfz30_2; try clear hcz9_0 hcz9_1 hcz9_2 hfz9_0 hfz9_1 hfz9_2
             obtain ⟨x7_4, x8_4, rfl, rfl, HA, HK4, BK103, HB⟩ := hrel
             cases gk with
             | zero => exact absurd HA.out (by simp [spec_GoodComb.l2])
             | succ k4 =>
              have H := HA.out
              clear HA
              simp only [spec_GoodComb.l2] at H
              by_cases c31 : x8_4 ≥ 0
              ·rw [if_pos c31] at H
               have c31b0 : decide (0 ≤ x8_4) = true := decide_eq_true c31
               clear c31
               by_cases c32 : 0 ≤ x8_4
               ·rw [if_pos c32] at H
                have c32b0 : decide (0 ≤ x8_4) = true := decide_eq_true c32
                clear c32
                by_cases c33 : x8_4 < (l0.length : Int)
                ·rw [if_pos c33] at H
                 have c33b0 : decide (x8_4 < (l0.length : Int)) = true := decide_eq_true c33
                 clear c33
                 have H' := aK H
                 clear H
                 have p108 : 0 ≤ (x8_4 : Int) := dA
                 have q108 : x8_4 < (l0.length : Int) := dA
                 obtain ⟨ad108, e108, hx108_0, hx108_1, hx108_2⟩ := at_T65 HR0.out x8_4 p108 q108
                 obtain rfl : ad102 = ad108 := (by injection e108)
                 replace hx108_0 := uC HB hx108_0
                 replace hx108_1 := uC HB hx108_1
                 replace hx108_2 := uC HB hx108_2
                 replace p108 := eq_true p108
                 replace q108 := eq_true q108
                 go_wp2
                 go_roundg k4
                 case measure => have := HK1.out; have := HJ6.out; have := HJ24.out; have := HK4.out; omega
                 case rel => exact ⟨(wrap64 (x7_4 + 1)), ((rd_T65 l0 x8_4).f2), rS, rS, H', ⟨by have := HK1.out; have := HJ6.out; have := HJ24.out; have := HK4.out; omega⟩, ⟨pB BK103⟩, ⟨pH HB⟩⟩
                ·rw [if_neg c33] at H
                 exact absurd H (by simp)
               ·rw [if_neg c32] at H
                exact absurd H (by simp)
              ·rw [if_neg c31] at H
               have c31b0 : decide (0 ≤ x8_4) = false := decide_eq_false c31
               clear c31
               by_cases c34 : ((rd_T65 l0 x16_1).f0) = 2
               ·rw [if_pos c34] at H
                have c34b0 : (((rd_T65 l0 x16_1).f0) == 2) = true := beq_iff_eq.mpr c34
                have c34b1 : (((rd_T65 l0 x16_1).f0) != 2) = false := bne_eq_false_iff_eq.mpr c34
                clear c34
                by_cases c35 : x5_24 = true
                ·subst c35
                 rw [if_pos rfl] at H
                 by_cases c36 : x7_4 > 60
                 ·rw [if_pos c36] at H
                  have c36b0 : decide (60 < x7_4) = true := decide_eq_true c36
                  clear c36
                  obtain rfl := Option.some.inj H
                  obtain ⟨hcz37_0, hcz37_1, hcz37_2, hfz37_0, hfz37_1, hfz37_2⟩ := cA3 BK103
                  go_wp2
                  go_ret
                  exact ⟨eW, pH HB⟩
                 ·rw [if_neg c36] at H
                  have c36b0 : decide (60 < x7_4) = false := decide_eq_false c36
                  clear c36
                  obtain ⟨t109, A38, H⟩ := oB H
                  try dsimp only at H
                  by_cases c39 : (t109.length : Int) = 2
                  ·rw [if_pos c39] at H
                   have c39b0 : ((t109.length : Int) == 2) = true := beq_iff_eq.mpr c39
                   have c39b1 : ((t109.length : Int) != 2) = false := bne_eq_false_iff_eq.mpr c39
                   clear c39
                   have H' := aK H
                   clear H
                   obtain ⟨hcz40_0, hcz40_1, hcz40_2, hfz40_0, hfz40_1, hfz40_2⟩ := cA3 BK103
                   go_wp2_with (first | (go_at_call 33; (with_reducible refine (spec_ldParts.calls k4 _ _ l0 x16_1 t109 _ ?side1 ?side2 A38.out).mono ?_); (case side1 => exact sC (Kd.C_below HR0.out HB.out)); (case side2 => exact HC0.out); rintro e w41 ⟨v110, rfl, ho0, hb⟩; have HO111 := aK (Kd.R_lower ho0 (below_size HB.out)); replace BK103 := qb BK103 hb; replace HB := qs HB hb; (try clear hb); (try clear ho0); obtain ⟨Ao42, co42, eo42⟩ := Kd.R_slice HO111.out; subst eo42))
                   go_roundg k4
                   case measure => have := HK1.out; have := HJ6.out; have := HJ24.out; have := HK4.out; omega
                   case rel => exact ⟨(wrap64 (x16_1 + 1)), rS, H', ⟨by have := HK1.out; have := HJ6.out; have := HJ24.out; have := HK4.out; omega⟩, ⟨pH HB⟩⟩
                  ·rw [if_neg c39] at H
                   have c39b0 : ((t109.length : Int) == 2) = false := beq_eq_false_iff_ne.mpr c39
                   have c39b1 : ((t109.length : Int) != 2) = true := bne_iff_ne.mpr c39
                   obtain rfl := Option.some.inj H
                   obtain ⟨hcz43_0, hcz43_1, hcz43_2, hfz43_0, hfz43_1, hfz43_2⟩ := cA3 BK103
                   go_wp2_with (first | (go_at_call 33; (with_reducible refine (spec_ldParts.calls k4 _ _ l0 x16_1 t109 _ ?side1 ?side2 A38.out).mono ?_); (case side1 => exact sC (Kd.C_below HR0.out HB.out)); (case side2 => exact HC0.out); rintro e w44 ⟨v110, rfl, ho0, hb⟩; have HO111 := aK (Kd.R_lower ho0 (below_size HB.out)); replace BK103 := qb BK103 hb; replace HB := qs HB hb; (try clear hb); (try clear ho0); obtain ⟨Ao45, co45, eo45⟩ := Kd.R_slice HO111.out; subst eo45))
                   go_ret
                   exact ⟨eW, pH HB⟩
                ·replace c35 := Bool.eq_false_iff.mpr c35
                 subst c35
                 rw [if_neg (show ¬ (false = true) by decide)] at H
                 obtain rfl := Option.some.inj H
                 obtain ⟨hcz46_0, hcz46_1, hcz46_2, hfz46_0, hfz46_1, hfz46_2⟩ := cA3 BK103
                 go_wp2
                 go_ret
                 exact ⟨eW, pH HB⟩
               ·rw [if_neg c34] at H
                have c34b0 : (((rd_T65 l0 x16_1).f0) == 2) = false := beq_eq_false_iff_ne.mpr c34
                have c34b1 : (((rd_T65 l0 x16_1).f0) != 2) = true := bne_iff_ne.mpr c34
                by_cases c47 : x5_24 = true
                ·subst c47
                 rw [if_pos rfl] at H
                 by_cases c48 : x7_4 > 60
                 ·rw [if_pos c48] at H
                  have c48b0 : decide (60 < x7_4) = true := decide_eq_true c48
                  clear c48
                  obtain rfl := Option.some.inj H
                  obtain ⟨hcz49_0, hcz49_1, hcz49_2, hfz49_0, hfz49_1, hfz49_2⟩ := cA3 BK103
                  go_wp2
                  go_ret
                  exact ⟨eW, pH HB⟩
                 ·rw [if_neg c48] at H
                  have c48b0 : decide (60 < x7_4) = false := decide_eq_false c48
                  clear c48
                  obtain ⟨t112, A50, H⟩ := oB H
                  try dsimp only at H
                  by_cases c51 : (t112.length : Int) = 0
                  ·rw [if_pos c51] at H
                   have c51b0 : ((t112.length : Int) == 0) = true := beq_iff_eq.mpr c51
                   have c51b1 : ((t112.length : Int) != 0) = false := bne_eq_false_iff_eq.mpr c51
                   clear c51
                   have H' := aK H
                   clear H
                   obtain ⟨hcz52_0, hcz52_1, hcz52_2, hfz52_0, hfz52_1, hfz52_2⟩ := cA3 BK103
                   go_wp2_with (first | (go_at_call 33; (with_reducible refine (spec_ldParts.calls k4 _ _ l0 x16_1 t112 _ ?side1 ?side2 A50.out).mono ?_); (case side1 => exact sC (Kd.C_below HR0.out HB.out)); (case side2 => exact HC0.out); rintro e w53 ⟨v113, rfl, ho0, hb⟩; have HO114 := aK (Kd.R_lower ho0 (below_size HB.out)); replace BK103 := qb BK103 hb; replace HB := qs HB hb; (try clear hb); (try clear ho0); obtain ⟨Ao54, co54, eo54⟩ := Kd.R_slice HO114.out; subst eo54))
                   go_roundg k4
                   case measure => have := HK1.out; have := HJ6.out; have := HJ24.out; have := HK4.out; omega
                   case rel => exact ⟨(wrap64 (x16_1 + 1)), rS, H', ⟨by have := HK1.out; have := HJ6.out; have := HJ24.out; have := HK4.out; omega⟩, ⟨pH HB⟩⟩
                  ·rw [if_neg c51] at H
                   have c51b0 : ((t112.length : Int) == 0) = false := beq_eq_false_iff_ne.mpr c51
                   have c51b1 : ((t112.length : Int) != 0) = true := bne_iff_ne.mpr c51
                   have c51b2 : ¬ (t112 = []) := fun h_ => c51 (by rw [h_]; rfl)
                   obtain rfl := Option.some.inj H
                   obtain ⟨hcz55_0, hcz55_1, hcz55_2, hfz55_0, hfz55_1, hfz55_2⟩ := cA3 BK103
                   go_wp2_with (first | (go_at_call 33; (with_reducible refine (spec_ldParts.calls k4 _ _ l0 x16_1 t112 _ ?side1 ?side2 A50.out).mono ?_); (case side1 => exact sC (Kd.C_below HR0.out HB.out)); (case side2 => exact HC0.out); rintro e w56 ⟨v113, rfl, ho0, hb⟩; have HO114 := aK (Kd.R_lower ho0 (below_size HB.out)); replace BK103 := qb BK103 hb; replace HB := qs HB hb; (try clear hb); (try clear ho0); obtain ⟨Ao57, co57, eo57⟩ := Kd.R_slice HO114.out; subst eo57))
                   go_ret
                   exact ⟨eW, pH HB⟩
                ·replace c47 := Bool.eq_false_iff.mpr c47
                 subst c47
                 rw [if_neg (show ¬ (false = true) by decide)] at H
                 obtain rfl := Option.some.inj H
                 obtain ⟨hcz58_0, hcz58_1, hcz58_2, hfz58_0, hfz58_1, hfz58_2⟩ := cA3 BK103
                 go_wp2
                 go_ret
                 exact ⟨eW, pH HB⟩
      ·rw [if_neg c6] at H
       exact absurd H (by simp)
     ·rw [if_neg c5] at H
      exact absurd H (by simp)
    ·rw [if_neg c4] at H
     have c4b0 : decide (x16_1 < (l0.length : Int)) = false := decide_eq_false c4
     clear c4
     obtain rfl := Option.some.inj H
     go_wp2
     go_ret
     exact ⟨eW, pH HB⟩
 ·replace c3 := Bool.eq_false_iff.mpr c3
  subst c3
  rw [if_neg (show ¬ (false = true) by decide)] at H
  obtain rfl := Option.some.inj H
  go_enter Tryd.func17, Tryd.ntmps17
  go_wp2_with (first | ((with_reducible refine gate_callee (f := 25) rfl ?_); refine goesL_ (some 12) rfl rfl Tryd.func25 (by kernel_rfl) rfl #[.int .i64 (l0.length : Int), .int .i64 1, .int .i64 200] rfl tA ?_; (with_reducible refine (spec_l1In.calls (l0.length : Int) 1 200 false _ A2.out).mono ?_); rintro e w' ⟨rfl, ⟨nd, rfl⟩⟩; refine ⟨_, rfl, ?_⟩))
  go_ret
  exact ⟨eW, pH HB⟩


def spec_l1Num.f : Nat → Int → Option (ByteArray)
  | 0, _ => none
  | k + 1, a0 => if a0 < 0 then (if a0 = (-9223372036854775808) then (some (⟨#[45, 57, 50, 50, 51, 51, 55, 50, 48, 51, 54, 56, 53, 52, 55, 55, 53, 56, 48, 56]⟩ : ByteArray)) else ((spec_l1Num.f k (wrap64 (-a0))).bind fun t101 => (if 1 + t101.size ≤ 9223372036854775807 then (some ((⟨#[45]⟩ : ByteArray) ++ t101)) else (none)))) else (if a0 < 10 then (some (strOfNums (([(wrap64 (48 + a0)) % 256] : List Int)))) else ((spec_l1Num.f k (wrap64 (Int.tdiv a0 10))).bind fun t105 => ((some (([(wrap64 (48 + (Int.tmod a0 10))) % 256] : List Int) : List Int)).bind fun y106 => (if t105.size + (strOfNums y106).size ≤ 9223372036854775807 then (some (t105 ++ (strOfNums y106))) else (none)))))
def spec_l1Num.T7 : Bool × List (List Nat × List Nat) := (true, [([], []), ([0], [0]), ([1], [1]), ([], []), ([3], [3]), ([4], [4]), ([5], [5]), ([6], [6]), ([7], [7]), ([2, 8], [2, 8]), ([9, 2, 0, 1, 2, 3, 4, 5, 6, 7, 8, 9], [9])])
def spec_l1Num.B7 : List Nat := [0, 1, 3, 0, 8, 24, 56, 120, 248, 511, 1023]
theorem spec_l1Num.tab7 : rtab .any (opsOf Tryd.f34 7) = spec_l1Num.T7 := by kernel_rfl
theorem spec_l1Num.bits7 : waitsOk spec_l1Num.T7.2 spec_l1Num.B7 = true := by kernel_rfl
set_option maxHeartbeats 8000000 in
set_option maxRecDepth 100000 in
theorem spec_l1Num.calls (k : Nat) : ∀ (a0 : Int) (r : ByteArray) (w : World) (h : spec_l1Num.f k a0 = some r),
    Calls Tryd.prog 34 #[.int .i64 a0] w fun e w' => e = .returned (.string r) ∧ Below w.heap.size w w' := by
  induction k using Nat.strongRecOn with
  | _ k ih =>
  intro a0 r w h
  cases k with
  | zero => exact absurd h (by simp [spec_l1Num.f])
  | succ k =>
  simp only [spec_l1Num.f] at h
  have HB := aM (Below.refl w.heap.size w)
  have H : (if a0 < 0 then (if a0 = (-9223372036854775808) then (some (⟨#[45, 57, 50, 50, 51, 51, 55, 50, 48, 51, 54, 56, 53, 52, 55, 55, 53, 56, 48, 56]⟩ : ByteArray)) else ((spec_l1Num.f k (wrap64 (-a0))).bind fun t101 => (if 1 + t101.size ≤ 9223372036854775807 then (some ((⟨#[45]⟩ : ByteArray) ++ t101)) else (none)))) else (if a0 < 10 then (some (strOfNums (([(wrap64 (48 + a0)) % 256] : List Int)))) else ((spec_l1Num.f k (wrap64 (Int.tdiv a0 10))).bind fun t105 => ((some (([(wrap64 (48 + (Int.tmod a0 10))) % 256] : List Int) : List Int)).bind fun y106 => (if t105.size + (strOfNums y106).size ≤ 9223372036854775807 then (some (t105 ++ (strOfNums y106))) else (none)))))) = some r := h
  clear h
  by_cases c2 : a0 < 0
  · rw [if_pos c2] at H
    have c2b0 : decide (a0 < 0) = true := decide_eq_true c2
    clear c2
    by_cases c3 : a0 = (-9223372036854775808)
    · rw [if_pos c3] at H
      have c3b0 : (a0 == (-9223372036854775808)) = true := beq_iff_eq.mpr c3
      have c3b1 : (a0 != (-9223372036854775808)) = false := bne_eq_false_iff_eq.mpr c3
      clear c3
      obtain rfl := Option.some.inj H
      go_enter Tryd.func34, Tryd.ntmps34
      go_wp2
      go_ret
      exact ⟨by first | rfl | (simp [errW_none, errW_some] <;> rfl) | (simp [*, errW_none, errW_some] <;> rfl), by repeat (first | (with_reducible first | exact HB.out | apply below_alloc | apply pw_below_drewN | apply below_drew1) | exact HB.out)⟩
    · rw [if_neg c3] at H
      have c3b0 : (a0 == (-9223372036854775808)) = false := beq_eq_false_iff_ne.mpr c3
      have c3b1 : (a0 != (-9223372036854775808)) = true := bne_iff_ne.mpr c3
      replace H := Option.bind_eq_some_iff.mp H
      obtain ⟨t101, A40, H⟩ := H
      replace H : (if 1 + t101.size ≤ 9223372036854775807 then (some ((⟨#[45]⟩ : ByteArray) ++ t101)) else (none)) = some r := H
      have A4 := aM A40
      clear A40
      by_cases c5 : 1 + t101.size ≤ 9223372036854775807
      · rw [if_pos c5] at H
        have c5b0 := eq_true c5
        have c5b1 : decide (1 + t101.size ≤ 9223372036854775807) = true := decide_eq_true c5
        try have c5b2 : (9223372036854775807 < 1 + t101.size) = False := eq_false (Nat.not_lt.2 c5)
        obtain rfl := Option.some.inj H
        go_enter Tryd.func34, Tryd.ntmps34
        go_wp2_with (first | ((with_reducible refine gate_callee (f := 34) rfl ?_); refine goesL_ (some 9) rfl rfl Tryd.func34 (by kernel_rfl) rfl #[.int .i64 (wrap64 (-a0))] rfl (by (try simp only [List.map_toArray, List.map_cons, List.map_nil]); first | done | rfl | (simp only [List.length_drop, List.length_take]; rfl)) ?_; (with_reducible refine (ih k (by omega) (wrap64 (-a0)) t101 _ A4.out).mono ?_); rintro e w6 ⟨rfl, hb⟩; refine ⟨_, rfl, ?_⟩; have n0_ := aM (below_step (by repeat (first | (with_reducible first | exact HB.out | apply below_alloc | apply pw_below_drewN | apply below_drew1) | exact HB.out)) hb); clear HB; have HB := n0_; clear n0_; (try clear hb); (try clear hb2); (try clear hk); (try clear hi)))
        go_ret
        exact ⟨by first | rfl | (simp [errW_none, errW_some] <;> rfl) | (simp [*, errW_none, errW_some] <;> rfl), by repeat (first | (with_reducible first | exact HB.out | apply below_alloc | apply pw_below_drewN | apply below_drew1) | exact HB.out)⟩
      · rw [if_neg c5] at H
        exact absurd H (by simp)
  · rw [if_neg c2] at H
    have c2b0 : decide (a0 < 0) = false := decide_eq_false c2
    clear c2
    by_cases c7 : a0 < 10
    · rw [if_pos c7] at H
      have c7b0 : decide (a0 < 10) = true := decide_eq_true c7
      clear c7
      obtain ⟨y102, hy102⟩ : ∃ y_ : List Int, y_ = (([(wrap64 (48 + a0)) % 256] : List Int)) := ⟨_, rfl⟩
      replace H : (some (strOfNums y102)) = some r := by first | (rw [hy102]; with_reducible exact H) | (have H2_ := (Option.bind_some _ _).symm.trans H; rw [hy102]; with_reducible exact H2_) | (have H2_ := (Option.bind_some _ _).symm.trans H; with_reducible exact H2_) | with_reducible exact H | (rw [hy102]; exact H) | exact H
      have Ny102 := aM hy102
      clear hy102
      obtain rfl := Option.some.inj H
      go_enter Tryd.func34, Tryd.ntmps34
      go_wp2_with (first | ((with_reducible refine gate_dst (N := 16) rfl ?_); refine Kd.R_lit (Kd.int .u8) _ 5 ?hg (N := 16) ?hd (xs := ([(wrap64 (48 + a0)) % 256] : List Int)) (inner := [.int .u8 ((wrap64 (48 + a0)) % 256)]) (ok := fun _ => True) (okp := fun _ => True) ?hr ?hp (fun _ hk => hk) trivial (Below.refl _ _) (Nat.le_refl _) (by simp) ?_; (case hd => rfl); (case hg => rfl); (case hr => first | (go_simp; done) | (go_simp; rfl)); (case hp => exact (Reps.one (show Kd.M (Kd.int .u8) _ _ _ ((wrap64 (48 + a0)) % 256) [.int .u8 ((wrap64 (48 + a0)) % 256)] from rfl) (Reps.none _ _))); intro v103 w8 ho9 hb hg_ hnew_; clear hg_ hnew_; (first | rw [← Ny102.out] at ho9 | (simp only [Int.reduceToNat] at ho9; rw [← Ny102.out] at ho9)); have n0_ := aM (Kd.R_lower ho9 (below_size (by repeat (first | (with_reducible first | exact HB.out | apply below_alloc | apply pw_below_drewN | apply below_drew1) | exact HB.out)))); have n1_ := aM (below_step (by repeat (first | (with_reducible first | exact HB.out | apply below_alloc | apply pw_below_drewN | apply below_drew1) | exact HB.out)) hb); clear HB; have HO104 := n0_; have HB := n1_; clear n0_ n1_; clear hb ho9; have hcv10 := own_string (P := Tryd.prog) Tryd.underlying22 Tryd.underlying5 Tryd.underlying9 (Kd.own_of_R HO104.out)))
      go_ret
      exact ⟨by first | rfl | (simp [errW_none, errW_some] <;> rfl) | (simp [*, errW_none, errW_some] <;> rfl), by repeat (first | (with_reducible first | exact HB.out | apply below_alloc | apply pw_below_drewN | apply below_drew1) | exact HB.out)⟩
    · rw [if_neg c7] at H
      have c7b0 : decide (a0 < 10) = false := decide_eq_false c7
      clear c7
      replace H := Option.bind_eq_some_iff.mp H
      obtain ⟨t105, A110, H⟩ := H
      replace H : ((some (([(wrap64 (48 + (Int.tmod a0 10))) % 256] : List Int) : List Int)).bind fun y106 => (if t105.size + (strOfNums y106).size ≤ 9223372036854775807 then (some (t105 ++ (strOfNums y106))) else (none))) = some r := H
      have A11 := aM A110
      clear A110
      obtain ⟨y106, hy106⟩ : ∃ y_ : List Int, y_ = (([(wrap64 (48 + (Int.tmod a0 10))) % 256] : List Int)) := ⟨_, rfl⟩
      replace H : (if t105.size + (strOfNums y106).size ≤ 9223372036854775807 then (some (t105 ++ (strOfNums y106))) else (none)) = some r := by first | (rw [hy106]; with_reducible exact H) | (have H2_ := (Option.bind_some _ _).symm.trans H; rw [hy106]; with_reducible exact H2_) | (have H2_ := (Option.bind_some _ _).symm.trans H; with_reducible exact H2_) | with_reducible exact H | (rw [hy106]; exact H) | exact H
      have Ny106 := aM hy106
      clear hy106
      by_cases c12 : t105.size + (strOfNums y106).size ≤ 9223372036854775807
      · rw [if_pos c12] at H
        have c12b0 := eq_true c12
        have c12b1 : decide (t105.size + (strOfNums y106).size ≤ 9223372036854775807) = true := decide_eq_true c12
        try have c12b2 : (9223372036854775807 < t105.size + (strOfNums y106).size) = False := eq_false (Nat.not_lt.2 c12)
        obtain rfl := Option.some.inj H
        go_enter Tryd.func34, Tryd.ntmps34
        try go_wp2
        have n0_ := aM (below_drew1 HB.out)
        clear HB
        have HB := n0_
        clear n0_
        refine start_ (n := 11) (S := fun w' => True) (ds := []) #[false, false, false, false, false, false, false, false, false, false, false] (by kernel_rfl) rfl rfl trivial (fun hHeld => ?_); refine with_tabW spec_l1Num.tab7 spec_l1Num.bits7 (fun HT_ HW_ => ?_)
        generalize w.drew = w13 at HB hHeld ⊢
        refine pure_ (i := 0) (N := some 18) (v := ?_) (a' := ?_) #[true, false, false, false, false, false, false, false, false, false, false] rfl rfl (any_of HT_.out (by kernel_rfl)) (fun _ _ _ h => h) (Or.inl ⟨by rfl, ?_⟩) ?_ ?_
        rotate_left
        · intro w'
          go_simp
          with_reducible rfl
        rotate_left
        · simp only [Act.put, List.setIfInBounds_toArray, List.set_cons_zero, List.set_cons_succ, i64_w, i32_w]
          rfl
        refine pure_ (i := 1) (N := some 19) (v := ?_) (a' := ?_) #[true, true, false, false, false, false, false, false, false, false, false] rfl rfl (any_of HT_.out (by kernel_rfl)) (fun _ _ _ h => h) (Or.inl ⟨by rfl, ?_⟩) ?_ ?_
        rotate_left
        · intro w'
          go_simp
          with_reducible rfl
        rotate_left
        · simp only [Act.put, List.setIfInBounds_toArray, List.set_cons_zero, List.set_cons_succ, i64_w, i32_w]
          rfl
        refine pure_ (i := 3) (N := some 21) (v := ?_) (a' := ?_) #[true, true, false, true, false, false, false, false, false, false, false] rfl rfl (any_of HT_.out (by kernel_rfl)) (fun _ _ _ h => h) (Or.inl ⟨by rfl, ?_⟩) ?_ ?_
        rotate_left
        · intro w'
          go_simp
          with_reducible rfl
        rotate_left
        · simp only [Act.put, List.setIfInBounds_toArray, List.set_cons_zero, List.set_cons_succ, i64_w, i32_w]
          rfl
        refine pure_ (i := 4) (N := some 22) (v := ?_) (a' := ?_) #[true, true, false, true, true, false, false, false, false, false, false] rfl rfl (any_of HT_.out (by kernel_rfl)) (fun _ _ _ h => h) (Or.inl ⟨by rfl, ?_⟩) ?_ ?_
        rotate_left
        · intro w'
          go_simp
          with_reducible rfl
        rotate_left
        · simp only [Act.put, List.setIfInBounds_toArray, List.set_cons_zero, List.set_cons_succ, i64_w, i32_w]
          rfl
        refine pure_ (i := 5) (N := some 23) (v := ?_) (a' := ?_) #[true, true, false, true, true, true, false, false, false, false, false] rfl rfl (any_of HT_.out (by kernel_rfl)) (fun _ _ _ h => h) (Or.inl ⟨by rfl, ?_⟩) ?_ ?_
        rotate_left
        · intro w'
          go_simp
          with_reducible rfl
        rotate_left
        · simp only [Act.put, List.setIfInBounds_toArray, List.set_cons_zero, List.set_cons_succ, i64_w, i32_w]
          rfl
        refine pure_ (i := 6) (N := some 24) (v := ?_) (a' := ?_) #[true, true, false, true, true, true, true, false, false, false, false] rfl rfl (any_of HT_.out (by kernel_rfl)) (fun _ _ _ h => h) (Or.inl ⟨by rfl, ?_⟩) ?_ ?_
        rotate_left
        · intro w'
          go_simp
          with_reducible rfl
        rotate_left
        · simp only [Act.put, List.setIfInBounds_toArray, List.set_cons_zero, List.set_cons_succ, i64_w, i32_w]
          rfl
        refine join_ (σ := Value) 2 #[true, true, true, true, true, true, true, true, true, false, false] (fun s_ => [(20, .string t105), (25, s_), (26, .string (strOfNums y106))]) (fun s_ w' => (Kd.R (Kd.int .u8) 5 w' w.heap.size (fun _ => True) s_ y106) ∧ (Below w.heap.size w w')) ?_ ?_
        rotate_left
        · intro hCont
          refine two_ (i := 2) (j := 7) (Ni := some 20) (Nj := some 25) #[true, true, true, true, true, true, true, false, false, false, false] #[true, true, false, true, true, true, true, true, false, false, false] rfl rfl rfl rfl (two_of HT_.out (by kernel_rfl)) (by decide) (by decide) (fun K hK => ?_) (fun K hK => ?_)
          · skip
            refine goes_ Tryd.func34 (by kernel_rfl) rfl #[.int .i64 (wrap64 (Int.tdiv a0 10))] (by rfl) rfl rfl (by (try simp only [List.map_toArray, List.map_cons, List.map_nil]); first | done | rfl | (simp only [List.length_drop, List.length_take]; rfl)) ?_
            with_reducible refine (ih k (by omega) (wrap64 (Int.tdiv a0 10)) t105 _ A11.out).mono ?_
            rintro e w14 ⟨rfl, hb⟩
            refine ⟨_, rfl, ?_⟩
            have n0_ := aM (below_step (by repeat (first | (with_reducible first | exact HB.out | apply below_alloc | apply pw_below_drewN | apply below_drew1) | exact HB.out)) hb)
            clear HB
            have HB := n0_
            clear n0_
            (try clear hb)
            (try clear hb2)
            (try clear hk)
            (try clear hi)
            refine hK.out _ _ trivial (fun hHeld => ?_)
            clear hK K
            refine norm_ (a' := ?_) ?_ ?_
            rotate_left
            · show Act.put _ (some 20) _ = _
              simp only [Act.put, List.setIfInBounds_toArray, List.set_cons_zero, List.set_cons_succ, i64_w, i32_w]
              rfl
            refine one_ (i := 7) (N := some 25) #[true, true, true, true, true, true, true, true, false, false, false] rfl rfl (one_of HT_.out (by kernel_rfl)) (by decide) (fun K hK => ?_)
            refine Kd.R_lit_step (Kd.int .u8) _ 5 ?hg (N := 25) ?hd (xs := ([(wrap64 (48 + (Int.tmod a0 10))) % 256] : List Int)) (inner := [.int .u8 ((wrap64 (48 + (Int.tmod a0 10))) % 256)]) (ok := fun _ => True) (okp := fun _ => True) ?hr ?hp (fun _ hk => hk) trivial (Below.refl _ _) (Nat.le_refl _) (by simp) ?_; (case hd => rfl); (case hg => rfl); (case hr => first | (go_simp; done) | (go_simp; rfl)); (case hp => exact (Reps.one (show Kd.M (Kd.int .u8) _ _ _ ((wrap64 (48 + (Int.tmod a0 10))) % 256) [.int .u8 ((wrap64 (48 + (Int.tmod a0 10))) % 256)] from rfl) (Reps.none _ _)))
            intro v107 w15 ho16 hb hg_ hnew_
            clear hg_ hnew_
            (first | rw [← Ny106.out] at ho16 | (simp only [Int.reduceToNat] at ho16; rw [← Ny106.out] at ho16))
            have n0_ := aM (Kd.R_lower ho16 (below_size (by repeat (first | (with_reducible first | exact HB.out | apply below_alloc | apply pw_below_drewN | apply below_drew1) | exact HB.out))))
            have n1_ := aM (below_step (by repeat (first | (with_reducible first | exact HB.out | apply below_alloc | apply pw_below_drewN | apply below_drew1) | exact HB.out)) hb)
            clear HB
            have HO108 := n0_
            have HB := n1_
            clear n0_ n1_
            clear hb ho16
            refine hK.out _ _ trivial (fun hHeld => ?_)
            clear hK K
            refine norm_ (a' := ?_) ?_ ?_
            rotate_left
            · show Act.put _ (some 25) _ = _
              simp only [Act.put, List.setIfInBounds_toArray, List.set_cons_zero, List.set_cons_succ, i64_w, i32_w]
              rfl
            refine one_ (i := 8) (N := some 26) #[true, true, true, true, true, true, true, true, true, false, false] rfl rfl (one_of HT_.out (by kernel_rfl)) (by decide) (fun K hK => ?_)
            have hcv17 := own_string (P := Tryd.prog) Tryd.underlying22 Tryd.underlying5 Tryd.underlying9 (Kd.own_of_R HO108.out)
            refine value_ (w1 := ?_) (v := ?_) (by rfl) rfl ?_ ?_
            rotate_left 2
            · go_simp
              constructor
              · rfl
              · rfl
            clear hcv17
            refine hK.out _ _ trivial (fun hHeld => ?_)
            clear hK K
            refine norm_ (a' := ?_) ?_ ?_
            rotate_left
            · show Act.put _ (some 26) _ = _
              simp only [Act.put, List.setIfInBounds_toArray, List.set_cons_zero, List.set_cons_succ, i64_w, i32_w]
              rfl
            exact norm_ (by simp only [putAll, Act.put, List.setIfInBounds_toArray, List.set_cons_zero, List.set_cons_succ]) (hCont (v107) _ ⟨(by (with_reducible repeat (first | apply rA | apply rN | apply rD)); exact HO108.out), (by repeat (first | (with_reducible first | exact HB.out | apply below_alloc | apply pw_below_drewN | apply below_drew1) | exact HB.out))⟩)
          · skip
            refine Kd.R_lit_step (Kd.int .u8) _ 5 ?hg (N := 25) ?hd (xs := ([(wrap64 (48 + (Int.tmod a0 10))) % 256] : List Int)) (inner := [.int .u8 ((wrap64 (48 + (Int.tmod a0 10))) % 256)]) (ok := fun _ => True) (okp := fun _ => True) ?hr ?hp (fun _ hk => hk) trivial (Below.refl _ _) (Nat.le_refl _) (by simp) ?_; (case hd => rfl); (case hg => rfl); (case hr => first | (go_simp; done) | (go_simp; rfl)); (case hp => exact (Reps.one (show Kd.M (Kd.int .u8) _ _ _ ((wrap64 (48 + (Int.tmod a0 10))) % 256) [.int .u8 ((wrap64 (48 + (Int.tmod a0 10))) % 256)] from rfl) (Reps.none _ _)))
            intro v107 w14 ho15 hb hg_ hnew_
            clear hg_ hnew_
            (first | rw [← Ny106.out] at ho15 | (simp only [Int.reduceToNat] at ho15; rw [← Ny106.out] at ho15))
            have n0_ := aM (Kd.R_lower ho15 (below_size (by repeat (first | (with_reducible first | exact HB.out | apply below_alloc | apply pw_below_drewN | apply below_drew1) | exact HB.out))))
            have n1_ := aM (below_step (by repeat (first | (with_reducible first | exact HB.out | apply below_alloc | apply pw_below_drewN | apply below_drew1) | exact HB.out)) hb)
            clear HB
            have HO108 := n0_
            have HB := n1_
            clear n0_ n1_
            clear hb ho15
            refine hK.out _ _ trivial (fun hHeld => ?_)
            clear hK K
            refine norm_ (a' := ?_) ?_ ?_
            rotate_left
            · show Act.put _ (some 25) _ = _
              simp only [Act.put, List.setIfInBounds_toArray, List.set_cons_zero, List.set_cons_succ, i64_w, i32_w]
              rfl
            refine two_ (i := 2) (j := 8) (Ni := some 20) (Nj := some 26) #[true, true, true, true, true, true, true, true, false, false, false] #[true, true, false, true, true, true, true, true, true, false, false] rfl rfl rfl rfl (two_of HT_.out (by kernel_rfl)) (by decide) (by decide) (fun K hK => ?_) (fun K hK => ?_)
            · skip
              refine goes_ Tryd.func34 (by kernel_rfl) rfl #[.int .i64 (wrap64 (Int.tdiv a0 10))] (by rfl) rfl rfl (by (try simp only [List.map_toArray, List.map_cons, List.map_nil]); first | done | rfl | (simp only [List.length_drop, List.length_take]; rfl)) ?_
              with_reducible refine (ih k (by omega) (wrap64 (Int.tdiv a0 10)) t105 _ A11.out).mono ?_
              rintro e w16 ⟨rfl, hb⟩
              refine ⟨_, rfl, ?_⟩
              have n0_ := aM (Kd.R_below (by (with_reducible repeat (first | apply rA | apply rN | apply rD)); exact HO108.out) hb)
              have n1_ := aM (below_step (by repeat (first | (with_reducible first | exact HB.out | apply below_alloc | apply pw_below_drewN | apply below_drew1) | exact HB.out)) hb)
              clear HO108
              clear HB
              have HO108 := n0_
              have HB := n1_
              clear n0_ n1_
              (try clear hb)
              (try clear hb2)
              (try clear hk)
              (try clear hi)
              refine hK.out _ _ trivial (fun hHeld => ?_)
              clear hK K
              refine norm_ (a' := ?_) ?_ ?_
              rotate_left
              · show Act.put _ (some 20) _ = _
                simp only [Act.put, List.setIfInBounds_toArray, List.set_cons_zero, List.set_cons_succ, i64_w, i32_w]
                rfl
              refine one_ (i := 8) (N := some 26) #[true, true, true, true, true, true, true, true, true, false, false] rfl rfl (one_of HT_.out (by kernel_rfl)) (by decide) (fun K hK => ?_)
              have hcv17 := own_string (P := Tryd.prog) Tryd.underlying22 Tryd.underlying5 Tryd.underlying9 (Kd.own_of_R HO108.out)
              refine value_ (w1 := ?_) (v := ?_) (by rfl) rfl ?_ ?_
              rotate_left 2
              · go_simp
                constructor
                · rfl
                · rfl
              clear hcv17
              refine hK.out _ _ trivial (fun hHeld => ?_)
              clear hK K
              refine norm_ (a' := ?_) ?_ ?_
              rotate_left
              · show Act.put _ (some 26) _ = _
                simp only [Act.put, List.setIfInBounds_toArray, List.set_cons_zero, List.set_cons_succ, i64_w, i32_w]
                rfl
              exact norm_ (by simp only [putAll, Act.put, List.setIfInBounds_toArray, List.set_cons_zero, List.set_cons_succ]) (hCont (v107) _ ⟨(by (with_reducible repeat (first | apply rA | apply rN | apply rD)); exact HO108.out), (by repeat (first | (with_reducible first | exact HB.out | apply below_alloc | apply pw_below_drewN | apply below_drew1) | exact HB.out))⟩)
            · skip
              have hcv16 := own_string (P := Tryd.prog) Tryd.underlying22 Tryd.underlying5 Tryd.underlying9 (Kd.own_of_R HO108.out)
              refine value_ (w1 := ?_) (v := ?_) (by rfl) rfl ?_ ?_
              rotate_left 2
              · go_simp
                constructor
                · rfl
                · rfl
              clear hcv16
              refine hK.out _ _ trivial (fun hHeld => ?_)
              clear hK K
              refine norm_ (a' := ?_) ?_ ?_
              rotate_left
              · show Act.put _ (some 26) _ = _
                simp only [Act.put, List.setIfInBounds_toArray, List.set_cons_zero, List.set_cons_succ, i64_w, i32_w]
                rfl
              refine one_ (i := 2) (N := some 20) #[true, true, true, true, true, true, true, true, true, false, false] rfl rfl (one_of HT_.out (by kernel_rfl)) (by decide) (fun K hK => ?_)
              refine goes_ Tryd.func34 (by kernel_rfl) rfl #[.int .i64 (wrap64 (Int.tdiv a0 10))] (by rfl) rfl rfl (by (try simp only [List.map_toArray, List.map_cons, List.map_nil]); first | done | rfl | (simp only [List.length_drop, List.length_take]; rfl)) ?_
              with_reducible refine (ih k (by omega) (wrap64 (Int.tdiv a0 10)) t105 _ A11.out).mono ?_
              rintro e w17 ⟨rfl, hb⟩
              refine ⟨_, rfl, ?_⟩
              have n0_ := aM (Kd.R_below (by (with_reducible repeat (first | apply rA | apply rN | apply rD)); exact HO108.out) hb)
              have n1_ := aM (below_step (by repeat (first | (with_reducible first | exact HB.out | apply below_alloc | apply pw_below_drewN | apply below_drew1) | exact HB.out)) hb)
              clear HO108
              clear HB
              have HO108 := n0_
              have HB := n1_
              clear n0_ n1_
              (try clear hb)
              (try clear hb2)
              (try clear hk)
              (try clear hi)
              refine hK.out _ _ trivial (fun hHeld => ?_)
              clear hK K
              refine norm_ (a' := ?_) ?_ ?_
              rotate_left
              · show Act.put _ (some 20) _ = _
                simp only [Act.put, List.setIfInBounds_toArray, List.set_cons_zero, List.set_cons_succ, i64_w, i32_w]
                rfl
              exact norm_ (by simp only [putAll, Act.put, List.setIfInBounds_toArray, List.set_cons_zero, List.set_cons_succ]) (hCont (v107) _ ⟨(by (with_reducible repeat (first | apply rA | apply rN | apply rD)); exact HO108.out), (by repeat (first | (with_reducible first | exact HB.out | apply below_alloc | apply pw_below_drewN | apply below_drew1) | exact HB.out))⟩)
        rintro v107 w18 ⟨h0_, h1_⟩
        have n0_ : Aside0 (Kd.R (Kd.int .u8) 5 w18 w.heap.size (fun _ => True) v107 y106) := ⟨h0_⟩
        have n1_ : Aside0 (Below w.heap.size w w18) := ⟨h1_⟩
        clear HB
        clear h0_ h1_
        have HO108 := n0_
        have HB := n1_
        clear n0_ n1_
        have hHeld := trivial
        refine norm_ (a' := ?_) ?_ ?_
        rotate_left
        · simp only [putAll, Act.put, List.setIfInBounds_toArray, List.set_cons_zero, List.set_cons_succ]
          rfl
        refine pure_ (i := 9) (N := some 27) (v := ?_) (a' := ?_) #[true, true, true, true, true, true, true, true, true, true, false] rfl rfl (any_of HT_.out (by kernel_rfl)) (fun _ _ _ h => h) (Or.inl ⟨by rfl, ?_⟩) ?_ ?_
        rotate_left
        · intro w'
          go_simp
          with_reducible rfl
        rotate_left
        · simp only [Act.put, List.setIfInBounds_toArray, List.set_cons_zero, List.set_cons_succ, i64_w, i32_w]
          rfl
        refine pure_ (i := 10) (N := some 2) (v := ?_) (a' := ?_) #[true, true, true, true, true, true, true, true, true, true, true] rfl rfl (any_of HT_.out (by kernel_rfl)) (fun _ _ _ h => h) (Or.inl ⟨by rfl, ?_⟩) ?_ ?_
        rotate_left
        · intro w'
          go_simp
          with_reducible rfl
        rotate_left
        · simp only [Act.put, List.setIfInBounds_toArray, List.set_cons_zero, List.set_cons_succ, i64_w, i32_w]
          rfl
        refine done_ (done_of HT_.out (by kernel_rfl)) ?_
        try go_wp2
        go_ret
        exact ⟨by first | rfl | (simp [errW_none, errW_some] <;> rfl) | (simp [*, errW_none, errW_some] <;> rfl), by repeat (first | (with_reducible first | exact HB.out | apply below_alloc | apply pw_below_drewN | apply below_drew1) | exact HB.out)⟩
      · rw [if_neg c12] at H
        exact absurd H (by simp)


def spec_ldText.f : Nat → Int → Int → List (S53) → Option (ByteArray)
 | 0, _, _, _ => none
 | k + 1, a0_0, a0_1, l0_2 => if a0_0 = 1 then ((spec_l1Num.f k a0_1).bind fun t102 => (if 1 + t102.size ≤ 9223372036854775807 then (some ((⟨#[120]⟩ : ByteArray) ++ t102)) else (none))) else (if a0_0 = 3 then (some (⟨#[83]⟩ : ByteArray)) else (if a0_0 = 4 then (some (⟨#[75]⟩ : ByteArray)) else (if a0_0 = 5 then (some (⟨#[73]⟩ : ByteArray)) else (if 0 < (l0_2.length : Int) then ((spec_ldText.f k ((rd_T53 l0_2 0).f0) ((rd_T53 l0_2 0).f1) ((rd_T53 l0_2 0).f2)).bind fun t104 => (if 1 + t104.size ≤ 9223372036854775807 then (if ((⟨#[40]⟩ : ByteArray) ++ t104).size + 1 ≤ 9223372036854775807 then (if 1 < (l0_2.length : Int) then ((spec_ldText.f k ((rd_T53 l0_2 1).f0) ((rd_T53 l0_2 1).f1) ((rd_T53 l0_2 1).f2)).bind fun t106 => (if (((⟨#[40]⟩ : ByteArray) ++ t104) ++ (⟨#[32]⟩ : ByteArray)).size + t106.size ≤ 9223372036854775807 then (if ((((⟨#[40]⟩ : ByteArray) ++ t104) ++ (⟨#[32]⟩ : ByteArray)) ++ t106).size + 1 ≤ 9223372036854775807 then (some (((((⟨#[40]⟩ : ByteArray) ++ t104) ++ (⟨#[32]⟩ : ByteArray)) ++ t106) ++ (⟨#[41]⟩ : ByteArray))) else (none)) else (none))) else (none)) else (none)) else (none))) else (none)))))
def spec_ldText.T10 : Bool × List (List Nat × List Nat) := (true, [([], []), ([0], [0]), ([1], [1]), ([2], [2]), ([3], [3]), ([4], [4]), ([5], [5]), ([], []), ([7], [7]), ([8], [8]), ([9], [9]), ([10, 4], [10]), ([6, 11], [6, 11]), ([12], [12]), ([13, 11, 0, 1, 2, 3, 4, 5, 6, 7, 8, 9, 10, 11, 12, 13], [13])])
def spec_ldText.B10 : List Nat := [0, 1, 3, 7, 15, 31, 63, 0, 128, 384, 896, 1951, 4095, 8191, 16383]
theorem spec_ldText.tab10 : rtab .any (opsOf Tryd.f18 10) = spec_ldText.T10 := by kernel_rfl
theorem spec_ldText.bits10 : waitsOk spec_ldText.T10.2 spec_ldText.B10 = true := by kernel_rfl
set_option maxHeartbeats 8000000 in
set_option maxRecDepth 100000 in
theorem spec_ldText.calls (k : Nat) : ∀ (a0_0 : Int) (a0_1 : Int) (A0_2 : Option Addr) (c0_2 : Nat) (l0_2 : List (S53)) (r : ByteArray) (w : World) (hr0_2 : Kd.C k53 w A0_2 l0_2.length l0_2) (hc0_2 : l0_2.length ≤ c0_2) (h : spec_ldText.f k a0_0 a0_1 l0_2 = some r),
  Calls Tryd.prog 18 #[.agg #[.int .i64 a0_0, .int .i64 a0_1, .slice A0_2 l0_2.length c0_2]] w fun e w' => e = .returned (.string r) ∧ Below w.heap.size w w' := by
 induction k using Nat.strongRecOn with
 | _ k ih =>
 intro a0_0 a0_1 A0_2 c0_2 l0_2 r w hr0_2 hc0_2 h
 cases k with
 | zero => exact absurd h (by simp [spec_ldText.f])
 | succ k =>
 simp only [spec_ldText.f] at h
 have hu48 := Tryd.underlying53
 have HR0_2 := aK hr0_2
 have HC0_2 := aK hc0_2
 clear hr0_2 hc0_2
 have HB := aK (Below.refl w.heap.size w)
 have H : (if a0_0 = 1 then ((spec_l1Num.f k a0_1).bind fun t102 => (if 1 + t102.size ≤ 9223372036854775807 then (some ((⟨#[120]⟩ : ByteArray) ++ t102)) else (none))) else (if a0_0 = 3 then (some (⟨#[83]⟩ : ByteArray)) else (if a0_0 = 4 then (some (⟨#[75]⟩ : ByteArray)) else (if a0_0 = 5 then (some (⟨#[73]⟩ : ByteArray)) else (if 0 < (l0_2.length : Int) then ((spec_ldText.f k ((rd_T53 l0_2 0).f0) ((rd_T53 l0_2 0).f1) ((rd_T53 l0_2 0).f2)).bind fun t104 => (if 1 + t104.size ≤ 9223372036854775807 then (if ((⟨#[40]⟩ : ByteArray) ++ t104).size + 1 ≤ 9223372036854775807 then (if 1 < (l0_2.length : Int) then ((spec_ldText.f k ((rd_T53 l0_2 1).f0) ((rd_T53 l0_2 1).f1) ((rd_T53 l0_2 1).f2)).bind fun t106 => (if (((⟨#[40]⟩ : ByteArray) ++ t104) ++ (⟨#[32]⟩ : ByteArray)).size + t106.size ≤ 9223372036854775807 then (if ((((⟨#[40]⟩ : ByteArray) ++ t104) ++ (⟨#[32]⟩ : ByteArray)) ++ t106).size + 1 ≤ 9223372036854775807 then (some (((((⟨#[40]⟩ : ByteArray) ++ t104) ++ (⟨#[32]⟩ : ByteArray)) ++ t106) ++ (⟨#[41]⟩ : ByteArray))) else (none)) else (none))) else (none)) else (none)) else (none))) else (none)))))) = some r := h
 clear h
 by_cases c2 : a0_0 = 1
 ·rw [if_pos c2] at H
  have c2b0 : (a0_0 == 1) = true := beq_iff_eq.mpr c2
  have c2b1 : (a0_0 != 1) = false := bne_eq_false_iff_eq.mpr c2
  clear c2
  obtain ⟨t102, A3, H⟩ := oB H
  try dsimp only at H
  by_cases c4 : 1 + t102.size ≤ 9223372036854775807
  ·rw [if_pos c4] at H
   have c4b0 := eq_true c4
   have c4b1 : decide (1 + t102.size ≤ 9223372036854775807) = true := decide_eq_true c4
   try have c4b2 : (9223372036854775807 < 1 + t102.size) = False := eq_false (Nat.not_lt.2 c4)
   obtain rfl := Option.some.inj H
   go_enter Tryd.func18, Tryd.ntmps18
   go_wp2_with (first | ((with_reducible refine gate_dst (N := 1) rfl ?_); refine bE (N := 1) (cs := #[.int .i64 a0_0, .int .i64 a0_1, .slice A0_2 l0_2.length c0_2]) (t := 53) ?_; intro gb101 hg w5 hbox hb; have GW101 := qw HB hg; have GE101 := qw HB hg; have BK101 := aK hbox; replace HB := qs HB hb; clear hb hbox hg; obtain ⟨hcz6_0, hcz6_1, hcz6_2, hfz6_0, hfz6_1, hfz6_2⟩ := cA3 BK101) | ((with_reducible refine gate_callee (f := 34) rfl ?_); refine goesL_ (some 9) rfl rfl Tryd.func34 (by kernel_rfl) rfl #[.int .i64 a0_1] rfl tA ?_; (with_reducible refine (spec_l1Num.calls k a0_1 t102 _ A3.out).mono ?_); rintro e w7 ⟨rfl, hb⟩; refine ⟨_, rfl, ?_⟩; replace BK101 := qb BK101 hb; replace HB := qs HB hb; (try clear hb)))
   go_ret
   exact ⟨eW, pH HB⟩
  ·rw [if_neg c4] at H
   exact absurd H (by simp)
 ·rw [if_neg c2] at H
  have c2b0 : (a0_0 == 1) = false := beq_eq_false_iff_ne.mpr c2
  have c2b1 : (a0_0 != 1) = true := bne_iff_ne.mpr c2
  by_cases c8 : a0_0 = 3
  ·rw [if_pos c8] at H
   have c8b0 : (a0_0 == 3) = true := beq_iff_eq.mpr c8
   have c8b1 : (a0_0 != 3) = false := bne_eq_false_iff_eq.mpr c8
   clear c8
   obtain rfl := Option.some.inj H
   go_enter Tryd.func18, Tryd.ntmps18
   go_wp2_with (first | ((with_reducible refine gate_dst (N := 1) rfl ?_); refine bE (N := 1) (cs := #[.int .i64 a0_0, .int .i64 a0_1, .slice A0_2 l0_2.length c0_2]) (t := 53) ?_; intro gb101 hg w9 hbox hb; have GW101 := qw HB hg; have GE101 := qw HB hg; have BK101 := aK hbox; replace HB := qs HB hb; clear hb hbox hg; obtain ⟨hcz10_0, hcz10_1, hcz10_2, hfz10_0, hfz10_1, hfz10_2⟩ := cA3 BK101))
   go_ret
   exact ⟨eW, pH HB⟩
  ·rw [if_neg c8] at H
   have c8b0 : (a0_0 == 3) = false := beq_eq_false_iff_ne.mpr c8
   have c8b1 : (a0_0 != 3) = true := bne_iff_ne.mpr c8
   by_cases c11 : a0_0 = 4
   ·rw [if_pos c11] at H
    have c11b0 : (a0_0 == 4) = true := beq_iff_eq.mpr c11
    have c11b1 : (a0_0 != 4) = false := bne_eq_false_iff_eq.mpr c11
    clear c11
    obtain rfl := Option.some.inj H
    go_enter Tryd.func18, Tryd.ntmps18
    go_wp2_with (first | ((with_reducible refine gate_dst (N := 1) rfl ?_); refine bE (N := 1) (cs := #[.int .i64 a0_0, .int .i64 a0_1, .slice A0_2 l0_2.length c0_2]) (t := 53) ?_; intro gb101 hg w12 hbox hb; have GW101 := qw HB hg; have GE101 := qw HB hg; have BK101 := aK hbox; replace HB := qs HB hb; clear hb hbox hg; obtain ⟨hcz13_0, hcz13_1, hcz13_2, hfz13_0, hfz13_1, hfz13_2⟩ := cA3 BK101))
    go_ret
    exact ⟨eW, pH HB⟩
   ·rw [if_neg c11] at H
    have c11b0 : (a0_0 == 4) = false := beq_eq_false_iff_ne.mpr c11
    have c11b1 : (a0_0 != 4) = true := bne_iff_ne.mpr c11
    by_cases c14 : a0_0 = 5
    ·rw [if_pos c14] at H
     have c14b0 : (a0_0 == 5) = true := beq_iff_eq.mpr c14
     have c14b1 : (a0_0 != 5) = false := bne_eq_false_iff_eq.mpr c14
     clear c14
     obtain rfl := Option.some.inj H
     go_enter Tryd.func18, Tryd.ntmps18
     go_wp2_with (first | ((with_reducible refine gate_dst (N := 1) rfl ?_); refine bE (N := 1) (cs := #[.int .i64 a0_0, .int .i64 a0_1, .slice A0_2 l0_2.length c0_2]) (t := 53) ?_; intro gb101 hg w15 hbox hb; have GW101 := qw HB hg; have GE101 := qw HB hg; have BK101 := aK hbox; replace HB := qs HB hb; clear hb hbox hg; obtain ⟨hcz16_0, hcz16_1, hcz16_2, hfz16_0, hfz16_1, hfz16_2⟩ := cA3 BK101))
     go_ret
     exact ⟨eW, pH HB⟩
    ·rw [if_neg c14] at H
     have c14b0 : (a0_0 == 5) = false := beq_eq_false_iff_ne.mpr c14
     have c14b1 : (a0_0 != 5) = true := bne_iff_ne.mpr c14
     by_cases c17 : 0 < (l0_2.length : Int)
     ·rw [if_pos c17] at H
      have c17b0 : decide (0 < (l0_2.length : Int)) = true := decide_eq_true c17
      have c17b1 : decide (0 < l0_2.length) = true := decide_eq_true (by omega)
      clear c17
      obtain ⟨t104, A18, H⟩ := oB H
      try dsimp only at H
      by_cases c19 : 1 + t104.size ≤ 9223372036854775807
      ·rw [if_pos c19] at H
       have c19b0 := eq_true c19
       have c19b1 : decide (1 + t104.size ≤ 9223372036854775807) = true := decide_eq_true c19
       try have c19b2 : (9223372036854775807 < 1 + t104.size) = False := eq_false (Nat.not_lt.2 c19)
       by_cases c20 : ((⟨#[40]⟩ : ByteArray) ++ t104).size + 1 ≤ 9223372036854775807
       ·rw [if_pos c20] at H
        have c20b0 := eq_true c20
        have c20b1 : decide (((⟨#[40]⟩ : ByteArray) ++ t104).size + 1 ≤ 9223372036854775807) = true := decide_eq_true c20
        try have c20b2 : (9223372036854775807 < ((⟨#[40]⟩ : ByteArray) ++ t104).size + 1) = False := eq_false (Nat.not_lt.2 c20)
        have c20b3 : (9223372036854775807 < 1 + t104.size + 1) = False := by have e := c20b2; simp only [ByteArray.size_append] at e; exact e
        by_cases c21 : 1 < (l0_2.length : Int)
        ·rw [if_pos c21] at H
         have c21b0 : decide (1 < (l0_2.length : Int)) = true := decide_eq_true c21
         have c21b1 : decide (1 < l0_2.length) = true := decide_eq_true (by omega)
         clear c21
         obtain ⟨t106, A22, H⟩ := oB H
         try dsimp only at H
         by_cases c23 : (((⟨#[40]⟩ : ByteArray) ++ t104) ++ (⟨#[32]⟩ : ByteArray)).size + t106.size ≤ 9223372036854775807
         ·rw [if_pos c23] at H
          have c23b0 := eq_true c23
          have c23b1 : decide ((((⟨#[40]⟩ : ByteArray) ++ t104) ++ (⟨#[32]⟩ : ByteArray)).size + t106.size ≤ 9223372036854775807) = true := decide_eq_true c23
          try have c23b2 : (9223372036854775807 < (((⟨#[40]⟩ : ByteArray) ++ t104) ++ (⟨#[32]⟩ : ByteArray)).size + t106.size) = False := eq_false (Nat.not_lt.2 c23)
          have c23b3 : (9223372036854775807 < 1 + t104.size + 1 + t106.size) = False := by have e := c23b2; simp only [ByteArray.size_append] at e; exact e
          by_cases c24 : ((((⟨#[40]⟩ : ByteArray) ++ t104) ++ (⟨#[32]⟩ : ByteArray)) ++ t106).size + 1 ≤ 9223372036854775807
          ·rw [if_pos c24] at H
           have c24b0 := eq_true c24
           have c24b1 : decide (((((⟨#[40]⟩ : ByteArray) ++ t104) ++ (⟨#[32]⟩ : ByteArray)) ++ t106).size + 1 ≤ 9223372036854775807) = true := decide_eq_true c24
           try have c24b2 : (9223372036854775807 < ((((⟨#[40]⟩ : ByteArray) ++ t104) ++ (⟨#[32]⟩ : ByteArray)) ++ t106).size + 1) = False := eq_false (Nat.not_lt.2 c24)
           have c24b3 : (9223372036854775807 < 1 + t104.size + 1 + t106.size + 1) = False := by have e := c24b2; simp only [ByteArray.size_append] at e; exact e
           obtain rfl := Option.some.inj H
           go_enter Tryd.func18, Tryd.ntmps18
           try go_wp2_with (first | ((with_reducible refine gate_dst (N := 1) rfl ?_); refine bE (N := 1) (cs := #[.int .i64 a0_0, .int .i64 a0_1, .slice A0_2 l0_2.length c0_2]) (t := 53) ?_; intro gb101 hg w25 hbox hb; have GW101 := qw HB hg; have GE101 := qw HB hg; have BK101 := aK hbox; replace HB := qs HB hb; clear hb hbox hg; obtain ⟨hcz26_0, hcz26_1, hcz26_2, hfz26_0, hfz26_1, hfz26_2⟩ := cA3 BK101))
           have n_ := aJ (aK (blk_drew BK101.out)) (aK (below_drew1 HB.out))
           clear BK101 HB
           obtain ⟨BK101, HB⟩ := n_
           have p103 : 0 ≤ (0 : Int) := (by omega)
           have q103 : 0 < (l0_2.length : Int) := dA
           obtain ⟨ad103, A103_2, c103_2, e103, hx103_0, hx103_1, hx103_2, hl103_2, hi103_2⟩ := at_T53 HR0_2.out 0 p103 q103
           have hw103_2 := hx103_2
           (try rw [show ((0 : Int)).toNat = 0 from rfl] at hw103_2)
           (try rw [show 0 * 3 = 0 from rfl] at hw103_2)
           (try rw [Addr.add_zero'] at hw103_2)
           have hw103_1 := hx103_1
           (try rw [show ((0 : Int)).toNat = 0 from rfl] at hw103_1)
           (try rw [show 0 * 3 = 0 from rfl] at hw103_1)
           (try rw [Addr.add_zero'] at hw103_1)
           have hw103_0 := hx103_0
           (try rw [show ((0 : Int)).toNat = 0 from rfl] at hw103_0)
           (try rw [show 0 * 3 = 0 from rfl] at hw103_0)
           (try rw [Addr.add_zero'] at hw103_0)
           cases e103
           have qi103 : (0 < l0_2.length) = True := eq_true (by omega)
           (try rw [show ((0 : Int)).toNat = 0 from rfl] at hx103_0)
           (try rw [show 0 * 3 = 0 from rfl] at hx103_0)
           (try rw [Addr.add_zero'] at hx103_0)
           (try rw [show ((0 : Int)).toNat = 0 from rfl] at hx103_1)
           (try rw [show 0 * 3 = 0 from rfl] at hx103_1)
           (try rw [Addr.add_zero'] at hx103_1)
           (try rw [show ((0 : Int)).toNat = 0 from rfl] at hx103_2)
           (try rw [show 0 * 3 = 0 from rfl] at hx103_2)
           (try rw [Addr.add_zero'] at hx103_2)
           replace hx103_0 := uC HB hx103_0
           replace hx103_1 := uC HB hx103_1
           replace hx103_2 := uC HB hx103_2
           have HR103_2 := aK hi103_2
           have HC103_2 := aK hl103_2
           clear hi103_2 hl103_2
           replace p103 := eq_true p103
           replace q103 := eq_true q103
           have p105 : 0 ≤ (1 : Int) := (by omega)
           have q105 : 1 < (l0_2.length : Int) := dA
           obtain ⟨ad105, A105_2, c105_2, e105, hx105_0, hx105_1, hx105_2, hl105_2, hi105_2⟩ := at_T53 HR0_2.out 1 p105 q105
           have hw105_2 := hx105_2
           (try rw [show ((1 : Int)).toNat = 1 from rfl] at hw105_2)
           (try rw [show 1 * 3 = 3 from rfl] at hw105_2)
           (try simp only [Nat.reduceMul, Nat.reduceEqDiff, Go.Addr.add, ↓reduceIte] at hw105_2)
           have hw105_1 := hx105_1
           (try rw [show ((1 : Int)).toNat = 1 from rfl] at hw105_1)
           (try rw [show 1 * 3 = 3 from rfl] at hw105_1)
           (try simp only [Nat.reduceMul, Nat.reduceEqDiff, Go.Addr.add, ↓reduceIte] at hw105_1)
           have hw105_0 := hx105_0
           (try rw [show ((1 : Int)).toNat = 1 from rfl] at hw105_0)
           (try rw [show 1 * 3 = 3 from rfl] at hw105_0)
           (try simp only [Nat.reduceMul, Nat.reduceEqDiff, Go.Addr.add, ↓reduceIte] at hw105_0)
           obtain rfl : ad103 = ad105 := (by injection e105)
           (try simp only [show (1 : Int).toNat = 1 from rfl, Nat.reduceMul, Nat.reduceEqDiff, Go.Addr.add, ↓reduceIte] at hx105_0)
           (try simp only [show (1 : Int).toNat = 1 from rfl, Nat.reduceMul, Nat.reduceEqDiff, Go.Addr.add, ↓reduceIte] at hx105_1)
           (try simp only [show (1 : Int).toNat = 1 from rfl, Nat.reduceMul, Nat.reduceEqDiff, Go.Addr.add, ↓reduceIte] at hx105_2)
           have qi105 : (1 < l0_2.length) = True := eq_true (by omega)
           (try rw [show ((1 : Int)).toNat = 1 from rfl] at hx105_0)
           (try rw [show 1 * 3 = 3 from rfl] at hx105_0)
           (try rw [show ((1 : Int)).toNat = 1 from rfl] at hx105_1)
           (try rw [show 1 * 3 = 3 from rfl] at hx105_1)
           (try rw [show ((1 : Int)).toNat = 1 from rfl] at hx105_2)
           (try rw [show 1 * 3 = 3 from rfl] at hx105_2)
           replace hx105_0 := uC HB hx105_0
           replace hx105_1 := uC HB hx105_1
           replace hx105_2 := uC HB hx105_2
           have HR105_2 := aK hi105_2
           have HC105_2 := aK hl105_2
           clear hi105_2 hl105_2
           replace p105 := eq_true p105
           replace q105 := eq_true q105
           refine start_ (n := 15) (S := fun w' => w'.cell? ⟨gb101, 0, none⟩ = some (.int .i64 a0_0) ∧ w'.cell? ⟨gb101, 1, none⟩ = some (.int .i64 a0_1) ∧ w'.cell? ⟨gb101, 2, none⟩ = some (.slice (some ad103) l0_2.length c0_2) ∧ w'.cell? ad103 = some (.int .i64 ((rd_T53 l0_2 0).f0)) ∧ w'.cell? ⟨ad103.block, ad103.off + 1, none⟩ = some (.int .i64 ((rd_T53 l0_2 0).f1)) ∧ w'.cell? ⟨ad103.block, ad103.off + 2, none⟩ = some (.slice A103_2 ((rd_T53 l0_2 0).f2).length c103_2) ∧ w'.cell? ⟨ad103.block, ad103.off + 3, none⟩ = some (.int .i64 ((rd_T53 l0_2 1).f0)) ∧ w'.cell? ⟨ad103.block, ad103.off + 3 + 1, none⟩ = some (.int .i64 ((rd_T53 l0_2 1).f1)) ∧ w'.cell? ⟨ad103.block, ad103.off + 3 + 2, none⟩ = some (.slice A105_2 ((rd_T53 l0_2 1).f2).length c105_2)) (ds := []) (bs 0 15) (by kernel_rfl) rfl rfl ⟨(blk_cell BK101.out 0).trans rfl, (blk_cell BK101.out 1).trans rfl, (blk_cell BK101.out 2).trans rfl, (uC HB hw103_0), (uC HB hw103_1), (uC HB hw103_2), (uC HB hw105_0), (uC HB hw105_1), (uC HB hw105_2)⟩ (fun hHeld => ?_); refine with_tabW spec_ldText.tab10 spec_ldText.bits10 (fun HT_ HW_ => ?_)
           generalize w25.drew = w27 at BK101 HB HR103_2 HR105_2 hx103_0 hx103_1 hx103_2 hx105_0 hx105_1 hx105_2 hHeld ⊢
           refine pS (i := 0) (N := some 17) (bs 1 14) (aO HT_) ?_
           refine pS (i := 7) (N := some 24) #[true, false, false, false, false, false, false, true, false, false, false, false, false, false, false] (aO HT_) ?_
           refine take_ (i := 1) (N := some 18) (v := ?_) (a' := ?_) #[true, true, false, false, false, false, false, true, false, false, false, false, false, false, false] rfl rfl (take_ofW HT_.out HW_.out (by kernel_rfl)) (fun _ _ _ h => h) (Or.inl ⟨by rfl, ?_⟩) hHeld ?_ ?_
           rotate_left
           ·rintro w' ⟨s0, s1, s2, s3, s4, s5, s6, s7, s8⟩
            go_simp
            with_reducible rfl
           rotate_left
           ·simp only [sP, i64_w, i32_w]
            rfl
           refine pS (i := 2) (N := some 19) #[true, true, true, false, false, false, false, true, false, false, false, false, false, false, false] (aO HT_) ?_
           refine take_ (i := 3) (N := some 20) (v := ?_) (a' := ?_) #[true, true, true, true, false, false, false, true, false, false, false, false, false, false, false] rfl rfl (take_ofW HT_.out HW_.out (by kernel_rfl)) (fun _ _ _ h => h) (Or.inl ⟨by rfl, ?_⟩) hHeld ?_ ?_
           rotate_left
           ·rintro w' ⟨s0, s1, s2, s3, s4, s5, s6, s7, s8⟩
            go_simp
            with_reducible rfl
           rotate_left
           ·simp only [sP, i64_w, i32_w]
            rfl
           refine take_ (i := 8) (N := some 25) (v := ?_) (a' := ?_) #[true, true, true, true, false, false, false, true, true, false, false, false, false, false, false] rfl rfl (take_ofW HT_.out HW_.out (by kernel_rfl)) (fun _ _ _ h => h) (Or.inl ⟨by rfl, ?_⟩) hHeld ?_ ?_
           rotate_left
           ·rintro w' ⟨s0, s1, s2, s3, s4, s5, s6, s7, s8⟩
            go_simp
            with_reducible rfl
           rotate_left
           ·simp only [sP, i64_w, i32_w]
            rfl
           refine pS (i := 9) (N := some 26) #[true, true, true, true, false, false, false, true, true, true, false, false, false, false, false] (aO HT_) ?_
           refine take_ (i := 10) (N := some 27) (v := ?_) (a' := ?_) #[true, true, true, true, false, false, false, true, true, true, true, false, false, false, false] rfl rfl (take_ofW HT_.out HW_.out (by kernel_rfl)) (fun _ _ _ h => h) (Or.inl ⟨by rfl, ?_⟩) hHeld ?_ ?_
           rotate_left
           ·rintro w' ⟨s0, s1, s2, s3, s4, s5, s6, s7, s8⟩
            go_simp
            with_reducible rfl
           rotate_left
           ·simp only [sP, i64_w, i32_w]
            rfl
           refine one_ (i := 4) (N := some 21) #[true, true, true, true, true, false, false, true, true, true, true, false, false, false, false] rfl rfl (one_of HT_.out (by kernel_rfl)) (by decide) (fun K hK => ?_)
           refine goes_ Tryd.func18 (by kernel_rfl) rfl #[.agg #[.int .i64 ((rd_T53 l0_2 0).f0), .int .i64 ((rd_T53 l0_2 0).f1), .slice A103_2 ((rd_T53 l0_2 0).f2).length c103_2]] (by rfl) rfl rfl tA ?_
           with_reducible refine (ih k (by omega) ((rd_T53 l0_2 0).f0) ((rd_T53 l0_2 0).f1) _ _ ((rd_T53 l0_2 0).f2) t104 _ ?side1 ?side2 A18.out).mono ?_
           (case side1 => exact sC (Kd.C_below HR103_2.out HB.out))
           (case side2 => exact HC103_2.out)
           rintro e w28 ⟨rfl, hb⟩
           refine ⟨_, rfl, ?_⟩
           have n_ := aJ (aK (blk_below BK101.out hb)) (aK (below_step (pH HB) hb))
           clear BK101 HB
           obtain ⟨BK101, HB⟩ := n_
           (try clear hb)
           (try clear hb2)
           (try clear hk)
           (try clear hi)
           refine hK.out _ _ ⟨(blk_cell BK101.out 0).trans rfl, (blk_cell BK101.out 1).trans rfl, (blk_cell BK101.out 2).trans rfl, (uC HB hw103_0), (uC HB hw103_1), (uC HB hw103_2), (uC HB hw105_0), (uC HB hw105_1), (uC HB hw105_2)⟩ (fun hHeld => ?_)
           clear hK K
           refine norm_ (a' := ?_) ?_ ?_
           rotate_left
           ·show Act.put _ (some 21) _ = _
            simp only [sP, i64_w, i32_w]
            rfl
           refine pS (i := 5) (N := some 22) #[true, true, true, true, true, true, false, true, true, true, true, false, false, false, false] (aO HT_) ?_
           refine pS (i := 6) (N := some 23) (bs 11 4) (aO HT_) ?_
           refine one_ (i := 11) (N := some 28) (bs 12 3) rfl rfl (one_of HT_.out (by kernel_rfl)) (by decide) (fun K hK => ?_)
           refine goes_ Tryd.func18 (by kernel_rfl) rfl #[.agg #[.int .i64 ((rd_T53 l0_2 1).f0), .int .i64 ((rd_T53 l0_2 1).f1), .slice A105_2 ((rd_T53 l0_2 1).f2).length c105_2]] (by rfl) rfl rfl tA ?_
           with_reducible refine (ih k (by omega) ((rd_T53 l0_2 1).f0) ((rd_T53 l0_2 1).f1) _ _ ((rd_T53 l0_2 1).f2) t106 _ ?side1 ?side2 A22.out).mono ?_
           (case side1 => exact sC (Kd.C_below HR105_2.out HB.out))
           (case side2 => exact HC105_2.out)
           rintro e w29 ⟨rfl, hb⟩
           refine ⟨_, rfl, ?_⟩
           have n_ := aJ (aK (blk_below BK101.out hb)) (aK (below_step (pH HB) hb))
           clear BK101 HB
           obtain ⟨BK101, HB⟩ := n_
           (try clear hb)
           (try clear hb2)
           (try clear hk)
           (try clear hi)
           refine hK.out _ _ ⟨(blk_cell BK101.out 0).trans rfl, (blk_cell BK101.out 1).trans rfl, (blk_cell BK101.out 2).trans rfl, (uC HB hw103_0), (uC HB hw103_1), (uC HB hw103_2), (uC HB hw105_0), (uC HB hw105_1), (uC HB hw105_2)⟩ (fun hHeld => ?_)
           clear hK K
           refine norm_ (a' := ?_) ?_ ?_
           rotate_left
           ·show Act.put _ (some 28) _ = _
            simp only [sP, i64_w, i32_w]
            rfl
           refine pS (i := 12) (N := some 29) (bs 13 2) (aO HT_) ?_
           refine pS (i := 13) (N := some 30) (bs 14 1) (aO HT_) ?_
           refine pS (i := 14) (N := some 2) (bs 15 0) (aO HT_) ?_
           refine done_ (done_of HT_.out (by kernel_rfl)) ?_
           try go_wp2
           go_ret
           exact ⟨eW, pH HB⟩
          ·rw [if_neg c24] at H
           exact absurd H (by simp)
         ·rw [if_neg c23] at H
          exact absurd H (by simp)
        ·rw [if_neg c21] at H
         exact absurd H (by simp)
       ·rw [if_neg c20] at H
        exact absurd H (by simp)
      ·rw [if_neg c19] at H
       exact absurd H (by simp)
     ·rw [if_neg c17] at H
      exact absurd H (by simp)


mutual
def spec_ldTree.l0 : Nat → List (S65) → List Int → Int → Int → Int → Int → List (S53) → Option (Int × Int × (List (S53)))
 | 0, _, _, _, _, _, _, _ => none
 | k + 1, x0, x21, x22, x23, x105000, x105001, x105002 => if x23 < x22 then (if 0 ≤ x23 then (if x23 < (x21.length : Int) then ((spec_ldTree.f k x0 (rd x21 x23)).bind fun bt109 => (if x105002.length < 3518437208883 then (spec_ldTree.l0 k x0 x21 x22 (wrap64 (x23 + 1)) x105000 x105001 (x105002 ++ [(⟨bt109.1, bt109.2.1, bt109.2.2⟩ : S53)])) else (none))) else (none)) else (none)) else (some (x105000, x105001, x105002))
def spec_ldTree.f : Nat → List (S65) → Int → Option (Int × Int × (List (S53)))
 | 0, _, _ => none
 | k + 1, l0, a1 => if 0 ≤ a1 then (if a1 < (l0.length : Int) then ((spec_ldParts.f k l0 a1).bind fun t105 => (spec_ldTree.l0 k l0 t105 (t105.length : Int) 0 ((rd_T65 l0 a1).f0) ((rd_T65 l0 a1).f1) ([] : List (S53)))) else (none)) else (none)
end
def spec_ldTree.T1 : Bool × List (List Nat × List Nat) := (true, [([], []), ([], []), ([0, 1], [0, 1]), ([2], [2]), ([3], [3]), ([], []), ([], []), ([5, 6], [5, 6]), ([7], [7]), ([8], [8]), ([4, 9], [4, 9]), ([], []), ([11, 10, 0, 1, 2, 3, 4, 5, 6, 7, 8, 9, 10, 11], [10, 11])])
def spec_ldTree.B1 : List Nat := [0, 0, 3, 7, 15, 0, 0, 96, 224, 480, 1023, 0, 4095]
theorem spec_ldTree.tab1 : rtab .any (opsOf Tryd.f19 1) = spec_ldTree.T1 := by kernel_rfl
theorem spec_ldTree.bits1 : waitsOk spec_ldTree.T1.2 spec_ldTree.B1 = true := by kernel_rfl
def spec_ldTree.T5 : Bool × List (List Nat × List Nat) := (true, [([], []), ([0], [0]), ([], []), ([], []), ([2, 3], [2, 3]), ([4], [4]), ([1, 5, 4], [1, 5]), ([0, 1, 2, 3, 4, 5, 6], []), ([7, 6, 6, 0, 1, 2, 3, 4, 5, 6], [6, 7])])
def spec_ldTree.B5 : List Nat := [0, 1, 0, 0, 12, 28, 63, 127, 255]
theorem spec_ldTree.tab5 : rtab .any (opsOf Tryd.f19 5) = spec_ldTree.T5 := by kernel_rfl
theorem spec_ldTree.bits5 : waitsOk spec_ldTree.T5.2 spec_ldTree.B5 = true := by kernel_rfl
set_option maxHeartbeats 8000000 in
set_option maxRecDepth 100000 in
theorem spec_ldTree.calls (k : Nat) : ∀ (A0 : Option Addr) (c0 : Nat) (l0 : List (S65)) (a1 : Int) (r1 : Int) (r2 : Int) (r3 : List (S53)) (w : World) (hr0 : Kd.C k65 w A0 l0.length l0) (hc0 : l0.length ≤ c0) (h : spec_ldTree.f k l0 a1 = some (r1, r2, r3)),
  Calls Tryd.prog 19 #[.slice A0 l0.length c0, .int .i64 a1] w fun e w' => ∃ v2_ : Value, e = .returned (.agg #[.int .i64 r1, .int .i64 r2, v2_]) ∧ Kd.R k53 53 w' w.heap.size (fun _ => True) v2_ r3 ∧ Below w.heap.size w w' := by
 induction k using Nat.strongRecOn with
 | _ k ih =>
 intro A0 c0 l0 a1 r1 r2 r3 w hr0 hc0 h
 cases k with
 | zero => exact absurd h (by simp [spec_ldTree.f])
 | succ k =>
 simp only [spec_ldTree.f] at h
 have hu53 := Tryd.underlying53
 have HR0 := aK hr0
 have HC0 := aK hc0
 clear hr0 hc0
 have HB := aK (Below.refl w.heap.size w)
 have H : (if 0 ≤ a1 then (if a1 < (l0.length : Int) then ((spec_ldParts.f k l0 a1).bind fun t105 => (spec_ldTree.l0 k l0 t105 (t105.length : Int) 0 ((rd_T65 l0 a1).f0) ((rd_T65 l0 a1).f1) ([] : List (S53)))) else (none)) else (none)) = some (r1, r2, r3) := h
 clear h
 by_cases c3 : 0 ≤ a1
 ·rw [if_pos c3] at H
  have c3b0 : decide (0 ≤ a1) = true := decide_eq_true c3
  clear c3
  by_cases c4 : a1 < (l0.length : Int)
  ·rw [if_pos c4] at H
   have c4b0 : decide (a1 < (l0.length : Int)) = true := decide_eq_true c4
   clear c4
   obtain ⟨t105, A5, H⟩ := oB H
   try dsimp only at H
   have H' := aK H
   clear H
   go_enter Tryd.func19, Tryd.ntmps19
   try go_wp2_with (first | ((with_reducible refine gate_dst (N := 4) rfl ?_); refine bE (N := 4) (cs := #[.int .i64 0, .int .i64 0, .slice none 0 0]) (t := 53) ?_; intro gb101 hg w6 hbox hb; have GW101 := qw HB hg; have GE101 := qw HB hg; have BK101 := aK hbox; replace HB := qs HB hb; clear hb hbox hg))
   have n_ := aJ (aK (blk_drew BK101.out)) (aK (below_drew1 HB.out))
   clear BK101 HB
   obtain ⟨BK101, HB⟩ := n_
   have p102 : 0 ≤ (a1 : Int) := dA
   have q102 : a1 < (l0.length : Int) := dA
   obtain ⟨ad102, e102, hx102_0, hx102_1, hx102_2⟩ := at_T65 HR0.out a1 p102 q102
   have hw102_2 := hx102_2
   have hw102_1 := hx102_1
   have hw102_0 := hx102_0
   cases e102
   replace hx102_0 := uC HB hx102_0
   replace hx102_1 := uC HB hx102_1
   replace hx102_2 := uC HB hx102_2
   replace p102 := eq_true p102
   replace q102 := eq_true q102
   have p103 : 0 ≤ (a1 : Int) := dA
   have q103 : a1 < (l0.length : Int) := dA
   obtain ⟨ad103, e103, hx103_0, hx103_1, hx103_2⟩ := at_T65 HR0.out a1 p103 q103
   have hw103_2 := hx103_2
   have hw103_1 := hx103_1
   have hw103_0 := hx103_0
   obtain rfl : ad102 = ad103 := (by injection e103)
   replace hx103_0 := uC HB hx103_0
   replace hx103_1 := uC HB hx103_1
   replace hx103_2 := uC HB hx103_2
   replace p103 := eq_true p103
   replace q103 := eq_true q103
   refine start_ (n := 13) (S := fun w' => w'.cell? (ad102.add ((a1).toNat * 3)) = some (.int .i64 ((rd_T65 l0 a1).f0)) ∧ w'.cell? ⟨(ad102.add ((a1).toNat * 3)).block, (ad102.add ((a1).toNat * 3)).off + 1, none⟩ = some (.int .i64 ((rd_T65 l0 a1).f1)) ∧ w'.cell? ⟨(ad102.add ((a1).toNat * 3)).block, (ad102.add ((a1).toNat * 3)).off + 2, none⟩ = some (.int .i64 ((rd_T65 l0 a1).f2)) ∧ w'.cell? (ad102.add ((a1).toNat * 3)) = some (.int .i64 ((rd_T65 l0 a1).f0)) ∧ w'.cell? ⟨(ad102.add ((a1).toNat * 3)).block, (ad102.add ((a1).toNat * 3)).off + 1, none⟩ = some (.int .i64 ((rd_T65 l0 a1).f1)) ∧ w'.cell? ⟨(ad102.add ((a1).toNat * 3)).block, (ad102.add ((a1).toNat * 3)).off + 2, none⟩ = some (.int .i64 ((rd_T65 l0 a1).f2))) (ds := []) (bs 0 13) (by kernel_rfl) rfl rfl ⟨(uC HB hw102_0), (uC HB hw102_1), (uC HB hw102_2), (uC HB hw103_0), (uC HB hw103_1), (uC HB hw103_2)⟩ (fun hHeld => ?_); refine with_tabW spec_ldTree.tab1 spec_ldTree.bits1 (fun HT_ HW_ => ?_)
   generalize w6.drew = w7 at BK101 HB hx102_0 hx102_1 hx102_2 hx103_0 hx103_1 hx103_2 hHeld ⊢
   refine pS (i := 0) (N := some 8) (bs 1 12) (aO HT_) ?_
   refine pS (i := 1) (N := some 9) (bs 2 11) (aO HT_) ?_
   refine pS (i := 2) (N := some 10) (bs 3 10) (aO HT_) ?_
   refine pS (i := 3) (N := some 11) (bs 4 9) (aO HT_) ?_
   refine pS (i := 5) (N := some 13) #[true, true, true, true, false, true, false, false, false, false, false, false, false] (aO HT_) ?_
   refine pS (i := 6) (N := some 14) #[true, true, true, true, false, true, true, false, false, false, false, false, false] (aO HT_) ?_
   refine pS (i := 7) (N := some 15) #[true, true, true, true, false, true, true, true, false, false, false, false, false] (aO HT_) ?_
   refine pS (i := 8) (N := some 16) #[true, true, true, true, false, true, true, true, true, false, false, false, false] (aO HT_) ?_
   refine take_ (i := 4) (N := some 12) (v := ?_) (a' := ?_) (bs 9 4) rfl rfl (take_ofW HT_.out HW_.out (by kernel_rfl)) (fun _ _ _ h => h) (Or.inl ⟨by rfl, ?_⟩) hHeld ?_ ?_
   rotate_left
   ·rintro w' ⟨s0, s1, s2, s3, s4, s5⟩
    go_simp
    with_reducible rfl
   rotate_left
   ·simp only [sP, i64_w, i32_w]
    rfl
   refine take_ (i := 9) (N := some 17) (v := ?_) (a' := ?_) (bs 10 3) rfl rfl (take_ofW HT_.out HW_.out (by kernel_rfl)) (fun _ _ _ h => h) (Or.inl ⟨by rfl, ?_⟩) hHeld ?_ ?_
   rotate_left
   ·rintro w' ⟨s0, s1, s2, s3, s4, s5⟩
    go_simp
    with_reducible rfl
   rotate_left
   ·simp only [sP, i64_w, i32_w]
    rfl
   refine pS (i := 10) (N := some 18) (bs 11 2) (aO HT_) ?_
   refine one_ (i := 11) (N := some 5) (bs 12 1) rfl rfl (one_of HT_.out (by kernel_rfl)) (by decide) (fun K hK => ?_)
   refine box_step ?hg (N := 5) ?hd (cs := #[.int .i64 0, .int .i64 0, .slice none 0 0]) (t := 53) ?hr ?_; (case hd => rfl); (case hg => rfl); (case hr => go_simp)
   intro gb104 hg w8 hbox hb
   have n_ := aJ (aK (blk_below BK101.out hb)) (aJ (aK (below_step (pH HB) hb)) (aJ (aK (hbox)) (aJ (aK ((by rw [hg]; exact (below_size (pH HB)) : w.heap.size ≤ gb104))) (aJ (aK ((by rw [hg]; exact (below_size (pH HB)) : w.heap.size ≤ gb104))) (aJ (aK ((by rw [hg]; exact Nat.ne_of_lt (blk_lt BK101.out) : gb101 ≠ gb104))) (aK ((by rw [hg]; exact Nat.ne_of_gt (blk_lt BK101.out) : gb104 ≠ gb101))))))))
   clear BK101 HB
   obtain ⟨BK101, HB, BK104, GW104, GE104, NB101_104, NB104_101⟩ := n_
   clear hb hbox hg
   refine hK.out _ _ ⟨(uC HB hw102_0), (uC HB hw102_1), (uC HB hw102_2), (uC HB hw103_0), (uC HB hw103_1), (uC HB hw103_2)⟩ (fun hHeld => ?_)
   clear hK K
   refine norm_ (a' := ?_) ?_ ?_
   rotate_left
   ·show Act.put _ (some 5) _ = _
    simp only [sP, i64_w, i32_w]
    rfl
   refine one_ (i := 12) (N := none) (bs 13 0) rfl rfl (one_of HT_.out (by kernel_rfl)) (by decide) (fun K hK => ?_)
   have hs9 : w8.cell? ⟨gb104, 0, none⟩ = some (.int .i64 0) := (blk_cell BK104.out 0).trans rfl
   have hfs9 := blk_frozen BK104.out 0
   have hns9_0 := NB101_104.out
   have hms9_0 := NB104_101.out
   have hs10 : w8.cell? ⟨gb104, 1, none⟩ = some (.int .i64 0) := (blk_cell BK104.out 1).trans rfl
   have hfs10 := blk_frozen BK104.out 1
   have hns10_0 := NB101_104.out
   have hms10_0 := NB104_101.out
   have hs11 : w8.cell? ⟨gb104, 2, none⟩ = some (.slice none 0 0) := (blk_cell BK104.out 2).trans rfl
   have hfs11 := blk_frozen BK104.out 2
   have hns11_0 := NB101_104.out
   have hms11_0 := NB104_101.out
   refine skip_ (w1 := ?_) (by rfl) rfl ?_ ?_
   rotate_left
   ·go_simp
    rfl
   refine hK.out _ _ ⟨(cF3 (nG hw102_0 GW104) (hHeld.1)), (cF3 (nG hw102_1 GW104) (hHeld.2.1)), (cF3 (nG hw102_2 GW104) (hHeld.2.2.1)), (cF3 (nG hw103_0 GW104) (hHeld.2.2.2.1)), (cF3 (nG hw103_1 GW104) (hHeld.2.2.2.2.1)), (cF3 (nG hw103_2 GW104) (hHeld.2.2.2.2.2))⟩ (fun hHeld => ?_)
   clear hK K
   refine done_ (done_of HT_.out (by kernel_rfl)) ?_
   try go_wp2_with (first | ((with_reducible refine gate_callee (f := 33) rfl ?_); refine goesL_ (some 21) rfl rfl Tryd.func33 (by kernel_rfl) rfl #[.slice (some ad102) l0.length c0, .int .i64 a1] rfl tA ?_; (with_reducible refine (spec_ldParts.calls k _ _ l0 a1 t105 _ ?side1 ?side2 A5.out).mono ?_); (case side1 => exact Kd.C_below HR0.out (pH HB)); (case side2 => exact HC0.out); rintro e w12 ⟨v106, rfl, ho0, hb⟩; refine ⟨_, rfl, ?_⟩; have n_ := aJ (aK (Kd.R_lower ho0 (below_size (pH HB)))) (aJ (aK (blk_below (g := gb101) (o := .cells #[.int .i64 0, .int .i64 0, .slice none 0 0] 53 (0, 0)) (by (repeat first | with_reducible apply zN | with_reducible apply zD | with_reducible apply zA | refine blk_far ?_ NB101_104.out _); exact BK101.out) hb)) (aJ (aK (blk_below (g := gb104) (o := .cells #[.int .i64 ((rd_T65 l0 a1).f0), .int .i64 ((rd_T65 l0 a1).f1), .slice none 0 0] 53 (0, 0)) (p3 BK104) hb)) (aK (below_step (pH HB) hb)))); clear BK101 BK104 HB; obtain ⟨HO107, BK101, BK104, HB⟩ := n_; (try clear hb); (try clear ho0); obtain ⟨Ao13, co13, eo13⟩ := Kd.R_slice HO107.out; subst eo13))
   go_loopg [23] k (fun kq v23 w' => ∃ (x23_1 : Int) (x105002_1 : List (S53)) (u105002 : Value), v23 = .int .i64 x23_1 ∧ Aside0 (spec_ldTree.l0 kq l0 t105 (t105.length : Int) x23_1 ((rd_T65 l0 a1).f0) ((rd_T65 l0 a1).f1) x105002_1 = some (r1, r2, r3)) ∧ Aside0 (kq ≤ k) ∧ Aside0 (Kd.R (Kd.int .i64) 3 w' w.heap.size (fun _ => True) (.slice Ao13 t105.length co13) t105) ∧ Aside0 (Kd.R k53 53 w' w.heap.size (fun k_ => k_ ≠ gb101 ∧ k_ ≠ gb104) u105002 x105002_1) ∧ Aside0 (w'.heap[gb101]? = some (.cells #[.int .i64 0, .int .i64 0, (.slice none 0 0)] 53 (0, 0))) ∧ Aside0 (w'.heap[gb104]? = some (.cells #[.int .i64 ((rd_T65 l0 a1).f0), .int .i64 ((rd_T65 l0 a1).f1), u105002] 53 (0, 0))) ∧ Aside0 (Below w.heap.size w w'))
   case atStart => exact ⟨(0), (([] : List (S53))), (.slice none 0 0), rS, H', ⟨Nat.le_refl _⟩, ⟨by (with_reducible repeat (first | apply rA | apply rN | apply rD)); exact HO107.out⟩, ⟨by first | exact Kd.R_nil _ _ _ _ _ | exact Kd.N_nil _ _ _ _ _ | exact Kd.V_nil _ _ _ _ _ | exact Kd.Q_nil _ _ _ _ _ | exact Kd.S_nil _ _ _ _ _⟩, ⟨pB BK101⟩, ⟨pB BK104⟩, ⟨pH HB⟩⟩
   case round =>
    clear H'
    try clear c1; try clear p1; try clear q1; try clear hx1; try clear p2; try clear c3; try clear c3b0; try clear c4; try clear c4b0; try clear p10; try clear q10; try clear hx10; try clear hx102_0; try clear hx102_1; try clear hx102_2; try clear hx103_0; try clear hx103_1; try clear hx103_2; try clear p102; try clear p103; try clear q102; try clear q103
    obtain ⟨x23_1, x105002_1, u105002, rfl, HA, HK1, HO_21, HO_105002, BK101, BK104, HB⟩ := hrel
    cases gk with
    | zero => exact absurd HA.out (by simp [spec_ldTree.l0])
    | succ k1 =>
     have H := HA.out
     clear HA
     simp only [spec_ldTree.l0] at H
     by_cases c14 : x23_1 < (t105.length : Int)
     ·rw [if_pos c14] at H
      have c14b0 : decide (x23_1 < (t105.length : Int)) = true := decide_eq_true c14
      clear c14
      by_cases c15 : 0 ≤ x23_1
      ·rw [if_pos c15] at H
       have c15b0 : decide (0 ≤ x23_1) = true := decide_eq_true c15
       clear c15
       by_cases c16 : x23_1 < (t105.length : Int)
       ·rw [if_pos c16] at H
        have c16b0 : decide (x23_1 < (t105.length : Int)) = true := decide_eq_true c16
        clear c16
        obtain ⟨⟨t109, t110, t111⟩, A17, H⟩ := oB H
        try dsimp only at H
        by_cases c18 : x105002_1.length < 3518437208883
        ·rw [if_pos c18] at H
         have LMc18 := aK c18
         clear c18
         obtain ⟨y114, hy114⟩ : ∃ y_ : List (S53), y_ = (x105002_1 ++ [(⟨t109, t110, t111⟩ : S53)]) := ⟨_, rfl⟩
         replace H : (spec_ldTree.l0 k1 l0 t105 (t105.length : Int) (wrap64 (x23_1 + 1)) ((rd_T65 l0 a1).f0) ((rd_T65 l0 a1).f1) y114) = some (r1, r2, r3) := by first | (rw [hy114]; with_reducible exact H) | (have H2_ := (Option.bind_some _ _).symm.trans H; rw [hy114]; with_reducible exact H2_) | (have H2_ := (Option.bind_some _ _).symm.trans H; with_reducible exact H2_) | with_reducible exact H | (rw [hy114]; exact H) | exact H
         have Ny114 := aK hy114
         clear hy114
         have H' := aK H
         clear H
         have p108 : 0 ≤ (x23_1 : Int) := dA
         have q108 : x23_1 < (t105.length : Int) := dA
         obtain ⟨ad108, e108, hx108_0⟩ := Kd.at_int (Kd.R_reads' HO_21.out).2.2 x23_1 p108 q108
         cases e108
         replace p108 := eq_true p108
         replace q108 := eq_true q108
         try go_wp2
         have n_ := aJ (aK (Kd.R_drew HO_21.out)) (aJ (aK (Kd.R_drew HO_105002.out)) (aJ (aK (blk_drew BK101.out)) (aJ (aK (blk_drew BK104.out)) (aK (below_drew1 HB.out)))))
         clear HO_21 HO_105002 BK101 BK104 HB
         obtain ⟨HO_21, HO_105002, BK101, BK104, HB⟩ := n_
         refine start_ (n := 9) (S := fun w' => w'.cell? ⟨gb104, 0, none⟩ = some (.int .i64 ((rd_T65 l0 a1).f0)) ∧ w'.cell? ⟨gb104, 1, none⟩ = some (.int .i64 ((rd_T65 l0 a1).f1)) ∧ w'.cell? ⟨gb104, 2, none⟩ = some (u105002)) (ds := [8]) (bs 0 9) (by kernel_rfl) rfl rfl ⟨(blk_cell BK104.out 0).trans rfl, (blk_cell BK104.out 1).trans rfl, (blk_cell BK104.out 2).trans rfl⟩ (fun hHeld => ?_); refine with_tabW spec_ldTree.tab5 spec_ldTree.bits5 (fun HT_ HW_ => ?_)
         generalize wr.drew = w19 at HO_21 HO_105002 BK101 BK104 HB hHeld ⊢
         refine pS (i := 0) (N := some 27) (bs 1 8) (aO HT_) ?_
         refine pS (i := 2) (N := some 29) #[true, false, true, false, false, false, false, false, false] (aO HT_) ?_
         refine pS (i := 3) (N := some 30) #[true, false, true, true, false, false, false, false, false] (aO HT_) ?_
         refine take_ (i := 1) (N := some 28) (v := ?_) (a' := ?_) (bs 4 5) rfl rfl (take_ofW HT_.out HW_.out (by kernel_rfl)) (fun _ _ _ h => h) (Or.inl ⟨by rfl, ?_⟩) hHeld ?_ ?_
         rotate_left
         ·rintro w' ⟨s0, s1, s2⟩
          go_simp
          with_reducible rfl
         rotate_left
         ·simp only [sP, i64_w, i32_w]
          rfl
         refine one_ (i := 4) (N := some 31) (bs 5 4) rfl rfl (one_of HT_.out (by kernel_rfl)) (by decide) (fun K hK => ?_)
         refine goes_ Tryd.func19 (by kernel_rfl) rfl #[.slice (some ad102) l0.length c0, .int .i64 (rd t105 x23_1)] (by rfl) rfl rfl tA ?_
         with_reducible refine (ih k1 (by have := HK1.out; omega) _ _ l0 (rd t105 x23_1) t109 t110 t111 _ ?side1 ?side2 A17.out).mono ?_
         (case side1 => exact sC (Kd.C_below HR0.out HB.out))
         (case side2 => exact HC0.out)
         rintro e w20 ⟨v112, rfl, ho0, hb⟩
         refine ⟨_, rfl, ?_⟩
         have n_ := aJ (aK (Kd.R_below HO_21.out hb)) (aJ (aK (Kd.R_elder' HO_105002.out (Kd.R_base ho0) hb)) (aJ (aK (Kd.R_lower (Kd.R_newB (Kd.R_newB (Kd.R_new' ho0 (Kd.R_lt HO_105002.out)) BK101.out) BK104.out) (below_size (pH HB)))) (aJ (aK (blk_below BK101.out hb)) (aJ (aK (blk_below BK104.out hb)) (aK (below_step (pH HB) hb))))))
         clear HO_21 HO_105002 BK101 BK104 HB
         obtain ⟨HO_21, HO_105002, HO113, BK101, BK104, HB⟩ := n_
         (try clear hb)
         (try clear hb2)
         (try clear hk)
         (try clear hi)
         (try clear ho0)
         obtain ⟨Ao22, co22, eo22⟩ := Kd.R_slice HO113.out
         (first | subst eo22 | (injection eo22 with f1_ f2_ f3_; have f4_ := f1_.symm; have f5_ := f3_.symm; clear f1_ f2_ f3_; subst f4_; subst f5_))
         refine hK.out _ _ ⟨(blk_cell BK104.out 0).trans rfl, (blk_cell BK104.out 1).trans rfl, (blk_cell BK104.out 2).trans rfl⟩ (fun hHeld => ?_)
         clear hK K
         refine norm_ (a' := ?_) ?_ ?_
         rotate_left
         ·show Act.put _ (some 31) _ = _
          simp only [sP, i64_w, i32_w]
          rfl
         refine one_ (i := 5) (N := some 32) (bs 6 3) rfl rfl (one_of HT_.out (by kernel_rfl)) (by decide) (fun K hK => ?_)
         refine value_ (w1 := ?_) (v := ?_) (by rfl) rfl ?_ ?_
         rotate_left 2
         ·go_simp
          constructor
          ·rfl
          ·rfl
         refine hK.out _ _ ⟨(blk_cell (blk_alloc BK104.out _) 0).trans rfl, (blk_cell (blk_alloc BK104.out _) 1).trans rfl, (blk_cell (blk_alloc BK104.out _) 2).trans rfl⟩ (fun hHeld => ?_)
         clear hK K
         refine norm_ (a' := ?_) ?_ ?_
         rotate_left
         ·show Act.put _ (some 32) _ = _
          simp only [sP, i64_w, i32_w]
          rfl
         refine one_ (i := 6) (N := some 33) (bs 7 2) rfl rfl (one_of HT_.out (by kernel_rfl)) (by decide) (fun K hK => ?_)
         refine Kd.R_append_step k53 (w0 := w) w.heap.size (by rfl) (.tmp 28) (.tmp 32) 51 53 (.agg #[(.int .i64 0), (.int .i64 0), (.slice none 0 0)]) 40 rfl Tryd.underlying51 info53 rfl (by decide) (by omega) u105002 x105002_1 (⟨t109, t110, t111⟩ : S53) [.int .i64 t109, .int .i64 t110, .slice Ao22 t111.length co22] (fun k_ => k_ ≠ gb101 ∧ k_ ≠ gb104) (fun k_ => ((fun k_ => k_ ≠ gb101 ∧ k_ ≠ gb104)) k_ ∧ some k_ ≠ (u105002 : Value).ownBlock) rfl rfl ?aP (fun _ hk => hk) ?aF ?aO ?aB ?aS ?aL ?_
         (case aP => exact k53_mkM _ _ _ (⟨t109, t110, t111⟩ : S53) (Kd.R_mono (HO113.out) (fun k_ hk => ⟨⟨hk.1.2, hk.2⟩, hk.1.1.2⟩)))
         (case aB => exact (pH HB))
         (case aF => exact (fun k_ hk => ⟨Kd.freshB BK101.out k_ hk, Kd.freshB BK104.out k_ hk⟩))
         (case aO => exact (by (with_reducible repeat (first | apply rA | apply rN | apply rD)); exact Kd.R_mono HO_105002.out (fun _ hk => ⟨hk.1.1, hk.1.2⟩)))
         (case aS => exact (below_size (pH HB)))
         (case aL => have := LMc18.out; omega)
         intro v115 w21 ho hb hg hat
         rw [← Ny114.out] at ho
         have n_ := aJ (aK (Kd.R_over' HO_21.out (Kd.R_typed HO_105002.out) (by decide) hg)) (aJ (aK (blk_grown BK101.out hg (Kd.R_away HO_105002.out (fun _ hk => hk.1.1)))) (aJ (aK (blk_grown BK104.out hg (Kd.R_away HO_105002.out (fun _ hk => hk.1.2)))) (aJ (aK (hb)) (aK (ho)))))
         clear HO_21 BK101 BK104 HB HO_105002 HO113
         obtain ⟨HO_21, BK101, BK104, HB, HO116⟩ := n_
         clear ho hb hg hat
         obtain ⟨Ao23, co23, eo23⟩ := Kd.R_slice HO116.out
         (first | subst eo23 | (injection eo23 with f1_ f2_ f3_; have f4_ := f1_.symm; have f5_ := f3_.symm; clear f1_ f2_ f3_; subst f4_; subst f5_))
         refine hK.out _ _ ⟨(blk_cell BK104.out 0).trans rfl, (blk_cell BK104.out 1).trans rfl, (blk_cell BK104.out 2).trans rfl⟩ (fun hHeld => ?_)
         clear hK K
         refine norm_ (a' := ?_) ?_ ?_
         rotate_left
         ·show Act.put _ (some 33) _ = _
          simp only [sP, i64_w, i32_w]
          rfl
         refine pS (i := 7) (N := some 34) (bs 8 1) (aO HT_) ?_
         refine last_ (i := 8) (N := none) (bs 9 0) rfl rfl (one_of HT_.out (by kernel_rfl)) (by decide) (fun K hK => ?_)
         have hs24 : w21.cell? ⟨gb104, 2, none⟩ = some (u105002) := (blk_cell BK104.out 2).trans rfl
         have hfs24 := blk_frozen BK104.out 2
         have hns24_0 := NB101_104.out
         have hms24_0 := NB104_101.out
         refine skip_ (w1 := ?_) (by rfl) rfl ?_ ?_
         rotate_left
         ·go_simp
          rfl
         refine hK.out _ _ ?_
         clear hK K
         refine done_ (done_of HT_.out (by kernel_rfl)) ?_
         try go_wp2
         go_roundg k1
         case measure => have := HK1.out; omega
         case rel => exact ⟨(wrap64 (x23_1 + 1)), (y114), (.slice Ao23 y114.length co23), rS, H', ⟨by have := HK1.out; omega⟩, ⟨by (with_reducible repeat (first | apply rA | apply rN | apply rD)); exact Kd.R_mono (Kd.R_far (p := ⟨gb104, 2, none⟩) (Kd.R_types HO_21.out BK104.out (by decide)) (fun _ hk => hk.2) (.slice Ao23 y114.length co23)) (fun _ hk => trivial)⟩, ⟨by (with_reducible repeat (first | apply rA | apply rN | apply rD)); exact Kd.R_mono (Kd.R_far (p := ⟨gb104, 2, none⟩) (Kd.R_mono HO116.out (fun k_ hk => (⟨hk, hk.2⟩ : _ ∧ k_ ≠ gb104))) (fun _ hk => hk.2) (.slice Ao23 y114.length co23)) (fun _ hk => ⟨hk.1.1, hk.1.2⟩)⟩, ⟨by (repeat first | with_reducible apply zN | with_reducible apply zD | with_reducible apply zA | refine blk_far ?_ NB101_104.out _); exact BK101.out⟩, ⟨by (with_reducible repeat first | apply zN | apply zD | apply zA); refine blk_put (cs := #[.int .i64 ((rd_T65 l0 a1).f0), .int .i64 ((rd_T65 l0 a1).f1), u105002]) ?_ 2 _ rfl; (with_reducible repeat first | apply zN | apply zD | apply zA); exact BK104.out⟩, ⟨pH HB⟩⟩
        ·rw [if_neg c18] at H
         exact absurd H (by simp)
       ·rw [if_neg c16] at H
        exact absurd H (by simp)
      ·rw [if_neg c15] at H
       exact absurd H (by simp)
     ·rw [if_neg c14] at H
      have c14b0 : decide (x23_1 < (t105.length : Int)) = false := decide_eq_false c14
      clear c14
      simp only [Option.some.injEq, Prod.mk.injEq] at H
      obtain ⟨rfl, rfl, rfl⟩ := H
      have hnb25 := NB104_101.out
      have hnc25 := NB101_104.out
      obtain ⟨hcz26_0, hcz26_1, hcz26_2, hfz26_0, hfz26_1, hfz26_2⟩ := cA3 BK104
      obtain ⟨hcz27_0, hcz27_1, hcz27_2, hfz27_0, hfz27_1, hfz27_2⟩ := cA3 BK101
      obtain ⟨Ao28, co28, eo28⟩ := Kd.R_slice HO_105002.out
      subst eo28
      go_wp2
      refine bodyPost_ret (results_cell_row rfl _ _ gb101 53 #[.int .i64 ((rd_T65 l0 a1).f0), .int .i64 ((rd_T65 l0 a1).f1), .slice Ao28 x105002_1.length co28] (0, 0) _ rfl (p3 BK101) Tryd.underlying53 rfl (by kernel_rfl)) rfl ?_
      exact ⟨_, eW, by (with_reducible repeat (first | apply rA | apply rN | apply rD)); exact Kd.R_mono (Kd.R_far (p := ⟨gb101, 2, none⟩) (Kd.R_far (p := ⟨gb101, 1, none⟩) (Kd.R_far (p := ⟨gb101, 0, none⟩) (Kd.R_mono HO_105002.out (fun k_ hk => (⟨hk, hk.1⟩ : _ ∧ k_ ≠ gb101))) (fun _ hk => hk.2) (.int .i64 ((rd_T65 l0 a1).f0))) (fun _ hk => hk.2) (.int .i64 ((rd_T65 l0 a1).f1))) (fun _ hk => hk.2) (.slice Ao28 x105002_1.length co28)) (fun _ hk => trivial), pH HB⟩
  ·rw [if_neg c4] at H
   exact absurd H (by simp)
 ·rw [if_neg c3] at H
  exact absurd H (by simp)


def spec_CombText.f (k : Nat) (l0 : List (S65)) : Option (ByteArray × Bool) := (spec_GoodComb.f k l0).bind fun t101 => (if t101 = true then ((spec_ldTree.f k l0 0).bind fun bt102 => ((spec_ldText.f k bt102.1 bt102.2.1 bt102.2.2).bind fun t107 => (some (t107, true)))) else (some ((⟨#[]⟩ : ByteArray), false)))
set_option maxHeartbeats 8000000 in
set_option maxRecDepth 100000 in
theorem spec_CombText.calls (k : Nat) (A0 : Option Addr) (c0 : Nat) (l0 : List (S65)) (r1 : ByteArray) (r2 : Bool) (w : World) (hr0 : Kd.C k65 w A0 l0.length l0) (hc0 : l0.length ≤ c0) (h : spec_CombText.f k l0 = some (r1, r2)) :
  Calls Tryd.prog 6 #[.slice A0 l0.length c0] w fun e w' => e = .returned (.tuple #[.string r1, .bool r2]) ∧ Below w.heap.size w w' := by
 have HR0 := aK hr0
 have HC0 := aK hc0
 clear hr0 hc0
 have HB := aK (Below.refl w.heap.size w)
 have H : ((spec_GoodComb.f k l0).bind fun t101 => (if t101 = true then ((spec_ldTree.f k l0 0).bind fun bt102 => ((spec_ldText.f k bt102.1 bt102.2.1 bt102.2.2).bind fun t107 => (some (t107, true)))) else (some ((⟨#[]⟩ : ByteArray), false)))) = some (r1, r2) := h
 clear h
 obtain ⟨t101, A2, H⟩ := oB H
 try dsimp only at H
 by_cases c3 : t101 = true
 ·subst c3
  rw [if_pos rfl] at H
  obtain ⟨⟨t102, t103, t104⟩, A4, H⟩ := oB H
  try dsimp only at H
  obtain ⟨t107, A5, H⟩ := oB H
  try dsimp only at H
  simp only [Option.some.injEq, Prod.mk.injEq] at H
  obtain ⟨rfl, rfl⟩ := H
  go_enter Tryd.func6, Tryd.ntmps6
  go_wp2_with (first | ((with_reducible refine gate_callee (f := 17) rfl ?_); refine goesL_ (some 5) rfl rfl Tryd.func17 (by kernel_rfl) rfl #[.slice A0 l0.length c0] rfl tA ?_; (with_reducible refine (spec_GoodComb.calls k _ _ l0 true _ ?side1 ?side2 A2.out).mono ?_); (case side1 => exact sC HR0.out); (case side2 => exact HC0.out); rintro e w6 ⟨rfl, hb⟩; refine ⟨_, rfl, ?_⟩; replace HB := qs HB hb; (try clear hb)) | ((with_reducible refine gate_callee (f := 19) rfl ?_); refine goesL_ (some 8) rfl rfl Tryd.func19 (by kernel_rfl) rfl #[.slice A0 l0.length c0, .int .i64 0] rfl tA ?_; (with_reducible refine (spec_ldTree.calls k _ _ l0 0 t102 t103 t104 _ ?side1 ?side2 A4.out).mono ?_); (case side1 => exact sC (Kd.C_below HR0.out HB.out)); (case side2 => exact HC0.out); rintro e w7 ⟨v105, rfl, ho0, hb⟩; refine ⟨_, rfl, ?_⟩; have HO106 := aK (Kd.R_lower ho0 (below_size HB.out)); replace HB := qs HB hb; (try clear hb); (try clear ho0); obtain ⟨Ao8, co8, eo8⟩ := Kd.R_slice HO106.out; subst eo8) | ((with_reducible refine gate_callee (f := 18) rfl ?_); refine goesL_ (some 9) rfl rfl Tryd.func18 (by kernel_rfl) rfl #[.agg #[.int .i64 t102, .int .i64 t103, .slice Ao8 t104.length co8]] rfl tA ?_; (with_reducible refine (spec_ldText.calls k t102 t103 _ _ t104 t107 _ ?side1 ?side2 A5.out).mono ?_); (case side1 => exact sC ((Kd.R_reads' HO106.out).2.2)); (case side2 => exact (Kd.R_reads' HO106.out).2.1); rintro e w9 ⟨rfl, hb⟩; refine ⟨_, rfl, ?_⟩; have n0_ := aK (Kd.R_below HO106.out hb); clear HO106; have HO106 := n0_; clear n0_; replace HB := qs HB hb; (try clear hb)))
  go_ret2
  exact ⟨eW, pH HB⟩
 ·replace c3 := Bool.eq_false_iff.mpr c3
  subst c3
  rw [if_neg (show ¬ (false = true) by decide)] at H
  simp only [Option.some.injEq, Prod.mk.injEq] at H
  obtain ⟨rfl, rfl⟩ := H
  go_enter Tryd.func6, Tryd.ntmps6
  go_wp2_with (first | ((with_reducible refine gate_callee (f := 17) rfl ?_); refine goesL_ (some 5) rfl rfl Tryd.func17 (by kernel_rfl) rfl #[.slice A0 l0.length c0] rfl tA ?_; (with_reducible refine (spec_GoodComb.calls k _ _ l0 false _ ?side1 ?side2 A2.out).mono ?_); (case side1 => exact sC HR0.out); (case side2 => exact HC0.out); rintro e w10 ⟨rfl, hb⟩; refine ⟨_, rfl, ?_⟩; replace HB := qs HB hb; (try clear hb)))
  go_ret2
  exact ⟨eW, pH HB⟩


def impl_combOf.f (a0 : Int) : Option (Int × Int × (List (S45))) := some (a0, 0, ([] : List (S45)))
set_option maxHeartbeats 8000000 in
set_option maxRecDepth 100000 in
theorem impl_combOf.calls (a0 : Int) (r1 : Int) (r2 : Int) (r3 : List (S45)) (w : World) (h : impl_combOf.f a0 = some (r1, r2, r3)) :
  Calls Tryd.prog 35 #[.int .i64 a0] w fun e w' => ∃ v2_ : Value, e = .returned (.agg #[.int .i64 r1, .int .i64 r2, v2_]) ∧ Kd.R k45 45 w' w.heap.size (fun _ => True) v2_ r3 ∧ Below w.heap.size w w' := by
 have hu45 := Tryd.underlying45
 have HB := aK (Below.refl w.heap.size w)
 have H : (some (a0, 0, ([] : List (S45)))) = some (r1, r2, r3) := h
 clear h
 simp only [Option.some.injEq, Prod.mk.injEq] at H
 obtain ⟨rfl, rfl, rfl⟩ := H
 go_enter Tryd.func35, Tryd.ntmps35
 go_wp2_with (first | ((with_reducible refine gate_dst (N := 2) rfl ?_); refine bE (N := 2) (cs := #[.int .i64 0, .int .i64 0, .slice none 0 0]) (t := 45) ?_; intro gb101 hg w2 hbox hb; have GW101 := qw HB hg; have GE101 := qw HB hg; have BK101 := aK hbox; replace HB := qs HB hb; clear hb hbox hg; obtain ⟨hcz3_0, hcz3_1, hcz3_2, hfz3_0, hfz3_1, hfz3_2⟩ := cA3 BK101))
 refine bodyPost_ret (results_cell_row rfl _ _ gb101 45 #[.int .i64 a0, .int .i64 0, .slice none 0 0] (0, 0) _ rfl (p3 BK101) Tryd.underlying45 rfl (by kernel_rfl)) rfl ?_
 exact ⟨_, eW, by first | exact Kd.R_nil _ _ _ _ _ | exact Kd.N_nil _ _ _ _ _ | exact Kd.V_nil _ _ _ _ _ | exact Kd.Q_nil _ _ _ _ _ | exact Kd.S_nil _ _ _ _ _, pH HB⟩

end Go.Proofs.YthfkimbmepmelaaDoor.G

namespace Go.Proofs
open Go.Shelf
def Tryd.lays103_ren : Go.Shelf.Ren := ⟨fun | 103 => 36 | 210 => 49 | 206 => 54 | n => n, fun | 9 => 9 | 4 => 4 | 24 => 26 | 3 => 3 | n => n, fun | n => n⟩
theorem Tryd.lays103 : Go.Proofs.Lays.n103 Tryd.prog Tryd.lays103_ren := {
 mixed := by kernel_rfl
 f103 := Tryd.func36.trans (congrArg some (by kernel_rfl))
 f206 := Tryd.func54.trans (congrArg some (by kernel_rfl))
 f210 := Tryd.func49.trans (congrArg some (by kernel_rfl))
 t3 := Tryd.underlying3
 a3 := Tryd.isAgg3
 z3 := Tryd.sizeOf3
 v3 := Tryd.zeroValue3
 t4 := Tryd.underlying4
 a4 := Tryd.isAgg4
 z4 := Tryd.sizeOf4
 v4 := Tryd.zeroValue4
 t9 := Tryd.underlying9
 a9 := Tryd.isAgg9
 z9 := Tryd.sizeOf9
 v9 := Tryd.zeroValue9
 t24 := Tryd.underlying26
 a24 := Tryd.isAgg26
 z24 := Tryd.sizeOf26
 v24 := Tryd.zeroValue26 }
end Go.Proofs
namespace Go.Proofs.YthfkimbmepmelaaDoor.G
open Go.RowKit Go.Shelf Go.Proofs.YthfkimbmepmelaaDoorW.PrintWords
set_option linter.unusedVariables false

def strings_CutPrefix.f (a0 : ByteArray) (a1 : ByteArray) : Option (ByteArray × Bool) := some (⟨(Lib.trimPrefix a0.data.toList a1.data.toList).toArray⟩, Lib.hasPrefix a0.data.toList a1.data.toList)
theorem strings_CutPrefix.calls (a0 : ByteArray) (a1 : ByteArray) (r1 : ByteArray) (r2 : Bool) (w : World) (h : strings_CutPrefix.f a0 a1 = some (r1, r2)) :
  Calls Tryd.prog 36 #[.string a0, .string a1] w fun e w' => e = .returned (.tuple #[.string r1, .bool r2]) ∧ Below w.heap.size w w' := by
 injection h with h
 simp only [Prod.mk.injEq] at h
 obtain ⟨rfl, rfl⟩ := h
 refine (Any.strings_CutPrefix Tryd.lays103 a0 a1 w).mono ?_
 rintro e w' ⟨rfl, rfl⟩
 exact ⟨rfl, Below.refl _ _⟩
end Go.Proofs.YthfkimbmepmelaaDoor.G

namespace Go.Proofs.YthfkimbmepmelaaDoor.G
open Go.RowKit Go.Shelf Go.Proofs.YthfkimbmepmelaaDoorW.PrintWords
set_option linter.unusedVariables false

def atoiNum (s : ByteArray) : Int := match Lib.atoiAll s.data.toList with
 | .ok v => v
 | .range => Lib.atoiSat s.data.toList
 | _ => 0
def atoiErr (s : ByteArray) : Option Int := match Lib.atoiAll s.data.toList with
 | .ok _ => none
 | .range => some 1
 | _ => some 2
def ErrIs (r : Option Int) (ev : Value) : Prop := (r = none ∧ ev = .nilIface) ∨ (r ≠ none ∧ ∃ t p, ev = .iface t p)
def strconv_Atoi_38.f (a0 : ByteArray) : Option (Int × Option Int) := if a0.size ≤ 281474976710656 then some (atoiNum a0, atoiErr a0) else none
theorem strconv_Atoi_38.calls (a0 : ByteArray) (r1 : Int) (r2 : Option Int) (w : World) (h : strconv_Atoi_38.f a0 = some (r1, r2)) (hE : LibMet w) :
  Calls Tryd.prog 38 #[.string a0] w fun e w' => ∃ ev, e = .returned (.tuple #[.int .i64 r1, ev]) ∧ ErrIs r2 ev ∧ Below w.heap.size w w' := by
 unfold strconv_Atoi_38.f at h
 by_cases c : a0.size ≤ 281474976710656
 case neg => rw [if_neg c] at h; cases h
 rw [if_pos c] at h
 injection h with h
 simp only [Prod.mk.injEq] at h
 obtain ⟨rfl, rfl⟩ := h
 unfold atoiNum atoiErr
 cases ha : Lib.atoiAll a0.data.toList with
 | ok v =>
  refine (Any.strconv_Atoi_ok Tryd.laysC172 a0 (by omega) v ha w).mono ?_
  rintro e w' ⟨rfl, hw⟩
  refine ⟨_, rfl, .inl ⟨rfl, rfl⟩, ?_⟩
  rcases hw with rfl | ⟨t, rfl⟩
  ·exact Below.refl _ _
  ·exact Lib.bytesWorld_below _ _ _
 | range =>
  obtain ⟨tp, p, hv⟩ := hE.range
  refine (Any.strconv_Atoi_range_var Tryd.laysC172 a0 c ha tp p w hv).mono ?_
  rintro e w' ⟨N, rfl, _, _, hb⟩
  exact ⟨_, rfl, .inr ⟨by simp, _, _, rfl⟩, hb⟩
 | _ =>
  obtain ⟨tp, p, hv⟩ := hE.wrong
  refine (Any.strconv_Atoi_syntax_var Tryd.laysC172 a0 c ha tp p w hv).mono ?_
  rintro e w' ⟨N, rfl, _, _, hb⟩
  exact ⟨_, rfl, .inr ⟨by simp, _, _, rfl⟩, hb⟩
theorem strconv_Atoi_38.callsN (a0 : ByteArray) (r1 : Int) (w : World) (h : strconv_Atoi_38.f a0 = some (r1, none)) (hE : LibMet w) :
  Calls Tryd.prog 38 #[.string a0] w fun e w' => e = .returned (.tuple #[.int .i64 r1, .nilIface]) ∧ Below w.heap.size w w' := by
 refine (strconv_Atoi_38.calls a0 r1 none w h hE).mono ?_
 rintro e w' ⟨ev, rfl, he, hb⟩
 rcases he with ⟨_, rfl⟩ | ⟨h, _⟩
 ·exact ⟨rfl, hb⟩
 ·exact absurd rfl h
theorem strconv_Atoi_38.callsS (a0 : ByteArray) (r1 c : Int) (w : World) (h : strconv_Atoi_38.f a0 = some (r1, some c)) (hE : LibMet w) :
  Calls Tryd.prog 38 #[.string a0] w fun e w' => ∃ t p, e = .returned (.tuple #[.int .i64 r1, .iface t p]) ∧ Below w.heap.size w w' := by
 refine (strconv_Atoi_38.calls a0 r1 (some c) w h hE).mono ?_
 rintro e w' ⟨ev, rfl, he, hb⟩
 rcases he with ⟨h, _⟩ | ⟨_, t, p, rfl⟩
 ·cases h
 ·exact ⟨t, p, rfl, hb⟩
end Go.Proofs.YthfkimbmepmelaaDoor.G

namespace Go.Proofs.YthfkimbmepmelaaDoor.G
open Go.RowKit Go.Proofs.YthfkimbmepmelaaDoorW.PrintWords Go.Proofs.YthfkimbmepmelaaDoorW.PrintLast Go.Proofs.YthfkimbmepmelaaDoorW.PrintMore Go.Proofs.YthfkimbmepmelaaDoor.Short
attribute [local go_sem] max2_int min2_int max_two min_two max_three min_three max_four min_four   -- for this text's walks alone
set_option linter.unusedVariables false
set_option linter.unusedSimpArgs false

def impl_combVar.f (a0 : Int) : Option (Int × Int × (List (S45))) := some (1, a0, ([] : List (S45)))
set_option maxHeartbeats 8000000 in
set_option maxRecDepth 100000 in
theorem impl_combVar.calls (a0 : Int) (r1 : Int) (r2 : Int) (r3 : List (S45)) (w : World) (h : impl_combVar.f a0 = some (r1, r2, r3)) :
  Calls Tryd.prog 39 #[.int .i64 a0] w fun e w' => ∃ v2_ : Value, e = .returned (.agg #[.int .i64 r1, .int .i64 r2, v2_]) ∧ Kd.R k45 45 w' w.heap.size (fun _ => True) v2_ r3 ∧ Below w.heap.size w w' := by
 have hu45 := Tryd.underlying45
 have HB := aK (Below.refl w.heap.size w)
 have H : (some (1, a0, ([] : List (S45)))) = some (r1, r2, r3) := h
 clear h
 simp only [Option.some.injEq, Prod.mk.injEq] at H
 obtain ⟨rfl, rfl, rfl⟩ := H
 go_enter Tryd.func39, Tryd.ntmps39
 go_wp2_with (first | ((with_reducible refine gate_dst (N := 2) rfl ?_); refine bE (N := 2) (cs := #[.int .i64 0, .int .i64 0, .slice none 0 0]) (t := 45) ?_; intro gb101 hg w2 hbox hb; have GW101 := qw HB hg; have GE101 := qw HB hg; have BK101 := aK hbox; replace HB := qs HB hb; clear hb hbox hg; obtain ⟨hcz3_0, hcz3_1, hcz3_2, hfz3_0, hfz3_1, hfz3_2⟩ := cA3 BK101))
 refine bodyPost_ret (results_cell_row rfl _ _ gb101 45 #[.int .i64 1, .int .i64 a0, .slice none 0 0] (0, 0) _ rfl (p3 BK101) Tryd.underlying45 rfl (by kernel_rfl)) rfl ?_
 exact ⟨_, eW, by first | exact Kd.R_nil _ _ _ _ _ | exact Kd.N_nil _ _ _ _ _ | exact Kd.V_nil _ _ _ _ _ | exact Kd.Q_nil _ _ _ _ _ | exact Kd.S_nil _ _ _ _ _, pH HB⟩

end Go.Proofs.YthfkimbmepmelaaDoor.G
