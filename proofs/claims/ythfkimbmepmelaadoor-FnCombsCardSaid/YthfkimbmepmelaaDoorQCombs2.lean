/- Part 2 of 6 of the proof that the law FnCombsCardSaid holds: for every input that can be read the call returns true and leaves its arguments as they were; no condition but those each theorem names. -/
import Derived.Lib.SliceRun
import Derived.Test.YthfkimbmepmelaaDoorQCombsW1
import Derived.Test.YthfkimbmepmelaaDoorQCombs1
namespace Go.Proofs.YthfkimbmepmelaaDoor.G
open Go.RowKit Go.Proofs.YthfkimbmepmelaaDoorW.PrintWords Go.Proofs.YthfkimbmepmelaaDoorW.PrintLast Go.Proofs.YthfkimbmepmelaaDoorW.PrintMore Go.Proofs.YthfkimbmepmelaaDoor.Short
attribute [local go_sem] max2_int min2_int max_two min_two max_three min_three max_four min_four   -- for this text's walks alone
set_option linter.unusedVariables false
set_option linter.unusedSimpArgs false

theorem Kd.V_away79 {α : Type} {d : Kd α} {e : Nat} {W : World} {base : Nat} {ok : Nat → Prop} {v : Value} {xs : List α} {g : Nat} (h : Kd.V d e W base ok v xs) (hok : ∀ k, ok k → k ≠ g) (h0 : decide (0 < xs.length) = true := by assumption) (hs : 0 < d.sz := by decide) : some g ≠ v.ownBlock := by
 obtain ⟨A, c, rfl, hl, hf⟩ := h
 have hp : 0 < xs.length := of_decide_eq_true h0
 intro hg
 have hC := Kd.F_now hf
 obtain ⟨a, rfl, hcell⟩ := hC.2.2 hp
 have hga : g = a.block := by simpa [Value.ownBlock] using hg
 -- a world in which that block holds nothing
 have key : ∀ (W' : World), d.C W' (some a) xs.length xs → ∃ (n : Nat) (u : Value), W'.cell? (a.add n) = some u := by
  intro W' hC'
  obtain ⟨a', ha', hcell'⟩ := hC'.2.2 hp
  injection ha' with ha'
  subst ha'
  obtain ⟨c0, hc0, _, hcc⟩ := hcell' 0 (xs[0]) (by simp [hp])
  exact ⟨0 * d.sz + 0, c0[0]'(by omega), hcc 0 _ (by simp)⟩
 obtain ⟨n0, u0, hu0⟩ := key W hC
 have hlt : a.block < W.heap.size := by
  have := World.block_lt_of_cell? W _ hu0
  rwa [add_block] at this
 let W' : World := { W with heap := W.heap.setIfInBounds a.block (.pending #[] 0) }
 have hC' : d.C W' (some a) xs.length xs := hf W' (fun k hk _ => by
  have : k ≠ a.block := hga ▸ hok k hk
  show (W.heap.setIfInBounds a.block (.pending #[] 0))[k]? = _
  rw [Array.getElem?_setIfInBounds_ne (Ne.symm this)])
 obtain ⟨n1, u1, hu1⟩ := key W' hC'
 unfold World.cell? at hu1
 rw [add_block] at hu1
 have e : W'.heap[a.block]? = some (.pending #[] 0) := by
  show (W.heap.setIfInBounds a.block (.pending #[] 0))[a.block]? = _
  simp [hlt]
 rw [e] at hu1
 simp at hu1
theorem Kd.V_block {α : Type} {d : Kd α} {e n c : Nat} {W : World} {base : Nat} {ok : Nat → Prop} {ad : Addr} {xs : List α} (h : Kd.V d e W base ok (.slice (some ad) n c) xs) (h0 : decide (0 < xs.length) = true := by assumption) (hs : 0 < d.sz := by decide) : ok ad.block :=
 Classical.byContradiction fun hn => Kd.V_away79 (g := ad.block) h (fun k hk e => hn (e ▸ hk)) h0 hs rfl
theorem Kd.V_lt {α : Type} {d : Kd α} {e n c : Nat} {W : World} {base : Nat} {ok : Nat → Prop} {ad : Addr} {xs : List α} (h : Kd.V d e W base ok (.slice (some ad) n c) xs) (h0 : decide (0 < xs.length) = true := by assumption) (hs : 0 < d.sz := by decide) : ad.block < W.heap.size := by
 obtain ⟨a, ha, hcell⟩ := (Kd.V_reads' h).2.2.2.2 (of_decide_eq_true h0)
 injection ha with ha
 subst ha
 obtain ⟨c0, hc0, _, hcc⟩ := hcell 0 (xs[0]'(of_decide_eq_true h0)) (by simp [of_decide_eq_true h0])
 have hu := hcc 0 (c0[0]'(by omega)) (by simp)
 have := World.block_lt_of_cell? W _ hu
 rwa [add_block] at this
mutual
def impl_comb_redex.l0 : Nat → List (S45) → Int → Int → List (S45) → Option (Int × Int × (List (S45)) × Bool)
 | 0, _, _, _, _ => none
 | k + 1, x4, x107000, x107001, x107002 => if x107000 = 2 then (if 1 < (x107002.length : Int) then (if x4.length < 3518437208883 then (if 0 < (x107002.length : Int) then (impl_comb_redex.l0 k (x4 ++ [(⟨(rd_T45 x107002 1).f0, (rd_T45 x107002 1).f1, (rd_T45 x107002 1).f2⟩ : S45)]) ((rd_T45 x107002 0).f0) ((rd_T45 x107002 0).f1) ((rd_T45 x107002 0).f2)) else (none)) else (none)) else (none)) else ((impl_comb_52.f x4).bind fun t112 => (if x107000 = 5 then (impl_comb_redex.j1 k t112 ((t112.length : Int) == 1) x107000 x107001 x107002) else (impl_comb_redex.j1 k t112 false x107000 x107001 x107002)))
def impl_comb_redex.j1 : Nat → List (S45) → Bool → Int → Int → List (S45) → Option (Int × Int × (List (S45)) × Bool)
 | 0, _, _, _, _, _ => none
 | k + 1, x23, x24, x107000, x107001, x107002 => if x24 = true then (if 0 < (x23.length : Int) then (some ((rd_T45 x23 0).f0, (rd_T45 x23 0).f1, (rd_T45 x23 0).f2, true)) else (none)) else (if x107000 = 4 then (impl_comb_redex.j2 k x23 ((x23.length : Int) == 2) x107000 x107001 x107002) else (impl_comb_redex.j2 k x23 false x107000 x107001 x107002))
def impl_comb_redex.j2 : Nat → List (S45) → Bool → Int → Int → List (S45) → Option (Int × Int × (List (S45)) × Bool)
 | 0, _, _, _, _, _ => none
 | k + 1, x23, x36, x107000, x107001, x107002 => if x36 = true then (if 0 < (x23.length : Int) then (some ((rd_T45 x23 0).f0, (rd_T45 x23 0).f1, (rd_T45 x23 0).f2, true)) else (none)) else (if x107000 = 3 then (impl_comb_redex.j3 k x23 ((x23.length : Int) == 3)) else (impl_comb_redex.j3 k x23 false))
def impl_comb_redex.j3 : Nat → List (S45) → Bool → Option (Int × Int × (List (S45)) × Bool)
 | 0, _, _ => none
 | k + 1, x23, x48 => if x48 = true then (if 0 < (x23.length : Int) then (if 2 < (x23.length : Int) then ((impl_combApp.f ((rd_T45 x23 0).f0) ((rd_T45 x23 0).f1) ((rd_T45 x23 0).f2) ((rd_T45 x23 2).f0) ((rd_T45 x23 2).f1) ((rd_T45 x23 2).f2)).bind fun bt119 => (if 1 < (x23.length : Int) then ((impl_combApp.f ((rd_T45 x23 1).f0) ((rd_T45 x23 1).f1) ((rd_T45 x23 1).f2) ((rd_T45 x23 2).f0) ((rd_T45 x23 2).f1) ((rd_T45 x23 2).f2)).bind fun bt126 => ((impl_combApp.f bt119.1 bt119.2.1 bt119.2.2 bt126.1 bt126.2.1 bt126.2.2).bind fun bt131 => (some (bt131.1, bt131.2.1, bt131.2.2, true)))) else (none))) else (none)) else (none)) else (some (0, 0, ([] : List (S45)), false))
end
def impl_comb_redex.f (k : Nat) (a0_0 : Int) (a0_1 : Int) (l0_2 : List (S45)) : Option (Int × Int × (List (S45)) × Bool) := impl_comb_redex.l0 k (([] : List (S45))) a0_0 a0_1 l0_2
def impl_comb_redex.T3 : Bool × List (List Nat × List Nat) := (true, [([], []), ([], []), ([1], [1]), ([2], [2]), ([3], [3]), ([4], [4]), ([0, 5], [0, 5]), ([], []), ([7], [7]), ([8], [8]), ([9], [9]), ([6, 6, 0, 1, 2, 3, 4, 5, 6], [0, 6]), ([10, 11, 0, 1, 2, 3, 4, 5, 6, 7, 8, 9, 10, 11], [10])])
def impl_comb_redex.B3 : List Nat := [0, 0, 2, 6, 14, 30, 63, 0, 128, 384, 896, 127, 4095]
theorem impl_comb_redex.tab3 : rtab .any (opsOf Tryd.f41 3) = impl_comb_redex.T3 := by kernel_rfl
theorem impl_comb_redex.bits3 : waitsOk impl_comb_redex.T3.2 impl_comb_redex.B3 = true := by kernel_rfl
def impl_comb_redex.T10 : Bool × List (List Nat × List Nat) := (true, [([], []), ([0], [0]), ([1], [1]), ([], []), ([3], [3]), ([4], [4]), ([2, 5], [2, 5]), ([], []), ([7], [7]), ([8], [8]), ([], []), ([10], [10]), ([11], [11]), ([9, 12, 6], [9, 12]), ([6, 13, 13], [6, 13]), ([14, 14, 0, 1, 2, 3, 4, 5, 6, 7, 8, 9, 10, 11, 12, 13, 14], [14]), ([15, 0, 1, 2, 3, 4, 5, 6, 7, 8, 9, 10, 11, 12, 13, 14, 15], [])])
def impl_comb_redex.B10 : List Nat := [0, 1, 3, 0, 8, 24, 63, 0, 128, 384, 0, 1024, 3072, 8191, 16383, 32767, 65535]
theorem impl_comb_redex.tab10 : rtab .any (opsOf Tryd.f41 10) = impl_comb_redex.T10 := by kernel_rfl
theorem impl_comb_redex.bits10 : waitsOk impl_comb_redex.T10.2 impl_comb_redex.B10 = true := by kernel_rfl
set_option maxHeartbeats 8000000 in
set_option maxRecDepth 100000 in
theorem impl_comb_redex.calls (k : Nat) (a0_0 : Int) (a0_1 : Int) (P0_2_ : Nat → Prop) (A0_2 : Option Addr) (c0_2 : Nat) (l0_2 : List (S45)) (r1 : Int) (r2 : Int) (r3 : List (S45)) (r4 : Bool) (w : World) (hs0_2 : Kd.V k45 45 w w.heap.size (fun k_ => P0_2_ k_) (.slice A0_2 l0_2.length c0_2) l0_2) (h : impl_comb_redex.f k a0_0 a0_1 l0_2 = some (r1, r2, r3, r4)) :
  Calls Tryd.prog 41 #[.agg #[.int .i64 a0_0, .int .i64 a0_1, .slice A0_2 l0_2.length c0_2]] w fun e w' => ∃ v2_ : Value, e = .returned (.tuple #[.agg #[.int .i64 r1, .int .i64 r2, v2_], .bool r4]) ∧ Kd.V k45 45 w' w.heap.size (fun k_ => (P0_2_ k_ ∨ w.heap.size ≤ k_)) v2_ r3 ∧ Below w.heap.size w w' := by
 have hu58 := Tryd.underlying45
 have HO0_2 := aK (show Kd.V k45 45 w w.heap.size (fun k_ => (P0_2_ k_ ∨ w.heap.size ≤ k_)) (.slice A0_2 l0_2.length c0_2) l0_2 from Kd.V_mono hs0_2 (fun k_ hk => .inl hk))
 have HB := aK (Below.refl w.heap.size w)
 have H : (impl_comb_redex.l0 k (([] : List (S45))) a0_0 a0_1 l0_2) = some (r1, r2, r3, r4) := h
 clear h
 obtain ⟨y103, hy103⟩ : ∃ y_ : List (S45), y_ = (([] : List (S45))) := ⟨_, rfl⟩
 replace H : (impl_comb_redex.l0 k y103 a0_0 a0_1 l0_2) = some (r1, r2, r3, r4) := by first | (rw [hy103]; with_reducible exact H) | (have H2_ := (Option.bind_some _ _).symm.trans H; rw [hy103]; with_reducible exact H2_) | (have H2_ := (Option.bind_some _ _).symm.trans H; with_reducible exact H2_) | with_reducible exact H | (rw [hy103]; exact H) | exact H
 have Ny103 := aK hy103
 clear hy103
 have H' := aK H
 clear H
 go_enter Tryd.func41, Tryd.ntmps41
 try go_wp2_with (first | ((with_reducible refine gate_dst (N := 1) rfl ?_); (try (refine gate_guard (by rfl) ?_; dsimp only)); refine bE (N := 1) (cs := #[.int .i64 a0_0, .int .i64 a0_1, .slice A0_2 l0_2.length c0_2]) (t := 45) ?_; intro gb101 hg w2 hbox hb; have GW101 := qw HB hg; have GE101 := qw HB hg; replace HO0_2 := qv HO0_2 hg hb; have BK101 := aK hbox; replace HB := qs HB hb; clear hb hbox hg) | ((with_reducible refine gate_dst (N := 2) rfl ?_); (try (refine gate_guard (by rfl) ?_; dsimp only)); refine bE (N := 2) (cs := #[.int .i64 0, .int .i64 0, .slice none 0 0]) (t := 45) ?_; intro gb102 hg w3 hbox hb; have GW102 := qw HB hg; have GE102 := qw HB hg; have NB101_102 := ql BK101 hg; have NB102_101 := qg BK101 hg; replace HO0_2 := qv HO0_2 hg hb; replace BK101 := qb BK101 hb; have BK102 := aK hbox; replace HB := qs HB hb; clear hb hbox hg))
 have n_ := aJ (aK (Kd.V_drew HO0_2.out)) (aJ (aK (blk_drew BK101.out)) (aJ (aK (blk_drew BK102.out)) (aK (below_drew1 HB.out))))
 clear HO0_2 BK101 BK102 HB
 obtain ⟨HO0_2, BK101, BK102, HB⟩ := n_
 refine start_ (n := 5) (S := fun w' => w'.cell? ⟨gb101, 0, none⟩ = some (.int .i64 a0_0) ∧ w'.cell? ⟨gb101, 1, none⟩ = some (.int .i64 a0_1) ∧ w'.cell? ⟨gb101, 2, none⟩ = some (.slice A0_2 l0_2.length c0_2)) (ds := []) (bs 0 5) (by kernel_rfl) rfl rfl ⟨(blk_cell BK101.out 0).trans rfl, (blk_cell BK101.out 1).trans rfl, (blk_cell BK101.out 2).trans rfl⟩ (fun hHeld => ?_)
 generalize w3.drew = w4 at HO0_2 BK101 BK102 HB hHeld ⊢
 refine take_ (i := 1) (N := some 7) (v := ?_) (a' := ?_) #[false, true, false, false, false] rfl rfl (by kernel_rfl) (fun _ _ _ h => h) (Or.inl ⟨by rfl, ?_⟩) hHeld ?_ ?_
 rotate_left
 ·rintro w' ⟨s0, s1, s2⟩
  go_simp
  with_reducible rfl
 rotate_left
 ·simp only [sP, i64_w, i32_w]
  rfl
 refine join_ (σ := Value × Nat) 2 (bs 3 2) (fun s_ => [(6, s_.1), (5, .pointer (some ⟨s_.2, 0, none⟩))]) (fun s_ w' => (w'.cell? ⟨gb101, 0, none⟩ = some (.int .i64 a0_0) ∧ w'.cell? ⟨gb101, 1, none⟩ = some (.int .i64 a0_1) ∧ w'.cell? ⟨gb101, 2, none⟩ = some (.slice A0_2 l0_2.length c0_2)) ∧ (Kd.V k45 45 w' w.heap.size (fun k_ => (P0_2_ k_ ∨ w.heap.size ≤ k_) ∧ some k_ ≠ (s_.1 : Value).ownBlock ∧ k_ ≠ gb101 ∧ k_ ≠ gb102 ∧ k_ ≠ s_.2) (.slice A0_2 l0_2.length c0_2) l0_2) ∧ (Kd.N k45 45 w' w.heap.size (fun k_ => (P0_2_ k_ ∨ w.heap.size ≤ k_) ∧ k_ ≠ gb101 ∧ k_ ≠ gb102 ∧ k_ ≠ s_.2) s_.1 y103) ∧ (w'.heap[gb101]? = some (.cells #[.int .i64 a0_0, .int .i64 a0_1, .slice A0_2 l0_2.length c0_2] 45 (0, 0))) ∧ (w'.heap[gb102]? = some (.cells #[.int .i64 0, .int .i64 0, .slice none 0 0] 45 (0, 0))) ∧ (w'.heap[s_.2]? = some (.cells #[.int .i64 0, .int .i64 0, .slice none 0 0] 45 (0, 0))) ∧ (w.heap.size ≤ s_.2) ∧ (w.heap.size ≤ s_.2) ∧ (gb101 ≠ s_.2) ∧ (s_.2 ≠ gb101) ∧ (gb102 ≠ s_.2) ∧ (s_.2 ≠ gb102) ∧ (Below w.heap.size w w')) ?_ ?_
 rotate_left
 ·intro hCont
  refine two_ (i := 0) (j := 2) (Ni := some 6) (Nj := some 5) (bs 2 3) #[false, true, true, false, false] rfl rfl rfl rfl (by kernel_rfl) (by decide) (by decide) (fun K hK => ?_) (fun K hK => ?_)
  ·skip
   refine Kd.N_lit_step k45 _ 45 ?hg (N' := 6) ?hd (xs := ([] : List (S45))) (inner := []) (ok := (fun k_ => (P0_2_ k_ ∨ w.heap.size ≤ k_) ∧ k_ ≠ gb101 ∧ k_ ≠ gb102)) (okp := (fun k_ => (P0_2_ k_ ∨ w.heap.size ≤ k_) ∧ k_ ≠ gb101 ∧ k_ ≠ gb102)) ?hr ?hp (fun _ hk => hk) ((show ∀ k_, w4.heap.size ≤ k_ → (fun k_ => (P0_2_ k_ ∨ w.heap.size ≤ k_) ∧ k_ ≠ gb101 ∧ k_ ≠ gb102) k_ from fun k_ hk => ⟨(.inr (Nat.le_trans (below_size (pH HB)) hk)), Kd.freshB BK101.out k_ hk, Kd.freshB BK102.out k_ hk⟩) _ (Nat.le_refl _)) (Below.refl _ _) (Nat.le_refl _) (by simp) ?_; (case hd => rfl); (case hg => rfl); (case hr => go_simp); (case hp => exact (Reps.none _ _))
   intro v104 w5 ho6 hb hg_ hnew_
   clear hg_ hnew_
   (first | rw [← Ny103.out] at ho6 | (simp only [Int.reduceToNat] at ho6; rw [← Ny103.out] at ho6))
   have n_ := aJ (aK (Kd.V_elder' HO0_2.out (Kd.N_base ho6) hb)) (aJ (aK (Kd.N_lower ho6 (below_size (pH HB)))) (aJ (aK (blk_below BK101.out hb)) (aJ (aK (blk_below BK102.out hb)) (aK (below_step (pH HB) hb)))))
   clear HO0_2 BK101 BK102 HB
   obtain ⟨HO0_2, HO105, BK101, BK102, HB⟩ := n_
   clear hb ho6
   refine hK.out _ _ ⟨(blk_cell BK101.out 0).trans rfl, (blk_cell BK101.out 1).trans rfl, (blk_cell BK101.out 2).trans rfl⟩ (fun hHeld => ?_)
   clear hK K
   refine norm_ (a' := ?_) ?_ ?_
   rotate_left
   ·show Act.put _ (some 6) _ = _
    simp only [sP, i64_w, i32_w]
    rfl
   refine one_ (i := 2) (N := some 5) (bs 3 2) rfl rfl (by kernel_rfl) (by decide) (fun K hK => ?_)
   refine box_step ?hg (N := 5) ?hd (cs := #[.int .i64 0, .int .i64 0, .slice none 0 0]) (t := 45) ?hr ?_; (case hd => rfl); (case hg => rfl); (case hr => go_simp)
   intro gb106 hg w7 hbox hb
   have n_ := aJ (aK (Kd.V_below (Kd.V_elderB HO0_2.out gb106 (Nat.le_of_eq hg.symm)) hb)) (aJ (aK (Kd.N_below (Kd.N_elderB HO105.out gb106 (Nat.le_of_eq hg.symm)) hb)) (aJ (aK (blk_below BK101.out hb)) (aJ (aK (blk_below BK102.out hb)) (aJ (aK (below_step (pH HB) hb)) (aJ (aK (hbox)) (aJ (aK ((by rw [hg]; exact (below_size (pH HB)) : w.heap.size ≤ gb106))) (aJ (aK ((by rw [hg]; exact (below_size (pH HB)) : w.heap.size ≤ gb106))) (aJ (aK ((by rw [hg]; exact Nat.ne_of_lt (blk_lt BK101.out) : gb101 ≠ gb106))) (aJ (aK ((by rw [hg]; exact Nat.ne_of_gt (blk_lt BK101.out) : gb106 ≠ gb101))) (aJ (aK ((by rw [hg]; exact Nat.ne_of_lt (blk_lt BK102.out) : gb102 ≠ gb106))) (aK ((by rw [hg]; exact Nat.ne_of_gt (blk_lt BK102.out) : gb106 ≠ gb102)))))))))))))
   clear HO0_2 HO105 BK101 BK102 HB
   obtain ⟨HO0_2, HO105, BK101, BK102, HB, BK106, GW106, GE106, NB101_106, NB106_101, NB102_106, NB106_102⟩ := n_
   clear hb hbox hg
   refine hK.out _ _ ⟨(blk_cell BK101.out 0).trans rfl, (blk_cell BK101.out 1).trans rfl, (blk_cell BK101.out 2).trans rfl⟩ (fun hHeld => ?_)
   clear hK K
   refine norm_ (a' := ?_) ?_ ?_
   rotate_left
   ·show Act.put _ (some 5) _ = _
    simp only [sP, i64_w, i32_w]
    rfl
   exact norm_ (by simp only [putAll, Act.put, List.setIfInBounds_toArray, List.set_cons_zero, List.set_cons_succ]) (hCont (v104, gb106) _ ⟨hHeld, (by (with_reducible repeat (first | apply Kd.V_alloc | apply Kd.V_drewN | apply Kd.V_drew)); exact Kd.V_mono HO0_2.out (fun _ hk => ⟨hk.1.1.1.1, ⟨hk.1.2, ⟨hk.1.1.1.2, ⟨hk.1.1.2, hk.2⟩⟩⟩⟩)), (by (with_reducible repeat (first | apply Kd.N_alloc | apply Kd.N_drewN | apply Kd.N_drew)); exact Kd.N_mono HO105.out (fun _ hk => ⟨hk.1.1, ⟨hk.1.2.1, ⟨hk.1.2.2, hk.2⟩⟩⟩)), BK101.out, BK102.out, BK106.out, GW106.out, GE106.out, NB101_106.out, NB106_101.out, NB102_106.out, NB106_102.out, (pH HB)⟩)
  ·skip
   refine box_step ?hg (N := 5) ?hd (cs := #[.int .i64 0, .int .i64 0, .slice none 0 0]) (t := 45) ?hr ?_; (case hd => rfl); (case hg => rfl); (case hr => go_simp)
   intro gb106 hg w5 hbox hb
   have n_ := aJ (aK (Kd.V_below (Kd.V_elderB HO0_2.out gb106 (Nat.le_of_eq hg.symm)) hb)) (aJ (aK (blk_below BK101.out hb)) (aJ (aK (blk_below BK102.out hb)) (aJ (aK (below_step (pH HB) hb)) (aJ (aK (hbox)) (aJ (aK ((by rw [hg]; exact (below_size (pH HB)) : w.heap.size ≤ gb106))) (aJ (aK ((by rw [hg]; exact (below_size (pH HB)) : w.heap.size ≤ gb106))) (aJ (aK ((by rw [hg]; exact Nat.ne_of_lt (blk_lt BK101.out) : gb101 ≠ gb106))) (aJ (aK ((by rw [hg]; exact Nat.ne_of_gt (blk_lt BK101.out) : gb106 ≠ gb101))) (aJ (aK ((by rw [hg]; exact Nat.ne_of_lt (blk_lt BK102.out) : gb102 ≠ gb106))) (aK ((by rw [hg]; exact Nat.ne_of_gt (blk_lt BK102.out) : gb106 ≠ gb102))))))))))))
   clear HO0_2 BK101 BK102 HB
   obtain ⟨HO0_2, BK101, BK102, HB, BK106, GW106, GE106, NB101_106, NB106_101, NB102_106, NB106_102⟩ := n_
   clear hb hbox hg
   refine hK.out _ _ ⟨(blk_cell BK101.out 0).trans rfl, (blk_cell BK101.out 1).trans rfl, (blk_cell BK101.out 2).trans rfl⟩ (fun hHeld => ?_)
   clear hK K
   refine norm_ (a' := ?_) ?_ ?_
   rotate_left
   ·show Act.put _ (some 5) _ = _
    simp only [sP, i64_w, i32_w]
    rfl
   refine one_ (i := 0) (N := some 6) (bs 3 2) rfl rfl (by kernel_rfl) (by decide) (fun K hK => ?_)
   refine Kd.N_lit_step k45 _ 45 ?hg (N' := 6) ?hd (xs := ([] : List (S45))) (inner := []) (ok := (fun k_ => (P0_2_ k_ ∨ w.heap.size ≤ k_) ∧ k_ ≠ gb101 ∧ k_ ≠ gb102 ∧ k_ ≠ gb106)) (okp := (fun k_ => (P0_2_ k_ ∨ w.heap.size ≤ k_) ∧ k_ ≠ gb101 ∧ k_ ≠ gb102 ∧ k_ ≠ gb106)) ?hr ?hp (fun _ hk => hk) ((show ∀ k_, w5.heap.size ≤ k_ → (fun k_ => (P0_2_ k_ ∨ w.heap.size ≤ k_) ∧ k_ ≠ gb101 ∧ k_ ≠ gb102 ∧ k_ ≠ gb106) k_ from fun k_ hk => ⟨(.inr (Nat.le_trans (below_size (pH HB)) hk)), Kd.freshB BK101.out k_ hk, Kd.freshB BK102.out k_ hk, Kd.freshB BK106.out k_ hk⟩) _ (Nat.le_refl _)) (Below.refl _ _) (Nat.le_refl _) (by simp) ?_; (case hd => rfl); (case hg => rfl); (case hr => go_simp); (case hp => exact (Reps.none _ _))
   intro v104 w6 ho7 hb hg_ hnew_
   clear hg_ hnew_
   (first | rw [← Ny103.out] at ho7 | (simp only [Int.reduceToNat] at ho7; rw [← Ny103.out] at ho7))
   have n_ := aJ (aK (Kd.V_elder' HO0_2.out (Kd.N_base ho7) hb)) (aJ (aK (Kd.N_lower ho7 (below_size (pH HB)))) (aJ (aK (blk_below BK101.out hb)) (aJ (aK (blk_below BK102.out hb)) (aJ (aK (blk_below BK106.out hb)) (aK (below_step (pH HB) hb))))))
   clear HO0_2 BK101 BK102 BK106 HB
   obtain ⟨HO0_2, HO105, BK101, BK102, BK106, HB⟩ := n_
   clear hb ho7
   refine hK.out _ _ ⟨(blk_cell BK101.out 0).trans rfl, (blk_cell BK101.out 1).trans rfl, (blk_cell BK101.out 2).trans rfl⟩ (fun hHeld => ?_)
   clear hK K
   refine norm_ (a' := ?_) ?_ ?_
   rotate_left
   ·show Act.put _ (some 6) _ = _
    simp only [sP, i64_w, i32_w]
    rfl
   exact norm_ (by simp only [putAll, Act.put, List.setIfInBounds_toArray, List.set_cons_zero, List.set_cons_succ]) (hCont (v104, gb106) _ ⟨hHeld, (by (with_reducible repeat (first | apply Kd.V_alloc | apply Kd.V_drewN | apply Kd.V_drew)); exact Kd.V_mono HO0_2.out (fun _ hk => ⟨hk.1.1.1.1, ⟨hk.2, ⟨hk.1.1.1.2, ⟨hk.1.1.2, hk.1.2⟩⟩⟩⟩)), HO105.out, BK101.out, BK102.out, BK106.out, GW106.out, GE106.out, NB101_106.out, NB106_101.out, NB102_106.out, NB106_102.out, (pH HB)⟩)
 rintro ⟨v104, gb106⟩ w8 ⟨hS_, h0_, h1_, h2_, h3_, h4_, h5_, h6_, h7_, h8_, h9_, h10_, h11_⟩
 have n_ := aJ (show Aside0 (Kd.V k45 45 w8 w.heap.size (fun k_ => (P0_2_ k_ ∨ w.heap.size ≤ k_) ∧ some k_ ≠ (v104 : Value).ownBlock ∧ k_ ≠ gb101 ∧ k_ ≠ gb102 ∧ k_ ≠ gb106) (.slice A0_2 l0_2.length c0_2) l0_2) from ⟨h0_⟩) (aJ (show Aside0 (Kd.N k45 45 w8 w.heap.size (fun k_ => (P0_2_ k_ ∨ w.heap.size ≤ k_) ∧ k_ ≠ gb101 ∧ k_ ≠ gb102 ∧ k_ ≠ gb106) v104 y103) from ⟨h1_⟩) (aJ (show Aside0 (w8.heap[gb101]? = some (.cells #[.int .i64 a0_0, .int .i64 a0_1, .slice A0_2 l0_2.length c0_2] 45 (0, 0))) from ⟨h2_⟩) (aJ (show Aside0 (w8.heap[gb102]? = some (.cells #[.int .i64 0, .int .i64 0, .slice none 0 0] 45 (0, 0))) from ⟨h3_⟩) (aJ (show Aside0 (w8.heap[gb106]? = some (.cells #[.int .i64 0, .int .i64 0, .slice none 0 0] 45 (0, 0))) from ⟨h4_⟩) (aJ (show Aside0 (w.heap.size ≤ gb106) from ⟨h5_⟩) (aJ (show Aside0 (w.heap.size ≤ gb106) from ⟨h6_⟩) (aJ (show Aside0 (gb101 ≠ gb106) from ⟨h7_⟩) (aJ (show Aside0 (gb106 ≠ gb101) from ⟨h8_⟩) (aJ (show Aside0 (gb102 ≠ gb106) from ⟨h9_⟩) (aJ (show Aside0 (gb106 ≠ gb102) from ⟨h10_⟩) (show Aside0 (Below w.heap.size w w8) from ⟨h11_⟩)))))))))))
 clear HO0_2 BK101 BK102 HB h0_ h1_ h2_ h3_ h4_ h5_ h6_ h7_ h8_ h9_ h10_ h11_
 obtain ⟨HO0_2, HO105, BK101, BK102, BK106, GW106, GE106, NB101_106, NB106_101, NB102_106, NB106_102, HB⟩ := n_
 have hHeld : w8.cell? ⟨gb101, 0, none⟩ = some (.int .i64 a0_0) ∧ w8.cell? ⟨gb101, 1, none⟩ = some (.int .i64 a0_1) ∧ w8.cell? ⟨gb101, 2, none⟩ = some (.slice A0_2 l0_2.length c0_2) := hS_
 refine norm_ (a' := ?_) ?_ ?_
 rotate_left
 ·simp only [putAll, Act.put, List.setIfInBounds_toArray, List.set_cons_zero, List.set_cons_succ]
  rfl
 refine pS (i := 3) (N := some 4) (bs 4 1) (by kernel_rfl) ?_
 refine one_ (i := 4) (N := none) (bs 5 0) rfl rfl (by kernel_rfl) (by decide) (fun K hK => ?_)
 have hs9 : w8.cell? ⟨gb106, 0, none⟩ = some (.int .i64 0) := (blk_cell BK106.out 0).trans rfl
 have hfs9 := blk_frozen BK106.out 0
 have hns9_0 := NB101_106.out
 have hns9_1 := NB102_106.out
 have hms9_0 := NB106_101.out
 have hms9_1 := NB106_102.out
 have hs10 : w8.cell? ⟨gb106, 1, none⟩ = some (.int .i64 0) := (blk_cell BK106.out 1).trans rfl
 have hfs10 := blk_frozen BK106.out 1
 have hns10_0 := NB101_106.out
 have hns10_1 := NB102_106.out
 have hms10_0 := NB106_101.out
 have hms10_1 := NB106_102.out
 have hs11 : w8.cell? ⟨gb106, 2, none⟩ = some (.slice none 0 0) := (blk_cell BK106.out 2).trans rfl
 have hfs11 := blk_frozen BK106.out 2
 have hns11_0 := NB101_106.out
 have hns11_1 := NB102_106.out
 have hms11_0 := NB106_101.out
 have hms11_1 := NB106_102.out
 refine skip_ (w1 := ?_) (by rfl) rfl ?_ ?_
 rotate_left
 ·go_simp
  rfl
 refine hK.out _ _ ⟨(cF3 NB101_106.out (hHeld.1)), (cF3 NB101_106.out (hHeld.2.1)), (cF3 NB101_106.out (hHeld.2.2))⟩ (fun hHeld => ?_)
 clear hK K
 refine done_ (by kernel_rfl) ?_
 try go_wp2
 go_loopg [4] k (fun kq v4 w' => ∃ (x4_1 : List (S45)) (x107000_1 : Int) (x107001_1 : Int) (x107002_1 : List (S45)) (u107002 : Value), Aside0 (impl_comb_redex.l0 kq x4_1 x107000_1 x107001_1 x107002_1 = some (r1, r2, r3, r4)) ∧ Aside0 (kq ≤ k) ∧ Aside0 (Kd.N k45 45 w' w.heap.size (fun k_ => (P0_2_ k_ ∨ w.heap.size ≤ k_) ∧ k_ ≠ gb101 ∧ k_ ≠ gb102 ∧ k_ ≠ gb106) v4 x4_1) ∧ Aside0 (Kd.V k45 45 w' w.heap.size (fun k_ => (P0_2_ k_ ∨ w.heap.size ≤ k_) ∧ some k_ ≠ (v4 : Value).ownBlock ∧ k_ ≠ gb101 ∧ k_ ≠ gb102 ∧ k_ ≠ gb106) (.slice A0_2 l0_2.length c0_2) l0_2) ∧ Aside0 (Kd.V k45 45 w' w.heap.size (fun k_ => (P0_2_ k_ ∨ w.heap.size ≤ k_) ∧ some k_ ≠ (v4 : Value).ownBlock ∧ k_ ≠ gb101 ∧ k_ ≠ gb102 ∧ k_ ≠ gb106) u107002 x107002_1) ∧ Aside0 (w'.heap[gb101]? = some (.cells #[.int .i64 a0_0, .int .i64 a0_1, (.slice A0_2 l0_2.length c0_2)] 45 (0, 0))) ∧ Aside0 (w'.heap[gb102]? = some (.cells #[.int .i64 0, .int .i64 0, (.slice none 0 0)] 45 (0, 0))) ∧ Aside0 (w'.heap[gb106]? = some (.cells #[.int .i64 x107000_1, .int .i64 x107001_1, u107002] 45 (0, 0))) ∧ Aside0 (Below w.heap.size w w'))
 case atStart => exact ⟨(y103), (a0_0), (a0_1), (l0_2), (.slice A0_2 l0_2.length c0_2), H', ⟨Nat.le_refl _⟩, ⟨by (with_reducible repeat (first | apply Kd.N_alloc | apply Kd.N_drewN | apply Kd.N_drew)); exact Kd.N_mono (nF3 gb106 (Kd.N_mono HO105.out (fun k_ hk => (⟨hk, hk.2.2.2⟩ : _ ∧ k_ ≠ gb106))) (fun _ hk => hk.2)) (fun _ hk => ⟨hk.1.1, ⟨hk.1.2.1, ⟨hk.1.2.2.1, hk.1.2.2.2⟩⟩⟩)⟩, ⟨by (with_reducible repeat (first | apply Kd.V_alloc | apply Kd.V_drewN | apply Kd.V_drew)); exact Kd.V_mono (vF3 gb106 (Kd.V_mono HO0_2.out (fun k_ hk => (⟨hk, hk.2.2.2.2⟩ : _ ∧ k_ ≠ gb106))) (fun _ hk => hk.2)) (fun _ hk => ⟨hk.1.1, ⟨hk.1.2.1, ⟨hk.1.2.2.1, ⟨hk.1.2.2.2.1, hk.1.2.2.2.2⟩⟩⟩⟩)⟩, ⟨by (with_reducible repeat (first | apply Kd.V_alloc | apply Kd.V_drewN | apply Kd.V_drew)); exact Kd.V_mono (vF3 gb106 (Kd.V_mono HO0_2.out (fun k_ hk => (⟨hk, hk.2.2.2.2⟩ : _ ∧ k_ ≠ gb106))) (fun _ hk => hk.2)) (fun _ hk => ⟨hk.1.1, ⟨hk.1.2.1, ⟨hk.1.2.2.1, ⟨hk.1.2.2.2.1, hk.1.2.2.2.2⟩⟩⟩⟩)⟩, ⟨by (repeat first | with_reducible apply zN | with_reducible apply zD | with_reducible apply zA | refine blk_far ?_ NB101_106.out _); exact BK101.out⟩, ⟨by (repeat first | with_reducible apply zN | with_reducible apply zD | with_reducible apply zA | refine blk_far ?_ NB102_106.out _); exact BK102.out⟩, ⟨p3 BK106⟩, ⟨pH HB⟩⟩
 case round =>
  clear H'
  try clear p2; try clear c7
  obtain ⟨x4_1, x107000_1, x107001_1, x107002_1, u107002, HA, HK1, HO_4, HO_102002, HO_107002, BK101, BK102, BK106, HB⟩ := hrel
  cases gk with
  | zero => exact absurd HA.out (by simp [impl_comb_redex.l0])
  | succ k1 =>
   have H := HA.out
   clear HA
   simp only [impl_comb_redex.l0] at H
   by_cases c12 : x107000_1 = 2
   ·rw [if_pos c12] at H
    have c12b0 : (x107000_1 == 2) = true := beq_iff_eq.mpr c12
    have c12b1 : (x107000_1 != 2) = false := bne_eq_false_iff_eq.mpr c12
    clear c12
    by_cases c13 : 1 < (x107002_1.length : Int)
    ·rw [if_pos c13] at H
     have c13b0 : decide (1 < (x107002_1.length : Int)) = true := decide_eq_true c13
     have c13b1 : decide (1 < x107002_1.length) = true := decide_eq_true (by omega)
     clear c13
     by_cases c14 : x4_1.length < 3518437208883
     ·rw [if_pos c14] at H
      have LMc14 := aK c14
      clear c14
      obtain ⟨y108, hy108⟩ : ∃ y_ : List (S45), y_ = (x4_1 ++ [(⟨(rd_T45 x107002_1 1).f0, (rd_T45 x107002_1 1).f1, (rd_T45 x107002_1 1).f2⟩ : S45)]) := ⟨_, rfl⟩
      replace H : (if 0 < (x107002_1.length : Int) then (impl_comb_redex.l0 k1 y108 ((rd_T45 x107002_1 0).f0) ((rd_T45 x107002_1 0).f1) ((rd_T45 x107002_1 0).f2)) else (none)) = some (r1, r2, r3, r4) := by first | (rw [hy108]; with_reducible exact H) | (have H2_ := (Option.bind_some _ _).symm.trans H; rw [hy108]; with_reducible exact H2_) | (have H2_ := (Option.bind_some _ _).symm.trans H; with_reducible exact H2_) | with_reducible exact H | (rw [hy108]; exact H) | exact H
      have Ny108 := aK hy108
      clear hy108
      by_cases c15 : 0 < (x107002_1.length : Int)
      ·rw [if_pos c15] at H
       have c15b0 : decide (0 < (x107002_1.length : Int)) = true := decide_eq_true c15
       have c15b1 : decide (0 < x107002_1.length) = true := decide_eq_true (by omega)
       clear c15
       have H' := aK H
       clear H
       have hnb16 := NB106_101.out
       have hnc16 := NB101_106.out
       have hnb17 := NB106_102.out
       have hnc17 := NB102_106.out
       obtain ⟨hcz18_0, hcz18_1, hcz18_2, hfz18_0, hfz18_1, hfz18_2⟩ := cA3 BK106
       try go_wp2
       have n_ := aJ (aK (Kd.N_drew HO_4.out)) (aJ (aK (Kd.V_drew HO_102002.out)) (aJ (aK (Kd.V_drew HO_107002.out)) (aJ (aK (blk_drew BK101.out)) (aJ (aK (blk_drew BK102.out)) (aJ (aK (blk_drew BK106.out)) (aK (below_drew1 HB.out)))))))
       clear HO_4 HO_102002 HO_107002 BK101 BK102 BK106 HB
       obtain ⟨HO_4, HO_102002, HO_107002, BK101, BK102, BK106, HB⟩ := n_
       obtain ⟨Ao20, co20, eo20⟩ := Kd.V_slice HO_107002.out
       (first | subst eo20 | (injection eo20 with f1_ f2_ f3_; have f4_ := f1_.symm; have f5_ := f3_.symm; clear f1_ f2_ f3_; subst f4_; subst f5_))
       have p107 : 0 ≤ (1 : Int) := (by omega)
       have q107 : 1 < (x107002_1.length : Int) := dA
       obtain ⟨ad107, A107_2, c107_2, e107, hx107_0, hx107_1, hx107_2, hl107_2, hi107_2⟩ := at_T45 (Kd.V_reads' HO_107002.out).2.2 1 p107 q107
       cases e107
       obtain ⟨ce107, hce107, hMe107, hcc107⟩ := Kd.V_get HO_107002.out z45 1 p107 (by first | exact q107 | exact dA | (have e_ := (Kd.V_reads' HO_107002.out).1; omega))
       obtain ⟨ua107_2, uc107_2, rfl, ul107_2, ge107_2⟩ := k45_openF hMe107
       have hv107_2 := hcc107 2 _ rfl
       rw [add_field _ _ 2 (by omega)] at hv107_2
       replace hv107_2 := Option.some.inj (hv107_2.symm.trans hx107_2)
       injection hv107_2 with hva_ hvn_ hvc_
       rw [hva_] at ge107_2
       rw [hvc_] at ul107_2
       have HL107_2 := aK (show Kd.V k45 45 _ w.heap.size _ _ ((rd_T45 x107002_1 1).f2) from Kd.V_mk ul107_2 ge107_2)
       clear hva_ hvn_ hvc_ ge107_2 ul107_2
       clear hcc107 hce107
       (try simp only [show (1 : Int).toNat = 1 from rfl, Nat.reduceMul, Nat.reduceEqDiff, Go.Addr.add, ↓reduceIte] at hx107_0)
       (try simp only [show (1 : Int).toNat = 1 from rfl, Nat.reduceMul, Nat.reduceEqDiff, Go.Addr.add, ↓reduceIte] at hx107_1)
       (try simp only [show (1 : Int).toNat = 1 from rfl, Nat.reduceMul, Nat.reduceEqDiff, Go.Addr.add, ↓reduceIte] at hx107_2)
       have qi107 : (1 < x107002_1.length) = True := eq_true (by omega)
       (try rw [show ((1 : Int)).toNat = 1 from rfl] at hx107_0)
       (try rw [show 1 * 3 = 3 from rfl] at hx107_0)
       (try rw [show ((1 : Int)).toNat = 1 from rfl] at hx107_1)
       (try rw [show 1 * 3 = 3 from rfl] at hx107_1)
       (try rw [show ((1 : Int)).toNat = 1 from rfl] at hx107_2)
       (try rw [show 1 * 3 = 3 from rfl] at hx107_2)
       have HR107_2 := aK hi107_2
       have HC107_2 := aK hl107_2
       clear hi107_2 hl107_2
       replace p107 := eq_true p107
       replace q107 := eq_true q107
       have p111 : 0 ≤ (0 : Int) := (by omega)
       have q111 : 0 < (x107002_1.length : Int) := dA
       obtain ⟨ad111, A111_2, c111_2, e111, hx111_0, hx111_1, hx111_2, hl111_2, hi111_2⟩ := at_T45 (Kd.V_reads' HO_107002.out).2.2 0 p111 q111
       obtain rfl : ad107 = ad111 := (by injection e111)
       obtain ⟨ce111, hce111, hMe111, hcc111⟩ := Kd.V_get HO_107002.out z45 0 p111 (by first | exact q111 | exact dA | (have e_ := (Kd.V_reads' HO_107002.out).1; omega))
       obtain ⟨ua111_2, uc111_2, rfl, ul111_2, ge111_2⟩ := k45_openF hMe111
       have hv111_2 := hcc111 2 _ rfl
       rw [add_field _ _ 2 (by omega)] at hv111_2
       replace hv111_2 := Option.some.inj (hv111_2.symm.trans hx111_2)
       injection hv111_2 with hva_ hvn_ hvc_
       rw [hva_] at ge111_2
       rw [hvc_] at ul111_2
       have HL111_2 := aK (show Kd.V k45 45 _ w.heap.size _ _ ((rd_T45 x107002_1 0).f2) from Kd.V_mk ul111_2 ge111_2)
       clear hva_ hvn_ hvc_ ge111_2 ul111_2
       clear hcc111 hce111
       have qi111 : (0 < x107002_1.length) = True := eq_true (by omega)
       (try rw [show ((0 : Int)).toNat = 0 from rfl] at hx111_0)
       (try rw [show 0 * 3 = 0 from rfl] at hx111_0)
       (try rw [Addr.add_zero'] at hx111_0)
       (try rw [show ((0 : Int)).toNat = 0 from rfl] at hx111_1)
       (try rw [show 0 * 3 = 0 from rfl] at hx111_1)
       (try rw [Addr.add_zero'] at hx111_1)
       (try rw [show ((0 : Int)).toNat = 0 from rfl] at hx111_2)
       (try rw [show 0 * 3 = 0 from rfl] at hx111_2)
       (try rw [Addr.add_zero'] at hx111_2)
       have HR111_2 := aK hi111_2
       have HC111_2 := aK hl111_2
       clear hi111_2 hl111_2
       replace p111 := eq_true p111
       replace q111 := eq_true q111
       refine start_ (n := 13) (S := fun w' => w'.cell? ⟨gb106, 0, none⟩ = some (.int .i64 x107000_1) ∧ w'.cell? ⟨gb106, 1, none⟩ = some (.int .i64 x107001_1) ∧ w'.cell? ⟨gb106, 2, none⟩ = some (.slice (some ad107) x107002_1.length co20) ∧ w'.cell? ⟨ad107.block, ad107.off + 3, none⟩ = some (.int .i64 ((rd_T45 x107002_1 1).f0)) ∧ w'.cell? ⟨ad107.block, ad107.off + 3 + 1, none⟩ = some (.int .i64 ((rd_T45 x107002_1 1).f1)) ∧ w'.cell? ⟨ad107.block, ad107.off + 3 + 2, none⟩ = some (.slice A107_2 ((rd_T45 x107002_1 1).f2).length c107_2) ∧ w'.cell? ad107 = some (.int .i64 ((rd_T45 x107002_1 0).f0)) ∧ w'.cell? ⟨ad107.block, ad107.off + 1, none⟩ = some (.int .i64 ((rd_T45 x107002_1 0).f1)) ∧ w'.cell? ⟨ad107.block, ad107.off + 2, none⟩ = some (.slice A111_2 ((rd_T45 x107002_1 0).f2).length c111_2)) (ds := [12]) (bs 0 13) (by kernel_rfl) rfl rfl ⟨(blk_cell BK106.out 0).trans rfl, (blk_cell BK106.out 1).trans rfl, (blk_cell BK106.out 2).trans rfl, hx107_0, hx107_1, hx107_2, hx111_0, hx111_1, hx111_2⟩ (fun hHeld => ?_); refine with_tabW impl_comb_redex.tab3 impl_comb_redex.bits3 (fun HT_ HW_ => ?_)
       generalize wr.drew = w19 at HO_4 HO_102002 HO_107002 BK101 BK102 BK106 HB HL107_2 HL111_2 HR107_2 HR111_2 hx107_0 hx107_1 hx107_2 hx111_0 hx111_1 hx111_2 hHeld ⊢
       refine pS (i := 0) (N := some 11) (bs 1 12) (aO HT_) ?_
       refine pS (i := 1) (N := some 12) (bs 2 11) (aO HT_) ?_
       refine pS (i := 7) (N := some 18) #[true, true, false, false, false, false, false, true, false, false, false, false, false] (aO HT_) ?_
       refine take_ (i := 2) (N := some 13) (v := ?_) (a' := ?_) #[true, true, true, false, false, false, false, true, false, false, false, false, false] rfl rfl (take_ofW HT_.out HW_.out (by kernel_rfl)) (fun _ _ _ h => h) (Or.inl ⟨by rfl, ?_⟩) hHeld ?_ ?_
       rotate_left
       ·rintro w' ⟨s0, s1, s2, s3, s4, s5, s6, s7, s8⟩
        go_simp
        with_reducible rfl
       rotate_left
       ·simp only [sP, i64_w, i32_w]
        rfl
       refine pS (i := 3) (N := some 14) #[true, true, true, true, false, false, false, true, false, false, false, false, false] (aO HT_) ?_
       refine take_ (i := 4) (N := some 15) (v := ?_) (a' := ?_) #[true, true, true, true, true, false, false, true, false, false, false, false, false] rfl rfl (take_ofW HT_.out HW_.out (by kernel_rfl)) (fun _ _ _ h => h) (Or.inl ⟨by rfl, ?_⟩) hHeld ?_ ?_
       rotate_left
       ·rintro w' ⟨s0, s1, s2, s3, s4, s5, s6, s7, s8⟩
        go_simp
        with_reducible rfl
       rotate_left
       ·simp only [sP, i64_w, i32_w]
        rfl
       refine take_ (i := 8) (N := some 19) (v := ?_) (a' := ?_) #[true, true, true, true, true, false, false, true, true, false, false, false, false] rfl rfl (take_ofW HT_.out HW_.out (by kernel_rfl)) (fun _ _ _ h => h) (Or.inl ⟨by rfl, ?_⟩) hHeld ?_ ?_
       rotate_left
       ·rintro w' ⟨s0, s1, s2, s3, s4, s5, s6, s7, s8⟩
        go_simp
        with_reducible rfl
       rotate_left
       ·simp only [sP, i64_w, i32_w]
        rfl
       refine pS (i := 9) (N := some 20) #[true, true, true, true, true, false, false, true, true, true, false, false, false] (aO HT_) ?_
       refine take_ (i := 10) (N := some 21) (v := ?_) (a' := ?_) #[true, true, true, true, true, false, false, true, true, true, true, false, false] rfl rfl (take_ofW HT_.out HW_.out (by kernel_rfl)) (fun _ _ _ h => h) (Or.inl ⟨by rfl, ?_⟩) hHeld ?_ ?_
       rotate_left
       ·rintro w' ⟨s0, s1, s2, s3, s4, s5, s6, s7, s8⟩
        go_simp
        with_reducible rfl
       rotate_left
       ·simp only [sP, i64_w, i32_w]
        rfl
       refine one_ (i := 5) (N := some 16) #[true, true, true, true, true, true, false, true, true, true, true, false, false] rfl rfl (one_of HT_.out (by kernel_rfl)) (by decide) (fun K hK => ?_)
       refine value_ (w1 := ?_) (v := ?_) (by rfl) rfl ?_ ?_
       rotate_left 2
       ·go_simp
        constructor
        ·rfl
        ·rfl
       refine hK.out _ _ ⟨(blk_cell (blk_alloc BK106.out _) 0).trans rfl, (blk_cell (blk_alloc BK106.out _) 1).trans rfl, (blk_cell (blk_alloc BK106.out _) 2).trans rfl, (World.cell?_alloc_lt _ _ _ (World.block_lt_of_cell? _ _ (hHeld.2.2.2.1))).trans (hHeld.2.2.2.1), (World.cell?_alloc_lt _ _ _ (World.block_lt_of_cell? _ _ (hHeld.2.2.2.2.1))).trans (hHeld.2.2.2.2.1), (World.cell?_alloc_lt _ _ _ (World.block_lt_of_cell? _ _ (hHeld.2.2.2.2.2.1))).trans (hHeld.2.2.2.2.2.1), (World.cell?_alloc_lt _ _ _ (World.block_lt_of_cell? _ _ (hHeld.2.2.2.2.2.2.1))).trans (hHeld.2.2.2.2.2.2.1), (World.cell?_alloc_lt _ _ _ (World.block_lt_of_cell? _ _ (hHeld.2.2.2.2.2.2.2.1))).trans (hHeld.2.2.2.2.2.2.2.1), (World.cell?_alloc_lt _ _ _ (World.block_lt_of_cell? _ _ (hHeld.2.2.2.2.2.2.2.2))).trans (hHeld.2.2.2.2.2.2.2.2)⟩ (fun hHeld => ?_)
       clear hK K
       refine norm_ (a' := ?_) ?_ ?_
       rotate_left
       ·show Act.put _ (some 16) _ = _
        simp only [sP, i64_w, i32_w]
        rfl
       refine one_ (i := 6) (N := some 17) (bs 11 2) rfl rfl (one_of HT_.out (by kernel_rfl)) (by decide) (fun K hK => ?_)
       refine Kd.N_append_step k45 (w0 := w) w.heap.size (by rfl) (.tmp 11) (.tmp 16) 43 45 (.agg #[(.int .i64 0), (.int .i64 0), (.slice none 0 0)]) 40 rfl Tryd.underlying43 info45 rfl (by decide) (by omega) u4 x4_1 (⟨(rd_T45 x107002_1 1).f0, (rd_T45 x107002_1 1).f1, (rd_T45 x107002_1 1).f2⟩ : S45) [.int .i64 ((rd_T45 x107002_1 1).f0), .int .i64 ((rd_T45 x107002_1 1).f1), .slice A107_2 ((rd_T45 x107002_1 1).f2).length c107_2] (fun k_ => (P0_2_ k_ ∨ w.heap.size ≤ k_) ∧ k_ ≠ gb101 ∧ k_ ≠ gb102 ∧ k_ ≠ gb106) (fun k_ => ((fun k_ => (P0_2_ k_ ∨ w.heap.size ≤ k_) ∧ k_ ≠ gb101 ∧ k_ ≠ gb102 ∧ k_ ≠ gb106)) k_ ∧ some k_ ≠ (u4 : Value).ownBlock) rfl rfl ?aP (fun _ hk => hk) ?aF ?aO ?aB ?aS ?aL ?_
       (case aP => exact (k45_mkF _ _ (⟨(rd_T45 x107002_1 1).f0, (rd_T45 x107002_1 1).f1, (rd_T45 x107002_1 1).f2⟩ : S45) (Kd.V_reads' (Kd.V_mono (ok' := (fun k_ => ((fun k_ => (P0_2_ k_ ∨ w.heap.size ≤ k_) ∧ k_ ≠ gb101 ∧ k_ ≠ gb102 ∧ k_ ≠ gb106)) k_ ∧ some k_ ≠ (u4 : Value).ownBlock)) (HL107_2.out) (fun k_ hk => ⟨⟨hk.1, ⟨hk.2.2.1, ⟨hk.2.2.2.1, hk.2.2.2.2⟩⟩⟩, hk.2.1⟩))).2.1 (Kd.V_F (Kd.V_mono (ok' := (fun k_ => ((fun k_ => (P0_2_ k_ ∨ w.heap.size ≤ k_) ∧ k_ ≠ gb101 ∧ k_ ≠ gb102 ∧ k_ ≠ gb106)) k_ ∧ some k_ ≠ (u4 : Value).ownBlock)) (HL107_2.out) (fun k_ hk => ⟨⟨hk.1, ⟨hk.2.2.1, ⟨hk.2.2.2.1, hk.2.2.2.2⟩⟩⟩, hk.2.1⟩)))))
       (case aB => exact (pH HB))
       (case aF => exact (fun k_ hk => ⟨(.inr (Nat.le_trans (below_size (pH HB)) hk)), Kd.freshB BK101.out k_ hk, Kd.freshB BK102.out k_ hk, Kd.freshB BK106.out k_ hk⟩))
       (case aO => exact HO_4.out)
       (case aS => exact (below_size (pH HB)))
       (case aL => have := LMc14.out; omega)
       intro v109 w21 ho hb hg hat
       have HS3_ := cell_grown hg (by first | exact (hHeld.2.2.2.1) | exact cell_unalloc (hHeld.2.2.2.1) (by first | exact Kd.V_lt HO_102002.out | simpa using Kd.V_lt HO_102002.out | exact Kd.V_lt HO_107002.out | simpa using Kd.V_lt HO_107002.out)) (by first | exact (Kd.V_block HO_102002.out).2.1 | exact (Kd.V_block HO_107002.out).2.1)
       have HS4_ := cell_grown hg (by first | exact (hHeld.2.2.2.2.1) | exact cell_unalloc (hHeld.2.2.2.2.1) (by first | exact Kd.V_lt HO_102002.out | simpa using Kd.V_lt HO_102002.out | exact Kd.V_lt HO_107002.out | simpa using Kd.V_lt HO_107002.out)) (by first | exact (Kd.V_block HO_102002.out).2.1 | exact (Kd.V_block HO_107002.out).2.1)
       have HS5_ := cell_grown hg (by first | exact (hHeld.2.2.2.2.2.1) | exact cell_unalloc (hHeld.2.2.2.2.2.1) (by first | exact Kd.V_lt HO_102002.out | simpa using Kd.V_lt HO_102002.out | exact Kd.V_lt HO_107002.out | simpa using Kd.V_lt HO_107002.out)) (by first | exact (Kd.V_block HO_102002.out).2.1 | exact (Kd.V_block HO_107002.out).2.1)
       have HS6_ := cell_grown hg (by first | exact (hHeld.2.2.2.2.2.2.1) | exact cell_unalloc (hHeld.2.2.2.2.2.2.1) (by first | exact Kd.V_lt HO_102002.out | simpa using Kd.V_lt HO_102002.out | exact Kd.V_lt HO_107002.out | simpa using Kd.V_lt HO_107002.out)) (by first | exact (Kd.V_block HO_102002.out).2.1 | exact (Kd.V_block HO_107002.out).2.1)
       have HS7_ := cell_grown hg (by first | exact (hHeld.2.2.2.2.2.2.2.1) | exact cell_unalloc (hHeld.2.2.2.2.2.2.2.1) (by first | exact Kd.V_lt HO_102002.out | simpa using Kd.V_lt HO_102002.out | exact Kd.V_lt HO_107002.out | simpa using Kd.V_lt HO_107002.out)) (by first | exact (Kd.V_block HO_102002.out).2.1 | exact (Kd.V_block HO_107002.out).2.1)
       have HS8_ := cell_grown hg (by first | exact (hHeld.2.2.2.2.2.2.2.2) | exact cell_unalloc (hHeld.2.2.2.2.2.2.2.2) (by first | exact Kd.V_lt HO_102002.out | simpa using Kd.V_lt HO_102002.out | exact Kd.V_lt HO_107002.out | simpa using Kd.V_lt HO_107002.out)) (by first | exact (Kd.V_block HO_102002.out).2.1 | exact (Kd.V_block HO_107002.out).2.1)
       rw [← Ny108.out] at ho
       have n_ := aJ (aK (Kd.V_afterv (ok := (fun k_ => (P0_2_ k_ ∨ w.heap.size ≤ k_) ∧ k_ ≠ gb101 ∧ k_ ≠ gb102 ∧ k_ ≠ gb106)) (by (with_reducible repeat (first | apply Kd.V_alloc | apply Kd.V_drewN | apply Kd.V_drew)); exact Kd.V_mono HO_102002.out (fun _ hk => ⟨⟨hk.1, ⟨hk.2.2.1, ⟨hk.2.2.2.1, hk.2.2.2.2⟩⟩⟩, hk.2.1⟩)) hg hat)) (aJ (aK (Kd.V_afterv (ok := (fun k_ => (P0_2_ k_ ∨ w.heap.size ≤ k_) ∧ k_ ≠ gb101 ∧ k_ ≠ gb102 ∧ k_ ≠ gb106)) (by (with_reducible repeat (first | apply Kd.V_alloc | apply Kd.V_drewN | apply Kd.V_drew)); exact Kd.V_mono HO_107002.out (fun _ hk => ⟨⟨hk.1, ⟨hk.2.2.1, ⟨hk.2.2.2.1, hk.2.2.2.2⟩⟩⟩, hk.2.1⟩)) hg hat)) (aJ (aK (blk_grown BK101.out hg (Kd.N_away HO_4.out (fun _ hk => hk.2.1)))) (aJ (aK (blk_grown BK102.out hg (Kd.N_away HO_4.out (fun _ hk => hk.2.2.1)))) (aJ (aK (blk_grown BK106.out hg (Kd.N_away HO_4.out (fun _ hk => hk.2.2.2)))) (aJ (aK (Kd.V_afterv (ok := (fun k_ => (P0_2_ k_ ∨ w.heap.size ≤ k_) ∧ k_ ≠ gb101 ∧ k_ ≠ gb102 ∧ k_ ≠ gb106)) (by (with_reducible repeat (first | apply Kd.V_alloc | apply Kd.V_drewN | apply Kd.V_drew)); exact Kd.V_mono HL107_2.out (fun _ hk => ⟨⟨hk.1, ⟨hk.2.2.1, ⟨hk.2.2.2.1, hk.2.2.2.2⟩⟩⟩, hk.2.1⟩)) hg hat)) (aJ (aK (Kd.V_afterv (ok := (fun k_ => (P0_2_ k_ ∨ w.heap.size ≤ k_) ∧ k_ ≠ gb101 ∧ k_ ≠ gb102 ∧ k_ ≠ gb106)) (by (with_reducible repeat (first | apply Kd.V_alloc | apply Kd.V_drewN | apply Kd.V_drew)); exact Kd.V_mono HL111_2.out (fun _ hk => ⟨⟨hk.1, ⟨hk.2.2.1, ⟨hk.2.2.2.1, hk.2.2.2.2⟩⟩⟩, hk.2.1⟩)) hg hat)) (aJ (aK (hb)) (aK (ho)))))))))
       clear HO_102002 HO_107002 BK101 BK102 BK106 HL107_2 HL111_2 HB HO_4
       obtain ⟨HO_102002, HO_107002, BK101, BK102, BK106, HL107_2, HL111_2, HB, HO110⟩ := n_
       clear ho hb hg hat
       refine hK.out _ _ ⟨(blk_cell BK106.out 0).trans rfl, (blk_cell BK106.out 1).trans rfl, (blk_cell BK106.out 2).trans rfl, HS3_, HS4_, HS5_, HS6_, HS7_, HS8_⟩ (fun hHeld => ?_)
       clear hK K
       refine norm_ (a' := ?_) ?_ ?_
       rotate_left
       ·show Act.put _ (some 17) _ = _
        simp only [sP, i64_w, i32_w]
        rfl
       refine pS (i := 11) (N := some 4) (bs 12 1) (aO HT_) ?_
       refine last_ (i := 12) (N := none) (bs 13 0) rfl rfl (one_of HT_.out (by kernel_rfl)) (by decide) (fun K hK => ?_)
       have hs22 : w21.cell? ⟨gb106, 0, none⟩ = some (.int .i64 x107000_1) := (blk_cell BK106.out 0).trans rfl
       have hfs22 := blk_frozen BK106.out 0
       have hns22_0 := NB101_106.out
       have hns22_1 := NB102_106.out
       have hms22_0 := NB106_101.out
       have hms22_1 := NB106_102.out
       have hs23 : w21.cell? ⟨gb106, 1, none⟩ = some (.int .i64 x107001_1) := (blk_cell BK106.out 1).trans rfl
       have hfs23 := blk_frozen BK106.out 1
       have hns23_0 := NB101_106.out
       have hns23_1 := NB102_106.out
       have hms23_0 := NB106_101.out
       have hms23_1 := NB106_102.out
       have hs24 : w21.cell? ⟨gb106, 2, none⟩ = some (.slice (some ad107) x107002_1.length co20) := (blk_cell BK106.out 2).trans rfl
       have hfs24 := blk_frozen BK106.out 2
       have hns24_0 := NB101_106.out
       have hns24_1 := NB102_106.out
       have hms24_0 := NB106_101.out
       have hms24_1 := NB106_102.out
       refine skip_ (w1 := ?_) (by rfl) rfl ?_ ?_
       rotate_left
       ·go_simp
        rfl
       refine hK.out _ _ ?_
       clear hK K
       refine done_ (done_of HT_.out (by kernel_rfl)) ?_
       try go_wp2
       go_roundg k1
       case measure => have := HK1.out; omega
       case rel => exact ⟨(y108), ((rd_T45 x107002_1 0).f0), ((rd_T45 x107002_1 0).f1), ((rd_T45 x107002_1 0).f2), (.slice A111_2 ((rd_T45 x107002_1 0).f2).length c111_2), H', ⟨by have := HK1.out; omega⟩, ⟨by (with_reducible repeat (first | apply Kd.N_alloc | apply Kd.N_drewN | apply Kd.N_drew)); exact Kd.N_mono (nF3 gb106 (Kd.N_mono HO110.out (fun k_ hk => (⟨hk, hk.2.2.2⟩ : _ ∧ k_ ≠ gb106))) (fun _ hk => hk.2)) (fun _ hk => ⟨hk.1.1, ⟨hk.1.2.1, ⟨hk.1.2.2.1, hk.1.2.2.2⟩⟩⟩)⟩, ⟨by (with_reducible repeat (first | apply Kd.V_alloc | apply Kd.V_drewN | apply Kd.V_drew)); exact Kd.V_mono (vF3 gb106 (Kd.V_mono HO_102002.out (fun k_ hk => (⟨hk, hk.1.2.2.2⟩ : _ ∧ k_ ≠ gb106))) (fun _ hk => hk.2)) (fun _ hk => ⟨hk.1.1.1, ⟨hk.1.2, ⟨hk.1.1.2.1, ⟨hk.1.1.2.2.1, hk.1.1.2.2.2⟩⟩⟩⟩)⟩, ⟨by (with_reducible repeat (first | apply Kd.V_alloc | apply Kd.V_drewN | apply Kd.V_drew)); exact Kd.V_mono (vF3 gb106 (Kd.V_mono HL111_2.out (fun k_ hk => (⟨hk, hk.1.2.2.2⟩ : _ ∧ k_ ≠ gb106))) (fun _ hk => hk.2)) (fun _ hk => ⟨hk.1.1.1, ⟨hk.1.2, ⟨hk.1.1.2.1, ⟨hk.1.1.2.2.1, hk.1.1.2.2.2⟩⟩⟩⟩)⟩, ⟨by (repeat first | with_reducible apply zN | with_reducible apply zD | with_reducible apply zA | refine blk_far ?_ NB101_106.out _); exact BK101.out⟩, ⟨by (repeat first | with_reducible apply zN | with_reducible apply zD | with_reducible apply zA | refine blk_far ?_ NB102_106.out _); exact BK102.out⟩, ⟨p3 BK106⟩, ⟨pH HB⟩⟩
      ·rw [if_neg c15] at H
       exact absurd H (by simp)
     ·rw [if_neg c14] at H
      exact absurd H (by simp)
    ·rw [if_neg c13] at H
     exact absurd H (by simp)
   ·rw [if_neg c12] at H
    have c12b0 : (x107000_1 == 2) = false := beq_eq_false_iff_ne.mpr c12
    have c12b1 : (x107000_1 != 2) = true := bne_iff_ne.mpr c12
    obtain ⟨t112, A25, H⟩ := oB H
    try dsimp only at H
    have HC26 := aK H
    clear H
    have hnb27 := NB106_101.out
    have hnc27 := NB101_106.out
    have hnb28 := NB106_102.out
    have hnc28 := NB102_106.out
    obtain ⟨hcz29_0, hcz29_1, hcz29_2, hfz29_0, hfz29_1, hfz29_2⟩ := cA3 BK106
    obtain ⟨Ao30, co30, eo30⟩ := Kd.N_slice HO_4.out
    subst eo30
    go_upto_region 5 with (first | ((with_reducible refine gate_callee (f := 52) rfl ?_); refine goesL_ (some 23) rfl rfl Tryd.func52 (by kernel_rfl) rfl #[.slice Ao30 x4_1.length co30] rfl tA ?_; (with_reducible refine (impl_comb_52.calls w.heap.size (fun k_ => (P0_2_ k_ ∨ w.heap.size ≤ k_) ∧ k_ ≠ gb101 ∧ k_ ≠ gb102 ∧ k_ ≠ gb106) Ao30 co30 x4_1 _ ?side1 ?side2).mono ?_); (case side1 => exact HO_4.out); (case side2 => exact (Kd.V_reads' (Kd.N_V (base' := 0) HO_4.out)).2.2.2.1); rintro e w31 ⟨rfl, hN, hg⟩; refine ⟨_, rfl, ?_⟩; have et_ : x4_1.reverse = t112 := Option.some.inj A25.out; rw [et_] at hN; clear et_; have n1_ := aK (Kd.V_grown HO_102002.out hg (fun _ hk => hk.2.1)); have n2_ := aK (Kd.V_grown HO_107002.out hg (fun _ hk => hk.2.1)); have n4_ := aK (blk_grown BK101.out hg (Kd.N_away HO_4.out (fun _ hk => hk.2.1))); have n5_ := aK (blk_grown BK102.out hg (Kd.N_away HO_4.out (fun _ hk => hk.2.2.1))); have n6_ := aK (blk_grown BK106.out hg (Kd.N_away HO_4.out (fun _ hk => hk.2.2.2))); have n7_ := aK (HB.out.grown hg (below_size HB.out) (Kd.N_base HO_4.out)); generalize hv113 : Value.slice Ao30 x4_1.length co30 = v113 at hN ⊢; clear hv113; have n3_ := aK (Kd.N_V (base' := w.heap.size) hN); clear hN; clear HO_4; clear HO_102002; clear HO_107002; clear BK101; clear BK102; clear BK106; clear HB; have HO_102002 := n1_; have HO_107002 := n2_; have HO114 := n3_; have BK101 := n4_; have BK102 := n5_; have BK106 := n6_; have HB := n7_; clear n1_ n2_ n3_ n4_ n5_ n6_ n7_; (try clear hg)))
    (try simp only [Act.put, List.setIfInBounds_toArray, List.set_cons_zero, List.set_cons_succ])
    go_cut [24] (fun v24 wc => ∃ (kq : Nat) (x24_25 : Bool), v24 = .bool x24_25 ∧ Aside0 (impl_comb_redex.j1 kq t112 x24_25 x107000_1 x107001_1 x107002_1 = some (r1, r2, r3, r4)) ∧ Aside0 (kq ≤ k1) ∧ Aside0 (Kd.V k45 45 wc w.heap.size (fun k_ => (P0_2_ k_ ∨ w.heap.size ≤ k_) ∧ k_ ≠ gb101 ∧ k_ ≠ gb102 ∧ k_ ≠ gb106) v113 t112) ∧ Aside0 (Kd.V k45 45 wc w.heap.size (fun k_ => (P0_2_ k_ ∨ w.heap.size ≤ k_) ∧ k_ ≠ gb101 ∧ k_ ≠ gb102 ∧ k_ ≠ gb106) (.slice A0_2 l0_2.length c0_2) l0_2) ∧ Aside0 (Kd.V k45 45 wc w.heap.size (fun k_ => (P0_2_ k_ ∨ w.heap.size ≤ k_) ∧ k_ ≠ gb101 ∧ k_ ≠ gb102 ∧ k_ ≠ gb106) u107002 x107002_1) ∧ Aside0 (wc.heap[gb101]? = some (.cells #[.int .i64 a0_0, .int .i64 a0_1, (.slice A0_2 l0_2.length c0_2)] 45 (0, 0))) ∧ Aside0 (wc.heap[gb102]? = some (.cells #[.int .i64 0, .int .i64 0, (.slice none 0 0)] 45 (0, 0))) ∧ Aside0 (wc.heap[gb106]? = some (.cells #[.int .i64 x107000_1, .int .i64 x107001_1, u107002] 45 (0, 0))) ∧ Aside0 (Below w.heap.size w wc))
    case first =>
     have H := HC26.out
     clear HC26
     by_cases c32 : x107000_1 = 5
     ·rw [if_pos c32] at H
      have c32b0 : (x107000_1 == 5) = true := beq_iff_eq.mpr c32
      have c32b1 : (x107000_1 != 5) = false := bne_eq_false_iff_eq.mpr c32
      clear c32
      (first | rw [c32b0] | (simp only [i64_w, i32_w]; rw [c32b0]) | skip)
      have H' := aK H
      clear H
      have hnb33 := NB106_101.out
      have hnc33 := NB101_106.out
      have hnb34 := NB106_102.out
      have hnc34 := NB102_106.out
      obtain ⟨hcz35_0, hcz35_1, hcz35_2, hfz35_0, hfz35_1, hfz35_2⟩ := cA3 BK106
      obtain ⟨Ao36, co36, eo36⟩ := Kd.V_slice HO114.out
      subst eo36
      go_wp2
      go_meet
      case rel => exact ⟨_, (((t112.length : Int) == 1)), rS, H', ⟨by have := HK1.out; first | omega | exact Nat.le_refl _⟩, ⟨by (with_reducible repeat (first | apply Kd.V_alloc | apply Kd.V_drewN | apply Kd.V_drew)); exact HO114.out⟩, ⟨by (with_reducible repeat (first | apply Kd.V_alloc | apply Kd.V_drewN | apply Kd.V_drew)); exact Kd.V_mono HO_102002.out (fun _ hk => ⟨hk.1, ⟨hk.2.2.1, ⟨hk.2.2.2.1, hk.2.2.2.2⟩⟩⟩)⟩, ⟨by (with_reducible repeat (first | apply Kd.V_alloc | apply Kd.V_drewN | apply Kd.V_drew)); exact Kd.V_mono HO_107002.out (fun _ hk => ⟨hk.1, ⟨hk.2.2.1, ⟨hk.2.2.2.1, hk.2.2.2.2⟩⟩⟩)⟩, ⟨pB BK101⟩, ⟨pB BK102⟩, ⟨pB BK106⟩, ⟨pH HB⟩⟩
     ·rw [if_neg c32] at H
      have c32b0 : (x107000_1 == 5) = false := beq_eq_false_iff_ne.mpr c32
      have c32b1 : (x107000_1 != 5) = true := bne_iff_ne.mpr c32
      (first | rw [c32b0] | (simp only [i64_w, i32_w]; rw [c32b0]) | skip)
      have H' := aK H
      clear H
      have hnb37 := NB106_101.out
      have hnc37 := NB101_106.out
      have hnb38 := NB106_102.out
      have hnc38 := NB102_106.out
      obtain ⟨hcz39_0, hcz39_1, hcz39_2, hfz39_0, hfz39_1, hfz39_2⟩ := cA3 BK106
      go_wp2
      go_meet
      case rel => exact ⟨_, (false), rS, H', ⟨by have := HK1.out; first | omega | exact Nat.le_refl _⟩, ⟨by (with_reducible repeat (first | apply Kd.V_alloc | apply Kd.V_drewN | apply Kd.V_drew)); exact HO114.out⟩, ⟨by (with_reducible repeat (first | apply Kd.V_alloc | apply Kd.V_drewN | apply Kd.V_drew)); exact Kd.V_mono HO_102002.out (fun _ hk => ⟨hk.1, ⟨hk.2.2.1, ⟨hk.2.2.2.1, hk.2.2.2.2⟩⟩⟩)⟩, ⟨by (with_reducible repeat (first | apply Kd.V_alloc | apply Kd.V_drewN | apply Kd.V_drew)); exact Kd.V_mono HO_107002.out (fun _ hk => ⟨hk.1, ⟨hk.2.2.1, ⟨hk.2.2.2.1, hk.2.2.2.2⟩⟩⟩)⟩, ⟨pB BK101⟩, ⟨pB BK102⟩, ⟨pB BK106⟩, ⟨pH HB⟩⟩
    case rest =>
     clear HC26
     try clear c1; try clear p1; try clear q1; try clear hx1; try clear qi1; try clear c2; try clear p2; try clear c3; try clear c7; try clear c9; try clear c10; try clear p10; try clear q10; try clear hx10; try clear qi10; try clear c11; try clear p11; try clear q11; try clear hx11; try clear qi11; try clear c12; try clear c12b0; try clear c12b1; try clear c13; try clear c13b0; try clear c13b1; try clear c14; try clear c15; try clear c15b0; try clear c15b1; try clear c16; try clear c17; try clear c27; try clear c28; try clear c32; try clear c32b0; try clear c32b1; try clear c33; try clear c34; try clear c37; try clear c38; try clear hx107_0; try clear hx107_1; try clear hx107_2; try clear hx111_0; try clear hx111_1; try clear hx111_2; try clear p107; try clear p111; try clear p2; try clear q107; try clear q111; try clear hcz18_0 hcz18_1 hcz18_2 hfz18_0 hfz18_1 hfz18_2; try clear hcz29_0 hcz29_1 hcz29_2 hfz29_0 hfz29_1 hfz29_2; try clear hcz35_0 hcz35_1 hcz35_2 hfz35_0 hfz35_1 hfz35_2; try clear hcz39_0 hcz39_1 hcz39_2 hfz39_0 hfz39_1 hfz39_2
     obtain ⟨kq, x24_25, rfl, HA, HJ25, HO_23, HO_102002, HO_107002, BK101, BK102, BK106, HB⟩ := hcut
     cases kq with
     | zero => exact absurd HA.out (by simp [impl_comb_redex.j1])
     | succ kj25 =>
      have H := HA.out
      clear HA
      simp only [impl_comb_redex.j1] at H
      by_cases c40 : x24_25 = true
      ·subst c40
       rw [if_pos rfl] at H
       by_cases c41 : 0 < (t112.length : Int)
       ·rw [if_pos c41] at H
        have c41b0 : decide (0 < (t112.length : Int)) = true := decide_eq_true c41
        have c41b1 : decide (0 < t112.length) = true := decide_eq_true (by omega)
        clear c41
        simp only [Option.some.injEq, Prod.mk.injEq] at H
        obtain ⟨rfl, rfl, rfl, rfl⟩ := H
        obtain ⟨Ao42, co42, eo42⟩ := Kd.V_slice HO_23.out
        subst eo42
        have p115 : 0 ≤ (0 : Int) := (by omega)
        have q115 : 0 < (t112.length : Int) := dA
        obtain ⟨ad115, A115_2, c115_2, e115, hx115_0, hx115_1, hx115_2, hl115_2, hi115_2⟩ := at_T45 (Kd.V_reads' HO_23.out).2.2 0 p115 q115
        cases e115
        obtain ⟨ce115, hce115, hMe115, hcc115⟩ := Kd.V_get HO_23.out z45 0 p115 (by first | exact q115 | exact dA | (have e_ := (Kd.V_reads' HO_23.out).1; omega))
        obtain ⟨ua115_2, uc115_2, rfl, ul115_2, ge115_2⟩ := k45_openF hMe115
        have hv115_2 := hcc115 2 _ rfl
        rw [add_field _ _ 2 (by omega)] at hv115_2
        replace hv115_2 := Option.some.inj (hv115_2.symm.trans hx115_2)
        injection hv115_2 with hva_ hvn_ hvc_
        rw [hva_] at ge115_2
        rw [hvc_] at ul115_2
        have HL115_2 := aK (show Kd.V k45 45 _ w.heap.size _ _ ((rd_T45 t112 0).f2) from Kd.V_mk ul115_2 ge115_2)
        clear hva_ hvn_ hvc_ ge115_2 ul115_2
        clear hcc115 hce115
        have qi115 : (0 < t112.length) = True := eq_true (by omega)
        (try rw [show ((0 : Int)).toNat = 0 from rfl] at hx115_0)
        (try rw [show 0 * 3 = 0 from rfl] at hx115_0)
        (try rw [Addr.add_zero'] at hx115_0)
        (try rw [show ((0 : Int)).toNat = 0 from rfl] at hx115_1)
        (try rw [show 0 * 3 = 0 from rfl] at hx115_1)
        (try rw [Addr.add_zero'] at hx115_1)
        (try rw [show ((0 : Int)).toNat = 0 from rfl] at hx115_2)
        (try rw [show 0 * 3 = 0 from rfl] at hx115_2)
        (try rw [Addr.add_zero'] at hx115_2)
        have HR115_2 := aK hi115_2
        have HC115_2 := aK hl115_2
        clear hi115_2 hl115_2
        replace p115 := eq_true p115
        replace q115 := eq_true q115
        have hnb43 := NB102_101.out
        have hnc43 := NB101_102.out
        have hnb44 := NB102_106.out
        have hnc44 := NB106_102.out
        obtain ⟨hcz45_0, hcz45_1, hcz45_2, hfz45_0, hfz45_1, hfz45_2⟩ := cA3 BK102
        go_wp2
        refine bodyPost_ret (results_ct rfl _ _ gb102 45 #[.int .i64 ((rd_T45 t112 0).f0), .int .i64 ((rd_T45 t112 0).f1), .slice A115_2 ((rd_T45 t112 0).f2).length c115_2] (0, 0) _ rfl (p3 BK102) Tryd.underlying45 rfl (by kernel_rfl)) rfl ?_
        exact ⟨_, eW, by (with_reducible repeat (first | apply Kd.V_alloc | apply Kd.V_drewN | apply Kd.V_drew)); exact Kd.V_mono (vF3 gb102 (Kd.V_mono HL115_2.out (fun k_ hk => (⟨hk, hk.2.2.1⟩ : _ ∧ k_ ≠ gb102))) (fun _ hk => hk.2)) (fun _ hk => hk.1.1), pH HB⟩
       ·rw [if_neg c41] at H
        exact absurd H (by simp)
      ·replace c40 := Bool.eq_false_iff.mpr c40
       subst c40
       rw [if_neg (show ¬ (false = true) by decide)] at H
       have HC46 := aK H
       clear H
       go_upto_region 7 with (fail)
       go_cut [36] (fun v36 wc => ∃ (kq : Nat) (x36_45 : Bool), v36 = .bool x36_45 ∧ Aside0 (impl_comb_redex.j2 kq t112 x36_45 x107000_1 x107001_1 x107002_1 = some (r1, r2, r3, r4)) ∧ Aside0 (kq ≤ kj25) ∧ Aside0 (Kd.V k45 45 wc w.heap.size (fun k_ => (P0_2_ k_ ∨ w.heap.size ≤ k_) ∧ k_ ≠ gb101 ∧ k_ ≠ gb102 ∧ k_ ≠ gb106) v113 t112) ∧ Aside0 (Kd.V k45 45 wc w.heap.size (fun k_ => (P0_2_ k_ ∨ w.heap.size ≤ k_) ∧ k_ ≠ gb101 ∧ k_ ≠ gb102 ∧ k_ ≠ gb106) (.slice A0_2 l0_2.length c0_2) l0_2) ∧ Aside0 (Kd.V k45 45 wc w.heap.size (fun k_ => (P0_2_ k_ ∨ w.heap.size ≤ k_) ∧ k_ ≠ gb101 ∧ k_ ≠ gb102 ∧ k_ ≠ gb106) u107002 x107002_1) ∧ Aside0 (wc.heap[gb101]? = some (.cells #[.int .i64 a0_0, .int .i64 a0_1, (.slice A0_2 l0_2.length c0_2)] 45 (0, 0))) ∧ Aside0 (wc.heap[gb102]? = some (.cells #[.int .i64 0, .int .i64 0, (.slice none 0 0)] 45 (0, 0))) ∧ Aside0 (wc.heap[gb106]? = some (.cells #[.int .i64 x107000_1, .int .i64 x107001_1, u107002] 45 (0, 0))) ∧ Aside0 (Below w.heap.size w wc))
       case first =>
        have H := HC46.out
        clear HC46
        by_cases c47 : x107000_1 = 4
        ·rw [if_pos c47] at H
         have c47b0 : (x107000_1 == 4) = true := beq_iff_eq.mpr c47
         have c47b1 : (x107000_1 != 4) = false := bne_eq_false_iff_eq.mpr c47
         clear c47
         (first | rw [c47b0] | (simp only [i64_w, i32_w]; rw [c47b0]) | skip)
         have H' := aK H
         clear H
         have hnb48 := NB106_101.out
         have hnc48 := NB101_106.out
         have hnb49 := NB106_102.out
         have hnc49 := NB102_106.out
         obtain ⟨hcz50_0, hcz50_1, hcz50_2, hfz50_0, hfz50_1, hfz50_2⟩ := cA3 BK106
         obtain ⟨Ao51, co51, eo51⟩ := Kd.V_slice HO_23.out
         subst eo51
         go_wp2
         go_meet
         case rel => exact ⟨_, (((t112.length : Int) == 2)), rS, H', ⟨by have := HK1.out; have := HJ25.out; first | omega | exact Nat.le_refl _⟩, ⟨by (with_reducible repeat (first | apply Kd.V_alloc | apply Kd.V_drewN | apply Kd.V_drew)); exact HO_23.out⟩, ⟨by (with_reducible repeat (first | apply Kd.V_alloc | apply Kd.V_drewN | apply Kd.V_drew)); exact HO_102002.out⟩, ⟨by (with_reducible repeat (first | apply Kd.V_alloc | apply Kd.V_drewN | apply Kd.V_drew)); exact HO_107002.out⟩, ⟨pB BK101⟩, ⟨pB BK102⟩, ⟨pB BK106⟩, ⟨pH HB⟩⟩
        ·rw [if_neg c47] at H
         have c47b0 : (x107000_1 == 4) = false := beq_eq_false_iff_ne.mpr c47
         have c47b1 : (x107000_1 != 4) = true := bne_iff_ne.mpr c47
         (first | rw [c47b0] | (simp only [i64_w, i32_w]; rw [c47b0]) | skip)
         have H' := aK H
         clear H
         have hnb52 := NB106_101.out
         have hnc52 := NB101_106.out
         have hnb53 := NB106_102.out
         have hnc53 := NB102_106.out
         obtain ⟨hcz54_0, hcz54_1, hcz54_2, hfz54_0, hfz54_1, hfz54_2⟩ := cA3 BK106
         go_wp2
         go_meet
         case rel => exact ⟨_, (false), rS, H', ⟨by have := HK1.out; have := HJ25.out; first | omega | exact Nat.le_refl _⟩, ⟨by (with_reducible repeat (first | apply Kd.V_alloc | apply Kd.V_drewN | apply Kd.V_drew)); exact HO_23.out⟩, ⟨by (with_reducible repeat (first | apply Kd.V_alloc | apply Kd.V_drewN | apply Kd.V_drew)); exact HO_102002.out⟩, ⟨by (with_reducible repeat (first | apply Kd.V_alloc | apply Kd.V_drewN | apply Kd.V_drew)); exact HO_107002.out⟩, ⟨pB BK101⟩, ⟨pB BK102⟩, ⟨pB BK106⟩, ⟨pH HB⟩⟩
       case rest =>
        clear HC46
        try clear c1; try clear p1; try clear q1; try clear hx1; try clear qi1; try clear c2; try clear p2; try clear c3; try clear c4; try clear c5; try clear c7; try clear c9; try clear c10; try clear p10; try clear q10; try clear hx10; try clear qi10; try clear c11; try clear p11; try clear q11; try clear hx11; try clear qi11; try clear c12; try clear c12b0; try clear c12b1; try clear c13; try clear c13b0; try clear c13b1; try clear c14; try clear c15; try clear c15b0; try clear c15b1; try clear c16; try clear c17; try clear c27; try clear c28; try clear c32; try clear c32b0; try clear c32b1; try clear c33; try clear c34; try clear c37; try clear c38; try clear c40; try clear c41; try clear c41b0; try clear c41b1; try clear c43; try clear c44; try clear c47; try clear c47b0; try clear c47b1; try clear c48; try clear c49; try clear c52; try clear c53; try clear hx107_0; try clear hx107_1; try clear hx107_2; try clear hx111_0; try clear hx111_1; try clear hx111_2; try clear hx115_0; try clear hx115_1; try clear hx115_2; try clear p1; try clear p10; try clear p107; try clear p11; try clear p111; try clear p115; try clear p2; try clear q1; try clear q10; try clear q107; try clear q11; try clear q111; try clear q115; try clear hcz18_0 hcz18_1 hcz18_2 hfz18_0 hfz18_1 hfz18_2; try clear hcz29_0 hcz29_1 hcz29_2 hfz29_0 hfz29_1 hfz29_2; try clear hcz35_0 hcz35_1 hcz35_2 hfz35_0 hfz35_1 hfz35_2; try clear hcz39_0 hcz39_1 hcz39_2 hfz39_0 hfz39_1 hfz39_2; try clear hcz45_0 hcz45_1 hcz45_2 hfz45_0 hfz45_1 hfz45_2; try clear hcz50_0 hcz50_1 hcz50_2 hfz50_0 hfz50_1 hfz50_2; try clear hcz54_0 hcz54_1 hcz54_2 hfz54_0 hfz54_1 hfz54_2
        obtain ⟨kq, x36_45, rfl, HA, HJ45, HO_23, HO_102002, HO_107002, BK101, BK102, BK106, HB⟩ := hcut
        cases kq with
        | zero => exact absurd HA.out (by simp [impl_comb_redex.j2])
        | succ kj45 =>
         have H := HA.out
         clear HA
         simp only [impl_comb_redex.j2] at H
         by_cases c55 : x36_45 = true
         ·subst c55
          rw [if_pos rfl] at H
          by_cases c56 : 0 < (t112.length : Int)
          ·rw [if_pos c56] at H
           have c56b0 : decide (0 < (t112.length : Int)) = true := decide_eq_true c56
           have c56b1 : decide (0 < t112.length) = true := decide_eq_true (by omega)
           clear c56
           simp only [Option.some.injEq, Prod.mk.injEq] at H
           obtain ⟨rfl, rfl, rfl, rfl⟩ := H
           obtain ⟨Ao57, co57, eo57⟩ := Kd.V_slice HO_23.out
           subst eo57
           have p116 : 0 ≤ (0 : Int) := (by omega)
           have q116 : 0 < (t112.length : Int) := dA
           obtain ⟨ad116, A116_2, c116_2, e116, hx116_0, hx116_1, hx116_2, hl116_2, hi116_2⟩ := at_T45 (Kd.V_reads' HO_23.out).2.2 0 p116 q116
           cases e116
           obtain ⟨ce116, hce116, hMe116, hcc116⟩ := Kd.V_get HO_23.out z45 0 p116 (by first | exact q116 | exact dA | (have e_ := (Kd.V_reads' HO_23.out).1; omega))
           obtain ⟨ua116_2, uc116_2, rfl, ul116_2, ge116_2⟩ := k45_openF hMe116
           have hv116_2 := hcc116 2 _ rfl
           rw [add_field _ _ 2 (by omega)] at hv116_2
           replace hv116_2 := Option.some.inj (hv116_2.symm.trans hx116_2)
           injection hv116_2 with hva_ hvn_ hvc_
           rw [hva_] at ge116_2
           rw [hvc_] at ul116_2
           have HL116_2 := aK (show Kd.V k45 45 _ w.heap.size _ _ ((rd_T45 t112 0).f2) from Kd.V_mk ul116_2 ge116_2)
           clear hva_ hvn_ hvc_ ge116_2 ul116_2
           clear hcc116 hce116
           have qi116 : (0 < t112.length) = True := eq_true (by omega)
           (try rw [show ((0 : Int)).toNat = 0 from rfl] at hx116_0)
           (try rw [show 0 * 3 = 0 from rfl] at hx116_0)
           (try rw [Addr.add_zero'] at hx116_0)
           (try rw [show ((0 : Int)).toNat = 0 from rfl] at hx116_1)
           (try rw [show 0 * 3 = 0 from rfl] at hx116_1)
           (try rw [Addr.add_zero'] at hx116_1)
           (try rw [show ((0 : Int)).toNat = 0 from rfl] at hx116_2)
           (try rw [show 0 * 3 = 0 from rfl] at hx116_2)
           (try rw [Addr.add_zero'] at hx116_2)
           have HR116_2 := aK hi116_2
           have HC116_2 := aK hl116_2
           clear hi116_2 hl116_2
           replace p116 := eq_true p116
           replace q116 := eq_true q116
           have hnb58 := NB102_101.out
           have hnc58 := NB101_102.out
           have hnb59 := NB102_106.out
           have hnc59 := NB106_102.out
           obtain ⟨hcz60_0, hcz60_1, hcz60_2, hfz60_0, hfz60_1, hfz60_2⟩ := cA3 BK102
           go_wp2
           refine bodyPost_ret (results_ct rfl _ _ gb102 45 #[.int .i64 ((rd_T45 t112 0).f0), .int .i64 ((rd_T45 t112 0).f1), .slice A116_2 ((rd_T45 t112 0).f2).length c116_2] (0, 0) _ rfl (p3 BK102) Tryd.underlying45 rfl (by kernel_rfl)) rfl ?_
           exact ⟨_, eW, by (with_reducible repeat (first | apply Kd.V_alloc | apply Kd.V_drewN | apply Kd.V_drew)); exact Kd.V_mono (vF3 gb102 (Kd.V_mono HL116_2.out (fun k_ hk => (⟨hk, hk.2.2.1⟩ : _ ∧ k_ ≠ gb102))) (fun _ hk => hk.2)) (fun _ hk => hk.1.1), pH HB⟩
          ·rw [if_neg c56] at H
           exact absurd H (by simp)
         ·replace c55 := Bool.eq_false_iff.mpr c55
          subst c55
          rw [if_neg (show ¬ (false = true) by decide)] at H
          have HC61 := aK H
          clear H
          go_upto_region 9 with (fail)
          go_cut [48] (fun v48 wc => ∃ (kq : Nat) (x48_60 : Bool), v48 = .bool x48_60 ∧ Aside0 (impl_comb_redex.j3 kq t112 x48_60 = some (r1, r2, r3, r4)) ∧ Aside0 (kq ≤ kj45) ∧ Aside0 (Kd.V k45 45 wc w.heap.size (fun k_ => (P0_2_ k_ ∨ w.heap.size ≤ k_) ∧ k_ ≠ gb101 ∧ k_ ≠ gb102 ∧ k_ ≠ gb106) v113 t112) ∧ Aside0 (Kd.V k45 45 wc w.heap.size (fun k_ => (P0_2_ k_ ∨ w.heap.size ≤ k_) ∧ k_ ≠ gb101 ∧ k_ ≠ gb102 ∧ k_ ≠ gb106) (.slice A0_2 l0_2.length c0_2) l0_2) ∧ Aside0 (Kd.V k45 45 wc w.heap.size (fun k_ => (P0_2_ k_ ∨ w.heap.size ≤ k_) ∧ k_ ≠ gb101 ∧ k_ ≠ gb102 ∧ k_ ≠ gb106) u107002 x107002_1) ∧ Aside0 (wc.heap[gb101]? = some (.cells #[.int .i64 a0_0, .int .i64 a0_1, (.slice A0_2 l0_2.length c0_2)] 45 (0, 0))) ∧ Aside0 (wc.heap[gb102]? = some (.cells #[.int .i64 0, .int .i64 0, (.slice none 0 0)] 45 (0, 0))) ∧ Aside0 (wc.heap[gb106]? = some (.cells #[.int .i64 x107000_1, .int .i64 x107001_1, u107002] 45 (0, 0))) ∧ Aside0 (Below w.heap.size w wc))
          case first =>
           have H := HC61.out
           clear HC61
           by_cases c62 : x107000_1 = 3
           ·rw [if_pos c62] at H
            have c62b0 : (x107000_1 == 3) = true := beq_iff_eq.mpr c62
            have c62b1 : (x107000_1 != 3) = false := bne_eq_false_iff_eq.mpr c62
            clear c62
            (first | rw [c62b0] | (simp only [i64_w, i32_w]; rw [c62b0]) | skip)
            have H' := aK H
            clear H
            have hnb63 := NB106_101.out
            have hnc63 := NB101_106.out
            have hnb64 := NB106_102.out
            have hnc64 := NB102_106.out
            obtain ⟨hcz65_0, hcz65_1, hcz65_2, hfz65_0, hfz65_1, hfz65_2⟩ := cA3 BK106
            obtain ⟨Ao66, co66, eo66⟩ := Kd.V_slice HO_23.out
            subst eo66
            go_wp2
            go_meet
            case rel => exact ⟨_, (((t112.length : Int) == 3)), rS, H', ⟨by have := HK1.out; have := HJ25.out; have := HJ45.out; first | omega | exact Nat.le_refl _⟩, ⟨by (with_reducible repeat (first | apply Kd.V_alloc | apply Kd.V_drewN | apply Kd.V_drew)); exact HO_23.out⟩, ⟨by (with_reducible repeat (first | apply Kd.V_alloc | apply Kd.V_drewN | apply Kd.V_drew)); exact HO_102002.out⟩, ⟨by (with_reducible repeat (first | apply Kd.V_alloc | apply Kd.V_drewN | apply Kd.V_drew)); exact HO_107002.out⟩, ⟨pB BK101⟩, ⟨pB BK102⟩, ⟨pB BK106⟩, ⟨pH HB⟩⟩
           ·rw [if_neg c62] at H
            have c62b0 : (x107000_1 == 3) = false := beq_eq_false_iff_ne.mpr c62
            have c62b1 : (x107000_1 != 3) = true := bne_iff_ne.mpr c62
            (first | rw [c62b0] | (simp only [i64_w, i32_w]; rw [c62b0]) | skip)
            have H' := aK H
            clear H
            have hnb67 := NB106_101.out
            have hnc67 := NB101_106.out
            have hnb68 := NB106_102.out
            have hnc68 := NB102_106.out
            obtain ⟨hcz69_0, hcz69_1, hcz69_2, hfz69_0, hfz69_1, hfz69_2⟩ := cA3 BK106
            go_wp2
            go_meet
            case rel => exact ⟨_, (false), rS, H', ⟨by have := HK1.out; have := HJ25.out; have := HJ45.out; first | omega | exact Nat.le_refl _⟩, ⟨by (with_reducible repeat (first | apply Kd.V_alloc | apply Kd.V_drewN | apply Kd.V_drew)); exact HO_23.out⟩, ⟨by (with_reducible repeat (first | apply Kd.V_alloc | apply Kd.V_drewN | apply Kd.V_drew)); exact HO_102002.out⟩, ⟨by (with_reducible repeat (first | apply Kd.V_alloc | apply Kd.V_drewN | apply Kd.V_drew)); exact HO_107002.out⟩, ⟨pB BK101⟩, ⟨pB BK102⟩, ⟨pB BK106⟩, ⟨pH HB⟩⟩
          case rest =>
           clear HC61
           try clear c1; try clear p1; try clear q1; try clear hx1; try clear qi1; try clear c2; try clear p2; try clear c3; try clear c4; try clear c5; try clear c6; try clear c7; try clear c9; try clear c10; try clear p10; try clear q10; try clear hx10; try clear qi10; try clear c11; try clear p11; try clear q11; try clear hx11; try clear qi11; try clear c12; try clear c12b0; try clear c12b1; try clear c13; try clear c13b0; try clear c13b1; try clear c14; try clear c15; try clear c15b0; try clear c15b1; try clear c16; try clear c17; try clear c27; try clear c28; try clear c32; try clear c32b0; try clear c32b1; try clear c33; try clear c34; try clear c37; try clear c38; try clear c40; try clear c41; try clear c41b0; try clear c41b1; try clear c43; try clear c44; try clear c47; try clear c47b0; try clear c47b1; try clear c48; try clear c49; try clear c52; try clear c53; try clear c55; try clear c56; try clear c56b0; try clear c56b1; try clear c58; try clear c59; try clear c62; try clear c62b0; try clear c62b1; try clear c63; try clear c64; try clear c67; try clear c68; try clear hx107_0; try clear hx107_1; try clear hx107_2; try clear hx111_0; try clear hx111_1; try clear hx111_2; try clear hx115_0; try clear hx115_1; try clear hx115_2; try clear hx116_0; try clear hx116_1; try clear hx116_2; try clear p1; try clear p10; try clear p107; try clear p11; try clear p111; try clear p115; try clear p116; try clear p2; try clear q1; try clear q10; try clear q107; try clear q11; try clear q111; try clear q115; try clear q116; try clear hcz18_0 hcz18_1 hcz18_2 hfz18_0 hfz18_1 hfz18_2; try clear hcz29_0 hcz29_1 hcz29_2 hfz29_0 hfz29_1 hfz29_2; try clear hcz35_0 hcz35_1 hcz35_2 hfz35_0 hfz35_1 hfz35_2; try clear hcz39_0 hcz39_1 hcz39_2 hfz39_0 hfz39_1 hfz39_2; try clear hcz45_0 hcz45_1 hcz45_2 hfz45_0 hfz45_1 hfz45_2; try clear hcz50_0 hcz50_1 hcz50_2 hfz50_0 hfz50_1 hfz50_2; try clear hcz54_0 hcz54_1 hcz54_2 hfz54_0 hfz54_1 hfz54_2; try clear hcz60_0 hcz60_1 hcz60_2 hfz60_0 hfz60_1 hfz60_2; try clear hcz65_0 hcz65_1 hcz65_2 hfz65_0 hfz65_1 hfz65_2; try clear hcz69_0 hcz69_1 hcz69_2 hfz69_0 hfz69_1 hfz69_2
           obtain ⟨kq, x48_60, rfl, HA, HJ60, HO_23, HO_102002, HO_107002, BK101, BK102, BK106, HB⟩ := hcut
           cases kq with
           | zero => exact absurd HA.out (by simp [impl_comb_redex.j3])
           | succ kj60 =>
            have H := HA.out
            clear HA
            simp only [impl_comb_redex.j3] at H
            by_cases c70 : x48_60 = true
            ·subst c70
             rw [if_pos rfl] at H
             by_cases c71 : 0 < (t112.length : Int)
             ·rw [if_pos c71] at H
              have c71b0 : decide (0 < (t112.length : Int)) = true := decide_eq_true c71
              have c71b1 : decide (0 < t112.length) = true := decide_eq_true (by omega)
              clear c71
              by_cases c72 : 2 < (t112.length : Int)
              ·rw [if_pos c72] at H
               have c72b0 : decide (2 < (t112.length : Int)) = true := decide_eq_true c72
               have c72b1 : decide (2 < t112.length) = true := decide_eq_true (by omega)
               clear c72
               obtain ⟨⟨t119, t120, t121⟩, A73, H⟩ := oB H
               try dsimp only at H
               by_cases c74 : 1 < (t112.length : Int)
               ·rw [if_pos c74] at H
                have c74b0 : decide (1 < (t112.length : Int)) = true := decide_eq_true c74
                have c74b1 : decide (1 < t112.length) = true := decide_eq_true (by omega)
                clear c74
                obtain ⟨⟨t126, t127, t128⟩, A75, H⟩ := oB H
                try dsimp only at H
                obtain ⟨⟨t131, t132, t133⟩, A76, H⟩ := oB H
                try dsimp only at H
                simp only [Option.some.injEq, Prod.mk.injEq] at H
                obtain ⟨rfl, rfl, rfl, rfl⟩ := H
                try go_wp2
                have n_ := aJ (aK (Kd.V_drew HO_23.out)) (aJ (aK (Kd.V_drew HO_102002.out)) (aJ (aK (Kd.V_drew HO_107002.out)) (aJ (aK (blk_drew BK101.out)) (aJ (aK (blk_drew BK102.out)) (aJ (aK (blk_drew BK106.out)) (aK (below_drew1 HB.out)))))))
                clear HO_23 HO_102002 HO_107002 BK101 BK102 BK106 HB
                obtain ⟨HO_23, HO_102002, HO_107002, BK101, BK102, BK106, HB⟩ := n_
                obtain ⟨Ao78, co78, eo78⟩ := Kd.V_slice HO_23.out
                (first | subst eo78 | (injection eo78 with f1_ f2_ f3_; have f4_ := f1_.symm; have f5_ := f3_.symm; clear f1_ f2_ f3_; subst f4_; subst f5_))
                have p117 : 0 ≤ (0 : Int) := (by omega)
                have q117 : 0 < (t112.length : Int) := dA
                obtain ⟨ad117, A117_2, c117_2, e117, hx117_0, hx117_1, hx117_2, hl117_2, hi117_2⟩ := at_T45 (Kd.V_reads' HO_23.out).2.2 0 p117 q117
                cases e117
                obtain ⟨ce117, hce117, hMe117, hcc117⟩ := Kd.V_get HO_23.out z45 0 p117 (by first | exact q117 | exact dA | (have e_ := (Kd.V_reads' HO_23.out).1; omega))
                obtain ⟨ua117_2, uc117_2, rfl, ul117_2, ge117_2⟩ := k45_openF hMe117
                have hv117_2 := hcc117 2 _ rfl
                rw [add_field _ _ 2 (by omega)] at hv117_2
                replace hv117_2 := Option.some.inj (hv117_2.symm.trans hx117_2)
                injection hv117_2 with hva_ hvn_ hvc_
                rw [hva_] at ge117_2
                rw [hvc_] at ul117_2
                have HL117_2 := aK (show Kd.V k45 45 _ w.heap.size _ _ ((rd_T45 t112 0).f2) from Kd.V_mk ul117_2 ge117_2)
                clear hva_ hvn_ hvc_ ge117_2 ul117_2
                clear hcc117 hce117
                have qi117 : (0 < t112.length) = True := eq_true (by omega)
                (try rw [show ((0 : Int)).toNat = 0 from rfl] at hx117_0)
                (try rw [show 0 * 3 = 0 from rfl] at hx117_0)
                (try rw [Addr.add_zero'] at hx117_0)
                (try rw [show ((0 : Int)).toNat = 0 from rfl] at hx117_1)
                (try rw [show 0 * 3 = 0 from rfl] at hx117_1)
                (try rw [Addr.add_zero'] at hx117_1)
                (try rw [show ((0 : Int)).toNat = 0 from rfl] at hx117_2)
                (try rw [show 0 * 3 = 0 from rfl] at hx117_2)
                (try rw [Addr.add_zero'] at hx117_2)
                have HR117_2 := aK hi117_2
                have HC117_2 := aK hl117_2
                clear hi117_2 hl117_2
                replace p117 := eq_true p117
                replace q117 := eq_true q117
                have p118 : 0 ≤ (2 : Int) := (by omega)
                have q118 : 2 < (t112.length : Int) := dA
                obtain ⟨ad118, A118_2, c118_2, e118, hx118_0, hx118_1, hx118_2, hl118_2, hi118_2⟩ := at_T45 (Kd.V_reads' HO_23.out).2.2 2 p118 q118
                obtain rfl : ad117 = ad118 := (by injection e118)
                obtain ⟨ce118, hce118, hMe118, hcc118⟩ := Kd.V_get HO_23.out z45 2 p118 (by first | exact q118 | exact dA | (have e_ := (Kd.V_reads' HO_23.out).1; omega))
                obtain ⟨ua118_2, uc118_2, rfl, ul118_2, ge118_2⟩ := k45_openF hMe118
                have hv118_2 := hcc118 2 _ rfl
                rw [add_field _ _ 2 (by omega)] at hv118_2
                replace hv118_2 := Option.some.inj (hv118_2.symm.trans hx118_2)
                injection hv118_2 with hva_ hvn_ hvc_
                rw [hva_] at ge118_2
                rw [hvc_] at ul118_2
                have HL118_2 := aK (show Kd.V k45 45 _ w.heap.size _ _ ((rd_T45 t112 2).f2) from Kd.V_mk ul118_2 ge118_2)
                clear hva_ hvn_ hvc_ ge118_2 ul118_2
                clear hcc118 hce118
                (try simp only [show (2 : Int).toNat = 2 from rfl, Nat.reduceMul, Nat.reduceEqDiff, Go.Addr.add, ↓reduceIte] at hx118_0)
                (try simp only [show (2 : Int).toNat = 2 from rfl, Nat.reduceMul, Nat.reduceEqDiff, Go.Addr.add, ↓reduceIte] at hx118_1)
                (try simp only [show (2 : Int).toNat = 2 from rfl, Nat.reduceMul, Nat.reduceEqDiff, Go.Addr.add, ↓reduceIte] at hx118_2)
                have qi118 : (2 < t112.length) = True := eq_true (by omega)
                (try rw [show ((2 : Int)).toNat = 2 from rfl] at hx118_0)
                (try rw [show 2 * 3 = 6 from rfl] at hx118_0)
                (try rw [show ((2 : Int)).toNat = 2 from rfl] at hx118_1)
                (try rw [show 2 * 3 = 6 from rfl] at hx118_1)
                (try rw [show ((2 : Int)).toNat = 2 from rfl] at hx118_2)
                (try rw [show 2 * 3 = 6 from rfl] at hx118_2)
                have HR118_2 := aK hi118_2
                have HC118_2 := aK hl118_2
                clear hi118_2 hl118_2
                replace p118 := eq_true p118
                replace q118 := eq_true q118
                have p124 : 0 ≤ (1 : Int) := (by omega)
                have q124 : 1 < (t112.length : Int) := dA
                obtain ⟨ad124, A124_2, c124_2, e124, hx124_0, hx124_1, hx124_2, hl124_2, hi124_2⟩ := at_T45 (Kd.V_reads' HO_23.out).2.2 1 p124 q124
                obtain rfl : ad117 = ad124 := (by injection e124)
                obtain ⟨ce124, hce124, hMe124, hcc124⟩ := Kd.V_get HO_23.out z45 1 p124 (by first | exact q124 | exact dA | (have e_ := (Kd.V_reads' HO_23.out).1; omega))
                obtain ⟨ua124_2, uc124_2, rfl, ul124_2, ge124_2⟩ := k45_openF hMe124
                have hv124_2 := hcc124 2 _ rfl
                rw [add_field _ _ 2 (by omega)] at hv124_2
                replace hv124_2 := Option.some.inj (hv124_2.symm.trans hx124_2)
                injection hv124_2 with hva_ hvn_ hvc_
                rw [hva_] at ge124_2
                rw [hvc_] at ul124_2
                have HL124_2 := aK (show Kd.V k45 45 _ w.heap.size _ _ ((rd_T45 t112 1).f2) from Kd.V_mk ul124_2 ge124_2)
                clear hva_ hvn_ hvc_ ge124_2 ul124_2
                clear hcc124 hce124
                (try simp only [show (1 : Int).toNat = 1 from rfl, Nat.reduceMul, Nat.reduceEqDiff, Go.Addr.add, ↓reduceIte] at hx124_0)
                (try simp only [show (1 : Int).toNat = 1 from rfl, Nat.reduceMul, Nat.reduceEqDiff, Go.Addr.add, ↓reduceIte] at hx124_1)
                (try simp only [show (1 : Int).toNat = 1 from rfl, Nat.reduceMul, Nat.reduceEqDiff, Go.Addr.add, ↓reduceIte] at hx124_2)
                have qi124 : (1 < t112.length) = True := eq_true (by omega)
                (try rw [show ((1 : Int)).toNat = 1 from rfl] at hx124_0)
                (try rw [show 1 * 3 = 3 from rfl] at hx124_0)
                (try rw [show ((1 : Int)).toNat = 1 from rfl] at hx124_1)
                (try rw [show 1 * 3 = 3 from rfl] at hx124_1)
                (try rw [show ((1 : Int)).toNat = 1 from rfl] at hx124_2)
                (try rw [show 1 * 3 = 3 from rfl] at hx124_2)
                have HR124_2 := aK hi124_2
                have HC124_2 := aK hl124_2
                clear hi124_2 hl124_2
                replace p124 := eq_true p124
                replace q124 := eq_true q124
                have p125 : 0 ≤ (2 : Int) := (by omega)
                have q125 : 2 < (t112.length : Int) := dA
                obtain ⟨ad125, A125_2, c125_2, e125, hx125_0, hx125_1, hx125_2, hl125_2, hi125_2⟩ := at_T45 (Kd.V_reads' HO_23.out).2.2 2 p125 q125
                obtain rfl : ad117 = ad125 := (by injection e125)
                obtain ⟨ce125, hce125, hMe125, hcc125⟩ := Kd.V_get HO_23.out z45 2 p125 (by first | exact q125 | exact dA | (have e_ := (Kd.V_reads' HO_23.out).1; omega))
                obtain ⟨ua125_2, uc125_2, rfl, ul125_2, ge125_2⟩ := k45_openF hMe125
                have hv125_2 := hcc125 2 _ rfl
                rw [add_field _ _ 2 (by omega)] at hv125_2
                replace hv125_2 := Option.some.inj (hv125_2.symm.trans hx125_2)
                injection hv125_2 with hva_ hvn_ hvc_
                rw [hva_] at ge125_2
                rw [hvc_] at ul125_2
                have HL125_2 := aK (show Kd.V k45 45 _ w.heap.size _ _ ((rd_T45 t112 2).f2) from Kd.V_mk ul125_2 ge125_2)
                clear hva_ hvn_ hvc_ ge125_2 ul125_2
                clear hcc125 hce125
                (try simp only [show (2 : Int).toNat = 2 from rfl, Nat.reduceMul, Nat.reduceEqDiff, Go.Addr.add, ↓reduceIte] at hx125_0)
                (try simp only [show (2 : Int).toNat = 2 from rfl, Nat.reduceMul, Nat.reduceEqDiff, Go.Addr.add, ↓reduceIte] at hx125_1)
                (try simp only [show (2 : Int).toNat = 2 from rfl, Nat.reduceMul, Nat.reduceEqDiff, Go.Addr.add, ↓reduceIte] at hx125_2)
                have qi125 : (2 < t112.length) = True := eq_true (by omega)
                (try rw [show ((2 : Int)).toNat = 2 from rfl] at hx125_0)
                (try rw [show 2 * 3 = 6 from rfl] at hx125_0)
                (try rw [show ((2 : Int)).toNat = 2 from rfl] at hx125_1)
                (try rw [show 2 * 3 = 6 from rfl] at hx125_1)
                (try rw [show ((2 : Int)).toNat = 2 from rfl] at hx125_2)
                (try rw [show 2 * 3 = 6 from rfl] at hx125_2)
                have HR125_2 := aK hi125_2
                have HC125_2 := aK hl125_2
                clear hi125_2 hl125_2
                replace p125 := eq_true p125
                replace q125 := eq_true q125
                have ea_ := Option.some.inj (hx118_2.symm.trans hx125_2)
                injection ea_ with ea_ en_ ec_
                subst ea_
                subst ec_
                clear en_
                refine start_ (n := 17) (S := fun w' => w'.cell? ad117 = some (.int .i64 ((rd_T45 t112 0).f0)) ∧ w'.cell? ⟨ad117.block, ad117.off + 1, none⟩ = some (.int .i64 ((rd_T45 t112 0).f1)) ∧ w'.cell? ⟨ad117.block, ad117.off + 2, none⟩ = some (.slice A117_2 ((rd_T45 t112 0).f2).length c117_2) ∧ w'.cell? ⟨ad117.block, ad117.off + 6, none⟩ = some (.int .i64 ((rd_T45 t112 2).f0)) ∧ w'.cell? ⟨ad117.block, ad117.off + 6 + 1, none⟩ = some (.int .i64 ((rd_T45 t112 2).f1)) ∧ w'.cell? ⟨ad117.block, ad117.off + 6 + 2, none⟩ = some (.slice A118_2 ((rd_T45 t112 2).f2).length c118_2) ∧ w'.cell? ⟨ad117.block, ad117.off + 3, none⟩ = some (.int .i64 ((rd_T45 t112 1).f0)) ∧ w'.cell? ⟨ad117.block, ad117.off + 3 + 1, none⟩ = some (.int .i64 ((rd_T45 t112 1).f1)) ∧ w'.cell? ⟨ad117.block, ad117.off + 3 + 2, none⟩ = some (.slice A124_2 ((rd_T45 t112 1).f2).length c124_2) ∧ w'.cell? ⟨ad117.block, ad117.off + 6, none⟩ = some (.int .i64 ((rd_T45 t112 2).f0)) ∧ w'.cell? ⟨ad117.block, ad117.off + 6 + 1, none⟩ = some (.int .i64 ((rd_T45 t112 2).f1)) ∧ w'.cell? ⟨ad117.block, ad117.off + 6 + 2, none⟩ = some (.slice A118_2 ((rd_T45 t112 2).f2).length c118_2)) (ds := []) (bs 0 17) (by kernel_rfl) rfl rfl ⟨hx117_0, hx117_1, hx117_2, hx118_0, hx118_1, hx118_2, hx124_0, hx124_1, hx124_2, hx125_0, hx125_1, hx125_2⟩ (fun hHeld => ?_); refine with_tabW impl_comb_redex.tab10 impl_comb_redex.bits10 (fun HT_ HW_ => ?_)
                generalize wc.drew = w77 at HO_23 HO_102002 HO_107002 BK101 BK102 BK106 HB HL117_2 HL118_2 HL124_2 HL125_2 HR117_2 HR118_2 HR124_2 HR125_2 hx117_0 hx117_1 hx117_2 hx118_0 hx118_1 hx118_2 hx124_0 hx124_1 hx124_2 hx125_0 hx125_1 hx125_2 hHeld ⊢
                refine pS (i := 0) (N := some 57) (bs 1 16) (aO HT_) ?_
                refine pS (i := 1) (N := some 58) (bs 2 15) (aO HT_) ?_
                refine pS (i := 3) (N := some 60) #[true, true, false, true, false, false, false, false, false, false, false, false, false, false, false, false, false] (aO HT_) ?_
                refine pS (i := 4) (N := some 61) #[true, true, false, true, true, false, false, false, false, false, false, false, false, false, false, false, false] (aO HT_) ?_
                refine pS (i := 7) (N := some 64) #[true, true, false, true, true, false, false, true, false, false, false, false, false, false, false, false, false] (aO HT_) ?_
                refine pS (i := 8) (N := some 65) #[true, true, false, true, true, false, false, true, true, false, false, false, false, false, false, false, false] (aO HT_) ?_
                refine pS (i := 10) (N := some 67) #[true, true, false, true, true, false, false, true, true, false, true, false, false, false, false, false, false] (aO HT_) ?_
                refine pS (i := 11) (N := some 68) #[true, true, false, true, true, false, false, true, true, false, true, true, false, false, false, false, false] (aO HT_) ?_
                refine take_ (i := 2) (N := some 59) (v := ?_) (a' := ?_) #[true, true, true, true, true, false, false, true, true, false, true, true, false, false, false, false, false] rfl rfl (take_ofW HT_.out HW_.out (by kernel_rfl)) (fun _ _ _ h => h) (Or.inl ⟨by rfl, ?_⟩) hHeld ?_ ?_
                rotate_left
                ·rintro w' ⟨s0, s1, s2, s3, s4, s5, s6, s7, s8, s9, s10, s11⟩
                 go_simp
                 with_reducible rfl
                rotate_left
                ·simp only [sP, i64_w, i32_w]
                 rfl
                refine take_ (i := 5) (N := some 62) (v := ?_) (a' := ?_) #[true, true, true, true, true, true, false, true, true, false, true, true, false, false, false, false, false] rfl rfl (take_ofW HT_.out HW_.out (by kernel_rfl)) (fun _ _ _ h => h) (Or.inl ⟨by rfl, ?_⟩) hHeld ?_ ?_
                rotate_left
                ·rintro w' ⟨s0, s1, s2, s3, s4, s5, s6, s7, s8, s9, s10, s11⟩
                 go_simp
                 with_reducible rfl
                rotate_left
                ·simp only [sP, i64_w, i32_w]
                 rfl
                refine take_ (i := 9) (N := some 66) (v := ?_) (a' := ?_) #[true, true, true, true, true, true, false, true, true, true, true, true, false, false, false, false, false] rfl rfl (take_ofW HT_.out HW_.out (by kernel_rfl)) (fun _ _ _ h => h) (Or.inl ⟨by rfl, ?_⟩) hHeld ?_ ?_
                rotate_left
                ·rintro w' ⟨s0, s1, s2, s3, s4, s5, s6, s7, s8, s9, s10, s11⟩
                 go_simp
                 with_reducible rfl
                rotate_left
                ·simp only [sP, i64_w, i32_w]
                 rfl
                refine take_ (i := 12) (N := some 69) (v := ?_) (a' := ?_) #[true, true, true, true, true, true, false, true, true, true, true, true, true, false, false, false, false] rfl rfl (take_ofW HT_.out HW_.out (by kernel_rfl)) (fun _ _ _ h => h) (Or.inl ⟨by rfl, ?_⟩) hHeld ?_ ?_
                rotate_left
                ·rintro w' ⟨s0, s1, s2, s3, s4, s5, s6, s7, s8, s9, s10, s11⟩
                 go_simp
                 with_reducible rfl
                rotate_left
                ·simp only [sP, i64_w, i32_w]
                 rfl
                refine one_ (i := 6) (N := some 63) (bs 13 4) rfl rfl (one_of HT_.out (by kernel_rfl)) (by decide) (fun K hK => ?_)
                refine goes_ Tryd.func37 (by kernel_rfl) rfl #[.agg #[.int .i64 ((rd_T45 t112 0).f0), .int .i64 ((rd_T45 t112 0).f1), .slice A117_2 ((rd_T45 t112 0).f2).length c117_2], .agg #[.int .i64 ((rd_T45 t112 2).f0), .int .i64 ((rd_T45 t112 2).f1), .slice A118_2 ((rd_T45 t112 2).f2).length c118_2]] (by rfl) rfl rfl tA ?_
                with_reducible refine (impl_combApp.calls ((rd_T45 t112 0).f0) ((rd_T45 t112 0).f1) (fun k_ => ((P0_2_ k_ ∨ w.heap.size ≤ k_) ∧ (k_ ≠ gb101 ∧ (k_ ≠ gb102 ∧ k_ ≠ gb106)))) _ _ ((rd_T45 t112 0).f2) ((rd_T45 t112 2).f0) ((rd_T45 t112 2).f1) (fun k_ => ((P0_2_ k_ ∨ w.heap.size ≤ k_) ∧ (k_ ≠ gb101 ∧ (k_ ≠ gb102 ∧ k_ ≠ gb106)))) _ _ ((rd_T45 t112 2).f2) t119 t120 t121 _ ?side1 ?side2 A73.out).mono ?_
                (case side1 => exact HL117_2.out)
                (case side2 => exact HL118_2.out)
                rintro e w79 ⟨v122, rfl, ho0, hb⟩
                have HS0_ := (hb.cell (World.block_lt_of_cell? _ _ (hHeld.1))).trans (hHeld.1)
                have HS1_ := (hb.cell (World.block_lt_of_cell? _ _ (hHeld.2.1))).trans (hHeld.2.1)
                have HS2_ := (hb.cell (World.block_lt_of_cell? _ _ (hHeld.2.2.1))).trans (hHeld.2.2.1)
                have HS3_ := (hb.cell (World.block_lt_of_cell? _ _ (hHeld.2.2.2.1))).trans (hHeld.2.2.2.1)
                have HS4_ := (hb.cell (World.block_lt_of_cell? _ _ (hHeld.2.2.2.2.1))).trans (hHeld.2.2.2.2.1)
                have HS5_ := (hb.cell (World.block_lt_of_cell? _ _ (hHeld.2.2.2.2.2.1))).trans (hHeld.2.2.2.2.2.1)
                have HS6_ := (hb.cell (World.block_lt_of_cell? _ _ (hHeld.2.2.2.2.2.2.1))).trans (hHeld.2.2.2.2.2.2.1)
                have HS7_ := (hb.cell (World.block_lt_of_cell? _ _ (hHeld.2.2.2.2.2.2.2.1))).trans (hHeld.2.2.2.2.2.2.2.1)
                have HS8_ := (hb.cell (World.block_lt_of_cell? _ _ (hHeld.2.2.2.2.2.2.2.2.1))).trans (hHeld.2.2.2.2.2.2.2.2.1)
                have HS9_ := (hb.cell (World.block_lt_of_cell? _ _ (hHeld.2.2.2.2.2.2.2.2.2.1))).trans (hHeld.2.2.2.2.2.2.2.2.2.1)
                have HS10_ := (hb.cell (World.block_lt_of_cell? _ _ (hHeld.2.2.2.2.2.2.2.2.2.2.1))).trans (hHeld.2.2.2.2.2.2.2.2.2.2.1)
                have HS11_ := (hb.cell (World.block_lt_of_cell? _ _ (hHeld.2.2.2.2.2.2.2.2.2.2.2))).trans (hHeld.2.2.2.2.2.2.2.2.2.2.2)
                refine ⟨_, rfl, ?_⟩
                have n_ := aJ (aK (Kd.V_elder' HO_23.out (Kd.N_base ho0) hb)) (aJ (aK (Kd.V_elder' HO_102002.out (Kd.N_base ho0) hb)) (aJ (aK (Kd.V_elder' HO_107002.out (Kd.N_base ho0) hb)) (aJ (aK (Kd.V_elder' HL117_2.out (Kd.N_base ho0) hb)) (aJ (aK (Kd.V_elder' HL118_2.out (Kd.N_base ho0) hb)) (aJ (aK (Kd.V_elder' HL124_2.out (Kd.N_base ho0) hb)) (aJ (aK (Kd.V_elder' HL125_2.out (Kd.N_base ho0) hb)) (aJ (aK (Kd.N_lower (Kd.N_mono (ok' := fun k_ => (P0_2_ k_ ∨ w.heap.size ≤ k_) ∧ k_ ≠ gb101 ∧ k_ ≠ gb102 ∧ k_ ≠ gb106) ho0 (fun k_ hk_ => ⟨Or.elim hk_ (fun hs_ => Or.elim hs_ (fun hs_ => hs_.1) (fun hs_ => hs_.1)) (fun hn_ => (.inr (Nat.le_trans (below_size (pH HB)) hn_))), Or.elim hk_ (fun hs_ => Or.elim hs_ (fun hs_ => hs_.2.1) (fun hs_ => hs_.2.1)) (fun hn_ => (Kd.freshB BK101.out k_ hn_)), Or.elim hk_ (fun hs_ => Or.elim hs_ (fun hs_ => hs_.2.2.1) (fun hs_ => hs_.2.2.1)) (fun hn_ => (Kd.freshB BK102.out k_ hn_)), Or.elim hk_ (fun hs_ => Or.elim hs_ (fun hs_ => hs_.2.2.2) (fun hs_ => hs_.2.2.2)) (fun hn_ => (Kd.freshB BK106.out k_ hn_))⟩)) (below_size (pH HB)))) (aJ (aK (blk_below BK101.out hb)) (aJ (aK (blk_below BK102.out hb)) (aJ (aK (blk_below BK106.out hb)) (aJ (aK (Kd.C_below (by repeat (first | (with_reducible exact HR117_2.out) | (with_reducible refine Kd.C_alloc ?_ _) | (with_reducible refine Kd.C_drewN ?_ _) | (with_reducible refine Kd.C_drew ?_) | exact HR117_2.out)) hb)) (aJ (aK (Kd.C_below (by repeat (first | (with_reducible exact HR118_2.out) | (with_reducible refine Kd.C_alloc ?_ _) | (with_reducible refine Kd.C_drewN ?_ _) | (with_reducible refine Kd.C_drew ?_) | exact HR118_2.out)) hb)) (aJ (aK (Kd.C_below (by repeat (first | (with_reducible exact HR124_2.out) | (with_reducible refine Kd.C_alloc ?_ _) | (with_reducible refine Kd.C_drewN ?_ _) | (with_reducible refine Kd.C_drew ?_) | exact HR124_2.out)) hb)) (aJ (aK (Kd.C_below (by repeat (first | (with_reducible exact HR125_2.out) | (with_reducible refine Kd.C_alloc ?_ _) | (with_reducible refine Kd.C_drewN ?_ _) | (with_reducible refine Kd.C_drew ?_) | exact HR125_2.out)) hb)) (aK (below_step (pH HB) hb))))))))))))))))
                clear HO_23 HO_102002 HO_107002 HL117_2 HL118_2 HL124_2 HL125_2 BK101 BK102 BK106 HR117_2 HR118_2 HR124_2 HR125_2 HB
                obtain ⟨HO_23, HO_102002, HO_107002, HL117_2, HL118_2, HL124_2, HL125_2, HO123, BK101, BK102, BK106, HR117_2, HR118_2, HR124_2, HR125_2, HB⟩ := n_
                (try clear hb)
                (try clear hb2)
                (try clear hk)
                (try clear hi)
                (try clear ho0)
                refine hK.out _ _ ⟨HS0_, HS1_, HS2_, HS3_, HS4_, HS5_, HS6_, HS7_, HS8_, HS9_, HS10_, HS11_⟩ (fun hHeld => ?_)
                clear hK K
                refine norm_ (a' := ?_) ?_ ?_
                rotate_left
                ·show Act.put _ (some 63) _ = _
                 simp only [sP, i64_w, i32_w]
                 rfl
                refine one_ (i := 13) (N := some 70) (bs 14 3) rfl rfl (one_of HT_.out (by kernel_rfl)) (by decide) (fun K hK => ?_)
                refine goes_ Tryd.func37 (by kernel_rfl) rfl #[.agg #[.int .i64 ((rd_T45 t112 1).f0), .int .i64 ((rd_T45 t112 1).f1), .slice A124_2 ((rd_T45 t112 1).f2).length c124_2], .agg #[.int .i64 ((rd_T45 t112 2).f0), .int .i64 ((rd_T45 t112 2).f1), .slice A118_2 ((rd_T45 t112 2).f2).length c118_2]] (by rfl) rfl rfl tA ?_
                with_reducible refine (impl_combApp.calls ((rd_T45 t112 1).f0) ((rd_T45 t112 1).f1) (fun k_ => (((P0_2_ k_ ∨ w.heap.size ≤ k_) ∧ (k_ ≠ gb101 ∧ (k_ ≠ gb102 ∧ k_ ≠ gb106))) ∧ some k_ ≠ (v122 : Value).ownBlock)) _ _ ((rd_T45 t112 1).f2) ((rd_T45 t112 2).f0) ((rd_T45 t112 2).f1) (fun k_ => (((P0_2_ k_ ∨ w.heap.size ≤ k_) ∧ (k_ ≠ gb101 ∧ (k_ ≠ gb102 ∧ k_ ≠ gb106))) ∧ some k_ ≠ (v122 : Value).ownBlock)) _ _ ((rd_T45 t112 2).f2) t126 t127 t128 _ ?side1 ?side2 A75.out).mono ?_
                (case side1 => exact HL124_2.out)
                (case side2 => exact HL125_2.out)
                rintro e w80 ⟨v129, rfl, ho0, hb⟩
                have HS0_ := (hb.cell (World.block_lt_of_cell? _ _ (hHeld.1))).trans (hHeld.1)
                have HS1_ := (hb.cell (World.block_lt_of_cell? _ _ (hHeld.2.1))).trans (hHeld.2.1)
                have HS2_ := (hb.cell (World.block_lt_of_cell? _ _ (hHeld.2.2.1))).trans (hHeld.2.2.1)
                have HS3_ := (hb.cell (World.block_lt_of_cell? _ _ (hHeld.2.2.2.1))).trans (hHeld.2.2.2.1)
                have HS4_ := (hb.cell (World.block_lt_of_cell? _ _ (hHeld.2.2.2.2.1))).trans (hHeld.2.2.2.2.1)
                have HS5_ := (hb.cell (World.block_lt_of_cell? _ _ (hHeld.2.2.2.2.2.1))).trans (hHeld.2.2.2.2.2.1)
                have HS6_ := (hb.cell (World.block_lt_of_cell? _ _ (hHeld.2.2.2.2.2.2.1))).trans (hHeld.2.2.2.2.2.2.1)
                have HS7_ := (hb.cell (World.block_lt_of_cell? _ _ (hHeld.2.2.2.2.2.2.2.1))).trans (hHeld.2.2.2.2.2.2.2.1)
                have HS8_ := (hb.cell (World.block_lt_of_cell? _ _ (hHeld.2.2.2.2.2.2.2.2.1))).trans (hHeld.2.2.2.2.2.2.2.2.1)
                have HS9_ := (hb.cell (World.block_lt_of_cell? _ _ (hHeld.2.2.2.2.2.2.2.2.2.1))).trans (hHeld.2.2.2.2.2.2.2.2.2.1)
                have HS10_ := (hb.cell (World.block_lt_of_cell? _ _ (hHeld.2.2.2.2.2.2.2.2.2.2.1))).trans (hHeld.2.2.2.2.2.2.2.2.2.2.1)
                have HS11_ := (hb.cell (World.block_lt_of_cell? _ _ (hHeld.2.2.2.2.2.2.2.2.2.2.2))).trans (hHeld.2.2.2.2.2.2.2.2.2.2.2)
                refine ⟨_, rfl, ?_⟩
                have n_ := aJ (aK (Kd.V_elder' HO_23.out (Kd.N_base ho0) hb)) (aJ (aK (Kd.V_elder' HO_102002.out (Kd.N_base ho0) hb)) (aJ (aK (Kd.V_elder' HO_107002.out (Kd.N_base ho0) hb)) (aJ (aK (Kd.V_elder' HL117_2.out (Kd.N_base ho0) hb)) (aJ (aK (Kd.V_elder' HL118_2.out (Kd.N_base ho0) hb)) (aJ (aK (Kd.V_elder' HL124_2.out (Kd.N_base ho0) hb)) (aJ (aK (Kd.V_elder' HL125_2.out (Kd.N_base ho0) hb)) (aJ (aK (Kd.N_elder' HO123.out (Kd.N_base ho0) hb)) (aJ (aK (Kd.N_lower (Kd.N_mono (ok' := fun k_ => (P0_2_ k_ ∨ w.heap.size ≤ k_) ∧ some k_ ≠ (v122 : Value).ownBlock ∧ k_ ≠ gb101 ∧ k_ ≠ gb102 ∧ k_ ≠ gb106) ho0 (fun k_ hk_ => ⟨Or.elim hk_ (fun hs_ => Or.elim hs_ (fun hs_ => hs_.1.1) (fun hs_ => hs_.1.1)) (fun hn_ => (.inr (Nat.le_trans (below_size (pH HB)) hn_))), Or.elim hk_ (fun hs_ => Or.elim hs_ (fun hs_ => hs_.2) (fun hs_ => hs_.2)) (fun hn_ => (Kd.fresh' (Kd.N_lt HO123.out) k_ hn_)), Or.elim hk_ (fun hs_ => Or.elim hs_ (fun hs_ => hs_.1.2.1) (fun hs_ => hs_.1.2.1)) (fun hn_ => (Kd.freshB BK101.out k_ hn_)), Or.elim hk_ (fun hs_ => Or.elim hs_ (fun hs_ => hs_.1.2.2.1) (fun hs_ => hs_.1.2.2.1)) (fun hn_ => (Kd.freshB BK102.out k_ hn_)), Or.elim hk_ (fun hs_ => Or.elim hs_ (fun hs_ => hs_.1.2.2.2) (fun hs_ => hs_.1.2.2.2)) (fun hn_ => (Kd.freshB BK106.out k_ hn_))⟩)) (below_size (pH HB)))) (aJ (aK (blk_below BK101.out hb)) (aJ (aK (blk_below BK102.out hb)) (aJ (aK (blk_below BK106.out hb)) (aJ (aK (Kd.C_below (by repeat (first | (with_reducible exact HR117_2.out) | (with_reducible refine Kd.C_alloc ?_ _) | (with_reducible refine Kd.C_drewN ?_ _) | (with_reducible refine Kd.C_drew ?_) | exact HR117_2.out)) hb)) (aJ (aK (Kd.C_below (by repeat (first | (with_reducible exact HR118_2.out) | (with_reducible refine Kd.C_alloc ?_ _) | (with_reducible refine Kd.C_drewN ?_ _) | (with_reducible refine Kd.C_drew ?_) | exact HR118_2.out)) hb)) (aJ (aK (Kd.C_below (by repeat (first | (with_reducible exact HR124_2.out) | (with_reducible refine Kd.C_alloc ?_ _) | (with_reducible refine Kd.C_drewN ?_ _) | (with_reducible refine Kd.C_drew ?_) | exact HR124_2.out)) hb)) (aJ (aK (Kd.C_below (by repeat (first | (with_reducible exact HR125_2.out) | (with_reducible refine Kd.C_alloc ?_ _) | (with_reducible refine Kd.C_drewN ?_ _) | (with_reducible refine Kd.C_drew ?_) | exact HR125_2.out)) hb)) (aK (below_step (pH HB) hb)))))))))))))))))
                clear HO_23 HO_102002 HO_107002 HL117_2 HL118_2 HL124_2 HL125_2 HO123 BK101 BK102 BK106 HR117_2 HR118_2 HR124_2 HR125_2 HB
                obtain ⟨HO_23, HO_102002, HO_107002, HL117_2, HL118_2, HL124_2, HL125_2, HO123, HO130, BK101, BK102, BK106, HR117_2, HR118_2, HR124_2, HR125_2, HB⟩ := n_
                (try clear hb)
                (try clear hb2)
                (try clear hk)
                (try clear hi)
                (try clear ho0)
                obtain ⟨Ao81, co81, eo81⟩ := Kd.N_slice HO123.out
                (first | subst eo81 | (injection eo81 with f1_ f2_ f3_; have f4_ := f1_.symm; have f5_ := f3_.symm; clear f1_ f2_ f3_; subst f4_; subst f5_))
                obtain ⟨Ao82, co82, eo82⟩ := Kd.N_slice HO130.out
                (first | subst eo82 | (injection eo82 with f1_ f2_ f3_; have f4_ := f1_.symm; have f5_ := f3_.symm; clear f1_ f2_ f3_; subst f4_; subst f5_))
                refine hK.out _ _ ⟨HS0_, HS1_, HS2_, HS3_, HS4_, HS5_, HS6_, HS7_, HS8_, HS9_, HS10_, HS11_⟩ (fun hHeld => ?_)
                clear hK K
                refine norm_ (a' := ?_) ?_ ?_
                rotate_left
                ·show Act.put _ (some 70) _ = _
                 simp only [sP, i64_w, i32_w]
                 rfl
                refine one_ (i := 14) (N := some 71) (bs 15 2) rfl rfl (one_of HT_.out (by kernel_rfl)) (by decide) (fun K hK => ?_)
                refine goes_ Tryd.func37 (by kernel_rfl) rfl #[.agg #[.int .i64 t119, .int .i64 t120, .slice Ao81 t121.length co81], .agg #[.int .i64 t126, .int .i64 t127, .slice Ao82 t128.length co82]] (by rfl) rfl rfl tA ?_
                with_reducible refine (impl_combApp.calls t119 t120 (fun k_ => (((P0_2_ k_ ∨ w.heap.size ≤ k_) ∧ (k_ ≠ gb101 ∧ (k_ ≠ gb102 ∧ k_ ≠ gb106))) ∧ some k_ ≠ (.slice Ao82 t128.length co82 : Value).ownBlock)) _ _ t121 t126 t127 (fun k_ => ((P0_2_ k_ ∨ w.heap.size ≤ k_) ∧ (some k_ ≠ (.slice Ao81 t121.length co81 : Value).ownBlock ∧ (k_ ≠ gb101 ∧ (k_ ≠ gb102 ∧ k_ ≠ gb106))))) _ _ t128 t131 t132 t133 _ ?side1 ?side2 A76.out).mono ?_
                (case side1 => exact Kd.N_V (HO123.out))
                (case side2 => exact Kd.N_V (HO130.out))
                rintro e w83 ⟨v134, rfl, ho0, hb⟩
                have HS0_ := (hb.cell (World.block_lt_of_cell? _ _ (hHeld.1))).trans (hHeld.1)
                have HS1_ := (hb.cell (World.block_lt_of_cell? _ _ (hHeld.2.1))).trans (hHeld.2.1)
                have HS2_ := (hb.cell (World.block_lt_of_cell? _ _ (hHeld.2.2.1))).trans (hHeld.2.2.1)
                have HS3_ := (hb.cell (World.block_lt_of_cell? _ _ (hHeld.2.2.2.1))).trans (hHeld.2.2.2.1)
                have HS4_ := (hb.cell (World.block_lt_of_cell? _ _ (hHeld.2.2.2.2.1))).trans (hHeld.2.2.2.2.1)
                have HS5_ := (hb.cell (World.block_lt_of_cell? _ _ (hHeld.2.2.2.2.2.1))).trans (hHeld.2.2.2.2.2.1)
                have HS6_ := (hb.cell (World.block_lt_of_cell? _ _ (hHeld.2.2.2.2.2.2.1))).trans (hHeld.2.2.2.2.2.2.1)
                have HS7_ := (hb.cell (World.block_lt_of_cell? _ _ (hHeld.2.2.2.2.2.2.2.1))).trans (hHeld.2.2.2.2.2.2.2.1)
                have HS8_ := (hb.cell (World.block_lt_of_cell? _ _ (hHeld.2.2.2.2.2.2.2.2.1))).trans (hHeld.2.2.2.2.2.2.2.2.1)
                have HS9_ := (hb.cell (World.block_lt_of_cell? _ _ (hHeld.2.2.2.2.2.2.2.2.2.1))).trans (hHeld.2.2.2.2.2.2.2.2.2.1)
                have HS10_ := (hb.cell (World.block_lt_of_cell? _ _ (hHeld.2.2.2.2.2.2.2.2.2.2.1))).trans (hHeld.2.2.2.2.2.2.2.2.2.2.1)
                have HS11_ := (hb.cell (World.block_lt_of_cell? _ _ (hHeld.2.2.2.2.2.2.2.2.2.2.2))).trans (hHeld.2.2.2.2.2.2.2.2.2.2.2)
                refine ⟨_, rfl, ?_⟩
                have n_ := aJ (aK (Kd.V_elder' HO_23.out (Kd.N_base ho0) hb)) (aJ (aK (Kd.V_elder' HO_102002.out (Kd.N_base ho0) hb)) (aJ (aK (Kd.V_elder' HO_107002.out (Kd.N_base ho0) hb)) (aJ (aK (Kd.V_elder' HL117_2.out (Kd.N_base ho0) hb)) (aJ (aK (Kd.V_elder' HL118_2.out (Kd.N_base ho0) hb)) (aJ (aK (Kd.V_elder' HL124_2.out (Kd.N_base ho0) hb)) (aJ (aK (Kd.V_elder' HL125_2.out (Kd.N_base ho0) hb)) (aJ (aK (Kd.N_elder' HO123.out (Kd.N_base ho0) hb)) (aJ (aK (Kd.N_elder' HO130.out (Kd.N_base ho0) hb)) (aJ (aK (Kd.N_lower (Kd.N_mono (ok' := fun k_ => (P0_2_ k_ ∨ w.heap.size ≤ k_) ∧ k_ ≠ gb101 ∧ k_ ≠ gb102 ∧ k_ ≠ gb106) ho0 (fun k_ hk_ => ⟨Or.elim hk_ (fun hs_ => Or.elim hs_ (fun hs_ => hs_.1.1) (fun hs_ => hs_.1)) (fun hn_ => (.inr (Nat.le_trans (below_size (pH HB)) hn_))), Or.elim hk_ (fun hs_ => Or.elim hs_ (fun hs_ => hs_.1.2.1) (fun hs_ => hs_.2.2.1)) (fun hn_ => (Kd.freshB BK101.out k_ hn_)), Or.elim hk_ (fun hs_ => Or.elim hs_ (fun hs_ => hs_.1.2.2.1) (fun hs_ => hs_.2.2.2.1)) (fun hn_ => (Kd.freshB BK102.out k_ hn_)), Or.elim hk_ (fun hs_ => Or.elim hs_ (fun hs_ => hs_.1.2.2.2) (fun hs_ => hs_.2.2.2.2)) (fun hn_ => (Kd.freshB BK106.out k_ hn_))⟩)) (below_size (pH HB)))) (aJ (aK (blk_below BK101.out hb)) (aJ (aK (blk_below BK102.out hb)) (aJ (aK (blk_below BK106.out hb)) (aJ (aK (Kd.C_below (by repeat (first | (with_reducible exact HR117_2.out) | (with_reducible refine Kd.C_alloc ?_ _) | (with_reducible refine Kd.C_drewN ?_ _) | (with_reducible refine Kd.C_drew ?_) | exact HR117_2.out)) hb)) (aJ (aK (Kd.C_below (by repeat (first | (with_reducible exact HR118_2.out) | (with_reducible refine Kd.C_alloc ?_ _) | (with_reducible refine Kd.C_drewN ?_ _) | (with_reducible refine Kd.C_drew ?_) | exact HR118_2.out)) hb)) (aJ (aK (Kd.C_below (by repeat (first | (with_reducible exact HR124_2.out) | (with_reducible refine Kd.C_alloc ?_ _) | (with_reducible refine Kd.C_drewN ?_ _) | (with_reducible refine Kd.C_drew ?_) | exact HR124_2.out)) hb)) (aJ (aK (Kd.C_below (by repeat (first | (with_reducible exact HR125_2.out) | (with_reducible refine Kd.C_alloc ?_ _) | (with_reducible refine Kd.C_drewN ?_ _) | (with_reducible refine Kd.C_drew ?_) | exact HR125_2.out)) hb)) (aK (below_step (pH HB) hb))))))))))))))))))
                clear HO_23 HO_102002 HO_107002 HL117_2 HL118_2 HL124_2 HL125_2 HO123 HO130 BK101 BK102 BK106 HR117_2 HR118_2 HR124_2 HR125_2 HB
                obtain ⟨HO_23, HO_102002, HO_107002, HL117_2, HL118_2, HL124_2, HL125_2, HO123, HO130, HO135, BK101, BK102, BK106, HR117_2, HR118_2, HR124_2, HR125_2, HB⟩ := n_
                (try clear hb)
                (try clear hb2)
                (try clear hk)
                (try clear hi)
                (try clear ho0)
                obtain ⟨Ao86, co86, eo86⟩ := Kd.N_slice HO135.out
                (first | subst eo86 | (injection eo86 with f1_ f2_ f3_; have f4_ := f1_.symm; have f5_ := f3_.symm; clear f1_ f2_ f3_; subst f4_; subst f5_))
                refine hK.out _ _ ⟨HS0_, HS1_, HS2_, HS3_, HS4_, HS5_, HS6_, HS7_, HS8_, HS9_, HS10_, HS11_⟩ (fun hHeld => ?_)
                clear hK K
                refine norm_ (a' := ?_) ?_ ?_
                rotate_left
                ·show Act.put _ (some 71) _ = _
                 simp only [sP, i64_w, i32_w]
                 rfl
                refine one_ (i := 15) (N := none) (bs 16 1) rfl rfl (one_of HT_.out (by kernel_rfl)) (by decide) (fun K hK => ?_)
                have hs84 : w83.cell? ⟨gb102, 0, none⟩ = some (.int .i64 0) := (blk_cell BK102.out 0).trans rfl
                have hfs84 := blk_frozen BK102.out 0
                have hns84_0 := NB101_102.out
                have hns84_2 := NB106_102.out
                have hms84_0 := NB102_101.out
                have hms84_2 := NB102_106.out
                have hs85 : w83.cell? ⟨gb102, 1, none⟩ = some (.int .i64 0) := (blk_cell BK102.out 1).trans rfl
                have hfs85 := blk_frozen BK102.out 1
                have hns85_0 := NB101_102.out
                have hns85_2 := NB106_102.out
                have hms85_0 := NB102_101.out
                have hms85_2 := NB102_106.out
                have hs87 : w83.cell? ⟨gb102, 2, none⟩ = some (.slice none 0 0) := (blk_cell BK102.out 2).trans rfl
                have hfs87 := blk_frozen BK102.out 2
                have hns87_0 := NB101_102.out
                have hns87_2 := NB106_102.out
                have hms87_0 := NB102_101.out
                have hms87_2 := NB102_106.out
                refine skip_ (w1 := ?_) (by rfl) rfl ?_ ?_
                rotate_left
                ·go_simp
                 rfl
                refine hK.out _ _ ⟨(cF3 (by first | exact Kd.own_blk (Kd.V_away79 HO_23.out (fun _ hk => hk.1.1.1.2.2.1)) | (rw [add_block]; exact Kd.own_blk (Kd.V_away79 HO_23.out (fun _ hk => hk.1.1.1.2.2.1))) | (show (Addr.add _ _).block ≠ _; rw [add_block]; exact Kd.own_blk (Kd.V_away79 HO_23.out (fun _ hk => hk.1.1.1.2.2.1))) | (dsimp only; exact Kd.own_blk (Kd.V_away79 HO_23.out (fun _ hk => hk.1.1.1.2.2.1)))) (hHeld.1)), (cF3 (by first | exact Kd.own_blk (Kd.V_away79 HO_23.out (fun _ hk => hk.1.1.1.2.2.1)) | (rw [add_block]; exact Kd.own_blk (Kd.V_away79 HO_23.out (fun _ hk => hk.1.1.1.2.2.1))) | (show (Addr.add _ _).block ≠ _; rw [add_block]; exact Kd.own_blk (Kd.V_away79 HO_23.out (fun _ hk => hk.1.1.1.2.2.1))) | (dsimp only; exact Kd.own_blk (Kd.V_away79 HO_23.out (fun _ hk => hk.1.1.1.2.2.1)))) (hHeld.2.1)), (cF3 (by first | exact Kd.own_blk (Kd.V_away79 HO_23.out (fun _ hk => hk.1.1.1.2.2.1)) | (rw [add_block]; exact Kd.own_blk (Kd.V_away79 HO_23.out (fun _ hk => hk.1.1.1.2.2.1))) | (show (Addr.add _ _).block ≠ _; rw [add_block]; exact Kd.own_blk (Kd.V_away79 HO_23.out (fun _ hk => hk.1.1.1.2.2.1))) | (dsimp only; exact Kd.own_blk (Kd.V_away79 HO_23.out (fun _ hk => hk.1.1.1.2.2.1)))) (hHeld.2.2.1)), (cF3 (by first | exact Kd.own_blk (Kd.V_away79 HO_23.out (fun _ hk => hk.1.1.1.2.2.1)) | (rw [add_block]; exact Kd.own_blk (Kd.V_away79 HO_23.out (fun _ hk => hk.1.1.1.2.2.1))) | (show (Addr.add _ _).block ≠ _; rw [add_block]; exact Kd.own_blk (Kd.V_away79 HO_23.out (fun _ hk => hk.1.1.1.2.2.1))) | (dsimp only; exact Kd.own_blk (Kd.V_away79 HO_23.out (fun _ hk => hk.1.1.1.2.2.1)))) (hHeld.2.2.2.1)), (cF3 (by first | exact Kd.own_blk (Kd.V_away79 HO_23.out (fun _ hk => hk.1.1.1.2.2.1)) | (rw [add_block]; exact Kd.own_blk (Kd.V_away79 HO_23.out (fun _ hk => hk.1.1.1.2.2.1))) | (show (Addr.add _ _).block ≠ _; rw [add_block]; exact Kd.own_blk (Kd.V_away79 HO_23.out (fun _ hk => hk.1.1.1.2.2.1))) | (dsimp only; exact Kd.own_blk (Kd.V_away79 HO_23.out (fun _ hk => hk.1.1.1.2.2.1)))) (hHeld.2.2.2.2.1)), (cF3 (by first | exact Kd.own_blk (Kd.V_away79 HO_23.out (fun _ hk => hk.1.1.1.2.2.1)) | (rw [add_block]; exact Kd.own_blk (Kd.V_away79 HO_23.out (fun _ hk => hk.1.1.1.2.2.1))) | (show (Addr.add _ _).block ≠ _; rw [add_block]; exact Kd.own_blk (Kd.V_away79 HO_23.out (fun _ hk => hk.1.1.1.2.2.1))) | (dsimp only; exact Kd.own_blk (Kd.V_away79 HO_23.out (fun _ hk => hk.1.1.1.2.2.1)))) (hHeld.2.2.2.2.2.1)), (cF3 (by first | exact Kd.own_blk (Kd.V_away79 HO_23.out (fun _ hk => hk.1.1.1.2.2.1)) | (rw [add_block]; exact Kd.own_blk (Kd.V_away79 HO_23.out (fun _ hk => hk.1.1.1.2.2.1))) | (show (Addr.add _ _).block ≠ _; rw [add_block]; exact Kd.own_blk (Kd.V_away79 HO_23.out (fun _ hk => hk.1.1.1.2.2.1))) | (dsimp only; exact Kd.own_blk (Kd.V_away79 HO_23.out (fun _ hk => hk.1.1.1.2.2.1)))) (hHeld.2.2.2.2.2.2.1)), (cF3 (by first | exact Kd.own_blk (Kd.V_away79 HO_23.out (fun _ hk => hk.1.1.1.2.2.1)) | (rw [add_block]; exact Kd.own_blk (Kd.V_away79 HO_23.out (fun _ hk => hk.1.1.1.2.2.1))) | (show (Addr.add _ _).block ≠ _; rw [add_block]; exact Kd.own_blk (Kd.V_away79 HO_23.out (fun _ hk => hk.1.1.1.2.2.1))) | (dsimp only; exact Kd.own_blk (Kd.V_away79 HO_23.out (fun _ hk => hk.1.1.1.2.2.1)))) (hHeld.2.2.2.2.2.2.2.1)), (cF3 (by first | exact Kd.own_blk (Kd.V_away79 HO_23.out (fun _ hk => hk.1.1.1.2.2.1)) | (rw [add_block]; exact Kd.own_blk (Kd.V_away79 HO_23.out (fun _ hk => hk.1.1.1.2.2.1))) | (show (Addr.add _ _).block ≠ _; rw [add_block]; exact Kd.own_blk (Kd.V_away79 HO_23.out (fun _ hk => hk.1.1.1.2.2.1))) | (dsimp only; exact Kd.own_blk (Kd.V_away79 HO_23.out (fun _ hk => hk.1.1.1.2.2.1)))) (hHeld.2.2.2.2.2.2.2.2.1)), (cF3 (by first | exact Kd.own_blk (Kd.V_away79 HO_23.out (fun _ hk => hk.1.1.1.2.2.1)) | (rw [add_block]; exact Kd.own_blk (Kd.V_away79 HO_23.out (fun _ hk => hk.1.1.1.2.2.1))) | (show (Addr.add _ _).block ≠ _; rw [add_block]; exact Kd.own_blk (Kd.V_away79 HO_23.out (fun _ hk => hk.1.1.1.2.2.1))) | (dsimp only; exact Kd.own_blk (Kd.V_away79 HO_23.out (fun _ hk => hk.1.1.1.2.2.1)))) (hHeld.2.2.2.2.2.2.2.2.2.1)), (cF3 (by first | exact Kd.own_blk (Kd.V_away79 HO_23.out (fun _ hk => hk.1.1.1.2.2.1)) | (rw [add_block]; exact Kd.own_blk (Kd.V_away79 HO_23.out (fun _ hk => hk.1.1.1.2.2.1))) | (show (Addr.add _ _).block ≠ _; rw [add_block]; exact Kd.own_blk (Kd.V_away79 HO_23.out (fun _ hk => hk.1.1.1.2.2.1))) | (dsimp only; exact Kd.own_blk (Kd.V_away79 HO_23.out (fun _ hk => hk.1.1.1.2.2.1)))) (hHeld.2.2.2.2.2.2.2.2.2.2.1)), (cF3 (by first | exact Kd.own_blk (Kd.V_away79 HO_23.out (fun _ hk => hk.1.1.1.2.2.1)) | (rw [add_block]; exact Kd.own_blk (Kd.V_away79 HO_23.out (fun _ hk => hk.1.1.1.2.2.1))) | (show (Addr.add _ _).block ≠ _; rw [add_block]; exact Kd.own_blk (Kd.V_away79 HO_23.out (fun _ hk => hk.1.1.1.2.2.1))) | (dsimp only; exact Kd.own_blk (Kd.V_away79 HO_23.out (fun _ hk => hk.1.1.1.2.2.1)))) (hHeld.2.2.2.2.2.2.2.2.2.2.2))⟩ (fun hHeld => ?_)
                clear hK K
                refine pS (i := 16) (N := some 3) (bs 17 0) (aO HT_) ?_
                refine done_ (done_of HT_.out (by kernel_rfl)) ?_
                try go_wp2
                refine bodyPost_ret (results_ct rfl _ _ gb102 45 #[.int .i64 t131, .int .i64 t132, .slice Ao86 t133.length co86] (0, 0) _ rfl (p3 BK102) Tryd.underlying45 rfl (by kernel_rfl)) rfl ?_
                exact ⟨_, eW, Kd.N_V (by (with_reducible repeat (first | apply Kd.N_alloc | apply Kd.N_drewN | apply Kd.N_drew)); exact Kd.N_mono (nF3 gb102 (Kd.N_mono HO135.out (fun k_ hk => (⟨hk, hk.2.2.1⟩ : _ ∧ k_ ≠ gb102))) (fun _ hk => hk.2)) (fun _ hk => hk.1.1)), pH HB⟩
               ·rw [if_neg c74] at H
                exact absurd H (by simp)
              ·rw [if_neg c72] at H
               exact absurd H (by simp)
             ·rw [if_neg c71] at H
              exact absurd H (by simp)
            ·replace c70 := Bool.eq_false_iff.mpr c70
             subst c70
             rw [if_neg (show ¬ (false = true) by decide)] at H
             simp only [Option.some.injEq, Prod.mk.injEq] at H
             obtain ⟨rfl, rfl, rfl, rfl⟩ := H
             have hnb88 := NB102_101.out
             have hnc88 := NB101_102.out
             have hnb89 := NB102_106.out
             have hnc89 := NB106_102.out
             obtain ⟨hcz90_0, hcz90_1, hcz90_2, hfz90_0, hfz90_1, hfz90_2⟩ := cA3 BK102
             go_wp2
             refine bodyPost_ret (results_ct rfl _ _ gb102 45 #[.int .i64 0, .int .i64 0, .slice none 0 0] (0, 0) _ rfl (p3 BK102) Tryd.underlying45 rfl (by kernel_rfl)) rfl ?_
             exact ⟨_, eW, Kd.N_V (by first | exact Kd.R_nil _ _ _ _ _ | exact Kd.N_nil _ _ _ _ _ | exact Kd.V_nil _ _ _ _ _ | exact Kd.Q_nil _ _ _ _ _ | exact Kd.N_nil _ _ _ 0 _), pH HB⟩


def impl_comb_42.f (l0 : List (S45)) : Option ((List (S45))) := (some (([] : List (S45)) : List (S45))).bind fun y101 => (if y101.length + l0.length < 3518437208883 then (some (y101 ++ l0)) else (none))
set_option maxHeartbeats 8000000 in
set_option maxRecDepth 100000 in
theorem impl_comb_42.calls (P0_ : Nat → Prop) (A0 : Option Addr) (c0 : Nat) (l0 : List (S45)) (r : List (S45)) (w : World) (hs0 : Kd.V k45 45 w w.heap.size (fun k_ => P0_ k_) (.slice A0 l0.length c0) l0) (h : impl_comb_42.f l0 = some r) :
  Calls Tryd.prog 42 #[.slice A0 l0.length c0] w fun e w' => ∃ v0_ : Value, e = .returned (v0_) ∧ Kd.N k45 45 w' w.heap.size (fun k_ => (P0_ k_ ∨ w.heap.size ≤ k_)) v0_ r ∧ Below w.heap.size w w' := by
 have hnl := fun (W : World) (a : Option Addr) (n c : Nat) => Go.Lib.run_eql_slice_nil (P := Tryd.prog) W 43 45 a n c 0 0 Tryd.underlying43
 cases A0 with
 | none =>
  have hl : l0 = [] := by
   cases l0 with
   | nil => rfl
   | cons x xs => obtain ⟨ad, e, _⟩ := (Kd.V_reads' hs0).2.2.2.2 (by simp); cases e
  subst hl
  obtain rfl : [] = r := by simpa [impl_comb_42.f] using h
  go_enter Tryd.func42, Tryd.ntmps42
  go_wp2
  go_ret
  exact ⟨_, rfl, Kd.N_nil _ _ _ _ _, Below.refl _ _⟩
 | some ad0 =>
  have HO0 := aK (show Kd.V k45 45 w w.heap.size (fun k_ => (P0_ k_ ∨ w.heap.size ≤ k_)) (.slice (some ad0) l0.length c0) l0 from Kd.V_mono hs0 (fun k_ hk => .inl hk))
  have HB := aK (Below.refl w.heap.size w)
  have H : ((some (([] : List (S45)) : List (S45))).bind fun y101 => (if y101.length + l0.length < 3518437208883 then (some (y101 ++ l0)) else (none))) = some r := h
  clear h
  obtain ⟨y101, hy101⟩ : ∃ y_ : List (S45), y_ = (([] : List (S45))) := ⟨_, rfl⟩
  replace H : (if y101.length + l0.length < 3518437208883 then (some (y101 ++ l0)) else (none)) = some r := by first | (rw [hy101]; with_reducible exact H) | (have H2_ := (Option.bind_some _ _).symm.trans H; rw [hy101]; with_reducible exact H2_) | (have H2_ := (Option.bind_some _ _).symm.trans H; with_reducible exact H2_) | with_reducible exact H | (rw [hy101]; exact H) | exact H
  have Ny101 := aK hy101
  clear hy101
  by_cases c2 : y101.length + l0.length < 3518437208883
  ·rw [if_pos c2] at H
   have LMc2 := aK c2
   clear c2
   obtain ⟨y104, hy104⟩ : ∃ y_ : List (S45), y_ = (y101 ++ l0) := ⟨_, rfl⟩
   replace H : (some y104) = some r := by first | (rw [hy104]; with_reducible exact H) | (have H2_ := (Option.bind_some _ _).symm.trans H; rw [hy104]; with_reducible exact H2_) | (have H2_ := (Option.bind_some _ _).symm.trans H; with_reducible exact H2_) | with_reducible exact H | (rw [hy104]; exact H) | exact H
   have Ny104 := aK hy104
   clear hy104
   obtain rfl := Option.some.inj H
   go_enter Tryd.func42, Tryd.ntmps42
   go_wp2_with (first | ((with_reducible refine gate_dst (N := 5) rfl ?_); refine Kd.N_lit k45 _ 45 ?hg (N' := 5) ?hd (xs := ([] : List (S45))) (inner := []) (ok := (fun k_ => (P0_ k_ ∨ w.heap.size ≤ k_))) (okp := (fun k_ => (P0_ k_ ∨ w.heap.size ≤ k_))) ?hr ?hp (fun _ hk => hk) ((show ∀ k_, w.heap.size ≤ k_ → (fun k_ => (P0_ k_ ∨ w.heap.size ≤ k_)) k_ from fun k_ hk => (.inr (Nat.le_trans (below_size HB.out) hk))) _ (Nat.le_refl _)) (Below.refl _ _) (Nat.le_refl _) (by simp) ?_; (case hd => rfl); (case hg => rfl); (case hr => go_simp); (case hp => exact (Reps.none _ _)); intro v102 w3 ho4 hb hg_ hnew_; clear hg_ hnew_; (first | rw [← Ny101.out] at ho4 | (simp only [Int.reduceToNat] at ho4; rw [← Ny101.out] at ho4)); have HO103 := aK (Kd.N_lower ho4 (below_size HB.out)); replace HO0 := qe HO0 (Kd.N_base ho4) hb; replace HB := qs HB hb; clear hb ho4) | ((with_reducible refine gate_builtin (b := .append) (xs := #[.tmp 5, .tmp 6]) rfl ?_); at_builtin; refine Kd.N_append_rows k45 (w0 := w) w.heap.size rfl (.tmp 5) (.tmp 6) 43 45 (.agg #[(.int .i64 0), (.int .i64 0), (.slice none 0 0)]) 40 rfl Tryd.underlying43 info45 rfl (by decide) (by omega) v102 y101 l0 _ _ _ (fun k_ => (P0_ k_ ∨ w.heap.size ≤ k_)) (fun k_ => ((fun k_ => (P0_ k_ ∨ w.heap.size ≤ k_))) k_ ∧ some k_ ≠ (v102 : Value).ownBlock) rfl rfl ?aO ?aR (fun _ hk => hk) ?aF ?aB ?aS ?aL ?_; (case aR => exact (by skip; exact Kd.V_F (Kd.V_mono (ok' := (fun k_ => ((fun k_ => (P0_ k_ ∨ w.heap.size ≤ k_))) k_ ∧ some k_ ≠ (v102 : Value).ownBlock)) (HO0.out) (fun k_ hk => ⟨hk.1, hk.2⟩)))); (case aB => exact HB.out); (case aF => exact (fun k_ hk => (.inr (Nat.le_trans (below_size HB.out) hk)))); (case aO => exact HO103.out); (case aS => exact (below_size HB.out)); (case aL => have := LMc2.out; omega); intro v105 w5 ho hb hg hat; rw [← Ny104.out] at ho; have n0_ := aK (Kd.V_afterv (ok := (fun k_ => (P0_ k_ ∨ w.heap.size ≤ k_))) HO0.out hg hat); have n1_ := aK (hb); have HO106 := aK (ho); clear HO0; have HO0 := n0_; clear n0_; clear HB; have HB := n1_; clear n1_; clear HO103; clear ho hb hg hat))
   go_ret
   exact ⟨_, eW, by (with_reducible repeat (first | apply Kd.N_alloc | apply Kd.N_drewN | apply Kd.N_drew)); exact HO106.out, pH HB⟩
  ·rw [if_neg c2] at H
   exact absurd H (by simp)

mutual
def impl_comb_step.l0 : Nat → List (S45) → Int → Int → Int → Int → List (S45) → Option (Int × Int × (List (S45)) × Bool)
 | 0, _, _, _, _, _, _ => none
 | k + 1, x19, x20, x21, x102000, x102001, x102002 => if x21 < x20 then (if 0 ≤ x21 then (if x21 < (x19.length : Int) then ((impl_comb_step.f k ((rd_T45 x19 x21).f0) ((rd_T45 x19 x21).f1) ((rd_T45 x19 x21).f2)).bind fun bt112 => (if bt112.2.2.2 = true then ((impl_comb_42.f x102002).bind fun t119 => (if x21 < (t119.length : Int) then (some (x102000, x102001, (t119.set (x21 : Int).toNat (⟨bt112.1, bt112.2.1, bt112.2.2.1⟩ : S45)), true)) else (none))) else (impl_comb_step.l0 k x19 x20 (wrap64 (x21 + 1)) x102000 x102001 x102002))) else (none)) else (none)) else (some (0, 0, ([] : List (S45)), false))
def impl_comb_step.f : Nat → Int → Int → List (S45) → Option (Int × Int × (List (S45)) × Bool)
 | 0, _, _, _ => none
 | k + 1, a0_0, a0_1, l0_2 => (impl_comb_redex.f k a0_0 a0_1 l0_2).bind fun bt103 => (if bt103.2.2.2 = true then (some (bt103.1, bt103.2.1, bt103.2.2.1, true)) else (impl_comb_step.l0 k l0_2 (l0_2.length : Int) 0 a0_0 a0_1 l0_2))
end
set_option maxHeartbeats 8000000 in
set_option maxRecDepth 100000 in
theorem impl_comb_step.calls (k : Nat) : ∀ (a0_0 : Int) (a0_1 : Int) (P0_2_ : Nat → Prop) (A0_2 : Option Addr) (c0_2 : Nat) (l0_2 : List (S45)) (r1 : Int) (r2 : Int) (r3 : List (S45)) (r4 : Bool) (w : World) (hs0_2 : Kd.V k45 45 w w.heap.size (fun k_ => P0_2_ k_) (.slice A0_2 l0_2.length c0_2) l0_2) (h : impl_comb_step.f k a0_0 a0_1 l0_2 = some (r1, r2, r3, r4)),
  Calls Tryd.prog 23 #[.agg #[.int .i64 a0_0, .int .i64 a0_1, .slice A0_2 l0_2.length c0_2]] w fun e w' => ∃ v2_ : Value, e = .returned (.tuple #[.agg #[.int .i64 r1, .int .i64 r2, v2_], .bool r4]) ∧ Kd.V k45 45 w' w.heap.size (fun k_ => (P0_2_ k_ ∨ w.heap.size ≤ k_)) v2_ r3 ∧ Below w.heap.size w w' := by
 induction k using Nat.strongRecOn with
 | _ k ih =>
 intro a0_0 a0_1 P0_2_ A0_2 c0_2 l0_2 r1 r2 r3 r4 w hs0_2 h
 cases k with
 | zero => exact absurd h (by simp [impl_comb_step.f])
 | succ k =>
 simp only [impl_comb_step.f] at h
 have hu58 := Tryd.underlying45
 have HO0_2 := aK (show Kd.V k45 45 w w.heap.size (fun k_ => (P0_2_ k_ ∨ w.heap.size ≤ k_)) (.slice A0_2 l0_2.length c0_2) l0_2 from Kd.V_mono hs0_2 (fun k_ hk => .inl hk))
 have HB := aK (Below.refl w.heap.size w)
 have H : ((impl_comb_redex.f k a0_0 a0_1 l0_2).bind fun bt103 => (if bt103.2.2.2 = true then (some (bt103.1, bt103.2.1, bt103.2.2.1, true)) else (impl_comb_step.l0 k l0_2 (l0_2.length : Int) 0 a0_0 a0_1 l0_2))) = some (r1, r2, r3, r4) := h
 clear h
 obtain ⟨⟨t103, t104, t105, t108⟩, A2, H⟩ := oB H
 try dsimp only at H
 by_cases c3 : t108 = true
 ·subst c3
  rw [if_pos rfl] at H
  simp only [Option.some.injEq, Prod.mk.injEq] at H
  obtain ⟨rfl, rfl, rfl, rfl⟩ := H
  go_enter Tryd.func23, Tryd.ntmps23
  go_wp2_with (first | ((with_reducible refine gate_dst (N := 1) rfl ?_); refine bE (N := 1) (cs := #[.int .i64 a0_0, .int .i64 a0_1, .slice A0_2 l0_2.length c0_2]) (t := 45) ?_; intro gb101 hg w4 hbox hb; have GW101 := qw HB hg; have GE101 := qw HB hg; replace HO0_2 := qv HO0_2 hg hb; have BK101 := aK hbox; replace HB := qs HB hb; clear hb hbox hg) | ((with_reducible refine gate_dst (N := 2) rfl ?_); refine bE (N := 2) (cs := #[.int .i64 0, .int .i64 0, .slice none 0 0]) (t := 45) ?_; intro gb102 hg w5 hbox hb; have GW102 := qw HB hg; have GE102 := qw HB hg; have NB101_102 := ql BK101 hg; have NB102_101 := qg BK101 hg; replace HO0_2 := qv HO0_2 hg hb; replace BK101 := qb BK101 hb; have BK102 := aK hbox; replace HB := qs HB hb; clear hb hbox hg; have hnb6 := NB101_102.out; have hnc6 := NB102_101.out; obtain ⟨hcz7_0, hcz7_1, hcz7_2, hfz7_0, hfz7_1, hfz7_2⟩ := cA3 BK101) | ((with_reducible refine gate_callee (f := 41) rfl ?_); refine goesL_ (some 13) rfl rfl Tryd.func41 (by kernel_rfl) rfl #[.agg #[.int .i64 a0_0, .int .i64 a0_1, .slice A0_2 l0_2.length c0_2]] rfl tA ?_; (with_reducible refine (impl_comb_redex.calls k a0_0 a0_1 (fun k_ => (((P0_2_ k_ ∨ w.heap.size ≤ k_) ∧ k_ ≠ gb101) ∧ k_ ≠ gb102)) _ _ l0_2 t103 t104 t105 true _ ?side1 A2.out).mono ?_); (case side1 => exact HO0_2.out); rintro e w8 ⟨v106, rfl, ho0, hb⟩; refine ⟨_, rfl, ?_⟩; have n0_ := aK (Kd.V_below HO0_2.out hb); have HO107 := aK (Kd.V_lower (Kd.V_mono (ok' := fun k_ => (P0_2_ k_ ∨ w.heap.size ≤ k_) ∧ k_ ≠ gb101 ∧ k_ ≠ gb102) ho0 (fun k_ hk_ => ⟨Or.elim hk_ (fun hs_ => hs_.1.1) (fun hn_ => (.inr (Nat.le_trans (below_size HB.out) hn_))), Or.elim hk_ (fun hs_ => hs_.1.2) (fun hn_ => (Kd.freshB BK101.out k_ hn_)), Or.elim hk_ (fun hs_ => hs_.2) (fun hn_ => (Kd.freshB BK102.out k_ hn_))⟩)) (below_size HB.out)); replace BK101 := qb BK101 hb; replace BK102 := qb BK102 hb; clear HO0_2; have HO0_2 := n0_; clear n0_; replace HB := qs HB hb; (try clear hb); (try clear ho0)) | ((with_reducible refine gate_dst (N := 4) rfl ?_); refine bE (N := 4) (cs := #[.int .i64 0, .int .i64 0, .slice none 0 0]) (t := 45) ?_; intro gb109 hg w9 hbox hb; have GW109 := qw HB hg; have GE109 := qw HB hg; have NB101_109 := ql BK101 hg; have NB109_101 := qg BK101 hg; have NB102_109 := ql BK102 hg; have NB109_102 := qg BK102 hg; replace HO0_2 := qv HO0_2 hg hb; replace HO107 := qv HO107 hg hb; replace BK101 := qb BK101 hb; replace BK102 := qb BK102 hb; have BK109 := aK hbox; replace HB := qs HB hb; clear hb hbox hg; have hnb10 := NB109_101.out; have hnc10 := NB101_109.out; have hnb11 := NB109_102.out; have hnc11 := NB102_109.out; obtain ⟨hcz12_0, hcz12_1, hcz12_2, hfz12_0, hfz12_1, hfz12_2⟩ := cA3 BK109; obtain ⟨Ao13, co13, eo13⟩ := Kd.V_slice HO107.out; subst eo13; obtain ⟨hcz14_0, hcz14_1, hcz14_2, hfz14_0, hfz14_1, hfz14_2⟩ := cA3 BK102))
  refine bodyPost_ret (results_ct rfl _ _ gb102 45 #[.int .i64 t103, .int .i64 t104, .slice Ao13 t105.length co13] (0, 0) _ rfl (by (with_reducible repeat first | apply zN | apply zD | apply zA); refine blk_put (cs := #[.int .i64 t103, .int .i64 t104, .slice none 0 0]) ?_ 2 _ rfl; (with_reducible repeat first | apply zN | apply zD | apply zA); refine blk_put (cs := #[.int .i64 t103, .int .i64 0, .slice none 0 0]) ?_ 1 _ rfl; (with_reducible repeat first | apply zN | apply zD | apply zA); refine blk_put (cs := #[.int .i64 0, .int .i64 0, .slice none 0 0]) ?_ 0 _ rfl; (repeat first | with_reducible apply zN | with_reducible apply zD | with_reducible apply zA | refine blk_far ?_ NB102_109.out _); exact BK102.out) Tryd.underlying45 rfl (by kernel_rfl)) rfl ?_
  exact ⟨_, eW, by (with_reducible repeat (first | apply Kd.V_alloc | apply Kd.V_drewN | apply Kd.V_drew)); exact Kd.V_mono (vF3 gb102 (vF3 gb109 (Kd.V_mono (Kd.V_mono HO107.out (fun k_ hk => (⟨hk, hk.2⟩ : _ ∧ k_ ≠ gb109))) (fun k_ hk => (⟨hk, hk.1.1.2.2⟩ : _ ∧ k_ ≠ gb102))) (fun _ hk => hk.1.2)) (fun _ hk => hk.2)) (fun _ hk => hk.1.1.1.1), pH HB⟩
 ·replace c3 := Bool.eq_false_iff.mpr c3
  subst c3
  rw [if_neg (show ¬ (false = true) by decide)] at H
  have H' := aK H
  clear H
  go_enter Tryd.func23, Tryd.ntmps23
  go_wp2_with (first | ((with_reducible refine gate_dst (N := 1) rfl ?_); refine bE (N := 1) (cs := #[.int .i64 a0_0, .int .i64 a0_1, .slice A0_2 l0_2.length c0_2]) (t := 45) ?_; intro gb101 hg w15 hbox hb; have GW101 := qw HB hg; have GE101 := qw HB hg; replace HO0_2 := qv HO0_2 hg hb; have BK101 := aK hbox; replace HB := qs HB hb; clear hb hbox hg) | ((with_reducible refine gate_dst (N := 2) rfl ?_); refine bE (N := 2) (cs := #[.int .i64 0, .int .i64 0, .slice none 0 0]) (t := 45) ?_; intro gb102 hg w16 hbox hb; have GW102 := qw HB hg; have GE102 := qw HB hg; have NB101_102 := ql BK101 hg; have NB102_101 := qg BK101 hg; replace HO0_2 := qv HO0_2 hg hb; replace BK101 := qb BK101 hb; have BK102 := aK hbox; replace HB := qs HB hb; clear hb hbox hg; have hnb17 := NB101_102.out; have hnc17 := NB102_101.out; obtain ⟨hcz18_0, hcz18_1, hcz18_2, hfz18_0, hfz18_1, hfz18_2⟩ := cA3 BK101) | ((with_reducible refine gate_callee (f := 41) rfl ?_); refine goesL_ (some 13) rfl rfl Tryd.func41 (by kernel_rfl) rfl #[.agg #[.int .i64 a0_0, .int .i64 a0_1, .slice A0_2 l0_2.length c0_2]] rfl tA ?_; (with_reducible refine (impl_comb_redex.calls k a0_0 a0_1 (fun k_ => (((P0_2_ k_ ∨ w.heap.size ≤ k_) ∧ k_ ≠ gb101) ∧ k_ ≠ gb102)) _ _ l0_2 t103 t104 t105 false _ ?side1 A2.out).mono ?_); (case side1 => exact HO0_2.out); rintro e w19 ⟨v106, rfl, ho0, hb⟩; refine ⟨_, rfl, ?_⟩; have n0_ := aK (Kd.V_below HO0_2.out hb); have HO107 := aK (Kd.V_lower (Kd.V_mono (ok' := fun k_ => (P0_2_ k_ ∨ w.heap.size ≤ k_) ∧ k_ ≠ gb101 ∧ k_ ≠ gb102) ho0 (fun k_ hk_ => ⟨Or.elim hk_ (fun hs_ => hs_.1.1) (fun hn_ => (.inr (Nat.le_trans (below_size HB.out) hn_))), Or.elim hk_ (fun hs_ => hs_.1.2) (fun hn_ => (Kd.freshB BK101.out k_ hn_)), Or.elim hk_ (fun hs_ => hs_.2) (fun hn_ => (Kd.freshB BK102.out k_ hn_))⟩)) (below_size HB.out)); replace BK101 := qb BK101 hb; replace BK102 := qb BK102 hb; clear HO0_2; have HO0_2 := n0_; clear n0_; replace HB := qs HB hb; (try clear hb); (try clear ho0)) | ((with_reducible refine gate_dst (N := 4) rfl ?_); refine bE (N := 4) (cs := #[.int .i64 0, .int .i64 0, .slice none 0 0]) (t := 45) ?_; intro gb109 hg w20 hbox hb; have GW109 := qw HB hg; have GE109 := qw HB hg; have NB101_109 := ql BK101 hg; have NB109_101 := qg BK101 hg; have NB102_109 := ql BK102 hg; have NB109_102 := qg BK102 hg; replace HO0_2 := qv HO0_2 hg hb; replace HO107 := qv HO107 hg hb; replace BK101 := qb BK101 hb; replace BK102 := qb BK102 hb; have BK109 := aK hbox; replace HB := qs HB hb; clear hb hbox hg; have hnb21 := NB109_101.out; have hnc21 := NB101_109.out; have hnb22 := NB109_102.out; have hnc22 := NB102_109.out; obtain ⟨hcz23_0, hcz23_1, hcz23_2, hfz23_0, hfz23_1, hfz23_2⟩ := cA3 BK109; obtain ⟨Ao24, co24, eo24⟩ := Kd.V_slice HO107.out; subst eo24; obtain ⟨hcz25_0, hcz25_1, hcz25_2, hfz25_0, hfz25_1, hfz25_2⟩ := cA3 BK101))
  go_loopg [21] k (fun kq v21 w' => ∃ (x19_1 : List (S45)) (x21_1 : Int) (x102000_1 : Int) (x102001_1 : Int) (x102002_1 : List (S45)) (x103000_1 : Int) (x103001_1 : Int) (x110000_1 : Int) (x110001_1 : Int) (x110002_1 : List (S45)) (u102002 : Value) (u110002 : Value), v21 = .int .i64 x21_1 ∧ Aside0 (impl_comb_step.l0 kq x19_1 (l0_2.length : Int) x21_1 x102000_1 x102001_1 x102002_1 = some (r1, r2, r3, r4)) ∧ Aside0 (kq ≤ k) ∧ Aside0 (Kd.V k45 45 w' w.heap.size (fun k_ => (P0_2_ k_ ∨ w.heap.size ≤ k_) ∧ k_ ≠ gb101 ∧ k_ ≠ gb102 ∧ k_ ≠ gb109) (.slice A0_2 l0_2.length c0_2) x19_1) ∧ Aside0 (Kd.V k45 45 w' w.heap.size (fun k_ => (P0_2_ k_ ∨ w.heap.size ≤ k_) ∧ k_ ≠ gb101 ∧ k_ ≠ gb102 ∧ k_ ≠ gb109) u102002 x102002_1) ∧ Aside0 (Kd.V k45 45 w' w.heap.size (fun k_ => (P0_2_ k_ ∨ w.heap.size ≤ k_) ∧ k_ ≠ gb101 ∧ k_ ≠ gb102 ∧ k_ ≠ gb109) u110002 x110002_1) ∧ Aside0 (w'.heap[gb101]? = some (.cells #[.int .i64 x102000_1, .int .i64 x102001_1, u102002] 45 (0, 0))) ∧ Aside0 (w'.heap[gb102]? = some (.cells #[.int .i64 x103000_1, .int .i64 x103001_1, (.slice none 0 0)] 45 (0, 0))) ∧ Aside0 (w'.heap[gb109]? = some (.cells #[.int .i64 x110000_1, .int .i64 x110001_1, u110002] 45 (0, 0))) ∧ Aside0 (Below w.heap.size w w'))
  case atStart => exact ⟨(l0_2), (0), (a0_0), (a0_1), (l0_2), (0), (0), (t103), (t104), (t105), (.slice A0_2 l0_2.length c0_2), (.slice Ao24 t105.length co24), rS, H', ⟨Nat.le_refl _⟩, ⟨by (with_reducible repeat (first | apply Kd.V_alloc | apply Kd.V_drewN | apply Kd.V_drew)); exact Kd.V_mono (vF3 gb109 (Kd.V_mono HO0_2.out (fun k_ hk => (⟨hk, hk.2⟩ : _ ∧ k_ ≠ gb109))) (fun _ hk => hk.2)) (fun _ hk => ⟨hk.1.1.1.1, ⟨hk.1.1.1.2, ⟨hk.1.1.2, hk.1.2⟩⟩⟩)⟩, ⟨by (with_reducible repeat (first | apply Kd.V_alloc | apply Kd.V_drewN | apply Kd.V_drew)); exact Kd.V_mono (vF3 gb109 (Kd.V_mono HO0_2.out (fun k_ hk => (⟨hk, hk.2⟩ : _ ∧ k_ ≠ gb109))) (fun _ hk => hk.2)) (fun _ hk => ⟨hk.1.1.1.1, ⟨hk.1.1.1.2, ⟨hk.1.1.2, hk.1.2⟩⟩⟩)⟩, ⟨by (with_reducible repeat (first | apply Kd.V_alloc | apply Kd.V_drewN | apply Kd.V_drew)); exact Kd.V_mono (vF3 gb109 (Kd.V_mono HO107.out (fun k_ hk => (⟨hk, hk.2⟩ : _ ∧ k_ ≠ gb109))) (fun _ hk => hk.2)) (fun _ hk => ⟨hk.1.1.1, ⟨hk.1.1.2.1, ⟨hk.1.1.2.2, hk.1.2⟩⟩⟩)⟩, ⟨by (repeat first | with_reducible apply zN | with_reducible apply zD | with_reducible apply zA | refine blk_far ?_ NB101_109.out _); exact BK101.out⟩, ⟨by (repeat first | with_reducible apply zN | with_reducible apply zD | with_reducible apply zA | refine blk_far ?_ NB102_109.out _); exact BK102.out⟩, ⟨p3 BK109⟩, ⟨pH HB⟩⟩
  case round =>
   clear H'
   (try clear BK101); (try clear HO0_2)
   try clear c1; try clear c2; try clear p2; try clear c3; try clear c5; try clear c6; try clear c7; try clear c10; try clear c11; try clear c17; try clear c21; try clear c22; try clear hcz12_0 hcz12_1 hcz12_2 hfz12_0 hfz12_1 hfz12_2; try clear hcz14_0 hcz14_1 hcz14_2 hfz14_0 hfz14_1 hfz14_2; try clear hcz18_0 hcz18_1 hcz18_2 hfz18_0 hfz18_1 hfz18_2; try clear hcz23_0 hcz23_1 hcz23_2 hfz23_0 hfz23_1 hfz23_2; try clear hcz25_0 hcz25_1 hcz25_2 hfz25_0 hfz25_1 hfz25_2; try clear hcz7_0 hcz7_1 hcz7_2 hfz7_0 hfz7_1 hfz7_2
   obtain ⟨x19_1, x21_1, x102000_1, x102001_1, x102002_1, x103000_1, x103001_1, x110000_1, x110001_1, x110002_1, u102002, u110002, rfl, HA, HK1, HO_19, HO_102002, HO_110002, BK101, BK102, BK109, HB⟩ := hrel
   have hl19_1 := (Kd.V_reads' HO_19.out).1
   rw [hl19_1] at HO_19
   (try simp only [hl19_1])
   (try simp only [hl19_1] at BK101)
   (try simp only [hl19_1] at BK102)
   (try simp only [hl19_1] at BK109)
   (try simp only [hl19_1] at HO_102002)
   (try simp only [hl19_1] at HO_110002)
   (try simp only [hl19_1] at HA)
   cases gk with
   | zero => exact absurd HA.out (by simp [impl_comb_step.l0])
   | succ k1 =>
    have H := HA.out
    clear HA
    simp only [impl_comb_step.l0] at H
    by_cases c26 : x21_1 < (x19_1.length : Int)
    ·rw [if_pos c26] at H
     have c26b0 : decide (x21_1 < (x19_1.length : Int)) = true := decide_eq_true c26
     clear c26
     by_cases c27 : 0 ≤ x21_1
     ·rw [if_pos c27] at H
      have c27b0 : decide (0 ≤ x21_1) = true := decide_eq_true c27
      clear c27
      by_cases c28 : x21_1 < (x19_1.length : Int)
      ·rw [if_pos c28] at H
       have c28b0 : decide (x21_1 < (x19_1.length : Int)) = true := decide_eq_true c28
       clear c28
       obtain ⟨⟨t112, t113, t114, t117⟩, A29, H⟩ := oB H
       try dsimp only at H
       by_cases c30 : t117 = true
       ·subst c30
        rw [if_pos rfl] at H
        obtain ⟨t119, A31, H⟩ := oB H
        try dsimp only at H
        by_cases c32 : x21_1 < (t119.length : Int)
        ·rw [if_pos c32] at H
         have c32b0 : decide (x21_1 < (t119.length : Int)) = true := decide_eq_true c32
         clear c32
         obtain ⟨y122, hy122⟩ : ∃ y_ : List (S45), y_ = (t119.set (x21_1 : Int).toNat (⟨t112, t113, t114⟩ : S45)) := ⟨_, rfl⟩
         replace H : (some (x102000_1, x102001_1, y122, true)) = some (r1, r2, r3, r4) := by first | (rw [hy122]; with_reducible exact H) | (have H2_ := (Option.bind_some _ _).symm.trans H; rw [hy122]; with_reducible exact H2_) | (have H2_ := (Option.bind_some _ _).symm.trans H; with_reducible exact H2_) | with_reducible exact H | (rw [hy122]; exact H) | exact H
         have Ny122 := aK hy122
         clear hy122
         simp only [Option.some.injEq, Prod.mk.injEq] at H
         obtain ⟨rfl, rfl, rfl, rfl⟩ := H
         have p110 : 0 ≤ (x21_1 : Int) := dA
         have q110 : x21_1 < (x19_1.length : Int) := dA
         obtain ⟨ad110, A110_2, c110_2, e110, hx110_0, hx110_1, hx110_2, hl110_2, hi110_2⟩ := at_T45 (Kd.V_reads' HO_19.out).2.2 x21_1 p110 q110
         cases e110
         obtain ⟨ce110, hce110, hMe110, hcc110⟩ := Kd.V_get HO_19.out z45 x21_1 p110 (by first | exact q110 | exact dA | (have e_ := (Kd.V_reads' HO_19.out).1; omega))
         obtain ⟨ua110_2, uc110_2, rfl, ul110_2, ge110_2⟩ := k45_openF hMe110
         have hv110_2 := hcc110 2 _ rfl
         rw [add_field _ _ 2 (by omega)] at hv110_2
         replace hv110_2 := Option.some.inj (hv110_2.symm.trans hx110_2)
         injection hv110_2 with hva_ hvn_ hvc_
         rw [hva_] at ge110_2
         rw [hvc_] at ul110_2
         have HL110_2 := aK (show Kd.V k45 45 _ w.heap.size _ _ ((rd_T45 x19_1 x21_1).f2) from Kd.V_mk ul110_2 ge110_2)
         clear hva_ hvn_ hvc_ ge110_2 ul110_2
         clear hcc110 hce110
         have HR110_2 := aK hi110_2
         have HC110_2 := aK hl110_2
         clear hi110_2 hl110_2
         replace p110 := eq_true p110
         replace q110 := eq_true q110
         go_wp2_with (first | ((with_reducible refine gate_dst (N := 7) rfl ?_); refine bE (N := 7) (cs := #[.int .i64 0, .int .i64 0, .slice none 0 0]) (t := 45) ?_; intro gb111 hg w34 hbox hb; have n7_ := aK (Kd.C_below (by repeat (first | (with_reducible exact (Kd.V_reads' HL110_2.out).2.2) | (with_reducible refine Kd.C_alloc ?_ _) | (with_reducible refine Kd.C_drewN ?_ _) | (with_reducible refine Kd.C_drew ?_) | exact (Kd.V_reads' HL110_2.out).2.2)) hb); have GW111 := qw HB hg; have GE111 := qw HB hg; have NB101_111 := ql BK101 hg; have NB111_101 := qg BK101 hg; have NB102_111 := ql BK102 hg; have NB111_102 := qg BK102 hg; have NB109_111 := ql BK109 hg; have NB111_109 := qg BK109 hg; replace HO_19 := qv HO_19 hg hb; replace HO_102002 := qv HO_102002 hg hb; replace HO_110002 := qv HO_110002 hg hb; replace HL110_2 := qv HL110_2 hg hb; replace BK101 := qb BK101 hb; replace BK102 := qb BK102 hb; replace BK109 := qb BK109 hb; have BK111 := aK hbox; clear HR110_2; have HR110_2 := n7_; clear n7_; replace HB := qs HB hb; clear hb hbox hg; have hnb35 := NB111_101.out; have hnc35 := NB101_111.out; have hnb36 := NB111_102.out; have hnc36 := NB102_111.out; have hnb37 := NB111_109.out; have hnc37 := NB109_111.out; obtain ⟨hcz38_0, hcz38_1, hcz38_2, hfz38_0, hfz38_1, hfz38_2⟩ := cA3 BK111) | ((with_reducible refine gate_store (t := 45) (p := 7) rfl ?_); refine store_event (t := 45) (p := 7) (v := ?vo_w39) (w1 := (((w34.setCell ⟨gb111, 0, none⟩ (.int .i64 ((rd_T45 x19_1 x21_1).f0))).setCell ⟨gb111, 1, none⟩ (.int .i64 ((rd_T45 x19_1 x21_1).f1))).setCell ⟨gb111, 2, none⟩ (.slice A110_2 ((rd_T45 x19_1 x21_1).f2).length c110_2))) ?hg ?ho ?hn ?hr ?_; (case ho => rfl); (case hg => rfl); (case hn => rfl); (case hr => first | (go_simp; done) | (go_simp; rfl)); intro w39 hw; have n_ := aJ (show Aside0 (Kd.V k45 45 w39 w.heap.size (fun k_ => (P0_2_ k_ ∨ w.heap.size ≤ k_) ∧ k_ ≠ gb101 ∧ k_ ≠ gb102 ∧ k_ ≠ gb109 ∧ k_ ≠ gb111) (.slice (some ad110) x19_1.length c0_2) x19_1) from ⟨(by rw [hw]; exact (by (with_reducible repeat (first | apply Kd.V_alloc | apply Kd.V_drewN | apply Kd.V_drew)); exact Kd.V_mono (vF3 gb111 (Kd.V_mono HO_19.out (fun k_ hk => (⟨hk, hk.2⟩ : _ ∧ k_ ≠ gb111))) (fun _ hk => hk.2)) (fun _ hk => ⟨hk.1.1.1, ⟨hk.1.1.2.1, ⟨hk.1.1.2.2.1, ⟨hk.1.1.2.2.2, hk.1.2⟩⟩⟩⟩)))⟩) (aJ (show Aside0 (Kd.V k45 45 w39 w.heap.size (fun k_ => (P0_2_ k_ ∨ w.heap.size ≤ k_) ∧ k_ ≠ gb101 ∧ k_ ≠ gb102 ∧ k_ ≠ gb109 ∧ k_ ≠ gb111) u102002 x102002_1) from ⟨(by rw [hw]; exact (by (with_reducible repeat (first | apply Kd.V_alloc | apply Kd.V_drewN | apply Kd.V_drew)); exact Kd.V_mono (vF3 gb111 (Kd.V_mono HO_102002.out (fun k_ hk => (⟨hk, hk.2⟩ : _ ∧ k_ ≠ gb111))) (fun _ hk => hk.2)) (fun _ hk => ⟨hk.1.1.1, ⟨hk.1.1.2.1, ⟨hk.1.1.2.2.1, ⟨hk.1.1.2.2.2, hk.1.2⟩⟩⟩⟩)))⟩) (aJ (show Aside0 (Kd.V k45 45 w39 w.heap.size (fun k_ => (P0_2_ k_ ∨ w.heap.size ≤ k_) ∧ k_ ≠ gb101 ∧ k_ ≠ gb102 ∧ k_ ≠ gb109 ∧ k_ ≠ gb111) u110002 x110002_1) from ⟨(by rw [hw]; exact (by (with_reducible repeat (first | apply Kd.V_alloc | apply Kd.V_drewN | apply Kd.V_drew)); exact Kd.V_mono (vF3 gb111 (Kd.V_mono HO_110002.out (fun k_ hk => (⟨hk, hk.2⟩ : _ ∧ k_ ≠ gb111))) (fun _ hk => hk.2)) (fun _ hk => ⟨hk.1.1.1, ⟨hk.1.1.2.1, ⟨hk.1.1.2.2.1, ⟨hk.1.1.2.2.2, hk.1.2⟩⟩⟩⟩)))⟩) (aJ (show Aside0 (Kd.V k45 45 w39 w.heap.size (fun k_ => (P0_2_ k_ ∨ w.heap.size ≤ k_) ∧ k_ ≠ gb101 ∧ k_ ≠ gb102 ∧ k_ ≠ gb109 ∧ k_ ≠ gb111) (.slice A110_2 ((rd_T45 x19_1 x21_1).f2).length c110_2) ((rd_T45 x19_1 x21_1).f2)) from ⟨(by rw [hw]; exact (by (with_reducible repeat (first | apply Kd.V_alloc | apply Kd.V_drewN | apply Kd.V_drew)); exact Kd.V_mono (vF3 gb111 (Kd.V_mono HL110_2.out (fun k_ hk => (⟨hk, hk.2⟩ : _ ∧ k_ ≠ gb111))) (fun _ hk => hk.2)) (fun _ hk => ⟨hk.1.1.1, ⟨hk.1.1.2.1, ⟨hk.1.1.2.2.1, ⟨hk.1.1.2.2.2, hk.1.2⟩⟩⟩⟩)))⟩) (aJ (show Aside0 (w39.heap[gb101]? = some (.cells #[.int .i64 x102000_1, .int .i64 x102001_1, u102002] 45 (0, 0))) from ⟨(by rw [hw]; exact (by (repeat first | with_reducible apply zN | with_reducible apply zD | with_reducible apply zA | refine blk_far ?_ NB101_111.out _); exact BK101.out))⟩) (aJ (show Aside0 (w39.heap[gb102]? = some (.cells #[.int .i64 x103000_1, .int .i64 x103001_1, .slice none 0 0] 45 (0, 0))) from ⟨(by rw [hw]; exact (by (repeat first | with_reducible apply zN | with_reducible apply zD | with_reducible apply zA | refine blk_far ?_ NB102_111.out _); exact BK102.out))⟩) (aJ (show Aside0 (w39.heap[gb109]? = some (.cells #[.int .i64 x110000_1, .int .i64 x110001_1, u110002] 45 (0, 0))) from ⟨(by rw [hw]; exact (by (repeat first | with_reducible apply zN | with_reducible apply zD | with_reducible apply zA | refine blk_far ?_ NB109_111.out _); exact BK109.out))⟩) (aJ (show Aside0 (w39.heap[gb111]? = some (.cells #[.int .i64 ((rd_T45 x19_1 x21_1).f0), .int .i64 ((rd_T45 x19_1 x21_1).f1), .slice A110_2 ((rd_T45 x19_1 x21_1).f2).length c110_2] 45 (0, 0))) from ⟨(by rw [hw]; exact (p3 BK111))⟩) (show Aside0 (Below w.heap.size w w39) from ⟨(by rw [hw]; exact (pH HB))⟩)))))))); clear hw HO_19 HO_102002 HO_110002 HL110_2 BK101 BK102 BK109 BK111 HB; obtain ⟨HO_19, HO_102002, HO_110002, HL110_2, BK101, BK102, BK109, BK111, HB⟩ := n_; obtain ⟨hcz40_0, hcz40_1, hcz40_2, hfz40_0, hfz40_1, hfz40_2⟩ := cA3 BK111) | ((with_reducible refine gate_callee (f := 23) rfl ?_); refine goesL_ (some 28) rfl rfl Tryd.func23 (by kernel_rfl) rfl #[.agg #[.int .i64 ((rd_T45 x19_1 x21_1).f0), .int .i64 ((rd_T45 x19_1 x21_1).f1), .slice A110_2 ((rd_T45 x19_1 x21_1).f2).length c110_2]] rfl tA ?_; (with_reducible refine (ih k1 (by have := HK1.out; omega) ((rd_T45 x19_1 x21_1).f0) ((rd_T45 x19_1 x21_1).f1) (fun k_ => ((P0_2_ k_ ∨ w.heap.size ≤ k_) ∧ (k_ ≠ gb101 ∧ (k_ ≠ gb102 ∧ (k_ ≠ gb109 ∧ k_ ≠ gb111))))) _ _ ((rd_T45 x19_1 x21_1).f2) t112 t113 t114 true _ ?side1 A29.out).mono ?_); (case side1 => exact HL110_2.out); rintro e w41 ⟨v115, rfl, ho0, hb⟩; refine ⟨_, rfl, ?_⟩; have n0_ := aK (Kd.V_below HO_19.out hb); have n1_ := aK (Kd.V_below HO_102002.out hb); have n2_ := aK (Kd.V_below HO_110002.out hb); have n3_ := aK (Kd.V_below HL110_2.out hb); have HO116 := aK (Kd.V_lower (Kd.V_mono (ok' := fun k_ => (P0_2_ k_ ∨ w.heap.size ≤ k_) ∧ k_ ≠ gb101 ∧ k_ ≠ gb102 ∧ k_ ≠ gb109 ∧ k_ ≠ gb111) ho0 (fun k_ hk_ => ⟨Or.elim hk_ (fun hs_ => hs_.1) (fun hn_ => (.inr (Nat.le_trans (below_size HB.out) hn_))), Or.elim hk_ (fun hs_ => hs_.2.1) (fun hn_ => (Kd.freshB BK101.out k_ hn_)), Or.elim hk_ (fun hs_ => hs_.2.2.1) (fun hn_ => (Kd.freshB BK102.out k_ hn_)), Or.elim hk_ (fun hs_ => hs_.2.2.2.1) (fun hn_ => (Kd.freshB BK109.out k_ hn_)), Or.elim hk_ (fun hs_ => hs_.2.2.2.2) (fun hn_ => (Kd.freshB BK111.out k_ hn_))⟩)) (below_size HB.out)); have n8_ := aK (Kd.C_below (by repeat (first | (with_reducible exact (Kd.V_reads' HL110_2.out).2.2) | (with_reducible refine Kd.C_alloc ?_ _) | (with_reducible refine Kd.C_drewN ?_ _) | (with_reducible refine Kd.C_drew ?_) | exact (Kd.V_reads' HL110_2.out).2.2)) hb); replace BK101 := qb BK101 hb; replace BK102 := qb BK102 hb; replace BK109 := qb BK109 hb; replace BK111 := qb BK111 hb; clear HO_19; have HO_19 := n0_; clear n0_; clear HO_102002; have HO_102002 := n1_; clear n1_; clear HO_110002; have HO_110002 := n2_; clear n2_; clear HL110_2; have HL110_2 := n3_; clear n3_; clear HR110_2; have HR110_2 := n8_; clear n8_; replace HB := qs HB hb; (try clear hb); (try clear ho0)) | ((with_reducible refine gate_dst (N := 8) rfl ?_); refine bE (N := 8) (cs := #[.int .i64 0, .int .i64 0, .slice none 0 0]) (t := 45) ?_; intro gb118 hg w42 hbox hb; have n8_ := aK (Kd.C_below (by repeat (first | (with_reducible exact (Kd.V_reads' HL110_2.out).2.2) | (with_reducible refine Kd.C_alloc ?_ _) | (with_reducible refine Kd.C_drewN ?_ _) | (with_reducible refine Kd.C_drew ?_) | exact (Kd.V_reads' HL110_2.out).2.2)) hb); have GW118 := qw HB hg; have GE118 := qw HB hg; have NB101_118 := ql BK101 hg; have NB118_101 := qg BK101 hg; have NB102_118 := ql BK102 hg; have NB118_102 := qg BK102 hg; have NB109_118 := ql BK109 hg; have NB118_109 := qg BK109 hg; have NB111_118 := ql BK111 hg; have NB118_111 := qg BK111 hg; replace HO_19 := qv HO_19 hg hb; replace HO_102002 := qv HO_102002 hg hb; replace HO_110002 := qv HO_110002 hg hb; replace HL110_2 := qv HL110_2 hg hb; replace HO116 := qv HO116 hg hb; replace BK101 := qb BK101 hb; replace BK102 := qb BK102 hb; replace BK109 := qb BK109 hb; replace BK111 := qb BK111 hb; have BK118 := aK hbox; clear HR110_2; have HR110_2 := n8_; clear n8_; replace HB := qs HB hb; clear hb hbox hg; have hnb43 := NB118_101.out; have hnc43 := NB101_118.out; have hnb44 := NB118_102.out; have hnc44 := NB102_118.out; have hnb45 := NB118_109.out; have hnc45 := NB109_118.out; have hnb46 := NB118_111.out; have hnc46 := NB111_118.out; obtain ⟨hcz47_0, hcz47_1, hcz47_2, hfz47_0, hfz47_1, hfz47_2⟩ := cA3 BK118; obtain ⟨Ao48, co48, eo48⟩ := Kd.V_slice HO116.out; subst eo48) | ((with_reducible refine gate_store (t := 45) (p := 8) rfl ?_); refine store_event (t := 45) (p := 8) (v := ?vo_w49) (w1 := (((w42.setCell ⟨gb118, 0, none⟩ (.int .i64 t112)).setCell ⟨gb118, 1, none⟩ (.int .i64 t113)).setCell ⟨gb118, 2, none⟩ (.slice Ao48 t114.length co48))) ?hg ?ho ?hn ?hr ?_; (case ho => rfl); (case hg => rfl); (case hn => rfl); (case hr => first | (go_simp; done) | (go_simp; rfl)); intro w49 hw; have n_ := aJ (show Aside0 (Kd.V k45 45 w49 w.heap.size (fun k_ => (P0_2_ k_ ∨ w.heap.size ≤ k_) ∧ k_ ≠ gb101 ∧ k_ ≠ gb102 ∧ k_ ≠ gb109 ∧ k_ ≠ gb111 ∧ k_ ≠ gb118) (.slice (some ad110) x19_1.length c0_2) x19_1) from ⟨(by rw [hw]; exact (by (with_reducible repeat (first | apply Kd.V_alloc | apply Kd.V_drewN | apply Kd.V_drew)); exact Kd.V_mono (vF3 gb118 (Kd.V_mono HO_19.out (fun k_ hk => (⟨hk, hk.2⟩ : _ ∧ k_ ≠ gb118))) (fun _ hk => hk.2)) (fun _ hk => ⟨hk.1.1.1, ⟨hk.1.1.2.1, ⟨hk.1.1.2.2.1, ⟨hk.1.1.2.2.2.1, ⟨hk.1.1.2.2.2.2, hk.1.2⟩⟩⟩⟩⟩)))⟩) (aJ (show Aside0 (Kd.V k45 45 w49 w.heap.size (fun k_ => (P0_2_ k_ ∨ w.heap.size ≤ k_) ∧ k_ ≠ gb101 ∧ k_ ≠ gb102 ∧ k_ ≠ gb109 ∧ k_ ≠ gb111 ∧ k_ ≠ gb118) u102002 x102002_1) from ⟨(by rw [hw]; exact (by (with_reducible repeat (first | apply Kd.V_alloc | apply Kd.V_drewN | apply Kd.V_drew)); exact Kd.V_mono (vF3 gb118 (Kd.V_mono HO_102002.out (fun k_ hk => (⟨hk, hk.2⟩ : _ ∧ k_ ≠ gb118))) (fun _ hk => hk.2)) (fun _ hk => ⟨hk.1.1.1, ⟨hk.1.1.2.1, ⟨hk.1.1.2.2.1, ⟨hk.1.1.2.2.2.1, ⟨hk.1.1.2.2.2.2, hk.1.2⟩⟩⟩⟩⟩)))⟩) (aJ (show Aside0 (Kd.V k45 45 w49 w.heap.size (fun k_ => (P0_2_ k_ ∨ w.heap.size ≤ k_) ∧ k_ ≠ gb101 ∧ k_ ≠ gb102 ∧ k_ ≠ gb109 ∧ k_ ≠ gb111 ∧ k_ ≠ gb118) u110002 x110002_1) from ⟨(by rw [hw]; exact (by (with_reducible repeat (first | apply Kd.V_alloc | apply Kd.V_drewN | apply Kd.V_drew)); exact Kd.V_mono (vF3 gb118 (Kd.V_mono HO_110002.out (fun k_ hk => (⟨hk, hk.2⟩ : _ ∧ k_ ≠ gb118))) (fun _ hk => hk.2)) (fun _ hk => ⟨hk.1.1.1, ⟨hk.1.1.2.1, ⟨hk.1.1.2.2.1, ⟨hk.1.1.2.2.2.1, ⟨hk.1.1.2.2.2.2, hk.1.2⟩⟩⟩⟩⟩)))⟩) (aJ (show Aside0 (Kd.V k45 45 w49 w.heap.size (fun k_ => (P0_2_ k_ ∨ w.heap.size ≤ k_) ∧ k_ ≠ gb101 ∧ k_ ≠ gb102 ∧ k_ ≠ gb109 ∧ k_ ≠ gb111 ∧ k_ ≠ gb118) (.slice A110_2 ((rd_T45 x19_1 x21_1).f2).length c110_2) ((rd_T45 x19_1 x21_1).f2)) from ⟨(by rw [hw]; exact (by (with_reducible repeat (first | apply Kd.V_alloc | apply Kd.V_drewN | apply Kd.V_drew)); exact Kd.V_mono (vF3 gb118 (Kd.V_mono HL110_2.out (fun k_ hk => (⟨hk, hk.2⟩ : _ ∧ k_ ≠ gb118))) (fun _ hk => hk.2)) (fun _ hk => ⟨hk.1.1.1, ⟨hk.1.1.2.1, ⟨hk.1.1.2.2.1, ⟨hk.1.1.2.2.2.1, ⟨hk.1.1.2.2.2.2, hk.1.2⟩⟩⟩⟩⟩)))⟩) (aJ (show Aside0 (Kd.V k45 45 w49 w.heap.size (fun k_ => (P0_2_ k_ ∨ w.heap.size ≤ k_) ∧ k_ ≠ gb101 ∧ k_ ≠ gb102 ∧ k_ ≠ gb109 ∧ k_ ≠ gb111 ∧ k_ ≠ gb118) (.slice Ao48 t114.length co48) t114) from ⟨(by rw [hw]; exact (by (with_reducible repeat (first | apply Kd.V_alloc | apply Kd.V_drewN | apply Kd.V_drew)); exact Kd.V_mono (vF3 gb118 (Kd.V_mono HO116.out (fun k_ hk => (⟨hk, hk.2⟩ : _ ∧ k_ ≠ gb118))) (fun _ hk => hk.2)) (fun _ hk => ⟨hk.1.1.1, ⟨hk.1.1.2.1, ⟨hk.1.1.2.2.1, ⟨hk.1.1.2.2.2.1, ⟨hk.1.1.2.2.2.2, hk.1.2⟩⟩⟩⟩⟩)))⟩) (aJ (show Aside0 (w49.heap[gb101]? = some (.cells #[.int .i64 x102000_1, .int .i64 x102001_1, u102002] 45 (0, 0))) from ⟨(by rw [hw]; exact (by (repeat first | with_reducible apply zN | with_reducible apply zD | with_reducible apply zA | refine blk_far ?_ NB101_118.out _); exact BK101.out))⟩) (aJ (show Aside0 (w49.heap[gb102]? = some (.cells #[.int .i64 x103000_1, .int .i64 x103001_1, .slice none 0 0] 45 (0, 0))) from ⟨(by rw [hw]; exact (by (repeat first | with_reducible apply zN | with_reducible apply zD | with_reducible apply zA | refine blk_far ?_ NB102_118.out _); exact BK102.out))⟩) (aJ (show Aside0 (w49.heap[gb109]? = some (.cells #[.int .i64 x110000_1, .int .i64 x110001_1, u110002] 45 (0, 0))) from ⟨(by rw [hw]; exact (by (repeat first | with_reducible apply zN | with_reducible apply zD | with_reducible apply zA | refine blk_far ?_ NB109_118.out _); exact BK109.out))⟩) (aJ (show Aside0 (w49.heap[gb111]? = some (.cells #[.int .i64 ((rd_T45 x19_1 x21_1).f0), .int .i64 ((rd_T45 x19_1 x21_1).f1), .slice A110_2 ((rd_T45 x19_1 x21_1).f2).length c110_2] 45 (0, 0))) from ⟨(by rw [hw]; exact (by (repeat first | with_reducible apply zN | with_reducible apply zD | with_reducible apply zA | refine blk_far ?_ NB111_118.out _); exact BK111.out))⟩) (aJ (show Aside0 (w49.heap[gb118]? = some (.cells #[.int .i64 t112, .int .i64 t113, .slice Ao48 t114.length co48] 45 (0, 0))) from ⟨(by rw [hw]; exact (p3 BK118))⟩) (show Aside0 (Below w.heap.size w w49) from ⟨(by rw [hw]; exact (pH HB))⟩)))))))))); clear hw HO_19 HO_102002 HO_110002 HL110_2 HO116 BK101 BK102 BK109 BK111 BK118 HB; obtain ⟨HO_19, HO_102002, HO_110002, HL110_2, HO116, BK101, BK102, BK109, BK111, BK118, HB⟩ := n_; have hnb50 := NB101_102.out; have hnc50 := NB102_101.out; have hnb51 := NB101_109.out; have hnc51 := NB109_101.out; obtain ⟨hcz52_0, hcz52_1, hcz52_2, hfz52_0, hfz52_1, hfz52_2⟩ := cA3 BK101; obtain ⟨Ao53, co53, eo53⟩ := Kd.V_slice HO_102002.out; subst eo53) | ((with_reducible refine gate_callee (f := 42) rfl ?_); refine goesL_ (some 34) rfl rfl Tryd.func42 (by kernel_rfl) rfl #[.slice Ao53 x102002_1.length co53] rfl tA ?_; (with_reducible refine (impl_comb_42.calls (fun k_ => ((P0_2_ k_ ∨ w.heap.size ≤ k_) ∧ (k_ ≠ gb101 ∧ (k_ ≠ gb102 ∧ (k_ ≠ gb109 ∧ (k_ ≠ gb111 ∧ k_ ≠ gb118)))))) _ _ x102002_1 t119 _ ?side1 A31.out).mono ?_); (case side1 => exact HO_102002.out); rintro e w54 ⟨v120, rfl, ho0, hb⟩; refine ⟨_, rfl, ?_⟩; have HO121 := aK (Kd.N_lower (Kd.N_mono (ok' := fun k_ => (P0_2_ k_ ∨ w.heap.size ≤ k_) ∧ k_ ≠ gb101 ∧ k_ ≠ gb102 ∧ k_ ≠ gb109 ∧ k_ ≠ gb111 ∧ k_ ≠ gb118) ho0 (fun k_ hk_ => ⟨Or.elim hk_ (fun hs_ => hs_.1) (fun hn_ => (.inr (Nat.le_trans (below_size HB.out) hn_))), Or.elim hk_ (fun hs_ => hs_.2.1) (fun hn_ => (Kd.freshB BK101.out k_ hn_)), Or.elim hk_ (fun hs_ => hs_.2.2.1) (fun hn_ => (Kd.freshB BK102.out k_ hn_)), Or.elim hk_ (fun hs_ => hs_.2.2.2.1) (fun hn_ => (Kd.freshB BK109.out k_ hn_)), Or.elim hk_ (fun hs_ => hs_.2.2.2.2.1) (fun hn_ => (Kd.freshB BK111.out k_ hn_)), Or.elim hk_ (fun hs_ => hs_.2.2.2.2.2) (fun hn_ => (Kd.freshB BK118.out k_ hn_))⟩)) (below_size HB.out)); have n9_ := aK (Kd.C_below (by repeat (first | (with_reducible exact (Kd.V_reads' HL110_2.out).2.2) | (with_reducible refine Kd.C_alloc ?_ _) | (with_reducible refine Kd.C_drewN ?_ _) | (with_reducible refine Kd.C_drew ?_) | exact (Kd.V_reads' HL110_2.out).2.2)) hb); replace HO_19 := qe HO_19 (Kd.N_base ho0) hb; replace HO_102002 := qe HO_102002 (Kd.N_base ho0) hb; replace HO_110002 := qe HO_110002 (Kd.N_base ho0) hb; replace HL110_2 := qe HL110_2 (Kd.N_base ho0) hb; replace HO116 := qe HO116 (Kd.N_base ho0) hb; replace BK101 := qb BK101 hb; replace BK102 := qb BK102 hb; replace BK109 := qb BK109 hb; replace BK111 := qb BK111 hb; replace BK118 := qb BK118 hb; clear HR110_2; have HR110_2 := n9_; clear n9_; replace HB := qs HB hb; (try clear hb); (try clear ho0); obtain ⟨hcz55_0, hcz55_1, hcz55_2, hfz55_0, hfz55_1, hfz55_2⟩ := cA3 BK118; have p33 : 0 ≤ (x21_1 : Int) := dA; have q33 : (x21_1 : Int) < ((t119.length : Int) : Int) := dA; obtain ⟨go33, co33, eo33, gb33, gl33, cl33, HG33⟩ := Kd.N_form HO121.out (by omega); (first | cases eo33 | (injection eo33 with ea_ en_ ec_; (first | subst ea_ | (injection ea_ with ea_; subst ea_)); subst ec_; clear en_)); have GB33 := aK gb33; have GG33 := aK HG33; clear gb33 gl33 HG33; obtain ⟨ce33, hcl33, hM33, hcc33, hfr33⟩ := Kd.N_elem HO121.out z45 (x21_1 : Int) p33 q33; obtain ⟨ua33_2, uc33_2, rfl, ul33_2, ge33_2⟩ := k45_openF hM33; have hx33_0 : w54.cell? ⟨go33, (x21_1 : Int).toNat * 3, none⟩ = some (.int .i64 ((rd_T45 t119 x21_1).f0)) := hcc33 0 _ rfl; have hx33_1 : w54.cell? ⟨go33, (x21_1 : Int).toNat * 3 + 1, none⟩ = some (.int .i64 ((rd_T45 t119 x21_1).f1)) := hcc33 1 _ rfl; have hx33_2 : w54.cell? ⟨go33, (x21_1 : Int).toNat * 3 + 2, none⟩ = some (.slice ua33_2 ((rd_T45 t119 x21_1).f2).length uc33_2) := hcc33 2 _ rfl; have hf33_0 : w54.frozen? ⟨go33, (x21_1 : Int).toNat * 3, none⟩ = false := hfr33 0; have hf33_1 : w54.frozen? ⟨go33, (x21_1 : Int).toNat * 3 + 1, none⟩ = false := hfr33 1; have hf33_2 : w54.frozen? ⟨go33, (x21_1 : Int).toNat * 3 + 2, none⟩ = false := hfr33 2; clear hcl33 hcc33 hfr33 hM33; replace p33 := eq_true p33; replace q33 := eq_true q33; have HX56 := aK (show Kd.N k45 45 w54 w.heap.size (fun k_ => (P0_2_ k_ ∨ w.heap.size ≤ k_) ∧ k_ ≠ gb101 ∧ k_ ≠ gb102 ∧ k_ ≠ gb109 ∧ k_ ≠ gb111 ∧ k_ ≠ gb118) (.slice (some ⟨go33, 0, none⟩) t119.length co33) t119 from HO121.out); obtain ⟨ce56, hcl56, hM56, hcc56, hfr56⟩ := Kd.N_elem HX56.out z45 (x21_1 : Int) (dA) (by have h_ : (x21_1 : Int) < ((t119.length : Int) : Int) := dA; first | exact h_ | (have e_ := (Kd.N_reads' HO121.out).1; omega) | simpa using h_); obtain ⟨ua56_2, uc56_2, rfl, ul56_2, ge56_2⟩ := k45_openF hM56; have HP56 := Kd.N_seg HX56.out (x21_1 : Int) (dA) (by have h_ : (x21_1 : Int) < ((t119.length : Int) : Int) := dA; first | exact h_ | (have e_ := (Kd.N_reads' HO121.out).1; omega) | simpa using h_) (seg := [.int .i64 t112, .int .i64 t113, .slice Ao48 t114.length co48]) (j := 0) hcl56 hcc56 (show 3 ≤ 3 from by decide) (x' := (⟨t112, t113, t114⟩ : S45)) (k45_mkF _ _ (⟨t112, t113, t114⟩ : S45) (Kd.V_reads' (Kd.V_mono (ok' := (fun k_ => ((fun k_ => (P0_2_ k_ ∨ w.heap.size ≤ k_) ∧ k_ ≠ gb101 ∧ k_ ≠ gb102 ∧ k_ ≠ gb109 ∧ k_ ≠ gb111 ∧ k_ ≠ gb118)) k_ ∧ k_ ≠ go33)) (HO116.out) (fun k_ hk => ⟨⟨hk.1.1, ⟨hk.1.2.1, ⟨hk.1.2.2.1, ⟨hk.1.2.2.2.1, ⟨hk.1.2.2.2.2.1, hk.1.2.2.2.2.2⟩⟩⟩⟩⟩, fun e_ => (hk.2) (by rw [e_]; rfl)⟩))).2.1 (Kd.V_F (Kd.V_mono (ok' := (fun k_ => ((fun k_ => (P0_2_ k_ ∨ w.heap.size ≤ k_) ∧ k_ ≠ gb101 ∧ k_ ≠ gb102 ∧ k_ ≠ gb109 ∧ k_ ≠ gb111 ∧ k_ ≠ gb118)) k_ ∧ k_ ≠ go33)) (HO116.out) (fun k_ hk => ⟨⟨hk.1.1, ⟨hk.1.2.1, ⟨hk.1.2.2.1, ⟨hk.1.2.2.2.1, ⟨hk.1.2.2.2.2.1, hk.1.2.2.2.2.2⟩⟩⟩⟩⟩, fun e_ => (hk.2) (by rw [e_]; rfl)⟩)))) (fun _ hk => hk); have hx56_0 := hcc56 0 _ rfl; (try simp only [show (k45).sz = 3 from rfl, Nat.mul_one, Nat.add_zero] at hx56_0); have hf56_0 := hfr56 0; (try simp only [show (k45).sz = 3 from rfl, Nat.mul_one, Nat.add_zero] at hf56_0); have hx56_1 := hcc56 1 _ rfl; (try simp only [show (k45).sz = 3 from rfl, Nat.mul_one, Nat.add_zero] at hx56_1); have hf56_1 := hfr56 1; (try simp only [show (k45).sz = 3 from rfl, Nat.mul_one, Nat.add_zero] at hf56_1); have hx56_2 := hcc56 2 _ rfl; (try simp only [show (k45).sz = 3 from rfl, Nat.mul_one, Nat.add_zero] at hx56_2); have hf56_2 := hfr56 2; (try simp only [show (k45).sz = 3 from rfl, Nat.mul_one, Nat.add_zero] at hf56_2); clear hcl56 hcc56 hfr56 hM56) | ((with_reducible refine gate_store (t := 45) (p := 38) rfl ?_); refine store_event (t := 45) (p := 38) (v := ?vo_w57) (w1 := (((w54.setCell ⟨go33, (x21_1 : Int).toNat * 3, none⟩ (.int .i64 t112)).setCell ⟨go33, (x21_1 : Int).toNat * 3 + 1, none⟩ (.int .i64 t113)).setCell ⟨go33, (x21_1 : Int).toNat * 3 + 2, none⟩ (.slice Ao48 t114.length co48))) ?hg ?ho ?hn ?hr ?_; (case ho => rfl); (case hg => rfl); (case hn => rfl); (case hr => first | (go_simp; done) | (go_simp; rfl)); intro w57 hw; have hg : w54.grownBy w57 (some go33) := (by rw [hw]; exact HP56.2); have hp_ : Kd.N k45 45 w57 w.heap.size (fun k_ => (P0_2_ k_ ∨ w.heap.size ≤ k_) ∧ k_ ≠ gb101 ∧ k_ ≠ gb102 ∧ k_ ≠ gb109 ∧ k_ ≠ gb111 ∧ k_ ≠ gb118) (.slice (some ⟨go33, 0, none⟩) t119.length co33) y122 := (by rw [hw, Ny122.out]; exact HP56.1); clear HP56; have n0_ := aK (Kd.V_afterv (v := (.slice (some ⟨go33, 0, none⟩) t119.length co33)) (v1 := (.slice (some ⟨go33, 0, none⟩) t119.length co33)) (ok := (fun k_ => (P0_2_ k_ ∨ w.heap.size ≤ k_) ∧ k_ ≠ gb101 ∧ k_ ≠ gb102 ∧ k_ ≠ gb109 ∧ k_ ≠ gb111 ∧ k_ ≠ gb118)) HO_19.out hg (.inl rfl)); have n1_ := aK (Kd.V_afterv (v := (.slice (some ⟨go33, 0, none⟩) t119.length co33)) (v1 := (.slice (some ⟨go33, 0, none⟩) t119.length co33)) (ok := (fun k_ => (P0_2_ k_ ∨ w.heap.size ≤ k_) ∧ k_ ≠ gb101 ∧ k_ ≠ gb102 ∧ k_ ≠ gb109 ∧ k_ ≠ gb111 ∧ k_ ≠ gb118)) HO_102002.out hg (.inl rfl)); have n2_ := aK (Kd.V_afterv (v := (.slice (some ⟨go33, 0, none⟩) t119.length co33)) (v1 := (.slice (some ⟨go33, 0, none⟩) t119.length co33)) (ok := (fun k_ => (P0_2_ k_ ∨ w.heap.size ≤ k_) ∧ k_ ≠ gb101 ∧ k_ ≠ gb102 ∧ k_ ≠ gb109 ∧ k_ ≠ gb111 ∧ k_ ≠ gb118)) HO_110002.out hg (.inl rfl)); have n3_ := aK (blk_grown BK101.out hg (Kd.N_away HO121.out (fun _ hk => hk.2.1))); have n4_ := aK (blk_grown BK102.out hg (Kd.N_away HO121.out (fun _ hk => hk.2.2.1))); have n5_ := aK (blk_grown BK109.out hg (Kd.N_away HO121.out (fun _ hk => hk.2.2.2.1))); have n6_ := aK (Kd.V_afterv (v := (.slice (some ⟨go33, 0, none⟩) t119.length co33)) (v1 := (.slice (some ⟨go33, 0, none⟩) t119.length co33)) (ok := (fun k_ => (P0_2_ k_ ∨ w.heap.size ≤ k_) ∧ k_ ≠ gb101 ∧ k_ ≠ gb102 ∧ k_ ≠ gb109 ∧ k_ ≠ gb111 ∧ k_ ≠ gb118)) HL110_2.out hg (.inl rfl)); have n7_ := aK (blk_grown BK111.out hg (Kd.N_away HO121.out (fun _ hk => hk.2.2.2.2.1))); have n8_ := aK (Kd.V_afterv (v := (.slice (some ⟨go33, 0, none⟩) t119.length co33)) (v1 := (.slice (some ⟨go33, 0, none⟩) t119.length co33)) (ok := (fun k_ => (P0_2_ k_ ∨ w.heap.size ≤ k_) ∧ k_ ≠ gb101 ∧ k_ ≠ gb102 ∧ k_ ≠ gb109 ∧ k_ ≠ gb111 ∧ k_ ≠ gb118)) HO116.out hg (.inl rfl)); have n9_ := aK (blk_grown BK118.out hg (Kd.N_away HO121.out (fun _ hk => hk.2.2.2.2.2))); have n10_ := aK (hp_); have n11_ := aK ((by rw [hw]; exact below_set (below_set (below_set (HB.out) GB33.out) GB33.out) GB33.out : Below w.heap.size w w57)); clear HO_19; have HO_19 := n0_; clear n0_; clear HO_102002; have HO_102002 := n1_; clear n1_; clear HO_110002; have HO_110002 := n2_; clear n2_; clear BK101; have BK101 := n3_; clear n3_; clear BK102; have BK102 := n4_; clear n4_; clear BK109; have BK109 := n5_; clear n5_; clear HL110_2; have HL110_2 := n6_; clear n6_; clear BK111; have BK111 := n7_; clear n7_; clear HO116; have HO116 := n8_; clear n8_; clear BK118; have BK118 := n9_; clear n9_; clear HO121; have HO121 := n10_; clear n10_; clear HB; have HB := n11_; clear n11_; clear hg hw hp_; obtain ⟨hcz58_0, hcz58_1, hcz58_2, hfz58_0, hfz58_1, hfz58_2⟩ := cA3 BK101; have hnb59 := NB102_109.out; have hnc59 := NB109_102.out; obtain ⟨hcz60_0, hcz60_1, hcz60_2, hfz60_0, hfz60_1, hfz60_2⟩ := cA3 BK102))
         refine bodyPost_ret (results_ct rfl _ _ gb102 45 #[.int .i64 x102000_1, .int .i64 x102001_1, .slice (some ⟨go33, 0, none⟩) t119.length co33] (0, 0) _ rfl (p3 BK102) Tryd.underlying45 rfl (by kernel_rfl)) rfl ?_
         exact ⟨_, eW, Kd.N_V (by (with_reducible repeat (first | apply Kd.N_alloc | apply Kd.N_drewN | apply Kd.N_drew)); exact Kd.N_mono (nF3 gb102 (Kd.N_mono HO121.out (fun k_ hk => (⟨hk, hk.2.2.1⟩ : _ ∧ k_ ≠ gb102))) (fun _ hk => hk.2)) (fun _ hk => hk.1.1)), pH HB⟩
        ·rw [if_neg c32] at H
         exact absurd H (by simp)
       ·replace c30 := Bool.eq_false_iff.mpr c30
        subst c30
        rw [if_neg (show ¬ (false = true) by decide)] at H
        have H' := aK H
        clear H
        have p110 : 0 ≤ (x21_1 : Int) := dA
        have q110 : x21_1 < (x19_1.length : Int) := dA
        obtain ⟨ad110, A110_2, c110_2, e110, hx110_0, hx110_1, hx110_2, hl110_2, hi110_2⟩ := at_T45 (Kd.V_reads' HO_19.out).2.2 x21_1 p110 q110
        cases e110
        obtain ⟨ce110, hce110, hMe110, hcc110⟩ := Kd.V_get HO_19.out z45 x21_1 p110 (by first | exact q110 | exact dA | (have e_ := (Kd.V_reads' HO_19.out).1; omega))
        obtain ⟨ua110_2, uc110_2, rfl, ul110_2, ge110_2⟩ := k45_openF hMe110
        have hv110_2 := hcc110 2 _ rfl
        rw [add_field _ _ 2 (by omega)] at hv110_2
        replace hv110_2 := Option.some.inj (hv110_2.symm.trans hx110_2)
        injection hv110_2 with hva_ hvn_ hvc_
        rw [hva_] at ge110_2
        rw [hvc_] at ul110_2
        have HL110_2 := aK (show Kd.V k45 45 _ w.heap.size _ _ ((rd_T45 x19_1 x21_1).f2) from Kd.V_mk ul110_2 ge110_2)
        clear hva_ hvn_ hvc_ ge110_2 ul110_2
        clear hcc110 hce110
        have HR110_2 := aK hi110_2
        have HC110_2 := aK hl110_2
        clear hi110_2 hl110_2
        replace p110 := eq_true p110
        replace q110 := eq_true q110
        go_wp2_with (first | ((with_reducible refine gate_dst (N := 7) rfl ?_); refine bE (N := 7) (cs := #[.int .i64 0, .int .i64 0, .slice none 0 0]) (t := 45) ?_; intro gb111 hg w61 hbox hb; have n7_ := aK (Kd.C_below (by repeat (first | (with_reducible exact (Kd.V_reads' HL110_2.out).2.2) | (with_reducible refine Kd.C_alloc ?_ _) | (with_reducible refine Kd.C_drewN ?_ _) | (with_reducible refine Kd.C_drew ?_) | exact (Kd.V_reads' HL110_2.out).2.2)) hb); have GW111 := qw HB hg; have GE111 := qw HB hg; have NB101_111 := ql BK101 hg; have NB111_101 := qg BK101 hg; have NB102_111 := ql BK102 hg; have NB111_102 := qg BK102 hg; have NB109_111 := ql BK109 hg; have NB111_109 := qg BK109 hg; replace HO_19 := qv HO_19 hg hb; replace HO_102002 := qv HO_102002 hg hb; replace HO_110002 := qv HO_110002 hg hb; replace HL110_2 := qv HL110_2 hg hb; replace BK101 := qb BK101 hb; replace BK102 := qb BK102 hb; replace BK109 := qb BK109 hb; have BK111 := aK hbox; clear HR110_2; have HR110_2 := n7_; clear n7_; replace HB := qs HB hb; clear hb hbox hg; have hnb62 := NB111_101.out; have hnc62 := NB101_111.out; have hnb63 := NB111_102.out; have hnc63 := NB102_111.out; have hnb64 := NB111_109.out; have hnc64 := NB109_111.out; obtain ⟨hcz65_0, hcz65_1, hcz65_2, hfz65_0, hfz65_1, hfz65_2⟩ := cA3 BK111) | ((with_reducible refine gate_store (t := 45) (p := 7) rfl ?_); refine store_event (t := 45) (p := 7) (v := ?vo_w66) (w1 := (((w61.setCell ⟨gb111, 0, none⟩ (.int .i64 ((rd_T45 x19_1 x21_1).f0))).setCell ⟨gb111, 1, none⟩ (.int .i64 ((rd_T45 x19_1 x21_1).f1))).setCell ⟨gb111, 2, none⟩ (.slice A110_2 ((rd_T45 x19_1 x21_1).f2).length c110_2))) ?hg ?ho ?hn ?hr ?_; (case ho => rfl); (case hg => rfl); (case hn => rfl); (case hr => first | (go_simp; done) | (go_simp; rfl)); intro w66 hw; have n_ := aJ (show Aside0 (Kd.V k45 45 w66 w.heap.size (fun k_ => (P0_2_ k_ ∨ w.heap.size ≤ k_) ∧ k_ ≠ gb101 ∧ k_ ≠ gb102 ∧ k_ ≠ gb109 ∧ k_ ≠ gb111) (.slice (some ad110) x19_1.length c0_2) x19_1) from ⟨(by rw [hw]; exact (by (with_reducible repeat (first | apply Kd.V_alloc | apply Kd.V_drewN | apply Kd.V_drew)); exact Kd.V_mono (vF3 gb111 (Kd.V_mono HO_19.out (fun k_ hk => (⟨hk, hk.2⟩ : _ ∧ k_ ≠ gb111))) (fun _ hk => hk.2)) (fun _ hk => ⟨hk.1.1.1, ⟨hk.1.1.2.1, ⟨hk.1.1.2.2.1, ⟨hk.1.1.2.2.2, hk.1.2⟩⟩⟩⟩)))⟩) (aJ (show Aside0 (Kd.V k45 45 w66 w.heap.size (fun k_ => (P0_2_ k_ ∨ w.heap.size ≤ k_) ∧ k_ ≠ gb101 ∧ k_ ≠ gb102 ∧ k_ ≠ gb109 ∧ k_ ≠ gb111) u102002 x102002_1) from ⟨(by rw [hw]; exact (by (with_reducible repeat (first | apply Kd.V_alloc | apply Kd.V_drewN | apply Kd.V_drew)); exact Kd.V_mono (vF3 gb111 (Kd.V_mono HO_102002.out (fun k_ hk => (⟨hk, hk.2⟩ : _ ∧ k_ ≠ gb111))) (fun _ hk => hk.2)) (fun _ hk => ⟨hk.1.1.1, ⟨hk.1.1.2.1, ⟨hk.1.1.2.2.1, ⟨hk.1.1.2.2.2, hk.1.2⟩⟩⟩⟩)))⟩) (aJ (show Aside0 (Kd.V k45 45 w66 w.heap.size (fun k_ => (P0_2_ k_ ∨ w.heap.size ≤ k_) ∧ k_ ≠ gb101 ∧ k_ ≠ gb102 ∧ k_ ≠ gb109 ∧ k_ ≠ gb111) u110002 x110002_1) from ⟨(by rw [hw]; exact (by (with_reducible repeat (first | apply Kd.V_alloc | apply Kd.V_drewN | apply Kd.V_drew)); exact Kd.V_mono (vF3 gb111 (Kd.V_mono HO_110002.out (fun k_ hk => (⟨hk, hk.2⟩ : _ ∧ k_ ≠ gb111))) (fun _ hk => hk.2)) (fun _ hk => ⟨hk.1.1.1, ⟨hk.1.1.2.1, ⟨hk.1.1.2.2.1, ⟨hk.1.1.2.2.2, hk.1.2⟩⟩⟩⟩)))⟩) (aJ (show Aside0 (Kd.V k45 45 w66 w.heap.size (fun k_ => (P0_2_ k_ ∨ w.heap.size ≤ k_) ∧ k_ ≠ gb101 ∧ k_ ≠ gb102 ∧ k_ ≠ gb109 ∧ k_ ≠ gb111) (.slice A110_2 ((rd_T45 x19_1 x21_1).f2).length c110_2) ((rd_T45 x19_1 x21_1).f2)) from ⟨(by rw [hw]; exact (by (with_reducible repeat (first | apply Kd.V_alloc | apply Kd.V_drewN | apply Kd.V_drew)); exact Kd.V_mono (vF3 gb111 (Kd.V_mono HL110_2.out (fun k_ hk => (⟨hk, hk.2⟩ : _ ∧ k_ ≠ gb111))) (fun _ hk => hk.2)) (fun _ hk => ⟨hk.1.1.1, ⟨hk.1.1.2.1, ⟨hk.1.1.2.2.1, ⟨hk.1.1.2.2.2, hk.1.2⟩⟩⟩⟩)))⟩) (aJ (show Aside0 (w66.heap[gb101]? = some (.cells #[.int .i64 x102000_1, .int .i64 x102001_1, u102002] 45 (0, 0))) from ⟨(by rw [hw]; exact (by (repeat first | with_reducible apply zN | with_reducible apply zD | with_reducible apply zA | refine blk_far ?_ NB101_111.out _); exact BK101.out))⟩) (aJ (show Aside0 (w66.heap[gb102]? = some (.cells #[.int .i64 x103000_1, .int .i64 x103001_1, .slice none 0 0] 45 (0, 0))) from ⟨(by rw [hw]; exact (by (repeat first | with_reducible apply zN | with_reducible apply zD | with_reducible apply zA | refine blk_far ?_ NB102_111.out _); exact BK102.out))⟩) (aJ (show Aside0 (w66.heap[gb109]? = some (.cells #[.int .i64 x110000_1, .int .i64 x110001_1, u110002] 45 (0, 0))) from ⟨(by rw [hw]; exact (by (repeat first | with_reducible apply zN | with_reducible apply zD | with_reducible apply zA | refine blk_far ?_ NB109_111.out _); exact BK109.out))⟩) (aJ (show Aside0 (w66.heap[gb111]? = some (.cells #[.int .i64 ((rd_T45 x19_1 x21_1).f0), .int .i64 ((rd_T45 x19_1 x21_1).f1), .slice A110_2 ((rd_T45 x19_1 x21_1).f2).length c110_2] 45 (0, 0))) from ⟨(by rw [hw]; exact (p3 BK111))⟩) (show Aside0 (Below w.heap.size w w66) from ⟨(by rw [hw]; exact (pH HB))⟩)))))))); clear hw HO_19 HO_102002 HO_110002 HL110_2 BK101 BK102 BK109 BK111 HB; obtain ⟨HO_19, HO_102002, HO_110002, HL110_2, BK101, BK102, BK109, BK111, HB⟩ := n_; obtain ⟨hcz67_0, hcz67_1, hcz67_2, hfz67_0, hfz67_1, hfz67_2⟩ := cA3 BK111) | ((with_reducible refine gate_callee (f := 23) rfl ?_); refine goesL_ (some 28) rfl rfl Tryd.func23 (by kernel_rfl) rfl #[.agg #[.int .i64 ((rd_T45 x19_1 x21_1).f0), .int .i64 ((rd_T45 x19_1 x21_1).f1), .slice A110_2 ((rd_T45 x19_1 x21_1).f2).length c110_2]] rfl tA ?_; (with_reducible refine (ih k1 (by have := HK1.out; omega) ((rd_T45 x19_1 x21_1).f0) ((rd_T45 x19_1 x21_1).f1) (fun k_ => ((P0_2_ k_ ∨ w.heap.size ≤ k_) ∧ (k_ ≠ gb101 ∧ (k_ ≠ gb102 ∧ (k_ ≠ gb109 ∧ k_ ≠ gb111))))) _ _ ((rd_T45 x19_1 x21_1).f2) t112 t113 t114 false _ ?side1 A29.out).mono ?_); (case side1 => exact HL110_2.out); rintro e w68 ⟨v115, rfl, ho0, hb⟩; refine ⟨_, rfl, ?_⟩; have n0_ := aK (Kd.V_below HO_19.out hb); have n1_ := aK (Kd.V_below HO_102002.out hb); have n2_ := aK (Kd.V_below HO_110002.out hb); have n3_ := aK (Kd.V_below HL110_2.out hb); have HO116 := aK (Kd.V_lower (Kd.V_mono (ok' := fun k_ => (P0_2_ k_ ∨ w.heap.size ≤ k_) ∧ k_ ≠ gb101 ∧ k_ ≠ gb102 ∧ k_ ≠ gb109 ∧ k_ ≠ gb111) ho0 (fun k_ hk_ => ⟨Or.elim hk_ (fun hs_ => hs_.1) (fun hn_ => (.inr (Nat.le_trans (below_size HB.out) hn_))), Or.elim hk_ (fun hs_ => hs_.2.1) (fun hn_ => (Kd.freshB BK101.out k_ hn_)), Or.elim hk_ (fun hs_ => hs_.2.2.1) (fun hn_ => (Kd.freshB BK102.out k_ hn_)), Or.elim hk_ (fun hs_ => hs_.2.2.2.1) (fun hn_ => (Kd.freshB BK109.out k_ hn_)), Or.elim hk_ (fun hs_ => hs_.2.2.2.2) (fun hn_ => (Kd.freshB BK111.out k_ hn_))⟩)) (below_size HB.out)); have n8_ := aK (Kd.C_below (by repeat (first | (with_reducible exact (Kd.V_reads' HL110_2.out).2.2) | (with_reducible refine Kd.C_alloc ?_ _) | (with_reducible refine Kd.C_drewN ?_ _) | (with_reducible refine Kd.C_drew ?_) | exact (Kd.V_reads' HL110_2.out).2.2)) hb); replace BK101 := qb BK101 hb; replace BK102 := qb BK102 hb; replace BK109 := qb BK109 hb; replace BK111 := qb BK111 hb; clear HO_19; have HO_19 := n0_; clear n0_; clear HO_102002; have HO_102002 := n1_; clear n1_; clear HO_110002; have HO_110002 := n2_; clear n2_; clear HL110_2; have HL110_2 := n3_; clear n3_; clear HR110_2; have HR110_2 := n8_; clear n8_; replace HB := qs HB hb; (try clear hb); (try clear ho0)) | ((with_reducible refine gate_dst (N := 8) rfl ?_); refine bE (N := 8) (cs := #[.int .i64 0, .int .i64 0, .slice none 0 0]) (t := 45) ?_; intro gb118 hg w69 hbox hb; have n8_ := aK (Kd.C_below (by repeat (first | (with_reducible exact (Kd.V_reads' HL110_2.out).2.2) | (with_reducible refine Kd.C_alloc ?_ _) | (with_reducible refine Kd.C_drewN ?_ _) | (with_reducible refine Kd.C_drew ?_) | exact (Kd.V_reads' HL110_2.out).2.2)) hb); have GW118 := qw HB hg; have GE118 := qw HB hg; have NB101_118 := ql BK101 hg; have NB118_101 := qg BK101 hg; have NB102_118 := ql BK102 hg; have NB118_102 := qg BK102 hg; have NB109_118 := ql BK109 hg; have NB118_109 := qg BK109 hg; have NB111_118 := ql BK111 hg; have NB118_111 := qg BK111 hg; replace HO_19 := qv HO_19 hg hb; replace HO_102002 := qv HO_102002 hg hb; replace HO_110002 := qv HO_110002 hg hb; replace HL110_2 := qv HL110_2 hg hb; replace HO116 := qv HO116 hg hb; replace BK101 := qb BK101 hb; replace BK102 := qb BK102 hb; replace BK109 := qb BK109 hb; replace BK111 := qb BK111 hb; have BK118 := aK hbox; clear HR110_2; have HR110_2 := n8_; clear n8_; replace HB := qs HB hb; clear hb hbox hg; have hnb70 := NB118_101.out; have hnc70 := NB101_118.out; have hnb71 := NB118_102.out; have hnc71 := NB102_118.out; have hnb72 := NB118_109.out; have hnc72 := NB109_118.out; have hnb73 := NB118_111.out; have hnc73 := NB111_118.out; obtain ⟨hcz74_0, hcz74_1, hcz74_2, hfz74_0, hfz74_1, hfz74_2⟩ := cA3 BK118; obtain ⟨Ao75, co75, eo75⟩ := Kd.V_slice HO116.out; subst eo75))
        (try simp only [← hl19_1])
        go_roundg k1
        case measure => have := HK1.out; omega
        case rel => exact ⟨(x19_1), (wrap64 (x21_1 + 1)), (x102000_1), (x102001_1), (x102002_1), (x103000_1), (x103001_1), (x110000_1), (x110001_1), (x110002_1), (u102002), (u110002), rS, (by rw [hl19_1]; exact H'), ⟨by have := HK1.out; omega⟩, ⟨by (try simp only [hl19_1]); (with_reducible repeat (first | apply Kd.V_alloc | apply Kd.V_drewN | apply Kd.V_drew)); exact Kd.V_mono (vF3 gb118 (Kd.V_mono HO_19.out (fun k_ hk => (⟨hk, hk.2⟩ : _ ∧ k_ ≠ gb118))) (fun _ hk => hk.2)) (fun _ hk => ⟨hk.1.1.1, ⟨hk.1.1.2.1, ⟨hk.1.1.2.2.1, hk.1.1.2.2.2.1⟩⟩⟩)⟩, ⟨by (try simp only [hl19_1]); (with_reducible repeat (first | apply Kd.V_alloc | apply Kd.V_drewN | apply Kd.V_drew)); exact Kd.V_mono (vF3 gb118 (Kd.V_mono HO_102002.out (fun k_ hk => (⟨hk, hk.2⟩ : _ ∧ k_ ≠ gb118))) (fun _ hk => hk.2)) (fun _ hk => ⟨hk.1.1.1, ⟨hk.1.1.2.1, ⟨hk.1.1.2.2.1, hk.1.1.2.2.2.1⟩⟩⟩)⟩, ⟨by (try simp only [hl19_1]); (with_reducible repeat (first | apply Kd.V_alloc | apply Kd.V_drewN | apply Kd.V_drew)); exact Kd.V_mono (vF3 gb118 (Kd.V_mono HO_110002.out (fun k_ hk => (⟨hk, hk.2⟩ : _ ∧ k_ ≠ gb118))) (fun _ hk => hk.2)) (fun _ hk => ⟨hk.1.1.1, ⟨hk.1.1.2.1, ⟨hk.1.1.2.2.1, hk.1.1.2.2.2.1⟩⟩⟩)⟩, ⟨by (try simp only [hl19_1]); (repeat first | with_reducible apply zN | with_reducible apply zD | with_reducible apply zA | refine blk_far ?_ NB101_118.out _); exact BK101.out⟩, ⟨by (try simp only [hl19_1]); (repeat first | with_reducible apply zN | with_reducible apply zD | with_reducible apply zA | refine blk_far ?_ NB102_118.out _); exact BK102.out⟩, ⟨by (try simp only [hl19_1]); (repeat first | with_reducible apply zN | with_reducible apply zD | with_reducible apply zA | refine blk_far ?_ NB109_118.out _); exact BK109.out⟩, ⟨pH HB⟩⟩
      ·rw [if_neg c28] at H
       exact absurd H (by simp)
     ·rw [if_neg c27] at H
      exact absurd H (by simp)
    ·rw [if_neg c26] at H
     have c26b0 : decide (x21_1 < (x19_1.length : Int)) = false := decide_eq_false c26
     clear c26
     simp only [Option.some.injEq, Prod.mk.injEq] at H
     obtain ⟨rfl, rfl, rfl, rfl⟩ := H
     have hnb76 := NB102_101.out
     have hnc76 := NB101_102.out
     have hnb77 := NB102_109.out
     have hnc77 := NB109_102.out
     obtain ⟨hcz78_0, hcz78_1, hcz78_2, hfz78_0, hfz78_1, hfz78_2⟩ := cA3 BK102
     go_wp2
     refine bodyPost_ret (results_ct rfl _ _ gb102 45 #[.int .i64 0, .int .i64 0, .slice none 0 0] (0, 0) _ rfl (p3 BK102) Tryd.underlying45 rfl (by kernel_rfl)) rfl ?_
     exact ⟨_, eW, Kd.N_V (by first | exact Kd.R_nil _ _ _ _ _ | exact Kd.N_nil _ _ _ _ _ | exact Kd.V_nil _ _ _ _ _ | exact Kd.Q_nil _ _ _ _ _ | exact Kd.N_nil _ _ _ 0 _), pH HB⟩


def impl_StepComb.f (k : Nat) (l0 : List (S65)) : Option ((List (S65)) × Bool) := (impl_combRoot.f k l0).bind fun bt101 => (if bt101.2.2.2 = true then ((impl_comb_step.f k bt101.1 bt101.2.1 bt101.2.2.1).bind fun bt108 => (if bt108.2.2.2 = true then ((impl_comb_goodNodes.f k bt108.1 bt108.2.1 bt108.2.2.1).bind fun bt115 => (some (bt115.1, bt115.2))) else (some (([] : List (S65)), false)))) else (some (([] : List (S65)), false)))
set_option maxHeartbeats 8000000 in
set_option maxRecDepth 100000 in
theorem impl_StepComb.calls (k : Nat) (A0 : Option Addr) (c0 : Nat) (l0 : List (S65)) (r1 : List (S65)) (r2 : Bool) (w : World) (hr0 : Kd.C k65 w A0 l0.length l0) (hc0 : l0.length ≤ c0) (h : impl_StepComb.f k l0 = some (r1, r2)) :
  Calls Tryd.prog 11 #[.slice A0 l0.length c0] w fun e w' => ∃ v0_ : Value, e = .returned (.tuple #[v0_, .bool r2]) ∧ Kd.R k65 65 w' w.heap.size (fun _ => True) v0_ r1 ∧ Below w.heap.size w w' := by
 have hu45 := Tryd.underlying45
 have HR0 := aK hr0
 have HC0 := aK hc0
 clear hr0 hc0
 have HB := aK (Below.refl w.heap.size w)
 have H : ((impl_combRoot.f k l0).bind fun bt101 => (if bt101.2.2.2 = true then ((impl_comb_step.f k bt101.1 bt101.2.1 bt101.2.2.1).bind fun bt108 => (if bt108.2.2.2 = true then ((impl_comb_goodNodes.f k bt108.1 bt108.2.1 bt108.2.2.1).bind fun bt115 => (some (bt115.1, bt115.2))) else (some (([] : List (S65)), false)))) else (some (([] : List (S65)), false)))) = some (r1, r2) := h
 clear h
 obtain ⟨⟨t101, t102, t103, t106⟩, A2, H⟩ := oB H
 try dsimp only at H
 by_cases c3 : t106 = true
 ·subst c3
  rw [if_pos rfl] at H
  obtain ⟨⟨t108, t109, t110, t113⟩, A4, H⟩ := oB H
  try dsimp only at H
  by_cases c5 : t113 = true
  ·subst c5
   rw [if_pos rfl] at H
   obtain ⟨⟨t115, t118⟩, A6, H⟩ := oB H
   try dsimp only at H
   simp only [Option.some.injEq, Prod.mk.injEq] at H
   obtain ⟨rfl, rfl⟩ := H
   go_enter Tryd.func11, Tryd.ntmps11
   go_wp2_with (first | ((with_reducible refine gate_callee (f := 15) rfl ?_); refine goesL_ (some 9) rfl rfl Tryd.func15 (by kernel_rfl) rfl #[.slice A0 l0.length c0] rfl tA ?_; (with_reducible refine (impl_combRoot.calls k _ _ l0 t101 t102 t103 true _ ?side1 ?side2 A2.out).mono ?_); (case side1 => exact sC HR0.out); (case side2 => exact HC0.out); rintro e w7 ⟨v104, rfl, ho0, hb⟩; refine ⟨_, rfl, ?_⟩; have HO105 := aK (Kd.R_lower ho0 (below_size HB.out)); replace HB := qs HB hb; (try clear hb); (try clear ho0)) | ((with_reducible refine gate_dst (N := 4) rfl ?_); refine bE (N := 4) (cs := #[.int .i64 0, .int .i64 0, .slice none 0 0]) (t := 45) ?_; intro gb107 hg w8 hbox hb; have n0_ := aK (Kd.R_below (Kd.R_elderB HO105.out gb107 (Nat.le_of_eq hg.symm)) hb); have GW107 := qw HB hg; have GE107 := qw HB hg; have BK107 := aK hbox; clear HO105; have HO105 := n0_; clear n0_; replace HB := qs HB hb; clear hb hbox hg; obtain ⟨hcz9_0, hcz9_1, hcz9_2, hfz9_0, hfz9_1, hfz9_2⟩ := cA3 BK107; obtain ⟨Ao10, co10, eo10⟩ := Kd.R_slice HO105.out; subst eo10) | ((with_reducible refine gate_store (t := 45) (p := 4) rfl ?_); refine store_event (t := 45) (p := 4) (v := ?vo_w11) (w1 := (((w8.setCell ⟨gb107, 0, none⟩ (.int .i64 t101)).setCell ⟨gb107, 1, none⟩ (.int .i64 t102)).setCell ⟨gb107, 2, none⟩ (.slice Ao10 t103.length co10))) ?hg ?ho ?hn ?hr ?_; (case ho => rfl); (case hg => rfl); (case hn => rfl); (case hr => first | (go_simp; done) | (go_simp; rfl)); intro w11 hw; have n_ := aJ (show Aside0 (Kd.R k45 45 w11 w.heap.size (fun k_ => k_ ≠ gb107) (.slice Ao10 t103.length co10) t103) from ⟨(by rw [hw]; exact (by (with_reducible repeat (first | apply rA | apply rN | apply rD)); exact Kd.R_mono (Kd.R_far (p := ⟨gb107, 2, none⟩) (Kd.R_far (p := ⟨gb107, 1, none⟩) (Kd.R_far (p := ⟨gb107, 0, none⟩) (Kd.R_mono HO105.out (fun k_ hk => (⟨hk, hk.2⟩ : _ ∧ k_ ≠ gb107))) (fun _ hk => hk.2) (.int .i64 t101)) (fun _ hk => hk.2) (.int .i64 t102)) (fun _ hk => hk.2) (.slice Ao10 t103.length co10)) (fun _ hk => hk.1.2)))⟩) (aJ (show Aside0 (w11.heap[gb107]? = some (.cells #[.int .i64 t101, .int .i64 t102, .slice Ao10 t103.length co10] 45 (0, 0))) from ⟨(by rw [hw]; exact (p3 BK107))⟩) (show Aside0 (Below w.heap.size w w11) from ⟨(by rw [hw]; exact (pH HB))⟩)); clear hw HO105 BK107 HB; obtain ⟨HO105, BK107, HB⟩ := n_; obtain ⟨hcz12_0, hcz12_1, hcz12_2, hfz12_0, hfz12_1, hfz12_2⟩ := cA3 BK107) | ((with_reducible refine gate_callee (f := 23) rfl ?_); refine goesL_ (some 16) rfl rfl Tryd.func23 (by kernel_rfl) rfl #[.agg #[.int .i64 t101, .int .i64 t102, .slice Ao10 t103.length co10]] rfl tA ?_; (with_reducible refine (impl_comb_step.calls k t101 t102 (fun k_ => k_ ≠ gb107) _ _ t103 t108 t109 t110 true _ ?side1 A4.out).mono ?_); (case side1 => exact Kd.R_V (HO105.out)); rintro e w13 ⟨v111, rfl, ho0, hb⟩; refine ⟨_, rfl, ?_⟩; have n0_ := aK (Kd.R_below HO105.out hb); have HO112 := aK (Kd.V_lower (Kd.V_mono (ok' := fun k_ => k_ ≠ gb107) ho0 (fun k_ hk_ => Or.elim hk_ (fun hs_ => hs_) (fun hn_ => (Kd.freshB BK107.out k_ hn_)))) (below_size HB.out)); replace BK107 := qb BK107 hb; clear HO105; have HO105 := n0_; clear n0_; replace HB := qs HB hb; (try clear hb); (try clear ho0)) | ((with_reducible refine gate_dst (N := 6) rfl ?_); refine bE (N := 6) (cs := #[.int .i64 0, .int .i64 0, .slice none 0 0]) (t := 45) ?_; intro gb114 hg w14 hbox hb; have n0_ := aK (Kd.R_below (Kd.R_elderB HO105.out gb114 (Nat.le_of_eq hg.symm)) hb); have GW114 := qw HB hg; have GE114 := qw HB hg; have NB107_114 := ql BK107 hg; have NB114_107 := qg BK107 hg; replace HO112 := qv HO112 hg hb; replace BK107 := qb BK107 hb; have BK114 := aK hbox; clear HO105; have HO105 := n0_; clear n0_; replace HB := qs HB hb; clear hb hbox hg; have hnb15 := NB114_107.out; have hnc15 := NB107_114.out; obtain ⟨hcz16_0, hcz16_1, hcz16_2, hfz16_0, hfz16_1, hfz16_2⟩ := cA3 BK114; obtain ⟨Ao17, co17, eo17⟩ := Kd.V_slice HO112.out; subst eo17) | ((with_reducible refine gate_callee (f := 21) rfl ?_); refine goesL_ (some 22) rfl rfl Tryd.func21 (by kernel_rfl) rfl #[.agg #[.int .i64 t108, .int .i64 t109, .slice Ao17 t110.length co17]] rfl tA ?_; (with_reducible refine (impl_comb_goodNodes.calls k t108 t109 _ _ t110 t115 t118 _ ?side1 ?side2 A6.out).mono ?_); (case side1 => refine (Kd.V_reads' (e := 45) (base := w.heap.size) (ok := fun k_ => (k_ ≠ gb107 ∧ k_ ≠ gb114)) (n := t110.length) (c := co17) ?_).2.2; exact (by (with_reducible repeat (first | apply Kd.V_alloc | apply Kd.V_drewN | apply Kd.V_drew)); exact (Kd.V_mono (vF3 gb114 (Kd.V_mono HO112.out (fun k_ hk => (⟨hk, hk.2⟩ : _ ∧ k_ ≠ gb114))) (fun _ hk => hk.2)) (fun _ h_ => h_.1)))); (case side2 => exact (Kd.V_reads' HO112.out).2.1); rintro e w18 ⟨v116, rfl, ho0, hb⟩; refine ⟨_, rfl, ?_⟩; have n_ := aJ (aK (Kd.R_below (by (with_reducible repeat (first | apply rA | apply rN | apply rD)); exact (Kd.R_mono (Kd.R_far (p := ⟨gb114, 2, none⟩) (Kd.R_far (p := ⟨gb114, 1, none⟩) (Kd.R_far (p := ⟨gb114, 0, none⟩) (Kd.R_mono HO105.out (fun k_ hk => (⟨hk, hk.2⟩ : _ ∧ k_ ≠ gb114))) (fun _ hk => hk.2) (.int .i64 t108)) (fun _ hk => hk.2) (.int .i64 t109)) (fun _ hk => hk.2) (.slice Ao17 t110.length co17)) (fun _ h_ => h_.1))) hb)) (aJ (aK (Kd.V_elder' (by (with_reducible repeat (first | apply Kd.V_alloc | apply Kd.V_drewN | apply Kd.V_drew)); exact (Kd.V_mono (vF3 gb114 (Kd.V_mono HO112.out (fun k_ hk => (⟨hk, hk.2⟩ : _ ∧ k_ ≠ gb114))) (fun _ hk => hk.2)) (fun _ h_ => h_.1))) (Kd.R_base ho0) hb)) (aJ (aK (Kd.R_lower ho0 (below_size (pH HB)))) (aJ (aK (blk_below (g := gb107) (o := .cells #[.int .i64 t101, .int .i64 t102, .slice Ao10 t103.length co10] 45 (0, 0)) (by (repeat first | with_reducible apply zN | with_reducible apply zD | with_reducible apply zA | refine blk_far ?_ NB107_114.out _); exact BK107.out) hb)) (aJ (aK (blk_below (g := gb114) (o := .cells #[.int .i64 t108, .int .i64 t109, .slice Ao17 t110.length co17] 45 (0, 0)) (p3 BK114) hb)) (aK (below_step (pH HB) hb)))))); clear HO105 HO112 BK107 BK114 HB; obtain ⟨HO105, HO112, HO117, BK107, BK114, HB⟩ := n_; (try clear hb); (try clear ho0)))
   go_ret2
   exact ⟨_, eW, by (with_reducible repeat (first | apply rA | apply rN | apply rD)); exact HO117.out, pH HB⟩
  ·replace c5 := Bool.eq_false_iff.mpr c5
   subst c5
   rw [if_neg (show ¬ (false = true) by decide)] at H
   simp only [Option.some.injEq, Prod.mk.injEq] at H
   obtain ⟨rfl, rfl⟩ := H
   go_enter Tryd.func11, Tryd.ntmps11
   go_wp2_with (first | ((with_reducible refine gate_callee (f := 15) rfl ?_); refine goesL_ (some 9) rfl rfl Tryd.func15 (by kernel_rfl) rfl #[.slice A0 l0.length c0] rfl tA ?_; (with_reducible refine (impl_combRoot.calls k _ _ l0 t101 t102 t103 true _ ?side1 ?side2 A2.out).mono ?_); (case side1 => exact sC HR0.out); (case side2 => exact HC0.out); rintro e w19 ⟨v104, rfl, ho0, hb⟩; refine ⟨_, rfl, ?_⟩; have HO105 := aK (Kd.R_lower ho0 (below_size HB.out)); replace HB := qs HB hb; (try clear hb); (try clear ho0)) | ((with_reducible refine gate_dst (N := 4) rfl ?_); refine bE (N := 4) (cs := #[.int .i64 0, .int .i64 0, .slice none 0 0]) (t := 45) ?_; intro gb107 hg w20 hbox hb; have n0_ := aK (Kd.R_below (Kd.R_elderB HO105.out gb107 (Nat.le_of_eq hg.symm)) hb); have GW107 := qw HB hg; have GE107 := qw HB hg; have BK107 := aK hbox; clear HO105; have HO105 := n0_; clear n0_; replace HB := qs HB hb; clear hb hbox hg; obtain ⟨hcz21_0, hcz21_1, hcz21_2, hfz21_0, hfz21_1, hfz21_2⟩ := cA3 BK107; obtain ⟨Ao22, co22, eo22⟩ := Kd.R_slice HO105.out; subst eo22) | ((with_reducible refine gate_store (t := 45) (p := 4) rfl ?_); refine store_event (t := 45) (p := 4) (v := ?vo_w23) (w1 := (((w20.setCell ⟨gb107, 0, none⟩ (.int .i64 t101)).setCell ⟨gb107, 1, none⟩ (.int .i64 t102)).setCell ⟨gb107, 2, none⟩ (.slice Ao22 t103.length co22))) ?hg ?ho ?hn ?hr ?_; (case ho => rfl); (case hg => rfl); (case hn => rfl); (case hr => first | (go_simp; done) | (go_simp; rfl)); intro w23 hw; have n_ := aJ (show Aside0 (Kd.R k45 45 w23 w.heap.size (fun k_ => k_ ≠ gb107) (.slice Ao22 t103.length co22) t103) from ⟨(by rw [hw]; exact (by (with_reducible repeat (first | apply rA | apply rN | apply rD)); exact Kd.R_mono (Kd.R_far (p := ⟨gb107, 2, none⟩) (Kd.R_far (p := ⟨gb107, 1, none⟩) (Kd.R_far (p := ⟨gb107, 0, none⟩) (Kd.R_mono HO105.out (fun k_ hk => (⟨hk, hk.2⟩ : _ ∧ k_ ≠ gb107))) (fun _ hk => hk.2) (.int .i64 t101)) (fun _ hk => hk.2) (.int .i64 t102)) (fun _ hk => hk.2) (.slice Ao22 t103.length co22)) (fun _ hk => hk.1.2)))⟩) (aJ (show Aside0 (w23.heap[gb107]? = some (.cells #[.int .i64 t101, .int .i64 t102, .slice Ao22 t103.length co22] 45 (0, 0))) from ⟨(by rw [hw]; exact (p3 BK107))⟩) (show Aside0 (Below w.heap.size w w23) from ⟨(by rw [hw]; exact (pH HB))⟩)); clear hw HO105 BK107 HB; obtain ⟨HO105, BK107, HB⟩ := n_; obtain ⟨hcz24_0, hcz24_1, hcz24_2, hfz24_0, hfz24_1, hfz24_2⟩ := cA3 BK107) | ((with_reducible refine gate_callee (f := 23) rfl ?_); refine goesL_ (some 16) rfl rfl Tryd.func23 (by kernel_rfl) rfl #[.agg #[.int .i64 t101, .int .i64 t102, .slice Ao22 t103.length co22]] rfl tA ?_; (with_reducible refine (impl_comb_step.calls k t101 t102 (fun k_ => k_ ≠ gb107) _ _ t103 t108 t109 t110 false _ ?side1 A4.out).mono ?_); (case side1 => exact Kd.R_V (HO105.out)); rintro e w25 ⟨v111, rfl, ho0, hb⟩; refine ⟨_, rfl, ?_⟩; have n0_ := aK (Kd.R_below HO105.out hb); have HO112 := aK (Kd.V_lower (Kd.V_mono (ok' := fun k_ => k_ ≠ gb107) ho0 (fun k_ hk_ => Or.elim hk_ (fun hs_ => hs_) (fun hn_ => (Kd.freshB BK107.out k_ hn_)))) (below_size HB.out)); replace BK107 := qb BK107 hb; clear HO105; have HO105 := n0_; clear n0_; replace HB := qs HB hb; (try clear hb); (try clear ho0)) | ((with_reducible refine gate_dst (N := 6) rfl ?_); refine bE (N := 6) (cs := #[.int .i64 0, .int .i64 0, .slice none 0 0]) (t := 45) ?_; intro gb114 hg w26 hbox hb; have n0_ := aK (Kd.R_below (Kd.R_elderB HO105.out gb114 (Nat.le_of_eq hg.symm)) hb); have GW114 := qw HB hg; have GE114 := qw HB hg; have NB107_114 := ql BK107 hg; have NB114_107 := qg BK107 hg; replace HO112 := qv HO112 hg hb; replace BK107 := qb BK107 hb; have BK114 := aK hbox; clear HO105; have HO105 := n0_; clear n0_; replace HB := qs HB hb; clear hb hbox hg; have hnb27 := NB114_107.out; have hnc27 := NB107_114.out; obtain ⟨hcz28_0, hcz28_1, hcz28_2, hfz28_0, hfz28_1, hfz28_2⟩ := cA3 BK114; obtain ⟨Ao29, co29, eo29⟩ := Kd.V_slice HO112.out; subst eo29))
   go_ret2
   exact ⟨_, eW, by first | exact Kd.R_nil _ _ _ _ _ | exact Kd.N_nil _ _ _ _ _ | exact Kd.V_nil _ _ _ _ _ | exact Kd.Q_nil _ _ _ _ _ | exact Kd.S_nil _ _ _ _ _, pH HB⟩
 ·replace c3 := Bool.eq_false_iff.mpr c3
  subst c3
  rw [if_neg (show ¬ (false = true) by decide)] at H
  simp only [Option.some.injEq, Prod.mk.injEq] at H
  obtain ⟨rfl, rfl⟩ := H
  go_enter Tryd.func11, Tryd.ntmps11
  go_wp2_with (first | ((with_reducible refine gate_callee (f := 15) rfl ?_); refine goesL_ (some 9) rfl rfl Tryd.func15 (by kernel_rfl) rfl #[.slice A0 l0.length c0] rfl tA ?_; (with_reducible refine (impl_combRoot.calls k _ _ l0 t101 t102 t103 false _ ?side1 ?side2 A2.out).mono ?_); (case side1 => exact sC HR0.out); (case side2 => exact HC0.out); rintro e w30 ⟨v104, rfl, ho0, hb⟩; refine ⟨_, rfl, ?_⟩; have HO105 := aK (Kd.R_lower ho0 (below_size HB.out)); replace HB := qs HB hb; (try clear hb); (try clear ho0)) | ((with_reducible refine gate_dst (N := 4) rfl ?_); refine bE (N := 4) (cs := #[.int .i64 0, .int .i64 0, .slice none 0 0]) (t := 45) ?_; intro gb107 hg w31 hbox hb; have n0_ := aK (Kd.R_below (Kd.R_elderB HO105.out gb107 (Nat.le_of_eq hg.symm)) hb); have GW107 := qw HB hg; have GE107 := qw HB hg; have BK107 := aK hbox; clear HO105; have HO105 := n0_; clear n0_; replace HB := qs HB hb; clear hb hbox hg; obtain ⟨hcz32_0, hcz32_1, hcz32_2, hfz32_0, hfz32_1, hfz32_2⟩ := cA3 BK107; obtain ⟨Ao33, co33, eo33⟩ := Kd.R_slice HO105.out; subst eo33))
  go_ret2
  exact ⟨_, eW, by first | exact Kd.R_nil _ _ _ _ _ | exact Kd.N_nil _ _ _ _ _ | exact Kd.V_nil _ _ _ _ _ | exact Kd.Q_nil _ _ _ _ _ | exact Kd.S_nil _ _ _ _ _, pH HB⟩


def IsS38 (w0 W : World) (g : Nat) (f0 : List Int) (f1 : Int) (f2 : Int) : Prop := ∃ A0 c0, W.heap[g]? = some (.cells #[.slice A0 f0.length c0, .int .i64 f1, .int .u64 f2] 38 (0, 0)) ∧ w0.heap.size ≤ g ∧ Kd.C (Kd.int .u8) w0 A0 f0.length f0
theorem IsS38.grown {w0 W : World} {g : Nat} {f0 : List Int} {f1 : Int} {f2 : Int} {W1 : World} {row : Option Nat} (h : IsS38 w0 W g f0 f1 f2) (hw : W.grownBy W1 row) (hne : some g ≠ row) : IsS38 w0 W1 g f0 f1 f2 := by
 obtain ⟨A0, c0, hb, hg, hr0⟩ := h
 exact ⟨A0, c0, blk_grown hb hw hne, hg, hr0⟩
theorem IsS38.fresh {w0 W : World} {g : Nat} {f0 : List Int} {f1 : Int} {f2 : Int} (h : IsS38 w0 W g f0 f1 f2) : ∀ k, W.heap.size ≤ k → k ≠ g := by
 obtain ⟨A0, c0, hb, hg, hr0⟩ := h
 exact Kd.freshB hb
theorem IsS38.below {w0 W : World} {g : Nat} {f0 : List Int} {f1 : Int} {f2 : Int} {W1 : World} (h : IsS38 w0 W g f0 f1 f2) (hw : Below W.heap.size W W1) : IsS38 w0 W1 g f0 f1 f2 := h.grown (grown_of_below hw none) (by simp)
theorem IsS38.alloc {w0 W : World} {g : Nat} {f0 : List Int} {f1 : Int} {f2 : Int} (h : IsS38 w0 W g f0 f1 f2) (o : Obj) : IsS38 w0 (W.alloc o) g f0 f1 f2 := h.below (below_alloc (Below.refl _ _) o)
theorem IsS38.drewN {w0 W : World} {g : Nat} {f0 : List Int} {f1 : Int} {f2 : Int} (h : IsS38 w0 W g f0 f1 f2) (m : Nat) : IsS38 w0 (W.drewN m) g f0 f1 f2 := h
theorem IsS38.drew {w0 W : World} {g : Nat} {f0 : List Int} {f1 : Int} {f2 : Int} (h : IsS38 w0 W g f0 f1 f2) : IsS38 w0 W.drew g f0 f1 f2 := h
theorem IsS38.apart {w0 W : World} {g : Nat} {f0 : List Int} {f1 : Int} {f2 : Int} {α : Type} {d : Kd α} {e : Nat} {base : Nat} {ok : Nat → Prop} {v : Value} {xs : List α} (h : IsS38 w0 W g f0 f1 f2) (ho : d.R e W base ok v xs) (ht : ∀ q, q ∈ e :: d.E → q ≠ 38) : d.R e W base (fun k => ok k ∧ k ≠ g) v xs := by
 obtain ⟨A0, c0, hb, hg, hr0⟩ := h
 exact Kd.R_types ho hb ht
theorem IsS38.own_ne {w0 W : World} {g : Nat} {f0 : List Int} {f1 : Int} {f2 : Int} {α : Type} {d : Kd α} {e : Nat} {base : Nat} {ok : Nat → Prop} {v : Value} {xs : List α} (h : IsS38 w0 W g f0 f1 f2) (ho : d.R e W base ok v xs) (ht : e ≠ 38) : some g ≠ v.ownBlock := by
 obtain ⟨A0, c0, hb, hg, hr0⟩ := h
 exact Kd.R_ne ho hb ht
theorem IsS38.lt {w0 W : World} {g : Nat} {f0 : List Int} {f1 : Int} {f2 : Int} (h : IsS38 w0 W g f0 f1 f2) : g < W.heap.size := by
 obtain ⟨A0, c0, hb, hg, hr0⟩ := h
 exact blk_lt hb
theorem IsS38.ge {w0 W : World} {g : Nat} {f0 : List Int} {f1 : Int} {f2 : Int} (h : IsS38 w0 W g f0 f1 f2) : w0.heap.size ≤ g := by
 obtain ⟨A0, c0, hb, hg, hr0⟩ := h
 exact hg
theorem IsS38.far {w0 W : World} {g : Nat} {f0 : List Int} {f1 : Int} {f2 : Int} {p : Addr} (h : IsS38 w0 W g f0 f1 f2) (hne : g ≠ p.block) (u : Value) : IsS38 w0 (W.setCell p u) g f0 f1 f2 := by
 obtain ⟨A0, c0, hb, hg, hr0⟩ := h
 exact ⟨A0, c0, blk_far hb hne u, hg, hr0⟩
theorem cellS38_0 {W : World} {g : Nat} {A0 : Option Addr} {c0 : Nat} {f0 : List Int} {f1 : Int} {f2 : Int} (h : W.heap[g]? = some (.cells #[.slice A0 f0.length c0, .int .i64 f1, .int .u64 f2] 38 (0, 0))) : W.cell? ⟨g, 0, none⟩ = some (.slice A0 f0.length c0) := (blk_cell h 0).trans rfl
theorem cellS38_1 {W : World} {g : Nat} {A0 : Option Addr} {c0 : Nat} {f0 : List Int} {f1 : Int} {f2 : Int} (h : W.heap[g]? = some (.cells #[.slice A0 f0.length c0, .int .i64 f1, .int .u64 f2] 38 (0, 0))) : W.cell? ⟨g, 1, none⟩ = some (.int .i64 f1) := (blk_cell h 1).trans rfl
theorem IsS38.set_1 {w0 W : World} {g : Nat} {f0 : List Int} {f1 : Int} {f2 : Int} (h : IsS38 w0 W g f0 f1 f2) (x : Int) : IsS38 w0 (W.setCell ⟨g, 1, none⟩ (.int .i64 x)) g f0 x f2 := by
 obtain ⟨A0, c0, hb, hg, hr0⟩ := h
 exact ⟨A0, c0, by simpa using blk_set hb 1 (.int .i64 x), hg, hr0⟩
theorem cellS38_2 {W : World} {g : Nat} {A0 : Option Addr} {c0 : Nat} {f0 : List Int} {f1 : Int} {f2 : Int} (h : W.heap[g]? = some (.cells #[.slice A0 f0.length c0, .int .i64 f1, .int .u64 f2] 38 (0, 0))) : W.cell? ⟨g, 2, none⟩ = some (.int .u64 f2) := (blk_cell h 2).trans rfl
theorem IsS38.set_2 {w0 W : World} {g : Nat} {f0 : List Int} {f1 : Int} {f2 : Int} (h : IsS38 w0 W g f0 f1 f2) (x : Int) : IsS38 w0 (W.setCell ⟨g, 2, none⟩ (.int .u64 x)) g f0 f1 x := by
 obtain ⟨A0, c0, hb, hg, hr0⟩ := h
 exact ⟨A0, c0, by simpa using blk_set hb 2 (.int .u64 x), hg, hr0⟩
theorem IsS38.new (w0 W : World) (A0 : Option Addr) (c0 : Nat) (f0 : List Int) (f1 : Int) (f2 : Int) (hB : Below w0.heap.size w0 W) (hr0 : Kd.C (Kd.int .u8) w0 A0 f0.length f0) : IsS38 w0 (W.alloc (.cells #[.slice A0 f0.length c0, .int .i64 f1, .int .u64 f2] 38)) W.heap.size f0 f1 f2 := ⟨A0, c0, by simpa using heap_alloc_new W _, hB.size, hr0⟩

def spec_l1Cur_next.f (s0_0 : List Int) (s0_1 : Int) (s0_2 : Int) : Option (Int × Int × Int) := if s0_1 < (s0_0.length : Int) then (if 0 ≤ s0_1 then (if (wrap64 (s0_1 + 1)) ≤ (s0_0.length : Int) then (some (wrap64 (rd s0_0 s0_1), wrap64 (s0_1 + 1), IntKind.u64.wrap ((IntKind.u64.wrap ((IntKind.u64.wrap (s0_2 * 6364136223846793005)) + (IntKind.u64.wrap (wrap64 (rd s0_0 s0_1))))) + 1442695040888963407))) else (some (wrap64 (Go.bits .and .u64 ((IntKind.u64.wrap ((IntKind.u64.wrap ((IntKind.u64.wrap (s0_2 * 6364136223846793005)) + (IntKind.u64.wrap (wrap64 (rd s0_0 s0_1))))) + 1442695040888963407)) / 1099511627776) 255), wrap64 (s0_1 + 1), IntKind.u64.wrap ((IntKind.u64.wrap ((IntKind.u64.wrap (s0_2 * 6364136223846793005)) + (IntKind.u64.wrap (wrap64 (rd s0_0 s0_1))))) + 1442695040888963407)))) else (none)) else (if (wrap64 (s0_1 + 1)) ≤ (s0_0.length : Int) then (some (0, wrap64 (s0_1 + 1), IntKind.u64.wrap ((IntKind.u64.wrap ((IntKind.u64.wrap (s0_2 * 6364136223846793005)) + 0)) + 1442695040888963407))) else (some (wrap64 (Go.bits .and .u64 ((IntKind.u64.wrap ((IntKind.u64.wrap ((IntKind.u64.wrap (s0_2 * 6364136223846793005)) + 0)) + 1442695040888963407)) / 1099511627776) 255), wrap64 (s0_1 + 1), IntKind.u64.wrap ((IntKind.u64.wrap ((IntKind.u64.wrap (s0_2 * 6364136223846793005)) + 0)) + 1442695040888963407))))
set_option maxHeartbeats 8000000 in
set_option maxRecDepth 100000 in
theorem spec_l1Cur_next.calls (g : Nat) (s0_0 : List Int) (s0_1 : Int) (s0_2 : Int) (r1 : Int) (r2 : Int) (r3 : Int) (w0 w : World) (hI : IsS38 w0 w g s0_0 s0_1 s0_2) (hB : Below w0.heap.size w0 w) (h : spec_l1Cur_next.f s0_0 s0_1 s0_2 = some (r1, r2, r3)) :
  Calls Tryd.prog 45 #[.pointer (some ⟨g, 0, none⟩)] w fun e w' => e = .returned (.int .i64 r1) ∧ IsS38 w0 w' g s0_0 r2 r3 ∧ Below w0.heap.size w0 w' ∧ KeepBut w w' g none := by
 have HI0 := aK hI
 have HK := aK (KeepBut.refl w g none)
 have HL := aK hB.size
 clear hI
 have HW0 := aK hB.size
 have HB := aK hB
 clear hB
 have H : (if s0_1 < (s0_0.length : Int) then (if 0 ≤ s0_1 then (if (wrap64 (s0_1 + 1)) ≤ (s0_0.length : Int) then (some (wrap64 (rd s0_0 s0_1), wrap64 (s0_1 + 1), IntKind.u64.wrap ((IntKind.u64.wrap ((IntKind.u64.wrap (s0_2 * 6364136223846793005)) + (IntKind.u64.wrap (wrap64 (rd s0_0 s0_1))))) + 1442695040888963407))) else (some (wrap64 (Go.bits .and .u64 ((IntKind.u64.wrap ((IntKind.u64.wrap ((IntKind.u64.wrap (s0_2 * 6364136223846793005)) + (IntKind.u64.wrap (wrap64 (rd s0_0 s0_1))))) + 1442695040888963407)) / 1099511627776) 255), wrap64 (s0_1 + 1), IntKind.u64.wrap ((IntKind.u64.wrap ((IntKind.u64.wrap (s0_2 * 6364136223846793005)) + (IntKind.u64.wrap (wrap64 (rd s0_0 s0_1))))) + 1442695040888963407)))) else (none)) else (if (wrap64 (s0_1 + 1)) ≤ (s0_0.length : Int) then (some (0, wrap64 (s0_1 + 1), IntKind.u64.wrap ((IntKind.u64.wrap ((IntKind.u64.wrap (s0_2 * 6364136223846793005)) + 0)) + 1442695040888963407))) else (some (wrap64 (Go.bits .and .u64 ((IntKind.u64.wrap ((IntKind.u64.wrap ((IntKind.u64.wrap (s0_2 * 6364136223846793005)) + 0)) + 1442695040888963407)) / 1099511627776) 255), wrap64 (s0_1 + 1), IntKind.u64.wrap ((IntKind.u64.wrap ((IntKind.u64.wrap (s0_2 * 6364136223846793005)) + 0)) + 1442695040888963407))))) = some (r1, r2, r3) := h
 clear h
 by_cases c2 : s0_1 < (s0_0.length : Int)
 ·rw [if_pos c2] at H
  have c2b0 : decide (s0_1 < (s0_0.length : Int)) = true := decide_eq_true c2
  clear c2
  by_cases c3 : 0 ≤ s0_1
  ·rw [if_pos c3] at H
   have c3b0 : decide (0 ≤ s0_1) = true := decide_eq_true c3
   clear c3
   by_cases c4 : (wrap64 (s0_1 + 1)) ≤ (s0_0.length : Int)
   ·rw [if_pos c4] at H
    have c4b0 : decide ((wrap64 (s0_1 + 1)) ≤ (s0_0.length : Int)) = true := decide_eq_true c4
    clear c4
    simp only [Option.some.injEq, Prod.mk.injEq] at H
    obtain ⟨rfl, rfl, rfl⟩ := H
    obtain ⟨ASz5_0, cSz5_0, HGz5, hgz5, HSz5_0⟩ := HI0.out
    have hcz5_0 := cellS38_0 HGz5
    have hcz5_1 := cellS38_1 HGz5
    have hcz5_2 := cellS38_2 HGz5
    have hfz5_1 := blk_frozen HGz5 1
    have hfz5_2 := blk_frozen HGz5 2
    clear HGz5 hgz5
    have p101 : 0 ≤ (s0_1 : Int) := dA
    have q101 : s0_1 < (s0_0.length : Int) := dA
    obtain ⟨ad101, e101, hx101_0⟩ := Kd.at_int HSz5_0 s0_1 p101 q101
    cases e101
    replace hx101_0 := pw_cell_below HB.out hx101_0
    replace p101 := eq_true p101
    replace q101 := eq_true q101
    go_enter Tryd.func45, Tryd.ntmps45
    go_wp2
    repeat (go_quiet (fail); try go_wp2)
    go_ret
    exact ⟨eW, by repeat (first | (with_reducible first | exact HI0.out | apply IsS38.alloc | apply IsS38.drewN | apply IsS38.drew | apply IsS38.set_1 | apply IsS38.set_2) | exact HI0.out), by repeat (first | (with_reducible first | exact HB.out | apply below_alloc | apply pw_below_drewN | apply below_drew1 | refine below_set ?_ (IsS38.ge HI0.out)) | exact HB.out), by repeat (first | (with_reducible first | exact HK.out | apply KeepBut.set_ | apply keep_drewN | apply keep_drew | apply keep_alloc) | exact HK.out)⟩
   ·rw [if_neg c4] at H
    have c4b0 : decide ((wrap64 (s0_1 + 1)) ≤ (s0_0.length : Int)) = false := decide_eq_false c4
    clear c4
    simp only [Option.some.injEq, Prod.mk.injEq] at H
    obtain ⟨rfl, rfl, rfl⟩ := H
    obtain ⟨ASz6_0, cSz6_0, HGz6, hgz6, HSz6_0⟩ := HI0.out
    have hcz6_0 := cellS38_0 HGz6
    have hcz6_1 := cellS38_1 HGz6
    have hcz6_2 := cellS38_2 HGz6
    have hfz6_1 := blk_frozen HGz6 1
    have hfz6_2 := blk_frozen HGz6 2
    clear HGz6 hgz6
    have p101 : 0 ≤ (s0_1 : Int) := dA
    have q101 : s0_1 < (s0_0.length : Int) := dA
    obtain ⟨ad101, e101, hx101_0⟩ := Kd.at_int HSz6_0 s0_1 p101 q101
    cases e101
    replace hx101_0 := pw_cell_below HB.out hx101_0
    replace p101 := eq_true p101
    replace q101 := eq_true q101
    go_enter Tryd.func45, Tryd.ntmps45
    go_wp2
    repeat (go_quiet (fail); try go_wp2)
    go_ret
    exact ⟨eW, by repeat (first | (with_reducible first | exact HI0.out | apply IsS38.alloc | apply IsS38.drewN | apply IsS38.drew | apply IsS38.set_1 | apply IsS38.set_2) | exact HI0.out), by repeat (first | (with_reducible first | exact HB.out | apply below_alloc | apply pw_below_drewN | apply below_drew1 | refine below_set ?_ (IsS38.ge HI0.out)) | exact HB.out), by repeat (first | (with_reducible first | exact HK.out | apply KeepBut.set_ | apply keep_drewN | apply keep_drew | apply keep_alloc) | exact HK.out)⟩
  ·rw [if_neg c3] at H
   exact absurd H (by simp)
 ·rw [if_neg c2] at H
  have c2b0 : decide (s0_1 < (s0_0.length : Int)) = false := decide_eq_false c2
  clear c2
  by_cases c7 : (wrap64 (s0_1 + 1)) ≤ (s0_0.length : Int)
  ·rw [if_pos c7] at H
   have c7b0 : decide ((wrap64 (s0_1 + 1)) ≤ (s0_0.length : Int)) = true := decide_eq_true c7
   clear c7
   simp only [Option.some.injEq, Prod.mk.injEq] at H
   obtain ⟨rfl, rfl, rfl⟩ := H
   obtain ⟨ASz8_0, cSz8_0, HGz8, hgz8, HSz8_0⟩ := HI0.out
   have hcz8_0 := cellS38_0 HGz8
   have hcz8_1 := cellS38_1 HGz8
   have hcz8_2 := cellS38_2 HGz8
   have hfz8_1 := blk_frozen HGz8 1
   have hfz8_2 := blk_frozen HGz8 2
   clear HGz8 hgz8
   go_enter Tryd.func45, Tryd.ntmps45
   go_wp2
   repeat (go_quiet (fail); try go_wp2)
   go_ret
   simp only [Int.add_zero]
   exact ⟨eW, by repeat (first | (with_reducible first | exact HI0.out | apply IsS38.alloc | apply IsS38.drewN | apply IsS38.drew | apply IsS38.set_1 | apply IsS38.set_2) | exact HI0.out), by repeat (first | (with_reducible first | exact HB.out | apply below_alloc | apply pw_below_drewN | apply below_drew1 | refine below_set ?_ (IsS38.ge HI0.out)) | exact HB.out), by repeat (first | (with_reducible first | exact HK.out | apply KeepBut.set_ | apply keep_drewN | apply keep_drew | apply keep_alloc) | exact HK.out)⟩
  ·rw [if_neg c7] at H
   have c7b0 : decide ((wrap64 (s0_1 + 1)) ≤ (s0_0.length : Int)) = false := decide_eq_false c7
   clear c7
   simp only [Option.some.injEq, Prod.mk.injEq] at H
   obtain ⟨rfl, rfl, rfl⟩ := H
   obtain ⟨ASz9_0, cSz9_0, HGz9, hgz9, HSz9_0⟩ := HI0.out
   have hcz9_0 := cellS38_0 HGz9
   have hcz9_1 := cellS38_1 HGz9
   have hcz9_2 := cellS38_2 HGz9
   have hfz9_1 := blk_frozen HGz9 1
   have hfz9_2 := blk_frozen HGz9 2
   clear HGz9 hgz9
   go_enter Tryd.func45, Tryd.ntmps45
   go_wp2
   repeat (go_quiet (fail); try go_wp2)
   go_ret
   simp only [Int.add_zero]
   exact ⟨eW, by repeat (first | (with_reducible first | exact HI0.out | apply IsS38.alloc | apply IsS38.drewN | apply IsS38.drew | apply IsS38.set_1 | apply IsS38.set_2) | exact HI0.out), by repeat (first | (with_reducible first | exact HB.out | apply below_alloc | apply pw_below_drewN | apply below_drew1 | refine below_set ?_ (IsS38.ge HI0.out)) | exact HB.out), by repeat (first | (with_reducible first | exact HK.out | apply KeepBut.set_ | apply keep_drewN | apply keep_drew | apply keep_alloc) | exact HK.out)⟩

end Go.Proofs.YthfkimbmepmelaaDoor.G

namespace Go.Proofs.YthfkimbmepmelaaDoor.G
open Go.RowKit Go.Proofs.YthfkimbmepmelaaDoorW.PrintWords Go.Proofs.YthfkimbmepmelaaDoorW.PrintLast Go.Proofs.YthfkimbmepmelaaDoorW.PrintMore Go.Proofs.YthfkimbmepmelaaDoor.Short
theorem yI {A B : Prop} (h : Aside0 A) (k : A → B := by intro h; repeat (first | (with_reducible first | exact h | apply IsS38.alloc | apply IsS38.drewN | apply IsS38.drew | apply IsS38.set_1 | apply IsS38.set_2 | refine IsS38.far ?_ (Aside0.out (by assumption)) _) | exact h)) : B := k h.out
theorem yK {u W W' : World} {g : Nat} {row : Option Nat} (h : Aside0 (KeepBut u W g row)) (k : KeepBut u W g row → KeepBut u W' g row := by intro h; repeat (first | (with_reducible first | exact h | apply KeepBut.set_ | apply keep_drewN | apply keep_drew | apply keep_alloc | refine keep_far ?_ (Aside0.out (by assumption)) _) | exact h)) : KeepBut u W' g row := k h.out
theorem yH {A B : Prop} (h : Aside0 A) (k : A → B := by intro h; repeat (first | (with_reducible first | exact h | apply below_alloc | apply pw_below_drewN | apply below_drew1 | refine below_set ?_ (IsS38.ge (Aside0.out (by assumption))) | refine below_set ?_ (Aside0.out (by assumption))) | exact h)) : B := k h.out
end Go.Proofs.YthfkimbmepmelaaDoor.G

namespace Go.Proofs.YthfkimbmepmelaaDoor.G
open Go.RowKit Go.Proofs.YthfkimbmepmelaaDoorW.PrintWords Go.Proofs.YthfkimbmepmelaaDoorW.PrintLast Go.Proofs.YthfkimbmepmelaaDoorW.PrintMore Go.Proofs.YthfkimbmepmelaaDoor.Short
attribute [local go_sem] max2_int min2_int max_two min_two max_three min_three max_four min_four   -- for this text's walks alone
set_option linter.unusedVariables false
set_option linter.unusedSimpArgs false

def spec_l1Cur_pick.f (s0_0 : List Int) (s0_1 : Int) (s0_2 : Int) (a1 : Int) : Option (Int × Int × Int) := if a1 ≤ 1 then (some (0, s0_1, s0_2)) else ((spec_l1Cur_next.f s0_0 s0_1 s0_2).bind fun bt101 => (if a1 > 200 then ((spec_l1Cur_next.f s0_0 bt101.2.1 bt101.2.2).bind fun bt104 => (if a1 = 0 then (none) else (some (Int.tmod (wrap64 ((wrap64 (bt101.1 * 256)) + bt104.1)) a1, bt104.2.1, bt104.2.2)))) else (if a1 = 0 then (none) else (some (Int.tmod bt101.1 a1, bt101.2.1, bt101.2.2)))))
set_option maxHeartbeats 8000000 in
set_option maxRecDepth 100000 in
theorem spec_l1Cur_pick.calls (g : Nat) (s0_0 : List Int) (s0_1 : Int) (s0_2 : Int) (a1 : Int) (r1 : Int) (r2 : Int) (r3 : Int) (w0 w : World) (hI : IsS38 w0 w g s0_0 s0_1 s0_2) (hB : Below w0.heap.size w0 w) (h : spec_l1Cur_pick.f s0_0 s0_1 s0_2 a1 = some (r1, r2, r3)) :
  Calls Tryd.prog 28 #[.pointer (some ⟨g, 0, none⟩), .int .i64 a1] w fun e w' => e = .returned (.int .i64 r1) ∧ IsS38 w0 w' g s0_0 r2 r3 ∧ Below w0.heap.size w0 w' ∧ KeepBut w w' g none := by
 have HI0 := aK hI
 have HK := aK (KeepBut.refl w g none)
 have HL := aK hB.size
 clear hI
 have HW0 := aK hB.size
 have HB := aK hB
 clear hB
 have H : (if a1 ≤ 1 then (some (0, s0_1, s0_2)) else ((spec_l1Cur_next.f s0_0 s0_1 s0_2).bind fun bt101 => (if a1 > 200 then ((spec_l1Cur_next.f s0_0 bt101.2.1 bt101.2.2).bind fun bt104 => (if a1 = 0 then (none) else (some (Int.tmod (wrap64 ((wrap64 (bt101.1 * 256)) + bt104.1)) a1, bt104.2.1, bt104.2.2)))) else (if a1 = 0 then (none) else (some (Int.tmod bt101.1 a1, bt101.2.1, bt101.2.2)))))) = some (r1, r2, r3) := h
 clear h
 by_cases c3 : a1 ≤ 1
 ·rw [if_pos c3] at H
  have c3b0 : decide (a1 ≤ 1) = true := decide_eq_true c3
  clear c3
  simp only [Option.some.injEq, Prod.mk.injEq] at H
  obtain ⟨rfl, rfl, rfl⟩ := H
  go_enter Tryd.func28, Tryd.ntmps28
  go_wp2
  go_ret
  exact ⟨eW, yI HI0, yH HB, yK HK⟩
 ·rw [if_neg c3] at H
  have c3b0 : decide (a1 ≤ 1) = false := decide_eq_false c3
  clear c3
  obtain ⟨⟨t101, t102, t103⟩, A4, H⟩ := oB H
  try dsimp only at H
  by_cases c5 : a1 > 200
  ·rw [if_pos c5] at H
   have c5b0 : decide (200 < a1) = true := decide_eq_true c5
   clear c5
   obtain ⟨⟨t104, t105, t106⟩, A6, H⟩ := oB H
   try dsimp only at H
   by_cases c7 : a1 = 0
   ·rw [if_pos c7] at H
    exact absurd H (by simp)
   ·rw [if_neg c7] at H
    have c7b0 : (a1 == 0) = false := beq_eq_false_iff_ne.mpr c7
    have c7b1 : (a1 != 0) = true := bne_iff_ne.mpr c7
    simp only [Option.some.injEq, Prod.mk.injEq] at H
    obtain ⟨rfl, rfl, rfl⟩ := H
    go_enter Tryd.func28, Tryd.ntmps28
    go_wp2_with (first | ((with_reducible refine gate_callee (f := 45) rfl ?_); refine goesL_ (some 9) rfl rfl Tryd.func45 (by kernel_rfl) rfl #[.pointer (some ⟨g, 0, none⟩)] rfl tA ?_; (with_reducible refine (spec_l1Cur_next.calls g s0_0 s0_1 s0_2 t101 t102 t103 w0 _ ?side1 ?side2 A4.out).mono ?_); (case side1 => exact yI HI0); (case side2 => exact yH HB); rintro e w8 ⟨rfl, hi, hb, hk⟩; refine ⟨_, rfl, ?_⟩; have n0_ := aK (KeepBut.trans (yK HK) hk (.inl rfl)); have n1_ := aK (hb); have n2_ := aK (hi); clear HK; have HK := n0_; clear n0_; clear HB; have HB := n1_; clear n1_; clear HI0; have HI0 := n2_; clear n2_; (try clear hb)) | ((with_reducible refine gate_callee (f := 45) rfl ?_); refine goesL_ (some 15) rfl rfl Tryd.func45 (by kernel_rfl) rfl #[.pointer (some ⟨g, 0, none⟩)] rfl tA ?_; (with_reducible refine (spec_l1Cur_next.calls g s0_0 t102 t103 t104 t105 t106 w0 _ ?side1 ?side2 A6.out).mono ?_); (case side1 => exact yI HI0); (case side2 => exact yH HB); rintro e w9 ⟨rfl, hi, hb, hk⟩; refine ⟨_, rfl, ?_⟩; have n0_ := aK (KeepBut.trans (yK HK) hk (.inl rfl)); have n1_ := aK (hb); have n2_ := aK (hi); clear HK; have HK := n0_; clear n0_; clear HB; have HB := n1_; clear n1_; clear HI0; have HI0 := n2_; clear n2_; (try clear hb)))
    go_ret
    exact ⟨eW, yI HI0, yH HB, yK HK⟩
  ·rw [if_neg c5] at H
   have c5b0 : decide (200 < a1) = false := decide_eq_false c5
   clear c5
   by_cases c10 : a1 = 0
   ·rw [if_pos c10] at H
    exact absurd H (by simp)
   ·rw [if_neg c10] at H
    have c10b0 : (a1 == 0) = false := beq_eq_false_iff_ne.mpr c10
    have c10b1 : (a1 != 0) = true := bne_iff_ne.mpr c10
    simp only [Option.some.injEq, Prod.mk.injEq] at H
    obtain ⟨rfl, rfl, rfl⟩ := H
    go_enter Tryd.func28, Tryd.ntmps28
    go_wp2_with (first | ((with_reducible refine gate_callee (f := 45) rfl ?_); refine goesL_ (some 9) rfl rfl Tryd.func45 (by kernel_rfl) rfl #[.pointer (some ⟨g, 0, none⟩)] rfl tA ?_; (with_reducible refine (spec_l1Cur_next.calls g s0_0 s0_1 s0_2 t101 t102 t103 w0 _ ?side1 ?side2 A4.out).mono ?_); (case side1 => exact yI HI0); (case side2 => exact yH HB); rintro e w11 ⟨rfl, hi, hb, hk⟩; refine ⟨_, rfl, ?_⟩; have n0_ := aK (KeepBut.trans (yK HK) hk (.inl rfl)); have n1_ := aK (hb); have n2_ := aK (hi); clear HK; have HK := n0_; clear n0_; clear HB; have HB := n1_; clear n1_; clear HI0; have HI0 := n2_; clear n2_; (try clear hb)))
    go_ret
    exact ⟨eW, yI HI0, yH HB, yK HK⟩


def spec_l1Cur_one.f (s0_0 : List Int) (s0_1 : Int) (s0_2 : Int) (a1 : Int) : Option (Bool × Int × Int) := (spec_l1Cur_pick.f s0_0 s0_1 s0_2 a1).bind fun bt101 => (some ((bt101.1 == 0), bt101.2.1, bt101.2.2))
set_option maxHeartbeats 8000000 in
set_option maxRecDepth 100000 in
theorem spec_l1Cur_one.calls (g : Nat) (s0_0 : List Int) (s0_1 : Int) (s0_2 : Int) (a1 : Int) (r1 : Bool) (r2 : Int) (r3 : Int) (w0 w : World) (hI : IsS38 w0 w g s0_0 s0_1 s0_2) (hB : Below w0.heap.size w0 w) (h : spec_l1Cur_one.f s0_0 s0_1 s0_2 a1 = some (r1, r2, r3)) :
  Calls Tryd.prog 12 #[.pointer (some ⟨g, 0, none⟩), .int .i64 a1] w fun e w' => e = .returned (.bool r1) ∧ IsS38 w0 w' g s0_0 r2 r3 ∧ Below w0.heap.size w0 w' ∧ KeepBut w w' g none := by
 have HI0 := aK hI
 have HK := aK (KeepBut.refl w g none)
 have HL := aK hB.size
 clear hI
 have HW0 := aK hB.size
 have HB := aK hB
 clear hB
 have H : ((spec_l1Cur_pick.f s0_0 s0_1 s0_2 a1).bind fun bt101 => (some ((bt101.1 == 0), bt101.2.1, bt101.2.2))) = some (r1, r2, r3) := h
 clear h
 obtain ⟨⟨t101, t102, t103⟩, A3, H⟩ := oB H
 try dsimp only at H
 simp only [Option.some.injEq, Prod.mk.injEq] at H
 obtain ⟨rfl, rfl, rfl⟩ := H
 go_enter Tryd.func12, Tryd.ntmps12
 go_wp2_with (first | ((with_reducible refine gate_callee (f := 28) rfl ?_); refine goesL_ (some 7) rfl rfl Tryd.func28 (by kernel_rfl) rfl #[.pointer (some ⟨g, 0, none⟩), .int .i64 a1] rfl tA ?_; (with_reducible refine (spec_l1Cur_pick.calls g s0_0 s0_1 s0_2 a1 t101 t102 t103 w0 _ ?side1 ?side2 A3.out).mono ?_); (case side1 => exact yI HI0); (case side2 => exact yH HB); rintro e w4 ⟨rfl, hi, hb, hk⟩; refine ⟨_, rfl, ?_⟩; have n0_ := aK (KeepBut.trans (yK HK) hk (.inl rfl)); have n1_ := aK (hb); have n2_ := aK (hi); clear HK; have HK := n0_; clear n0_; clear HB; have HB := n1_; clear n1_; clear HI0; have HI0 := n2_; clear n2_; (try clear hb)))
 go_ret
 exact ⟨eW, yI HI0, yH HB, yK HK⟩


def spec_l1Cur_among.f (s0_0 : List Int) (s0_1 : Int) (s0_2 : Int) (l1 : List Int) : Option (Int × Int × Int) := (spec_l1Cur_pick.f s0_0 s0_1 s0_2 (l1.length : Int)).bind fun bt101 => (if 0 ≤ bt101.1 then (if bt101.1 < (l1.length : Int) then (some (rd l1 bt101.1, bt101.2.1, bt101.2.2)) else (none)) else (none))
set_option maxHeartbeats 8000000 in
set_option maxRecDepth 100000 in
theorem spec_l1Cur_among.calls (g : Nat) (s0_0 : List Int) (s0_1 : Int) (s0_2 : Int) (A1 : Option Addr) (c1 : Nat) (l1 : List Int) (r1 : Int) (r2 : Int) (r3 : Int) (w0 w : World) (hI : IsS38 w0 w g s0_0 s0_1 s0_2) (hB : Below w0.heap.size w0 w) (hr1 : Kd.C (Kd.int .i64) w A1 l1.length l1) (hc1 : l1.length ≤ c1) (hf1 : ∀ ad, A1 = some ad → 0 < l1.length → ad.block ≠ g) (h : spec_l1Cur_among.f s0_0 s0_1 s0_2 l1 = some (r1, r2, r3)) :
  Calls Tryd.prog 13 #[.pointer (some ⟨g, 0, none⟩), .slice A1 l1.length c1] w fun e w' => e = .returned (.int .i64 r1) ∧ IsS38 w0 w' g s0_0 r2 r3 ∧ Below w0.heap.size w0 w' ∧ KeepBut w w' g none := by
 have HR1 := aK hr1
 have HC1 := aK hc1
 clear hr1 hc1
 have HI0 := aK hI
 have HK := aK (KeepBut.refl w g none)
 have HL := aK hB.size
 clear hI
 have HW0 := aK hB.size
 have HB := aK hB
 clear hB
 have H : ((spec_l1Cur_pick.f s0_0 s0_1 s0_2 (l1.length : Int)).bind fun bt101 => (if 0 ≤ bt101.1 then (if bt101.1 < (l1.length : Int) then (some (rd l1 bt101.1, bt101.2.1, bt101.2.2)) else (none)) else (none))) = some (r1, r2, r3) := h
 clear h
 obtain ⟨⟨t101, t102, t103⟩, A3, H⟩ := oB H
 try dsimp only at H
 by_cases c4 : 0 ≤ t101
 ·rw [if_pos c4] at H
  have c4b0 : decide (0 ≤ t101) = true := decide_eq_true c4
  clear c4
  by_cases c5 : t101 < (l1.length : Int)
  ·rw [if_pos c5] at H
   have c5b0 : decide (t101 < (l1.length : Int)) = true := decide_eq_true c5
   clear c5
   simp only [Option.some.injEq, Prod.mk.injEq] at H
   obtain ⟨rfl, rfl, rfl⟩ := H
   go_enter Tryd.func13, Tryd.ntmps13
   go_wp2_with (first | ((with_reducible refine gate_callee (f := 28) rfl ?_); refine goesL_ (some 9) rfl rfl Tryd.func28 (by kernel_rfl) rfl #[.pointer (some ⟨g, 0, none⟩), .int .i64 (l1.length : Int)] rfl tA ?_; (with_reducible refine (spec_l1Cur_pick.calls g s0_0 s0_1 s0_2 (l1.length : Int) t101 t102 t103 w0 _ ?side1 ?side2 A3.out).mono ?_); (case side1 => exact yI HI0); (case side2 => exact yH HB); rintro e w6 ⟨rfl, hi, hb, hk⟩; refine ⟨_, rfl, ?_⟩; have n0_ := aK (KeepBut.trans (yK HK) hk (.inl rfl)); have n1_ := aK (hb); have n2_ := aK (hi); clear HK; have HK := n0_; clear n0_; clear HB; have HB := n1_; clear n1_; clear HI0; have HI0 := n2_; clear n2_; (try clear hb); have p104 : 0 ≤ (t101 : Int) := dA; have q104 : t101 < (l1.length : Int) := dA; obtain ⟨ad104, e104, hx104_0⟩ := Kd.at_int HR1.out t101 p104 q104; cases e104; replace hx104_0 := keep_cell HK.out hx104_0 (by first | (rw [add_block]; exact hf1 _ rfl (by omega)) | exact hf1 _ rfl (by omega) | exact hf1 ad104 rfl (by omega)); replace p104 := eq_true p104; replace q104 := eq_true q104))
   go_ret
   exact ⟨eW, yI HI0, yH HB, yK HK⟩
  ·rw [if_neg c5] at H
   exact absurd H (by simp)
 ·rw [if_neg c4] at H
  exact absurd H (by simp)


def spec_ldOne.f (a0 : Int) : Option (Int × Int × (List (S53))) := some (a0, 0, ([] : List (S53)))
set_option maxHeartbeats 8000000 in
set_option maxRecDepth 100000 in
theorem spec_ldOne.calls (a0 : Int) (r1 : Int) (r2 : Int) (r3 : List (S53)) (w : World) (h : spec_ldOne.f a0 = some (r1, r2, r3)) :
  Calls Tryd.prog 46 #[.int .i64 a0] w fun e w' => ∃ v2_ : Value, e = .returned (.agg #[.int .i64 r1, .int .i64 r2, v2_]) ∧ Kd.R k53 53 w' w.heap.size (fun _ => True) v2_ r3 ∧ Below w.heap.size w w' := by
 have hu53 := Tryd.underlying53
 have HB := aK (Below.refl w.heap.size w)
 have H : (some (a0, 0, ([] : List (S53)))) = some (r1, r2, r3) := h
 clear h
 simp only [Option.some.injEq, Prod.mk.injEq] at H
 obtain ⟨rfl, rfl, rfl⟩ := H
 go_enter Tryd.func46, Tryd.ntmps46
 go_wp2_with (first | ((with_reducible refine gate_dst (N := 2) rfl ?_); refine bE (N := 2) (cs := #[.int .i64 0, .int .i64 0, .slice none 0 0]) (t := 53) ?_; intro gb101 hg w2 hbox hb; have GW101 := qw HB hg; have GE101 := qw HB hg; have BK101 := aK hbox; replace HB := qs HB hb; clear hb hbox hg; obtain ⟨hcz3_0, hcz3_1, hcz3_2, hfz3_0, hfz3_1, hfz3_2⟩ := cA3 BK101))
 refine bodyPost_ret (results_cell_row rfl _ _ gb101 53 #[.int .i64 a0, .int .i64 0, .slice none 0 0] (0, 0) _ rfl (p3 BK101) Tryd.underlying53 rfl (by kernel_rfl)) rfl ?_
 exact ⟨_, eW, by first | exact Kd.R_nil _ _ _ _ _ | exact Kd.N_nil _ _ _ _ _ | exact Kd.V_nil _ _ _ _ _ | exact Kd.Q_nil _ _ _ _ _ | exact Kd.S_nil _ _ _ _ _, pH HB⟩


def spec_ldApp.f (a0_0 : Int) (a0_1 : Int) (l0_2 : List (S53)) (a1_0 : Int) (a1_1 : Int) (l1_2 : List (S53)) : Option (Int × Int × (List (S53))) := some (2, 0, (([(⟨a0_0, a0_1, l0_2⟩ : S53), (⟨a1_0, a1_1, l1_2⟩ : S53)] : List (S53))))
set_option maxHeartbeats 8000000 in
set_option maxRecDepth 100000 in
theorem spec_ldApp.calls (a0_0 : Int) (a0_1 : Int) (P0_2_ : Nat → Prop) (A0_2 : Option Addr) (c0_2 : Nat) (l0_2 : List (S53)) (a1_0 : Int) (a1_1 : Int) (P1_2_ : Nat → Prop) (A1_2 : Option Addr) (c1_2 : Nat) (l1_2 : List (S53)) (r1 : Int) (r2 : Int) (r3 : List (S53)) (w : World) (hs0_2 : Kd.V k53 53 w w.heap.size (fun k_ => P0_2_ k_) (.slice A0_2 l0_2.length c0_2) l0_2) (hs1_2 : Kd.V k53 53 w w.heap.size (fun k_ => P1_2_ k_) (.slice A1_2 l1_2.length c1_2) l1_2) (h : spec_ldApp.f a0_0 a0_1 l0_2 a1_0 a1_1 l1_2 = some (r1, r2, r3)) :
  Calls Tryd.prog 47 #[.agg #[.int .i64 a0_0, .int .i64 a0_1, .slice A0_2 l0_2.length c0_2], .agg #[.int .i64 a1_0, .int .i64 a1_1, .slice A1_2 l1_2.length c1_2]] w fun e w' => ∃ v2_ : Value, e = .returned (.agg #[.int .i64 r1, .int .i64 r2, v2_]) ∧ Kd.N k53 53 w' w.heap.size (fun k_ => ((P0_2_ k_ ∨ P1_2_ k_) ∨ w.heap.size ≤ k_)) v2_ r3 ∧ Below w.heap.size w w' := by
 have hu53 := Tryd.underlying53
 have HO0_2 := aK (show Kd.V k53 53 w w.heap.size (fun k_ => ((P0_2_ k_ ∨ P1_2_ k_) ∨ w.heap.size ≤ k_)) (.slice A0_2 l0_2.length c0_2) l0_2 from Kd.V_mono hs0_2 (fun k_ hk => .inl (.inl hk)))
 have HO1_2 := aK (show Kd.V k53 53 w w.heap.size (fun k_ => ((P0_2_ k_ ∨ P1_2_ k_) ∨ w.heap.size ≤ k_)) (.slice A1_2 l1_2.length c1_2) l1_2 from Kd.V_mono hs1_2 (fun k_ hk => .inl (.inr hk)))
 have HB := aK (Below.refl w.heap.size w)
 have H : (some (2, 0, (([(⟨a0_0, a0_1, l0_2⟩ : S53), (⟨a1_0, a1_1, l1_2⟩ : S53)] : List (S53))))) = some (r1, r2, r3) := h
 clear h
 obtain ⟨y104, hy104⟩ : ∃ y_ : List (S53), y_ = (([(⟨a0_0, a0_1, l0_2⟩ : S53), (⟨a1_0, a1_1, l1_2⟩ : S53)] : List (S53))) := ⟨_, rfl⟩
 replace H : (some (2, 0, y104)) = some (r1, r2, r3) := by first | (rw [hy104]; with_reducible exact H) | (have H2_ := (Option.bind_some _ _).symm.trans H; rw [hy104]; with_reducible exact H2_) | (have H2_ := (Option.bind_some _ _).symm.trans H; with_reducible exact H2_) | with_reducible exact H | (rw [hy104]; exact H) | exact H
 have Ny104 := aK hy104
 clear hy104
 simp only [Option.some.injEq, Prod.mk.injEq] at H
 obtain ⟨rfl, rfl, rfl⟩ := H
 go_enter Tryd.func47, Tryd.ntmps47
 go_wp2_with (first | ((with_reducible refine gate_dst (N := 2) rfl ?_); refine bE (N := 2) (cs := #[.int .i64 a0_0, .int .i64 a0_1, .slice A0_2 l0_2.length c0_2]) (t := 53) ?_; intro gb101 hg w3 hbox hb; have GW101 := qw HB hg; have GE101 := qw HB hg; replace HO0_2 := qv HO0_2 hg hb; replace HO1_2 := qv HO1_2 hg hb; have BK101 := aK hbox; replace HB := qs HB hb; clear hb hbox hg) | ((with_reducible refine gate_dst (N := 3) rfl ?_); refine bE (N := 3) (cs := #[.int .i64 a1_0, .int .i64 a1_1, .slice A1_2 l1_2.length c1_2]) (t := 53) ?_; intro gb102 hg w4 hbox hb; have GW102 := qw HB hg; have GE102 := qw HB hg; have NB101_102 := ql BK101 hg; have NB102_101 := qg BK101 hg; replace HO0_2 := qv HO0_2 hg hb; replace HO1_2 := qv HO1_2 hg hb; replace BK101 := qb BK101 hb; have BK102 := aK hbox; replace HB := qs HB hb; clear hb hbox hg) | ((with_reducible refine gate_dst (N := 4) rfl ?_); refine bE (N := 4) (cs := #[.int .i64 0, .int .i64 0, .slice none 0 0]) (t := 53) ?_; intro gb103 hg w5 hbox hb; have GW103 := qw HB hg; have GE103 := qw HB hg; have NB101_103 := ql BK101 hg; have NB103_101 := qg BK101 hg; have NB102_103 := ql BK102 hg; have NB103_102 := qg BK102 hg; replace HO0_2 := qv HO0_2 hg hb; replace HO1_2 := qv HO1_2 hg hb; replace BK101 := qb BK101 hb; replace BK102 := qb BK102 hb; have BK103 := aK hbox; replace HB := qs HB hb; clear hb hbox hg; have hnb6 := NB101_102.out; have hnc6 := NB102_101.out; have hnb7 := NB101_103.out; have hnc7 := NB103_101.out; obtain ⟨hcz8_0, hcz8_1, hcz8_2, hfz8_0, hfz8_1, hfz8_2⟩ := cA3 BK101; have hnb9 := NB102_103.out; have hnc9 := NB103_102.out; obtain ⟨hcz10_0, hcz10_1, hcz10_2, hfz10_0, hfz10_1, hfz10_2⟩ := cA3 BK102) | ((with_reducible refine gate_dst (N := 7) rfl ?_); refine Kd.N_lit k53 _ 53 ?hg (N' := 7) ?hd (xs := ([(⟨a0_0, a0_1, l0_2⟩ : S53), (⟨a1_0, a1_1, l1_2⟩ : S53)] : List (S53))) (inner := [.int .i64 a0_0, .int .i64 a0_1, .slice A0_2 l0_2.length c0_2, .int .i64 a1_0, .int .i64 a1_1, .slice A1_2 l1_2.length c1_2]) (ok := (fun k_ => ((P0_2_ k_ ∨ P1_2_ k_) ∨ w.heap.size ≤ k_) ∧ k_ ≠ gb101 ∧ k_ ≠ gb102 ∧ k_ ≠ gb103)) (okp := (fun k_ => ((P0_2_ k_ ∨ P1_2_ k_) ∨ w.heap.size ≤ k_) ∧ k_ ≠ gb101 ∧ k_ ≠ gb102 ∧ k_ ≠ gb103)) ?hr ?hp (fun _ hk => hk) ((show ∀ k_, w5.heap.size ≤ k_ → (fun k_ => ((P0_2_ k_ ∨ P1_2_ k_) ∨ w.heap.size ≤ k_) ∧ k_ ≠ gb101 ∧ k_ ≠ gb102 ∧ k_ ≠ gb103) k_ from fun k_ hk => ⟨(.inr (Nat.le_trans (below_size (pH HB)) hk)), Kd.freshB BK101.out k_ hk, Kd.freshB BK102.out k_ hk, Kd.freshB BK103.out k_ hk⟩) _ (Nat.le_refl _)) (Below.refl _ _) (Nat.le_refl _) (by simp) ?_; (case hd => rfl); (case hg => rfl); (case hr => go_simp); (case hp => exact (Reps.c3 (show Kd.FK k53 _ _ (⟨a0_0, a0_1, l0_2⟩ : S53) [.int .i64 a0_0, .int .i64 a0_1, .slice A0_2 l0_2.length c0_2] from (k53_mkF _ _ (⟨a0_0, a0_1, l0_2⟩ : S53) (Kd.V_reads' (Kd.V_mono (ok' := (fun k_ => ((P0_2_ k_ ∨ P1_2_ k_) ∨ w.heap.size ≤ k_) ∧ k_ ≠ gb101 ∧ k_ ≠ gb102 ∧ k_ ≠ gb103)) (HO0_2.out) (fun k_ hk => ⟨hk.1.1.1, ⟨hk.1.1.2, ⟨hk.1.2, hk.2⟩⟩⟩))).2.1 (Kd.V_F (Kd.V_mono (ok' := (fun k_ => ((P0_2_ k_ ∨ P1_2_ k_) ∨ w.heap.size ≤ k_) ∧ k_ ≠ gb101 ∧ k_ ≠ gb102 ∧ k_ ≠ gb103)) (HO0_2.out) (fun k_ hk => ⟨hk.1.1.1, ⟨hk.1.1.2, ⟨hk.1.2, hk.2⟩⟩⟩))))) (Reps.c3 (show Kd.FK k53 _ _ (⟨a1_0, a1_1, l1_2⟩ : S53) [.int .i64 a1_0, .int .i64 a1_1, .slice A1_2 l1_2.length c1_2] from (k53_mkF _ _ (⟨a1_0, a1_1, l1_2⟩ : S53) (Kd.V_reads' (Kd.V_mono (ok' := (fun k_ => ((P0_2_ k_ ∨ P1_2_ k_) ∨ w.heap.size ≤ k_) ∧ k_ ≠ gb101 ∧ k_ ≠ gb102 ∧ k_ ≠ gb103)) (HO1_2.out) (fun k_ hk => ⟨hk.1.1.1, ⟨hk.1.1.2, ⟨hk.1.2, hk.2⟩⟩⟩))).2.1 (Kd.V_F (Kd.V_mono (ok' := (fun k_ => ((P0_2_ k_ ∨ P1_2_ k_) ∨ w.heap.size ≤ k_) ∧ k_ ≠ gb101 ∧ k_ ≠ gb102 ∧ k_ ≠ gb103)) (HO1_2.out) (fun k_ hk => ⟨hk.1.1.1, ⟨hk.1.1.2, ⟨hk.1.2, hk.2⟩⟩⟩))))) (Reps.none _ _)))); intro v105 w11 ho12 hb hg_ hnew_; clear hg_ hnew_; (first | rw [← Ny104.out] at ho12 | (simp only [Int.reduceToNat] at ho12; rw [← Ny104.out] at ho12)); have HO106 := aK (Kd.N_lower ho12 (below_size HB.out)); replace HO0_2 := qe HO0_2 (Kd.N_base ho12) hb; replace HO1_2 := qe HO1_2 (Kd.N_base ho12) hb; replace BK101 := qb BK101 hb; replace BK102 := qb BK102 hb; replace BK103 := qb BK103 hb; replace HB := qs HB hb; clear hb ho12; obtain ⟨Ao13, co13, eo13⟩ := Kd.N_slice HO106.out; subst eo13; obtain ⟨hcz14_0, hcz14_1, hcz14_2, hfz14_0, hfz14_1, hfz14_2⟩ := cA3 BK103))
 refine bodyPost_ret (results_cell_row rfl _ _ gb103 53 #[.int .i64 2, .int .i64 0, .slice Ao13 y104.length co13] (0, 0) _ rfl (p3 BK103) Tryd.underlying53 rfl (by kernel_rfl)) rfl ?_
 exact ⟨_, eW, by (with_reducible repeat (first | apply Kd.N_alloc | apply Kd.N_drewN | apply Kd.N_drew)); exact Kd.N_mono (nF3 gb103 (Kd.N_mono HO106.out (fun k_ hk => (⟨hk, hk.2.2.2⟩ : _ ∧ k_ ≠ gb103))) (fun _ hk => hk.2)) (fun _ hk => hk.1.1), pH HB⟩


mutual
def spec_l1Cur_comb.j0 : Nat → Int → Int → Bool → List Int → Int → Int → Option (Int × Int × (List (S53)) × Int × Int)
 | 0, _, _, _, _, _, _ => none
 | k + 1, x1, x5, x13, x1000, x1001, x1002 => if x13 = true then (spec_l1Cur_comb.j1 k x1 (wrap64 (x5 - 4)) x1000 x1001 x1002) else (spec_l1Cur_comb.j1 k x1 x5 x1000 x1001 x1002)
def spec_l1Cur_comb.j1 : Nat → Int → Int → List Int → Int → Int → Option (Int × Int × (List (S53)) × Int × Int)
 | 0, _, _, _, _, _ => none
 | k + 1, x1, x5, x1000, x1001, x1002 => if x5 = 0 then (spec_l1Cur_comb.j2 k x1 x5 (x5 == 0) x1000 x1001 x1002) else (spec_l1Cur_comb.j2 k x1 x5 (x5 == 1) x1000 x1001 x1002)
def spec_l1Cur_comb.j2 : Nat → Int → Int → Bool → List Int → Int → Int → Option (Int × Int × (List (S53)) × Int × Int)
 | 0, _, _, _, _, _, _ => none
 | k + 1, x1, x16, x17, x1000, x1001, x1002 => if x17 = true then ((spec_l1Cur_pick.f x1000 x1001 x1002 3).bind fun bt105 => (some (1, bt105.1, ([] : List (S53)), bt105.2.1, bt105.2.2))) else (if x16 = 2 then ((spec_ldOne.f 5).bind fun bt108 => (some (bt108.1, bt108.2.1, bt108.2.2, x1001, x1002))) else (if x16 = 3 then ((spec_l1Cur_pick.f x1000 x1001 x1002 2).bind fun bt113 => ((spec_ldOne.f (wrap64 (3 + bt113.1))).bind fun bt116 => (some (bt116.1, bt116.2.1, bt116.2.2, bt113.2.1, bt113.2.2)))) else ((spec_l1Cur_comb.f k x1000 x1001 x1002 (wrap64 (x1 - 1))).bind fun bt121 => ((spec_l1Cur_comb.f k x1000 bt121.2.2.2.1 bt121.2.2.2.2 (wrap64 (x1 - 1))).bind fun bt128 => ((spec_ldApp.f bt121.1 bt121.2.1 bt121.2.2.1 bt128.1 bt128.2.1 bt128.2.2.1).bind fun bt135 => (some (bt135.1, bt135.2.1, bt135.2.2, bt128.2.2.2.1, bt128.2.2.2.2)))))))
def spec_l1Cur_comb.f : Nat → List Int → Int → Int → Int → Option (Int × Int × (List (S53)) × Int × Int)
 | 0, _, _, _, _ => none
 | k + 1, s0_0, s0_1, s0_2, a1 => (spec_l1Cur_pick.f s0_0 s0_1 s0_2 7).bind fun bt102 => (if a1 = 0 then (spec_l1Cur_comb.j0 k a1 bt102.1 (decide (bt102.1 > 3)) s0_0 bt102.2.1 bt102.2.2) else (spec_l1Cur_comb.j0 k a1 bt102.1 false s0_0 bt102.2.1 bt102.2.2))
end
set_option maxHeartbeats 8000000 in
set_option maxRecDepth 100000 in
theorem spec_l1Cur_comb.calls (k : Nat) : ∀ (g : Nat) (s0_0 : List Int) (s0_1 : Int) (s0_2 : Int) (a1 : Int) (r1 : Int) (r2 : Int) (r3 : List (S53)) (r4 : Int) (r5 : Int) (w0 w : World) (hI : IsS38 w0 w g s0_0 s0_1 s0_2) (hB : Below w0.heap.size w0 w) (h : spec_l1Cur_comb.f k s0_0 s0_1 s0_2 a1 = some (r1, r2, r3, r4, r5)),
  Calls Tryd.prog 30 #[.pointer (some ⟨g, 0, none⟩), .int .i64 a1] w fun e w' => ∃ v2_ : Value, e = .returned (.agg #[.int .i64 r1, .int .i64 r2, v2_]) ∧ Kd.N k53 53 w' w.heap.size (fun k_ => (w.heap.size ≤ k_)) v2_ r3 ∧ IsS38 w0 w' g s0_0 r4 r5 ∧ Below w0.heap.size w0 w' ∧ KeepBut w w' g none := by
 induction k using Nat.strongRecOn with
 | _ k ih =>
 intro g s0_0 s0_1 s0_2 a1 r1 r2 r3 r4 r5 w0 w hI hB h
 cases k with
 | zero => exact absurd h (by simp [spec_l1Cur_comb.f])
 | succ k =>
 simp only [spec_l1Cur_comb.f] at h
 have hu53 := Tryd.underlying53
 have HI0 := aK hI
 have HK := aK (KeepBut.refl w g none)
 have HL := aK hB.size
 clear hI
 have HW0 := aK hB.size
 have HB := aK hB
 clear hB
 have H : ((spec_l1Cur_pick.f s0_0 s0_1 s0_2 7).bind fun bt102 => (if a1 = 0 then (spec_l1Cur_comb.j0 k a1 bt102.1 (decide (bt102.1 > 3)) s0_0 bt102.2.1 bt102.2.2) else (spec_l1Cur_comb.j0 k a1 bt102.1 false s0_0 bt102.2.1 bt102.2.2))) = some (r1, r2, r3, r4, r5) := h
 clear h
 obtain ⟨⟨t102, t103, t104⟩, A3, H⟩ := oB H
 try dsimp only at H
 have HC4 := aK H
 clear H
 go_enter Tryd.func30, Tryd.ntmps30
 go_upto_region 2 with (first | ((with_reducible refine gate_dst (N := 4) rfl ?_); refine bE (N := 4) (cs := #[.int .i64 0, .int .i64 0, .slice none 0 0]) (t := 53) ?_; intro gb101 hg w5 hbox hb; have n0_ := aK (IsS38.below (yI HI0) hb); have n1_ := aK (KeepBut.trans (yK HK) (KeepBut.of_below hb g none) (.inl rfl)); have n2_ := aK (below_step (yH HB) hb); have GW101 := aK ((by rw [hg]; exact (keep_size (w := w) (g := g) (row := none) (yK HK)) : w.heap.size ≤ gb101)); have GE101 := aK ((Nat.le_trans HW0.out (by rw [hg]; exact (keep_size (w := w) (g := g) (row := none) (yK HK)) : w.heap.size ≤ gb101) : w0.heap.size ≤ gb101)); have NB0_101 := aK ((by rw [hg]; exact Nat.ne_of_lt (IsS38.lt (show IsS38 w0 _ g s0_0 s0_1 s0_2 from by repeat (first | (with_reducible first | exact HI0.out | apply IsS38.alloc | apply IsS38.drewN | apply IsS38.drew | apply IsS38.set_1 | apply IsS38.set_2) | exact HI0.out))) : g ≠ gb101)); have NB101_0 := aK ((by rw [hg]; exact Nat.ne_of_gt (IsS38.lt (show IsS38 w0 _ g s0_0 s0_1 s0_2 from by repeat (first | (with_reducible first | exact HI0.out | apply IsS38.alloc | apply IsS38.drewN | apply IsS38.drew | apply IsS38.set_1 | apply IsS38.set_2) | exact HI0.out))) : gb101 ≠ g)); have BK101 := aK hbox; clear HI0; have HI0 := n0_; clear n0_; clear HK; have HK := n1_; clear n1_; clear HB; have HB := n2_; clear n2_; clear hb hbox hg) | ((with_reducible refine gate_callee (f := 28) rfl ?_); refine goesL_ (some 7) rfl rfl Tryd.func28 (by kernel_rfl) rfl #[.pointer (some ⟨g, 0, none⟩), .int .i64 7] rfl tA ?_; (with_reducible refine (spec_l1Cur_pick.calls g s0_0 s0_1 s0_2 7 t102 t103 t104 w0 _ ?side1 ?side2 A3.out).mono ?_); (case side1 => exact yI HI0); (case side2 => exact yH HB); rintro e w6 ⟨rfl, hi, hb, hk⟩; refine ⟨_, rfl, ?_⟩; have n_ := aJ (aK (KeepBut.blk hk (g' := gb101) (o := .cells #[.int .i64 0, .int .i64 0, .slice none 0 0] 53 (0, 0)) BK101.out NB101_0.out (by simp))) (aJ (aK (KeepBut.trans (yK HK) hk (.inl rfl))) (aJ (aK (hb)) (aK (hi)))); clear BK101 HK HB HI0; obtain ⟨BK101, HK, HB, HI0⟩ := n_; (try clear hb)))
 (try simp only [Act.put, List.setIfInBounds_toArray, List.set_cons_zero, List.set_cons_succ])
 go_cut [13] (fun v13 wc => ∃ (kq : Nat) (x13_3 : Bool), v13 = .bool x13_3 ∧ Aside0 (spec_l1Cur_comb.j0 kq a1 t102 x13_3 s0_0 t103 t104 = some (r1, r2, r3, r4, r5)) ∧ Aside0 (kq ≤ k) ∧ Aside0 (wc.heap[gb101]? = some (.cells #[.int .i64 0, .int .i64 0, (.slice none 0 0)] 53 (0, 0))) ∧ Aside0 (IsS38 w0 wc g s0_0 t103 t104) ∧ Aside0 (KeepBut w wc g none) ∧ Aside0 (Below w0.heap.size w0 wc))
 case first =>
  have H := HC4.out
  clear HC4
  by_cases c7 : a1 = 0
  ·rw [if_pos c7] at H
   have c7b0 : (a1 == 0) = true := beq_iff_eq.mpr c7
   have c7b1 : (a1 != 0) = false := bne_eq_false_iff_eq.mpr c7
   clear c7
   (first | rw [c7b0] | (simp only [i64_w, i32_w]; rw [c7b0]) | skip)
   have H' := aK H
   clear H
   go_wp2
   go_meet
   case rel => exact ⟨_, (decide (t102 > 3)), rS, H', ⟨by first | omega | exact Nat.le_refl _⟩, ⟨pB BK101⟩, ⟨yI HI0⟩, ⟨yK HK⟩, ⟨yH HB⟩⟩
  ·rw [if_neg c7] at H
   have c7b0 : (a1 == 0) = false := beq_eq_false_iff_ne.mpr c7
   have c7b1 : (a1 != 0) = true := bne_iff_ne.mpr c7
   (first | rw [c7b0] | (simp only [i64_w, i32_w]; rw [c7b0]) | skip)
   have H' := aK H
   clear H
   go_wp2
   go_meet
   case rel => exact ⟨_, (false), rS, H', ⟨by first | omega | exact Nat.le_refl _⟩, ⟨pB BK101⟩, ⟨yI HI0⟩, ⟨yK HK⟩, ⟨yH HB⟩⟩
 case rest =>
  clear HC4
  try clear c2; try clear p2; try clear c3; try clear c7; try clear c7b0; try clear c7b1
  obtain ⟨kq, x13_3, rfl, HA, HJ3, BK101, HI0, HK, HB⟩ := hcut
  cases kq with
  | zero => exact absurd HA.out (by simp [spec_l1Cur_comb.j0])
  | succ kj3 =>
   have H := HA.out
   clear HA
   simp only [spec_l1Cur_comb.j0] at H
   have HC8 := aK H
   clear H
   go_upto_if 13 with (fail)
   go_cut [5] (fun v5 wc => ∃ (kq : Nat) (x5_7 : Int), v5 = .int .i64 x5_7 ∧ Aside0 (spec_l1Cur_comb.j1 kq a1 x5_7 s0_0 t103 t104 = some (r1, r2, r3, r4, r5)) ∧ Aside0 (kq ≤ kj3) ∧ Aside0 (wc.heap[gb101]? = some (.cells #[.int .i64 0, .int .i64 0, (.slice none 0 0)] 53 (0, 0))) ∧ Aside0 (IsS38 w0 wc g s0_0 t103 t104) ∧ Aside0 (KeepBut w wc g none) ∧ Aside0 (Below w0.heap.size w0 wc))
   case first =>
    have H := HC8.out
    clear HC8
    by_cases c9 : x13_3 = true
    ·subst c9
     rw [if_pos rfl] at H
     have H' := aK H
     clear H
     go_wp2
     go_meet
     case rel => exact ⟨_, (wrap64 (t102 - 4)), rS, H', ⟨by have := HJ3.out; first | omega | exact Nat.le_refl _⟩, ⟨pB BK101⟩, ⟨yI HI0⟩, ⟨yK HK⟩, ⟨yH HB⟩⟩
    ·replace c9 := Bool.eq_false_iff.mpr c9
     subst c9
     rw [if_neg (show ¬ (false = true) by decide)] at H
     have H' := aK H
     clear H
     go_wp2
     go_meet
     case rel => exact ⟨_, (t102), rS, H', ⟨by have := HJ3.out; first | omega | exact Nat.le_refl _⟩, ⟨pB BK101⟩, ⟨yI HI0⟩, ⟨yK HK⟩, ⟨yH HB⟩⟩
   case rest =>
    clear HC8
    try clear c2; try clear p2; try clear c3; try clear p6; try clear c7; try clear c7b0; try clear c7b1; try clear c9; try clear p2
    obtain ⟨kq, x5_7, rfl, HA, HJ7, BK101, HI0, HK, HB⟩ := hcut
    cases kq with
    | zero => exact absurd HA.out (by simp [spec_l1Cur_comb.j1])
    | succ kj7 =>
     have H := HA.out
     clear HA
     simp only [spec_l1Cur_comb.j1] at H
     have HC10 := aK H
     clear H
     go_upto_if 17 with (fail)
     go_cut [17] (fun v17 wc => ∃ (kq : Nat) (x17_9 : Bool), v17 = .bool x17_9 ∧ Aside0 (spec_l1Cur_comb.j2 kq a1 x5_7 x17_9 s0_0 t103 t104 = some (r1, r2, r3, r4, r5)) ∧ Aside0 (kq ≤ kj7) ∧ Aside0 (wc.heap[gb101]? = some (.cells #[.int .i64 0, .int .i64 0, (.slice none 0 0)] 53 (0, 0))) ∧ Aside0 (IsS38 w0 wc g s0_0 t103 t104) ∧ Aside0 (KeepBut w wc g none) ∧ Aside0 (Below w0.heap.size w0 wc))
     case first =>
      have H := HC10.out
      clear HC10
      by_cases c11 : x5_7 = 0
      ·rw [if_pos c11] at H
       have c11b0 : (x5_7 == 0) = true := beq_iff_eq.mpr c11
       have c11b1 : (x5_7 != 0) = false := bne_eq_false_iff_eq.mpr c11
       clear c11
       (first | rw [c11b0] | (simp only [i64_w, i32_w]; rw [c11b0]) | skip)
       have H' := aK H
       clear H
       go_wp2
       go_meet
       case rel => exact ⟨_, ((x5_7 == 0)), rS, H', ⟨by have := HJ3.out; have := HJ7.out; first | omega | exact Nat.le_refl _⟩, ⟨pB BK101⟩, ⟨yI HI0⟩, ⟨yK HK⟩, ⟨yH HB⟩⟩
      ·rw [if_neg c11] at H
       have c11b0 : (x5_7 == 0) = false := beq_eq_false_iff_ne.mpr c11
       have c11b1 : (x5_7 != 0) = true := bne_iff_ne.mpr c11
       (first | rw [c11b0] | (simp only [i64_w, i32_w]; rw [c11b0]) | skip)
       have H' := aK H
       clear H
       go_wp2
       go_meet
       case rel => exact ⟨_, ((x5_7 == 1)), rS, H', ⟨by have := HJ3.out; have := HJ7.out; first | omega | exact Nat.le_refl _⟩, ⟨pB BK101⟩, ⟨yI HI0⟩, ⟨yK HK⟩, ⟨yH HB⟩⟩
     case rest =>
      clear HC10
      try clear c1; try clear c2; try clear p2; try clear c3; try clear p6; try clear c7; try clear c7b0; try clear c7b1; try clear c9; try clear c11; try clear c11b0; try clear c11b1; try clear p2; try clear p6
      obtain ⟨kq, x17_9, rfl, HA, HJ9, BK101, HI0, HK, HB⟩ := hcut
      cases kq with
      | zero => exact absurd HA.out (by simp [spec_l1Cur_comb.j2])
      | succ kj9 =>
       have H := HA.out
       clear HA
       simp only [spec_l1Cur_comb.j2] at H
       by_cases c12 : x17_9 = true
       ·subst c12
        rw [if_pos rfl] at H
        obtain ⟨⟨t105, t106, t107⟩, A13, H⟩ := oB H
        try dsimp only at H
        simp only [Option.some.injEq, Prod.mk.injEq] at H
        obtain ⟨rfl, rfl, rfl, rfl, rfl⟩ := H
        go_wp2_with (first | ((with_reducible refine gate_callee (f := 28) rfl ?_); refine goesL_ (some 21) rfl rfl Tryd.func28 (by kernel_rfl) rfl #[.pointer (some ⟨g, 0, none⟩), .int .i64 3] rfl tA ?_; (with_reducible refine (spec_l1Cur_pick.calls g s0_0 t103 t104 3 t105 t106 t107 w0 _ ?side1 ?side2 A13.out).mono ?_); (case side1 => exact yI HI0); (case side2 => exact yH HB); rintro e w14 ⟨rfl, hi, hb, hk⟩; refine ⟨_, rfl, ?_⟩; have n_ := aJ (aK (KeepBut.blk hk (g' := gb101) (o := .cells #[.int .i64 0, .int .i64 0, .slice none 0 0] 53 (0, 0)) BK101.out NB101_0.out (by simp))) (aJ (aK (KeepBut.trans (yK HK) hk (.inl rfl))) (aJ (aK (hb)) (aK (hi)))); clear BK101 HK HB HI0; obtain ⟨BK101, HK, HB, HI0⟩ := n_; (try clear hb); have hnb15 := NB101_0.out; have hnc15 := NB0_101.out; obtain ⟨hcz16_0, hcz16_1, hcz16_2, hfz16_0, hfz16_1, hfz16_2⟩ := cA3 BK101))
        refine bodyPost_ret (results_cell_row rfl _ _ gb101 53 #[.int .i64 1, .int .i64 t105, .slice none 0 0] (0, 0) _ rfl (p3 BK101) Tryd.underlying53 rfl (by kernel_rfl)) rfl ?_
        exact ⟨_, eW, by first | exact Kd.R_nil _ _ _ _ _ | exact Kd.N_nil _ _ _ _ _ | exact Kd.V_nil _ _ _ _ _ | exact Kd.Q_nil _ _ _ _ _ | exact Kd.S_nil _ _ _ _ _, yI HI0, yH HB, yK HK⟩
       ·replace c12 := Bool.eq_false_iff.mpr c12
        subst c12
        rw [if_neg (show ¬ (false = true) by decide)] at H
        by_cases c17 : x5_7 = 2
        ·rw [if_pos c17] at H
         have c17b0 : (x5_7 == 2) = true := beq_iff_eq.mpr c17
         have c17b1 : (x5_7 != 2) = false := bne_eq_false_iff_eq.mpr c17
         clear c17
         obtain ⟨⟨t108, t109, t110⟩, A18, H⟩ := oB H
         try dsimp only at H
         simp only [Option.some.injEq, Prod.mk.injEq] at H
         obtain ⟨rfl, rfl, rfl, rfl, rfl⟩ := H
         go_wp2_with (first | ((with_reducible refine gate_callee (f := 46) rfl ?_); refine goesL_ (some 25) rfl rfl Tryd.func46 (by kernel_rfl) rfl #[.int .i64 5] rfl tA ?_; (with_reducible refine (spec_ldOne.calls 5 t108 t109 t110 _ A18.out).mono ?_); rintro e w19 ⟨v111, rfl, ho0, hb⟩; refine ⟨_, rfl, ?_⟩; have n_ := aJ (aK (Kd.N_lower (Kd.N_mono (ok' := fun k_ => (w.heap.size ≤ k_) ∧ k_ ≠ gb101 ∧ k_ ≠ g) (Kd.R_N (Kd.R_bound ho0)) (fun k_ hk_ => ⟨(Nat.le_trans (keep_size (w := w) (g := g) (row := none) (yK HK)) hk_.2.1), (Kd.freshB BK101.out k_ hk_.2.1), (IsS38.fresh (yI HI0) k_ hk_.2.1)⟩)) (keep_size (w := w) (g := g) (row := none) (yK HK)))) (aJ (aK (blk_below BK101.out hb)) (aJ (aK (IsS38.below (yI HI0) hb)) (aJ (aK (KeepBut.trans (yK HK) (KeepBut.of_below hb g none) (.inl rfl))) (aK (below_step (yH HB) hb))))); clear BK101 HI0 HK HB; obtain ⟨HO112, BK101, HI0, HK, HB⟩ := n_; (try clear hb); (try clear ho0); have hnb20 := NB101_0.out; have hnc20 := NB0_101.out; obtain ⟨hcz21_0, hcz21_1, hcz21_2, hfz21_0, hfz21_1, hfz21_2⟩ := cA3 BK101; obtain ⟨Ao22, co22, eo22⟩ := Kd.N_slice HO112.out; subst eo22))
         refine bodyPost_ret (results_cell_row rfl _ _ gb101 53 #[.int .i64 t108, .int .i64 t109, .slice Ao22 t110.length co22] (0, 0) _ rfl (p3 BK101) Tryd.underlying53 rfl (by kernel_rfl)) rfl ?_
         exact ⟨_, eW, by (with_reducible repeat (first | apply Kd.N_alloc | apply Kd.N_drewN | apply Kd.N_drew)); exact Kd.N_mono (nF3 gb101 (Kd.N_mono HO112.out (fun k_ hk => (⟨hk, hk.2.1⟩ : _ ∧ k_ ≠ gb101))) (fun _ hk => hk.2)) (fun _ hk => hk.1.1), yI HI0, yH HB, yK HK⟩
        ·rw [if_neg c17] at H
         have c17b0 : (x5_7 == 2) = false := beq_eq_false_iff_ne.mpr c17
         have c17b1 : (x5_7 != 2) = true := bne_iff_ne.mpr c17
         by_cases c23 : x5_7 = 3
         ·rw [if_pos c23] at H
          have c23b0 : (x5_7 == 3) = true := beq_iff_eq.mpr c23
          have c23b1 : (x5_7 != 3) = false := bne_eq_false_iff_eq.mpr c23
          clear c23
          obtain ⟨⟨t113, t114, t115⟩, A24, H⟩ := oB H
          try dsimp only at H
          obtain ⟨⟨t116, t117, t118⟩, A25, H⟩ := oB H
          try dsimp only at H
          simp only [Option.some.injEq, Prod.mk.injEq] at H
          obtain ⟨rfl, rfl, rfl, rfl, rfl⟩ := H
          go_wp2_with (first | ((with_reducible refine gate_callee (f := 28) rfl ?_); refine goesL_ (some 29) rfl rfl Tryd.func28 (by kernel_rfl) rfl #[.pointer (some ⟨g, 0, none⟩), .int .i64 2] rfl tA ?_; (with_reducible refine (spec_l1Cur_pick.calls g s0_0 t103 t104 2 t113 t114 t115 w0 _ ?side1 ?side2 A24.out).mono ?_); (case side1 => exact yI HI0); (case side2 => exact yH HB); rintro e w26 ⟨rfl, hi, hb, hk⟩; refine ⟨_, rfl, ?_⟩; have n_ := aJ (aK (KeepBut.blk hk (g' := gb101) (o := .cells #[.int .i64 0, .int .i64 0, .slice none 0 0] 53 (0, 0)) BK101.out NB101_0.out (by simp))) (aJ (aK (KeepBut.trans (yK HK) hk (.inl rfl))) (aJ (aK (hb)) (aK (hi)))); clear BK101 HK HB HI0; obtain ⟨BK101, HK, HB, HI0⟩ := n_; (try clear hb)) | ((with_reducible refine gate_callee (f := 46) rfl ?_); refine goesL_ (some 31) rfl rfl Tryd.func46 (by kernel_rfl) rfl #[.int .i64 (wrap64 (3 + t113))] rfl tA ?_; (with_reducible refine (spec_ldOne.calls (wrap64 (3 + t113)) t116 t117 t118 _ A25.out).mono ?_); rintro e w27 ⟨v119, rfl, ho0, hb⟩; refine ⟨_, rfl, ?_⟩; have n_ := aJ (aK (Kd.N_lower (Kd.N_mono (ok' := fun k_ => (w.heap.size ≤ k_) ∧ k_ ≠ gb101 ∧ k_ ≠ g) (Kd.R_N (Kd.R_bound ho0)) (fun k_ hk_ => ⟨(Nat.le_trans (keep_size (w := w) (g := g) (row := none) (yK HK)) hk_.2.1), (Kd.freshB BK101.out k_ hk_.2.1), (IsS38.fresh (yI HI0) k_ hk_.2.1)⟩)) (keep_size (w := w) (g := g) (row := none) (yK HK)))) (aJ (aK (blk_below BK101.out hb)) (aJ (aK (IsS38.below (yI HI0) hb)) (aJ (aK (KeepBut.trans (yK HK) (KeepBut.of_below hb g none) (.inl rfl))) (aK (below_step (yH HB) hb))))); clear BK101 HI0 HK HB; obtain ⟨HO120, BK101, HI0, HK, HB⟩ := n_; (try clear hb); (try clear ho0); have hnb28 := NB101_0.out; have hnc28 := NB0_101.out; obtain ⟨hcz29_0, hcz29_1, hcz29_2, hfz29_0, hfz29_1, hfz29_2⟩ := cA3 BK101; obtain ⟨Ao30, co30, eo30⟩ := Kd.N_slice HO120.out; subst eo30))
          refine bodyPost_ret (results_cell_row rfl _ _ gb101 53 #[.int .i64 t116, .int .i64 t117, .slice Ao30 t118.length co30] (0, 0) _ rfl (p3 BK101) Tryd.underlying53 rfl (by kernel_rfl)) rfl ?_
          exact ⟨_, eW, by (with_reducible repeat (first | apply Kd.N_alloc | apply Kd.N_drewN | apply Kd.N_drew)); exact Kd.N_mono (nF3 gb101 (Kd.N_mono HO120.out (fun k_ hk => (⟨hk, hk.2.1⟩ : _ ∧ k_ ≠ gb101))) (fun _ hk => hk.2)) (fun _ hk => hk.1.1), yI HI0, yH HB, yK HK⟩
         ·rw [if_neg c23] at H
          have c23b0 : (x5_7 == 3) = false := beq_eq_false_iff_ne.mpr c23
          have c23b1 : (x5_7 != 3) = true := bne_iff_ne.mpr c23
          obtain ⟨⟨t121, t122, t123, t126, t127⟩, A31, H⟩ := oB H
          try dsimp only at H
          obtain ⟨⟨t128, t129, t130, t133, t134⟩, A32, H⟩ := oB H
          try dsimp only at H
          obtain ⟨⟨t135, t136, t137⟩, A33, H⟩ := oB H
          try dsimp only at H
          simp only [Option.some.injEq, Prod.mk.injEq] at H
          obtain ⟨rfl, rfl, rfl, rfl, rfl⟩ := H
          go_wp2_with (first | ((with_reducible refine gate_callee (f := 30) rfl ?_); refine goesL_ (some 35) rfl rfl Tryd.func30 (by kernel_rfl) rfl #[.pointer (some ⟨g, 0, none⟩), .int .i64 (wrap64 (a1 - 1))] rfl tA ?_; (with_reducible refine (ih kj9 (by have := HJ3.out; have := HJ7.out; have := HJ9.out; omega) g s0_0 t103 t104 (wrap64 (a1 - 1)) t121 t122 t123 t126 t127 w0 _ ?side1 ?side2 A31.out).mono ?_); (case side1 => exact yI HI0); (case side2 => exact yH HB); rintro e w34 ⟨v124, rfl, ho0, hi, hb, hk⟩; refine ⟨_, rfl, ?_⟩; have n_ := aJ (aK (KeepBut.blk hk (g' := gb101) (o := .cells #[.int .i64 0, .int .i64 0, .slice none 0 0] 53 (0, 0)) BK101.out NB101_0.out (by simp))) (aJ (aK (Kd.N_lower (Kd.N_mono (ok' := fun k_ => (w.heap.size ≤ k_) ∧ k_ ≠ gb101 ∧ k_ ≠ g) ho0 (fun k_ hk_ => ⟨(Nat.le_trans (keep_size (w := w) (g := g) (row := none) (yK HK)) hk_), (Kd.freshB BK101.out k_ hk_), (IsS38.fresh (yI HI0) k_ hk_)⟩)) (keep_size (w := w) (g := g) (row := none) (yK HK)))) (aJ (aK (KeepBut.trans (yK HK) hk (.inl rfl))) (aJ (aK (hb)) (aK (hi))))); clear BK101 HK HB HI0; obtain ⟨BK101, HO125, HK, HB, HI0⟩ := n_; (try clear hb); (try clear ho0)) | ((with_reducible refine gate_callee (f := 30) rfl ?_); refine goesL_ (some 39) rfl rfl Tryd.func30 (by kernel_rfl) rfl #[.pointer (some ⟨g, 0, none⟩), .int .i64 (wrap64 (a1 - 1))] rfl tA ?_; (with_reducible refine (ih kj9 (by have := HJ3.out; have := HJ7.out; have := HJ9.out; omega) g s0_0 t126 t127 (wrap64 (a1 - 1)) t128 t129 t130 t133 t134 w0 _ ?side1 ?side2 A32.out).mono ?_); (case side1 => exact yI HI0); (case side2 => exact yH HB); rintro e w35 ⟨v131, rfl, ho0, hi, hb, hk⟩; refine ⟨_, rfl, ?_⟩; have n_ := aJ (aK (KeepBut.blk hk (g' := gb101) (o := .cells #[.int .i64 0, .int .i64 0, .slice none 0 0] 53 (0, 0)) BK101.out NB101_0.out (by simp))) (aJ (aK (Kd.N_mono (Kd.N_told (Kd.N_oldK (Kd.N_mono (ok := fun k_ => (((w.heap.size ≤ k_)) ∧ (k_ ≠ gb101 ∧ k_ ≠ g))) HO125.out (fun k_ hk_ => (⟨hk_, hk_.2.2⟩ : _ ∧ k_ ≠ g))) hk) (Kd.N_base ho0)) (fun _ h_ => h_.1))) (aJ (aK (Kd.N_lower (Kd.N_mono (ok' := fun k_ => (w.heap.size ≤ k_) ∧ some k_ ≠ (v124 : Value).ownBlock ∧ k_ ≠ gb101 ∧ k_ ≠ g) ho0 (fun k_ hk_ => ⟨(Nat.le_trans (keep_size (w := w) (g := g) (row := none) (yK HK)) hk_), (Kd.fresh' (Kd.N_lt HO125.out) k_ hk_), (Kd.freshB BK101.out k_ hk_), (IsS38.fresh (yI HI0) k_ hk_)⟩)) (keep_size (w := w) (g := g) (row := none) (yK HK)))) (aJ (aK (KeepBut.trans (yK HK) hk (.inl rfl))) (aJ (aK (hb)) (aK (hi)))))); clear BK101 HO125 HK HB HI0; obtain ⟨BK101, HO125, HO132, HK, HB, HI0⟩ := n_; (try clear hb); (try clear ho0); obtain ⟨Ao36, co36, eo36⟩ := Kd.N_slice HO125.out; subst eo36; obtain ⟨Ao37, co37, eo37⟩ := Kd.N_slice HO132.out; subst eo37) | ((with_reducible refine gate_callee (f := 47) rfl ?_); refine goesL_ (some 40) rfl rfl Tryd.func47 (by kernel_rfl) rfl #[.agg #[.int .i64 t121, .int .i64 t122, .slice Ao36 t123.length co36], .agg #[.int .i64 t128, .int .i64 t129, .slice Ao37 t130.length co37]] rfl tA ?_; (with_reducible refine (spec_ldApp.calls t121 t122 (fun k_ => (((w.heap.size ≤ k_) ∧ (k_ ≠ gb101 ∧ k_ ≠ g)) ∧ some k_ ≠ (.slice Ao37 t130.length co37 : Value).ownBlock)) _ _ t123 t128 t129 (fun k_ => ((w.heap.size ≤ k_) ∧ (some k_ ≠ (.slice Ao36 t123.length co36 : Value).ownBlock ∧ (k_ ≠ gb101 ∧ k_ ≠ g)))) _ _ t130 t135 t136 t137 _ ?side1 ?side2 A33.out).mono ?_); (case side1 => exact Kd.N_V (HO125.out)); (case side2 => exact Kd.N_V (HO132.out)); rintro e w38 ⟨v138, rfl, ho0, hb⟩; refine ⟨_, rfl, ?_⟩; have n_ := aJ (aK (Kd.N_elder' HO125.out (Kd.N_base ho0) hb)) (aJ (aK (Kd.N_elder' HO132.out (Kd.N_base ho0) hb)) (aJ (aK (Kd.N_lower (Kd.N_mono (ok' := fun k_ => (w.heap.size ≤ k_) ∧ k_ ≠ gb101 ∧ k_ ≠ g) ho0 (fun k_ hk_ => ⟨Or.elim hk_ (fun hs_ => Or.elim hs_ (fun hs_ => hs_.1.1) (fun hs_ => hs_.1)) (fun hn_ => (Nat.le_trans (keep_size (w := w) (g := g) (row := none) (yK HK)) hn_)), Or.elim hk_ (fun hs_ => Or.elim hs_ (fun hs_ => hs_.1.2.1) (fun hs_ => hs_.2.2.1)) (fun hn_ => (Kd.freshB BK101.out k_ hn_)), Or.elim hk_ (fun hs_ => Or.elim hs_ (fun hs_ => hs_.1.2.2) (fun hs_ => hs_.2.2.2)) (fun hn_ => (IsS38.fresh (yI HI0) k_ hn_))⟩)) (keep_size (w := w) (g := g) (row := none) (yK HK)))) (aJ (aK (blk_below BK101.out hb)) (aJ (aK (IsS38.below (yI HI0) hb)) (aJ (aK (KeepBut.trans (yK HK) (KeepBut.of_below hb g none) (.inl rfl))) (aK (below_step (yH HB) hb))))))); clear HO125 HO132 BK101 HI0 HK HB; obtain ⟨HO125, HO132, HO139, BK101, HI0, HK, HB⟩ := n_; (try clear hb); (try clear ho0); have hnb39 := NB101_0.out; have hnc39 := NB0_101.out; obtain ⟨hcz40_0, hcz40_1, hcz40_2, hfz40_0, hfz40_1, hfz40_2⟩ := cA3 BK101; obtain ⟨Ao41, co41, eo41⟩ := Kd.N_slice HO139.out; subst eo41))
          refine bodyPost_ret (results_cell_row rfl _ _ gb101 53 #[.int .i64 t135, .int .i64 t136, .slice Ao41 t137.length co41] (0, 0) _ rfl (p3 BK101) Tryd.underlying53 rfl (by kernel_rfl)) rfl ?_
          exact ⟨_, eW, by (with_reducible repeat (first | apply Kd.N_alloc | apply Kd.N_drewN | apply Kd.N_drew)); exact Kd.N_mono (nF3 gb101 (Kd.N_mono HO139.out (fun k_ hk => (⟨hk, hk.2.1⟩ : _ ∧ k_ ≠ gb101))) (fun _ hk => hk.2)) (fun _ hk => hk.1.1), yI HI0, yH HB, yK HK⟩


def spec_l1Cur_combs.f (k : Nat) (s0_0 : List Int) (s0_1 : Int) (s0_2 : Int) : Option ((List (S65)) × Int × Int) := (spec_l1Cur_pick.f s0_0 s0_1 s0_2 4).bind fun bt101 => ((spec_l1Cur_comb.f k s0_0 bt101.2.1 bt101.2.2 (wrap64 (1 + bt101.1))).bind fun bt104 => ((spec_ldFlat.f k ([] : List (S65)) bt104.1 bt104.2.1 bt104.2.2.1 (-1)).bind fun t111 => ((spec_l1Cur_pick.f s0_0 bt104.2.2.2.1 bt104.2.2.2.2 40).bind fun bt114 => (if bt114.1 = 0 then ((spec_l1Cur_among.f s0_0 bt114.2.1 bt114.2.2 (([(-1), 999, 1000] : List Int))).bind fun bt120 => (if 0 ≤ (wrap64 ((t111.length : Int) - 1)) then (if (wrap64 ((t111.length : Int) - 1)) < (t111.length : Int) then (some ((t111.set ((wrap64 ((t111.length : Int) - 1)) : Int).toNat (⟨(rd_T65 t111 (wrap64 ((t111.length : Int) - 1))).f0, bt120.1, (rd_T65 t111 (wrap64 ((t111.length : Int) - 1))).f2⟩ : S65)), bt120.2.1, bt120.2.2)) else (none)) else (none))) else (if bt114.1 = 1 then ((spec_l1Cur_pick.f s0_0 bt114.2.1 bt114.2.2 4).bind fun bt124 => (if 0 ≤ (wrap64 ((t111.length : Int) - 1)) then (if (wrap64 ((t111.length : Int) - 1)) < (t111.length : Int) then (some ((t111.set ((wrap64 ((t111.length : Int) - 1)) : Int).toNat (⟨(rd_T65 t111 (wrap64 ((t111.length : Int) - 1))).f0, (rd_T65 t111 (wrap64 ((t111.length : Int) - 1))).f1, wrap64 (bt124.1 - 1)⟩ : S65)), bt124.2.1, bt124.2.2)) else (none)) else (none))) else (some (t111, bt114.2.1, bt114.2.2)))))))
set_option maxHeartbeats 8000000 in
set_option maxRecDepth 100000 in
theorem spec_l1Cur_combs.calls (k : Nat) (g : Nat) (s0_0 : List Int) (s0_1 : Int) (s0_2 : Int) (r1 : List (S65)) (r2 : Int) (r3 : Int) (w0 w : World) (hI : IsS38 w0 w g s0_0 s0_1 s0_2) (hB : Below w0.heap.size w0 w) (h : spec_l1Cur_combs.f k s0_0 s0_1 s0_2 = some (r1, r2, r3)) :
  Calls Tryd.prog 14 #[.pointer (some ⟨g, 0, none⟩)] w fun e w' => ∃ v0_ : Value, e = .returned (v0_) ∧ Kd.R k65 65 w' w.heap.size (fun _ => True) v0_ r1 ∧ IsS38 w0 w' g s0_0 r2 r3 ∧ Below w0.heap.size w0 w' ∧ KeepBut w w' g none := by
 have HI0 := aK hI
 have HK := aK (KeepBut.refl w g none)
 have HL := aK hB.size
 clear hI
 have HW0 := aK hB.size
 have HB := aK hB
 clear hB
 have H : ((spec_l1Cur_pick.f s0_0 s0_1 s0_2 4).bind fun bt101 => ((spec_l1Cur_comb.f k s0_0 bt101.2.1 bt101.2.2 (wrap64 (1 + bt101.1))).bind fun bt104 => ((spec_ldFlat.f k ([] : List (S65)) bt104.1 bt104.2.1 bt104.2.2.1 (-1)).bind fun t111 => ((spec_l1Cur_pick.f s0_0 bt104.2.2.2.1 bt104.2.2.2.2 40).bind fun bt114 => (if bt114.1 = 0 then ((spec_l1Cur_among.f s0_0 bt114.2.1 bt114.2.2 (([(-1), 999, 1000] : List Int))).bind fun bt120 => (if 0 ≤ (wrap64 ((t111.length : Int) - 1)) then (if (wrap64 ((t111.length : Int) - 1)) < (t111.length : Int) then (some ((t111.set ((wrap64 ((t111.length : Int) - 1)) : Int).toNat (⟨(rd_T65 t111 (wrap64 ((t111.length : Int) - 1))).f0, bt120.1, (rd_T65 t111 (wrap64 ((t111.length : Int) - 1))).f2⟩ : S65)), bt120.2.1, bt120.2.2)) else (none)) else (none))) else (if bt114.1 = 1 then ((spec_l1Cur_pick.f s0_0 bt114.2.1 bt114.2.2 4).bind fun bt124 => (if 0 ≤ (wrap64 ((t111.length : Int) - 1)) then (if (wrap64 ((t111.length : Int) - 1)) < (t111.length : Int) then (some ((t111.set ((wrap64 ((t111.length : Int) - 1)) : Int).toNat (⟨(rd_T65 t111 (wrap64 ((t111.length : Int) - 1))).f0, (rd_T65 t111 (wrap64 ((t111.length : Int) - 1))).f1, wrap64 (bt124.1 - 1)⟩ : S65)), bt124.2.1, bt124.2.2)) else (none)) else (none))) else (some (t111, bt114.2.1, bt114.2.2)))))))) = some (r1, r2, r3) := h
 clear h
 obtain ⟨⟨t101, t102, t103⟩, A2, H⟩ := oB H
 try dsimp only at H
 obtain ⟨⟨t104, t105, t106, t109, t110⟩, A3, H⟩ := oB H
 try dsimp only at H
 obtain ⟨t111, A4, H⟩ := oB H
 try dsimp only at H
 obtain ⟨⟨t114, t115, t116⟩, A5, H⟩ := oB H
 try dsimp only at H
 by_cases c6 : t114 = 0
 ·rw [if_pos c6] at H
  have c6b0 : (t114 == 0) = true := beq_iff_eq.mpr c6
  have c6b1 : (t114 != 0) = false := bne_eq_false_iff_eq.mpr c6
  clear c6
  obtain ⟨y117, hy117⟩ : ∃ y_ : List Int, y_ = (([(-1), 999, 1000] : List Int)) := ⟨_, rfl⟩
  replace H : ((spec_l1Cur_among.f s0_0 t115 t116 y117).bind fun bt120 => (if 0 ≤ (wrap64 ((t111.length : Int) - 1)) then (if (wrap64 ((t111.length : Int) - 1)) < (t111.length : Int) then (some ((t111.set ((wrap64 ((t111.length : Int) - 1)) : Int).toNat (⟨(rd_T65 t111 (wrap64 ((t111.length : Int) - 1))).f0, bt120.1, (rd_T65 t111 (wrap64 ((t111.length : Int) - 1))).f2⟩ : S65)), bt120.2.1, bt120.2.2)) else (none)) else (none))) = some (r1, r2, r3) := by first | (rw [hy117]; with_reducible exact H) | (have H2_ := (Option.bind_some _ _).symm.trans H; rw [hy117]; with_reducible exact H2_) | (have H2_ := (Option.bind_some _ _).symm.trans H; with_reducible exact H2_) | with_reducible exact H | (rw [hy117]; exact H) | exact H
  have Ny117 := aK hy117
  clear hy117
  obtain ⟨⟨t120, t121, t122⟩, A7, H⟩ := oB H
  try dsimp only at H
  obtain ⟨ji8, hji8⟩ : ∃ j_ : Int, (wrap64 ((t111.length : Int) - 1)) = j_ := ⟨_, rfl⟩
  replace H : (if 0 ≤ (ji8) then (if (ji8) < (t111.length : Int) then (some ((t111.set ((ji8) : Int).toNat (⟨(rd_T65 t111 (ji8)).f0, t120, (rd_T65 t111 (ji8)).f2⟩ : S65)), t121, t122)) else (none)) else (none)) = some (r1, r2, r3) := by first | (rw [hji8] at H; exact H) | (simp only [hji8] at H ⊢; exact H)
  (try rw [hji8] at A2)
  (try rw [hji8] at A3)
  (try rw [hji8] at A4)
  (try rw [hji8] at A5)
  (try rw [hji8] at A7)
  have hji8w : (IntKind.i64.wrap ((t111.length : Int) - 1)) = ji8 := (i64_w _).trans hji8
  by_cases c9 : 0 ≤ (ji8)
  ·rw [if_pos c9] at H
   have c9b0 : decide (0 ≤ (ji8)) = true := decide_eq_true c9
   clear c9
   by_cases c10 : (ji8) < (t111.length : Int)
   ·rw [if_pos c10] at H
    have c10b0 : decide ((ji8) < (t111.length : Int)) = true := decide_eq_true c10
    clear c10
    obtain ⟨y123, hy123⟩ : ∃ y_ : List (S65), y_ = (t111.set ((ji8) : Int).toNat (⟨(rd_T65 t111 (ji8)).f0, t120, (rd_T65 t111 (ji8)).f2⟩ : S65)) := ⟨_, rfl⟩
    replace H : (some (y123, t121, t122)) = some (r1, r2, r3) := by first | (rw [hy123]; with_reducible exact H) | (have H2_ := (Option.bind_some _ _).symm.trans H; rw [hy123]; with_reducible exact H2_) | (have H2_ := (Option.bind_some _ _).symm.trans H; with_reducible exact H2_) | with_reducible exact H | (rw [hy123]; exact H) | exact H
    have Ny123 := aK hy123
    clear hy123
    simp only [Option.some.injEq, Prod.mk.injEq] at H
    obtain ⟨rfl, rfl, rfl⟩ := H
    go_enter Tryd.func14, Tryd.ntmps14
    go_wp2_with (first | ((with_reducible refine gate_callee (f := 28) rfl ?_); refine goesL_ (some 6) rfl rfl Tryd.func28 (by kernel_rfl) rfl #[.pointer (some ⟨g, 0, none⟩), .int .i64 4] rfl tA ?_; (with_reducible refine (spec_l1Cur_pick.calls g s0_0 s0_1 s0_2 4 t101 t102 t103 w0 _ ?side1 ?side2 A2.out).mono ?_); (case side1 => exact yI HI0); (case side2 => exact yH HB); rintro e w12 ⟨rfl, hi, hb, hk⟩; refine ⟨_, rfl, ?_⟩; have n0_ := aK (KeepBut.trans (yK HK) hk (.inl rfl)); have n1_ := aK (hb); have n2_ := aK (hi); clear HK; have HK := n0_; clear n0_; clear HB; have HB := n1_; clear n1_; clear HI0; have HI0 := n2_; clear n2_; (try clear hb)) | ((with_reducible refine gate_callee (f := 30) rfl ?_); refine goesL_ (some 8) rfl rfl Tryd.func30 (by kernel_rfl) rfl #[.pointer (some ⟨g, 0, none⟩), .int .i64 (wrap64 (1 + t101))] rfl tA ?_; (with_reducible refine (spec_l1Cur_comb.calls k g s0_0 t102 t103 (wrap64 (1 + t101)) t104 t105 t106 t109 t110 w0 _ ?side1 ?side2 A3.out).mono ?_); (case side1 => exact yI HI0); (case side2 => exact yH HB); rintro e w13 ⟨v107, rfl, ho0, hi, hb, hk⟩; refine ⟨_, rfl, ?_⟩; have HO108 := aK (Kd.N_lower (Kd.N_mono (ok' := fun k_ => k_ ≠ g) ho0 (fun k_ hk_ => (IsS38.fresh (yI HI0) k_ hk_))) (keep_size (w := w) (g := g) (row := none) (yK HK))); have n1_ := aK (KeepBut.trans (yK HK) hk (.inl rfl)); have n2_ := aK (hb); have n3_ := aK (hi); clear HK; have HK := n1_; clear n1_; clear HB; have HB := n2_; clear n2_; clear HI0; have HI0 := n3_; clear n3_; (try clear hb); (try clear ho0); obtain ⟨Ao14, co14, eo14⟩ := Kd.N_slice HO108.out; subst eo14) | ((with_reducible refine gate_callee (f := 29) rfl ?_); refine goesL_ (some 9) rfl rfl Tryd.func29 (by kernel_rfl) rfl #[.slice none 0 0, .agg #[.int .i64 t104, .int .i64 t105, .slice Ao14 t106.length co14], .int .i64 (-1)] rfl tA ?_; (refine (spec_ldFlat.calls k _ _ ([] : List (S65)) t104 t105 _ _ t106 (-1) t111 _ ?side1 ?side2 ?side3 ?side4 A4.out).mono ?_); (case side1 => exact rfl); (case side2 => exact Nat.le_refl _); (case side3 => exact sC ((Kd.N_reads' HO108.out).2.2)); (case side4 => exact (Kd.N_reads' HO108.out).2.1); rintro e w15 ⟨v112, rfl, ho0, hb⟩; refine ⟨_, rfl, ?_⟩; have n0_ := aK (Kd.N_elder' HO108.out (Kd.R_base ho0) hb); have HO113 := aK (Kd.R_lower ho0 (keep_size (w := w) (g := g) (row := none) (yK HK))); have n2_ := aK (IsS38.below (yI HI0) hb); have n3_ := aK (KeepBut.trans (yK HK) (KeepBut.of_below hb g none) (.inl rfl)); have n4_ := aK (below_step (yH HB) hb); clear HO108; have HO108 := n0_; clear n0_; clear HI0; have HI0 := n2_; clear n2_; clear HK; have HK := n3_; clear n3_; clear HB; have HB := n4_; clear n4_; (try clear hb); (try clear ho0)) | ((with_reducible refine gate_callee (f := 28) rfl ?_); refine goesL_ (some 11) rfl rfl Tryd.func28 (by kernel_rfl) rfl #[.pointer (some ⟨g, 0, none⟩), .int .i64 40] rfl tA ?_; (with_reducible refine (spec_l1Cur_pick.calls g s0_0 t109 t110 40 t114 t115 t116 w0 _ ?side1 ?side2 A5.out).mono ?_); (case side1 => exact yI HI0); (case side2 => exact yH HB); rintro e w16 ⟨rfl, hi, hb, hk⟩; refine ⟨_, rfl, ?_⟩; have n0_ := aK (Kd.N_mono (Kd.N_keep (Kd.N_mono (ok := fun k_ => (k_ ≠ g ∧ some k_ ≠ (v112 : Value).ownBlock)) HO108.out (fun k_ hk_ => (⟨hk_, hk_.1⟩ : _ ∧ k_ ≠ g))) hk (fun _ h => h.2)) (fun _ h => h.1)); have n1_ := aK (Kd.R_mono (Kd.R_keep (IsS38.apart (show IsS38 w0 _ g s0_0 t109 t110 from by repeat (first | (with_reducible first | exact HI0.out | apply IsS38.alloc | apply IsS38.drewN | apply IsS38.drew | apply IsS38.set_1 | apply IsS38.set_2) | exact HI0.out)) HO113.out (by decide)) hk (fun _ h => h.2)) (fun _ h => h.1)); have n2_ := aK (KeepBut.trans (yK HK) hk (.inl rfl)); have n3_ := aK (hb); have n4_ := aK (hi); clear HO108; have HO108 := n0_; clear n0_; clear HO113; have HO113 := n1_; clear n1_; clear HK; have HK := n2_; clear n2_; clear HB; have HB := n3_; clear n3_; clear HI0; have HI0 := n4_; clear n4_; (try clear hb); obtain ⟨Ao17, co17, eo17⟩ := Kd.R_slice HO113.out; subst eo17) | ((with_reducible refine gate_dst (N := 19) rfl ?_); refine Kd.R_lit (Kd.int .i64) _ 3 ?hg (N := 19) ?hd (xs := ([(-1), 999, 1000] : List Int)) (inner := [.int .i64 (-1), .int .i64 999, .int .i64 1000]) (ok := fun _ => True) (okp := fun _ => True) ?hr ?hp (fun _ hk => hk) trivial (Below.refl _ _) (Nat.le_refl _) (by simp) ?_; (case hd => rfl); (case hg => rfl); (case hr => go_simp); (case hp => exact (Reps.one (show Kd.M (Kd.int .i64) _ _ _ (-1) [.int .i64 (-1)] from rfl) (Reps.one (show Kd.M (Kd.int .i64) _ _ _ 999 [.int .i64 999] from rfl) (Reps.one (show Kd.M (Kd.int .i64) _ _ _ 1000 [.int .i64 1000] from rfl) (Reps.none _ _))))); intro v118 w18 ho19 hb hg_ hnew_; clear hg_ hnew_; (first | rw [← Ny117.out] at ho19 | (simp only [Int.reduceToNat] at ho19; rw [← Ny117.out] at ho19)); have n0_ := aK (Kd.N_elder' HO108.out (Kd.R_base ho19) hb); have n1_ := aK (Kd.R_below HO113.out hb); have HO119 := aK (Kd.R_lower ho19 (keep_size (w := w) (g := g) (row := none) (yK HK))); have n3_ := aK (IsS38.below (yI HI0) hb); have n4_ := aK (KeepBut.trans (yK HK) (KeepBut.of_below hb g none) (.inl rfl)); have n5_ := aK (below_step (yH HB) hb); clear HO108; have HO108 := n0_; clear n0_; clear HO113; have HO113 := n1_; clear n1_; clear HI0; have HI0 := n3_; clear n3_; clear HK; have HK := n4_; clear n4_; clear HB; have HB := n5_; clear n5_; clear hb ho19; obtain ⟨Ao20, co20, eo20⟩ := Kd.R_slice HO119.out; subst eo20) | ((with_reducible refine gate_callee (f := 13) rfl ?_); refine goesL_ (some 20) rfl rfl Tryd.func13 (by kernel_rfl) rfl #[.pointer (some ⟨g, 0, none⟩), .slice Ao20 y117.length co20] rfl tA ?_; (with_reducible refine (spec_l1Cur_among.calls g s0_0 t115 t116 _ _ y117 t120 t121 t122 w0 _ ?side1 ?side2 ?side3 ?side4 ?side5 A7.out).mono ?_); (case side1 => exact yI HI0); (case side2 => exact yH HB); (case side3 => exact sC ((Kd.R_reads' HO119.out).2.2)); (case side4 => exact (Kd.R_reads' HO119.out).2.1); (case side5 => exact far_slice (IsS38.own_ne HI0.out HO119.out (by decide))); rintro e w21 ⟨rfl, hi, hb, hk⟩; refine ⟨_, rfl, ?_⟩; have n0_ := aK (Kd.N_mono (Kd.N_keep (Kd.N_mono (ok := fun k_ => ((k_ ≠ g ∧ some k_ ≠ (.slice Ao17 t111.length co17 : Value).ownBlock) ∧ some k_ ≠ (.slice Ao20 y117.length co20 : Value).ownBlock)) HO108.out (fun k_ hk_ => (⟨hk_, hk_.1.1⟩ : _ ∧ k_ ≠ g))) hk (fun _ h => h.2)) (fun _ h => h.1)); have n1_ := aK (Kd.R_mono (Kd.R_keep (IsS38.apart (show IsS38 w0 _ g s0_0 t115 t116 from by repeat (first | (with_reducible first | exact HI0.out | apply IsS38.alloc | apply IsS38.drewN | apply IsS38.drew | apply IsS38.set_1 | apply IsS38.set_2) | exact HI0.out)) HO113.out (by decide)) hk (fun _ h => h.2)) (fun _ h => h.1)); have n2_ := aK (Kd.R_mono (Kd.R_keep (IsS38.apart (show IsS38 w0 _ g s0_0 t115 t116 from by repeat (first | (with_reducible first | exact HI0.out | apply IsS38.alloc | apply IsS38.drewN | apply IsS38.drew | apply IsS38.set_1 | apply IsS38.set_2) | exact HI0.out)) HO119.out (by decide)) hk (fun _ h => h.2)) (fun _ h => h.1)); have n3_ := aK (KeepBut.trans (yK HK) hk (.inl rfl)); have n4_ := aK (hb); have n5_ := aK (hi); clear HO108; have HO108 := n0_; clear n0_; clear HO113; have HO113 := n1_; clear n1_; clear HO119; have HO119 := n2_; clear n2_; clear HK; have HK := n3_; clear n3_; clear HB; have HB := n4_; clear n4_; clear HI0; have HI0 := n5_; clear n5_; (try clear hb); have p11 : 0 ≤ ((ji8) : Int) := dA; have q11 : ((ji8) : Int) < ((t111.length : Int) : Int) := dA; obtain ⟨go11, co11, eo11, gb11, gl11, cl11, HG11⟩ := Kd.R_form HO113.out (by omega); (first | cases eo11 | (injection eo11 with ea_ en_ ec_; (first | subst ea_ | (injection ea_ with ea_; subst ea_)); subst ec_; clear en_)); have GB11 := aK gb11; have GG11 := aK HG11; clear gb11 gl11 HG11; obtain ⟨ce11, hcl11, hM11, hcc11, hfr11⟩ := Kd.R_elem HO113.out z65 ((ji8) : Int) p11 q11; obtain rfl := k65_openM hM11; have hx11_0 : w21.cell? ⟨go11, ((ji8) : Int).toNat * 3, none⟩ = some (.int .i64 ((rd_T65 t111 (ji8)).f0)) := hcc11 0 _ rfl; have hx11_1 : w21.cell? ⟨go11, ((ji8) : Int).toNat * 3 + 1, none⟩ = some (.int .i64 ((rd_T65 t111 (ji8)).f1)) := hcc11 1 _ rfl; have hx11_2 : w21.cell? ⟨go11, ((ji8) : Int).toNat * 3 + 2, none⟩ = some (.int .i64 ((rd_T65 t111 (ji8)).f2)) := hcc11 2 _ rfl; have hf11_0 : w21.frozen? ⟨go11, ((ji8) : Int).toNat * 3, none⟩ = false := hfr11 0; have hf11_1 : w21.frozen? ⟨go11, ((ji8) : Int).toNat * 3 + 1, none⟩ = false := hfr11 1; have hf11_2 : w21.frozen? ⟨go11, ((ji8) : Int).toNat * 3 + 2, none⟩ = false := hfr11 2; clear hcl11 hcc11 hfr11 hM11; replace p11 := eq_true p11; replace q11 := eq_true q11; have HX22 := aK (show Kd.R k65 65 w21 w.heap.size (fun _ => True) (.slice (some ⟨go11, 0, none⟩) t111.length co17) t111 from HO113.out); obtain ⟨ce22, hcl22, hM22, hcc22, hfr22⟩ := Kd.R_elem HX22.out z65 ((ji8) : Int) (dA) (by have h_ : ((ji8) : Int) < ((t111.length : Int) : Int) := dA; first | exact h_ | (have e_ := (Kd.R_reads' HO113.out).1; omega) | simpa using h_); obtain rfl := k65_openM hM22; have HP22 := Kd.R_seg HX22.out ((ji8) : Int) (dA) (by have h_ : ((ji8) : Int) < ((t111.length : Int) : Int) := dA; first | exact h_ | (have e_ := (Kd.R_reads' HO113.out).1; omega) | simpa using h_) (seg := [.int .i64 t120]) (j := 1) hcl22 hcc22 (show 2 ≤ 3 from by decide) (x' := (⟨(rd_T65 t111 (ji8)).f0, t120, (rd_T65 t111 (ji8)).f2⟩ : S65)) (k65_mkM _ _ _ (⟨(rd_T65 t111 (ji8)).f0, t120, (rd_T65 t111 (ji8)).f2⟩ : S65) ) (fun _ hk => hk); have hx22_1 := hcc22 1 _ rfl; (try simp only [show (k65).sz = 3 from rfl, Nat.mul_one, Nat.add_zero] at hx22_1); have hf22_1 := hfr22 1; (try simp only [show (k65).sz = 3 from rfl, Nat.mul_one, Nat.add_zero] at hf22_1); clear hcl22 hcc22 hfr22 hM22) | ((with_reducible refine gate_store (t := 3) (p := 22) rfl ?_); refine store_event (t := 3) (p := 22) (v := ?vo_w23) (w1 := (w21.setCell ⟨go11, ((ji8) : Int).toNat * 3 + 1, none⟩ (.int .i64 t120))) ?hg ?ho ?hn ?hr ?_; (case ho => rfl); (case hg => rfl); (case hn => rfl); (case hr => first | (go_simp; done) | (go_simp; rfl)); intro w23 hw; have hg : w21.grownBy w23 (some go11) := (by rw [hw]; exact HP22.2); have hp_ : Kd.R k65 65 w23 w.heap.size (fun _ => True) (.slice (some ⟨go11, 0, none⟩) t111.length co17) y123 := (by rw [hw, Ny123.out]; exact HP22.1); clear HP22; have n0_ := aK (IsS38.grown (yI HI0) hg (IsS38.own_ne HI0.out HO113.out (by decide))); have n1_ := aK (Kd.N_afterv (v := (.slice (some ⟨go11, 0, none⟩) t111.length co17)) (v1 := (.slice (some ⟨go11, 0, none⟩) t111.length co17)) (ok := (fun k_ => some k_ ≠ (.slice Ao20 y117.length co20 : Value).ownBlock ∧ k_ ≠ g)) (by (with_reducible repeat (first | apply Kd.N_alloc | apply Kd.N_drewN | apply Kd.N_drew)); exact Kd.N_mono HO108.out (fun _ hk => ⟨⟨hk.2, hk.1.1⟩, hk.1.2⟩)) hg (.inl rfl)); have n2_ := aK (hp_); have n3_ := aK (Kd.R_over' (v := (.slice (some ⟨go11, 0, none⟩) t111.length co17)) HO119.out (Kd.R_typed HO113.out) (by decide) hg); have n4_ := aK ((by rw [hw]; exact below_set (HB.out) (Nat.le_trans HL.out GB11.out) : Below w0.heap.size w0 w23)); have n5_ := aK (KeepBut.trans (yK HK) (KeepBut.of_grown hg g) (Kd.R_base2 HO113.out)); clear HI0; have HI0 := n0_; clear n0_; clear HO108; have HO108 := n1_; clear n1_; clear HO113; have HO113 := n2_; clear n2_; clear HO119; have HO119 := n3_; clear n3_; clear HB; have HB := n4_; clear n4_; clear HK; have HK := n5_; clear n5_; clear hg hw hp_))
    go_ret
    exact ⟨_, by first | rfl | (simp [errW_none, errW_some] <;> rfl) | (simp only [← hji8]; first | rfl | (simp [errW_none, errW_some] <;> rfl)) | (simp [*, errW_none, errW_some] <;> rfl), by (with_reducible repeat (first | apply rA | apply rN | apply rD)); exact HO113.out, yI HI0, yH HB, yK HK⟩
   ·rw [if_neg c10] at H
    exact absurd H (by simp)
  ·rw [if_neg c9] at H
   exact absurd H (by simp)
 ·rw [if_neg c6] at H
  have c6b0 : (t114 == 0) = false := beq_eq_false_iff_ne.mpr c6
  have c6b1 : (t114 != 0) = true := bne_iff_ne.mpr c6
  by_cases c24 : t114 = 1
  ·rw [if_pos c24] at H
   have c24b0 : (t114 == 1) = true := beq_iff_eq.mpr c24
   have c24b1 : (t114 != 1) = false := bne_eq_false_iff_eq.mpr c24
   clear c24
   obtain ⟨⟨t124, t125, t126⟩, A25, H⟩ := oB H
   try dsimp only at H
   obtain ⟨ji26, hji26⟩ : ∃ j_ : Int, (wrap64 ((t111.length : Int) - 1)) = j_ := ⟨_, rfl⟩
   replace H : (if 0 ≤ (ji26) then (if (ji26) < (t111.length : Int) then (some ((t111.set ((ji26) : Int).toNat (⟨(rd_T65 t111 (ji26)).f0, (rd_T65 t111 (ji26)).f1, wrap64 (t124 - 1)⟩ : S65)), t125, t126)) else (none)) else (none)) = some (r1, r2, r3) := by first | (rw [hji26] at H; exact H) | (simp only [hji26] at H ⊢; exact H)
   (try rw [hji26] at A2)
   (try rw [hji26] at A3)
   (try rw [hji26] at A4)
   (try rw [hji26] at A5)
   (try rw [hji26] at A25)
   have hji26w : (IntKind.i64.wrap ((t111.length : Int) - 1)) = ji26 := (i64_w _).trans hji26
   by_cases c27 : 0 ≤ (ji26)
   ·rw [if_pos c27] at H
    have c27b0 : decide (0 ≤ (ji26)) = true := decide_eq_true c27
    clear c27
    by_cases c28 : (ji26) < (t111.length : Int)
    ·rw [if_pos c28] at H
     have c28b0 : decide ((ji26) < (t111.length : Int)) = true := decide_eq_true c28
     clear c28
     obtain ⟨y127, hy127⟩ : ∃ y_ : List (S65), y_ = (t111.set ((ji26) : Int).toNat (⟨(rd_T65 t111 (ji26)).f0, (rd_T65 t111 (ji26)).f1, wrap64 (t124 - 1)⟩ : S65)) := ⟨_, rfl⟩
     replace H : (some (y127, t125, t126)) = some (r1, r2, r3) := by first | (rw [hy127]; with_reducible exact H) | (have H2_ := (Option.bind_some _ _).symm.trans H; rw [hy127]; with_reducible exact H2_) | (have H2_ := (Option.bind_some _ _).symm.trans H; with_reducible exact H2_) | with_reducible exact H | (rw [hy127]; exact H) | exact H
     have Ny127 := aK hy127
     clear hy127
     simp only [Option.some.injEq, Prod.mk.injEq] at H
     obtain ⟨rfl, rfl, rfl⟩ := H
     go_enter Tryd.func14, Tryd.ntmps14
     go_wp2_with (first | ((with_reducible refine gate_callee (f := 28) rfl ?_); refine goesL_ (some 6) rfl rfl Tryd.func28 (by kernel_rfl) rfl #[.pointer (some ⟨g, 0, none⟩), .int .i64 4] rfl tA ?_; (with_reducible refine (spec_l1Cur_pick.calls g s0_0 s0_1 s0_2 4 t101 t102 t103 w0 _ ?side1 ?side2 A2.out).mono ?_); (case side1 => exact yI HI0); (case side2 => exact yH HB); rintro e w30 ⟨rfl, hi, hb, hk⟩; refine ⟨_, rfl, ?_⟩; have n0_ := aK (KeepBut.trans (yK HK) hk (.inl rfl)); have n1_ := aK (hb); have n2_ := aK (hi); clear HK; have HK := n0_; clear n0_; clear HB; have HB := n1_; clear n1_; clear HI0; have HI0 := n2_; clear n2_; (try clear hb)) | ((with_reducible refine gate_callee (f := 30) rfl ?_); refine goesL_ (some 8) rfl rfl Tryd.func30 (by kernel_rfl) rfl #[.pointer (some ⟨g, 0, none⟩), .int .i64 (wrap64 (1 + t101))] rfl tA ?_; (with_reducible refine (spec_l1Cur_comb.calls k g s0_0 t102 t103 (wrap64 (1 + t101)) t104 t105 t106 t109 t110 w0 _ ?side1 ?side2 A3.out).mono ?_); (case side1 => exact yI HI0); (case side2 => exact yH HB); rintro e w31 ⟨v107, rfl, ho0, hi, hb, hk⟩; refine ⟨_, rfl, ?_⟩; have HO108 := aK (Kd.N_lower (Kd.N_mono (ok' := fun k_ => k_ ≠ g) ho0 (fun k_ hk_ => (IsS38.fresh (yI HI0) k_ hk_))) (keep_size (w := w) (g := g) (row := none) (yK HK))); have n1_ := aK (KeepBut.trans (yK HK) hk (.inl rfl)); have n2_ := aK (hb); have n3_ := aK (hi); clear HK; have HK := n1_; clear n1_; clear HB; have HB := n2_; clear n2_; clear HI0; have HI0 := n3_; clear n3_; (try clear hb); (try clear ho0); obtain ⟨Ao32, co32, eo32⟩ := Kd.N_slice HO108.out; subst eo32) | ((with_reducible refine gate_callee (f := 29) rfl ?_); refine goesL_ (some 9) rfl rfl Tryd.func29 (by kernel_rfl) rfl #[.slice none 0 0, .agg #[.int .i64 t104, .int .i64 t105, .slice Ao32 t106.length co32], .int .i64 (-1)] rfl tA ?_; (refine (spec_ldFlat.calls k _ _ ([] : List (S65)) t104 t105 _ _ t106 (-1) t111 _ ?side1 ?side2 ?side3 ?side4 A4.out).mono ?_); (case side1 => exact rfl); (case side2 => exact Nat.le_refl _); (case side3 => exact sC ((Kd.N_reads' HO108.out).2.2)); (case side4 => exact (Kd.N_reads' HO108.out).2.1); rintro e w33 ⟨v112, rfl, ho0, hb⟩; refine ⟨_, rfl, ?_⟩; have n0_ := aK (Kd.N_elder' HO108.out (Kd.R_base ho0) hb); have HO113 := aK (Kd.R_lower ho0 (keep_size (w := w) (g := g) (row := none) (yK HK))); have n2_ := aK (IsS38.below (yI HI0) hb); have n3_ := aK (KeepBut.trans (yK HK) (KeepBut.of_below hb g none) (.inl rfl)); have n4_ := aK (below_step (yH HB) hb); clear HO108; have HO108 := n0_; clear n0_; clear HI0; have HI0 := n2_; clear n2_; clear HK; have HK := n3_; clear n3_; clear HB; have HB := n4_; clear n4_; (try clear hb); (try clear ho0)) | ((with_reducible refine gate_callee (f := 28) rfl ?_); refine goesL_ (some 11) rfl rfl Tryd.func28 (by kernel_rfl) rfl #[.pointer (some ⟨g, 0, none⟩), .int .i64 40] rfl tA ?_; (with_reducible refine (spec_l1Cur_pick.calls g s0_0 t109 t110 40 t114 t115 t116 w0 _ ?side1 ?side2 A5.out).mono ?_); (case side1 => exact yI HI0); (case side2 => exact yH HB); rintro e w34 ⟨rfl, hi, hb, hk⟩; refine ⟨_, rfl, ?_⟩; have n0_ := aK (Kd.N_mono (Kd.N_keep (Kd.N_mono (ok := fun k_ => (k_ ≠ g ∧ some k_ ≠ (v112 : Value).ownBlock)) HO108.out (fun k_ hk_ => (⟨hk_, hk_.1⟩ : _ ∧ k_ ≠ g))) hk (fun _ h => h.2)) (fun _ h => h.1)); have n1_ := aK (Kd.R_mono (Kd.R_keep (IsS38.apart (show IsS38 w0 _ g s0_0 t109 t110 from by repeat (first | (with_reducible first | exact HI0.out | apply IsS38.alloc | apply IsS38.drewN | apply IsS38.drew | apply IsS38.set_1 | apply IsS38.set_2) | exact HI0.out)) HO113.out (by decide)) hk (fun _ h => h.2)) (fun _ h => h.1)); have n2_ := aK (KeepBut.trans (yK HK) hk (.inl rfl)); have n3_ := aK (hb); have n4_ := aK (hi); clear HO108; have HO108 := n0_; clear n0_; clear HO113; have HO113 := n1_; clear n1_; clear HK; have HK := n2_; clear n2_; clear HB; have HB := n3_; clear n3_; clear HI0; have HI0 := n4_; clear n4_; (try clear hb); obtain ⟨Ao35, co35, eo35⟩ := Kd.R_slice HO113.out; subst eo35) | ((with_reducible refine gate_callee (f := 28) rfl ?_); refine goesL_ (some 30) rfl rfl Tryd.func28 (by kernel_rfl) rfl #[.pointer (some ⟨g, 0, none⟩), .int .i64 4] rfl tA ?_; (with_reducible refine (spec_l1Cur_pick.calls g s0_0 t115 t116 4 t124 t125 t126 w0 _ ?side1 ?side2 A25.out).mono ?_); (case side1 => exact yI HI0); (case side2 => exact yH HB); rintro e w36 ⟨rfl, hi, hb, hk⟩; refine ⟨_, rfl, ?_⟩; have n0_ := aK (Kd.N_mono (Kd.N_keep (Kd.N_mono (ok := fun k_ => (k_ ≠ g ∧ some k_ ≠ (.slice Ao35 t111.length co35 : Value).ownBlock)) HO108.out (fun k_ hk_ => (⟨hk_, hk_.1⟩ : _ ∧ k_ ≠ g))) hk (fun _ h => h.2)) (fun _ h => h.1)); have n1_ := aK (Kd.R_mono (Kd.R_keep (IsS38.apart (show IsS38 w0 _ g s0_0 t115 t116 from by repeat (first | (with_reducible first | exact HI0.out | apply IsS38.alloc | apply IsS38.drewN | apply IsS38.drew | apply IsS38.set_1 | apply IsS38.set_2) | exact HI0.out)) HO113.out (by decide)) hk (fun _ h => h.2)) (fun _ h => h.1)); have n2_ := aK (KeepBut.trans (yK HK) hk (.inl rfl)); have n3_ := aK (hb); have n4_ := aK (hi); clear HO108; have HO108 := n0_; clear n0_; clear HO113; have HO113 := n1_; clear n1_; clear HK; have HK := n2_; clear n2_; clear HB; have HB := n3_; clear n3_; clear HI0; have HI0 := n4_; clear n4_; (try clear hb); have p29 : 0 ≤ ((ji26) : Int) := dA; have q29 : ((ji26) : Int) < ((t111.length : Int) : Int) := dA; obtain ⟨go29, co29, eo29, gb29, gl29, cl29, HG29⟩ := Kd.R_form HO113.out (by omega); (first | cases eo29 | (injection eo29 with ea_ en_ ec_; (first | subst ea_ | (injection ea_ with ea_; subst ea_)); subst ec_; clear en_)); have GB29 := aK gb29; have GG29 := aK HG29; clear gb29 gl29 HG29; obtain ⟨ce29, hcl29, hM29, hcc29, hfr29⟩ := Kd.R_elem HO113.out z65 ((ji26) : Int) p29 q29; obtain rfl := k65_openM hM29; have hx29_0 : w36.cell? ⟨go29, ((ji26) : Int).toNat * 3, none⟩ = some (.int .i64 ((rd_T65 t111 (ji26)).f0)) := hcc29 0 _ rfl; have hx29_1 : w36.cell? ⟨go29, ((ji26) : Int).toNat * 3 + 1, none⟩ = some (.int .i64 ((rd_T65 t111 (ji26)).f1)) := hcc29 1 _ rfl; have hx29_2 : w36.cell? ⟨go29, ((ji26) : Int).toNat * 3 + 2, none⟩ = some (.int .i64 ((rd_T65 t111 (ji26)).f2)) := hcc29 2 _ rfl; have hf29_0 : w36.frozen? ⟨go29, ((ji26) : Int).toNat * 3, none⟩ = false := hfr29 0; have hf29_1 : w36.frozen? ⟨go29, ((ji26) : Int).toNat * 3 + 1, none⟩ = false := hfr29 1; have hf29_2 : w36.frozen? ⟨go29, ((ji26) : Int).toNat * 3 + 2, none⟩ = false := hfr29 2; clear hcl29 hcc29 hfr29 hM29; replace p29 := eq_true p29; replace q29 := eq_true q29; have HX37 := aK (show Kd.R k65 65 w36 w.heap.size (fun _ => True) (.slice (some ⟨go29, 0, none⟩) t111.length co35) t111 from HO113.out); obtain ⟨ce37, hcl37, hM37, hcc37, hfr37⟩ := Kd.R_elem HX37.out z65 ((ji26) : Int) (dA) (by have h_ : ((ji26) : Int) < ((t111.length : Int) : Int) := dA; first | exact h_ | (have e_ := (Kd.R_reads' HO113.out).1; omega) | simpa using h_); obtain rfl := k65_openM hM37; have HP37 := Kd.R_seg HX37.out ((ji26) : Int) (dA) (by have h_ : ((ji26) : Int) < ((t111.length : Int) : Int) := dA; first | exact h_ | (have e_ := (Kd.R_reads' HO113.out).1; omega) | simpa using h_) (seg := [.int .i64 (wrap64 (t124 - 1))]) (j := 2) hcl37 hcc37 (show 3 ≤ 3 from by decide) (x' := (⟨(rd_T65 t111 (ji26)).f0, (rd_T65 t111 (ji26)).f1, wrap64 (t124 - 1)⟩ : S65)) (k65_mkM _ _ _ (⟨(rd_T65 t111 (ji26)).f0, (rd_T65 t111 (ji26)).f1, wrap64 (t124 - 1)⟩ : S65) ) (fun _ hk => hk); have hx37_2 := hcc37 2 _ rfl; (try simp only [show (k65).sz = 3 from rfl, Nat.mul_one, Nat.add_zero] at hx37_2); have hf37_2 := hfr37 2; (try simp only [show (k65).sz = 3 from rfl, Nat.mul_one, Nat.add_zero] at hf37_2); clear hcl37 hcc37 hfr37 hM37) | ((with_reducible refine gate_store (t := 3) (p := 33) rfl ?_); refine store_event (t := 3) (p := 33) (v := ?vo_w38) (w1 := (w36.setCell ⟨go29, ((ji26) : Int).toNat * 3 + 2, none⟩ (.int .i64 (wrap64 (t124 - 1))))) ?hg ?ho ?hn ?hr ?_; (case ho => rfl); (case hg => rfl); (case hn => rfl); (case hr => first | (go_simp; done) | (go_simp; rfl)); intro w38 hw; have hg : w36.grownBy w38 (some go29) := (by rw [hw]; exact HP37.2); have hp_ : Kd.R k65 65 w38 w.heap.size (fun _ => True) (.slice (some ⟨go29, 0, none⟩) t111.length co35) y127 := (by rw [hw, Ny127.out]; exact HP37.1); clear HP37; have n0_ := aK (IsS38.grown (yI HI0) hg (IsS38.own_ne HI0.out HO113.out (by decide))); have n1_ := aK (Kd.N_afterv (v := (.slice (some ⟨go29, 0, none⟩) t111.length co35)) (v1 := (.slice (some ⟨go29, 0, none⟩) t111.length co35)) (ok := (fun k_ => k_ ≠ g)) HO108.out hg (.inl rfl)); have n2_ := aK (hp_); have n3_ := aK ((by rw [hw]; exact below_set (HB.out) (Nat.le_trans HL.out GB29.out) : Below w0.heap.size w0 w38)); have n4_ := aK (KeepBut.trans (yK HK) (KeepBut.of_grown hg g) (Kd.R_base2 HO113.out)); clear HI0; have HI0 := n0_; clear n0_; clear HO108; have HO108 := n1_; clear n1_; clear HO113; have HO113 := n2_; clear n2_; clear HB; have HB := n3_; clear n3_; clear HK; have HK := n4_; clear n4_; clear hg hw hp_))
     go_ret
     exact ⟨_, by first | rfl | (simp [errW_none, errW_some] <;> rfl) | (simp only [← hji26]; first | rfl | (simp [errW_none, errW_some] <;> rfl)) | (simp [*, errW_none, errW_some] <;> rfl), by (with_reducible repeat (first | apply rA | apply rN | apply rD)); exact HO113.out, yI HI0, yH HB, yK HK⟩
    ·rw [if_neg c28] at H
     exact absurd H (by simp)
   ·rw [if_neg c27] at H
    exact absurd H (by simp)
  ·rw [if_neg c24] at H
   have c24b0 : (t114 == 1) = false := beq_eq_false_iff_ne.mpr c24
   have c24b1 : (t114 != 1) = true := bne_iff_ne.mpr c24
   simp only [Option.some.injEq, Prod.mk.injEq] at H
   obtain ⟨rfl, rfl, rfl⟩ := H
   go_enter Tryd.func14, Tryd.ntmps14
   go_wp2_with (first | ((with_reducible refine gate_callee (f := 28) rfl ?_); refine goesL_ (some 6) rfl rfl Tryd.func28 (by kernel_rfl) rfl #[.pointer (some ⟨g, 0, none⟩), .int .i64 4] rfl tA ?_; (with_reducible refine (spec_l1Cur_pick.calls g s0_0 s0_1 s0_2 4 t101 t102 t103 w0 _ ?side1 ?side2 A2.out).mono ?_); (case side1 => exact yI HI0); (case side2 => exact yH HB); rintro e w39 ⟨rfl, hi, hb, hk⟩; refine ⟨_, rfl, ?_⟩; have n0_ := aK (KeepBut.trans (yK HK) hk (.inl rfl)); have n1_ := aK (hb); have n2_ := aK (hi); clear HK; have HK := n0_; clear n0_; clear HB; have HB := n1_; clear n1_; clear HI0; have HI0 := n2_; clear n2_; (try clear hb)) | ((with_reducible refine gate_callee (f := 30) rfl ?_); refine goesL_ (some 8) rfl rfl Tryd.func30 (by kernel_rfl) rfl #[.pointer (some ⟨g, 0, none⟩), .int .i64 (wrap64 (1 + t101))] rfl tA ?_; (with_reducible refine (spec_l1Cur_comb.calls k g s0_0 t102 t103 (wrap64 (1 + t101)) t104 t105 t106 t109 t110 w0 _ ?side1 ?side2 A3.out).mono ?_); (case side1 => exact yI HI0); (case side2 => exact yH HB); rintro e w40 ⟨v107, rfl, ho0, hi, hb, hk⟩; refine ⟨_, rfl, ?_⟩; have HO108 := aK (Kd.N_lower (Kd.N_mono (ok' := fun k_ => k_ ≠ g) ho0 (fun k_ hk_ => (IsS38.fresh (yI HI0) k_ hk_))) (keep_size (w := w) (g := g) (row := none) (yK HK))); have n1_ := aK (KeepBut.trans (yK HK) hk (.inl rfl)); have n2_ := aK (hb); have n3_ := aK (hi); clear HK; have HK := n1_; clear n1_; clear HB; have HB := n2_; clear n2_; clear HI0; have HI0 := n3_; clear n3_; (try clear hb); (try clear ho0); obtain ⟨Ao41, co41, eo41⟩ := Kd.N_slice HO108.out; subst eo41) | ((with_reducible refine gate_callee (f := 29) rfl ?_); refine goesL_ (some 9) rfl rfl Tryd.func29 (by kernel_rfl) rfl #[.slice none 0 0, .agg #[.int .i64 t104, .int .i64 t105, .slice Ao41 t106.length co41], .int .i64 (-1)] rfl tA ?_; (refine (spec_ldFlat.calls k _ _ ([] : List (S65)) t104 t105 _ _ t106 (-1) t111 _ ?side1 ?side2 ?side3 ?side4 A4.out).mono ?_); (case side1 => exact rfl); (case side2 => exact Nat.le_refl _); (case side3 => exact sC ((Kd.N_reads' HO108.out).2.2)); (case side4 => exact (Kd.N_reads' HO108.out).2.1); rintro e w42 ⟨v112, rfl, ho0, hb⟩; refine ⟨_, rfl, ?_⟩; have n0_ := aK (Kd.N_elder' HO108.out (Kd.R_base ho0) hb); have HO113 := aK (Kd.R_lower ho0 (keep_size (w := w) (g := g) (row := none) (yK HK))); have n2_ := aK (IsS38.below (yI HI0) hb); have n3_ := aK (KeepBut.trans (yK HK) (KeepBut.of_below hb g none) (.inl rfl)); have n4_ := aK (below_step (yH HB) hb); clear HO108; have HO108 := n0_; clear n0_; clear HI0; have HI0 := n2_; clear n2_; clear HK; have HK := n3_; clear n3_; clear HB; have HB := n4_; clear n4_; (try clear hb); (try clear ho0)) | ((with_reducible refine gate_callee (f := 28) rfl ?_); refine goesL_ (some 11) rfl rfl Tryd.func28 (by kernel_rfl) rfl #[.pointer (some ⟨g, 0, none⟩), .int .i64 40] rfl tA ?_; (with_reducible refine (spec_l1Cur_pick.calls g s0_0 t109 t110 40 t114 t115 t116 w0 _ ?side1 ?side2 A5.out).mono ?_); (case side1 => exact yI HI0); (case side2 => exact yH HB); rintro e w43 ⟨rfl, hi, hb, hk⟩; refine ⟨_, rfl, ?_⟩; have n0_ := aK (Kd.N_mono (Kd.N_keep (Kd.N_mono (ok := fun k_ => (k_ ≠ g ∧ some k_ ≠ (v112 : Value).ownBlock)) HO108.out (fun k_ hk_ => (⟨hk_, hk_.1⟩ : _ ∧ k_ ≠ g))) hk (fun _ h => h.2)) (fun _ h => h.1)); have n1_ := aK (Kd.R_mono (Kd.R_keep (IsS38.apart (show IsS38 w0 _ g s0_0 t109 t110 from by repeat (first | (with_reducible first | exact HI0.out | apply IsS38.alloc | apply IsS38.drewN | apply IsS38.drew | apply IsS38.set_1 | apply IsS38.set_2) | exact HI0.out)) HO113.out (by decide)) hk (fun _ h => h.2)) (fun _ h => h.1)); have n2_ := aK (KeepBut.trans (yK HK) hk (.inl rfl)); have n3_ := aK (hb); have n4_ := aK (hi); clear HO108; have HO108 := n0_; clear n0_; clear HO113; have HO113 := n1_; clear n1_; clear HK; have HK := n2_; clear n2_; clear HB; have HB := n3_; clear n3_; clear HI0; have HI0 := n4_; clear n4_; (try clear hb)))
   go_ret
   exact ⟨_, eW, by (with_reducible repeat (first | apply rA | apply rN | apply rD)); exact HO113.out, yI HI0, yH HB, yK HK⟩

end Go.Proofs.YthfkimbmepmelaaDoor.G
