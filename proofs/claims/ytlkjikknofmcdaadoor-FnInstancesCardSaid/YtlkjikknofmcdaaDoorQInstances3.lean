/- Part 3 of 5 of the proof that the law FnInstancesCardSaid holds: for every input that can be read the call returns true and leaves its arguments as they were; no condition but those each theorem names. -/
import Derived.Test.YtlkjikknofmcdaaDoorQInstancesW1
import Derived.Test.YtlkjikknofmcdaaDoorQInstances1
import Derived.Test.YtlkjikknofmcdaaDoorQInstances2
namespace Go.Proofs.YtlkjikknofmcdaaDoor.G
open Go.RowKit Go.Proofs.YtlkjikknofmcdaaDoorW.PrintWords Go.Proofs.YtlkjikknofmcdaaDoorW.PrintLast Go.Proofs.YtlkjikknofmcdaaDoorW.PrintMore Go.Proofs.YtlkjikknofmcdaaDoor.EvL Go.Proofs.YtlkjikknofmcdaaDoor.TxtL Go.Proofs.YtlkjikknofmcdaaDoor.ReadM Go.Proofs.YtlkjikknofmcdaaDoor.Short
set_option linter.unusedVariables false
set_option linter.unusedSimpArgs false

theorem meas_nodes : ∀ (t : Ty) (m : Int), (t.meas m).1 ≤ m → (t.meas m).1 = (t.nodes : Int)
  | .v n, m, h => rfl
  | .a l r, m, h => by
    have hn : ((Ty.a l r).nodes : Int) = 1 + l.nodes + r.nodes := by show ((1 + l.nodes + r.nodes : Nat) : Int) = _; omega
    rw [hn]
    unfold Ty.meas at h ⊢
    split at h
    · dsimp only at h; omega
    rename_i c0
    split at h
    · dsimp only at h; omega
    rename_i c1
    rw [if_neg c0, if_neg c1]
    unfold mstep at h c1 ⊢
    dsimp only at h c1 ⊢
    have e1 := meas_nodes l (m - 1) (by omega)
    have e2 := meas_nodes r (m - (1 + (l.meas (m - 1)).1)) (by omega)
    omega
theorem good_nodes {t : Ty} (h : t.good = true) : t.nodes ≤ 200 := by
  unfold Ty.good at h
  simp only [Bool.and_eq_true, decide_eq_true_eq] at h
  have := meas_nodes t 200 h.1.1
  have := h.1.1
  omega
theorem apply_nodes_le {M : Int → Option Ty} (hM : ∀ n u, M n = some u → u.nodes ≤ 200) : ∀ t : Ty, (t.apply M).nodes ≤ 200 * t.nodes
  | .v n => by
    show ((M n).getD (.v n)).nodes ≤ 200 * 1
    cases e : M n with
    | none => show 1 ≤ 200; omega
    | some u => exact hM n u e
  | .a l r => by
    have h1 := apply_nodes_le hM l
    have h2 := apply_nodes_le hM r
    show 1 + (l.apply M).nodes + (r.apply M).nodes ≤ 200 * (1 + l.nodes + r.nodes)
    omega
def bndOk (L : List S47) (i : Nat) : Option Ty := (tyOf (rd_T47 L (i : Int)).f1.data.toList).bind fun t =>
  if (rd_T47 L (i : Int)).f0 < 0 ∨ 999 < (rd_T47 L (i : Int)).f0 ∨ (0 < i ∧ (rd_T47 L (i : Int)).f0 ≤ (rd_T47 L ((i : Int) - 1)).f0) then none else some t
def bindM (L : List S47) : Nat → Option (Int → Option Ty)
  | 0 => some noB
  | i + 1 => (bindM L i).bind fun M => (bndOk L i).map fun t => updM M (rd_T47 L (i : Int)).f0 t
theorem bindM_none {L : List S47} {i : Nat} (h : bindM L i = none) : ∀ d, bindM L (i + d) = none
  | 0 => h
  | d + 1 => by
    show (bindM L (i + d)).bind _ = none
    rw [bindM_none h d]; rfl
theorem bindM_step {L : List S47} {i : Nat} {M : Int → Option Ty} (h : bindM L i = some M) : bindM L (i + 1) = (bndOk L i).map fun t => updM M (rd_T47 L (i : Int)).f0 t := by
  show (bindM L i).bind _ = _
  rw [h]; rfl
theorem bndOk_some {L : List S47} {i : Nat} {t : Ty} (h : bndOk L i = some t) : t.ok ∧ t.nodes ≤ 200 := by
  unfold bndOk at h
  obtain ⟨u, h1, h2⟩ := Option.bind_eq_some_iff.mp h
  split at h2
  · cases h2
  · injection h2 with h2
    subst h2
    have := tyOf_some h1
    exact ⟨this.1, good_nodes this.2.2.1⟩
theorem bindM_all {L : List S47} : ∀ (i : Nat) (M : Int → Option Ty), bindM L i = some M → ∀ n u, M n = some u → u.ok ∧ u.nodes ≤ 200
  | 0, M, h, n, u, hu => by
    injection h with h
    subst h
    cases hu
  | i + 1, M, h, n, u, hu => by
    obtain ⟨M0, h0, h1⟩ := Option.bind_eq_some_iff.mp h
    obtain ⟨t, ht, h2⟩ := Option.map_eq_some_iff.mp h1
    subst h2
    have hu' : (if n = (rd_T47 L (i : Int)).f0 then some t else M0 n) = some u := hu
    split at hu'
    · injection hu' with hu'
      subst hu'
      exact bndOk_some ht
    · exact bindM_all i M0 h0 n u hu'
def applyF (L : List S47) (s : List UInt8) : ByteArray × Bool := match tyOf s with
  | none => (⟨#[]⟩, false)
  | some t => if 200 < L.length then (⟨#[]⟩, false) else match bindM L L.length with
    | none => (⟨#[]⟩, false)
    | some M => if (t.apply M).good = true then ((t.apply M).text, true) else (⟨#[]⟩, false)
theorem applyF_none {L : List S47} {s : List UInt8} (h : tyOf s = none) : applyF L s = (⟨#[]⟩, false) := by unfold applyF; rw [h]
theorem applyF_long {L : List S47} {s : List UInt8} (h : 200 < L.length) : applyF L s = (⟨#[]⟩, false) := by
  unfold applyF
  cases tyOf s with
  | none => rfl
  | some t => exact if_pos h
theorem applyF_bind {L : List S47} {s : List UInt8} (h : bindM L L.length = none) : applyF L s = (⟨#[]⟩, false) := by
  unfold applyF
  cases tyOf s with
  | none => rfl
  | some t =>
    dsimp only
    rw [h]
    split <;> rfl
theorem applyF_some {L : List S47} {s : List UInt8} {t : Ty} {M : Int → Option Ty} (h : tyOf s = some t) (hl : ¬ 200 < L.length) (hb : bindM L L.length = some M) : applyF L s = if (t.apply M).good = true then ((t.apply M).text, true) else (⟨#[]⟩, false) := by
  unfold applyF
  rw [h]
  dsimp only
  rw [if_neg hl, hb]
def impl_ApplyType.f (_ : Nat) (l0 : List S47) (a1 : ByteArray) : Option (ByteArray × Bool) := if a1.size ≤ 1099511627776 ∧ ∀ x ∈ l0, x.f1.size ≤ 1099511627776 then some (applyF l0 a1.data.toList) else none
theorem bind_bad {L : List S47} {s : List UInt8} {j : Nat} {M : Int → Option Ty} (hj : j < L.length) (hM : bindM L j = some M) (h : bndOk L j = none) : applyF L s = (⟨#[]⟩, false) := by
  refine applyF_bind ?_
  have h1 : bindM L (j + 1) = none := by rw [bindM_step hM, h]; rfl
  have h2 := bindM_none h1 (L.length - (j + 1))
  rwa [show j + 1 + (L.length - (j + 1)) = L.length by omega] at h2
theorem rd47_mem {l : List S47} {i : Int} (h0 : 0 ≤ i) (h : i < (l.length : Int)) : rd_T47 l i ∈ l := by
  have e : rd_T47 l i = l[i.toNat]'(by omega) := by unfold rd_T47; rw [List.getD_eq_getElem?_getD, List.getElem?_eq_getElem (by omega)]; rfl
  rw [e]; exact List.getElem_mem _
set_option maxHeartbeats 8000000 in
set_option maxRecDepth 100000 in
theorem impl_ApplyType.calls (k : Nat) (A0 : Option Addr) (c0 : Nat) (l0 : List (S47)) (a1 : ByteArray) (r1 : ByteArray) (r2 : Bool) (w : World) (hr0 : Kd.C k47 w A0 l0.length l0) (hc0 : l0.length ≤ c0) (h : impl_ApplyType.f k l0 a1 = some (r1, r2)) (hE : Met w) :
    Calls Tryd.prog 5 #[.slice A0 l0.length c0, .string a1] w fun e w' => e = .returned (.tuple #[.string r1, .bool r2]) ∧ Below w.heap.size w w' := by
  have hmm := @run_makeMap Tryd.prog
  have hu47 := Tryd.underlying47
  unfold impl_ApplyType.f at h
  by_cases hs : a1.size ≤ 1099511627776 ∧ ∀ x ∈ l0, x.f1.size ≤ 1099511627776
  case neg => rw [if_neg hs] at h; cases h
  rw [if_pos hs] at h
  injection h with h
  have HR := aM h
  have HS := aM hs
  have HE := aM hE
  have HR0 := aM hr0
  clear h hs hE hr0 hc0
  go_enter Tryd.func5, Tryd.ntmps5
  go_upto_region 2 with (first
    | ((with_reducible refine gate_callee (f := 13) rfl ?_); refine goesL_ (some 16) rfl rfl Tryd.func13 (by kernel_rfl) rfl #[.string a1] rfl tA ?_; refine (typeOfS a1 w HS.out.1 HE.out).mono ?_; rintro _ w1 ⟨x1, ok1, rfl, hb, ho⟩; refine ⟨_, rfl, ?_⟩; have O1 := aM ho; have HB := aM hb; clear ho hb))
  cases ok1 with
  | false =>
    have e1 : tyOf a1.data.toList = none := by
      rcases O1.out with ⟨h, _⟩ | ⟨_, _, h, _⟩
      · exact h
      · cases h
    have E := aM ((applyF_none (L := l0) e1).symm.trans HR.out)
    clear e1 HR
    go_wp2
    go_ret2
    cases E.out
    exact ⟨rfl, HB.out⟩
  | true =>
    obtain ⟨t1, e1, i1⟩ : ∃ t, tyOf a1.data.toList = some t ∧ IsT w1 t (.pointer x1) := by
      rcases O1.out with ⟨_, h⟩ | ⟨t, h, _, hi⟩
      · cases h
      · exact ⟨t, h, hi⟩
    have E1 := aM e1
    have OK := aM (tyOf_some e1)
    have I1 := aM i1
    obtain ⟨g1, hg1⟩ := i1.ptr
    injection hg1 with hg1
    subst hg1
    clear e1 i1 O1
    by_cases cl : (200 : Int) < (l0.length : Int)
    · have cb : decide ((200 : Int) < (l0.length : Int)) = true := decide_eq_true cl
      have E := aM ((applyF_long (L := l0) (s := a1.data.toList) (by omega)).symm.trans HR.out)
      clear cl HR
      go_wp2
      go_ret2
      cases E.out
      exact ⟨rfl, HB.out⟩
    have cb : decide ((200 : Int) < (l0.length : Int)) = false := decide_eq_false cl
    have CL : Aside0 (¬ 200 < l0.length) := ⟨by omega⟩
    clear cl
    have M0 := aM (IsM.made w1)
    have HB2 := aM (below_alloc HB.out (.map #[] 0))
    have I2 := aM (I1.out.below (below_alloc (Below.refl w1.heap.size w1) (.map #[] 0)))
    have HB1 := HB
    clear HB
    go_wp2
    go_loopg [29] (l0.length + 1) (fun gk v29 wr => ∃ (i : Int) (j : Nat) (M : Int → Option Ty), v29 = .int .i64 i ∧ Aside0 (i = (j : Int) ∧ gk + j = l0.length + 1 ∧ j ≤ l0.length) ∧ Aside0 (bindM l0 j = some M) ∧ Aside0 (IsM wr w1.heap.size j M) ∧ Aside0 (IsT wr t1 (.pointer (some ⟨g1, 0, none⟩))) ∧ Aside0 (Below w.heap.size w wr))
    case atStart => exact ⟨0, 0, noB, rfl, ⟨rfl, rfl, Nat.zero_le _⟩, ⟨rfl⟩, M0, I2, HB2⟩
    case round =>
      clear M0 HB2 I2 cb
      obtain ⟨i, j, M, rfl, HI, HM, IM, IT, HB⟩ := hrel
      have RB := aM (Below.refl wr.heap.size wr)
      by_cases c : i < (l0.length : Int)
      · have cb : decide (i < (l0.length : Int)) = true := decide_eq_true c
        have i0 : 0 ≤ i := by have := HI.out.1; omega
        have cz : decide (0 ≤ i) = true := decide_eq_true i0
        obtain ⟨ad, e1, hx0, hx1⟩ := at_T47 (Kd.C_below HR0.out HB.out) i i0 c
        cases e1
        have p1 := eq_true i0
        have q1 := eq_true c
        have Cc := aM c
        have C0 := aM i0
        have SX : Aside0 ((rd_T47 l0 i).f1.size ≤ 1099511627776) := ⟨HS.out.2 _ (rd47_mem i0 c)⟩
        obtain ⟨X0, hX0⟩ : ∃ x, x = (rd_T47 l0 i).f0 := ⟨_, rfl⟩
        obtain ⟨X1, hX1⟩ : ∃ x, x = (rd_T47 l0 i).f1 := ⟨_, rfl⟩
        rw [← hX0] at hx0
        rw [← hX1] at hx1 SX
        have HX0 := aM hX0
        have HX1 := aM hX1
        obtain ⟨k1, rfl⟩ : ∃ m, gk = m + 1 := ⟨gk - 1, by have := HI.out; omega⟩
        clear c i0 hX0 hX1
        go_upto_region 9 with (first
          | ((with_reducible refine gate_dst (N := 10) rfl ?_); refine box_event ?hg (N := 10) ?hd (cs := #[.int .i64 0, .string (⟨#[]⟩ : ByteArray)]) (t := 47) ?hr ?_; (case hd => rfl); (case hg => rfl); (case hr => first | (go_simp; done) | (go_simp; rfl)); intro gb hg w3 hbox hb; have n1_ := aM (below_step (by repeat (first | (with_reducible first | exact RB.out | apply below_alloc | apply pw_below_drewN | apply below_drew1) | exact RB.out)) hb); have GE := aM ((by rw [hg]; exact (below_size (by repeat (first | (with_reducible first | exact RB.out | apply below_alloc | apply pw_below_drewN | apply below_drew1) | exact RB.out))) : wr.heap.size ≤ gb)); clear RB; have RB := n1_; clear n1_; have BK := aM hbox; clear hbox hg hb; have hcz_0 : w3.cell? ⟨gb, 0, none⟩ = some (.int .i64 0) := (blk_cell BK.out 0).trans rfl; have hcz_1 : w3.cell? ⟨gb, 1, none⟩ = some (.string (⟨#[]⟩ : ByteArray)) := (blk_cell BK.out 1).trans rfl; have hfz_0 := blk_frozen BK.out 0; have hfz_1 := blk_frozen BK.out 1)
          | (go_at_call 13; refine (typeOfS X1 _ SX.out (HE.out.below (below_step HB.out (by repeat (first | (with_reducible first | exact RB.out | apply below_alloc | apply pw_below_drewN | apply below_drew1 | refine below_set ?_ GE.out) | exact RB.out))))).mono ?_; rintro _ w4 ⟨x2, ok2, rfl, hb, ho⟩; have O2 := aM ho; have RB2 := aM (below_step (by repeat (first | (with_reducible first | exact RB.out | apply below_alloc | apply pw_below_drewN | apply below_drew1 | refine below_set ?_ GE.out) | exact RB.out)) hb); have k0 := blk_below (g := gb) (o := .cells #[.int .i64 X0, .string X1] 47 (0, 0)) (by refine blk_put (cs := #[.int .i64 X0, .string ⟨#[]⟩]) ?_ 1 _ rfl; refine blk_put (cs := #[.int .i64 0, .string ⟨#[]⟩]) ?_ 0 _ rfl; exact BK.out) hb; have hk0 : w4.cell? ⟨gb, 0, none⟩ = some (.int .i64 X0) := (blk_cell k0 0).trans rfl; clear ho hb k0 hcz_0 hcz_1 hfz_0 hfz_1))
        have HB4 := aM (below_step HB.out RB2.out)
        have W1 : Aside0 (wrap64 (i + 1) = i + 1) := ⟨w64 (by have := C0.out; omega) (by have := Cc.out; have := CL.out; omega)⟩
        cases ok2 with
        | false =>
          have HBO : Aside0 (bndOk l0 j = none) := ⟨by
            rcases O2.out with ⟨h, _⟩ | ⟨_, _, h, _⟩
            · unfold bndOk; rw [← HI.out.1, ← HX1.out, h]; rfl
            · cases h⟩
          clear O2
          have E := aM ((bind_bad (s := a1.data.toList) (by have := HI.out; have := Cc.out; omega) HM.out HBO.out).symm.trans HR.out)
          clear HR
          go_quiet (fail)
          go_wp2
          go_ret2
          cases E.out
          exact ⟨rfl, by first | exact HB4.out | exact pw_below_drewN HB4.out _⟩
        | true =>
          obtain ⟨t2, e2, i2⟩ : ∃ t, tyOf X1.data.toList = some t ∧ IsT w4 t (.pointer x2) := by
            rcases O2.out with ⟨_, h⟩ | ⟨t, h, _, hi⟩
            · cases h
            · exact ⟨t, h, hi⟩
          have hbo : bndOk l0 j = if X0 < 0 ∨ 999 < X0 ∨ (0 < j ∧ X0 ≤ (rd_T47 l0 (i - 1)).f0) then none else some t2 := by
            unfold bndOk; rw [← HI.out.1, ← HX1.out, e2, ← HX0.out]; rfl
          obtain ⟨g2, hg2⟩ := i2.ptr
          injection hg2 with hg2
          subst hg2
          have HBO0 := aM hbo
          have J2 := aM i2
          clear O2 e2 i2 hbo
          by_cases c1 : X0 < 0
          · have z1 : decide (X0 < 0) = true := decide_eq_true c1
            have HBO : Aside0 (bndOk l0 j = none) := ⟨by rw [HBO0.out, if_pos (.inl c1)]⟩
            clear c1
            have E := aM ((bind_bad (s := a1.data.toList) (by have := HI.out; have := Cc.out; omega) HM.out HBO.out).symm.trans HR.out)
            clear HR
            go_quiet (fail)
            go_wp2
            go_ret2
            cases E.out
            exact ⟨rfl, by first | exact HB4.out | exact pw_below_drewN HB4.out _⟩
          have z1 : decide (X0 < 0) = false := decide_eq_false c1
          have N0 : Aside0 (0 ≤ X0) := ⟨by omega⟩
          clear c1
          by_cases c2 : 999 < X0
          · have z2 : decide (999 < X0) = true := decide_eq_true c2
            have HBO : Aside0 (bndOk l0 j = none) := ⟨by rw [HBO0.out, if_pos (.inr (.inl c2))]⟩
            clear c2
            have E := aM ((bind_bad (s := a1.data.toList) (by have := HI.out; have := Cc.out; omega) HM.out HBO.out).symm.trans HR.out)
            clear HR
            go_quiet (fail)
            go_wp2
            go_ret2
            cases E.out
            exact ⟨rfl, by first | exact HB4.out | exact pw_below_drewN HB4.out _⟩
          have z2 : decide (999 < X0) = false := decide_eq_false c2
          have N1 : Aside0 (X0 ≤ 999) := ⟨by omega⟩
          clear c2
          by_cases c3 : 0 < i
          · have z3 : decide (0 < i) = true := decide_eq_true c3
            have hwi : wrap64 (i - 1) = i - 1 := w64 (by omega) (by have := Cc.out; have := CL.out; omega)
            obtain ⟨ad', e1', hy0, hy1⟩ := at_T47 (Kd.C_below HR0.out HB4.out) (i - 1) (by omega) (by have := Cc.out; omega)
            cases e1'
            have z4 : decide (0 ≤ i - 1) = true := decide_eq_true (by omega)
            have z5 : decide (i - 1 < (l0.length : Int)) = true := decide_eq_true (by have := Cc.out; omega)
            have y4 : (0 ≤ i - 1) = True := eq_true (by omega)
            have y5 : (i - 1 < (l0.length : Int)) = True := eq_true (by have := Cc.out; omega)
            have C3 := aM c3
            obtain ⟨XP, hXP⟩ : ∃ x, x = (rd_T47 l0 (i - 1)).f0 := ⟨_, rfl⟩
            rw [← hXP] at hy0
            have HXP := aM hXP
            rw [← hwi] at hy0 z4 z5 y4 y5
            clear c3 hXP hwi hy1
            by_cases c4 : X0 ≤ XP
            · have z6 : decide (X0 ≤ XP) = true := decide_eq_true c4
              have HBO : Aside0 (bndOk l0 j = none) := ⟨by rw [HBO0.out, if_pos (.inr (.inr ⟨by have := C3.out; have := HI.out; omega, by rw [← HXP.out]; exact c4⟩))]⟩
              clear c4
              have E := aM ((bind_bad (s := a1.data.toList) (by have := HI.out; have := Cc.out; omega) HM.out HBO.out).symm.trans HR.out)
              clear HR
              go_quiet (fail)
              go_wp2
              go_ret2
              cases E.out
              exact ⟨rfl, by first | exact HB4.out | exact pw_below_drewN HB4.out _⟩
            · have z6 : decide (X0 ≤ XP) = false := decide_eq_false c4
              have HBO : Aside0 (bndOk l0 j = some t2) := ⟨by rw [HBO0.out, if_neg (by rw [← HXP.out]; have := N0.out; have := N1.out; omega)]⟩
              clear c4
              go_quiet (fail)
              go_wp2_with (first
                | (at_mapUpdate; refine put_M _ rfl _ _ _ rfl w1.heap.size j M rfl ((IM.out.below RB2.out).drewN _) (by have := CL.out; have := HI.out; omega) X0 ⟨by have := N0.out; omega, by have := N1.out; omega⟩ rfl t2 g2 rfl (J2.out.drewN _) ?_; intro w5 hM5 hs5 hg5; have M5 := aM hM5; have IT5 := aM (((IT.out.below RB2.out).drewN _).stay hs5); have HB5 := aM ((pw_below_drewN HB4.out _).grown hg5 HB4.out.size (fun k hk => by cases hk; exact HB1.out.size)); clear hM5 hs5 hg5))
              go_roundg k1
              case measure => omega
              case rel =>
                refine ⟨i + 1, j + 1, _, ?_, ⟨by have := HI.out; omega, by have := HI.out; omega, by have := HI.out; have := Cc.out; omega⟩, ⟨(bindM_step HM.out).trans ?_⟩, M5, IT5, HB5⟩
                · rw [W1.out]
                · rw [HBO.out, HX0.out, ← HI.out.1]; rfl
          · have z3 : decide (0 < i) = false := decide_eq_false c3
            have HBO : Aside0 (bndOk l0 j = some t2) := ⟨by rw [HBO0.out, if_neg (by have := HI.out; have := N0.out; have := N1.out; omega)]⟩
            clear c3
            go_quiet (fail)
            go_wp2_with (first
              | (at_mapUpdate; refine put_M _ rfl _ _ _ rfl w1.heap.size j M rfl ((IM.out.below RB2.out).drewN _) (by have := CL.out; have := HI.out; omega) X0 ⟨by have := N0.out; omega, by have := N1.out; omega⟩ rfl t2 g2 rfl (J2.out.drewN _) ?_; intro w5 hM5 hs5 hg5; have M5 := aM hM5; have IT5 := aM (((IT.out.below RB2.out).drewN _).stay hs5); have HB5 := aM ((pw_below_drewN HB4.out _).grown hg5 HB4.out.size (fun k hk => by cases hk; exact HB1.out.size)); clear hM5 hs5 hg5))
            go_roundg k1
            case measure => omega
            case rel =>
              refine ⟨i + 1, j + 1, _, ?_, ⟨by have := HI.out; omega, by have := HI.out; omega, by have := HI.out; have := Cc.out; omega⟩, ⟨(bindM_step HM.out).trans ?_⟩, M5, IT5, HB5⟩
              · rw [W1.out]
              · rw [HBO.out, HX0.out, ← HI.out.1]; rfl
      · have cb : decide (i < (l0.length : Int)) = false := decide_eq_false c
        have ej : j = l0.length := by have := HI.out; omega
        subst ej
        have E := aM ((applyF_some E1.out CL.out HM.out).symm.trans HR.out)
        have AO := aM (apply_ok (fun n u h => (bindM_all _ _ HM.out n u h).1) t1 OK.out.1)
        have AN : Aside0 ((t1.apply M).nodes ≤ 40000) := ⟨by have := apply_nodes_le (fun n u h => (bindM_all _ _ HM.out n u h).2) t1; have := good_nodes OK.out.2.2.1; omega⟩
        clear c HR
        cases hg : (t1.apply M).good with
        | false =>
          have HG := aM hg
          clear hg
          go_wp2_with (first
            | (go_at_call 14; (with_reducible refine (impl_typ_apply.calls t1 _ w1.heap.size l0.length M _ ?s1 ?s2 ?s3).mono ?_); (case s1 => exact IT.out); (case s2 => exact OK.out.1); (case s3 => exact IM.out); rintro _ w3 ⟨y, rfl, hI, hb⟩; obtain ⟨gy, rfl⟩ := hI.ptr; have IV := aM hI; have HB4 := aM (below_step HB.out hb); clear hI hb)
            | (go_at_call 15; (with_reducible refine (impl_typ_isGood.calls (t1.apply M) _ _ ?s1 ?s2).mono ?_); (case s1 => exact IV.out); (case s2 => have := AN.out; omega); rintro _ w4 ⟨rfl, hb⟩; rw [HG.out]; have HB5 := aM (below_step HB4.out hb); have IW := aM (IV.out.below hb); clear hb))
          go_ret2
          have e := E.out
          rw [if_neg (by rw [HG.out]; decide)] at e
          cases e
          exact ⟨rfl, HB5.out⟩
        | true =>
          have HG := aM hg
          clear hg
          go_wp2_with (first
            | (go_at_call 14; (with_reducible refine (impl_typ_apply.calls t1 _ w1.heap.size l0.length M _ ?s1 ?s2 ?s3).mono ?_); (case s1 => exact IT.out); (case s2 => exact OK.out.1); (case s3 => exact IM.out); rintro _ w3 ⟨y, rfl, hI, hb⟩; obtain ⟨gy, rfl⟩ := hI.ptr; have IV := aM hI; have HB4 := aM (below_step HB.out hb); clear hI hb)
            | (go_at_call 15; (with_reducible refine (impl_typ_isGood.calls (t1.apply M) _ _ ?s1 ?s2).mono ?_); (case s1 => exact IV.out); (case s2 => have := AN.out; omega); rintro _ w4 ⟨rfl, hb⟩; rw [HG.out]; have HB5 := aM (below_step HB4.out hb); have IW := aM (IV.out.below hb); clear hb)
            | (go_at_call 16; (with_reducible refine (impl_typ_text.calls (t1.apply M) _ _ ?s1 ?s2 ?s3 ?s4).mono ?_); (case s1 => exact IW.out); (case s2 => exact AO.out); (case s3 => have := text_size _ AO.out; have := AN.out; omega); (case s4 => exact (HE.out.below HB5.out).tab); rintro _ w5 ⟨rfl, hb⟩; have HB6 := aM (below_step HB5.out hb); clear hb))
          go_ret2
          have e := E.out
          rw [if_pos HG.out] at e
          exact ⟨congrArg (fun z : ByteArray × Bool => Ending.returned (.tuple #[.string z.1, .bool z.2])) e, HB6.out⟩
end Go.Proofs.YtlkjikknofmcdaaDoor.G

namespace Go.Proofs.YtlkjikknofmcdaaDoor.G
open Go.RowKit Go.Proofs.YtlkjikknofmcdaaDoorW.PrintWords Go.Proofs.YtlkjikknofmcdaaDoorW.PrintLast Go.Proofs.YtlkjikknofmcdaaDoorW.PrintMore Go.Proofs.YtlkjikknofmcdaaDoor.Short
attribute [local go_sem] max2_int min2_int max_two min_two max_three min_three max_four min_four   -- for this text's walks alone
set_option linter.unusedVariables false
set_option linter.unusedSimpArgs false

mutual
def spec_leDeep.l0 : Nat → Int → List (S56) → Int → Int → Option (Int)
  | 0, _, _, _, _ => none
  | k + 1, x3, x8, x9, x10 => if x10 < x9 then (if 0 ≤ x10 then (if x10 < (x8.length : Int) then ((spec_leDeep.f k ((rd_T56 x8 x10).f0) ((rd_T56 x8 x10).f1)).bind fun t104 => (if t104 > x3 then (spec_leDeep.l0 k t104 x8 x9 (wrap64 (x10 + 1))) else (spec_leDeep.l0 k x3 x8 x9 (wrap64 (x10 + 1))))) else (none)) else (none)) else (some (wrap64 (x3 + 1)))
def spec_leDeep.f : Nat → Int → List (S56) → Option (Int)
  | 0, _, _ => none
  | k + 1, a0_0, l0_1 => spec_leDeep.l0 k 0 l0_1 (l0_1.length : Int) 0
end
set_option maxHeartbeats 8000000 in
set_option maxRecDepth 100000 in
theorem spec_leDeep.calls (k : Nat) : ∀ (a0_0 : Int) (A0_1 : Option Addr) (c0_1 : Nat) (l0_1 : List (S56)) (r : Int) (w : World) (hr0_1 : Kd.C k56 w A0_1 l0_1.length l0_1) (hc0_1 : l0_1.length ≤ c0_1) (h : spec_leDeep.f k a0_0 l0_1 = some r),
    Calls Tryd.prog 39 #[.agg #[.int .i64 a0_0, .slice A0_1 l0_1.length c0_1]] w fun e w' => e = .returned (.int .i64 r) ∧ Below w.heap.size w w' := by
  induction k using Nat.strongRecOn with
  | _ k ih =>
  intro a0_0 A0_1 c0_1 l0_1 r w hr0_1 hc0_1 h
  cases k with
  | zero => exact absurd h (by simp [spec_leDeep.f])
  | succ k =>
  simp only [spec_leDeep.f] at h
  have hu56 := Tryd.underlying56
  have HR0_1 := aM hr0_1
  have HC0_1 := aM hc0_1
  clear hr0_1 hc0_1
  have HB := aM (Below.refl w.heap.size w)
  have H : (spec_leDeep.l0 k 0 l0_1 (l0_1.length : Int) 0) = some r := h
  clear h
  have H' := aM H
  clear H
  go_enter Tryd.func39, Tryd.ntmps39
  go_wp2_with (first | ((with_reducible refine gate_dst (N := 1) rfl ?_); refine box_event ?hg (N := 1) ?hd (cs := #[.int .i64 a0_0, .slice A0_1 l0_1.length c0_1]) (t := 56) ?hr ?_; (case hd => rfl); (case hg => rfl); (case hr => first | (go_simp; done) | (go_simp; rfl)); intro gb101 hg w2 hbox hb; have n0_ := aM (below_step (by repeat (first | (with_reducible first | exact HB.out | apply below_alloc | apply pw_below_drewN | apply below_drew1) | exact HB.out)) hb); have n1_ := aM (hbox); have n2_ := aM ((by rw [hg]; exact (below_size (by repeat (first | (with_reducible first | exact HB.out | apply below_alloc | apply pw_below_drewN | apply below_drew1) | exact HB.out))) : w.heap.size ≤ gb101)); have n3_ := aM ((by rw [hg]; exact (below_size (by repeat (first | (with_reducible first | exact HB.out | apply below_alloc | apply pw_below_drewN | apply below_drew1) | exact HB.out))) : w.heap.size ≤ gb101)); clear HB; have HB := n0_; have BK101 := n1_; have GW101 := n2_; have GE101 := n3_; clear n0_ n1_ n2_ n3_; clear hb hbox hg; have hcz3_0 : w2.cell? ⟨gb101, 0, none⟩ = some (.int .i64 a0_0) := (blk_cell BK101.out 0).trans rfl; have hcz3_1 : w2.cell? ⟨gb101, 1, none⟩ = some (.slice A0_1 l0_1.length c0_1) := (blk_cell BK101.out 1).trans rfl; have hfz3_0 := blk_frozen BK101.out 0; have hfz3_1 := blk_frozen BK101.out 1))
  go_loopg [3, 10] k (fun kq v3 v10 w' => ∃ (x3_1 : Int) (x10_1 : Int), v3 = .int .i64 x3_1 ∧ v10 = .int .i64 x10_1 ∧ Aside0 (spec_leDeep.l0 kq x3_1 l0_1 (l0_1.length : Int) x10_1 = some r) ∧ Aside0 (kq ≤ k) ∧ Aside0 (w'.heap[gb101]? = some (.cells #[.int .i64 a0_0, (.slice A0_1 l0_1.length c0_1)] 56 (0, 0))) ∧ Aside0 (Below w.heap.size w w'))
  case atStart => exact ⟨(0), (0), (by first | rfl | (simp; done) | (simp [*]; done)), (by first | rfl | (simp; done) | (simp [*]; done)), H', ⟨Nat.le_refl _⟩, ⟨by (with_reducible repeat (first | refine bN ?_ _ | refine bD ?_ | refine bA ?_ _)); exact BK101.out⟩, ⟨by repeat (first | (with_reducible first | exact HB.out | apply below_alloc | apply pw_below_drewN | apply below_drew1 | refine below_set ?_ GE101.out) | exact HB.out)⟩⟩
  case round =>
    clear H'
    try clear p2
    try clear c3
    try clear hcz3_0
    try clear hcz3_1
    try clear hfz3_0
    try clear hfz3_1
    obtain ⟨x3_1, x10_1, rfl, rfl, HA, HK1, BK101, HB⟩ := hrel
    cases gk with
    | zero => exact absurd HA.out (by simp [spec_leDeep.l0])
    | succ k1 =>
      have H := HA.out
      clear HA
      simp only [spec_leDeep.l0] at H
      by_cases c4 : x10_1 < (l0_1.length : Int)
      · rw [if_pos c4] at H
        have c4b0 : decide (x10_1 < (l0_1.length : Int)) = true := decide_eq_true c4
        clear c4
        by_cases c5 : 0 ≤ x10_1
        · rw [if_pos c5] at H
          have c5b0 : decide (0 ≤ x10_1) = true := decide_eq_true c5
          clear c5
          by_cases c6 : x10_1 < (l0_1.length : Int)
          · rw [if_pos c6] at H
            have c6b0 : decide (x10_1 < (l0_1.length : Int)) = true := decide_eq_true c6
            clear c6
            replace H := Option.bind_eq_some_iff.mp H
            obtain ⟨t104, A70, H⟩ := H
            replace H : (if t104 > x3_1 then (spec_leDeep.l0 k1 t104 l0_1 (l0_1.length : Int) (wrap64 (x10_1 + 1))) else (spec_leDeep.l0 k1 x3_1 l0_1 (l0_1.length : Int) (wrap64 (x10_1 + 1)))) = some r := H
            have A7 := aM A70
            clear A70
            by_cases c8 : t104 > x3_1
            · rw [if_pos c8] at H
              have c8b0 : decide (x3_1 < t104) = true := decide_eq_true c8
              clear c8
              have H' := aM H
              clear H
              have p102 : 0 ≤ (x10_1 : Int) := of_decide_eq_true (by first | (with_reducible assumption) | assumption)
              have q102 : x10_1 < (l0_1.length : Int) := of_decide_eq_true (by first | (with_reducible assumption) | assumption)
              obtain ⟨ad102, A102_1, c102_1, e102, hx102_0, hx102_1, hl102_1, hi102_1⟩ := at_T56 HR0_1.out x10_1 p102 q102
              cases e102
              replace hx102_0 := (HB.out.cell (World.block_lt_of_cell? w _ hx102_0)).trans hx102_0
              replace hx102_1 := (HB.out.cell (World.block_lt_of_cell? w _ hx102_1)).trans hx102_1
              have HR102_1 := aM hi102_1
              have HC102_1 := aM hl102_1
              clear hi102_1 hl102_1
              replace p102 := eq_true p102
              replace q102 := eq_true q102
              go_wp2_with (first | ((with_reducible refine gate_dst (N := 5) rfl ?_); refine box_event ?hg (N := 5) ?hd (cs := #[.int .i64 0, .slice none 0 0]) (t := 56) ?hr ?_; (case hd => rfl); (case hg => rfl); (case hr => first | (go_simp; done) | (go_simp; rfl)); intro gb103 hg w9 hbox hb; have n0_ := aM (blk_below (g := gb101) (o := .cells #[.int .i64 a0_0, .slice (some ad102) l0_1.length c0_1] 56 (0, 0)) (by (with_reducible repeat (first | refine bN ?_ _ | refine bD ?_ | refine bA ?_ _)); exact BK101.out) hb); have n1_ := aM (below_step (by repeat (first | (with_reducible first | exact HB.out | apply below_alloc | apply pw_below_drewN | apply below_drew1 | refine below_set ?_ GE101.out) | exact HB.out)) hb); have n2_ := aM (hbox); have n3_ := aM ((by rw [hg]; exact (below_size (by repeat (first | (with_reducible first | exact HB.out | apply below_alloc | apply pw_below_drewN | apply below_drew1 | refine below_set ?_ GE101.out) | exact HB.out))) : w.heap.size ≤ gb103)); have n4_ := aM ((by rw [hg]; exact (below_size (by repeat (first | (with_reducible first | exact HB.out | apply below_alloc | apply pw_below_drewN | apply below_drew1 | refine below_set ?_ GE101.out) | exact HB.out))) : w.heap.size ≤ gb103)); have n5_ := aM ((by rw [hg]; exact Nat.ne_of_lt (blk_lt (g := gb101) (o := .cells #[.int .i64 a0_0, .slice (some ad102) l0_1.length c0_1] 56 (0, 0)) (by (with_reducible repeat (first | refine bN ?_ _ | refine bD ?_ | refine bA ?_ _)); exact BK101.out)) : gb101 ≠ gb103)); have n6_ := aM ((by rw [hg]; exact Nat.ne_of_gt (blk_lt (g := gb101) (o := .cells #[.int .i64 a0_0, .slice (some ad102) l0_1.length c0_1] 56 (0, 0)) (by (with_reducible repeat (first | refine bN ?_ _ | refine bD ?_ | refine bA ?_ _)); exact BK101.out)) : gb103 ≠ gb101)); clear BK101; clear HB; have BK101 := n0_; have HB := n1_; have BK103 := n2_; have GW103 := n3_; have GE103 := n4_; have NB101_103 := n5_; have NB103_101 := n6_; clear n0_ n1_ n2_ n3_ n4_ n5_ n6_; clear hb hbox hg; have hnb10 := NB103_101.out; have hnc10 := NB101_103.out; have hcz11_0 : w9.cell? ⟨gb103, 0, none⟩ = some (.int .i64 0) := (blk_cell BK103.out 0).trans rfl; have hcz11_1 : w9.cell? ⟨gb103, 1, none⟩ = some (.slice none 0 0) := (blk_cell BK103.out 1).trans rfl; have hfz11_0 := blk_frozen BK103.out 0; have hfz11_1 := blk_frozen BK103.out 1) | ((with_reducible refine gate_callee (f := 39) rfl ?_); refine goesL_ (some 15) rfl rfl Tryd.func39 (by kernel_rfl) rfl #[.agg #[.int .i64 ((rd_T56 l0_1 x10_1).f0), .slice A102_1 ((rd_T56 l0_1 x10_1).f1).length c102_1]] rfl (by (try simp only [List.map_toArray, List.map_cons, List.map_nil]); first | done | rfl | (simp only [List.length_drop, List.length_take]; rfl)) ?_; (with_reducible refine (ih k1 (by have := HK1.out; omega) ((rd_T56 l0_1 x10_1).f0) _ _ ((rd_T56 l0_1 x10_1).f1) t104 _ ?side1 ?side2 A7.out).mono ?_); (case side1 => exact Kd.C_below HR102_1.out (by repeat (first | (with_reducible first | exact HB.out | apply below_alloc | apply pw_below_drewN | apply below_drew1 | refine below_set ?_ GE101.out | refine below_set ?_ GE103.out) | exact HB.out))); (case side2 => exact HC102_1.out); rintro e w12 ⟨rfl, hb⟩; refine ⟨_, rfl, ?_⟩; have n0_ := aM (blk_below (g := gb101) (o := .cells #[.int .i64 a0_0, .slice (some ad102) l0_1.length c0_1] 56 (0, 0)) (by (with_reducible repeat (first | refine bN ?_ _ | refine bD ?_ | refine bA ?_ _)); refine blk_far ?_ NB101_103.out _; (with_reducible repeat (first | refine bN ?_ _ | refine bD ?_ | refine bA ?_ _)); refine blk_far ?_ NB101_103.out _; (with_reducible repeat (first | refine bN ?_ _ | refine bD ?_ | refine bA ?_ _)); exact BK101.out) hb); have n1_ := aM (blk_below (g := gb103) (o := .cells #[.int .i64 ((rd_T56 l0_1 x10_1).f0), .slice A102_1 ((rd_T56 l0_1 x10_1).f1).length c102_1] 56 (0, 0)) (by (with_reducible repeat (first | refine bN ?_ _ | refine bD ?_ | refine bA ?_ _)); refine blk_put (cs := #[.int .i64 ((rd_T56 l0_1 x10_1).f0), .slice none 0 0]) ?_ 1 _ rfl; (with_reducible repeat (first | refine bN ?_ _ | refine bD ?_ | refine bA ?_ _)); refine blk_put (cs := #[.int .i64 0, .slice none 0 0]) ?_ 0 _ rfl; (with_reducible repeat (first | refine bN ?_ _ | refine bD ?_ | refine bA ?_ _)); exact BK103.out) hb); have n2_ := aM (below_step (by repeat (first | (with_reducible first | exact HB.out | apply below_alloc | apply pw_below_drewN | apply below_drew1 | refine below_set ?_ GE101.out | refine below_set ?_ GE103.out) | exact HB.out)) hb); clear BK101; clear BK103; clear HB; have BK101 := n0_; have BK103 := n1_; have HB := n2_; clear n0_ n1_ n2_; (try clear hb); (try clear hb2); (try clear hk); (try clear hi)))
              go_roundg k1
              case measure => have := HK1.out; omega
              case rel => exact ⟨(t104), (wrap64 (x10_1 + 1)), (by first | rfl | (simp; done) | (simp [*]; done)), (by first | rfl | (simp; done) | (simp [*]; done)), H', ⟨by have := HK1.out; omega⟩, ⟨by (with_reducible repeat (first | refine bN ?_ _ | refine bD ?_ | refine bA ?_ _)); exact BK101.out⟩, ⟨by repeat (first | (with_reducible first | exact HB.out | apply below_alloc | apply pw_below_drewN | apply below_drew1 | refine below_set ?_ GE101.out | refine below_set ?_ GE103.out) | exact HB.out)⟩⟩
            · rw [if_neg c8] at H
              have c8b0 : decide (x3_1 < t104) = false := decide_eq_false c8
              clear c8
              have H' := aM H
              clear H
              have p102 : 0 ≤ (x10_1 : Int) := of_decide_eq_true (by first | (with_reducible assumption) | assumption)
              have q102 : x10_1 < (l0_1.length : Int) := of_decide_eq_true (by first | (with_reducible assumption) | assumption)
              obtain ⟨ad102, A102_1, c102_1, e102, hx102_0, hx102_1, hl102_1, hi102_1⟩ := at_T56 HR0_1.out x10_1 p102 q102
              cases e102
              replace hx102_0 := (HB.out.cell (World.block_lt_of_cell? w _ hx102_0)).trans hx102_0
              replace hx102_1 := (HB.out.cell (World.block_lt_of_cell? w _ hx102_1)).trans hx102_1
              have HR102_1 := aM hi102_1
              have HC102_1 := aM hl102_1
              clear hi102_1 hl102_1
              replace p102 := eq_true p102
              replace q102 := eq_true q102
              go_wp2_with (first | ((with_reducible refine gate_dst (N := 5) rfl ?_); refine box_event ?hg (N := 5) ?hd (cs := #[.int .i64 0, .slice none 0 0]) (t := 56) ?hr ?_; (case hd => rfl); (case hg => rfl); (case hr => first | (go_simp; done) | (go_simp; rfl)); intro gb103 hg w13 hbox hb; have n0_ := aM (blk_below (g := gb101) (o := .cells #[.int .i64 a0_0, .slice (some ad102) l0_1.length c0_1] 56 (0, 0)) (by (with_reducible repeat (first | refine bN ?_ _ | refine bD ?_ | refine bA ?_ _)); exact BK101.out) hb); have n1_ := aM (below_step (by repeat (first | (with_reducible first | exact HB.out | apply below_alloc | apply pw_below_drewN | apply below_drew1 | refine below_set ?_ GE101.out) | exact HB.out)) hb); have n2_ := aM (hbox); have n3_ := aM ((by rw [hg]; exact (below_size (by repeat (first | (with_reducible first | exact HB.out | apply below_alloc | apply pw_below_drewN | apply below_drew1 | refine below_set ?_ GE101.out) | exact HB.out))) : w.heap.size ≤ gb103)); have n4_ := aM ((by rw [hg]; exact (below_size (by repeat (first | (with_reducible first | exact HB.out | apply below_alloc | apply pw_below_drewN | apply below_drew1 | refine below_set ?_ GE101.out) | exact HB.out))) : w.heap.size ≤ gb103)); have n5_ := aM ((by rw [hg]; exact Nat.ne_of_lt (blk_lt (g := gb101) (o := .cells #[.int .i64 a0_0, .slice (some ad102) l0_1.length c0_1] 56 (0, 0)) (by (with_reducible repeat (first | refine bN ?_ _ | refine bD ?_ | refine bA ?_ _)); exact BK101.out)) : gb101 ≠ gb103)); have n6_ := aM ((by rw [hg]; exact Nat.ne_of_gt (blk_lt (g := gb101) (o := .cells #[.int .i64 a0_0, .slice (some ad102) l0_1.length c0_1] 56 (0, 0)) (by (with_reducible repeat (first | refine bN ?_ _ | refine bD ?_ | refine bA ?_ _)); exact BK101.out)) : gb103 ≠ gb101)); clear BK101; clear HB; have BK101 := n0_; have HB := n1_; have BK103 := n2_; have GW103 := n3_; have GE103 := n4_; have NB101_103 := n5_; have NB103_101 := n6_; clear n0_ n1_ n2_ n3_ n4_ n5_ n6_; clear hb hbox hg; have hnb14 := NB103_101.out; have hnc14 := NB101_103.out; have hcz15_0 : w13.cell? ⟨gb103, 0, none⟩ = some (.int .i64 0) := (blk_cell BK103.out 0).trans rfl; have hcz15_1 : w13.cell? ⟨gb103, 1, none⟩ = some (.slice none 0 0) := (blk_cell BK103.out 1).trans rfl; have hfz15_0 := blk_frozen BK103.out 0; have hfz15_1 := blk_frozen BK103.out 1) | ((with_reducible refine gate_callee (f := 39) rfl ?_); refine goesL_ (some 15) rfl rfl Tryd.func39 (by kernel_rfl) rfl #[.agg #[.int .i64 ((rd_T56 l0_1 x10_1).f0), .slice A102_1 ((rd_T56 l0_1 x10_1).f1).length c102_1]] rfl (by (try simp only [List.map_toArray, List.map_cons, List.map_nil]); first | done | rfl | (simp only [List.length_drop, List.length_take]; rfl)) ?_; (with_reducible refine (ih k1 (by have := HK1.out; omega) ((rd_T56 l0_1 x10_1).f0) _ _ ((rd_T56 l0_1 x10_1).f1) t104 _ ?side1 ?side2 A7.out).mono ?_); (case side1 => exact Kd.C_below HR102_1.out (by repeat (first | (with_reducible first | exact HB.out | apply below_alloc | apply pw_below_drewN | apply below_drew1 | refine below_set ?_ GE101.out | refine below_set ?_ GE103.out) | exact HB.out))); (case side2 => exact HC102_1.out); rintro e w16 ⟨rfl, hb⟩; refine ⟨_, rfl, ?_⟩; have n0_ := aM (blk_below (g := gb101) (o := .cells #[.int .i64 a0_0, .slice (some ad102) l0_1.length c0_1] 56 (0, 0)) (by (with_reducible repeat (first | refine bN ?_ _ | refine bD ?_ | refine bA ?_ _)); refine blk_far ?_ NB101_103.out _; (with_reducible repeat (first | refine bN ?_ _ | refine bD ?_ | refine bA ?_ _)); refine blk_far ?_ NB101_103.out _; (with_reducible repeat (first | refine bN ?_ _ | refine bD ?_ | refine bA ?_ _)); exact BK101.out) hb); have n1_ := aM (blk_below (g := gb103) (o := .cells #[.int .i64 ((rd_T56 l0_1 x10_1).f0), .slice A102_1 ((rd_T56 l0_1 x10_1).f1).length c102_1] 56 (0, 0)) (by (with_reducible repeat (first | refine bN ?_ _ | refine bD ?_ | refine bA ?_ _)); refine blk_put (cs := #[.int .i64 ((rd_T56 l0_1 x10_1).f0), .slice none 0 0]) ?_ 1 _ rfl; (with_reducible repeat (first | refine bN ?_ _ | refine bD ?_ | refine bA ?_ _)); refine blk_put (cs := #[.int .i64 0, .slice none 0 0]) ?_ 0 _ rfl; (with_reducible repeat (first | refine bN ?_ _ | refine bD ?_ | refine bA ?_ _)); exact BK103.out) hb); have n2_ := aM (below_step (by repeat (first | (with_reducible first | exact HB.out | apply below_alloc | apply pw_below_drewN | apply below_drew1 | refine below_set ?_ GE101.out | refine below_set ?_ GE103.out) | exact HB.out)) hb); clear BK101; clear BK103; clear HB; have BK101 := n0_; have BK103 := n1_; have HB := n2_; clear n0_ n1_ n2_; (try clear hb); (try clear hb2); (try clear hk); (try clear hi)))
              go_roundg k1
              case measure => have := HK1.out; omega
              case rel => exact ⟨(x3_1), (wrap64 (x10_1 + 1)), (by first | rfl | (simp; done) | (simp [*]; done)), (by first | rfl | (simp; done) | (simp [*]; done)), H', ⟨by have := HK1.out; omega⟩, ⟨by (with_reducible repeat (first | refine bN ?_ _ | refine bD ?_ | refine bA ?_ _)); exact BK101.out⟩, ⟨by repeat (first | (with_reducible first | exact HB.out | apply below_alloc | apply pw_below_drewN | apply below_drew1 | refine below_set ?_ GE101.out | refine below_set ?_ GE103.out) | exact HB.out)⟩⟩
          · rw [if_neg c6] at H
            exact absurd H (by simp)
        · rw [if_neg c5] at H
          exact absurd H (by simp)
      · rw [if_neg c4] at H
        have c4b0 : decide (x10_1 < (l0_1.length : Int)) = false := decide_eq_false c4
        clear c4
        obtain rfl := Option.some.inj H
        go_wp2
        go_ret
        exact ⟨by first | rfl | (simp [errW_none, errW_some] <;> rfl) | (simp [*, errW_none, errW_some] <;> rfl), by repeat (first | (with_reducible first | exact HB.out | apply below_alloc | apply pw_below_drewN | apply below_drew1 | refine below_set ?_ GE101.out) | exact HB.out)⟩


mutual
def spec_leSize.l0 : Nat → Int → List (S56) → Int → Int → Option (Int)
  | 0, _, _, _, _ => none
  | k + 1, x3, x7, x8, x9 => if x9 < x8 then (if 0 ≤ x9 then (if x9 < (x7.length : Int) then ((spec_leSize.f k ((rd_T56 x7 x9).f0) ((rd_T56 x7 x9).f1)).bind fun t104 => (spec_leSize.l0 k (wrap64 (x3 + t104)) x7 x8 (wrap64 (x9 + 1)))) else (none)) else (none)) else (some x3)
def spec_leSize.f : Nat → Int → List (S56) → Option (Int)
  | 0, _, _ => none
  | k + 1, a0_0, l0_1 => spec_leSize.l0 k 1 l0_1 (l0_1.length : Int) 0
end
set_option maxHeartbeats 8000000 in
set_option maxRecDepth 100000 in
theorem spec_leSize.calls (k : Nat) : ∀ (a0_0 : Int) (A0_1 : Option Addr) (c0_1 : Nat) (l0_1 : List (S56)) (r : Int) (w : World) (hr0_1 : Kd.C k56 w A0_1 l0_1.length l0_1) (hc0_1 : l0_1.length ≤ c0_1) (h : spec_leSize.f k a0_0 l0_1 = some r),
    Calls Tryd.prog 40 #[.agg #[.int .i64 a0_0, .slice A0_1 l0_1.length c0_1]] w fun e w' => e = .returned (.int .i64 r) ∧ Below w.heap.size w w' := by
  induction k using Nat.strongRecOn with
  | _ k ih =>
  intro a0_0 A0_1 c0_1 l0_1 r w hr0_1 hc0_1 h
  cases k with
  | zero => exact absurd h (by simp [spec_leSize.f])
  | succ k =>
  simp only [spec_leSize.f] at h
  have hu56 := Tryd.underlying56
  have HR0_1 := aM hr0_1
  have HC0_1 := aM hc0_1
  clear hr0_1 hc0_1
  have HB := aM (Below.refl w.heap.size w)
  have H : (spec_leSize.l0 k 1 l0_1 (l0_1.length : Int) 0) = some r := h
  clear h
  have H' := aM H
  clear H
  go_enter Tryd.func40, Tryd.ntmps40
  go_wp2_with (first | ((with_reducible refine gate_dst (N := 1) rfl ?_); refine box_event ?hg (N := 1) ?hd (cs := #[.int .i64 a0_0, .slice A0_1 l0_1.length c0_1]) (t := 56) ?hr ?_; (case hd => rfl); (case hg => rfl); (case hr => first | (go_simp; done) | (go_simp; rfl)); intro gb101 hg w2 hbox hb; have n0_ := aM (below_step (by repeat (first | (with_reducible first | exact HB.out | apply below_alloc | apply pw_below_drewN | apply below_drew1) | exact HB.out)) hb); have n1_ := aM (hbox); have n2_ := aM ((by rw [hg]; exact (below_size (by repeat (first | (with_reducible first | exact HB.out | apply below_alloc | apply pw_below_drewN | apply below_drew1) | exact HB.out))) : w.heap.size ≤ gb101)); have n3_ := aM ((by rw [hg]; exact (below_size (by repeat (first | (with_reducible first | exact HB.out | apply below_alloc | apply pw_below_drewN | apply below_drew1) | exact HB.out))) : w.heap.size ≤ gb101)); clear HB; have HB := n0_; have BK101 := n1_; have GW101 := n2_; have GE101 := n3_; clear n0_ n1_ n2_ n3_; clear hb hbox hg; have hcz3_0 : w2.cell? ⟨gb101, 0, none⟩ = some (.int .i64 a0_0) := (blk_cell BK101.out 0).trans rfl; have hcz3_1 : w2.cell? ⟨gb101, 1, none⟩ = some (.slice A0_1 l0_1.length c0_1) := (blk_cell BK101.out 1).trans rfl; have hfz3_0 := blk_frozen BK101.out 0; have hfz3_1 := blk_frozen BK101.out 1))
  go_loopg [3, 9] k (fun kq v3 v9 w' => ∃ (x3_1 : Int) (x9_1 : Int), v3 = .int .i64 x3_1 ∧ v9 = .int .i64 x9_1 ∧ Aside0 (spec_leSize.l0 kq x3_1 l0_1 (l0_1.length : Int) x9_1 = some r) ∧ Aside0 (kq ≤ k) ∧ Aside0 (w'.heap[gb101]? = some (.cells #[.int .i64 a0_0, (.slice A0_1 l0_1.length c0_1)] 56 (0, 0))) ∧ Aside0 (Below w.heap.size w w'))
  case atStart => exact ⟨(1), (0), (by first | rfl | (simp; done) | (simp [*]; done)), (by first | rfl | (simp; done) | (simp [*]; done)), H', ⟨Nat.le_refl _⟩, ⟨by (with_reducible repeat (first | refine bN ?_ _ | refine bD ?_ | refine bA ?_ _)); exact BK101.out⟩, ⟨by repeat (first | (with_reducible first | exact HB.out | apply below_alloc | apply pw_below_drewN | apply below_drew1 | refine below_set ?_ GE101.out) | exact HB.out)⟩⟩
  case round =>
    clear H'
    try clear p2
    try clear hcz3_0
    try clear hcz3_1
    try clear hfz3_0
    try clear hfz3_1
    obtain ⟨x3_1, x9_1, rfl, rfl, HA, HK1, BK101, HB⟩ := hrel
    cases gk with
    | zero => exact absurd HA.out (by simp [spec_leSize.l0])
    | succ k1 =>
      have H := HA.out
      clear HA
      simp only [spec_leSize.l0] at H
      by_cases c4 : x9_1 < (l0_1.length : Int)
      · rw [if_pos c4] at H
        have c4b0 : decide (x9_1 < (l0_1.length : Int)) = true := decide_eq_true c4
        clear c4
        by_cases c5 : 0 ≤ x9_1
        · rw [if_pos c5] at H
          have c5b0 : decide (0 ≤ x9_1) = true := decide_eq_true c5
          clear c5
          by_cases c6 : x9_1 < (l0_1.length : Int)
          · rw [if_pos c6] at H
            have c6b0 : decide (x9_1 < (l0_1.length : Int)) = true := decide_eq_true c6
            clear c6
            replace H := Option.bind_eq_some_iff.mp H
            obtain ⟨t104, A70, H⟩ := H
            replace H : (spec_leSize.l0 k1 (wrap64 (x3_1 + t104)) l0_1 (l0_1.length : Int) (wrap64 (x9_1 + 1))) = some r := H
            have A7 := aM A70
            clear A70
            have H' := aM H
            clear H
            have p102 : 0 ≤ (x9_1 : Int) := of_decide_eq_true (by first | (with_reducible assumption) | assumption)
            have q102 : x9_1 < (l0_1.length : Int) := of_decide_eq_true (by first | (with_reducible assumption) | assumption)
            obtain ⟨ad102, A102_1, c102_1, e102, hx102_0, hx102_1, hl102_1, hi102_1⟩ := at_T56 HR0_1.out x9_1 p102 q102
            cases e102
            replace hx102_0 := (HB.out.cell (World.block_lt_of_cell? w _ hx102_0)).trans hx102_0
            replace hx102_1 := (HB.out.cell (World.block_lt_of_cell? w _ hx102_1)).trans hx102_1
            have HR102_1 := aM hi102_1
            have HC102_1 := aM hl102_1
            clear hi102_1 hl102_1
            replace p102 := eq_true p102
            replace q102 := eq_true q102
            go_wp2_with (first | ((with_reducible refine gate_dst (N := 5) rfl ?_); refine box_event ?hg (N := 5) ?hd (cs := #[.int .i64 0, .slice none 0 0]) (t := 56) ?hr ?_; (case hd => rfl); (case hg => rfl); (case hr => first | (go_simp; done) | (go_simp; rfl)); intro gb103 hg w8 hbox hb; have n0_ := aM (blk_below (g := gb101) (o := .cells #[.int .i64 a0_0, .slice (some ad102) l0_1.length c0_1] 56 (0, 0)) (by (with_reducible repeat (first | refine bN ?_ _ | refine bD ?_ | refine bA ?_ _)); exact BK101.out) hb); have n1_ := aM (below_step (by repeat (first | (with_reducible first | exact HB.out | apply below_alloc | apply pw_below_drewN | apply below_drew1 | refine below_set ?_ GE101.out) | exact HB.out)) hb); have n2_ := aM (hbox); have n3_ := aM ((by rw [hg]; exact (below_size (by repeat (first | (with_reducible first | exact HB.out | apply below_alloc | apply pw_below_drewN | apply below_drew1 | refine below_set ?_ GE101.out) | exact HB.out))) : w.heap.size ≤ gb103)); have n4_ := aM ((by rw [hg]; exact (below_size (by repeat (first | (with_reducible first | exact HB.out | apply below_alloc | apply pw_below_drewN | apply below_drew1 | refine below_set ?_ GE101.out) | exact HB.out))) : w.heap.size ≤ gb103)); have n5_ := aM ((by rw [hg]; exact Nat.ne_of_lt (blk_lt (g := gb101) (o := .cells #[.int .i64 a0_0, .slice (some ad102) l0_1.length c0_1] 56 (0, 0)) (by (with_reducible repeat (first | refine bN ?_ _ | refine bD ?_ | refine bA ?_ _)); exact BK101.out)) : gb101 ≠ gb103)); have n6_ := aM ((by rw [hg]; exact Nat.ne_of_gt (blk_lt (g := gb101) (o := .cells #[.int .i64 a0_0, .slice (some ad102) l0_1.length c0_1] 56 (0, 0)) (by (with_reducible repeat (first | refine bN ?_ _ | refine bD ?_ | refine bA ?_ _)); exact BK101.out)) : gb103 ≠ gb101)); clear BK101; clear HB; have BK101 := n0_; have HB := n1_; have BK103 := n2_; have GW103 := n3_; have GE103 := n4_; have NB101_103 := n5_; have NB103_101 := n6_; clear n0_ n1_ n2_ n3_ n4_ n5_ n6_; clear hb hbox hg; have hnb9 := NB103_101.out; have hnc9 := NB101_103.out; have hcz10_0 : w8.cell? ⟨gb103, 0, none⟩ = some (.int .i64 0) := (blk_cell BK103.out 0).trans rfl; have hcz10_1 : w8.cell? ⟨gb103, 1, none⟩ = some (.slice none 0 0) := (blk_cell BK103.out 1).trans rfl; have hfz10_0 := blk_frozen BK103.out 0; have hfz10_1 := blk_frozen BK103.out 1) | ((with_reducible refine gate_callee (f := 40) rfl ?_); refine goesL_ (some 15) rfl rfl Tryd.func40 (by kernel_rfl) rfl #[.agg #[.int .i64 ((rd_T56 l0_1 x9_1).f0), .slice A102_1 ((rd_T56 l0_1 x9_1).f1).length c102_1]] rfl (by (try simp only [List.map_toArray, List.map_cons, List.map_nil]); first | done | rfl | (simp only [List.length_drop, List.length_take]; rfl)) ?_; (with_reducible refine (ih k1 (by have := HK1.out; omega) ((rd_T56 l0_1 x9_1).f0) _ _ ((rd_T56 l0_1 x9_1).f1) t104 _ ?side1 ?side2 A7.out).mono ?_); (case side1 => exact Kd.C_below HR102_1.out (by repeat (first | (with_reducible first | exact HB.out | apply below_alloc | apply pw_below_drewN | apply below_drew1 | refine below_set ?_ GE101.out | refine below_set ?_ GE103.out) | exact HB.out))); (case side2 => exact HC102_1.out); rintro e w11 ⟨rfl, hb⟩; refine ⟨_, rfl, ?_⟩; have n0_ := aM (blk_below (g := gb101) (o := .cells #[.int .i64 a0_0, .slice (some ad102) l0_1.length c0_1] 56 (0, 0)) (by (with_reducible repeat (first | refine bN ?_ _ | refine bD ?_ | refine bA ?_ _)); refine blk_far ?_ NB101_103.out _; (with_reducible repeat (first | refine bN ?_ _ | refine bD ?_ | refine bA ?_ _)); refine blk_far ?_ NB101_103.out _; (with_reducible repeat (first | refine bN ?_ _ | refine bD ?_ | refine bA ?_ _)); exact BK101.out) hb); have n1_ := aM (blk_below (g := gb103) (o := .cells #[.int .i64 ((rd_T56 l0_1 x9_1).f0), .slice A102_1 ((rd_T56 l0_1 x9_1).f1).length c102_1] 56 (0, 0)) (by (with_reducible repeat (first | refine bN ?_ _ | refine bD ?_ | refine bA ?_ _)); refine blk_put (cs := #[.int .i64 ((rd_T56 l0_1 x9_1).f0), .slice none 0 0]) ?_ 1 _ rfl; (with_reducible repeat (first | refine bN ?_ _ | refine bD ?_ | refine bA ?_ _)); refine blk_put (cs := #[.int .i64 0, .slice none 0 0]) ?_ 0 _ rfl; (with_reducible repeat (first | refine bN ?_ _ | refine bD ?_ | refine bA ?_ _)); exact BK103.out) hb); have n2_ := aM (below_step (by repeat (first | (with_reducible first | exact HB.out | apply below_alloc | apply pw_below_drewN | apply below_drew1 | refine below_set ?_ GE101.out | refine below_set ?_ GE103.out) | exact HB.out)) hb); clear BK101; clear BK103; clear HB; have BK101 := n0_; have BK103 := n1_; have HB := n2_; clear n0_ n1_ n2_; (try clear hb); (try clear hb2); (try clear hk); (try clear hi)))
            go_roundg k1
            case measure => have := HK1.out; omega
            case rel => exact ⟨(wrap64 (x3_1 + t104)), (wrap64 (x9_1 + 1)), (by first | rfl | (simp; done) | (simp [*]; done)), (by first | rfl | (simp; done) | (simp [*]; done)), H', ⟨by have := HK1.out; omega⟩, ⟨by (with_reducible repeat (first | refine bN ?_ _ | refine bD ?_ | refine bA ?_ _)); exact BK101.out⟩, ⟨by repeat (first | (with_reducible first | exact HB.out | apply below_alloc | apply pw_below_drewN | apply below_drew1 | refine below_set ?_ GE101.out | refine below_set ?_ GE103.out) | exact HB.out)⟩⟩
          · rw [if_neg c6] at H
            exact absurd H (by simp)
        · rw [if_neg c5] at H
          exact absurd H (by simp)
      · rw [if_neg c4] at H
        have c4b0 : decide (x9_1 < (l0_1.length : Int)) = false := decide_eq_false c4
        clear c4
        obtain rfl := Option.some.inj H
        go_wp2
        go_ret
        exact ⟨by first | rfl | (simp [errW_none, errW_some] <;> rfl) | (simp [*, errW_none, errW_some] <;> rfl), by repeat (first | (with_reducible first | exact HB.out | apply below_alloc | apply pw_below_drewN | apply below_drew1 | refine below_set ?_ GE101.out) | exact HB.out)⟩


def spec_leFine.f (k : Nat) (a0_0 : Int) (l0_1 : List (S56)) : Option (Bool) := (spec_leDeep.f k a0_0 l0_1).bind fun t102 => (if t102 ≤ 61 then ((spec_leSize.f k a0_0 l0_1).bind fun t103 => (some (decide (t103 ≤ 200)))) else (some false))
set_option maxHeartbeats 8000000 in
set_option maxRecDepth 100000 in
theorem spec_leFine.calls (k : Nat) (a0_0 : Int) (A0_1 : Option Addr) (c0_1 : Nat) (l0_1 : List (S56)) (r : Bool) (w : World) (hr0_1 : Kd.C k56 w A0_1 l0_1.length l0_1) (hc0_1 : l0_1.length ≤ c0_1) (h : spec_leFine.f k a0_0 l0_1 = some r) :
    Calls Tryd.prog 20 #[.agg #[.int .i64 a0_0, .slice A0_1 l0_1.length c0_1]] w fun e w' => e = .returned (.bool r) ∧ Below w.heap.size w w' := by
  have hu56 := Tryd.underlying56
  have HR0_1 := aM hr0_1
  have HC0_1 := aM hc0_1
  clear hr0_1 hc0_1
  have HB := aM (Below.refl w.heap.size w)
  have H : ((spec_leDeep.f k a0_0 l0_1).bind fun t102 => (if t102 ≤ 61 then ((spec_leSize.f k a0_0 l0_1).bind fun t103 => (some (decide (t103 ≤ 200)))) else (some false))) = some r := h
  clear h
  replace H := Option.bind_eq_some_iff.mp H
  obtain ⟨t102, A20, H⟩ := H
  replace H : (if t102 ≤ 61 then ((spec_leSize.f k a0_0 l0_1).bind fun t103 => (some (decide (t103 ≤ 200)))) else (some false)) = some r := H
  have A2 := aM A20
  clear A20
  by_cases c3 : t102 ≤ 61
  · rw [if_pos c3] at H
    have c3b0 : decide (t102 ≤ 61) = true := decide_eq_true c3
    clear c3
    replace H := Option.bind_eq_some_iff.mp H
    obtain ⟨t103, A40, H⟩ := H
    replace H : (some (decide (t103 ≤ 200))) = some r := H
    have A4 := aM A40
    clear A40
    obtain rfl := Option.some.inj H
    go_enter Tryd.func20, Tryd.ntmps20
    go_wp2_with (first | ((with_reducible refine gate_dst (N := 1) rfl ?_); refine box_event ?hg (N := 1) ?hd (cs := #[.int .i64 a0_0, .slice A0_1 l0_1.length c0_1]) (t := 56) ?hr ?_; (case hd => rfl); (case hg => rfl); (case hr => first | (go_simp; done) | (go_simp; rfl)); intro gb101 hg w5 hbox hb; have n0_ := aM (below_step (by repeat (first | (with_reducible first | exact HB.out | apply below_alloc | apply pw_below_drewN | apply below_drew1) | exact HB.out)) hb); have n1_ := aM (hbox); have n2_ := aM ((by rw [hg]; exact (below_size (by repeat (first | (with_reducible first | exact HB.out | apply below_alloc | apply pw_below_drewN | apply below_drew1) | exact HB.out))) : w.heap.size ≤ gb101)); have n3_ := aM ((by rw [hg]; exact (below_size (by repeat (first | (with_reducible first | exact HB.out | apply below_alloc | apply pw_below_drewN | apply below_drew1) | exact HB.out))) : w.heap.size ≤ gb101)); clear HB; have HB := n0_; have BK101 := n1_; have GW101 := n2_; have GE101 := n3_; clear n0_ n1_ n2_ n3_; clear hb hbox hg; have hcz6_0 : w5.cell? ⟨gb101, 0, none⟩ = some (.int .i64 a0_0) := (blk_cell BK101.out 0).trans rfl; have hcz6_1 : w5.cell? ⟨gb101, 1, none⟩ = some (.slice A0_1 l0_1.length c0_1) := (blk_cell BK101.out 1).trans rfl; have hfz6_0 := blk_frozen BK101.out 0; have hfz6_1 := blk_frozen BK101.out 1) | ((with_reducible refine gate_callee (f := 39) rfl ?_); refine goesL_ (some 4) rfl rfl Tryd.func39 (by kernel_rfl) rfl #[.agg #[.int .i64 a0_0, .slice A0_1 l0_1.length c0_1]] rfl (by (try simp only [List.map_toArray, List.map_cons, List.map_nil]); first | done | rfl | (simp only [List.length_drop, List.length_take]; rfl)) ?_; (with_reducible refine (spec_leDeep.calls k a0_0 _ _ l0_1 t102 _ ?side1 ?side2 A2.out).mono ?_); (case side1 => repeat (first | exact (Kd.C_below HR0_1.out HB.out) | (with_reducible refine Kd.C_alloc ?_ _) | (with_reducible refine Kd.C_drewN ?_ _) | (with_reducible refine Kd.C_drew ?_))); (case side2 => exact HC0_1.out); rintro e w7 ⟨rfl, hb⟩; refine ⟨_, rfl, ?_⟩; have n0_ := aM (blk_below (g := gb101) (o := .cells #[.int .i64 a0_0, .slice A0_1 l0_1.length c0_1] 56 (0, 0)) (by (with_reducible repeat (first | refine bN ?_ _ | refine bD ?_ | refine bA ?_ _)); exact BK101.out) hb); have n1_ := aM (below_step (by repeat (first | (with_reducible first | exact HB.out | apply below_alloc | apply pw_below_drewN | apply below_drew1 | refine below_set ?_ GE101.out) | exact HB.out)) hb); clear BK101; clear HB; have BK101 := n0_; have HB := n1_; clear n0_ n1_; (try clear hb); (try clear hb2); (try clear hk); (try clear hi); have hcz8_0 : w7.cell? ⟨gb101, 0, none⟩ = some (.int .i64 a0_0) := (blk_cell BK101.out 0).trans rfl; have hcz8_1 : w7.cell? ⟨gb101, 1, none⟩ = some (.slice A0_1 l0_1.length c0_1) := (blk_cell BK101.out 1).trans rfl; have hfz8_0 := blk_frozen BK101.out 0; have hfz8_1 := blk_frozen BK101.out 1) | (go_at_call 40; (with_reducible refine (spec_leSize.calls k a0_0 _ _ l0_1 t103 _ ?side1 ?side2 A4.out).mono ?_); (case side1 => repeat (first | exact (Kd.C_below HR0_1.out HB.out) | (with_reducible refine Kd.C_alloc ?_ _) | (with_reducible refine Kd.C_drewN ?_ _) | (with_reducible refine Kd.C_drew ?_))); (case side2 => exact HC0_1.out); rintro e w9 ⟨rfl, hb⟩; have n0_ := aM (blk_below (g := gb101) (o := .cells #[.int .i64 a0_0, .slice A0_1 l0_1.length c0_1] 56 (0, 0)) (by (with_reducible repeat (first | refine bN ?_ _ | refine bD ?_ | refine bA ?_ _)); exact BK101.out) hb); have n1_ := aM (below_step (by repeat (first | (with_reducible first | exact HB.out | apply below_alloc | apply pw_below_drewN | apply below_drew1 | refine below_set ?_ GE101.out) | exact HB.out)) hb); clear BK101; clear HB; have BK101 := n0_; have HB := n1_; clear n0_ n1_; (try clear hb); (try clear hb2); (try clear hk); (try clear hi)))
    go_ret
    exact ⟨by first | rfl | (simp [errW_none, errW_some] <;> rfl) | (simp [*, errW_none, errW_some] <;> rfl), by repeat (first | (with_reducible first | exact HB.out | apply below_alloc | apply pw_below_drewN | apply below_drew1 | refine below_set ?_ GE101.out) | exact HB.out)⟩
  · rw [if_neg c3] at H
    have c3b0 : decide (t102 ≤ 61) = false := decide_eq_false c3
    clear c3
    obtain rfl := Option.some.inj H
    go_enter Tryd.func20, Tryd.ntmps20
    go_wp2_with (first | ((with_reducible refine gate_dst (N := 1) rfl ?_); refine box_event ?hg (N := 1) ?hd (cs := #[.int .i64 a0_0, .slice A0_1 l0_1.length c0_1]) (t := 56) ?hr ?_; (case hd => rfl); (case hg => rfl); (case hr => first | (go_simp; done) | (go_simp; rfl)); intro gb101 hg w10 hbox hb; have n0_ := aM (below_step (by repeat (first | (with_reducible first | exact HB.out | apply below_alloc | apply pw_below_drewN | apply below_drew1) | exact HB.out)) hb); have n1_ := aM (hbox); have n2_ := aM ((by rw [hg]; exact (below_size (by repeat (first | (with_reducible first | exact HB.out | apply below_alloc | apply pw_below_drewN | apply below_drew1) | exact HB.out))) : w.heap.size ≤ gb101)); have n3_ := aM ((by rw [hg]; exact (below_size (by repeat (first | (with_reducible first | exact HB.out | apply below_alloc | apply pw_below_drewN | apply below_drew1) | exact HB.out))) : w.heap.size ≤ gb101)); clear HB; have HB := n0_; have BK101 := n1_; have GW101 := n2_; have GE101 := n3_; clear n0_ n1_ n2_ n3_; clear hb hbox hg; have hcz11_0 : w10.cell? ⟨gb101, 0, none⟩ = some (.int .i64 a0_0) := (blk_cell BK101.out 0).trans rfl; have hcz11_1 : w10.cell? ⟨gb101, 1, none⟩ = some (.slice A0_1 l0_1.length c0_1) := (blk_cell BK101.out 1).trans rfl; have hfz11_0 := blk_frozen BK101.out 0; have hfz11_1 := blk_frozen BK101.out 1) | ((with_reducible refine gate_callee (f := 39) rfl ?_); refine goesL_ (some 4) rfl rfl Tryd.func39 (by kernel_rfl) rfl #[.agg #[.int .i64 a0_0, .slice A0_1 l0_1.length c0_1]] rfl (by (try simp only [List.map_toArray, List.map_cons, List.map_nil]); first | done | rfl | (simp only [List.length_drop, List.length_take]; rfl)) ?_; (with_reducible refine (spec_leDeep.calls k a0_0 _ _ l0_1 t102 _ ?side1 ?side2 A2.out).mono ?_); (case side1 => repeat (first | exact (Kd.C_below HR0_1.out HB.out) | (with_reducible refine Kd.C_alloc ?_ _) | (with_reducible refine Kd.C_drewN ?_ _) | (with_reducible refine Kd.C_drew ?_))); (case side2 => exact HC0_1.out); rintro e w12 ⟨rfl, hb⟩; refine ⟨_, rfl, ?_⟩; have n0_ := aM (blk_below (g := gb101) (o := .cells #[.int .i64 a0_0, .slice A0_1 l0_1.length c0_1] 56 (0, 0)) (by (with_reducible repeat (first | refine bN ?_ _ | refine bD ?_ | refine bA ?_ _)); exact BK101.out) hb); have n1_ := aM (below_step (by repeat (first | (with_reducible first | exact HB.out | apply below_alloc | apply pw_below_drewN | apply below_drew1 | refine below_set ?_ GE101.out) | exact HB.out)) hb); clear BK101; clear HB; have BK101 := n0_; have HB := n1_; clear n0_ n1_; (try clear hb); (try clear hb2); (try clear hk); (try clear hi)))
    go_ret
    exact ⟨by first | rfl | (simp [errW_none, errW_some] <;> rfl) | (simp [*, errW_none, errW_some] <;> rfl), by repeat (first | (with_reducible first | exact HB.out | apply below_alloc | apply pw_below_drewN | apply below_drew1 | refine below_set ?_ GE101.out) | exact HB.out)⟩


def spec_laSmall.l0 : Nat → ByteArray → Int → Int → Option (Int)
  | 0, _, _, _ => none
  | k + 1, x0, x3, x4 => if x4 < (x0.size : Int) then (if 0 ≤ x4 then (spec_laSmall.l0 k x0 (wrap64 ((wrap64 (10 * x3)) + (((bt x0 x4) - 48) % 256))) (wrap64 (x4 + 1))) else (none)) else (some x3)
def spec_laSmall.f (k : Nat) (a0 : ByteArray) : Option (Int) := spec_laSmall.l0 k a0 0 0
set_option maxHeartbeats 8000000 in
set_option maxRecDepth 100000 in
theorem spec_laSmall.calls (k : Nat) (a0 : ByteArray) (r : Int) (w : World) (h : spec_laSmall.f k a0 = some r) :
    Calls Tryd.prog 50 #[.string a0] w fun e w' => e = .returned (.int .i64 r) ∧ Drawn0 w w' := by
  have H : (spec_laSmall.l0 k a0 0 0) = some r := h
  clear h
  have H' := aM H
  clear H
  go_enter Tryd.func50, Tryd.ntmps50
  go_wp2
  go_loopg [3, 4] k (fun kq v3 v4 w' => ∃ (x3_1 : Int) (x4_1 : Int), v3 = .int .i64 x3_1 ∧ v4 = .int .i64 x4_1 ∧ Aside0 (spec_laSmall.l0 kq a0 x3_1 x4_1 = some r) ∧ Aside0 (kq ≤ k) ∧ Drawn0 w w')
  case atStart => exact ⟨(0), (0), (by first | rfl | (simp; done) | (simp [*]; done)), (by first | rfl | (simp; done) | (simp [*]; done)), H', ⟨Nat.le_refl _⟩, by repeat (first | exact Drawn0.refl _ | apply Drawn0.step)⟩
  case round =>
    clear H'
    obtain ⟨x3_1, x4_1, rfl, rfl, HA, HK1, ⟨m1, rfl⟩⟩ := hrel
    cases gk with
    | zero => exact absurd HA.out (by simp [spec_laSmall.l0])
    | succ k1 =>
      have H := HA.out
      clear HA
      simp only [spec_laSmall.l0] at H
      by_cases c2 : x4_1 < (a0.size : Int)
      · rw [if_pos c2] at H
        have c2b0 : decide (x4_1 < (a0.size : Int)) = true := decide_eq_true c2
        clear c2
        by_cases c3 : 0 ≤ x4_1
        · rw [if_pos c3] at H
          have c3b0 : decide (0 ≤ x4_1) = true := decide_eq_true c3
          clear c3
          have H' := aM H
          clear H
          have p4 : 0 ≤ (x4_1 : Int) := of_decide_eq_true (by first | (with_reducible assumption) | assumption)
          have q4 : x4_1 < (a0.size : Int) := of_decide_eq_true (by first | (with_reducible assumption) | assumption)
          have hx4 := bt_at a0 x4_1
          replace p4 := eq_true p4
          replace q4 := eq_true q4
          go_wp2
          go_roundg k1
          case measure => have := HK1.out; omega
          case rel => exact ⟨(wrap64 ((wrap64 (10 * x3_1)) + (((bt a0 x4_1) - 48) % 256))), (wrap64 (x4_1 + 1)), (by first | rfl | (simp; done) | (simp [*]; done)), (by first | rfl | (simp; done) | (simp [*]; done)), H', ⟨by have := HK1.out; omega⟩, by repeat (first | exact Drawn0.refl _ | apply Drawn0.step)⟩
        · rw [if_neg c3] at H
          exact absurd H (by simp)
      · rw [if_neg c2] at H
        have c2b0 : decide (x4_1 < (a0.size : Int)) = false := decide_eq_false c2
        clear c2
        obtain rfl := Option.some.inj H
        go_wp2
        go_ret
        exact ⟨by first | rfl | (simp; done) | (simp [*]; done), by repeat (first | exact Drawn0.refl _ | apply Drawn0.step)⟩

end Go.Proofs.YtlkjikknofmcdaaDoor.G

namespace Go.Proofs.YtlkjikknofmcdaaDoor.NumL
open Go.RowKit Go.Proofs.YtlkjikknofmcdaaDoor.G Go.Proofs.YtlkjikknofmcdaaDoor.EvL Go.Proofs.YtlkjikknofmcdaaDoor.TxtL Go.Proofs.YtlkjikknofmcdaaDoorW.PrintWords Go.Proofs.YtlkjikknofmcdaaDoorW.PrintLast
set_option linter.unusedVariables false
set_option linter.unusedSimpArgs false

theorem digit_all : ∀ i : Fin 10, strOfNums (([(wrap64 (48 + (i.val : Int))) % 256] : List Int)) = ⟨([UInt8.ofNat (48 + i.val)] : List UInt8).toArray⟩ := by decide +kernel
theorem digit (n : Int) (h0 : 0 ≤ n) (h1 : n < 10) : strOfNums (([(wrap64 (48 + n)) % 256] : List Int)) = ⟨([UInt8.ofNat (48 + n.toNat)] : List UInt8).toArray⟩ := by
  have h := digit_all ⟨n.toNat, by omega⟩
  have e : (((⟨n.toNat, by omega⟩ : Fin 10).val : Nat) : Int) = n := by show ((n.toNat : Nat) : Int) = n; omega
  rw [e] at h
  exact h
theorem low_ev (n : Int) (h0 : 0 ≤ n) (h1 : n < 10) : Ev (fun k => spec_l1Num.f k n) ⟨(Lib.decDigits n.toNat).toArray⟩ := by
  refine Ev.step (f := fun _ => some ⟨(Lib.decDigits n.toNat).toArray⟩) (fun k => ?_) (Ev.now _)
  simp only [spec_l1Num.f]
  rw [if_neg (by omega), if_pos h1, digit n h0 h1, Lib.decDigits_one (by omega)]
theorem up_ev (n : Int) (h0 : 10 ≤ n) (h1 : n ≤ 100000) (hl : (Lib.decDigits (n / 10).toNat).length ≤ 100) (h : Ev (fun k => spec_l1Num.f k (n / 10)) ⟨(Lib.decDigits (n / 10).toNat).toArray⟩) : Ev (fun k => spec_l1Num.f k n) ⟨(Lib.decDigits n.toNat).toArray⟩ := by
  have e : Int.tdiv n 10 = n / 10 := Int.tdiv_eq_ediv_of_nonneg (by omega)
  have e2 : wrap64 (Int.tdiv n 10) = n / 10 := by rw [e]; exact w64 (by omega) (by omega)
  have e3 : Int.tmod n 10 = n % 10 := Int.tmod_eq_emod_of_nonneg (by omega)
  have e4 := digit (n % 10) (by omega) (by omega)
  have e5 : Lib.decDigits n.toNat = Lib.decDigits (n / 10).toNat ++ [UInt8.ofNat (48 + (n % 10).toNat)] := by
    rw [Lib.decDigits, dif_neg (by omega), show n.toNat / 10 = (n / 10).toNat by omega, show n.toNat % 10 = (n % 10).toNat by omega]
  refine Ev.step (f := fun k => (spec_l1Num.f k (n / 10)).bind fun t105 => (if t105.size + (⟨([UInt8.ofNat (48 + (n % 10).toNat)] : List UInt8).toArray⟩ : ByteArray).size ≤ 9223372036854775807 then (some (t105 ++ (⟨([UInt8.ofNat (48 + (n % 10).toNat)] : List UInt8).toArray⟩ : ByteArray))) else (none))) (fun k => ?_) (Ev.bind h (Ev.ite_pos ?_ (Ev.of_eq (Ev.now _) ?_)))
  · simp only [spec_l1Num.f]
    rw [if_neg (by omega), if_neg (by omega), e2, e3]
    simp only [Option.bind_some, e4]
  · show (Lib.decDigits (n / 10).toNat).toArray.size + 1 ≤ _
    simp; omega
  · rw [e5]
    apply ByteArray.ext
    simp
theorem num_ev : ∀ (m : Nat) (n : Int), 0 ≤ n → n < 10 ^ (m + 1) → n ≤ 100000 → m ≤ 20 → Ev (fun k => spec_l1Num.f k n) ⟨(Lib.decDigits n.toNat).toArray⟩ ∧ (Lib.decDigits n.toNat).length ≤ m + 1 := by
  intro m
  induction m with
  | zero =>
    intro n h0 h1 h2 hm
    have h1' : n < 10 := by simpa using h1
    exact ⟨low_ev n h0 h1', by rw [Lib.decDigits_one (by omega)]; simp⟩
  | succ m ih =>
    intro n h0 h1 h2 hm
    by_cases c : n < 10
    · exact ⟨low_ev n h0 c, by rw [Lib.decDigits_one (by omega)]; simp⟩
    · have hp : (10 : Int) ^ (m + 1 + 1) = 10 ^ (m + 1) * 10 := Int.pow_succ ..
      obtain ⟨hE, hl⟩ := ih (n / 10) (by omega) (by rw [hp] at h1; omega) (by omega) (by omega)
      refine ⟨up_ev n (by omega) h2 (by omega) hE, ?_⟩
      rw [Lib.decDigits, dif_neg (by omega), show n.toNat / 10 = (n / 10).toNat by omega]
      simp; omega
theorem num (n : Int) (h0 : 0 ≤ n) (h1 : n ≤ 100000) : Ev (fun k => spec_l1Num.f k n) ⟨(Lib.decDigits n.toNat).toArray⟩ ∧ (Lib.decDigits n.toNat).length ≤ 6 :=
  num_ev 5 n h0 (by have : (10 : Int) ^ (5 + 1) = 1000000 := by decide
                    omega) h1 (by decide)

theorem next (i n : Nat) (h : i < n) (hn : n ≤ 9223372036854775807) : wrap64 ((i : Int) + 1) = ((i + 1 : Nat) : Int) := w64 (by omega) (by omega)
theorem num_step (a v P : Nat) (h : a < P) (hP : P ≤ 1000000) (hv : v ≤ 9) (x : Int) (hx : x = (v : Int) + 48) : a * 10 + v < P * 10 ∧ wrap64 (wrap64 (10 * (a : Int)) + (x - 48) % 256) = ((a * 10 + v : Nat) : Int) := by
  refine ⟨by omega, ?_⟩
  have e1 : (x - 48) % 256 = (v : Int) := by omega
  have e2 : wrap64 (10 * (a : Int)) = 10 * (a : Int) := w64 (by omega) (by omega)
  rw [e1, e2, w64 (by omega) (by omega)]; omega
theorem numAt (l : List UInt8) (hl : l.length ≤ 6) (hd : ∀ c ∈ l, isD c) : ∀ (d i a : Nat), i + d = l.length → a < 10 ^ i → Ev (fun k => spec_laSmall.l0 k (B l) a i) ((valF a (l.drop i) : Nat) : Int) := by
  intro d
  have hsz : (B l).size = l.length := B_size l
  induction d with
  | zero =>
    intro i a hi ha
    have c1 : ¬ (i : Int) < (((B l).size : Nat) : Int) := by rw [hsz]; omega
    rw [List.drop_eq_nil_of_le (show l.length ≤ i by omega)]
    refine Ev.step (f := fun _ => some (a : Int)) (fun k => ?_) (Ev.now _)
    rw [spec_laSmall.l0, if_neg c1]
  | succ d ih =>
    intro i a hi ha
    have hlt : i < l.length := by omega
    have c1 : (i : Int) < (((B l).size : Nat) : Int) := by rw [hsz]; omega
    have c0 : 0 ≤ (i : Int) := by omega
    have hw := next i l.length hlt (by omega)
    have hbt := bt_B l i hlt
    have hD : isD l[i] := hd _ (List.getElem_mem hlt)
    unfold isD at hD
    have hp : 10 ^ i ≤ 1000000 := Nat.le_trans (Nat.pow_le_pow_right (by omega) (show i ≤ 6 by omega)) (by decide)
    rw [List.drop_eq_getElem_cons hlt, valF_cons]
    obtain ⟨v, hv⟩ : ∃ v, v = (l[i]).toNat - 48 := ⟨_, rfl⟩
    rw [← hv]
    obtain ⟨q1, q2⟩ := num_step a v (10 ^ i) ha hp (by omega) (bt (B l) (i : Int)) (by rw [hbt]; omega)
    refine Ev.step (f := fun k => spec_laSmall.l0 k (B l) ((a * 10 + v : Nat) : Int) ((i + 1 : Nat) : Int)) (fun k => ?_) (ih (i + 1) (a * 10 + v) (by omega) (by rw [Nat.pow_succ]; exact q1))
    rw [spec_laSmall.l0, if_pos c1, if_pos c0, q2, hw]
theorem small_ev (l : List UInt8) (hl : l.length ≤ 6) (hd : ∀ c ∈ l, isD c) : Ev (fun k => spec_laSmall.f k (B l)) ((valF 0 l : Nat) : Int) := numAt l hl hd l.length 0 0 (by omega) (by decide)
theorem num_B (n : Int) (h0 : 0 ≤ n) (h1 : n ≤ 100000) : Ev (fun k => spec_l1Num.f k n) (B (Lib.decDigits n.toNat)) := (num n h0 h1).1
end Go.Proofs.YtlkjikknofmcdaaDoor.NumL

namespace Go.Proofs.YtlkjikknofmcdaaDoor.G
open Go.RowKit Go.Proofs.YtlkjikknofmcdaaDoor.EvL Go.Proofs.YtlkjikknofmcdaaDoor.TxtL Go.Proofs.YtlkjikknofmcdaaDoor.ReadM Go.Proofs.YtlkjikknofmcdaaDoorW.PrintWords
set_option linter.unusedVariables false
set_option linter.unusedSimpArgs false

theorem yrd_drop (m : Nat) : ∀ (d : Nat) (s : List UInt8) (t : Ty) (r : List UInt8), yrd m d s = some (t, r) → ∃ c, 1 ≤ c ∧ c ≤ s.length ∧ r = s.drop c
  | 0, _, _, _, h => by cases h
  | _ + 1, [], _, _, h => by cases h
  | d + 1, c :: s, t, r, h => by
    unfold yrd at h
    by_cases h1 : c = 40
    · rw [if_pos h1] at h
      obtain ⟨⟨a, r0⟩, ha, h⟩ := Option.bind_eq_some_iff.mp h
      obtain ⟨r1, e1, h⟩ := Option.bind_eq_some_iff.mp h
      obtain ⟨⟨b, r2⟩, hb, h⟩ := Option.bind_eq_some_iff.mp h
      obtain ⟨r3, e2, h⟩ := Option.bind_eq_some_iff.mp h
      simp only [Option.some.injEq, Prod.mk.injEq] at h
      obtain ⟨rfl, rfl⟩ := h
      obtain ⟨n, a1, a2, a3⟩ := yrd_drop m d s a r0 ha
      obtain ⟨k, b1, b2, b3⟩ := yrd_drop m d r1 b r2 hb
      have q1 : s.drop n = 62 :: r1 := a3.symm.trans (eat_some e1)
      have q2 : r1.drop k = 41 :: r3 := b3.symm.trans (eat_some e2)
      have l1 : s.length - n = r1.length + 1 := by have := congrArg List.length q1; simpa using this
      have l2 : r1.length - k = r3.length + 1 := by have := congrArg List.length q2; simpa using this
      have p1 : r1 = s.drop (n + 1) := by rw [← List.drop_drop, q1]; rfl
      have p2 : r3 = r1.drop (k + 1) := by rw [← List.drop_drop, q2]; rfl
      refine ⟨n + k + 3, by omega, by rw [List.length_cons]; omega, ?_⟩
      rw [p2, p1, List.drop_drop, show n + k + 3 = (n + 1 + (k + 1)) + 1 by omega, List.drop_succ_cons]
    rw [if_neg h1] at h
    by_cases h2 : c = 116 ∧ digs m s ≠ []
    · rw [if_pos h2] at h
      simp only [Option.some.injEq, Prod.mk.injEq] at h
      obtain ⟨rfl, rfl⟩ := h
      exact ⟨(digs m s).length + 1, by omega, by rw [List.length_cons]; have := (digs_len m s).2; omega, (List.drop_succ_cons).symm⟩
    · rw [if_neg h2] at h; cases h
def toS : Ty → S56
  | .v n => ⟨n, []⟩
  | .a l r => ⟨0, [toS l, toS r]⟩
theorem toS_eta (t : Ty) : (⟨(toS t).f0, (toS t).f1⟩ : S56) = toS t := by cases t <;> rfl
def readF (d : Nat) (l : List UInt8) : Int × List S56 × Int := match yrd 3 d l with
  | some (t, r) => ((toS t).f0, (toS t).f1, ((l.length - r.length : Nat) : Int))
  | none => (0, [], 0)
theorem readF_none {d : Nat} {l : List UInt8} (h : yrd 3 d l = none) : readF d l = (0, [], 0) := by unfold readF; rw [h]
theorem readF_some {d : Nat} {l r : List UInt8} {t : Ty} (h : yrd 3 d l = some (t, r)) : readF d l = ((toS t).f0, (toS t).f1, ((l.length - r.length : Nat) : Int)) := by unfold readF; rw [h]
end Go.Proofs.YtlkjikknofmcdaaDoor.G

namespace Go.Proofs.YtlkjikknofmcdaaDoor.G
open Go.RowKit Go.Proofs.YtlkjikknofmcdaaDoorW.PrintWords Go.Proofs.YtlkjikknofmcdaaDoorW.PrintLast Go.Proofs.YtlkjikknofmcdaaDoorW.PrintMore Go.Proofs.YtlkjikknofmcdaaDoor.EvL Go.Proofs.YtlkjikknofmcdaaDoor.TxtL Go.Proofs.YtlkjikknofmcdaaDoor.ReadM Go.Proofs.YtlkjikknofmcdaaDoor.NumL Go.Proofs.YtlkjikknofmcdaaDoor.Short
set_option linter.unusedVariables false
set_option linter.unusedSimpArgs false

set_option maxHeartbeats 8000000 in
set_option maxRecDepth 100000 in
theorem leRead_w : ∀ (d : Nat) (l : List UInt8) (w : World) (hd : d ≤ 61) (hl : l.length ≤ 1099511627776),
    Calls Tryd.prog 38 #[.string (B l), .int .i64 (62 - (d : Int))] w fun e w' => ∃ v1 : Value, e = .returned (.tuple #[.agg #[.int .i64 (readF d l).1, v1], .int .i64 (readF d l).2.2]) ∧ Kd.R k56 56 w' w.heap.size (fun _ => True) v1 (readF d l).2.1 ∧ Below w.heap.size w w'
  | d, [], w, hd, hl => by
    have hu56 := Tryd.underlying56
    obtain ⟨dp, hdp⟩ : ∃ z : Int, z = 62 - (d : Int) := ⟨_, rfl⟩
    rw [← hdp]
    have z2 : (B []).toList.isEmpty = true := by rw [toList_B]; rfl
    have hy : yrd 3 d [] = none := by cases d <;> rfl
    have HN := aM (readF_none hy)
    clear hdp hy
    go_enter Tryd.func38, Tryd.ntmps38
    go_wp2_with (first | ((with_reducible refine gate_dst (N := 4) rfl ?_); refine box_event ?hg (N := 4) ?hd (cs := #[.int .i64 0, .slice none 0 0]) (t := 56) ?hr ?_; (case hd => rfl); (case hg => rfl); (case hr => first | (go_simp; done) | (go_simp; rfl)); intro g4 hg w1 hbox hb; have HB := aM hb; have G4 := aM (Nat.le_of_eq hg.symm : w.heap.size ≤ g4); have BK4 := aM hbox; clear hbox hg hb; have hc4_0 : w1.cell? ⟨g4, 0, none⟩ = some (.int .i64 0) := (blk_cell BK4.out 0).trans rfl; have hc4_1 : w1.cell? ⟨g4, 1, none⟩ = some (.slice none 0 0) := (blk_cell BK4.out 1).trans rfl; have hf4_0 := blk_frozen BK4.out 0; have hf4_1 := blk_frozen BK4.out 1))
    refine bodyPost_ret (results_ct rfl _ _ g4 56 #[.int .i64 (0), .slice none 0 0] (0, 0) _ rfl (by (with_reducible repeat (first | refine bN ?_ _ | refine bD ?_ | refine bA ?_ _)); refine blk_put (cs := #[.int .i64 (0), .slice none 0 0]) ?_ 1 _ rfl; (with_reducible repeat (first | refine bN ?_ _ | refine bD ?_ | refine bA ?_ _)); refine blk_put (cs := #[.int .i64 0, .slice none 0 0]) ?_ 0 _ rfl; (with_reducible repeat (first | refine bN ?_ _ | refine bD ?_ | refine bA ?_ _)); exact BK4.out) Tryd.underlying56 rfl (by kernel_rfl)) rfl ?_
    exact ⟨_, by rw [HN.out] <;> rfl, by rw [HN.out]; exact Kd.R_nil _ _ _ _ _, (by repeat (first | (with_reducible first | exact HB.out | apply below_alloc | apply pw_below_drewN | apply below_drew1 | refine below_set ?_ G4.out) | exact HB.out))⟩
  | 0, c :: s, w, hd, hl => by
    have hu56 := Tryd.underlying56
    obtain ⟨dp, hdp⟩ : ∃ z : Int, z = 62 - ((0 : Nat) : Int) := ⟨_, rfl⟩
    rw [← hdp]
    have z1 : decide (61 < dp) = true := decide_eq_true (by omega)
    obtain ⟨S, hS⟩ : ∃ S, S = B (c :: s) := ⟨_, rfl⟩
    rw [← hS]
    have z2 : S.toList.isEmpty = false := by rw [hS, toList_B]; rfl
    have hy : yrd 3 0 (c :: s) = none := rfl
    have HN := aM (readF_none hy)
    clear hdp hy hS
    go_enter Tryd.func38, Tryd.ntmps38
    go_wp2_with (first | ((with_reducible refine gate_dst (N := 4) rfl ?_); refine box_event ?hg (N := 4) ?hd (cs := #[.int .i64 0, .slice none 0 0]) (t := 56) ?hr ?_; (case hd => rfl); (case hg => rfl); (case hr => first | (go_simp; done) | (go_simp; rfl)); intro g4 hg w1 hbox hb; have HB := aM hb; have G4 := aM (Nat.le_of_eq hg.symm : w.heap.size ≤ g4); have BK4 := aM hbox; clear hbox hg hb; have hc4_0 : w1.cell? ⟨g4, 0, none⟩ = some (.int .i64 0) := (blk_cell BK4.out 0).trans rfl; have hc4_1 : w1.cell? ⟨g4, 1, none⟩ = some (.slice none 0 0) := (blk_cell BK4.out 1).trans rfl; have hf4_0 := blk_frozen BK4.out 0; have hf4_1 := blk_frozen BK4.out 1))
    refine bodyPost_ret (results_ct rfl _ _ g4 56 #[.int .i64 (0), .slice none 0 0] (0, 0) _ rfl (by (with_reducible repeat (first | refine bN ?_ _ | refine bD ?_ | refine bA ?_ _)); refine blk_put (cs := #[.int .i64 (0), .slice none 0 0]) ?_ 1 _ rfl; (with_reducible repeat (first | refine bN ?_ _ | refine bD ?_ | refine bA ?_ _)); refine blk_put (cs := #[.int .i64 0, .slice none 0 0]) ?_ 0 _ rfl; (with_reducible repeat (first | refine bN ?_ _ | refine bD ?_ | refine bA ?_ _)); exact BK4.out) Tryd.underlying56 rfl (by kernel_rfl)) rfl ?_
    exact ⟨_, by rw [HN.out] <;> rfl, by rw [HN.out]; exact Kd.R_nil _ _ _ _ _, (by repeat (first | (with_reducible first | exact HB.out | apply below_alloc | apply pw_below_drewN | apply below_drew1 | refine below_set ?_ G4.out) | exact HB.out))⟩
  | d + 1, c :: s, w, hd, hl => by
    have hu56 := Tryd.underlying56
    obtain ⟨dp, hdp⟩ : ∃ z : Int, z = 62 - ((d + 1 : Nat) : Int) := ⟨_, rfl⟩
    rw [← hdp]
    obtain ⟨S, hS⟩ : ∃ S, S = B (c :: s) := ⟨_, rfl⟩
    rw [← hS]
    have hsz : S.size = s.length + 1 := by rw [hS, B_size]; rfl
    have hb0 : bt S 0 = (c.toNat : Int) := by rw [hS]; exact bt_B (c :: s) 0 (by simp)
    have z1 : decide (61 < dp) = false := decide_eq_false (by omega)
    have z2 : S.toList.isEmpty = false := by rw [hS, toList_B]; rfl
    have HL : Aside0 (s.length + 1 ≤ 1099511627776) := ⟨hl⟩
    have HD : Aside0 (d ≤ 61 ∧ dp = 61 - (d : Int)) := ⟨by omega, by omega⟩
    have HS := aM hS
    have HZ := aM hsz
    have q1 : (0 < S.size) = True := eq_true (by omega)
    have hx : ∀ h : 0 < S.size, ((S[0]'h).toNat : Int) = (c.toNat : Int) := fun h => (bt_at S 0 h).trans hb0
    clear hd hl hdp
    by_cases c116 : c = 116
    · subst c116
      have HX := aM hx
      replace hx : ∀ h : 0 < S.size, (((S[0]'h).toNat : Int) == 116) = true := fun h => by rw [HX.out h]; rfl
      obtain ⟨n, hn⟩ : ∃ n, n = (digs 3 s).length := ⟨_, rfl⟩
      have hdl := digs_len 3 s
      have NL : Aside0 (n ≤ 3 ∧ n ≤ s.length) := ⟨by rw [hn]; exact hdl⟩
      have DA : Aside0 (∀ j, j < n → 48 ≤ bt S ((j : Int) + 1) ∧ bt S ((j : Int) + 1) ≤ 57) := ⟨fun j hj => by
        have hp := digs_pre 3 s
        have hjs : j < s.length := by omega
        have hd := digs_all 3 s ((digs 3 s)[j]'(by omega)) (List.getElem_mem _)
        have e : s[j] = (digs 3 s)[j]'(by omega) := by
          have : s[j]? = (digs 3 s)[j]? := by
            conv => lhs; rw [hp]
            rw [List.getElem?_append_left (by omega)]
          rw [List.getElem?_eq_getElem hjs, List.getElem?_eq_getElem (by omega)] at this
          exact Option.some.inj this
        have eb : bt S ((j : Int) + 1) = (s[j].toNat : Int) := by
          rw [hS]
          exact (bt_B (116 :: s) (j + 1) (by simp; omega))
        rw [eb, e]
        unfold isD at hd
        omega⟩
      have DE : Aside0 (n < s.length → n < 3 → ¬ (48 ≤ bt S ((n : Int) + 1) ∧ bt S ((n : Int) + 1) ≤ 57)) := ⟨fun h1 h4 hb => by
        have eb : bt S ((n : Int) + 1) = (s[n].toNat : Int) := by
          rw [hS]
          exact (bt_B (116 :: s) (n + 1) (by simp; omega))
        rw [eb] at hb
        have hD : isD s[n] := by unfold isD; omega
        have := digs_end 3 s (by omega) (by omega)
        exact this (by simpa [← hn] using hD)⟩
      have HNN := aM hn
      clear hn hdl hS hsz hb0
      go_enter Tryd.func38, Tryd.ntmps38
      go_upto_block 0 with (first | ((with_reducible refine gate_dst (N := 4) rfl ?_); refine box_event ?hg (N := 4) ?hd (cs := #[.int .i64 0, .slice none 0 0]) (t := 56) ?hr ?_; (case hd => rfl); (case hg => rfl); (case hr => first | (go_simp; done) | (go_simp; rfl)); intro g4 hg w1 hbox hb; have HB := aM hb; have G4 := aM (Nat.le_of_eq hg.symm : w.heap.size ≤ g4); have BK4 := aM hbox; clear hbox hg hb; have hc4_0 : w1.cell? ⟨g4, 0, none⟩ = some (.int .i64 0) := (blk_cell BK4.out 0).trans rfl; have hc4_1 : w1.cell? ⟨g4, 1, none⟩ = some (.slice none 0 0) := (blk_cell BK4.out 1).trans rfl; have hf4_0 := blk_frozen BK4.out 0; have hf4_1 := blk_frozen BK4.out 1))
      go_cut [6] (fun v6 wc => v6 = .int .i64 ((n : Int) + 1) ∧ Aside0 (wc.heap[g4]? = some (.cells #[.int .i64 0, .slice none 0 0] 56 (0, 0))) ∧ Aside0 (Below w.heap.size w wc))
      case first =>
        go_wp2
        go_loopg [6] n (fun gk v6 w' => ∃ (i : Int) (j : Nat), v6 = .int .i64 i ∧ Aside0 (i = (j : Int) + 1 ∧ gk + j = n) ∧ Aside0 (w'.heap[g4]? = some (.cells #[.int .i64 0, .slice none 0 0] 56 (0, 0))) ∧ Aside0 (Below w.heap.size w w'))
        case atStart => exact ⟨1, 0, rfl, ⟨rfl, rfl⟩, BK4, HB⟩
        case round =>
          clear BK4 HB hc4_0 hc4_1 hf4_0 hf4_1
          obtain ⟨i, j, rfl, HJ, BK, HB⟩ := hrel
          have hZ := HZ.out
          have hL := NL.out
          have h0 : 0 ≤ i := by have := HJ.out; omega
          have p1 := eq_true h0
          have hxi := bt_at S i
          cases gk with
          | zero =>
            have hj : j = n := by have := HJ.out; omega
            have hi : i = (n : Int) + 1 := by have := HJ.out; omega
            by_cases ca : n = s.length
            · have s1 : decide (i < (S.size : Int)) = false := decide_eq_false (by omega)
              have RI : Aside0 (i = (n : Int) + 1) := ⟨hi⟩
              clear ca hj hi hZ hL h0
              go_wp2
              go_meet
              case rel => exact ⟨by rw [RI.out], BK, HB⟩
            · have s1 : decide (i < (S.size : Int)) = true := decide_eq_true (by omega)
              have q4 : (i < (S.size : Int)) = True := eq_true (by omega)
              by_cases cb : n = 3
              · have s2 : decide (i < 4) = false := decide_eq_false (by omega)
                have RI : Aside0 (i = (n : Int) + 1) := ⟨hi⟩
                clear ca cb hj hi hZ hL h0
                go_wp2
                go_meet
                case rel => exact ⟨by rw [RI.out], BK, HB⟩
              · have s2 : decide (i < 4) = true := decide_eq_true (by omega)
                have hde := DE.out (by omega) (by omega)
                rw [← hi] at hde
                have RI : Aside0 (i = (n : Int) + 1) := ⟨hi⟩
                by_cases cc : 48 ≤ bt S i
                · have s3 : decide (48 ≤ bt S i) = true := decide_eq_true cc
                  have s4 : decide (bt S i ≤ 57) = false := decide_eq_false (fun h => hde ⟨cc, h⟩)
                  clear ca cb hj hi hZ hL h0 hde cc
                  go_wp2
                  go_meet
                  case rel => exact ⟨by rw [RI.out], BK, HB⟩
                · have s3 : decide (48 ≤ bt S i) = false := decide_eq_false cc
                  clear ca cb hj hi hZ hL h0 hde cc
                  go_wp2
                  go_meet
                  case rel => exact ⟨by rw [RI.out], BK, HB⟩
          | succ k1 =>
            have hd := DA.out j (by have := HJ.out; omega)
            have s1 : decide (i < (S.size : Int)) = true := decide_eq_true (by have := HJ.out; omega)
            have q4 : (i < (S.size : Int)) = True := eq_true (by have := HJ.out; omega)
            have s2 : decide (i < 4) = true := decide_eq_true (by have := HJ.out; omega)
            rw [← HJ.out.1] at hd
            have s3 : decide (48 ≤ bt S i) = true := decide_eq_true hd.1
            have s4 : decide (bt S i ≤ 57) = true := decide_eq_true hd.2
            clear hd hZ hL h0
            go_wp2
            go_roundg k1
            case measure => omega
            case rel => exact ⟨i + 1, j + 1, by rw [w64 (by have := HJ.out; have := NL.out; omega) (by have := HJ.out; have := NL.out; omega)], ⟨by have := HJ.out; omega, by have := HJ.out; omega⟩, BK, HB⟩
      case rest =>
        clear BK4 HB hc4_0 hc4_1 hf4_0 hf4_1
        obtain ⟨rfl, BK, HB⟩ := hcut
        have hc4_0 : wc.cell? ⟨g4, 0, none⟩ = some (.int .i64 0) := (blk_cell BK.out 0).trans rfl
        have hc4_1 : wc.cell? ⟨g4, 1, none⟩ = some (.slice none 0 0) := (blk_cell BK.out 1).trans rfl
        have hf4_0 := blk_frozen BK.out 0
        have hf4_1 := blk_frozen BK.out 1
        by_cases hn0 : n = 0
        · have h0 : digs 3 s = [] := List.eq_nil_of_length_eq_zero (by rw [← HNN.out]; exact hn0)
          have hy : yrd 3 (d + 1) (116 :: s) = none := by rw [yrd, if_neg (by decide), if_neg (fun h => h.2 h0)]
          have HN := aM (readF_none hy)
          have sq : ((n : Int) + 1 == 1) = true := by rw [hn0]; rfl
          clear hn0 h0 hy
          go_wp2
          refine bodyPost_ret (results_ct rfl _ _ g4 56 #[.int .i64 (0), .slice none 0 0] (0, 0) _ rfl (by (with_reducible repeat (first | refine bN ?_ _ | refine bD ?_ | refine bA ?_ _)); refine blk_put (cs := #[.int .i64 (0), .slice none 0 0]) ?_ 1 _ rfl; (with_reducible repeat (first | refine bN ?_ _ | refine bD ?_ | refine bA ?_ _)); refine blk_put (cs := #[.int .i64 0, .slice none 0 0]) ?_ 0 _ rfl; (with_reducible repeat (first | refine bN ?_ _ | refine bD ?_ | refine bA ?_ _)); exact BK.out) Tryd.underlying56 rfl (by kernel_rfl)) rfl ?_
          exact ⟨_, by rw [HN.out] <;> rfl, by rw [HN.out]; exact Kd.R_nil _ _ _ _ _, (by repeat (first | (with_reducible first | exact HB.out | apply below_alloc | apply pw_below_drewN | apply below_drew1 | refine below_set ?_ G4.out) | exact HB.out))⟩
        · have sq : ((n : Int) + 1 == 1) = false := by
            have : (n : Int) + 1 ≠ 1 := by omega
            simpa using this
          have h0 : digs 3 s ≠ [] := fun h => hn0 (by rw [HNN.out, h]; rfl)
          have hy : yrd 3 (d + 1) (116 :: s) = some (.v ((valF 0 (digs 3 s) : Nat) : Int), s.drop n) := by rw [yrd, if_neg (by decide), if_pos ⟨rfl, h0⟩, HNN.out]
          obtain ⟨v, hv⟩ : ∃ z : Int, z = ((valF 0 (digs 3 s) : Nat) : Int) := ⟨_, rfl⟩
          rw [← hv] at hy
          have HN := aM (readF_some hy)
          have q5 : ((1 : Int) ≤ (n : Int) + 1) = True := eq_true (by omega)
          have q6 : ((n : Int) + 1 ≤ (S.size : Int)) = True := eq_true (by have := HZ.out; have := NL.out; omega)
          have q7 : ((0 : Int) ≤ (n : Int) + 1) = True := eq_true (by omega)
          have EX : S.extract 1 (n + 1) = B (digs 3 s) := by
            have hp := digs_pre 3 s
            rw [HS.out]
            refine data_inj ?_
            rw [B_list]
            have h1 : ((B (116 :: s)).extract 1 (n + 1)).data.toList = s.take n := by
              have : (B (116 :: s)).extract 1 (n + 1) = B (s.take n) := by
                apply ByteArray.ext
                simp [B, List.drop_take]
              rw [this, B_list]
            rw [h1, HNN.out]
            have h2 := congrArg (List.take (digs 3 s).length) hp
            rw [List.take_left] at h2
            exact h2
          have SE := small_ev (digs 3 s) (by have := (digs_len 3 s).1; omega) (digs_all 3 s)
          rw [← hv] at SE
          have EX1 := aM EX
          have S1 := aM SE
          clear EX SE h0 hn0 hy hv
          go_wp2_with (first
            | (go_at_call 50; rw [EX1.out]; obtain ⟨kk, hk⟩ := S1.out; refine (spec_laSmall.calls kk (B (digs 3 s)) v _ (hk kk (Nat.le_refl _))).mono ?_; rintro _ w4 ⟨rfl, hd⟩; have hb := hd.below; have BK5 := aM (blk_below BK.out hb); have HB5 := aM (below_step HB.out hb); have hd4_0 : w4.cell? ⟨g4, 0, none⟩ = some (.int .i64 0) := (blk_cell BK5.out 0).trans rfl; have hd4_1 : w4.cell? ⟨g4, 1, none⟩ = some (.slice none 0 0) := (blk_cell BK5.out 1).trans rfl; have he4_0 := blk_frozen BK5.out 0; have he4_1 := blk_frozen BK5.out 1; clear hb hd hk))
          refine bodyPost_ret (results_ct rfl _ _ g4 56 #[.int .i64 (v), .slice none 0 0] (0, 0) _ rfl (by (with_reducible repeat (first | refine bN ?_ _ | refine bD ?_ | refine bA ?_ _)); refine blk_put (cs := #[.int .i64 (v), .slice none 0 0]) ?_ 1 _ rfl; (with_reducible repeat (first | refine bN ?_ _ | refine bD ?_ | refine bA ?_ _)); refine blk_put (cs := #[.int .i64 0, .slice none 0 0]) ?_ 0 _ rfl; (with_reducible repeat (first | refine bN ?_ _ | refine bD ?_ | refine bA ?_ _)); exact BK5.out) Tryd.underlying56 rfl (by kernel_rfl)) rfl ?_
          refine ⟨_, ?_, by rw [HN.out]; exact Kd.R_nil _ _ _ _ _, (by repeat (first | (with_reducible first | exact HB5.out | apply below_alloc | apply pw_below_drewN | apply below_drew1 | refine below_set ?_ G4.out) | exact HB5.out))⟩
          rw [HN.out]
          have e : (((116 :: s).length - (s.drop n).length : Nat) : Int) = (n : Int) + 1 := by rw [List.length_drop, List.length_cons]; have := NL.out; omega
          rw [e]; rfl
    · have hne : ∀ h : 0 < S.size, (((S[0]'h).toNat : Int) == 116) = false := fun h => by
        rw [hx h]
        have : (c.toNat : Int) ≠ 116 := fun h => c116 (by have h2 : c.toNat = 116 := by { omega }; rw [show c = UInt8.ofNat c.toNat by simp, h2]; rfl)
        simpa using this
      by_cases c40 : c = 40
      · subst c40
        replace hx : ∀ h : 0 < S.size, (((S[0]'h).toNat : Int) != 40) = false := fun h => by rw [hx h]; rfl
        have q2_ : (1 ≤ S.size) = True := eq_true (by omega)
        have q3_ : ((1 : Int) ≤ (S.size : Int)) = True := eq_true (by omega)
        have e1 : S.extract 1 S.size = B s := by rw [hS]; exact ext_drop _ 1 _ (by rw [B_size])
        have E1 := aM e1
        have EW : Aside0 (wrap64 (dp + 1) = 62 - (d : Int)) := ⟨by rw [w64 (by have := HD.out; omega) (by have := HD.out; omega)]; have := HD.out; omega⟩
        obtain ⟨q1, q2, q3, hq⟩ : ∃ a b e, readF d s = (a, b, e) := ⟨_, _, _, rfl⟩
        have IH1 : Aside0 (∀ w : World, Calls Tryd.prog 38 #[.string (B s), .int .i64 (62 - (d : Int))] w fun e w' => ∃ v1 : Value, e = .returned (.tuple #[.agg #[.int .i64 q1, v1], .int .i64 q3]) ∧ Kd.R k56 56 w' w.heap.size (fun _ => True) v1 q2 ∧ Below w.heap.size w w') := ⟨fun w => by
          have h := leRead_w d s w (by have := HD.out; omega) (by have := HL.out; omega)
          rw [hq] at h
          exact h⟩
        have HQ := aM hq
        clear e1 hS hsz hb0 hq c116
        go_enter Tryd.func38, Tryd.ntmps38
        go_upto_region 13 with (first
          | ((with_reducible refine gate_dst (N := 4) rfl ?_); refine box_event ?hg (N := 4) ?hd (cs := #[.int .i64 0, .slice none 0 0]) (t := 56) ?hr ?_; (case hd => rfl); (case hg => rfl); (case hr => first | (go_simp; done) | (go_simp; rfl)); intro g4 hg w1 hbox hb; have HB := aM hb; have G4 := aM (Nat.le_of_eq hg.symm : w.heap.size ≤ g4); have BK4 := aM hbox; clear hbox hg hb; have hc4_0 : w1.cell? ⟨g4, 0, none⟩ = some (.int .i64 0) := (blk_cell BK4.out 0).trans rfl; have hc4_1 : w1.cell? ⟨g4, 1, none⟩ = some (.slice none 0 0) := (blk_cell BK4.out 1).trans rfl; have hf4_0 := blk_frozen BK4.out 0; have hf4_1 := blk_frozen BK4.out 1)
          | ((first | ((with_reducible refine gate_callee (f := 38) rfl ?_); refine goesL_ (some 62) rfl rfl Tryd.func38 (by kernel_rfl) rfl #[.string (S.extract 1 S.size), .int .i64 (wrap64 (dp + 1))] rfl tA ?_) | go_at_call 38); rw [E1.out, EW.out]; refine (IH1.out _).mono ?_; rintro _ w2 ⟨v1, rfl, ho, hb⟩; (try refine ⟨_, rfl, ?_⟩); have R1 := aM (Kd.R_lower (Kd.R_newB ho (by (with_reducible repeat (first | refine bN ?_ _ | refine bD ?_ | refine bA ?_ _)); exact BK4.out)) (below_size (by repeat (first | (with_reducible first | exact HB.out | apply below_alloc | apply pw_below_drewN | apply below_drew1 | refine below_set ?_ G4.out) | exact HB.out)))); have n1_ := aM (blk_below (g := g4) (o := .cells #[.int .i64 0, .slice none 0 0] 56 (0, 0)) (by (with_reducible repeat (first | refine bN ?_ _ | refine bD ?_ | refine bA ?_ _)); exact BK4.out) hb); have n2_ := aM (below_step (by repeat (first | (with_reducible first | exact HB.out | apply below_alloc | apply pw_below_drewN | apply below_drew1 | refine below_set ?_ G4.out) | exact HB.out)) hb); clear BK4 HB hc4_0 hc4_1 hf4_0 hf4_1; have BK4 := n1_; have HB := n2_; clear n1_ n2_ ho hb; obtain ⟨A1, cc1, ee1⟩ := Kd.R_slice R1.out; subst ee1)
          | ((with_reducible refine gate_dst (N := 7) rfl ?_); refine box_event ?hg (N := 7) ?hd (cs := #[.int .i64 0, .slice none 0 0]) (t := 56) ?hr ?_; (case hd => rfl); (case hg => rfl); (case hr => first | (go_simp; done) | (go_simp; rfl)); intro g7 hg w3 hbox hb; have n1_ := aM (Kd.R_below (Kd.R_elderB (by (with_reducible repeat (first | apply rA | apply rN | apply rD)); exact R1.out) g7 (Nat.le_of_eq hg.symm)) hb); have n2_ := aM (blk_below (g := g4) (o := .cells #[.int .i64 0, .slice none 0 0] 56 (0, 0)) (by (with_reducible repeat (first | refine bN ?_ _ | refine bD ?_ | refine bA ?_ _)); exact BK4.out) hb); have n3_ := aM (below_step (by repeat (first | (with_reducible first | exact HB.out | apply below_alloc | apply pw_below_drewN | apply below_drew1 | refine below_set ?_ G4.out) | exact HB.out)) hb); have G7 := aM ((by rw [hg]; exact below_size (by repeat (first | (with_reducible first | exact HB.out | apply below_alloc | apply pw_below_drewN | apply below_drew1 | refine below_set ?_ G4.out) | exact HB.out))) : w.heap.size ≤ g7); have N47 := aM ((by rw [hg]; exact Nat.ne_of_lt (blk_lt (g := g4) (o := .cells #[.int .i64 0, .slice none 0 0] 56 (0, 0)) (by (with_reducible repeat (first | refine bN ?_ _ | refine bD ?_ | refine bA ?_ _)); exact BK4.out))) : g4 ≠ g7); have N74 := aM (Ne.symm N47.out); clear R1 BK4 HB; have R1 := n1_; have BK4 := n2_; have HB := n3_; have BK7 := aM hbox; clear n1_ n2_ n3_ hg hbox hb; have hc4_0 : w3.cell? ⟨g4, 0, none⟩ = some (.int .i64 0) := (blk_cell BK4.out 0).trans rfl; have hc4_1 : w3.cell? ⟨g4, 1, none⟩ = some (.slice none 0 0) := (blk_cell BK4.out 1).trans rfl; have hf4_0 := blk_frozen BK4.out 0; have hf4_1 := blk_frozen BK4.out 1; have hc7_0 : w3.cell? ⟨g7, 0, none⟩ = some (.int .i64 0) := (blk_cell BK7.out 0).trans rfl; have hc7_1 : w3.cell? ⟨g7, 1, none⟩ = some (.slice none 0 0) := (blk_cell BK7.out 1).trans rfl; have hf7_0 := blk_frozen BK7.out 0; have hf7_1 := blk_frozen BK7.out 1; have hn47 := N47.out; have hn74 := N74.out))
        cases y1 : yrd 3 d s with
        | none =>
          have hy : yrd 3 (d + 1) (40 :: s) = none := by rw [yrd, if_pos rfl, y1]; rfl
          have HN := aM (readF_none hy)
          have h3 : q3 = 0 := by have := HQ.out; rw [readF_none y1] at this; cases this; rfl
          have s0 : (q3 == 0) = true := by rw [h3]; rfl
          clear hy y1 h3
          go_wp2
          refine bodyPost_ret (results_ct rfl _ _ g4 56 #[.int .i64 (0), .slice none 0 0] (0, 0) _ rfl (by (with_reducible repeat (first | refine bN ?_ _ | refine bD ?_ | refine bA ?_ _)); refine blk_put (cs := #[.int .i64 (0), .slice none 0 0]) ?_ 1 _ rfl; (with_reducible repeat (first | refine bN ?_ _ | refine bD ?_ | refine bA ?_ _)); refine blk_put (cs := #[.int .i64 0, .slice none 0 0]) ?_ 0 _ rfl; (with_reducible repeat (first | refine bN ?_ _ | refine bD ?_ | refine bA ?_ _)); refine blk_far ?_ N47.out _; (with_reducible repeat (first | refine bN ?_ _ | refine bD ?_ | refine bA ?_ _)); refine blk_far ?_ N47.out _; (with_reducible repeat (first | refine bN ?_ _ | refine bD ?_ | refine bA ?_ _)); exact BK4.out) Tryd.underlying56 rfl (by kernel_rfl)) rfl ?_
          exact ⟨_, by rw [HN.out] <;> rfl, by rw [HN.out]; exact Kd.R_nil _ _ _ _ _, (by repeat (first | (with_reducible first | exact HB.out | apply below_alloc | apply pw_below_drewN | apply below_drew1 | refine below_set ?_ G4.out | refine below_set ?_ G7.out) | exact HB.out))⟩
        | some p1 =>
          obtain ⟨t1, r0⟩ := p1
          have Y1 := aM y1
          obtain ⟨c1, c1a, c1b, c1c⟩ := yrd_drop 3 d s t1 r0 y1
          have hr0 : r0.length = s.length - c1 := by rw [c1c, List.length_drop]
          have e0 : (q1, q2, q3) = ((toS t1).f0, (toS t1).f1, ((s.length - r0.length : Nat) : Int)) := HQ.out.symm.trans (readF_some y1)
          have e3 : q3 = (c1 : Int) := by
            have := congrArg (fun z : Int × List S56 × Int => z.2.2) e0
            dsimp only at this
            omega
          have ET1 : Aside0 ((⟨q1, q2⟩ : S56) = toS t1) := ⟨by cases e0; exact toS_eta t1⟩
          have C1 : Aside0 (1 ≤ c1 ∧ c1 ≤ s.length ∧ r0 = s.drop c1 ∧ r0.length = s.length - c1 ∧ q3 = (c1 : Int)) := ⟨⟨c1a, c1b, c1c, hr0, e3⟩⟩
          have s0 : (q3 == 0) = false := by
            have : q3 ≠ 0 := by omega
            simpa using this
          have W1 : Aside0 (wrap64 (q3 + 1) = q3 + 1) := ⟨w64 (by omega) (by have := HL.out; omega)⟩
          have W2 : Aside0 (wrap64 (q3 + 2) = q3 + 2) := ⟨w64 (by omega) (by have := HL.out; omega)⟩
          clear y1 c1a c1b c1c hr0 e0 e3
          cases r0 with
          | nil =>
            have hy : yrd 3 (d + 1) (40 :: s) = none := by rw [yrd, if_pos rfl, Y1.out]; rfl
            have HN := aM (readF_none hy)
            have s1 : decide ((S.size : Int) ≤ wrap64 (q3 + 1)) = true := decide_eq_true (by rw [W1.out]; have := C1.out; have := HZ.out; have h5 := C1.out.2.2.2.1; simp only [List.length_nil] at h5; omega)
            clear hy
            go_wp2
            refine bodyPost_ret (results_ct rfl _ _ g4 56 #[.int .i64 (0), .slice none 0 0] (0, 0) _ rfl (by (with_reducible repeat (first | refine bN ?_ _ | refine bD ?_ | refine bA ?_ _)); refine blk_put (cs := #[.int .i64 (0), .slice none 0 0]) ?_ 1 _ rfl; (with_reducible repeat (first | refine bN ?_ _ | refine bD ?_ | refine bA ?_ _)); refine blk_put (cs := #[.int .i64 0, .slice none 0 0]) ?_ 0 _ rfl; (with_reducible repeat (first | refine bN ?_ _ | refine bD ?_ | refine bA ?_ _)); refine blk_far ?_ N47.out _; (with_reducible repeat (first | refine bN ?_ _ | refine bD ?_ | refine bA ?_ _)); refine blk_far ?_ N47.out _; (with_reducible repeat (first | refine bN ?_ _ | refine bD ?_ | refine bA ?_ _)); exact BK4.out) Tryd.underlying56 rfl (by kernel_rfl)) rfl ?_
            exact ⟨_, by rw [HN.out] <;> rfl, by rw [HN.out]; exact Kd.R_nil _ _ _ _ _, (by repeat (first | (with_reducible first | exact HB.out | apply below_alloc | apply pw_below_drewN | apply below_drew1 | refine below_set ?_ G4.out | refine below_set ?_ G7.out) | exact HB.out))⟩
          | cons x r1 =>
            have L1 : Aside0 (r1.length + 1 = s.length - c1) := ⟨C1.out.2.2.2.1⟩
            have s1 : decide ((S.size : Int) ≤ wrap64 (q3 + 1)) = false := decide_eq_false (by rw [W1.out]; have := C1.out; have := HZ.out; have := L1.out; omega)
            have p1 : (0 ≤ wrap64 (q3 + 1)) = True := eq_true (by rw [W1.out]; have := C1.out; omega)
            have p2 : (wrap64 (q3 + 1) < (S.size : Int)) = True := eq_true (by rw [W1.out]; have := C1.out; have := HZ.out; have := L1.out; omega)
            have hbx : bt S (wrap64 (q3 + 1)) = (x.toNat : Int) := by
              rw [W1.out, C1.out.2.2.2.2, HS.out]
              have := bt_B (40 :: s) (c1 + 1) (by rw [List.length_cons]; have := L1.out; omega)
              rw [show (((c1 + 1 : Nat) : Int)) = (c1 : Int) + 1 by omega] at this
              rw [this]
              have h2 : s[c1]'(by have := L1.out; omega) = x := by
                have h3 := congrArg (fun z : List UInt8 => z[0]?) C1.out.2.2.1
                simp only [List.getElem?_cons_zero, List.getElem?_drop, Nat.add_zero] at h3
                rw [List.getElem?_eq_getElem (by have := L1.out; omega)] at h3
                exact (Option.some.inj h3).symm
              show ((s[c1]'_).toNat : Int) = _
              rw [h2]
            have hxi := bt_at S (wrap64 (q3 + 1))
            by_cases x62 : x = 62
            · subst x62
              have s2 : (bt S (wrap64 (q3 + 1)) != 62) = false := by rw [hbx]; rfl
              have R1E : Aside0 (r1 = s.drop (c1 + 1)) := ⟨by rw [← List.drop_drop, ← C1.out.2.2.1]; rfl⟩
              have e2 : S.extract (wrap64 (q3 + 2)).toNat S.size = B r1 := by
                have hk : (wrap64 (q3 + 2)).toNat = (c1 + 1) + 1 := by rw [W2.out, C1.out.2.2.2.2]; omega
                rw [hk, R1E.out, HS.out]
                exact ext_drop _ _ _ (by rw [B_size])
              have E2 := aM e2
              have p3 : (0 ≤ wrap64 (q3 + 2)) = True := eq_true (by rw [W2.out]; have := C1.out; omega)
              have p4 : (wrap64 (q3 + 2) ≤ (S.size : Int)) = True := eq_true (by rw [W2.out]; have := C1.out; have := HZ.out; have := L1.out; omega)
              have p5 : ((wrap64 (q3 + 2)).toNat ≤ S.size) = True := eq_true (by rw [W2.out]; have := C1.out; have := HZ.out; have := L1.out; omega)
              obtain ⟨q4, q5, q6, hq'⟩ : ∃ a b e, readF d r1 = (a, b, e) := ⟨_, _, _, rfl⟩
              have IH2 : Aside0 (∀ w : World, Calls Tryd.prog 38 #[.string (B r1), .int .i64 (62 - (d : Int))] w fun e w' => ∃ v1 : Value, e = .returned (.tuple #[.agg #[.int .i64 q4, v1], .int .i64 q6]) ∧ Kd.R k56 56 w' w.heap.size (fun _ => True) v1 q5 ∧ Below w.heap.size w w') := ⟨fun w => by
                have h := leRead_w d r1 w (by have := HD.out; omega) (by have := HL.out; have := L1.out; omega)
                rw [hq'] at h
                exact h⟩
              have HQ2 := aM hq'
              clear hq' e2 hbx
              go_upto_region 17 with (first
                | ((first | ((with_reducible refine gate_callee (f := 38) rfl ?_); refine goesL_ (some 89) rfl rfl Tryd.func38 (by kernel_rfl) rfl #[.string (S.extract (wrap64 (q3 + 2)).toNat S.size), .int .i64 (wrap64 (dp + 1))] rfl tA ?_) | go_at_call 38); rw [E2.out, EW.out]; refine (IH2.out _).mono ?_; rintro _ w4 ⟨v2, rfl, ho, hb⟩; (try refine ⟨_, rfl, ?_⟩); have R2 := aM (Kd.R_lower (Kd.R_newB (Kd.R_newB ho (o := .cells #[.int .i64 0, .slice none 0 0] 56 (0, 0)) (g := g4) (by (with_reducible repeat (first | refine bN ?_ _ | refine bD ?_ | refine bA ?_ _)); refine blk_far ?_ N47.out _; (with_reducible repeat (first | refine bN ?_ _ | refine bD ?_ | refine bA ?_ _)); refine blk_far ?_ N47.out _; (with_reducible repeat (first | refine bN ?_ _ | refine bD ?_ | refine bA ?_ _)); exact BK4.out)) (o := .cells #[.int .i64 q1, .slice A1 q2.length cc1] 56 (0, 0)) (g := g7) (by (with_reducible repeat (first | refine bN ?_ _ | refine bD ?_ | refine bA ?_ _)); refine blk_put (cs := #[.int .i64 q1, .slice none 0 0]) ?_ 1 _ rfl; (with_reducible repeat (first | refine bN ?_ _ | refine bD ?_ | refine bA ?_ _)); refine blk_put (cs := #[.int .i64 0, .slice none 0 0]) ?_ 0 _ rfl; (with_reducible repeat (first | refine bN ?_ _ | refine bD ?_ | refine bA ?_ _)); exact BK7.out)) (below_size (by repeat (first | (with_reducible first | exact HB.out | apply below_alloc | apply pw_below_drewN | apply below_drew1 | refine below_set ?_ G4.out | refine below_set ?_ G7.out) | exact HB.out)))); have n1_ := aM (blk_below (g := g4) (o := .cells #[.int .i64 0, .slice none 0 0] 56 (0, 0)) (by (with_reducible repeat (first | refine bN ?_ _ | refine bD ?_ | refine bA ?_ _)); refine blk_far ?_ N47.out _; (with_reducible repeat (first | refine bN ?_ _ | refine bD ?_ | refine bA ?_ _)); refine blk_far ?_ N47.out _; (with_reducible repeat (first | refine bN ?_ _ | refine bD ?_ | refine bA ?_ _)); exact BK4.out) hb); have n2_ := aM (blk_below (g := g7) (o := .cells #[.int .i64 q1, .slice A1 q2.length cc1] 56 (0, 0)) (by (with_reducible repeat (first | refine bN ?_ _ | refine bD ?_ | refine bA ?_ _)); refine blk_put (cs := #[.int .i64 q1, .slice none 0 0]) ?_ 1 _ rfl; (with_reducible repeat (first | refine bN ?_ _ | refine bD ?_ | refine bA ?_ _)); refine blk_put (cs := #[.int .i64 0, .slice none 0 0]) ?_ 0 _ rfl; (with_reducible repeat (first | refine bN ?_ _ | refine bD ?_ | refine bA ?_ _)); exact BK7.out) hb); have n3_ := aM (below_step (by repeat (first | (with_reducible first | exact HB.out | apply below_alloc | apply pw_below_drewN | apply below_drew1 | refine below_set ?_ G4.out | refine below_set ?_ G7.out) | exact HB.out)) hb); have n4_ := aM (Kd.R_below (Kd.R_far (p := ⟨g7, 1, none⟩) (Kd.R_far (p := ⟨g7, 0, none⟩) (by (with_reducible repeat (first | apply rA | apply rN | apply rD)); exact R1.out) (fun k (hk : (True ∧ k ≠ g4) ∧ k ≠ g7) => hk.2) _) (fun k (hk : (True ∧ k ≠ g4) ∧ k ≠ g7) => hk.2) _) hb); clear R1 BK4 BK7 HB hc4_0 hc4_1 hf4_0 hf4_1 hc7_0 hc7_1 hf7_0 hf7_1; have BK4 := n1_; have BK7 := n2_; have HB := n3_; have R1 := n4_; clear n1_ n2_ n3_ n4_ ho hb; obtain ⟨A2, cc2, ee2⟩ := Kd.R_slice R2.out; subst ee2)
                | ((with_reducible refine gate_dst (N := 9) rfl ?_); refine box_event ?hg (N := 9) ?hd (cs := #[.int .i64 0, .slice none 0 0]) (t := 56) ?hr ?_; (case hd => rfl); (case hg => rfl); (case hr => first | (go_simp; done) | (go_simp; rfl)); intro g9 hg w5 hbox hb; have n0_ := aM (Kd.R_below (Kd.R_elderB (by (with_reducible repeat (first | apply rA | apply rN | apply rD)); exact R2.out) g9 (Nat.le_of_eq hg.symm)) hb); have n1_ := aM (Kd.R_below (Kd.R_elderB (by (with_reducible repeat (first | apply rA | apply rN | apply rD)); exact R1.out) g9 (Nat.le_of_eq hg.symm)) hb); have n2_ := aM (blk_below (g := g4) (o := .cells #[.int .i64 0, .slice none 0 0] 56 (0, 0)) (by (with_reducible repeat (first | refine bN ?_ _ | refine bD ?_ | refine bA ?_ _)); exact BK4.out) hb); have n5_ := aM (blk_below (g := g7) (o := .cells #[.int .i64 q1, .slice A1 q2.length cc1] 56 (0, 0)) (by (with_reducible repeat (first | refine bN ?_ _ | refine bD ?_ | refine bA ?_ _)); exact BK7.out) hb); have n3_ := aM (below_step (by repeat (first | (with_reducible first | exact HB.out | apply below_alloc | apply pw_below_drewN | apply below_drew1 | refine below_set ?_ G4.out) | exact HB.out)) hb); have G9 := aM ((by rw [hg]; exact below_size (by repeat (first | (with_reducible first | exact HB.out | apply below_alloc | apply pw_below_drewN | apply below_drew1 | refine below_set ?_ G4.out) | exact HB.out))) : w.heap.size ≤ g9); have N49 := aM ((by rw [hg]; exact Nat.ne_of_lt (blk_lt (g := g4) (o := .cells #[.int .i64 0, .slice none 0 0] 56 (0, 0)) (by (with_reducible repeat (first | refine bN ?_ _ | refine bD ?_ | refine bA ?_ _)); exact BK4.out))) : g4 ≠ g9); have N79 := aM ((by rw [hg]; exact Nat.ne_of_lt (blk_lt (g := g7) (o := .cells #[.int .i64 q1, .slice A1 q2.length cc1] 56 (0, 0)) (by (with_reducible repeat (first | refine bN ?_ _ | refine bD ?_ | refine bA ?_ _)); exact BK7.out))) : g7 ≠ g9); clear R1 R2 BK4 BK7 HB; have R2 := n0_; have R1 := n1_; have BK4 := n2_; have BK7 := n5_; have HB := n3_; have BK9 := aM hbox; clear n0_ n1_ n2_ n3_ n5_ hg hbox hb; have hc4_0 : w5.cell? ⟨g4, 0, none⟩ = some (.int .i64 0) := (blk_cell BK4.out 0).trans rfl; have hc4_1 : w5.cell? ⟨g4, 1, none⟩ = some (.slice none 0 0) := (blk_cell BK4.out 1).trans rfl; have hf4_0 := blk_frozen BK4.out 0; have hf4_1 := blk_frozen BK4.out 1; have hc7_0 : w5.cell? ⟨g7, 0, none⟩ = some (.int .i64 q1) := (blk_cell BK7.out 0).trans rfl; have hc7_1 : w5.cell? ⟨g7, 1, none⟩ = some (.slice A1 q2.length cc1) := (blk_cell BK7.out 1).trans rfl; have hf7_0 := blk_frozen BK7.out 0; have hf7_1 := blk_frozen BK7.out 1; have hc9_0 : w5.cell? ⟨g9, 0, none⟩ = some (.int .i64 0) := (blk_cell BK9.out 0).trans rfl; have hc9_1 : w5.cell? ⟨g9, 1, none⟩ = some (.slice none 0 0) := (blk_cell BK9.out 1).trans rfl; have hf9_0 := blk_frozen BK9.out 0; have hf9_1 := blk_frozen BK9.out 1; have hn49 := N49.out; have hn94 := Ne.symm N49.out; have hn79 := N79.out; have hn97 := Ne.symm N79.out))
              cases y2 : yrd 3 d r1 with
              | none =>
                have hy : yrd 3 (d + 1) (40 :: s) = none := by rw [yrd, if_pos rfl, Y1.out, Option.bind_some]; show (some r1).bind _ = _; rw [Option.bind_some, y2]; rfl
                have HN := aM (readF_none hy)
                have h3 : q6 = 0 := by have := HQ2.out; rw [readF_none y2] at this; cases this; rfl
                have t0 : (q6 == 0) = true := by rw [h3]; rfl
                clear hy y2 h3
                go_wp2
                refine bodyPost_ret (results_ct rfl _ _ g4 56 #[.int .i64 (0), .slice none 0 0] (0, 0) _ rfl (by (with_reducible repeat (first | refine bN ?_ _ | refine bD ?_ | refine bA ?_ _)); refine blk_put (cs := #[.int .i64 (0), .slice none 0 0]) ?_ 1 _ rfl; (with_reducible repeat (first | refine bN ?_ _ | refine bD ?_ | refine bA ?_ _)); refine blk_put (cs := #[.int .i64 0, .slice none 0 0]) ?_ 0 _ rfl; (with_reducible repeat (first | refine bN ?_ _ | refine bD ?_ | refine bA ?_ _)); refine blk_far ?_ N49.out _; (with_reducible repeat (first | refine bN ?_ _ | refine bD ?_ | refine bA ?_ _)); refine blk_far ?_ N49.out _; (with_reducible repeat (first | refine bN ?_ _ | refine bD ?_ | refine bA ?_ _)); exact BK4.out) Tryd.underlying56 rfl (by kernel_rfl)) rfl ?_
                exact ⟨_, by rw [HN.out] <;> rfl, by rw [HN.out]; exact Kd.R_nil _ _ _ _ _, (by repeat (first | (with_reducible first | exact HB.out | apply below_alloc | apply pw_below_drewN | apply below_drew1 | refine below_set ?_ G4.out | refine below_set ?_ G7.out | refine below_set ?_ G9.out) | exact HB.out))⟩
              | some p2 =>
                obtain ⟨t2, r2⟩ := p2
                have Y2 := aM y2
                obtain ⟨c2, c2a, c2b, c2c⟩ := yrd_drop 3 d r1 t2 r2 y2
                have hr2 : r2.length = r1.length - c2 := by rw [c2c, List.length_drop]
                have f0 : (q4, q5, q6) = ((toS t2).f0, (toS t2).f1, ((r1.length - r2.length : Nat) : Int)) := HQ2.out.symm.trans (readF_some y2)
                have f3 : q6 = (c2 : Int) := by
                  have := congrArg (fun z : Int × List S56 × Int => z.2.2) f0
                  dsimp only at this
                  omega
                have ET2 : Aside0 ((⟨q4, q5⟩ : S56) = toS t2) := ⟨by cases f0; exact toS_eta t2⟩
                have C2 : Aside0 (1 ≤ c2 ∧ c2 ≤ r1.length ∧ r2 = r1.drop c2 ∧ r2.length = r1.length - c2 ∧ q6 = (c2 : Int)) := ⟨⟨c2a, c2b, c2c, hr2, f3⟩⟩
                have t0 : (q6 == 0) = false := by
                  have : q6 ≠ 0 := by omega
                  simpa using this
                have W3 : Aside0 (wrap64 (wrap64 (q3 + 2) + q6) = q3 + 2 + q6) := ⟨by rw [W2.out]; exact w64 (by have := C1.out; omega) (by have := C1.out; have := HL.out; have := L1.out; omega)⟩
                clear y2 c2a c2b c2c hr2 f0 f3
                cases r2 with
                | nil =>
                  have hy : yrd 3 (d + 1) (40 :: s) = none := by rw [yrd, if_pos rfl, Y1.out, Option.bind_some]; show (some r1).bind _ = _; rw [Option.bind_some, Y2.out]; rfl
                  have HN := aM (readF_none hy)
                  have t1_ : decide ((S.size : Int) ≤ wrap64 (wrap64 (q3 + 2) + q6)) = true := decide_eq_true (by rw [W3.out]; have := C1.out; have := HZ.out; have := L1.out; have := C2.out; have h5 := C2.out.2.2.2.1; simp only [List.length_nil] at h5; omega)
                  clear hy
                  go_wp2
                  refine bodyPost_ret (results_ct rfl _ _ g4 56 #[.int .i64 (0), .slice none 0 0] (0, 0) _ rfl (by (with_reducible repeat (first | refine bN ?_ _ | refine bD ?_ | refine bA ?_ _)); refine blk_put (cs := #[.int .i64 (0), .slice none 0 0]) ?_ 1 _ rfl; (with_reducible repeat (first | refine bN ?_ _ | refine bD ?_ | refine bA ?_ _)); refine blk_put (cs := #[.int .i64 0, .slice none 0 0]) ?_ 0 _ rfl; (with_reducible repeat (first | refine bN ?_ _ | refine bD ?_ | refine bA ?_ _)); refine blk_far ?_ N49.out _; (with_reducible repeat (first | refine bN ?_ _ | refine bD ?_ | refine bA ?_ _)); refine blk_far ?_ N49.out _; (with_reducible repeat (first | refine bN ?_ _ | refine bD ?_ | refine bA ?_ _)); exact BK4.out) Tryd.underlying56 rfl (by kernel_rfl)) rfl ?_
                  exact ⟨_, by rw [HN.out] <;> rfl, by rw [HN.out]; exact Kd.R_nil _ _ _ _ _, (by repeat (first | (with_reducible first | exact HB.out | apply below_alloc | apply pw_below_drewN | apply below_drew1 | refine below_set ?_ G4.out | refine below_set ?_ G7.out | refine below_set ?_ G9.out) | exact HB.out))⟩
                | cons z r3 =>
                  have L2 : Aside0 (r3.length + 1 = r1.length - c2) := ⟨C2.out.2.2.2.1⟩
                  have t1_ : decide ((S.size : Int) ≤ wrap64 (wrap64 (q3 + 2) + q6)) = false := decide_eq_false (by rw [W3.out]; have := C1.out; have := HZ.out; have := L1.out; have := C2.out; have := L2.out; omega)
                  have p6 : (0 ≤ wrap64 (wrap64 (q3 + 2) + q6)) = True := eq_true (by rw [W3.out]; have := C1.out; have := C2.out; omega)
                  have p7 : (wrap64 (wrap64 (q3 + 2) + q6) < (S.size : Int)) = True := eq_true (by rw [W3.out]; have := C1.out; have := HZ.out; have := L1.out; have := C2.out; have := L2.out; omega)
                  have hbz : bt S (wrap64 (wrap64 (q3 + 2) + q6)) = (z.toNat : Int) := by
                    rw [W3.out, C1.out.2.2.2.2, C2.out.2.2.2.2, HS.out]
                    have := bt_B (40 :: s) (c1 + 1 + c2 + 1) (by rw [List.length_cons]; have := L1.out; have := L2.out; have := C2.out; omega)
                    rw [show (((c1 + 1 + c2 + 1 : Nat) : Int)) = (c1 : Int) + 2 + (c2 : Int) by omega] at this
                    rw [this]
                    have h2 : s[c1 + 1 + c2]'(by have := L1.out; have := L2.out; have := C2.out; omega) = z := by
                      have h3 := congrArg (fun y : List UInt8 => y[0]?) C2.out.2.2.1
                      rw [R1E.out, List.drop_drop] at h3
                      simp only [List.getElem?_cons_zero, List.getElem?_drop, Nat.add_zero] at h3
                      rw [List.getElem?_eq_getElem (by have := L1.out; have := L2.out; have := C2.out; omega)] at h3
                      exact (Option.some.inj h3).symm
                    show ((s[c1 + 1 + c2]'_).toNat : Int) = _
                    rw [h2]
                  have hzi := bt_at S (wrap64 (wrap64 (q3 + 2) + q6))
                  by_cases z41 : z = 41
                  · subst z41
                    have t2_ : (bt S (wrap64 (wrap64 (q3 + 2) + q6)) != 41) = false := by rw [hbz]; rfl
                    have hy : yrd 3 (d + 1) (40 :: s) = some (.a t1 t2, r3) := by
                      rw [yrd, if_pos rfl, Y1.out, Option.bind_some]; show (some r1).bind _ = _; rw [Option.bind_some, Y2.out, Option.bind_some]; rfl
                    have HN := aM (readF_some hy)
                    have W4 : Aside0 (wrap64 (wrap64 (wrap64 (q3 + 2) + q6) + 1) = (((40 :: s).length - r3.length : Nat) : Int)) := ⟨by
                      rw [W3.out, w64 (by have := C1.out; have := C2.out; omega) (by have := C1.out; have := C2.out; have := HL.out; have := L1.out; omega), List.length_cons]
                      have := C1.out; have := C2.out; have := L1.out; have := L2.out
                      omega⟩
                    clear hy hbz
                    go_wp2_with (first
                      | ((with_reducible refine gate_dst (N := 113) rfl ?_); refine Kd.R_lit k56 w.heap.size 56 ?hg (N := 113) ?hd (xs := ([⟨q1, q2⟩, ⟨q4, q5⟩] : List S56)) (inner := [.int .i64 q1, .slice A1 q2.length cc1, .int .i64 q4, .slice A2 q5.length cc2]) (ok := fun k => k ≠ g4) (okp := fun k => k ≠ g4) ?hr ?hp (fun _ hk => hk) ?hf (by repeat (first | (with_reducible first | exact HB.out | apply below_alloc | apply pw_below_drewN | apply below_drew1 | refine below_set ?_ G4.out | refine below_set ?_ G7.out | refine below_set ?_ G9.out) | exact HB.out)) ?hz (by simp) ?_; (case hd => rfl); (case hg => rfl); (case hr => first | (go_simp; done) | (go_simp; rfl)); (case hf => exact Nat.ne_of_gt (blk_lt (g := g4) (o := .cells #[.int .i64 0, .slice none 0 0] 56 (0, 0)) (by (with_reducible repeat (first | refine bN ?_ _ | refine bD ?_ | refine bA ?_ _)); refine blk_far ?_ N49.out _; (with_reducible repeat (first | refine bN ?_ _ | refine bD ?_ | refine bA ?_ _)); refine blk_far ?_ N49.out _; (with_reducible repeat (first | refine bN ?_ _ | refine bD ?_ | refine bA ?_ _)); exact BK4.out))); (case hz => exact below_size (by repeat (first | (with_reducible first | exact HB.out | apply below_alloc | apply pw_below_drewN | apply below_drew1 | refine below_set ?_ G4.out | refine below_set ?_ G7.out | refine below_set ?_ G9.out) | exact HB.out))); (case hp => exact Reps.c2 (k56_mkM _ _ _ ⟨q1, q2⟩ (Kd.R_mono (Kd.R_far (p := ⟨g9, 1, none⟩) (Kd.R_far (p := ⟨g9, 0, none⟩) (by (with_reducible repeat (first | apply rA | apply rN | apply rD)); exact R1.out) (fun k (hk : ((True ∧ k ≠ g4) ∧ k ≠ g7) ∧ k ≠ g9) => hk.2) _) (fun k (hk : ((True ∧ k ≠ g4) ∧ k ≠ g7) ∧ k ≠ g9) => hk.2) _) (fun k (hk : ((True ∧ k ≠ g4) ∧ k ≠ g7) ∧ k ≠ g9) => hk.1.1.2))) (Reps.c2 (k56_mkM _ _ _ ⟨q4, q5⟩ (Kd.R_mono (Kd.R_far (p := ⟨g9, 1, none⟩) (Kd.R_far (p := ⟨g9, 0, none⟩) (by (with_reducible repeat (first | apply rA | apply rN | apply rD)); exact R2.out) (fun k (hk : ((True ∧ k ≠ g4) ∧ k ≠ g7) ∧ k ≠ g9) => hk.2) _) (fun k (hk : ((True ∧ k ≠ g4) ∧ k ≠ g7) ∧ k ≠ g9) => hk.2) _) (fun k (hk : ((True ∧ k ≠ g4) ∧ k ≠ g7) ∧ k ≠ g9) => hk.1.1.2))) (Reps.none _ _))); intro v3 w6 ho hb hg_ hnew_; have BK4n := aM (blk_grown (g := g4) (o := .cells #[.int .i64 0, .slice none 0 0] 56 (0, 0)) (by (with_reducible repeat (first | refine bN ?_ _ | refine bD ?_ | refine bA ?_ _)); refine blk_far ?_ N49.out _; (with_reducible repeat (first | refine bN ?_ _ | refine bD ?_ | refine bA ?_ _)); refine blk_far ?_ N49.out _; (with_reducible repeat (first | refine bN ?_ _ | refine bD ?_ | refine bA ?_ _)); exact BK4.out) hg_ (by simp)); have R3 := aM ho; have HB6 := aM hb; clear hnew_ hg_ hb ho; have hd4_0 : w6.cell? ⟨g4, 0, none⟩ = some (.int .i64 0) := (blk_cell BK4n.out 0).trans rfl; have hd4_1 : w6.cell? ⟨g4, 1, none⟩ = some (.slice none 0 0) := (blk_cell BK4n.out 1).trans rfl; have he4_0 := blk_frozen BK4n.out 0; have he4_1 := blk_frozen BK4n.out 1; obtain ⟨A3, cc3, ee3⟩ := Kd.R_slice R3.out; subst ee3))
                    refine bodyPost_ret (results_ct rfl _ _ g4 56 #[.int .i64 (0), .slice A3 ([⟨q1, q2⟩, ⟨q4, q5⟩] : List S56).length cc3] (0, 0) _ rfl (by (with_reducible repeat (first | refine bN ?_ _ | refine bD ?_ | refine bA ?_ _)); refine blk_put (cs := #[.int .i64 (0), .slice none 0 0]) ?_ 1 _ rfl; (with_reducible repeat (first | refine bN ?_ _ | refine bD ?_ | refine bA ?_ _)); refine blk_put (cs := #[.int .i64 0, .slice none 0 0]) ?_ 0 _ rfl; (with_reducible repeat (first | refine bN ?_ _ | refine bD ?_ | refine bA ?_ _)); exact BK4n.out) Tryd.underlying56 rfl (by kernel_rfl)) rfl ?_
                    refine ⟨.slice A3 2 cc3, ?_, ?_, (by repeat (first | (with_reducible first | exact HB6.out | apply below_alloc | apply pw_below_drewN | apply below_drew1 | refine below_set ?_ G4.out) | exact HB6.out))⟩
                    · show Ending.returned (.tuple #[.agg #[.int .i64 0, .slice A3 2 cc3], .int .i64 (wrap64 (wrap64 (wrap64 (q3 + 2) + q6) + 1))]) = _
                      rw [W4.out, HN.out]
                      rfl
                    · rw [HN.out]
                      show Kd.R k56 56 _ _ _ _ [toS t1, toS t2]
                      rw [← ET1.out, ← ET2.out]
                      exact Kd.R_mono (Kd.R_far (p := ⟨g4, 1, none⟩) (Kd.R_far (p := ⟨g4, 0, none⟩) (by (with_reducible repeat (first | apply rA | apply rN | apply rD)); exact R3.out) (fun _ hk => hk) _) (fun _ hk => hk) _) (fun _ _ => trivial)
                  · have t2_ : (bt S (wrap64 (wrap64 (q3 + 2) + q6)) != 41) = true := by
                      have h5 : (z.toNat : Int) ≠ 41 := fun h => z41 (by have h2 : z.toNat = 41 := by { omega }; rw [show z = UInt8.ofNat z.toNat by simp, h2]; rfl)
                      rw [hbz]; simpa using h5
                    have hy : yrd 3 (d + 1) (40 :: s) = none := by
                      rw [yrd, if_pos rfl, Y1.out, Option.bind_some]; show (some r1).bind _ = _; rw [Option.bind_some, Y2.out, Option.bind_some]
                      show ((if z = 41 then some r3 else none : Option (List UInt8))).bind _ = none
                      rw [if_neg z41]; rfl
                    have HN := aM (readF_none hy)
                    clear hy hbz z41
                    go_wp2
                    refine bodyPost_ret (results_ct rfl _ _ g4 56 #[.int .i64 (0), .slice none 0 0] (0, 0) _ rfl (by (with_reducible repeat (first | refine bN ?_ _ | refine bD ?_ | refine bA ?_ _)); refine blk_put (cs := #[.int .i64 (0), .slice none 0 0]) ?_ 1 _ rfl; (with_reducible repeat (first | refine bN ?_ _ | refine bD ?_ | refine bA ?_ _)); refine blk_put (cs := #[.int .i64 0, .slice none 0 0]) ?_ 0 _ rfl; (with_reducible repeat (first | refine bN ?_ _ | refine bD ?_ | refine bA ?_ _)); refine blk_far ?_ N49.out _; (with_reducible repeat (first | refine bN ?_ _ | refine bD ?_ | refine bA ?_ _)); refine blk_far ?_ N49.out _; (with_reducible repeat (first | refine bN ?_ _ | refine bD ?_ | refine bA ?_ _)); exact BK4.out) Tryd.underlying56 rfl (by kernel_rfl)) rfl ?_
                    exact ⟨_, by rw [HN.out] <;> rfl, by rw [HN.out]; exact Kd.R_nil _ _ _ _ _, (by repeat (first | (with_reducible first | exact HB.out | apply below_alloc | apply pw_below_drewN | apply below_drew1 | refine below_set ?_ G4.out | refine below_set ?_ G7.out | refine below_set ?_ G9.out) | exact HB.out))⟩
            · have s2 : (bt S (wrap64 (q3 + 1)) != 62) = true := by
                have h5 : (x.toNat : Int) ≠ 62 := fun h => x62 (by have h2 : x.toNat = 62 := by { omega }; rw [show x = UInt8.ofNat x.toNat by simp, h2]; rfl)
                rw [hbx]; simpa using h5
              have hy : yrd 3 (d + 1) (40 :: s) = none := by
                rw [yrd, if_pos rfl, Y1.out, Option.bind_some]
                show ((if x = 62 then some r1 else none : Option (List UInt8))).bind _ = none
                rw [if_neg x62]; rfl
              have HN := aM (readF_none hy)
              clear hy hbx x62
              go_wp2
              refine bodyPost_ret (results_ct rfl _ _ g4 56 #[.int .i64 (0), .slice none 0 0] (0, 0) _ rfl (by (with_reducible repeat (first | refine bN ?_ _ | refine bD ?_ | refine bA ?_ _)); refine blk_put (cs := #[.int .i64 (0), .slice none 0 0]) ?_ 1 _ rfl; (with_reducible repeat (first | refine bN ?_ _ | refine bD ?_ | refine bA ?_ _)); refine blk_put (cs := #[.int .i64 0, .slice none 0 0]) ?_ 0 _ rfl; (with_reducible repeat (first | refine bN ?_ _ | refine bD ?_ | refine bA ?_ _)); refine blk_far ?_ N47.out _; (with_reducible repeat (first | refine bN ?_ _ | refine bD ?_ | refine bA ?_ _)); refine blk_far ?_ N47.out _; (with_reducible repeat (first | refine bN ?_ _ | refine bD ?_ | refine bA ?_ _)); exact BK4.out) Tryd.underlying56 rfl (by kernel_rfl)) rfl ?_
              exact ⟨_, by rw [HN.out] <;> rfl, by rw [HN.out]; exact Kd.R_nil _ _ _ _ _, (by repeat (first | (with_reducible first | exact HB.out | apply below_alloc | apply pw_below_drewN | apply below_drew1 | refine below_set ?_ G4.out | refine below_set ?_ G7.out) | exact HB.out))⟩
      · have hne2 : ∀ h : 0 < S.size, (((S[0]'h).toNat : Int) == 40) = false := fun h => by
          rw [hx h]
          have : (c.toNat : Int) ≠ 40 := fun h => c40 (by have h2 : c.toNat = 40 := by { omega }; rw [show c = UInt8.ofNat c.toNat by simp, h2]; rfl)
          simpa using this
        have hne3 : ∀ h : 0 < S.size, (((S[0]'h).toNat : Int) != 40) = true := fun h => by
          have := hne2 h
          simp only [bne, this]; rfl
        have hy : yrd 3 (d + 1) (c :: s) = none := by rw [yrd, if_neg c40, if_neg (fun h => c116 h.1)]
        have HN := aM (readF_none hy)
        clear hy c40 c116 hx hS hsz hb0
        go_enter Tryd.func38, Tryd.ntmps38
        go_wp2_with (first | ((with_reducible refine gate_dst (N := 4) rfl ?_); refine box_event ?hg (N := 4) ?hd (cs := #[.int .i64 0, .slice none 0 0]) (t := 56) ?hr ?_; (case hd => rfl); (case hg => rfl); (case hr => first | (go_simp; done) | (go_simp; rfl)); intro g4 hg w1 hbox hb; have HB := aM hb; have G4 := aM (Nat.le_of_eq hg.symm : w.heap.size ≤ g4); have BK4 := aM hbox; clear hbox hg hb; have hc4_0 : w1.cell? ⟨g4, 0, none⟩ = some (.int .i64 0) := (blk_cell BK4.out 0).trans rfl; have hc4_1 : w1.cell? ⟨g4, 1, none⟩ = some (.slice none 0 0) := (blk_cell BK4.out 1).trans rfl; have hf4_0 := blk_frozen BK4.out 0; have hf4_1 := blk_frozen BK4.out 1))
        refine bodyPost_ret (results_ct rfl _ _ g4 56 #[.int .i64 (0), .slice none 0 0] (0, 0) _ rfl (by (with_reducible repeat (first | refine bN ?_ _ | refine bD ?_ | refine bA ?_ _)); refine blk_put (cs := #[.int .i64 (0), .slice none 0 0]) ?_ 1 _ rfl; (with_reducible repeat (first | refine bN ?_ _ | refine bD ?_ | refine bA ?_ _)); refine blk_put (cs := #[.int .i64 0, .slice none 0 0]) ?_ 0 _ rfl; (with_reducible repeat (first | refine bN ?_ _ | refine bD ?_ | refine bA ?_ _)); exact BK4.out) Tryd.underlying56 rfl (by kernel_rfl)) rfl ?_
        exact ⟨_, by rw [HN.out] <;> rfl, by rw [HN.out]; exact Kd.R_nil _ _ _ _ _, (by repeat (first | (with_reducible first | exact HB.out | apply below_alloc | apply pw_below_drewN | apply below_drew1 | refine below_set ?_ G4.out) | exact HB.out))⟩
def spec_leRead.f (_ : Nat) (a0 : ByteArray) (a1 : Int) : Option (Int × (List (S56)) × Int) := if (1 ≤ a1 ∧ a1 ≤ 62) ∧ a0.size ≤ 1099511627776 then some (readF (62 - a1).toNat a0.data.toList) else none
theorem spec_leRead.calls (k : Nat) (a0 : ByteArray) (a1 : Int) (r1 : Int) (r2 : List (S56)) (r3 : Int) (w : World) (h : spec_leRead.f k a0 a1 = some (r1, r2, r3)) :
    Calls Tryd.prog 38 #[.string a0, .int .i64 a1] w fun e w' => ∃ v1_ : Value, e = .returned (.tuple #[.agg #[.int .i64 r1, v1_], .int .i64 r3]) ∧ Kd.R k56 56 w' w.heap.size (fun _ => True) v1_ r2 ∧ Below w.heap.size w w' := by
  unfold spec_leRead.f at h
  by_cases hs : (1 ≤ a1 ∧ a1 ≤ 62) ∧ a0.size ≤ 1099511627776
  · rw [if_pos hs] at h
    injection h with h
    have hw := leRead_w (62 - a1).toNat a0.data.toList w (by omega) (by rw [len]; exact hs.2)
    rw [h, show (62 : Int) - (((62 - a1).toNat : Nat) : Int) = a1 by omega] at hw
    exact hw
  · rw [if_neg hs] at h; cases h
end Go.Proofs.YtlkjikknofmcdaaDoor.G

namespace Go.Proofs.YtlkjikknofmcdaaDoor.G
open Go.RowKit Go.Proofs.YtlkjikknofmcdaaDoorW.PrintWords Go.Proofs.YtlkjikknofmcdaaDoorW.PrintLast Go.Proofs.YtlkjikknofmcdaaDoorW.PrintMore Go.Proofs.YtlkjikknofmcdaaDoor.Short
attribute [local go_sem] max2_int min2_int max_two min_two max_three min_three max_four min_four   -- for this text's walks alone
set_option linter.unusedVariables false
set_option linter.unusedSimpArgs false

def spec_leOf.f (k : Nat) (a0 : ByteArray) : Option (Int × (List (S56)) × Bool) := (spec_leRead.f k a0 1).bind fun bt102 => (if bt102.2.2 > 0 then (if bt102.2.2 = (a0.size : Int) then ((spec_leText.f k bt102.1 bt102.2.1).bind fun t108 => (if t108.toList = a0.toList then ((spec_leFine.f k bt102.1 bt102.2.1).bind fun t109 => (some (bt102.1, bt102.2.1, t109))) else (some (bt102.1, bt102.2.1, false)))) else (some (bt102.1, bt102.2.1, false))) else (some (bt102.1, bt102.2.1, false)))
def spec_leOf.T2 : Bool × List (List Nat × List Nat) := (true, [([], []), ([], []), ([1], [1]), ([2], [2]), ([3], [3]), ([3], [3]), ([5, 3], [3, 5]), ([4, 6, 3], [3, 4, 6]), ([3, 7], [3, 7]), ([8, 3], [8]), ([9], [9]), ([10, 9, 9], [9, 10]), ([9], [9]), ([11, 12, 9], [9, 11, 12]), ([9, 13], [9, 13]), ([14, 11], [14]), ([15], [15]), ([16, 15, 15], [15, 16]), ([15, 17], [15, 17]), ([0, 17, 0], [0]), ([18, 19, 0, 1, 2, 3, 4, 5, 6, 7, 8, 9, 10, 11, 12, 13, 14, 15, 16, 17, 18, 19], [18])])
def spec_leOf.B2 : List Nat := [0, 0, 2, 6, 14, 14, 46, 126, 254, 510, 1022, 2046, 1022, 8190, 16382, 32766, 65534, 131070, 262142, 262143, 1048575]
theorem spec_leOf.tab2 : rtab .any (opsOf Tryd.f18 2) = spec_leOf.T2 := by kernel_rfl
theorem spec_leOf.bits2 : waitsOk spec_leOf.T2.2 spec_leOf.B2 = true := by kernel_rfl
set_option maxHeartbeats 8000000 in
set_option maxRecDepth 100000 in
theorem spec_leOf.calls (k : Nat) (a0 : ByteArray) (r1 : Int) (r2 : List (S56)) (r3 : Bool) (w : World) (h : spec_leOf.f k a0 = some (r1, r2, r3)) :
    Calls Tryd.prog 18 #[.string a0] w fun e w' => ∃ v1_ : Value, e = .returned (.tuple #[.agg #[.int .i64 r1, v1_], .bool r3]) ∧ Kd.R k56 56 w' w.heap.size (fun _ => True) v1_ r2 ∧ Below w.heap.size w w' := by
  have hu56 := Tryd.underlying56
  have HB := aM (Below.refl w.heap.size w)
  have H : ((spec_leRead.f k a0 1).bind fun bt102 => (if bt102.2.2 > 0 then (if bt102.2.2 = (a0.size : Int) then ((spec_leText.f k bt102.1 bt102.2.1).bind fun t108 => (if t108.toList = a0.toList then ((spec_leFine.f k bt102.1 bt102.2.1).bind fun t109 => (some (bt102.1, bt102.2.1, t109))) else (some (bt102.1, bt102.2.1, false)))) else (some (bt102.1, bt102.2.1, false))) else (some (bt102.1, bt102.2.1, false)))) = some (r1, r2, r3) := h
  clear h
  replace H := Option.bind_eq_some_iff.mp H
  obtain ⟨⟨t102, t103, t106⟩, A20, H⟩ := H
  replace H : (if t106 > 0 then (if t106 = (a0.size : Int) then ((spec_leText.f k t102 t103).bind fun t108 => (if t108.toList = a0.toList then ((spec_leFine.f k t102 t103).bind fun t109 => (some (t102, t103, t109))) else (some (t102, t103, false)))) else (some (t102, t103, false))) else (some (t102, t103, false))) = some (r1, r2, r3) := H
  have A2 := aM A20
  clear A20
  by_cases c3 : t106 > 0
  · rw [if_pos c3] at H
    have c3b0 : decide (0 < t106) = true := decide_eq_true c3
    clear c3
    by_cases c4 : t106 = (a0.size : Int)
    · rw [if_pos c4] at H
      have c4b0 : (t106 == (a0.size : Int)) = true := beq_iff_eq.mpr c4
      have c4b1 : (t106 != (a0.size : Int)) = false := bne_eq_false_iff_eq.mpr c4
      clear c4
      replace H := Option.bind_eq_some_iff.mp H
      obtain ⟨t108, A50, H⟩ := H
      replace H : (if t108.toList = a0.toList then ((spec_leFine.f k t102 t103).bind fun t109 => (some (t102, t103, t109))) else (some (t102, t103, false))) = some (r1, r2, r3) := H
      have A5 := aM A50
      clear A50
      by_cases c6 : t108.toList = a0.toList
      · rw [if_pos c6] at H
        have c6b0 : (t108.toList == a0.toList) = true := beq_iff_eq.mpr c6
        have c6b1 : (t108.toList != a0.toList) = false := bne_eq_false_iff_eq.mpr c6
        clear c6
        replace H := Option.bind_eq_some_iff.mp H
        obtain ⟨t109, A70, H⟩ := H
        replace H : (some (t102, t103, t109)) = some (r1, r2, r3) := H
        have A7 := aM A70
        clear A70
        simp only [Option.some.injEq, Prod.mk.injEq] at H
        obtain ⟨rfl, rfl, rfl⟩ := H
        go_enter Tryd.func18, Tryd.ntmps18
        try go_wp2_with (first | ((with_reducible refine gate_dst (N := 2) rfl ?_); (try (refine gate_guard (by rfl) ?_; dsimp only)); refine box_event ?hg (N := 2) ?hd (cs := #[.int .i64 0, .slice none 0 0]) (t := 56) ?hr ?_; (case hd => rfl); (case hg => rfl); (case hr => first | (go_simp; done) | (go_simp; rfl)); intro gb101 hg w8 hbox hb; have n0_ := aM (below_step (by repeat (first | (with_reducible first | exact HB.out | apply below_alloc | apply pw_below_drewN | apply below_drew1) | exact HB.out)) hb); have n1_ := aM (hbox); have n2_ := aM ((by rw [hg]; exact (below_size (by repeat (first | (with_reducible first | exact HB.out | apply below_alloc | apply pw_below_drewN | apply below_drew1) | exact HB.out))) : w.heap.size ≤ gb101)); have n3_ := aM ((by rw [hg]; exact (below_size (by repeat (first | (with_reducible first | exact HB.out | apply below_alloc | apply pw_below_drewN | apply below_drew1) | exact HB.out))) : w.heap.size ≤ gb101)); clear HB; have HB := n0_; have BK101 := n1_; have GW101 := n2_; have GE101 := n3_; clear n0_ n1_ n2_ n3_; clear hb hbox hg) | ((with_reducible refine gate_callee (f := 38) rfl ?_); refine goesL_ (some 8) rfl rfl Tryd.func38 (by kernel_rfl) rfl #[.string a0, .int .i64 1] rfl (by (try simp only [List.map_toArray, List.map_cons, List.map_nil]); first | done | rfl | (simp only [List.length_drop, List.length_take]; rfl)) ?_; (with_reducible refine (spec_leRead.calls k a0 1 t102 t103 t106 _ A2.out).mono ?_); rintro e w9 ⟨v104, rfl, ho0, hb⟩; refine ⟨_, rfl, ?_⟩; have n0_ := aM (Kd.R_lower (Kd.R_newB ho0 (g := gb101) (o := .cells #[.int .i64 0, .slice none 0 0] 56 (0, 0)) (by (with_reducible repeat (first | refine bN ?_ _ | refine bD ?_ | refine bA ?_ _)); exact BK101.out)) (below_size (by repeat (first | (with_reducible first | exact HB.out | apply below_alloc | apply pw_below_drewN | apply below_drew1 | refine below_set ?_ GE101.out) | exact HB.out)))); have n1_ := aM (blk_below (g := gb101) (o := .cells #[.int .i64 0, .slice none 0 0] 56 (0, 0)) (by (with_reducible repeat (first | refine bN ?_ _ | refine bD ?_ | refine bA ?_ _)); exact BK101.out) hb); have n2_ := aM (below_step (by repeat (first | (with_reducible first | exact HB.out | apply below_alloc | apply pw_below_drewN | apply below_drew1 | refine below_set ?_ GE101.out) | exact HB.out)) hb); clear BK101; clear HB; have HO105 := n0_; have BK101 := n1_; have HB := n2_; clear n0_ n1_ n2_; (try clear hb); (try clear hb2); (try clear hk); (try clear hi); (try clear ho0)) | ((with_reducible refine gate_dst (N := 4) rfl ?_); (try (refine gate_guard (by rfl) ?_; dsimp only)); refine box_event ?hg (N := 4) ?hd (cs := #[.int .i64 0, .slice none 0 0]) (t := 56) ?hr ?_; (case hd => rfl); (case hg => rfl); (case hr => first | (go_simp; done) | (go_simp; rfl)); intro gb107 hg w10 hbox hb; have n0_ := aM (Kd.R_below (Kd.R_elderB (by (with_reducible repeat (first | apply rA | apply rN | apply rD)); exact HO105.out) gb107 (Nat.le_of_eq hg.symm)) hb); have n1_ := aM (blk_below (g := gb101) (o := .cells #[.int .i64 0, .slice none 0 0] 56 (0, 0)) (by (with_reducible repeat (first | refine bN ?_ _ | refine bD ?_ | refine bA ?_ _)); exact BK101.out) hb); have n2_ := aM (below_step (by repeat (first | (with_reducible first | exact HB.out | apply below_alloc | apply pw_below_drewN | apply below_drew1 | refine below_set ?_ GE101.out) | exact HB.out)) hb); have n3_ := aM (hbox); have n4_ := aM ((by rw [hg]; exact (below_size (by repeat (first | (with_reducible first | exact HB.out | apply below_alloc | apply pw_below_drewN | apply below_drew1 | refine below_set ?_ GE101.out) | exact HB.out))) : w.heap.size ≤ gb107)); have n5_ := aM ((by rw [hg]; exact (below_size (by repeat (first | (with_reducible first | exact HB.out | apply below_alloc | apply pw_below_drewN | apply below_drew1 | refine below_set ?_ GE101.out) | exact HB.out))) : w.heap.size ≤ gb107)); have n6_ := aM ((by rw [hg]; exact Nat.ne_of_lt (blk_lt (g := gb101) (o := .cells #[.int .i64 0, .slice none 0 0] 56 (0, 0)) (by (with_reducible repeat (first | refine bN ?_ _ | refine bD ?_ | refine bA ?_ _)); exact BK101.out)) : gb101 ≠ gb107)); have n7_ := aM ((by rw [hg]; exact Nat.ne_of_gt (blk_lt (g := gb101) (o := .cells #[.int .i64 0, .slice none 0 0] 56 (0, 0)) (by (with_reducible repeat (first | refine bN ?_ _ | refine bD ?_ | refine bA ?_ _)); exact BK101.out)) : gb107 ≠ gb101)); clear HO105; clear BK101; clear HB; have HO105 := n0_; have BK101 := n1_; have HB := n2_; have BK107 := n3_; have GW107 := n4_; have GE107 := n5_; have NB101_107 := n6_; have NB107_101 := n7_; clear n0_ n1_ n2_ n3_ n4_ n5_ n6_ n7_; clear hb hbox hg; have hnb11 := NB107_101.out; have hnc11 := NB101_107.out; have hcz12_0 : w10.cell? ⟨gb107, 0, none⟩ = some (.int .i64 0) := (blk_cell BK107.out 0).trans rfl; have hcz12_1 : w10.cell? ⟨gb107, 1, none⟩ = some (.slice none 0 0) := (blk_cell BK107.out 1).trans rfl; have hfz12_0 := blk_frozen BK107.out 0; have hfz12_1 := blk_frozen BK107.out 1; obtain ⟨Ao13, co13, eo13⟩ := Kd.R_slice HO105.out; subst eo13))
        have n0_ : Aside0 (Kd.R k56 56 ((w10.setCell ⟨gb107, 0, none⟩ (.int .i64 t102)).setCell ⟨gb107, 1, none⟩ (.slice Ao13 t103.length co13)) w.heap.size (fun k_ => k_ ≠ gb101 ∧ k_ ≠ gb107) (.slice Ao13 t103.length co13) t103) := ⟨by (with_reducible repeat (first | apply rA | apply rN | apply rD)); exact Kd.R_mono (Kd.R_far (p := ⟨gb107, 1, none⟩) (Kd.R_far (p := ⟨gb107, 0, none⟩) (Kd.R_mono HO105.out (fun k_ hk => (⟨hk, hk.2⟩ : _ ∧ k_ ≠ gb107))) (fun _ hk => hk.2) (.int .i64 t102)) (fun _ hk => hk.2) (.slice Ao13 t103.length co13)) (fun _ hk => ⟨hk.1.1.2, hk.1.2⟩)⟩
        have n1_ : Aside0 (((w10.setCell ⟨gb107, 0, none⟩ (.int .i64 t102)).setCell ⟨gb107, 1, none⟩ (.slice Ao13 t103.length co13)).heap[gb101]? = some (.cells #[.int .i64 0, .slice none 0 0] 56 (0, 0))) := ⟨by (with_reducible repeat (first | refine bN ?_ _ | refine bD ?_ | refine bA ?_ _)); refine blk_far ?_ NB101_107.out _; (with_reducible repeat (first | refine bN ?_ _ | refine bD ?_ | refine bA ?_ _)); refine blk_far ?_ NB101_107.out _; (with_reducible repeat (first | refine bN ?_ _ | refine bD ?_ | refine bA ?_ _)); exact BK101.out⟩
        have n2_ : Aside0 (((w10.setCell ⟨gb107, 0, none⟩ (.int .i64 t102)).setCell ⟨gb107, 1, none⟩ (.slice Ao13 t103.length co13)).heap[gb107]? = some (.cells #[.int .i64 t102, .slice Ao13 t103.length co13] 56 (0, 0))) := ⟨by (with_reducible repeat (first | refine bN ?_ _ | refine bD ?_ | refine bA ?_ _)); refine blk_put (cs := #[.int .i64 t102, .slice none 0 0]) ?_ 1 _ rfl; (with_reducible repeat (first | refine bN ?_ _ | refine bD ?_ | refine bA ?_ _)); refine blk_put (cs := #[.int .i64 0, .slice none 0 0]) ?_ 0 _ rfl; (with_reducible repeat (first | refine bN ?_ _ | refine bD ?_ | refine bA ?_ _)); exact BK107.out⟩
        have n3_ : Aside0 (Below w.heap.size w ((w10.setCell ⟨gb107, 0, none⟩ (.int .i64 t102)).setCell ⟨gb107, 1, none⟩ (.slice Ao13 t103.length co13))) := ⟨by repeat (first | (with_reducible first | exact HB.out | apply below_alloc | apply pw_below_drewN | apply below_drew1 | refine below_set ?_ GE101.out | refine below_set ?_ GE107.out) | exact HB.out)⟩
        (try clear HO105)
        (try clear BK101)
        (try clear BK107)
        (try clear HB)
        generalize ((w10.setCell ⟨gb107, 0, none⟩ (.int .i64 t102)).setCell ⟨gb107, 1, none⟩ (.slice Ao13 t103.length co13)) = w14 at n0_ n1_ n2_ n3_ ⊢
        have HO105 := n0_
        have BK101 := n1_
        have BK107 := n2_
        have HB := n3_
        clear n0_ n1_ n2_ n3_
        have n0_ := aM (Kd.R_drew HO105.out)
        have n1_ := aM (blk_drew BK101.out)
        have n2_ := aM (blk_drew BK107.out)
        have n3_ := aM (below_drew1 HB.out)
        clear HO105
        clear BK101
        clear BK107
        clear HB
        have HO105 := n0_
        have BK101 := n1_
        have BK107 := n2_
        have HB := n3_
        clear n0_ n1_ n2_ n3_
        refine start_ (n := 21) (S := fun w' => w'.cell? ⟨gb107, 0, none⟩ = some (.int .i64 t102) ∧ w'.cell? ⟨gb107, 1, none⟩ = some (.slice Ao13 t103.length co13)) (ds := []) #[false, false, false, false, false, false, false, false, false, false, false, false, false, false, false, false, false, false, false, false, false] (by kernel_rfl) rfl rfl ⟨(blk_cell BK107.out 0).trans rfl, (blk_cell BK107.out 1).trans rfl⟩ (fun hHeld => ?_); refine with_tabW spec_leOf.tab2 spec_leOf.bits2 (fun HT_ HW_ => ?_)
        generalize w14.drew = w15 at HO105 BK101 BK107 HB hHeld ⊢
        refine pure_ (i := 1) (N := some 12) (v := ?_) (a' := ?_) #[false, true, false, false, false, false, false, false, false, false, false, false, false, false, false, false, false, false, false, false, false] rfl rfl (any_of HT_.out (by kernel_rfl)) (fun _ _ _ h => h) (Or.inl ⟨by rfl, ?_⟩) ?_ ?_
        rotate_left
        · intro w'
          go_simp
          with_reducible rfl
        rotate_left
        · simp only [Act.put, List.setIfInBounds_toArray, List.set_cons_zero, List.set_cons_succ, i64_w, i32_w]
          rfl
        refine pure_ (i := 2) (N := some 13) (v := ?_) (a' := ?_) #[false, true, true, false, false, false, false, false, false, false, false, false, false, false, false, false, false, false, false, false, false] rfl rfl (any_of HT_.out (by kernel_rfl)) (fun _ _ _ h => h) (Or.inl ⟨by rfl, ?_⟩) ?_ ?_
        rotate_left
        · intro w'
          go_simp
          with_reducible rfl
        rotate_left
        · simp only [Act.put, List.setIfInBounds_toArray, List.set_cons_zero, List.set_cons_succ, i64_w, i32_w]
          rfl
        refine pure_ (i := 3) (N := some 14) (v := ?_) (a' := ?_) #[false, true, true, true, false, false, false, false, false, false, false, false, false, false, false, false, false, false, false, false, false] rfl rfl (any_of HT_.out (by kernel_rfl)) (fun _ _ _ h => h) (Or.inl ⟨by rfl, ?_⟩) ?_ ?_
        rotate_left
        · intro w'
          go_simp
          with_reducible rfl
        rotate_left
        · simp only [Act.put, List.setIfInBounds_toArray, List.set_cons_zero, List.set_cons_succ, i64_w, i32_w]
          rfl
        refine pure_ (i := 4) (N := some 15) (v := ?_) (a' := ?_) #[false, true, true, true, true, false, false, false, false, false, false, false, false, false, false, false, false, false, false, false, false] rfl rfl (any_of HT_.out (by kernel_rfl)) (fun _ _ _ h => h) (Or.inl ⟨by rfl, ?_⟩) ?_ ?_
        rotate_left
        · intro w'
          go_simp
          with_reducible rfl
        rotate_left
        · simp only [Act.put, List.setIfInBounds_toArray, List.set_cons_zero, List.set_cons_succ, i64_w, i32_w]
          rfl
        refine pure_ (i := 5) (N := some 16) (v := ?_) (a' := ?_) #[false, true, true, true, true, true, false, false, false, false, false, false, false, false, false, false, false, false, false, false, false] rfl rfl (any_of HT_.out (by kernel_rfl)) (fun _ _ _ h => h) (Or.inl ⟨by rfl, ?_⟩) ?_ ?_
        rotate_left
        · intro w'
          go_simp
          with_reducible rfl
        rotate_left
        · simp only [Act.put, List.setIfInBounds_toArray, List.set_cons_zero, List.set_cons_succ, i64_w, i32_w]
          rfl
        refine pure_ (i := 6) (N := some 17) (v := ?_) (a' := ?_) #[false, true, true, true, true, true, true, false, false, false, false, false, false, false, false, false, false, false, false, false, false] rfl rfl (any_of HT_.out (by kernel_rfl)) (fun _ _ _ h => h) (Or.inl ⟨by rfl, ?_⟩) ?_ ?_
        rotate_left
        · intro w'
          go_simp
          with_reducible rfl
        rotate_left
        · simp only [Act.put, List.setIfInBounds_toArray, List.set_cons_zero, List.set_cons_succ, i64_w, i32_w]
          rfl
        refine pure_ (i := 7) (N := some 18) (v := ?_) (a' := ?_) #[false, true, true, true, true, true, true, true, false, false, false, false, false, false, false, false, false, false, false, false, false] rfl rfl (any_of HT_.out (by kernel_rfl)) (fun _ _ _ h => h) (Or.inl ⟨by rfl, ?_⟩) ?_ ?_
        rotate_left
        · intro w'
          go_simp
          with_reducible rfl
        rotate_left
        · simp only [Act.put, List.setIfInBounds_toArray, List.set_cons_zero, List.set_cons_succ, i64_w, i32_w]
          rfl
        refine pure_ (i := 8) (N := some 19) (v := ?_) (a' := ?_) #[false, true, true, true, true, true, true, true, true, false, false, false, false, false, false, false, false, false, false, false, false] rfl rfl (any_of HT_.out (by kernel_rfl)) (fun _ _ _ h => h) (Or.inl ⟨by rfl, ?_⟩) ?_ ?_
        rotate_left
        · intro w'
          go_simp
          with_reducible rfl
        rotate_left
        · simp only [Act.put, List.setIfInBounds_toArray, List.set_cons_zero, List.set_cons_succ, i64_w, i32_w]
          rfl
        refine pure_ (i := 9) (N := some 20) (v := ?_) (a' := ?_) #[false, true, true, true, true, true, true, true, true, true, false, false, false, false, false, false, false, false, false, false, false] rfl rfl (any_of HT_.out (by kernel_rfl)) (fun _ _ _ h => h) (Or.inl ⟨by rfl, ?_⟩) ?_ ?_
        rotate_left
        · intro w'
          go_simp
          with_reducible rfl
        rotate_left
        · simp only [Act.put, List.setIfInBounds_toArray, List.set_cons_zero, List.set_cons_succ, i64_w, i32_w]
          rfl
        refine pure_ (i := 12) (N := some 23) (v := ?_) (a' := ?_) #[false, true, true, true, true, true, true, true, true, true, false, false, true, false, false, false, false, false, false, false, false] rfl rfl (any_of HT_.out (by kernel_rfl)) (fun _ _ _ h => h) (Or.inl ⟨by rfl, ?_⟩) ?_ ?_
        rotate_left
        · intro w'
          go_simp
          with_reducible rfl
        rotate_left
        · simp only [Act.put, List.setIfInBounds_toArray, List.set_cons_zero, List.set_cons_succ, i64_w, i32_w]
          rfl
        refine take_ (i := 0) (N := some 11) (v := ?_) (a' := ?_) #[true, true, true, true, true, true, true, true, true, true, false, false, true, false, false, false, false, false, false, false, false] rfl rfl (take_ofW HT_.out HW_.out (by kernel_rfl)) (fun _ _ _ h => h) (Or.inl ⟨by rfl, ?_⟩) hHeld ?_ ?_
        rotate_left
        · rintro w' ⟨s0, s1⟩
          go_simp
          with_reducible rfl
        rotate_left
        · simp only [Act.put, List.setIfInBounds_toArray, List.set_cons_zero, List.set_cons_succ, i64_w, i32_w]
          rfl
        refine take_ (i := 10) (N := some 21) (v := ?_) (a' := ?_) #[true, true, true, true, true, true, true, true, true, true, true, false, true, false, false, false, false, false, false, false, false] rfl rfl (take_ofW HT_.out HW_.out (by kernel_rfl)) (fun _ _ _ h => h) (Or.inl ⟨by rfl, ?_⟩) hHeld ?_ ?_
        rotate_left
        · rintro w' ⟨s0, s1⟩
          go_simp
          with_reducible rfl
        rotate_left
        · simp only [Act.put, List.setIfInBounds_toArray, List.set_cons_zero, List.set_cons_succ, i64_w, i32_w]
          rfl
        refine one_ (i := 11) (N := some 22) #[true, true, true, true, true, true, true, true, true, true, true, true, true, false, false, false, false, false, false, false, false] rfl rfl (one_of HT_.out (by kernel_rfl)) (by decide) (fun K hK => ?_)
        refine goes_ Tryd.func21 (by kernel_rfl) rfl #[.agg #[.int .i64 t102, .slice Ao13 t103.length co13]] (by rfl) rfl rfl (by (try simp only [List.map_toArray, List.map_cons, List.map_nil]); first | done | rfl | (simp only [List.length_drop, List.length_take]; rfl)) ?_
        with_reducible refine (spec_leText.calls k t102 _ _ t103 t108 _ ?side1 ?side2 A5.out).mono ?_
        (case side1 => repeat (first | exact (Kd.R_reads' HO105.out).2.2 | (with_reducible refine Kd.C_alloc ?_ _) | (with_reducible refine Kd.C_drewN ?_ _) | (with_reducible refine Kd.C_drew ?_)))
        (case side2 => exact (Kd.R_reads' HO105.out).2.1)
        rintro e w16 ⟨rfl, hb⟩
        refine ⟨_, rfl, ?_⟩
        have n0_ := aM (Kd.R_below (by (with_reducible repeat (first | apply rA | apply rN | apply rD)); exact HO105.out) hb)
        have n1_ := aM (blk_below (g := gb101) (o := .cells #[.int .i64 0, .slice none 0 0] 56 (0, 0)) (by (with_reducible repeat (first | refine bN ?_ _ | refine bD ?_ | refine bA ?_ _)); exact BK101.out) hb)
        have n2_ := aM (blk_below (g := gb107) (o := .cells #[.int .i64 t102, .slice Ao13 t103.length co13] 56 (0, 0)) (by (with_reducible repeat (first | refine bN ?_ _ | refine bD ?_ | refine bA ?_ _)); exact BK107.out) hb)
        have n3_ := aM (below_step (by repeat (first | (with_reducible first | exact HB.out | apply below_alloc | apply pw_below_drewN | apply below_drew1 | refine below_set ?_ GE101.out | refine below_set ?_ GE107.out) | exact HB.out)) hb)
        clear HO105
        clear BK101
        clear BK107
        clear HB
        have HO105 := n0_
        have BK101 := n1_
        have BK107 := n2_
        have HB := n3_
        clear n0_ n1_ n2_ n3_
        (try clear hb)
        (try clear hb2)
        (try clear hk)
        (try clear hi)
        refine hK.out _ _ ⟨(blk_cell BK107.out 0).trans rfl, (blk_cell BK107.out 1).trans rfl⟩ (fun hHeld => ?_)
        clear hK K
        refine norm_ (a' := ?_) ?_ ?_
        rotate_left
        · show Act.put _ (some 22) _ = _
          simp only [Act.put, List.setIfInBounds_toArray, List.set_cons_zero, List.set_cons_succ, i64_w, i32_w]
          rfl
        refine pure_ (i := 13) (N := some 24) (v := ?_) (a' := ?_) #[true, true, true, true, true, true, true, true, true, true, true, true, true, true, false, false, false, false, false, false, false] rfl rfl (any_of HT_.out (by kernel_rfl)) (fun _ _ _ h => h) (Or.inl ⟨by rfl, ?_⟩) ?_ ?_
        rotate_left
        · intro w'
          go_simp
          with_reducible rfl
        rotate_left
        · simp only [Act.put, List.setIfInBounds_toArray, List.set_cons_zero, List.set_cons_succ, i64_w, i32_w]
          rfl
        refine pure_ (i := 14) (N := some 25) (v := ?_) (a' := ?_) #[true, true, true, true, true, true, true, true, true, true, true, true, true, true, true, false, false, false, false, false, false] rfl rfl (any_of HT_.out (by kernel_rfl)) (fun _ _ _ h => h) (Or.inl ⟨by rfl, ?_⟩) ?_ ?_
        rotate_left
        · intro w'
          go_simp
          with_reducible rfl
        rotate_left
        · simp only [Act.put, List.setIfInBounds_toArray, List.set_cons_zero, List.set_cons_succ, i64_w, i32_w]
          rfl
        refine pure_ (i := 15) (N := some 26) (v := ?_) (a' := ?_) #[true, true, true, true, true, true, true, true, true, true, true, true, true, true, true, true, false, false, false, false, false] rfl rfl (any_of HT_.out (by kernel_rfl)) (fun _ _ _ h => h) (Or.inl ⟨by rfl, ?_⟩) ?_ ?_
        rotate_left
        · intro w'
          go_simp
          with_reducible rfl
        rotate_left
        · simp only [Act.put, List.setIfInBounds_toArray, List.set_cons_zero, List.set_cons_succ, i64_w, i32_w]
          rfl
        refine take_ (i := 16) (N := some 27) (v := ?_) (a' := ?_) #[true, true, true, true, true, true, true, true, true, true, true, true, true, true, true, true, true, false, false, false, false] rfl rfl (take_ofW HT_.out HW_.out (by kernel_rfl)) (fun _ _ _ h => h) (Or.inl ⟨by rfl, ?_⟩) hHeld ?_ ?_
        rotate_left
        · rintro w' ⟨s0, s1⟩
          go_simp
          with_reducible rfl
        rotate_left
        · simp only [Act.put, List.setIfInBounds_toArray, List.set_cons_zero, List.set_cons_succ, i64_w, i32_w]
          rfl
        refine one_ (i := 17) (N := some 28) #[true, true, true, true, true, true, true, true, true, true, true, true, true, true, true, true, true, true, false, false, false] rfl rfl (one_of HT_.out (by kernel_rfl)) (by decide) (fun K hK => ?_)
        refine goes_ Tryd.func20 (by kernel_rfl) rfl #[.agg #[.int .i64 t102, .slice Ao13 t103.length co13]] (by rfl) rfl rfl (by (try simp only [List.map_toArray, List.map_cons, List.map_nil]); first | done | rfl | (simp only [List.length_drop, List.length_take]; rfl)) ?_
        with_reducible refine (spec_leFine.calls k t102 _ _ t103 t109 _ ?side1 ?side2 A7.out).mono ?_
        (case side1 => repeat (first | exact (Kd.R_reads' HO105.out).2.2 | (with_reducible refine Kd.C_alloc ?_ _) | (with_reducible refine Kd.C_drewN ?_ _) | (with_reducible refine Kd.C_drew ?_)))
        (case side2 => exact (Kd.R_reads' HO105.out).2.1)
        rintro e w17 ⟨rfl, hb⟩
        refine ⟨_, rfl, ?_⟩
        have n0_ := aM (Kd.R_below (by (with_reducible repeat (first | apply rA | apply rN | apply rD)); exact HO105.out) hb)
        have n1_ := aM (blk_below (g := gb101) (o := .cells #[.int .i64 0, .slice none 0 0] 56 (0, 0)) (by (with_reducible repeat (first | refine bN ?_ _ | refine bD ?_ | refine bA ?_ _)); exact BK101.out) hb)
        have n2_ := aM (blk_below (g := gb107) (o := .cells #[.int .i64 t102, .slice Ao13 t103.length co13] 56 (0, 0)) (by (with_reducible repeat (first | refine bN ?_ _ | refine bD ?_ | refine bA ?_ _)); exact BK107.out) hb)
        have n3_ := aM (below_step (by repeat (first | (with_reducible first | exact HB.out | apply below_alloc | apply pw_below_drewN | apply below_drew1 | refine below_set ?_ GE101.out | refine below_set ?_ GE107.out) | exact HB.out)) hb)
        clear HO105
        clear BK101
        clear BK107
        clear HB
        have HO105 := n0_
        have BK101 := n1_
        have BK107 := n2_
        have HB := n3_
        clear n0_ n1_ n2_ n3_
        (try clear hb)
        (try clear hb2)
        (try clear hk)
        (try clear hi)
        refine hK.out _ _ ⟨(blk_cell BK107.out 0).trans rfl, (blk_cell BK107.out 1).trans rfl⟩ (fun hHeld => ?_)
        clear hK K
        refine norm_ (a' := ?_) ?_ ?_
        rotate_left
        · show Act.put _ (some 28) _ = _
          simp only [Act.put, List.setIfInBounds_toArray, List.set_cons_zero, List.set_cons_succ, i64_w, i32_w]
          rfl
        refine pure_ (i := 18) (N := some 29) (v := ?_) (a' := ?_) #[true, true, true, true, true, true, true, true, true, true, true, true, true, true, true, true, true, true, true, false, false] rfl rfl (any_of HT_.out (by kernel_rfl)) (fun _ _ _ h => h) (Or.inl ⟨by rfl, ?_⟩) ?_ ?_
        rotate_left
        · intro w'
          go_simp
          with_reducible rfl
        rotate_left
        · simp only [Act.put, List.setIfInBounds_toArray, List.set_cons_zero, List.set_cons_succ, i64_w, i32_w]
          rfl
        refine one_ (i := 19) (N := none) #[true, true, true, true, true, true, true, true, true, true, true, true, true, true, true, true, true, true, true, true, false] rfl rfl (one_of HT_.out (by kernel_rfl)) (by decide) (fun K hK => ?_)
        have hs18 : w17.cell? ⟨gb101, 0, none⟩ = some (.int .i64 0) := (blk_cell BK101.out 0).trans rfl
        have hfs18 := blk_frozen BK101.out 0
        have hns18_1 := NB107_101.out
        have hms18_1 := NB101_107.out
        have hs19 : w17.cell? ⟨gb101, 1, none⟩ = some (.slice none 0 0) := (blk_cell BK101.out 1).trans rfl
        have hfs19 := blk_frozen BK101.out 1
        have hns19_1 := NB107_101.out
        have hms19_1 := NB101_107.out
        refine skip_ (w1 := ?_) (by rfl) rfl ?_ ?_
        rotate_left
        · go_simp
          rfl
        refine hK.out _ _ ⟨((cell_far (p := ⟨gb101, _, none⟩) NB107_101.out _).trans (((cell_far (p := ⟨gb101, _, none⟩) NB107_101.out _).trans (hHeld.1)))), ((cell_far (p := ⟨gb101, _, none⟩) NB107_101.out _).trans (((cell_far (p := ⟨gb101, _, none⟩) NB107_101.out _).trans (hHeld.2))))⟩ (fun hHeld => ?_)
        clear hK K
        refine pure_ (i := 20) (N := some 3) (v := ?_) (a' := ?_) #[true, true, true, true, true, true, true, true, true, true, true, true, true, true, true, true, true, true, true, true, true] rfl rfl (any_of HT_.out (by kernel_rfl)) (fun _ _ _ h => h) (Or.inl ⟨by rfl, ?_⟩) ?_ ?_
        rotate_left
        · intro w'
          go_simp
          with_reducible rfl
        rotate_left
        · simp only [Act.put, List.setIfInBounds_toArray, List.set_cons_zero, List.set_cons_succ, i64_w, i32_w]
          rfl
        refine done_ (done_of HT_.out (by kernel_rfl)) ?_
        try go_wp2
        refine bodyPost_ret (results_ct rfl _ _ gb101 56 #[.int .i64 t102, .slice Ao13 t103.length co13] (0, 0) _ rfl (by (with_reducible repeat (first | refine bN ?_ _ | refine bD ?_ | refine bA ?_ _)); refine blk_put (cs := #[.int .i64 t102, .slice none 0 0]) ?_ 1 _ rfl; (with_reducible repeat (first | refine bN ?_ _ | refine bD ?_ | refine bA ?_ _)); refine blk_put (cs := #[.int .i64 0, .slice none 0 0]) ?_ 0 _ rfl; (with_reducible repeat (first | refine bN ?_ _ | refine bD ?_ | refine bA ?_ _)); exact BK101.out) Tryd.underlying56 rfl (by kernel_rfl)) rfl ?_
        exact ⟨_, by first | rfl | (simp [errW_none, errW_some] <;> rfl) | (simp [*, errW_none, errW_some] <;> rfl), by (with_reducible repeat (first | apply rA | apply rN | apply rD)); exact Kd.R_mono (Kd.R_far (p := ⟨gb101, 1, none⟩) (Kd.R_far (p := ⟨gb101, 0, none⟩) (Kd.R_mono HO105.out (fun k_ hk => (⟨hk, hk.1⟩ : _ ∧ k_ ≠ gb101))) (fun _ hk => hk.2) (.int .i64 t102)) (fun _ hk => hk.2) (.slice Ao13 t103.length co13)) (fun _ hk => trivial), by repeat (first | (with_reducible first | exact HB.out | apply below_alloc | apply pw_below_drewN | apply below_drew1 | refine below_set ?_ GE101.out | refine below_set ?_ GE107.out) | exact HB.out)⟩
      · rw [if_neg c6] at H
        have c6b0 : (t108.toList == a0.toList) = false := beq_eq_false_iff_ne.mpr c6
        have c6b1 : (t108.toList != a0.toList) = true := bne_iff_ne.mpr c6
        simp only [Option.some.injEq, Prod.mk.injEq] at H
        obtain ⟨rfl, rfl, rfl⟩ := H
        go_enter Tryd.func18, Tryd.ntmps18
        try go_wp2_with (first | ((with_reducible refine gate_dst (N := 2) rfl ?_); (try (refine gate_guard (by rfl) ?_; dsimp only)); refine box_event ?hg (N := 2) ?hd (cs := #[.int .i64 0, .slice none 0 0]) (t := 56) ?hr ?_; (case hd => rfl); (case hg => rfl); (case hr => first | (go_simp; done) | (go_simp; rfl)); intro gb101 hg w20 hbox hb; have n0_ := aM (below_step (by repeat (first | (with_reducible first | exact HB.out | apply below_alloc | apply pw_below_drewN | apply below_drew1) | exact HB.out)) hb); have n1_ := aM (hbox); have n2_ := aM ((by rw [hg]; exact (below_size (by repeat (first | (with_reducible first | exact HB.out | apply below_alloc | apply pw_below_drewN | apply below_drew1) | exact HB.out))) : w.heap.size ≤ gb101)); have n3_ := aM ((by rw [hg]; exact (below_size (by repeat (first | (with_reducible first | exact HB.out | apply below_alloc | apply pw_below_drewN | apply below_drew1) | exact HB.out))) : w.heap.size ≤ gb101)); clear HB; have HB := n0_; have BK101 := n1_; have GW101 := n2_; have GE101 := n3_; clear n0_ n1_ n2_ n3_; clear hb hbox hg) | ((with_reducible refine gate_callee (f := 38) rfl ?_); refine goesL_ (some 8) rfl rfl Tryd.func38 (by kernel_rfl) rfl #[.string a0, .int .i64 1] rfl (by (try simp only [List.map_toArray, List.map_cons, List.map_nil]); first | done | rfl | (simp only [List.length_drop, List.length_take]; rfl)) ?_; (with_reducible refine (spec_leRead.calls k a0 1 t102 t103 t106 _ A2.out).mono ?_); rintro e w21 ⟨v104, rfl, ho0, hb⟩; refine ⟨_, rfl, ?_⟩; have n0_ := aM (Kd.R_lower (Kd.R_newB ho0 (g := gb101) (o := .cells #[.int .i64 0, .slice none 0 0] 56 (0, 0)) (by (with_reducible repeat (first | refine bN ?_ _ | refine bD ?_ | refine bA ?_ _)); exact BK101.out)) (below_size (by repeat (first | (with_reducible first | exact HB.out | apply below_alloc | apply pw_below_drewN | apply below_drew1 | refine below_set ?_ GE101.out) | exact HB.out)))); have n1_ := aM (blk_below (g := gb101) (o := .cells #[.int .i64 0, .slice none 0 0] 56 (0, 0)) (by (with_reducible repeat (first | refine bN ?_ _ | refine bD ?_ | refine bA ?_ _)); exact BK101.out) hb); have n2_ := aM (below_step (by repeat (first | (with_reducible first | exact HB.out | apply below_alloc | apply pw_below_drewN | apply below_drew1 | refine below_set ?_ GE101.out) | exact HB.out)) hb); clear BK101; clear HB; have HO105 := n0_; have BK101 := n1_; have HB := n2_; clear n0_ n1_ n2_; (try clear hb); (try clear hb2); (try clear hk); (try clear hi); (try clear ho0)) | ((with_reducible refine gate_dst (N := 4) rfl ?_); (try (refine gate_guard (by rfl) ?_; dsimp only)); refine box_event ?hg (N := 4) ?hd (cs := #[.int .i64 0, .slice none 0 0]) (t := 56) ?hr ?_; (case hd => rfl); (case hg => rfl); (case hr => first | (go_simp; done) | (go_simp; rfl)); intro gb107 hg w22 hbox hb; have n0_ := aM (Kd.R_below (Kd.R_elderB (by (with_reducible repeat (first | apply rA | apply rN | apply rD)); exact HO105.out) gb107 (Nat.le_of_eq hg.symm)) hb); have n1_ := aM (blk_below (g := gb101) (o := .cells #[.int .i64 0, .slice none 0 0] 56 (0, 0)) (by (with_reducible repeat (first | refine bN ?_ _ | refine bD ?_ | refine bA ?_ _)); exact BK101.out) hb); have n2_ := aM (below_step (by repeat (first | (with_reducible first | exact HB.out | apply below_alloc | apply pw_below_drewN | apply below_drew1 | refine below_set ?_ GE101.out) | exact HB.out)) hb); have n3_ := aM (hbox); have n4_ := aM ((by rw [hg]; exact (below_size (by repeat (first | (with_reducible first | exact HB.out | apply below_alloc | apply pw_below_drewN | apply below_drew1 | refine below_set ?_ GE101.out) | exact HB.out))) : w.heap.size ≤ gb107)); have n5_ := aM ((by rw [hg]; exact (below_size (by repeat (first | (with_reducible first | exact HB.out | apply below_alloc | apply pw_below_drewN | apply below_drew1 | refine below_set ?_ GE101.out) | exact HB.out))) : w.heap.size ≤ gb107)); have n6_ := aM ((by rw [hg]; exact Nat.ne_of_lt (blk_lt (g := gb101) (o := .cells #[.int .i64 0, .slice none 0 0] 56 (0, 0)) (by (with_reducible repeat (first | refine bN ?_ _ | refine bD ?_ | refine bA ?_ _)); exact BK101.out)) : gb101 ≠ gb107)); have n7_ := aM ((by rw [hg]; exact Nat.ne_of_gt (blk_lt (g := gb101) (o := .cells #[.int .i64 0, .slice none 0 0] 56 (0, 0)) (by (with_reducible repeat (first | refine bN ?_ _ | refine bD ?_ | refine bA ?_ _)); exact BK101.out)) : gb107 ≠ gb101)); clear HO105; clear BK101; clear HB; have HO105 := n0_; have BK101 := n1_; have HB := n2_; have BK107 := n3_; have GW107 := n4_; have GE107 := n5_; have NB101_107 := n6_; have NB107_101 := n7_; clear n0_ n1_ n2_ n3_ n4_ n5_ n6_ n7_; clear hb hbox hg; have hnb23 := NB107_101.out; have hnc23 := NB101_107.out; have hcz24_0 : w22.cell? ⟨gb107, 0, none⟩ = some (.int .i64 0) := (blk_cell BK107.out 0).trans rfl; have hcz24_1 : w22.cell? ⟨gb107, 1, none⟩ = some (.slice none 0 0) := (blk_cell BK107.out 1).trans rfl; have hfz24_0 := blk_frozen BK107.out 0; have hfz24_1 := blk_frozen BK107.out 1; obtain ⟨Ao25, co25, eo25⟩ := Kd.R_slice HO105.out; subst eo25))
        have n0_ : Aside0 (Kd.R k56 56 ((w22.setCell ⟨gb107, 0, none⟩ (.int .i64 t102)).setCell ⟨gb107, 1, none⟩ (.slice Ao25 t103.length co25)) w.heap.size (fun k_ => k_ ≠ gb101 ∧ k_ ≠ gb107) (.slice Ao25 t103.length co25) t103) := ⟨by (with_reducible repeat (first | apply rA | apply rN | apply rD)); exact Kd.R_mono (Kd.R_far (p := ⟨gb107, 1, none⟩) (Kd.R_far (p := ⟨gb107, 0, none⟩) (Kd.R_mono HO105.out (fun k_ hk => (⟨hk, hk.2⟩ : _ ∧ k_ ≠ gb107))) (fun _ hk => hk.2) (.int .i64 t102)) (fun _ hk => hk.2) (.slice Ao25 t103.length co25)) (fun _ hk => ⟨hk.1.1.2, hk.1.2⟩)⟩
        have n1_ : Aside0 (((w22.setCell ⟨gb107, 0, none⟩ (.int .i64 t102)).setCell ⟨gb107, 1, none⟩ (.slice Ao25 t103.length co25)).heap[gb101]? = some (.cells #[.int .i64 0, .slice none 0 0] 56 (0, 0))) := ⟨by (with_reducible repeat (first | refine bN ?_ _ | refine bD ?_ | refine bA ?_ _)); refine blk_far ?_ NB101_107.out _; (with_reducible repeat (first | refine bN ?_ _ | refine bD ?_ | refine bA ?_ _)); refine blk_far ?_ NB101_107.out _; (with_reducible repeat (first | refine bN ?_ _ | refine bD ?_ | refine bA ?_ _)); exact BK101.out⟩
        have n2_ : Aside0 (((w22.setCell ⟨gb107, 0, none⟩ (.int .i64 t102)).setCell ⟨gb107, 1, none⟩ (.slice Ao25 t103.length co25)).heap[gb107]? = some (.cells #[.int .i64 t102, .slice Ao25 t103.length co25] 56 (0, 0))) := ⟨by (with_reducible repeat (first | refine bN ?_ _ | refine bD ?_ | refine bA ?_ _)); refine blk_put (cs := #[.int .i64 t102, .slice none 0 0]) ?_ 1 _ rfl; (with_reducible repeat (first | refine bN ?_ _ | refine bD ?_ | refine bA ?_ _)); refine blk_put (cs := #[.int .i64 0, .slice none 0 0]) ?_ 0 _ rfl; (with_reducible repeat (first | refine bN ?_ _ | refine bD ?_ | refine bA ?_ _)); exact BK107.out⟩
        have n3_ : Aside0 (Below w.heap.size w ((w22.setCell ⟨gb107, 0, none⟩ (.int .i64 t102)).setCell ⟨gb107, 1, none⟩ (.slice Ao25 t103.length co25))) := ⟨by repeat (first | (with_reducible first | exact HB.out | apply below_alloc | apply pw_below_drewN | apply below_drew1 | refine below_set ?_ GE101.out | refine below_set ?_ GE107.out) | exact HB.out)⟩
        (try clear HO105)
        (try clear BK101)
        (try clear BK107)
        (try clear HB)
        generalize ((w22.setCell ⟨gb107, 0, none⟩ (.int .i64 t102)).setCell ⟨gb107, 1, none⟩ (.slice Ao25 t103.length co25)) = w26 at n0_ n1_ n2_ n3_ ⊢
        have HO105 := n0_
        have BK101 := n1_
        have BK107 := n2_
        have HB := n3_
        clear n0_ n1_ n2_ n3_
        have n0_ := aM (Kd.R_drew HO105.out)
        have n1_ := aM (blk_drew BK101.out)
        have n2_ := aM (blk_drew BK107.out)
        have n3_ := aM (below_drew1 HB.out)
        clear HO105
        clear BK101
        clear BK107
        clear HB
        have HO105 := n0_
        have BK101 := n1_
        have BK107 := n2_
        have HB := n3_
        clear n0_ n1_ n2_ n3_
        refine start_ (n := 21) (S := fun w' => w'.cell? ⟨gb107, 0, none⟩ = some (.int .i64 t102) ∧ w'.cell? ⟨gb107, 1, none⟩ = some (.slice Ao25 t103.length co25)) (ds := []) #[false, false, false, false, false, false, false, false, false, false, false, false, false, false, false, false, false, false, false, false, false] (by kernel_rfl) rfl rfl ⟨(blk_cell BK107.out 0).trans rfl, (blk_cell BK107.out 1).trans rfl⟩ (fun hHeld => ?_); refine with_tabW spec_leOf.tab2 spec_leOf.bits2 (fun HT_ HW_ => ?_)
        generalize w26.drew = w27 at HO105 BK101 BK107 HB hHeld ⊢
        refine pure_ (i := 1) (N := some 12) (v := ?_) (a' := ?_) #[false, true, false, false, false, false, false, false, false, false, false, false, false, false, false, false, false, false, false, false, false] rfl rfl (any_of HT_.out (by kernel_rfl)) (fun _ _ _ h => h) (Or.inl ⟨by rfl, ?_⟩) ?_ ?_
        rotate_left
        · intro w'
          go_simp
          with_reducible rfl
        rotate_left
        · simp only [Act.put, List.setIfInBounds_toArray, List.set_cons_zero, List.set_cons_succ, i64_w, i32_w]
          rfl
        refine pure_ (i := 2) (N := some 13) (v := ?_) (a' := ?_) #[false, true, true, false, false, false, false, false, false, false, false, false, false, false, false, false, false, false, false, false, false] rfl rfl (any_of HT_.out (by kernel_rfl)) (fun _ _ _ h => h) (Or.inl ⟨by rfl, ?_⟩) ?_ ?_
        rotate_left
        · intro w'
          go_simp
          with_reducible rfl
        rotate_left
        · simp only [Act.put, List.setIfInBounds_toArray, List.set_cons_zero, List.set_cons_succ, i64_w, i32_w]
          rfl
        refine pure_ (i := 3) (N := some 14) (v := ?_) (a' := ?_) #[false, true, true, true, false, false, false, false, false, false, false, false, false, false, false, false, false, false, false, false, false] rfl rfl (any_of HT_.out (by kernel_rfl)) (fun _ _ _ h => h) (Or.inl ⟨by rfl, ?_⟩) ?_ ?_
        rotate_left
        · intro w'
          go_simp
          with_reducible rfl
        rotate_left
        · simp only [Act.put, List.setIfInBounds_toArray, List.set_cons_zero, List.set_cons_succ, i64_w, i32_w]
          rfl
        refine pure_ (i := 4) (N := some 15) (v := ?_) (a' := ?_) #[false, true, true, true, true, false, false, false, false, false, false, false, false, false, false, false, false, false, false, false, false] rfl rfl (any_of HT_.out (by kernel_rfl)) (fun _ _ _ h => h) (Or.inl ⟨by rfl, ?_⟩) ?_ ?_
        rotate_left
        · intro w'
          go_simp
          with_reducible rfl
        rotate_left
        · simp only [Act.put, List.setIfInBounds_toArray, List.set_cons_zero, List.set_cons_succ, i64_w, i32_w]
          rfl
        refine pure_ (i := 5) (N := some 16) (v := ?_) (a' := ?_) #[false, true, true, true, true, true, false, false, false, false, false, false, false, false, false, false, false, false, false, false, false] rfl rfl (any_of HT_.out (by kernel_rfl)) (fun _ _ _ h => h) (Or.inl ⟨by rfl, ?_⟩) ?_ ?_
        rotate_left
        · intro w'
          go_simp
          with_reducible rfl
        rotate_left
        · simp only [Act.put, List.setIfInBounds_toArray, List.set_cons_zero, List.set_cons_succ, i64_w, i32_w]
          rfl
        refine pure_ (i := 6) (N := some 17) (v := ?_) (a' := ?_) #[false, true, true, true, true, true, true, false, false, false, false, false, false, false, false, false, false, false, false, false, false] rfl rfl (any_of HT_.out (by kernel_rfl)) (fun _ _ _ h => h) (Or.inl ⟨by rfl, ?_⟩) ?_ ?_
        rotate_left
        · intro w'
          go_simp
          with_reducible rfl
        rotate_left
        · simp only [Act.put, List.setIfInBounds_toArray, List.set_cons_zero, List.set_cons_succ, i64_w, i32_w]
          rfl
        refine pure_ (i := 7) (N := some 18) (v := ?_) (a' := ?_) #[false, true, true, true, true, true, true, true, false, false, false, false, false, false, false, false, false, false, false, false, false] rfl rfl (any_of HT_.out (by kernel_rfl)) (fun _ _ _ h => h) (Or.inl ⟨by rfl, ?_⟩) ?_ ?_
        rotate_left
        · intro w'
          go_simp
          with_reducible rfl
        rotate_left
        · simp only [Act.put, List.setIfInBounds_toArray, List.set_cons_zero, List.set_cons_succ, i64_w, i32_w]
          rfl
        refine pure_ (i := 8) (N := some 19) (v := ?_) (a' := ?_) #[false, true, true, true, true, true, true, true, true, false, false, false, false, false, false, false, false, false, false, false, false] rfl rfl (any_of HT_.out (by kernel_rfl)) (fun _ _ _ h => h) (Or.inl ⟨by rfl, ?_⟩) ?_ ?_
        rotate_left
        · intro w'
          go_simp
          with_reducible rfl
        rotate_left
        · simp only [Act.put, List.setIfInBounds_toArray, List.set_cons_zero, List.set_cons_succ, i64_w, i32_w]
          rfl
        refine pure_ (i := 9) (N := some 20) (v := ?_) (a' := ?_) #[false, true, true, true, true, true, true, true, true, true, false, false, false, false, false, false, false, false, false, false, false] rfl rfl (any_of HT_.out (by kernel_rfl)) (fun _ _ _ h => h) (Or.inl ⟨by rfl, ?_⟩) ?_ ?_
        rotate_left
        · intro w'
          go_simp
          with_reducible rfl
        rotate_left
        · simp only [Act.put, List.setIfInBounds_toArray, List.set_cons_zero, List.set_cons_succ, i64_w, i32_w]
          rfl
        refine pure_ (i := 12) (N := some 23) (v := ?_) (a' := ?_) #[false, true, true, true, true, true, true, true, true, true, false, false, true, false, false, false, false, false, false, false, false] rfl rfl (any_of HT_.out (by kernel_rfl)) (fun _ _ _ h => h) (Or.inl ⟨by rfl, ?_⟩) ?_ ?_
        rotate_left
        · intro w'
          go_simp
          with_reducible rfl
        rotate_left
        · simp only [Act.put, List.setIfInBounds_toArray, List.set_cons_zero, List.set_cons_succ, i64_w, i32_w]
          rfl
        refine take_ (i := 0) (N := some 11) (v := ?_) (a' := ?_) #[true, true, true, true, true, true, true, true, true, true, false, false, true, false, false, false, false, false, false, false, false] rfl rfl (take_ofW HT_.out HW_.out (by kernel_rfl)) (fun _ _ _ h => h) (Or.inl ⟨by rfl, ?_⟩) hHeld ?_ ?_
        rotate_left
        · rintro w' ⟨s0, s1⟩
          go_simp
          with_reducible rfl
        rotate_left
        · simp only [Act.put, List.setIfInBounds_toArray, List.set_cons_zero, List.set_cons_succ, i64_w, i32_w]
          rfl
        refine take_ (i := 10) (N := some 21) (v := ?_) (a' := ?_) #[true, true, true, true, true, true, true, true, true, true, true, false, true, false, false, false, false, false, false, false, false] rfl rfl (take_ofW HT_.out HW_.out (by kernel_rfl)) (fun _ _ _ h => h) (Or.inl ⟨by rfl, ?_⟩) hHeld ?_ ?_
        rotate_left
        · rintro w' ⟨s0, s1⟩
          go_simp
          with_reducible rfl
        rotate_left
        · simp only [Act.put, List.setIfInBounds_toArray, List.set_cons_zero, List.set_cons_succ, i64_w, i32_w]
          rfl
        refine one_ (i := 11) (N := some 22) #[true, true, true, true, true, true, true, true, true, true, true, true, true, false, false, false, false, false, false, false, false] rfl rfl (one_of HT_.out (by kernel_rfl)) (by decide) (fun K hK => ?_)
        refine goes_ Tryd.func21 (by kernel_rfl) rfl #[.agg #[.int .i64 t102, .slice Ao25 t103.length co25]] (by rfl) rfl rfl (by (try simp only [List.map_toArray, List.map_cons, List.map_nil]); first | done | rfl | (simp only [List.length_drop, List.length_take]; rfl)) ?_
        with_reducible refine (spec_leText.calls k t102 _ _ t103 t108 _ ?side1 ?side2 A5.out).mono ?_
        (case side1 => repeat (first | exact (Kd.R_reads' HO105.out).2.2 | (with_reducible refine Kd.C_alloc ?_ _) | (with_reducible refine Kd.C_drewN ?_ _) | (with_reducible refine Kd.C_drew ?_)))
        (case side2 => exact (Kd.R_reads' HO105.out).2.1)
        rintro e w28 ⟨rfl, hb⟩
        refine ⟨_, rfl, ?_⟩
        have n0_ := aM (Kd.R_below (by (with_reducible repeat (first | apply rA | apply rN | apply rD)); exact HO105.out) hb)
        have n1_ := aM (blk_below (g := gb101) (o := .cells #[.int .i64 0, .slice none 0 0] 56 (0, 0)) (by (with_reducible repeat (first | refine bN ?_ _ | refine bD ?_ | refine bA ?_ _)); exact BK101.out) hb)
        have n2_ := aM (blk_below (g := gb107) (o := .cells #[.int .i64 t102, .slice Ao25 t103.length co25] 56 (0, 0)) (by (with_reducible repeat (first | refine bN ?_ _ | refine bD ?_ | refine bA ?_ _)); exact BK107.out) hb)
        have n3_ := aM (below_step (by repeat (first | (with_reducible first | exact HB.out | apply below_alloc | apply pw_below_drewN | apply below_drew1 | refine below_set ?_ GE101.out | refine below_set ?_ GE107.out) | exact HB.out)) hb)
        clear HO105
        clear BK101
        clear BK107
        clear HB
        have HO105 := n0_
        have BK101 := n1_
        have BK107 := n2_
        have HB := n3_
        clear n0_ n1_ n2_ n3_
        (try clear hb)
        (try clear hb2)
        (try clear hk)
        (try clear hi)
        refine hK.out _ _ ⟨(blk_cell BK107.out 0).trans rfl, (blk_cell BK107.out 1).trans rfl⟩ (fun hHeld => ?_)
        clear hK K
        refine norm_ (a' := ?_) ?_ ?_
        rotate_left
        · show Act.put _ (some 22) _ = _
          simp only [Act.put, List.setIfInBounds_toArray, List.set_cons_zero, List.set_cons_succ, i64_w, i32_w]
          rfl
        refine pure_ (i := 13) (N := some 24) (v := ?_) (a' := ?_) #[true, true, true, true, true, true, true, true, true, true, true, true, true, true, false, false, false, false, false, false, false] rfl rfl (any_of HT_.out (by kernel_rfl)) (fun _ _ _ h => h) (Or.inl ⟨by rfl, ?_⟩) ?_ ?_
        rotate_left
        · intro w'
          go_simp
          with_reducible rfl
        rotate_left
        · simp only [Act.put, List.setIfInBounds_toArray, List.set_cons_zero, List.set_cons_succ, i64_w, i32_w]
          rfl
        refine pure_ (i := 14) (N := some 25) (v := ?_) (a' := ?_) #[true, true, true, true, true, true, true, true, true, true, true, true, true, true, true, false, false, false, false, false, false] rfl rfl (any_of HT_.out (by kernel_rfl)) (fun _ _ _ h => h) (Or.inl ⟨by rfl, ?_⟩) ?_ ?_
        rotate_left
        · intro w'
          go_simp
          with_reducible rfl
        rotate_left
        · simp only [Act.put, List.setIfInBounds_toArray, List.set_cons_zero, List.set_cons_succ, i64_w, i32_w]
          rfl
        refine pure_ (i := 15) (N := some 26) (v := ?_) (a' := ?_) #[true, true, true, true, true, true, true, true, true, true, true, true, true, true, true, true, false, false, false, false, false] rfl rfl (any_of HT_.out (by kernel_rfl)) (fun _ _ _ h => h) (Or.inl ⟨by rfl, ?_⟩) ?_ ?_
        rotate_left
        · intro w'
          go_simp
          with_reducible rfl
        rotate_left
        · simp only [Act.put, List.setIfInBounds_toArray, List.set_cons_zero, List.set_cons_succ, i64_w, i32_w]
          rfl
        refine pure_ (i := 16) (N := some 27) (v := undef) (a' := ?_) #[true, true, true, true, true, true, true, true, true, true, true, true, true, true, true, true, true, false, false, false, false] rfl rfl (any_of HT_.out (by kernel_rfl)) (fun _ _ _ h => h) (Or.inr ⟨by rfl, rfl⟩) ?_ ?_
        rotate_left
        · simp only [Act.put, List.setIfInBounds_toArray, List.set_cons_zero, List.set_cons_succ, i64_w, i32_w]
          rfl
        refine pure_ (i := 17) (N := some 28) (v := undef) (a' := ?_) #[true, true, true, true, true, true, true, true, true, true, true, true, true, true, true, true, true, true, false, false, false] rfl rfl (any_of HT_.out (by kernel_rfl)) (fun _ _ _ h => h) (Or.inr ⟨by rfl, rfl⟩) ?_ ?_
        rotate_left
        · simp only [Act.put, List.setIfInBounds_toArray, List.set_cons_zero, List.set_cons_succ, i64_w, i32_w]
          rfl
        refine pure_ (i := 18) (N := some 29) (v := ?_) (a' := ?_) #[true, true, true, true, true, true, true, true, true, true, true, true, true, true, true, true, true, true, true, false, false] rfl rfl (any_of HT_.out (by kernel_rfl)) (fun _ _ _ h => h) (Or.inl ⟨by rfl, ?_⟩) ?_ ?_
        rotate_left
        · intro w'
          go_simp
          with_reducible rfl
        rotate_left
        · simp only [Act.put, List.setIfInBounds_toArray, List.set_cons_zero, List.set_cons_succ, i64_w, i32_w]
          rfl
        refine one_ (i := 19) (N := none) #[true, true, true, true, true, true, true, true, true, true, true, true, true, true, true, true, true, true, true, true, false] rfl rfl (one_of HT_.out (by kernel_rfl)) (by decide) (fun K hK => ?_)
        have hs29 : w28.cell? ⟨gb101, 0, none⟩ = some (.int .i64 0) := (blk_cell BK101.out 0).trans rfl
        have hfs29 := blk_frozen BK101.out 0
        have hns29_1 := NB107_101.out
        have hms29_1 := NB101_107.out
        have hs30 : w28.cell? ⟨gb101, 1, none⟩ = some (.slice none 0 0) := (blk_cell BK101.out 1).trans rfl
        have hfs30 := blk_frozen BK101.out 1
        have hns30_1 := NB107_101.out
        have hms30_1 := NB101_107.out
        refine skip_ (w1 := ?_) (by rfl) rfl ?_ ?_
        rotate_left
        · go_simp
          rfl
        refine hK.out _ _ ⟨((cell_far (p := ⟨gb101, _, none⟩) NB107_101.out _).trans (((cell_far (p := ⟨gb101, _, none⟩) NB107_101.out _).trans (hHeld.1)))), ((cell_far (p := ⟨gb101, _, none⟩) NB107_101.out _).trans (((cell_far (p := ⟨gb101, _, none⟩) NB107_101.out _).trans (hHeld.2))))⟩ (fun hHeld => ?_)
        clear hK K
        refine pure_ (i := 20) (N := some 3) (v := ?_) (a' := ?_) #[true, true, true, true, true, true, true, true, true, true, true, true, true, true, true, true, true, true, true, true, true] rfl rfl (any_of HT_.out (by kernel_rfl)) (fun _ _ _ h => h) (Or.inl ⟨by rfl, ?_⟩) ?_ ?_
        rotate_left
        · intro w'
          go_simp
          with_reducible rfl
        rotate_left
        · simp only [Act.put, List.setIfInBounds_toArray, List.set_cons_zero, List.set_cons_succ, i64_w, i32_w]
          rfl
        refine done_ (done_of HT_.out (by kernel_rfl)) ?_
        try go_wp2
        refine bodyPost_ret (results_ct rfl _ _ gb101 56 #[.int .i64 t102, .slice Ao25 t103.length co25] (0, 0) _ rfl (by (with_reducible repeat (first | refine bN ?_ _ | refine bD ?_ | refine bA ?_ _)); refine blk_put (cs := #[.int .i64 t102, .slice none 0 0]) ?_ 1 _ rfl; (with_reducible repeat (first | refine bN ?_ _ | refine bD ?_ | refine bA ?_ _)); refine blk_put (cs := #[.int .i64 0, .slice none 0 0]) ?_ 0 _ rfl; (with_reducible repeat (first | refine bN ?_ _ | refine bD ?_ | refine bA ?_ _)); exact BK101.out) Tryd.underlying56 rfl (by kernel_rfl)) rfl ?_
        exact ⟨_, by first | rfl | (simp [errW_none, errW_some] <;> rfl) | (simp [*, errW_none, errW_some] <;> rfl), by (with_reducible repeat (first | apply rA | apply rN | apply rD)); exact Kd.R_mono (Kd.R_far (p := ⟨gb101, 1, none⟩) (Kd.R_far (p := ⟨gb101, 0, none⟩) (Kd.R_mono HO105.out (fun k_ hk => (⟨hk, hk.1⟩ : _ ∧ k_ ≠ gb101))) (fun _ hk => hk.2) (.int .i64 t102)) (fun _ hk => hk.2) (.slice Ao25 t103.length co25)) (fun _ hk => trivial), by repeat (first | (with_reducible first | exact HB.out | apply below_alloc | apply pw_below_drewN | apply below_drew1 | refine below_set ?_ GE101.out | refine below_set ?_ GE107.out) | exact HB.out)⟩
    · rw [if_neg c4] at H
      have c4b0 : (t106 == (a0.size : Int)) = false := beq_eq_false_iff_ne.mpr c4
      have c4b1 : (t106 != (a0.size : Int)) = true := bne_iff_ne.mpr c4
      simp only [Option.some.injEq, Prod.mk.injEq] at H
      obtain ⟨rfl, rfl, rfl⟩ := H
      go_enter Tryd.func18, Tryd.ntmps18
      try go_wp2_with (first | ((with_reducible refine gate_dst (N := 2) rfl ?_); (try (refine gate_guard (by rfl) ?_; dsimp only)); refine box_event ?hg (N := 2) ?hd (cs := #[.int .i64 0, .slice none 0 0]) (t := 56) ?hr ?_; (case hd => rfl); (case hg => rfl); (case hr => first | (go_simp; done) | (go_simp; rfl)); intro gb101 hg w31 hbox hb; have n0_ := aM (below_step (by repeat (first | (with_reducible first | exact HB.out | apply below_alloc | apply pw_below_drewN | apply below_drew1) | exact HB.out)) hb); have n1_ := aM (hbox); have n2_ := aM ((by rw [hg]; exact (below_size (by repeat (first | (with_reducible first | exact HB.out | apply below_alloc | apply pw_below_drewN | apply below_drew1) | exact HB.out))) : w.heap.size ≤ gb101)); have n3_ := aM ((by rw [hg]; exact (below_size (by repeat (first | (with_reducible first | exact HB.out | apply below_alloc | apply pw_below_drewN | apply below_drew1) | exact HB.out))) : w.heap.size ≤ gb101)); clear HB; have HB := n0_; have BK101 := n1_; have GW101 := n2_; have GE101 := n3_; clear n0_ n1_ n2_ n3_; clear hb hbox hg) | ((with_reducible refine gate_callee (f := 38) rfl ?_); refine goesL_ (some 8) rfl rfl Tryd.func38 (by kernel_rfl) rfl #[.string a0, .int .i64 1] rfl (by (try simp only [List.map_toArray, List.map_cons, List.map_nil]); first | done | rfl | (simp only [List.length_drop, List.length_take]; rfl)) ?_; (with_reducible refine (spec_leRead.calls k a0 1 t102 t103 t106 _ A2.out).mono ?_); rintro e w32 ⟨v104, rfl, ho0, hb⟩; refine ⟨_, rfl, ?_⟩; have n0_ := aM (Kd.R_lower (Kd.R_newB ho0 (g := gb101) (o := .cells #[.int .i64 0, .slice none 0 0] 56 (0, 0)) (by (with_reducible repeat (first | refine bN ?_ _ | refine bD ?_ | refine bA ?_ _)); exact BK101.out)) (below_size (by repeat (first | (with_reducible first | exact HB.out | apply below_alloc | apply pw_below_drewN | apply below_drew1 | refine below_set ?_ GE101.out) | exact HB.out)))); have n1_ := aM (blk_below (g := gb101) (o := .cells #[.int .i64 0, .slice none 0 0] 56 (0, 0)) (by (with_reducible repeat (first | refine bN ?_ _ | refine bD ?_ | refine bA ?_ _)); exact BK101.out) hb); have n2_ := aM (below_step (by repeat (first | (with_reducible first | exact HB.out | apply below_alloc | apply pw_below_drewN | apply below_drew1 | refine below_set ?_ GE101.out) | exact HB.out)) hb); clear BK101; clear HB; have HO105 := n0_; have BK101 := n1_; have HB := n2_; clear n0_ n1_ n2_; (try clear hb); (try clear hb2); (try clear hk); (try clear hi); (try clear ho0)) | ((with_reducible refine gate_dst (N := 4) rfl ?_); (try (refine gate_guard (by rfl) ?_; dsimp only)); refine box_event ?hg (N := 4) ?hd (cs := #[.int .i64 0, .slice none 0 0]) (t := 56) ?hr ?_; (case hd => rfl); (case hg => rfl); (case hr => first | (go_simp; done) | (go_simp; rfl)); intro gb107 hg w33 hbox hb; have n0_ := aM (Kd.R_below (Kd.R_elderB (by (with_reducible repeat (first | apply rA | apply rN | apply rD)); exact HO105.out) gb107 (Nat.le_of_eq hg.symm)) hb); have n1_ := aM (blk_below (g := gb101) (o := .cells #[.int .i64 0, .slice none 0 0] 56 (0, 0)) (by (with_reducible repeat (first | refine bN ?_ _ | refine bD ?_ | refine bA ?_ _)); exact BK101.out) hb); have n2_ := aM (below_step (by repeat (first | (with_reducible first | exact HB.out | apply below_alloc | apply pw_below_drewN | apply below_drew1 | refine below_set ?_ GE101.out) | exact HB.out)) hb); have n3_ := aM (hbox); have n4_ := aM ((by rw [hg]; exact (below_size (by repeat (first | (with_reducible first | exact HB.out | apply below_alloc | apply pw_below_drewN | apply below_drew1 | refine below_set ?_ GE101.out) | exact HB.out))) : w.heap.size ≤ gb107)); have n5_ := aM ((by rw [hg]; exact (below_size (by repeat (first | (with_reducible first | exact HB.out | apply below_alloc | apply pw_below_drewN | apply below_drew1 | refine below_set ?_ GE101.out) | exact HB.out))) : w.heap.size ≤ gb107)); have n6_ := aM ((by rw [hg]; exact Nat.ne_of_lt (blk_lt (g := gb101) (o := .cells #[.int .i64 0, .slice none 0 0] 56 (0, 0)) (by (with_reducible repeat (first | refine bN ?_ _ | refine bD ?_ | refine bA ?_ _)); exact BK101.out)) : gb101 ≠ gb107)); have n7_ := aM ((by rw [hg]; exact Nat.ne_of_gt (blk_lt (g := gb101) (o := .cells #[.int .i64 0, .slice none 0 0] 56 (0, 0)) (by (with_reducible repeat (first | refine bN ?_ _ | refine bD ?_ | refine bA ?_ _)); exact BK101.out)) : gb107 ≠ gb101)); clear HO105; clear BK101; clear HB; have HO105 := n0_; have BK101 := n1_; have HB := n2_; have BK107 := n3_; have GW107 := n4_; have GE107 := n5_; have NB101_107 := n6_; have NB107_101 := n7_; clear n0_ n1_ n2_ n3_ n4_ n5_ n6_ n7_; clear hb hbox hg; have hnb34 := NB107_101.out; have hnc34 := NB101_107.out; have hcz35_0 : w33.cell? ⟨gb107, 0, none⟩ = some (.int .i64 0) := (blk_cell BK107.out 0).trans rfl; have hcz35_1 : w33.cell? ⟨gb107, 1, none⟩ = some (.slice none 0 0) := (blk_cell BK107.out 1).trans rfl; have hfz35_0 := blk_frozen BK107.out 0; have hfz35_1 := blk_frozen BK107.out 1; obtain ⟨Ao36, co36, eo36⟩ := Kd.R_slice HO105.out; subst eo36))
      have n0_ : Aside0 (Kd.R k56 56 ((w33.setCell ⟨gb107, 0, none⟩ (.int .i64 t102)).setCell ⟨gb107, 1, none⟩ (.slice Ao36 t103.length co36)) w.heap.size (fun k_ => k_ ≠ gb101 ∧ k_ ≠ gb107) (.slice Ao36 t103.length co36) t103) := ⟨by (with_reducible repeat (first | apply rA | apply rN | apply rD)); exact Kd.R_mono (Kd.R_far (p := ⟨gb107, 1, none⟩) (Kd.R_far (p := ⟨gb107, 0, none⟩) (Kd.R_mono HO105.out (fun k_ hk => (⟨hk, hk.2⟩ : _ ∧ k_ ≠ gb107))) (fun _ hk => hk.2) (.int .i64 t102)) (fun _ hk => hk.2) (.slice Ao36 t103.length co36)) (fun _ hk => ⟨hk.1.1.2, hk.1.2⟩)⟩
      have n1_ : Aside0 (((w33.setCell ⟨gb107, 0, none⟩ (.int .i64 t102)).setCell ⟨gb107, 1, none⟩ (.slice Ao36 t103.length co36)).heap[gb101]? = some (.cells #[.int .i64 0, .slice none 0 0] 56 (0, 0))) := ⟨by (with_reducible repeat (first | refine bN ?_ _ | refine bD ?_ | refine bA ?_ _)); refine blk_far ?_ NB101_107.out _; (with_reducible repeat (first | refine bN ?_ _ | refine bD ?_ | refine bA ?_ _)); refine blk_far ?_ NB101_107.out _; (with_reducible repeat (first | refine bN ?_ _ | refine bD ?_ | refine bA ?_ _)); exact BK101.out⟩
      have n2_ : Aside0 (((w33.setCell ⟨gb107, 0, none⟩ (.int .i64 t102)).setCell ⟨gb107, 1, none⟩ (.slice Ao36 t103.length co36)).heap[gb107]? = some (.cells #[.int .i64 t102, .slice Ao36 t103.length co36] 56 (0, 0))) := ⟨by (with_reducible repeat (first | refine bN ?_ _ | refine bD ?_ | refine bA ?_ _)); refine blk_put (cs := #[.int .i64 t102, .slice none 0 0]) ?_ 1 _ rfl; (with_reducible repeat (first | refine bN ?_ _ | refine bD ?_ | refine bA ?_ _)); refine blk_put (cs := #[.int .i64 0, .slice none 0 0]) ?_ 0 _ rfl; (with_reducible repeat (first | refine bN ?_ _ | refine bD ?_ | refine bA ?_ _)); exact BK107.out⟩
      have n3_ : Aside0 (Below w.heap.size w ((w33.setCell ⟨gb107, 0, none⟩ (.int .i64 t102)).setCell ⟨gb107, 1, none⟩ (.slice Ao36 t103.length co36))) := ⟨by repeat (first | (with_reducible first | exact HB.out | apply below_alloc | apply pw_below_drewN | apply below_drew1 | refine below_set ?_ GE101.out | refine below_set ?_ GE107.out) | exact HB.out)⟩
      (try clear HO105)
      (try clear BK101)
      (try clear BK107)
      (try clear HB)
      generalize ((w33.setCell ⟨gb107, 0, none⟩ (.int .i64 t102)).setCell ⟨gb107, 1, none⟩ (.slice Ao36 t103.length co36)) = w37 at n0_ n1_ n2_ n3_ ⊢
      have HO105 := n0_
      have BK101 := n1_
      have BK107 := n2_
      have HB := n3_
      clear n0_ n1_ n2_ n3_
      have n0_ := aM (Kd.R_drew HO105.out)
      have n1_ := aM (blk_drew BK101.out)
      have n2_ := aM (blk_drew BK107.out)
      have n3_ := aM (below_drew1 HB.out)
      clear HO105
      clear BK101
      clear BK107
      clear HB
      have HO105 := n0_
      have BK101 := n1_
      have BK107 := n2_
      have HB := n3_
      clear n0_ n1_ n2_ n3_
      refine start_ (n := 21) (S := fun w' => w'.cell? ⟨gb107, 0, none⟩ = some (.int .i64 t102) ∧ w'.cell? ⟨gb107, 1, none⟩ = some (.slice Ao36 t103.length co36)) (ds := []) #[false, false, false, false, false, false, false, false, false, false, false, false, false, false, false, false, false, false, false, false, false] (by kernel_rfl) rfl rfl ⟨(blk_cell BK107.out 0).trans rfl, (blk_cell BK107.out 1).trans rfl⟩ (fun hHeld => ?_); refine with_tabW spec_leOf.tab2 spec_leOf.bits2 (fun HT_ HW_ => ?_)
      generalize w37.drew = w38 at HO105 BK101 BK107 HB hHeld ⊢
      refine pure_ (i := 1) (N := some 12) (v := ?_) (a' := ?_) #[false, true, false, false, false, false, false, false, false, false, false, false, false, false, false, false, false, false, false, false, false] rfl rfl (any_of HT_.out (by kernel_rfl)) (fun _ _ _ h => h) (Or.inl ⟨by rfl, ?_⟩) ?_ ?_
      rotate_left
      · intro w'
        go_simp
        with_reducible rfl
      rotate_left
      · simp only [Act.put, List.setIfInBounds_toArray, List.set_cons_zero, List.set_cons_succ, i64_w, i32_w]
        rfl
      refine pure_ (i := 2) (N := some 13) (v := ?_) (a' := ?_) #[false, true, true, false, false, false, false, false, false, false, false, false, false, false, false, false, false, false, false, false, false] rfl rfl (any_of HT_.out (by kernel_rfl)) (fun _ _ _ h => h) (Or.inl ⟨by rfl, ?_⟩) ?_ ?_
      rotate_left
      · intro w'
        go_simp
        with_reducible rfl
      rotate_left
      · simp only [Act.put, List.setIfInBounds_toArray, List.set_cons_zero, List.set_cons_succ, i64_w, i32_w]
        rfl
      refine pure_ (i := 3) (N := some 14) (v := ?_) (a' := ?_) #[false, true, true, true, false, false, false, false, false, false, false, false, false, false, false, false, false, false, false, false, false] rfl rfl (any_of HT_.out (by kernel_rfl)) (fun _ _ _ h => h) (Or.inl ⟨by rfl, ?_⟩) ?_ ?_
      rotate_left
      · intro w'
        go_simp
        with_reducible rfl
      rotate_left
      · simp only [Act.put, List.setIfInBounds_toArray, List.set_cons_zero, List.set_cons_succ, i64_w, i32_w]
        rfl
      refine pure_ (i := 4) (N := some 15) (v := ?_) (a' := ?_) #[false, true, true, true, true, false, false, false, false, false, false, false, false, false, false, false, false, false, false, false, false] rfl rfl (any_of HT_.out (by kernel_rfl)) (fun _ _ _ h => h) (Or.inl ⟨by rfl, ?_⟩) ?_ ?_
      rotate_left
      · intro w'
        go_simp
        with_reducible rfl
      rotate_left
      · simp only [Act.put, List.setIfInBounds_toArray, List.set_cons_zero, List.set_cons_succ, i64_w, i32_w]
        rfl
      refine pure_ (i := 5) (N := some 16) (v := ?_) (a' := ?_) #[false, true, true, true, true, true, false, false, false, false, false, false, false, false, false, false, false, false, false, false, false] rfl rfl (any_of HT_.out (by kernel_rfl)) (fun _ _ _ h => h) (Or.inl ⟨by rfl, ?_⟩) ?_ ?_
      rotate_left
      · intro w'
        go_simp
        with_reducible rfl
      rotate_left
      · simp only [Act.put, List.setIfInBounds_toArray, List.set_cons_zero, List.set_cons_succ, i64_w, i32_w]
        rfl
      refine pure_ (i := 6) (N := some 17) (v := ?_) (a' := ?_) #[false, true, true, true, true, true, true, false, false, false, false, false, false, false, false, false, false, false, false, false, false] rfl rfl (any_of HT_.out (by kernel_rfl)) (fun _ _ _ h => h) (Or.inl ⟨by rfl, ?_⟩) ?_ ?_
      rotate_left
      · intro w'
        go_simp
        with_reducible rfl
      rotate_left
      · simp only [Act.put, List.setIfInBounds_toArray, List.set_cons_zero, List.set_cons_succ, i64_w, i32_w]
        rfl
      refine pure_ (i := 7) (N := some 18) (v := ?_) (a' := ?_) #[false, true, true, true, true, true, true, true, false, false, false, false, false, false, false, false, false, false, false, false, false] rfl rfl (any_of HT_.out (by kernel_rfl)) (fun _ _ _ h => h) (Or.inl ⟨by rfl, ?_⟩) ?_ ?_
      rotate_left
      · intro w'
        go_simp
        with_reducible rfl
      rotate_left
      · simp only [Act.put, List.setIfInBounds_toArray, List.set_cons_zero, List.set_cons_succ, i64_w, i32_w]
        rfl
      refine pure_ (i := 8) (N := some 19) (v := ?_) (a' := ?_) #[false, true, true, true, true, true, true, true, true, false, false, false, false, false, false, false, false, false, false, false, false] rfl rfl (any_of HT_.out (by kernel_rfl)) (fun _ _ _ h => h) (Or.inl ⟨by rfl, ?_⟩) ?_ ?_
      rotate_left
      · intro w'
        go_simp
        with_reducible rfl
      rotate_left
      · simp only [Act.put, List.setIfInBounds_toArray, List.set_cons_zero, List.set_cons_succ, i64_w, i32_w]
        rfl
      refine pure_ (i := 9) (N := some 20) (v := ?_) (a' := ?_) #[false, true, true, true, true, true, true, true, true, true, false, false, false, false, false, false, false, false, false, false, false] rfl rfl (any_of HT_.out (by kernel_rfl)) (fun _ _ _ h => h) (Or.inl ⟨by rfl, ?_⟩) ?_ ?_
      rotate_left
      · intro w'
        go_simp
        with_reducible rfl
      rotate_left
      · simp only [Act.put, List.setIfInBounds_toArray, List.set_cons_zero, List.set_cons_succ, i64_w, i32_w]
        rfl
      refine pure_ (i := 10) (N := some 21) (v := undef) (a' := ?_) #[false, true, true, true, true, true, true, true, true, true, true, false, false, false, false, false, false, false, false, false, false] rfl rfl (any_of HT_.out (by kernel_rfl)) (fun _ _ _ h => h) (Or.inr ⟨by rfl, rfl⟩) ?_ ?_
      rotate_left
      · simp only [Act.put, List.setIfInBounds_toArray, List.set_cons_zero, List.set_cons_succ, i64_w, i32_w]
        rfl
      refine pure_ (i := 11) (N := some 22) (v := undef) (a' := ?_) #[false, true, true, true, true, true, true, true, true, true, true, true, false, false, false, false, false, false, false, false, false] rfl rfl (any_of HT_.out (by kernel_rfl)) (fun _ _ _ h => h) (Or.inr ⟨by rfl, rfl⟩) ?_ ?_
      rotate_left
      · simp only [Act.put, List.setIfInBounds_toArray, List.set_cons_zero, List.set_cons_succ, i64_w, i32_w]
        rfl
      refine pure_ (i := 12) (N := some 23) (v := undef) (a' := ?_) #[false, true, true, true, true, true, true, true, true, true, true, true, true, false, false, false, false, false, false, false, false] rfl rfl (any_of HT_.out (by kernel_rfl)) (fun _ _ _ h => h) (Or.inr ⟨by rfl, rfl⟩) ?_ ?_
      rotate_left
      · simp only [Act.put, List.setIfInBounds_toArray, List.set_cons_zero, List.set_cons_succ, i64_w, i32_w]
        rfl
      refine pure_ (i := 13) (N := some 24) (v := undef) (a' := ?_) #[false, true, true, true, true, true, true, true, true, true, true, true, true, true, false, false, false, false, false, false, false] rfl rfl (any_of HT_.out (by kernel_rfl)) (fun _ _ _ h => h) (Or.inr ⟨by rfl, rfl⟩) ?_ ?_
      rotate_left
      · simp only [Act.put, List.setIfInBounds_toArray, List.set_cons_zero, List.set_cons_succ, i64_w, i32_w]
        rfl
      refine pure_ (i := 14) (N := some 25) (v := ?_) (a' := ?_) #[false, true, true, true, true, true, true, true, true, true, true, true, true, true, true, false, false, false, false, false, false] rfl rfl (any_of HT_.out (by kernel_rfl)) (fun _ _ _ h => h) (Or.inl ⟨by rfl, ?_⟩) ?_ ?_
      rotate_left
      · intro w'
        go_simp
        with_reducible rfl
      rotate_left
      · simp only [Act.put, List.setIfInBounds_toArray, List.set_cons_zero, List.set_cons_succ, i64_w, i32_w]
        rfl
      refine pure_ (i := 15) (N := some 26) (v := ?_) (a' := ?_) #[false, true, true, true, true, true, true, true, true, true, true, true, true, true, true, true, false, false, false, false, false] rfl rfl (any_of HT_.out (by kernel_rfl)) (fun _ _ _ h => h) (Or.inl ⟨by rfl, ?_⟩) ?_ ?_
      rotate_left
      · intro w'
        go_simp
        with_reducible rfl
      rotate_left
      · simp only [Act.put, List.setIfInBounds_toArray, List.set_cons_zero, List.set_cons_succ, i64_w, i32_w]
        rfl
      refine pure_ (i := 16) (N := some 27) (v := undef) (a' := ?_) #[false, true, true, true, true, true, true, true, true, true, true, true, true, true, true, true, true, false, false, false, false] rfl rfl (any_of HT_.out (by kernel_rfl)) (fun _ _ _ h => h) (Or.inr ⟨by rfl, rfl⟩) ?_ ?_
      rotate_left
      · simp only [Act.put, List.setIfInBounds_toArray, List.set_cons_zero, List.set_cons_succ, i64_w, i32_w]
        rfl
      refine pure_ (i := 17) (N := some 28) (v := undef) (a' := ?_) #[false, true, true, true, true, true, true, true, true, true, true, true, true, true, true, true, true, true, false, false, false] rfl rfl (any_of HT_.out (by kernel_rfl)) (fun _ _ _ h => h) (Or.inr ⟨by rfl, rfl⟩) ?_ ?_
      rotate_left
      · simp only [Act.put, List.setIfInBounds_toArray, List.set_cons_zero, List.set_cons_succ, i64_w, i32_w]
        rfl
      refine pure_ (i := 18) (N := some 29) (v := ?_) (a' := ?_) #[false, true, true, true, true, true, true, true, true, true, true, true, true, true, true, true, true, true, true, false, false] rfl rfl (any_of HT_.out (by kernel_rfl)) (fun _ _ _ h => h) (Or.inl ⟨by rfl, ?_⟩) ?_ ?_
      rotate_left
      · intro w'
        go_simp
        with_reducible rfl
      rotate_left
      · simp only [Act.put, List.setIfInBounds_toArray, List.set_cons_zero, List.set_cons_succ, i64_w, i32_w]
        rfl
      refine take_ (i := 0) (N := some 11) (v := ?_) (a' := ?_) #[true, true, true, true, true, true, true, true, true, true, true, true, true, true, true, true, true, true, true, false, false] rfl rfl (take_ofW HT_.out HW_.out (by kernel_rfl)) (fun _ _ _ h => h) (Or.inl ⟨by rfl, ?_⟩) hHeld ?_ ?_
      rotate_left
      · rintro w' ⟨s0, s1⟩
        go_simp
        with_reducible rfl
      rotate_left
      · simp only [Act.put, List.setIfInBounds_toArray, List.set_cons_zero, List.set_cons_succ, i64_w, i32_w]
        rfl
      refine one_ (i := 19) (N := none) #[true, true, true, true, true, true, true, true, true, true, true, true, true, true, true, true, true, true, true, true, false] rfl rfl (one_of HT_.out (by kernel_rfl)) (by decide) (fun K hK => ?_)
      have hs39 : w38.cell? ⟨gb101, 0, none⟩ = some (.int .i64 0) := (blk_cell BK101.out 0).trans rfl
      have hfs39 := blk_frozen BK101.out 0
      have hns39_1 := NB107_101.out
      have hms39_1 := NB101_107.out
      have hs40 : w38.cell? ⟨gb101, 1, none⟩ = some (.slice none 0 0) := (blk_cell BK101.out 1).trans rfl
      have hfs40 := blk_frozen BK101.out 1
      have hns40_1 := NB107_101.out
      have hms40_1 := NB101_107.out
      refine skip_ (w1 := ?_) (by rfl) rfl ?_ ?_
      rotate_left
      · go_simp
        rfl
      refine hK.out _ _ ⟨((cell_far (p := ⟨gb101, _, none⟩) NB107_101.out _).trans (((cell_far (p := ⟨gb101, _, none⟩) NB107_101.out _).trans (hHeld.1)))), ((cell_far (p := ⟨gb101, _, none⟩) NB107_101.out _).trans (((cell_far (p := ⟨gb101, _, none⟩) NB107_101.out _).trans (hHeld.2))))⟩ (fun hHeld => ?_)
      clear hK K
      refine pure_ (i := 20) (N := some 3) (v := ?_) (a' := ?_) #[true, true, true, true, true, true, true, true, true, true, true, true, true, true, true, true, true, true, true, true, true] rfl rfl (any_of HT_.out (by kernel_rfl)) (fun _ _ _ h => h) (Or.inl ⟨by rfl, ?_⟩) ?_ ?_
      rotate_left
      · intro w'
        go_simp
        with_reducible rfl
      rotate_left
      · simp only [Act.put, List.setIfInBounds_toArray, List.set_cons_zero, List.set_cons_succ, i64_w, i32_w]
        rfl
      refine done_ (done_of HT_.out (by kernel_rfl)) ?_
      try go_wp2
      refine bodyPost_ret (results_ct rfl _ _ gb101 56 #[.int .i64 t102, .slice Ao36 t103.length co36] (0, 0) _ rfl (by (with_reducible repeat (first | refine bN ?_ _ | refine bD ?_ | refine bA ?_ _)); refine blk_put (cs := #[.int .i64 t102, .slice none 0 0]) ?_ 1 _ rfl; (with_reducible repeat (first | refine bN ?_ _ | refine bD ?_ | refine bA ?_ _)); refine blk_put (cs := #[.int .i64 0, .slice none 0 0]) ?_ 0 _ rfl; (with_reducible repeat (first | refine bN ?_ _ | refine bD ?_ | refine bA ?_ _)); exact BK101.out) Tryd.underlying56 rfl (by kernel_rfl)) rfl ?_
      exact ⟨_, by first | rfl | (simp [errW_none, errW_some] <;> rfl) | (simp [*, errW_none, errW_some] <;> rfl), by (with_reducible repeat (first | apply rA | apply rN | apply rD)); exact Kd.R_mono (Kd.R_far (p := ⟨gb101, 1, none⟩) (Kd.R_far (p := ⟨gb101, 0, none⟩) (Kd.R_mono HO105.out (fun k_ hk => (⟨hk, hk.1⟩ : _ ∧ k_ ≠ gb101))) (fun _ hk => hk.2) (.int .i64 t102)) (fun _ hk => hk.2) (.slice Ao36 t103.length co36)) (fun _ hk => trivial), by repeat (first | (with_reducible first | exact HB.out | apply below_alloc | apply pw_below_drewN | apply below_drew1 | refine below_set ?_ GE101.out | refine below_set ?_ GE107.out) | exact HB.out)⟩
  · rw [if_neg c3] at H
    have c3b0 : decide (0 < t106) = false := decide_eq_false c3
    clear c3
    simp only [Option.some.injEq, Prod.mk.injEq] at H
    obtain ⟨rfl, rfl, rfl⟩ := H
    go_enter Tryd.func18, Tryd.ntmps18
    try go_wp2_with (first | ((with_reducible refine gate_dst (N := 2) rfl ?_); (try (refine gate_guard (by rfl) ?_; dsimp only)); refine box_event ?hg (N := 2) ?hd (cs := #[.int .i64 0, .slice none 0 0]) (t := 56) ?hr ?_; (case hd => rfl); (case hg => rfl); (case hr => first | (go_simp; done) | (go_simp; rfl)); intro gb101 hg w41 hbox hb; have n0_ := aM (below_step (by repeat (first | (with_reducible first | exact HB.out | apply below_alloc | apply pw_below_drewN | apply below_drew1) | exact HB.out)) hb); have n1_ := aM (hbox); have n2_ := aM ((by rw [hg]; exact (below_size (by repeat (first | (with_reducible first | exact HB.out | apply below_alloc | apply pw_below_drewN | apply below_drew1) | exact HB.out))) : w.heap.size ≤ gb101)); have n3_ := aM ((by rw [hg]; exact (below_size (by repeat (first | (with_reducible first | exact HB.out | apply below_alloc | apply pw_below_drewN | apply below_drew1) | exact HB.out))) : w.heap.size ≤ gb101)); clear HB; have HB := n0_; have BK101 := n1_; have GW101 := n2_; have GE101 := n3_; clear n0_ n1_ n2_ n3_; clear hb hbox hg) | ((with_reducible refine gate_callee (f := 38) rfl ?_); refine goesL_ (some 8) rfl rfl Tryd.func38 (by kernel_rfl) rfl #[.string a0, .int .i64 1] rfl (by (try simp only [List.map_toArray, List.map_cons, List.map_nil]); first | done | rfl | (simp only [List.length_drop, List.length_take]; rfl)) ?_; (with_reducible refine (spec_leRead.calls k a0 1 t102 t103 t106 _ A2.out).mono ?_); rintro e w42 ⟨v104, rfl, ho0, hb⟩; refine ⟨_, rfl, ?_⟩; have n0_ := aM (Kd.R_lower (Kd.R_newB ho0 (g := gb101) (o := .cells #[.int .i64 0, .slice none 0 0] 56 (0, 0)) (by (with_reducible repeat (first | refine bN ?_ _ | refine bD ?_ | refine bA ?_ _)); exact BK101.out)) (below_size (by repeat (first | (with_reducible first | exact HB.out | apply below_alloc | apply pw_below_drewN | apply below_drew1 | refine below_set ?_ GE101.out) | exact HB.out)))); have n1_ := aM (blk_below (g := gb101) (o := .cells #[.int .i64 0, .slice none 0 0] 56 (0, 0)) (by (with_reducible repeat (first | refine bN ?_ _ | refine bD ?_ | refine bA ?_ _)); exact BK101.out) hb); have n2_ := aM (below_step (by repeat (first | (with_reducible first | exact HB.out | apply below_alloc | apply pw_below_drewN | apply below_drew1 | refine below_set ?_ GE101.out) | exact HB.out)) hb); clear BK101; clear HB; have HO105 := n0_; have BK101 := n1_; have HB := n2_; clear n0_ n1_ n2_; (try clear hb); (try clear hb2); (try clear hk); (try clear hi); (try clear ho0)) | ((with_reducible refine gate_dst (N := 4) rfl ?_); (try (refine gate_guard (by rfl) ?_; dsimp only)); refine box_event ?hg (N := 4) ?hd (cs := #[.int .i64 0, .slice none 0 0]) (t := 56) ?hr ?_; (case hd => rfl); (case hg => rfl); (case hr => first | (go_simp; done) | (go_simp; rfl)); intro gb107 hg w43 hbox hb; have n0_ := aM (Kd.R_below (Kd.R_elderB (by (with_reducible repeat (first | apply rA | apply rN | apply rD)); exact HO105.out) gb107 (Nat.le_of_eq hg.symm)) hb); have n1_ := aM (blk_below (g := gb101) (o := .cells #[.int .i64 0, .slice none 0 0] 56 (0, 0)) (by (with_reducible repeat (first | refine bN ?_ _ | refine bD ?_ | refine bA ?_ _)); exact BK101.out) hb); have n2_ := aM (below_step (by repeat (first | (with_reducible first | exact HB.out | apply below_alloc | apply pw_below_drewN | apply below_drew1 | refine below_set ?_ GE101.out) | exact HB.out)) hb); have n3_ := aM (hbox); have n4_ := aM ((by rw [hg]; exact (below_size (by repeat (first | (with_reducible first | exact HB.out | apply below_alloc | apply pw_below_drewN | apply below_drew1 | refine below_set ?_ GE101.out) | exact HB.out))) : w.heap.size ≤ gb107)); have n5_ := aM ((by rw [hg]; exact (below_size (by repeat (first | (with_reducible first | exact HB.out | apply below_alloc | apply pw_below_drewN | apply below_drew1 | refine below_set ?_ GE101.out) | exact HB.out))) : w.heap.size ≤ gb107)); have n6_ := aM ((by rw [hg]; exact Nat.ne_of_lt (blk_lt (g := gb101) (o := .cells #[.int .i64 0, .slice none 0 0] 56 (0, 0)) (by (with_reducible repeat (first | refine bN ?_ _ | refine bD ?_ | refine bA ?_ _)); exact BK101.out)) : gb101 ≠ gb107)); have n7_ := aM ((by rw [hg]; exact Nat.ne_of_gt (blk_lt (g := gb101) (o := .cells #[.int .i64 0, .slice none 0 0] 56 (0, 0)) (by (with_reducible repeat (first | refine bN ?_ _ | refine bD ?_ | refine bA ?_ _)); exact BK101.out)) : gb107 ≠ gb101)); clear HO105; clear BK101; clear HB; have HO105 := n0_; have BK101 := n1_; have HB := n2_; have BK107 := n3_; have GW107 := n4_; have GE107 := n5_; have NB101_107 := n6_; have NB107_101 := n7_; clear n0_ n1_ n2_ n3_ n4_ n5_ n6_ n7_; clear hb hbox hg; have hnb44 := NB107_101.out; have hnc44 := NB101_107.out; have hcz45_0 : w43.cell? ⟨gb107, 0, none⟩ = some (.int .i64 0) := (blk_cell BK107.out 0).trans rfl; have hcz45_1 : w43.cell? ⟨gb107, 1, none⟩ = some (.slice none 0 0) := (blk_cell BK107.out 1).trans rfl; have hfz45_0 := blk_frozen BK107.out 0; have hfz45_1 := blk_frozen BK107.out 1; obtain ⟨Ao46, co46, eo46⟩ := Kd.R_slice HO105.out; subst eo46))
    have n0_ : Aside0 (Kd.R k56 56 ((w43.setCell ⟨gb107, 0, none⟩ (.int .i64 t102)).setCell ⟨gb107, 1, none⟩ (.slice Ao46 t103.length co46)) w.heap.size (fun k_ => k_ ≠ gb101 ∧ k_ ≠ gb107) (.slice Ao46 t103.length co46) t103) := ⟨by (with_reducible repeat (first | apply rA | apply rN | apply rD)); exact Kd.R_mono (Kd.R_far (p := ⟨gb107, 1, none⟩) (Kd.R_far (p := ⟨gb107, 0, none⟩) (Kd.R_mono HO105.out (fun k_ hk => (⟨hk, hk.2⟩ : _ ∧ k_ ≠ gb107))) (fun _ hk => hk.2) (.int .i64 t102)) (fun _ hk => hk.2) (.slice Ao46 t103.length co46)) (fun _ hk => ⟨hk.1.1.2, hk.1.2⟩)⟩
    have n1_ : Aside0 (((w43.setCell ⟨gb107, 0, none⟩ (.int .i64 t102)).setCell ⟨gb107, 1, none⟩ (.slice Ao46 t103.length co46)).heap[gb101]? = some (.cells #[.int .i64 0, .slice none 0 0] 56 (0, 0))) := ⟨by (with_reducible repeat (first | refine bN ?_ _ | refine bD ?_ | refine bA ?_ _)); refine blk_far ?_ NB101_107.out _; (with_reducible repeat (first | refine bN ?_ _ | refine bD ?_ | refine bA ?_ _)); refine blk_far ?_ NB101_107.out _; (with_reducible repeat (first | refine bN ?_ _ | refine bD ?_ | refine bA ?_ _)); exact BK101.out⟩
    have n2_ : Aside0 (((w43.setCell ⟨gb107, 0, none⟩ (.int .i64 t102)).setCell ⟨gb107, 1, none⟩ (.slice Ao46 t103.length co46)).heap[gb107]? = some (.cells #[.int .i64 t102, .slice Ao46 t103.length co46] 56 (0, 0))) := ⟨by (with_reducible repeat (first | refine bN ?_ _ | refine bD ?_ | refine bA ?_ _)); refine blk_put (cs := #[.int .i64 t102, .slice none 0 0]) ?_ 1 _ rfl; (with_reducible repeat (first | refine bN ?_ _ | refine bD ?_ | refine bA ?_ _)); refine blk_put (cs := #[.int .i64 0, .slice none 0 0]) ?_ 0 _ rfl; (with_reducible repeat (first | refine bN ?_ _ | refine bD ?_ | refine bA ?_ _)); exact BK107.out⟩
    have n3_ : Aside0 (Below w.heap.size w ((w43.setCell ⟨gb107, 0, none⟩ (.int .i64 t102)).setCell ⟨gb107, 1, none⟩ (.slice Ao46 t103.length co46))) := ⟨by repeat (first | (with_reducible first | exact HB.out | apply below_alloc | apply pw_below_drewN | apply below_drew1 | refine below_set ?_ GE101.out | refine below_set ?_ GE107.out) | exact HB.out)⟩
    (try clear HO105)
    (try clear BK101)
    (try clear BK107)
    (try clear HB)
    generalize ((w43.setCell ⟨gb107, 0, none⟩ (.int .i64 t102)).setCell ⟨gb107, 1, none⟩ (.slice Ao46 t103.length co46)) = w47 at n0_ n1_ n2_ n3_ ⊢
    have HO105 := n0_
    have BK101 := n1_
    have BK107 := n2_
    have HB := n3_
    clear n0_ n1_ n2_ n3_
    have n0_ := aM (Kd.R_drew HO105.out)
    have n1_ := aM (blk_drew BK101.out)
    have n2_ := aM (blk_drew BK107.out)
    have n3_ := aM (below_drew1 HB.out)
    clear HO105
    clear BK101
    clear BK107
    clear HB
    have HO105 := n0_
    have BK101 := n1_
    have BK107 := n2_
    have HB := n3_
    clear n0_ n1_ n2_ n3_
    refine start_ (n := 21) (S := fun w' => w'.cell? ⟨gb107, 0, none⟩ = some (.int .i64 t102) ∧ w'.cell? ⟨gb107, 1, none⟩ = some (.slice Ao46 t103.length co46)) (ds := []) #[false, false, false, false, false, false, false, false, false, false, false, false, false, false, false, false, false, false, false, false, false] (by kernel_rfl) rfl rfl ⟨(blk_cell BK107.out 0).trans rfl, (blk_cell BK107.out 1).trans rfl⟩ (fun hHeld => ?_); refine with_tabW spec_leOf.tab2 spec_leOf.bits2 (fun HT_ HW_ => ?_)
    generalize w47.drew = w48 at HO105 BK101 BK107 HB hHeld ⊢
    refine pure_ (i := 1) (N := some 12) (v := ?_) (a' := ?_) #[false, true, false, false, false, false, false, false, false, false, false, false, false, false, false, false, false, false, false, false, false] rfl rfl (any_of HT_.out (by kernel_rfl)) (fun _ _ _ h => h) (Or.inl ⟨by rfl, ?_⟩) ?_ ?_
    rotate_left
    · intro w'
      go_simp
      with_reducible rfl
    rotate_left
    · simp only [Act.put, List.setIfInBounds_toArray, List.set_cons_zero, List.set_cons_succ, i64_w, i32_w]
      rfl
    refine pure_ (i := 2) (N := some 13) (v := ?_) (a' := ?_) #[false, true, true, false, false, false, false, false, false, false, false, false, false, false, false, false, false, false, false, false, false] rfl rfl (any_of HT_.out (by kernel_rfl)) (fun _ _ _ h => h) (Or.inl ⟨by rfl, ?_⟩) ?_ ?_
    rotate_left
    · intro w'
      go_simp
      with_reducible rfl
    rotate_left
    · simp only [Act.put, List.setIfInBounds_toArray, List.set_cons_zero, List.set_cons_succ, i64_w, i32_w]
      rfl
    refine pure_ (i := 3) (N := some 14) (v := ?_) (a' := ?_) #[false, true, true, true, false, false, false, false, false, false, false, false, false, false, false, false, false, false, false, false, false] rfl rfl (any_of HT_.out (by kernel_rfl)) (fun _ _ _ h => h) (Or.inl ⟨by rfl, ?_⟩) ?_ ?_
    rotate_left
    · intro w'
      go_simp
      with_reducible rfl
    rotate_left
    · simp only [Act.put, List.setIfInBounds_toArray, List.set_cons_zero, List.set_cons_succ, i64_w, i32_w]
      rfl
    refine pure_ (i := 4) (N := some 15) (v := undef) (a' := ?_) #[false, true, true, true, true, false, false, false, false, false, false, false, false, false, false, false, false, false, false, false, false] rfl rfl (any_of HT_.out (by kernel_rfl)) (fun _ _ _ h => h) (Or.inr ⟨by rfl, rfl⟩) ?_ ?_
    rotate_left
    · simp only [Act.put, List.setIfInBounds_toArray, List.set_cons_zero, List.set_cons_succ, i64_w, i32_w]
      rfl
    refine pure_ (i := 5) (N := some 16) (v := undef) (a' := ?_) #[false, true, true, true, true, true, false, false, false, false, false, false, false, false, false, false, false, false, false, false, false] rfl rfl (any_of HT_.out (by kernel_rfl)) (fun _ _ _ h => h) (Or.inr ⟨by rfl, rfl⟩) ?_ ?_
    rotate_left
    · simp only [Act.put, List.setIfInBounds_toArray, List.set_cons_zero, List.set_cons_succ, i64_w, i32_w]
      rfl
    refine pure_ (i := 6) (N := some 17) (v := undef) (a' := ?_) #[false, true, true, true, true, true, true, false, false, false, false, false, false, false, false, false, false, false, false, false, false] rfl rfl (any_of HT_.out (by kernel_rfl)) (fun _ _ _ h => h) (Or.inr ⟨by rfl, rfl⟩) ?_ ?_
    rotate_left
    · simp only [Act.put, List.setIfInBounds_toArray, List.set_cons_zero, List.set_cons_succ, i64_w, i32_w]
      rfl
    refine pure_ (i := 7) (N := some 18) (v := undef) (a' := ?_) #[false, true, true, true, true, true, true, true, false, false, false, false, false, false, false, false, false, false, false, false, false] rfl rfl (any_of HT_.out (by kernel_rfl)) (fun _ _ _ h => h) (Or.inr ⟨by rfl, rfl⟩) ?_ ?_
    rotate_left
    · simp only [Act.put, List.setIfInBounds_toArray, List.set_cons_zero, List.set_cons_succ, i64_w, i32_w]
      rfl
    refine pure_ (i := 8) (N := some 19) (v := ?_) (a' := ?_) #[false, true, true, true, true, true, true, true, true, false, false, false, false, false, false, false, false, false, false, false, false] rfl rfl (any_of HT_.out (by kernel_rfl)) (fun _ _ _ h => h) (Or.inl ⟨by rfl, ?_⟩) ?_ ?_
    rotate_left
    · intro w'
      go_simp
      with_reducible rfl
    rotate_left
    · simp only [Act.put, List.setIfInBounds_toArray, List.set_cons_zero, List.set_cons_succ, i64_w, i32_w]
      rfl
    refine pure_ (i := 9) (N := some 20) (v := ?_) (a' := ?_) #[false, true, true, true, true, true, true, true, true, true, false, false, false, false, false, false, false, false, false, false, false] rfl rfl (any_of HT_.out (by kernel_rfl)) (fun _ _ _ h => h) (Or.inl ⟨by rfl, ?_⟩) ?_ ?_
    rotate_left
    · intro w'
      go_simp
      with_reducible rfl
    rotate_left
    · simp only [Act.put, List.setIfInBounds_toArray, List.set_cons_zero, List.set_cons_succ, i64_w, i32_w]
      rfl
    refine pure_ (i := 10) (N := some 21) (v := undef) (a' := ?_) #[false, true, true, true, true, true, true, true, true, true, true, false, false, false, false, false, false, false, false, false, false] rfl rfl (any_of HT_.out (by kernel_rfl)) (fun _ _ _ h => h) (Or.inr ⟨by rfl, rfl⟩) ?_ ?_
    rotate_left
    · simp only [Act.put, List.setIfInBounds_toArray, List.set_cons_zero, List.set_cons_succ, i64_w, i32_w]
      rfl
    refine pure_ (i := 11) (N := some 22) (v := undef) (a' := ?_) #[false, true, true, true, true, true, true, true, true, true, true, true, false, false, false, false, false, false, false, false, false] rfl rfl (any_of HT_.out (by kernel_rfl)) (fun _ _ _ h => h) (Or.inr ⟨by rfl, rfl⟩) ?_ ?_
    rotate_left
    · simp only [Act.put, List.setIfInBounds_toArray, List.set_cons_zero, List.set_cons_succ, i64_w, i32_w]
      rfl
    refine pure_ (i := 12) (N := some 23) (v := undef) (a' := ?_) #[false, true, true, true, true, true, true, true, true, true, true, true, true, false, false, false, false, false, false, false, false] rfl rfl (any_of HT_.out (by kernel_rfl)) (fun _ _ _ h => h) (Or.inr ⟨by rfl, rfl⟩) ?_ ?_
    rotate_left
    · simp only [Act.put, List.setIfInBounds_toArray, List.set_cons_zero, List.set_cons_succ, i64_w, i32_w]
      rfl
    refine pure_ (i := 13) (N := some 24) (v := undef) (a' := ?_) #[false, true, true, true, true, true, true, true, true, true, true, true, true, true, false, false, false, false, false, false, false] rfl rfl (any_of HT_.out (by kernel_rfl)) (fun _ _ _ h => h) (Or.inr ⟨by rfl, rfl⟩) ?_ ?_
    rotate_left
    · simp only [Act.put, List.setIfInBounds_toArray, List.set_cons_zero, List.set_cons_succ, i64_w, i32_w]
      rfl
    refine pure_ (i := 14) (N := some 25) (v := ?_) (a' := ?_) #[false, true, true, true, true, true, true, true, true, true, true, true, true, true, true, false, false, false, false, false, false] rfl rfl (any_of HT_.out (by kernel_rfl)) (fun _ _ _ h => h) (Or.inl ⟨by rfl, ?_⟩) ?_ ?_
    rotate_left
    · intro w'
      go_simp
      with_reducible rfl
    rotate_left
    · simp only [Act.put, List.setIfInBounds_toArray, List.set_cons_zero, List.set_cons_succ, i64_w, i32_w]
      rfl
    refine pure_ (i := 15) (N := some 26) (v := ?_) (a' := ?_) #[false, true, true, true, true, true, true, true, true, true, true, true, true, true, true, true, false, false, false, false, false] rfl rfl (any_of HT_.out (by kernel_rfl)) (fun _ _ _ h => h) (Or.inl ⟨by rfl, ?_⟩) ?_ ?_
    rotate_left
    · intro w'
      go_simp
      with_reducible rfl
    rotate_left
    · simp only [Act.put, List.setIfInBounds_toArray, List.set_cons_zero, List.set_cons_succ, i64_w, i32_w]
      rfl
    refine pure_ (i := 16) (N := some 27) (v := undef) (a' := ?_) #[false, true, true, true, true, true, true, true, true, true, true, true, true, true, true, true, true, false, false, false, false] rfl rfl (any_of HT_.out (by kernel_rfl)) (fun _ _ _ h => h) (Or.inr ⟨by rfl, rfl⟩) ?_ ?_
    rotate_left
    · simp only [Act.put, List.setIfInBounds_toArray, List.set_cons_zero, List.set_cons_succ, i64_w, i32_w]
      rfl
    refine pure_ (i := 17) (N := some 28) (v := undef) (a' := ?_) #[false, true, true, true, true, true, true, true, true, true, true, true, true, true, true, true, true, true, false, false, false] rfl rfl (any_of HT_.out (by kernel_rfl)) (fun _ _ _ h => h) (Or.inr ⟨by rfl, rfl⟩) ?_ ?_
    rotate_left
    · simp only [Act.put, List.setIfInBounds_toArray, List.set_cons_zero, List.set_cons_succ, i64_w, i32_w]
      rfl
    refine pure_ (i := 18) (N := some 29) (v := ?_) (a' := ?_) #[false, true, true, true, true, true, true, true, true, true, true, true, true, true, true, true, true, true, true, false, false] rfl rfl (any_of HT_.out (by kernel_rfl)) (fun _ _ _ h => h) (Or.inl ⟨by rfl, ?_⟩) ?_ ?_
    rotate_left
    · intro w'
      go_simp
      with_reducible rfl
    rotate_left
    · simp only [Act.put, List.setIfInBounds_toArray, List.set_cons_zero, List.set_cons_succ, i64_w, i32_w]
      rfl
    refine take_ (i := 0) (N := some 11) (v := ?_) (a' := ?_) #[true, true, true, true, true, true, true, true, true, true, true, true, true, true, true, true, true, true, true, false, false] rfl rfl (take_ofW HT_.out HW_.out (by kernel_rfl)) (fun _ _ _ h => h) (Or.inl ⟨by rfl, ?_⟩) hHeld ?_ ?_
    rotate_left
    · rintro w' ⟨s0, s1⟩
      go_simp
      with_reducible rfl
    rotate_left
    · simp only [Act.put, List.setIfInBounds_toArray, List.set_cons_zero, List.set_cons_succ, i64_w, i32_w]
      rfl
    refine one_ (i := 19) (N := none) #[true, true, true, true, true, true, true, true, true, true, true, true, true, true, true, true, true, true, true, true, false] rfl rfl (one_of HT_.out (by kernel_rfl)) (by decide) (fun K hK => ?_)
    have hs49 : w48.cell? ⟨gb101, 0, none⟩ = some (.int .i64 0) := (blk_cell BK101.out 0).trans rfl
    have hfs49 := blk_frozen BK101.out 0
    have hns49_1 := NB107_101.out
    have hms49_1 := NB101_107.out
    have hs50 : w48.cell? ⟨gb101, 1, none⟩ = some (.slice none 0 0) := (blk_cell BK101.out 1).trans rfl
    have hfs50 := blk_frozen BK101.out 1
    have hns50_1 := NB107_101.out
    have hms50_1 := NB101_107.out
    refine skip_ (w1 := ?_) (by rfl) rfl ?_ ?_
    rotate_left
    · go_simp
      rfl
    refine hK.out _ _ ⟨((cell_far (p := ⟨gb101, _, none⟩) NB107_101.out _).trans (((cell_far (p := ⟨gb101, _, none⟩) NB107_101.out _).trans (hHeld.1)))), ((cell_far (p := ⟨gb101, _, none⟩) NB107_101.out _).trans (((cell_far (p := ⟨gb101, _, none⟩) NB107_101.out _).trans (hHeld.2))))⟩ (fun hHeld => ?_)
    clear hK K
    refine pure_ (i := 20) (N := some 3) (v := ?_) (a' := ?_) #[true, true, true, true, true, true, true, true, true, true, true, true, true, true, true, true, true, true, true, true, true] rfl rfl (any_of HT_.out (by kernel_rfl)) (fun _ _ _ h => h) (Or.inl ⟨by rfl, ?_⟩) ?_ ?_
    rotate_left
    · intro w'
      go_simp
      with_reducible rfl
    rotate_left
    · simp only [Act.put, List.setIfInBounds_toArray, List.set_cons_zero, List.set_cons_succ, i64_w, i32_w]
      rfl
    refine done_ (done_of HT_.out (by kernel_rfl)) ?_
    try go_wp2
    refine bodyPost_ret (results_ct rfl _ _ gb101 56 #[.int .i64 t102, .slice Ao46 t103.length co46] (0, 0) _ rfl (by (with_reducible repeat (first | refine bN ?_ _ | refine bD ?_ | refine bA ?_ _)); refine blk_put (cs := #[.int .i64 t102, .slice none 0 0]) ?_ 1 _ rfl; (with_reducible repeat (first | refine bN ?_ _ | refine bD ?_ | refine bA ?_ _)); refine blk_put (cs := #[.int .i64 0, .slice none 0 0]) ?_ 0 _ rfl; (with_reducible repeat (first | refine bN ?_ _ | refine bD ?_ | refine bA ?_ _)); exact BK101.out) Tryd.underlying56 rfl (by kernel_rfl)) rfl ?_
    exact ⟨_, by first | rfl | (simp [errW_none, errW_some] <;> rfl) | (simp [*, errW_none, errW_some] <;> rfl), by (with_reducible repeat (first | apply rA | apply rN | apply rD)); exact Kd.R_mono (Kd.R_far (p := ⟨gb101, 1, none⟩) (Kd.R_far (p := ⟨gb101, 0, none⟩) (Kd.R_mono HO105.out (fun k_ hk => (⟨hk, hk.1⟩ : _ ∧ k_ ≠ gb101))) (fun _ hk => hk.2) (.int .i64 t102)) (fun _ hk => hk.2) (.slice Ao46 t103.length co46)) (fun _ hk => trivial), by repeat (first | (with_reducible first | exact HB.out | apply below_alloc | apply pw_below_drewN | apply below_drew1 | refine below_set ?_ GE101.out | refine below_set ?_ GE107.out) | exact HB.out)⟩


def spec_l1In.f (a0 : Int) (a1 : Int) (a2 : Int) : Option (Bool) := if a0 ≥ a1 then (some (decide (a0 ≤ a2))) else (some false)
set_option maxHeartbeats 8000000 in
set_option maxRecDepth 100000 in
theorem spec_l1In.calls (a0 : Int) (a1 : Int) (a2 : Int) (r : Bool) (w : World) (h : spec_l1In.f a0 a1 a2 = some r) :
    Calls Tryd.prog 37 #[.int .i64 a0, .int .i64 a1, .int .i64 a2] w fun e w' => e = .returned (.bool r) ∧ Drawn0 w w' := by
  have H : (if a0 ≥ a1 then (some (decide (a0 ≤ a2))) else (some false)) = some r := h
  clear h
  by_cases c4 : a0 ≥ a1
  · rw [if_pos c4] at H
    have c4b0 : decide (a1 ≤ a0) = true := decide_eq_true c4
    clear c4
    obtain rfl := Option.some.inj H
    go_enter Tryd.func37, Tryd.ntmps37
    go_wp2
    go_ret
    exact ⟨by first | rfl | (simp; done) | (simp [*]; done), by repeat (first | exact Drawn0.refl _ | apply Drawn0.step)⟩
  · rw [if_neg c4] at H
    have c4b0 : decide (a1 ≤ a0) = false := decide_eq_false c4
    clear c4
    obtain rfl := Option.some.inj H
    go_enter Tryd.func37, Tryd.ntmps37
    go_wp2
    go_ret
    exact ⟨by first | rfl | (simp; done) | (simp [*]; done), by repeat (first | exact Drawn0.refl _ | apply Drawn0.step)⟩

end Go.Proofs.YtlkjikknofmcdaaDoor.G
