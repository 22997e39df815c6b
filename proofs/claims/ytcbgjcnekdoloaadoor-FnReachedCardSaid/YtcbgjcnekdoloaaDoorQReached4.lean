/- Part 4 of 5 of the proof that the law FnReachedCardSaid holds: for every input that can be read the call returns true and leaves its arguments as they were; no condition but those each theorem names. -/
import Derived.Test.YtcbgjcnekdoloaaDoorQReachedW1
import Derived.Test.YtcbgjcnekdoloaaDoorQReached1
import Derived.Test.YtcbgjcnekdoloaaDoorQReached2
import Derived.Test.YtcbgjcnekdoloaaDoorQReached3
namespace Go.Proofs.YtcbgjcnekdoloaaDoor.G
open Go.RowKit Go.Proofs.YtcbgjcnekdoloaaDoorW.PrintWords Go.Proofs.YtcbgjcnekdoloaaDoorW.PrintLast Go.Proofs.YtcbgjcnekdoloaaDoorW.PrintMore Go.Proofs.YtcbgjcnekdoloaaDoor.PlayL Go.Proofs.YtcbgjcnekdoloaaDoor.HeapL Go.Proofs.YtcbgjcnekdoloaaDoor.EvL Go.Proofs.YtcbgjcnekdoloaaDoor.Short
set_option linter.unusedVariables false
set_option linter.unusedSimpArgs false

theorem in_f (A : Int) (n : Nat) : spec_l1In.f A 0 ((n : Int) - 1) = some (decide (0 ≤ A ∧ A < (n : Int))) := by
 unfold spec_l1In.f
 split
 ·rename_i h
  exact congrArg some (decide_eq_decide.mpr (by omega))
 ·rename_i h
  rw [decide_eq_false (by omega)]
theorem root_in {s : Pl} (hF : Fine s) {A : Int} (h : 0 ≤ A ∧ A < (s.rs.length : Int)) : 0 ≤ rd s.rs A ∧ rd s.rs A < (s.cs.length : Int) := by
 have hro := (good_parts hF.good).2.2.2.2
 refine of_decide_eq_true (List.all_eq_true.mp hro _ ?_)
 unfold rd
 rw [List.getD_eq_getElem?_getD, List.getElem?_eq_getElem (by omega)]
 exact List.getElem_mem _
theorem B_cell {W : World} {gb : Nat} {x0 x1 x2 : Value} {ty : TypeId} (h : W.heap[gb]? = some (.cells #[x0, x1, x2] ty (0, 0))) : W.cell? ⟨gb, 0, none⟩ = some x0 ∧ W.cell? ⟨gb, 1, none⟩ = some x1 ∧ W.cell? ⟨gb, 2, none⟩ = some x2 :=
 ⟨(blk_cell h 0).trans rfl, (blk_cell h 1).trans rfl, (blk_cell h 2).trans rfl⟩
def spec_l7S_op.T13 : Bool × List (List Nat × List Nat) := (true, [([], []), ([0], [0]), ([1], [1]), ([2], [2]), ([3], [3]), ([], []), ([5], [5]), ([6], [6]), ([7], [7]), ([8], [8]), ([], []), ([10], [10]), ([9, 11], [9, 11]), ([12], [12]), ([4, 13], [4, 13]), ([14], [14]), ([], []), ([16, 15, 0, 1, 2, 3, 4, 5, 6, 7, 8, 9, 10, 11, 12, 13, 14, 15, 16], [15, 16])])
def spec_l7S_op.B13 : List Nat := [0, 1, 3, 7, 15, 0, 32, 96, 224, 480, 0, 1024, 4064, 8160, 16383, 32767, 0, 131071]
theorem spec_l7S_op.tab13 : rtab .any (opsOf Tryd.f68 13) = spec_l7S_op.T13 := by kernel_rfl
theorem spec_l7S_op.bits13 : waitsOk spec_l7S_op.T13.2 spec_l7S_op.B13 = true := by kernel_rfl
def spec_l7S_op.T20 : Bool × List (List Nat × List Nat) := (true, [([], []), ([], []), ([], []), ([2], [2]), ([3], [3]), ([4], [4]), ([5], [5]), ([], []), ([7], [7]), ([6, 8], [6, 8]), ([1, 9], [1, 9]), ([], []), ([11], [11]), ([12], [12]), ([13], [13]), ([14], [14]), ([], []), ([16], [16]), ([17], [17]), ([15, 18], [15, 18]), ([10, 19, 10], [10, 19]), ([0, 0, 1, 2, 3, 4, 5, 6, 7, 8, 9, 10, 11, 12, 13, 14, 15, 16, 17, 18, 19, 20], [0]), ([21, 0, 1, 2, 3, 4, 5, 6, 7, 8, 9, 10, 11, 12, 13, 14, 15, 16, 17, 18, 19, 20], [21]), ([22, 0, 1, 2, 3, 4, 5, 6, 7, 8, 9, 10, 11, 12, 13, 14, 15, 16, 17, 18, 19, 20], [22]), ([23, 20, 20, 0, 1, 2, 3, 4, 5, 6, 7, 8, 9, 10, 11, 12, 13, 14, 15, 16, 17, 18, 19, 20], [20, 23])])
def spec_l7S_op.B20 : List Nat := [0, 0, 0, 4, 12, 28, 60, 0, 128, 508, 1022, 0, 2048, 6144, 14336, 30720, 0, 65536, 196608, 522240, 1048574, 2097151, 4194303, 8388607, 16777215]
theorem spec_l7S_op.tab20 : rtab .any (opsOf Tryd.f68 20) = spec_l7S_op.T20 := by kernel_rfl
theorem spec_l7S_op.bits20 : waitsOk spec_l7S_op.T20.2 spec_l7S_op.B20 = true := by kernel_rfl
def spec_l7S_op.T23 : Bool × List (List Nat × List Nat) := (true, [([], []), ([0], [0]), ([1], [1]), ([2], [2]), ([3], [3]), ([], []), ([5], [5]), ([6], [6]), ([7], [7]), ([8], [8]), ([], []), ([10], [10]), ([9, 11], [9, 11]), ([12], [12]), ([4, 13], [4, 13]), ([14, 14, 0, 1, 2, 3, 4, 5, 6, 7, 8, 9, 10, 11, 12, 13, 14], [14])])
def spec_l7S_op.B23 : List Nat := [0, 1, 3, 7, 15, 0, 32, 96, 224, 480, 0, 1024, 4064, 8160, 16383, 32767]
theorem spec_l7S_op.tab23 : rtab .any (opsOf Tryd.f68 23) = spec_l7S_op.T23 := by kernel_rfl
theorem spec_l7S_op.bits23 : waitsOk spec_l7S_op.T23.2 spec_l7S_op.B23 = true := by kernel_rfl
def spec_l7S_op.T15 : Bool × List (List Nat × List Nat) := (true, [([], []), ([], []), ([1], [1]), ([2], [2]), ([3], [3]), ([4], [4]), ([], []), ([6], [6]), ([7], [7]), ([5, 8], [5, 8]), ([0, 0, 1, 2, 3, 4, 5, 6, 7, 8, 9], [0]), ([10, 0, 1, 2, 3, 4, 5, 6, 7, 8, 9], [10]), ([11, 0, 1, 2, 3, 4, 5, 6, 7, 8, 9], [11]), ([12, 9, 9, 0, 1, 2, 3, 4, 5, 6, 7, 8, 9], [9, 12])])
def spec_l7S_op.B15 : List Nat := [0, 0, 2, 6, 14, 30, 0, 64, 192, 510, 1023, 2047, 4095, 8191]
theorem spec_l7S_op.tab15 : rtab .any (opsOf Tryd.f68 15) = spec_l7S_op.T15 := by kernel_rfl
theorem spec_l7S_op.bits15 : waitsOk spec_l7S_op.T15.2 spec_l7S_op.B15 = true := by kernel_rfl
def spec_l7S_op.T17 : Bool × List (List Nat × List Nat) := (true, [([], []), ([], []), ([1], [1]), ([2], [2]), ([3], [3]), ([4], [4]), ([], []), ([6], [6]), ([7], [7]), ([5, 8], [5, 8]), ([0, 0, 1, 2, 3, 4, 5, 6, 7, 8, 9], [0]), ([10, 0, 1, 2, 3, 4, 5, 6, 7, 8, 9], [10]), ([11, 0, 1, 2, 3, 4, 5, 6, 7, 8, 9], [11]), ([12, 9, 9, 0, 1, 2, 3, 4, 5, 6, 7, 8, 9], [9, 12])])
def spec_l7S_op.B17 : List Nat := [0, 0, 2, 6, 14, 30, 0, 64, 192, 510, 1023, 2047, 4095, 8191]
theorem spec_l7S_op.tab17 : rtab .any (opsOf Tryd.f68 17) = spec_l7S_op.T17 := by kernel_rfl
theorem spec_l7S_op.bits17 : waitsOk spec_l7S_op.T17.2 spec_l7S_op.B17 = true := by kernel_rfl
theorem cut_take {A2 : Option Addr} {c2 : Nat} {rs : List Int} {j : Int} (h0 : 0 ≤ j) (h1 : j ≤ (rs.length : Int)) (hc : rs.length ≤ c2) :
  ∃ ys, ys = rs.take j.toNat ∧ (∀ W : World, (Instr.slice 23 (.slice A2 rs.length c2) none (some (.int .i64 j)) none).run Tryd.prog W = .ok (.slice A2 ys.length c2) W) ∧ ∀ W : World, (Kd.int .i64).C W A2 rs.length rs → (Kd.int .i64).C W A2 ys.length ys := by
 obtain ⟨i0, hi0, _, hsz, _⟩ := info_parts info3
 have h := cut_to (P := Tryd.prog) 23 3 .i64 Tryd.underlying23 hi0 A2 rs.length c2 j h0 h1 hc
 refine ⟨rs.take j.toNat, rfl, ?_, fun W hW => Kd.C_take hW (by omega)⟩
 rw [show (rs.take j.toNat).length = j.toNat by rw [List.length_take]; omega]
 exact h
theorem cut_drop {A2 : Option Addr} {c2 : Nat} {rs : List Int} {j : Int} (h0 : 0 ≤ j) (h1 : j ≤ (rs.length : Int)) (hc : rs.length ≤ c2) :
  ∃ A9 c9 zs, zs = rs.drop j.toNat ∧ (∀ W : World, (Instr.slice 23 (.slice A2 rs.length c2) (some (.int .i64 j)) none none).run Tryd.prog W = .ok (.slice A9 zs.length c9) W) ∧ ∀ W : World, (Kd.int .i64).C W A2 rs.length rs → (Kd.int .i64).C W A9 zs.length zs := by
 obtain ⟨i0, hi0, _, hsz, _⟩ := info_parts info3
 have h := cut_from (P := Tryd.prog) 23 3 .i64 Tryd.underlying23 hi0 1 hsz A2 rs.length c2 j h0 h1
 refine ⟨_, c2 - j.toNat, rs.drop j.toNat, rfl, ?_, fun W hW => Kd.C_drop (c := c2) hW (by omega) hc⟩
 rw [List.length_drop]
 exact h
set_option maxHeartbeats 8000000 in
set_option maxRecDepth 100000 in
theorem spec_l7S_op.calls (k g : Nat) (s t : Pl) (nur : Int) (out : ByteArray) (kd A B : Int) (wb w : World) (hI : IsL wb w g s nur out) (hF : Fine s) (ho : out.size ≤ 1000000) (h : opF k 200 nur s kd A B = some t) :
  Calls Tryd.prog 68 #[.pointer (some ⟨g, 0, none⟩), .agg #[.int .i64 kd, .int .i64 A, .int .i64 B]] w fun e w' => e = .returned (.tuple #[]) ∧ ∃ out', IsL wb w' g t nur out' ∧ out'.size ≤ out.size + 505 := by
 have HI := aK hI
 clear hI
 have HF := aK hF
 clear hF
 have HO := aK ho
 clear ho
 have HL := aK (good_parts HF.out.good)
 unfold opF at h
 have H := aK h
 clear h
 obtain ⟨ba, hba⟩ : ∃ x, x = decide (0 ≤ A ∧ A < (s.rs.length : Int)) := ⟨_, rfl⟩
 obtain ⟨bb, hbb⟩ : ∃ x, x = decide (0 ≤ B ∧ B < (s.rs.length : Int)) := ⟨_, rfl⟩
 have HA := aK hba
 have HB := aK hbb
 clear hba hbb
 go_enter Tryd.func68, Tryd.ntmps68
 go_upto_region 1 with (first
  | ((with_reducible refine gate_dst (N := 3) rfl ?_); refine bE (N := 3) (cs := #[.int .i64 kd, .int .i64 A, .int .i64 B]) (t := 102) ?_; intro gb hg w1 hbox hb; have n0_ := aK (HI.out.below hb); have BK := aK hbox; clear HI; have HI := n0_; clear n0_; clear hb hbox hg))
 obtain ⟨A1, c1, A2, c2, hv⟩ := HI.out.openv
 have HV := aK hv
 clear hv HI
 obtain ⟨q0, q1, q2, q3, q4, q5, q6, q7⟩ := L_cell HV.out.blk
 obtain ⟨b0, b1, b2⟩ := B_cell BK.out
 go_upto_region 5 with (first
  | ((with_reducible refine gate_callee (f := 20) rfl ?_); refine goesL_ (some 19) rfl rfl Tryd.func20 (by kernel_rfl) rfl #[.int .i64 A, .int .i64 0, .int .i64 (wrap64 ((s.rs.length : Int) - 1))] rfl tA ?_; (with_reducible refine (spec_l1In.calls _ _ _ ba _ ?sE).mono ?_); (case sE => rw [w64 (by have := HL.out.2.1; omega) (by have := HL.out.2.1; omega)]; rw [HA.out]; exact in_f A s.rs.length); rintro _ w2 ⟨rfl, hd⟩; refine ⟨_, rfl, ?_⟩; have n_ := aJ (aK (HV.out.below hd.below)) (aK (blk_below BK.out hd.below)); clear HV BK q0 q1 q2 q3 q4 q5 q6 q7 b0 b1 b2 hd; obtain ⟨HV, BK⟩ := n_; obtain ⟨q0, q1, q2, q3, q4, q5, q6, q7⟩ := L_cell HV.out.blk; obtain ⟨b0, b1, b2⟩ := B_cell BK.out)
  | ((with_reducible refine gate_callee (f := 20) rfl ?_); refine goesL_ (some 24) rfl rfl Tryd.func20 (by kernel_rfl) rfl #[.int .i64 B, .int .i64 0, .int .i64 (wrap64 ((s.rs.length : Int) - 1))] rfl tA ?_; (with_reducible refine (spec_l1In.calls _ _ _ bb _ ?sE).mono ?_); (case sE => rw [w64 (by have := HL.out.2.1; omega) (by have := HL.out.2.1; omega)]; rw [HB.out]; exact in_f B s.rs.length); rintro _ w3 ⟨rfl, hd⟩; refine ⟨_, rfl, ?_⟩; have n_ := aJ (aK (HV.out.below hd.below)) (aK (blk_below BK.out hd.below)); clear HV BK q0 q1 q2 q3 q4 q5 q6 q7 b0 b1 b2 hd; obtain ⟨HV, BK⟩ := n_; obtain ⟨q0, q1, q2, q3, q4, q5, q6, q7⟩ := L_cell HV.out.blk; obtain ⟨b0, b1, b2⟩ := B_cell BK.out))
 by_cases k1 : kd = 1
 ·subst k1
  have e := H.out
  rw [if_pos rfl] at e
  clear H
  go_wp2_with (first
   | ((with_reducible refine gate_callee (f := 76) rfl ?_); refine goesL_ (some 32) rfl rfl Tryd.func76 (by kernel_rfl) rfl #[.pointer (some ⟨g, 0, none⟩), .bool false, .int .i64 A, .int .i64 0, .int .i64 0] rfl tA ?_; (with_reducible refine (spec_l7S_cell.calls k g s t nur out false A 0 0 wb _ ?s1 HF.out ?sE).mono ?_); (case s1 => exact HV.out.isL); (case sE => exact e); rintro _ w4 ⟨rfl, hI4⟩; refine ⟨_, rfl, ?_⟩))
  (try simp only [Exit.inBlock, Exit.then])
  refine bodyPost_end (results_none rfl _ _ _) rfl ?_
  exact ⟨rfl, out, hI4, by omega⟩
 by_cases k2 : kd = 2
 ·subst k2
  have e := H.out
  rw [if_neg (by decide), if_pos rfl] at e
  clear H
  cases ba with
  | false =>
   rw [if_neg (fun h => of_decide_eq_false HA.out.symm h.1)] at e
   obtain rfl := Option.some.inj e
   go_wp2
   (try simp only [Exit.inBlock, Exit.then])
   refine bodyPost_end (results_none rfl _ _ _) rfl ?_
   exact ⟨rfl, out, by repeat (first | exact HV.out.isL | apply IsL.drewN | apply IsL.drew), by omega⟩
  | true =>
   cases bb with
   | false =>
    rw [if_neg (fun h => of_decide_eq_false HB.out.symm h.2)] at e
    obtain rfl := Option.some.inj e
    go_wp2
    (try simp only [Exit.inBlock, Exit.then])
    refine bodyPost_end (results_none rfl _ _ _) rfl ?_
    exact ⟨rfl, out, by repeat (first | exact HV.out.isL | apply IsL.drewN | apply IsL.drew), by omega⟩
   | true =>
    rw [if_pos ⟨of_decide_eq_true HA.out.symm, of_decide_eq_true HB.out.symm⟩] at e
    go_wp2_with (first
     | ((with_reducible refine gate_callee (f := 76) rfl ?_); refine goesL_ (some 44) rfl rfl Tryd.func76 (by kernel_rfl) rfl #[.pointer (some ⟨g, 0, none⟩), .bool true, .int .i64 0, .int .i64 A, .int .i64 B] rfl tA ?_; (with_reducible refine (spec_l7S_cell.calls k g s t nur out true 0 A B wb _ ?s1 HF.out ?sE).mono ?_); (case s1 => exact HV.out.isL); (case sE => exact e); rintro _ w4 ⟨rfl, hI4⟩; refine ⟨_, rfl, ?_⟩))
    (try simp only [Exit.inBlock, Exit.then])
    refine bodyPost_end (results_none rfl _ _ _) rfl ?_
    exact ⟨rfl, out, hI4, by omega⟩
 by_cases k3 : kd = 3
 ·subst k3
  have e := H.out
  rw [if_neg (by decide), if_neg (by decide), if_pos (by decide)] at e
  clear H
  cases ba with
  | false =>
   rw [if_pos (.inl (of_decide_eq_false HA.out.symm))] at e
   obtain rfl := Option.some.inj e
   go_wp2
   (try simp only [Exit.inBlock, Exit.then])
   refine bodyPost_ret (results_none rfl _ _ _) rfl ?_
   exact ⟨rfl, out, by repeat (first | exact HV.out.isL | apply IsL.drewN | apply IsL.drew), by omega⟩
  | true =>
   have hA := of_decide_eq_true HA.out.symm
   by_cases h60 : s.rs.length = 60
   ·rw [if_pos (.inr h60)] at e
    have z60 : decide ((s.rs.length : Int) = 60) = true := decide_eq_true (by omega)
    clear hA
    obtain rfl := Option.some.inj e
    go_wp2
    (try simp only [Exit.inBlock, Exit.then])
    refine bodyPost_ret (results_none rfl _ _ _) rfl ?_
    exact ⟨rfl, out, by repeat (first | exact HV.out.isL | apply IsL.drewN | apply IsL.drew), by omega⟩
   ·rw [if_neg (fun h => h.elim (fun h => h hA) h60)] at e
    have z60 : decide ((s.rs.length : Int) = 60) = false := decide_eq_false (by omega)
    have hr := root_in HF.out hA
    obtain ⟨ad, ea, hx⟩ := Kd.at_int (Kd.R_reads' HV.out.2.2.2).2.2 A hA.1 hA.2
    obtain ⟨ac, ec, hy0, hy1, hy2, hy3⟩ := at_T61 (Kd.R_reads' HV.out.2.2.1).2.2 (rd s.rs A) hr.1 hr.2
    subst ea
    subst ec
    replace e : (if (rd_T61 s.cs (rd s.rs A)).f0 = true then some s else if (3 : Int) = 3 then some ⟨s.old, s.cs, s.rs ++ [(rd_T61 s.cs (rd s.rs A)).f2], s.full⟩ else some ⟨s.old, s.cs, s.rs ++ [(rd_T61 s.cs (rd s.rs A)).f3], s.full⟩) = some t := e
    generalize rd_T61 s.cs (rd s.rs A) = x at e hy0 hy1 hy2 hy3
    obtain ⟨xl, xn, xa, xb⟩ := x
    dsimp only at e hy0 hy1 hy2 hy3
    have p1 := eq_true hA.1
    have p2 := eq_true hA.2
    have p3 := eq_true hr.1
    have p4 := eq_true hr.2
    clear hr hA
    have E := aK e
    clear e
    go_upto_region 13 with fail
    refine start_ (n := 18) (S := fun w' => w'.cell? ⟨g, 1, none⟩ = some (.slice (some ac) s.cs.length c1) ∧ w'.cell? ⟨g, 2, none⟩ = some (.slice (some ad) s.rs.length c2) ∧ w'.cell? ⟨gb, 1, none⟩ = some (.int .i64 A) ∧ w'.cell? (ad.add A.toNat) = some (.int .i64 (rd s.rs A)) ∧ w'.cell? (ac.add ((rd s.rs A).toNat * 4)) = some (.bool xl) ∧ w'.cell? ⟨(ac.add ((rd s.rs A).toNat * 4)).block, (ac.add ((rd s.rs A).toNat * 4)).off + 1, none⟩ = some (.int .i64 xn) ∧ w'.cell? ⟨(ac.add ((rd s.rs A).toNat * 4)).block, (ac.add ((rd s.rs A).toNat * 4)).off + 2, none⟩ = some (.int .i64 xa) ∧ w'.cell? ⟨(ac.add ((rd s.rs A).toNat * 4)).block, (ac.add ((rd s.rs A).toNat * 4)).off + 3, none⟩ = some (.int .i64 xb)) (ds := [17]) (bs 0 18) (by kernel_rfl) rfl rfl ⟨q1, q2, b1, hx, hy0, hy1, hy2, hy3⟩ (fun hHeld => ?_); refine with_tabW spec_l7S_op.tab13 spec_l7S_op.bits13 (fun HT_ HW_ => ?_)
    have n_ := aJ (aK HV.out.drew) (aK (blk_drew BK.out))
    clear HV BK q0 q1 q2 q3 q4 q5 q6 q7 b0 b1 b2 hx hy0 hy1 hy2 hy3
    obtain ⟨HV, BK⟩ := n_
    generalize w3.drew = w4 at HV BK hHeld ⊢
    refine pS (i := 0) (N := some 54) (bs 1 17) (aO HT_) ?_
    refine pS (i := 1) (N := some 55) (bs 2 16) (aO HT_) ?_
    refine pS (i := 2) (N := some 56) (bs 3 15) (aO HT_) ?_
    refine pS (i := 3) (N := some 57) (bs 4 14) (aO HT_) ?_
    refine pS (i := 5) (N := some 59) #[true, true, true, true, false, true, false, false, false, false, false, false, false, false, false, false, false, false] (aO HT_) ?_
    refine pS (i := 6) (N := some 60) #[true, true, true, true, false, true, true, false, false, false, false, false, false, false, false, false, false, false] (aO HT_) ?_
    refine pS (i := 7) (N := some 61) #[true, true, true, true, false, true, true, true, false, false, false, false, false, false, false, false, false, false] (aO HT_) ?_
    refine pS (i := 8) (N := some 62) #[true, true, true, true, false, true, true, true, true, false, false, false, false, false, false, false, false, false] (aO HT_) ?_
    refine pS (i := 10) (N := some 64) #[true, true, true, true, false, true, true, true, true, false, true, false, false, false, false, false, false, false] (aO HT_) ?_
    refine take_ (i := 4) (N := some 58) (v := ?_) (a' := ?_) #[true, true, true, true, true, true, true, true, true, false, true, false, false, false, false, false, false, false] rfl rfl (take_ofW HT_.out HW_.out (by kernel_rfl)) (fun _ _ _ h => h) (Or.inl ⟨by rfl, ?_⟩) hHeld ?_ ?_
    rotate_left
    ·rintro w' ⟨s0, s1, s2, s3, s4, s5, s6, s7⟩
     go_simp
     with_reducible rfl
    rotate_left
    ·simp only [sP, i64_w, i32_w]
     rfl
    refine take_ (i := 9) (N := some 63) (v := ?_) (a' := ?_) (bs 11 7) rfl rfl (take_ofW HT_.out HW_.out (by kernel_rfl)) (fun _ _ _ h => h) (Or.inl ⟨by rfl, ?_⟩) hHeld ?_ ?_
    rotate_left
    ·rintro w' ⟨s0, s1, s2, s3, s4, s5, s6, s7⟩
     go_simp
     with_reducible rfl
    rotate_left
    ·simp only [sP, i64_w, i32_w]
     rfl
    refine take_ (i := 11) (N := some 65) (v := ?_) (a' := ?_) (bs 12 6) rfl rfl (take_ofW HT_.out HW_.out (by kernel_rfl)) (fun _ _ _ h => h) (Or.inl ⟨by rfl, ?_⟩) hHeld ?_ ?_
    rotate_left
    ·rintro w' ⟨s0, s1, s2, s3, s4, s5, s6, s7⟩
     go_simp
     with_reducible rfl
    rotate_left
    ·simp only [sP, i64_w, i32_w]
     rfl
    refine pS (i := 12) (N := some 66) (bs 13 5) (aO HT_) ?_
    refine take_ (i := 13) (N := some 67) (v := ?_) (a' := ?_) (bs 14 4) rfl rfl (take_ofW HT_.out HW_.out (by kernel_rfl)) (fun _ _ _ h => h) (Or.inl ⟨by rfl, ?_⟩) hHeld ?_ ?_
    rotate_left
    ·rintro w' ⟨s0, s1, s2, s3, s4, s5, s6, s7⟩
     go_simp
     with_reducible rfl
    rotate_left
    ·simp only [sP, i64_w, i32_w]
     rfl
    refine pS (i := 14) (N := some 68) (bs 15 3) (aO HT_) ?_
    refine take_ (i := 15) (N := some 69) (v := ?_) (a' := ?_) (bs 16 2) rfl rfl (take_ofW HT_.out HW_.out (by kernel_rfl)) (fun _ _ _ h => h) (Or.inl ⟨by rfl, ?_⟩) hHeld ?_ ?_
    rotate_left
    ·rintro w' ⟨s0, s1, s2, s3, s4, s5, s6, s7⟩
     go_simp
     with_reducible rfl
    rotate_left
    ·simp only [sP, i64_w, i32_w]
     rfl
    refine one_ (i := 16) (N := some 7) (bs 17 1) rfl rfl (one_of HT_.out (by kernel_rfl)) (by decide) (fun K hK => ?_)
    refine value_ (w1 := ?_) (v := ?_) (by rfl) rfl ?_ ?_
    rotate_left 2
    ·go_simp
     constructor
     ·rfl
     ·rfl
    have bl := below_alloc (Below.refl w4.heap.size w4) (.cells #[.bool false, .int .i64 0, .int .i64 0, .int .i64 0] 61 (0, 0))
    have n0_ := aK (HV.out.isL.box rfl bl)
    have n1_ := aK (heap_alloc_new w4 (.cells #[.bool false, .int .i64 0, .int .i64 0, .int .i64 0] 61 (0, 0)))
    have n2_ := aK (blk_below BK.out bl)
    have n3_ := aK (Nat.ne_of_lt (blk_lt BK.out))
    clear bl
    obtain ⟨s0, s1, s2, s3, s4, s5, s6, s7⟩ := hHeld
    refine hK.out _ _ ⟨(World.cell?_alloc_lt _ _ _ (World.block_lt_of_cell? _ _ s0)).trans s0, (World.cell?_alloc_lt _ _ _ (World.block_lt_of_cell? _ _ s1)).trans s1, (World.cell?_alloc_lt _ _ _ (World.block_lt_of_cell? _ _ s2)).trans s2, (World.cell?_alloc_lt _ _ _ (World.block_lt_of_cell? _ _ s3)).trans s3, (World.cell?_alloc_lt _ _ _ (World.block_lt_of_cell? _ _ s4)).trans s4, (World.cell?_alloc_lt _ _ _ (World.block_lt_of_cell? _ _ s5)).trans s5, (World.cell?_alloc_lt _ _ _ (World.block_lt_of_cell? _ _ s6)).trans s6, (World.cell?_alloc_lt _ _ _ (World.block_lt_of_cell? _ _ s7)).trans s7⟩ (fun hHeld => ?_)
    clear s0 s1 s2 s3 s4 s5 s6 s7 hHeld HV BK
    have HI := n0_
    have BC := n1_
    have BK := n2_
    have NG : Aside0 (gb ≠ w4.heap.size) := n3_
    clear n0_ n1_ n2_ n3_
    clear hK K
    refine norm_ (a' := ?_) ?_ ?_
    rotate_left
    ·show Act.put _ (some 7) _ = _
     simp only [sP, i64_w, i32_w]
     rfl
    generalize w4.alloc (.cells #[.bool false, .int .i64 0, .int .i64 0, .int .i64 0] 61 (0, 0)) = w5 at HI BC BK ⊢
    generalize w4.heap.size = gc at HI BC NG ⊢
    have c0 : w5.cell? ⟨gc, 0, none⟩ = some (.bool false) := (blk_cell BC.out 0).trans rfl
    have c1 : w5.cell? ⟨gc, 1, none⟩ = some (.int .i64 0) := (blk_cell BC.out 1).trans rfl
    have c2 : w5.cell? ⟨gc, 2, none⟩ = some (.int .i64 0) := (blk_cell BC.out 2).trans rfl
    have c3 : w5.cell? ⟨gc, 3, none⟩ = some (.int .i64 0) := (blk_cell BC.out 3).trans rfl
    have f0 := blk_frozen BC.out 0
    have f1 := blk_frozen BC.out 1
    have f2 := blk_frozen BC.out 2
    have f3 := blk_frozen BC.out 3
    refine last_ (i := 17) (N := none) (bs 18 0) rfl rfl (one_of HT_.out (by kernel_rfl)) (by decide) (fun K hK => ?_)
    refine skip_ (w1 := ?_) (by rfl) rfl ?_ ?_
    rotate_left
    ·go_simp
     rfl
    refine hK.out _ _ ?_
    clear hK K
    refine done_ (done_of HT_.out (by kernel_rfl)) ?_
    have n0_ := IsLB.put4 HI.out BC.out (.bool xl) (.int .i64 xn) (.int .i64 xa) (.int .i64 xb)
    have n1_ := blk_far (p := ⟨gc, 3, none⟩) (blk_far (p := ⟨gc, 2, none⟩) (blk_far (p := ⟨gc, 1, none⟩) (blk_far (p := ⟨gc, 0, none⟩) BK.out NG.out (.bool xl)) NG.out (.int .i64 xn)) NG.out (.int .i64 xa)) NG.out (.int .i64 xb)
    clear HI BC BK NG c0 c1 c2 c3 f0 f1 f2 f3
    generalize (((w5.setCell ⟨gc, 0, none⟩ (.bool xl)).setCell ⟨gc, 1, none⟩ (.int .i64 xn)).setCell ⟨gc, 2, none⟩ (.int .i64 xa)).setCell ⟨gc, 3, none⟩ (.int .i64 xb) = w6 at n0_ n1_ ⊢
    have HI := aK n0_.1
    have BC := aK n0_.2
    have BK := aK n1_
    clear n0_ n1_
    obtain ⟨A3, c3, A4, c4, hv⟩ := HI.out.isL.openv
    have HV := aK hv
    clear hv
    obtain ⟨q0, q1, q2, q3, q4, q5, q6, q7⟩ := L_cell HV.out.blk
    obtain ⟨b0, b1, b2⟩ := B_cell BK.out
    have c0 : w6.cell? ⟨gc, 0, none⟩ = some (.bool xl) := (blk_cell BC.out 0).trans rfl
    have y2 : w6.cell? ⟨gc, 2, none⟩ = some (.int .i64 xa) := (blk_cell BC.out 2).trans rfl
    have y3 : w6.cell? ⟨gc, 3, none⟩ = some (.int .i64 xb) := (blk_cell BC.out 3).trans rfl
    cases xl with
    | true =>
     have e := E.out
     rw [if_pos rfl] at e
     obtain rfl := Option.some.inj e
     go_wp2
     (try simp only [Exit.inBlock, Exit.then])
     refine bodyPost_end (results_none rfl _ _ _) rfl ?_
     exact ⟨rfl, out, HV.out.isL, by omega⟩
    | false =>
     have e := E.out
     rw [if_neg (by decide), if_pos rfl] at e
     have ET := aK (Option.some.inj e).symm
     clear e E
     go_upto_region 15 with fail
     refine start_ (n := 14) (S := fun w' => w'.cell? ⟨g, 2, none⟩ = some (.slice A4 s.rs.length c4) ∧ w'.cell? ⟨gc, 2, none⟩ = some (.int .i64 xa)) (ds := [9, 13]) (bs 0 14) (by kernel_rfl) rfl rfl ⟨q2, y2⟩ (fun hHeld => ?_); refine with_tabW spec_l7S_op.tab15 spec_l7S_op.bits15 (fun HT_ HW_ => ?_)
     have n_ := aJ (aK HV.out.drew) (aK (blk_drew BC.out))
     clear HV HI BK BC q0 q1 q2 q3 q4 q5 q6 q7 b0 b1 b2 c0 y2 y3
     obtain ⟨HV, BC⟩ := n_
     generalize w6.drew = w7 at HV BC hHeld ⊢
     refine pS (i := 0) (N := some 78) (bs 1 13) (aO HT_) ?_
     refine pS (i := 1) (N := some 79) (bs 2 12) (aO HT_) ?_
     refine pS (i := 2) (N := some 80) (bs 3 11) (aO HT_) ?_
     refine pS (i := 3) (N := some 81) (bs 4 10) (aO HT_) ?_
     refine pS (i := 4) (N := some 82) (bs 5 9) (aO HT_) ?_
     refine pS (i := 6) (N := some 84) #[true, true, true, true, true, false, true, false, false, false, false, false, false, false] (aO HT_) ?_
     refine take_ (i := 5) (N := some 83) (v := ?_) (a' := ?_) (bs 7 7) rfl rfl (take_ofW HT_.out HW_.out (by kernel_rfl)) (fun _ _ _ h => h) (Or.inl ⟨by rfl, ?_⟩) hHeld ?_ ?_
     rotate_left
     ·rintro w' ⟨s0, s1⟩
      go_simp
      with_reducible rfl
     rotate_left
     ·simp only [sP, i64_w, i32_w]
      rfl
     refine take_ (i := 7) (N := some 85) (v := ?_) (a' := ?_) (bs 8 6) rfl rfl (take_ofW HT_.out HW_.out (by kernel_rfl)) (fun _ _ _ h => h) (Or.inl ⟨by rfl, ?_⟩) hHeld ?_ ?_
     rotate_left
     ·rintro w' ⟨s0, s1⟩
      go_simp
      with_reducible rfl
     rotate_left
     ·simp only [sP, i64_w, i32_w]
      rfl
     refine one_ (i := 8) (N := some 86) (bs 9 5) rfl rfl (one_of HT_.out (by kernel_rfl)) (by decide) (fun K hK => ?_)
     refine value_ (w1 := ?_) (v := ?_) (by rfl) rfl ?_ ?_
     rotate_left 2
     ·go_simp
      constructor
      ·rfl
      ·rfl
     refine hK.out _ _ ⟨(blk_cell (blk_alloc HV.out.blk _) 2).trans rfl, (blk_cell (blk_alloc BC.out _) 2).trans rfl⟩ (fun hHeld => ?_)
     clear hK K
     refine norm_ (a' := ?_) ?_ ?_
     rotate_left
     ·show Act.put _ (some 86) _ = _
      simp only [sP, i64_w, i32_w]
      rfl
     refine last_ (i := 9) (N := some 87) (bs 10 4) rfl rfl (one_of HT_.out (by kernel_rfl)) (by decide) (fun K hK => ?_)
     refine Kd.R_append_step (Kd.int .i64) (w0 := w7) wb.heap.size (by rfl) (.tmp 83) (.tmp 86) 23 3 (.int .i64 0) 8 rfl Tryd.underlying23 info3 rfl (by decide) (by omega) (.slice A4 s.rs.length c4) s.rs xa [.int .i64 xa] (fun k_ => k_ ≠ g) (fun _ => False) rfl rfl rfl (fun _ hk => hk.elim) HV.out.fresh HV.out.2.2.2 (Below.refl _ _) HV.out.size (by have := HL.out.2.1; omega) ?_
     intro v8 w8 ho hb hg hat
     obtain ⟨rs2, hrs⟩ : ∃ y, y = s.rs ++ [xa] := ⟨_, rfl⟩
     rw [← hrs] at ho
     have HS := aK hrs
     clear hrs
     obtain ⟨A8, c8, rfl⟩ := Kd.R_slice ho
     have hG := HV.out.grown2 hg
     have HI : Aside0 (IsL wb (w8.setCell ⟨g, 2, none⟩ (.slice A8 rs2.length c8)) g ⟨s.old, s.cs, rs2, s.full⟩ nur out) := ⟨HV.out.put_roots hg ho⟩
     clear HV BC hHeld ho hb hg hat
     refine hK.out _ _ ?_
     clear hK K
     refine norm_ (a' := ?_) ?_ ?_
     rotate_left
     ·show Act.put _ (some 87) _ = _
      simp only [sP, i64_w, i32_w]
      rfl
     refine pS (i := 10) (N := some 88) (bs 11 3) (aO HT_) ?_
     refine pS (i := 11) (N := some 89) (bs 12 2) (aO HT_) ?_
     refine pS (i := 12) (N := some 90) (bs 13 1) (aO HT_) ?_
     refine last_ (i := 13) (N := none) (bs 14 0) rfl rfl (one_of HT_.out (by kernel_rfl)) (by decide) (fun K hK => ?_)
     have hs : w8.cell? ⟨g, 2, none⟩ = some (.slice A4 s.rs.length c4) := (blk_cell hG 2).trans rfl
     have hfs := blk_frozen hG 2
     refine skip_ (w1 := ?_) (by rfl) rfl ?_ ?_
     rotate_left
     ·go_simp
      rfl
     refine hK.out _ _ ?_
     clear hK K
     refine done_ (done_of HT_.out (by kernel_rfl)) ?_
     clear hs hfs hG
     try go_wp2
     (try simp only [Exit.inBlock, Exit.then])
     refine bodyPost_end (results_none rfl _ _ _) rfl ?_
     obtain rfl := ET.out
     rw [← HS.out]
     exact ⟨rfl, out, HI.out, by omega⟩
 by_cases k4 : kd = 4
 ·subst k4
  have e := H.out
  rw [if_neg (by decide), if_neg (by decide), if_pos (by decide)] at e
  clear H
  cases ba with
  | false =>
   rw [if_pos (.inl (of_decide_eq_false HA.out.symm))] at e
   obtain rfl := Option.some.inj e
   go_wp2
   (try simp only [Exit.inBlock, Exit.then])
   refine bodyPost_ret (results_none rfl _ _ _) rfl ?_
   exact ⟨rfl, out, by repeat (first | exact HV.out.isL | apply IsL.drewN | apply IsL.drew), by omega⟩
  | true =>
   have hA := of_decide_eq_true HA.out.symm
   by_cases h60 : s.rs.length = 60
   ·rw [if_pos (.inr h60)] at e
    have z60 : decide ((s.rs.length : Int) = 60) = true := decide_eq_true (by omega)
    clear hA
    obtain rfl := Option.some.inj e
    go_wp2
    (try simp only [Exit.inBlock, Exit.then])
    refine bodyPost_ret (results_none rfl _ _ _) rfl ?_
    exact ⟨rfl, out, by repeat (first | exact HV.out.isL | apply IsL.drewN | apply IsL.drew), by omega⟩
   ·rw [if_neg (fun h => h.elim (fun h => h hA) h60)] at e
    have z60 : decide ((s.rs.length : Int) = 60) = false := decide_eq_false (by omega)
    have hr := root_in HF.out hA
    obtain ⟨ad, ea, hx⟩ := Kd.at_int (Kd.R_reads' HV.out.2.2.2).2.2 A hA.1 hA.2
    obtain ⟨ac, ec, hy0, hy1, hy2, hy3⟩ := at_T61 (Kd.R_reads' HV.out.2.2.1).2.2 (rd s.rs A) hr.1 hr.2
    subst ea
    subst ec
    replace e : (if (rd_T61 s.cs (rd s.rs A)).f0 = true then some s else if (4 : Int) = 3 then some ⟨s.old, s.cs, s.rs ++ [(rd_T61 s.cs (rd s.rs A)).f2], s.full⟩ else some ⟨s.old, s.cs, s.rs ++ [(rd_T61 s.cs (rd s.rs A)).f3], s.full⟩) = some t := e
    generalize rd_T61 s.cs (rd s.rs A) = x at e hy0 hy1 hy2 hy3
    obtain ⟨xl, xn, xa, xb⟩ := x
    dsimp only at e hy0 hy1 hy2 hy3
    have p1 := eq_true hA.1
    have p2 := eq_true hA.2
    have p3 := eq_true hr.1
    have p4 := eq_true hr.2
    clear hr hA
    have E := aK e
    clear e
    go_upto_region 13 with fail
    refine start_ (n := 18) (S := fun w' => w'.cell? ⟨g, 1, none⟩ = some (.slice (some ac) s.cs.length c1) ∧ w'.cell? ⟨g, 2, none⟩ = some (.slice (some ad) s.rs.length c2) ∧ w'.cell? ⟨gb, 1, none⟩ = some (.int .i64 A) ∧ w'.cell? (ad.add A.toNat) = some (.int .i64 (rd s.rs A)) ∧ w'.cell? (ac.add ((rd s.rs A).toNat * 4)) = some (.bool xl) ∧ w'.cell? ⟨(ac.add ((rd s.rs A).toNat * 4)).block, (ac.add ((rd s.rs A).toNat * 4)).off + 1, none⟩ = some (.int .i64 xn) ∧ w'.cell? ⟨(ac.add ((rd s.rs A).toNat * 4)).block, (ac.add ((rd s.rs A).toNat * 4)).off + 2, none⟩ = some (.int .i64 xa) ∧ w'.cell? ⟨(ac.add ((rd s.rs A).toNat * 4)).block, (ac.add ((rd s.rs A).toNat * 4)).off + 3, none⟩ = some (.int .i64 xb)) (ds := [17]) (bs 0 18) (by kernel_rfl) rfl rfl ⟨q1, q2, b1, hx, hy0, hy1, hy2, hy3⟩ (fun hHeld => ?_); refine with_tabW spec_l7S_op.tab13 spec_l7S_op.bits13 (fun HT_ HW_ => ?_)
    have n_ := aJ (aK HV.out.drew) (aK (blk_drew BK.out))
    clear HV BK q0 q1 q2 q3 q4 q5 q6 q7 b0 b1 b2 hx hy0 hy1 hy2 hy3
    obtain ⟨HV, BK⟩ := n_
    generalize w3.drew = w4 at HV BK hHeld ⊢
    refine pS (i := 0) (N := some 54) (bs 1 17) (aO HT_) ?_
    refine pS (i := 1) (N := some 55) (bs 2 16) (aO HT_) ?_
    refine pS (i := 2) (N := some 56) (bs 3 15) (aO HT_) ?_
    refine pS (i := 3) (N := some 57) (bs 4 14) (aO HT_) ?_
    refine pS (i := 5) (N := some 59) #[true, true, true, true, false, true, false, false, false, false, false, false, false, false, false, false, false, false] (aO HT_) ?_
    refine pS (i := 6) (N := some 60) #[true, true, true, true, false, true, true, false, false, false, false, false, false, false, false, false, false, false] (aO HT_) ?_
    refine pS (i := 7) (N := some 61) #[true, true, true, true, false, true, true, true, false, false, false, false, false, false, false, false, false, false] (aO HT_) ?_
    refine pS (i := 8) (N := some 62) #[true, true, true, true, false, true, true, true, true, false, false, false, false, false, false, false, false, false] (aO HT_) ?_
    refine pS (i := 10) (N := some 64) #[true, true, true, true, false, true, true, true, true, false, true, false, false, false, false, false, false, false] (aO HT_) ?_
    refine take_ (i := 4) (N := some 58) (v := ?_) (a' := ?_) #[true, true, true, true, true, true, true, true, true, false, true, false, false, false, false, false, false, false] rfl rfl (take_ofW HT_.out HW_.out (by kernel_rfl)) (fun _ _ _ h => h) (Or.inl ⟨by rfl, ?_⟩) hHeld ?_ ?_
    rotate_left
    ·rintro w' ⟨s0, s1, s2, s3, s4, s5, s6, s7⟩
     go_simp
     with_reducible rfl
    rotate_left
    ·simp only [sP, i64_w, i32_w]
     rfl
    refine take_ (i := 9) (N := some 63) (v := ?_) (a' := ?_) (bs 11 7) rfl rfl (take_ofW HT_.out HW_.out (by kernel_rfl)) (fun _ _ _ h => h) (Or.inl ⟨by rfl, ?_⟩) hHeld ?_ ?_
    rotate_left
    ·rintro w' ⟨s0, s1, s2, s3, s4, s5, s6, s7⟩
     go_simp
     with_reducible rfl
    rotate_left
    ·simp only [sP, i64_w, i32_w]
     rfl
    refine take_ (i := 11) (N := some 65) (v := ?_) (a' := ?_) (bs 12 6) rfl rfl (take_ofW HT_.out HW_.out (by kernel_rfl)) (fun _ _ _ h => h) (Or.inl ⟨by rfl, ?_⟩) hHeld ?_ ?_
    rotate_left
    ·rintro w' ⟨s0, s1, s2, s3, s4, s5, s6, s7⟩
     go_simp
     with_reducible rfl
    rotate_left
    ·simp only [sP, i64_w, i32_w]
     rfl
    refine pS (i := 12) (N := some 66) (bs 13 5) (aO HT_) ?_
    refine take_ (i := 13) (N := some 67) (v := ?_) (a' := ?_) (bs 14 4) rfl rfl (take_ofW HT_.out HW_.out (by kernel_rfl)) (fun _ _ _ h => h) (Or.inl ⟨by rfl, ?_⟩) hHeld ?_ ?_
    rotate_left
    ·rintro w' ⟨s0, s1, s2, s3, s4, s5, s6, s7⟩
     go_simp
     with_reducible rfl
    rotate_left
    ·simp only [sP, i64_w, i32_w]
     rfl
    refine pS (i := 14) (N := some 68) (bs 15 3) (aO HT_) ?_
    refine take_ (i := 15) (N := some 69) (v := ?_) (a' := ?_) (bs 16 2) rfl rfl (take_ofW HT_.out HW_.out (by kernel_rfl)) (fun _ _ _ h => h) (Or.inl ⟨by rfl, ?_⟩) hHeld ?_ ?_
    rotate_left
    ·rintro w' ⟨s0, s1, s2, s3, s4, s5, s6, s7⟩
     go_simp
     with_reducible rfl
    rotate_left
    ·simp only [sP, i64_w, i32_w]
     rfl
    refine one_ (i := 16) (N := some 7) (bs 17 1) rfl rfl (one_of HT_.out (by kernel_rfl)) (by decide) (fun K hK => ?_)
    refine value_ (w1 := ?_) (v := ?_) (by rfl) rfl ?_ ?_
    rotate_left 2
    ·go_simp
     constructor
     ·rfl
     ·rfl
    have bl := below_alloc (Below.refl w4.heap.size w4) (.cells #[.bool false, .int .i64 0, .int .i64 0, .int .i64 0] 61 (0, 0))
    have n0_ := aK (HV.out.isL.box rfl bl)
    have n1_ := aK (heap_alloc_new w4 (.cells #[.bool false, .int .i64 0, .int .i64 0, .int .i64 0] 61 (0, 0)))
    have n2_ := aK (blk_below BK.out bl)
    have n3_ := aK (Nat.ne_of_lt (blk_lt BK.out))
    clear bl
    obtain ⟨s0, s1, s2, s3, s4, s5, s6, s7⟩ := hHeld
    refine hK.out _ _ ⟨(World.cell?_alloc_lt _ _ _ (World.block_lt_of_cell? _ _ s0)).trans s0, (World.cell?_alloc_lt _ _ _ (World.block_lt_of_cell? _ _ s1)).trans s1, (World.cell?_alloc_lt _ _ _ (World.block_lt_of_cell? _ _ s2)).trans s2, (World.cell?_alloc_lt _ _ _ (World.block_lt_of_cell? _ _ s3)).trans s3, (World.cell?_alloc_lt _ _ _ (World.block_lt_of_cell? _ _ s4)).trans s4, (World.cell?_alloc_lt _ _ _ (World.block_lt_of_cell? _ _ s5)).trans s5, (World.cell?_alloc_lt _ _ _ (World.block_lt_of_cell? _ _ s6)).trans s6, (World.cell?_alloc_lt _ _ _ (World.block_lt_of_cell? _ _ s7)).trans s7⟩ (fun hHeld => ?_)
    clear s0 s1 s2 s3 s4 s5 s6 s7 hHeld HV BK
    have HI := n0_
    have BC := n1_
    have BK := n2_
    have NG : Aside0 (gb ≠ w4.heap.size) := n3_
    clear n0_ n1_ n2_ n3_
    clear hK K
    refine norm_ (a' := ?_) ?_ ?_
    rotate_left
    ·show Act.put _ (some 7) _ = _
     simp only [sP, i64_w, i32_w]
     rfl
    generalize w4.alloc (.cells #[.bool false, .int .i64 0, .int .i64 0, .int .i64 0] 61 (0, 0)) = w5 at HI BC BK ⊢
    generalize w4.heap.size = gc at HI BC NG ⊢
    have c0 : w5.cell? ⟨gc, 0, none⟩ = some (.bool false) := (blk_cell BC.out 0).trans rfl
    have c1 : w5.cell? ⟨gc, 1, none⟩ = some (.int .i64 0) := (blk_cell BC.out 1).trans rfl
    have c2 : w5.cell? ⟨gc, 2, none⟩ = some (.int .i64 0) := (blk_cell BC.out 2).trans rfl
    have c3 : w5.cell? ⟨gc, 3, none⟩ = some (.int .i64 0) := (blk_cell BC.out 3).trans rfl
    have f0 := blk_frozen BC.out 0
    have f1 := blk_frozen BC.out 1
    have f2 := blk_frozen BC.out 2
    have f3 := blk_frozen BC.out 3
    refine last_ (i := 17) (N := none) (bs 18 0) rfl rfl (one_of HT_.out (by kernel_rfl)) (by decide) (fun K hK => ?_)
    refine skip_ (w1 := ?_) (by rfl) rfl ?_ ?_
    rotate_left
    ·go_simp
     rfl
    refine hK.out _ _ ?_
    clear hK K
    refine done_ (done_of HT_.out (by kernel_rfl)) ?_
    have n0_ := IsLB.put4 HI.out BC.out (.bool xl) (.int .i64 xn) (.int .i64 xa) (.int .i64 xb)
    have n1_ := blk_far (p := ⟨gc, 3, none⟩) (blk_far (p := ⟨gc, 2, none⟩) (blk_far (p := ⟨gc, 1, none⟩) (blk_far (p := ⟨gc, 0, none⟩) BK.out NG.out (.bool xl)) NG.out (.int .i64 xn)) NG.out (.int .i64 xa)) NG.out (.int .i64 xb)
    clear HI BC BK NG c0 c1 c2 c3 f0 f1 f2 f3
    generalize (((w5.setCell ⟨gc, 0, none⟩ (.bool xl)).setCell ⟨gc, 1, none⟩ (.int .i64 xn)).setCell ⟨gc, 2, none⟩ (.int .i64 xa)).setCell ⟨gc, 3, none⟩ (.int .i64 xb) = w6 at n0_ n1_ ⊢
    have HI := aK n0_.1
    have BC := aK n0_.2
    have BK := aK n1_
    clear n0_ n1_
    obtain ⟨A3, c3, A4, c4, hv⟩ := HI.out.isL.openv
    have HV := aK hv
    clear hv
    obtain ⟨q0, q1, q2, q3, q4, q5, q6, q7⟩ := L_cell HV.out.blk
    obtain ⟨b0, b1, b2⟩ := B_cell BK.out
    have c0 : w6.cell? ⟨gc, 0, none⟩ = some (.bool xl) := (blk_cell BC.out 0).trans rfl
    have y2 : w6.cell? ⟨gc, 2, none⟩ = some (.int .i64 xa) := (blk_cell BC.out 2).trans rfl
    have y3 : w6.cell? ⟨gc, 3, none⟩ = some (.int .i64 xb) := (blk_cell BC.out 3).trans rfl
    cases xl with
    | true =>
     have e := E.out
     rw [if_pos rfl] at e
     obtain rfl := Option.some.inj e
     go_wp2
     (try simp only [Exit.inBlock, Exit.then])
     refine bodyPost_end (results_none rfl _ _ _) rfl ?_
     exact ⟨rfl, out, HV.out.isL, by omega⟩
    | false =>
     have e := E.out
     rw [if_neg (by decide), if_neg (by decide)] at e
     have ET := aK (Option.some.inj e).symm
     clear e E
     go_upto_region 17 with fail
     refine start_ (n := 14) (S := fun w' => w'.cell? ⟨g, 2, none⟩ = some (.slice A4 s.rs.length c4) ∧ w'.cell? ⟨gc, 3, none⟩ = some (.int .i64 xb)) (ds := [9, 13]) (bs 0 14) (by kernel_rfl) rfl rfl ⟨q2, y3⟩ (fun hHeld => ?_); refine with_tabW spec_l7S_op.tab17 spec_l7S_op.bits17 (fun HT_ HW_ => ?_)
     have n_ := aJ (aK HV.out.drew) (aK (blk_drew BC.out))
     clear HV HI BK BC q0 q1 q2 q3 q4 q5 q6 q7 b0 b1 b2 c0 y2 y3
     obtain ⟨HV, BC⟩ := n_
     generalize w6.drew = w7 at HV BC hHeld ⊢
     refine pS (i := 0) (N := some 94) (bs 1 13) (aO HT_) ?_
     refine pS (i := 1) (N := some 95) (bs 2 12) (aO HT_) ?_
     refine pS (i := 2) (N := some 96) (bs 3 11) (aO HT_) ?_
     refine pS (i := 3) (N := some 97) (bs 4 10) (aO HT_) ?_
     refine pS (i := 4) (N := some 98) (bs 5 9) (aO HT_) ?_
     refine pS (i := 6) (N := some 100) #[true, true, true, true, true, false, true, false, false, false, false, false, false, false] (aO HT_) ?_
     refine take_ (i := 5) (N := some 99) (v := ?_) (a' := ?_) (bs 7 7) rfl rfl (take_ofW HT_.out HW_.out (by kernel_rfl)) (fun _ _ _ h => h) (Or.inl ⟨by rfl, ?_⟩) hHeld ?_ ?_
     rotate_left
     ·rintro w' ⟨s0, s1⟩
      go_simp
      with_reducible rfl
     rotate_left
     ·simp only [sP, i64_w, i32_w]
      rfl
     refine take_ (i := 7) (N := some 101) (v := ?_) (a' := ?_) (bs 8 6) rfl rfl (take_ofW HT_.out HW_.out (by kernel_rfl)) (fun _ _ _ h => h) (Or.inl ⟨by rfl, ?_⟩) hHeld ?_ ?_
     rotate_left
     ·rintro w' ⟨s0, s1⟩
      go_simp
      with_reducible rfl
     rotate_left
     ·simp only [sP, i64_w, i32_w]
      rfl
     refine one_ (i := 8) (N := some 102) (bs 9 5) rfl rfl (one_of HT_.out (by kernel_rfl)) (by decide) (fun K hK => ?_)
     refine value_ (w1 := ?_) (v := ?_) (by rfl) rfl ?_ ?_
     rotate_left 2
     ·go_simp
      constructor
      ·rfl
      ·rfl
     refine hK.out _ _ ⟨(blk_cell (blk_alloc HV.out.blk _) 2).trans rfl, (blk_cell (blk_alloc BC.out _) 3).trans rfl⟩ (fun hHeld => ?_)
     clear hK K
     refine norm_ (a' := ?_) ?_ ?_
     rotate_left
     ·show Act.put _ (some 102) _ = _
      simp only [sP, i64_w, i32_w]
      rfl
     refine last_ (i := 9) (N := some 103) (bs 10 4) rfl rfl (one_of HT_.out (by kernel_rfl)) (by decide) (fun K hK => ?_)
     refine Kd.R_append_step (Kd.int .i64) (w0 := w7) wb.heap.size (by rfl) (.tmp 99) (.tmp 102) 23 3 (.int .i64 0) 8 rfl Tryd.underlying23 info3 rfl (by decide) (by omega) (.slice A4 s.rs.length c4) s.rs xb [.int .i64 xb] (fun k_ => k_ ≠ g) (fun _ => False) rfl rfl rfl (fun _ hk => hk.elim) HV.out.fresh HV.out.2.2.2 (Below.refl _ _) HV.out.size (by have := HL.out.2.1; omega) ?_
     intro v8 w8 ho hb hg hat
     obtain ⟨rs2, hrs⟩ : ∃ y, y = s.rs ++ [xb] := ⟨_, rfl⟩
     rw [← hrs] at ho
     have HS := aK hrs
     clear hrs
     obtain ⟨A8, c8, rfl⟩ := Kd.R_slice ho
     have hG := HV.out.grown2 hg
     have HI : Aside0 (IsL wb (w8.setCell ⟨g, 2, none⟩ (.slice A8 rs2.length c8)) g ⟨s.old, s.cs, rs2, s.full⟩ nur out) := ⟨HV.out.put_roots hg ho⟩
     clear HV BC hHeld ho hb hg hat
     refine hK.out _ _ ?_
     clear hK K
     refine norm_ (a' := ?_) ?_ ?_
     rotate_left
     ·show Act.put _ (some 103) _ = _
      simp only [sP, i64_w, i32_w]
      rfl
     refine pS (i := 10) (N := some 104) (bs 11 3) (aO HT_) ?_
     refine pS (i := 11) (N := some 105) (bs 12 2) (aO HT_) ?_
     refine pS (i := 12) (N := some 106) (bs 13 1) (aO HT_) ?_
     refine last_ (i := 13) (N := none) (bs 14 0) rfl rfl (one_of HT_.out (by kernel_rfl)) (by decide) (fun K hK => ?_)
     have hs : w8.cell? ⟨g, 2, none⟩ = some (.slice A4 s.rs.length c4) := (blk_cell hG 2).trans rfl
     have hfs := blk_frozen hG 2
     refine skip_ (w1 := ?_) (by rfl) rfl ?_ ?_
     rotate_left
     ·go_simp
      rfl
     refine hK.out _ _ ?_
     clear hK K
     refine done_ (done_of HT_.out (by kernel_rfl)) ?_
     clear hs hfs hG
     try go_wp2
     (try simp only [Exit.inBlock, Exit.then])
     refine bodyPost_end (results_none rfl _ _ _) rfl ?_
     obtain rfl := ET.out
     rw [← HS.out]
     exact ⟨rfl, out, HI.out, by omega⟩
 by_cases k5 : kd = 5
 ·subst k5
  have e := H.out
  rw [if_neg (by decide), if_neg (by decide), if_neg (by decide), if_pos rfl] at e
  clear H
  cases ba with
  | false =>
   rw [if_neg (of_decide_eq_false HA.out.symm)] at e
   obtain rfl := Option.some.inj e
   go_wp2
   (try simp only [Exit.inBlock, Exit.then])
   refine bodyPost_end (results_none rfl _ _ _) rfl ?_
   exact ⟨rfl, out, by repeat (first | exact HV.out.isL | apply IsL.drewN | apply IsL.drew), by omega⟩
  | true =>
   have hA := of_decide_eq_true HA.out.symm
   rw [if_pos hA] at e
   have ET := aK (Option.some.inj e).symm
   clear e
   have hw : wrap64 (A + 1) = A + 1 := w64 (by omega) (by have := HL.out.2.1; omega)
   have hQ := Kd.R_reads' HV.out.2.2.2
   obtain ⟨ys, hys, cut1, hC1⟩ := cut_take (A2 := A2) (c2 := c2) (rs := s.rs) hA.1 (Int.le_of_lt hA.2) hQ.2.1
   obtain ⟨A9, c9, zs, hzs, cut2, hC2⟩ := cut_drop (A2 := A2) (c2 := c2) (rs := s.rs) (j := wrap64 (A + 1)) (by omega) (by omega) hQ.2.1
   rw [hw, show (A + 1).toNat = A.toNat + 1 by omega] at hzs
   have Y := aK hys
   have Z := aK hzs
   have LY : Aside0 (ys.length ≤ 60 ∧ zs.length ≤ 60) := ⟨by have := HL.out.2.1; rw [hys, hzs, List.length_take, List.length_drop]; omega⟩
   have C1 := aK hC1
   have C2 := aK hC2
   clear hA hw hys hzs hQ hC1 hC2
   go_upto_region 20 with fail
   refine start_ (n := 25) (S := fun w' => w'.cell? ⟨g, 2, none⟩ = some (.slice A2 s.rs.length c2) ∧ w'.cell? ⟨gb, 1, none⟩ = some (.int .i64 A)) (ds := [20, 24]) (bs 0 25) (by kernel_rfl) rfl rfl ⟨q2, b1⟩ (fun hHeld => ?_); refine with_tabW spec_l7S_op.tab20 spec_l7S_op.bits20 (fun HT_ HW_ => ?_)
   have n0_ := aK HV.out.drew
   clear HV BK q0 q1 q2 q3 q4 q5 q6 q7 b0 b1 b2
   have HV := n0_
   clear n0_
   generalize w3.drew = w4 at HV hHeld ⊢
   have HH := aK hHeld
   refine pS (i := 0) (N := some 110) (bs 1 24) (aO HT_) ?_
   refine pS (i := 2) (N := some 112) #[true, false, true, false, false, false, false, false, false, false, false, false, false, false, false, false, false, false, false, false, false, false, false, false, false] (aO HT_) ?_
   refine pS (i := 3) (N := some 113) #[true, false, true, true, false, false, false, false, false, false, false, false, false, false, false, false, false, false, false, false, false, false, false, false, false] (aO HT_) ?_
   refine pS (i := 4) (N := some 114) #[true, false, true, true, true, false, false, false, false, false, false, false, false, false, false, false, false, false, false, false, false, false, false, false, false] (aO HT_) ?_
   refine pS (i := 5) (N := some 115) #[true, false, true, true, true, true, false, false, false, false, false, false, false, false, false, false, false, false, false, false, false, false, false, false, false] (aO HT_) ?_
   refine pS (i := 7) (N := some 117) #[true, false, true, true, true, true, false, true, false, false, false, false, false, false, false, false, false, false, false, false, false, false, false, false, false] (aO HT_) ?_
   refine pS (i := 11) (N := some 121) #[true, false, true, true, true, true, false, true, false, false, false, true, false, false, false, false, false, false, false, false, false, false, false, false, false] (aO HT_) ?_
   refine pS (i := 12) (N := some 122) #[true, false, true, true, true, true, false, true, false, false, false, true, true, false, false, false, false, false, false, false, false, false, false, false, false] (aO HT_) ?_
   refine pS (i := 13) (N := some 123) #[true, false, true, true, true, true, false, true, false, false, false, true, true, true, false, false, false, false, false, false, false, false, false, false, false] (aO HT_) ?_
   refine pS (i := 14) (N := some 124) #[true, false, true, true, true, true, false, true, false, false, false, true, true, true, true, false, false, false, false, false, false, false, false, false, false] (aO HT_) ?_
   refine pS (i := 16) (N := some 126) #[true, false, true, true, true, true, false, true, false, false, false, true, true, true, true, false, true, false, false, false, false, false, false, false, false] (aO HT_) ?_
   refine take_ (i := 6) (N := some 116) (v := ?_) (a' := ?_) #[true, false, true, true, true, true, true, true, false, false, false, true, true, true, true, false, true, false, false, false, false, false, false, false, false] rfl rfl (take_ofW HT_.out HW_.out (by kernel_rfl)) (fun _ _ _ h => h) (Or.inl ⟨by rfl, ?_⟩) hHeld ?_ ?_
   rotate_left
   ·rintro w' ⟨s0, s1⟩
    go_simp
    with_reducible rfl
   rotate_left
   ·simp only [sP, i64_w, i32_w]
    rfl
   refine take_ (i := 8) (N := some 118) (v := ?_) (a' := ?_) #[true, false, true, true, true, true, true, true, true, false, false, true, true, true, true, false, true, false, false, false, false, false, false, false, false] rfl rfl (take_ofW HT_.out HW_.out (by kernel_rfl)) (fun _ _ _ h => h) (Or.inl ⟨by rfl, ?_⟩) hHeld ?_ ?_
   rotate_left
   ·rintro w' ⟨s0, s1⟩
    go_simp
    with_reducible rfl
   rotate_left
   ·simp only [sP, i64_w, i32_w]
    rfl
   refine take_ (i := 15) (N := some 125) (v := ?_) (a' := ?_) #[true, false, true, true, true, true, true, true, true, false, false, true, true, true, true, true, true, false, false, false, false, false, false, false, false] rfl rfl (take_ofW HT_.out HW_.out (by kernel_rfl)) (fun _ _ _ h => h) (Or.inl ⟨by rfl, ?_⟩) hHeld ?_ ?_
   rotate_left
   ·rintro w' ⟨s0, s1⟩
    go_simp
    with_reducible rfl
   rotate_left
   ·simp only [sP, i64_w, i32_w]
    rfl
   refine take_ (i := 17) (N := some 127) (v := ?_) (a' := ?_) #[true, false, true, true, true, true, true, true, true, false, false, true, true, true, true, true, true, true, false, false, false, false, false, false, false] rfl rfl (take_ofW HT_.out HW_.out (by kernel_rfl)) (fun _ _ _ h => h) (Or.inl ⟨by rfl, ?_⟩) hHeld ?_ ?_
   rotate_left
   ·rintro w' ⟨s0, s1⟩
    go_simp
    with_reducible rfl
   rotate_left
   ·simp only [sP, i64_w, i32_w]
    rfl
   refine pS (i := 9) (N := some 119) #[true, false, true, true, true, true, true, true, true, true, false, true, true, true, true, true, true, true, false, false, false, false, false, false, false] (aO HT_) ?_
   refine pS (i := 18) (N := some 128) #[true, false, true, true, true, true, true, true, true, true, false, true, true, true, true, true, true, true, true, false, false, false, false, false, false] (aO HT_) ?_
   refine pS (i := 19) (N := some 129) #[true, false, true, true, true, true, true, true, true, true, false, true, true, true, true, true, true, true, true, true, false, false, false, false, false] (aO HT_) ?_
   clear cut1 cut2
   refine one_ (i := 1) (N := some 111) #[true, true, true, true, true, true, true, true, true, true, false, true, true, true, true, true, true, true, true, true, false, false, false, false, false] rfl rfl (one_of HT_.out (by kernel_rfl)) (by decide) (fun K hK => ?_)
   refine Kd.R_lit_step (Kd.int .i64) (w0 := w4) w4.heap.size 3 (by rfl) (N := 111) rfl (xs := ([] : List Int)) (inner := []) (ok := fun _ => True) (okp := fun _ => False) ?hr (Reps.none _ _) (fun _ h => h.elim) trivial (Below.refl _ _) (Nat.le_refl _) (by simp) ?_
   case hr => first | (go_simp; done) | (go_simp; rfl)
   intro v5 w5 ho5 hb5 hg5 hat5
   refine hK.out _ _ ⟨(hb5.cell (World.block_lt_of_cell? _ _ HH.out.1)).trans HH.out.1, (hb5.cell (World.block_lt_of_cell? _ _ HH.out.2)).trans HH.out.2⟩ (fun hHeld => ?_)
   clear hK K
   refine norm_ (a' := ?_) ?_ ?_
   rotate_left
   ·show Act.put _ (some 111) _ = _
    simp only [sP, i64_w, i32_w]
    rfl
   refine one_ (i := 10) (N := some 120) (bs 20 5) rfl rfl (one_of HT_.out (by kernel_rfl)) (by decide) (fun K hK => ?_)
   refine Kd.R_append_rows_step (Kd.int .i64) (w0 := w4) w4.heap.size (by rfl) (.tmp 111) (.tmp 119) 23 3 (.int .i64 0) 8 rfl Tryd.underlying23 info3 rfl (by decide) (by omega) v5 [] ys A2 _ _ (fun _ => True) (fun _ => False) rfl rfl ho5 (Kd.C_below (C1.out _ (Kd.R_reads' HV.out.2.2.2).2.2) hb5) (fun _ _ h => h) (fun _ h => h.elim) (fun _ _ => trivial) hb5 hb5.size (by have := LY.out; simp; omega) ?_
   intro v6 w6 ho6 hb6 hg6 hat6
   rw [List.nil_append] at ho6
   refine hK.out _ _ ⟨(hb6.cell (World.block_lt_of_cell? _ _ HH.out.1)).trans HH.out.1, (hb6.cell (World.block_lt_of_cell? _ _ HH.out.2)).trans HH.out.2⟩ (fun hHeld => ?_)
   clear ho5 hb5 hg5 hat5
   clear hK K
   refine norm_ (a' := ?_) ?_ ?_
   rotate_left
   ·show Act.put _ (some 120) _ = _
    simp only [sP, i64_w, i32_w]
    rfl
   refine last_ (i := 20) (N := some 130) (bs 21 4) rfl rfl (one_of HT_.out (by kernel_rfl)) (by decide) (fun K hK => ?_)
   refine Kd.R_append_rows_step (Kd.int .i64) (w0 := w4) w4.heap.size (by rfl) (.tmp 120) (.tmp 129) 23 3 (.int .i64 0) 8 rfl Tryd.underlying23 info3 rfl (by decide) (by omega) v6 ys zs A9 _ _ (fun _ => True) (fun _ => False) rfl rfl ho6 (Kd.C_below (C2.out _ (Kd.R_reads' HV.out.2.2.2).2.2) hb6) (fun _ _ h => h) (fun _ h => h.elim) (fun _ _ => trivial) hb6 hb6.size (by have := LY.out; omega) ?_
   intro v7 w7 ho7 hb7 hg7 hat7
   obtain ⟨rs2, hrs⟩ : ∃ y, y = ys ++ zs := ⟨_, rfl⟩
   rw [← hrs] at ho7
   rw [Y.out, Z.out] at hrs
   have HS := aK hrs
   clear hrs
   have HI := aK (HV.out.isL.below hb7)
   have R7 := aK (IsL.told HI.out HV.out.size ho7 (by decide))
   obtain ⟨A8, c8, rfl⟩ := Kd.R_slice R7.out
   clear ho6 hb6 hg6 hat6 ho7 hb7 hg7 hat7 HV HH hHeld
   refine hK.out _ _ ?_
   clear hK K
   refine norm_ (a' := ?_) ?_ ?_
   rotate_left
   ·show Act.put _ (some 130) _ = _
    simp only [sP, i64_w, i32_w]
    rfl
   refine pS (i := 21) (N := some 131) (bs 22 3) (aO HT_) ?_
   refine pS (i := 22) (N := some 132) (bs 23 2) (aO HT_) ?_
   refine pS (i := 23) (N := some 133) (bs 24 1) (aO HT_) ?_
   refine last_ (i := 24) (N := none) (bs 25 0) rfl rfl (one_of HT_.out (by kernel_rfl)) (by decide) (fun K hK => ?_)
   obtain ⟨A3, c3, A4, c4, hv⟩ := HI.out.openv
   have hs := (L_cell hv.blk).2.2.1
   have hfs := blk_frozen hv.blk 2
   refine skip_ (w1 := ?_) (by rfl) rfl ?_ ?_
   rotate_left
   ·go_simp
    rfl
   refine hK.out _ _ ?_
   clear hK K
   refine done_ (done_of HT_.out (by kernel_rfl)) ?_
   clear hs hfs hv
   try go_wp2
   (try simp only [Exit.inBlock, Exit.then])
   refine bodyPost_end (results_none rfl _ _ _) rfl ?_
   obtain rfl := ET.out
   rw [← HS.out]
   exact ⟨rfl, out, HI.out.set_roots R7.out, by omega⟩
 by_cases k6 : kd = 6
 ·subst k6
  have e := H.out
  rw [if_neg (by decide), if_neg (by decide), if_neg (by decide), if_neg (by decide), if_pos rfl] at e
  clear H
  cases ba with
  | false =>
   rw [if_neg (of_decide_eq_false HA.out.symm)] at e
   obtain rfl := Option.some.inj e
   go_wp2
   (try simp only [Exit.inBlock, Exit.then])
   refine bodyPost_end (results_none rfl _ _ _) rfl ?_
   exact ⟨rfl, out, by repeat (first | exact HV.out.isL | apply IsL.drewN | apply IsL.drew), by omega⟩
  | true =>
   have hA := of_decide_eq_true HA.out.symm
   rw [if_pos hA] at e
   replace e := Option.bind_eq_some_iff.mp e
   obtain ⟨o, e1, e2⟩ := e
   obtain rfl := Option.some.inj e2
   have E := aK e1
   clear e1 e2
   obtain ⟨ad, ea, hx⟩ := Kd.at_int (Kd.R_reads' HV.out.2.2.2).2.2 A hA.1 hA.2
   subst ea
   have p1 := eq_true hA.1
   have p2 := eq_true hA.2
   clear hA
   go_upto_region 23 with fail
   refine start_ (n := 16) (S := fun w' => w'.cell? ⟨g, 1, none⟩ = some (.slice A1 s.cs.length c1) ∧ w'.cell? ⟨g, 2, none⟩ = some (.slice (some ad) s.rs.length c2) ∧ w'.cell? ⟨gb, 1, none⟩ = some (.int .i64 A) ∧ w'.cell? (ad.add A.toNat) = some (.int .i64 (rd s.rs A))) (ds := [14]) (bs 0 16) (by kernel_rfl) rfl rfl ⟨q1, q2, b1, hx⟩ (fun hHeld => ?_); refine with_tabW spec_l7S_op.tab23 spec_l7S_op.bits23 (fun HT_ HW_ => ?_)
   have n0_ := aK HV.out.drew
   clear HV BK q0 q1 q2 q3 q4 q5 q6 q7 b0 b1 b2 hx
   have HV := n0_
   clear n0_
   generalize w3.drew = w4 at HV hHeld ⊢
   refine pS (i := 0) (N := some 137) (bs 1 15) (aO HT_) ?_
   refine pS (i := 1) (N := some 138) (bs 2 14) (aO HT_) ?_
   refine pS (i := 2) (N := some 139) (bs 3 13) (aO HT_) ?_
   refine pS (i := 3) (N := some 140) (bs 4 12) (aO HT_) ?_
   refine pS (i := 5) (N := some 142) #[true, true, true, true, false, true, false, false, false, false, false, false, false, false, false, false] (aO HT_) ?_
   refine pS (i := 6) (N := some 143) #[true, true, true, true, false, true, true, false, false, false, false, false, false, false, false, false] (aO HT_) ?_
   refine pS (i := 7) (N := some 144) #[true, true, true, true, false, true, true, true, false, false, false, false, false, false, false, false] (aO HT_) ?_
   refine pS (i := 8) (N := some 145) #[true, true, true, true, false, true, true, true, true, false, false, false, false, false, false, false] (aO HT_) ?_
   refine pS (i := 10) (N := some 147) #[true, true, true, true, false, true, true, true, true, false, true, false, false, false, false, false] (aO HT_) ?_
   refine take_ (i := 4) (N := some 141) (v := ?_) (a' := ?_) #[true, true, true, true, true, true, true, true, true, false, true, false, false, false, false, false] rfl rfl (take_ofW HT_.out HW_.out (by kernel_rfl)) (fun _ _ _ h => h) (Or.inl ⟨by rfl, ?_⟩) hHeld ?_ ?_
   rotate_left
   ·rintro w' ⟨s0, s1, s2, s3⟩
    go_simp
    with_reducible rfl
   rotate_left
   ·simp only [sP, i64_w, i32_w]
    rfl
   refine take_ (i := 9) (N := some 146) (v := ?_) (a' := ?_) (bs 11 5) rfl rfl (take_ofW HT_.out HW_.out (by kernel_rfl)) (fun _ _ _ h => h) (Or.inl ⟨by rfl, ?_⟩) hHeld ?_ ?_
   rotate_left
   ·rintro w' ⟨s0, s1, s2, s3⟩
    go_simp
    with_reducible rfl
   rotate_left
   ·simp only [sP, i64_w, i32_w]
    rfl
   refine take_ (i := 11) (N := some 148) (v := ?_) (a' := ?_) (bs 12 4) rfl rfl (take_ofW HT_.out HW_.out (by kernel_rfl)) (fun _ _ _ h => h) (Or.inl ⟨by rfl, ?_⟩) hHeld ?_ ?_
   rotate_left
   ·rintro w' ⟨s0, s1, s2, s3⟩
    go_simp
    with_reducible rfl
   rotate_left
   ·simp only [sP, i64_w, i32_w]
    rfl
   refine pS (i := 12) (N := some 149) (bs 13 3) (aO HT_) ?_
   refine take_ (i := 13) (N := some 150) (v := ?_) (a' := ?_) (bs 14 2) rfl rfl (take_ofW HT_.out HW_.out (by kernel_rfl)) (fun _ _ _ h => h) (Or.inl ⟨by rfl, ?_⟩) hHeld ?_ ?_
   rotate_left
   ·rintro w' ⟨s0, s1, s2, s3⟩
    go_simp
    with_reducible rfl
   rotate_left
   ·simp only [sP, i64_w, i32_w]
    rfl
   refine last_ (i := 14) (N := some 151) (bs 15 1) rfl rfl (one_of HT_.out (by kernel_rfl)) (by decide) (fun K hK => ?_)
   refine goes_ Tryd.func21 (by kernel_rfl) rfl #[.slice A1 s.cs.length c1, .int .i64 (rd s.rs A)] (by rfl) rfl rfl tA ?_
   refine (spec_l7Show.calls k A1 c1 s.cs (rd s.rs A) o _ (Kd.R_reads' HV.out.2.2.1).2.2 (Kd.R_reads' HV.out.2.2.1).2.1 E.out).mono ?_
   rintro _ w5 ⟨rfl, hb5⟩
   refine ⟨_, rfl, ?_⟩
   have HI := aK (HV.out.isL.below hb5)
   clear HV hHeld hb5
   refine hK.out _ _ ?_
   clear hK K
   refine norm_ (a' := ?_) ?_ ?_
   rotate_left
   ·show Act.put _ (some 151) _ = _
    simp only [sP, i64_w, i32_w]
    rfl
   refine pS (i := 15) (N := some 8) (bs 16 0) (aO HT_) ?_
   refine done_ (done_of HT_.out (by kernel_rfl)) ?_
   obtain ⟨A3, c3, A4, c4, hv⟩ := HI.out.openv
   obtain ⟨q0, q1, q2, q3, q4, q5, q6, q7⟩ := L_cell hv.blk
   have z7 := blk_frozen hv.blk 7
   clear hv
   by_cases h5 : 500 < (o.size : Int)
   ·have zo : decide (500 < (o.size : Int)) = true := decide_eq_true h5
    have zp : decide (500 < o.size) = true := decide_eq_true (by omega)
    have hz : (9223372036854775807 < out.size + 5) = False := eq_false (by have := HO.out; omega)
    go_wp2
    (try simp only [Exit.inBlock, Exit.then])
    refine bodyPost_end (results_none rfl _ _ _) rfl ?_
    exact ⟨rfl, out ++ ((⟨#[108, 111, 110, 103]⟩ : ByteArray) ++ (⟨#[10]⟩ : ByteArray)), HI.out.set_out _, by rw [ByteArray.size_append, ByteArray.size_append]; show out.size + (4 + 1) ≤ _; omega⟩
   ·have zo : decide (500 < (o.size : Int)) = false := decide_eq_false h5
    have zp : decide (500 < o.size) = false := decide_eq_false (by omega)
    have hz : (9223372036854775807 < o.size + 1) = False := eq_false (by omega)
    have hz1 : (9223372036854775807 < out.size + (o.size + 1)) = False := eq_false (by have := HO.out; omega)
    go_wp2
    (try simp only [Exit.inBlock, Exit.then])
    refine bodyPost_end (results_none rfl _ _ _) rfl ?_
    exact ⟨rfl, out ++ (o ++ (⟨#[10]⟩ : ByteArray)), HI.out.set_out _, by rw [ByteArray.size_append, ByteArray.size_append]; show out.size + (o.size + 1) ≤ _; omega⟩
 by_cases k7 : kd = 7
 ·subst k7
  have e := H.out
  rw [if_neg (by decide), if_neg (by decide), if_neg (by decide), if_neg (by decide), if_neg (by decide), if_neg (by decide), if_neg (by decide)] at e
  clear H
  cases ba with
  | false =>
   obtain rfl := Option.some.inj e
   go_upto_region 28 with fail
   go_quiet (fail)
   go_wp2
   (try simp only [Exit.inBlock, Exit.then])
   refine bodyPost_end (results_none rfl _ _ _) rfl ?_
   exact ⟨rfl, out, by repeat (first | exact HV.out.isL | apply IsL.drewN | apply IsL.drew), by omega⟩
  | true =>
   cases bb with
   | false =>
    obtain rfl := Option.some.inj e
    go_upto_region 28 with fail
    go_quiet (fail)
    go_wp2
    (try simp only [Exit.inBlock, Exit.then])
    refine bodyPost_end (results_none rfl _ _ _) rfl ?_
    exact ⟨rfl, out, by repeat (first | exact HV.out.isL | apply IsL.drewN | apply IsL.drew), by omega⟩
   | true =>
    obtain rfl := Option.some.inj e
    have hA := of_decide_eq_true HA.out.symm
    have hB := of_decide_eq_true HB.out.symm
    obtain ⟨ad, ea, hx⟩ := Kd.at_int (Kd.R_reads' HV.out.2.2.2).2.2 A hA.1 hA.2
    obtain ⟨ad', eb, hx'⟩ := Kd.at_int (Kd.R_reads' HV.out.2.2.2).2.2 B hB.1 hB.2
    subst ea
    obtain rfl := Option.some.inj eb
    have p1 := eq_true hA.1
    have p2 := eq_true hA.2
    have p3 := eq_true hB.1
    have p4 := eq_true hB.2
    clear hA hB eb
    go_upto_region 28 with fail
    go_quiet (fail)
    have HI := aK (HV.out.isL.drewN nq)
    generalize w3.drewN nq = w4 at HI ⊢
    clear HV BK q0 q1 q2 q3 q4 q5 q6 q7 b0 b1 b2 hx hx'
    obtain ⟨A3, c3, A4, c4, hv⟩ := HI.out.openv
    obtain ⟨q0, q1, q2, q3, q4, q5, q6, q7⟩ := L_cell hv.blk
    have z7 := blk_frozen hv.blk 7
    clear hv
    by_cases hr : rd s.rs A = rd s.rs B
    ·have zr : decide (rd s.rs A = rd s.rs B) = true := decide_eq_true hr
     have hz : (9223372036854775807 < out.size + 5) = False := eq_false (by have := HO.out; omega)
     go_wp2
     (try simp only [Exit.inBlock, Exit.then])
     refine bodyPost_end (results_none rfl _ _ _) rfl ?_
     exact ⟨rfl, out ++ (⟨#[115, 97, 109, 101, 10]⟩ : ByteArray), HI.out.set_out _, by rw [ByteArray.size_append]; show out.size + 5 ≤ _; omega⟩
    ·have zr : decide (rd s.rs A = rd s.rs B) = false := decide_eq_false hr
     have hz : (9223372036854775807 < out.size + 6) = False := eq_false (by have := HO.out; omega)
     go_wp2
     (try simp only [Exit.inBlock, Exit.then])
     refine bodyPost_end (results_none rfl _ _ _) rfl ?_
     exact ⟨rfl, out ++ (⟨#[111, 116, 104, 101, 114, 10]⟩ : ByteArray), HI.out.set_out _, by rw [ByteArray.size_append]; show out.size + 6 ≤ _; omega⟩
 by_cases k8 : kd = 8
 ·subst k8
  have e := H.out
  rw [if_neg (by decide), if_neg (by decide), if_neg (by decide), if_neg (by decide), if_neg (by decide), if_pos rfl] at e
  clear H
  replace e := Option.bind_eq_some_iff.mp e
  obtain ⟨x, e1, e2⟩ := e
  have E := aK e1
  have ET := aK (Option.some.inj e2).symm
  clear e1 e2
  have QR1 := aK (Kd.R_reads' HV.out.2.2.1)
  have QR2 := aK (Kd.R_reads' HV.out.2.2.2)
  have QK := aK HV.out.size
  go_wp2_with (first
   | ((with_reducible refine gate_callee (f := 30) rfl ?_); refine goesL_ (some 221) rfl rfl Tryd.func30 (by kernel_rfl) rfl #[.agg #[.int .i64 s.old, .slice A1 s.cs.length c1, .slice A2 s.rs.length c2]] rfl tA ?_; (with_reducible refine (spec_l7Collect.calls k _ _ _ _ _ _ _ x.1 x.2.1 x.2.2 _ ?s1 ?s2 ?s3 ?s4 ?sE).mono ?_); (case s1 => exact QR1.out.2.2); (case s2 => exact QR1.out.2.1); (case s3 => exact QR2.out.2.2); (case s4 => exact QR2.out.2.1); (case sE => exact E.out); rintro _ w4 ⟨v1, v2, rfl, r1, r2, hB⟩; refine ⟨_, rfl, ?_⟩; have n0_ := aK (HV.out.isL.below hB); have R1 := aK (IsL.told n0_.out QK.out r1 (by decide)); have R2 := aK (IsL.told n0_.out QK.out r2 (by decide)); clear q0 q1 q2 q3 q4 q5 q6 q7 QR1 QR2 r1 r2 hB; obtain ⟨A5, c5, rfl⟩ := Kd.R_slice R1.out; obtain ⟨A6, c6, rfl⟩ := Kd.R_slice R2.out; obtain ⟨A3, c3, A4, c4, hb, _, _, _⟩ := n0_.out.opens; obtain ⟨q0, q1, q2, q3, q4, q5, q6, q7⟩ := L_cell hb; have z0 := blk_frozen hb 0; have z1 := blk_frozen hb 1; have z2 := blk_frozen hb 2; clear hb))
  (try simp only [Exit.inBlock, Exit.then])
  refine bodyPost_end (results_none rfl _ _ _) rfl ?_
  obtain rfl := ET.out
  exact ⟨rfl, out, IsL.set_heap n0_.out R1.out R2.out, by omega⟩
 by_cases k9 : kd = 9
 ·subst k9
  have e := H.out
  rw [if_neg (by decide), if_neg (by decide), if_neg (by decide), if_neg (by decide), if_neg (by decide), if_neg (by decide), if_pos rfl] at e
  clear H
  replace e := Option.bind_eq_some_iff.mp e
  obtain ⟨x, e1, e2⟩ := e
  have E := aK e1
  have ET := aK (Option.some.inj e2).symm
  clear e1 e2
  have QR1 := aK (Kd.R_reads' HV.out.2.2.1)
  have QR2 := aK (Kd.R_reads' HV.out.2.2.2)
  have QK := aK HV.out.size
  go_wp2_with (first
   | ((with_reducible refine gate_callee (f := 77) rfl ?_); refine goesL_ (some 236) rfl rfl Tryd.func77 (by kernel_rfl) rfl #[.agg #[.int .i64 s.old, .slice A1 s.cs.length c1, .slice A2 s.rs.length c2]] rfl tA ?_; (with_reducible refine (spec_l7Minor.calls k _ _ _ _ _ _ _ x.1 x.2.1 x.2.2 _ ?s1 ?s2 ?s3 ?s4 ?sE).mono ?_); (case s1 => exact QR1.out.2.2); (case s2 => exact QR1.out.2.1); (case s3 => exact QR2.out.2.2); (case s4 => exact QR2.out.2.1); (case sE => exact E.out); rintro _ w4 ⟨v1, v2, rfl, r1, r2, hB⟩; refine ⟨_, rfl, ?_⟩; have n0_ := aK (HV.out.isL.below hB); have R1 := aK (IsL.told n0_.out QK.out r1 (by decide)); have R2 := aK (IsL.told n0_.out QK.out r2 (by decide)); clear q0 q1 q2 q3 q4 q5 q6 q7 QR1 QR2 r1 r2 hB; obtain ⟨A5, c5, rfl⟩ := Kd.R_slice R1.out; obtain ⟨A6, c6, rfl⟩ := Kd.R_slice R2.out; obtain ⟨A3, c3, A4, c4, hb, _, _, _⟩ := n0_.out.opens; obtain ⟨q0, q1, q2, q3, q4, q5, q6, q7⟩ := L_cell hb; have z0 := blk_frozen hb 0; have z1 := blk_frozen hb 1; have z2 := blk_frozen hb 2; clear hb))
  (try simp only [Exit.inBlock, Exit.then])
  refine bodyPost_end (results_none rfl _ _ _) rfl ?_
  obtain rfl := ET.out
  exact ⟨rfl, out, IsL.set_heap n0_.out R1.out R2.out, by omega⟩
 have e := H.out
 rw [if_neg k1, if_neg k2, if_neg (fun h => h.elim k3 k4), if_neg k5, if_neg k6, if_neg k8, if_neg k9] at e
 clear H
 have z1 : decide (kd = 1) = false := decide_eq_false k1
 have z2 : decide (kd = 2) = false := decide_eq_false k2
 have z3 : decide (kd = 3) = false := decide_eq_false k3
 have z4 : decide (kd = 4) = false := decide_eq_false k4
 have z5 : decide (kd = 5) = false := decide_eq_false k5
 have z6 : decide (kd = 6) = false := decide_eq_false k6
 have z7 : decide (kd = 7) = false := decide_eq_false k7
 have z8 : decide (kd = 8) = false := decide_eq_false k8
 have z9 : decide (kd = 9) = false := decide_eq_false k9
 obtain rfl := Option.some.inj e
 go_wp2
 (try simp only [Exit.inBlock, Exit.then])
 refine bodyPost_end (results_none rfl _ _ _) rfl ?_
 exact ⟨rfl, out, HV.out.isL, by omega⟩

theorem cellF_mono (room nur : Int) (s : Pl) (pair : Bool) (n a b : Int) (k : Nat) : LeO (cellF k room nur s pair n a b) (cellF (k + 1) room nur s pair n a b) := by
  unfold cellF
  repeat' first
      | (with_reducible exact spec_l7Minor.mono _ _ _ _)
      | (with_reducible exact spec_l7Collect.mono _ _ _ _)
      | (with_reducible exact LeO.refl _)
      | (with_reducible refine LeO.ite ?_ ?_)
      | (with_reducible refine LeO.bind ?_ (fun _ => ?_))
theorem opF_mono (room nur : Int) (s : Pl) (kd A B : Int) (k : Nat) : LeO (opF k room nur s kd A B) (opF (k + 1) room nur s kd A B) := by
  unfold opF
  repeat' first
      | (with_reducible exact spec_l7Minor.mono _ _ _ _)
      | (with_reducible exact spec_l7Collect.mono _ _ _ _)
      | (with_reducible exact spec_l7Show.mono _ _ _)
      | (with_reducible exact cellF_mono _ _ _ _ _ _ _ _)
      | (with_reducible exact LeO.refl _)
      | (with_reducible refine LeO.ite ?_ ?_)
      | (with_reducible refine LeO.bind ?_ (fun _ => ?_))
theorem playF_mono (room nur : Int) (k : Nat) : ∀ (l : List (Int × Int × Int)) (s : Pl), LeO (playF k room nur s l) (playF (k + 1) room nur s l)
  | [], s => LeO.refl _
  | o :: l, s => LeO.bind (opF_mono room nur s _ _ _ k) (fun t => LeO.ite (LeO.refl _) (playF_mono room nur k l t))
theorem op_fine {k : Nat} {s t : Pl} {nur kd A B : Int} (hs : Fine s) (hA : -9223372036854775808 ≤ A ∧ A ≤ 9223372036854775807) (h : opF k 200 nur s kd A B = some t) : Fine t := by
  obtain ⟨u, e, f⟩ := op_ev hs nur kd A B hA
  obtain rfl : u = t := EvL.Ev.unique e (Ev.of (fun m => opF_mono _ _ _ _ _ _ m) h)
  exact f
abbrev opsOfRow (l : List S102) : List (Int × Int × Int) := l.map fun o => (o.f0, o.f1, o.f2)
theorem ops_drop {l : List S102} {j : Nat} (h : j < l.length) : opsOfRow (l.drop j) = ((rd_T102 l (j : Int)).f0, (rd_T102 l (j : Int)).f1, (rd_T102 l (j : Int)).f2) :: opsOfRow (l.drop (j + 1)) := by
  rw [List.drop_eq_getElem_cons h]
  unfold rd_T102
  rw [Int.toNat_natCast, List.getD_eq_getElem?_getD, List.getElem?_eq_getElem h]
  rfl
theorem rd_mem102 {l : List S102} {j : Nat} (h : j < l.length) : rd_T102 l (j : Int) ∈ l := by
  unfold rd_T102
  rw [Int.toNat_natCast, List.getD_eq_getElem?_getD, List.getElem?_eq_getElem h]
  exact List.getElem_mem _
set_option maxHeartbeats 8000000 in
set_option maxRecDepth 100000 in
theorem spec_l7S_play.calls (k g : Nat) (s t : Pl) (nur : Int) (out : ByteArray) (A : Option Addr) (c : Nat) (l : List S102) (wb w : World) (hI : IsL wb w g s nur out) (hF : Fine s) (hr : ∀ W, KeepBut wb W g none → Kd.C k102 W A l.length l) (hc : l.length ≤ c) (hn : ∀ o ∈ l, -9223372036854775808 ≤ o.f1 ∧ o.f1 ≤ 9223372036854775807) (ho : out.size + 505 * l.length ≤ 1000000) (h : playF k 200 nur s (opsOfRow l) = some t) :
    Calls Tryd.prog 56 #[.pointer (some ⟨g, 0, none⟩), .slice A l.length c] w fun e w' => e = .returned (.tuple #[]) ∧ ∃ out', IsL wb w' g t nur out' := by
  have HI := aM hI
  have HF := aM hF
  have HR := aM hr
  have HN := aM hn
  have HO := aM ho
  have H := aM h
  clear hI hF hr hn ho h
  go_enter Tryd.func56, Tryd.ntmps56
  go_wp2
  go_loopg [8] l.length (fun gk v8 w' => ∃ (j : Nat) (s' : Pl) (out' : ByteArray), v8 = .int .i64 (j : Int) ∧ Aside0 (gk + j = l.length) ∧ Aside0 (IsL wb w' g s' nur out') ∧ Aside0 (Fine s') ∧ Aside0 (out'.size ≤ out.size + 505 * j) ∧ Aside0 (playF k 200 nur s' (opsOfRow (l.drop j)) = some t))
  case atStart => exact ⟨0, s, out, rfl, ⟨rfl⟩, ⟨by repeat (first | exact HI.out | apply IsL.drewN | apply IsL.drew)⟩, HF, ⟨Nat.le_refl _⟩, H⟩
  case round =>
    clear HI HF H
    obtain ⟨j, s', out', rfl, HJ, HI, HF, HU, H⟩ := hrel
    cases gk with
    | zero =>
      have z : decide ((j : Int) < (l.length : Int)) = false := decide_eq_false (by have := HJ.out; omega)
      have z2 : decide (j < l.length) = false := decide_eq_false (by have := HJ.out; omega)
      have e := H.out
      rw [List.drop_eq_nil_of_le (by have := HJ.out; omega)] at e
      obtain rfl := Option.some.inj e
      go_wp2
      (try simp only [Exit.inBlock, Exit.then])
      refine bodyPost_end (results_none rfl _ _ _) rfl ?_
      exact ⟨rfl, out', HI.out⟩
    | succ k1 =>
      have hj : j < l.length := by have := HJ.out; omega
      have z : decide ((j : Int) < (l.length : Int)) = true := decide_eq_true (by omega)
      have z2 : decide (j < l.length) = true := decide_eq_true hj
      have e := H.out
      rw [ops_drop hj] at e
      replace e := Option.bind_eq_some_iff.mp e
      obtain ⟨u, e1, e2⟩ := e
      have hm := HN.out _ (rd_mem102 hj)
      obtain ⟨ad, ea, hx0, hx1, hx2⟩ := at_T102 (HR.out _ HI.out.keep) (j : Int) (by omega) (by omega)
      subst ea
      generalize rd_T102 l (j : Int) = x at e1 hm hx0 hx1 hx2
      obtain ⟨x0, x1, x2⟩ := x
      dsimp only at e1 hm hx0 hx1 hx2
      rw [Int.toNat_natCast] at hx0 hx1 hx2
      have E := aM e1
      have FU := aM (op_fine HF.out hm e1)
      have E2 := aM e2
      clear e1 e2 hm H
      have p1 := eq_true (show (0 : Int) ≤ (j : Int) by omega)
      have p2 := eq_true (show (j : Int) < (l.length : Int) by omega)
      have SO := aM (show out'.size ≤ 1000000 by have := HU.out; have := HO.out; have : 505 * j ≤ 505 * l.length := Nat.mul_le_mul_left _ (Nat.le_of_lt hj); omega)
      clear hj
      go_upto_region 4 with (first
        | ((with_reducible refine gate_dst (N := 5) rfl ?_); refine box_event ?hg (N := 5) ?hd (cs := #[.int .i64 0, .int .i64 0, .int .i64 0]) (t := 102) ?hr ?_; (case hd => rfl); (case hg => rfl); (case hr => first | (go_simp; done) | (go_simp; rfl)); intro gc hg w2 hbox hb; have n0_ := aM (HI.out.box hg hb); have n1_ := aM (hbox); clear HI; have HI := n0_; have BC := n1_; clear n0_ n1_; clear hb hbox hg; obtain ⟨c0, c1, c2⟩ := B_cell BC.out; have f0 := blk_frozen BC.out 0; have f1 := blk_frozen BC.out 1; have f2 := blk_frozen BC.out 2)
        | ((with_reducible refine gate_callee (f := 68) rfl ?_); refine goesL_ (some 14) rfl rfl Tryd.func68 (by kernel_rfl) rfl #[.pointer (some ⟨g, 0, none⟩), .agg #[.int .i64 x0, .int .i64 x1, .int .i64 x2]] rfl tA ?_; (with_reducible refine (spec_l7S_op.calls k g s' u nur out' x0 x1 x2 wb _ ?s1 HF.out SO.out E.out).mono ?_); (case s1 => exact (((HI.out.put 0 _).put 1 _).put 2 _).isL); rintro _ w4 ⟨rfl, out2, hI4, ho2⟩; refine ⟨_, rfl, ?_⟩; have I4 := aM hI4; have O4 := aM ho2; clear HI BC c0 c1 c2 f0 f1 f2 hI4 ho2))
      obtain ⟨A3, c3, A4, c4, hv⟩ := I4.out.openv
      obtain ⟨q0, q1, q2, q3, q4, q5, q6, q7⟩ := L_cell hv.blk
      clear hv
      cases hf : u.full with
      | true =>
        have e := E2.out
        rw [if_pos hf] at e
        obtain rfl := Option.some.inj e
        rw [hf] at q6
        go_wp2
        (try simp only [Exit.inBlock, Exit.then])
        refine bodyPost_ret (results_none rfl _ _ _) rfl ?_
        exact ⟨rfl, out2, I4.out⟩
      | false =>
        have e := E2.out
        rw [if_neg (by rw [hf]; decide)] at e
        rw [hf] at q6
        have E3 := aM e
        clear e E2
        go_wp2
        go_roundg k1
        case measure => omega
        case rel => exact ⟨j + 1, u, out2, by rw [show wrap64 ((j : Int) + 1) = ((j + 1 : Nat) : Int) from HeapL.next j (n := l.length) (by have := HJ.out; omega) (by have := HO.out; omega)], ⟨by have := HJ.out; omega⟩, I4, FU, ⟨by have := HU.out; have := O4.out; omega⟩, E3⟩
end Go.Proofs.YtcbgjcnekdoloaaDoor.G

namespace Go.Proofs.YtcbgjcnekdoloaaDoor.G
open Go.RowKit Go.Proofs.YtcbgjcnekdoloaaDoorW.PrintWords Go.Proofs.YtcbgjcnekdoloaaDoorW.PrintLast Go.Proofs.YtcbgjcnekdoloaaDoorW.PrintMore Go.Proofs.YtcbgjcnekdoloaaDoor.PlayL Go.Proofs.YtcbgjcnekdoloaaDoor.HeapL Go.Proofs.YtcbgjcnekdoloaaDoor.EvL Go.Proofs.YtcbgjcnekdoloaaDoor.DrawL Go.Proofs.YtcbgjcnekdoloaaDoor.Short
set_option linter.unusedVariables false
set_option linter.unusedSimpArgs false

theorem play_fine {k : Nat} {s t : Pl} {nur : Int} {l : List (Int × Int × Int)} (hs : Fine s) (hn : ∀ o ∈ l, -9223372036854775808 ≤ o.2.1 ∧ o.2.1 ≤ 9223372036854775807) (h : playF k 200 nur s l = some t) : Fine t := by
 obtain ⟨u, e, f⟩ := play_ev nur l hs hn
 obtain rfl : u = t := EvL.Ev.unique e (Ev.of (fun m => playF_mono _ _ m _ _) h)
 exact f
def spec_l1Cur_heap.T10 : Bool × List (List Nat × List Nat) := (true, [([], []), ([0], [0]), ([], []), ([2], [2]), ([3], [3]), ([4], [4]), ([1, 5, 3], [1, 5]), ([0, 1, 2, 3, 4, 5, 6], []), ([7, 6, 6, 0, 1, 2, 3, 4, 5, 6], [6, 7])])
def spec_l1Cur_heap.B10 : List Nat := [0, 1, 0, 4, 12, 28, 63, 127, 255]
theorem spec_l1Cur_heap.tab10 : rtab .any (opsOf Tryd.f43 10) = spec_l1Cur_heap.T10 := by kernel_rfl
theorem spec_l1Cur_heap.bits10 : waitsOk spec_l1Cur_heap.T10.2 spec_l1Cur_heap.B10 = true := by kernel_rfl
def spec_l1Cur_heap.T12 : Bool × List (List Nat × List Nat) := (true, [([], []), ([0], [0]), ([], []), ([2], [2]), ([], []), ([4, 3], [4]), ([3, 5], [3, 5]), ([6], [6]), ([1, 7, 5], [1, 7]), ([0, 1, 2, 3, 4, 5, 6, 7, 8], []), ([9, 8, 8, 0, 1, 2, 3, 4, 5, 6, 7, 8], [8, 9])])
def spec_l1Cur_heap.B12 : List Nat := [0, 1, 0, 4, 0, 28, 60, 124, 255, 511, 1023]
theorem spec_l1Cur_heap.tab12 : rtab .any (opsOf Tryd.f43 12) = spec_l1Cur_heap.T12 := by kernel_rfl
theorem spec_l1Cur_heap.bits12 : waitsOk spec_l1Cur_heap.T12.2 spec_l1Cur_heap.B12 = true := by kernel_rfl
set_option maxHeartbeats 8000000 in
set_option maxRecDepth 100000 in
theorem spec_l1Cur_heap.calls (k g : Nat) (c : List Int) (a s : Int) (r1 : Int) (r2 : List S61) (r3 : List Int) (r4 r5 : Int) (w0 w : World) (hI : IsS76 w0 w g c a s) (hB : Below w0.heap.size w0 w) (h : heapF k c a s = some (r1, r2, r3, r4, r5)) :
  Calls Tryd.prog 43 #[.pointer (some ⟨g, 0, none⟩)] w fun e w' => ∃ v1 v2 : Value, e = .returned (.agg #[.int .i64 r1, v1, v2]) ∧ Kd.R k61 61 w' w0.heap.size (fun _ => True) v1 r2 ∧ Kd.R (Kd.int .i64) 3 w' w0.heap.size (fun _ => True) v2 r3 ∧ Below w0.heap.size w0 w' := by
 have hu31 := Tryd.underlying31
 have hu86 := Tryd.underlying86
 have HI := aK hI
 have HB := aK hB
 clear hI hB
 unfold heapF at h
 replace h := Option.bind_eq_some_iff.mp h
 obtain ⟨⟨p, a1, s1⟩, e1, h⟩ := h
 replace h := Option.bind_eq_some_iff.mp h
 obtain ⟨⟨l, a2, s2⟩, e2, h⟩ := h
 dsimp only at e2 h
 by_cases hok : l.all opOk = true
 ·rw [if_pos hok] at h
  replace h := Option.bind_eq_some_iff.mp h
  obtain ⟨t, e3, h⟩ := h
  replace h := Option.bind_eq_some_iff.mp h
  obtain ⟨⟨q, a4, s4⟩, e4, h⟩ := h
  dsimp only at e4 h
  have E1 := aK e1
  have E2 := aK e2
  have E3 := aK e3
  have E4 := aK e4
  have H := aK h
  have hno : ∀ o ∈ l, -9223372036854775808 ≤ o.f1 ∧ o.f1 ≤ 9223372036854775807 := fun o ho => of_decide_eq_true (List.all_eq_true.mp hok o ho)
  have NO := aK hno
  have HF : Aside0 (Fine t) := ⟨by
   split at e3
   ·refine play_fine empty_fine (fun o ho => ?_) e3
    obtain ⟨y, hy, rfl⟩ := List.mem_map.mp ho
    exact hno y hy
   ·obtain rfl := Option.some.inj e3
    exact empty_fine⟩
  clear e1 e2 e3 e4 h hok hno
  go_enter Tryd.func43, Tryd.ntmps43
  go_upto_region 3 with (first
   | ((with_reducible refine gate_dst (N := 2) rfl ?_); refine bE (N := 2) (cs := #[.int .i64 0, .slice none 0 0, .slice none 0 0]) (t := 31) ?_; intro gr hg w1 hbox hb; have HS1 : Aside0 (HS w0 w1 g c a s gr) := ⟨⟨HI.out.below hb, below_step HB.out hb, hbox, by have := HB.out.size; omega⟩⟩; clear HI HB hg hbox hb)
   | ((with_reducible refine gate_callee (f := 54) rfl ?_); refine goesL_ (some 7) rfl rfl Tryd.func54 (by kernel_rfl) rfl #[.pointer (some ⟨g, 0, none⟩), .int .i64 20] rfl tA ?_; (with_reducible refine (spec_l1Cur_pick.calls g c a s 20 p a1 s1 w0 _ ?side1 ?side2 E1.out).mono ?_); (case side1 => exact HS1.out.1); (case side2 => exact HS1.out.2.1); rintro _ w2 ⟨rfl, hi, hb, hk⟩; refine ⟨_, rfl, ?_⟩; have HS2 := aK (HS1.out.call hi hb hk); clear HS1 hi hb hk)
   | ((with_reducible refine gate_dst (N := 10) rfl ?_); refine box_event ?hg (N := 10) ?hd (cs := lcs 0 (.slice none 0 0) (.slice none 0 0) (wrap64 (1 + p)) false ⟨#[]⟩) (t := 86) ?hr ?_; (case hd => rfl); (case hg => rfl); (case hr => go_simp); intro gL hg w3 hbox hb; have HS3 := aK (HS2.out.below hb); have BL := aK hbox; have GL := aK (show w0.heap.size ≤ gL by have := HS2.out.2.1.size; omega); clear HS2 hg hbox hb)
   | ((with_reducible refine gate_callee (f := 55) rfl ?_); refine goesL_ (some 12) rfl rfl Tryd.func55 (by kernel_rfl) rfl #[.pointer (some ⟨g, 0, none⟩)] rfl tA ?_; (with_reducible refine (spec_l1Cur_heapOps.calls k g c a1 s1 l a2 s2 w0 _ ?side1 ?side2 E2.out).mono ?_); (case side1 => exact HS3.out.1); (case side2 => exact HS3.out.2.1); rintro _ w4 ⟨v4, rfl, hR, hi, hb, hk⟩; refine ⟨_, rfl, ?_⟩; have HS4 := aK (HS3.out.call hi hb hk); have BL4 := aK (hk.blk BL.out (Ne.symm (HS3.out.1.ne_blk BL.out (by decide))) (by simp)); obtain ⟨A4, c4, rfl⟩ := Kd.R_slice hR; have HR := aK hR; clear HS3 BL hR hi hb hk))
  go_upto_if 15 with fail
  have W4 := aK HS4.out.2.1.size
  go_cut [] (fun wc => ∃ out, Aside0 (IsL w4 wc gL t (wrap64 (1 + p)) out) ∧ Aside0 (HS w0 wc g c a2 s2 gr))
  case first =>
   have IL : Aside0 (IsL w4 w4 gL empty (wrap64 (1 + p)) ⟨#[]⟩) := ⟨.slice none 0 0, .slice none 0 0, BL4.out, KB.refl _ _, Kd.R_nil _ _ _ _ _, Kd.R_nil _ _ _ _ _⟩
   by_cases hl : (l.length : Int) ≤ 150
   ·have e := E3.out
    rw [if_pos hl] at e
    have E := aK e
    have z : decide ((l.length : Int) ≤ 150) = true := decide_eq_true hl
    have z2 : decide (l.length ≤ 150) = true := decide_eq_true (by omega)
    have LL := aK (show l.length ≤ 150 by omega)
    clear e hl
    rw [z]
    go_wp2_with (first
     | ((with_reducible refine gate_callee (f := 56) rfl ?_); refine goesL_ (some 18) rfl rfl Tryd.func56 (by kernel_rfl) rfl #[.pointer (some ⟨gL, 0, none⟩), .slice A4 l.length c4] rfl tA ?_; (with_reducible refine (spec_l7S_play.calls k gL empty t (wrap64 (1 + p)) ⟨#[]⟩ A4 c4 l w4 _ ?s1 ?s2 ?s3 ?s4 ?s5 ?s6 ?s7).mono ?_); (case s1 => exact IL.out); (case s2 => exact empty_fine); (case s3 => exact fun W hk => (Kd.R_reads' (Kd.R_keep (Kd.R_types HR.out BL4.out (by decide)) hk (fun _ h => h.2))).2.2); (case s4 => exact (Kd.R_reads' HR.out).2.1); (case s5 => exact NO.out); (case s6 => have := LL.out; show 0 + 505 * l.length ≤ _; omega); (case s7 => exact E.out); rintro _ w5 ⟨rfl, out, hI5⟩; refine ⟨_, rfl, ?_⟩))
    go_meet
    case rel => exact ⟨out, ⟨hI5⟩, ⟨HS4.out.play BL4.out GL.out hI5.kb⟩⟩
   ·have e := E3.out
    rw [if_neg hl] at e
    obtain rfl := Option.some.inj e
    have z : decide ((l.length : Int) ≤ 150) = false := decide_eq_false hl
    have z2 : decide (l.length ≤ 150) = false := decide_eq_false (by omega)
    rw [z]
    go_wp2
    go_meet
    case rel => exact ⟨_, IL, HS4⟩
  case rest =>
   obtain ⟨out, IL, HS5⟩ := hcut
   clear HS4 BL4 HR E3
   obtain ⟨A5, c5, A6, c6, hv⟩ := IL.out.openv
   obtain ⟨q0, q1, q2, q3, q4, q5, q6, q7⟩ := L_cell hv.blk
   have HV := aK hv
   clear hv
   go_upto_region 6 with (first
    | ((with_reducible refine gate_dst (N := 5) rfl ?_); refine bE (N := 5) (cs := #[.int .i64 0, .slice none 0 0, .slice none 0 0]) (t := 31) ?_; intro g5 hg w6 hbox hb; have n0_ := HT.new HS5.out HV.out W4.out hg hb hbox; have f0 := blk_frozen hbox 0; have f1 := blk_frozen hbox 1; have f2 := blk_frozen hbox 2; have c0 := (blk_cell hbox 0); have c1 := (blk_cell hbox 1); have c2 := (blk_cell hbox 2); clear hg hbox hb))
   clear q0 q1 q2 q3 q4 q5 q6 q7 f0 f1 f2 c0 c1 c2
   generalize ((w6.setCell ⟨g5, 0, none⟩ (.int .i64 t.old)).setCell ⟨g5, 1, none⟩ (.slice A5 t.cs.length c5)).setCell ⟨g5, 2, none⟩ (.slice A6 t.rs.length c6) = w7 at n0_ ⊢
   have HT7 := aK n0_
   clear n0_ HS5 HV IL
   go_upto_region 7 with (first
    | ((with_reducible refine gate_callee (f := 54) rfl ?_); refine goesL_ (some 24) rfl rfl Tryd.func54 (by kernel_rfl) rfl #[.pointer (some ⟨g, 0, none⟩), .int .i64 30] rfl tA ?_; (with_reducible refine (spec_l1Cur_pick.calls g c a2 s2 30 q a4 s4 w0 _ ?side1 ?side2 E4.out).mono ?_); (case side1 => exact HT7.out.1.1); (case side2 => exact HT7.out.1.2.1); rintro _ w8 ⟨rfl, hi, hb, hk⟩; refine ⟨_, rfl, ?_⟩; have HT8 := aK (HT7.out.call hi hb hk); clear HT7 hi hb hk))
   have LT := aK (good_parts HF.out.good)
   by_cases k0 : q = 0
   ·subst k0
    have e := H.out
    rw [if_pos rfl] at e
    obtain ⟨ls, hls⟩ : ∃ y, y = [(-1), 0, (t.cs.length : Int), wrap64 ((t.cs.length : Int) + 1)] := ⟨_, rfl⟩
    rw [← hls] at e
    have NL := aK hls
    clear hls
    replace e := Option.bind_eq_some_iff.mp e
    obtain ⟨⟨r, a5, s5⟩, e5, e6⟩ := e
    simp only [Option.some.injEq, Prod.mk.injEq] at e6
    obtain ⟨rfl, rfl, rfl, rfl, rfl⟩ := e6
    have E5 := aK e5
    clear e5 H
    obtain ⟨d0, d1, d2⟩ := HT8.out.cells
    go_upto_region 13 with (first
     | ((with_reducible refine gate_dst (N := 35) rfl ?_); refine Kd.R_lit (Kd.int .i64) _ 3 ?hg (N := 35) ?hd (xs := ([(-1), 0, (t.cs.length : Int), wrap64 ((t.cs.length : Int) + 1)] : List Int)) (inner := [.int .i64 (-1), .int .i64 0, .int .i64 (t.cs.length : Int), .int .i64 (wrap64 ((t.cs.length : Int) + 1))]) (ok := fun _ => True) (okp := fun _ => True) ?hr ?hp (fun _ hk => hk) trivial (Below.refl _ _) (Nat.le_refl _) (by simp) ?_; (case hd => rfl); (case hg => rfl); (case hr => go_simp); (case hp => exact (Reps.one (show Kd.M (Kd.int .i64) _ _ _ (-1) [.int .i64 (-1)] from rfl) (Reps.one (show Kd.M (Kd.int .i64) _ _ _ 0 [.int .i64 0] from rfl) (Reps.one (show Kd.M (Kd.int .i64) _ _ _ (t.cs.length : Int) [.int .i64 (t.cs.length : Int)] from rfl) (Reps.one (show Kd.M (Kd.int .i64) _ _ _ (wrap64 ((t.cs.length : Int) + 1)) [.int .i64 (wrap64 ((t.cs.length : Int) + 1))] from rfl) (Reps.none _ _)))))); intro v9 w9 ho hb hg_ hnew_; rw [← NL.out] at ho; obtain ⟨A9, c9, rfl⟩ := Kd.R_slice ho; have HO9 := aK ho; have HT9 := aK (HT8.out.below hb); clear HT8 d0 d1 d2 ho hb hg_ hnew_)
     | ((with_reducible refine gate_callee (f := 57) rfl ?_); refine goesL_ (some 36) rfl rfl Tryd.func57 (by kernel_rfl) rfl #[.pointer (some ⟨g, 0, none⟩), .slice A9 ls.length c9] rfl tA ?_; (with_reducible refine (spec_l1Cur_among.calls g c a4 s4 _ _ ls r a5 s5 w0 _ ?side1 ?side2 ?side3 ?side4 ?side5 E5.out).mono ?_); (case side1 => exact HT9.out.1.1); (case side2 => exact HT9.out.1.2.1); (case side3 => exact (Kd.R_reads' HO9.out).2.2); (case side4 => exact (Kd.R_reads' HO9.out).2.1); (case side5 => exact far_slice (IsS76.own_ne HT9.out.1.1 HO9.out (by decide))); rintro _ w10 ⟨rfl, hi, hb, hk⟩; refine ⟨_, rfl, ?_⟩; have HT10 := aK (HT9.out.call hi hb hk); clear HT9 HO9 hi hb hk; obtain ⟨d0, d1, d2⟩ := HT10.out.cells; have y0 := blk_frozen HT10.out.2.1 0))
    have n1_ := HT10.out.put 0 (.int .i64 r) (x0 := r) rfl HT10.out.2.2.2.2.1 HT10.out.2.2.2.2.2
    clear HT10 d0 d1 d2 y0
    generalize w10.setCell ⟨g5, 0, none⟩ (.int .i64 r) = w11 at n1_ ⊢
    have HT11 := aK n1_
    clear n1_
    obtain ⟨d0, d1, d2⟩ := HT11.out.cells
    have z0 : w11.cell? ⟨gr, 0, none⟩ = some (.int .i64 0) := (blk_cell HT11.out.1.2.2.1 0).trans rfl
    have z1 : w11.cell? ⟨gr, 1, none⟩ = some (.slice none 0 0) := (blk_cell HT11.out.1.2.2.1 1).trans rfl
    have z2 : w11.cell? ⟨gr, 2, none⟩ = some (.slice none 0 0) := (blk_cell HT11.out.1.2.2.1 2).trans rfl
    have x0 := blk_frozen HT11.out.1.2.2.1 0
    have x1 := blk_frozen HT11.out.1.2.2.1 1
    have x2 := blk_frozen HT11.out.1.2.2.1 2
    go_wp2
    (try simp only [Exit.inBlock, Exit.then])
    refine bodyPost_ret (results_cell_row rfl _ _ gr 31 #[.int .i64 (r), (.slice A5 t.cs.length c5), (.slice A6 t.rs.length c6)] (0, 0) _ rfl HT11.out.told.1 Tryd.underlying31 rfl (by kernel_rfl)) rfl ?_
    exact ⟨_, _, rfl, HT11.out.told.2.1, HT11.out.told.2.2.1, HT11.out.told.2.2.2⟩
   by_cases k1 : q = 1
   ·subst k1
    have e := H.out
    rw [if_neg (by decide), if_pos rfl] at e
    replace e := Option.bind_eq_some_iff.mp e
    obtain ⟨⟨r, a5, s5⟩, e5, e6⟩ := e
    dsimp only at e6
    obtain ⟨rs2, hrs⟩ : ∃ y, y = t.rs ++ [wrap64 (r - 1)] := ⟨_, rfl⟩
    rw [← hrs] at e6
    have RS := aK hrs
    clear hrs
    simp only [Option.some.injEq, Prod.mk.injEq] at e6
    obtain ⟨rfl, rfl, rfl, rfl, rfl⟩ := e6
    have E5 := aK e5
    clear e5 H
    obtain ⟨d0, d1, d2⟩ := HT8.out.cells
    go_upto_region 10 with fail
    refine start_ (n := 9) (S := fun w' => w'.cell? ⟨g5, 2, none⟩ = some (.slice A6 t.rs.length c6)) (ds := [6, 8]) (bs 0 9) (by kernel_rfl) rfl rfl d2 (fun hHeld => ?_); refine with_tabW spec_l1Cur_heap.tab10 spec_l1Cur_heap.bits10 (fun HT_ HW_ => ?_)
    have HT9 := aK HT8.out.drew
    clear HT8 d0 d1 d2
    generalize w8.drew = w9 at HT9 hHeld ⊢
    refine pS (i := 0) (N := some 40) (bs 1 8) (aO HT_) ?_
    refine pS (i := 2) (N := some 42) #[true, false, true, false, false, false, false, false, false] (aO HT_) ?_
    refine take_ (i := 1) (N := some 41) (v := ?_) (a' := ?_) (bs 3 6) rfl rfl (take_ofW HT_.out HW_.out (by kernel_rfl)) (fun _ _ _ h => h) (Or.inl ⟨by rfl, ?_⟩) hHeld ?_ ?_
    rotate_left
    ·rintro w' s0
     go_simp
     with_reducible rfl
    rotate_left
    ·simp only [sP, i64_w, i32_w]
     rfl
    refine one_ (i := 3) (N := some 43) (bs 4 5) rfl rfl (one_of HT_.out (by kernel_rfl)) (by decide) (fun K hK => ?_)
    refine goes_ Tryd.func54 (by kernel_rfl) rfl #[.pointer (some ⟨g, 0, none⟩), .int .i64 9] (by rfl) rfl rfl tA ?_
    refine (spec_l1Cur_pick.calls g c a4 s4 9 r a5 s5 w0 _ HT9.out.1.1 HT9.out.1.2.1 E5.out).mono ?_
    rintro _ w10 ⟨rfl, hi, hb, hk⟩
    refine ⟨_, rfl, ?_⟩
    have HT10 := aK (HT9.out.call hi hb hk)
    clear HT9 hi hb hk hHeld
    refine hK.out _ _ HT10.out.cells.2.2 (fun hHeld => ?_)
    clear hK K
    refine norm_ (a' := ?_) ?_ ?_
    rotate_left
    ·show Act.put _ (some 43) _ = _
     simp only [sP, i64_w, i32_w]
     rfl
    refine pS (i := 4) (N := some 44) (bs 5 4) (aO HT_) ?_
    refine one_ (i := 5) (N := some 45) (bs 6 3) rfl rfl (one_of HT_.out (by kernel_rfl)) (by decide) (fun K hK => ?_)
    refine value_ (w1 := ?_) (v := ?_) (by rfl) rfl ?_ ?_
    rotate_left 2
    ·go_simp
     constructor
     ·rfl
     ·rfl
    refine hK.out _ _ ((blk_cell (blk_alloc HT10.out.2.1 _) 2).trans rfl) (fun hHeld => ?_)
    clear hK K
    refine norm_ (a' := ?_) ?_ ?_
    rotate_left
    ·show Act.put _ (some 45) _ = _
     simp only [sP, i64_w, i32_w]
     rfl
    refine last_ (i := 6) (N := some 46) (bs 7 2) rfl rfl (one_of HT_.out (by kernel_rfl)) (by decide) (fun K hK => ?_)
    refine Kd.R_append_step (Kd.int .i64) (w0 := w10) w0.heap.size (by rfl) (.tmp 41) (.tmp 45) 23 3 (.int .i64 0) 8 rfl Tryd.underlying23 info3 rfl (by decide) (by omega) (.slice A6 t.rs.length c6) t.rs (wrap64 (r - 1)) [.int .i64 (wrap64 (r - 1))] (fun _ => True) (fun _ => False) rfl rfl rfl (fun _ hk => hk.elim) (fun _ _ => trivial) HT10.out.2.2.2.2.2 (Below.refl _ _) HT10.out.size (by have := LT.out.2.1; omega) ?_
    intro v11 w11 ho hb hg hat
    rw [← RS.out] at ho
    obtain ⟨A8, c8, rfl⟩ := Kd.R_slice ho
    have n1_ := HT10.out.grown2 hg ho
    have HT12 := aK n1_.1
    have hG := n1_.2
    clear n1_ HT10 hHeld ho hb hg hat
    refine hK.out _ _ ?_
    clear hK K
    refine norm_ (a' := ?_) ?_ ?_
    rotate_left
    ·show Act.put _ (some 46) _ = _
     simp only [sP, i64_w, i32_w]
     rfl
    refine pS (i := 7) (N := some 47) (bs 8 1) (aO HT_) ?_
    refine last_ (i := 8) (N := none) (bs 9 0) rfl rfl (one_of HT_.out (by kernel_rfl)) (by decide) (fun K hK => ?_)
    have hs : w11.cell? ⟨g5, 2, none⟩ = some (.slice A6 t.rs.length c6) := (blk_cell hG 2).trans rfl
    have hfs := blk_frozen hG 2
    refine skip_ (w1 := ?_) (by rfl) rfl ?_ ?_
    rotate_left
    ·go_simp
     rfl
    refine hK.out _ _ ?_
    clear hK K
    refine done_ (done_of HT_.out (by kernel_rfl)) ?_
    clear hs hfs hG
    go_upto_region 13 with fail
    generalize w11.setCell ⟨g5, 2, none⟩ (.slice A8 rs2.length c8) = w12 at HT12 ⊢
    obtain ⟨d0, d1, d2⟩ := HT12.out.cells
    have z0 : w12.cell? ⟨gr, 0, none⟩ = some (.int .i64 0) := (blk_cell HT12.out.1.2.2.1 0).trans rfl
    have z1 : w12.cell? ⟨gr, 1, none⟩ = some (.slice none 0 0) := (blk_cell HT12.out.1.2.2.1 1).trans rfl
    have z2 : w12.cell? ⟨gr, 2, none⟩ = some (.slice none 0 0) := (blk_cell HT12.out.1.2.2.1 2).trans rfl
    have x0 := blk_frozen HT12.out.1.2.2.1 0
    have x1 := blk_frozen HT12.out.1.2.2.1 1
    have x2 := blk_frozen HT12.out.1.2.2.1 2
    go_wp2
    (try simp only [Exit.inBlock, Exit.then])
    refine bodyPost_ret (results_cell_row rfl _ _ gr 31 #[.int .i64 (t.old), (.slice A5 t.cs.length c5), (.slice A8 rs2.length c8)] (0, 0) _ rfl HT12.out.told.1 Tryd.underlying31 rfl (by kernel_rfl)) rfl ?_
    exact ⟨_, _, rfl, HT12.out.told.2.1, HT12.out.told.2.2.1, HT12.out.told.2.2.2⟩
   by_cases k2 : q = 2
   ·subst k2
    have e := H.out
    rw [if_neg (by decide), if_neg (by decide), if_pos rfl] at e
    replace e := Option.bind_eq_some_iff.mp e
    obtain ⟨⟨ra, a5, s5⟩, e5, e⟩ := e
    replace e := Option.bind_eq_some_iff.mp e
    obtain ⟨⟨rb, a6, s6⟩, e6, e7⟩ := e
    dsimp only at e6 e7
    obtain ⟨cs2, hcs⟩ : ∃ y, y = t.cs ++ [(⟨false, 0, ra, rb⟩ : S61)] := ⟨_, rfl⟩
    rw [← hcs] at e7
    have CS := aK hcs
    clear hcs
    simp only [Option.some.injEq, Prod.mk.injEq] at e7
    obtain ⟨rfl, rfl, rfl, rfl, rfl⟩ := e7
    have E5 := aK e5
    have E6 := aK e6
    clear e5 e6 H
    obtain ⟨d0, d1, d2⟩ := HT8.out.cells
    go_upto_region 12 with fail
    refine start_ (n := 11) (S := fun w' => w'.cell? ⟨g5, 1, none⟩ = some (.slice A5 t.cs.length c5)) (ds := [8, 10]) (bs 0 11) (by kernel_rfl) rfl rfl d1 (fun hHeld => ?_); refine with_tabW spec_l1Cur_heap.tab12 spec_l1Cur_heap.bits12 (fun HT_ HW_ => ?_)
    have HT9 := aK HT8.out.drew
    clear HT8 d0 d1 d2
    generalize w8.drew = w9 at HT9 hHeld ⊢
    refine pS (i := 0) (N := some 50) (bs 1 10) (aO HT_) ?_
    refine pS (i := 2) (N := some 52) #[true, false, true, false, false, false, false, false, false, false, false] (aO HT_) ?_
    refine pS (i := 4) (N := some 54) #[true, false, true, false, true, false, false, false, false, false, false] (aO HT_) ?_
    refine take_ (i := 1) (N := some 51) (v := ?_) (a' := ?_) #[true, true, true, false, true, false, false, false, false, false, false] rfl rfl (take_ofW HT_.out HW_.out (by kernel_rfl)) (fun _ _ _ h => h) (Or.inl ⟨by rfl, ?_⟩) hHeld ?_ ?_
    rotate_left
    ·rintro w' s0
     go_simp
     with_reducible rfl
    rotate_left
    ·simp only [sP, i64_w, i32_w]
     rfl
    refine one_ (i := 3) (N := some 53) (bs 5 6) rfl rfl (one_of HT_.out (by kernel_rfl)) (by decide) (fun K hK => ?_)
    refine goes_ Tryd.func54 (by kernel_rfl) rfl #[.pointer (some ⟨g, 0, none⟩), .int .i64 9] (by rfl) rfl rfl tA ?_
    refine (spec_l1Cur_pick.calls g c a4 s4 9 ra a5 s5 w0 _ HT9.out.1.1 HT9.out.1.2.1 E5.out).mono ?_
    rintro _ w10 ⟨rfl, hi, hb, hk⟩
    refine ⟨_, rfl, ?_⟩
    have HT10 := aK (HT9.out.call hi hb hk)
    clear HT9 hi hb hk hHeld
    refine hK.out _ _ HT10.out.cells.2.1 (fun hHeld => ?_)
    clear hK K
    refine norm_ (a' := ?_) ?_ ?_
    rotate_left
    ·show Act.put _ (some 53) _ = _
     simp only [sP, i64_w, i32_w]
     rfl
    refine one_ (i := 5) (N := some 55) (bs 6 5) rfl rfl (one_of HT_.out (by kernel_rfl)) (by decide) (fun K hK => ?_)
    refine goes_ Tryd.func54 (by kernel_rfl) rfl #[.pointer (some ⟨g, 0, none⟩), .int .i64 9] (by rfl) rfl rfl tA ?_
    refine (spec_l1Cur_pick.calls g c a5 s5 9 rb a6 s6 w0 _ HT10.out.1.1 HT10.out.1.2.1 E6.out).mono ?_
    rintro _ w11 ⟨rfl, hi, hb, hk⟩
    refine ⟨_, rfl, ?_⟩
    have HT11 := aK (HT10.out.call hi hb hk)
    clear HT10 hi hb hk hHeld
    refine hK.out _ _ HT11.out.cells.2.1 (fun hHeld => ?_)
    clear hK K
    refine norm_ (a' := ?_) ?_ ?_
    rotate_left
    ·show Act.put _ (some 55) _ = _
     simp only [sP, i64_w, i32_w]
     rfl
    refine pS (i := 6) (N := some 56) (bs 7 4) (aO HT_) ?_
    refine one_ (i := 7) (N := some 57) (bs 8 3) rfl rfl (one_of HT_.out (by kernel_rfl)) (by decide) (fun K hK => ?_)
    refine value_ (w1 := ?_) (v := ?_) (by rfl) rfl ?_ ?_
    rotate_left 2
    ·go_simp
     constructor
     ·rfl
     ·rfl
    refine hK.out _ _ ((blk_cell (blk_alloc HT11.out.2.1 _) 1).trans rfl) (fun hHeld => ?_)
    clear hK K
    refine norm_ (a' := ?_) ?_ ?_
    rotate_left
    ·show Act.put _ (some 57) _ = _
     simp only [sP, i64_w, i32_w]
     rfl
    refine last_ (i := 8) (N := some 58) (bs 9 2) rfl rfl (one_of HT_.out (by kernel_rfl)) (by decide) (fun K hK => ?_)
    refine Kd.R_append_step k61 (w0 := w11) w0.heap.size (by rfl) (.tmp 51) (.tmp 57) 29 61 (.agg #[(.bool false), (.int .i64 0), (.int .i64 0), (.int .i64 0)]) 32 rfl Tryd.underlying29 info61 rfl (by decide) (by omega) (.slice A5 t.cs.length c5) t.cs (⟨false, 0, ra, rb⟩ : S61) [.bool false, .int .i64 0, .int .i64 ra, .int .i64 rb] (fun _ => True) (fun _ => False) rfl rfl (k61_mkM _ _ _ (⟨false, 0, ra, rb⟩ : S61)) (fun _ hk => hk.elim) (fun _ _ => trivial) HT11.out.2.2.2.2.1 (Below.refl _ _) HT11.out.size (by have := LT.out.1; omega) ?_
    intro v12 w12 ho hb hg hat
    rw [← CS.out] at ho
    obtain ⟨A8, c8, rfl⟩ := Kd.R_slice ho
    have n1_ := HT11.out.grown1 hg ho
    have HT13 := aK n1_.1
    have hG := n1_.2
    clear n1_ HT11 hHeld ho hb hg hat
    refine hK.out _ _ ?_
    clear hK K
    refine norm_ (a' := ?_) ?_ ?_
    rotate_left
    ·show Act.put _ (some 58) _ = _
     simp only [sP, i64_w, i32_w]
     rfl
    refine pS (i := 9) (N := some 59) (bs 10 1) (aO HT_) ?_
    refine last_ (i := 10) (N := none) (bs 11 0) rfl rfl (one_of HT_.out (by kernel_rfl)) (by decide) (fun K hK => ?_)
    have hs : w12.cell? ⟨g5, 1, none⟩ = some (.slice A5 t.cs.length c5) := (blk_cell hG 1).trans rfl
    have hfs := blk_frozen hG 1
    refine skip_ (w1 := ?_) (by rfl) rfl ?_ ?_
    rotate_left
    ·go_simp
     rfl
    refine hK.out _ _ ?_
    clear hK K
    refine done_ (done_of HT_.out (by kernel_rfl)) ?_
    clear hs hfs hG
    go_upto_region 13 with fail
    generalize w12.setCell ⟨g5, 1, none⟩ (.slice A8 cs2.length c8) = w13 at HT13 ⊢
    obtain ⟨d0, d1, d2⟩ := HT13.out.cells
    have z0 : w13.cell? ⟨gr, 0, none⟩ = some (.int .i64 0) := (blk_cell HT13.out.1.2.2.1 0).trans rfl
    have z1 : w13.cell? ⟨gr, 1, none⟩ = some (.slice none 0 0) := (blk_cell HT13.out.1.2.2.1 1).trans rfl
    have z2 : w13.cell? ⟨gr, 2, none⟩ = some (.slice none 0 0) := (blk_cell HT13.out.1.2.2.1 2).trans rfl
    have x0 := blk_frozen HT13.out.1.2.2.1 0
    have x1 := blk_frozen HT13.out.1.2.2.1 1
    have x2 := blk_frozen HT13.out.1.2.2.1 2
    go_wp2
    (try simp only [Exit.inBlock, Exit.then])
    refine bodyPost_ret (results_cell_row rfl _ _ gr 31 #[.int .i64 (t.old), (.slice A8 cs2.length c8), (.slice A6 t.rs.length c6)] (0, 0) _ rfl HT13.out.told.1 Tryd.underlying31 rfl (by kernel_rfl)) rfl ?_
    exact ⟨_, _, rfl, HT13.out.told.2.1, HT13.out.told.2.2.1, HT13.out.told.2.2.2⟩
   have e := H.out
   rw [if_neg k0, if_neg k1, if_neg k2] at e
   simp only [Option.some.injEq, Prod.mk.injEq] at e
   obtain ⟨rfl, rfl, rfl, rfl, rfl⟩ := e
   have z4 : decide (q = 0) = false := decide_eq_false k0
   have z5 : decide (q = 1) = false := decide_eq_false k1
   have z6 : decide (q = 2) = false := decide_eq_false k2
   obtain ⟨d0, d1, d2⟩ := HT8.out.cells
   have z0 : w8.cell? ⟨gr, 0, none⟩ = some (.int .i64 0) := (blk_cell HT8.out.1.2.2.1 0).trans rfl
   have z1 : w8.cell? ⟨gr, 1, none⟩ = some (.slice none 0 0) := (blk_cell HT8.out.1.2.2.1 1).trans rfl
   have z2 : w8.cell? ⟨gr, 2, none⟩ = some (.slice none 0 0) := (blk_cell HT8.out.1.2.2.1 2).trans rfl
   have x0 := blk_frozen HT8.out.1.2.2.1 0
   have x1 := blk_frozen HT8.out.1.2.2.1 1
   have x2 := blk_frozen HT8.out.1.2.2.1 2
   go_wp2
   (try simp only [Exit.inBlock, Exit.then])
   refine bodyPost_ret (results_cell_row rfl _ _ gr 31 #[.int .i64 (t.old), (.slice A5 t.cs.length c5), (.slice A6 t.rs.length c6)] (0, 0) _ rfl HT8.out.told.1 Tryd.underlying31 rfl (by kernel_rfl)) rfl ?_
   exact ⟨_, _, rfl, HT8.out.told.2.1, HT8.out.told.2.2.1, HT8.out.told.2.2.2⟩
 ·rw [if_neg hok] at h
  cases h
end Go.Proofs.YtcbgjcnekdoloaaDoor.G

namespace Go.Proofs.YtcbgjcnekdoloaaDoor.G
open Go.RowKit Go.Proofs.YtcbgjcnekdoloaaDoorW.PrintWords Go.Proofs.YtcbgjcnekdoloaaDoorW.PrintLast Go.Proofs.YtcbgjcnekdoloaaDoorW.PrintMore Go.Proofs.YtcbgjcnekdoloaaDoor.DrawL Go.Proofs.YtcbgjcnekdoloaaDoor.Short
set_option linter.unusedVariables false
set_option linter.unusedSimpArgs false

def spec_DrawCollectHeap.f (k : Nat) (l0 : List Int) : Option (Int × (List (S61)) × List Int) := (heapF k l0 0 0).bind fun b => some (b.1, b.2.1, b.2.2.1)
theorem stored31 {w0 W : World} {gr : Nat} {x0 x1 x2 : Value} (hgr : W.heap[gr]? = some (.cells #[x0, x1, x2] 31 (0, 0))) (hw : w0.heap.size ≤ gr) (hB : Below w0.heap.size w0 W) {u v1 v2 : Value} {cs : List S61} {rs : List Int}
    (h5 : Kd.R k61 61 W w0.heap.size (fun _ => True) v1 cs) (h6 : Kd.R (Kd.int .i64) 3 W w0.heap.size (fun _ => True) v2 rs) :
    (((W.setCell ⟨gr, 0, none⟩ u).setCell ⟨gr, 1, none⟩ v1).setCell ⟨gr, 2, none⟩ v2).heap[gr]? = some (.cells #[u, v1, v2] 31 (0, 0)) ∧
    Kd.R k61 61 (((W.setCell ⟨gr, 0, none⟩ u).setCell ⟨gr, 1, none⟩ v1).setCell ⟨gr, 2, none⟩ v2) w0.heap.size (fun _ => True) v1 cs ∧
    Kd.R (Kd.int .i64) 3 (((W.setCell ⟨gr, 0, none⟩ u).setCell ⟨gr, 1, none⟩ v1).setCell ⟨gr, 2, none⟩ v2) w0.heap.size (fun _ => True) v2 rs ∧
    Below w0.heap.size w0 (((W.setCell ⟨gr, 0, none⟩ u).setCell ⟨gr, 1, none⟩ v1).setCell ⟨gr, 2, none⟩ v2) := by
  refine ⟨blk_put (blk_put (blk_put hgr 0 _ rfl) 1 _ rfl) 2 _ rfl, ?_, ?_, below_set (below_set (below_set hB hw) hw) hw⟩
  · exact Kd.R_mono (Kd.R_far (p := ⟨gr, 2, none⟩) (Kd.R_far (p := ⟨gr, 1, none⟩) (Kd.R_far (p := ⟨gr, 0, none⟩) (Kd.R_types h5 hgr (by decide)) (fun _ hk => hk.2) _) (fun _ hk => hk.2) _) (fun _ hk => hk.2) _) (fun _ _ => trivial)
  · exact Kd.R_mono (Kd.R_far (p := ⟨gr, 2, none⟩) (Kd.R_far (p := ⟨gr, 1, none⟩) (Kd.R_far (p := ⟨gr, 0, none⟩) (Kd.R_types h6 hgr (by decide)) (fun _ hk => hk.2) _) (fun _ hk => hk.2) _) (fun _ hk => hk.2) _) (fun _ _ => trivial)
set_option maxHeartbeats 4000000 in
set_option maxRecDepth 100000 in
theorem spec_DrawGoodHeap.calls (k : Nat) (A0 : Option Addr) (c0 : Nat) (l0 : List Int) (r1 : Int) (r2 : List (S61)) (r3 : List Int) (w : World) (hr0 : Kd.C (Kd.int .u8) w A0 l0.length l0) (hc0 : l0.length ≤ c0) (h : spec_DrawCollectHeap.f k l0 = some (r1, r2, r3)) :
    Calls Tryd.prog 28 #[.slice A0 l0.length c0] w fun e w' => ∃ v1_ v2_ : Value, e = .returned (.agg #[.int .i64 r1, v1_, v2_]) ∧ Kd.R k61 61 w' w.heap.size (fun _ => True) v1_ r2 ∧ Kd.R (Kd.int .i64) 3 w' w.heap.size (fun _ => True) v2_ r3 ∧ Below w.heap.size w w' := by
  have hu31 := Tryd.underlying31
  have hu76 := Tryd.underlying76
  obtain ⟨⟨y1, y2, y3, r4, r5⟩, H, e⟩ := Option.bind_eq_some_iff.mp h
  simp only [Option.some.injEq, Prod.mk.injEq] at e
  obtain ⟨rfl, rfl, rfl⟩ := e
  have HR := aM hr0
  have HH := aM H
  have HB := aM (Below.refl w.heap.size w)
  clear hr0 h H
  go_enter Tryd.func28, Tryd.ntmps28
  go_wp2_with (first
    | ((with_reducible refine gate_dst (N := 2) rfl ?_); refine box_event ?hg (N := 2) ?hd (cs := #[.int .i64 0, .slice none 0 0, .slice none 0 0]) (t := 31) ?hr ?_; (case hd => rfl); (case hg => rfl); (case hr => first | (go_simp; done) | (go_simp; rfl)); intro gr hg w1 hbox hb; have n0_ := aM (below_step HB.out hb); have HC := aM (Kd.C_below HR.out hb); have BR := aM hbox; have GR := aM (show w.heap.size ≤ gr by omega); clear HB HR hg hbox hb; have HB := n0_; clear n0_)
    | ((with_reducible refine gate_dst (N := 6) rfl ?_); refine box_event ?hg (N := 6) ?hd (cs := #[.slice A0 l0.length c0, .int .i64 0, .int .u64 0]) (t := 76) ?hr ?_; (case hd => rfl); (case hg => rfl); (case hr => first | (go_simp; done) | (go_simp; rfl)); intro gb hg w2 hbox hb; have HI : Aside0 (IsS76 w1 w2 gb l0 0 0) := ⟨⟨A0, c0, hbox, by omega, HC.out⟩⟩; have HB1 := aM hb; clear hg hbox hb)
    | ((with_reducible refine gate_callee (f := 43) rfl ?_); refine goesL_ (some 8) rfl rfl Tryd.func43 (by kernel_rfl) rfl #[.pointer (some ⟨gb, 0, none⟩)] rfl (by (try simp only [List.map_toArray, List.map_cons, List.map_nil]); first | done | rfl) ?_; (with_reducible refine (spec_l1Cur_heap.calls k gb l0 0 0 y1 y2 y3 r4 r5 w1 _ ?s1 ?s2 HH.out).mono ?_); (case s1 => exact HI.out); (case s2 => exact HB1.out); rintro _ w3 ⟨v1, v2, rfl, h1, h2, hb⟩; refine ⟨_, rfl, ?_⟩; obtain ⟨A5, c5, rfl⟩ := Kd.R_slice h1; obtain ⟨A6, c6, rfl⟩ := Kd.R_slice h2; have n0_ := aM (below_step HB.out hb); have BR3 := aM (blk_below BR.out hb); have R1 := aM (Kd.R_lower h1 HB.out.size); have R2 := aM (Kd.R_lower h2 HB.out.size); clear HB BR h1 h2 hb HI HB1 HC; have HB := n0_; clear n0_; have z0 := blk_cell BR3.out 0; have z1 := blk_cell BR3.out 1; have z2 := blk_cell BR3.out 2; have x0 := blk_frozen BR3.out 0; have x1 := blk_frozen BR3.out 1; have x2 := blk_frozen BR3.out 2))
  have ho := stored31 BR3.out GR.out HB.out (u := .int .i64 y1) R1.out R2.out
  (try simp only [Exit.inBlock, Exit.then])
  refine bodyPost_ret (results_cell_row rfl _ _ gr 31 #[.int .i64 y1, .slice A5 y2.length c5, .slice A6 y3.length c6] (0, 0) _ rfl ho.1 Tryd.underlying31 rfl (by kernel_rfl)) rfl ?_
  exact ⟨_, _, rfl, ho.2.1, ho.2.2.1, ho.2.2.2⟩
set_option maxHeartbeats 4000000 in
set_option maxRecDepth 100000 in
theorem spec_DrawCollectHeap.calls (k : Nat) (A0 : Option Addr) (c0 : Nat) (l0 : List Int) (r1 : Int) (r2 : List (S61)) (r3 : List Int) (w : World) (hr0 : Kd.C (Kd.int .u8) w A0 l0.length l0) (hc0 : l0.length ≤ c0) (h : spec_DrawCollectHeap.f k l0 = some (r1, r2, r3)) :
    Calls Tryd.prog 10 #[.slice A0 l0.length c0] w fun e w' => ∃ v1_ v2_ : Value, e = .returned (.agg #[.int .i64 r1, v1_, v2_]) ∧ Kd.R k61 61 w' w.heap.size (fun _ => True) v1_ r2 ∧ Kd.R (Kd.int .i64) 3 w' w.heap.size (fun _ => True) v2_ r3 ∧ Below w.heap.size w w' := by
  have hu31 := Tryd.underlying31
  have HR := aM hr0
  have HC := aM hc0
  have HH := aM h
  have HB := aM (Below.refl w.heap.size w)
  clear hr0 h hc0
  go_enter Tryd.func10, Tryd.ntmps10
  go_wp2_with (first
    | ((with_reducible refine gate_dst (N := 2) rfl ?_); refine box_event ?hg (N := 2) ?hd (cs := #[.int .i64 0, .slice none 0 0, .slice none 0 0]) (t := 31) ?hr ?_; (case hd => rfl); (case hg => rfl); (case hr => first | (go_simp; done) | (go_simp; rfl)); intro gr hg w1 hbox hb; have n0_ := aM (below_step HB.out hb); have HC1 := aM (Kd.C_below HR.out hb); have BR := aM hbox; have GR := aM (show w.heap.size ≤ gr by omega); clear HB HR hg hbox hb; have HB := n0_; clear n0_)
    | ((with_reducible refine gate_callee (f := 28) rfl ?_); refine goesL_ (some 4) rfl rfl Tryd.func28 (by kernel_rfl) rfl #[.slice A0 l0.length c0] rfl (by (try simp only [List.map_toArray, List.map_cons, List.map_nil]); first | done | rfl) ?_; (with_reducible refine (spec_DrawGoodHeap.calls k A0 c0 l0 r1 r2 r3 w1 ?s1 HC.out HH.out).mono ?_); (case s1 => exact HC1.out); rintro _ w3 ⟨v1, v2, rfl, h1, h2, hb⟩; refine ⟨_, rfl, ?_⟩; obtain ⟨A5, c5, rfl⟩ := Kd.R_slice h1; obtain ⟨A6, c6, rfl⟩ := Kd.R_slice h2; have n0_ := aM (below_step HB.out hb); have BR3 := aM (blk_below BR.out hb); have R1 := aM (Kd.R_lower h1 HB.out.size); have R2 := aM (Kd.R_lower h2 HB.out.size); clear HB BR h1 h2 hb HC1; have HB := n0_; clear n0_; have z0 := blk_cell BR3.out 0; have z1 := blk_cell BR3.out 1; have z2 := blk_cell BR3.out 2; have x0 := blk_frozen BR3.out 0; have x1 := blk_frozen BR3.out 1; have x2 := blk_frozen BR3.out 2))
  have ho := stored31 BR3.out GR.out HB.out (u := .int .i64 r1) R1.out R2.out
  (try simp only [Exit.inBlock, Exit.then])
  refine bodyPost_ret (results_cell_row rfl _ _ gr 31 #[.int .i64 r1, .slice A5 r2.length c5, .slice A6 r3.length c6] (0, 0) _ rfl ho.1 Tryd.underlying31 rfl (by kernel_rfl)) rfl ?_
  exact ⟨_, _, rfl, ho.2.1, ho.2.2.1, ho.2.2.2⟩
end Go.Proofs.YtcbgjcnekdoloaaDoor.G

namespace Go.Proofs.YtcbgjcnekdoloaaDoor.G
open Go.RowKit Go.Proofs.YtcbgjcnekdoloaaDoorW.PrintWords Go.Proofs.YtcbgjcnekdoloaaDoorW.PrintLast Go.Proofs.YtcbgjcnekdoloaaDoorW.PrintMore Go.Proofs.YtcbgjcnekdoloaaDoor.Short
attribute [local go_sem] max2_int min2_int max_two min_two max_three min_three max_four min_four   -- for this text's walks alone
set_option linter.unusedVariables false
set_option linter.unusedSimpArgs false

def impl_CollectHeap.f (k : Nat) (a0_0 : Int) (l0_1 : List (S61)) (l0_2 : List Int) : Option (Int × (List (S61)) × List Int × Bool) := (impl_GoodHeap.f k a0_0 l0_1 l0_2).bind fun t103 => (if t103 = true then ((impl_Heap_collect.f k a0_0 l0_1 l0_2).bind fun bt104 => (some (bt104.1, bt104.2.1, bt104.2.2, true))) else (some (0, ([] : List (S61)), ([] : List Int), false)))
set_option maxHeartbeats 8000000 in
set_option maxRecDepth 100000 in
theorem impl_CollectHeap.calls (k : Nat) (a0_0 : Int) (A0_1 : Option Addr) (c0_1 : Nat) (l0_1 : List (S61)) (A0_2 : Option Addr) (c0_2 : Nat) (l0_2 : List Int) (r1 : Int) (r2 : List (S61)) (r3 : List Int) (r4 : Bool) (w : World) (hr0_1 : Kd.C k61 w A0_1 l0_1.length l0_1) (hc0_1 : l0_1.length ≤ c0_1) (hr0_2 : Kd.C (Kd.int .i64) w A0_2 l0_2.length l0_2) (hc0_2 : l0_2.length ≤ c0_2) (h : impl_CollectHeap.f k a0_0 l0_1 l0_2 = some (r1, r2, r3, r4)) :
  Calls Tryd.prog 11 #[.agg #[.int .i64 a0_0, .slice A0_1 l0_1.length c0_1, .slice A0_2 l0_2.length c0_2]] w fun e w' => ∃ v1_ v2_ : Value, e = .returned (.tuple #[.agg #[.int .i64 r1, v1_, v2_], .bool r4]) ∧ Kd.R k61 61 w' w.heap.size (fun _ => True) v1_ r2 ∧ Kd.R (Kd.int .i64) 3 w' w.heap.size (fun _ => True) v2_ r3 ∧ Below w.heap.size w w' := by
 have hu31 := Tryd.underlying31
 have HR0_1 := aK hr0_1
 have HC0_1 := aK hc0_1
 clear hr0_1 hc0_1
 have HR0_2 := aK hr0_2
 have HC0_2 := aK hc0_2
 clear hr0_2 hc0_2
 have HB := aK (Below.refl w.heap.size w)
 have H : ((impl_GoodHeap.f k a0_0 l0_1 l0_2).bind fun t103 => (if t103 = true then ((impl_Heap_collect.f k a0_0 l0_1 l0_2).bind fun bt104 => (some (bt104.1, bt104.2.1, bt104.2.2, true))) else (some (0, ([] : List (S61)), ([] : List Int), false)))) = some (r1, r2, r3, r4) := h
 clear h
 obtain ⟨t103, A2, H⟩ := oB H
 try dsimp only at H
 by_cases c3 : t103 = true
 ·subst c3
  rw [if_pos rfl] at H
  obtain ⟨⟨t104, t105, t108⟩, A4, H⟩ := oB H
  try dsimp only at H
  simp only [Option.some.injEq, Prod.mk.injEq] at H
  obtain ⟨rfl, rfl, rfl, rfl⟩ := H
  go_enter Tryd.func11, Tryd.ntmps11
  go_wp2_with (first | ((with_reducible refine gate_dst (N := 1) rfl ?_); refine bE (N := 1) (cs := #[.int .i64 a0_0, .slice A0_1 l0_1.length c0_1, .slice A0_2 l0_2.length c0_2]) (t := 31) ?_; intro gb101 hg w5 hbox hb; have GW101 := qw HB hg; have GE101 := qw HB hg; have BK101 := aK hbox; replace HB := qs HB hb; clear hb hbox hg) | ((with_reducible refine gate_dst (N := 2) rfl ?_); refine bE (N := 2) (cs := #[.int .i64 0, .slice none 0 0, .slice none 0 0]) (t := 31) ?_; intro gb102 hg w6 hbox hb; have GW102 := qw HB hg; have GE102 := qw HB hg; have NB101_102 := ql BK101 hg; have NB102_101 := qg BK101 hg; replace BK101 := qb BK101 hb; have BK102 := aK hbox; replace HB := qs HB hb; clear hb hbox hg; have hnb7 := NB101_102.out; have hnc7 := NB102_101.out; obtain ⟨hcz8_0, hcz8_1, hcz8_2, hfz8_0, hfz8_1, hfz8_2⟩ := cA3 BK101) | ((with_reducible refine gate_callee (f := 16) rfl ?_); refine goesL_ (some 5) rfl rfl Tryd.func16 (by kernel_rfl) rfl #[.agg #[.int .i64 a0_0, .slice A0_1 l0_1.length c0_1, .slice A0_2 l0_2.length c0_2]] rfl tA ?_; (with_reducible refine (impl_GoodHeap.calls k a0_0 _ _ l0_1 _ _ l0_2 true _ ?side1 ?side2 ?side3 ?side4 A2.out).mono ?_); (case side1 => exact sC (Kd.C_below HR0_1.out HB.out)); (case side2 => exact HC0_1.out); (case side3 => exact sC (Kd.C_below HR0_2.out HB.out)); (case side4 => exact HC0_2.out); rintro e w9 ⟨rfl, hb⟩; refine ⟨_, rfl, ?_⟩; replace BK101 := qb BK101 hb; replace BK102 := qb BK102 hb; replace HB := qs HB hb; (try clear hb); obtain ⟨hcz10_0, hcz10_1, hcz10_2, hfz10_0, hfz10_1, hfz10_2⟩ := cA3 BK101) | ((with_reducible refine gate_callee (f := 29) rfl ?_); refine goesL_ (some 9) rfl rfl Tryd.func29 (by kernel_rfl) rfl #[.agg #[.int .i64 a0_0, .slice A0_1 l0_1.length c0_1, .slice A0_2 l0_2.length c0_2]] rfl tA ?_; (with_reducible refine (impl_Heap_collect.calls k a0_0 _ _ l0_1 _ _ l0_2 t104 t105 t108 _ ?side1 ?side2 ?side3 ?side4 A4.out).mono ?_); (case side1 => exact sC (Kd.C_below HR0_1.out HB.out)); (case side2 => exact HC0_1.out); (case side3 => exact sC (Kd.C_below HR0_2.out HB.out)); (case side4 => exact HC0_2.out); rintro e w11 ⟨v106, v109, rfl, ho0, ho1, hb⟩; refine ⟨_, rfl, ?_⟩; have HO107 := aK (Kd.R_lower ho0 (below_size HB.out)); have HO110 := aK (Kd.R_lower ho1 (below_size HB.out)); replace BK101 := qb BK101 hb; replace BK102 := qb BK102 hb; replace HB := qs HB hb; (try clear hb); (try clear ho0); (try clear ho1); obtain ⟨hcz12_0, hcz12_1, hcz12_2, hfz12_0, hfz12_1, hfz12_2⟩ := cA3 BK102; obtain ⟨Ao13, co13, eo13⟩ := Kd.R_slice HO107.out; subst eo13; obtain ⟨Ao14, co14, eo14⟩ := Kd.R_slice HO110.out; subst eo14))
  refine bodyPost_ret (results_ct rfl _ _ gb102 31 #[.int .i64 t104, .slice Ao13 t105.length co13, .slice Ao14 t108.length co14] (0, 0) _ rfl (p3 BK102) Tryd.underlying31 rfl (by kernel_rfl)) rfl ?_
  exact ⟨_, _, eW, by (with_reducible repeat (first | apply rA | apply rN | apply rD)); exact Kd.R_mono (Kd.R_far (p := ⟨gb102, 2, none⟩) (Kd.R_far (p := ⟨gb102, 1, none⟩) (Kd.R_far (p := ⟨gb102, 0, none⟩) (Kd.R_types HO107.out BK102.out (by decide)) (fun _ hk => hk.2) (.int .i64 t104)) (fun _ hk => hk.2) (.slice Ao13 t105.length co13)) (fun _ hk => hk.2) (.slice Ao14 t108.length co14)) (fun _ hk => trivial), by (with_reducible repeat (first | apply rA | apply rN | apply rD)); exact Kd.R_mono (Kd.R_far (p := ⟨gb102, 2, none⟩) (Kd.R_far (p := ⟨gb102, 1, none⟩) (Kd.R_far (p := ⟨gb102, 0, none⟩) (Kd.R_types HO110.out BK102.out (by decide)) (fun _ hk => hk.2) (.int .i64 t104)) (fun _ hk => hk.2) (.slice Ao13 t105.length co13)) (fun _ hk => hk.2) (.slice Ao14 t108.length co14)) (fun _ hk => trivial), pH HB⟩
 ·replace c3 := Bool.eq_false_iff.mpr c3
  subst c3
  rw [if_neg (show ¬ (false = true) by decide)] at H
  simp only [Option.some.injEq, Prod.mk.injEq] at H
  obtain ⟨rfl, rfl, rfl, rfl⟩ := H
  go_enter Tryd.func11, Tryd.ntmps11
  go_wp2_with (first | ((with_reducible refine gate_dst (N := 1) rfl ?_); refine bE (N := 1) (cs := #[.int .i64 a0_0, .slice A0_1 l0_1.length c0_1, .slice A0_2 l0_2.length c0_2]) (t := 31) ?_; intro gb101 hg w15 hbox hb; have GW101 := qw HB hg; have GE101 := qw HB hg; have BK101 := aK hbox; replace HB := qs HB hb; clear hb hbox hg) | ((with_reducible refine gate_dst (N := 2) rfl ?_); refine bE (N := 2) (cs := #[.int .i64 0, .slice none 0 0, .slice none 0 0]) (t := 31) ?_; intro gb102 hg w16 hbox hb; have GW102 := qw HB hg; have GE102 := qw HB hg; have NB101_102 := ql BK101 hg; have NB102_101 := qg BK101 hg; replace BK101 := qb BK101 hb; have BK102 := aK hbox; replace HB := qs HB hb; clear hb hbox hg; have hnb17 := NB101_102.out; have hnc17 := NB102_101.out; obtain ⟨hcz18_0, hcz18_1, hcz18_2, hfz18_0, hfz18_1, hfz18_2⟩ := cA3 BK101) | ((with_reducible refine gate_callee (f := 16) rfl ?_); refine goesL_ (some 5) rfl rfl Tryd.func16 (by kernel_rfl) rfl #[.agg #[.int .i64 a0_0, .slice A0_1 l0_1.length c0_1, .slice A0_2 l0_2.length c0_2]] rfl tA ?_; (with_reducible refine (impl_GoodHeap.calls k a0_0 _ _ l0_1 _ _ l0_2 false _ ?side1 ?side2 ?side3 ?side4 A2.out).mono ?_); (case side1 => exact sC (Kd.C_below HR0_1.out HB.out)); (case side2 => exact HC0_1.out); (case side3 => exact sC (Kd.C_below HR0_2.out HB.out)); (case side4 => exact HC0_2.out); rintro e w19 ⟨rfl, hb⟩; refine ⟨_, rfl, ?_⟩; replace BK101 := qb BK101 hb; replace BK102 := qb BK102 hb; replace HB := qs HB hb; (try clear hb); obtain ⟨hcz20_0, hcz20_1, hcz20_2, hfz20_0, hfz20_1, hfz20_2⟩ := cA3 BK102))
  refine bodyPost_ret (results_ct rfl _ _ gb102 31 #[.int .i64 0, .slice none 0 0, .slice none 0 0] (0, 0) _ rfl (p3 BK102) Tryd.underlying31 rfl (by kernel_rfl)) rfl ?_
  exact ⟨_, _, eW, by first | exact Kd.R_nil _ _ _ _ _ | exact Kd.N_nil _ _ _ _ _ | exact Kd.V_nil _ _ _ _ _ | exact Kd.Q_nil _ _ _ _ _ | exact Kd.S_nil _ _ _ _ _, by first | exact Kd.R_nil _ _ _ _ _ | exact Kd.N_nil _ _ _ _ _ | exact Kd.V_nil _ _ _ _ _ | exact Kd.Q_nil _ _ _ _ _ | exact Kd.S_nil _ _ _ _ _, pH HB⟩


def spec_CollectHeap.f (k : Nat) (a0_0 : Int) (l0_1 : List (S61)) (l0_2 : List Int) : Option (Int × (List (S61)) × List Int × Bool) := (spec_GoodHeap.f k a0_0 l0_1 l0_2).bind fun t103 => (if t103 = true then ((spec_l7Collect.f k a0_0 l0_1 l0_2).bind fun bt104 => (some (bt104.1, bt104.2.1, bt104.2.2, true))) else (some (0, ([] : List (S61)), ([] : List Int), false)))
set_option maxHeartbeats 8000000 in
set_option maxRecDepth 100000 in
theorem spec_CollectHeap.calls (k : Nat) (a0_0 : Int) (A0_1 : Option Addr) (c0_1 : Nat) (l0_1 : List (S61)) (A0_2 : Option Addr) (c0_2 : Nat) (l0_2 : List Int) (r1 : Int) (r2 : List (S61)) (r3 : List Int) (r4 : Bool) (w : World) (hr0_1 : Kd.C k61 w A0_1 l0_1.length l0_1) (hc0_1 : l0_1.length ≤ c0_1) (hr0_2 : Kd.C (Kd.int .i64) w A0_2 l0_2.length l0_2) (hc0_2 : l0_2.length ≤ c0_2) (h : spec_CollectHeap.f k a0_0 l0_1 l0_2 = some (r1, r2, r3, r4)) :
  Calls Tryd.prog 12 #[.agg #[.int .i64 a0_0, .slice A0_1 l0_1.length c0_1, .slice A0_2 l0_2.length c0_2]] w fun e w' => ∃ v1_ v2_ : Value, e = .returned (.tuple #[.agg #[.int .i64 r1, v1_, v2_], .bool r4]) ∧ Kd.R k61 61 w' w.heap.size (fun _ => True) v1_ r2 ∧ Kd.R (Kd.int .i64) 3 w' w.heap.size (fun _ => True) v2_ r3 ∧ Below w.heap.size w w' := by
 have hu31 := Tryd.underlying31
 have HR0_1 := aK hr0_1
 have HC0_1 := aK hc0_1
 clear hr0_1 hc0_1
 have HR0_2 := aK hr0_2
 have HC0_2 := aK hc0_2
 clear hr0_2 hc0_2
 have HB := aK (Below.refl w.heap.size w)
 have H : ((spec_GoodHeap.f k a0_0 l0_1 l0_2).bind fun t103 => (if t103 = true then ((spec_l7Collect.f k a0_0 l0_1 l0_2).bind fun bt104 => (some (bt104.1, bt104.2.1, bt104.2.2, true))) else (some (0, ([] : List (S61)), ([] : List Int), false)))) = some (r1, r2, r3, r4) := h
 clear h
 obtain ⟨t103, A2, H⟩ := oB H
 try dsimp only at H
 by_cases c3 : t103 = true
 ·subst c3
  rw [if_pos rfl] at H
  obtain ⟨⟨t104, t105, t108⟩, A4, H⟩ := oB H
  try dsimp only at H
  simp only [Option.some.injEq, Prod.mk.injEq] at H
  obtain ⟨rfl, rfl, rfl, rfl⟩ := H
  go_enter Tryd.func12, Tryd.ntmps12
  go_wp2_with (first | ((with_reducible refine gate_dst (N := 1) rfl ?_); refine bE (N := 1) (cs := #[.int .i64 a0_0, .slice A0_1 l0_1.length c0_1, .slice A0_2 l0_2.length c0_2]) (t := 31) ?_; intro gb101 hg w5 hbox hb; have GW101 := qw HB hg; have GE101 := qw HB hg; have BK101 := aK hbox; replace HB := qs HB hb; clear hb hbox hg) | ((with_reducible refine gate_dst (N := 2) rfl ?_); refine bE (N := 2) (cs := #[.int .i64 0, .slice none 0 0, .slice none 0 0]) (t := 31) ?_; intro gb102 hg w6 hbox hb; have GW102 := qw HB hg; have GE102 := qw HB hg; have NB101_102 := ql BK101 hg; have NB102_101 := qg BK101 hg; replace BK101 := qb BK101 hb; have BK102 := aK hbox; replace HB := qs HB hb; clear hb hbox hg; have hnb7 := NB101_102.out; have hnc7 := NB102_101.out; obtain ⟨hcz8_0, hcz8_1, hcz8_2, hfz8_0, hfz8_1, hfz8_2⟩ := cA3 BK101) | ((with_reducible refine gate_callee (f := 19) rfl ?_); refine goesL_ (some 5) rfl rfl Tryd.func19 (by kernel_rfl) rfl #[.agg #[.int .i64 a0_0, .slice A0_1 l0_1.length c0_1, .slice A0_2 l0_2.length c0_2]] rfl tA ?_; (with_reducible refine (spec_GoodHeap.calls k a0_0 _ _ l0_1 _ _ l0_2 true _ ?side1 ?side2 ?side3 ?side4 A2.out).mono ?_); (case side1 => exact sC (Kd.C_below HR0_1.out HB.out)); (case side2 => exact HC0_1.out); (case side3 => exact sC (Kd.C_below HR0_2.out HB.out)); (case side4 => exact HC0_2.out); rintro e w9 ⟨rfl, hb⟩; refine ⟨_, rfl, ?_⟩; replace BK101 := qb BK101 hb; replace BK102 := qb BK102 hb; replace HB := qs HB hb; (try clear hb); obtain ⟨hcz10_0, hcz10_1, hcz10_2, hfz10_0, hfz10_1, hfz10_2⟩ := cA3 BK101) | ((with_reducible refine gate_callee (f := 30) rfl ?_); refine goesL_ (some 9) rfl rfl Tryd.func30 (by kernel_rfl) rfl #[.agg #[.int .i64 a0_0, .slice A0_1 l0_1.length c0_1, .slice A0_2 l0_2.length c0_2]] rfl tA ?_; (with_reducible refine (spec_l7Collect.calls k a0_0 _ _ l0_1 _ _ l0_2 t104 t105 t108 _ ?side1 ?side2 ?side3 ?side4 A4.out).mono ?_); (case side1 => exact sC (Kd.C_below HR0_1.out HB.out)); (case side2 => exact HC0_1.out); (case side3 => exact sC (Kd.C_below HR0_2.out HB.out)); (case side4 => exact HC0_2.out); rintro e w11 ⟨v106, v109, rfl, ho0, ho1, hb⟩; refine ⟨_, rfl, ?_⟩; have HO107 := aK (Kd.R_lower ho0 (below_size HB.out)); have HO110 := aK (Kd.R_lower ho1 (below_size HB.out)); replace BK101 := qb BK101 hb; replace BK102 := qb BK102 hb; replace HB := qs HB hb; (try clear hb); (try clear ho0); (try clear ho1); obtain ⟨hcz12_0, hcz12_1, hcz12_2, hfz12_0, hfz12_1, hfz12_2⟩ := cA3 BK102; obtain ⟨Ao13, co13, eo13⟩ := Kd.R_slice HO107.out; subst eo13; obtain ⟨Ao14, co14, eo14⟩ := Kd.R_slice HO110.out; subst eo14))
  refine bodyPost_ret (results_ct rfl _ _ gb102 31 #[.int .i64 t104, .slice Ao13 t105.length co13, .slice Ao14 t108.length co14] (0, 0) _ rfl (p3 BK102) Tryd.underlying31 rfl (by kernel_rfl)) rfl ?_
  exact ⟨_, _, eW, by (with_reducible repeat (first | apply rA | apply rN | apply rD)); exact Kd.R_mono (Kd.R_far (p := ⟨gb102, 2, none⟩) (Kd.R_far (p := ⟨gb102, 1, none⟩) (Kd.R_far (p := ⟨gb102, 0, none⟩) (Kd.R_types HO107.out BK102.out (by decide)) (fun _ hk => hk.2) (.int .i64 t104)) (fun _ hk => hk.2) (.slice Ao13 t105.length co13)) (fun _ hk => hk.2) (.slice Ao14 t108.length co14)) (fun _ hk => trivial), by (with_reducible repeat (first | apply rA | apply rN | apply rD)); exact Kd.R_mono (Kd.R_far (p := ⟨gb102, 2, none⟩) (Kd.R_far (p := ⟨gb102, 1, none⟩) (Kd.R_far (p := ⟨gb102, 0, none⟩) (Kd.R_types HO110.out BK102.out (by decide)) (fun _ hk => hk.2) (.int .i64 t104)) (fun _ hk => hk.2) (.slice Ao13 t105.length co13)) (fun _ hk => hk.2) (.slice Ao14 t108.length co14)) (fun _ hk => trivial), pH HB⟩
 ·replace c3 := Bool.eq_false_iff.mpr c3
  subst c3
  rw [if_neg (show ¬ (false = true) by decide)] at H
  simp only [Option.some.injEq, Prod.mk.injEq] at H
  obtain ⟨rfl, rfl, rfl, rfl⟩ := H
  go_enter Tryd.func12, Tryd.ntmps12
  go_wp2_with (first | ((with_reducible refine gate_dst (N := 1) rfl ?_); refine bE (N := 1) (cs := #[.int .i64 a0_0, .slice A0_1 l0_1.length c0_1, .slice A0_2 l0_2.length c0_2]) (t := 31) ?_; intro gb101 hg w15 hbox hb; have GW101 := qw HB hg; have GE101 := qw HB hg; have BK101 := aK hbox; replace HB := qs HB hb; clear hb hbox hg) | ((with_reducible refine gate_dst (N := 2) rfl ?_); refine bE (N := 2) (cs := #[.int .i64 0, .slice none 0 0, .slice none 0 0]) (t := 31) ?_; intro gb102 hg w16 hbox hb; have GW102 := qw HB hg; have GE102 := qw HB hg; have NB101_102 := ql BK101 hg; have NB102_101 := qg BK101 hg; replace BK101 := qb BK101 hb; have BK102 := aK hbox; replace HB := qs HB hb; clear hb hbox hg; have hnb17 := NB101_102.out; have hnc17 := NB102_101.out; obtain ⟨hcz18_0, hcz18_1, hcz18_2, hfz18_0, hfz18_1, hfz18_2⟩ := cA3 BK101) | ((with_reducible refine gate_callee (f := 19) rfl ?_); refine goesL_ (some 5) rfl rfl Tryd.func19 (by kernel_rfl) rfl #[.agg #[.int .i64 a0_0, .slice A0_1 l0_1.length c0_1, .slice A0_2 l0_2.length c0_2]] rfl tA ?_; (with_reducible refine (spec_GoodHeap.calls k a0_0 _ _ l0_1 _ _ l0_2 false _ ?side1 ?side2 ?side3 ?side4 A2.out).mono ?_); (case side1 => exact sC (Kd.C_below HR0_1.out HB.out)); (case side2 => exact HC0_1.out); (case side3 => exact sC (Kd.C_below HR0_2.out HB.out)); (case side4 => exact HC0_2.out); rintro e w19 ⟨rfl, hb⟩; refine ⟨_, rfl, ?_⟩; replace BK101 := qb BK101 hb; replace BK102 := qb BK102 hb; replace HB := qs HB hb; (try clear hb); obtain ⟨hcz20_0, hcz20_1, hcz20_2, hfz20_0, hfz20_1, hfz20_2⟩ := cA3 BK102))
  refine bodyPost_ret (results_ct rfl _ _ gb102 31 #[.int .i64 0, .slice none 0 0, .slice none 0 0] (0, 0) _ rfl (p3 BK102) Tryd.underlying31 rfl (by kernel_rfl)) rfl ?_
  exact ⟨_, _, eW, by first | exact Kd.R_nil _ _ _ _ _ | exact Kd.N_nil _ _ _ _ _ | exact Kd.V_nil _ _ _ _ _ | exact Kd.Q_nil _ _ _ _ _ | exact Kd.S_nil _ _ _ _ _, by first | exact Kd.R_nil _ _ _ _ _ | exact Kd.N_nil _ _ _ _ _ | exact Kd.V_nil _ _ _ _ _ | exact Kd.Q_nil _ _ _ _ _ | exact Kd.S_nil _ _ _ _ _, pH HB⟩


def laws_sameInts.l0 : Nat → List Int → List Int → Int → Int → Option (Bool)
 | 0, _, _, _, _ => none
 | k + 1, x0, x1, x12, x13 => if x13 < x12 then (if 0 ≤ x13 then (if x13 < (x0.length : Int) then (if x13 < (x1.length : Int) then (if (rd x0 x13) = (rd x1 x13) then (laws_sameInts.l0 k x0 x1 x12 (wrap64 (x13 + 1))) else (some false)) else (none)) else (none)) else (none)) else (some true)
def laws_sameInts.f (k : Nat) (l0 : List Int) (l1 : List Int) : Option (Bool) := if (l0.length : Int) = (l1.length : Int) then (laws_sameInts.l0 k l0 l1 (l0.length : Int) 0) else (some false)
set_option maxHeartbeats 8000000 in
set_option maxRecDepth 100000 in
theorem laws_sameInts.calls (k : Nat) (A0 : Option Addr) (c0 : Nat) (l0 : List Int) (A1 : Option Addr) (c1 : Nat) (l1 : List Int) (r : Bool) (w : World) (hr0 : Kd.C (Kd.int .i64) w A0 l0.length l0) (hc0 : l0.length ≤ c0) (hr1 : Kd.C (Kd.int .i64) w A1 l1.length l1) (hc1 : l1.length ≤ c1) (h : laws_sameInts.f k l0 l1 = some r) :
  Calls Tryd.prog 13 #[.slice A0 l0.length c0, .slice A1 l1.length c1] w fun e w' => e = .returned (.bool r) ∧ Drawn0 w w' := by
 have HR0 := aK hr0
 have HC0 := aK hc0
 clear hr0 hc0
 have HR1 := aK hr1
 have HC1 := aK hc1
 clear hr1 hc1
 have H : (if (l0.length : Int) = (l1.length : Int) then (laws_sameInts.l0 k l0 l1 (l0.length : Int) 0) else (some false)) = some r := h
 clear h
 by_cases c3 : (l0.length : Int) = (l1.length : Int)
 ·rw [if_pos c3] at H
  have c3b0 : ((l0.length : Int) == (l1.length : Int)) = true := beq_iff_eq.mpr c3
  have c3b1 : ((l0.length : Int) != (l1.length : Int)) = false := bne_eq_false_iff_eq.mpr c3
  have c3b2 : (l0.length == l1.length) = true := by first | simpa using c3 | (simp at c3 ⊢; omega)
  clear c3
  have H' := aK H
  clear H
  go_enter Tryd.func13, Tryd.ntmps13
  go_wp2
  repeat (go_quiet (fail); try go_wp2)
  go_loopg [13] k (fun kq v13 w' => ∃ (x13_1 : Int), v13 = .int .i64 x13_1 ∧ Aside0 (laws_sameInts.l0 kq l0 l1 (l0.length : Int) x13_1 = some r) ∧ Aside0 (kq ≤ k) ∧ Drawn0 w w')
  case atStart => exact ⟨(0), rS, H', ⟨Nat.le_refl _⟩, by repeat (first | exact Drawn0.refl _ | apply Drawn0.step)⟩
  case round =>
   clear H'
   try clear c1; try clear p2; try clear c3; try clear c3b0; try clear c3b1; try clear c3b2
   obtain ⟨x13_1, rfl, HA, HK1, ⟨m1, rfl⟩⟩ := hrel
   cases gk with
   | zero => exact absurd HA.out (by simp [laws_sameInts.l0])
   | succ k1 =>
    have H := HA.out
    clear HA
    simp only [laws_sameInts.l0] at H
    by_cases c4 : x13_1 < (l0.length : Int)
    ·rw [if_pos c4] at H
     have c4b0 : decide (x13_1 < (l0.length : Int)) = true := decide_eq_true c4
     clear c4
     by_cases c5 : 0 ≤ x13_1
     ·rw [if_pos c5] at H
      have c5b0 : decide (0 ≤ x13_1) = true := decide_eq_true c5
      clear c5
      by_cases c6 : x13_1 < (l0.length : Int)
      ·rw [if_pos c6] at H
       have c6b0 : decide (x13_1 < (l0.length : Int)) = true := decide_eq_true c6
       clear c6
       by_cases c7 : x13_1 < (l1.length : Int)
       ·rw [if_pos c7] at H
        have c7b0 : decide (x13_1 < (l1.length : Int)) = true := decide_eq_true c7
        clear c7
        by_cases c8 : (rd l0 x13_1) = (rd l1 x13_1)
        ·rw [if_pos c8] at H
         have c8b0 : ((rd l0 x13_1) == (rd l1 x13_1)) = true := beq_iff_eq.mpr c8
         have c8b1 : ((rd l0 x13_1) != (rd l1 x13_1)) = false := bne_eq_false_iff_eq.mpr c8
         clear c8
         have H' := aK H
         clear H
         have p101 : 0 ≤ (x13_1 : Int) := dA
         have q101 : x13_1 < (l0.length : Int) := dA
         obtain ⟨ad101, e101, hx101_0⟩ := Kd.at_int HR0.out x13_1 p101 q101
         cases e101
         replace p101 := eq_true p101
         replace q101 := eq_true q101
         have p102 : 0 ≤ (x13_1 : Int) := dA
         have q102 : x13_1 < (l1.length : Int) := dA
         obtain ⟨ad102, e102, hx102_0⟩ := Kd.at_int HR1.out x13_1 p102 q102
         cases e102
         replace p102 := eq_true p102
         replace q102 := eq_true q102
         go_wp2
         repeat (go_quiet (fail); try go_wp2)
         go_roundg k1
         case measure => have := HK1.out; omega
         case rel => exact ⟨(wrap64 (x13_1 + 1)), rS, H', ⟨by have := HK1.out; omega⟩, by repeat (first | exact Drawn0.refl _ | apply Drawn0.step)⟩
        ·rw [if_neg c8] at H
         have c8b0 : ((rd l0 x13_1) == (rd l1 x13_1)) = false := beq_eq_false_iff_ne.mpr c8
         have c8b1 : ((rd l0 x13_1) != (rd l1 x13_1)) = true := bne_iff_ne.mpr c8
         obtain rfl := Option.some.inj H
         have p101 : 0 ≤ (x13_1 : Int) := dA
         have q101 : x13_1 < (l0.length : Int) := dA
         obtain ⟨ad101, e101, hx101_0⟩ := Kd.at_int HR0.out x13_1 p101 q101
         cases e101
         replace p101 := eq_true p101
         replace q101 := eq_true q101
         have p102 : 0 ≤ (x13_1 : Int) := dA
         have q102 : x13_1 < (l1.length : Int) := dA
         obtain ⟨ad102, e102, hx102_0⟩ := Kd.at_int HR1.out x13_1 p102 q102
         cases e102
         replace p102 := eq_true p102
         replace q102 := eq_true q102
         go_wp2
         repeat (go_quiet (fail); try go_wp2)
         go_ret
         exact ⟨by first | rfl | (simp; done) | (simp [*]; done), by repeat (first | exact Drawn0.refl _ | apply Drawn0.step)⟩
       ·rw [if_neg c7] at H
        exact absurd H (by simp)
      ·rw [if_neg c6] at H
       exact absurd H (by simp)
     ·rw [if_neg c5] at H
      exact absurd H (by simp)
    ·rw [if_neg c4] at H
     have c4b0 : decide (x13_1 < (l0.length : Int)) = false := decide_eq_false c4
     clear c4
     obtain rfl := Option.some.inj H
     go_wp2
     repeat (go_quiet (fail); try go_wp2)
     go_ret
     exact ⟨by first | rfl | (simp; done) | (simp [*]; done), by repeat (first | exact Drawn0.refl _ | apply Drawn0.step)⟩
 ·rw [if_neg c3] at H
  have c3b0 : ((l0.length : Int) == (l1.length : Int)) = false := beq_eq_false_iff_ne.mpr c3
  have c3b1 : ((l0.length : Int) != (l1.length : Int)) = true := bne_iff_ne.mpr c3
  have c3b2 : (l0.length == l1.length) = false := by first | simpa using c3 | (simp at c3 ⊢; omega)
  obtain rfl := Option.some.inj H
  go_enter Tryd.func13, Tryd.ntmps13
  go_wp2
  repeat (go_quiet (fail); try go_wp2)
  go_ret
  exact ⟨by first | rfl | (simp; done) | (simp [*]; done), by repeat (first | exact Drawn0.refl _ | apply Drawn0.step)⟩


def impl_MinorCollect.f (k : Nat) (a0_0 : Int) (l0_1 : List (S61)) (l0_2 : List Int) : Option (Int × (List (S61)) × List Int × Bool) := (impl_GoodHeap.f k a0_0 l0_1 l0_2).bind fun t103 => (if t103 = true then ((impl_Heap_minor.f k a0_0 l0_1 l0_2).bind fun bt104 => (some (bt104.1, bt104.2.1, bt104.2.2, true))) else (some (0, ([] : List (S61)), ([] : List Int), false)))
set_option maxHeartbeats 8000000 in
set_option maxRecDepth 100000 in
theorem impl_MinorCollect.calls (k : Nat) (a0_0 : Int) (A0_1 : Option Addr) (c0_1 : Nat) (l0_1 : List (S61)) (A0_2 : Option Addr) (c0_2 : Nat) (l0_2 : List Int) (r1 : Int) (r2 : List (S61)) (r3 : List Int) (r4 : Bool) (w : World) (hr0_1 : Kd.C k61 w A0_1 l0_1.length l0_1) (hc0_1 : l0_1.length ≤ c0_1) (hr0_2 : Kd.C (Kd.int .i64) w A0_2 l0_2.length l0_2) (hc0_2 : l0_2.length ≤ c0_2) (h : impl_MinorCollect.f k a0_0 l0_1 l0_2 = some (r1, r2, r3, r4)) :
  Calls Tryd.prog 15 #[.agg #[.int .i64 a0_0, .slice A0_1 l0_1.length c0_1, .slice A0_2 l0_2.length c0_2]] w fun e w' => ∃ v1_ v2_ : Value, e = .returned (.tuple #[.agg #[.int .i64 r1, v1_, v2_], .bool r4]) ∧ Kd.R k61 61 w' w.heap.size (fun _ => True) v1_ r2 ∧ Kd.R (Kd.int .i64) 3 w' w.heap.size (fun _ => True) v2_ r3 ∧ Below w.heap.size w w' := by
 have hu31 := Tryd.underlying31
 have HR0_1 := aK hr0_1
 have HC0_1 := aK hc0_1
 clear hr0_1 hc0_1
 have HR0_2 := aK hr0_2
 have HC0_2 := aK hc0_2
 clear hr0_2 hc0_2
 have HB := aK (Below.refl w.heap.size w)
 have H : ((impl_GoodHeap.f k a0_0 l0_1 l0_2).bind fun t103 => (if t103 = true then ((impl_Heap_minor.f k a0_0 l0_1 l0_2).bind fun bt104 => (some (bt104.1, bt104.2.1, bt104.2.2, true))) else (some (0, ([] : List (S61)), ([] : List Int), false)))) = some (r1, r2, r3, r4) := h
 clear h
 obtain ⟨t103, A2, H⟩ := oB H
 try dsimp only at H
 by_cases c3 : t103 = true
 ·subst c3
  rw [if_pos rfl] at H
  obtain ⟨⟨t104, t105, t108⟩, A4, H⟩ := oB H
  try dsimp only at H
  simp only [Option.some.injEq, Prod.mk.injEq] at H
  obtain ⟨rfl, rfl, rfl, rfl⟩ := H
  go_enter Tryd.func15, Tryd.ntmps15
  go_wp2_with (first | ((with_reducible refine gate_dst (N := 1) rfl ?_); refine bE (N := 1) (cs := #[.int .i64 a0_0, .slice A0_1 l0_1.length c0_1, .slice A0_2 l0_2.length c0_2]) (t := 31) ?_; intro gb101 hg w5 hbox hb; have GW101 := qw HB hg; have GE101 := qw HB hg; have BK101 := aK hbox; replace HB := qs HB hb; clear hb hbox hg) | ((with_reducible refine gate_dst (N := 2) rfl ?_); refine bE (N := 2) (cs := #[.int .i64 0, .slice none 0 0, .slice none 0 0]) (t := 31) ?_; intro gb102 hg w6 hbox hb; have GW102 := qw HB hg; have GE102 := qw HB hg; have NB101_102 := ql BK101 hg; have NB102_101 := qg BK101 hg; replace BK101 := qb BK101 hb; have BK102 := aK hbox; replace HB := qs HB hb; clear hb hbox hg; have hnb7 := NB101_102.out; have hnc7 := NB102_101.out; obtain ⟨hcz8_0, hcz8_1, hcz8_2, hfz8_0, hfz8_1, hfz8_2⟩ := cA3 BK101) | ((with_reducible refine gate_callee (f := 16) rfl ?_); refine goesL_ (some 5) rfl rfl Tryd.func16 (by kernel_rfl) rfl #[.agg #[.int .i64 a0_0, .slice A0_1 l0_1.length c0_1, .slice A0_2 l0_2.length c0_2]] rfl tA ?_; (with_reducible refine (impl_GoodHeap.calls k a0_0 _ _ l0_1 _ _ l0_2 true _ ?side1 ?side2 ?side3 ?side4 A2.out).mono ?_); (case side1 => exact sC (Kd.C_below HR0_1.out HB.out)); (case side2 => exact HC0_1.out); (case side3 => exact sC (Kd.C_below HR0_2.out HB.out)); (case side4 => exact HC0_2.out); rintro e w9 ⟨rfl, hb⟩; refine ⟨_, rfl, ?_⟩; replace BK101 := qb BK101 hb; replace BK102 := qb BK102 hb; replace HB := qs HB hb; (try clear hb); obtain ⟨hcz10_0, hcz10_1, hcz10_2, hfz10_0, hfz10_1, hfz10_2⟩ := cA3 BK101) | ((with_reducible refine gate_callee (f := 34) rfl ?_); refine goesL_ (some 9) rfl rfl Tryd.func34 (by kernel_rfl) rfl #[.agg #[.int .i64 a0_0, .slice A0_1 l0_1.length c0_1, .slice A0_2 l0_2.length c0_2]] rfl tA ?_; (with_reducible refine (impl_Heap_minor.calls k a0_0 _ _ l0_1 _ _ l0_2 t104 t105 t108 _ ?side1 ?side2 ?side3 ?side4 A4.out).mono ?_); (case side1 => exact sC (Kd.C_below HR0_1.out HB.out)); (case side2 => exact HC0_1.out); (case side3 => exact sC (Kd.C_below HR0_2.out HB.out)); (case side4 => exact HC0_2.out); rintro e w11 ⟨v106, v109, rfl, ho0, ho1, hb⟩; refine ⟨_, rfl, ?_⟩; have HO107 := aK (Kd.R_lower ho0 (below_size HB.out)); have HO110 := aK (Kd.R_lower ho1 (below_size HB.out)); replace BK101 := qb BK101 hb; replace BK102 := qb BK102 hb; replace HB := qs HB hb; (try clear hb); (try clear ho0); (try clear ho1); obtain ⟨hcz12_0, hcz12_1, hcz12_2, hfz12_0, hfz12_1, hfz12_2⟩ := cA3 BK102; obtain ⟨Ao13, co13, eo13⟩ := Kd.R_slice HO107.out; subst eo13; obtain ⟨Ao14, co14, eo14⟩ := Kd.R_slice HO110.out; subst eo14))
  refine bodyPost_ret (results_ct rfl _ _ gb102 31 #[.int .i64 t104, .slice Ao13 t105.length co13, .slice Ao14 t108.length co14] (0, 0) _ rfl (p3 BK102) Tryd.underlying31 rfl (by kernel_rfl)) rfl ?_
  exact ⟨_, _, eW, by (with_reducible repeat (first | apply rA | apply rN | apply rD)); exact Kd.R_mono (Kd.R_far (p := ⟨gb102, 2, none⟩) (Kd.R_far (p := ⟨gb102, 1, none⟩) (Kd.R_far (p := ⟨gb102, 0, none⟩) (Kd.R_types HO107.out BK102.out (by decide)) (fun _ hk => hk.2) (.int .i64 t104)) (fun _ hk => hk.2) (.slice Ao13 t105.length co13)) (fun _ hk => hk.2) (.slice Ao14 t108.length co14)) (fun _ hk => trivial), by (with_reducible repeat (first | apply rA | apply rN | apply rD)); exact Kd.R_mono (Kd.R_far (p := ⟨gb102, 2, none⟩) (Kd.R_far (p := ⟨gb102, 1, none⟩) (Kd.R_far (p := ⟨gb102, 0, none⟩) (Kd.R_types HO110.out BK102.out (by decide)) (fun _ hk => hk.2) (.int .i64 t104)) (fun _ hk => hk.2) (.slice Ao13 t105.length co13)) (fun _ hk => hk.2) (.slice Ao14 t108.length co14)) (fun _ hk => trivial), pH HB⟩
 ·replace c3 := Bool.eq_false_iff.mpr c3
  subst c3
  rw [if_neg (show ¬ (false = true) by decide)] at H
  simp only [Option.some.injEq, Prod.mk.injEq] at H
  obtain ⟨rfl, rfl, rfl, rfl⟩ := H
  go_enter Tryd.func15, Tryd.ntmps15
  go_wp2_with (first | ((with_reducible refine gate_dst (N := 1) rfl ?_); refine bE (N := 1) (cs := #[.int .i64 a0_0, .slice A0_1 l0_1.length c0_1, .slice A0_2 l0_2.length c0_2]) (t := 31) ?_; intro gb101 hg w15 hbox hb; have GW101 := qw HB hg; have GE101 := qw HB hg; have BK101 := aK hbox; replace HB := qs HB hb; clear hb hbox hg) | ((with_reducible refine gate_dst (N := 2) rfl ?_); refine bE (N := 2) (cs := #[.int .i64 0, .slice none 0 0, .slice none 0 0]) (t := 31) ?_; intro gb102 hg w16 hbox hb; have GW102 := qw HB hg; have GE102 := qw HB hg; have NB101_102 := ql BK101 hg; have NB102_101 := qg BK101 hg; replace BK101 := qb BK101 hb; have BK102 := aK hbox; replace HB := qs HB hb; clear hb hbox hg; have hnb17 := NB101_102.out; have hnc17 := NB102_101.out; obtain ⟨hcz18_0, hcz18_1, hcz18_2, hfz18_0, hfz18_1, hfz18_2⟩ := cA3 BK101) | ((with_reducible refine gate_callee (f := 16) rfl ?_); refine goesL_ (some 5) rfl rfl Tryd.func16 (by kernel_rfl) rfl #[.agg #[.int .i64 a0_0, .slice A0_1 l0_1.length c0_1, .slice A0_2 l0_2.length c0_2]] rfl tA ?_; (with_reducible refine (impl_GoodHeap.calls k a0_0 _ _ l0_1 _ _ l0_2 false _ ?side1 ?side2 ?side3 ?side4 A2.out).mono ?_); (case side1 => exact sC (Kd.C_below HR0_1.out HB.out)); (case side2 => exact HC0_1.out); (case side3 => exact sC (Kd.C_below HR0_2.out HB.out)); (case side4 => exact HC0_2.out); rintro e w19 ⟨rfl, hb⟩; refine ⟨_, rfl, ?_⟩; replace BK101 := qb BK101 hb; replace BK102 := qb BK102 hb; replace HB := qs HB hb; (try clear hb); obtain ⟨hcz20_0, hcz20_1, hcz20_2, hfz20_0, hfz20_1, hfz20_2⟩ := cA3 BK102))
  refine bodyPost_ret (results_ct rfl _ _ gb102 31 #[.int .i64 0, .slice none 0 0, .slice none 0 0] (0, 0) _ rfl (p3 BK102) Tryd.underlying31 rfl (by kernel_rfl)) rfl ?_
  exact ⟨_, _, eW, by first | exact Kd.R_nil _ _ _ _ _ | exact Kd.N_nil _ _ _ _ _ | exact Kd.V_nil _ _ _ _ _ | exact Kd.Q_nil _ _ _ _ _ | exact Kd.S_nil _ _ _ _ _, by first | exact Kd.R_nil _ _ _ _ _ | exact Kd.N_nil _ _ _ _ _ | exact Kd.V_nil _ _ _ _ _ | exact Kd.Q_nil _ _ _ _ _ | exact Kd.S_nil _ _ _ _ _, pH HB⟩

end Go.Proofs.YtcbgjcnekdoloaaDoor.G
