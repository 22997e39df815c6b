/- Part 2 of 5 of the proof that the law FnInstancesCardSaid holds: for every input that can be read the call returns true and leaves its arguments as they were; no condition but those each theorem names. -/
import Derived.Test.YtlkjikknofmcdaaDoorQInstancesW1
import Derived.Test.YtlkjikknofmcdaaDoorQInstances1
namespace Go.Proofs.YtlkjikknofmcdaaDoor.G
open Go.RowKit Go.Proofs.YtlkjikknofmcdaaDoorW.PrintWords Go.Proofs.YtlkjikknofmcdaaDoorW.PrintLast Go.Proofs.YtlkjikknofmcdaaDoorW.PrintMore Go.Proofs.YtlkjikknofmcdaaDoor.EvL Go.Proofs.YtlkjikknofmcdaaDoor.TxtL Go.Proofs.YtlkjikknofmcdaaDoor.ReadM Go.Proofs.YtlkjikknofmcdaaDoor.Short
set_option linter.unusedVariables false
set_option linter.unusedSimpArgs false

def impl_typeRead.T15 : Bool × List (List Nat × List Nat) := (true, [([], []), ([0], [0]), ([], []), ([], []), ([2, 3], [2, 3]), ([], []), ([5], [5]), ([6, 1], [6]), ([7], [7]), ([8, 7], [7, 8]), ([9, 7], [7, 9]), ([7, 10], [7, 10]), ([1, 7, 0, 1], [1]), ([4, 12, 0, 1, 2, 3, 4, 12], [4]), ([11, 13, 0, 1, 2, 3, 4, 5, 6, 7, 8, 9, 10, 11, 12, 13], [11])])
def impl_typeRead.B15 : List Nat := [0, 1, 0, 0, 12, 0, 32, 99, 227, 483, 995, 2019, 227, 4351, 16383]
theorem impl_typeRead.tab15 : rtab .any (opsOf Tryd.f30 15) = impl_typeRead.T15 := by kernel_rfl
theorem impl_typeRead.bits15 : waitsOk impl_typeRead.T15.2 impl_typeRead.B15 = true := by kernel_rfl
theorem cutp (x : UInt8) (r : List UInt8) : strings_CutPrefix.f (B r) (B [x]) = some (B ((eat x r).getD r), (eat x r).isSome) := by
  unfold strings_CutPrefix.f
  rw [B_list, B_list]
  show some (B (Lib.trimPrefix r [x]), Lib.hasPrefix r [x]) = _
  rw [(trim_eat x r).1, (trim_eat x r).2]
theorem getD_len (x : UInt8) (r : List UInt8) : ((eat x r).getD r).length ≤ r.length := by
  cases h : eat x r with
  | none => exact Nat.le_refl _
  | some r' => rw [eat_some h]; simp
theorem digs_end : ∀ (m : Nat) (l : List UInt8), (digs m l).length < m → ∀ h : (digs m l).length < l.length, ¬ isD (l[(digs m l).length]'h)
  | 0, _, h, _ => by omega
  | _ + 1, [], _, h => by simp at h
  | m + 1, x :: l, h1, h2 => by
    have ih := digs_end m l
    by_cases hx : isD x
    · have e : digs (m + 1) (x :: l) = x :: digs m l := if_pos hx
      simp only [e, List.length_cons] at h1 h2 ⊢
      exact ih (by omega) (by omega)
    · have e : digs (m + 1) (x :: l) = [] := if_neg hx
      simp only [e, List.length_nil]
      exact hx
set_option maxHeartbeats 8000000 in
set_option maxRecDepth 100000 in
theorem impl_typeRead.calls : ∀ (d : Nat) (l : List UInt8) (w : World) (hd : d ≤ 61) (hl : l.length ≤ 1099511627776) (hE : Met w),
    Calls Tryd.prog 30 #[.string (B l), .int .i64 (61 - (d : Int))] w fun e w' => ∃ (x : Option Addr) (r : List UInt8) (ok : Bool), e = .returned (.tuple #[.pointer x, .string (B r), .bool ok]) ∧ r.length ≤ l.length ∧ Below w.heap.size w w' ∧ ReadsAs ((yrd 4 d l)) w' x r ok
  | 0, l, w, hd, hl, hE => by
    go_enter Tryd.func30, Tryd.ntmps30
    go_wp2
    go_ret3
    exact ⟨none, [], false, rfl, Nat.zero_le _, Below.refl _ _, .inl ⟨rfl, rfl⟩⟩
  | d + 1, [], w, hd, hl, hE => by
    obtain ⟨dp, hdp⟩ : ∃ z : Int, z = 61 - ((d + 1 : Nat) : Int) := ⟨_, rfl⟩
    rw [← hdp]
    have z1 : decide (60 < dp) = false := decide_eq_false (by omega)
    have z2 : (B []).toList.isEmpty = true := by rw [toList_B]; rfl
    clear hdp
    go_enter Tryd.func30, Tryd.ntmps30
    go_wp2
    go_ret3
    exact ⟨none, [], false, rfl, Nat.zero_le _, Below.refl _ _, .inl ⟨rfl, rfl⟩⟩
  | d + 1, c :: s, w, hd, hl, hE => by
    obtain ⟨dp, hdp⟩ : ∃ z : Int, z = 61 - ((d + 1 : Nat) : Int) := ⟨_, rfl⟩
    rw [← hdp]
    obtain ⟨S, hS⟩ : ∃ S, S = B (c :: s) := ⟨_, rfl⟩
    rw [← hS]
    have hsz : S.size = s.length + 1 := by rw [hS, B_size]; rfl
    have hb0 : bt S 0 = (c.toNat : Int) := by rw [hS]; exact bt_B (c :: s) 0 (by simp)
    have z1 : decide (60 < dp) = false := decide_eq_false (by omega)
    have z2 : S.toList.isEmpty = false := by rw [hS, toList_B]; rfl
    have HL : Aside0 (s.length + 1 ≤ 1099511627776) := ⟨hl⟩
    have HD : Aside0 (d ≤ 61 ∧ dp = 60 - (d : Int)) := ⟨by omega, by omega⟩
    have HE := aM hE
    have HS := aM hS
    have HZ := aM hsz
    have q1 : (0 < S.size) = True := eq_true (by omega)
    have hx : ∀ h : 0 < S.size, ((S[0]'h).toNat : Int) = (c.toNat : Int) := fun h => (bt_at S 0 h).trans hb0
    clear hd hl hE hdp
    by_cases c40 : c = 40
    · subst c40
      replace hx : ∀ h : 0 < S.size, ((S[0]'h).toNat : Int) = 40 := hx
      have q2 : (1 ≤ S.size) = True := eq_true (by omega)
      have q3 : ((1 : Int) ≤ (S.size : Int)) = True := eq_true (by omega)
      have e1 : S.extract 1 S.size = B s := by rw [hS]; exact ext_drop _ 1 _ (by rw [B_size])
      have E1 := aM e1
      have EW : Aside0 (wrap64 (dp + 1) = 61 - (d : Int)) := ⟨by rw [w64 (by have := HD.out; omega) (by have := HD.out; omega)]; have := HD.out; omega⟩
      clear e1 hS hsz hb0
      go_enter Tryd.func30, Tryd.ntmps30
      go_upto_region 5 with (first
        | ((with_reducible refine gate_callee (f := 30) rfl ?_); refine goesL_ (some 34) rfl rfl Tryd.func30 (by kernel_rfl) rfl #[.string (S.extract 1 S.size), .int .i64 (wrap64 (dp + 1))] rfl tA ?_; rw [E1.out, EW.out]; (with_reducible refine (impl_typeRead.calls d s w ?s1 ?s2 HE.out).mono ?_); (case s1 => exact HD.out.1); (case s2 => have := HL.out; omega); rintro _ w1 ⟨x1, r1, ok1, rfl, hlen1, hb, hr1⟩; refine ⟨_, rfl, ?_⟩; have R1 := aM hr1; have L1 := aM hlen1; have HB := aM hb; clear hr1 hlen1 hb))
      obtain ⟨r2, hr2⟩ : ∃ z, z = (eat 62 r1).getD r1 := ⟨_, rfl⟩
      obtain ⟨ok2, hok2⟩ : ∃ z, z = (eat 62 r1).isSome := ⟨_, rfl⟩
      have CP := aM (cutp 62 r1)
      rw [← hr2, ← hok2] at CP
      have L2 : Aside0 (r2.length ≤ s.length) := ⟨by have := getD_len 62 r1; rw [hr2]; have := L1.out; omega⟩
      have K2 := aM hr2
      have O2 := aM hok2
      clear hr2 hok2
      go_upto_region 6 with (first
        | ((with_reducible refine gate_callee (f := 46) rfl ?_); refine goesL_ (some 40) rfl rfl Tryd.func46 (by kernel_rfl) rfl #[.string (B r1), .string (B [62])] rfl tA ?_; (with_reducible refine (strings_CutPrefix.calls (B r1) (B [62]) (B r2) ok2 w1 ?s1).mono ?_); (case s1 => exact CP.out); rintro _ w2 ⟨rfl, hb⟩; refine ⟨_, rfl, ?_⟩; have HB2 := aM (below_step HB.out hb); have R2 := aM (R1.out.below hb); clear hb R1 HB))
      cases ok1 with
      | false =>
        have hn : yrd 4 d s = none := by
          rcases R2.out with ⟨h, _⟩ | ⟨t, _, h, _⟩
          · exact h
          · cases h
        have hN : yrd 4 (d + 1) (40 :: s) = none := by rw [yrd, if_pos rfl, hn]; rfl
        have HN := aM hN
        clear hn hN
        go_wp2
        go_ret3
        exact ⟨none, [], false, rfl, Nat.zero_le _, HB2.out, .inl ⟨HN.out, rfl⟩⟩
      | true =>
        have h1 : ∃ t1, yrd 4 d s = some (t1, r1) ∧ IsT w2 t1 (.pointer x1) := by
          rcases R2.out with ⟨_, h⟩ | ⟨t, h, _, h2⟩
          · cases h
          · exact ⟨t, h, h2⟩
        obtain ⟨t1, y1, i1⟩ := h1
        have Y1 := aM y1
        have I1 := aM i1
        clear y1 i1
        cases ok2 with
        | false =>
          have hN : yrd 4 (d + 1) (40 :: s) = none := by
            have he : eat 62 r1 = none := by
              have := O2.out
              cases h : eat 62 r1 with
              | none => rfl
              | some z => rw [h] at this; cases this
            rw [yrd, if_pos rfl, Y1.out, Option.bind_some, he]; rfl
          have HN := aM hN
          clear hN
          go_wp2
          go_ret3
          exact ⟨none, [], false, rfl, Nat.zero_le _, HB2.out, .inl ⟨HN.out, rfl⟩⟩
        | true =>
          have he : eat 62 r1 = some r2 := by
            have h0 := O2.out
            have h1 := K2.out
            cases h : eat 62 r1 with
            | none => rw [h] at h0; cases h0
            | some z => rw [h] at h1; rw [h1]; rfl
          have E2 := aM he
          clear he
          go_upto_region 9 with (first
            | ((with_reducible refine gate_callee (f := 30) rfl ?_); refine goesL_ (some 53) rfl rfl Tryd.func30 (by kernel_rfl) rfl #[.string (B r2), .int .i64 (wrap64 (dp + 1))] rfl tA ?_; rw [EW.out]; (with_reducible refine (impl_typeRead.calls d r2 w2 ?s1 ?s2 ?s3).mono ?_); (case s1 => exact HD.out.1); (case s2 => have := HL.out; have := L2.out; omega); (case s3 => exact HE.out.below HB2.out); rintro _ w3 ⟨x3, r3, ok3, rfl, hlen3, hb, hr3⟩; refine ⟨_, rfl, ?_⟩; have R3 := aM hr3; have L3 := aM hlen3; have HB3 := aM (below_step HB2.out hb); have I2 := aM (I1.out.below hb); clear hr3 hlen3 hb I1 HB2))
          obtain ⟨r4, hr4⟩ : ∃ z, z = (eat 41 r3).getD r3 := ⟨_, rfl⟩
          obtain ⟨ok4, hok4⟩ : ∃ z, z = (eat 41 r3).isSome := ⟨_, rfl⟩
          have CP4 := aM (cutp 41 r3)
          rw [← hr4, ← hok4] at CP4
          have L4 : Aside0 (r4.length ≤ s.length) := ⟨by have := getD_len 41 r3; rw [hr4]; have := L3.out; have := L2.out; omega⟩
          have K4 := aM hr4
          have O4 := aM hok4
          clear hr4 hok4
          cases ok3 with
          | false =>
            have hN : yrd 4 (d + 1) (40 :: s) = none := by
              have hn : yrd 4 d r2 = none := by
                rcases R3.out with ⟨h, _⟩ | ⟨t, _, h, _⟩
                · exact h
                · cases h
              rw [yrd, if_pos rfl, Y1.out, Option.bind_some, E2.out, Option.bind_some, hn]; rfl
            have HN := aM hN
            clear hN
            go_wp2_with (first
              | ((with_reducible refine gate_callee (f := 46) rfl ?_); refine goesL_ (some 59) rfl rfl Tryd.func46 (by kernel_rfl) rfl #[.string (B r3), .string (B [41])] rfl tA ?_; (with_reducible refine (strings_CutPrefix.calls (B r3) (B [41]) (B r4) ok4 w3 ?s1).mono ?_); (case s1 => exact CP4.out); rintro _ w4 ⟨rfl, hb⟩; refine ⟨_, rfl, ?_⟩; have HB4 := aM (below_step HB3.out hb); clear hb)
              | ((with_reducible refine gate_callee (f := 32) rfl ?_); refine goesL_ (some 64) rfl rfl Tryd.func32 (by kernel_rfl) rfl #[.pointer x1, .pointer x3] rfl tA ?_; refine (impl_arrow.made x1 x3 w4).mono ?_; rintro _ w5 ⟨g, p, rfl, hg, hp, hb⟩; refine ⟨_, rfl, ?_⟩; have HB5 := aM (below_step HB4.out hb); clear hb hg hp))
            go_ret3
            exact ⟨_, r4, false, rfl, by have := L4.out; show _ ≤ s.length + 1; omega, HB5.out, .inl ⟨HN.out, rfl⟩⟩
          | true =>
            have h3 : ∃ t2, yrd 4 d r2 = some (t2, r3) ∧ IsT w3 t2 (.pointer x3) := by
              rcases R3.out with ⟨_, h⟩ | ⟨t, h, _, h2⟩
              · cases h
              · exact ⟨t, h, h2⟩
            obtain ⟨t2, y2, i2⟩ := h3
            have Y2 := aM y2
            have I3 := aM i2
            clear y2 i2
            go_wp2_with (first
              | ((with_reducible refine gate_callee (f := 46) rfl ?_); refine goesL_ (some 59) rfl rfl Tryd.func46 (by kernel_rfl) rfl #[.string (B r3), .string (B [41])] rfl tA ?_; (with_reducible refine (strings_CutPrefix.calls (B r3) (B [41]) (B r4) ok4 w3 ?s1).mono ?_); (case s1 => exact CP4.out); rintro _ w4 ⟨rfl, hb⟩; refine ⟨_, rfl, ?_⟩; have HB4 := aM (below_step HB3.out hb); have I4 := aM (I2.out.below hb); have I5 := aM (I3.out.below hb); clear hb)
              | ((with_reducible refine gate_callee (f := 32) rfl ?_); refine goesL_ (some 64) rfl rfl Tryd.func32 (by kernel_rfl) rfl #[.pointer x1, .pointer x3] rfl tA ?_; refine (impl_arrow.made x1 x3 w4).mono ?_; rintro _ w5 ⟨g, p, rfl, hg, hp, hb⟩; refine ⟨_, rfl, ?_⟩; have HB5 := aM (below_step HB4.out hb); have IA : Aside0 (IsT w5 (.a t1 t2) (.pointer (some ⟨g, 0, none⟩))) := ⟨⟨g, p, _, _, rfl, hg, hp, I4.out.below hb, I5.out.below hb⟩⟩; clear hb hg hp))
            go_ret3
            refine ⟨_, r4, ok4, rfl, by have := L4.out; show _ ≤ s.length + 1; omega, HB5.out, ?_⟩
            have hO : yrd 4 (d + 1) (40 :: s) = (eat 41 r3).bind fun r => some (.a t1 t2, r) := by
              rw [yrd, if_pos rfl, Y1.out, Option.bind_some, E2.out, Option.bind_some, Y2.out, Option.bind_some]
            have h0 := O4.out
            have h1 := K4.out
            cases h : eat 41 r3 with
            | none => rw [h] at h0 hO; exact .inl ⟨hO, h0⟩
            | some z =>
              rw [h] at h0 h1 hO
              exact .inr ⟨.a t1 t2, by rw [hO, h1]; rfl, h0, IA.out⟩
    · obtain ⟨n, hn⟩ : ∃ n, n = (digs 4 s).length := ⟨_, rfl⟩
      have hdl := digs_len 4 s
      have NL : Aside0 (n ≤ 4 ∧ n ≤ s.length) := ⟨by rw [hn]; exact hdl⟩
      have DA : Aside0 (∀ j, j < n → 48 ≤ bt S ((j : Int) + 1) ∧ bt S ((j : Int) + 1) ≤ 57) := ⟨fun j hj => by
        have hp := digs_pre 4 s
        have hjs : j < s.length := by omega
        have hd := digs_all 4 s ((digs 4 s)[j]'(by omega)) (List.getElem_mem _)
        have e : s[j] = (digs 4 s)[j]'(by omega) := by
          have : s[j]? = (digs 4 s)[j]? := by
            conv => lhs; rw [hp]
            rw [List.getElem?_append_left (by omega)]
          rw [List.getElem?_eq_getElem hjs, List.getElem?_eq_getElem (by omega)] at this
          exact Option.some.inj this
        have eb : bt S ((j : Int) + 1) = (s[j].toNat : Int) := by
          rw [hS]
          exact (bt_B (c :: s) (j + 1) (by simp; omega))
        rw [eb, e]
        unfold isD at hd
        omega⟩
      have DE : Aside0 (n < s.length → n < 4 → ¬ (48 ≤ bt S ((n : Int) + 1) ∧ bt S ((n : Int) + 1) ≤ 57)) := ⟨fun h1 h4 hb => by
        have eb : bt S ((n : Int) + 1) = (s[n].toNat : Int) := by
          rw [hS]
          exact (bt_B (c :: s) (n + 1) (by simp; omega))
        rw [eb] at hb
        have hD : isD s[n] := by unfold isD; omega
        have := digs_end 4 s (by omega) (by omega)
        exact this (by simpa [← hn] using hD)⟩
      have hne : (((S[0]'(by omega)).toNat : Int) == 40) = false := by
        rw [hx (by omega)]
        have : (c.toNat : Int) ≠ 40 := fun h => c40 (by have h2 : c.toNat = 40 := by { omega }; rw [show c = UInt8.ofNat c.toNat by simp, h2]; rfl)
        simpa using this
      have HX := aM hx
      replace hx : ∀ h : 0 < S.size, (((S[0]'h).toNat : Int) == 40) = false := fun _ => hne
      have HN := aM hn
      have HC := aM c40
      clear hn hdl hne c40 hS hsz hb0
      go_enter Tryd.func30, Tryd.ntmps30
      go_upto_block 1 with fail
      go_cut [15] (fun v15 wc => v15 = .int .i64 ((n : Int) + 1) ∧ Aside0 (Below w.heap.size w wc))
      case first =>
        go_wp2
        go_loopg [15] n (fun gk v15 w' => ∃ (i : Int) (j : Nat), v15 = .int .i64 i ∧ Aside0 (i = (j : Int) + 1 ∧ gk + j = n) ∧ Aside0 (Below w.heap.size w w'))
        case atStart => exact ⟨1, 0, rfl, ⟨rfl, rfl⟩, ⟨Below.refl _ _⟩⟩
        case round =>
          obtain ⟨i, j, rfl, HJ, HB⟩ := hrel
          have hZ := HZ.out
          have hL := NL.out
          have h0 : 0 ≤ i := by have := HJ.out; omega
          have p1 := eq_true h0
          have hxi := bt_at S i
          cases gk with
          | zero =>
            have hj : j = n := by have := HJ.out; omega
            have hi : i = (n : Int) + 1 := by have := HJ.out; omega
            by_cases ca : n = s.length
            · have s1 : decide (i < (S.size : Int)) = false := decide_eq_false (by omega)
              have RI : Aside0 (i = (n : Int) + 1) := ⟨hi⟩
              clear ca hj hi hZ hL h0
              go_wp2
              go_meet
              case rel => exact ⟨by rw [RI.out], HB⟩
            · have s1 : decide (i < (S.size : Int)) = true := decide_eq_true (by omega)
              have q4 : (i < (S.size : Int)) = True := eq_true (by omega)
              by_cases cb : n = 4
              · have s2 : decide (i < 5) = false := decide_eq_false (by omega)
                have RI : Aside0 (i = (n : Int) + 1) := ⟨hi⟩
                clear ca cb hj hi hZ hL h0
                go_wp2
                go_meet
                case rel => exact ⟨by rw [RI.out], HB⟩
              · have s2 : decide (i < 5) = true := decide_eq_true (by omega)
                have hde := DE.out (by omega) (by omega)
                rw [← hi] at hde
                have RI : Aside0 (i = (n : Int) + 1) := ⟨hi⟩
                by_cases cc : 48 ≤ bt S i
                · have s3 : decide (48 ≤ bt S i) = true := decide_eq_true cc
                  have s4 : decide (bt S i ≤ 57) = false := decide_eq_false (fun h => hde ⟨cc, h⟩)
                  clear ca cb hj hi hZ hL h0 hde cc
                  go_wp2
                  go_meet
                  case rel => exact ⟨by rw [RI.out], HB⟩
                · have s3 : decide (48 ≤ bt S i) = false := decide_eq_false cc
                  clear ca cb hj hi hZ hL h0 hde cc
                  go_wp2
                  go_meet
                  case rel => exact ⟨by rw [RI.out], HB⟩
          | succ k1 =>
            have hd := DA.out j (by have := HJ.out; omega)
            have s1 : decide (i < (S.size : Int)) = true := decide_eq_true (by have := HJ.out; omega)
            have q4 : (i < (S.size : Int)) = True := eq_true (by have := HJ.out; omega)
            have s2 : decide (i < 5) = true := decide_eq_true (by have := HJ.out; omega)
            rw [← HJ.out.1] at hd
            have s3 : decide (48 ≤ bt S i) = true := decide_eq_true hd.1
            have s4 : decide (bt S i ≤ 57) = true := decide_eq_true hd.2
            clear hd hZ hL h0
            go_wp2
            go_roundg k1
            case measure => omega
            case rel => exact ⟨i + 1, j + 1, by rw [w64 (by have := HJ.out; have := NL.out; omega) (by have := HJ.out; have := NL.out; omega)], ⟨by have := HJ.out; omega, by have := HJ.out; omega⟩, HB⟩
      case rest =>
        obtain ⟨rfl, HB⟩ := hcut
        have q5 : ((1 : Int) ≤ (n : Int) + 1) = True := eq_true (by omega)
        have q6 : ((n : Int) + 1 ≤ (S.size : Int)) = True := eq_true (by have := HZ.out; have := NL.out; omega)
        have q7 : ((0 : Int) ≤ (n : Int) + 1) = True := eq_true (by omega)
        have EX : S.extract 1 (n + 1) = B (digs 4 s) := by
          have hp := digs_pre 4 s
          rw [HS.out]
          refine data_inj ?_
          rw [B_list]
          have h1 : ((B (c :: s)).extract 1 (n + 1)).data.toList = s.take n := by
            have : (B (c :: s)).extract 1 (n + 1) = B (s.take n) := by
              apply ByteArray.ext
              simp [B, List.drop_take]
            rw [this, B_list]
          rw [h1, HN.out]
          have h2 := congrArg (List.take (digs 4 s).length) hp
          rw [List.take_left] at h2
          exact h2
        have ED : S.extract (n + 1) S.size = B (s.drop n) := by
          rw [HS.out]
          exact ext_drop (c :: s) (n + 1) _ (by rw [B_size])
        have ED1 := aM ED
        by_cases h0 : digs 4 s = []
        · have hN : yrd 4 (d + 1) (c :: s) = none := by rw [yrd, if_neg HC.out, if_neg (fun h => h.2 h0)]
          have hA : strconv_Atoi_47.f (B []) = some (0, some 2) := rfl
          rw [h0] at EX
          have EX1 := aM EX
          have A1 := aM hA
          have HNo := aM hN
          clear EX hA hN h0 ED
          go_upto_region 15 with (first
            | (go_at_call 47; rw [EX1.out]; refine (strconv_Atoi_47.callsS (B []) 0 2 wc A1.out (HE.out.below HB.out).lib).mono ?_; rintro _ w4 ⟨ti, pi, rfl, hb⟩; have HB4 := aM (below_step HB.out hb); clear hb))
          refine start_ (n := 15) (S := fun w' => True) (ds := []) #[false, false, false, false, false, false, false, false, false, false, false, false, false, false, false] (by kernel_rfl) rfl rfl trivial (fun hHeld => ?_); refine with_tabW impl_typeRead.tab15 impl_typeRead.bits15 (fun HT_ HW_ => ?_)
          have HB6 := aM (below_drew1 HB4.out)
          clear HB4
          generalize w4.drew = w6 at HB6 hHeld ⊢
          refine pure_ (i := 0) (N := some 99) (v := ?_) (a' := ?_) #[true, false, false, false, false, false, false, false, false, false, false, false, false, false, false] rfl rfl (any_of HT_.out (by kernel_rfl)) (fun _ _ _ h => h) (Or.inl ⟨by rfl, ?_⟩) ?_ ?_
          rotate_left
          · intro w'
            go_simp
            with_reducible rfl
          rotate_left
          · simp only [Act.put, List.setIfInBounds_toArray, List.set_cons_zero, List.set_cons_succ, i64_w, i32_w]
            rfl
          refine pure_ (i := 2) (N := some 101) (v := ?_) (a' := ?_) #[true, false, true, false, false, false, false, false, false, false, false, false, false, false, false] rfl rfl (any_of HT_.out (by kernel_rfl)) (fun _ _ _ h => h) (Or.inl ⟨by rfl, ?_⟩) ?_ ?_
          rotate_left
          · intro w'
            go_simp
            with_reducible rfl
          rotate_left
          · simp only [Act.put, List.setIfInBounds_toArray, List.set_cons_zero, List.set_cons_succ, i64_w, i32_w]
            rfl
          refine pure_ (i := 3) (N := some 102) (v := ?_) (a' := ?_) #[true, false, true, true, false, false, false, false, false, false, false, false, false, false, false] rfl rfl (any_of HT_.out (by kernel_rfl)) (fun _ _ _ h => h) (Or.inl ⟨by rfl, ?_⟩) ?_ ?_
          rotate_left
          · intro w'
            go_simp
            with_reducible rfl
          rotate_left
          · simp only [Act.put, List.setIfInBounds_toArray, List.set_cons_zero, List.set_cons_succ, i64_w, i32_w]
            rfl
          refine pure_ (i := 4) (N := some 103) (v := ?_) (a' := ?_) #[true, false, true, true, true, false, false, false, false, false, false, false, false, false, false] rfl rfl (any_of HT_.out (by kernel_rfl)) (fun _ _ _ h => h) (Or.inl ⟨by rfl, ?_⟩) ?_ ?_
          rotate_left
          · intro w'
            go_simp
            with_reducible rfl
          rotate_left
          · simp only [Act.put, List.setIfInBounds_toArray, List.set_cons_zero, List.set_cons_succ, i64_w, i32_w]
            rfl
          refine pure_ (i := 5) (N := some 104) (v := ?_) (a' := ?_) #[true, false, true, true, true, true, false, false, false, false, false, false, false, false, false] rfl rfl (any_of HT_.out (by kernel_rfl)) (fun _ _ _ h => h) (Or.inl ⟨by rfl, ?_⟩) ?_ ?_
          rotate_left
          · intro w'
            go_simp
            with_reducible rfl
          rotate_left
          · simp only [Act.put, List.setIfInBounds_toArray, List.set_cons_zero, List.set_cons_succ, i64_w, i32_w]
            rfl
          refine pure_ (i := 6) (N := some 105) (v := ?_) (a' := ?_) #[true, false, true, true, true, true, true, false, false, false, false, false, false, false, false] rfl rfl (any_of HT_.out (by kernel_rfl)) (fun _ _ _ h => h) (Or.inl ⟨by rfl, ?_⟩) ?_ ?_
          rotate_left
          · intro w'
            go_simp
            with_reducible rfl
          rotate_left
          · simp only [Act.put, List.setIfInBounds_toArray, List.set_cons_zero, List.set_cons_succ, i64_w, i32_w]
            rfl
          refine one_ (i := 1) (N := some 100) #[true, true, true, true, true, true, true, false, false, false, false, false, false, false, false] rfl rfl (one_of HT_.out (by kernel_rfl)) (by decide) (fun K hK => ?_)
          refine goes_ Tryd.func43 (by kernel_rfl) rfl #[.int .i64 0] (by rfl) rfl rfl (by (try simp only [List.map_toArray, List.map_cons, List.map_nil]); first | done | rfl) ?_
          refine (impl_typeVar.calls 0 w6).mono ?_
          rintro _ w5 ⟨xv, rfl, hv, hb⟩
          obtain ⟨gv, rfl⟩ := hv.ptr
          refine ⟨_, rfl, ?_⟩
          have HV := aM hv
          have HB5 := aM (below_step HB6.out hb)
          clear hb hv
          refine hK.out _ _ trivial (fun hHeld => ?_)
          clear hK K
          refine norm_ (a' := ?_) ?_ ?_
          rotate_left
          · show Act.put _ (some 100) _ = _
            simp only [Act.put, List.setIfInBounds_toArray, List.set_cons_zero, List.set_cons_succ, i64_w, i32_w]
            rfl
          refine pure_ (i := 7) (N := some 106) (v := ?_) (a' := ?_) #[true, true, true, true, true, true, true, true, false, false, false, false, false, false, false] rfl rfl (any_of HT_.out (by kernel_rfl)) (fun _ _ _ h => h) (Or.inl ⟨by rfl, ?_⟩) ?_ ?_
          rotate_left
          · intro w'
            go_simp
            with_reducible rfl
          rotate_left
          · simp only [Act.put, List.setIfInBounds_toArray, List.set_cons_zero, List.set_cons_succ, i64_w, i32_w]
            rfl
          refine pure_ (i := 8) (N := some 107) (v := undef) (a' := ?_) #[true, true, true, true, true, true, true, true, true, false, false, false, false, false, false] rfl rfl (any_of HT_.out (by kernel_rfl)) (fun _ _ _ h => h) (Or.inr ⟨by rfl, rfl⟩) ?_ ?_
          rotate_left
          · simp only [Act.put, List.setIfInBounds_toArray, List.set_cons_zero, List.set_cons_succ, i64_w, i32_w]
            rfl
          refine pure_ (i := 9) (N := some 108) (v := undef) (a' := ?_) #[true, true, true, true, true, true, true, true, true, true, false, false, false, false, false] rfl rfl (any_of HT_.out (by kernel_rfl)) (fun _ _ _ h => h) (Or.inr ⟨by rfl, rfl⟩) ?_ ?_
          rotate_left
          · simp only [Act.put, List.setIfInBounds_toArray, List.set_cons_zero, List.set_cons_succ, i64_w, i32_w]
            rfl
          refine pure_ (i := 10) (N := some 109) (v := undef) (a' := ?_) #[true, true, true, true, true, true, true, true, true, true, true, false, false, false, false] rfl rfl (any_of HT_.out (by kernel_rfl)) (fun _ _ _ h => h) (Or.inr ⟨by rfl, rfl⟩) ?_ ?_
          rotate_left
          · simp only [Act.put, List.setIfInBounds_toArray, List.set_cons_zero, List.set_cons_succ, i64_w, i32_w]
            rfl
          refine pure_ (i := 11) (N := some 110) (v := ?_) (a' := ?_) #[true, true, true, true, true, true, true, true, true, true, true, true, false, false, false] rfl rfl (any_of HT_.out (by kernel_rfl)) (fun _ _ _ h => h) (Or.inl ⟨by rfl, ?_⟩) ?_ ?_
          rotate_left
          · intro w'
            go_simp
            with_reducible rfl
          rotate_left
          · simp only [Act.put, List.setIfInBounds_toArray, List.set_cons_zero, List.set_cons_succ, i64_w, i32_w]
            rfl
          refine pure_ (i := 12) (N := some 4) (v := ?_) (a' := ?_) #[true, true, true, true, true, true, true, true, true, true, true, true, true, false, false] rfl rfl (any_of HT_.out (by kernel_rfl)) (fun _ _ _ h => h) (Or.inl ⟨by rfl, ?_⟩) ?_ ?_
          rotate_left
          · intro w'
            go_simp
            with_reducible rfl
          rotate_left
          · simp only [Act.put, List.setIfInBounds_toArray, List.set_cons_zero, List.set_cons_succ, i64_w, i32_w]
            rfl
          refine pure_ (i := 13) (N := some 5) (v := ?_) (a' := ?_) #[true, true, true, true, true, true, true, true, true, true, true, true, true, true, false] rfl rfl (any_of HT_.out (by kernel_rfl)) (fun _ _ _ h => h) (Or.inl ⟨by rfl, ?_⟩) ?_ ?_
          rotate_left
          · intro w'
            go_simp
            with_reducible rfl
          rotate_left
          · simp only [Act.put, List.setIfInBounds_toArray, List.set_cons_zero, List.set_cons_succ, i64_w, i32_w]
            rfl
          refine pure_ (i := 14) (N := some 6) (v := ?_) (a' := ?_) #[true, true, true, true, true, true, true, true, true, true, true, true, true, true, true] rfl rfl (any_of HT_.out (by kernel_rfl)) (fun _ _ _ h => h) (Or.inl ⟨by rfl, ?_⟩) ?_ ?_
          rotate_left
          · intro w'
            go_simp
            with_reducible rfl
          rotate_left
          · simp only [Act.put, List.setIfInBounds_toArray, List.set_cons_zero, List.set_cons_succ, i64_w, i32_w]
            rfl
          refine done_ (done_of HT_.out (by kernel_rfl)) ?_
          go_wp2
          go_ret3
          exact ⟨_, s.drop n, false, by rw [ED1.out]; rfl, by rw [List.length_drop]; show _ ≤ s.length + 1; omega, HB5.out, .inl ⟨HNo.out, rfl⟩⟩
        · have hA : strconv_Atoi_47.f (B (digs 4 s)) = some (((valF 0 (digs 4 s) : Nat) : Int), none) := by
            have hv := val_le 4 (digs 4 s) (digs_all 4 s) (digs_len 4 s).1
            have ha := atoi_digits (digs 4 s) (digs_all 4 s) h0 (by omega)
            unfold strconv_Atoi_47.f atoiNum atoiErr
            rw [if_pos (by rw [B_size]; have := (digs_len 4 s).1; omega), B_list, ha]
          obtain ⟨v, hv⟩ : ∃ z : Int, z = ((valF 0 (digs 4 s) : Nat) : Int) := ⟨_, rfl⟩
          rw [← hv] at hA
          have EX1 := aM EX
          have A1 := aM hA
          have H0 := aM h0
          have V0 := aM hv
          clear EX hA h0 ED hv
          go_upto_region 15 with (first
            | (go_at_call 47; rw [EX1.out]; refine (strconv_Atoi_47.callsN (B (digs 4 s)) v wc A1.out (HE.out.below HB.out).lib).mono ?_; rintro _ w4 ⟨rfl, hb⟩; have HB4 := aM (below_step HB.out hb); clear hb))
          by_cases c116 : c = 116
          · replace hx : ∀ h : 0 < S.size, (((S[0]'h).toNat : Int) == 116) = true := fun h => by rw [HX.out h, c116]; rfl
            have hO : yrd 4 (d + 1) (c :: s) = some (.v v, s.drop n) := by rw [yrd, if_neg HC.out, if_pos ⟨c116, H0.out⟩, V0.out, HN.out]
            have OO := aM hO
            clear hO c116
            refine start_ (n := 15) (S := fun w' => True) (ds := []) #[false, false, false, false, false, false, false, false, false, false, false, false, false, false, false] (by kernel_rfl) rfl rfl trivial (fun hHeld => ?_); refine with_tabW impl_typeRead.tab15 impl_typeRead.bits15 (fun HT_ HW_ => ?_)
            have HB6 := aM (below_drew1 HB4.out)
            clear HB4
            generalize w4.drew = w6 at HB6 hHeld ⊢
            refine pure_ (i := 0) (N := some 99) (v := ?_) (a' := ?_) #[true, false, false, false, false, false, false, false, false, false, false, false, false, false, false] rfl rfl (any_of HT_.out (by kernel_rfl)) (fun _ _ _ h => h) (Or.inl ⟨by rfl, ?_⟩) ?_ ?_
            rotate_left
            · intro w'
              go_simp
              with_reducible rfl
            rotate_left
            · simp only [Act.put, List.setIfInBounds_toArray, List.set_cons_zero, List.set_cons_succ, i64_w, i32_w]
              rfl
            refine pure_ (i := 2) (N := some 101) (v := ?_) (a' := ?_) #[true, false, true, false, false, false, false, false, false, false, false, false, false, false, false] rfl rfl (any_of HT_.out (by kernel_rfl)) (fun _ _ _ h => h) (Or.inl ⟨by rfl, ?_⟩) ?_ ?_
            rotate_left
            · intro w'
              go_simp
              with_reducible rfl
            rotate_left
            · simp only [Act.put, List.setIfInBounds_toArray, List.set_cons_zero, List.set_cons_succ, i64_w, i32_w]
              rfl
            refine pure_ (i := 3) (N := some 102) (v := ?_) (a' := ?_) #[true, false, true, true, false, false, false, false, false, false, false, false, false, false, false] rfl rfl (any_of HT_.out (by kernel_rfl)) (fun _ _ _ h => h) (Or.inl ⟨by rfl, ?_⟩) ?_ ?_
            rotate_left
            · intro w'
              go_simp
              with_reducible rfl
            rotate_left
            · simp only [Act.put, List.setIfInBounds_toArray, List.set_cons_zero, List.set_cons_succ, i64_w, i32_w]
              rfl
            refine pure_ (i := 4) (N := some 103) (v := ?_) (a' := ?_) #[true, false, true, true, true, false, false, false, false, false, false, false, false, false, false] rfl rfl (any_of HT_.out (by kernel_rfl)) (fun _ _ _ h => h) (Or.inl ⟨by rfl, ?_⟩) ?_ ?_
            rotate_left
            · intro w'
              go_simp
              with_reducible rfl
            rotate_left
            · simp only [Act.put, List.setIfInBounds_toArray, List.set_cons_zero, List.set_cons_succ, i64_w, i32_w]
              rfl
            refine pure_ (i := 5) (N := some 104) (v := ?_) (a' := ?_) #[true, false, true, true, true, true, false, false, false, false, false, false, false, false, false] rfl rfl (any_of HT_.out (by kernel_rfl)) (fun _ _ _ h => h) (Or.inl ⟨by rfl, ?_⟩) ?_ ?_
            rotate_left
            · intro w'
              go_simp
              with_reducible rfl
            rotate_left
            · simp only [Act.put, List.setIfInBounds_toArray, List.set_cons_zero, List.set_cons_succ, i64_w, i32_w]
              rfl
            refine pure_ (i := 6) (N := some 105) (v := ?_) (a' := ?_) #[true, false, true, true, true, true, true, false, false, false, false, false, false, false, false] rfl rfl (any_of HT_.out (by kernel_rfl)) (fun _ _ _ h => h) (Or.inl ⟨by rfl, ?_⟩) ?_ ?_
            rotate_left
            · intro w'
              go_simp
              with_reducible rfl
            rotate_left
            · simp only [Act.put, List.setIfInBounds_toArray, List.set_cons_zero, List.set_cons_succ, i64_w, i32_w]
              rfl
            refine one_ (i := 1) (N := some 100) #[true, true, true, true, true, true, true, false, false, false, false, false, false, false, false] rfl rfl (one_of HT_.out (by kernel_rfl)) (by decide) (fun K hK => ?_)
            refine goes_ Tryd.func43 (by kernel_rfl) rfl #[.int .i64 v] (by rfl) rfl rfl (by (try simp only [List.map_toArray, List.map_cons, List.map_nil]); first | done | rfl) ?_
            refine (impl_typeVar.calls v w6).mono ?_
            rintro _ w5 ⟨xv, rfl, hv, hb⟩
            obtain ⟨gv, rfl⟩ := hv.ptr
            refine ⟨_, rfl, ?_⟩
            have HV := aM hv
            have HB5 := aM (below_step HB6.out hb)
            clear hb hv
            refine hK.out _ _ trivial (fun hHeld => ?_)
            clear hK K
            refine norm_ (a' := ?_) ?_ ?_
            rotate_left
            · show Act.put _ (some 100) _ = _
              simp only [Act.put, List.setIfInBounds_toArray, List.set_cons_zero, List.set_cons_succ, i64_w, i32_w]
              rfl
            refine pure_ (i := 7) (N := some 106) (v := ?_) (a' := ?_) #[true, true, true, true, true, true, true, true, false, false, false, false, false, false, false] rfl rfl (any_of HT_.out (by kernel_rfl)) (fun _ _ _ h => h) (Or.inl ⟨by rfl, ?_⟩) ?_ ?_
            rotate_left
            · intro w'
              go_simp
              with_reducible rfl
            rotate_left
            · simp only [Act.put, List.setIfInBounds_toArray, List.set_cons_zero, List.set_cons_succ, i64_w, i32_w]
              rfl
            refine pure_ (i := 8) (N := some 107) (v := ?_) (a' := ?_) #[true, true, true, true, true, true, true, true, true, false, false, false, false, false, false] rfl rfl (any_of HT_.out (by kernel_rfl)) (fun _ _ _ h => h) (Or.inl ⟨by rfl, ?_⟩) ?_ ?_
            rotate_left
            · intro w'
              go_simp
              with_reducible rfl
            rotate_left
            · simp only [Act.put, List.setIfInBounds_toArray, List.set_cons_zero, List.set_cons_succ, i64_w, i32_w]
              rfl
            refine pure_ (i := 9) (N := some 108) (v := ?_) (a' := ?_) #[true, true, true, true, true, true, true, true, true, true, false, false, false, false, false] rfl rfl (any_of HT_.out (by kernel_rfl)) (fun _ _ _ h => h) (Or.inl ⟨by rfl, ?_⟩) ?_ ?_
            rotate_left
            · intro w'
              go_simp
              with_reducible rfl
            rotate_left
            · simp only [Act.put, List.setIfInBounds_toArray, List.set_cons_zero, List.set_cons_succ, i64_w, i32_w]
              rfl
            refine pure_ (i := 10) (N := some 109) (v := ?_) (a' := ?_) #[true, true, true, true, true, true, true, true, true, true, true, false, false, false, false] rfl rfl (any_of HT_.out (by kernel_rfl)) (fun _ _ _ h => h) (Or.inl ⟨by rfl, ?_⟩) ?_ ?_
            rotate_left
            · intro w'
              go_simp
              with_reducible rfl
            rotate_left
            · simp only [Act.put, List.setIfInBounds_toArray, List.set_cons_zero, List.set_cons_succ, i64_w, i32_w]
              rfl
            refine pure_ (i := 11) (N := some 110) (v := ?_) (a' := ?_) #[true, true, true, true, true, true, true, true, true, true, true, true, false, false, false] rfl rfl (any_of HT_.out (by kernel_rfl)) (fun _ _ _ h => h) (Or.inl ⟨by rfl, ?_⟩) ?_ ?_
            rotate_left
            · intro w'
              go_simp
              with_reducible rfl
            rotate_left
            · simp only [Act.put, List.setIfInBounds_toArray, List.set_cons_zero, List.set_cons_succ, i64_w, i32_w]
              rfl
            refine pure_ (i := 12) (N := some 4) (v := ?_) (a' := ?_) #[true, true, true, true, true, true, true, true, true, true, true, true, true, false, false] rfl rfl (any_of HT_.out (by kernel_rfl)) (fun _ _ _ h => h) (Or.inl ⟨by rfl, ?_⟩) ?_ ?_
            rotate_left
            · intro w'
              go_simp
              with_reducible rfl
            rotate_left
            · simp only [Act.put, List.setIfInBounds_toArray, List.set_cons_zero, List.set_cons_succ, i64_w, i32_w]
              rfl
            refine pure_ (i := 13) (N := some 5) (v := ?_) (a' := ?_) #[true, true, true, true, true, true, true, true, true, true, true, true, true, true, false] rfl rfl (any_of HT_.out (by kernel_rfl)) (fun _ _ _ h => h) (Or.inl ⟨by rfl, ?_⟩) ?_ ?_
            rotate_left
            · intro w'
              go_simp
              with_reducible rfl
            rotate_left
            · simp only [Act.put, List.setIfInBounds_toArray, List.set_cons_zero, List.set_cons_succ, i64_w, i32_w]
              rfl
            refine pure_ (i := 14) (N := some 6) (v := ?_) (a' := ?_) #[true, true, true, true, true, true, true, true, true, true, true, true, true, true, true] rfl rfl (any_of HT_.out (by kernel_rfl)) (fun _ _ _ h => h) (Or.inl ⟨by rfl, ?_⟩) ?_ ?_
            rotate_left
            · intro w'
              go_simp
              with_reducible rfl
            rotate_left
            · simp only [Act.put, List.setIfInBounds_toArray, List.set_cons_zero, List.set_cons_succ, i64_w, i32_w]
              rfl
            refine done_ (done_of HT_.out (by kernel_rfl)) ?_
            go_wp2
            go_ret3
            exact ⟨_, s.drop n, true, by rw [ED1.out]; rfl, by rw [List.length_drop]; show _ ≤ s.length + 1; omega, HB5.out, .inr ⟨_, OO.out, rfl, HV.out⟩⟩
          · replace hx : ∀ h : 0 < S.size, (((S[0]'h).toNat : Int) == 116) = false := fun h => by
              rw [HX.out h]
              have : (c.toNat : Int) ≠ 116 := fun h => c116 (by have h2 : c.toNat = 116 := by { omega }; rw [show c = UInt8.ofNat c.toNat by simp, h2]; rfl)
              simpa using this
            have hN : yrd 4 (d + 1) (c :: s) = none := by rw [yrd, if_neg HC.out, if_neg (fun h => c116 h.1)]
            have HNo := aM hN
            clear hN c116
            refine start_ (n := 15) (S := fun w' => True) (ds := []) #[false, false, false, false, false, false, false, false, false, false, false, false, false, false, false] (by kernel_rfl) rfl rfl trivial (fun hHeld => ?_); refine with_tabW impl_typeRead.tab15 impl_typeRead.bits15 (fun HT_ HW_ => ?_)
            have HB6 := aM (below_drew1 HB4.out)
            clear HB4
            generalize w4.drew = w6 at HB6 hHeld ⊢
            refine pure_ (i := 0) (N := some 99) (v := ?_) (a' := ?_) #[true, false, false, false, false, false, false, false, false, false, false, false, false, false, false] rfl rfl (any_of HT_.out (by kernel_rfl)) (fun _ _ _ h => h) (Or.inl ⟨by rfl, ?_⟩) ?_ ?_
            rotate_left
            · intro w'
              go_simp
              with_reducible rfl
            rotate_left
            · simp only [Act.put, List.setIfInBounds_toArray, List.set_cons_zero, List.set_cons_succ, i64_w, i32_w]
              rfl
            refine pure_ (i := 2) (N := some 101) (v := ?_) (a' := ?_) #[true, false, true, false, false, false, false, false, false, false, false, false, false, false, false] rfl rfl (any_of HT_.out (by kernel_rfl)) (fun _ _ _ h => h) (Or.inl ⟨by rfl, ?_⟩) ?_ ?_
            rotate_left
            · intro w'
              go_simp
              with_reducible rfl
            rotate_left
            · simp only [Act.put, List.setIfInBounds_toArray, List.set_cons_zero, List.set_cons_succ, i64_w, i32_w]
              rfl
            refine pure_ (i := 3) (N := some 102) (v := ?_) (a' := ?_) #[true, false, true, true, false, false, false, false, false, false, false, false, false, false, false] rfl rfl (any_of HT_.out (by kernel_rfl)) (fun _ _ _ h => h) (Or.inl ⟨by rfl, ?_⟩) ?_ ?_
            rotate_left
            · intro w'
              go_simp
              with_reducible rfl
            rotate_left
            · simp only [Act.put, List.setIfInBounds_toArray, List.set_cons_zero, List.set_cons_succ, i64_w, i32_w]
              rfl
            refine pure_ (i := 4) (N := some 103) (v := ?_) (a' := ?_) #[true, false, true, true, true, false, false, false, false, false, false, false, false, false, false] rfl rfl (any_of HT_.out (by kernel_rfl)) (fun _ _ _ h => h) (Or.inl ⟨by rfl, ?_⟩) ?_ ?_
            rotate_left
            · intro w'
              go_simp
              with_reducible rfl
            rotate_left
            · simp only [Act.put, List.setIfInBounds_toArray, List.set_cons_zero, List.set_cons_succ, i64_w, i32_w]
              rfl
            refine pure_ (i := 5) (N := some 104) (v := ?_) (a' := ?_) #[true, false, true, true, true, true, false, false, false, false, false, false, false, false, false] rfl rfl (any_of HT_.out (by kernel_rfl)) (fun _ _ _ h => h) (Or.inl ⟨by rfl, ?_⟩) ?_ ?_
            rotate_left
            · intro w'
              go_simp
              with_reducible rfl
            rotate_left
            · simp only [Act.put, List.setIfInBounds_toArray, List.set_cons_zero, List.set_cons_succ, i64_w, i32_w]
              rfl
            refine pure_ (i := 6) (N := some 105) (v := ?_) (a' := ?_) #[true, false, true, true, true, true, true, false, false, false, false, false, false, false, false] rfl rfl (any_of HT_.out (by kernel_rfl)) (fun _ _ _ h => h) (Or.inl ⟨by rfl, ?_⟩) ?_ ?_
            rotate_left
            · intro w'
              go_simp
              with_reducible rfl
            rotate_left
            · simp only [Act.put, List.setIfInBounds_toArray, List.set_cons_zero, List.set_cons_succ, i64_w, i32_w]
              rfl
            refine one_ (i := 1) (N := some 100) #[true, true, true, true, true, true, true, false, false, false, false, false, false, false, false] rfl rfl (one_of HT_.out (by kernel_rfl)) (by decide) (fun K hK => ?_)
            refine goes_ Tryd.func43 (by kernel_rfl) rfl #[.int .i64 v] (by rfl) rfl rfl (by (try simp only [List.map_toArray, List.map_cons, List.map_nil]); first | done | rfl) ?_
            refine (impl_typeVar.calls v w6).mono ?_
            rintro _ w5 ⟨xv, rfl, hv, hb⟩
            obtain ⟨gv, rfl⟩ := hv.ptr
            refine ⟨_, rfl, ?_⟩
            have HV := aM hv
            have HB5 := aM (below_step HB6.out hb)
            clear hb hv
            refine hK.out _ _ trivial (fun hHeld => ?_)
            clear hK K
            refine norm_ (a' := ?_) ?_ ?_
            rotate_left
            · show Act.put _ (some 100) _ = _
              simp only [Act.put, List.setIfInBounds_toArray, List.set_cons_zero, List.set_cons_succ, i64_w, i32_w]
              rfl
            refine pure_ (i := 7) (N := some 106) (v := ?_) (a' := ?_) #[true, true, true, true, true, true, true, true, false, false, false, false, false, false, false] rfl rfl (any_of HT_.out (by kernel_rfl)) (fun _ _ _ h => h) (Or.inl ⟨by rfl, ?_⟩) ?_ ?_
            rotate_left
            · intro w'
              go_simp
              with_reducible rfl
            rotate_left
            · simp only [Act.put, List.setIfInBounds_toArray, List.set_cons_zero, List.set_cons_succ, i64_w, i32_w]
              rfl
            refine pure_ (i := 8) (N := some 107) (v := ?_) (a' := ?_) #[true, true, true, true, true, true, true, true, true, false, false, false, false, false, false] rfl rfl (any_of HT_.out (by kernel_rfl)) (fun _ _ _ h => h) (Or.inl ⟨by rfl, ?_⟩) ?_ ?_
            rotate_left
            · intro w'
              go_simp
              with_reducible rfl
            rotate_left
            · simp only [Act.put, List.setIfInBounds_toArray, List.set_cons_zero, List.set_cons_succ, i64_w, i32_w]
              rfl
            refine pure_ (i := 9) (N := some 108) (v := ?_) (a' := ?_) #[true, true, true, true, true, true, true, true, true, true, false, false, false, false, false] rfl rfl (any_of HT_.out (by kernel_rfl)) (fun _ _ _ h => h) (Or.inl ⟨by rfl, ?_⟩) ?_ ?_
            rotate_left
            · intro w'
              go_simp
              with_reducible rfl
            rotate_left
            · simp only [Act.put, List.setIfInBounds_toArray, List.set_cons_zero, List.set_cons_succ, i64_w, i32_w]
              rfl
            refine pure_ (i := 10) (N := some 109) (v := ?_) (a' := ?_) #[true, true, true, true, true, true, true, true, true, true, true, false, false, false, false] rfl rfl (any_of HT_.out (by kernel_rfl)) (fun _ _ _ h => h) (Or.inl ⟨by rfl, ?_⟩) ?_ ?_
            rotate_left
            · intro w'
              go_simp
              with_reducible rfl
            rotate_left
            · simp only [Act.put, List.setIfInBounds_toArray, List.set_cons_zero, List.set_cons_succ, i64_w, i32_w]
              rfl
            refine pure_ (i := 11) (N := some 110) (v := ?_) (a' := ?_) #[true, true, true, true, true, true, true, true, true, true, true, true, false, false, false] rfl rfl (any_of HT_.out (by kernel_rfl)) (fun _ _ _ h => h) (Or.inl ⟨by rfl, ?_⟩) ?_ ?_
            rotate_left
            · intro w'
              go_simp
              with_reducible rfl
            rotate_left
            · simp only [Act.put, List.setIfInBounds_toArray, List.set_cons_zero, List.set_cons_succ, i64_w, i32_w]
              rfl
            refine pure_ (i := 12) (N := some 4) (v := ?_) (a' := ?_) #[true, true, true, true, true, true, true, true, true, true, true, true, true, false, false] rfl rfl (any_of HT_.out (by kernel_rfl)) (fun _ _ _ h => h) (Or.inl ⟨by rfl, ?_⟩) ?_ ?_
            rotate_left
            · intro w'
              go_simp
              with_reducible rfl
            rotate_left
            · simp only [Act.put, List.setIfInBounds_toArray, List.set_cons_zero, List.set_cons_succ, i64_w, i32_w]
              rfl
            refine pure_ (i := 13) (N := some 5) (v := ?_) (a' := ?_) #[true, true, true, true, true, true, true, true, true, true, true, true, true, true, false] rfl rfl (any_of HT_.out (by kernel_rfl)) (fun _ _ _ h => h) (Or.inl ⟨by rfl, ?_⟩) ?_ ?_
            rotate_left
            · intro w'
              go_simp
              with_reducible rfl
            rotate_left
            · simp only [Act.put, List.setIfInBounds_toArray, List.set_cons_zero, List.set_cons_succ, i64_w, i32_w]
              rfl
            refine pure_ (i := 14) (N := some 6) (v := ?_) (a' := ?_) #[true, true, true, true, true, true, true, true, true, true, true, true, true, true, true] rfl rfl (any_of HT_.out (by kernel_rfl)) (fun _ _ _ h => h) (Or.inl ⟨by rfl, ?_⟩) ?_ ?_
            rotate_left
            · intro w'
              go_simp
              with_reducible rfl
            rotate_left
            · simp only [Act.put, List.setIfInBounds_toArray, List.set_cons_zero, List.set_cons_succ, i64_w, i32_w]
              rfl
            refine done_ (done_of HT_.out (by kernel_rfl)) ?_
            go_wp2
            go_ret3
            exact ⟨_, s.drop n, false, by rw [ED1.out]; rfl, by rw [List.length_drop]; show _ ≤ s.length + 1; omega, HB5.out, .inl ⟨HNo.out, rfl⟩⟩
end Go.Proofs.YtlkjikknofmcdaaDoor.G

namespace Go.Proofs.YtlkjikknofmcdaaDoor.G
open Go.RowKit Go.Proofs.YtlkjikknofmcdaaDoorW.PrintWords Go.Proofs.YtlkjikknofmcdaaDoorW.PrintLast Go.Proofs.YtlkjikknofmcdaaDoorW.PrintMore Go.Proofs.YtlkjikknofmcdaaDoor.Short
set_option linter.unusedVariables false
set_option linter.unusedSimpArgs false

def Tells (g : Nat) (lb : Array Value) (p : Int → Bool) (w : World) : Prop :=
  ∀ (W : World) (x : Int), Below w.heap.size w W → Calls Tryd.prog g (#[.int .i64 x] ++ lb) W fun e w' => e = .returned (.bool (p x)) ∧ Below W.heap.size W w'

theorem any_take_succ (p : Int → Bool) (l : List Int) (i : Int) (h0 : 0 ≤ i) (h1 : i < l.length) (h : (l.take i.toNat).any p = false) (hx : p (rd l i) = false) : (l.take (i + 1).toNat).any p = false := by
  have hlt : i.toNat < l.length := by omega
  rw [show (i + 1).toNat = i.toNat + 1 by omega, List.take_succ_eq_append_getElem hlt, List.any_append, h]
  have e : rd l i = l[i.toNat] := by unfold rd; rw [List.getD_eq_getElem?_getD, List.getElem?_eq_getElem hlt]; rfl
  rw [← e]; simp [hx]
theorem any_at (p : Int → Bool) (l : List Int) (i : Int) (h0 : 0 ≤ i) (h1 : i < l.length) (hx : p (rd l i) = true) : l.any p = true := by
  have hlt : i.toNat < l.length := by omega
  have e : rd l i = l[i.toNat] := by unfold rd; rw [List.getD_eq_getElem?_getD, List.getElem?_eq_getElem hlt]; rfl
  rw [List.any_eq_true]
  exact ⟨l[i.toNat], List.getElem_mem hlt, by rw [← e]; exact hx⟩

set_option maxHeartbeats 1000000 in
set_option maxRecDepth 100000 in
theorem index_some (g : Nat) (lb : Array Value) (p : Int → Bool) (A0 : Option Addr) (c0 : Nat) (l0 : List Int) (w : World) (hr0 : Kd.C (Kd.int .i64) w A0 l0.length l0)
    (eg : ∀ (args : Array Value) (w : World), (callFunc g args).run Tryd.prog w = .ok (.enter g args) w) (hp : Tells g lb p w) :
    Calls Tryd.prog 48 #[.slice A0 l0.length c0, .func (.func g) #[] lb] w fun e w' => (∃ r : Int, e = .returned (.int .i64 r) ∧ decide (0 ≤ r) = l0.any p) ∧ Below w.heap.size w w' := by
  have HR0 := aM hr0
  have HL := aM hr0.2.1
  clear hr0
  have HP := aM hp
  clear hp
  have HB := aM (Below.refl w.heap.size w)
  go_enter Tryd.func48, Tryd.ntmps48
  go_wp2
  go_loopg [8] (l0.length + 1) (fun kq v8 w' => ∃ (i : Int), v8 = .int .i64 i ∧ Aside0 (0 ≤ i ∧ i ≤ l0.length ∧ (kq : Int) = l0.length - i + 1 ∧ (l0.take i.toNat).any p = false) ∧ Aside0 (Below w.heap.size w w'))
  case atStart => exact ⟨0, rfl, ⟨by omega, by omega, by omega, by simp⟩, HB⟩
  case round =>
    clear HB
    obtain ⟨i, rfl, HA, HB1⟩ := hrel
    by_cases c : i < (l0.length : Int)
    · have cb : decide (i < (l0.length : Int)) = true := decide_eq_true c
      have cz : decide (0 ≤ i) = true := decide_eq_true HA.out.1
      obtain ⟨ad, e1, hx0⟩ := Kd.at_int (Kd.C_below HR0.out HB1.out) i HA.out.1 c
      cases e1
      have p1 := eq_true HA.out.1
      have q1 := eq_true c
      have w1 : wrap64 (i + 1) = i + 1 := by have := HA.out.1; have := HA.out.2.1; have := HL.out; unfold wrap64; omega
      have W1 := aM w1
      have Cc := aM c
      clear c w1
      go_wp2_with fail
      refine (HP.out _ (rd l0 i) HB1.out).mono ?_
      rintro e w' ⟨rfl, hb⟩
      have HB2 := aM (below_step HB1.out hb)
      clear hb
      by_cases hpx : p (rd l0 i) = true
      · have HX := aM hpx
        go_wp2
        go_ret
        exact ⟨⟨i, rfl, by rw [any_at p l0 i HA.out.1 Cc.out HX.out]; exact decide_eq_true HA.out.1⟩, HB2.out⟩
      · replace hpx := Bool.eq_false_iff.mpr hpx
        have HX := aM hpx
        obtain ⟨k1, rfl⟩ : ∃ m, gk = m + 1 := ⟨gk - 1, by have := HA.out; omega⟩
        go_wp2
        go_roundg k1
        case measure => omega
        case rel => exact ⟨i + 1, by first | rfl | rw [W1.out], ⟨by have := HA.out; omega, by have := HA.out; have := Cc.out; omega, by have := HA.out; omega, any_take_succ p l0 i HA.out.1 Cc.out HA.out.2.2.2 HX.out⟩, HB2⟩
    · have cb : decide (i < (l0.length : Int)) = false := decide_eq_false c
      have Cc := aM c
      clear c
      go_wp2
      go_ret
      refine ⟨⟨-1, rfl, ?_⟩, HB1.out⟩
      have h := HA.out.2.2.2
      rw [List.take_of_length_le (by have := HA.out; have := Cc.out; omega)] at h
      rw [h]; rfl

set_option maxHeartbeats 1000000 in
set_option maxRecDepth 100000 in
theorem contains_some (g : Nat) (lb : Array Value) (p : Int → Bool) (A0 : Option Addr) (c0 : Nat) (l0 : List Int) (w : World) (hr0 : Kd.C (Kd.int .i64) w A0 l0.length l0)
    (eg : ∀ (args : Array Value) (w : World), (callFunc g args).run Tryd.prog w = .ok (.enter g args) w) (hp : Tells g lb p w) :
    Calls Tryd.prog 34 #[.slice A0 l0.length c0, .func (.func g) #[] lb] w fun e w' => e = .returned (.bool (l0.any p)) ∧ Below w.heap.size w w' := by
  go_enter Tryd.func34, Tryd.ntmps34
  go_wp2_with fail
  refine (index_some g lb p A0 c0 l0 _ hr0 eg hp).mono ?_
  rintro e w' ⟨⟨r, rfl, hr⟩, hb⟩
  have HR := aM hr
  clear hr
  go_wp2
  go_ret
  exact ⟨by rw [← HR.out]; rfl, hb⟩

def noVar (n : Int) : Bool := decide (n < 0) || decide (999 < n)
theorem lit_some (x : Int) (W : World) : Calls Tryd.prog 35 #[.int .i64 x] W fun e w' => e = .returned (.bool (noVar x)) ∧ Below W.heap.size W w' := by
  by_cases c : x < 0
  · have z : decide (x < 0) = true := decide_eq_true c
    go_enter Tryd.func35, Tryd.ntmps35
    go_wp2
    go_ret
    exact ⟨by simp [noVar, z], Below.refl _ _⟩
  · have z : decide (x < 0) = false := decide_eq_false c
    go_enter Tryd.func35, Tryd.ntmps35
    go_wp2
    go_ret
    exact ⟨by simp [noVar, z], Below.refl _ _⟩
def Ty.good (t : Ty) : Bool := (decide ((t.meas 200).1 ≤ 200) && decide ((t.meas 200).2 ≤ 60)) && !(t.vars.any noVar)
set_option maxHeartbeats 4000000 in
set_option maxRecDepth 100000 in
theorem impl_typ_isGood.calls (t : Ty) (x : Value) (w : World) (h : IsT w t x) (hn : t.nodes ≤ 1099511627776) : Calls Tryd.prog 15 #[x] w fun e w' => e = .returned (.bool t.good) ∧ Below w.heap.size w w' := by
  have eg := enters_ Tryd.func35 (by kernel_rfl) rfl
  have HX := aM h
  have HN := aM hn
  obtain ⟨g, rfl⟩ := h.ptr
  obtain ⟨q1, q2, hq⟩ : ∃ a b, t.meas 200 = (a, b) := ⟨_, _, rfl⟩
  have MQ := aM hq
  have hG : t.good = ((decide (q1 ≤ 200) && decide (q2 ≤ 60)) && !(t.vars.any noVar)) := by unfold Ty.good; rw [hq]
  rw [hG]
  clear h hn hq hG
  by_cases c1 : q1 ≤ 200
  · have z1 : decide (q1 ≤ 200) = true := decide_eq_true c1
    by_cases c2 : q2 ≤ 60
    · have z2 : decide (q2 ≤ 60) = true := decide_eq_true c2
      go_enter Tryd.func15, Tryd.ntmps15
      go_wp2_with (first
        | ((with_reducible refine gate_callee (f := 33) rfl ?_); refine goesL_ (some 7) rfl rfl Tryd.func33 (by kernel_rfl) rfl #[.pointer (some ⟨g, 0, none⟩), .int .i64 200] rfl tA ?_; (with_reducible refine (impl_typ_measure.calls t _ 200 _ ?s1 ?s2 ?s3).mono ?_); (case s1 => exact HX.out); (case s2 => have := HN.out; omega); (case s3 => omega); rintro _ w1 ⟨rfl, hb⟩; rw [MQ.out]; refine ⟨_, rfl, ?_⟩; have HB := aM hb; clear hb)
        | (go_at_call 24; (with_reducible refine (impl_typ_vars.calls t _ _ ?s1 ?s2).mono ?_); (case s1 => exact HX.out.below HB.out); (case s2 => exact HN.out); rintro _ w2 ⟨v2, rfl, hR, hb⟩; obtain ⟨Av, cv, rfl⟩ := Kd.R_slice hR; have HO := aM hR; have HB2 := aM (below_step HB.out hb); clear hb hR)
        | (go_at_call 34; (with_reducible refine (contains_some 35 #[] noVar Av cv t.vars _ ?s1 eg ?s2).mono ?_); (case s1 => exact (Kd.R_reads' HO.out).2.2); (case s2 => exact fun W y _ => lit_some y W); rintro _ w3 ⟨rfl, hb⟩; have HB3 := aM (below_step HB2.out hb); clear hb))
      go_ret
      exact ⟨by simp [z1, z2], HB3.out⟩
    · have z2 : decide (q2 ≤ 60) = false := decide_eq_false c2
      go_enter Tryd.func15, Tryd.ntmps15
      go_wp2_with (first
        | ((with_reducible refine gate_callee (f := 33) rfl ?_); refine goesL_ (some 7) rfl rfl Tryd.func33 (by kernel_rfl) rfl #[.pointer (some ⟨g, 0, none⟩), .int .i64 200] rfl tA ?_; (with_reducible refine (impl_typ_measure.calls t _ 200 _ ?s1 ?s2 ?s3).mono ?_); (case s1 => exact HX.out); (case s2 => have := HN.out; omega); (case s3 => omega); rintro _ w1 ⟨rfl, hb⟩; rw [MQ.out]; refine ⟨_, rfl, ?_⟩; have HB := aM hb; clear hb))
      go_ret
      exact ⟨by simp [z1, z2], HB.out⟩
  · have z1 : decide (q1 ≤ 200) = false := decide_eq_false c1
    go_enter Tryd.func15, Tryd.ntmps15
    go_wp2_with (first
      | ((with_reducible refine gate_callee (f := 33) rfl ?_); refine goesL_ (some 7) rfl rfl Tryd.func33 (by kernel_rfl) rfl #[.pointer (some ⟨g, 0, none⟩), .int .i64 200] rfl tA ?_; (with_reducible refine (impl_typ_measure.calls t _ 200 _ ?s1 ?s2 ?s3).mono ?_); (case s1 => exact HX.out); (case s2 => have := HN.out; omega); (case s3 => omega); rintro _ w1 ⟨rfl, hb⟩; rw [MQ.out]; refine ⟨_, rfl, ?_⟩; have HB := aM hb; clear hb))
    go_ret
    exact ⟨by simp [z1], HB.out⟩
end Go.Proofs.YtlkjikknofmcdaaDoor.G

namespace Go.Proofs.YtlkjikknofmcdaaDoor.G
open Go.RowKit Go.Proofs.YtlkjikknofmcdaaDoorW.PrintWords Go.Proofs.YtlkjikknofmcdaaDoorW.PrintLast Go.Proofs.YtlkjikknofmcdaaDoorW.PrintMore Go.Proofs.YtlkjikknofmcdaaDoor.EvL Go.Proofs.YtlkjikknofmcdaaDoor.TxtL Go.Proofs.YtlkjikknofmcdaaDoor.ReadM Go.Proofs.YtlkjikknofmcdaaDoor.Short
set_option linter.unusedVariables false
set_option linter.unusedSimpArgs false

theorem tyl_len : ∀ t : Ty, t.ok → (tyl t).length ≤ 20 * t.nodes
  | .v n, h => by
    have h1 : 0 ≤ n ∧ n ≤ 9223372036854775807 := h
    have := dec_len 19 n.toNat (by omega) (by have : (10 : Nat) ^ 19 = 10000000000000000000 := by { decide }; omega)
    show (116 :: Lib.decDigits n.toNat).length ≤ 20 * 1
    rw [List.length_cons]; omega
  | .a l r, h => by
    have h1 := tyl_len l h.1
    have h2 := tyl_len r h.2
    show (40 :: (tyl l ++ 62 :: (tyl r ++ [41]))).length ≤ 20 * (1 + l.nodes + r.nodes)
    simp only [List.length_cons, List.length_append, List.length_nil]
    omega
def tyOf (l : List UInt8) : Option Ty := (yrd 4 60 l).bind fun p => if p.2 = [] then (if p.1.good = true then (if tyl p.1 = l then some p.1 else none) else none) else none
def OfAs (l : List UInt8) (W : World) (x : Option Addr) (ok : Bool) : Prop := (tyOf l = none ∧ ok = false) ∨ (∃ t, tyOf l = some t ∧ ok = true ∧ IsT W t (.pointer x))
theorem OfAs.below {l : List UInt8} {W W1 : World} {x : Option Addr} {ok : Bool} (h : OfAs l W x ok) (hb : Below W.heap.size W W1) : OfAs l W1 x ok := by
  rcases h with h | ⟨t, h1, h2, h3⟩
  · exact .inl h
  · exact .inr ⟨t, h1, h2, h3.below hb⟩
set_option maxHeartbeats 8000000 in
set_option maxRecDepth 100000 in
theorem impl_typeOf.calls (l : List UInt8) (w : World) (hl : l.length ≤ 1099511627776) (hE : Met w) : Calls Tryd.prog 13 #[.string (B l)] w fun e w' => ∃ (x : Option Addr) (ok : Bool), e = .returned (.tuple #[.pointer x, .bool ok]) ∧ Below w.heap.size w w' ∧ OfAs l w' x ok := by
  obtain ⟨S, hS⟩ : ∃ S, S = B l := ⟨_, rfl⟩
  rw [← hS]
  have HS := aM hS
  have HL := aM hl
  have HE := aM hE
  clear hS hl hE
  go_enter Tryd.func13, Tryd.ntmps13
  go_upto_region 2 with (first
    | ((with_reducible refine gate_callee (f := 30) rfl ?_); refine goesL_ (some 9) rfl rfl Tryd.func30 (by kernel_rfl) rfl #[.string S, .int .i64 1] rfl tA ?_; rw [HS.out]; refine (impl_typeRead.calls 60 l w (by omega) HL.out HE.out).mono ?_; rintro _ w1 ⟨x1, r1, ok1, rfl, hlen1, hb, hr1⟩; rw [← HS.out]; refine ⟨_, rfl, ?_⟩; have R1 := aM hr1; have HB := aM hb; clear hr1 hlen1 hb))
  cases ok1 with
  | false =>
    have hN : tyOf l = none := by
      rcases R1.out with ⟨h, _⟩ | ⟨t, _, h, _⟩
      · unfold tyOf; rw [h]; rfl
      · cases h
    have HN := aM hN
    clear hN
    go_wp2
    go_ret2
    exact ⟨none, false, rfl, HB.out, .inl ⟨HN.out, rfl⟩⟩
  | true =>
    have h1 : ∃ t1, yrd 4 60 l = some (t1, r1) ∧ IsT w1 t1 (.pointer x1) := by
      rcases R1.out with ⟨_, h⟩ | ⟨t, h, _, h2⟩
      · cases h
      · exact ⟨t, h, h2⟩
    obtain ⟨t, y1, i1⟩ := h1
    have Y1 := aM y1
    have I1 := aM i1
    have hsd := (yrd_sound 4 60 l t r1 y1).resolve_right (by omega)
    have NN : Aside0 (t.nodes ≤ 1099511627776) := ⟨by have := HL.out; omega⟩
    have OK := aM hsd.2
    have TS : Aside0 (t.text.size ≤ 4611686018427387904) := ⟨by rw [text_B, B_size]; have := tyl_len t hsd.2; have := NN.out; omega⟩
    obtain ⟨g1, hg1⟩ := i1.ptr
    injection hg1 with hg1
    subst hg1
    clear y1 i1 hsd R1
    cases r1 with
    | cons c0 r0 =>
      have z0 : (B (c0 :: r0)).toList.isEmpty = false := by rw [toList_B]; rfl
      have hN : tyOf l = none := by unfold tyOf; rw [Y1.out]; rfl
      have HN := aM hN
      clear hN
      go_wp2
      go_ret2
      exact ⟨none, false, rfl, HB.out, .inl ⟨HN.out, rfl⟩⟩
    | nil =>
      have z0 : (B []).toList.isEmpty = true := by rw [toList_B]; rfl
      cases hg : t.good with
      | false =>
        have HG := aM hg
        have hN : tyOf l = none := by
          unfold tyOf; rw [Y1.out, Option.bind_some, if_pos rfl, if_neg (by rw [hg]; decide)]
        have HN := aM hN
        clear hN hg
        go_wp2_with (first
          | (go_at_call 15; (with_reducible refine (impl_typ_isGood.calls t _ _ ?s1 ?s2).mono ?_); (case s1 => exact I1.out); (case s2 => exact NN.out); rintro _ w2 ⟨rfl, hb⟩; rw [HG.out]; have HB2 := aM (below_step HB.out hb); have I2 := aM (I1.out.below hb); clear hb))
        go_ret2
        exact ⟨none, false, rfl, HB2.out, .inl ⟨HN.out, rfl⟩⟩
      | true =>
        have HG := aM hg
        by_cases ht : tyl t = l
        · have hO : tyOf l = some t := by
            unfold tyOf; rw [Y1.out, Option.bind_some, if_pos rfl, if_pos hg, if_pos ht]
          have OO := aM hO
          have TT : Aside0 (t.text = S) := ⟨by rw [text_B, ht, HS.out]⟩
          clear hO hg ht
          go_wp2_with (first
            | (go_at_call 15; (with_reducible refine (impl_typ_isGood.calls t _ _ ?s1 ?s2).mono ?_); (case s1 => exact I1.out); (case s2 => exact NN.out); rintro _ w2 ⟨rfl, hb⟩; rw [HG.out]; have HB2 := aM (below_step HB.out hb); have I2 := aM (I1.out.below hb); clear hb)
            | (go_at_call 16; (with_reducible refine (impl_typ_text.calls t _ _ ?s1 ?s2 ?s3 ?s4).mono ?_); (case s1 => exact I2.out); (case s2 => exact OK.out); (case s3 => exact TS.out); (case s4 => exact (HE.out.below HB2.out).tab); rintro _ w3 ⟨rfl, hb⟩; rw [TT.out]; have HB3 := aM (below_step HB2.out hb); have I3 := aM (I2.out.below hb); clear hb))
          go_ret2
          exact ⟨_, true, rfl, HB3.out, .inr ⟨t, OO.out, rfl, I3.out⟩⟩
        · have hN : tyOf l = none := by
            unfold tyOf; rw [Y1.out, Option.bind_some, if_pos rfl, if_pos hg, if_neg ht]
          have HN := aM hN
          obtain ⟨T, hT⟩ : ∃ T, T = t.text := ⟨_, rfl⟩
          have TT : Aside0 (t.text = T) := ⟨hT.symm⟩
          have hne : T ≠ S := fun h => ht (B_inj (by rw [← text_B, ← hT, h, HS.out]))
          have hne2 : ¬ T.toList = S.toList := fun h => hne ((toList_iff T S).mp h)
          have hq : (T.toList == S.toList) = false := by simpa using hne2
          clear hN hg ht hT
          go_wp2_with (first
            | (go_at_call 15; (with_reducible refine (impl_typ_isGood.calls t _ _ ?s1 ?s2).mono ?_); (case s1 => exact I1.out); (case s2 => exact NN.out); rintro _ w2 ⟨rfl, hb⟩; rw [HG.out]; have HB2 := aM (below_step HB.out hb); have I2 := aM (I1.out.below hb); clear hb)
            | (go_at_call 16; (with_reducible refine (impl_typ_text.calls t _ _ ?s1 ?s2 ?s3 ?s4).mono ?_); (case s1 => exact I2.out); (case s2 => exact OK.out); (case s3 => exact TS.out); (case s4 => exact (HE.out.below HB2.out).tab); rintro _ w3 ⟨rfl, hb⟩; rw [TT.out]; have HB3 := aM (below_step HB2.out hb); have I3 := aM (I2.out.below hb); clear hb))
          go_ret2
          exact ⟨none, false, rfl, HB3.out, .inl ⟨HN.out, rfl⟩⟩

theorem tyOf_some {l : List UInt8} {t : Ty} (h : tyOf l = some t) : t.ok ∧ t.nodes ≤ l.length ∧ t.good = true ∧ tyl t = l := by
  unfold tyOf at h
  obtain ⟨⟨a, r⟩, h1, h2⟩ := Option.bind_eq_some_iff.mp h
  dsimp only at h2
  split at h2
  · split at h2
    · split at h2
      · injection h2 with h2
        subst h2
        have hs := (yrd_sound 4 60 l a r h1).resolve_right (by omega)
        exact ⟨hs.2, by omega, by assumption, by assumption⟩
      · cases h2
    · cases h2
  · cases h2
theorem typeOfS (s : ByteArray) (w : World) (hl : s.size ≤ 1099511627776) (hE : Met w) : Calls Tryd.prog 13 #[.string s] w fun e w' => ∃ (x : Option Addr) (ok : Bool), e = .returned (.tuple #[.pointer x, .bool ok]) ∧ Below w.heap.size w w' ∧ OfAs s.data.toList w' x ok :=
  impl_typeOf.calls s.data.toList w (by rw [len]; exact hl) hE
theorem below_map {w w2 w3 : World} (h : Below w.heap.size w w2) (hg : (w2.alloc (.map #[] 0)).grownBy w3 (some w2.heap.size)) : Below w.heap.size w w3 :=
  (below_alloc h _).grown hg (by have := h.size; simp; omega) (fun k hk => by cases hk; exact h.size)
def noB : Int → Option Ty := fun _ => none
def instF (g s : List UInt8) : Bool × Bool := match tyOf g, tyOf s with
  | some x, some y => ((x.fits y noB).1, true)
  | _, _ => (false, false)
theorem instF_none1 {g s : List UInt8} (h : tyOf g = none) : instF g s = (false, false) := by unfold instF; rw [h]
theorem instF_none2 {g s : List UInt8} (h : tyOf s = none) : instF g s = (false, false) := by unfold instF; rw [h]; cases tyOf g <;> rfl
theorem instF_some {g s : List UInt8} {x y : Ty} (h : tyOf g = some x) (k : tyOf s = some y) : instF g s = ((x.fits y noB).1, true) := by unfold instF; rw [h, k]
def impl_InstanceOf.f (_ : Nat) (a0 : ByteArray) (a1 : ByteArray) : Option (Bool × Bool) := if a0.size ≤ 1099511627776 ∧ a1.size ≤ 1099511627776 then some (instF a0.data.toList a1.data.toList) else none
set_option maxHeartbeats 8000000 in
set_option maxRecDepth 100000 in
theorem impl_InstanceOf.calls (k : Nat) (a0 : ByteArray) (a1 : ByteArray) (r1 : Bool) (r2 : Bool) (w : World) (h : impl_InstanceOf.f k a0 a1 = some (r1, r2)) (hE : Met w) :
    Calls Tryd.prog 7 #[.string a0, .string a1] w fun e w' => e = .returned (.tuple #[.bool r1, .bool r2]) ∧ Below w.heap.size w w' := by
  have hmm := @run_makeMap Tryd.prog
  unfold impl_InstanceOf.f at h
  by_cases hs : a0.size ≤ 1099511627776 ∧ a1.size ≤ 1099511627776
  case neg => rw [if_neg hs] at h; cases h
  rw [if_pos hs] at h
  injection h with h
  have HR := aM h
  have HS := aM hs
  have HE := aM hE
  clear h hs hE
  go_enter Tryd.func7, Tryd.ntmps7
  go_upto_region 3 with (first
    | ((with_reducible refine gate_callee (f := 13) rfl ?_); refine goesL_ (some 12) rfl rfl Tryd.func13 (by kernel_rfl) rfl #[.string a0] rfl tA ?_; refine (typeOfS a0 w HS.out.1 HE.out).mono ?_; rintro _ w1 ⟨x1, ok1, rfl, hb, ho⟩; refine ⟨_, rfl, ?_⟩; have O1 := aM ho; have HB := aM hb; clear ho hb)
    | ((with_reducible refine gate_callee (f := 13) rfl ?_); refine goesL_ (some 17) rfl rfl Tryd.func13 (by kernel_rfl) rfl #[.string a1] rfl tA ?_; refine (typeOfS a1 w1 HS.out.2 (HE.out.below HB.out)).mono ?_; rintro _ w2 ⟨x2, ok2, rfl, hb, ho⟩; refine ⟨_, rfl, ?_⟩; have O2 := aM ho; have P1 := aM (O1.out.below hb); have HB2 := aM (below_step HB.out hb); clear ho hb))
  cases ok1 with
  | false =>
    have e1 : tyOf a0.data.toList = none := by
      rcases O1.out with ⟨h, _⟩ | ⟨_, _, h, _⟩
      · exact h
      · cases h
    have E := aM ((instF_none1 (s := a1.data.toList) e1).symm.trans HR.out)
    clear e1 HR
    go_wp2
    go_ret2
    cases E.out
    exact ⟨rfl, HB2.out⟩
  | true =>
    cases ok2 with
    | false =>
      have e1 : tyOf a1.data.toList = none := by
        rcases O2.out with ⟨h, _⟩ | ⟨_, _, h, _⟩
        · exact h
        · cases h
      have E := aM ((instF_none2 (g := a0.data.toList) e1).symm.trans HR.out)
      clear e1 HR
      go_wp2
      go_ret2
      cases E.out
      exact ⟨rfl, HB2.out⟩
    | true =>
      obtain ⟨t1, e1, i1⟩ : ∃ t, tyOf a0.data.toList = some t ∧ IsT w2 t (.pointer x1) := by
        rcases P1.out with ⟨_, h⟩ | ⟨t, h, _, hi⟩
        · cases h
        · exact ⟨t, h, hi⟩
      obtain ⟨t2, e2, i2⟩ : ∃ t, tyOf a1.data.toList = some t ∧ IsT w2 t (.pointer x2) := by
        rcases O2.out with ⟨_, h⟩ | ⟨t, h, _, hi⟩
        · cases h
        · exact ⟨t, h, hi⟩
      have E := aM ((instF_some e1 e2).symm.trans HR.out)
      have OK := aM (tyOf_some e1)
      have I1 := aM i1
      have I2 := aM i2
      have LN : Aside0 (a0.data.toList.length ≤ 1099511627776) := ⟨by rw [len]; exact HS.out.1⟩
      obtain ⟨g1, hg1⟩ := i1.ptr
      injection hg1 with hg1
      subst hg1
      obtain ⟨g2, hg2⟩ := i2.ptr
      injection hg2 with hg2
      subst hg2
      clear e1 e2 i1 i2 HR O1 O2 P1
      go_wp2_with (first
        | (go_at_call 22; (with_reducible refine (impl_typ_fits.calls t1 t2 _ _ w2.heap.size 0 noB _ ?s1 ?s2 ?s3 ?s4 ?s5).mono ?_); (case s1 => exact I1.out.below (below_alloc (Below.refl _ _) _)); (case s2 => exact I2.out.below (below_alloc (Below.refl _ _) _)); (case s3 => exact OK.out.1); (case s4 => exact IsM.made w2); (case s5 => have := OK.out.2.1; have := LN.out; omega); rintro _ w3 ⟨rfl, _, hg⟩; have HB3 := aM (below_map HB2.out hg); clear hg))
      go_ret2
      exact ⟨congrArg (fun z : Bool × Bool => Ending.returned (.tuple #[.bool z.1, .bool z.2])) E.out, HB3.out⟩

def varsF (l : List UInt8) : List Int × Bool := match tyOf l with
  | some t => (t.vars, true)
  | none => ([], false)
theorem varsF_none {l : List UInt8} (h : tyOf l = none) : varsF l = ([], false) := by unfold varsF; rw [h]
theorem varsF_some {l : List UInt8} {t : Ty} (h : tyOf l = some t) : varsF l = (t.vars, true) := by unfold varsF; rw [h]
def impl_VarsOf.f (_ : Nat) (a0 : ByteArray) : Option (List Int × Bool) := if a0.size ≤ 1099511627776 then some (varsF a0.data.toList) else none
set_option maxHeartbeats 8000000 in
set_option maxRecDepth 100000 in
theorem impl_VarsOf.calls (k : Nat) (a0 : ByteArray) (r1 : List Int) (r2 : Bool) (w : World) (h : impl_VarsOf.f k a0 = some (r1, r2)) (hE : Met w) :
    Calls Tryd.prog 10 #[.string a0] w fun e w' => ∃ v0_ : Value, e = .returned (.tuple #[v0_, .bool r2]) ∧ Kd.R (Kd.int .i64) 3 w' w.heap.size (fun _ => True) v0_ r1 ∧ Below w.heap.size w w' := by
  unfold impl_VarsOf.f at h
  by_cases hs : a0.size ≤ 1099511627776
  case neg => rw [if_neg hs] at h; cases h
  rw [if_pos hs] at h
  injection h with h
  have HR := aM h
  have HS := aM hs
  have HE := aM hE
  clear h hs hE
  go_enter Tryd.func10, Tryd.ntmps10
  go_upto_region 2 with (first
    | ((with_reducible refine gate_callee (f := 13) rfl ?_); refine goesL_ (some 8) rfl rfl Tryd.func13 (by kernel_rfl) rfl #[.string a0] rfl tA ?_; refine (typeOfS a0 w HS.out HE.out).mono ?_; rintro _ w1 ⟨x1, ok1, rfl, hb, ho⟩; refine ⟨_, rfl, ?_⟩; have O1 := aM ho; have HB := aM hb; clear ho hb))
  cases ok1 with
  | false =>
    have e1 : tyOf a0.data.toList = none := by
      rcases O1.out with ⟨h, _⟩ | ⟨_, _, h, _⟩
      · exact h
      · cases h
    have E := aM ((varsF_none e1).symm.trans HR.out)
    clear e1 HR
    go_wp2
    go_ret2
    cases E.out
    exact ⟨_, rfl, Kd.R_nil _ _ _ _ _, HB.out⟩
  | true =>
    obtain ⟨t1, e1, i1⟩ : ∃ t, tyOf a0.data.toList = some t ∧ IsT w1 t (.pointer x1) := by
      rcases O1.out with ⟨_, h⟩ | ⟨t, h, _, hi⟩
      · cases h
      · exact ⟨t, h, hi⟩
    have E := aM ((varsF_some e1).symm.trans HR.out)
    have OK := aM (tyOf_some e1)
    have I1 := aM i1
    have LN : Aside0 (t1.nodes ≤ 1099511627776) := ⟨by have := OK.out.2.1; rw [len] at this; have := HS.out; omega⟩
    obtain ⟨g1, hg1⟩ := i1.ptr
    injection hg1 with hg1
    subst hg1
    clear e1 i1 HR O1
    go_wp2_with (first
      | (go_at_call 24; (with_reducible refine (impl_typ_vars.calls t1 _ _ ?s1 ?s2).mono ?_); (case s1 => exact I1.out); (case s2 => exact LN.out); rintro _ w2 ⟨v2, rfl, hR, hb⟩; obtain ⟨Av, cv, rfl⟩ := Kd.R_slice hR; have RO := aM (Kd.R_lower hR (below_size HB.out)); have HB2 := aM (below_step HB.out hb); clear hb hR))
    go_ret2
    cases E.out
    exact ⟨_, rfl, RO.out, HB2.out⟩
end Go.Proofs.YtlkjikknofmcdaaDoor.G

namespace Go.Proofs.YtlkjikknofmcdaaDoor.G
open Go.RowKit Go.Proofs.YtlkjikknofmcdaaDoorW.PrintWords Go.Proofs.YtlkjikknofmcdaaDoorW.PrintLast Go.Proofs.YtlkjikknofmcdaaDoorW.PrintMore Go.Proofs.YtlkjikknofmcdaaDoor.Short
attribute [local go_sem] max2_int min2_int max_two min_two max_three min_three max_four min_four   -- for this text's walks alone
set_option linter.unusedVariables false
set_option linter.unusedSimpArgs false

def spec_l1Num.f : Nat → Int → Option (ByteArray)
  | 0, _ => none
  | k + 1, a0 => if a0 < 0 then (if a0 = (-9223372036854775808) then (some (⟨#[45, 57, 50, 50, 51, 51, 55, 50, 48, 51, 54, 56, 53, 52, 55, 55, 53, 56, 48, 56]⟩ : ByteArray)) else ((spec_l1Num.f k (wrap64 (-a0))).bind fun t101 => (if 1 + t101.size ≤ 9223372036854775807 then (some ((⟨#[45]⟩ : ByteArray) ++ t101)) else (none)))) else (if a0 < 10 then (some (strOfNums (([(wrap64 (48 + a0)) % 256] : List Int)))) else ((spec_l1Num.f k (wrap64 (Int.tdiv a0 10))).bind fun t105 => ((some (([(wrap64 (48 + (Int.tmod a0 10))) % 256] : List Int) : List Int)).bind fun y106 => (if t105.size + (strOfNums y106).size ≤ 9223372036854775807 then (some (t105 ++ (strOfNums y106))) else (none)))))
def spec_l1Num.T7 : Bool × List (List Nat × List Nat) := (true, [([], []), ([0], [0]), ([1], [1]), ([], []), ([3], [3]), ([4], [4]), ([5], [5]), ([6], [6]), ([7], [7]), ([2, 8], [2, 8]), ([9, 2, 0, 1, 2, 3, 4, 5, 6, 7, 8, 9], [9])])
def spec_l1Num.B7 : List Nat := [0, 1, 3, 0, 8, 24, 56, 120, 248, 511, 1023]
theorem spec_l1Num.tab7 : rtab .any (opsOf Tryd.f41 7) = spec_l1Num.T7 := by kernel_rfl
theorem spec_l1Num.bits7 : waitsOk spec_l1Num.T7.2 spec_l1Num.B7 = true := by kernel_rfl
set_option maxHeartbeats 8000000 in
set_option maxRecDepth 100000 in
theorem spec_l1Num.calls (k : Nat) : ∀ (a0 : Int) (r : ByteArray) (w : World) (h : spec_l1Num.f k a0 = some r),
    Calls Tryd.prog 41 #[.int .i64 a0] w fun e w' => e = .returned (.string r) ∧ Below w.heap.size w w' := by
  induction k using Nat.strongRecOn with
  | _ k ih =>
  intro a0 r w h
  cases k with
  | zero => exact absurd h (by simp [spec_l1Num.f])
  | succ k =>
  simp only [spec_l1Num.f] at h
  have HB := aM (Below.refl w.heap.size w)
  have H : (if a0 < 0 then (if a0 = (-9223372036854775808) then (some (⟨#[45, 57, 50, 50, 51, 51, 55, 50, 48, 51, 54, 56, 53, 52, 55, 55, 53, 56, 48, 56]⟩ : ByteArray)) else ((spec_l1Num.f k (wrap64 (-a0))).bind fun t101 => (if 1 + t101.size ≤ 9223372036854775807 then (some ((⟨#[45]⟩ : ByteArray) ++ t101)) else (none)))) else (if a0 < 10 then (some (strOfNums (([(wrap64 (48 + a0)) % 256] : List Int)))) else ((spec_l1Num.f k (wrap64 (Int.tdiv a0 10))).bind fun t105 => ((some (([(wrap64 (48 + (Int.tmod a0 10))) % 256] : List Int) : List Int)).bind fun y106 => (if t105.size + (strOfNums y106).size ≤ 9223372036854775807 then (some (t105 ++ (strOfNums y106))) else (none)))))) = some r := h
  clear h
  by_cases c2 : a0 < 0
  · rw [if_pos c2] at H
    have c2b0 : decide (a0 < 0) = true := decide_eq_true c2
    clear c2
    by_cases c3 : a0 = (-9223372036854775808)
    · rw [if_pos c3] at H
      have c3b0 : (a0 == (-9223372036854775808)) = true := beq_iff_eq.mpr c3
      have c3b1 : (a0 != (-9223372036854775808)) = false := bne_eq_false_iff_eq.mpr c3
      clear c3
      obtain rfl := Option.some.inj H
      go_enter Tryd.func41, Tryd.ntmps41
      go_wp2
      go_ret
      exact ⟨by first | rfl | (simp [errW_none, errW_some] <;> rfl) | (simp [*, errW_none, errW_some] <;> rfl), by repeat (first | (with_reducible first | exact HB.out | apply below_alloc | apply pw_below_drewN | apply below_drew1) | exact HB.out)⟩
    · rw [if_neg c3] at H
      have c3b0 : (a0 == (-9223372036854775808)) = false := beq_eq_false_iff_ne.mpr c3
      have c3b1 : (a0 != (-9223372036854775808)) = true := bne_iff_ne.mpr c3
      replace H := Option.bind_eq_some_iff.mp H
      obtain ⟨t101, A40, H⟩ := H
      replace H : (if 1 + t101.size ≤ 9223372036854775807 then (some ((⟨#[45]⟩ : ByteArray) ++ t101)) else (none)) = some r := H
      have A4 := aM A40
      clear A40
      by_cases c5 : 1 + t101.size ≤ 9223372036854775807
      · rw [if_pos c5] at H
        have c5b0 := eq_true c5
        have c5b1 : decide (1 + t101.size ≤ 9223372036854775807) = true := decide_eq_true c5
        try have c5b2 : (9223372036854775807 < 1 + t101.size) = False := eq_false (Nat.not_lt.2 c5)
        obtain rfl := Option.some.inj H
        go_enter Tryd.func41, Tryd.ntmps41
        go_wp2_with (first | ((with_reducible refine gate_callee (f := 41) rfl ?_); refine goesL_ (some 9) rfl rfl Tryd.func41 (by kernel_rfl) rfl #[.int .i64 (wrap64 (-a0))] rfl (by (try simp only [List.map_toArray, List.map_cons, List.map_nil]); first | done | rfl | (simp only [List.length_drop, List.length_take]; rfl)) ?_; (with_reducible refine (ih k (by omega) (wrap64 (-a0)) t101 _ A4.out).mono ?_); rintro e w6 ⟨rfl, hb⟩; refine ⟨_, rfl, ?_⟩; have n0_ := aM (below_step (by repeat (first | (with_reducible first | exact HB.out | apply below_alloc | apply pw_below_drewN | apply below_drew1) | exact HB.out)) hb); clear HB; have HB := n0_; clear n0_; (try clear hb); (try clear hb2); (try clear hk); (try clear hi)))
        go_ret
        exact ⟨by first | rfl | (simp [errW_none, errW_some] <;> rfl) | (simp [*, errW_none, errW_some] <;> rfl), by repeat (first | (with_reducible first | exact HB.out | apply below_alloc | apply pw_below_drewN | apply below_drew1) | exact HB.out)⟩
      · rw [if_neg c5] at H
        exact absurd H (by simp)
  · rw [if_neg c2] at H
    have c2b0 : decide (a0 < 0) = false := decide_eq_false c2
    clear c2
    by_cases c7 : a0 < 10
    · rw [if_pos c7] at H
      have c7b0 : decide (a0 < 10) = true := decide_eq_true c7
      clear c7
      obtain ⟨y102, hy102⟩ : ∃ y_ : List Int, y_ = (([(wrap64 (48 + a0)) % 256] : List Int)) := ⟨_, rfl⟩
      replace H : (some (strOfNums y102)) = some r := by first | (rw [hy102]; with_reducible exact H) | (have H2_ := (Option.bind_some _ _).symm.trans H; rw [hy102]; with_reducible exact H2_) | (have H2_ := (Option.bind_some _ _).symm.trans H; with_reducible exact H2_) | with_reducible exact H | (rw [hy102]; exact H) | exact H
      have Ny102 := aM hy102
      clear hy102
      obtain rfl := Option.some.inj H
      go_enter Tryd.func41, Tryd.ntmps41
      go_wp2_with (first | ((with_reducible refine gate_dst (N := 16) rfl ?_); refine Kd.R_lit (Kd.int .u8) _ 5 ?hg (N := 16) ?hd (xs := ([(wrap64 (48 + a0)) % 256] : List Int)) (inner := [.int .u8 ((wrap64 (48 + a0)) % 256)]) (ok := fun _ => True) (okp := fun _ => True) ?hr ?hp (fun _ hk => hk) trivial (Below.refl _ _) (Nat.le_refl _) (by simp) ?_; (case hd => rfl); (case hg => rfl); (case hr => first | (go_simp; done) | (go_simp; rfl)); (case hp => exact (Reps.one (show Kd.M (Kd.int .u8) _ _ _ ((wrap64 (48 + a0)) % 256) [.int .u8 ((wrap64 (48 + a0)) % 256)] from rfl) (Reps.none _ _))); intro v103 w8 ho9 hb hg_ hnew_; clear hg_ hnew_; (first | rw [← Ny102.out] at ho9 | (simp only [Int.reduceToNat] at ho9; rw [← Ny102.out] at ho9)); have n0_ := aM (Kd.R_lower ho9 (below_size (by repeat (first | (with_reducible first | exact HB.out | apply below_alloc | apply pw_below_drewN | apply below_drew1) | exact HB.out)))); have n1_ := aM (below_step (by repeat (first | (with_reducible first | exact HB.out | apply below_alloc | apply pw_below_drewN | apply below_drew1) | exact HB.out)) hb); clear HB; have HO104 := n0_; have HB := n1_; clear n0_ n1_; clear hb ho9; have hcv10 := own_string (P := Tryd.prog) Tryd.underlying22 Tryd.underlying5 Tryd.underlying9 (Kd.own_of_R HO104.out)))
      go_ret
      exact ⟨by first | rfl | (simp [errW_none, errW_some] <;> rfl) | (simp [*, errW_none, errW_some] <;> rfl), by repeat (first | (with_reducible first | exact HB.out | apply below_alloc | apply pw_below_drewN | apply below_drew1) | exact HB.out)⟩
    · rw [if_neg c7] at H
      have c7b0 : decide (a0 < 10) = false := decide_eq_false c7
      clear c7
      replace H := Option.bind_eq_some_iff.mp H
      obtain ⟨t105, A110, H⟩ := H
      replace H : ((some (([(wrap64 (48 + (Int.tmod a0 10))) % 256] : List Int) : List Int)).bind fun y106 => (if t105.size + (strOfNums y106).size ≤ 9223372036854775807 then (some (t105 ++ (strOfNums y106))) else (none))) = some r := H
      have A11 := aM A110
      clear A110
      obtain ⟨y106, hy106⟩ : ∃ y_ : List Int, y_ = (([(wrap64 (48 + (Int.tmod a0 10))) % 256] : List Int)) := ⟨_, rfl⟩
      replace H : (if t105.size + (strOfNums y106).size ≤ 9223372036854775807 then (some (t105 ++ (strOfNums y106))) else (none)) = some r := by first | (rw [hy106]; with_reducible exact H) | (have H2_ := (Option.bind_some _ _).symm.trans H; rw [hy106]; with_reducible exact H2_) | (have H2_ := (Option.bind_some _ _).symm.trans H; with_reducible exact H2_) | with_reducible exact H | (rw [hy106]; exact H) | exact H
      have Ny106 := aM hy106
      clear hy106
      by_cases c12 : t105.size + (strOfNums y106).size ≤ 9223372036854775807
      · rw [if_pos c12] at H
        have c12b0 := eq_true c12
        have c12b1 : decide (t105.size + (strOfNums y106).size ≤ 9223372036854775807) = true := decide_eq_true c12
        try have c12b2 : (9223372036854775807 < t105.size + (strOfNums y106).size) = False := eq_false (Nat.not_lt.2 c12)
        obtain rfl := Option.some.inj H
        go_enter Tryd.func41, Tryd.ntmps41
        try go_wp2
        have n0_ := aM (below_drew1 HB.out)
        clear HB
        have HB := n0_
        clear n0_
        refine start_ (n := 11) (S := fun w' => True) (ds := []) #[false, false, false, false, false, false, false, false, false, false, false] (by kernel_rfl) rfl rfl trivial (fun hHeld => ?_); refine with_tabW spec_l1Num.tab7 spec_l1Num.bits7 (fun HT_ HW_ => ?_)
        generalize w.drew = w13 at HB hHeld ⊢
        refine pure_ (i := 0) (N := some 18) (v := ?_) (a' := ?_) #[true, false, false, false, false, false, false, false, false, false, false] rfl rfl (any_of HT_.out (by kernel_rfl)) (fun _ _ _ h => h) (Or.inl ⟨by rfl, ?_⟩) ?_ ?_
        rotate_left
        · intro w'
          go_simp
          with_reducible rfl
        rotate_left
        · simp only [Act.put, List.setIfInBounds_toArray, List.set_cons_zero, List.set_cons_succ, i64_w, i32_w]
          rfl
        refine pure_ (i := 1) (N := some 19) (v := ?_) (a' := ?_) #[true, true, false, false, false, false, false, false, false, false, false] rfl rfl (any_of HT_.out (by kernel_rfl)) (fun _ _ _ h => h) (Or.inl ⟨by rfl, ?_⟩) ?_ ?_
        rotate_left
        · intro w'
          go_simp
          with_reducible rfl
        rotate_left
        · simp only [Act.put, List.setIfInBounds_toArray, List.set_cons_zero, List.set_cons_succ, i64_w, i32_w]
          rfl
        refine pure_ (i := 3) (N := some 21) (v := ?_) (a' := ?_) #[true, true, false, true, false, false, false, false, false, false, false] rfl rfl (any_of HT_.out (by kernel_rfl)) (fun _ _ _ h => h) (Or.inl ⟨by rfl, ?_⟩) ?_ ?_
        rotate_left
        · intro w'
          go_simp
          with_reducible rfl
        rotate_left
        · simp only [Act.put, List.setIfInBounds_toArray, List.set_cons_zero, List.set_cons_succ, i64_w, i32_w]
          rfl
        refine pure_ (i := 4) (N := some 22) (v := ?_) (a' := ?_) #[true, true, false, true, true, false, false, false, false, false, false] rfl rfl (any_of HT_.out (by kernel_rfl)) (fun _ _ _ h => h) (Or.inl ⟨by rfl, ?_⟩) ?_ ?_
        rotate_left
        · intro w'
          go_simp
          with_reducible rfl
        rotate_left
        · simp only [Act.put, List.setIfInBounds_toArray, List.set_cons_zero, List.set_cons_succ, i64_w, i32_w]
          rfl
        refine pure_ (i := 5) (N := some 23) (v := ?_) (a' := ?_) #[true, true, false, true, true, true, false, false, false, false, false] rfl rfl (any_of HT_.out (by kernel_rfl)) (fun _ _ _ h => h) (Or.inl ⟨by rfl, ?_⟩) ?_ ?_
        rotate_left
        · intro w'
          go_simp
          with_reducible rfl
        rotate_left
        · simp only [Act.put, List.setIfInBounds_toArray, List.set_cons_zero, List.set_cons_succ, i64_w, i32_w]
          rfl
        refine pure_ (i := 6) (N := some 24) (v := ?_) (a' := ?_) #[true, true, false, true, true, true, true, false, false, false, false] rfl rfl (any_of HT_.out (by kernel_rfl)) (fun _ _ _ h => h) (Or.inl ⟨by rfl, ?_⟩) ?_ ?_
        rotate_left
        · intro w'
          go_simp
          with_reducible rfl
        rotate_left
        · simp only [Act.put, List.setIfInBounds_toArray, List.set_cons_zero, List.set_cons_succ, i64_w, i32_w]
          rfl
        refine join_ (σ := Value) 2 #[true, true, true, true, true, true, true, true, true, false, false] (fun s_ => [(20, .string t105), (25, s_), (26, .string (strOfNums y106))]) (fun s_ w' => (Kd.R (Kd.int .u8) 5 w' w.heap.size (fun _ => True) s_ y106) ∧ (Below w.heap.size w w')) ?_ ?_
        rotate_left
        · intro hCont
          refine two_ (i := 2) (j := 7) (Ni := some 20) (Nj := some 25) #[true, true, true, true, true, true, true, false, false, false, false] #[true, true, false, true, true, true, true, true, false, false, false] rfl rfl rfl rfl (two_of HT_.out (by kernel_rfl)) (by decide) (by decide) (fun K hK => ?_) (fun K hK => ?_)
          · skip
            refine goes_ Tryd.func41 (by kernel_rfl) rfl #[.int .i64 (wrap64 (Int.tdiv a0 10))] (by rfl) rfl rfl (by (try simp only [List.map_toArray, List.map_cons, List.map_nil]); first | done | rfl | (simp only [List.length_drop, List.length_take]; rfl)) ?_
            with_reducible refine (ih k (by omega) (wrap64 (Int.tdiv a0 10)) t105 _ A11.out).mono ?_
            rintro e w14 ⟨rfl, hb⟩
            refine ⟨_, rfl, ?_⟩
            have n0_ := aM (below_step (by repeat (first | (with_reducible first | exact HB.out | apply below_alloc | apply pw_below_drewN | apply below_drew1) | exact HB.out)) hb)
            clear HB
            have HB := n0_
            clear n0_
            (try clear hb)
            (try clear hb2)
            (try clear hk)
            (try clear hi)
            refine hK.out _ _ trivial (fun hHeld => ?_)
            clear hK K
            refine norm_ (a' := ?_) ?_ ?_
            rotate_left
            · show Act.put _ (some 20) _ = _
              simp only [Act.put, List.setIfInBounds_toArray, List.set_cons_zero, List.set_cons_succ, i64_w, i32_w]
              rfl
            refine one_ (i := 7) (N := some 25) #[true, true, true, true, true, true, true, true, false, false, false] rfl rfl (one_of HT_.out (by kernel_rfl)) (by decide) (fun K hK => ?_)
            refine Kd.R_lit_step (Kd.int .u8) _ 5 ?hg (N := 25) ?hd (xs := ([(wrap64 (48 + (Int.tmod a0 10))) % 256] : List Int)) (inner := [.int .u8 ((wrap64 (48 + (Int.tmod a0 10))) % 256)]) (ok := fun _ => True) (okp := fun _ => True) ?hr ?hp (fun _ hk => hk) trivial (Below.refl _ _) (Nat.le_refl _) (by simp) ?_; (case hd => rfl); (case hg => rfl); (case hr => first | (go_simp; done) | (go_simp; rfl)); (case hp => exact (Reps.one (show Kd.M (Kd.int .u8) _ _ _ ((wrap64 (48 + (Int.tmod a0 10))) % 256) [.int .u8 ((wrap64 (48 + (Int.tmod a0 10))) % 256)] from rfl) (Reps.none _ _)))
            intro v107 w15 ho16 hb hg_ hnew_
            clear hg_ hnew_
            (first | rw [← Ny106.out] at ho16 | (simp only [Int.reduceToNat] at ho16; rw [← Ny106.out] at ho16))
            have n0_ := aM (Kd.R_lower ho16 (below_size (by repeat (first | (with_reducible first | exact HB.out | apply below_alloc | apply pw_below_drewN | apply below_drew1) | exact HB.out))))
            have n1_ := aM (below_step (by repeat (first | (with_reducible first | exact HB.out | apply below_alloc | apply pw_below_drewN | apply below_drew1) | exact HB.out)) hb)
            clear HB
            have HO108 := n0_
            have HB := n1_
            clear n0_ n1_
            clear hb ho16
            refine hK.out _ _ trivial (fun hHeld => ?_)
            clear hK K
            refine norm_ (a' := ?_) ?_ ?_
            rotate_left
            · show Act.put _ (some 25) _ = _
              simp only [Act.put, List.setIfInBounds_toArray, List.set_cons_zero, List.set_cons_succ, i64_w, i32_w]
              rfl
            refine one_ (i := 8) (N := some 26) #[true, true, true, true, true, true, true, true, true, false, false] rfl rfl (one_of HT_.out (by kernel_rfl)) (by decide) (fun K hK => ?_)
            have hcv17 := own_string (P := Tryd.prog) Tryd.underlying22 Tryd.underlying5 Tryd.underlying9 (Kd.own_of_R HO108.out)
            refine value_ (w1 := ?_) (v := ?_) (by rfl) rfl ?_ ?_
            rotate_left 2
            · go_simp
              constructor
              · rfl
              · rfl
            clear hcv17
            refine hK.out _ _ trivial (fun hHeld => ?_)
            clear hK K
            refine norm_ (a' := ?_) ?_ ?_
            rotate_left
            · show Act.put _ (some 26) _ = _
              simp only [Act.put, List.setIfInBounds_toArray, List.set_cons_zero, List.set_cons_succ, i64_w, i32_w]
              rfl
            exact norm_ (by simp only [putAll, Act.put, List.setIfInBounds_toArray, List.set_cons_zero, List.set_cons_succ]) (hCont (v107) _ ⟨(by (with_reducible repeat (first | apply rA | apply rN | apply rD)); exact HO108.out), (by repeat (first | (with_reducible first | exact HB.out | apply below_alloc | apply pw_below_drewN | apply below_drew1) | exact HB.out))⟩)
          · skip
            refine Kd.R_lit_step (Kd.int .u8) _ 5 ?hg (N := 25) ?hd (xs := ([(wrap64 (48 + (Int.tmod a0 10))) % 256] : List Int)) (inner := [.int .u8 ((wrap64 (48 + (Int.tmod a0 10))) % 256)]) (ok := fun _ => True) (okp := fun _ => True) ?hr ?hp (fun _ hk => hk) trivial (Below.refl _ _) (Nat.le_refl _) (by simp) ?_; (case hd => rfl); (case hg => rfl); (case hr => first | (go_simp; done) | (go_simp; rfl)); (case hp => exact (Reps.one (show Kd.M (Kd.int .u8) _ _ _ ((wrap64 (48 + (Int.tmod a0 10))) % 256) [.int .u8 ((wrap64 (48 + (Int.tmod a0 10))) % 256)] from rfl) (Reps.none _ _)))
            intro v107 w14 ho15 hb hg_ hnew_
            clear hg_ hnew_
            (first | rw [← Ny106.out] at ho15 | (simp only [Int.reduceToNat] at ho15; rw [← Ny106.out] at ho15))
            have n0_ := aM (Kd.R_lower ho15 (below_size (by repeat (first | (with_reducible first | exact HB.out | apply below_alloc | apply pw_below_drewN | apply below_drew1) | exact HB.out))))
            have n1_ := aM (below_step (by repeat (first | (with_reducible first | exact HB.out | apply below_alloc | apply pw_below_drewN | apply below_drew1) | exact HB.out)) hb)
            clear HB
            have HO108 := n0_
            have HB := n1_
            clear n0_ n1_
            clear hb ho15
            refine hK.out _ _ trivial (fun hHeld => ?_)
            clear hK K
            refine norm_ (a' := ?_) ?_ ?_
            rotate_left
            · show Act.put _ (some 25) _ = _
              simp only [Act.put, List.setIfInBounds_toArray, List.set_cons_zero, List.set_cons_succ, i64_w, i32_w]
              rfl
            refine two_ (i := 2) (j := 8) (Ni := some 20) (Nj := some 26) #[true, true, true, true, true, true, true, true, false, false, false] #[true, true, false, true, true, true, true, true, true, false, false] rfl rfl rfl rfl (two_of HT_.out (by kernel_rfl)) (by decide) (by decide) (fun K hK => ?_) (fun K hK => ?_)
            · skip
              refine goes_ Tryd.func41 (by kernel_rfl) rfl #[.int .i64 (wrap64 (Int.tdiv a0 10))] (by rfl) rfl rfl (by (try simp only [List.map_toArray, List.map_cons, List.map_nil]); first | done | rfl | (simp only [List.length_drop, List.length_take]; rfl)) ?_
              with_reducible refine (ih k (by omega) (wrap64 (Int.tdiv a0 10)) t105 _ A11.out).mono ?_
              rintro e w16 ⟨rfl, hb⟩
              refine ⟨_, rfl, ?_⟩
              have n0_ := aM (Kd.R_below (by (with_reducible repeat (first | apply rA | apply rN | apply rD)); exact HO108.out) hb)
              have n1_ := aM (below_step (by repeat (first | (with_reducible first | exact HB.out | apply below_alloc | apply pw_below_drewN | apply below_drew1) | exact HB.out)) hb)
              clear HO108
              clear HB
              have HO108 := n0_
              have HB := n1_
              clear n0_ n1_
              (try clear hb)
              (try clear hb2)
              (try clear hk)
              (try clear hi)
              refine hK.out _ _ trivial (fun hHeld => ?_)
              clear hK K
              refine norm_ (a' := ?_) ?_ ?_
              rotate_left
              · show Act.put _ (some 20) _ = _
                simp only [Act.put, List.setIfInBounds_toArray, List.set_cons_zero, List.set_cons_succ, i64_w, i32_w]
                rfl
              refine one_ (i := 8) (N := some 26) #[true, true, true, true, true, true, true, true, true, false, false] rfl rfl (one_of HT_.out (by kernel_rfl)) (by decide) (fun K hK => ?_)
              have hcv17 := own_string (P := Tryd.prog) Tryd.underlying22 Tryd.underlying5 Tryd.underlying9 (Kd.own_of_R HO108.out)
              refine value_ (w1 := ?_) (v := ?_) (by rfl) rfl ?_ ?_
              rotate_left 2
              · go_simp
                constructor
                · rfl
                · rfl
              clear hcv17
              refine hK.out _ _ trivial (fun hHeld => ?_)
              clear hK K
              refine norm_ (a' := ?_) ?_ ?_
              rotate_left
              · show Act.put _ (some 26) _ = _
                simp only [Act.put, List.setIfInBounds_toArray, List.set_cons_zero, List.set_cons_succ, i64_w, i32_w]
                rfl
              exact norm_ (by simp only [putAll, Act.put, List.setIfInBounds_toArray, List.set_cons_zero, List.set_cons_succ]) (hCont (v107) _ ⟨(by (with_reducible repeat (first | apply rA | apply rN | apply rD)); exact HO108.out), (by repeat (first | (with_reducible first | exact HB.out | apply below_alloc | apply pw_below_drewN | apply below_drew1) | exact HB.out))⟩)
            · skip
              have hcv16 := own_string (P := Tryd.prog) Tryd.underlying22 Tryd.underlying5 Tryd.underlying9 (Kd.own_of_R HO108.out)
              refine value_ (w1 := ?_) (v := ?_) (by rfl) rfl ?_ ?_
              rotate_left 2
              · go_simp
                constructor
                · rfl
                · rfl
              clear hcv16
              refine hK.out _ _ trivial (fun hHeld => ?_)
              clear hK K
              refine norm_ (a' := ?_) ?_ ?_
              rotate_left
              · show Act.put _ (some 26) _ = _
                simp only [Act.put, List.setIfInBounds_toArray, List.set_cons_zero, List.set_cons_succ, i64_w, i32_w]
                rfl
              refine one_ (i := 2) (N := some 20) #[true, true, true, true, true, true, true, true, true, false, false] rfl rfl (one_of HT_.out (by kernel_rfl)) (by decide) (fun K hK => ?_)
              refine goes_ Tryd.func41 (by kernel_rfl) rfl #[.int .i64 (wrap64 (Int.tdiv a0 10))] (by rfl) rfl rfl (by (try simp only [List.map_toArray, List.map_cons, List.map_nil]); first | done | rfl | (simp only [List.length_drop, List.length_take]; rfl)) ?_
              with_reducible refine (ih k (by omega) (wrap64 (Int.tdiv a0 10)) t105 _ A11.out).mono ?_
              rintro e w17 ⟨rfl, hb⟩
              refine ⟨_, rfl, ?_⟩
              have n0_ := aM (Kd.R_below (by (with_reducible repeat (first | apply rA | apply rN | apply rD)); exact HO108.out) hb)
              have n1_ := aM (below_step (by repeat (first | (with_reducible first | exact HB.out | apply below_alloc | apply pw_below_drewN | apply below_drew1) | exact HB.out)) hb)
              clear HO108
              clear HB
              have HO108 := n0_
              have HB := n1_
              clear n0_ n1_
              (try clear hb)
              (try clear hb2)
              (try clear hk)
              (try clear hi)
              refine hK.out _ _ trivial (fun hHeld => ?_)
              clear hK K
              refine norm_ (a' := ?_) ?_ ?_
              rotate_left
              · show Act.put _ (some 20) _ = _
                simp only [Act.put, List.setIfInBounds_toArray, List.set_cons_zero, List.set_cons_succ, i64_w, i32_w]
                rfl
              exact norm_ (by simp only [putAll, Act.put, List.setIfInBounds_toArray, List.set_cons_zero, List.set_cons_succ]) (hCont (v107) _ ⟨(by (with_reducible repeat (first | apply rA | apply rN | apply rD)); exact HO108.out), (by repeat (first | (with_reducible first | exact HB.out | apply below_alloc | apply pw_below_drewN | apply below_drew1) | exact HB.out))⟩)
        rintro v107 w18 ⟨h0_, h1_⟩
        have n0_ : Aside0 (Kd.R (Kd.int .u8) 5 w18 w.heap.size (fun _ => True) v107 y106) := ⟨h0_⟩
        have n1_ : Aside0 (Below w.heap.size w w18) := ⟨h1_⟩
        clear HB
        clear h0_ h1_
        have HO108 := n0_
        have HB := n1_
        clear n0_ n1_
        have hHeld := trivial
        refine norm_ (a' := ?_) ?_ ?_
        rotate_left
        · simp only [putAll, Act.put, List.setIfInBounds_toArray, List.set_cons_zero, List.set_cons_succ]
          rfl
        refine pure_ (i := 9) (N := some 27) (v := ?_) (a' := ?_) #[true, true, true, true, true, true, true, true, true, true, false] rfl rfl (any_of HT_.out (by kernel_rfl)) (fun _ _ _ h => h) (Or.inl ⟨by rfl, ?_⟩) ?_ ?_
        rotate_left
        · intro w'
          go_simp
          with_reducible rfl
        rotate_left
        · simp only [Act.put, List.setIfInBounds_toArray, List.set_cons_zero, List.set_cons_succ, i64_w, i32_w]
          rfl
        refine pure_ (i := 10) (N := some 2) (v := ?_) (a' := ?_) #[true, true, true, true, true, true, true, true, true, true, true] rfl rfl (any_of HT_.out (by kernel_rfl)) (fun _ _ _ h => h) (Or.inl ⟨by rfl, ?_⟩) ?_ ?_
        rotate_left
        · intro w'
          go_simp
          with_reducible rfl
        rotate_left
        · simp only [Act.put, List.setIfInBounds_toArray, List.set_cons_zero, List.set_cons_succ, i64_w, i32_w]
          rfl
        refine done_ (done_of HT_.out (by kernel_rfl)) ?_
        try go_wp2
        go_ret
        exact ⟨by first | rfl | (simp [errW_none, errW_some] <;> rfl) | (simp [*, errW_none, errW_some] <;> rfl), by repeat (first | (with_reducible first | exact HB.out | apply below_alloc | apply pw_below_drewN | apply below_drew1) | exact HB.out)⟩
      · rw [if_neg c12] at H
        exact absurd H (by simp)


def spec_leText.f : Nat → Int → List (S56) → Option (ByteArray)
  | 0, _, _ => none
  | k + 1, a0_0, l0_1 => if (l0_1.length : Int) = 0 then ((spec_l1Num.f k a0_0).bind fun t102 => (if 1 + t102.size ≤ 9223372036854775807 then (some ((⟨#[116]⟩ : ByteArray) ++ t102)) else (none))) else (if 0 < (l0_1.length : Int) then ((spec_leText.f k ((rd_T56 l0_1 0).f0) ((rd_T56 l0_1 0).f1)).bind fun t104 => (if 1 + t104.size ≤ 9223372036854775807 then (if ((⟨#[40]⟩ : ByteArray) ++ t104).size + 1 ≤ 9223372036854775807 then (if 1 < (l0_1.length : Int) then ((spec_leText.f k ((rd_T56 l0_1 1).f0) ((rd_T56 l0_1 1).f1)).bind fun t106 => (if (((⟨#[40]⟩ : ByteArray) ++ t104) ++ (⟨#[62]⟩ : ByteArray)).size + t106.size ≤ 9223372036854775807 then (if ((((⟨#[40]⟩ : ByteArray) ++ t104) ++ (⟨#[62]⟩ : ByteArray)) ++ t106).size + 1 ≤ 9223372036854775807 then (some (((((⟨#[40]⟩ : ByteArray) ++ t104) ++ (⟨#[62]⟩ : ByteArray)) ++ t106) ++ (⟨#[41]⟩ : ByteArray))) else (none)) else (none))) else (none)) else (none)) else (none))) else (none))
def spec_leText.T3 : Bool × List (List Nat × List Nat) := (true, [([], []), ([0], [0]), ([1], [1]), ([2], [2]), ([3], [3]), ([4], [4]), ([5], [5]), ([], []), ([7], [7]), ([8], [8]), ([9], [9]), ([10, 4], [10]), ([6, 11], [6, 11]), ([12], [12]), ([13, 11, 0, 1, 2, 3, 4, 5, 6, 7, 8, 9, 10, 11, 12, 13], [13])])
def spec_leText.B3 : List Nat := [0, 1, 3, 7, 15, 31, 63, 0, 128, 384, 896, 1951, 4095, 8191, 16383]
theorem spec_leText.tab3 : rtab .any (opsOf Tryd.f21 3) = spec_leText.T3 := by kernel_rfl
theorem spec_leText.bits3 : waitsOk spec_leText.T3.2 spec_leText.B3 = true := by kernel_rfl
set_option maxHeartbeats 8000000 in
set_option maxRecDepth 100000 in
theorem spec_leText.calls (k : Nat) : ∀ (a0_0 : Int) (A0_1 : Option Addr) (c0_1 : Nat) (l0_1 : List (S56)) (r : ByteArray) (w : World) (hr0_1 : Kd.C k56 w A0_1 l0_1.length l0_1) (hc0_1 : l0_1.length ≤ c0_1) (h : spec_leText.f k a0_0 l0_1 = some r),
    Calls Tryd.prog 21 #[.agg #[.int .i64 a0_0, .slice A0_1 l0_1.length c0_1]] w fun e w' => e = .returned (.string r) ∧ Below w.heap.size w w' := by
  induction k using Nat.strongRecOn with
  | _ k ih =>
  intro a0_0 A0_1 c0_1 l0_1 r w hr0_1 hc0_1 h
  cases k with
  | zero => exact absurd h (by simp [spec_leText.f])
  | succ k =>
  simp only [spec_leText.f] at h
  have hu56 := Tryd.underlying56
  have HR0_1 := aM hr0_1
  have HC0_1 := aM hc0_1
  clear hr0_1 hc0_1
  have HB := aM (Below.refl w.heap.size w)
  have H : (if (l0_1.length : Int) = 0 then ((spec_l1Num.f k a0_0).bind fun t102 => (if 1 + t102.size ≤ 9223372036854775807 then (some ((⟨#[116]⟩ : ByteArray) ++ t102)) else (none))) else (if 0 < (l0_1.length : Int) then ((spec_leText.f k ((rd_T56 l0_1 0).f0) ((rd_T56 l0_1 0).f1)).bind fun t104 => (if 1 + t104.size ≤ 9223372036854775807 then (if ((⟨#[40]⟩ : ByteArray) ++ t104).size + 1 ≤ 9223372036854775807 then (if 1 < (l0_1.length : Int) then ((spec_leText.f k ((rd_T56 l0_1 1).f0) ((rd_T56 l0_1 1).f1)).bind fun t106 => (if (((⟨#[40]⟩ : ByteArray) ++ t104) ++ (⟨#[62]⟩ : ByteArray)).size + t106.size ≤ 9223372036854775807 then (if ((((⟨#[40]⟩ : ByteArray) ++ t104) ++ (⟨#[62]⟩ : ByteArray)) ++ t106).size + 1 ≤ 9223372036854775807 then (some (((((⟨#[40]⟩ : ByteArray) ++ t104) ++ (⟨#[62]⟩ : ByteArray)) ++ t106) ++ (⟨#[41]⟩ : ByteArray))) else (none)) else (none))) else (none)) else (none)) else (none))) else (none))) = some r := h
  clear h
  by_cases c2 : (l0_1.length : Int) = 0
  · rw [if_pos c2] at H
    have c2b0 : ((l0_1.length : Int) == 0) = true := beq_iff_eq.mpr c2
    have c2b1 : ((l0_1.length : Int) != 0) = false := bne_eq_false_iff_eq.mpr c2
    clear c2
    replace H := Option.bind_eq_some_iff.mp H
    obtain ⟨t102, A30, H⟩ := H
    replace H : (if 1 + t102.size ≤ 9223372036854775807 then (some ((⟨#[116]⟩ : ByteArray) ++ t102)) else (none)) = some r := H
    have A3 := aM A30
    clear A30
    by_cases c4 : 1 + t102.size ≤ 9223372036854775807
    · rw [if_pos c4] at H
      have c4b0 := eq_true c4
      have c4b1 : decide (1 + t102.size ≤ 9223372036854775807) = true := decide_eq_true c4
      try have c4b2 : (9223372036854775807 < 1 + t102.size) = False := eq_false (Nat.not_lt.2 c4)
      obtain rfl := Option.some.inj H
      go_enter Tryd.func21, Tryd.ntmps21
      go_wp2_with (first | ((with_reducible refine gate_dst (N := 1) rfl ?_); refine box_event ?hg (N := 1) ?hd (cs := #[.int .i64 a0_0, .slice A0_1 l0_1.length c0_1]) (t := 56) ?hr ?_; (case hd => rfl); (case hg => rfl); (case hr => first | (go_simp; done) | (go_simp; rfl)); intro gb101 hg w5 hbox hb; have n0_ := aM (below_step (by repeat (first | (with_reducible first | exact HB.out | apply below_alloc | apply pw_below_drewN | apply below_drew1) | exact HB.out)) hb); have n1_ := aM (hbox); have n2_ := aM ((by rw [hg]; exact (below_size (by repeat (first | (with_reducible first | exact HB.out | apply below_alloc | apply pw_below_drewN | apply below_drew1) | exact HB.out))) : w.heap.size ≤ gb101)); have n3_ := aM ((by rw [hg]; exact (below_size (by repeat (first | (with_reducible first | exact HB.out | apply below_alloc | apply pw_below_drewN | apply below_drew1) | exact HB.out))) : w.heap.size ≤ gb101)); clear HB; have HB := n0_; have BK101 := n1_; have GW101 := n2_; have GE101 := n3_; clear n0_ n1_ n2_ n3_; clear hb hbox hg; have hcz6_0 : w5.cell? ⟨gb101, 0, none⟩ = some (.int .i64 a0_0) := (blk_cell BK101.out 0).trans rfl; have hcz6_1 : w5.cell? ⟨gb101, 1, none⟩ = some (.slice A0_1 l0_1.length c0_1) := (blk_cell BK101.out 1).trans rfl; have hfz6_0 := blk_frozen BK101.out 0; have hfz6_1 := blk_frozen BK101.out 1) | ((with_reducible refine gate_callee (f := 41) rfl ?_); refine goesL_ (some 9) rfl rfl Tryd.func41 (by kernel_rfl) rfl #[.int .i64 a0_0] rfl (by (try simp only [List.map_toArray, List.map_cons, List.map_nil]); first | done | rfl | (simp only [List.length_drop, List.length_take]; rfl)) ?_; (with_reducible refine (spec_l1Num.calls k a0_0 t102 _ A3.out).mono ?_); rintro e w7 ⟨rfl, hb⟩; refine ⟨_, rfl, ?_⟩; have n0_ := aM (blk_below (g := gb101) (o := .cells #[.int .i64 a0_0, .slice A0_1 l0_1.length c0_1] 56 (0, 0)) (by (with_reducible repeat (first | refine bN ?_ _ | refine bD ?_ | refine bA ?_ _)); exact BK101.out) hb); have n1_ := aM (below_step (by repeat (first | (with_reducible first | exact HB.out | apply below_alloc | apply pw_below_drewN | apply below_drew1 | refine below_set ?_ GE101.out) | exact HB.out)) hb); clear BK101; clear HB; have BK101 := n0_; have HB := n1_; clear n0_ n1_; (try clear hb); (try clear hb2); (try clear hk); (try clear hi)))
      go_ret
      exact ⟨by first | rfl | (simp [errW_none, errW_some] <;> rfl) | (simp [*, errW_none, errW_some] <;> rfl), by repeat (first | (with_reducible first | exact HB.out | apply below_alloc | apply pw_below_drewN | apply below_drew1 | refine below_set ?_ GE101.out) | exact HB.out)⟩
    · rw [if_neg c4] at H
      exact absurd H (by simp)
  · rw [if_neg c2] at H
    have c2b0 : ((l0_1.length : Int) == 0) = false := beq_eq_false_iff_ne.mpr c2
    have c2b1 : ((l0_1.length : Int) != 0) = true := bne_iff_ne.mpr c2
    have c2b2 : ¬ (l0_1 = []) := fun h_ => c2 (by rw [h_]; rfl)
    by_cases c8 : 0 < (l0_1.length : Int)
    · rw [if_pos c8] at H
      have c8b0 : decide (0 < (l0_1.length : Int)) = true := decide_eq_true c8
      have c8b1 : decide (0 < l0_1.length) = true := decide_eq_true (by omega)
      clear c8
      replace H := Option.bind_eq_some_iff.mp H
      obtain ⟨t104, A90, H⟩ := H
      replace H : (if 1 + t104.size ≤ 9223372036854775807 then (if ((⟨#[40]⟩ : ByteArray) ++ t104).size + 1 ≤ 9223372036854775807 then (if 1 < (l0_1.length : Int) then ((spec_leText.f k ((rd_T56 l0_1 1).f0) ((rd_T56 l0_1 1).f1)).bind fun t106 => (if (((⟨#[40]⟩ : ByteArray) ++ t104) ++ (⟨#[62]⟩ : ByteArray)).size + t106.size ≤ 9223372036854775807 then (if ((((⟨#[40]⟩ : ByteArray) ++ t104) ++ (⟨#[62]⟩ : ByteArray)) ++ t106).size + 1 ≤ 9223372036854775807 then (some (((((⟨#[40]⟩ : ByteArray) ++ t104) ++ (⟨#[62]⟩ : ByteArray)) ++ t106) ++ (⟨#[41]⟩ : ByteArray))) else (none)) else (none))) else (none)) else (none)) else (none)) = some r := H
      have A9 := aM A90
      clear A90
      by_cases c10 : 1 + t104.size ≤ 9223372036854775807
      · rw [if_pos c10] at H
        have c10b0 := eq_true c10
        have c10b1 : decide (1 + t104.size ≤ 9223372036854775807) = true := decide_eq_true c10
        try have c10b2 : (9223372036854775807 < 1 + t104.size) = False := eq_false (Nat.not_lt.2 c10)
        by_cases c11 : ((⟨#[40]⟩ : ByteArray) ++ t104).size + 1 ≤ 9223372036854775807
        · rw [if_pos c11] at H
          have c11b0 := eq_true c11
          have c11b1 : decide (((⟨#[40]⟩ : ByteArray) ++ t104).size + 1 ≤ 9223372036854775807) = true := decide_eq_true c11
          try have c11b2 : (9223372036854775807 < ((⟨#[40]⟩ : ByteArray) ++ t104).size + 1) = False := eq_false (Nat.not_lt.2 c11)
          have c11b3 : (9223372036854775807 < 1 + t104.size + 1) = False := by have e := c11b2; simp only [ByteArray.size_append] at e; exact e
          by_cases c12 : 1 < (l0_1.length : Int)
          · rw [if_pos c12] at H
            have c12b0 : decide (1 < (l0_1.length : Int)) = true := decide_eq_true c12
            have c12b1 : decide (1 < l0_1.length) = true := decide_eq_true (by omega)
            clear c12
            replace H := Option.bind_eq_some_iff.mp H
            obtain ⟨t106, A130, H⟩ := H
            replace H : (if (((⟨#[40]⟩ : ByteArray) ++ t104) ++ (⟨#[62]⟩ : ByteArray)).size + t106.size ≤ 9223372036854775807 then (if ((((⟨#[40]⟩ : ByteArray) ++ t104) ++ (⟨#[62]⟩ : ByteArray)) ++ t106).size + 1 ≤ 9223372036854775807 then (some (((((⟨#[40]⟩ : ByteArray) ++ t104) ++ (⟨#[62]⟩ : ByteArray)) ++ t106) ++ (⟨#[41]⟩ : ByteArray))) else (none)) else (none)) = some r := H
            have A13 := aM A130
            clear A130
            by_cases c14 : (((⟨#[40]⟩ : ByteArray) ++ t104) ++ (⟨#[62]⟩ : ByteArray)).size + t106.size ≤ 9223372036854775807
            · rw [if_pos c14] at H
              have c14b0 := eq_true c14
              have c14b1 : decide ((((⟨#[40]⟩ : ByteArray) ++ t104) ++ (⟨#[62]⟩ : ByteArray)).size + t106.size ≤ 9223372036854775807) = true := decide_eq_true c14
              try have c14b2 : (9223372036854775807 < (((⟨#[40]⟩ : ByteArray) ++ t104) ++ (⟨#[62]⟩ : ByteArray)).size + t106.size) = False := eq_false (Nat.not_lt.2 c14)
              have c14b3 : (9223372036854775807 < 1 + t104.size + 1 + t106.size) = False := by have e := c14b2; simp only [ByteArray.size_append] at e; exact e
              by_cases c15 : ((((⟨#[40]⟩ : ByteArray) ++ t104) ++ (⟨#[62]⟩ : ByteArray)) ++ t106).size + 1 ≤ 9223372036854775807
              · rw [if_pos c15] at H
                have c15b0 := eq_true c15
                have c15b1 : decide (((((⟨#[40]⟩ : ByteArray) ++ t104) ++ (⟨#[62]⟩ : ByteArray)) ++ t106).size + 1 ≤ 9223372036854775807) = true := decide_eq_true c15
                try have c15b2 : (9223372036854775807 < ((((⟨#[40]⟩ : ByteArray) ++ t104) ++ (⟨#[62]⟩ : ByteArray)) ++ t106).size + 1) = False := eq_false (Nat.not_lt.2 c15)
                have c15b3 : (9223372036854775807 < 1 + t104.size + 1 + t106.size + 1) = False := by have e := c15b2; simp only [ByteArray.size_append] at e; exact e
                obtain rfl := Option.some.inj H
                go_enter Tryd.func21, Tryd.ntmps21
                try go_wp2_with (first | ((with_reducible refine gate_dst (N := 1) rfl ?_); refine box_event ?hg (N := 1) ?hd (cs := #[.int .i64 a0_0, .slice A0_1 l0_1.length c0_1]) (t := 56) ?hr ?_; (case hd => rfl); (case hg => rfl); (case hr => first | (go_simp; done) | (go_simp; rfl)); intro gb101 hg w16 hbox hb; have n0_ := aM (below_step (by repeat (first | (with_reducible first | exact HB.out | apply below_alloc | apply pw_below_drewN | apply below_drew1) | exact HB.out)) hb); have n1_ := aM (hbox); have n2_ := aM ((by rw [hg]; exact (below_size (by repeat (first | (with_reducible first | exact HB.out | apply below_alloc | apply pw_below_drewN | apply below_drew1) | exact HB.out))) : w.heap.size ≤ gb101)); have n3_ := aM ((by rw [hg]; exact (below_size (by repeat (first | (with_reducible first | exact HB.out | apply below_alloc | apply pw_below_drewN | apply below_drew1) | exact HB.out))) : w.heap.size ≤ gb101)); clear HB; have HB := n0_; have BK101 := n1_; have GW101 := n2_; have GE101 := n3_; clear n0_ n1_ n2_ n3_; clear hb hbox hg; have hcz17_0 : w16.cell? ⟨gb101, 0, none⟩ = some (.int .i64 a0_0) := (blk_cell BK101.out 0).trans rfl; have hcz17_1 : w16.cell? ⟨gb101, 1, none⟩ = some (.slice A0_1 l0_1.length c0_1) := (blk_cell BK101.out 1).trans rfl; have hfz17_0 := blk_frozen BK101.out 0; have hfz17_1 := blk_frozen BK101.out 1))
                have n0_ := aM (blk_drew BK101.out)
                have n1_ := aM (below_drew1 HB.out)
                clear BK101
                clear HB
                have BK101 := n0_
                have HB := n1_
                clear n0_ n1_
                have p103 : 0 ≤ (0 : Int) := (by omega)
                have q103 : 0 < (l0_1.length : Int) := of_decide_eq_true (by first | (with_reducible assumption) | assumption)
                obtain ⟨ad103, A103_1, c103_1, e103, hx103_0, hx103_1, hl103_1, hi103_1⟩ := at_T56 HR0_1.out 0 p103 q103
                have hw103_1 := hx103_1
                (try rw [show ((0 : Int)).toNat = 0 from rfl] at hw103_1)
                (try rw [show 0 * 2 = 0 from rfl] at hw103_1)
                (try rw [Addr.add_zero'] at hw103_1)
                have hw103_0 := hx103_0
                (try rw [show ((0 : Int)).toNat = 0 from rfl] at hw103_0)
                (try rw [show 0 * 2 = 0 from rfl] at hw103_0)
                (try rw [Addr.add_zero'] at hw103_0)
                cases e103
                have qi103 : (0 < l0_1.length) = True := eq_true (by omega)
                (try rw [show ((0 : Int)).toNat = 0 from rfl] at hx103_0)
                (try rw [show 0 * 2 = 0 from rfl] at hx103_0)
                (try rw [Addr.add_zero'] at hx103_0)
                (try rw [show ((0 : Int)).toNat = 0 from rfl] at hx103_1)
                (try rw [show 0 * 2 = 0 from rfl] at hx103_1)
                (try rw [Addr.add_zero'] at hx103_1)
                replace hx103_0 := (HB.out.cell (World.block_lt_of_cell? w _ hx103_0)).trans hx103_0
                replace hx103_1 := (HB.out.cell (World.block_lt_of_cell? w _ hx103_1)).trans hx103_1
                have HR103_1 := aM hi103_1
                have HC103_1 := aM hl103_1
                clear hi103_1 hl103_1
                replace p103 := eq_true p103
                replace q103 := eq_true q103
                have p105 : 0 ≤ (1 : Int) := (by omega)
                have q105 : 1 < (l0_1.length : Int) := of_decide_eq_true (by first | (with_reducible assumption) | assumption)
                obtain ⟨ad105, A105_1, c105_1, e105, hx105_0, hx105_1, hl105_1, hi105_1⟩ := at_T56 HR0_1.out 1 p105 q105
                have hw105_1 := hx105_1
                (try rw [show ((1 : Int)).toNat = 1 from rfl] at hw105_1)
                (try rw [show 1 * 2 = 2 from rfl] at hw105_1)
                (try simp only [Nat.reduceMul, Nat.reduceEqDiff, Go.Addr.add, ↓reduceIte] at hw105_1)
                have hw105_0 := hx105_0
                (try rw [show ((1 : Int)).toNat = 1 from rfl] at hw105_0)
                (try rw [show 1 * 2 = 2 from rfl] at hw105_0)
                (try simp only [Nat.reduceMul, Nat.reduceEqDiff, Go.Addr.add, ↓reduceIte] at hw105_0)
                obtain rfl : ad103 = ad105 := (by injection e105)
                (try simp only [show (1 : Int).toNat = 1 from rfl, Nat.reduceMul, Nat.reduceEqDiff, Go.Addr.add, ↓reduceIte] at hx105_0)
                (try simp only [show (1 : Int).toNat = 1 from rfl, Nat.reduceMul, Nat.reduceEqDiff, Go.Addr.add, ↓reduceIte] at hx105_1)
                have qi105 : (1 < l0_1.length) = True := eq_true (by omega)
                (try rw [show ((1 : Int)).toNat = 1 from rfl] at hx105_0)
                (try rw [show 1 * 2 = 2 from rfl] at hx105_0)
                (try rw [show ((1 : Int)).toNat = 1 from rfl] at hx105_1)
                (try rw [show 1 * 2 = 2 from rfl] at hx105_1)
                replace hx105_0 := (HB.out.cell (World.block_lt_of_cell? w _ hx105_0)).trans hx105_0
                replace hx105_1 := (HB.out.cell (World.block_lt_of_cell? w _ hx105_1)).trans hx105_1
                have HR105_1 := aM hi105_1
                have HC105_1 := aM hl105_1
                clear hi105_1 hl105_1
                replace p105 := eq_true p105
                replace q105 := eq_true q105
                refine start_ (n := 15) (S := fun w' => w'.cell? ⟨gb101, 0, none⟩ = some (.int .i64 a0_0) ∧ w'.cell? ⟨gb101, 1, none⟩ = some (.slice (some ad103) l0_1.length c0_1) ∧ w'.cell? ad103 = some (.int .i64 ((rd_T56 l0_1 0).f0)) ∧ w'.cell? ⟨ad103.block, ad103.off + 1, none⟩ = some (.slice A103_1 ((rd_T56 l0_1 0).f1).length c103_1) ∧ w'.cell? ⟨ad103.block, ad103.off + 2, none⟩ = some (.int .i64 ((rd_T56 l0_1 1).f0)) ∧ w'.cell? ⟨ad103.block, ad103.off + 2 + 1, none⟩ = some (.slice A105_1 ((rd_T56 l0_1 1).f1).length c105_1)) (ds := []) #[false, false, false, false, false, false, false, false, false, false, false, false, false, false, false] (by kernel_rfl) rfl rfl ⟨(blk_cell BK101.out 0).trans rfl, (blk_cell BK101.out 1).trans rfl, ((HB.out.cell (World.block_lt_of_cell? w _ hw103_0)).trans hw103_0), ((HB.out.cell (World.block_lt_of_cell? w _ hw103_1)).trans hw103_1), ((HB.out.cell (World.block_lt_of_cell? w _ hw105_0)).trans hw105_0), ((HB.out.cell (World.block_lt_of_cell? w _ hw105_1)).trans hw105_1)⟩ (fun hHeld => ?_); refine with_tabW spec_leText.tab3 spec_leText.bits3 (fun HT_ HW_ => ?_)
                generalize w16.drew = w18 at BK101 HB HR103_1 HR105_1 hx103_0 hx103_1 hx105_0 hx105_1 hHeld ⊢
                refine pure_ (i := 0) (N := some 11) (v := ?_) (a' := ?_) #[true, false, false, false, false, false, false, false, false, false, false, false, false, false, false] rfl rfl (any_of HT_.out (by kernel_rfl)) (fun _ _ _ h => h) (Or.inl ⟨by rfl, ?_⟩) ?_ ?_
                rotate_left
                · intro w'
                  go_simp
                  with_reducible rfl
                rotate_left
                · simp only [Act.put, List.setIfInBounds_toArray, List.set_cons_zero, List.set_cons_succ, i64_w, i32_w]
                  rfl
                refine pure_ (i := 7) (N := some 18) (v := ?_) (a' := ?_) #[true, false, false, false, false, false, false, true, false, false, false, false, false, false, false] rfl rfl (any_of HT_.out (by kernel_rfl)) (fun _ _ _ h => h) (Or.inl ⟨by rfl, ?_⟩) ?_ ?_
                rotate_left
                · intro w'
                  go_simp
                  with_reducible rfl
                rotate_left
                · simp only [Act.put, List.setIfInBounds_toArray, List.set_cons_zero, List.set_cons_succ, i64_w, i32_w]
                  rfl
                refine take_ (i := 1) (N := some 12) (v := ?_) (a' := ?_) #[true, true, false, false, false, false, false, true, false, false, false, false, false, false, false] rfl rfl (take_ofW HT_.out HW_.out (by kernel_rfl)) (fun _ _ _ h => h) (Or.inl ⟨by rfl, ?_⟩) hHeld ?_ ?_
                rotate_left
                · rintro w' ⟨s0, s1, s2, s3, s4, s5⟩
                  go_simp
                  with_reducible rfl
                rotate_left
                · simp only [Act.put, List.setIfInBounds_toArray, List.set_cons_zero, List.set_cons_succ, i64_w, i32_w]
                  rfl
                refine pure_ (i := 2) (N := some 13) (v := ?_) (a' := ?_) #[true, true, true, false, false, false, false, true, false, false, false, false, false, false, false] rfl rfl (any_of HT_.out (by kernel_rfl)) (fun _ _ _ h => h) (Or.inl ⟨by rfl, ?_⟩) ?_ ?_
                rotate_left
                · intro w'
                  go_simp
                  with_reducible rfl
                rotate_left
                · simp only [Act.put, List.setIfInBounds_toArray, List.set_cons_zero, List.set_cons_succ, i64_w, i32_w]
                  rfl
                refine take_ (i := 3) (N := some 14) (v := ?_) (a' := ?_) #[true, true, true, true, false, false, false, true, false, false, false, false, false, false, false] rfl rfl (take_ofW HT_.out HW_.out (by kernel_rfl)) (fun _ _ _ h => h) (Or.inl ⟨by rfl, ?_⟩) hHeld ?_ ?_
                rotate_left
                · rintro w' ⟨s0, s1, s2, s3, s4, s5⟩
                  go_simp
                  with_reducible rfl
                rotate_left
                · simp only [Act.put, List.setIfInBounds_toArray, List.set_cons_zero, List.set_cons_succ, i64_w, i32_w]
                  rfl
                refine take_ (i := 8) (N := some 19) (v := ?_) (a' := ?_) #[true, true, true, true, false, false, false, true, true, false, false, false, false, false, false] rfl rfl (take_ofW HT_.out HW_.out (by kernel_rfl)) (fun _ _ _ h => h) (Or.inl ⟨by rfl, ?_⟩) hHeld ?_ ?_
                rotate_left
                · rintro w' ⟨s0, s1, s2, s3, s4, s5⟩
                  go_simp
                  with_reducible rfl
                rotate_left
                · simp only [Act.put, List.setIfInBounds_toArray, List.set_cons_zero, List.set_cons_succ, i64_w, i32_w]
                  rfl
                refine pure_ (i := 9) (N := some 20) (v := ?_) (a' := ?_) #[true, true, true, true, false, false, false, true, true, true, false, false, false, false, false] rfl rfl (any_of HT_.out (by kernel_rfl)) (fun _ _ _ h => h) (Or.inl ⟨by rfl, ?_⟩) ?_ ?_
                rotate_left
                · intro w'
                  go_simp
                  with_reducible rfl
                rotate_left
                · simp only [Act.put, List.setIfInBounds_toArray, List.set_cons_zero, List.set_cons_succ, i64_w, i32_w]
                  rfl
                refine take_ (i := 10) (N := some 21) (v := ?_) (a' := ?_) #[true, true, true, true, false, false, false, true, true, true, true, false, false, false, false] rfl rfl (take_ofW HT_.out HW_.out (by kernel_rfl)) (fun _ _ _ h => h) (Or.inl ⟨by rfl, ?_⟩) hHeld ?_ ?_
                rotate_left
                · rintro w' ⟨s0, s1, s2, s3, s4, s5⟩
                  go_simp
                  with_reducible rfl
                rotate_left
                · simp only [Act.put, List.setIfInBounds_toArray, List.set_cons_zero, List.set_cons_succ, i64_w, i32_w]
                  rfl
                refine one_ (i := 4) (N := some 15) #[true, true, true, true, true, false, false, true, true, true, true, false, false, false, false] rfl rfl (one_of HT_.out (by kernel_rfl)) (by decide) (fun K hK => ?_)
                refine goes_ Tryd.func21 (by kernel_rfl) rfl #[.agg #[.int .i64 ((rd_T56 l0_1 0).f0), .slice A103_1 ((rd_T56 l0_1 0).f1).length c103_1]] (by rfl) rfl rfl (by (try simp only [List.map_toArray, List.map_cons, List.map_nil]); first | done | rfl | (simp only [List.length_drop, List.length_take]; rfl)) ?_
                with_reducible refine (ih k (by omega) ((rd_T56 l0_1 0).f0) _ _ ((rd_T56 l0_1 0).f1) t104 _ ?side1 ?side2 A9.out).mono ?_
                (case side1 => repeat (first | exact (Kd.C_below HR103_1.out HB.out) | (with_reducible refine Kd.C_alloc ?_ _) | (with_reducible refine Kd.C_drewN ?_ _) | (with_reducible refine Kd.C_drew ?_)))
                (case side2 => exact HC103_1.out)
                rintro e w19 ⟨rfl, hb⟩
                refine ⟨_, rfl, ?_⟩
                have n0_ := aM (blk_below (g := gb101) (o := .cells #[.int .i64 a0_0, .slice (some ad103) l0_1.length c0_1] 56 (0, 0)) (by (with_reducible repeat (first | refine bN ?_ _ | refine bD ?_ | refine bA ?_ _)); exact BK101.out) hb)
                have n1_ := aM (below_step (by repeat (first | (with_reducible first | exact HB.out | apply below_alloc | apply pw_below_drewN | apply below_drew1 | refine below_set ?_ GE101.out) | exact HB.out)) hb)
                clear BK101
                clear HB
                have BK101 := n0_
                have HB := n1_
                clear n0_ n1_
                (try clear hb)
                (try clear hb2)
                (try clear hk)
                (try clear hi)
                refine hK.out _ _ ⟨(blk_cell BK101.out 0).trans rfl, (blk_cell BK101.out 1).trans rfl, ((HB.out.cell (World.block_lt_of_cell? w _ hw103_0)).trans hw103_0), ((HB.out.cell (World.block_lt_of_cell? w _ hw103_1)).trans hw103_1), ((HB.out.cell (World.block_lt_of_cell? w _ hw105_0)).trans hw105_0), ((HB.out.cell (World.block_lt_of_cell? w _ hw105_1)).trans hw105_1)⟩ (fun hHeld => ?_)
                clear hK K
                refine norm_ (a' := ?_) ?_ ?_
                rotate_left
                · show Act.put _ (some 15) _ = _
                  simp only [Act.put, List.setIfInBounds_toArray, List.set_cons_zero, List.set_cons_succ, i64_w, i32_w]
                  rfl
                refine pure_ (i := 5) (N := some 16) (v := ?_) (a' := ?_) #[true, true, true, true, true, true, false, true, true, true, true, false, false, false, false] rfl rfl (any_of HT_.out (by kernel_rfl)) (fun _ _ _ h => h) (Or.inl ⟨by rfl, ?_⟩) ?_ ?_
                rotate_left
                · intro w'
                  go_simp
                  with_reducible rfl
                rotate_left
                · simp only [Act.put, List.setIfInBounds_toArray, List.set_cons_zero, List.set_cons_succ, i64_w, i32_w]
                  rfl
                refine pure_ (i := 6) (N := some 17) (v := ?_) (a' := ?_) #[true, true, true, true, true, true, true, true, true, true, true, false, false, false, false] rfl rfl (any_of HT_.out (by kernel_rfl)) (fun _ _ _ h => h) (Or.inl ⟨by rfl, ?_⟩) ?_ ?_
                rotate_left
                · intro w'
                  go_simp
                  with_reducible rfl
                rotate_left
                · simp only [Act.put, List.setIfInBounds_toArray, List.set_cons_zero, List.set_cons_succ, i64_w, i32_w]
                  rfl
                refine one_ (i := 11) (N := some 22) #[true, true, true, true, true, true, true, true, true, true, true, true, false, false, false] rfl rfl (one_of HT_.out (by kernel_rfl)) (by decide) (fun K hK => ?_)
                refine goes_ Tryd.func21 (by kernel_rfl) rfl #[.agg #[.int .i64 ((rd_T56 l0_1 1).f0), .slice A105_1 ((rd_T56 l0_1 1).f1).length c105_1]] (by rfl) rfl rfl (by (try simp only [List.map_toArray, List.map_cons, List.map_nil]); first | done | rfl | (simp only [List.length_drop, List.length_take]; rfl)) ?_
                with_reducible refine (ih k (by omega) ((rd_T56 l0_1 1).f0) _ _ ((rd_T56 l0_1 1).f1) t106 _ ?side1 ?side2 A13.out).mono ?_
                (case side1 => repeat (first | exact (Kd.C_below HR105_1.out HB.out) | (with_reducible refine Kd.C_alloc ?_ _) | (with_reducible refine Kd.C_drewN ?_ _) | (with_reducible refine Kd.C_drew ?_)))
                (case side2 => exact HC105_1.out)
                rintro e w20 ⟨rfl, hb⟩
                refine ⟨_, rfl, ?_⟩
                have n0_ := aM (blk_below (g := gb101) (o := .cells #[.int .i64 a0_0, .slice (some ad103) l0_1.length c0_1] 56 (0, 0)) (by (with_reducible repeat (first | refine bN ?_ _ | refine bD ?_ | refine bA ?_ _)); exact BK101.out) hb)
                have n1_ := aM (below_step (by repeat (first | (with_reducible first | exact HB.out | apply below_alloc | apply pw_below_drewN | apply below_drew1 | refine below_set ?_ GE101.out) | exact HB.out)) hb)
                clear BK101
                clear HB
                have BK101 := n0_
                have HB := n1_
                clear n0_ n1_
                (try clear hb)
                (try clear hb2)
                (try clear hk)
                (try clear hi)
                refine hK.out _ _ ⟨(blk_cell BK101.out 0).trans rfl, (blk_cell BK101.out 1).trans rfl, ((HB.out.cell (World.block_lt_of_cell? w _ hw103_0)).trans hw103_0), ((HB.out.cell (World.block_lt_of_cell? w _ hw103_1)).trans hw103_1), ((HB.out.cell (World.block_lt_of_cell? w _ hw105_0)).trans hw105_0), ((HB.out.cell (World.block_lt_of_cell? w _ hw105_1)).trans hw105_1)⟩ (fun hHeld => ?_)
                clear hK K
                refine norm_ (a' := ?_) ?_ ?_
                rotate_left
                · show Act.put _ (some 22) _ = _
                  simp only [Act.put, List.setIfInBounds_toArray, List.set_cons_zero, List.set_cons_succ, i64_w, i32_w]
                  rfl
                refine pure_ (i := 12) (N := some 23) (v := ?_) (a' := ?_) #[true, true, true, true, true, true, true, true, true, true, true, true, true, false, false] rfl rfl (any_of HT_.out (by kernel_rfl)) (fun _ _ _ h => h) (Or.inl ⟨by rfl, ?_⟩) ?_ ?_
                rotate_left
                · intro w'
                  go_simp
                  with_reducible rfl
                rotate_left
                · simp only [Act.put, List.setIfInBounds_toArray, List.set_cons_zero, List.set_cons_succ, i64_w, i32_w]
                  rfl
                refine pure_ (i := 13) (N := some 24) (v := ?_) (a' := ?_) #[true, true, true, true, true, true, true, true, true, true, true, true, true, true, false] rfl rfl (any_of HT_.out (by kernel_rfl)) (fun _ _ _ h => h) (Or.inl ⟨by rfl, ?_⟩) ?_ ?_
                rotate_left
                · intro w'
                  go_simp
                  with_reducible rfl
                rotate_left
                · simp only [Act.put, List.setIfInBounds_toArray, List.set_cons_zero, List.set_cons_succ, i64_w, i32_w]
                  rfl
                refine pure_ (i := 14) (N := some 2) (v := ?_) (a' := ?_) #[true, true, true, true, true, true, true, true, true, true, true, true, true, true, true] rfl rfl (any_of HT_.out (by kernel_rfl)) (fun _ _ _ h => h) (Or.inl ⟨by rfl, ?_⟩) ?_ ?_
                rotate_left
                · intro w'
                  go_simp
                  with_reducible rfl
                rotate_left
                · simp only [Act.put, List.setIfInBounds_toArray, List.set_cons_zero, List.set_cons_succ, i64_w, i32_w]
                  rfl
                refine done_ (done_of HT_.out (by kernel_rfl)) ?_
                try go_wp2
                go_ret
                exact ⟨by first | rfl | (simp [errW_none, errW_some] <;> rfl) | (simp [*, errW_none, errW_some] <;> rfl), by repeat (first | (with_reducible first | exact HB.out | apply below_alloc | apply pw_below_drewN | apply below_drew1 | refine below_set ?_ GE101.out) | exact HB.out)⟩
              · rw [if_neg c15] at H
                exact absurd H (by simp)
            · rw [if_neg c14] at H
              exact absurd H (by simp)
          · rw [if_neg c12] at H
            exact absurd H (by simp)
        · rw [if_neg c11] at H
          exact absurd H (by simp)
      · rw [if_neg c10] at H
        exact absurd H (by simp)
    · rw [if_neg c8] at H
      exact absurd H (by simp)


def IsS39 (w0 W : World) (g : Nat) (f0 : List Int) (f1 : Int) (f2 : Int) : Prop := ∃ A0 c0, W.heap[g]? = some (.cells #[.slice A0 f0.length c0, .int .i64 f1, .int .u64 f2] 39 (0, 0)) ∧ w0.heap.size ≤ g ∧ Kd.C (Kd.int .u8) w0 A0 f0.length f0
theorem IsS39.grown {w0 W : World} {g : Nat} {f0 : List Int} {f1 : Int} {f2 : Int} {W1 : World} {row : Option Nat} (h : IsS39 w0 W g f0 f1 f2) (hw : W.grownBy W1 row) (hne : some g ≠ row) : IsS39 w0 W1 g f0 f1 f2 := by
  obtain ⟨A0, c0, hb, hg, hr0⟩ := h
  exact ⟨A0, c0, blk_grown hb hw hne, hg, hr0⟩
theorem IsS39.fresh {w0 W : World} {g : Nat} {f0 : List Int} {f1 : Int} {f2 : Int} (h : IsS39 w0 W g f0 f1 f2) : ∀ k, W.heap.size ≤ k → k ≠ g := by
  obtain ⟨A0, c0, hb, hg, hr0⟩ := h
  exact Kd.freshB hb
theorem IsS39.kept {w0 W : World} {g : Nat} {f0 : List Int} {f1 : Int} {f2 : Int} {W1 : World} {S : Nat → Prop} (h : IsS39 w0 W g f0 f1 f2) (hk : Kept W W1 S) (hne : ¬ S g) : IsS39 w0 W1 g f0 f1 f2 := by
  obtain ⟨A0, c0, hb, hg, hr0⟩ := h
  exact ⟨A0, c0, blk_kept hb hk hne, hg, hr0⟩
theorem IsS39.below {w0 W : World} {g : Nat} {f0 : List Int} {f1 : Int} {f2 : Int} {W1 : World} (h : IsS39 w0 W g f0 f1 f2) (hw : Below W.heap.size W W1) : IsS39 w0 W1 g f0 f1 f2 := h.grown (grown_of_below hw none) (by simp)
theorem IsS39.alloc {w0 W : World} {g : Nat} {f0 : List Int} {f1 : Int} {f2 : Int} (h : IsS39 w0 W g f0 f1 f2) (o : Obj) : IsS39 w0 (W.alloc o) g f0 f1 f2 := h.below (below_alloc (Below.refl _ _) o)
theorem IsS39.drewN {w0 W : World} {g : Nat} {f0 : List Int} {f1 : Int} {f2 : Int} (h : IsS39 w0 W g f0 f1 f2) (m : Nat) : IsS39 w0 (W.drewN m) g f0 f1 f2 := h
theorem IsS39.drew {w0 W : World} {g : Nat} {f0 : List Int} {f1 : Int} {f2 : Int} (h : IsS39 w0 W g f0 f1 f2) : IsS39 w0 W.drew g f0 f1 f2 := h
theorem IsS39.apart {w0 W : World} {g : Nat} {f0 : List Int} {f1 : Int} {f2 : Int} {α : Type} {d : Kd α} {e : Nat} {base : Nat} {ok : Nat → Prop} {v : Value} {xs : List α} (h : IsS39 w0 W g f0 f1 f2) (ho : d.R e W base ok v xs) (ht : ∀ q, q ∈ e :: d.E → q ≠ 39) : d.R e W base (fun k => ok k ∧ k ≠ g) v xs := by
  obtain ⟨A0, c0, hb, hg, hr0⟩ := h
  exact Kd.R_types ho hb ht
theorem IsS39.own_ne {w0 W : World} {g : Nat} {f0 : List Int} {f1 : Int} {f2 : Int} {α : Type} {d : Kd α} {e : Nat} {base : Nat} {ok : Nat → Prop} {v : Value} {xs : List α} (h : IsS39 w0 W g f0 f1 f2) (ho : d.R e W base ok v xs) (ht : e ≠ 39) : some g ≠ v.ownBlock := by
  obtain ⟨A0, c0, hb, hg, hr0⟩ := h
  exact Kd.R_ne ho hb ht
theorem IsS39.lt {w0 W : World} {g : Nat} {f0 : List Int} {f1 : Int} {f2 : Int} (h : IsS39 w0 W g f0 f1 f2) : g < W.heap.size := by
  obtain ⟨A0, c0, hb, hg, hr0⟩ := h
  exact blk_lt hb
theorem IsS39.ge {w0 W : World} {g : Nat} {f0 : List Int} {f1 : Int} {f2 : Int} (h : IsS39 w0 W g f0 f1 f2) : w0.heap.size ≤ g := by
  obtain ⟨A0, c0, hb, hg, hr0⟩ := h
  exact hg
theorem IsS39.far {w0 W : World} {g : Nat} {f0 : List Int} {f1 : Int} {f2 : Int} {p : Addr} (h : IsS39 w0 W g f0 f1 f2) (hne : g ≠ p.block) (u : Value) : IsS39 w0 (W.setCell p u) g f0 f1 f2 := by
  obtain ⟨A0, c0, hb, hg, hr0⟩ := h
  exact ⟨A0, c0, blk_far hb hne u, hg, hr0⟩
theorem cellS39_0 {W : World} {g : Nat} {A0 : Option Addr} {c0 : Nat} {f0 : List Int} {f1 : Int} {f2 : Int} (h : W.heap[g]? = some (.cells #[.slice A0 f0.length c0, .int .i64 f1, .int .u64 f2] 39 (0, 0))) : W.cell? ⟨g, 0, none⟩ = some (.slice A0 f0.length c0) := (blk_cell h 0).trans rfl
theorem cellS39_1 {W : World} {g : Nat} {A0 : Option Addr} {c0 : Nat} {f0 : List Int} {f1 : Int} {f2 : Int} (h : W.heap[g]? = some (.cells #[.slice A0 f0.length c0, .int .i64 f1, .int .u64 f2] 39 (0, 0))) : W.cell? ⟨g, 1, none⟩ = some (.int .i64 f1) := (blk_cell h 1).trans rfl
theorem IsS39.set_1 {w0 W : World} {g : Nat} {f0 : List Int} {f1 : Int} {f2 : Int} (h : IsS39 w0 W g f0 f1 f2) (x : Int) : IsS39 w0 (W.setCell ⟨g, 1, none⟩ (.int .i64 x)) g f0 x f2 := by
  obtain ⟨A0, c0, hb, hg, hr0⟩ := h
  exact ⟨A0, c0, by simpa using blk_set hb 1 (.int .i64 x), hg, hr0⟩
theorem cellS39_2 {W : World} {g : Nat} {A0 : Option Addr} {c0 : Nat} {f0 : List Int} {f1 : Int} {f2 : Int} (h : W.heap[g]? = some (.cells #[.slice A0 f0.length c0, .int .i64 f1, .int .u64 f2] 39 (0, 0))) : W.cell? ⟨g, 2, none⟩ = some (.int .u64 f2) := (blk_cell h 2).trans rfl
theorem IsS39.set_2 {w0 W : World} {g : Nat} {f0 : List Int} {f1 : Int} {f2 : Int} (h : IsS39 w0 W g f0 f1 f2) (x : Int) : IsS39 w0 (W.setCell ⟨g, 2, none⟩ (.int .u64 x)) g f0 f1 x := by
  obtain ⟨A0, c0, hb, hg, hr0⟩ := h
  exact ⟨A0, c0, by simpa using blk_set hb 2 (.int .u64 x), hg, hr0⟩
theorem IsS39.new (w0 W : World) (A0 : Option Addr) (c0 : Nat) (f0 : List Int) (f1 : Int) (f2 : Int) (hB : Below w0.heap.size w0 W) (hr0 : Kd.C (Kd.int .u8) w0 A0 f0.length f0) : IsS39 w0 (W.alloc (.cells #[.slice A0 f0.length c0, .int .i64 f1, .int .u64 f2] 39)) W.heap.size f0 f1 f2 := ⟨A0, c0, by simpa using heap_alloc_new W _, hB.size, hr0⟩

def spec_l1Cur_next.f (s0_0 : List Int) (s0_1 : Int) (s0_2 : Int) : Option (Int × Int × Int) := if s0_1 < (s0_0.length : Int) then (if 0 ≤ s0_1 then (if (wrap64 (s0_1 + 1)) ≤ (s0_0.length : Int) then (some (wrap64 (rd s0_0 s0_1), wrap64 (s0_1 + 1), IntKind.u64.wrap ((IntKind.u64.wrap ((IntKind.u64.wrap (s0_2 * 6364136223846793005)) + (IntKind.u64.wrap (wrap64 (rd s0_0 s0_1))))) + 1442695040888963407))) else (some (wrap64 (Go.bits .and .u64 ((IntKind.u64.wrap ((IntKind.u64.wrap ((IntKind.u64.wrap (s0_2 * 6364136223846793005)) + (IntKind.u64.wrap (wrap64 (rd s0_0 s0_1))))) + 1442695040888963407)) / 1099511627776) 255), wrap64 (s0_1 + 1), IntKind.u64.wrap ((IntKind.u64.wrap ((IntKind.u64.wrap (s0_2 * 6364136223846793005)) + (IntKind.u64.wrap (wrap64 (rd s0_0 s0_1))))) + 1442695040888963407)))) else (none)) else (if (wrap64 (s0_1 + 1)) ≤ (s0_0.length : Int) then (some (0, wrap64 (s0_1 + 1), IntKind.u64.wrap ((IntKind.u64.wrap ((IntKind.u64.wrap (s0_2 * 6364136223846793005)) + 0)) + 1442695040888963407))) else (some (wrap64 (Go.bits .and .u64 ((IntKind.u64.wrap ((IntKind.u64.wrap ((IntKind.u64.wrap (s0_2 * 6364136223846793005)) + 0)) + 1442695040888963407)) / 1099511627776) 255), wrap64 (s0_1 + 1), IntKind.u64.wrap ((IntKind.u64.wrap ((IntKind.u64.wrap (s0_2 * 6364136223846793005)) + 0)) + 1442695040888963407))))
set_option maxHeartbeats 8000000 in
set_option maxRecDepth 100000 in
theorem spec_l1Cur_next.calls (g : Nat) (s0_0 : List Int) (s0_1 : Int) (s0_2 : Int) (r1 : Int) (r2 : Int) (r3 : Int) (w0 w : World) (hI : IsS39 w0 w g s0_0 s0_1 s0_2) (hB : Below w0.heap.size w0 w) (h : spec_l1Cur_next.f s0_0 s0_1 s0_2 = some (r1, r2, r3)) :
    Calls Tryd.prog 45 #[.pointer (some ⟨g, 0, none⟩)] w fun e w' => e = .returned (.int .i64 r1) ∧ IsS39 w0 w' g s0_0 r2 r3 ∧ Below w0.heap.size w0 w' ∧ KeepBut w w' g none := by
  have HI0 := aM hI
  have HK := aM (KeepBut.refl w g none)
  have HL := aM hB.size
  clear hI
  have HW0 := aM hB.size
  have HB := aM hB
  clear hB
  have H : (if s0_1 < (s0_0.length : Int) then (if 0 ≤ s0_1 then (if (wrap64 (s0_1 + 1)) ≤ (s0_0.length : Int) then (some (wrap64 (rd s0_0 s0_1), wrap64 (s0_1 + 1), IntKind.u64.wrap ((IntKind.u64.wrap ((IntKind.u64.wrap (s0_2 * 6364136223846793005)) + (IntKind.u64.wrap (wrap64 (rd s0_0 s0_1))))) + 1442695040888963407))) else (some (wrap64 (Go.bits .and .u64 ((IntKind.u64.wrap ((IntKind.u64.wrap ((IntKind.u64.wrap (s0_2 * 6364136223846793005)) + (IntKind.u64.wrap (wrap64 (rd s0_0 s0_1))))) + 1442695040888963407)) / 1099511627776) 255), wrap64 (s0_1 + 1), IntKind.u64.wrap ((IntKind.u64.wrap ((IntKind.u64.wrap (s0_2 * 6364136223846793005)) + (IntKind.u64.wrap (wrap64 (rd s0_0 s0_1))))) + 1442695040888963407)))) else (none)) else (if (wrap64 (s0_1 + 1)) ≤ (s0_0.length : Int) then (some (0, wrap64 (s0_1 + 1), IntKind.u64.wrap ((IntKind.u64.wrap ((IntKind.u64.wrap (s0_2 * 6364136223846793005)) + 0)) + 1442695040888963407))) else (some (wrap64 (Go.bits .and .u64 ((IntKind.u64.wrap ((IntKind.u64.wrap ((IntKind.u64.wrap (s0_2 * 6364136223846793005)) + 0)) + 1442695040888963407)) / 1099511627776) 255), wrap64 (s0_1 + 1), IntKind.u64.wrap ((IntKind.u64.wrap ((IntKind.u64.wrap (s0_2 * 6364136223846793005)) + 0)) + 1442695040888963407))))) = some (r1, r2, r3) := h
  clear h
  by_cases c2 : s0_1 < (s0_0.length : Int)
  · rw [if_pos c2] at H
    have c2b0 : decide (s0_1 < (s0_0.length : Int)) = true := decide_eq_true c2
    clear c2
    by_cases c3 : 0 ≤ s0_1
    · rw [if_pos c3] at H
      have c3b0 : decide (0 ≤ s0_1) = true := decide_eq_true c3
      clear c3
      by_cases c4 : (wrap64 (s0_1 + 1)) ≤ (s0_0.length : Int)
      · rw [if_pos c4] at H
        have c4b0 : decide ((wrap64 (s0_1 + 1)) ≤ (s0_0.length : Int)) = true := decide_eq_true c4
        clear c4
        simp only [Option.some.injEq, Prod.mk.injEq] at H
        obtain ⟨rfl, rfl, rfl⟩ := H
        obtain ⟨ASz5_0, cSz5_0, HGz5, hgz5, HSz5_0⟩ := HI0.out
        have hcz5_0 := cellS39_0 HGz5
        have hcz5_1 := cellS39_1 HGz5
        have hcz5_2 := cellS39_2 HGz5
        have hfz5_1 := blk_frozen HGz5 1
        have hfz5_2 := blk_frozen HGz5 2
        clear HGz5 hgz5
        have p101 : 0 ≤ (s0_1 : Int) := of_decide_eq_true (by first | (with_reducible assumption) | assumption)
        have q101 : s0_1 < (s0_0.length : Int) := of_decide_eq_true (by first | (with_reducible assumption) | assumption)
        obtain ⟨ad101, e101, hx101_0⟩ := Kd.at_int HSz5_0 s0_1 p101 q101
        cases e101
        replace hx101_0 := pw_cell_below HB.out hx101_0
        replace p101 := eq_true p101
        replace q101 := eq_true q101
        go_enter Tryd.func45, Tryd.ntmps45
        go_wp2
        repeat (go_quiet (fail); try go_wp2)
        go_ret
        exact ⟨by first | rfl | (simp [errW_none, errW_some] <;> rfl) | (simp [*, errW_none, errW_some] <;> rfl), by repeat (first | (with_reducible first | exact HI0.out | apply IsS39.alloc | apply IsS39.drewN | apply IsS39.drew | apply IsS39.set_1 | apply IsS39.set_2) | exact HI0.out), by repeat (first | (with_reducible first | exact HB.out | apply below_alloc | apply pw_below_drewN | apply below_drew1 | refine below_set ?_ (IsS39.ge HI0.out)) | exact HB.out), by repeat (first | (with_reducible first | exact HK.out | apply KeepBut.set_ | apply keep_drewN | apply keep_drew | apply keep_alloc) | exact HK.out)⟩
      · rw [if_neg c4] at H
        have c4b0 : decide ((wrap64 (s0_1 + 1)) ≤ (s0_0.length : Int)) = false := decide_eq_false c4
        clear c4
        simp only [Option.some.injEq, Prod.mk.injEq] at H
        obtain ⟨rfl, rfl, rfl⟩ := H
        obtain ⟨ASz6_0, cSz6_0, HGz6, hgz6, HSz6_0⟩ := HI0.out
        have hcz6_0 := cellS39_0 HGz6
        have hcz6_1 := cellS39_1 HGz6
        have hcz6_2 := cellS39_2 HGz6
        have hfz6_1 := blk_frozen HGz6 1
        have hfz6_2 := blk_frozen HGz6 2
        clear HGz6 hgz6
        have p101 : 0 ≤ (s0_1 : Int) := of_decide_eq_true (by first | (with_reducible assumption) | assumption)
        have q101 : s0_1 < (s0_0.length : Int) := of_decide_eq_true (by first | (with_reducible assumption) | assumption)
        obtain ⟨ad101, e101, hx101_0⟩ := Kd.at_int HSz6_0 s0_1 p101 q101
        cases e101
        replace hx101_0 := pw_cell_below HB.out hx101_0
        replace p101 := eq_true p101
        replace q101 := eq_true q101
        go_enter Tryd.func45, Tryd.ntmps45
        go_wp2
        repeat (go_quiet (fail); try go_wp2)
        go_ret
        exact ⟨by first | rfl | (simp [errW_none, errW_some] <;> rfl) | (simp [*, errW_none, errW_some] <;> rfl), by repeat (first | (with_reducible first | exact HI0.out | apply IsS39.alloc | apply IsS39.drewN | apply IsS39.drew | apply IsS39.set_1 | apply IsS39.set_2) | exact HI0.out), by repeat (first | (with_reducible first | exact HB.out | apply below_alloc | apply pw_below_drewN | apply below_drew1 | refine below_set ?_ (IsS39.ge HI0.out)) | exact HB.out), by repeat (first | (with_reducible first | exact HK.out | apply KeepBut.set_ | apply keep_drewN | apply keep_drew | apply keep_alloc) | exact HK.out)⟩
    · rw [if_neg c3] at H
      exact absurd H (by simp)
  · rw [if_neg c2] at H
    have c2b0 : decide (s0_1 < (s0_0.length : Int)) = false := decide_eq_false c2
    clear c2
    by_cases c7 : (wrap64 (s0_1 + 1)) ≤ (s0_0.length : Int)
    · rw [if_pos c7] at H
      have c7b0 : decide ((wrap64 (s0_1 + 1)) ≤ (s0_0.length : Int)) = true := decide_eq_true c7
      clear c7
      simp only [Option.some.injEq, Prod.mk.injEq] at H
      obtain ⟨rfl, rfl, rfl⟩ := H
      obtain ⟨ASz8_0, cSz8_0, HGz8, hgz8, HSz8_0⟩ := HI0.out
      have hcz8_0 := cellS39_0 HGz8
      have hcz8_1 := cellS39_1 HGz8
      have hcz8_2 := cellS39_2 HGz8
      have hfz8_1 := blk_frozen HGz8 1
      have hfz8_2 := blk_frozen HGz8 2
      clear HGz8 hgz8
      go_enter Tryd.func45, Tryd.ntmps45
      go_wp2
      repeat (go_quiet (fail); try go_wp2)
      go_ret
      simp only [Int.add_zero]
      exact ⟨by first | rfl | (simp [errW_none, errW_some] <;> rfl) | (simp [*, errW_none, errW_some] <;> rfl), by repeat (first | (with_reducible first | exact HI0.out | apply IsS39.alloc | apply IsS39.drewN | apply IsS39.drew | apply IsS39.set_1 | apply IsS39.set_2) | exact HI0.out), by repeat (first | (with_reducible first | exact HB.out | apply below_alloc | apply pw_below_drewN | apply below_drew1 | refine below_set ?_ (IsS39.ge HI0.out)) | exact HB.out), by repeat (first | (with_reducible first | exact HK.out | apply KeepBut.set_ | apply keep_drewN | apply keep_drew | apply keep_alloc) | exact HK.out)⟩
    · rw [if_neg c7] at H
      have c7b0 : decide ((wrap64 (s0_1 + 1)) ≤ (s0_0.length : Int)) = false := decide_eq_false c7
      clear c7
      simp only [Option.some.injEq, Prod.mk.injEq] at H
      obtain ⟨rfl, rfl, rfl⟩ := H
      obtain ⟨ASz9_0, cSz9_0, HGz9, hgz9, HSz9_0⟩ := HI0.out
      have hcz9_0 := cellS39_0 HGz9
      have hcz9_1 := cellS39_1 HGz9
      have hcz9_2 := cellS39_2 HGz9
      have hfz9_1 := blk_frozen HGz9 1
      have hfz9_2 := blk_frozen HGz9 2
      clear HGz9 hgz9
      go_enter Tryd.func45, Tryd.ntmps45
      go_wp2
      repeat (go_quiet (fail); try go_wp2)
      go_ret
      simp only [Int.add_zero]
      exact ⟨by first | rfl | (simp [errW_none, errW_some] <;> rfl) | (simp [*, errW_none, errW_some] <;> rfl), by repeat (first | (with_reducible first | exact HI0.out | apply IsS39.alloc | apply IsS39.drewN | apply IsS39.drew | apply IsS39.set_1 | apply IsS39.set_2) | exact HI0.out), by repeat (first | (with_reducible first | exact HB.out | apply below_alloc | apply pw_below_drewN | apply below_drew1 | refine below_set ?_ (IsS39.ge HI0.out)) | exact HB.out), by repeat (first | (with_reducible first | exact HK.out | apply KeepBut.set_ | apply keep_drewN | apply keep_drew | apply keep_alloc) | exact HK.out)⟩


def spec_l1Cur_pick.f (s0_0 : List Int) (s0_1 : Int) (s0_2 : Int) (a1 : Int) : Option (Int × Int × Int) := if a1 ≤ 1 then (some (0, s0_1, s0_2)) else ((spec_l1Cur_next.f s0_0 s0_1 s0_2).bind fun bt101 => (if a1 > 200 then ((spec_l1Cur_next.f s0_0 bt101.2.1 bt101.2.2).bind fun bt104 => (if a1 = 0 then (none) else (some (Int.tmod (wrap64 ((wrap64 (bt101.1 * 256)) + bt104.1)) a1, bt104.2.1, bt104.2.2)))) else (if a1 = 0 then (none) else (some (Int.tmod bt101.1 a1, bt101.2.1, bt101.2.2)))))
set_option maxHeartbeats 8000000 in
set_option maxRecDepth 100000 in
theorem spec_l1Cur_pick.calls (g : Nat) (s0_0 : List Int) (s0_1 : Int) (s0_2 : Int) (a1 : Int) (r1 : Int) (r2 : Int) (r3 : Int) (w0 w : World) (hI : IsS39 w0 w g s0_0 s0_1 s0_2) (hB : Below w0.heap.size w0 w) (h : spec_l1Cur_pick.f s0_0 s0_1 s0_2 a1 = some (r1, r2, r3)) :
    Calls Tryd.prog 27 #[.pointer (some ⟨g, 0, none⟩), .int .i64 a1] w fun e w' => e = .returned (.int .i64 r1) ∧ IsS39 w0 w' g s0_0 r2 r3 ∧ Below w0.heap.size w0 w' ∧ KeepBut w w' g none := by
  have HI0 := aM hI
  have HK := aM (KeepBut.refl w g none)
  have HL := aM hB.size
  clear hI
  have HW0 := aM hB.size
  have HB := aM hB
  clear hB
  have H : (if a1 ≤ 1 then (some (0, s0_1, s0_2)) else ((spec_l1Cur_next.f s0_0 s0_1 s0_2).bind fun bt101 => (if a1 > 200 then ((spec_l1Cur_next.f s0_0 bt101.2.1 bt101.2.2).bind fun bt104 => (if a1 = 0 then (none) else (some (Int.tmod (wrap64 ((wrap64 (bt101.1 * 256)) + bt104.1)) a1, bt104.2.1, bt104.2.2)))) else (if a1 = 0 then (none) else (some (Int.tmod bt101.1 a1, bt101.2.1, bt101.2.2)))))) = some (r1, r2, r3) := h
  clear h
  by_cases c3 : a1 ≤ 1
  · rw [if_pos c3] at H
    have c3b0 : decide (a1 ≤ 1) = true := decide_eq_true c3
    clear c3
    simp only [Option.some.injEq, Prod.mk.injEq] at H
    obtain ⟨rfl, rfl, rfl⟩ := H
    go_enter Tryd.func27, Tryd.ntmps27
    go_wp2
    go_ret
    exact ⟨by first | rfl | (simp [errW_none, errW_some] <;> rfl) | (simp [*, errW_none, errW_some] <;> rfl), by repeat (first | (with_reducible first | exact HI0.out | apply IsS39.alloc | apply IsS39.drewN | apply IsS39.drew | apply IsS39.set_1 | apply IsS39.set_2) | exact HI0.out), by repeat (first | (with_reducible first | exact HB.out | apply below_alloc | apply pw_below_drewN | apply below_drew1 | refine below_set ?_ (IsS39.ge HI0.out)) | exact HB.out), by repeat (first | (with_reducible first | exact HK.out | apply KeepBut.set_ | apply keep_drewN | apply keep_drew | apply keep_alloc) | exact HK.out)⟩
  · rw [if_neg c3] at H
    have c3b0 : decide (a1 ≤ 1) = false := decide_eq_false c3
    clear c3
    replace H := Option.bind_eq_some_iff.mp H
    obtain ⟨⟨t101, t102, t103⟩, A40, H⟩ := H
    replace H : (if a1 > 200 then ((spec_l1Cur_next.f s0_0 t102 t103).bind fun bt104 => (if a1 = 0 then (none) else (some (Int.tmod (wrap64 ((wrap64 (t101 * 256)) + bt104.1)) a1, bt104.2.1, bt104.2.2)))) else (if a1 = 0 then (none) else (some (Int.tmod t101 a1, t102, t103)))) = some (r1, r2, r3) := H
    have A4 := aM A40
    clear A40
    by_cases c5 : a1 > 200
    · rw [if_pos c5] at H
      have c5b0 : decide (200 < a1) = true := decide_eq_true c5
      clear c5
      replace H := Option.bind_eq_some_iff.mp H
      obtain ⟨⟨t104, t105, t106⟩, A60, H⟩ := H
      replace H : (if a1 = 0 then (none) else (some (Int.tmod (wrap64 ((wrap64 (t101 * 256)) + t104)) a1, t105, t106))) = some (r1, r2, r3) := H
      have A6 := aM A60
      clear A60
      by_cases c7 : a1 = 0
      · rw [if_pos c7] at H
        exact absurd H (by simp)
      · rw [if_neg c7] at H
        have c7b0 : (a1 == 0) = false := beq_eq_false_iff_ne.mpr c7
        have c7b1 : (a1 != 0) = true := bne_iff_ne.mpr c7
        simp only [Option.some.injEq, Prod.mk.injEq] at H
        obtain ⟨rfl, rfl, rfl⟩ := H
        go_enter Tryd.func27, Tryd.ntmps27
        go_wp2_with (first | ((with_reducible refine gate_callee (f := 45) rfl ?_); refine goesL_ (some 9) rfl rfl Tryd.func45 (by kernel_rfl) rfl #[.pointer (some ⟨g, 0, none⟩)] rfl (by (try simp only [List.map_toArray, List.map_cons, List.map_nil]); first | done | rfl | (simp only [List.length_drop, List.length_take]; rfl)) ?_; (with_reducible refine (spec_l1Cur_next.calls g s0_0 s0_1 s0_2 t101 t102 t103 w0 _ ?side1 ?side2 A4.out).mono ?_); (case side1 => repeat (first | (with_reducible first | exact HI0.out | apply IsS39.alloc | apply IsS39.drewN | apply IsS39.drew | apply IsS39.set_1 | apply IsS39.set_2) | exact HI0.out)); (case side2 => repeat (first | (with_reducible first | exact HB.out | apply below_alloc | apply pw_below_drewN | apply below_drew1 | refine below_set ?_ (IsS39.ge HI0.out)) | exact HB.out)); rintro e w8 ⟨rfl, hi, hb, hk⟩; refine ⟨_, rfl, ?_⟩; have n0_ := aM (KeepBut.trans (by repeat (first | (with_reducible first | exact HK.out | apply KeepBut.set_ | apply keep_drewN | apply keep_drew | apply keep_alloc) | exact HK.out)) hk (.inl rfl)); have n1_ := aM (hb); have n2_ := aM (hi); clear HK; clear HB; clear HI0; have HK := n0_; have HB := n1_; have HI0 := n2_; clear n0_ n1_ n2_; (try clear hb); (try clear hb2); (try clear hk); (try clear hi)) | ((with_reducible refine gate_callee (f := 45) rfl ?_); refine goesL_ (some 15) rfl rfl Tryd.func45 (by kernel_rfl) rfl #[.pointer (some ⟨g, 0, none⟩)] rfl (by (try simp only [List.map_toArray, List.map_cons, List.map_nil]); first | done | rfl | (simp only [List.length_drop, List.length_take]; rfl)) ?_; (with_reducible refine (spec_l1Cur_next.calls g s0_0 t102 t103 t104 t105 t106 w0 _ ?side1 ?side2 A6.out).mono ?_); (case side1 => repeat (first | (with_reducible first | exact HI0.out | apply IsS39.alloc | apply IsS39.drewN | apply IsS39.drew | apply IsS39.set_1 | apply IsS39.set_2) | exact HI0.out)); (case side2 => repeat (first | (with_reducible first | exact HB.out | apply below_alloc | apply pw_below_drewN | apply below_drew1 | refine below_set ?_ (IsS39.ge HI0.out)) | exact HB.out)); rintro e w9 ⟨rfl, hi, hb, hk⟩; refine ⟨_, rfl, ?_⟩; have n0_ := aM (KeepBut.trans (by repeat (first | (with_reducible first | exact HK.out | apply KeepBut.set_ | apply keep_drewN | apply keep_drew | apply keep_alloc) | exact HK.out)) hk (.inl rfl)); have n1_ := aM (hb); have n2_ := aM (hi); clear HK; clear HB; clear HI0; have HK := n0_; have HB := n1_; have HI0 := n2_; clear n0_ n1_ n2_; (try clear hb); (try clear hb2); (try clear hk); (try clear hi)))
        go_ret
        exact ⟨by first | rfl | (simp [errW_none, errW_some] <;> rfl) | (simp [*, errW_none, errW_some] <;> rfl), by repeat (first | (with_reducible first | exact HI0.out | apply IsS39.alloc | apply IsS39.drewN | apply IsS39.drew | apply IsS39.set_1 | apply IsS39.set_2) | exact HI0.out), by repeat (first | (with_reducible first | exact HB.out | apply below_alloc | apply pw_below_drewN | apply below_drew1 | refine below_set ?_ (IsS39.ge HI0.out)) | exact HB.out), by repeat (first | (with_reducible first | exact HK.out | apply KeepBut.set_ | apply keep_drewN | apply keep_drew | apply keep_alloc) | exact HK.out)⟩
    · rw [if_neg c5] at H
      have c5b0 : decide (200 < a1) = false := decide_eq_false c5
      clear c5
      by_cases c10 : a1 = 0
      · rw [if_pos c10] at H
        exact absurd H (by simp)
      · rw [if_neg c10] at H
        have c10b0 : (a1 == 0) = false := beq_eq_false_iff_ne.mpr c10
        have c10b1 : (a1 != 0) = true := bne_iff_ne.mpr c10
        simp only [Option.some.injEq, Prod.mk.injEq] at H
        obtain ⟨rfl, rfl, rfl⟩ := H
        go_enter Tryd.func27, Tryd.ntmps27
        go_wp2_with (first | ((with_reducible refine gate_callee (f := 45) rfl ?_); refine goesL_ (some 9) rfl rfl Tryd.func45 (by kernel_rfl) rfl #[.pointer (some ⟨g, 0, none⟩)] rfl (by (try simp only [List.map_toArray, List.map_cons, List.map_nil]); first | done | rfl | (simp only [List.length_drop, List.length_take]; rfl)) ?_; (with_reducible refine (spec_l1Cur_next.calls g s0_0 s0_1 s0_2 t101 t102 t103 w0 _ ?side1 ?side2 A4.out).mono ?_); (case side1 => repeat (first | (with_reducible first | exact HI0.out | apply IsS39.alloc | apply IsS39.drewN | apply IsS39.drew | apply IsS39.set_1 | apply IsS39.set_2) | exact HI0.out)); (case side2 => repeat (first | (with_reducible first | exact HB.out | apply below_alloc | apply pw_below_drewN | apply below_drew1 | refine below_set ?_ (IsS39.ge HI0.out)) | exact HB.out)); rintro e w11 ⟨rfl, hi, hb, hk⟩; refine ⟨_, rfl, ?_⟩; have n0_ := aM (KeepBut.trans (by repeat (first | (with_reducible first | exact HK.out | apply KeepBut.set_ | apply keep_drewN | apply keep_drew | apply keep_alloc) | exact HK.out)) hk (.inl rfl)); have n1_ := aM (hb); have n2_ := aM (hi); clear HK; clear HB; clear HI0; have HK := n0_; have HB := n1_; have HI0 := n2_; clear n0_ n1_ n2_; (try clear hb); (try clear hb2); (try clear hk); (try clear hi)))
        go_ret
        exact ⟨by first | rfl | (simp [errW_none, errW_some] <;> rfl) | (simp [*, errW_none, errW_some] <;> rfl), by repeat (first | (with_reducible first | exact HI0.out | apply IsS39.alloc | apply IsS39.drewN | apply IsS39.drew | apply IsS39.set_1 | apply IsS39.set_2) | exact HI0.out), by repeat (first | (with_reducible first | exact HB.out | apply below_alloc | apply pw_below_drewN | apply below_drew1 | refine below_set ?_ (IsS39.ge HI0.out)) | exact HB.out), by repeat (first | (with_reducible first | exact HK.out | apply KeepBut.set_ | apply keep_drewN | apply keep_drew | apply keep_alloc) | exact HK.out)⟩


def spec_l1Cur_one.f (s0_0 : List Int) (s0_1 : Int) (s0_2 : Int) (a1 : Int) : Option (Bool × Int × Int) := (spec_l1Cur_pick.f s0_0 s0_1 s0_2 a1).bind fun bt101 => (some ((bt101.1 == 0), bt101.2.1, bt101.2.2))
set_option maxHeartbeats 8000000 in
set_option maxRecDepth 100000 in
theorem spec_l1Cur_one.calls (g : Nat) (s0_0 : List Int) (s0_1 : Int) (s0_2 : Int) (a1 : Int) (r1 : Bool) (r2 : Int) (r3 : Int) (w0 w : World) (hI : IsS39 w0 w g s0_0 s0_1 s0_2) (hB : Below w0.heap.size w0 w) (h : spec_l1Cur_one.f s0_0 s0_1 s0_2 a1 = some (r1, r2, r3)) :
    Calls Tryd.prog 25 #[.pointer (some ⟨g, 0, none⟩), .int .i64 a1] w fun e w' => e = .returned (.bool r1) ∧ IsS39 w0 w' g s0_0 r2 r3 ∧ Below w0.heap.size w0 w' ∧ KeepBut w w' g none := by
  have HI0 := aM hI
  have HK := aM (KeepBut.refl w g none)
  have HL := aM hB.size
  clear hI
  have HW0 := aM hB.size
  have HB := aM hB
  clear hB
  have H : ((spec_l1Cur_pick.f s0_0 s0_1 s0_2 a1).bind fun bt101 => (some ((bt101.1 == 0), bt101.2.1, bt101.2.2))) = some (r1, r2, r3) := h
  clear h
  replace H := Option.bind_eq_some_iff.mp H
  obtain ⟨⟨t101, t102, t103⟩, A30, H⟩ := H
  replace H : (some ((t101 == 0), t102, t103)) = some (r1, r2, r3) := H
  have A3 := aM A30
  clear A30
  simp only [Option.some.injEq, Prod.mk.injEq] at H
  obtain ⟨rfl, rfl, rfl⟩ := H
  go_enter Tryd.func25, Tryd.ntmps25
  go_wp2_with (first | ((with_reducible refine gate_callee (f := 27) rfl ?_); refine goesL_ (some 7) rfl rfl Tryd.func27 (by kernel_rfl) rfl #[.pointer (some ⟨g, 0, none⟩), .int .i64 a1] rfl (by (try simp only [List.map_toArray, List.map_cons, List.map_nil]); first | done | rfl | (simp only [List.length_drop, List.length_take]; rfl)) ?_; (with_reducible refine (spec_l1Cur_pick.calls g s0_0 s0_1 s0_2 a1 t101 t102 t103 w0 _ ?side1 ?side2 A3.out).mono ?_); (case side1 => repeat (first | (with_reducible first | exact HI0.out | apply IsS39.alloc | apply IsS39.drewN | apply IsS39.drew | apply IsS39.set_1 | apply IsS39.set_2) | exact HI0.out)); (case side2 => repeat (first | (with_reducible first | exact HB.out | apply below_alloc | apply pw_below_drewN | apply below_drew1 | refine below_set ?_ (IsS39.ge HI0.out)) | exact HB.out)); rintro e w4 ⟨rfl, hi, hb, hk⟩; refine ⟨_, rfl, ?_⟩; have n0_ := aM (KeepBut.trans (by repeat (first | (with_reducible first | exact HK.out | apply KeepBut.set_ | apply keep_drewN | apply keep_drew | apply keep_alloc) | exact HK.out)) hk (.inl rfl)); have n1_ := aM (hb); have n2_ := aM (hi); clear HK; clear HB; clear HI0; have HK := n0_; have HB := n1_; have HI0 := n2_; clear n0_ n1_ n2_; (try clear hb); (try clear hb2); (try clear hk); (try clear hi)))
  go_ret
  exact ⟨by first | rfl | (simp [errW_none, errW_some] <;> rfl) | (simp [*, errW_none, errW_some] <;> rfl), by repeat (first | (with_reducible first | exact HI0.out | apply IsS39.alloc | apply IsS39.drewN | apply IsS39.drew | apply IsS39.set_1 | apply IsS39.set_2) | exact HI0.out), by repeat (first | (with_reducible first | exact HB.out | apply below_alloc | apply pw_below_drewN | apply below_drew1 | refine below_set ?_ (IsS39.ge HI0.out)) | exact HB.out), by repeat (first | (with_reducible first | exact HK.out | apply KeepBut.set_ | apply keep_drewN | apply keep_drew | apply keep_alloc) | exact HK.out)⟩


mutual
def spec_l1Cur_typeOf.j0 : Nat → Int → Bool → List Int → Int → Int → Option (Int × (List (S56)) × Int × Int)
  | 0, _, _, _, _, _ => none
  | k + 1, x1, x10, x1000, x1001, x1002 => if x10 = true then ((spec_l1Cur_pick.f x1000 x1001 x1002 4).bind fun bt105 => (some (bt105.1, ([] : List (S56)), bt105.2.1, bt105.2.2))) else ((spec_l1Cur_typeOf.f k x1000 x1001 x1002 (wrap64 (x1 - 1))).bind fun bt108 => ((spec_l1Cur_typeOf.f k x1000 bt108.2.2.1 bt108.2.2.2 (wrap64 (x1 - 1))).bind fun bt114 => (some (0, (([(⟨bt108.1, bt108.2.1⟩ : S56), (⟨bt114.1, bt114.2.1⟩ : S56)] : List (S56))), bt114.2.2.1, bt114.2.2.2))))
def spec_l1Cur_typeOf.f : Nat → List Int → Int → Int → Int → Option (Int × (List (S56)) × Int × Int)
  | 0, _, _, _, _ => none
  | k + 1, s0_0, s0_1, s0_2, a1 => if a1 = 0 then (spec_l1Cur_typeOf.j0 k a1 true s0_0 s0_1 s0_2) else ((spec_l1Cur_one.f s0_0 s0_1 s0_2 3).bind fun bt102 => (spec_l1Cur_typeOf.j0 k a1 bt102.1 s0_0 bt102.2.1 bt102.2.2))
end
set_option maxHeartbeats 8000000 in
set_option maxRecDepth 100000 in
theorem spec_l1Cur_typeOf.calls (k : Nat) : ∀ (g : Nat) (s0_0 : List Int) (s0_1 : Int) (s0_2 : Int) (a1 : Int) (r1 : Int) (r2 : List (S56)) (r3 : Int) (r4 : Int) (w0 w : World) (hI : IsS39 w0 w g s0_0 s0_1 s0_2) (hB : Below w0.heap.size w0 w) (h : spec_l1Cur_typeOf.f k s0_0 s0_1 s0_2 a1 = some (r1, r2, r3, r4)),
    Calls Tryd.prog 26 #[.pointer (some ⟨g, 0, none⟩), .int .i64 a1] w fun e w' => ∃ v1_ : Value, e = .returned (.agg #[.int .i64 r1, v1_]) ∧ Kd.N k56 56 w' w.heap.size (fun k_ => (w.heap.size ≤ k_)) v1_ r2 ∧ IsS39 w0 w' g s0_0 r3 r4 ∧ Below w0.heap.size w0 w' ∧ KeepBut w w' g none := by
  induction k using Nat.strongRecOn with
  | _ k ih =>
  intro g s0_0 s0_1 s0_2 a1 r1 r2 r3 r4 w0 w hI hB h
  cases k with
  | zero => exact absurd h (by simp [spec_l1Cur_typeOf.f])
  | succ k =>
  simp only [spec_l1Cur_typeOf.f] at h
  have hu56 := Tryd.underlying56
  have HI0 := aM hI
  have HK := aM (KeepBut.refl w g none)
  have HL := aM hB.size
  clear hI
  have HW0 := aM hB.size
  have HB := aM hB
  clear hB
  have H : (if a1 = 0 then (spec_l1Cur_typeOf.j0 k a1 true s0_0 s0_1 s0_2) else ((spec_l1Cur_one.f s0_0 s0_1 s0_2 3).bind fun bt102 => (spec_l1Cur_typeOf.j0 k a1 bt102.1 s0_0 bt102.2.1 bt102.2.2))) = some (r1, r2, r3, r4) := h
  clear h
  have HC3 := aM H
  clear H
  go_enter Tryd.func26, Tryd.ntmps26
  go_upto_region 1 with (first | ((with_reducible refine gate_dst (N := 4) rfl ?_); refine box_event ?hg (N := 4) ?hd (cs := #[.int .i64 0, .slice none 0 0]) (t := 56) ?hr ?_; (case hd => rfl); (case hg => rfl); (case hr => first | (go_simp; done) | (go_simp; rfl)); intro gb101 hg w4 hbox hb; have n0_ := aM (IsS39.below (by repeat (first | (with_reducible first | exact HI0.out | apply IsS39.alloc | apply IsS39.drewN | apply IsS39.drew | apply IsS39.set_1 | apply IsS39.set_2) | exact HI0.out)) hb); have n1_ := aM (KeepBut.trans (by repeat (first | (with_reducible first | exact HK.out | apply KeepBut.set_ | apply keep_drewN | apply keep_drew | apply keep_alloc) | exact HK.out)) (KeepBut.of_below hb g none) (.inl rfl)); have n2_ := aM (below_step (by repeat (first | (with_reducible first | exact HB.out | apply below_alloc | apply pw_below_drewN | apply below_drew1 | refine below_set ?_ (IsS39.ge HI0.out)) | exact HB.out)) hb); have n3_ := aM (hbox); have n4_ := aM ((by rw [hg]; exact (keep_size (w := w) (g := g) (row := none) (by repeat (first | (with_reducible first | exact HK.out | apply KeepBut.set_ | apply keep_drewN | apply keep_drew | apply keep_alloc) | exact HK.out))) : w.heap.size ≤ gb101)); have n5_ := aM ((Nat.le_trans HW0.out (by rw [hg]; exact (keep_size (w := w) (g := g) (row := none) (by repeat (first | (with_reducible first | exact HK.out | apply KeepBut.set_ | apply keep_drewN | apply keep_drew | apply keep_alloc) | exact HK.out))) : w.heap.size ≤ gb101) : w0.heap.size ≤ gb101)); have n6_ := aM ((by rw [hg]; exact Nat.ne_of_lt (IsS39.lt (show IsS39 w0 _ g s0_0 s0_1 s0_2 from by repeat (first | (with_reducible first | exact HI0.out | apply IsS39.alloc | apply IsS39.drewN | apply IsS39.drew | apply IsS39.set_1 | apply IsS39.set_2) | exact HI0.out))) : g ≠ gb101)); have n7_ := aM ((by rw [hg]; exact Nat.ne_of_gt (IsS39.lt (show IsS39 w0 _ g s0_0 s0_1 s0_2 from by repeat (first | (with_reducible first | exact HI0.out | apply IsS39.alloc | apply IsS39.drewN | apply IsS39.drew | apply IsS39.set_1 | apply IsS39.set_2) | exact HI0.out))) : gb101 ≠ g)); clear HI0; clear HK; clear HB; have HI0 := n0_; have HK := n1_; have HB := n2_; have BK101 := n3_; have GW101 := n4_; have GE101 := n5_; have NB0_101 := n6_; have NB101_0 := n7_; clear n0_ n1_ n2_ n3_ n4_ n5_ n6_ n7_; clear hb hbox hg))
  (try simp only [Act.put, List.setIfInBounds_toArray, List.set_cons_zero, List.set_cons_succ])
  go_cut [10] (fun v10 wc => ∃ (kq : Nat) (x10_2 : Bool) (x1001_2 : Int) (x1002_2 : Int), v10 = .bool x10_2 ∧ Aside0 (spec_l1Cur_typeOf.j0 kq a1 x10_2 s0_0 x1001_2 x1002_2 = some (r1, r2, r3, r4)) ∧ Aside0 (kq ≤ k) ∧ Aside0 (wc.heap[gb101]? = some (.cells #[.int .i64 0, (.slice none 0 0)] 56 (0, 0))) ∧ Aside0 (IsS39 w0 wc g s0_0 x1001_2 x1002_2) ∧ Aside0 (KeepBut w wc g none) ∧ Aside0 (Below w0.heap.size w0 wc))
  case first =>
    have H := HC3.out
    clear HC3
    by_cases c5 : a1 = 0
    · rw [if_pos c5] at H
      have c5b0 : (a1 == 0) = true := beq_iff_eq.mpr c5
      have c5b1 : (a1 != 0) = false := bne_eq_false_iff_eq.mpr c5
      clear c5
      (first | rw [c5b0] | (simp only [i64_w, i32_w]; rw [c5b0]) | skip)
      have H' := aM H
      clear H
      go_wp2
      go_meet
      case rel => exact ⟨_, (true), (s0_1), (s0_2), (by first | rfl | (simp; done) | (simp [*]; done)), H', ⟨by first | omega | exact Nat.le_refl _⟩, ⟨by (with_reducible repeat (first | refine bN ?_ _ | refine bD ?_ | refine bA ?_ _)); exact BK101.out⟩, ⟨by repeat (first | (with_reducible first | exact HI0.out | apply IsS39.alloc | apply IsS39.drewN | apply IsS39.drew | apply IsS39.set_1 | apply IsS39.set_2 | refine IsS39.far ?_ NB0_101.out _) | exact HI0.out)⟩, ⟨by repeat (first | (with_reducible first | exact HK.out | apply KeepBut.set_ | apply keep_drewN | apply keep_drew | apply keep_alloc | refine keep_far ?_ GW101.out _) | exact HK.out)⟩, ⟨by repeat (first | (with_reducible first | exact HB.out | apply below_alloc | apply pw_below_drewN | apply below_drew1 | refine below_set ?_ (IsS39.ge HI0.out) | refine below_set ?_ GE101.out) | exact HB.out)⟩⟩
    · rw [if_neg c5] at H
      have c5b0 : (a1 == 0) = false := beq_eq_false_iff_ne.mpr c5
      have c5b1 : (a1 != 0) = true := bne_iff_ne.mpr c5
      (first | rw [c5b0] | (simp only [i64_w, i32_w]; rw [c5b0]) | skip)
      replace H := Option.bind_eq_some_iff.mp H
      obtain ⟨⟨t102, t103, t104⟩, A60, H⟩ := H
      replace H : (spec_l1Cur_typeOf.j0 k a1 t102 s0_0 t103 t104) = some (r1, r2, r3, r4) := H
      have A6 := aM A60
      clear A60
      have H' := aM H
      clear H
      go_wp2_with (first | (go_at_call 25; (with_reducible refine (spec_l1Cur_one.calls g s0_0 s0_1 s0_2 3 t102 t103 t104 w0 _ ?side1 ?side2 A6.out).mono ?_); (case side1 => repeat (first | (with_reducible first | exact HI0.out | apply IsS39.alloc | apply IsS39.drewN | apply IsS39.drew | apply IsS39.set_1 | apply IsS39.set_2 | refine IsS39.far ?_ NB0_101.out _) | exact HI0.out)); (case side2 => repeat (first | (with_reducible first | exact HB.out | apply below_alloc | apply pw_below_drewN | apply below_drew1 | refine below_set ?_ (IsS39.ge HI0.out) | refine below_set ?_ GE101.out) | exact HB.out)); rintro e w7 ⟨rfl, hi, hb, hk⟩; have n0_ := aM (KeepBut.blk hk (g' := gb101) (o := .cells #[.int .i64 0, .slice none 0 0] 56 (0, 0)) (by (with_reducible repeat (first | refine bN ?_ _ | refine bD ?_ | refine bA ?_ _)); exact BK101.out) NB101_0.out (by simp)); have n1_ := aM (KeepBut.trans (by repeat (first | (with_reducible first | exact HK.out | apply KeepBut.set_ | apply keep_drewN | apply keep_drew | apply keep_alloc | refine keep_far ?_ GW101.out _) | exact HK.out)) hk (.inl rfl)); have n2_ := aM (hb); have n3_ := aM (hi); clear BK101; clear HK; clear HB; clear HI0; have BK101 := n0_; have HK := n1_; have HB := n2_; have HI0 := n3_; clear n0_ n1_ n2_ n3_; (try clear hb); (try clear hb2); (try clear hk); (try clear hi)))
      go_meet
      case rel => exact ⟨_, (t102), (t103), (t104), (by first | rfl | (simp; done) | (simp [*]; done)), H', ⟨by first | omega | exact Nat.le_refl _⟩, ⟨by (with_reducible repeat (first | refine bN ?_ _ | refine bD ?_ | refine bA ?_ _)); exact BK101.out⟩, ⟨by repeat (first | (with_reducible first | exact HI0.out | apply IsS39.alloc | apply IsS39.drewN | apply IsS39.drew | apply IsS39.set_1 | apply IsS39.set_2 | refine IsS39.far ?_ NB0_101.out _) | exact HI0.out)⟩, ⟨by repeat (first | (with_reducible first | exact HK.out | apply KeepBut.set_ | apply keep_drewN | apply keep_drew | apply keep_alloc | refine keep_far ?_ GW101.out _) | exact HK.out)⟩, ⟨by repeat (first | (with_reducible first | exact HB.out | apply below_alloc | apply pw_below_drewN | apply below_drew1 | refine below_set ?_ (IsS39.ge HI0.out) | refine below_set ?_ GE101.out) | exact HB.out)⟩⟩
  case rest =>
    clear HC3
    try clear c2
    try clear p2
    try clear c5
    try clear c5b0
    try clear c5b1
    obtain ⟨kq, x10_2, x1001_2, x1002_2, rfl, HA, HJ2, BK101, HI0, HK, HB⟩ := hcut
    cases kq with
    | zero => exact absurd HA.out (by simp [spec_l1Cur_typeOf.j0])
    | succ kj2 =>
      have H := HA.out
      clear HA
      simp only [spec_l1Cur_typeOf.j0] at H
      by_cases c8 : x10_2 = true
      · subst c8
        have H1 : ((spec_l1Cur_pick.f s0_0 x1001_2 x1002_2 4).bind fun bt105 => (some (bt105.1, ([] : List (S56)), bt105.2.1, bt105.2.2))) = some (r1, r2, r3, r4) := by rw [if_pos rfl] at H; exact H
        clear H
        have H := H1
        clear H1
        replace H := Option.bind_eq_some_iff.mp H
        obtain ⟨⟨t105, t106, t107⟩, A90, H⟩ := H
        replace H : (some (t105, ([] : List (S56)), t106, t107)) = some (r1, r2, r3, r4) := H
        have A9 := aM A90
        clear A90
        simp only [Option.some.injEq, Prod.mk.injEq] at H
        obtain ⟨rfl, rfl, rfl, rfl⟩ := H
        go_wp2_with (first | ((with_reducible refine gate_callee (f := 27) rfl ?_); refine goesL_ (some 12) rfl rfl Tryd.func27 (by kernel_rfl) rfl #[.pointer (some ⟨g, 0, none⟩), .int .i64 4] rfl (by (try simp only [List.map_toArray, List.map_cons, List.map_nil]); first | done | rfl | (simp only [List.length_drop, List.length_take]; rfl)) ?_; (with_reducible refine (spec_l1Cur_pick.calls g s0_0 x1001_2 x1002_2 4 t105 t106 t107 w0 _ ?side1 ?side2 A9.out).mono ?_); (case side1 => repeat (first | (with_reducible first | exact HI0.out | apply IsS39.alloc | apply IsS39.drewN | apply IsS39.drew | apply IsS39.set_1 | apply IsS39.set_2 | refine IsS39.far ?_ NB0_101.out _) | exact HI0.out)); (case side2 => repeat (first | (with_reducible first | exact HB.out | apply below_alloc | apply pw_below_drewN | apply below_drew1 | refine below_set ?_ (IsS39.ge HI0.out) | refine below_set ?_ GE101.out) | exact HB.out)); rintro e w10 ⟨rfl, hi, hb, hk⟩; refine ⟨_, rfl, ?_⟩; have n0_ := aM (KeepBut.blk hk (g' := gb101) (o := .cells #[.int .i64 0, .slice none 0 0] 56 (0, 0)) (by (with_reducible repeat (first | refine bN ?_ _ | refine bD ?_ | refine bA ?_ _)); exact BK101.out) NB101_0.out (by simp)); have n1_ := aM (KeepBut.trans (by repeat (first | (with_reducible first | exact HK.out | apply KeepBut.set_ | apply keep_drewN | apply keep_drew | apply keep_alloc | refine keep_far ?_ GW101.out _) | exact HK.out)) hk (.inl rfl)); have n2_ := aM (hb); have n3_ := aM (hi); clear BK101; clear HK; clear HB; clear HI0; have BK101 := n0_; have HK := n1_; have HB := n2_; have HI0 := n3_; clear n0_ n1_ n2_ n3_; (try clear hb); (try clear hb2); (try clear hk); (try clear hi); have hnb11 := NB101_0.out; have hnc11 := NB0_101.out; have hcz12_0 : w10.cell? ⟨gb101, 0, none⟩ = some (.int .i64 0) := (blk_cell BK101.out 0).trans rfl; have hcz12_1 : w10.cell? ⟨gb101, 1, none⟩ = some (.slice none 0 0) := (blk_cell BK101.out 1).trans rfl; have hfz12_0 := blk_frozen BK101.out 0; have hfz12_1 := blk_frozen BK101.out 1))
        refine bodyPost_ret (results_cell_row rfl _ _ gb101 56 #[.int .i64 t105, .slice none 0 0] (0, 0) _ rfl (by (with_reducible repeat (first | refine bN ?_ _ | refine bD ?_ | refine bA ?_ _)); refine blk_put (cs := #[.int .i64 t105, .slice none 0 0]) ?_ 1 _ rfl; (with_reducible repeat (first | refine bN ?_ _ | refine bD ?_ | refine bA ?_ _)); refine blk_put (cs := #[.int .i64 0, .slice none 0 0]) ?_ 0 _ rfl; (with_reducible repeat (first | refine bN ?_ _ | refine bD ?_ | refine bA ?_ _)); exact BK101.out) Tryd.underlying56 rfl (by kernel_rfl)) rfl ?_
        exact ⟨_, by first | rfl | (simp [errW_none, errW_some] <;> rfl) | (simp [*, errW_none, errW_some] <;> rfl), by first | exact Kd.R_nil _ _ _ _ _ | exact Kd.N_nil _ _ _ _ _ | exact Kd.V_nil _ _ _ _ _ | exact Kd.Q_nil _ _ _ _ _ | exact Kd.S_nil _ _ _ _ _, by repeat (first | (with_reducible first | exact HI0.out | apply IsS39.alloc | apply IsS39.drewN | apply IsS39.drew | apply IsS39.set_1 | apply IsS39.set_2 | refine IsS39.far ?_ NB0_101.out _) | exact HI0.out), by repeat (first | (with_reducible first | exact HB.out | apply below_alloc | apply pw_below_drewN | apply below_drew1 | refine below_set ?_ (IsS39.ge HI0.out) | refine below_set ?_ GE101.out) | exact HB.out), by repeat (first | (with_reducible first | exact HK.out | apply KeepBut.set_ | apply keep_drewN | apply keep_drew | apply keep_alloc | refine keep_far ?_ GW101.out _) | exact HK.out)⟩
      · replace c8 := Bool.eq_false_iff.mpr c8
        subst c8
        have H1 : ((spec_l1Cur_typeOf.f kj2 s0_0 x1001_2 x1002_2 (wrap64 (a1 - 1))).bind fun bt108 => ((spec_l1Cur_typeOf.f kj2 s0_0 bt108.2.2.1 bt108.2.2.2 (wrap64 (a1 - 1))).bind fun bt114 => (some (0, (([(⟨bt108.1, bt108.2.1⟩ : S56), (⟨bt114.1, bt114.2.1⟩ : S56)] : List (S56))), bt114.2.2.1, bt114.2.2.2)))) = some (r1, r2, r3, r4) := by rw [if_neg (show ¬ (false = true) by decide)] at H; exact H
        clear H
        have H := H1
        clear H1
        replace H := Option.bind_eq_some_iff.mp H
        obtain ⟨⟨t108, t109, t112, t113⟩, A130, H⟩ := H
        replace H : ((spec_l1Cur_typeOf.f kj2 s0_0 t112 t113 (wrap64 (a1 - 1))).bind fun bt114 => (some (0, (([(⟨t108, t109⟩ : S56), (⟨bt114.1, bt114.2.1⟩ : S56)] : List (S56))), bt114.2.2.1, bt114.2.2.2))) = some (r1, r2, r3, r4) := H
        have A13 := aM A130
        clear A130
        replace H := Option.bind_eq_some_iff.mp H
        obtain ⟨⟨t114, t115, t118, t119⟩, A140, H⟩ := H
        replace H : (some (0, (([(⟨t108, t109⟩ : S56), (⟨t114, t115⟩ : S56)] : List (S56))), t118, t119)) = some (r1, r2, r3, r4) := H
        have A14 := aM A140
        clear A140
        obtain ⟨y120, hy120⟩ : ∃ y_ : List (S56), y_ = (([(⟨t108, t109⟩ : S56), (⟨t114, t115⟩ : S56)] : List (S56))) := ⟨_, rfl⟩
        replace H : (some (0, y120, t118, t119)) = some (r1, r2, r3, r4) := by first | (rw [hy120]; with_reducible exact H) | (have H2_ := (Option.bind_some _ _).symm.trans H; rw [hy120]; with_reducible exact H2_) | (have H2_ := (Option.bind_some _ _).symm.trans H; with_reducible exact H2_) | with_reducible exact H | (rw [hy120]; exact H) | exact H
        have Ny120 := aM hy120
        clear hy120
        simp only [Option.some.injEq, Prod.mk.injEq] at H
        obtain ⟨rfl, rfl, rfl, rfl⟩ := H
        go_wp2_with (first | ((with_reducible refine gate_callee (f := 26) rfl ?_); refine goesL_ (some 17) rfl rfl Tryd.func26 (by kernel_rfl) rfl #[.pointer (some ⟨g, 0, none⟩), .int .i64 (wrap64 (a1 - 1))] rfl (by (try simp only [List.map_toArray, List.map_cons, List.map_nil]); first | done | rfl | (simp only [List.length_drop, List.length_take]; rfl)) ?_; (with_reducible refine (ih kj2 (by have := HJ2.out; omega) g s0_0 x1001_2 x1002_2 (wrap64 (a1 - 1)) t108 t109 t112 t113 w0 _ ?side1 ?side2 A13.out).mono ?_); (case side1 => repeat (first | (with_reducible first | exact HI0.out | apply IsS39.alloc | apply IsS39.drewN | apply IsS39.drew | apply IsS39.set_1 | apply IsS39.set_2 | refine IsS39.far ?_ NB0_101.out _) | exact HI0.out)); (case side2 => repeat (first | (with_reducible first | exact HB.out | apply below_alloc | apply pw_below_drewN | apply below_drew1 | refine below_set ?_ (IsS39.ge HI0.out) | refine below_set ?_ GE101.out) | exact HB.out)); rintro e w15 ⟨v110, rfl, ho0, hi, hb, hk⟩; refine ⟨_, rfl, ?_⟩; have n0_ := aM (KeepBut.blk hk (g' := gb101) (o := .cells #[.int .i64 0, .slice none 0 0] 56 (0, 0)) (by (with_reducible repeat (first | refine bN ?_ _ | refine bD ?_ | refine bA ?_ _)); exact BK101.out) NB101_0.out (by simp)); have n1_ := aM (Kd.N_lower (Kd.N_mono (ok' := fun k_ => (w.heap.size ≤ k_) ∧ k_ ≠ gb101 ∧ k_ ≠ g) ho0 (fun k_ hk_ => ⟨(Nat.le_trans (keep_size (w := w) (g := g) (row := none) (by repeat (first | (with_reducible first | exact HK.out | apply KeepBut.set_ | apply keep_drewN | apply keep_drew | apply keep_alloc | refine keep_far ?_ GW101.out _) | exact HK.out))) hk_), (Kd.freshB (g := gb101) (o := .cells #[.int .i64 0, .slice none 0 0] 56 (0, 0)) (by (with_reducible repeat (first | refine bN ?_ _ | refine bD ?_ | refine bA ?_ _)); exact BK101.out) k_ hk_), (IsS39.fresh (by repeat (first | (with_reducible first | exact HI0.out | apply IsS39.alloc | apply IsS39.drewN | apply IsS39.drew | apply IsS39.set_1 | apply IsS39.set_2 | refine IsS39.far ?_ NB0_101.out _) | exact HI0.out)) k_ hk_)⟩)) (keep_size (w := w) (g := g) (row := none) (by repeat (first | (with_reducible first | exact HK.out | apply KeepBut.set_ | apply keep_drewN | apply keep_drew | apply keep_alloc | refine keep_far ?_ GW101.out _) | exact HK.out)))); have n2_ := aM (KeepBut.trans (by repeat (first | (with_reducible first | exact HK.out | apply KeepBut.set_ | apply keep_drewN | apply keep_drew | apply keep_alloc | refine keep_far ?_ GW101.out _) | exact HK.out)) hk (.inl rfl)); have n3_ := aM (hb); have n4_ := aM (hi); clear BK101; clear HK; clear HB; clear HI0; have BK101 := n0_; have HO111 := n1_; have HK := n2_; have HB := n3_; have HI0 := n4_; clear n0_ n1_ n2_ n3_ n4_; (try clear hb); (try clear hb2); (try clear hk); (try clear hi); (try clear ho0)) | ((with_reducible refine gate_callee (f := 26) rfl ?_); refine goesL_ (some 21) rfl rfl Tryd.func26 (by kernel_rfl) rfl #[.pointer (some ⟨g, 0, none⟩), .int .i64 (wrap64 (a1 - 1))] rfl (by (try simp only [List.map_toArray, List.map_cons, List.map_nil]); first | done | rfl | (simp only [List.length_drop, List.length_take]; rfl)) ?_; (with_reducible refine (ih kj2 (by have := HJ2.out; omega) g s0_0 t112 t113 (wrap64 (a1 - 1)) t114 t115 t118 t119 w0 _ ?side1 ?side2 A14.out).mono ?_); (case side1 => repeat (first | (with_reducible first | exact HI0.out | apply IsS39.alloc | apply IsS39.drewN | apply IsS39.drew | apply IsS39.set_1 | apply IsS39.set_2 | refine IsS39.far ?_ NB0_101.out _) | exact HI0.out)); (case side2 => repeat (first | (with_reducible first | exact HB.out | apply below_alloc | apply pw_below_drewN | apply below_drew1 | refine below_set ?_ (IsS39.ge HI0.out) | refine below_set ?_ GE101.out) | exact HB.out)); rintro e w16 ⟨v116, rfl, ho0, hi, hb, hk⟩; refine ⟨_, rfl, ?_⟩; have n0_ := aM (KeepBut.blk hk (g' := gb101) (o := .cells #[.int .i64 0, .slice none 0 0] 56 (0, 0)) (by (with_reducible repeat (first | refine bN ?_ _ | refine bD ?_ | refine bA ?_ _)); exact BK101.out) NB101_0.out (by simp)); have n1_ := aM (Kd.N_mono (Kd.N_told (Kd.N_oldK (Kd.N_mono (ok := fun k_ => (((w.heap.size ≤ k_)) ∧ (k_ ≠ gb101 ∧ k_ ≠ g))) (by (with_reducible repeat (first | apply Kd.N_alloc | apply Kd.N_drewN | apply Kd.N_drew)); exact HO111.out) (fun k_ hk_ => (⟨hk_, hk_.2.2⟩ : _ ∧ k_ ≠ g))) hk) (Kd.N_base ho0)) (fun _ h_ => h_.1)); have n2_ := aM (Kd.N_lower (Kd.N_mono (ok' := fun k_ => (w.heap.size ≤ k_) ∧ some k_ ≠ (v110 : Value).ownBlock ∧ k_ ≠ gb101 ∧ k_ ≠ g) ho0 (fun k_ hk_ => ⟨(Nat.le_trans (keep_size (w := w) (g := g) (row := none) (by repeat (first | (with_reducible first | exact HK.out | apply KeepBut.set_ | apply keep_drewN | apply keep_drew | apply keep_alloc | refine keep_far ?_ GW101.out _) | exact HK.out))) hk_), (Kd.fresh' (Kd.N_lt (by (with_reducible repeat (first | apply Kd.N_alloc | apply Kd.N_drewN | apply Kd.N_drew)); exact HO111.out)) k_ hk_), (Kd.freshB (g := gb101) (o := .cells #[.int .i64 0, .slice none 0 0] 56 (0, 0)) (by (with_reducible repeat (first | refine bN ?_ _ | refine bD ?_ | refine bA ?_ _)); exact BK101.out) k_ hk_), (IsS39.fresh (by repeat (first | (with_reducible first | exact HI0.out | apply IsS39.alloc | apply IsS39.drewN | apply IsS39.drew | apply IsS39.set_1 | apply IsS39.set_2 | refine IsS39.far ?_ NB0_101.out _) | exact HI0.out)) k_ hk_)⟩)) (keep_size (w := w) (g := g) (row := none) (by repeat (first | (with_reducible first | exact HK.out | apply KeepBut.set_ | apply keep_drewN | apply keep_drew | apply keep_alloc | refine keep_far ?_ GW101.out _) | exact HK.out)))); have n3_ := aM (KeepBut.trans (by repeat (first | (with_reducible first | exact HK.out | apply KeepBut.set_ | apply keep_drewN | apply keep_drew | apply keep_alloc | refine keep_far ?_ GW101.out _) | exact HK.out)) hk (.inl rfl)); have n4_ := aM (hb); have n5_ := aM (hi); clear BK101; clear HO111; clear HK; clear HB; clear HI0; have BK101 := n0_; have HO111 := n1_; have HO117 := n2_; have HK := n3_; have HB := n4_; have HI0 := n5_; clear n0_ n1_ n2_ n3_ n4_ n5_; (try clear hb); (try clear hb2); (try clear hk); (try clear hi); (try clear ho0); obtain ⟨Ao17, co17, eo17⟩ := Kd.N_slice HO111.out; subst eo17; obtain ⟨Ao18, co18, eo18⟩ := Kd.N_slice HO117.out; subst eo18) | ((with_reducible refine gate_dst (N := 22) rfl ?_); refine Kd.N_lit k56 _ 56 ?hg (N' := 22) ?hd (xs := ([(⟨t108, t109⟩ : S56), (⟨t114, t115⟩ : S56)] : List (S56))) (inner := [.int .i64 t108, .slice Ao17 t109.length co17, .int .i64 t114, .slice Ao18 t115.length co18]) (ok := (fun k_ => (w.heap.size ≤ k_) ∧ k_ ≠ gb101 ∧ k_ ≠ g)) (okp := (fun k_ => (w.heap.size ≤ k_) ∧ k_ ≠ gb101 ∧ k_ ≠ g)) ?hr ?hp (fun _ hk => hk) ((show ∀ k_, w16.heap.size ≤ k_ → (fun k_ => (w.heap.size ≤ k_) ∧ k_ ≠ gb101 ∧ k_ ≠ g) k_ from fun k_ hk => ⟨(Nat.le_trans (keep_size (w := w) (g := g) (row := none) (by repeat (first | (with_reducible first | exact HK.out | apply KeepBut.set_ | apply keep_drewN | apply keep_drew | apply keep_alloc | refine keep_far ?_ GW101.out _) | exact HK.out))) hk), Kd.freshB (g := gb101) (o := .cells #[.int .i64 0, .slice none 0 0] 56 (0, 0)) (by (with_reducible repeat (first | refine bN ?_ _ | refine bD ?_ | refine bA ?_ _)); exact BK101.out) k_ hk, IsS39.fresh (by repeat (first | (with_reducible first | exact HI0.out | apply IsS39.alloc | apply IsS39.drewN | apply IsS39.drew | apply IsS39.set_1 | apply IsS39.set_2 | refine IsS39.far ?_ NB0_101.out _) | exact HI0.out)) k_ hk⟩) _ (Nat.le_refl _)) (Below.refl _ _) (Nat.le_refl _) (by simp) ?_; (case hd => rfl); (case hg => rfl); (case hr => first | (go_simp; done) | (go_simp; rfl)); (case hp => exact (Reps.c2 (show Kd.FK k56 _ _ (⟨t108, t109⟩ : S56) [.int .i64 t108, .slice Ao17 t109.length co17] from (k56_mkF _ _ (⟨t108, t109⟩ : S56) (Kd.N_reads' (Kd.N_mono (ok' := (fun k_ => (w.heap.size ≤ k_) ∧ k_ ≠ gb101 ∧ k_ ≠ g)) (HO111.out) (fun k_ hk => ⟨hk.1.1, ⟨hk.1.2.1, hk.1.2.2⟩⟩))).2.1 (Kd.N_F (Kd.N_mono (ok' := (fun k_ => (w.heap.size ≤ k_) ∧ k_ ≠ gb101 ∧ k_ ≠ g)) (HO111.out) (fun k_ hk => ⟨hk.1.1, ⟨hk.1.2.1, hk.1.2.2⟩⟩))))) (Reps.c2 (show Kd.FK k56 _ _ (⟨t114, t115⟩ : S56) [.int .i64 t114, .slice Ao18 t115.length co18] from (k56_mkF _ _ (⟨t114, t115⟩ : S56) (Kd.N_reads' (Kd.N_mono (ok' := (fun k_ => (w.heap.size ≤ k_) ∧ k_ ≠ gb101 ∧ k_ ≠ g)) (HO117.out) (fun k_ hk => ⟨hk.1, ⟨hk.2.2.1, hk.2.2.2⟩⟩))).2.1 (Kd.N_F (Kd.N_mono (ok' := (fun k_ => (w.heap.size ≤ k_) ∧ k_ ≠ gb101 ∧ k_ ≠ g)) (HO117.out) (fun k_ hk => ⟨hk.1, ⟨hk.2.2.1, hk.2.2.2⟩⟩))))) (Reps.none _ _)))); intro v121 w19 ho20 hb hg_ hnew_; clear hg_ hnew_; (first | rw [← Ny120.out] at ho20 | (simp only [Int.reduceToNat] at ho20; rw [← Ny120.out] at ho20)); have n0_ := aM (Kd.N_lower ho20 (keep_size (w := w) (g := g) (row := none) (by repeat (first | (with_reducible first | exact HK.out | apply KeepBut.set_ | apply keep_drewN | apply keep_drew | apply keep_alloc | refine keep_far ?_ GW101.out _) | exact HK.out)))); have n1_ := aM (blk_below (g := gb101) (o := .cells #[.int .i64 0, .slice none 0 0] 56 (0, 0)) (by (with_reducible repeat (first | refine bN ?_ _ | refine bD ?_ | refine bA ?_ _)); exact BK101.out) hb); have n2_ := aM (IsS39.below (by repeat (first | (with_reducible first | exact HI0.out | apply IsS39.alloc | apply IsS39.drewN | apply IsS39.drew | apply IsS39.set_1 | apply IsS39.set_2 | refine IsS39.far ?_ NB0_101.out _) | exact HI0.out)) hb); have n3_ := aM (KeepBut.trans (by repeat (first | (with_reducible first | exact HK.out | apply KeepBut.set_ | apply keep_drewN | apply keep_drew | apply keep_alloc | refine keep_far ?_ GW101.out _) | exact HK.out)) (KeepBut.of_below hb g none) (.inl rfl)); have n4_ := aM (below_step (by repeat (first | (with_reducible first | exact HB.out | apply below_alloc | apply pw_below_drewN | apply below_drew1 | refine below_set ?_ (IsS39.ge HI0.out) | refine below_set ?_ GE101.out) | exact HB.out)) hb); clear BK101; clear HI0; clear HK; clear HB; clear HO111; clear HO117; have HO122 := n0_; have BK101 := n1_; have HI0 := n2_; have HK := n3_; have HB := n4_; clear n0_ n1_ n2_ n3_ n4_; clear hb ho20; obtain ⟨Ao21, co21, eo21⟩ := Kd.N_slice HO122.out; subst eo21; have hnb22 := NB101_0.out; have hnc22 := NB0_101.out; have hcz23_0 : w19.cell? ⟨gb101, 0, none⟩ = some (.int .i64 0) := (blk_cell BK101.out 0).trans rfl; have hcz23_1 : w19.cell? ⟨gb101, 1, none⟩ = some (.slice none 0 0) := (blk_cell BK101.out 1).trans rfl; have hfz23_0 := blk_frozen BK101.out 0; have hfz23_1 := blk_frozen BK101.out 1))
        refine bodyPost_ret (results_cell_row rfl _ _ gb101 56 #[.int .i64 0, .slice Ao21 y120.length co21] (0, 0) _ rfl (by (with_reducible repeat (first | refine bN ?_ _ | refine bD ?_ | refine bA ?_ _)); refine blk_put (cs := #[.int .i64 0, .slice none 0 0]) ?_ 1 _ rfl; (with_reducible repeat (first | refine bN ?_ _ | refine bD ?_ | refine bA ?_ _)); refine blk_put (cs := #[.int .i64 0, .slice none 0 0]) ?_ 0 _ rfl; (with_reducible repeat (first | refine bN ?_ _ | refine bD ?_ | refine bA ?_ _)); exact BK101.out) Tryd.underlying56 rfl (by kernel_rfl)) rfl ?_
        exact ⟨_, by first | rfl | (simp [errW_none, errW_some] <;> rfl) | (simp [*, errW_none, errW_some] <;> rfl), by (with_reducible repeat (first | apply Kd.N_alloc | apply Kd.N_drewN | apply Kd.N_drew)); exact Kd.N_mono (Kd.N_far (p := ⟨gb101, 1, none⟩) (Kd.N_far (p := ⟨gb101, 0, none⟩) (Kd.N_mono HO122.out (fun k_ hk => (⟨hk, hk.2.1⟩ : _ ∧ k_ ≠ gb101))) (fun _ hk => hk.2) (.int .i64 0)) (fun _ hk => hk.2) (.slice Ao21 y120.length co21)) (fun _ hk => hk.1.1), by repeat (first | (with_reducible first | exact HI0.out | apply IsS39.alloc | apply IsS39.drewN | apply IsS39.drew | apply IsS39.set_1 | apply IsS39.set_2 | refine IsS39.far ?_ NB0_101.out _) | exact HI0.out), by repeat (first | (with_reducible first | exact HB.out | apply below_alloc | apply pw_below_drewN | apply below_drew1 | refine below_set ?_ (IsS39.ge HI0.out) | refine below_set ?_ GE101.out) | exact HB.out), by repeat (first | (with_reducible first | exact HK.out | apply KeepBut.set_ | apply keep_drewN | apply keep_drew | apply keep_alloc | refine keep_far ?_ GW101.out _) | exact HK.out)⟩


def spec_l1Cur_of.f (s0_0 : List Int) (s0_1 : Int) (s0_2 : Int) (l1 : List ByteArray) : Option (ByteArray × Int × Int) := (spec_l1Cur_pick.f s0_0 s0_1 s0_2 (l1.length : Int)).bind fun bt101 => (if 0 ≤ bt101.1 then (if bt101.1 < (l1.length : Int) then (some (rdOf ByteArray.empty l1 bt101.1, bt101.2.1, bt101.2.2)) else (none)) else (none))
set_option maxHeartbeats 8000000 in
set_option maxRecDepth 100000 in
theorem spec_l1Cur_of.calls (g : Nat) (s0_0 : List Int) (s0_1 : Int) (s0_2 : Int) (A1 : Option Addr) (c1 : Nat) (l1 : List ByteArray) (r1 : ByteArray) (r2 : Int) (r3 : Int) (w0 w : World) (hI : IsS39 w0 w g s0_0 s0_1 s0_2) (hB : Below w0.heap.size w0 w) (hr1 : Kd.C Kd.string w A1 l1.length l1) (hc1 : l1.length ≤ c1) (hf1 : ∀ ad, A1 = some ad → 0 < l1.length → ad.block ≠ g) (h : spec_l1Cur_of.f s0_0 s0_1 s0_2 l1 = some (r1, r2, r3)) :
    Calls Tryd.prog 29 #[.pointer (some ⟨g, 0, none⟩), .slice A1 l1.length c1] w fun e w' => e = .returned (.string r1) ∧ IsS39 w0 w' g s0_0 r2 r3 ∧ Below w0.heap.size w0 w' ∧ KeepBut w w' g none := by
  have HR1 := aM hr1
  have HC1 := aM hc1
  clear hr1 hc1
  have HI0 := aM hI
  have HK := aM (KeepBut.refl w g none)
  have HL := aM hB.size
  clear hI
  have HW0 := aM hB.size
  have HB := aM hB
  clear hB
  have H : ((spec_l1Cur_pick.f s0_0 s0_1 s0_2 (l1.length : Int)).bind fun bt101 => (if 0 ≤ bt101.1 then (if bt101.1 < (l1.length : Int) then (some (rdOf ByteArray.empty l1 bt101.1, bt101.2.1, bt101.2.2)) else (none)) else (none))) = some (r1, r2, r3) := h
  clear h
  replace H := Option.bind_eq_some_iff.mp H
  obtain ⟨⟨t101, t102, t103⟩, A30, H⟩ := H
  replace H : (if 0 ≤ t101 then (if t101 < (l1.length : Int) then (some (rdOf ByteArray.empty l1 t101, t102, t103)) else (none)) else (none)) = some (r1, r2, r3) := H
  have A3 := aM A30
  clear A30
  by_cases c4 : 0 ≤ t101
  · rw [if_pos c4] at H
    have c4b0 : decide (0 ≤ t101) = true := decide_eq_true c4
    clear c4
    by_cases c5 : t101 < (l1.length : Int)
    · rw [if_pos c5] at H
      have c5b0 : decide (t101 < (l1.length : Int)) = true := decide_eq_true c5
      clear c5
      simp only [Option.some.injEq, Prod.mk.injEq] at H
      obtain ⟨rfl, rfl, rfl⟩ := H
      go_enter Tryd.func29, Tryd.ntmps29
      go_wp2_with (first | ((with_reducible refine gate_callee (f := 27) rfl ?_); refine goesL_ (some 9) rfl rfl Tryd.func27 (by kernel_rfl) rfl #[.pointer (some ⟨g, 0, none⟩), .int .i64 (l1.length : Int)] rfl (by (try simp only [List.map_toArray, List.map_cons, List.map_nil]); first | done | rfl | (simp only [List.length_drop, List.length_take]; rfl)) ?_; (with_reducible refine (spec_l1Cur_pick.calls g s0_0 s0_1 s0_2 (l1.length : Int) t101 t102 t103 w0 _ ?side1 ?side2 A3.out).mono ?_); (case side1 => repeat (first | (with_reducible first | exact HI0.out | apply IsS39.alloc | apply IsS39.drewN | apply IsS39.drew | apply IsS39.set_1 | apply IsS39.set_2) | exact HI0.out)); (case side2 => repeat (first | (with_reducible first | exact HB.out | apply below_alloc | apply pw_below_drewN | apply below_drew1 | refine below_set ?_ (IsS39.ge HI0.out)) | exact HB.out)); rintro e w6 ⟨rfl, hi, hb, hk⟩; refine ⟨_, rfl, ?_⟩; have n0_ := aM (KeepBut.trans (by repeat (first | (with_reducible first | exact HK.out | apply KeepBut.set_ | apply keep_drewN | apply keep_drew | apply keep_alloc) | exact HK.out)) hk (.inl rfl)); have n1_ := aM (hb); have n2_ := aM (hi); clear HK; clear HB; clear HI0; have HK := n0_; have HB := n1_; have HI0 := n2_; clear n0_ n1_ n2_; (try clear hb); (try clear hb2); (try clear hk); (try clear hi); have p104 : 0 ≤ (t101 : Int) := of_decide_eq_true (by first | (with_reducible assumption) | assumption); have q104 : t101 < (l1.length : Int) := of_decide_eq_true (by first | (with_reducible assumption) | assumption); obtain ⟨ad104, e104, hx104_0⟩ := Kd.at_string HR1.out t101 p104 q104; cases e104; replace hx104_0 := keep_cell HK.out hx104_0 (by first | (rw [add_block]; exact hf1 _ rfl (by omega)) | exact hf1 _ rfl (by omega) | exact hf1 ad104 rfl (by omega)); replace p104 := eq_true p104; replace q104 := eq_true q104))
      go_ret
      exact ⟨by first | rfl | (simp [errW_none, errW_some] <;> rfl) | (simp [*, errW_none, errW_some] <;> rfl), by repeat (first | (with_reducible first | exact HI0.out | apply IsS39.alloc | apply IsS39.drewN | apply IsS39.drew | apply IsS39.set_1 | apply IsS39.set_2) | exact HI0.out), by repeat (first | (with_reducible first | exact HB.out | apply below_alloc | apply pw_below_drewN | apply below_drew1 | refine below_set ?_ (IsS39.ge HI0.out)) | exact HB.out), by repeat (first | (with_reducible first | exact HK.out | apply KeepBut.set_ | apply keep_drewN | apply keep_drew | apply keep_alloc) | exact HK.out)⟩
    · rw [if_neg c5] at H
      exact absurd H (by simp)
  · rw [if_neg c4] at H
    exact absurd H (by simp)


def spec_l1Cur_typeText.f (k : Nat) (s0_0 : List Int) (s0_1 : Int) (s0_2 : Int) : Option (ByteArray × Int × Int) := (spec_l1Cur_pick.f s0_0 s0_1 s0_2 4).bind fun bt101 => ((spec_l1Cur_typeOf.f k s0_0 bt101.2.1 bt101.2.2 (wrap64 (1 + bt101.1))).bind fun bt104 => ((spec_leText.f k bt104.1 bt104.2.1).bind fun t110 => ((spec_l1Cur_one.f s0_0 bt104.2.2.1 bt104.2.2.2 30).bind fun bt111 => (if bt111.1 = true then ((spec_l1Cur_of.f s0_0 bt111.2.1 bt111.2.2 (([(⟨#[]⟩ : ByteArray), (⟨#[116]⟩ : ByteArray), (⟨#[116, 49, 48, 48, 48]⟩ : ByteArray), (⟨#[116, 57, 57, 57]⟩ : ByteArray), (⟨#[40, 116, 48, 62, 116, 49]⟩ : ByteArray), (⟨#[116, 48, 49]⟩ : ByteArray), (⟨#[40, 116, 48, 32, 62, 32, 116, 49, 41]⟩ : ByteArray)] : List ByteArray))).bind fun bt117 => (some (bt117.1, bt117.2.1, bt117.2.2))) else (some (t110, bt111.2.1, bt111.2.2))))))
set_option maxHeartbeats 8000000 in
set_option maxRecDepth 100000 in
theorem spec_l1Cur_typeText.calls (k : Nat) (g : Nat) (s0_0 : List Int) (s0_1 : Int) (s0_2 : Int) (r1 : ByteArray) (r2 : Int) (r3 : Int) (w0 w : World) (hI : IsS39 w0 w g s0_0 s0_1 s0_2) (hB : Below w0.heap.size w0 w) (h : spec_l1Cur_typeText.f k s0_0 s0_1 s0_2 = some (r1, r2, r3)) :
    Calls Tryd.prog 12 #[.pointer (some ⟨g, 0, none⟩)] w fun e w' => e = .returned (.string r1) ∧ IsS39 w0 w' g s0_0 r2 r3 ∧ Below w0.heap.size w0 w' ∧ KeepBut w w' g none := by
  have HI0 := aM hI
  have HK := aM (KeepBut.refl w g none)
  have HL := aM hB.size
  clear hI
  have HW0 := aM hB.size
  have HB := aM hB
  clear hB
  have H : ((spec_l1Cur_pick.f s0_0 s0_1 s0_2 4).bind fun bt101 => ((spec_l1Cur_typeOf.f k s0_0 bt101.2.1 bt101.2.2 (wrap64 (1 + bt101.1))).bind fun bt104 => ((spec_leText.f k bt104.1 bt104.2.1).bind fun t110 => ((spec_l1Cur_one.f s0_0 bt104.2.2.1 bt104.2.2.2 30).bind fun bt111 => (if bt111.1 = true then ((spec_l1Cur_of.f s0_0 bt111.2.1 bt111.2.2 (([(⟨#[]⟩ : ByteArray), (⟨#[116]⟩ : ByteArray), (⟨#[116, 49, 48, 48, 48]⟩ : ByteArray), (⟨#[116, 57, 57, 57]⟩ : ByteArray), (⟨#[40, 116, 48, 62, 116, 49]⟩ : ByteArray), (⟨#[116, 48, 49]⟩ : ByteArray), (⟨#[40, 116, 48, 32, 62, 32, 116, 49, 41]⟩ : ByteArray)] : List ByteArray))).bind fun bt117 => (some (bt117.1, bt117.2.1, bt117.2.2))) else (some (t110, bt111.2.1, bt111.2.2))))))) = some (r1, r2, r3) := h
  clear h
  replace H := Option.bind_eq_some_iff.mp H
  obtain ⟨⟨t101, t102, t103⟩, A20, H⟩ := H
  replace H : ((spec_l1Cur_typeOf.f k s0_0 t102 t103 (wrap64 (1 + t101))).bind fun bt104 => ((spec_leText.f k bt104.1 bt104.2.1).bind fun t110 => ((spec_l1Cur_one.f s0_0 bt104.2.2.1 bt104.2.2.2 30).bind fun bt111 => (if bt111.1 = true then ((spec_l1Cur_of.f s0_0 bt111.2.1 bt111.2.2 (([(⟨#[]⟩ : ByteArray), (⟨#[116]⟩ : ByteArray), (⟨#[116, 49, 48, 48, 48]⟩ : ByteArray), (⟨#[116, 57, 57, 57]⟩ : ByteArray), (⟨#[40, 116, 48, 62, 116, 49]⟩ : ByteArray), (⟨#[116, 48, 49]⟩ : ByteArray), (⟨#[40, 116, 48, 32, 62, 32, 116, 49, 41]⟩ : ByteArray)] : List ByteArray))).bind fun bt117 => (some (bt117.1, bt117.2.1, bt117.2.2))) else (some (t110, bt111.2.1, bt111.2.2)))))) = some (r1, r2, r3) := H
  have A2 := aM A20
  clear A20
  replace H := Option.bind_eq_some_iff.mp H
  obtain ⟨⟨t104, t105, t108, t109⟩, A30, H⟩ := H
  replace H : ((spec_leText.f k t104 t105).bind fun t110 => ((spec_l1Cur_one.f s0_0 t108 t109 30).bind fun bt111 => (if bt111.1 = true then ((spec_l1Cur_of.f s0_0 bt111.2.1 bt111.2.2 (([(⟨#[]⟩ : ByteArray), (⟨#[116]⟩ : ByteArray), (⟨#[116, 49, 48, 48, 48]⟩ : ByteArray), (⟨#[116, 57, 57, 57]⟩ : ByteArray), (⟨#[40, 116, 48, 62, 116, 49]⟩ : ByteArray), (⟨#[116, 48, 49]⟩ : ByteArray), (⟨#[40, 116, 48, 32, 62, 32, 116, 49, 41]⟩ : ByteArray)] : List ByteArray))).bind fun bt117 => (some (bt117.1, bt117.2.1, bt117.2.2))) else (some (t110, bt111.2.1, bt111.2.2))))) = some (r1, r2, r3) := H
  have A3 := aM A30
  clear A30
  replace H := Option.bind_eq_some_iff.mp H
  obtain ⟨t110, A40, H⟩ := H
  replace H : ((spec_l1Cur_one.f s0_0 t108 t109 30).bind fun bt111 => (if bt111.1 = true then ((spec_l1Cur_of.f s0_0 bt111.2.1 bt111.2.2 (([(⟨#[]⟩ : ByteArray), (⟨#[116]⟩ : ByteArray), (⟨#[116, 49, 48, 48, 48]⟩ : ByteArray), (⟨#[116, 57, 57, 57]⟩ : ByteArray), (⟨#[40, 116, 48, 62, 116, 49]⟩ : ByteArray), (⟨#[116, 48, 49]⟩ : ByteArray), (⟨#[40, 116, 48, 32, 62, 32, 116, 49, 41]⟩ : ByteArray)] : List ByteArray))).bind fun bt117 => (some (bt117.1, bt117.2.1, bt117.2.2))) else (some (t110, bt111.2.1, bt111.2.2)))) = some (r1, r2, r3) := H
  have A4 := aM A40
  clear A40
  replace H := Option.bind_eq_some_iff.mp H
  obtain ⟨⟨t111, t112, t113⟩, A50, H⟩ := H
  replace H : (if t111 = true then ((spec_l1Cur_of.f s0_0 t112 t113 (([(⟨#[]⟩ : ByteArray), (⟨#[116]⟩ : ByteArray), (⟨#[116, 49, 48, 48, 48]⟩ : ByteArray), (⟨#[116, 57, 57, 57]⟩ : ByteArray), (⟨#[40, 116, 48, 62, 116, 49]⟩ : ByteArray), (⟨#[116, 48, 49]⟩ : ByteArray), (⟨#[40, 116, 48, 32, 62, 32, 116, 49, 41]⟩ : ByteArray)] : List ByteArray))).bind fun bt117 => (some (bt117.1, bt117.2.1, bt117.2.2))) else (some (t110, t112, t113))) = some (r1, r2, r3) := H
  have A5 := aM A50
  clear A50
  by_cases c6 : t111 = true
  · subst c6
    have H1 : ((spec_l1Cur_of.f s0_0 t112 t113 (([(⟨#[]⟩ : ByteArray), (⟨#[116]⟩ : ByteArray), (⟨#[116, 49, 48, 48, 48]⟩ : ByteArray), (⟨#[116, 57, 57, 57]⟩ : ByteArray), (⟨#[40, 116, 48, 62, 116, 49]⟩ : ByteArray), (⟨#[116, 48, 49]⟩ : ByteArray), (⟨#[40, 116, 48, 32, 62, 32, 116, 49, 41]⟩ : ByteArray)] : List ByteArray))).bind fun bt117 => (some (bt117.1, bt117.2.1, bt117.2.2))) = some (r1, r2, r3) := by rw [if_pos rfl] at H; exact H
    clear H
    have H := H1
    clear H1
    obtain ⟨y114, hy114⟩ : ∃ y_ : List ByteArray, y_ = (([(⟨#[]⟩ : ByteArray), (⟨#[116]⟩ : ByteArray), (⟨#[116, 49, 48, 48, 48]⟩ : ByteArray), (⟨#[116, 57, 57, 57]⟩ : ByteArray), (⟨#[40, 116, 48, 62, 116, 49]⟩ : ByteArray), (⟨#[116, 48, 49]⟩ : ByteArray), (⟨#[40, 116, 48, 32, 62, 32, 116, 49, 41]⟩ : ByteArray)] : List ByteArray)) := ⟨_, rfl⟩
    replace H : ((spec_l1Cur_of.f s0_0 t112 t113 y114).bind fun bt117 => (some (bt117.1, bt117.2.1, bt117.2.2))) = some (r1, r2, r3) := by first | (rw [hy114]; with_reducible exact H) | (have H2_ := (Option.bind_some _ _).symm.trans H; rw [hy114]; with_reducible exact H2_) | (have H2_ := (Option.bind_some _ _).symm.trans H; with_reducible exact H2_) | with_reducible exact H | (rw [hy114]; exact H) | exact H
    have Ny114 := aM hy114
    clear hy114
    replace H := Option.bind_eq_some_iff.mp H
    obtain ⟨⟨t117, t118, t119⟩, A70, H⟩ := H
    replace H : (some (t117, t118, t119)) = some (r1, r2, r3) := H
    have A7 := aM A70
    clear A70
    simp only [Option.some.injEq, Prod.mk.injEq] at H
    obtain ⟨rfl, rfl, rfl⟩ := H
    go_enter Tryd.func12, Tryd.ntmps12
    go_wp2_with (first | ((with_reducible refine gate_callee (f := 27) rfl ?_); refine goesL_ (some 6) rfl rfl Tryd.func27 (by kernel_rfl) rfl #[.pointer (some ⟨g, 0, none⟩), .int .i64 4] rfl (by (try simp only [List.map_toArray, List.map_cons, List.map_nil]); first | done | rfl | (simp only [List.length_drop, List.length_take]; rfl)) ?_; (with_reducible refine (spec_l1Cur_pick.calls g s0_0 s0_1 s0_2 4 t101 t102 t103 w0 _ ?side1 ?side2 A2.out).mono ?_); (case side1 => repeat (first | (with_reducible first | exact HI0.out | apply IsS39.alloc | apply IsS39.drewN | apply IsS39.drew | apply IsS39.set_1 | apply IsS39.set_2) | exact HI0.out)); (case side2 => repeat (first | (with_reducible first | exact HB.out | apply below_alloc | apply pw_below_drewN | apply below_drew1 | refine below_set ?_ (IsS39.ge HI0.out)) | exact HB.out)); rintro e w8 ⟨rfl, hi, hb, hk⟩; refine ⟨_, rfl, ?_⟩; have n0_ := aM (KeepBut.trans (by repeat (first | (with_reducible first | exact HK.out | apply KeepBut.set_ | apply keep_drewN | apply keep_drew | apply keep_alloc) | exact HK.out)) hk (.inl rfl)); have n1_ := aM (hb); have n2_ := aM (hi); clear HK; clear HB; clear HI0; have HK := n0_; have HB := n1_; have HI0 := n2_; clear n0_ n1_ n2_; (try clear hb); (try clear hb2); (try clear hk); (try clear hi)) | ((with_reducible refine gate_callee (f := 26) rfl ?_); refine goesL_ (some 8) rfl rfl Tryd.func26 (by kernel_rfl) rfl #[.pointer (some ⟨g, 0, none⟩), .int .i64 (wrap64 (1 + t101))] rfl (by (try simp only [List.map_toArray, List.map_cons, List.map_nil]); first | done | rfl | (simp only [List.length_drop, List.length_take]; rfl)) ?_; (with_reducible refine (spec_l1Cur_typeOf.calls k g s0_0 t102 t103 (wrap64 (1 + t101)) t104 t105 t108 t109 w0 _ ?side1 ?side2 A3.out).mono ?_); (case side1 => repeat (first | (with_reducible first | exact HI0.out | apply IsS39.alloc | apply IsS39.drewN | apply IsS39.drew | apply IsS39.set_1 | apply IsS39.set_2) | exact HI0.out)); (case side2 => repeat (first | (with_reducible first | exact HB.out | apply below_alloc | apply pw_below_drewN | apply below_drew1 | refine below_set ?_ (IsS39.ge HI0.out)) | exact HB.out)); rintro e w9 ⟨v106, rfl, ho0, hi, hb, hk⟩; refine ⟨_, rfl, ?_⟩; have n0_ := aM (Kd.N_lower (Kd.N_mono (ok' := fun k_ => k_ ≠ g) ho0 (fun k_ hk_ => (IsS39.fresh (by repeat (first | (with_reducible first | exact HI0.out | apply IsS39.alloc | apply IsS39.drewN | apply IsS39.drew | apply IsS39.set_1 | apply IsS39.set_2) | exact HI0.out)) k_ hk_))) (keep_size (w := w) (g := g) (row := none) (by repeat (first | (with_reducible first | exact HK.out | apply KeepBut.set_ | apply keep_drewN | apply keep_drew | apply keep_alloc) | exact HK.out)))); have n1_ := aM (KeepBut.trans (by repeat (first | (with_reducible first | exact HK.out | apply KeepBut.set_ | apply keep_drewN | apply keep_drew | apply keep_alloc) | exact HK.out)) hk (.inl rfl)); have n2_ := aM (hb); have n3_ := aM (hi); clear HK; clear HB; clear HI0; have HO107 := n0_; have HK := n1_; have HB := n2_; have HI0 := n3_; clear n0_ n1_ n2_ n3_; (try clear hb); (try clear hb2); (try clear hk); (try clear hi); (try clear ho0); obtain ⟨Ao10, co10, eo10⟩ := Kd.N_slice HO107.out; subst eo10) | ((with_reducible refine gate_callee (f := 21) rfl ?_); refine goesL_ (some 9) rfl rfl Tryd.func21 (by kernel_rfl) rfl #[.agg #[.int .i64 t104, .slice Ao10 t105.length co10]] rfl (by (try simp only [List.map_toArray, List.map_cons, List.map_nil]); first | done | rfl | (simp only [List.length_drop, List.length_take]; rfl)) ?_; (with_reducible refine (spec_leText.calls k t104 _ _ t105 t110 _ ?side1 ?side2 A4.out).mono ?_); (case side1 => repeat (first | exact (Kd.N_reads' HO107.out).2.2 | (with_reducible refine Kd.C_alloc ?_ _) | (with_reducible refine Kd.C_drewN ?_ _) | (with_reducible refine Kd.C_drew ?_))); (case side2 => exact (Kd.N_reads' HO107.out).2.1); rintro e w11 ⟨rfl, hb⟩; refine ⟨_, rfl, ?_⟩; have n0_ := aM (Kd.N_below (by (with_reducible repeat (first | apply Kd.N_alloc | apply Kd.N_drewN | apply Kd.N_drew)); exact HO107.out) hb); have n1_ := aM (IsS39.below (by repeat (first | (with_reducible first | exact HI0.out | apply IsS39.alloc | apply IsS39.drewN | apply IsS39.drew | apply IsS39.set_1 | apply IsS39.set_2) | exact HI0.out)) hb); have n2_ := aM (KeepBut.trans (by repeat (first | (with_reducible first | exact HK.out | apply KeepBut.set_ | apply keep_drewN | apply keep_drew | apply keep_alloc) | exact HK.out)) (KeepBut.of_below hb g none) (.inl rfl)); have n3_ := aM (below_step (by repeat (first | (with_reducible first | exact HB.out | apply below_alloc | apply pw_below_drewN | apply below_drew1 | refine below_set ?_ (IsS39.ge HI0.out)) | exact HB.out)) hb); clear HO107; clear HI0; clear HK; clear HB; have HO107 := n0_; have HI0 := n1_; have HK := n2_; have HB := n3_; clear n0_ n1_ n2_ n3_; (try clear hb); (try clear hb2); (try clear hk); (try clear hi)) | ((with_reducible refine gate_callee (f := 25) rfl ?_); refine goesL_ (some 11) rfl rfl Tryd.func25 (by kernel_rfl) rfl #[.pointer (some ⟨g, 0, none⟩), .int .i64 30] rfl (by (try simp only [List.map_toArray, List.map_cons, List.map_nil]); first | done | rfl | (simp only [List.length_drop, List.length_take]; rfl)) ?_; (with_reducible refine (spec_l1Cur_one.calls g s0_0 t108 t109 30 true t112 t113 w0 _ ?side1 ?side2 A5.out).mono ?_); (case side1 => repeat (first | (with_reducible first | exact HI0.out | apply IsS39.alloc | apply IsS39.drewN | apply IsS39.drew | apply IsS39.set_1 | apply IsS39.set_2) | exact HI0.out)); (case side2 => repeat (first | (with_reducible first | exact HB.out | apply below_alloc | apply pw_below_drewN | apply below_drew1 | refine below_set ?_ (IsS39.ge HI0.out)) | exact HB.out)); rintro e w12 ⟨rfl, hi, hb, hk⟩; refine ⟨_, rfl, ?_⟩; have n0_ := aM (Kd.N_mono (Kd.N_keep (Kd.N_mono (ok := fun k_ => k_ ≠ g) (by (with_reducible repeat (first | apply Kd.N_alloc | apply Kd.N_drewN | apply Kd.N_drew)); exact HO107.out) (fun k_ hk_ => (⟨hk_, hk_⟩ : _ ∧ k_ ≠ g))) hk (fun _ h => h.2)) (fun _ h => h.1)); have n1_ := aM (KeepBut.trans (by repeat (first | (with_reducible first | exact HK.out | apply KeepBut.set_ | apply keep_drewN | apply keep_drew | apply keep_alloc) | exact HK.out)) hk (.inl rfl)); have n2_ := aM (hb); have n3_ := aM (hi); clear HO107; clear HK; clear HB; clear HI0; have HO107 := n0_; have HK := n1_; have HB := n2_; have HI0 := n3_; clear n0_ n1_ n2_ n3_; (try clear hb); (try clear hb2); (try clear hk); (try clear hi)) | ((with_reducible refine gate_dst (N := 13) rfl ?_); refine Kd.R_lit Kd.string _ 9 ?hg (N := 13) ?hd (xs := ([(⟨#[]⟩ : ByteArray), (⟨#[116]⟩ : ByteArray), (⟨#[116, 49, 48, 48, 48]⟩ : ByteArray), (⟨#[116, 57, 57, 57]⟩ : ByteArray), (⟨#[40, 116, 48, 62, 116, 49]⟩ : ByteArray), (⟨#[116, 48, 49]⟩ : ByteArray), (⟨#[40, 116, 48, 32, 62, 32, 116, 49, 41]⟩ : ByteArray)] : List ByteArray)) (inner := [.string (⟨#[]⟩ : ByteArray), .string (⟨#[116]⟩ : ByteArray), .string (⟨#[116, 49, 48, 48, 48]⟩ : ByteArray), .string (⟨#[116, 57, 57, 57]⟩ : ByteArray), .string (⟨#[40, 116, 48, 62, 116, 49]⟩ : ByteArray), .string (⟨#[116, 48, 49]⟩ : ByteArray), .string (⟨#[40, 116, 48, 32, 62, 32, 116, 49, 41]⟩ : ByteArray)]) (ok := fun _ => True) (okp := fun _ => True) ?hr ?hp (fun _ hk => hk) trivial (Below.refl _ _) (Nat.le_refl _) (by simp) ?_; (case hd => rfl); (case hg => rfl); (case hr => first | (go_simp; done) | (go_simp; rfl)); (case hp => exact (Reps.one (show Kd.M Kd.string _ _ _ (⟨#[]⟩ : ByteArray) [.string (⟨#[]⟩ : ByteArray)] from rfl) (Reps.one (show Kd.M Kd.string _ _ _ (⟨#[116]⟩ : ByteArray) [.string (⟨#[116]⟩ : ByteArray)] from rfl) (Reps.one (show Kd.M Kd.string _ _ _ (⟨#[116, 49, 48, 48, 48]⟩ : ByteArray) [.string (⟨#[116, 49, 48, 48, 48]⟩ : ByteArray)] from rfl) (Reps.one (show Kd.M Kd.string _ _ _ (⟨#[116, 57, 57, 57]⟩ : ByteArray) [.string (⟨#[116, 57, 57, 57]⟩ : ByteArray)] from rfl) (Reps.one (show Kd.M Kd.string _ _ _ (⟨#[40, 116, 48, 62, 116, 49]⟩ : ByteArray) [.string (⟨#[40, 116, 48, 62, 116, 49]⟩ : ByteArray)] from rfl) (Reps.one (show Kd.M Kd.string _ _ _ (⟨#[116, 48, 49]⟩ : ByteArray) [.string (⟨#[116, 48, 49]⟩ : ByteArray)] from rfl) (Reps.one (show Kd.M Kd.string _ _ _ (⟨#[40, 116, 48, 32, 62, 32, 116, 49, 41]⟩ : ByteArray) [.string (⟨#[40, 116, 48, 32, 62, 32, 116, 49, 41]⟩ : ByteArray)] from rfl) (Reps.none _ _))))))))); intro v115 w13 ho14 hb hg_ hnew_; clear hg_ hnew_; (first | rw [← Ny114.out] at ho14 | (simp only [Int.reduceToNat] at ho14; rw [← Ny114.out] at ho14)); have n0_ := aM (Kd.N_elder' (by (with_reducible repeat (first | apply Kd.N_alloc | apply Kd.N_drewN | apply Kd.N_drew)); exact HO107.out) (Kd.R_base ho14) hb); have n1_ := aM (Kd.R_lower ho14 (keep_size (w := w) (g := g) (row := none) (by repeat (first | (with_reducible first | exact HK.out | apply KeepBut.set_ | apply keep_drewN | apply keep_drew | apply keep_alloc) | exact HK.out)))); have n2_ := aM (IsS39.below (by repeat (first | (with_reducible first | exact HI0.out | apply IsS39.alloc | apply IsS39.drewN | apply IsS39.drew | apply IsS39.set_1 | apply IsS39.set_2) | exact HI0.out)) hb); have n3_ := aM (KeepBut.trans (by repeat (first | (with_reducible first | exact HK.out | apply KeepBut.set_ | apply keep_drewN | apply keep_drew | apply keep_alloc) | exact HK.out)) (KeepBut.of_below hb g none) (.inl rfl)); have n4_ := aM (below_step (by repeat (first | (with_reducible first | exact HB.out | apply below_alloc | apply pw_below_drewN | apply below_drew1 | refine below_set ?_ (IsS39.ge HI0.out)) | exact HB.out)) hb); clear HO107; clear HI0; clear HK; clear HB; have HO107 := n0_; have HO116 := n1_; have HI0 := n2_; have HK := n3_; have HB := n4_; clear n0_ n1_ n2_ n3_ n4_; clear hb ho14; obtain ⟨Ao15, co15, eo15⟩ := Kd.R_slice HO116.out; subst eo15) | ((with_reducible refine gate_callee (f := 29) rfl ?_); refine goesL_ (some 14) rfl rfl Tryd.func29 (by kernel_rfl) rfl #[.pointer (some ⟨g, 0, none⟩), .slice Ao15 y114.length co15] rfl (by (try simp only [List.map_toArray, List.map_cons, List.map_nil]); first | done | rfl | (simp only [List.length_drop, List.length_take]; rfl)) ?_; (with_reducible refine (spec_l1Cur_of.calls g s0_0 t112 t113 _ _ y114 t117 t118 t119 w0 _ ?side1 ?side2 ?side3 ?side4 ?side5 A7.out).mono ?_); (case side1 => repeat (first | (with_reducible first | exact HI0.out | apply IsS39.alloc | apply IsS39.drewN | apply IsS39.drew | apply IsS39.set_1 | apply IsS39.set_2) | exact HI0.out)); (case side2 => repeat (first | (with_reducible first | exact HB.out | apply below_alloc | apply pw_below_drewN | apply below_drew1 | refine below_set ?_ (IsS39.ge HI0.out)) | exact HB.out)); (case side3 => repeat (first | exact (Kd.R_reads' HO116.out).2.2 | (with_reducible refine Kd.C_alloc ?_ _) | (with_reducible refine Kd.C_drewN ?_ _) | (with_reducible refine Kd.C_drew ?_))); (case side4 => exact (Kd.R_reads' HO116.out).2.1); (case side5 => exact far_slice (IsS39.own_ne HI0.out HO116.out (by decide))); rintro e w16 ⟨rfl, hi, hb, hk⟩; refine ⟨_, rfl, ?_⟩; have n0_ := aM (Kd.N_mono (Kd.N_keep (Kd.N_mono (ok := fun k_ => (k_ ≠ g ∧ some k_ ≠ (.slice Ao15 y114.length co15 : Value).ownBlock)) (by (with_reducible repeat (first | apply Kd.N_alloc | apply Kd.N_drewN | apply Kd.N_drew)); exact HO107.out) (fun k_ hk_ => (⟨hk_, hk_.1⟩ : _ ∧ k_ ≠ g))) hk (fun _ h => h.2)) (fun _ h => h.1)); have n1_ := aM (Kd.R_mono (Kd.R_keep (IsS39.apart (show IsS39 w0 _ g s0_0 t112 t113 from by repeat (first | (with_reducible first | exact HI0.out | apply IsS39.alloc | apply IsS39.drewN | apply IsS39.drew | apply IsS39.set_1 | apply IsS39.set_2) | exact HI0.out)) (by (with_reducible repeat (first | apply rA | apply rN | apply rD)); exact HO116.out) (by decide)) hk (fun _ h => h.2)) (fun _ h => h.1)); have n2_ := aM (KeepBut.trans (by repeat (first | (with_reducible first | exact HK.out | apply KeepBut.set_ | apply keep_drewN | apply keep_drew | apply keep_alloc) | exact HK.out)) hk (.inl rfl)); have n3_ := aM (hb); have n4_ := aM (hi); clear HO107; clear HO116; clear HK; clear HB; clear HI0; have HO107 := n0_; have HO116 := n1_; have HK := n2_; have HB := n3_; have HI0 := n4_; clear n0_ n1_ n2_ n3_ n4_; (try clear hb); (try clear hb2); (try clear hk); (try clear hi)))
    go_ret
    exact ⟨by first | rfl | (simp [errW_none, errW_some] <;> rfl) | (simp [*, errW_none, errW_some] <;> rfl), by repeat (first | (with_reducible first | exact HI0.out | apply IsS39.alloc | apply IsS39.drewN | apply IsS39.drew | apply IsS39.set_1 | apply IsS39.set_2) | exact HI0.out), by repeat (first | (with_reducible first | exact HB.out | apply below_alloc | apply pw_below_drewN | apply below_drew1 | refine below_set ?_ (IsS39.ge HI0.out)) | exact HB.out), by repeat (first | (with_reducible first | exact HK.out | apply KeepBut.set_ | apply keep_drewN | apply keep_drew | apply keep_alloc) | exact HK.out)⟩
  · replace c6 := Bool.eq_false_iff.mpr c6
    subst c6
    have H1 : (some (t110, t112, t113)) = some (r1, r2, r3) := by rw [if_neg (show ¬ (false = true) by decide)] at H; exact H
    clear H
    have H := H1
    clear H1
    simp only [Option.some.injEq, Prod.mk.injEq] at H
    obtain ⟨rfl, rfl, rfl⟩ := H
    go_enter Tryd.func12, Tryd.ntmps12
    go_wp2_with (first | ((with_reducible refine gate_callee (f := 27) rfl ?_); refine goesL_ (some 6) rfl rfl Tryd.func27 (by kernel_rfl) rfl #[.pointer (some ⟨g, 0, none⟩), .int .i64 4] rfl (by (try simp only [List.map_toArray, List.map_cons, List.map_nil]); first | done | rfl | (simp only [List.length_drop, List.length_take]; rfl)) ?_; (with_reducible refine (spec_l1Cur_pick.calls g s0_0 s0_1 s0_2 4 t101 t102 t103 w0 _ ?side1 ?side2 A2.out).mono ?_); (case side1 => repeat (first | (with_reducible first | exact HI0.out | apply IsS39.alloc | apply IsS39.drewN | apply IsS39.drew | apply IsS39.set_1 | apply IsS39.set_2) | exact HI0.out)); (case side2 => repeat (first | (with_reducible first | exact HB.out | apply below_alloc | apply pw_below_drewN | apply below_drew1 | refine below_set ?_ (IsS39.ge HI0.out)) | exact HB.out)); rintro e w17 ⟨rfl, hi, hb, hk⟩; refine ⟨_, rfl, ?_⟩; have n0_ := aM (KeepBut.trans (by repeat (first | (with_reducible first | exact HK.out | apply KeepBut.set_ | apply keep_drewN | apply keep_drew | apply keep_alloc) | exact HK.out)) hk (.inl rfl)); have n1_ := aM (hb); have n2_ := aM (hi); clear HK; clear HB; clear HI0; have HK := n0_; have HB := n1_; have HI0 := n2_; clear n0_ n1_ n2_; (try clear hb); (try clear hb2); (try clear hk); (try clear hi)) | ((with_reducible refine gate_callee (f := 26) rfl ?_); refine goesL_ (some 8) rfl rfl Tryd.func26 (by kernel_rfl) rfl #[.pointer (some ⟨g, 0, none⟩), .int .i64 (wrap64 (1 + t101))] rfl (by (try simp only [List.map_toArray, List.map_cons, List.map_nil]); first | done | rfl | (simp only [List.length_drop, List.length_take]; rfl)) ?_; (with_reducible refine (spec_l1Cur_typeOf.calls k g s0_0 t102 t103 (wrap64 (1 + t101)) t104 t105 t108 t109 w0 _ ?side1 ?side2 A3.out).mono ?_); (case side1 => repeat (first | (with_reducible first | exact HI0.out | apply IsS39.alloc | apply IsS39.drewN | apply IsS39.drew | apply IsS39.set_1 | apply IsS39.set_2) | exact HI0.out)); (case side2 => repeat (first | (with_reducible first | exact HB.out | apply below_alloc | apply pw_below_drewN | apply below_drew1 | refine below_set ?_ (IsS39.ge HI0.out)) | exact HB.out)); rintro e w18 ⟨v106, rfl, ho0, hi, hb, hk⟩; refine ⟨_, rfl, ?_⟩; have n0_ := aM (Kd.N_lower (Kd.N_mono (ok' := fun k_ => k_ ≠ g) ho0 (fun k_ hk_ => (IsS39.fresh (by repeat (first | (with_reducible first | exact HI0.out | apply IsS39.alloc | apply IsS39.drewN | apply IsS39.drew | apply IsS39.set_1 | apply IsS39.set_2) | exact HI0.out)) k_ hk_))) (keep_size (w := w) (g := g) (row := none) (by repeat (first | (with_reducible first | exact HK.out | apply KeepBut.set_ | apply keep_drewN | apply keep_drew | apply keep_alloc) | exact HK.out)))); have n1_ := aM (KeepBut.trans (by repeat (first | (with_reducible first | exact HK.out | apply KeepBut.set_ | apply keep_drewN | apply keep_drew | apply keep_alloc) | exact HK.out)) hk (.inl rfl)); have n2_ := aM (hb); have n3_ := aM (hi); clear HK; clear HB; clear HI0; have HO107 := n0_; have HK := n1_; have HB := n2_; have HI0 := n3_; clear n0_ n1_ n2_ n3_; (try clear hb); (try clear hb2); (try clear hk); (try clear hi); (try clear ho0); obtain ⟨Ao19, co19, eo19⟩ := Kd.N_slice HO107.out; subst eo19) | ((with_reducible refine gate_callee (f := 21) rfl ?_); refine goesL_ (some 9) rfl rfl Tryd.func21 (by kernel_rfl) rfl #[.agg #[.int .i64 t104, .slice Ao19 t105.length co19]] rfl (by (try simp only [List.map_toArray, List.map_cons, List.map_nil]); first | done | rfl | (simp only [List.length_drop, List.length_take]; rfl)) ?_; (with_reducible refine (spec_leText.calls k t104 _ _ t105 t110 _ ?side1 ?side2 A4.out).mono ?_); (case side1 => repeat (first | exact (Kd.N_reads' HO107.out).2.2 | (with_reducible refine Kd.C_alloc ?_ _) | (with_reducible refine Kd.C_drewN ?_ _) | (with_reducible refine Kd.C_drew ?_))); (case side2 => exact (Kd.N_reads' HO107.out).2.1); rintro e w20 ⟨rfl, hb⟩; refine ⟨_, rfl, ?_⟩; have n0_ := aM (Kd.N_below (by (with_reducible repeat (first | apply Kd.N_alloc | apply Kd.N_drewN | apply Kd.N_drew)); exact HO107.out) hb); have n1_ := aM (IsS39.below (by repeat (first | (with_reducible first | exact HI0.out | apply IsS39.alloc | apply IsS39.drewN | apply IsS39.drew | apply IsS39.set_1 | apply IsS39.set_2) | exact HI0.out)) hb); have n2_ := aM (KeepBut.trans (by repeat (first | (with_reducible first | exact HK.out | apply KeepBut.set_ | apply keep_drewN | apply keep_drew | apply keep_alloc) | exact HK.out)) (KeepBut.of_below hb g none) (.inl rfl)); have n3_ := aM (below_step (by repeat (first | (with_reducible first | exact HB.out | apply below_alloc | apply pw_below_drewN | apply below_drew1 | refine below_set ?_ (IsS39.ge HI0.out)) | exact HB.out)) hb); clear HO107; clear HI0; clear HK; clear HB; have HO107 := n0_; have HI0 := n1_; have HK := n2_; have HB := n3_; clear n0_ n1_ n2_ n3_; (try clear hb); (try clear hb2); (try clear hk); (try clear hi)) | ((with_reducible refine gate_callee (f := 25) rfl ?_); refine goesL_ (some 11) rfl rfl Tryd.func25 (by kernel_rfl) rfl #[.pointer (some ⟨g, 0, none⟩), .int .i64 30] rfl (by (try simp only [List.map_toArray, List.map_cons, List.map_nil]); first | done | rfl | (simp only [List.length_drop, List.length_take]; rfl)) ?_; (with_reducible refine (spec_l1Cur_one.calls g s0_0 t108 t109 30 false t112 t113 w0 _ ?side1 ?side2 A5.out).mono ?_); (case side1 => repeat (first | (with_reducible first | exact HI0.out | apply IsS39.alloc | apply IsS39.drewN | apply IsS39.drew | apply IsS39.set_1 | apply IsS39.set_2) | exact HI0.out)); (case side2 => repeat (first | (with_reducible first | exact HB.out | apply below_alloc | apply pw_below_drewN | apply below_drew1 | refine below_set ?_ (IsS39.ge HI0.out)) | exact HB.out)); rintro e w21 ⟨rfl, hi, hb, hk⟩; refine ⟨_, rfl, ?_⟩; have n0_ := aM (Kd.N_mono (Kd.N_keep (Kd.N_mono (ok := fun k_ => k_ ≠ g) (by (with_reducible repeat (first | apply Kd.N_alloc | apply Kd.N_drewN | apply Kd.N_drew)); exact HO107.out) (fun k_ hk_ => (⟨hk_, hk_⟩ : _ ∧ k_ ≠ g))) hk (fun _ h => h.2)) (fun _ h => h.1)); have n1_ := aM (KeepBut.trans (by repeat (first | (with_reducible first | exact HK.out | apply KeepBut.set_ | apply keep_drewN | apply keep_drew | apply keep_alloc) | exact HK.out)) hk (.inl rfl)); have n2_ := aM (hb); have n3_ := aM (hi); clear HO107; clear HK; clear HB; clear HI0; have HO107 := n0_; have HK := n1_; have HB := n2_; have HI0 := n3_; clear n0_ n1_ n2_ n3_; (try clear hb); (try clear hb2); (try clear hk); (try clear hi)))
    go_ret
    exact ⟨by first | rfl | (simp [errW_none, errW_some] <;> rfl) | (simp [*, errW_none, errW_some] <;> rfl), by repeat (first | (with_reducible first | exact HI0.out | apply IsS39.alloc | apply IsS39.drewN | apply IsS39.drew | apply IsS39.set_1 | apply IsS39.set_2) | exact HI0.out), by repeat (first | (with_reducible first | exact HB.out | apply below_alloc | apply pw_below_drewN | apply below_drew1 | refine below_set ?_ (IsS39.ge HI0.out)) | exact HB.out), by repeat (first | (with_reducible first | exact HK.out | apply KeepBut.set_ | apply keep_drewN | apply keep_drew | apply keep_alloc) | exact HK.out)⟩


def spec_l1Cur_among.f (s0_0 : List Int) (s0_1 : Int) (s0_2 : Int) (l1 : List Int) : Option (Int × Int × Int) := (spec_l1Cur_pick.f s0_0 s0_1 s0_2 (l1.length : Int)).bind fun bt101 => (if 0 ≤ bt101.1 then (if bt101.1 < (l1.length : Int) then (some (rd l1 bt101.1, bt101.2.1, bt101.2.2)) else (none)) else (none))
set_option maxHeartbeats 8000000 in
set_option maxRecDepth 100000 in
theorem spec_l1Cur_among.calls (g : Nat) (s0_0 : List Int) (s0_1 : Int) (s0_2 : Int) (A1 : Option Addr) (c1 : Nat) (l1 : List Int) (r1 : Int) (r2 : Int) (r3 : Int) (w0 w : World) (hI : IsS39 w0 w g s0_0 s0_1 s0_2) (hB : Below w0.heap.size w0 w) (hr1 : Kd.C (Kd.int .i64) w A1 l1.length l1) (hc1 : l1.length ≤ c1) (hf1 : ∀ ad, A1 = some ad → 0 < l1.length → ad.block ≠ g) (h : spec_l1Cur_among.f s0_0 s0_1 s0_2 l1 = some (r1, r2, r3)) :
    Calls Tryd.prog 28 #[.pointer (some ⟨g, 0, none⟩), .slice A1 l1.length c1] w fun e w' => e = .returned (.int .i64 r1) ∧ IsS39 w0 w' g s0_0 r2 r3 ∧ Below w0.heap.size w0 w' ∧ KeepBut w w' g none := by
  have HR1 := aM hr1
  have HC1 := aM hc1
  clear hr1 hc1
  have HI0 := aM hI
  have HK := aM (KeepBut.refl w g none)
  have HL := aM hB.size
  clear hI
  have HW0 := aM hB.size
  have HB := aM hB
  clear hB
  have H : ((spec_l1Cur_pick.f s0_0 s0_1 s0_2 (l1.length : Int)).bind fun bt101 => (if 0 ≤ bt101.1 then (if bt101.1 < (l1.length : Int) then (some (rd l1 bt101.1, bt101.2.1, bt101.2.2)) else (none)) else (none))) = some (r1, r2, r3) := h
  clear h
  replace H := Option.bind_eq_some_iff.mp H
  obtain ⟨⟨t101, t102, t103⟩, A30, H⟩ := H
  replace H : (if 0 ≤ t101 then (if t101 < (l1.length : Int) then (some (rd l1 t101, t102, t103)) else (none)) else (none)) = some (r1, r2, r3) := H
  have A3 := aM A30
  clear A30
  by_cases c4 : 0 ≤ t101
  · rw [if_pos c4] at H
    have c4b0 : decide (0 ≤ t101) = true := decide_eq_true c4
    clear c4
    by_cases c5 : t101 < (l1.length : Int)
    · rw [if_pos c5] at H
      have c5b0 : decide (t101 < (l1.length : Int)) = true := decide_eq_true c5
      clear c5
      simp only [Option.some.injEq, Prod.mk.injEq] at H
      obtain ⟨rfl, rfl, rfl⟩ := H
      go_enter Tryd.func28, Tryd.ntmps28
      go_wp2_with (first | ((with_reducible refine gate_callee (f := 27) rfl ?_); refine goesL_ (some 9) rfl rfl Tryd.func27 (by kernel_rfl) rfl #[.pointer (some ⟨g, 0, none⟩), .int .i64 (l1.length : Int)] rfl (by (try simp only [List.map_toArray, List.map_cons, List.map_nil]); first | done | rfl | (simp only [List.length_drop, List.length_take]; rfl)) ?_; (with_reducible refine (spec_l1Cur_pick.calls g s0_0 s0_1 s0_2 (l1.length : Int) t101 t102 t103 w0 _ ?side1 ?side2 A3.out).mono ?_); (case side1 => repeat (first | (with_reducible first | exact HI0.out | apply IsS39.alloc | apply IsS39.drewN | apply IsS39.drew | apply IsS39.set_1 | apply IsS39.set_2) | exact HI0.out)); (case side2 => repeat (first | (with_reducible first | exact HB.out | apply below_alloc | apply pw_below_drewN | apply below_drew1 | refine below_set ?_ (IsS39.ge HI0.out)) | exact HB.out)); rintro e w6 ⟨rfl, hi, hb, hk⟩; refine ⟨_, rfl, ?_⟩; have n0_ := aM (KeepBut.trans (by repeat (first | (with_reducible first | exact HK.out | apply KeepBut.set_ | apply keep_drewN | apply keep_drew | apply keep_alloc) | exact HK.out)) hk (.inl rfl)); have n1_ := aM (hb); have n2_ := aM (hi); clear HK; clear HB; clear HI0; have HK := n0_; have HB := n1_; have HI0 := n2_; clear n0_ n1_ n2_; (try clear hb); (try clear hb2); (try clear hk); (try clear hi); have p104 : 0 ≤ (t101 : Int) := of_decide_eq_true (by first | (with_reducible assumption) | assumption); have q104 : t101 < (l1.length : Int) := of_decide_eq_true (by first | (with_reducible assumption) | assumption); obtain ⟨ad104, e104, hx104_0⟩ := Kd.at_int HR1.out t101 p104 q104; cases e104; replace hx104_0 := keep_cell HK.out hx104_0 (by first | (rw [add_block]; exact hf1 _ rfl (by omega)) | exact hf1 _ rfl (by omega) | exact hf1 ad104 rfl (by omega)); replace p104 := eq_true p104; replace q104 := eq_true q104))
      go_ret
      exact ⟨by first | rfl | (simp [errW_none, errW_some] <;> rfl) | (simp [*, errW_none, errW_some] <;> rfl), by repeat (first | (with_reducible first | exact HI0.out | apply IsS39.alloc | apply IsS39.drewN | apply IsS39.drew | apply IsS39.set_1 | apply IsS39.set_2) | exact HI0.out), by repeat (first | (with_reducible first | exact HB.out | apply below_alloc | apply pw_below_drewN | apply below_drew1 | refine below_set ?_ (IsS39.ge HI0.out)) | exact HB.out), by repeat (first | (with_reducible first | exact HK.out | apply KeepBut.set_ | apply keep_drewN | apply keep_drew | apply keep_alloc) | exact HK.out)⟩
    · rw [if_neg c5] at H
      exact absurd H (by simp)
  · rw [if_neg c4] at H
    exact absurd H (by simp)


def spec_l1Cur_binds.l0 : Nat → List (S47) → Int → List Int → Int → Int → Option ((List (S47)) × Int × Int)
  | 0, _, _, _, _, _ => none
  | k + 1, x3, x4, x1000, x1001, x1002 => if x4 < 4 then ((spec_l1Cur_one.f x1000 x1001 x1002 2).bind fun bt101 => (if bt101.1 = true then ((spec_l1Cur_pick.f x1000 bt101.2.1 bt101.2.2 3).bind fun bt104 => ((spec_l1Cur_typeOf.f k x1000 bt104.2.1 bt104.2.2 bt104.1).bind fun bt107 => ((spec_leText.f k bt107.1 bt107.2.1).bind fun t113 => (if x3.length < 5864062014805 then (spec_l1Cur_binds.l0 k (x3 ++ [(⟨x4, t113⟩ : S47)]) (wrap64 (x4 + 1)) x1000 bt107.2.2.1 bt107.2.2.2) else (none))))) else (spec_l1Cur_binds.l0 k x3 (wrap64 (x4 + 1)) x1000 bt101.2.1 bt101.2.2))) else ((spec_l1Cur_one.f x1000 x1001 x1002 30).bind fun bt117 => (if bt117.1 = true then ((spec_l1Cur_among.f x1000 bt117.2.1 bt117.2.2 (([0, 999, 1000] : List Int))).bind fun bt123 => ((spec_l1Cur_typeText.f k x1000 bt123.2.1 bt123.2.2).bind fun bt126 => (if x3.length < 5864062014805 then (some ((x3 ++ [(⟨bt123.1, bt126.1⟩ : S47)]), bt126.2.1, bt126.2.2)) else (none)))) else (some (x3, bt117.2.1, bt117.2.2))))
def spec_l1Cur_binds.f (k : Nat) (s0_0 : List Int) (s0_1 : Int) (s0_2 : Int) : Option ((List (S47)) × Int × Int) := spec_l1Cur_binds.l0 k ([] : List (S47)) 0 s0_0 s0_1 s0_2
set_option maxHeartbeats 8000000 in
set_option maxRecDepth 100000 in
theorem spec_l1Cur_binds.calls (k : Nat) (g : Nat) (s0_0 : List Int) (s0_1 : Int) (s0_2 : Int) (r1 : List (S47)) (r2 : Int) (r3 : Int) (w0 w : World) (hI : IsS39 w0 w g s0_0 s0_1 s0_2) (hB : Below w0.heap.size w0 w) (h : spec_l1Cur_binds.f k s0_0 s0_1 s0_2 = some (r1, r2, r3)) :
    Calls Tryd.prog 11 #[.pointer (some ⟨g, 0, none⟩)] w fun e w' => ∃ v0_ : Value, e = .returned (v0_) ∧ Kd.R k47 47 w' w.heap.size (fun _ => True) v0_ r1 ∧ IsS39 w0 w' g s0_0 r2 r3 ∧ Below w0.heap.size w0 w' ∧ KeepBut w w' g none := by
  have hu47 := Tryd.underlying47
  have HI0 := aM hI
  have HK := aM (KeepBut.refl w g none)
  have HL := aM hB.size
  clear hI
  have HW0 := aM hB.size
  have HB := aM hB
  clear hB
  have H : (spec_l1Cur_binds.l0 k ([] : List (S47)) 0 s0_0 s0_1 s0_2) = some (r1, r2, r3) := h
  clear h
  have H' := aM H
  clear H
  go_enter Tryd.func11, Tryd.ntmps11
  go_wp2
  go_loopg [3, 4] k (fun kq v3 v4 w' => ∃ (x3_1 : List (S47)) (x4_1 : Int) (x1001_1 : Int) (x1002_1 : Int), v4 = .int .i64 x4_1 ∧ Aside0 (spec_l1Cur_binds.l0 kq x3_1 x4_1 s0_0 x1001_1 x1002_1 = some (r1, r2, r3)) ∧ Aside0 (kq ≤ k) ∧ Aside0 (Kd.R k47 47 w' w.heap.size (fun _ => True) v3 x3_1) ∧ Aside0 (IsS39 w0 w' g s0_0 x1001_1 x1002_1) ∧ Aside0 (KeepBut w w' g none) ∧ Aside0 (Below w0.heap.size w0 w'))
  case atStart => exact ⟨(([] : List (S47))), (0), (s0_1), (s0_2), (by first | rfl | (simp; done) | (simp [*]; done)), H', ⟨Nat.le_refl _⟩, ⟨by first | exact Kd.R_nil _ _ _ _ _ | exact Kd.N_nil _ _ _ _ _ | exact Kd.V_nil _ _ _ _ _ | exact Kd.Q_nil _ _ _ _ _ | exact Kd.S_nil _ _ _ _ _⟩, ⟨by repeat (first | (with_reducible first | exact HI0.out | apply IsS39.alloc | apply IsS39.drewN | apply IsS39.drew | apply IsS39.set_1 | apply IsS39.set_2) | exact HI0.out)⟩, ⟨by repeat (first | (with_reducible first | exact HK.out | apply KeepBut.set_ | apply keep_drewN | apply keep_drew | apply keep_alloc) | exact HK.out)⟩, ⟨by repeat (first | (with_reducible first | exact HB.out | apply below_alloc | apply pw_below_drewN | apply below_drew1 | refine below_set ?_ (IsS39.ge HI0.out)) | exact HB.out)⟩⟩
  case round =>
    clear H'
    try clear c1
    obtain ⟨x3_1, x4_1, x1001_1, x1002_1, rfl, HA, HK1, HO_3, HI0, HK, HB⟩ := hrel
    cases gk with
    | zero => exact absurd HA.out (by simp [spec_l1Cur_binds.l0])
    | succ k1 =>
      have H := HA.out
      clear HA
      simp only [spec_l1Cur_binds.l0] at H
      by_cases c2 : x4_1 < 4
      · rw [if_pos c2] at H
        have c2b0 : decide (x4_1 < 4) = true := decide_eq_true c2
        clear c2
        replace H := Option.bind_eq_some_iff.mp H
        obtain ⟨⟨t101, t102, t103⟩, A30, H⟩ := H
        replace H : (if t101 = true then ((spec_l1Cur_pick.f s0_0 t102 t103 3).bind fun bt104 => ((spec_l1Cur_typeOf.f k1 s0_0 bt104.2.1 bt104.2.2 bt104.1).bind fun bt107 => ((spec_leText.f k1 bt107.1 bt107.2.1).bind fun t113 => (if x3_1.length < 5864062014805 then (spec_l1Cur_binds.l0 k1 (x3_1 ++ [(⟨x4_1, t113⟩ : S47)]) (wrap64 (x4_1 + 1)) s0_0 bt107.2.2.1 bt107.2.2.2) else (none))))) else (spec_l1Cur_binds.l0 k1 x3_1 (wrap64 (x4_1 + 1)) s0_0 t102 t103)) = some (r1, r2, r3) := H
        have A3 := aM A30
        clear A30
        by_cases c4 : t101 = true
        · subst c4
          have H1 : ((spec_l1Cur_pick.f s0_0 t102 t103 3).bind fun bt104 => ((spec_l1Cur_typeOf.f k1 s0_0 bt104.2.1 bt104.2.2 bt104.1).bind fun bt107 => ((spec_leText.f k1 bt107.1 bt107.2.1).bind fun t113 => (if x3_1.length < 5864062014805 then (spec_l1Cur_binds.l0 k1 (x3_1 ++ [(⟨x4_1, t113⟩ : S47)]) (wrap64 (x4_1 + 1)) s0_0 bt107.2.2.1 bt107.2.2.2) else (none))))) = some (r1, r2, r3) := by rw [if_pos rfl] at H; exact H
          clear H
          have H := H1
          clear H1
          replace H := Option.bind_eq_some_iff.mp H
          obtain ⟨⟨t104, t105, t106⟩, A50, H⟩ := H
          replace H : ((spec_l1Cur_typeOf.f k1 s0_0 t105 t106 t104).bind fun bt107 => ((spec_leText.f k1 bt107.1 bt107.2.1).bind fun t113 => (if x3_1.length < 5864062014805 then (spec_l1Cur_binds.l0 k1 (x3_1 ++ [(⟨x4_1, t113⟩ : S47)]) (wrap64 (x4_1 + 1)) s0_0 bt107.2.2.1 bt107.2.2.2) else (none)))) = some (r1, r2, r3) := H
          have A5 := aM A50
          clear A50
          replace H := Option.bind_eq_some_iff.mp H
          obtain ⟨⟨t107, t108, t111, t112⟩, A60, H⟩ := H
          replace H : ((spec_leText.f k1 t107 t108).bind fun t113 => (if x3_1.length < 5864062014805 then (spec_l1Cur_binds.l0 k1 (x3_1 ++ [(⟨x4_1, t113⟩ : S47)]) (wrap64 (x4_1 + 1)) s0_0 t111 t112) else (none))) = some (r1, r2, r3) := H
          have A6 := aM A60
          clear A60
          replace H := Option.bind_eq_some_iff.mp H
          obtain ⟨t113, A70, H⟩ := H
          replace H : (if x3_1.length < 5864062014805 then (spec_l1Cur_binds.l0 k1 (x3_1 ++ [(⟨x4_1, t113⟩ : S47)]) (wrap64 (x4_1 + 1)) s0_0 t111 t112) else (none)) = some (r1, r2, r3) := H
          have A7 := aM A70
          clear A70
          by_cases c8 : x3_1.length < 5864062014805
          · rw [if_pos c8] at H
            have LMc8 := aM c8
            clear c8
            obtain ⟨y114, hy114⟩ : ∃ y_ : List (S47), y_ = (x3_1 ++ [(⟨x4_1, t113⟩ : S47)]) := ⟨_, rfl⟩
            replace H : (spec_l1Cur_binds.l0 k1 y114 (wrap64 (x4_1 + 1)) s0_0 t111 t112) = some (r1, r2, r3) := by first | (rw [hy114]; with_reducible exact H) | (have H2_ := (Option.bind_some _ _).symm.trans H; rw [hy114]; with_reducible exact H2_) | (have H2_ := (Option.bind_some _ _).symm.trans H; with_reducible exact H2_) | with_reducible exact H | (rw [hy114]; exact H) | exact H
            have Ny114 := aM hy114
            clear hy114
            have H' := aM H
            clear H
            go_wp2_with (first | ((with_reducible refine gate_callee (f := 25) rfl ?_); refine goesL_ (some 10) rfl rfl Tryd.func25 (by kernel_rfl) rfl #[.pointer (some ⟨g, 0, none⟩), .int .i64 2] rfl (by (try simp only [List.map_toArray, List.map_cons, List.map_nil]); first | done | rfl | (simp only [List.length_drop, List.length_take]; rfl)) ?_; (with_reducible refine (spec_l1Cur_one.calls g s0_0 x1001_1 x1002_1 2 true t102 t103 w0 _ ?side1 ?side2 A3.out).mono ?_); (case side1 => repeat (first | (with_reducible first | exact HI0.out | apply IsS39.alloc | apply IsS39.drewN | apply IsS39.drew | apply IsS39.set_1 | apply IsS39.set_2) | exact HI0.out)); (case side2 => repeat (first | (with_reducible first | exact HB.out | apply below_alloc | apply pw_below_drewN | apply below_drew1 | refine below_set ?_ (IsS39.ge HI0.out)) | exact HB.out)); rintro e w9 ⟨rfl, hi, hb, hk⟩; refine ⟨_, rfl, ?_⟩; have n0_ := aM (Kd.R_mono (Kd.R_keep (IsS39.apart (show IsS39 w0 _ g s0_0 x1001_1 x1002_1 from by repeat (first | (with_reducible first | exact HI0.out | apply IsS39.alloc | apply IsS39.drewN | apply IsS39.drew | apply IsS39.set_1 | apply IsS39.set_2) | exact HI0.out)) (by (with_reducible repeat (first | apply rA | apply rN | apply rD)); exact HO_3.out) (by decide)) hk (fun _ h => h.2)) (fun _ h => h.1)); have n1_ := aM (KeepBut.trans (by repeat (first | (with_reducible first | exact HK.out | apply KeepBut.set_ | apply keep_drewN | apply keep_drew | apply keep_alloc) | exact HK.out)) hk (.inl rfl)); have n2_ := aM (hb); have n3_ := aM (hi); clear HO_3; clear HK; clear HB; clear HI0; have HO_3 := n0_; have HK := n1_; have HB := n2_; have HI0 := n3_; clear n0_ n1_ n2_ n3_; (try clear hb); (try clear hb2); (try clear hk); (try clear hi)) | ((with_reducible refine gate_callee (f := 27) rfl ?_); refine goesL_ (some 15) rfl rfl Tryd.func27 (by kernel_rfl) rfl #[.pointer (some ⟨g, 0, none⟩), .int .i64 3] rfl (by (try simp only [List.map_toArray, List.map_cons, List.map_nil]); first | done | rfl | (simp only [List.length_drop, List.length_take]; rfl)) ?_; (with_reducible refine (spec_l1Cur_pick.calls g s0_0 t102 t103 3 t104 t105 t106 w0 _ ?side1 ?side2 A5.out).mono ?_); (case side1 => repeat (first | (with_reducible first | exact HI0.out | apply IsS39.alloc | apply IsS39.drewN | apply IsS39.drew | apply IsS39.set_1 | apply IsS39.set_2) | exact HI0.out)); (case side2 => repeat (first | (with_reducible first | exact HB.out | apply below_alloc | apply pw_below_drewN | apply below_drew1 | refine below_set ?_ (IsS39.ge HI0.out)) | exact HB.out)); rintro e w10 ⟨rfl, hi, hb, hk⟩; refine ⟨_, rfl, ?_⟩; have n0_ := aM (Kd.R_mono (Kd.R_keep (IsS39.apart (show IsS39 w0 _ g s0_0 t102 t103 from by repeat (first | (with_reducible first | exact HI0.out | apply IsS39.alloc | apply IsS39.drewN | apply IsS39.drew | apply IsS39.set_1 | apply IsS39.set_2) | exact HI0.out)) (by (with_reducible repeat (first | apply rA | apply rN | apply rD)); exact HO_3.out) (by decide)) hk (fun _ h => h.2)) (fun _ h => h.1)); have n1_ := aM (KeepBut.trans (by repeat (first | (with_reducible first | exact HK.out | apply KeepBut.set_ | apply keep_drewN | apply keep_drew | apply keep_alloc) | exact HK.out)) hk (.inl rfl)); have n2_ := aM (hb); have n3_ := aM (hi); clear HO_3; clear HK; clear HB; clear HI0; have HO_3 := n0_; have HK := n1_; have HB := n2_; have HI0 := n3_; clear n0_ n1_ n2_ n3_; (try clear hb); (try clear hb2); (try clear hk); (try clear hi)) | ((with_reducible refine gate_callee (f := 26) rfl ?_); refine goesL_ (some 16) rfl rfl Tryd.func26 (by kernel_rfl) rfl #[.pointer (some ⟨g, 0, none⟩), .int .i64 t104] rfl (by (try simp only [List.map_toArray, List.map_cons, List.map_nil]); first | done | rfl | (simp only [List.length_drop, List.length_take]; rfl)) ?_; (with_reducible refine (spec_l1Cur_typeOf.calls k1 g s0_0 t105 t106 t104 t107 t108 t111 t112 w0 _ ?side1 ?side2 A6.out).mono ?_); (case side1 => repeat (first | (with_reducible first | exact HI0.out | apply IsS39.alloc | apply IsS39.drewN | apply IsS39.drew | apply IsS39.set_1 | apply IsS39.set_2) | exact HI0.out)); (case side2 => repeat (first | (with_reducible first | exact HB.out | apply below_alloc | apply pw_below_drewN | apply below_drew1 | refine below_set ?_ (IsS39.ge HI0.out)) | exact HB.out)); rintro e w11 ⟨v109, rfl, ho0, hi, hb, hk⟩; refine ⟨_, rfl, ?_⟩; have n0_ := aM (Kd.R_mono (Kd.R_keep (IsS39.apart (show IsS39 w0 _ g s0_0 t105 t106 from by repeat (first | (with_reducible first | exact HI0.out | apply IsS39.alloc | apply IsS39.drewN | apply IsS39.drew | apply IsS39.set_1 | apply IsS39.set_2) | exact HI0.out)) (by (with_reducible repeat (first | apply rA | apply rN | apply rD)); exact HO_3.out) (by decide)) hk (fun _ h => h.2)) (fun _ h => h.1)); have n1_ := aM (Kd.N_lower (Kd.N_mono (ok' := fun k_ => some k_ ≠ (u3 : Value).ownBlock ∧ k_ ≠ g) ho0 (fun k_ hk_ => ⟨(Kd.fresh' (Kd.R_lt (by (with_reducible repeat (first | apply rA | apply rN | apply rD)); exact HO_3.out)) k_ hk_), (IsS39.fresh (by repeat (first | (with_reducible first | exact HI0.out | apply IsS39.alloc | apply IsS39.drewN | apply IsS39.drew | apply IsS39.set_1 | apply IsS39.set_2) | exact HI0.out)) k_ hk_)⟩)) (keep_size (w := w) (g := g) (row := none) (by repeat (first | (with_reducible first | exact HK.out | apply KeepBut.set_ | apply keep_drewN | apply keep_drew | apply keep_alloc) | exact HK.out)))); have n2_ := aM (KeepBut.trans (by repeat (first | (with_reducible first | exact HK.out | apply KeepBut.set_ | apply keep_drewN | apply keep_drew | apply keep_alloc) | exact HK.out)) hk (.inl rfl)); have n3_ := aM (hb); have n4_ := aM (hi); clear HO_3; clear HK; clear HB; clear HI0; have HO_3 := n0_; have HO110 := n1_; have HK := n2_; have HB := n3_; have HI0 := n4_; clear n0_ n1_ n2_ n3_ n4_; (try clear hb); (try clear hb2); (try clear hk); (try clear hi); (try clear ho0); obtain ⟨Ao12, co12, eo12⟩ := Kd.N_slice HO110.out; subst eo12) | ((with_reducible refine gate_callee (f := 21) rfl ?_); refine goesL_ (some 17) rfl rfl Tryd.func21 (by kernel_rfl) rfl #[.agg #[.int .i64 t107, .slice Ao12 t108.length co12]] rfl (by (try simp only [List.map_toArray, List.map_cons, List.map_nil]); first | done | rfl | (simp only [List.length_drop, List.length_take]; rfl)) ?_; (with_reducible refine (spec_leText.calls k1 t107 _ _ t108 t113 _ ?side1 ?side2 A7.out).mono ?_); (case side1 => repeat (first | exact (Kd.N_reads' HO110.out).2.2 | (with_reducible refine Kd.C_alloc ?_ _) | (with_reducible refine Kd.C_drewN ?_ _) | (with_reducible refine Kd.C_drew ?_))); (case side2 => exact (Kd.N_reads' HO110.out).2.1); rintro e w13 ⟨rfl, hb⟩; refine ⟨_, rfl, ?_⟩; have n0_ := aM (Kd.R_below (by (with_reducible repeat (first | apply rA | apply rN | apply rD)); exact HO_3.out) hb); have n1_ := aM (Kd.N_below (by (with_reducible repeat (first | apply Kd.N_alloc | apply Kd.N_drewN | apply Kd.N_drew)); exact HO110.out) hb); have n2_ := aM (IsS39.below (by repeat (first | (with_reducible first | exact HI0.out | apply IsS39.alloc | apply IsS39.drewN | apply IsS39.drew | apply IsS39.set_1 | apply IsS39.set_2) | exact HI0.out)) hb); have n3_ := aM (KeepBut.trans (by repeat (first | (with_reducible first | exact HK.out | apply KeepBut.set_ | apply keep_drewN | apply keep_drew | apply keep_alloc) | exact HK.out)) (KeepBut.of_below hb g none) (.inl rfl)); have n4_ := aM (below_step (by repeat (first | (with_reducible first | exact HB.out | apply below_alloc | apply pw_below_drewN | apply below_drew1 | refine below_set ?_ (IsS39.ge HI0.out)) | exact HB.out)) hb); clear HO_3; clear HO110; clear HI0; clear HK; clear HB; have HO_3 := n0_; have HO110 := n1_; have HI0 := n2_; have HK := n3_; have HB := n4_; clear n0_ n1_ n2_ n3_ n4_; (try clear hb); (try clear hb2); (try clear hk); (try clear hi)) | ((with_reducible refine gate_builtin (b := .append) (xs := #[.tmp 11, .tmp 19]) rfl ?_); at_builtin; refine Kd.R_append k47 w.heap.size rfl (.tmp 11) (.tmp 19) 23 47 (.agg #[(.int .i64 0), (.string ⟨#[]⟩)]) 24 rfl Tryd.underlying23 info47 rfl (by decide) (by omega) u3 x3_1 (⟨x4_1, t113⟩ : S47) [.int .i64 x4_1, .string t113] (fun _ => True) (fun _ => False) rfl rfl ?aP (fun _ hk => hk.elim) ?aF ?aO (Below.refl _ _) ?aS ?aL ?_; (case aP => exact k47_mkM _ _ _ (⟨x4_1, t113⟩ : S47)); (case aF => exact (fun _ _ => trivial)); (case aO => exact (by (with_reducible repeat (first | apply rA | apply rN | apply rD)); exact HO_3.out)); (case aS => exact (keep_size (w := w) (g := g) (row := none) (by repeat (first | (with_reducible first | exact HK.out | apply KeepBut.set_ | apply keep_drewN | apply keep_drew | apply keep_alloc) | exact HK.out)))); (case aL => have := LMc8.out; omega); intro v115 w14 ho hb hg hat; rw [← Ny114.out] at ho; have n0_ := aM (IsS39.grown (by repeat (first | (with_reducible first | exact HI0.out | apply IsS39.alloc | apply IsS39.drewN | apply IsS39.drew | apply IsS39.set_1 | apply IsS39.set_2) | exact HI0.out)) hg (IsS39.own_ne HI0.out HO_3.out (by decide))); have n1_ := aM (Kd.N_afterv (ok := (fun k_ => k_ ≠ g)) (by (with_reducible repeat (first | apply Kd.N_alloc | apply Kd.N_drewN | apply Kd.N_drew)); exact Kd.N_mono HO110.out (fun _ hk => ⟨hk.2, hk.1⟩)) hg hat); have n2_ := aM (below_weaken (by repeat (first | (with_reducible first | exact HB.out | apply below_alloc | apply pw_below_drewN | apply below_drew1 | refine below_set ?_ (IsS39.ge HI0.out)) | exact HB.out)) HL.out hb); have n3_ := aM (KeepBut.trans (by repeat (first | (with_reducible first | exact HK.out | apply KeepBut.set_ | apply keep_drewN | apply keep_drew | apply keep_alloc) | exact HK.out)) (KeepBut.of_grown hg g) (Kd.R_base2 HO_3.out)); have n4_ := aM (ho); clear HI0; clear HO110; clear HB; clear HK; clear HO_3; have HI0 := n0_; have HO110 := n1_; have HB := n2_; have HK := n3_; have HO116 := n4_; clear n0_ n1_ n2_ n3_ n4_; clear ho hb hg hat))
            go_roundg k1
            case measure => have := HK1.out; omega
            case rel => exact ⟨(y114), (wrap64 (x4_1 + 1)), (t111), (t112), (by first | rfl | (simp; done) | (simp [*]; done)), H', ⟨by have := HK1.out; omega⟩, ⟨by (with_reducible repeat (first | apply rA | apply rN | apply rD)); exact HO116.out⟩, ⟨by repeat (first | (with_reducible first | exact HI0.out | apply IsS39.alloc | apply IsS39.drewN | apply IsS39.drew | apply IsS39.set_1 | apply IsS39.set_2) | exact HI0.out)⟩, ⟨by repeat (first | (with_reducible first | exact HK.out | apply KeepBut.set_ | apply keep_drewN | apply keep_drew | apply keep_alloc) | exact HK.out)⟩, ⟨by repeat (first | (with_reducible first | exact HB.out | apply below_alloc | apply pw_below_drewN | apply below_drew1 | refine below_set ?_ (IsS39.ge HI0.out)) | exact HB.out)⟩⟩
          · rw [if_neg c8] at H
            exact absurd H (by simp)
        · replace c4 := Bool.eq_false_iff.mpr c4
          subst c4
          have H1 : (spec_l1Cur_binds.l0 k1 x3_1 (wrap64 (x4_1 + 1)) s0_0 t102 t103) = some (r1, r2, r3) := by rw [if_neg (show ¬ (false = true) by decide)] at H; exact H
          clear H
          have H := H1
          clear H1
          have H' := aM H
          clear H
          go_wp2_with (first | ((with_reducible refine gate_callee (f := 25) rfl ?_); refine goesL_ (some 10) rfl rfl Tryd.func25 (by kernel_rfl) rfl #[.pointer (some ⟨g, 0, none⟩), .int .i64 2] rfl (by (try simp only [List.map_toArray, List.map_cons, List.map_nil]); first | done | rfl | (simp only [List.length_drop, List.length_take]; rfl)) ?_; (with_reducible refine (spec_l1Cur_one.calls g s0_0 x1001_1 x1002_1 2 false t102 t103 w0 _ ?side1 ?side2 A3.out).mono ?_); (case side1 => repeat (first | (with_reducible first | exact HI0.out | apply IsS39.alloc | apply IsS39.drewN | apply IsS39.drew | apply IsS39.set_1 | apply IsS39.set_2) | exact HI0.out)); (case side2 => repeat (first | (with_reducible first | exact HB.out | apply below_alloc | apply pw_below_drewN | apply below_drew1 | refine below_set ?_ (IsS39.ge HI0.out)) | exact HB.out)); rintro e w15 ⟨rfl, hi, hb, hk⟩; refine ⟨_, rfl, ?_⟩; have n0_ := aM (Kd.R_mono (Kd.R_keep (IsS39.apart (show IsS39 w0 _ g s0_0 x1001_1 x1002_1 from by repeat (first | (with_reducible first | exact HI0.out | apply IsS39.alloc | apply IsS39.drewN | apply IsS39.drew | apply IsS39.set_1 | apply IsS39.set_2) | exact HI0.out)) (by (with_reducible repeat (first | apply rA | apply rN | apply rD)); exact HO_3.out) (by decide)) hk (fun _ h => h.2)) (fun _ h => h.1)); have n1_ := aM (KeepBut.trans (by repeat (first | (with_reducible first | exact HK.out | apply KeepBut.set_ | apply keep_drewN | apply keep_drew | apply keep_alloc) | exact HK.out)) hk (.inl rfl)); have n2_ := aM (hb); have n3_ := aM (hi); clear HO_3; clear HK; clear HB; clear HI0; have HO_3 := n0_; have HK := n1_; have HB := n2_; have HI0 := n3_; clear n0_ n1_ n2_ n3_; (try clear hb); (try clear hb2); (try clear hk); (try clear hi)))
          go_roundg k1
          case measure => have := HK1.out; omega
          case rel => exact ⟨(x3_1), (wrap64 (x4_1 + 1)), (t102), (t103), (by first | rfl | (simp; done) | (simp [*]; done)), H', ⟨by have := HK1.out; omega⟩, ⟨by (with_reducible repeat (first | apply rA | apply rN | apply rD)); exact HO_3.out⟩, ⟨by repeat (first | (with_reducible first | exact HI0.out | apply IsS39.alloc | apply IsS39.drewN | apply IsS39.drew | apply IsS39.set_1 | apply IsS39.set_2) | exact HI0.out)⟩, ⟨by repeat (first | (with_reducible first | exact HK.out | apply KeepBut.set_ | apply keep_drewN | apply keep_drew | apply keep_alloc) | exact HK.out)⟩, ⟨by repeat (first | (with_reducible first | exact HB.out | apply below_alloc | apply pw_below_drewN | apply below_drew1 | refine below_set ?_ (IsS39.ge HI0.out)) | exact HB.out)⟩⟩
      · rw [if_neg c2] at H
        have c2b0 : decide (x4_1 < 4) = false := decide_eq_false c2
        clear c2
        replace H := Option.bind_eq_some_iff.mp H
        obtain ⟨⟨t117, t118, t119⟩, A160, H⟩ := H
        replace H : (if t117 = true then ((spec_l1Cur_among.f s0_0 t118 t119 (([0, 999, 1000] : List Int))).bind fun bt123 => ((spec_l1Cur_typeText.f k1 s0_0 bt123.2.1 bt123.2.2).bind fun bt126 => (if x3_1.length < 5864062014805 then (some ((x3_1 ++ [(⟨bt123.1, bt126.1⟩ : S47)]), bt126.2.1, bt126.2.2)) else (none)))) else (some (x3_1, t118, t119))) = some (r1, r2, r3) := H
        have A16 := aM A160
        clear A160
        by_cases c17 : t117 = true
        · subst c17
          have H1 : ((spec_l1Cur_among.f s0_0 t118 t119 (([0, 999, 1000] : List Int))).bind fun bt123 => ((spec_l1Cur_typeText.f k1 s0_0 bt123.2.1 bt123.2.2).bind fun bt126 => (if x3_1.length < 5864062014805 then (some ((x3_1 ++ [(⟨bt123.1, bt126.1⟩ : S47)]), bt126.2.1, bt126.2.2)) else (none)))) = some (r1, r2, r3) := by rw [if_pos rfl] at H; exact H
          clear H
          have H := H1
          clear H1
          obtain ⟨y120, hy120⟩ : ∃ y_ : List Int, y_ = (([0, 999, 1000] : List Int)) := ⟨_, rfl⟩
          replace H : ((spec_l1Cur_among.f s0_0 t118 t119 y120).bind fun bt123 => ((spec_l1Cur_typeText.f k1 s0_0 bt123.2.1 bt123.2.2).bind fun bt126 => (if x3_1.length < 5864062014805 then (some ((x3_1 ++ [(⟨bt123.1, bt126.1⟩ : S47)]), bt126.2.1, bt126.2.2)) else (none)))) = some (r1, r2, r3) := by first | (rw [hy120]; with_reducible exact H) | (have H2_ := (Option.bind_some _ _).symm.trans H; rw [hy120]; with_reducible exact H2_) | (have H2_ := (Option.bind_some _ _).symm.trans H; with_reducible exact H2_) | with_reducible exact H | (rw [hy120]; exact H) | exact H
          have Ny120 := aM hy120
          clear hy120
          replace H := Option.bind_eq_some_iff.mp H
          obtain ⟨⟨t123, t124, t125⟩, A180, H⟩ := H
          replace H : ((spec_l1Cur_typeText.f k1 s0_0 t124 t125).bind fun bt126 => (if x3_1.length < 5864062014805 then (some ((x3_1 ++ [(⟨t123, bt126.1⟩ : S47)]), bt126.2.1, bt126.2.2)) else (none))) = some (r1, r2, r3) := H
          have A18 := aM A180
          clear A180
          replace H := Option.bind_eq_some_iff.mp H
          obtain ⟨⟨t126, t127, t128⟩, A190, H⟩ := H
          replace H : (if x3_1.length < 5864062014805 then (some ((x3_1 ++ [(⟨t123, t126⟩ : S47)]), t127, t128)) else (none)) = some (r1, r2, r3) := H
          have A19 := aM A190
          clear A190
          by_cases c20 : x3_1.length < 5864062014805
          · rw [if_pos c20] at H
            have LMc20 := aM c20
            clear c20
            obtain ⟨y129, hy129⟩ : ∃ y_ : List (S47), y_ = (x3_1 ++ [(⟨t123, t126⟩ : S47)]) := ⟨_, rfl⟩
            replace H : (some (y129, t127, t128)) = some (r1, r2, r3) := by first | (rw [hy129]; with_reducible exact H) | (have H2_ := (Option.bind_some _ _).symm.trans H; rw [hy129]; with_reducible exact H2_) | (have H2_ := (Option.bind_some _ _).symm.trans H; with_reducible exact H2_) | with_reducible exact H | (rw [hy129]; exact H) | exact H
            have Ny129 := aM hy129
            clear hy129
            simp only [Option.some.injEq, Prod.mk.injEq] at H
            obtain ⟨rfl, rfl, rfl⟩ := H
            go_wp2_with (first | ((with_reducible refine gate_callee (f := 25) rfl ?_); refine goesL_ (some 22) rfl rfl Tryd.func25 (by kernel_rfl) rfl #[.pointer (some ⟨g, 0, none⟩), .int .i64 30] rfl (by (try simp only [List.map_toArray, List.map_cons, List.map_nil]); first | done | rfl | (simp only [List.length_drop, List.length_take]; rfl)) ?_; (with_reducible refine (spec_l1Cur_one.calls g s0_0 x1001_1 x1002_1 30 true t118 t119 w0 _ ?side1 ?side2 A16.out).mono ?_); (case side1 => repeat (first | (with_reducible first | exact HI0.out | apply IsS39.alloc | apply IsS39.drewN | apply IsS39.drew | apply IsS39.set_1 | apply IsS39.set_2) | exact HI0.out)); (case side2 => repeat (first | (with_reducible first | exact HB.out | apply below_alloc | apply pw_below_drewN | apply below_drew1 | refine below_set ?_ (IsS39.ge HI0.out)) | exact HB.out)); rintro e w21 ⟨rfl, hi, hb, hk⟩; refine ⟨_, rfl, ?_⟩; have n0_ := aM (Kd.R_mono (Kd.R_keep (IsS39.apart (show IsS39 w0 _ g s0_0 x1001_1 x1002_1 from by repeat (first | (with_reducible first | exact HI0.out | apply IsS39.alloc | apply IsS39.drewN | apply IsS39.drew | apply IsS39.set_1 | apply IsS39.set_2) | exact HI0.out)) (by (with_reducible repeat (first | apply rA | apply rN | apply rD)); exact HO_3.out) (by decide)) hk (fun _ h => h.2)) (fun _ h => h.1)); have n1_ := aM (KeepBut.trans (by repeat (first | (with_reducible first | exact HK.out | apply KeepBut.set_ | apply keep_drewN | apply keep_drew | apply keep_alloc) | exact HK.out)) hk (.inl rfl)); have n2_ := aM (hb); have n3_ := aM (hi); clear HO_3; clear HK; clear HB; clear HI0; have HO_3 := n0_; have HK := n1_; have HB := n2_; have HI0 := n3_; clear n0_ n1_ n2_ n3_; (try clear hb); (try clear hb2); (try clear hk); (try clear hi)) | ((with_reducible refine gate_dst (N := 25) rfl ?_); refine Kd.R_lit (Kd.int .i64) _ 3 ?hg (N := 25) ?hd (xs := ([0, 999, 1000] : List Int)) (inner := [.int .i64 0, .int .i64 999, .int .i64 1000]) (ok := fun _ => True) (okp := fun _ => True) ?hr ?hp (fun _ hk => hk) trivial (Below.refl _ _) (Nat.le_refl _) (by simp) ?_; (case hd => rfl); (case hg => rfl); (case hr => first | (go_simp; done) | (go_simp; rfl)); (case hp => exact (Reps.one (show Kd.M (Kd.int .i64) _ _ _ 0 [.int .i64 0] from rfl) (Reps.one (show Kd.M (Kd.int .i64) _ _ _ 999 [.int .i64 999] from rfl) (Reps.one (show Kd.M (Kd.int .i64) _ _ _ 1000 [.int .i64 1000] from rfl) (Reps.none _ _))))); intro v121 w22 ho23 hb hg_ hnew_; clear hg_ hnew_; (first | rw [← Ny120.out] at ho23 | (simp only [Int.reduceToNat] at ho23; rw [← Ny120.out] at ho23)); have n0_ := aM (Kd.R_below (by (with_reducible repeat (first | apply rA | apply rN | apply rD)); exact HO_3.out) hb); have n1_ := aM (Kd.R_lower ho23 (keep_size (w := w) (g := g) (row := none) (by repeat (first | (with_reducible first | exact HK.out | apply KeepBut.set_ | apply keep_drewN | apply keep_drew | apply keep_alloc) | exact HK.out)))); have n2_ := aM (IsS39.below (by repeat (first | (with_reducible first | exact HI0.out | apply IsS39.alloc | apply IsS39.drewN | apply IsS39.drew | apply IsS39.set_1 | apply IsS39.set_2) | exact HI0.out)) hb); have n3_ := aM (KeepBut.trans (by repeat (first | (with_reducible first | exact HK.out | apply KeepBut.set_ | apply keep_drewN | apply keep_drew | apply keep_alloc) | exact HK.out)) (KeepBut.of_below hb g none) (.inl rfl)); have n4_ := aM (below_step (by repeat (first | (with_reducible first | exact HB.out | apply below_alloc | apply pw_below_drewN | apply below_drew1 | refine below_set ?_ (IsS39.ge HI0.out)) | exact HB.out)) hb); clear HO_3; clear HI0; clear HK; clear HB; have HO_3 := n0_; have HO122 := n1_; have HI0 := n2_; have HK := n3_; have HB := n4_; clear n0_ n1_ n2_ n3_ n4_; clear hb ho23; obtain ⟨Ao24, co24, eo24⟩ := Kd.R_slice HO122.out; subst eo24) | ((with_reducible refine gate_callee (f := 28) rfl ?_); refine goesL_ (some 26) rfl rfl Tryd.func28 (by kernel_rfl) rfl #[.pointer (some ⟨g, 0, none⟩), .slice Ao24 y120.length co24] rfl (by (try simp only [List.map_toArray, List.map_cons, List.map_nil]); first | done | rfl | (simp only [List.length_drop, List.length_take]; rfl)) ?_; (with_reducible refine (spec_l1Cur_among.calls g s0_0 t118 t119 _ _ y120 t123 t124 t125 w0 _ ?side1 ?side2 ?side3 ?side4 ?side5 A18.out).mono ?_); (case side1 => repeat (first | (with_reducible first | exact HI0.out | apply IsS39.alloc | apply IsS39.drewN | apply IsS39.drew | apply IsS39.set_1 | apply IsS39.set_2) | exact HI0.out)); (case side2 => repeat (first | (with_reducible first | exact HB.out | apply below_alloc | apply pw_below_drewN | apply below_drew1 | refine below_set ?_ (IsS39.ge HI0.out)) | exact HB.out)); (case side3 => repeat (first | exact (Kd.R_reads' HO122.out).2.2 | (with_reducible refine Kd.C_alloc ?_ _) | (with_reducible refine Kd.C_drewN ?_ _) | (with_reducible refine Kd.C_drew ?_))); (case side4 => exact (Kd.R_reads' HO122.out).2.1); (case side5 => exact far_slice (IsS39.own_ne HI0.out HO122.out (by decide))); rintro e w25 ⟨rfl, hi, hb, hk⟩; refine ⟨_, rfl, ?_⟩; have n0_ := aM (Kd.R_mono (Kd.R_keep (IsS39.apart (show IsS39 w0 _ g s0_0 t118 t119 from by repeat (first | (with_reducible first | exact HI0.out | apply IsS39.alloc | apply IsS39.drewN | apply IsS39.drew | apply IsS39.set_1 | apply IsS39.set_2) | exact HI0.out)) (by (with_reducible repeat (first | apply rA | apply rN | apply rD)); exact HO_3.out) (by decide)) hk (fun _ h => h.2)) (fun _ h => h.1)); have n1_ := aM (Kd.R_mono (Kd.R_keep (IsS39.apart (show IsS39 w0 _ g s0_0 t118 t119 from by repeat (first | (with_reducible first | exact HI0.out | apply IsS39.alloc | apply IsS39.drewN | apply IsS39.drew | apply IsS39.set_1 | apply IsS39.set_2) | exact HI0.out)) (by (with_reducible repeat (first | apply rA | apply rN | apply rD)); exact HO122.out) (by decide)) hk (fun _ h => h.2)) (fun _ h => h.1)); have n2_ := aM (KeepBut.trans (by repeat (first | (with_reducible first | exact HK.out | apply KeepBut.set_ | apply keep_drewN | apply keep_drew | apply keep_alloc) | exact HK.out)) hk (.inl rfl)); have n3_ := aM (hb); have n4_ := aM (hi); clear HO_3; clear HO122; clear HK; clear HB; clear HI0; have HO_3 := n0_; have HO122 := n1_; have HK := n2_; have HB := n3_; have HI0 := n4_; clear n0_ n1_ n2_ n3_ n4_; (try clear hb); (try clear hb2); (try clear hk); (try clear hi)) | ((with_reducible refine gate_callee (f := 12) rfl ?_); refine goesL_ (some 28) rfl rfl Tryd.func12 (by kernel_rfl) rfl #[.pointer (some ⟨g, 0, none⟩)] rfl (by (try simp only [List.map_toArray, List.map_cons, List.map_nil]); first | done | rfl | (simp only [List.length_drop, List.length_take]; rfl)) ?_; (with_reducible refine (spec_l1Cur_typeText.calls k1 g s0_0 t124 t125 t126 t127 t128 w0 _ ?side1 ?side2 A19.out).mono ?_); (case side1 => repeat (first | (with_reducible first | exact HI0.out | apply IsS39.alloc | apply IsS39.drewN | apply IsS39.drew | apply IsS39.set_1 | apply IsS39.set_2) | exact HI0.out)); (case side2 => repeat (first | (with_reducible first | exact HB.out | apply below_alloc | apply pw_below_drewN | apply below_drew1 | refine below_set ?_ (IsS39.ge HI0.out)) | exact HB.out)); rintro e w26 ⟨rfl, hi, hb, hk⟩; refine ⟨_, rfl, ?_⟩; have n0_ := aM (Kd.R_mono (Kd.R_keep (IsS39.apart (show IsS39 w0 _ g s0_0 t124 t125 from by repeat (first | (with_reducible first | exact HI0.out | apply IsS39.alloc | apply IsS39.drewN | apply IsS39.drew | apply IsS39.set_1 | apply IsS39.set_2) | exact HI0.out)) (by (with_reducible repeat (first | apply rA | apply rN | apply rD)); exact HO_3.out) (by decide)) hk (fun _ h => h.2)) (fun _ h => h.1)); have n1_ := aM (Kd.R_mono (Kd.R_keep (IsS39.apart (show IsS39 w0 _ g s0_0 t124 t125 from by repeat (first | (with_reducible first | exact HI0.out | apply IsS39.alloc | apply IsS39.drewN | apply IsS39.drew | apply IsS39.set_1 | apply IsS39.set_2) | exact HI0.out)) (by (with_reducible repeat (first | apply rA | apply rN | apply rD)); exact HO122.out) (by decide)) hk (fun _ h => h.2)) (fun _ h => h.1)); have n2_ := aM (KeepBut.trans (by repeat (first | (with_reducible first | exact HK.out | apply KeepBut.set_ | apply keep_drewN | apply keep_drew | apply keep_alloc) | exact HK.out)) hk (.inl rfl)); have n3_ := aM (hb); have n4_ := aM (hi); clear HO_3; clear HO122; clear HK; clear HB; clear HI0; have HO_3 := n0_; have HO122 := n1_; have HK := n2_; have HB := n3_; have HI0 := n4_; clear n0_ n1_ n2_ n3_ n4_; (try clear hb); (try clear hb2); (try clear hk); (try clear hi)) | ((with_reducible refine gate_builtin (b := .append) (xs := #[.tmp 23, .tmp 30]) rfl ?_); at_builtin; refine Kd.R_append k47 w.heap.size rfl (.tmp 23) (.tmp 30) 23 47 (.agg #[(.int .i64 0), (.string ⟨#[]⟩)]) 24 rfl Tryd.underlying23 info47 rfl (by decide) (by omega) u3 x3_1 (⟨t123, t126⟩ : S47) [.int .i64 t123, .string t126] (fun _ => True) (fun _ => False) rfl rfl ?aP (fun _ hk => hk.elim) ?aF ?aO (Below.refl _ _) ?aS ?aL ?_; (case aP => exact k47_mkM _ _ _ (⟨t123, t126⟩ : S47)); (case aF => exact (fun _ _ => trivial)); (case aO => exact (by (with_reducible repeat (first | apply rA | apply rN | apply rD)); exact HO_3.out)); (case aS => exact (keep_size (w := w) (g := g) (row := none) (by repeat (first | (with_reducible first | exact HK.out | apply KeepBut.set_ | apply keep_drewN | apply keep_drew | apply keep_alloc) | exact HK.out)))); (case aL => have := LMc20.out; omega); intro v130 w27 ho hb hg hat; rw [← Ny129.out] at ho; have n0_ := aM (IsS39.grown (by repeat (first | (with_reducible first | exact HI0.out | apply IsS39.alloc | apply IsS39.drewN | apply IsS39.drew | apply IsS39.set_1 | apply IsS39.set_2) | exact HI0.out)) hg (IsS39.own_ne HI0.out HO_3.out (by decide))); have n1_ := aM (Kd.R_over' (by (with_reducible repeat (first | apply rA | apply rN | apply rD)); exact HO122.out) (Kd.R_typed (by (with_reducible repeat (first | apply rA | apply rN | apply rD)); exact HO_3.out)) (by decide) hg); have n2_ := aM (below_weaken (by repeat (first | (with_reducible first | exact HB.out | apply below_alloc | apply pw_below_drewN | apply below_drew1 | refine below_set ?_ (IsS39.ge HI0.out)) | exact HB.out)) HL.out hb); have n3_ := aM (KeepBut.trans (by repeat (first | (with_reducible first | exact HK.out | apply KeepBut.set_ | apply keep_drewN | apply keep_drew | apply keep_alloc) | exact HK.out)) (KeepBut.of_grown hg g) (Kd.R_base2 HO_3.out)); have n4_ := aM (ho); clear HI0; clear HO122; clear HB; clear HK; clear HO_3; have HI0 := n0_; have HO122 := n1_; have HB := n2_; have HK := n3_; have HO131 := n4_; clear n0_ n1_ n2_ n3_ n4_; clear ho hb hg hat))
            go_ret
            exact ⟨_, by first | rfl | (simp [errW_none, errW_some] <;> rfl) | (simp [*, errW_none, errW_some] <;> rfl), by (with_reducible repeat (first | apply rA | apply rN | apply rD)); exact HO131.out, by repeat (first | (with_reducible first | exact HI0.out | apply IsS39.alloc | apply IsS39.drewN | apply IsS39.drew | apply IsS39.set_1 | apply IsS39.set_2) | exact HI0.out), by repeat (first | (with_reducible first | exact HB.out | apply below_alloc | apply pw_below_drewN | apply below_drew1 | refine below_set ?_ (IsS39.ge HI0.out)) | exact HB.out), by repeat (first | (with_reducible first | exact HK.out | apply KeepBut.set_ | apply keep_drewN | apply keep_drew | apply keep_alloc) | exact HK.out)⟩
          · rw [if_neg c20] at H
            exact absurd H (by simp)
        · replace c17 := Bool.eq_false_iff.mpr c17
          subst c17
          have H1 : (some (x3_1, t118, t119)) = some (r1, r2, r3) := by rw [if_neg (show ¬ (false = true) by decide)] at H; exact H
          clear H
          have H := H1
          clear H1
          simp only [Option.some.injEq, Prod.mk.injEq] at H
          obtain ⟨rfl, rfl, rfl⟩ := H
          go_wp2_with (first | ((with_reducible refine gate_callee (f := 25) rfl ?_); refine goesL_ (some 22) rfl rfl Tryd.func25 (by kernel_rfl) rfl #[.pointer (some ⟨g, 0, none⟩), .int .i64 30] rfl (by (try simp only [List.map_toArray, List.map_cons, List.map_nil]); first | done | rfl | (simp only [List.length_drop, List.length_take]; rfl)) ?_; (with_reducible refine (spec_l1Cur_one.calls g s0_0 x1001_1 x1002_1 30 false t118 t119 w0 _ ?side1 ?side2 A16.out).mono ?_); (case side1 => repeat (first | (with_reducible first | exact HI0.out | apply IsS39.alloc | apply IsS39.drewN | apply IsS39.drew | apply IsS39.set_1 | apply IsS39.set_2) | exact HI0.out)); (case side2 => repeat (first | (with_reducible first | exact HB.out | apply below_alloc | apply pw_below_drewN | apply below_drew1 | refine below_set ?_ (IsS39.ge HI0.out)) | exact HB.out)); rintro e w28 ⟨rfl, hi, hb, hk⟩; refine ⟨_, rfl, ?_⟩; have n0_ := aM (Kd.R_mono (Kd.R_keep (IsS39.apart (show IsS39 w0 _ g s0_0 x1001_1 x1002_1 from by repeat (first | (with_reducible first | exact HI0.out | apply IsS39.alloc | apply IsS39.drewN | apply IsS39.drew | apply IsS39.set_1 | apply IsS39.set_2) | exact HI0.out)) (by (with_reducible repeat (first | apply rA | apply rN | apply rD)); exact HO_3.out) (by decide)) hk (fun _ h => h.2)) (fun _ h => h.1)); have n1_ := aM (KeepBut.trans (by repeat (first | (with_reducible first | exact HK.out | apply KeepBut.set_ | apply keep_drewN | apply keep_drew | apply keep_alloc) | exact HK.out)) hk (.inl rfl)); have n2_ := aM (hb); have n3_ := aM (hi); clear HO_3; clear HK; clear HB; clear HI0; have HO_3 := n0_; have HK := n1_; have HB := n2_; have HI0 := n3_; clear n0_ n1_ n2_ n3_; (try clear hb); (try clear hb2); (try clear hk); (try clear hi)))
          go_ret
          exact ⟨_, by first | rfl | (simp [errW_none, errW_some] <;> rfl) | (simp [*, errW_none, errW_some] <;> rfl), by (with_reducible repeat (first | apply rA | apply rN | apply rD)); exact HO_3.out, by repeat (first | (with_reducible first | exact HI0.out | apply IsS39.alloc | apply IsS39.drewN | apply IsS39.drew | apply IsS39.set_1 | apply IsS39.set_2) | exact HI0.out), by repeat (first | (with_reducible first | exact HB.out | apply below_alloc | apply pw_below_drewN | apply below_drew1 | refine below_set ?_ (IsS39.ge HI0.out)) | exact HB.out), by repeat (first | (with_reducible first | exact HK.out | apply KeepBut.set_ | apply keep_drewN | apply keep_drew | apply keep_alloc) | exact HK.out)⟩

end Go.Proofs.YtlkjikknofmcdaaDoor.G

namespace Go.Proofs.YtlkjikknofmcdaaDoor.G
open Go.RowKit Go.Proofs.YtlkjikknofmcdaaDoorW.PrintWords Go.Proofs.YtlkjikknofmcdaaDoorW.PrintLast Go.Proofs.YtlkjikknofmcdaaDoorW.PrintMore Go.Proofs.YtlkjikknofmcdaaDoor.Short
set_option linter.unusedVariables false
set_option linter.unusedSimpArgs false

def spec_DrawApplyType.f (k : Nat) (l0 : List Int) : Option ((List (S47)) × ByteArray) := (spec_l1Cur_binds.f k l0 0 0).bind fun b => (spec_l1Cur_typeText.f k l0 b.2.1 b.2.2).bind fun c => some (b.1, c.1)
set_option maxHeartbeats 4000000 in
set_option maxRecDepth 100000 in
theorem spec_DrawApplyType.calls (k : Nat) (A0 : Option Addr) (c0 : Nat) (l0 : List Int) (r1 : List (S47)) (r2 : ByteArray) (w : World) (hr0 : Kd.C (Kd.int .u8) w A0 l0.length l0) (hc0 : l0.length ≤ c0) (h : spec_DrawApplyType.f k l0 = some (r1, r2)) :
    Calls Tryd.prog 4 #[.slice A0 l0.length c0] w fun e w' => ∃ v0_ : Value, e = .returned (.tuple #[v0_, .string r2]) ∧ Kd.R k47 47 w' w.heap.size (fun _ => True) v0_ r1 ∧ Below w.heap.size w w' := by
  obtain ⟨⟨b, t1, t2⟩, H, h⟩ := Option.bind_eq_some_iff.mp h
  obtain ⟨⟨c, t3, t4⟩, H', h⟩ := Option.bind_eq_some_iff.mp h
  simp only [Option.some.injEq, Prod.mk.injEq] at h
  obtain ⟨rfl, rfl⟩ := h
  have HR0 := aM hr0
  have HB := aM (Below.refl w.heap.size w)
  have H1 := aM H
  have H2 := aM H'
  clear hr0 H H'
  go_enter Tryd.func4, Tryd.ntmps4
  go_wp2_with (first
    | (go_at_call 11; refine (spec_l1Cur_binds.calls k _ l0 0 0 b t1 t2 w _ (IsS39.new w w A0 c0 l0 0 0 HB.out HR0.out) (below_alloc HB.out _) H1.out).mono ?_; rintro e w6 ⟨v0, rfl, hR, hi, hb, hk⟩; have HO := aM (Kd.R_lower hR (below_alloc HB.out _).size); have HI := aM hi; have HB2 := aM hb; clear HB hi hb hk hR; obtain ⟨Ao, co, eo⟩ := Kd.R_slice HO.out; subst eo)
    | (go_at_call 12; refine (spec_l1Cur_typeText.calls k _ l0 t1 t2 c t3 t4 w _ HI.out HB2.out H2.out).mono ?_; rintro e w8 ⟨rfl, hi, hb, hk⟩; have n0_ := aM (Kd.R_mono (Kd.R_keep (IsS39.apart HI.out HO.out (by decide)) hk (fun _ h => h.2)) (fun _ h => h.1)); have HB3 := aM hb; clear HI HO HB2 hi hb hk; have HO := n0_; clear n0_))
  go_ret2
  exact ⟨_, rfl, HO.out, HB3.out⟩
end Go.Proofs.YtlkjikknofmcdaaDoor.G

namespace Go.Proofs.YtlkjikknofmcdaaDoor.G
open Go.RowKit Go.Proofs.YtlkjikknofmcdaaDoorW.PrintWords Go.Proofs.YtlkjikknofmcdaaDoorW.PrintLast Go.Proofs.YtlkjikknofmcdaaDoorW.PrintMore Go.Proofs.YtlkjikknofmcdaaDoor.EvL Go.Proofs.YtlkjikknofmcdaaDoor.Short
set_option linter.unusedVariables false
set_option linter.unusedSimpArgs false

def plM (l : List Int) : Nat → Int → Option Ty
  | 0 => fun _ => none
  | i + 1 => updM (plM l i) (rd l i) (.v i)
def Ty.plain (t : Ty) : Ty := t.apply (plM t.vars t.vars.length)
theorem vfold_mem {x : Int} : ∀ (ys out : List Int), x ∈ ys.foldl vstep out ↔ x ∈ out ∨ x ∈ ys
  | [], out => by simp
  | y :: ys, out => by
    rw [List.foldl_cons, vfold_mem ys]
    unfold vstep
    by_cases h : y ∈ out
    · rw [if_pos h, List.mem_cons]
      constructor
      · rintro (h1 | h1)
        · exact .inl h1
        · exact .inr (.inr h1)
      · rintro (h1 | rfl | h1)
        · exact .inl h1
        · exact .inl h
        · exact .inr h1
    · rw [if_neg h, List.mem_append, List.mem_singleton, List.mem_cons, or_assoc]
theorem vars_ok {x : Int} : ∀ t : Ty, t.ok → x ∈ t.vars → 0 ≤ x ∧ x ≤ 9223372036854775807
  | .v n, h, hx => by
    have : x = n := by simpa [Ty.vars] using hx
    rw [this]; exact h
  | .a l r, h, hx => by
    have hx' : x ∈ r.vars.foldl vstep l.vars := hx
    rcases (vfold_mem r.vars l.vars).mp hx' with h1 | h1
    · exact vars_ok l h.1 h1
    · exact vars_ok r h.2 h1
theorem rd_mem {l : List Int} {i : Nat} (h : i < l.length) : rd l (i : Int) ∈ l := by
  have e : rd l (i : Int) = l[i] := by unfold rd; rw [Int.toNat_natCast, List.getD_eq_getElem?_getD, List.getElem?_eq_getElem h]; rfl
  rw [e]; exact List.getElem_mem h
theorem IsM.cell {W W1 : World} {b k : Nat} {M : Int → Option Ty} {a : Addr} {v : Value} (hM : IsM W b k M) (hg : W.grownBy W1 (some b)) (hc : W.cell? a = some v) : W1.cell? a = some v := by
  refine (hg.cell_far a (World.block_lt_of_cell? _ _ hc) (fun e => ?_)).trans hc
  obtain ⟨D, ⟨es, clock, hb, _⟩, _⟩ := hM
  injection e with e
  unfold World.cell? at hc
  rw [← e] at hb
  rw [hb] at hc
  cases hc
set_option maxHeartbeats 8000000 in
set_option maxRecDepth 100000 in
theorem impl_typ_plain.calls (t : Ty) (x : Value) (w : World) (h : IsT w t x) (ho : t.ok) (hn : t.nodes ≤ 1099511627776) : Calls Tryd.prog 23 #[x] w fun e w' => ∃ y, e = .returned y ∧ IsT w' t.plain y ∧ Below w.heap.size w w' := by
  have hmm := @run_makeMap Tryd.prog
  have HX := aM h
  have HN := aM hn
  have HO := aM ho
  have HL : Aside0 (t.vars.length ≤ 1099511627776) := ⟨Nat.le_trans t.vars_len hn⟩
  obtain ⟨g, rfl⟩ := h.ptr
  have HB := aM (below_alloc (Below.refl w.heap.size w) (.map #[] 0))
  clear h hn ho
  go_enter Tryd.func23, Tryd.ntmps23
  go_wp2_with (first
    | ((with_reducible refine gate_callee (f := 24) rfl ?_); refine goesL_ (some 8) rfl rfl Tryd.func24 (by kernel_rfl) rfl #[.pointer (some ⟨g, 0, none⟩)] rfl tA ?_; (with_reducible refine (impl_typ_vars.calls t _ _ ?s1 ?s2).mono ?_); (case s1 => exact HX.out.below HB.out); (case s2 => exact HN.out); rintro _ w2 ⟨v2, rfl, hR, hb⟩; obtain ⟨Av, cv, rfl⟩ := Kd.R_slice hR; refine ⟨_, rfl, ?_⟩; have RC := aM (Kd.R_reads' hR).2.2; have M0 := aM ((IsM.made w).below hb); have HB2 := aM (below_step HB.out hb); have X2 := aM ((HX.out.below HB.out).below hb); clear hb hR))
  go_loopg [10] (t.vars.length + 1) (fun gk v10 w' => ∃ (i : Int) (j : Nat), v10 = .int .i64 i ∧ Aside0 (i = (j : Int) ∧ gk + j = t.vars.length + 1 ∧ j ≤ t.vars.length) ∧ Aside0 (IsM w' w.heap.size j (plM t.vars j)) ∧ Aside0 (w2.grownBy w' (some w.heap.size)))
  case atStart => exact ⟨0, 0, rfl, ⟨rfl, rfl, Nat.zero_le _⟩, M0, ⟨grown_of_below (Below.refl _ _) _⟩⟩
  case round =>
    obtain ⟨i, j, rfl, HI, HM, HG⟩ := hrel
    by_cases c : i < (t.vars.length : Int)
    · have cb : decide (i < (t.vars.length : Int)) = true := decide_eq_true c
      have i0 : 0 ≤ i := by have := HI.out.1; omega
      have cz : decide (0 ≤ i) = true := decide_eq_true i0
      obtain ⟨ad, e1, hx0⟩ := Kd.at_int RC.out i i0 c
      cases e1
      have hx1 := M0.out.cell HG.out hx0
      have p1 := eq_true i0
      have q1 := eq_true c
      have Hi : Aside0 (i64ok (rd t.vars i)) := ⟨by
        have hm : rd t.vars i ∈ t.vars := by rw [HI.out.1]; exact rd_mem (by have := HI.out.1; omega)
        have := vars_ok t HO.out hm
        exact ⟨by omega, this.2⟩⟩
      have W1 : Aside0 (wrap64 (i + 1) = i + 1) := ⟨w64 (by omega) (by have := HL.out; omega)⟩
      have Cc := aM c
      obtain ⟨k1, rfl⟩ : ∃ m, gk = m + 1 := ⟨gk - 1, by have := HI.out; omega⟩
      clear c hx0 i0
      go_wp2_with (first
        | (go_at_call 43; (with_reducible refine (impl_typeVar.calls i _).mono ?_); rintro _ w3 ⟨y, rfl, hI, hb⟩; obtain ⟨gy, rfl⟩ := hI.ptr; have IV := aM hI; have M3 := aM (HM.out.below hb); have G3 := aM (HG.out.trans (grown_of_below hb (some w.heap.size))); clear hI hb)
        | (at_mapUpdate; refine put_M _ rfl _ _ _ rfl w.heap.size j (plM t.vars j) rfl M3.out (by have := HL.out; have := HI.out; have := Cc.out; omega) (rd t.vars i) Hi.out rfl (.v i) gy rfl IV.out ?_; intro w4 hM4 hs4 hg4; have M4 := aM hM4; have G4 := aM (G3.out.trans hg4); clear hM4 hs4 hg4))
      go_roundg k1
      case measure => omega
      case rel =>
        refine ⟨i + 1, j + 1, ?_, ⟨by have := HI.out; omega, by have := HI.out; omega, by have := HI.out; have := Cc.out; omega⟩, ⟨?_⟩, G4⟩
        · rw [W1.out]
        · have e : plM t.vars (j + 1) = updM (plM t.vars j) (rd t.vars i) (.v i) := by rw [HI.out.1]; rfl
          rw [e]; exact M4.out
    · have cb : decide (i < (t.vars.length : Int)) = false := decide_eq_false c
      have ej : Aside0 (j = t.vars.length) := ⟨by have := HI.out; omega⟩
      have X3 := aM (X2.out.stay (M0.out.stay HG.out))
      have HB3 := aM (HB2.out.grown HG.out HB2.out.size (fun k hk => by cases hk; exact Nat.le_refl _))
      clear c
      go_wp2_with (first
        | (go_at_call 14; (with_reducible refine (impl_typ_apply.calls t _ w.heap.size j (plM t.vars j) _ ?s1 ?s2 ?s3).mono ?_); (case s1 => exact X3.out); (case s2 => exact HO.out); (case s3 => exact HM.out); rintro _ w3 ⟨y, rfl, hI, hb⟩; obtain ⟨gy, rfl⟩ := hI.ptr; have IV := aM hI; have HB4 := aM (below_step HB3.out hb); clear hI hb))
      go_ret
      exact ⟨_, rfl, by show IsT _ (t.apply (plM t.vars t.vars.length)) _; rw [← ej.out]; exact IV.out, HB4.out⟩
end Go.Proofs.YtlkjikknofmcdaaDoor.G

namespace Go.Proofs.YtlkjikknofmcdaaDoor.G
open Go.RowKit Go.Proofs.YtlkjikknofmcdaaDoorW.PrintWords Go.Proofs.YtlkjikknofmcdaaDoorW.PrintLast Go.Proofs.YtlkjikknofmcdaaDoorW.PrintMore Go.Proofs.YtlkjikknofmcdaaDoor.EvL Go.Proofs.YtlkjikknofmcdaaDoor.TxtL Go.Proofs.YtlkjikknofmcdaaDoor.ReadM Go.Proofs.YtlkjikknofmcdaaDoor.Short
set_option linter.unusedVariables false
set_option linter.unusedSimpArgs false

theorem apply_ok {M : Int → Option Ty} (hM : ∀ n u, M n = some u → u.ok) : ∀ t : Ty, t.ok → (t.apply M).ok
  | .v n, h => by
    show ((M n).getD (.v n)).ok
    cases e : M n with
    | none => exact h
    | some u => exact hM n u e
  | .a l r, h => ⟨apply_ok hM l h.1, apply_ok hM r h.2⟩
theorem apply_nodes {M : Int → Option Ty} (hM : ∀ n u, M n = some u → u.nodes = 1) : ∀ t : Ty, (t.apply M).nodes = t.nodes
  | .v n => by
    show ((M n).getD (.v n)).nodes = 1
    cases e : M n with
    | none => rfl
    | some u => exact hM n u e
  | .a l r => by
    show 1 + (l.apply M).nodes + (r.apply M).nodes = 1 + l.nodes + r.nodes
    rw [apply_nodes hM l, apply_nodes hM r]
theorem plM_some (l : List Int) : ∀ (i : Nat) (n : Int) (u : Ty), plM l i n = some u → ∃ j : Nat, j < i ∧ u = .v (j : Int)
  | 0, n, u, h => by cases h
  | i + 1, n, u, h => by
    have h' : (if n = rd l i then some (Ty.v (i : Int)) else plM l i n) = some u := h
    split at h'
    · injection h' with h'
      exact ⟨i, by omega, h'.symm⟩
    · obtain ⟨j, h1, h2⟩ := plM_some l i n u h'
      exact ⟨j, by omega, h2⟩
theorem plain_nodes (t : Ty) : t.plain.nodes = t.nodes := apply_nodes (fun n u h => by obtain ⟨j, _, rfl⟩ := plM_some _ _ n u h; rfl) t
theorem plain_ok (t : Ty) (h : t.ok) (hn : t.nodes ≤ 1099511627776) : t.plain.ok := apply_ok (fun n u e => by
  obtain ⟨j, hj, rfl⟩ := plM_some _ _ n u e
  have := t.vars_len
  show (0 : Int) ≤ (j : Int) ∧ (j : Int) ≤ 9223372036854775807
  omega) t h
theorem text_size (t : Ty) (h : t.ok) : t.text.size ≤ 20 * t.nodes := by
  rw [text_B, B_size]; exact tyl_len t h
def plainF (l : List UInt8) : ByteArray × Bool := match tyOf l with
  | some t => (t.plain.text, true)
  | none => (⟨#[]⟩, false)
theorem plainF_none {l : List UInt8} (h : tyOf l = none) : plainF l = (⟨#[]⟩, false) := by unfold plainF; rw [h]
theorem plainF_some {l : List UInt8} {t : Ty} (h : tyOf l = some t) : plainF l = (t.plain.text, true) := by unfold plainF; rw [h]
def impl_PlainType.f (_ : Nat) (a0 : ByteArray) : Option (ByteArray × Bool) := if a0.size ≤ 1099511627776 then some (plainF a0.data.toList) else none
set_option maxHeartbeats 8000000 in
set_option maxRecDepth 100000 in
theorem impl_PlainType.calls (k : Nat) (a0 : ByteArray) (r1 : ByteArray) (r2 : Bool) (w : World) (h : impl_PlainType.f k a0 = some (r1, r2)) (hE : Met w) :
    Calls Tryd.prog 8 #[.string a0] w fun e w' => e = .returned (.tuple #[.string r1, .bool r2]) ∧ Below w.heap.size w w' := by
  unfold impl_PlainType.f at h
  by_cases hs : a0.size ≤ 1099511627776
  case neg => rw [if_neg hs] at h; cases h
  rw [if_pos hs] at h
  injection h with h
  have HR := aM h
  have HS := aM hs
  have HE := aM hE
  clear h hs hE
  go_enter Tryd.func8, Tryd.ntmps8
  go_upto_region 2 with (first
    | ((with_reducible refine gate_callee (f := 13) rfl ?_); refine goesL_ (some 8) rfl rfl Tryd.func13 (by kernel_rfl) rfl #[.string a0] rfl tA ?_; refine (typeOfS a0 w HS.out HE.out).mono ?_; rintro _ w1 ⟨x1, ok1, rfl, hb, ho⟩; refine ⟨_, rfl, ?_⟩; have O1 := aM ho; have HB := aM hb; clear ho hb))
  cases ok1 with
  | false =>
    have e1 : tyOf a0.data.toList = none := by
      rcases O1.out with ⟨h, _⟩ | ⟨_, _, h, _⟩
      · exact h
      · cases h
    have E := aM ((plainF_none e1).symm.trans HR.out)
    clear e1 HR
    go_wp2
    go_ret2
    cases E.out
    exact ⟨rfl, HB.out⟩
  | true =>
    obtain ⟨t1, e1, i1⟩ : ∃ t, tyOf a0.data.toList = some t ∧ IsT w1 t (.pointer x1) := by
      rcases O1.out with ⟨_, h⟩ | ⟨t, h, _, hi⟩
      · cases h
      · exact ⟨t, h, hi⟩
    have E := aM ((plainF_some e1).symm.trans HR.out)
    have OK := aM (tyOf_some e1)
    have I1 := aM i1
    have LN : Aside0 (t1.nodes ≤ 1099511627776) := ⟨by have := OK.out.2.1; rw [len] at this; have := HS.out; omega⟩
    obtain ⟨g1, hg1⟩ := i1.ptr
    injection hg1 with hg1
    subst hg1
    clear e1 i1 HR O1
    go_wp2_with (first
      | (go_at_call 23; (with_reducible refine (impl_typ_plain.calls t1 _ _ ?s1 ?s2 ?s3).mono ?_); (case s1 => exact I1.out); (case s2 => exact OK.out.1); (case s3 => exact LN.out); rintro _ w2 ⟨y, rfl, hI, hb⟩; obtain ⟨gy, rfl⟩ := hI.ptr; have IV := aM hI; have HB2 := aM (below_step HB.out hb); clear hI hb)
      | (go_at_call 16; (with_reducible refine (impl_typ_text.calls t1.plain _ _ ?s1 ?s2 ?s3 ?s4).mono ?_); (case s1 => exact IV.out); (case s2 => exact plain_ok t1 OK.out.1 LN.out); (case s3 => have := text_size t1.plain (plain_ok t1 OK.out.1 LN.out); rw [plain_nodes] at this; have := LN.out; omega); (case s4 => exact (HE.out.below HB2.out).tab); rintro _ w3 ⟨rfl, hb⟩; have HB3 := aM (below_step HB2.out hb); clear hb))
    go_ret2
    exact ⟨congrArg (fun z : ByteArray × Bool => Ending.returned (.tuple #[.string z.1, .bool z.2])) E.out, HB3.out⟩
end Go.Proofs.YtlkjikknofmcdaaDoor.G
