/- Part 6 of 6 of the proof that the law FnUnifiedCardSaid holds: for every input that can be read the call returns true and leaves its arguments as they were; no condition but those each theorem names. -/
import Derived.ChangeArms
import Derived.WideShapes
import Derived.DataElems
import Derived.DataReads
import Derived.Test.YteffjlhljeodpaaGreatDoorRows
import Derived.Test.YteffjlhljeodpaaGreatDoorCards
import Derived.Test.YteffjlhljeodpaaGreatDoorTie
import Derived.WalkKit
import Derived.ProofKit
import Derived.OpenShut
import Derived.ShutString
import Derived.ChangeOld
import Derived.Below
import Derived.SizedLaws
import Derived.LaidMore
import Derived.Lib.LaidTab
import Derived.Stop.LaidErr
import Derived.MakeChecks
import Derived.HandedShaped
import Derived.LaidLaws
import Derived.Lay
import Derived.SevenTiedAt
import Derived.Stop.Joined
import Derived.Test.YteffjlhljeodpaaGreatDoorQUnifiedW1
import Derived.Test.YteffjlhljeodpaaGreatDoorQUnified1
import Derived.Test.YteffjlhljeodpaaGreatDoorQUnified2
import Derived.Test.YteffjlhljeodpaaGreatDoorQUnified3
import Derived.Test.YteffjlhljeodpaaGreatDoorQUnified4
import Derived.Test.YteffjlhljeodpaaGreatDoorQUnified5
namespace Go.Proofs.YteffjlhljeodpaaGreatDoor.DrawL
open Go.RowKit Go.Proofs.YteffjlhljeodpaaGreatDoor.G Go.Proofs.YteffjlhljeodpaaGreatDoor.Uni Go.Proofs.YteffjlhljeodpaaGreatDoor.TxtL Go.Proofs.YteffjlhljeodpaaGreatDoor.EvL Go.Proofs.YteffjlhljeodpaaGreatDoorW.PrintWords Go.Proofs.YteffjlhljeodpaaGreatDoorW.PrintLast
set_option linter.unusedVariables false

theorem applyF_true {L : List S29} {s : List UInt8} (h : (applyF L s).2 = true) : ∃ t M, tyOf s = some t ∧ bindM L L.length = some M ∧ applyF L s = (B (tyl (t.apply M)), true) ∧ (t.apply M).good = true := by
  cases e1 : tyOf s with
  | none => rw [applyF_none e1] at h; cases h
  | some t =>
    by_cases e2 : 200 < L.length
    · rw [applyF_long e2] at h; cases h
    cases e3 : bindM L L.length with
    | none => rw [applyF_bind e3] at h; cases h
    | some M =>
      rw [applyF_some e1 e2 e3] at h ⊢
      by_cases c : (t.apply M).good = true
      · rw [if_pos c, text_B]; exact ⟨t, M, rfl, rfl, rfl, c⟩
      · rw [if_neg c] at h; cases h
theorem bindM_from {L : List S29} : ∀ (i : Nat) (M : Int → Option Ty), i ≤ L.length → bindM L i = some M → ∀ n u, M n = some u → ∃ x ∈ L, tyOf x.f1.data.toList = some u
  | 0, M, _, h, n, u, hu => by
    injection h with h
    subst h
    cases hu
  | i + 1, M, hi, h, n, u, hu => by
    obtain ⟨M0, h0, h1⟩ := Option.bind_eq_some_iff.mp h
    obtain ⟨t, ht, h2⟩ := Option.map_eq_some_iff.mp h1
    subst h2
    have hu' : (if n = (rd_T29 L (i : Int)).f0 then some t else M0 n) = some u := hu
    split at hu'
    · injection hu' with hu'
      subst hu'
      unfold bndOk at ht
      obtain ⟨v, h3, h4⟩ := Option.bind_eq_some_iff.mp ht
      split at h4
      · cases h4
      · injection h4 with h4
        subst h4
        exact ⟨_, getT (by omega), h3⟩
    · exact bindM_from i M0 (by omega) h0 n u hu'
theorem few_apply {M : Int → Option Ty} (hM : ∀ n u, M n = some u → Few u) {t : Ty} (h : Few t) : Few (t.apply M) :=
  ⟨lim_apply (fun n u e => (hM n u e).1) t h.1, fun m hm => by
    obtain ⟨n, h1, h2⟩ := (mem_apply t).mp hm
    cases e : M n with
    | none =>
      rw [e] at h2
      rw [List.mem_singleton.mp (h2 : m ∈ [n])]
      exact h.2 n h1
    | some u =>
      rw [e] at h2
      exact (hM n u e).2 m h2⟩
theorem drawU_ev {c : List Int} (hc : Bytes c) : ∃ x y, Ev (fun m => spec_DrawUnifyTypes.f m c) (x, y) ∧ Dr x ∧ Dr y := by
  obtain ⟨x, a1, s1, hx, e1, g1, g2⟩ := typeText_ev hc 0 0 (by omega) (by omega)
  obtain ⟨L, a2, s2, e2, l1, l2, g3, g4⟩ := binds_ev hc 4 0 [] a1 s1 (by omega) (by simp) (fun x h => by simp at h) (by omega) (by omega)
  obtain ⟨e3, _⟩ := apply_both L x (by omega) (fun y hy => (l2 y hy).le (by omega)) (hx.le (by omega))
  obtain ⟨r, hr⟩ : ∃ r, applyF L x.data.toList = r := ⟨_, rfl⟩
  have hr2 : r.2 = true → Dr r.1 := by
    intro h
    rw [← hr] at h
    obtain ⟨t, M, h1, h2, h3, h4⟩ := applyF_true h
    rw [hr] at h3
    rw [h3]
    have ft := hx.few h1
    have fm : ∀ n u, M n = some u → Few u ∧ u.dep ≤ 5 := fun n u e => by
      obtain ⟨y, hy, e2⟩ := bindM_from L.length M (Nat.le_refl _) h2 n u e
      exact (l2 y hy).few e2
    have fd := dep_apply (M := M) (D := 5) (by omega) (fun n u e => (fm n u e).2) t
    exact .inl ⟨_, few_apply (fun n u e => (fm n u e).1) ft.1, by omega, h4, rfl⟩
  rw [hr] at e3
  unfold spec_DrawUnifyTypes.f
  have e2' : Ev (fun k => spec_l1Cur_binds.f k c a1 s1) (L, a2, s2) := e2
  by_cases c2 : r.2 = true
  · obtain ⟨b, a3, s3, e4, g5, g6⟩ := one_ev hc a2 s2 2 (by omega) (by omega) (by omega) (by omega)
    cases b with
    | true =>
      refine ⟨x, r.1, Ev.bind e1 (Ev.bind e2' (Ev.bind e3 (Ev.ite_pos c2 ?_))), hx.le (by omega), hr2 c2⟩
      rw [e4]
      exact Ev.now _
    | false =>
      obtain ⟨y, a4, s4, hy, e5, _⟩ := typeText_ev hc a3 s3 (by omega) (by omega)
      refine ⟨x, y, Ev.bind e1 (Ev.bind e2' (Ev.bind e3 (Ev.ite_pos c2 ?_))), hx.le (by omega), hy.le (by omega)⟩
      rw [e4]
      exact Ev.bind (Ev.now _) (Ev.ite_neg (by simp) (Ev.bind e5 (Ev.now _)))
  · obtain ⟨y, a4, s4, hy, e5, _⟩ := typeText_ev hc a2 s2 (by omega) (by omega)
    exact ⟨x, y, Ev.bind e1 (Ev.bind e2' (Ev.bind e3 (Ev.ite_neg c2 (Ev.bind e5 (Ev.now _))))), hx.le (by omega), hy.le (by omega)⟩

theorem size_of {x : ByteArray} (h : Dr x) : x.size ≤ 10000 := by rcases h.same with ⟨_, _, _, _, _, _, _, h⟩ | ⟨_, _, h⟩ <;> exact h
theorem orig_of {x : ByteArray} (h : Dr x) {t : Ty} (ht : tyOf x.data.toList = some t) : Orig t := ⟨(h.few ht).1.2, (h.few ht).2⟩
theorem le_of {x : ByteArray} (h : Dr x) : (∃ t, tyOf x.data.toList = some t ∧ Ev (fun k => spec_leOf.f k x) ((toS t).f0, (toS t).f1, true)) ∨ (tyOf x.data.toList = none ∧ ∃ a b, Ev (fun k => spec_leOf.f k x) (a, b, false)) := by
  have hs := size_of h
  rcases leOf_ev x (by omega) with ⟨t, e1, e2⟩ | ⟨e1, e2⟩
  · refine .inl ⟨t, ?_, e2⟩
    rcases h.same with ⟨u, _, _, _, _, h1, h2, _⟩ | ⟨_, h2, _⟩
    · rw [h2] at e1; rw [h1, e1]
    · rw [h2] at e1; cases e1
  · refine .inr ⟨?_, e2⟩
    rcases h.same with ⟨u, _, _, _, _, h1, h2, _⟩ | ⟨h1, _, _⟩
    · rw [h2] at e1; cases e1
    · exact h1
theorem pair_qi {t u : Ty} (ht : Orig t) (hu : Orig u) : QI [] [(t, u)] := fun p hp => by
  obtain rfl := List.mem_singleton.mp hp
  exact ⟨⟨ht.1, t, ht, rfl⟩, ⟨hu.1, u, hu, rfl⟩⟩
theorem finL_of {L : Lk} (hI : Inv L) (hr : Rise L) : FinL L := by
  have hl := inv_len hI.toInv0 hr
  refine ⟨hr, by omega, fun p hp => ?_⟩
  have e := mem_bnd hr hp
  have hk := V_lim (hI.keys _ _ e)
  have hg := hI.good _ _ e
  exact ⟨⟨by omega, by omega⟩, lim_ok _ ((good_iff _).mp hg).2.2, good_nodes hg⟩
theorem unify_both {x y : ByteArray} (hx : Dr x) (hy : Dr y) : ∃ u ok, Ev (fun k => impl_UnifyTypes.f k x y) (u, ok) ∧ Ev (fun k => spec_UnifyTypes.f k x y) (u, ok) ∧ u.length ≤ 5 ∧
    (ok = true → ∃ t s L k, tyOf x.data.toList = some t ∧ tyOf y.data.toList = some s ∧ u = told L ∧ Inv L ∧ Rise L ∧ uni k [(t, s)] [] = some (some L)) ∧
    (ok = false → ∀ t s, tyOf x.data.toList = some t → tyOf y.data.toList = some s → ∃ k, uni k [(t, s)] [] = some none) := by
  have sx := size_of hx
  have sy := size_of hy
  have szs : x.size ≤ 1099511627776 ∧ y.size ≤ 1099511627776 := ⟨by omega, by omega⟩
  have none1 : ∀ a b, Ev (fun k => spec_UnifyTypes.j0 k true 0 [] a b) (([] : List S29), false) := fun a b => Ev.succ (by
    simp only [spec_UnifyTypes.j0]
    exact Ev.ite_pos trivial (Ev.now _))
  rcases le_of hx with ⟨t, e1, e2⟩ | ⟨e1, a, b, e2⟩
  rotate_left
  · refine ⟨[], false, ⟨0, fun k _ => ?_⟩, ?_, by simp, fun h => (by cases h), fun _ t s h => by rw [e1] at h; cases h⟩
    · show impl_UnifyTypes.f k x y = _
      unfold impl_UnifyTypes.f; rw [if_pos szs, unifyF_1 e1]
    · unfold spec_UnifyTypes.f
      rcases le_of hy with ⟨s, e3, e4⟩ | ⟨e3, c, d, e4⟩
      all_goals
        refine Ev.bind e2 (Ev.bind e4 (Ev.ite_neg (by simp) (Ev.succ ?_)))
        simp only [spec_UnifyTypes.j0]
        exact Ev.ite_pos trivial (Ev.now _)
  rcases le_of hy with ⟨s, e3, e4⟩ | ⟨e3, c, d, e4⟩
  rotate_left
  · refine ⟨[], false, ⟨0, fun k _ => ?_⟩, ?_, by simp, fun h => (by cases h), fun _ t s _ h => by rw [e3] at h; cases h⟩
    · show impl_UnifyTypes.f k x y = _
      unfold impl_UnifyTypes.f; rw [if_pos szs, unifyF_2 e3]
    · unfold spec_UnifyTypes.f
      refine Ev.bind e2 (Ev.bind e4 (Ev.ite_pos rfl (Ev.succ ?_)))
      simp only [spec_UnifyTypes.j0]
      exact Ev.ite_pos rfl (Ev.now _)
  have ot := orig_of hx e1
  have os := orig_of hy e3
  obtain ⟨k, r, hk⟩ := ends_one ot os
  have hQ := pair_qi ot os
  have spec : ∀ R, Ev (fun m => (spec_leUnify.f m ([] : List Int) ([] : List (S55)) (toS t).f0 (toS t).f1 (toS s).f0 (toS s).f1 false).bind fun bt113 => (if bt113.2.2 = true then ((spec_leTold.f m bt113.1 bt113.2.1).bind fun t121 => (some (t121, true))) else (some (([] : List (S29)), false)))) R → Ev (fun k => spec_UnifyTypes.f k x y) R := by
    intro R hR
    unfold spec_UnifyTypes.f
    refine Ev.bind e2 (Ev.bind e4 (Ev.ite_pos rfl (Ev.succ ?_)))
    simp only [spec_UnifyTypes.j0]
    exact Ev.ite_neg (by simp) hR
  cases r with
  | none =>
    refine ⟨[], false, Ev.of (impl_UnifyTypes.grows x y) (k := k) ?_, ?_, by simp, fun h => (by cases h), fun _ t' s' h1 h2 => ?_⟩
    · exact (if_pos szs).trans (unifyF_fail e1 e3 hk)
    · rcases unify_told k t s [] [] none Inv.nil trivial (hQ _ (List.mem_singleton.mpr rfl)).1 (hQ _ (List.mem_singleton.mpr rfl)).2 (fun p hp => by simp at hp) hk with ⟨_, vs, ts, h⟩ | ⟨k', L', _, _, _, _, h, h2⟩
      · exact spec _ (Ev.bind h (Ev.ite_neg (by simp) (Ev.now _)))
      · cases k' with
        | zero => simp [uni] at h2
        | succ k' => rw [uni_nil] at h2; cases h2
    · rw [e1] at h1; rw [e3] at h2
      obtain rfl := Option.some.inj h1
      obtain rfl := Option.some.inj h2
      exact ⟨k, hk⟩
  | some L =>
    have hI := (uni_same k _ [] L Inv.nil hQ hk).1
    have hr := uni_rise k _ [] L trivial hk
    have hl := inv_len hI.toInv0 hr
    refine ⟨told L, true, Ev.of (impl_UnifyTypes.grows x y) (k := k) ?_, ?_, by simp [told]; exact hl, fun _ => ⟨t, s, L, k, e1, e3, rfl, hI, hr, hk⟩, fun h => by cases h⟩
    · exact (if_pos szs).trans ((unifyF_some e1 e3 hk).trans (if_pos (finL_of hI hr)))
    · rcases unify_told k t s [] [] (some L) Inv.nil trivial (hQ _ (List.mem_singleton.mpr rfl)).1 (hQ _ (List.mem_singleton.mpr rfl)).2 (fun p hp => by simp at hp) hk with ⟨h, _⟩ | ⟨k', L', _, _, _, _, h, h2⟩
      · cases h
      · cases k' with
        | zero => simp [uni] at h2
        | succ k' =>
          rw [uni_nil] at h2
          obtain rfl := Option.some.inj (Option.some.inj h2)
          exact spec _ (Ev.bind h (Ev.ite_pos rfl (Ev.bind (told_ev L' (by omega) (fun p hp => by
            have hg := hI.good _ _ (mem_bnd hr hp)
            have := good_nodes hg
            exact ⟨((good_iff _).mp hg).2.2, by omega⟩)) (Ev.now _))))
theorem bnd_app (v : Int) (t : Ty) (n : Int) : ∀ A : Lk, (∀ p ∈ A, p.1 ≠ v) → bnd (A ++ [(v, t)]) n = if n = v then some t else bnd A n
  | [], _ => by
    show (if v = n then some t else none) = if n = v then some t else none
    by_cases e : v = n
    · rw [if_pos e, if_pos e.symm]
    · rw [if_neg e, if_neg (Ne.symm e)]
  | (u, s) :: A, h => by
    show (if u = n then some s else bnd (A ++ [(v, t)]) n) = if n = v then some t else (if u = n then some s else bnd A n)
    rw [bnd_app v t n A (fun p hp => h p (List.mem_cons_of_mem _ hp))]
    by_cases e : u = n
    · rw [if_pos e, if_pos e, if_neg]
      rintro rfl
      exact h _ (List.mem_cons_self ..) e
    · rw [if_neg e, if_neg e]
theorem rise_get : ∀ {L : Lk} {i j : Nat} (hi : i < L.length) (hj : j < L.length), Rise L → i < j → L[i].1 < L[j].1
  | p :: L, 0, j + 1, hi, hj, h, _ => h.1 _ (List.getElem_mem (by simpa using hj))
  | p :: L, i + 1, j + 1, hi, hj, h, hij => rise_get (L := L) (by simpa using hi) (by simpa using hj) h.2 (by omega)
theorem rd_told {L : Lk} {i : Nat} (h : i < L.length) : rd_T29 (told L) (i : Int) = ⟨L[i].1, L[i].2.text⟩ := by
  unfold rd_T29
  rw [Int.toNat_natCast, List.getD_eq_getElem?_getD, List.getElem?_eq_getElem (by simpa [told] using h)]
  simp [told]
theorem bindM_told {L : Lk} (hI : Inv L) (hr : Rise L) : ∀ i, i ≤ L.length → bindM (told L) i = some (bnd (L.take i))
  | 0, _ => rfl
  | i + 1, hi => by
    have h1 : i < L.length := by omega
    have hm : L[i] ∈ L := List.getElem_mem h1
    have e : bnd L L[i].1 = some L[i].2 := mem_bnd hr hm
    have hg := hI.good _ _ e
    have hk := V_lim (hI.keys _ _ e)
    rw [bindM_step (bindM_told hI hr i (by omega))]
    have hb : bndOk (told L) i = some L[i].2 := by
      unfold bndOk
      rw [rd_told h1]
      dsimp only
      rw [text_B, B_list, tyOf_own hg, Option.bind_some, if_neg]
      rintro (h | h | ⟨h0, h⟩)
      · omega
      · omega
      · have h2 := rd_told (L := L) (i := i - 1) (by omega)
        rw [show ((i - 1 : Nat) : Int) = (i : Int) - 1 by omega] at h2
        rw [h2] at h
        have := rise_get (L := L) (i := i - 1) (j := i) (by omega) h1 hr (by omega)
        dsimp only at h
        omega
    rw [hb, rd_told h1]
    refine congrArg some (funext fun n => ?_)
    rw [List.take_succ_eq_append_getElem h1]
    refine (bnd_app L[i].1 L[i].2 n (L.take i) (fun p hp => ?_)).symm
    obtain ⟨j, hj, rfl⟩ := List.mem_iff_getElem.mp hp
    rw [List.length_take] at hj
    rw [List.getElem_take]
    have := rise_get (L := L) (i := j) (j := i) (by omega) h1 hr (by omega)
    omega
theorem apply_told {L : Lk} (hI : Inv L) (hr : Rise L) {s : List UInt8} {t : Ty} (h : tyOf s = some t) : applyF (told L) s = if (t.apply (bnd L)).good = true then ((t.apply (bnd L)).text, true) else (⟨#[]⟩, false) := by
  have hl := inv_len hI.toInv0 hr
  have e : (told L).length = L.length := by simp [told]
  have hb := bindM_told hI hr L.length (Nat.le_refl _)
  rw [List.take_length] at hb
  exact applyF_some h (by omega) (by rw [e]; exact hb)
theorem tyl_inj {t u : Ty} (ht : t.good = true) (hu : u.good = true) (h : tyl t = tyl u) : t = u := by
  have h1 := tyOf_own ht
  rw [h, tyOf_own hu] at h1
  exact (Option.some.inj h1).symm
theorem applyI_ev {L : List S29} {x : ByteArray} (hx : x.size ≤ 10000) (hL : ∀ y ∈ L, y.f1.size ≤ 10000) : Ev (fun k => impl_ApplyType.f k L x) (applyF L x.data.toList) :=
  Ev.const (if_pos ⟨by omega, fun y hy => by have := hL y hy; omega⟩)
theorem told_sizes {L : Lk} (hI : Inv L) (hr : Rise L) : ∀ y ∈ told L, y.f1.size ≤ 10000 := by
  intro y hy
  obtain ⟨p, hp, rfl⟩ := List.mem_map.mp hy
  have hg := hI.good _ _ (mem_bnd hr hp)
  obtain ⟨h1, h2, h3⟩ := (good_iff _).mp hg
  have := tyl_len p.2 (lim_ok _ h3)
  show p.2.text.size ≤ 10000
  rw [text_B, B_size]; omega
end Go.Proofs.YteffjlhljeodpaaGreatDoor.DrawL

namespace Go.Proofs.YteffjlhljeodpaaGreatDoor.Pure
open Go.RowKit Go.Proofs.YteffjlhljeodpaaGreatDoor.G Go.Proofs.YteffjlhljeodpaaGreatDoor.Uni Go.Proofs.YteffjlhljeodpaaGreatDoor.EvL Go.Proofs.YteffjlhljeodpaaGreatDoor.TxtL Go.Proofs.YteffjlhljeodpaaGreatDoor.DrawL Go.Proofs.YteffjlhljeodpaaGreatDoorW.PrintWords
set_option linter.unusedVariables false
set_option linter.unusedSimpArgs false

theorem j3_true (x : ByteArray) (u : List S29) (ok : Bool) (p : ByteArray) : Ev (fun k => laws_FnUnified.j3 k x u ok p true) true := by
  refine Ev.succ ?_
  simp only [laws_FnUnified.j3]
  exact Ev.ite_pos trivial (Ev.now _)
theorem most_ev {x y : ByteArray} (hx : Dr x) (hy : Dr y) {u : List S29} {ok : Bool} (hu : u.length ≤ 5)
    (h1 : ok = true → ∃ t s L k, tyOf x.data.toList = some t ∧ tyOf y.data.toList = some s ∧ u = told L ∧ Inv L ∧ Rise L ∧ uni k [(t, s)] [] = some (some L))
    (h0 : ok = false → ∀ t s, tyOf x.data.toList = some t → tyOf y.data.toList = some s → ∃ k, uni k [(t, s)] [] = some none)
    {c : List Int} (hc : Bytes c) : Ev (fun k => laws_FnUnified.j2 k c x y u ok) true := by
  obtain ⟨S, z, e1, l1, l2, _⟩ := draw_ev hc
  have dS : ∀ y ∈ S, Dr y.f1 := fun y hy => (l2 y hy).le (by omega)
  obtain ⟨e2, _⟩ := apply_both S x (by omega) dS hx
  obtain ⟨e3, _⟩ := apply_both S y (by omega) dS hy
  refine Ev.succ ?_
  simp only [laws_FnUnified.j2]
  obtain ⟨p, hp⟩ : ∃ p, applyF S x.data.toList = p := ⟨_, rfl⟩
  obtain ⟨q, hq⟩ : ∃ q, applyF S y.data.toList = q := ⟨_, rfl⟩
  rw [hp] at e2
  rw [hq] at e3
  refine Ev.bind e1 (Ev.bind e2 (Ev.bind e3 ?_))
  by_cases cp : p.2 = true
  case neg => exact Ev.ite_neg cp (j3_true _ _ _ _)
  refine Ev.ite_pos cp ?_
  by_cases cq : q.2 = true
  case neg => exact Ev.ite_neg cq (j3_true _ _ _ _)
  refine Ev.ite_pos cq ?_
  by_cases cs : p.1.toList = q.1.toList
  case neg => rw [show (p.1.toList != q.1.toList) = true by simpa using cs]; exact j3_true _ _ _ _
  rw [show (p.1.toList != q.1.toList) = false by rw [cs]; simp]
  rw [← hp] at cp
  rw [← hq] at cq
  obtain ⟨t, M, t1, t2, t3, t4⟩ := applyF_true cp
  obtain ⟨s, M', s1, s2, s3, s4⟩ := applyF_true cq
  rw [t2] at s2
  obtain rfl := Option.some.inj s2
  rw [hp] at t3
  rw [hq] at s3
  rw [t3, s3, toList_B, toList_B] at cs
  have same : t.apply M = s.apply M := tyl_inj t4 s4 cs
  have ot := orig_of hx t1
  have os := orig_of hy s1
  have hM : ∀ n, ((M n).getD (.v n)).nodes ≤ 200 ∧ ((M n).getD (.v n)).dep ≤ 60 := by
    intro n
    cases e : M n with
    | none => exact ⟨by show 1 ≤ 200; omega, by show 1 ≤ 60; omega⟩
    | some v =>
      obtain ⟨y, hy, e4⟩ := bindM_from S.length M (Nat.le_refl _) t2 n v e
      obtain ⟨_, hd⟩ := (l2 y hy).few e4
      have := nodes_dep v
      have : 2 ^ v.dep ≤ 2 ^ 5 := Nat.pow_le_pow_right (by omega) hd
      exact ⟨by show v.nodes ≤ 200; omega, by show v.dep ≤ 60; omega⟩
  have most : ∀ k r, uni k [(t, s)] [] = some r → ∃ L', r = some L' ∧ ∀ v : Ty, (v.apply (bnd L')).apply M = v.apply M := fun k r h =>
    uni_most hM k [(t, s)] [] r Inv.nil (pair_qi ot os) (fun v => by
      show (v.apply (fun _ => none)).apply M = _
      rw [apply_none]) (fun p hp => by
      obtain rfl := List.mem_singleton.mp hp
      exact ⟨same, ((good_iff _).mp t4).1, ((good_iff _).mp t4).2.1⟩) h
  refine Ev.succ ?_
  simp only [laws_FnUnified.j3]
  refine Ev.ite_neg (by simp) ?_
  cases ok with
  | false =>
    obtain ⟨k, hk⟩ := h0 rfl t s t1 s1
    obtain ⟨L', h, _⟩ := most k none hk
    cases h
  | true =>
    obtain ⟨t', s', L, k, g1, g2, g3, hI, hr, hk⟩ := h1 rfl
    rw [t1] at g1
    obtain rfl := Option.some.inj g1
    rw [s1] at g2
    obtain rfl := Option.some.inj g2
    obtain ⟨L', h, hm⟩ := most k _ hk
    obtain rfl := Option.some.inj h
    subst g3
    refine Ev.ite_pos rfl (Ev.bind (applyI_ev (size_of hx) (told_sizes hI hr)) ?_)
    rw [apply_told hI hr t1]
    have sz : ∀ {v : Ty}, v.good = true → (B (tyl v)).size ≤ 10000 := by
      intro v hv
      obtain ⟨h1, h2, h3⟩ := (good_iff v).mp hv
      have := tyl_len v (lim_ok v h3)
      rw [B_size]; omega
    have sp := sz t4
    rw [t3]
    by_cases cg : (t.apply (bnd L)).good = true
    · rw [if_pos cg, text_B]
      have sg := sz cg
      have hi : Ev (fun k => impl_InstanceOf.f k (B (tyl (t.apply (bnd L)))) (B (tyl (t.apply M)))) (true, true) := by
        refine Ev.const ?_
        have e : instF (tyl (t.apply (bnd L))) (tyl (t.apply M)) = (true, true) := by
          rw [instF_some (tyOf_own cg) (tyOf_own t4)]
          have := fits_noB M (t.apply (bnd L))
          rw [hm] at this
          rw [this]
        rw [← B_list (tyl (t.apply (bnd L))), ← B_list (tyl (t.apply M))] at e
        exact e ▸ if_pos ⟨by omega, by omega⟩
      exact Ev.bind hi (Ev.ite_pos rfl (Ev.ite_pos rfl (Ev.now _)))
    · rw [if_neg cg]
      have hi : Ev (fun k => impl_InstanceOf.f k ⟨#[]⟩ (B (tyl (t.apply M)))) (instF (⟨#[]⟩ : ByteArray).data.toList (B (tyl (t.apply M))).data.toList) := Ev.const (if_pos ⟨by show 0 ≤ _; omega, by omega⟩)
      exact Ev.bind hi (Ev.ite_neg (by simp) (Ev.now _))
theorem same_loop {x y : ByteArray} {u : List S29} {ok : Bool} {c : List Int} (hu : u.length ≤ 5) (hend : Ev (fun k => if ok = true then ((impl_ApplyType.f k u x).bind fun bt113 => ((impl_ApplyType.f k u y).bind fun bt115 => (if (bt113.2 != bt115.2) = true then (some false) else (if bt113.1.toList = bt115.1.toList then (laws_FnUnified.j2 k c x y u ok) else (some false))))) else (laws_FnUnified.j2 k c x y u ok)) true) :
    ∀ (d i : Nat), i + d = u.length → Ev (fun k => laws_FnUnified.l0 k c x y u ok u (u.length : Int) i) true
  | 0, i, hi => by
    refine Ev.succ ?_
    simp only [laws_FnUnified.l0]
    exact Ev.ite_neg (by omega) hend
  | d + 1, i, hi => by
    have w1 : wrap64 ((i : Int) + 1) = ((i + 1 : Nat) : Int) := by rw [w64 (by omega) (by omega)]; omega
    refine Ev.succ ?_
    simp only [laws_FnUnified.l0, w1]
    exact Ev.ite_pos (by omega) (Ev.ite_pos (by omega) (Ev.ite_pos (by omega) (Ev.ite_pos (by omega) (Ev.ite_neg (by simp) (same_loop hu hend d (i + 1) (by omega))))))
theorem FnUnified : laws_FnUnified.Pure := by
  intro l0 l1 hsz hw hsz1 hw1
  suffices h : Ev (fun k => laws_FnUnified.f k l0 l1) true by
    obtain ⟨K, hK⟩ := h
    exact ⟨K, hK K (Nat.le_refl _)⟩
  unfold laws_FnUnified.f
  have ww : wrap64 ((l0.length : Int) + (l1.length : Int)) = (l0.length : Int) + (l1.length : Int) := w64 (by omega) (by omega)
  rw [ww]
  by_cases hl : (l0.length : Int) + (l1.length : Int) > 1048576
  · exact Ev.ite_pos hl (Ev.now _)
  refine Ev.ite_neg hl ?_
  have hc : Bytes l0 := ⟨by omega, fun x hx => wf8 (hw.2 x hx)⟩
  have hc1 : Bytes l1 := ⟨by omega, fun x hx => wf8 (hw1.2 x hx)⟩
  obtain ⟨x, y, e1, hx, hy⟩ := drawU_ev hc
  obtain ⟨u, ok, e2, e3, hu, h1, h0⟩ := unify_both hx hy
  refine Ev.bind e1 (Ev.bind e2 (Ev.bind e3 (Ev.ite_neg (by simp) ?_)))
  show Ev (fun k => laws_FnUnified.j0 k l1 x y u ok u ((u.length : Int) != (u.length : Int))) true
  rw [bne_self_eq_false]
  refine Ev.succ ?_
  simp only [laws_FnUnified.j0]
  have most := most_ev hx hy hu h1 h0 hc1
  refine Ev.ite_neg (by simp) (same_loop hu ?_ u.length 0 (by omega))
  cases ok with
  | false => exact Ev.ite_neg (by simp) most
  | true =>
    obtain ⟨t, s, L, k, g1, g2, g3, hI, hr, hk⟩ := h1 rfl
    subst g3
    have sm := (uni_same k _ [] L Inv.nil (pair_qi (orig_of hx g1) (orig_of hy g2)) hk).2.2 (t, s) (List.mem_singleton.mpr rfl)
    have sm' : t.apply (bnd L) = s.apply (bnd L) := sm
    have hA : applyF (told L) x.data.toList = applyF (told L) y.data.toList := by rw [apply_told hI hr g1, apply_told hI hr g2, sm']
    have i1 := applyI_ev (size_of hx) (told_sizes hI hr)
    have i2 := applyI_ev (size_of hy) (told_sizes hI hr)
    rw [hA] at i1
    exact Ev.ite_pos rfl (Ev.bind i1 (Ev.bind i2 (Ev.ite_neg (by simp) (Ev.ite_pos rfl most))))
end Go.Proofs.YteffjlhljeodpaaGreatDoor.Pure

namespace Go.Proofs.YteffjlhljeodpaaGreatDoor.Open
open Go.RowKit Go.Proofs.YteffjlhljeodpaaGreatDoorW.PrintWords
open Go.WideShapes
set_option linter.unusedVariables false

def Opens {α : Type} (H : Type) (enc : TypeId × Value → H) (P : Program) (t : TypeId) (d : Kd α) (good : α → Prop) : Prop :=
  ∀ (w : World) (base : Nat) (spare : Nat → Bool) (held : Bool) (fuel : Nat) (cs : List Value) (x : DataW H × List MemPlace),
    DataW.trod enc P w base spare held fuel t cs = some x → ∃ v, d.K w v cs ∧ good v

section
variable {H : Type} {enc : TypeId × Value → H} {P : Program}

theorem opens_int {t : TypeId} {k : IntKind} (ht : P.underlying t = some (.int k)) : Opens H enc P t (Kd.int k) (fun n => (Lit.int k n).wf = true) := by
  intro w base spare held fuel cs x h
  obtain ⟨n, rfl, _, hw⟩ := DataW.trod_int ht h
  exact ⟨n, rfl, hw⟩

theorem choose_list {α : Type} (p : Nat → α → Prop) : ∀ n : Nat, (∀ i, i < n → ∃ a, p i a) → ∃ l : List α, l.length = n ∧ ∀ i a, l[i]? = some a → p i a
  | 0, _ => ⟨[], rfl, fun i a h => by simp at h⟩
  | n + 1, h => by
    obtain ⟨l, hl, hp⟩ := choose_list p n (fun i hi => h i (by omega))
    obtain ⟨a, ha⟩ := h n (by omega)
    refine ⟨l ++ [a], by simp [hl], fun i b hb => ?_⟩
    by_cases hi : i < n
    · exact hp i b (by rwa [List.getElem?_append_left (by omega)] at hb)
    · rw [List.getElem?_append_right (by omega)] at hb
      have : i - l.length = 0 := by
        by_cases h0 : i - l.length = 0
        · exact h0
        · rw [List.getElem?_eq_none (by simp; omega)] at hb; simp at hb
      rw [this] at hb
      obtain rfl : a = b := by simpa using hb
      obtain rfl : i = n := by omega
      exact ha

theorem opens_slice {α : Type} {t e : TypeId} {d : Kd α} {good : α → Prop} (ht : P.underlying t = some (.slice e)) (he : Opens H enc P e d good) (hc : P.cellsOf e = d.sz) :
    Opens H enc P t (Kd.slice e d) (fun l => l.length ≤ 9223372036854775807 ∧ ∀ x ∈ l, good x) := by
  intro w base spare held fuel cs x h
  rcases DataW.trod_slice ht h with ⟨rfl, _⟩ | ⟨a, len, cap, elems, rest, n, _, rfl, _, hb, hl, hm, hel, hg, _, _⟩
  · exact ⟨[], ⟨none, 0, rfl, Nat.le_refl _, ⟨rfl, by simp, fun h => by simp at h⟩⟩, by simp, by simp⟩
  · have hm' : cap ≤ 9223372036854775807 := hm
    have key : ∀ i, i < len → ∃ v : α, good v ∧ ∃ c : List Value, c.length = d.sz ∧ d.K w v c ∧ ∀ j u, c[j]? = some u → w.cell? (a.add (i * d.sz + j)) = some u := by
      intro i hi
      have hgi := hg i hi
      have hsome : ∃ y, elems[i]? = some y := ⟨elems[i]'(by omega), List.getElem?_eq_getElem (by omega)⟩
      obtain ⟨y, hy⟩ := hsome
      rw [hy] at hgi
      obtain ⟨c, hc1, hc2⟩ := Option.bind_eq_some_iff.mp hgi
      obtain ⟨v, hK, hgood⟩ := he w base spare held n c y hc2
      obtain ⟨_, hlen, hcell⟩ := World.cells?_some hc1
      refine ⟨v, hgood, c, d.K_len hK, hK, fun j u hu => ?_⟩
      have hj : j < c.length := by
        by_cases hj : j < c.length
        · exact hj
        · rw [List.getElem?_eq_none (by omega)] at hu; simp at hu
      have := hcell j (by omega)
      rw [Addr.add_add, hc, hu] at this
      exact this
    obtain ⟨l, hl0, hl1⟩ := choose_list (fun i v => good v ∧ ∃ c : List Value, c.length = d.sz ∧ d.K w v c ∧ ∀ j u, c[j]? = some u → w.cell? (a.add (i * d.sz + j)) = some u) len key
    refine ⟨l, ⟨some a, cap, by rw [hl0], by omega, ⟨rfl, by omega, fun _ => ⟨a, rfl, fun j p hp => (hl1 j p hp).2⟩⟩⟩, by omega, fun v hv => ?_⟩
    obtain ⟨i, hi⟩ := List.mem_iff_getElem?.mp hv
    exact (hl1 i v hi).1

theorem slice_in {α : Type} {t e : TypeId} {d : Kd α} {good : List α → Prop} (ht : P.underlying t = some (.slice e)) (hs : Opens H enc P t (Kd.slice e d) good) {W : World} {r : Reach} {b base : Nat} {spare : Nat → Bool} {held : Bool} {v : Value} {dd : DataW H} {p : List MemPlace}
    (hv : Value.okWide P W r b t v) (h : DataW.Trod enc P W base spare held t v dd p) : ∃ (A : Option Addr) (l : List α) (c : Nat), v = .slice A l.length c ∧ l.length ≤ c ∧ d.C W A l.length l ∧ good l := by
  obtain ⟨a, len, cap, rfl⟩ := okWide_slice ht hv
  obtain ⟨fuel, hf⟩ := h
  obtain ⟨l, ⟨A, c, hcs, hlc, hC⟩, hg⟩ := hs W base spare held fuel _ _ hf
  simp [Value.cells] at hcs
  obtain ⟨rfl, rfl, rfl⟩ := hcs
  exact ⟨a, l, cap, rfl, hlc, hC, hg⟩

end
end Go.Proofs.YteffjlhljeodpaaGreatDoor.Open

namespace Go.Proofs.YteffjlhljeodpaaGreatDoor.fnUnified
open Go.ChangeShapes Go.WideShapes Go.ChangeAt Go.RowKit Go.Proofs.YteffjlhljeodpaaGreatDoor.Open Go.Proofs.YteffjlhljeodpaaGreatDoor.G Go.Proofs.YteffjlhljeodpaaGreatDoorW.PrintWords
open Go.ChangeMaps (open_string shut_string)
set_option linter.unusedVariables false
theorem own : ownKnob Tryz.prog.godebug = none := by kernel_rfl
theorem laidOut : laidOutB Tryz.prog = true := by kernel_rfl
theorem laidShaped {H : Type} {enc : TypeId × Value → H} {a : Assume} {C : Checked} {os : Os} {f : FuncId} {fn : Func} {s : ChangeSpec} {conds : List PathCond} {apart fresh handsOn again : Bool} {X : World → Array Value → Prop}
    (hX : ∀ (w w' : World) (args : Array Value), w.heap = w'.heap → X w args → X w' args)
    (own : ownKnob C.prog.godebug = none) (started : os.Started) (noInit : C.prog.inits.idxOf? f = none) (hfn : C.prog.funcs[f]? = some fn)
    (witness : ∃ (w : World) (tape : Tape) (i : Input), w.os = os ∧ (w.forCall tape i).Shaped C.prog ∧ i.vars = [] ∧ Input.okWide C.prog (w.forCall tape i) .any w.heap.size f i ∧
      ((s.pre enc C.prog fn conds apart (w.forCall tape i).memory i.args ∧ X (w.forCall tape i).memory i.args) ∧ sizedMet enc C.prog fn (OpenSpec.ofChange s) apart (w.forCall tape i).memory i.args) ∧ a.holds C.prog (lone (Frame.enter C.prog f i.args .normal) [] (w.forCall tape i)))
    (contract : ∀ (W : World) (base : Nat) (args : Array Value) (ds gs : List (DataW H)) (before : List MemPlace),
      (∀ (j : Nat) t v, fn.params[j]? = some t → args[j]? = some v → Value.okWide C.prog W .any base t v) →
      DataW.Whole enc C.prog fn.params.toList s.vars apart W args.toList ds gs before →
      conds.all (PathCond.test C.prog ⟨fn.params.toList, ds, s.plain.varTypes C.prog, gs⟩) = true →
      (DataW.weightsEach C.prog (fn.params.toList ++ s.plain.varTypes C.prog) (ds ++ gs)).all (· ≤ reachBytes) = true → X W args → W.ShapedOpen C.prog →
      Calls C.prog f args W fun e W' => ∃ v, e = .returned v ∧ s.post enc C.prog fn apart fresh handsOn again W args v W') :
    ReturnsInHanded a C os f .any (fun w args => (s.pre enc C.prog fn conds apart w args ∧ X w args) ∧ sizedMet enc C.prog fn (OpenSpec.ofChange s) apart w args) (s.post enc C.prog fn apart fresh handsOn again) := by
  refine returnsInHanded_of_calls own started noInit witness ?_
  intro w tape i _ hsh _ hok hpre _
  obtain ⟨_, _, _, fn', hfn', _, _, _, _, hval⟩ := hok
  obtain rfl : fn' = fn := Option.some.inj (hfn'.symm.trans hfn)
  obtain ⟨⟨⟨ds, gs, before, hw, hc⟩, hx⟩, hz⟩ := hpre
  refine (contract _ w.heap.size i.args ds gs before hval (DataW.Whole.of_heap (w' := w.forCall tape i) (by rfl) hw) hc (hz.weights hw) (hX _ _ _ (by rfl) hx) hsh).mono fun e W' h => ?_
  obtain ⟨v, rfl, hp⟩ := h
  exact ChangeSpec.post_blind hp
theorem tab_of {W : World} {rest : List (String × DataW Unit)} (h : laidMet Tryz.prog (("internal/strconv.uint64pow10", Rows.laid_internal_strconv_uint64pow10) :: rest) W) : Tab W :=
  Lib.tabIs_of_head (k := .u64) (zs := Lib.pow10Tab) (g := 2) (t := 153) (e := 38) (n := 20) (by kernel_rfl) (by kernel_rfl) (by kernel_rfl) (by kernel_rfl) (by kernel_rfl) (by kernel_rfl) h
theorem star : "*" ++ "errors.errorString" = "*errors.errorString" := by decide
theorem row_err (u : TypeId) (h : Tryz.prog.typeName? 3 u = some "*errors.errorString") : u = 158 :=
  typeName_ptr_named (nm := "errors.errorString") (by rw [star]; kernel_rfl) (by kernel_rfl) (by decide) u (by rw [star]; exact h)
theorem synOf {W : World} {rest : List (String × DataW Unit)} (h : laidMet Tryz.prog (("strconv.ErrSyntax", Rows.laid_strconv_ErrSyntax) :: rest) W) : ∃ tp p, W.var? Tryz.prog "strconv.ErrSyntax" = some #[.iface tp p] := by
  obtain ⟨a, s, hv, _⟩ := laid_sentinel h (g := 0) (ti := 107) (tp := 158) (te := 160) (ts := 9) (by kernel_rfl) (by kernel_rfl) Tryz.underlying107 row_err Tryz.underlying158 Tryz.underlying160 rfl rfl Tryz.underlying9 (by kernel_rfl) (by kernel_rfl)
  exact ⟨_, _, hv⟩
theorem rngOf {W : World} {rest : List (String × DataW Unit)} (h : laidMet Tryz.prog (("strconv.ErrRange", Rows.laid_strconv_ErrRange) :: rest) W) : ∃ tp p, W.var? Tryz.prog "strconv.ErrRange" = some #[.iface tp p] := by
  obtain ⟨a, s, hv, _⟩ := laid_sentinel h (g := 1) (ti := 107) (tp := 158) (te := 160) (ts := 9) (by kernel_rfl) (by kernel_rfl) Tryz.underlying107 row_err Tryz.underlying158 Tryz.underlying160 rfl rfl Tryz.underlying9 (by kernel_rfl) (by kernel_rfl)
  exact ⟨_, _, hv⟩
set_option maxRecDepth 100000 in
theorem lifted (os : Os) (started : os.Started) (H : Type) (enc : TypeId × Value → H) :
    ReturnsInHanded {} Tryz.checked os 3 .any (fun w args => (Rows.fnUnifiedSpec.pre enc Tryz.prog Tryz.f3 Rows.fnUnifiedRow.domain false w args ∧ laidMetH Tryz.prog Rows.fnUnifiedRow.laid w) ∧ sizedMet enc Tryz.prog Tryz.f3 (OpenSpec.ofChange Rows.fnUnifiedSpec) false w args) (Rows.fnUnifiedSpec.post enc Tryz.prog Tryz.f3 false true false false) := by
  refine laidShaped (C := Tryz.checked) (X := fun w _ => laidMetH Tryz.prog Rows.fnUnifiedRow.laid w) (fun _ _ _ hh h => h.of_heap hh) own started (by kernel_rfl) Tryz.func3
    (ChangeSpec.witness_shaped (enc := enc) (C := Tryz.checked) (os := os) (X := fun w _ => laidMetH Tryz.prog Rows.fnUnifiedRow.laid w) false (World.laidAll Tryz.prog os Rows.fnUnifiedRow.laid) #[.slice none 0 0, .slice none 0 0] 8 (World.laidAll_os _ _ _)
      (World.shaped_of_ZipB (by kernel_rfl) (by kernel_rfl)) (by kernel_rfl) (by kernel_rfl) (by kernel_rfl)
      (by rw [MakeChecks.laidMetH_plain _ _ _ (by kernel_rfl)]; exact laidMet_laidAll _ (by kernel_rfl) (by kernel_rfl))) ?_
  intro W base args ds gs before hval0 hW hcnd hsz0 hX1 hsh
  have hsz : (DataW.weightsEach Tryz.prog (Tryz.f3.params.toList ++ Rows.fnUnifiedSpec.plain.varTypes Tryz.prog) (ds ++ gs)).all (· ≤ reachBytes) = true := hsz0
  have hval : ∀ (j : Nat) t v, Tryz.f3.params[j]? = some t → args[j]? = some v → Value.okWide Tryz.prog W .any base t v := hval0
  have hW' := hW
  obtain ⟨p, q, hA0, hV, rfl, hfz, hnd⟩ := hW
  have hA : DataW.TrodAll enc Tryz.prog W 0 (fun _ => true) true Tryz.f3.params.toList args.toList ds p := hA0
  rw [Tryz.params3] at hA hval hsz
  obtain ⟨v0, vs0, d0, ds0, p0, q0, hargs, rfl, rfl, h0, r0⟩ := trodAll_cons hA
  obtain ⟨v1, vs1, d1, ds1, p1, q1, rfl, rfl, rfl, h1, r1⟩ := trodAll_cons r0
  obtain ⟨rfl, rfl, rfl⟩ := trodAll_nil r1
  obtain rfl : args = #[v0, v1] := by cases args; simp_all
  obtain ⟨rfl, rfl⟩ := trodVars_none hV
  have k0 := h0
  have lt0 : ∀ x ∈ p0, x.block < W.heap.size := by obtain ⟨m, hm⟩ := k0; exact DataW.trod_lt m _ _ _ hm
  have y0 := fun a len cap (e : v0 = .slice a len cap) => Go.Proofs.YteffjlhljeodpaaGreatDoorW.PrintWords.sized_ints (B := 1) hsz (j := 0) (t := 22) rfl rfl Tryz.underlying22 Tryz.underlying5 (by kernel_rfl) (by kernel_rfl) (e ▸ h0)
  obtain ⟨A0, l0, c0, rfl, hc0, hr0, hg0⟩ := slice_in Tryz.underlying22 (opens_slice Tryz.underlying22 (opens_int Tryz.underlying5) (by kernel_rfl)) (hval 0 22 v0 rfl rfl) h0
  have k1 := h1
  have lt1 : ∀ x ∈ p1, x.block < W.heap.size := by obtain ⟨m, hm⟩ := k1; exact DataW.trod_lt m _ _ _ hm
  have y1 := fun a len cap (e : v1 = .slice a len cap) => Go.Proofs.YteffjlhljeodpaaGreatDoorW.PrintWords.sized_ints (B := 1) hsz (j := 1) (t := 22) rfl rfl Tryz.underlying22 Tryz.underlying5 (by kernel_rfl) (by kernel_rfl) (e ▸ h1)
  obtain ⟨A1, l1, c1, rfl, hc1, hr1, hg1⟩ := slice_in Tryz.underlying22 (opens_slice Tryz.underlying22 (opens_int Tryz.underlying5) (by kernel_rfl)) (hval 1 22 v1 rfl rfl) h1
  clear hA0 hval0 hsz0 hsz
  obtain ⟨k_, hk_⟩ := Pure.FnUnified l0 l1 (y0 _ _ _ rfl) hg0 (y1 _ _ _ rfl) hg1
  have hL : laidMet Tryz.prog Rows.fnUnifiedRow.laid W := by
    rw [← MakeChecks.laidMetH_plain _ _ _ (by kernel_rfl)]; exact hX1
  have hE : G.Met W := ⟨(tab_of (laidMet.tail (laidMet.tail hL))), ⟨(synOf (laidMet.tail (laidMet.tail (laidMet.tail (laidMet.tail hL))))), (rngOf (laidMet.tail (laidMet.tail (laidMet.tail hL))))⟩⟩
  refine (laws_FnUnified.calls k_ A0 c0 l0 A1 c1 l1 true W hr0 hc0 hr1 hc1 hk_ hE).mono fun e W' ⟨he, bel0⟩ => ?_
  have bel : Below W.heap.size W W' := bel0
  subst he
  exact ⟨_, rfl, _, _, _, [], _, [], hW', trodAll_mk1 (shut_bool Tryz.underlying4 _), (trodAll_cons_mk (Below.trod laidOut (by kernel_rfl) (of_decide_eq_true (by kernel_rfl)) k0 bel lt0) (trodAll_cons_mk (Below.trod laidOut (by kernel_rfl) (of_decide_eq_true (by kernel_rfl)) k1 bel lt1) trodAll_mk0)), rfl, bel.frame _, fun h => by cases h⟩
theorem over : Rows.FnUnifiedSaid :=
  OpenClaim.holds_of_wide 3 Tryz.f3 rfl rfl rfl rfl rfl rfl rfl ⟨rfl, rfl, rfl, rfl, rfl⟩ rfl rfl rfl rfl rfl (by kernel_rfl) Tryz.func3 (by kernel_rfl)
    (of_decide_eq_true (by kernel_rfl)) (by unfold Func.isWrapper; first | (rw [if_pos (by decide +kernel)]; kernel_rfl) | (rw [if_neg (by decide +kernel)]; exact ⟨rfl, rfl⟩))
    (fun os started H enc _ => lifted os started H enc)
theorem proved : Rows.FnUnifiedCardSaid :=
  Claim7.holds_tied_plain_at .later [] [.data, .data, .data, .sentinel, .sentinel] true (true, "1fceeb1d093ee4e8bdcff14568de75fd1c63e0c23880e58fcbaefcbb5105076c") true
    over (fun _ h => by cases h) (by kernel_rfl) (fun _ h => by cases h) fnUnified_row_tie rfl ⟨rfl, rfl⟩ (by kernel_rfl) rfl
    (fun f fn hf hfn => by
      obtain rfl : f = 3 := Option.some.inj ((show Tryz.prog.funcNamed "loop.example/g00201/laws.FnUnified" = some 3 by kernel_rfl).symm.trans hf) |>.symm
      obtain rfl : fn = Tryz.f3 := (Option.some.inj (Tryz.func3.symm.trans hfn)).symm
      exact ⟨by kernel_rfl, fun j t ht => by
        rw [Tryz.params3] at ht
        have hm : t ∈ [22] := by simpa using Array.mem_of_getElem? ht
        have hall : ([22].all fun u => !Tryz.prog.wantsStandIn u) = true := by kernel_rfl
        exact (show Tryz.prog.wantsStandIn t = false by simpa using List.all_eq_true.1 hall t hm)⟩)
    (by kernel_rfl)
#print axioms proved
end Go.Proofs.YteffjlhljeodpaaGreatDoor.fnUnified
namespace Go.Proofs.YteffjlhljeodpaaGreatDoor
theorem fnUnified_holds : Rows.FnUnifiedCardSaid := fnUnified.proved
end Go.Proofs.YteffjlhljeodpaaGreatDoor
