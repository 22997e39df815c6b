/- Part 4 of 4 of the proof that the law FnExactFreeInSaid holds: for every input that can be read the call returns true and leaves its arguments as they were; no condition but those each theorem names. -/
import Derived.Lib.SlicesCompact
import Derived.ChangeArms
import Derived.WideShapes
import Derived.DataElems
import Derived.DataReads
import Derived.Test.YtcjhhdecckcibaaRows
import Derived.WalkKit
import Derived.ProofKit
import Derived.OpenShut
import Derived.ShutString
import Derived.ChangeOld
import Derived.Below
import Derived.SizedLaws
import Derived.Test.YtcjhhdecckcibaaQFreeInW1
import Derived.Test.YtcjhhdecckcibaaQFreeIn1
import Derived.Test.YtcjhhdecckcibaaQFreeIn2
import Derived.Test.YtcjhhdecckcibaaQFreeIn3
namespace Go.Proofs.Ytcjhhdecckcibaa.TermL
open Go.RowKit Go.Proofs.Ytcjhhdecckcibaa.G Go.Proofs.Ytcjhhdecckcibaa.EvL Go.Proofs.Ytcjhhdecckcibaa.TreeM Go.Proofs.YtcjhhdecckcibaaW.PrintWords Go.Proofs.YtcjhhdecckcibaaW.PrintLast
set_option linter.unusedVariables false

def toL : Tr → S90
  | .leaf k n => ⟨k, n, []⟩
  | .un k n a => ⟨k, n, [toL a]⟩
  | .bin k n a b => ⟨k, n, [toL a, toL b]⟩
theorem toL_eta (a : Tr) : (⟨(toL a).f0, (toL a).f1, (toL a).f2⟩ : S90) = toL a := by cases toL a; rfl
theorem partsL (l : List S62) (i : Nat) (hl : l.length ≤ 200) : ∀ (d a : Nat) (acc : List Int), a + d = l.length → acc.length + d ≤ 200 → Ev (fun k => spec_lcParts.l0 k l i acc a) (acc ++ (pts (l.map nd) i a d).map fun (m : Nat) => (m : Int)) := by
  intro d
  induction d with
  | zero =>
    intro a acc ha _
    refine Ev.step (f := fun _ => some acc) (fun k => ?_) (Ev.of_eq (Ev.now _) ?_)
    · simp only [spec_lcParts.l0]
      rw [if_neg (by omega)]
    · simp [pts]
  | succ d ih =>
    intro a acc ha hacc
    by_cases h : up (l.map nd) a = (i : Int)
    · refine Ev.step (fun k => ?_) (Ev.of_eq (ih (a + 1) (acc ++ [(a : Int)]) (by omega) (by simp; omega)) ?_)
      · simp only [spec_lcParts.l0]
        rw [if_pos (by omega), if_pos (by omega), rdC, up_nd, if_pos h, if_pos (by omega), next a (n := l.length) (by omega) (by omega)]
      · have e : pts (l.map nd) i a (d + 1) = a :: pts (l.map nd) i (a + 1) d := by
          show (if up (l.map nd) a = (i : Int) then _ else _) = _
          rw [if_pos h]
        rw [e]; simp
    · refine Ev.step (fun k => ?_) (Ev.of_eq (ih (a + 1) acc (by omega) (by omega)) ?_)
      · simp only [spec_lcParts.l0]
        rw [if_pos (by omega), if_pos (by omega), rdC, up_nd, if_neg h, next a (n := l.length) (by omega) (by omega)]
      · have e : pts (l.map nd) i a (d + 1) = pts (l.map nd) i (a + 1) d := by
          show (if up (l.map nd) a = (i : Int) then _ else _) = _
          rw [if_neg h]
        rw [e]
theorem lcPartsL (l : List S62) (i : Nat) (hi : i < l.length) (hl : l.length ≤ 200) : Ev (fun k => spec_lcParts.f k l i) ((pts (l.map nd) i (i + 1) (l.length - (i + 1))).map fun (m : Nat) => (m : Int)) := by
  have := partsL l i hl (l.length - (i + 1)) (i + 1) [] (by omega) (by simp; omega)
  unfold spec_lcParts.f
  rw [next i hi (by omega)]
  rw [List.nil_append] at this
  exact this

theorem rdI (l : List Int) (i : Nat) : rd l (i : Int) = l.getD i 0 := by unfold rd; rw [Int.toNat_natCast]

theorem lcTree_ev (l : List S62) (hl : l.length ≤ 200) {i e : Nat} {t : Tr} (h : Parts ar (l.map nd) i t e) : Ev (fun k => spec_lcTree.f k l i) ((toL t).f0, (toL t).f1, (toL t).f2) := by
  have hlen : (l.map nd).length = l.length := List.length_map ..
  have start : ∀ {i : Nat} {kd n v : Int} {ps : List Nat}, (l.map nd).getD i z = ⟨kd, n, v⟩ → i < (l.map nd).length → pts (l.map nd) i (i + 1) ((l.map nd).length - (i + 1)) = ps → ∀ {r}, Ev (fun k => spec_lcTree.l0 k l (ps.map fun (m : Nat) => (m : Int)) ((ps.map fun (m : Nat) => (m : Int)).length : Int) 0 kd n []) r → Ev (fun k => spec_lcTree.f k l i) r := by
    intro i kd n v ps h0 hi hp r hE
    rw [hlen] at hi hp
    have e0 : (l.getD i z62).f0 = kd := by have := getD_nd l i; rw [h0] at this; exact (congrArg Nd.kind this).symm
    have e1 : (l.getD i z62).f1 = n := by have := getD_nd l i; rw [h0] at this; exact (congrArg Nd.n this).symm
    refine Ev.step (f := fun k => (spec_lcParts.f k l i).bind fun t105 => (spec_lcTree.l0 k l t105 (t105.length : Int) 0 kd n [])) (fun k => ?_) (Ev.bind (lcPartsL l i hi hl) ?_)
    · simp only [spec_lcTree.f]
      rw [if_pos (by omega), if_pos (by omega), rdC, e0, e1]
    · rw [hp]; exact hE
  have fin : ∀ (qs : List Int) (j kd n : Int) (ps : List S90), ¬ j < (qs.length : Int) → Ev (fun k => spec_lcTree.l0 k l qs (qs.length : Int) j kd n ps) (kd, n, ps) := by
    intro qs j kd n ps hj
    refine Ev.step (f := fun _ => some (kd, n, ps)) (fun k => ?_) (Ev.now _)
    simp only [spec_lcTree.l0]
    rw [if_neg hj]
  have one : ∀ (qs : List Int) (j q : Nat) (kd n : Int) (ps : List S90) (t : Tr), j < qs.length → qs.length ≤ 2 → ps.length ≤ 2 → qs.getD j 0 = (q : Int) → Ev (fun k => spec_lcTree.f k l q) ((toL t).f0, (toL t).f1, (toL t).f2) → ∀ {r}, Ev (fun k => spec_lcTree.l0 k l qs (qs.length : Int) ((j + 1 : Nat) : Int) kd n (ps ++ [toL t])) r → Ev (fun k => spec_lcTree.l0 k l qs (qs.length : Int) (j : Int) kd n ps) r := by
    intro qs j q kd n ps t hj hq hp hqe hE r h
    refine Ev.step (f := fun k => (spec_lcTree.f k l (q : Int)).bind fun bt109 => (if ps.length < 3518437208883 then (spec_lcTree.l0 k l qs (qs.length : Int) ((j + 1 : Nat) : Int) kd n (ps ++ [(⟨bt109.1, bt109.2.1, bt109.2.2⟩ : S90)])) else (none))) (fun k => ?_) (Ev.bind hE (Ev.ite_pos (by omega) ?_))
    · simp only [spec_lcTree.l0]
      rw [if_pos (by omega), if_pos (by omega), if_pos (by omega), rdI, hqe, next j hj (by omega)]
    · show Ev (fun k => spec_lcTree.l0 k l qs (qs.length : Int) ((j + 1 : Nat) : Int) kd n (ps ++ [(⟨(toL t).f0, (toL t).f1, (toL t).f2⟩ : S90)])) r
      rw [toL_eta]; exact h
  induction h with
  | @leaf i k n h hi hw hp => exact start h hi hp (fin [] 0 k n [] (by simp))
  | @un i e k n a h hi hw hp ha ih => exact start h hi hp (one [((i + 1 : Nat) : Int)] 0 (i + 1) k n [] a (by simp) (by simp) (by simp) rfl ih (fin [((i + 1 : Nat) : Int)] 1 k n [toL a] (by simp)))
  | @bin i e e' k n a b h hi hw hp ha hb ih1 ih2 =>
    exact start h hi hp (one [((i + 1 : Nat) : Int), (e : Int)] 0 (i + 1) k n [] a (by simp) (by simp) (by simp) rfl ih1 (one [((i + 1 : Nat) : Int), (e : Int)] 1 e k n [toL a] b (by simp) (by simp) (by simp) rfl ih2 (fin [((i + 1 : Nat) : Int), (e : Int)] 2 k n [toL a, toL b] (by simp))))

theorem tree_of (l : List S62) {t : Tr} (h : Tells l t) : Ev (fun k => spec_lcTree.f k l 0) ((toL t).f0, (toL t).f1, (toL t).f2) ∧ t.wf ar ∧ t.all numOk ∧ t.depth ≤ 40 := by
  have hlen : (l.map nd).length = l.length := List.length_map ..
  obtain ⟨h1, h2, h3, h5, h6⟩ := h
  have h4 := h3
  rw [← hlen] at h4
  exact ⟨lcTree_ev l (by omega) h4.parts_all, h3.wf, h5, h6⟩
theorem kind_of {k : Int} (h : 1 ≤ k ∧ k ≤ ar.top) : k = 1 ∨ k = 2 ∨ k = 3 := by
  have : 1 ≤ k ∧ k ≤ 3 := h
  omega
theorem want_zero {k : Int} (h : (1 ≤ k ∧ k ≤ ar.top) ∧ ar.want k = 0) : k = 1 := by
  rcases kind_of h.1 with rfl | rfl | rfl
  · rfl
  · exact absurd h.2 (by decide)
  · exact absurd h.2 (by decide)
theorem want_one {k : Int} (h : (1 ≤ k ∧ k ≤ ar.top) ∧ ar.want k = 1) : k = 2 := by
  rcases kind_of h.1 with rfl | rfl | rfl
  · exact absurd h.2 (by decide)
  · rfl
  · exact absurd h.2 (by decide)
theorem want_two {k : Int} (h : (1 ≤ k ∧ k ≤ ar.top) ∧ ar.want k = 2) : k = 3 := by
  rcases kind_of h.1 with rfl | rfl | rfl
  · exact absurd h.2 (by decide)
  · exact absurd h.2 (by decide)
  · rfl
end Go.Proofs.Ytcjhhdecckcibaa.TermL

namespace Go.Proofs.Ytcjhhdecckcibaa.RiseL
open Go.RowKit Go.Proofs.YtcjhhdecckcibaaW.PrintWords
set_option linter.unusedVariables false

theorem strict_ext : ∀ (l m : List Int), l.Pairwise (· < ·) → m.Pairwise (· < ·) → (∀ x, x ∈ l ↔ x ∈ m) → l = m
  | [], [], _, _, _ => rfl
  | [], y :: m, _, _, h => absurd ((h y).mpr (by simp)) (by simp)
  | x :: l, [], _, _, h => absurd ((h x).mp (by simp)) (by simp)
  | x :: l, y :: m, hl, hm, h => by
    rw [List.pairwise_cons] at hl hm
    have hx := (h x).mp (by simp)
    have hy := (h y).mpr (by simp)
    have e : x = y := by
      rcases List.mem_cons.mp hx with e | hx
      · exact e
      · rcases List.mem_cons.mp hy with e | hy
        · exact e.symm
        · have := hl.1 y hy
          have := hm.1 x hx
          omega
    subst e
    rw [strict_ext l m hl.2 hm.2 (fun z => ⟨fun hz => by
      rcases List.mem_cons.mp ((h z).mp (List.mem_cons_of_mem _ hz)) with e | h2
      · have := hl.1 z hz; omega
      · exact h2, fun hz => by
      rcases List.mem_cons.mp ((h z).mpr (List.mem_cons_of_mem _ hz)) with e | h2
      · have := hm.1 z hz; omega
      · exact h2⟩)]
theorem get_arr (zs : List Int) (j : Nat) (h : j < zs.length) : zs.toArray[j]! = zs[j] := by rw [getElem!_pos _ _ (by simpa using h)]; simp
theorem compact_mem (zs : List Int) (x : Int) : x ∈ Lib.compact zs ↔ x ∈ zs := by
  unfold Lib.compact Lib.compactUpTo
  rw [List.mem_map]
  constructor
  · rintro ⟨j, hj, rfl⟩
    have h1 : j < zs.length := by simpa using (List.mem_filter.mp hj).1
    rw [get_arr zs j h1]
    exact List.getElem_mem h1
  · intro hx
    obtain ⟨j, hj, he⟩ := List.getElem_of_mem hx
    -- the first place
    have key : ∀ n j, j ≤ n → ∀ hj : j < zs.length, zs[j] = x → ∃ i, i ∈ (List.range zs.length).filter (Lib.keeps zs.toArray) ∧ zs.toArray[i]! = x := by
      intro n
      induction n with
      | zero =>
        intro j h0 hj he
        obtain rfl : j = 0 := by omega
        exact ⟨0, List.mem_filter.mpr ⟨by simpa using hj, by simp [Lib.keeps]⟩, by rw [get_arr zs 0 hj]; exact he⟩
      | succ n ih =>
        intro j h0 hj he
        by_cases hk : Lib.keeps zs.toArray j = true
        · exact ⟨j, List.mem_filter.mpr ⟨by simpa using hj, hk⟩, by rw [get_arr zs j hj]; exact he⟩
        · have hk2 : ¬ (j = 0 ∨ zs.toArray[j]! ≠ zs.toArray[j - 1]!) := fun h => hk (decide_eq_true h)
          have hj0 : j ≠ 0 := fun h => hk2 (.inl h)
          have hee : zs.toArray[j]! = zs.toArray[j - 1]! := Classical.byContradiction fun h => hk2 (.inr h)
          rw [get_arr zs j hj, get_arr zs (j - 1) (by omega)] at hee
          exact ih (j - 1) (by omega) (by omega) (hee ▸ he)
    exact key j j (Nat.le_refl _) hj he
theorem compact_rise (zs : List Int) (hs : zs.Pairwise (· ≤ ·)) : (Lib.compact zs).Pairwise (· < ·) := by
  unfold Lib.compact Lib.compactUpTo
  rw [List.pairwise_map]
  have h1 : ((List.range zs.length).filter (Lib.keeps zs.toArray)).Pairwise (· < ·) := List.Pairwise.filter _ List.pairwise_lt_range
  have h2 : ∀ i ∈ (List.range zs.length).filter (Lib.keeps zs.toArray), i < zs.length ∧ Lib.keeps zs.toArray i = true := fun i hi => ⟨by simpa using (List.mem_filter.mp hi).1, (List.mem_filter.mp hi).2⟩
  refine List.Pairwise.imp_of_mem ?_ h1
  intro i j hi hj hij
  obtain ⟨a1, a2⟩ := h2 i hi
  obtain ⟨b1, b2⟩ := h2 j hj
  have b3 : j = 0 ∨ zs.toArray[j]! ≠ zs.toArray[j - 1]! := of_decide_eq_true b2
  rw [get_arr zs i a1, get_arr zs j b1]
  have b4 : zs[j] ≠ zs[j - 1] := by
    rcases b3 with h | h
    · omega
    · rwa [get_arr zs j b1, get_arr zs (j - 1) (by omega)] at h
  have le : ∀ (p q : Nat) (hp : p < zs.length) (hq : q < zs.length), p ≤ q → zs[p] ≤ zs[q] := by
    intro p q hp hq hpq
    rcases Nat.lt_or_ge p q with h | h
    · exact List.pairwise_iff_getElem.mp hs p q hp hq h
    · obtain rfl : p = q := by omega
      exact Int.le_refl _
  have c1 := le i (j - 1) a1 (by omega) (by omega)
  have c2 := le (j - 1) j (by omega) b1 (by omega)
  omega
theorem sort_rise (l : List Int) : (l.mergeSort fun x y => decide (x ≤ y)).Pairwise (· ≤ ·) := by
  have := List.pairwise_mergeSort (le := fun x y : Int => decide (x ≤ y)) (fun a b c h1 h2 => by simp only [decide_eq_true_eq] at *; omega) (fun a b => by simp only [Bool.or_eq_true, decide_eq_true_eq]; omega) l
  exact this.imp (fun h => of_decide_eq_true h)
theorem sort_mem (l : List Int) (x : Int) : x ∈ (l.mergeSort fun x y => decide (x ≤ y)) ↔ x ∈ l := List.mem_mergeSort
end Go.Proofs.Ytcjhhdecckcibaa.RiseL

namespace Go.Proofs.Ytcjhhdecckcibaa.TermL
open Go.RowKit Go.Proofs.Ytcjhhdecckcibaa.G Go.Proofs.Ytcjhhdecckcibaa.EvL Go.Proofs.Ytcjhhdecckcibaa.TreeM Go.Proofs.Ytcjhhdecckcibaa.RiseL Go.Proofs.YtcjhhdecckcibaaW.PrintWords Go.Proofs.YtcjhhdecckcibaaW.PrintLast
set_option linter.unusedVariables false

def fvs : Tr → Int → List Int
  | .leaf _ n, ar => if ar ≤ n then [n - ar] else []
  | .un _ _ a, ar => fvs a (ar + 1)
  | .bin _ _ a b, ar => fvs a ar ++ fvs b ar
theorem fvs_bound : ∀ (t : Tr) (ar : Int), t.all numOk → 0 ≤ ar → ∀ x ∈ fvs t ar, 0 ≤ x ∧ x < 100
  | .leaf k n, ar, h, h0, x, hx => by
    have h2 : n ≤ 99 := h.2.1
    unfold fvs at hx
    split at hx
    · rw [List.mem_singleton] at hx; omega
    · simp at hx
  | .un k n a, ar, h, h0, x, hx => fvs_bound a (ar + 1) h.2 (by omega) x hx
  | .bin k n a b, ar, h, h0, x, hx => by
    rcases List.mem_append.mp hx with hx | hx
    · exact fvs_bound a ar h.2.1 h0 x hx
    · exact fvs_bound b ar h.2.2 h0 x hx
theorem fr_impl : ∀ (t : Tr) (ar : Int) (acc : List Int), t.wf TermL.ar → t.all numOk → 0 ≤ ar → ar + t.depth ≤ 1000 → Free68.frT (toS t) ar acc = acc ++ fvs t ar
  | .leaf k n, ar, acc, hw, hn, h0, hd => by
    have hk := want_zero hw
    have h2 : n ≤ 99 := hn.2.1
    have h3 : 0 ≤ n := hn.1
    subst hk
    rw [Free68.frT_eq]
    show Free68.frL [] _ (if (1 : Int) = 1 ∧ ar ≤ n then acc ++ [wrap64 (n - ar)] else acc) = _
    rw [Free68.frL_nil]
    unfold fvs
    by_cases h : ar ≤ n
    · rw [if_pos ⟨rfl, h⟩, if_pos h, w64 (by omega) (by omega)]
    · rw [if_neg (fun g => h g.2), if_neg h, List.append_nil]
  | .un k n a, ar, acc, hw, hn, h0, hd => by
    have hk := want_one hw.1
    subst hk
    have hd' : ar + ((a.depth + 1 : Nat) : Int) ≤ 1000 := hd
    rw [Free68.frT_eq]
    show Free68.frL [toS a] (if (2 : Int) = 2 then wrap64 (ar + 1) else ar) (if (2 : Int) = 1 ∧ ar ≤ n then acc ++ [wrap64 (n - ar)] else acc) = _
    rw [if_pos rfl, if_neg (fun g => absurd g.1 (by decide)), Free68.frL_cons, Free68.frL_nil, w64 (by omega) (by omega), fr_impl a (ar + 1) acc hw.2 hn.2 (by omega) (by omega)]
    rfl
  | .bin k n a b, ar, acc, hw, hn, h0, hd => by
    have hk := want_two hw.1
    subst hk
    have hd' : ar + ((max a.depth b.depth + 1 : Nat) : Int) ≤ 1000 := hd
    rw [Free68.frT_eq]
    show Free68.frL [toS a, toS b] (if (3 : Int) = 2 then wrap64 (ar + 1) else ar) (if (3 : Int) = 1 ∧ ar ≤ n then acc ++ [wrap64 (n - ar)] else acc) = _
    rw [if_neg (by decide), if_neg (fun g => absurd g.1 (by decide)), Free68.frL_cons, Free68.frL_cons, Free68.frL_nil, fr_impl a ar acc hw.2.1 hn.2.1 h0 (by omega), fr_impl b ar _ hw.2.2 hn.2.2 h0 (by omega), List.append_assoc]
    rfl
def setAll (L : List Int) (o : List Bool) : List Bool := L.foldl (fun o i => o.set i.toNat true) o
theorem fr_spec : ∀ (t : Tr) (ar : Int) (o : List Bool), t.wf TermL.ar → t.all numOk → 0 ≤ ar → ar + t.depth ≤ 1000 → Free90.frT (toL t) ar o = setAll (fvs t ar) o ∧ Free90.inT (toL t) ar 100 = true
  | .leaf k n, ar, o, hw, hn, h0, hd => by
    have hk := want_zero hw
    have h2 : n ≤ 99 := hn.2.1
    have h3 : 0 ≤ n := hn.1
    subst hk
    rw [Free90.frT_eq, Free90.inT_eq]
    show Free90.frL [] _ (if (1 : Int) = 1 ∧ ar ≤ n then o.set (wrap64 (n - ar)).toNat true else o) = _ ∧ ((if (1 : Int) = 1 ∧ ar ≤ n then decide (0 ≤ wrap64 (n - ar) ∧ wrap64 (n - ar) < ((100 : Nat) : Int)) else true) && Free90.inL [] _ 100) = true
    rw [Free90.frL_nil, Free90.inL]
    unfold fvs setAll
    by_cases h : ar ≤ n
    · have hw1 : wrap64 (n - ar) = n - ar := w64 (by omega) (by omega)
      rw [if_pos ⟨rfl, h⟩, if_pos h, if_pos ⟨rfl, h⟩, hw1]
      exact ⟨rfl, by rw [decide_eq_true (by omega)]; rfl⟩
    · rw [if_neg (fun g => h g.2), if_neg h, if_neg (fun g => h g.2)]
      exact ⟨rfl, rfl⟩
  | .un k n a, ar, o, hw, hn, h0, hd => by
    have hk := want_one hw.1
    subst hk
    have hd' : ar + ((a.depth + 1 : Nat) : Int) ≤ 1000 := hd
    obtain ⟨i1, i2⟩ := fr_spec a (ar + 1) o hw.2 hn.2 (by omega) (by omega)
    rw [Free90.frT_eq, Free90.inT_eq]
    show Free90.frL [toL a] (if (2 : Int) = 2 then wrap64 (ar + 1) else ar) (if (2 : Int) = 1 ∧ ar ≤ n then o.set (wrap64 (n - ar)).toNat true else o) = _ ∧ ((if (2 : Int) = 1 ∧ ar ≤ n then decide (0 ≤ wrap64 (n - ar) ∧ wrap64 (n - ar) < ((100 : Nat) : Int)) else true) && Free90.inL [toL a] (if (2 : Int) = 2 then wrap64 (ar + 1) else ar) 100) = true
    rw [if_pos rfl, if_neg (fun g => absurd g.1 (by decide)), if_neg (fun g => absurd g.1 (by decide)), Free90.frL_cons, Free90.frL_nil, Free90.inL_cons, Free90.inL, w64 (by omega) (by omega), i1, i2]
    exact ⟨rfl, rfl⟩
  | .bin k n a b, ar, o, hw, hn, h0, hd => by
    have hk := want_two hw.1
    subst hk
    have hd' : ar + ((max a.depth b.depth + 1 : Nat) : Int) ≤ 1000 := hd
    obtain ⟨i1, i2⟩ := fr_spec a ar o hw.2.1 hn.2.1 h0 (by omega)
    obtain ⟨j1, j2⟩ := fr_spec b ar (setAll (fvs a ar) o) hw.2.2 hn.2.2 h0 (by omega)
    rw [Free90.frT_eq, Free90.inT_eq]
    show Free90.frL [toL a, toL b] (if (3 : Int) = 2 then wrap64 (ar + 1) else ar) (if (3 : Int) = 1 ∧ ar ≤ n then o.set (wrap64 (n - ar)).toNat true else o) = _ ∧ ((if (3 : Int) = 1 ∧ ar ≤ n then decide (0 ≤ wrap64 (n - ar) ∧ wrap64 (n - ar) < ((100 : Nat) : Int)) else true) && Free90.inL [toL a, toL b] (if (3 : Int) = 2 then wrap64 (ar + 1) else ar) 100) = true
    rw [if_neg (by decide), if_neg (fun g => absurd g.1 (by decide)), if_neg (fun g => absurd g.1 (by decide)), Free90.frL_cons, Free90.frL_cons, Free90.frL_nil, Free90.inL_cons, Free90.inL_cons, Free90.inL, i1, i2, j1, j2]
    exact ⟨by unfold setAll; exact (List.foldl_append ..).symm, rfl⟩
theorem setAll_len (L : List Int) : ∀ (o : List Bool), (setAll L o).length = o.length := by
  induction L with
  | nil => intro o; rfl
  | cons x L ih => intro o; show (setAll L (o.set x.toNat true)).length = _; rw [ih, List.length_set]
theorem setAll_get (L : List Int) : ∀ (o : List Bool) (j : Nat), j < o.length → ((setAll L o)[j]? = some true ↔ (o[j]? = some true ∨ ∃ x ∈ L, x.toNat = j)) := by
  induction L with
  | nil => intro o j hj; simp [setAll]
  | cons x L ih =>
    intro o j hj
    have e : setAll (x :: L) o = setAll L (o.set x.toNat true) := rfl
    rw [e, ih (o.set x.toNat true) j (by rw [List.length_set]; exact hj)]
    by_cases h : x.toNat = j
    · subst h
      rw [List.getElem?_set_self hj]
      exact ⟨fun _ => .inr ⟨x, by simp, rfl⟩, fun _ => .inl rfl⟩
    · rw [List.getElem?_set_ne h]
      constructor
      · rintro (h1 | ⟨y, hy, h1⟩)
        · exact .inl h1
        · exact .inr ⟨y, List.mem_cons_of_mem _ hy, h1⟩
      · rintro (h1 | ⟨y, hy, h1⟩)
        · exact .inl h1
        · rcases List.mem_cons.mp hy with rfl | hy
          · exact absurd h1 h
          · exact .inr ⟨y, hy, h1⟩
theorem listed_mem : ∀ (o : List Bool) (i : Nat) (x : Int), x ∈ Free90.listed i o ↔ ∃ j : Nat, o[j]? = some true ∧ x = ((i + j : Nat) : Int)
  | [], i, x => by simp [Free90.listed]
  | b :: o, i, x => by
    have ih := listed_mem o (i + 1) x
    have tail : (∃ j : Nat, o[j]? = some true ∧ x = ((i + 1 + j : Nat) : Int)) ↔ ∃ j : Nat, j ≠ 0 ∧ (b :: o)[j]? = some true ∧ x = ((i + j : Nat) : Int) := by
      constructor
      · rintro ⟨j, h1, h2⟩
        exact ⟨j + 1, by omega, by simpa using h1, by rw [h2]; congr 1; omega⟩
      · rintro ⟨j, h0, h1, h2⟩
        obtain ⟨j, rfl⟩ : ∃ q, j = q + 1 := ⟨j - 1, by omega⟩
        exact ⟨j, by simpa using h1, by rw [h2]; congr 1; omega⟩
    rw [Free90.listed]
    by_cases hb : b = true
    · rw [if_pos hb, List.mem_cons, ih, tail]
      constructor
      · rintro (h | ⟨j, _, h1, h2⟩)
        · exact ⟨0, by simp [hb], by simpa using h⟩
        · exact ⟨j, h1, h2⟩
      · rintro ⟨j, h1, h2⟩
        by_cases h0 : j = 0
        · subst h0; exact .inl (by simpa using h2)
        · exact .inr ⟨j, h0, h1, h2⟩
    · rw [if_neg hb, ih, tail]
      constructor
      · rintro ⟨j, _, h1, h2⟩; exact ⟨j, h1, h2⟩
      · rintro ⟨j, h1, h2⟩
        refine ⟨j, fun h0 => ?_, h1, h2⟩
        subst h0
        exact hb (by simpa using h1)
theorem listed_rise : ∀ (o : List Bool) (i : Nat), (Free90.listed i o).Pairwise (· < ·)
  | [], i => by rw [Free90.listed]; exact List.Pairwise.nil
  | b :: o, i => by
    have ih := listed_rise o (i + 1)
    rw [Free90.listed]
    split
    · rw [List.pairwise_cons]
      refine ⟨fun x hx => ?_, ih⟩
      obtain ⟨j, _, h⟩ := (listed_mem o (i + 1) x).mp hx
      omega
    · exact ih
theorem free_eq (t : Tr) (hn : t.all numOk) : Free90.listed 0 (setAll (fvs t 0) (List.replicate 100 false)) = Lib.compact (sorted (fvs t 0)) := by
  refine strict_ext _ _ (listed_rise _ _) (compact_rise _ (sort_rise _)) (fun x => ?_)
  rw [listed_mem, compact_mem, sort_mem]
  constructor
  · rintro ⟨j, h1, h2⟩
    have hj : j < (List.replicate 100 false).length := by
      have := (List.getElem?_eq_some_iff.mp h1).1
      rwa [setAll_len] at this
    rcases (setAll_get _ _ j hj).mp h1 with h3 | ⟨y, hy, h3⟩
    · rw [List.getElem?_replicate] at h3
      split at h3 <;> simp at h3
    · have := fvs_bound t 0 hn (by omega) y hy
      have e : x = y := by omega
      rw [e]; exact hy
  · intro hx
    have hb := fvs_bound t 0 hn (by omega) x hx
    refine ⟨x.toNat, (setAll_get _ _ x.toNat (by simp; omega)).mpr (.inr ⟨x, hx, rfl⟩), by omega⟩
theorem fvs_len : ∀ (t : Tr) (ar : Int), (fvs t ar).length ≤ t.size
  | .leaf k n, ar => by unfold fvs; split <;> simp [Tr.size]
  | .un k n a, ar => by have := fvs_len a (ar + 1); show (fvs a (ar + 1)).length ≤ 1 + a.size; omega
  | .bin k n a b, ar => by have := fvs_len a ar; have := fvs_len b ar; show (fvs a ar ++ fvs b ar).length ≤ 1 + a.size + b.size; rw [List.length_append]; omega
theorem sz_impl : ∀ (t : Tr), Free68.szT (toS t) = t.size := by
  intro t
  induction t with
  | leaf k n => rw [Free68.szT_eq]; show 1 + Free68.szL [] = 1; rw [Free68.szL]
  | un k n a ih => rw [Free68.szT_eq]; show 1 + Free68.szL [toS a] = 1 + a.size; rw [Free68.szL_cons, Free68.szL, ih]; omega
  | bin k n a b iha ihb => rw [Free68.szT_eq]; show 1 + Free68.szL [toS a, toS b] = 1 + a.size + b.size; rw [Free68.szL_cons, Free68.szL_cons, Free68.szL, iha, ihb]; omega
theorem freeBoth (l : List S62) (hl : l.length ≤ 9223372036854775807) : ∃ (o : List Int) (b : Bool), o.length ≤ 1000000 ∧ Ev (fun k => spec_FreeIn.f k l) (o, b) ∧ Ev (fun k => impl_FreeIn.f k l) (o, b) := by
  obtain ⟨b1, e1, h1⟩ := specGood l hl
  obtain ⟨y, b, hE, hb, hx⟩ := rootEv l hl
  obtain rfl : b1 = b := by rw [Bool.eq_iff_iff, h1, hb]
  unfold spec_FreeIn.f impl_FreeIn.f
  by_cases h : b1 = true
  case neg =>
    obtain rfl : b1 = false := by simpa using h
    exact ⟨[], false, by simp, Ev.bind e1 (Ev.ite_neg (by simp) (Ev.now _)), Ev.bind hE (Ev.ite_neg (by simp) (Ev.now _))⟩
  subst h
  obtain ⟨t, ht, rfl⟩ := hx rfl
  obtain ⟨htree, hw, hn, hd⟩ := tree_of l ht
  have hsize : t.size ≤ 150 := by
    have h3 := ht.2.2.1.span.1
    have h2 := ht.2.1
    omega
  obtain ⟨f1, f2⟩ := fr_spec t 0 (List.replicate 100 false) hw hn (by omega) (by omega)
  have g1 := fr_impl t 0 [] hw hn (by omega) (by omega)
  have hf := free_eq t hn
  refine ⟨Lib.compact (sorted (fvs t 0)), true, ?_, ?_, ?_⟩
  · have hc : (Lib.compact (sorted (fvs t 0))).length ≤ (sorted (fvs t 0)).length := by
      unfold Lib.compact Lib.compactUpTo
      rw [List.length_map]
      refine Nat.le_trans (List.length_filter_le _ _) ?_
      simp
    have h2 : (sorted (fvs t 0)).length = (fvs t 0).length := List.length_mergeSort _
    have := fvs_len t 0
    omega
  · refine Ev.bind e1 (Ev.ite_pos rfl (Ev.bind htree ?_))
    show Ev (fun k => if Free90.inT ⟨(toL t).f0, (toL t).f1, (toL t).f2⟩ 0 100 = true then some (Free90.listed 0 (Free90.frT ⟨(toL t).f0, (toL t).f1, (toL t).f2⟩ 0 (List.replicate 100 false)), true) else none) _
    rw [toL_eta, f1, hf]
    exact Ev.ite_pos f2 (Ev.now _)
  · refine Ev.bind hE (Ev.ite_pos rfl ?_)
    have hi : impl_term_freeIn.f (toS t).f0 (toS t).f1 (toS t).f2 = some (Lib.compact (sorted (fvs t 0))) := by
      unfold impl_term_freeIn.f
      rw [toS_eta, sz_impl, if_pos (by omega), g1, List.nil_append]
    exact Ev.bind (Ev.const hi) (Ev.now _)

theorem markTerms (l : List S62) (hl : l.length ≤ 2000000) : ∃ y, Ev (fun k => laws_markTermS.f k l 1) (1 + 3 * (l.length : Int), y) := by
  have key : ∀ (d i : Nat) (x : List S62), i + d = x.length → x.length = l.length → ∃ y, Ev (fun k => laws_markTermS.l0 k x (1 + 3 * (i : Int)) i) (1 + 3 * (l.length : Int), y) := by
    intro d
    induction d with
    | zero =>
      intro i x hi hx
      refine ⟨x, Ev.step (f := fun _ => some (1 + 3 * (i : Int), x)) (fun k => ?_) (Ev.of_eq (Ev.now _) ?_)⟩
      · simp only [laws_markTermS.l0]
        rw [if_neg (by omega)]
      · rw [show i = l.length by omega]
    | succ d ih =>
      intro i x hi hx
      have w1 : wrap64 (1 + 3 * (i : Int) + 1) = 1 + 3 * (i : Int) + 1 := w64 (by omega) (by omega)
      have w2 : wrap64 (1 + 3 * (i : Int) + 1 + 1) = 1 + 3 * (i : Int) + 2 := by rw [w64 (by omega) (by omega)]; omega
      have w3 : wrap64 (1 + 3 * (i : Int) + 2 + 1) = 1 + 3 * ((i + 1 : Nat) : Int) := by rw [w64 (by omega) (by omega)]; omega
      have st : ∃ x' : List S62, x'.length = x.length ∧ ∀ k, laws_markTermS.l0 (k + 1) x (1 + 3 * (i : Int)) i = laws_markTermS.l0 k x' (1 + 3 * ((i + 1 : Nat) : Int)) ((i + 1 : Nat) : Int) := by
        let y1 : List S62 := x.set i ⟨1 + 3 * (i : Int), (rd_T62 x i).f1, (rd_T62 x i).f2⟩
        let y2 : List S62 := y1.set i ⟨(rd_T62 y1 i).f0, 1 + 3 * (i : Int) + 1, (rd_T62 y1 i).f2⟩
        let y3 : List S62 := y2.set i ⟨(rd_T62 y2 i).f0, (rd_T62 y2 i).f1, 1 + 3 * (i : Int) + 2⟩
        refine ⟨y3, by simp [y3, y2, y1], fun k => ?_⟩
        simp only [laws_markTermS.l0, w1, w2, w3, Option.bind_some, Int.toNat_natCast]
        rw [if_pos (by omega), if_pos (by omega), next i (n := x.length) (by omega) (by omega)]
      obtain ⟨x', hx', st⟩ := st
      obtain ⟨y, hy⟩ := ih (i + 1) x' (by omega) (by omega)
      exact ⟨y, Ev.step st hy⟩
  obtain ⟨y, hy⟩ := key l.length 0 l (by omega) rfl
  exact ⟨y, hy⟩
end Go.Proofs.Ytcjhhdecckcibaa.TermL

namespace Go.Proofs.Ytcjhhdecckcibaa.IntL
open Go.RowKit Go.Proofs.Ytcjhhdecckcibaa.G Go.Proofs.Ytcjhhdecckcibaa.EvL Go.Proofs.YtcjhhdecckcibaaW.PrintWords Go.Proofs.YtcjhhdecckcibaaW.PrintLast
set_option linter.unusedVariables false

theorem rdI (l : List Int) (i : Nat) : rd l (i : Int) = l.getD i 0 := by unfold rd; rw [Int.toNat_natCast]
theorem next (i : Nat) {n : Nat} (h : i < n) (hn : n ≤ 9223372036854775807) : wrap64 ((i : Int) + 1) = ((i + 1 : Nat) : Int) := by rw [w64 (by omega) (by omega)]; omega

theorem eqInts (a : List Int) (ha : a.length ≤ 9223372036854775807) : Ev (fun k => laws_eqIntS.f k a a) true := by
  unfold laws_eqIntS.f
  refine Ev.ite_pos rfl ?_
  refine Ev.of_eq (ev_all (fun k i => laws_eqIntS.l0 k a a i) a.length (fun _ => true) ?_ ?_ a.length 0 (by omega)) (by simp)
  · intro k i hi
    simp only [laws_eqIntS.l0]
    rw [if_pos (by omega), if_pos (by omega), if_pos (by omega)]
    simp only [if_true]
    rw [next i hi ha]
  · intro k
    simp only [laws_eqIntS.l0]
    rw [if_neg (by omega)]

def markI (l : List Int) (q : Int) : List Int := (List.range l.length).map fun (j : Nat) => q + (j : Int)

theorem markInts_from (n : Nat) (hn : n ≤ 2000000) : ∀ (d i : Nat) (l : List Int) (q : Int), i + d = n → l.length = n → 0 ≤ q → q ≤ 100000000 →
    Ev (fun k => laws_markIntS.l0 k l (q + (i : Int)) i) (q + (n : Int), l.take i ++ (List.range d).map fun (j : Nat) => q + ((i + j : Nat) : Int)) := by
  intro d
  induction d with
  | zero =>
    intro i l q hi hl h0 h1
    obtain rfl : i = n := by omega
    refine Ev.succ (Ev.congr (fun k => ?_) (Ev.now _))
    simp only [laws_markIntS.l0]
    rw [if_neg (by omega), List.range_zero, List.map_nil, List.append_nil, List.take_of_length_le (by omega)]
  | succ d ih =>
    intro i l q hi hl h0 h1
    refine Ev.step (f := fun k => laws_markIntS.l0 k (l.set i (q + (i : Int))) (q + ((i + 1 : Nat) : Int)) ((i + 1 : Nat) : Int)) (fun k => ?_) ?_
    · simp only [laws_markIntS.l0]
      rw [if_pos (by omega), if_pos (by omega), next i (n := n) (by omega) (by omega), w64 (by omega) (by omega), Int.toNat_natCast, show q + (i : Int) + 1 = q + ((i + 1 : Nat) : Int) by omega]
    · refine Ev.of_eq (ih (i + 1) (l.set i (q + (i : Int))) q (by omega) (by simpa using hl) h0 h1) ?_
      have e : (l.set i (q + (i : Int))).take (i + 1) = l.take i ++ [q + (i : Int)] := by
        rw [List.take_succ_eq_append_getElem (by simp; omega)]
        simp [List.take_set_of_le]
      rw [e, List.append_assoc, List.range_succ_eq_map, List.map_cons, List.map_map, Nat.add_zero, List.singleton_append]
      congr 2
      congr 1
      apply List.map_congr_left
      intro j _
      show q + ((i + 1 + j : Nat) : Int) = q + ((i + (j + 1) : Nat) : Int)
      congr 2; omega

theorem markInts (l : List Int) (q : Int) (hl : l.length ≤ 2000000) (h0 : 0 ≤ q) (h1 : q ≤ 100000000) : Ev (fun k => laws_markIntS.f k l q) (q + (l.length : Int), markI l q) := by
  unfold laws_markIntS.f markI
  have := markInts_from l.length hl l.length 0 l q (by omega) rfl h0 h1
  simp only [Nat.zero_add, List.take_zero, List.nil_append] at this
  have e : q + ((0 : Nat) : Int) = q := by omega
  rw [e] at this
  exact this

theorem heldInts (l : List Int) (q : Int) (hl : l.length ≤ 2000000) (h0 : 0 ≤ q) (h1 : q ≤ 100000000) : Ev (fun k => laws_heldIntS.f k (markI l q) q) (q + (l.length : Int)) := by
  unfold laws_heldIntS.f
  have hlen : (markI l q).length = l.length := by unfold markI; simp
  have key : ∀ (d i : Nat), i + d = l.length → Ev (fun k => laws_heldIntS.l0 k (markI l q) (q + (i : Int)) i) (q + (l.length : Int)) := by
    intro d
    induction d with
    | zero =>
      intro i hi
      refine Ev.succ (Ev.congr (fun k => ?_) (Ev.now _))
      simp only [laws_heldIntS.l0, hlen]
      rw [if_neg (by omega), show i = l.length by omega]
    | succ d ih =>
      intro i hi
      have e : rd (markI l q) (i : Int) = q + (i : Int) := by
        rw [rdI]; unfold markI
        rw [List.getD_eq_getElem?_getD, List.getElem?_map, List.getElem?_range (by omega)]; rfl
      refine Ev.step (f := fun k => laws_heldIntS.l0 k (markI l q) (q + ((i + 1 : Nat) : Int)) ((i + 1 : Nat) : Int)) (fun k => ?_) (ih (i + 1) (by omega))
      simp only [laws_heldIntS.l0, hlen, e]
      rw [if_pos (by omega), if_pos (by omega), next i (n := l.length) (by omega) (by omega), w64 (by omega) (by omega), show q + (i : Int) + 1 = q + ((i + 1 : Nat) : Int) by omega]
      rw [if_pos trivial]
  have := key l.length 0 (by omega)
  have e : q + ((0 : Nat) : Int) = q := by omega
  rw [e] at this
  exact this
end Go.Proofs.Ytcjhhdecckcibaa.IntL

namespace Go.Proofs.Ytcjhhdecckcibaa.Pure
open Go.RowKit Go.Proofs.Ytcjhhdecckcibaa.G Go.Proofs.Ytcjhhdecckcibaa.EvL Go.Proofs.Ytcjhhdecckcibaa.TermL Go.Proofs.Ytcjhhdecckcibaa.IntL Go.Proofs.YtcjhhdecckcibaaW.PrintWords Go.Proofs.YtcjhhdecckcibaaW.PrintLast

theorem FnExactFreeIn : laws_FnExactFreeIn.Pure := by
  intro l hl
  obtain ⟨t, ht, hs⟩ := sizes l hl.1
  refine Ev.rounds ?_
  unfold laws_FnExactFreeIn.f
  rw [ht]
  simp only [Option.bind_some]
  by_cases h : t < 0
  · exact Ev.ite_pos h (Ev.now _)
  have hl1 := hs h
  have th := toTerms l hl1
  have hcl : (l.map conv).length ≤ 1048576 := by rw [List.length_map]; omega
  obtain ⟨o, b, hlen, hsp, him⟩ := freeBoth (l.map conv) (by omega)
  obtain ⟨y, hm⟩ := markTerms (l.map conv) (by omega)
  have heq := eqInts o (by omega)
  have hfl : (b != b) = false := by simp
  have hml : (markI o 1).length = o.length := by unfold markI; simp
  refine Ev.ite_neg h (Ev.bind th (Ev.bind hsp (Ev.bind th (Ev.bind him (Ev.bind heq (Ev.ite_pos rfl (Ev.succ ?_)))))))
  simp only [laws_FnExactFreeIn.j0]
  refine Ev.ite_neg (by rw [hfl]; decide) (Ev.bind th (Ev.bind (eqTerms _ (by omega)) (Ev.ite_pos rfl (Ev.bind hm ?_))))
  refine Ev.ite_neg (by show ¬ (1 + 3 * ((l.map conv).length : Int) < 0); omega) (Ev.bind heq (Ev.ite_pos rfl (Ev.succ ?_)))
  simp only [laws_FnExactFreeIn.j1]
  refine Ev.ite_neg (by rw [hfl]; decide) (Ev.bind (markInts o 1 (by omega) (by omega) (by omega)) (Ev.bind (heldInts o 1 (by omega) (by omega) (by omega)) ?_))
  refine Ev.ite_neg (by omega) (Ev.ite_pos rfl (Ev.bind th (Ev.bind him (Ev.bind heq (Ev.ite_pos rfl (Ev.succ ?_))))))
  simp only [laws_FnExactFreeIn.j2]
  refine Ev.ite_neg (by rw [hfl]; decide) (Ev.bind (heldInts o 1 (by omega) (by omega) (by omega)) (Ev.ite_neg (by omega) (Ev.ite_pos rfl (Ev.now _))))

end Go.Proofs.Ytcjhhdecckcibaa.Pure

namespace Go.Proofs.Ytcjhhdecckcibaa.Open
open Go.RowKit Go.Proofs.YtcjhhdecckcibaaW.PrintWords
open Go.WideShapes
set_option linter.unusedVariables false

def Opens {α : Type} (H : Type) (enc : TypeId × Value → H) (P : Program) (t : TypeId) (d : Kd α) (good : α → Prop) : Prop :=
  ∀ (w : World) (base : Nat) (spare : Nat → Bool) (held : Bool) (fuel : Nat) (cs : List Value) (x : DataW H × List MemPlace),
    DataW.trod enc P w base spare held fuel t cs = some x → ∃ v, d.K w v cs ∧ good v

section
variable {H : Type} {enc : TypeId × Value → H} {P : Program}

theorem opens_int {t : TypeId} {k : IntKind} (ht : P.underlying t = some (.int k)) : Opens H enc P t (Kd.int k) (fun n => (Lit.int k n).wf = true) := by
  intro w base spare held fuel cs x h
  obtain ⟨n, rfl, _, hw⟩ := DataW.trod_int ht h
  exact ⟨n, rfl, hw⟩

theorem choose_list {α : Type} (p : Nat → α → Prop) : ∀ n : Nat, (∀ i, i < n → ∃ a, p i a) → ∃ l : List α, l.length = n ∧ ∀ i a, l[i]? = some a → p i a
  | 0, _ => ⟨[], rfl, fun i a h => by simp at h⟩
  | n + 1, h => by
    obtain ⟨l, hl, hp⟩ := choose_list p n (fun i hi => h i (by omega))
    obtain ⟨a, ha⟩ := h n (by omega)
    refine ⟨l ++ [a], by simp [hl], fun i b hb => ?_⟩
    by_cases hi : i < n
    · exact hp i b (by rwa [List.getElem?_append_left (by omega)] at hb)
    · rw [List.getElem?_append_right (by omega)] at hb
      have : i - l.length = 0 := by
        by_cases h0 : i - l.length = 0
        · exact h0
        · rw [List.getElem?_eq_none (by simp; omega)] at hb; simp at hb
      rw [this] at hb
      obtain rfl : a = b := by simpa using hb
      obtain rfl : i = n := by omega
      exact ha

theorem opens_slice {α : Type} {t e : TypeId} {d : Kd α} {good : α → Prop} (ht : P.underlying t = some (.slice e)) (he : Opens H enc P e d good) (hc : P.cellsOf e = d.sz) :
    Opens H enc P t (Kd.slice e d) (fun l => l.length ≤ 9223372036854775807 ∧ ∀ x ∈ l, good x) := by
  intro w base spare held fuel cs x h
  rcases DataW.trod_slice ht h with ⟨rfl, _⟩ | ⟨a, len, cap, elems, rest, n, _, rfl, _, hb, hl, hm, hel, hg, _, _⟩
  · exact ⟨[], ⟨none, 0, rfl, Nat.le_refl _, ⟨rfl, by simp, fun h => by simp at h⟩⟩, by simp, by simp⟩
  · have hm' : cap ≤ 9223372036854775807 := hm
    have key : ∀ i, i < len → ∃ v : α, good v ∧ ∃ c : List Value, c.length = d.sz ∧ d.K w v c ∧ ∀ j u, c[j]? = some u → w.cell? (a.add (i * d.sz + j)) = some u := by
      intro i hi
      have hgi := hg i hi
      have hsome : ∃ y, elems[i]? = some y := ⟨elems[i]'(by omega), List.getElem?_eq_getElem (by omega)⟩
      obtain ⟨y, hy⟩ := hsome
      rw [hy] at hgi
      obtain ⟨c, hc1, hc2⟩ := Option.bind_eq_some_iff.mp hgi
      obtain ⟨v, hK, hgood⟩ := he w base spare held n c y hc2
      obtain ⟨_, hlen, hcell⟩ := World.cells?_some hc1
      refine ⟨v, hgood, c, d.K_len hK, hK, fun j u hu => ?_⟩
      have hj : j < c.length := by
        by_cases hj : j < c.length
        · exact hj
        · rw [List.getElem?_eq_none (by omega)] at hu; simp at hu
      have := hcell j (by omega)
      rw [Addr.add_add, hc, hu] at this
      exact this
    obtain ⟨l, hl0, hl1⟩ := choose_list (fun i v => good v ∧ ∃ c : List Value, c.length = d.sz ∧ d.K w v c ∧ ∀ j u, c[j]? = some u → w.cell? (a.add (i * d.sz + j)) = some u) len key
    refine ⟨l, ⟨some a, cap, by rw [hl0], by omega, ⟨rfl, by omega, fun _ => ⟨a, rfl, fun j p hp => (hl1 j p hp).2⟩⟩⟩, by omega, fun v hv => ?_⟩
    obtain ⟨i, hi⟩ := List.mem_iff_getElem?.mp hv
    exact (hl1 i v hi).1

def OpensF {α : Type} (H : Type) (enc : TypeId × Value → H) (P : Program) (fs : List Field) (off : Nat) (d : Kd α) (good : α → Prop) : Prop :=
  ∀ (w : World) (base : Nat) (spare : Nat → Bool) (held : Bool) (n : Nat) (cs : List Value), off + d.sz ≤ cs.length →
    (∀ f ∈ fs, ∃ y, DataW.trod enc P w base spare held n f.type ((cs.drop f.offset).take (P.cellsOf f.type)) = some y) → ∃ v, d.K w v ((cs.drop off).take d.sz) ∧ good v

theorem opensF_last {α : Type} {f : Field} {d : Kd α} {good : α → Prop} (h : Opens H enc P f.type d good) (hc : P.cellsOf f.type = d.sz) : OpensF H enc P [f] f.offset d good := by
  intro w base spare held n cs hl hf
  obtain ⟨y, hy⟩ := hf f (by simp)
  rw [hc] at hy
  exact h w base spare held n _ y hy

theorem opensF_cons {α β : Type} {f : Field} {fs : List Field} {d : Kd α} {e : Kd β} {g1 : α → Prop} {g2 : β → Prop} (h : Opens H enc P f.type d g1) (hc : P.cellsOf f.type = d.sz)
    (hs : OpensF H enc P fs (f.offset + d.sz) e g2) : OpensF H enc P (f :: fs) f.offset (Kd.pair d e) (fun x => g1 x.1 ∧ g2 x.2) := by
  intro w base spare held n cs hl hf
  have hl' : f.offset + (d.sz + e.sz) ≤ cs.length := hl
  obtain ⟨v, hv, hgv⟩ := opensF_last h hc w base spare held n cs (by omega) (fun f' hf' => hf f' (by simp at hf' ⊢; exact .inl hf'))
  obtain ⟨u, hu, hgu⟩ := hs w base spare held n cs (by omega) (fun f' hf' => hf f' (by simp; exact .inr hf'))
  refine ⟨(v, u), ⟨_, _, ?_, hv, hu⟩, hgv, hgu⟩
  show (cs.drop f.offset).take (d.sz + e.sz) = _
  rw [List.take_add, List.drop_drop]

theorem opens_struct {α β : Type} {t : TypeId} {fs : Array Field} {d : Kd α} {good : α → Prop} (f : β → α) (g : α → β) (hfg : ∀ x, f (g x) = x) (ht : P.underlying t = some (.struct fs))
    (hc : P.cellsOf t = d.sz) (h : OpensF H enc P fs.toList 0 d good) : Opens H enc P t (Kd.iso d f) (fun x => good (f x)) := by
  intro w base spare held fuel cs x hx
  obtain ⟨xs, n, _, _, hl, hxs, hf⟩ := DataW.trod_struct ht hx
  obtain ⟨v, hv, hg⟩ := h w base spare held n cs (by omega) (fun f' hf' => by
    obtain ⟨i, hi⟩ := List.mem_iff_getElem?.mp hf'
    have hlt : i < fs.size := by
      by_cases hlt : i < fs.size
      · exact hlt
      · rw [List.getElem?_eq_none (by simp; omega)] at hi; simp at hi
    refine ⟨xs[i]'(by omega), ?_⟩
    rw [hf i f' (by simpa using hi), List.getElem?_eq_getElem (by omega)])
  refine ⟨g v, ?_, by show good (f (g v)); rw [hfg]; exact hg⟩
  rw [List.drop_zero, List.take_of_length_le (by omega)] at hv
  show d.K w (f (g v)) cs
  rw [hfg]
  exact hv

theorem opens_imp {α : Type} {t : TypeId} {d : Kd α} {g1 g2 : α → Prop} (h : Opens H enc P t d g1) (hg : ∀ x, g1 x → g2 x) : Opens H enc P t d g2 := by
  intro w base spare held fuel cs x hx
  obtain ⟨v, h1, h2⟩ := h w base spare held fuel cs x hx
  exact ⟨v, h1, hg v h2⟩

theorem slice_in {α : Type} {t e : TypeId} {d : Kd α} {good : List α → Prop} (ht : P.underlying t = some (.slice e)) (hs : Opens H enc P t (Kd.slice e d) good) {W : World} {r : Reach} {b base : Nat} {spare : Nat → Bool} {held : Bool} {v : Value} {dd : DataW H} {p : List MemPlace}
    (hv : Value.okWide P W r b t v) (h : DataW.Trod enc P W base spare held t v dd p) : ∃ (A : Option Addr) (l : List α) (c : Nat), v = .slice A l.length c ∧ l.length ≤ c ∧ d.C W A l.length l ∧ good l := by
  obtain ⟨a, len, cap, rfl⟩ := okWide_slice ht hv
  obtain ⟨fuel, hf⟩ := h
  obtain ⟨l, ⟨A, c, hcs, hlc, hC⟩, hg⟩ := hs W base spare held fuel _ _ hf
  simp [Value.cells] at hcs
  obtain ⟨rfl, rfl, rfl⟩ := hcs
  exact ⟨a, l, cap, rfl, hlc, hC, hg⟩

end
end Go.Proofs.Ytcjhhdecckcibaa.Open

namespace Go.Proofs.Ytcjhhdecckcibaa.fnExactFreeIn
open Go.ChangeShapes Go.WideShapes Go.ChangeAt Go.RowKit Go.Proofs.Ytcjhhdecckcibaa.Open Go.Proofs.Ytcjhhdecckcibaa.G Go.Proofs.YtcjhhdecckcibaaW.PrintWords
open Go.ChangeMaps (open_string shut_string)
set_option linter.unusedVariables false
theorem own : ownKnob Try.prog.godebug = none := by kernel_rfl
theorem laidOut : laidOutB Try.prog = true := by kernel_rfl
section
variable {H : Type} {enc : TypeId × Value → H}
theorem openT65 : Opens H enc Try.prog 65 k65 (fun x => ((Lit.int .i64 x.f0).wf = true ∧ (Lit.int .i64 x.f1).wf = true ∧ (Lit.int .i64 x.f2).wf = true)) :=
  opens_imp (opens_struct (fun x : S65 => (x.f0, x.f1, x.f2)) (fun y => (⟨y.1, y.2.1, y.2.2⟩ : S65)) (fun _ => rfl) Try.underlying65 (by kernel_rfl) (opensF_cons (opens_int Try.underlying3) (by kernel_rfl) (opensF_cons (opens_int Try.underlying3) (by kernel_rfl) (opensF_last (opens_int Try.underlying3) (by kernel_rfl))))) (fun x h => h)
end
set_option maxRecDepth 100000 in
theorem lifted (os : Os) (started : os.Started) (H : Type) (enc : TypeId × Value → H) :
    ReturnsInHanded {} Try.checked os 10 .any (Rows.fnExactFreeInSpec.pre6 enc Try.prog Try.f10 Rows.fnExactFreeInRow.domain false) (Rows.fnExactFreeInSpec.post enc Try.prog Try.f10 false true false false) := by
  refine returnsInHanded_of_change_sized (C := Try.checked) own started (by kernel_rfl) Try.func10
    (ChangeSpec.witness6 (enc := enc) (C := Try.checked) false ⟨#[], #[.slice none 0 0], []⟩ 8 (by kernel_rfl) (by kernel_rfl) (by kernel_rfl) (by kernel_rfl)) ?_
  intro W base args ds gs before hval0 hW hcnd hsz0 _
  have hsz : (DataW.weightsEach Try.prog (Try.f10.params.toList ++ Rows.fnExactFreeInSpec.plain.varTypes Try.prog) (ds ++ gs)).all (· ≤ reachBytes) = true := hsz0
  have hval : ∀ (j : Nat) t v, Try.f10.params[j]? = some t → args[j]? = some v → Value.okWide Try.prog W .any base t v := hval0
  have hW' := hW
  obtain ⟨p, q, hA0, hV, rfl, hfz, hnd⟩ := hW
  have hA : DataW.TrodAll enc Try.prog W 0 (fun _ => true) true Try.f10.params.toList args.toList ds p := hA0
  rw [Try.params10] at hA hval hsz
  obtain ⟨v0, vs0, d0, ds0, p0, q0, hargs, rfl, rfl, h0, r0⟩ := trodAll_cons hA
  obtain ⟨rfl, rfl, rfl⟩ := trodAll_nil r0
  obtain rfl : args = #[v0] := by cases args; simp_all
  obtain ⟨rfl, rfl⟩ := trodVars_none hV
  have k0 := h0
  have lt0 : ∀ x ∈ p0, x.block < W.heap.size := by obtain ⟨m, hm⟩ := k0; exact DataW.trod_lt m _ _ _ hm
  obtain ⟨A0, l0, c0, rfl, hc0, hr0, hg0⟩ := slice_in Try.underlying29 (opens_slice Try.underlying29 openT65 (by kernel_rfl)) (hval 0 29 v0 rfl rfl) h0
  clear hA0 hval0 hsz0 hsz
  obtain ⟨k_, hk_⟩ := Pure.FnExactFreeIn l0 hg0
  refine (laws_FnExactFreeIn.calls k_ A0 c0 l0 true W hr0 hc0 hk_).mono fun e W' ⟨he, bel0⟩ => ?_
  have bel : Below W.heap.size W W' := bel0
  subst he
  exact ⟨_, rfl, _, _, _, [], _, [], hW', trodAll_mk1 (shut_bool Try.underlying4 _), (trodAll_cons_mk (Below.trod laidOut (by kernel_rfl) (of_decide_eq_true (by kernel_rfl)) k0 bel lt0) trodAll_mk0), rfl, bel.frame _, fun h => by cases h⟩
theorem over : Rows.fnExactFreeInRow.holds Try.pinned (OpenSpec.ofChange Rows.fnExactFreeInSpec) :=
  OpenClaim.holds_of_wide 10 Try.f10 rfl rfl rfl rfl rfl rfl rfl ⟨rfl, rfl, rfl, rfl, rfl⟩ rfl rfl rfl rfl rfl (by kernel_rfl) Try.func10 (by kernel_rfl)
    (of_decide_eq_true (by kernel_rfl)) (by unfold Func.isWrapper; first | (rw [if_pos (by decide +kernel)]; kernel_rfl) | (rw [if_neg (by decide +kernel)]; exact ⟨rfl, rfl⟩))
    (fun os started H enc _ => lifted os started H enc)
theorem proved : Rows.FnExactFreeInSaid := over
#print axioms proved
end Go.Proofs.Ytcjhhdecckcibaa.fnExactFreeIn
namespace Go.Proofs.Ytcjhhdecckcibaa
theorem fnExactFreeIn_holds : Rows.FnExactFreeInSaid := fnExactFreeIn.proved
end Go.Proofs.Ytcjhhdecckcibaa
