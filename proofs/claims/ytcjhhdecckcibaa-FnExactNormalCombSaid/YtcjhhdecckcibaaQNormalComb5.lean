/- Part 5 of 5 of the proof that the law FnExactNormalCombSaid holds: for every input that can be read the call returns true and leaves its arguments as they were; no condition but those each theorem names. -/
import Derived.ChangeArms
import Derived.WideShapes
import Derived.DataElems
import Derived.DataReads
import Derived.Test.YtcjhhdecckcibaaRows
import Derived.WalkKit
import Derived.ProofKit
import Derived.OpenShut
import Derived.ShutString
import Derived.ChangeOld
import Derived.Below
import Derived.SizedLaws
import Derived.Test.YtcjhhdecckcibaaQNormalCombW1
import Derived.Test.YtcjhhdecckcibaaQNormalComb1
import Derived.Test.YtcjhhdecckcibaaQNormalComb2
import Derived.Test.YtcjhhdecckcibaaQNormalComb3
import Derived.Test.YtcjhhdecckcibaaQNormalComb4
namespace Go.Proofs.Ytcjhhdecckcibaa.StepL
open Go.RowKit Go.Proofs.Ytcjhhdecckcibaa.G Go.Proofs.Ytcjhhdecckcibaa.EvL Go.Proofs.Ytcjhhdecckcibaa.TreeM Go.Proofs.Ytcjhhdecckcibaa.CombL Go.Proofs.YtcjhhdecckcibaaW.PrintWords Go.Proofs.YtcjhhdecckcibaaW.PrintLast
set_option linter.unusedVariables false
set_option linter.unusedSimpArgs false

def app (a b : Tr) : Tr := .bin 2 0 a b
def headT : Tr → Option Tr
  | .bin _ _ (.leaf k _) c => if k = 5 then some c else none
  | .bin _ _ (.bin _ _ (.leaf k _) b) c => if k = 4 then some b else none
  | .bin _ _ (.bin _ _ (.bin _ _ (.leaf k _) a) b) c => if k = 3 then some (app (app a c) (app b c)) else none
  | _ => none
def stepT : Tr → Option Tr
  | .leaf _ _ => none
  | .un _ _ _ => none
  | .bin k n a b => match headT (.bin k n a b) with
    | some x => some x
    | none => match stepT a with
      | some a' => some (.bin k n a' b)
      | none => match stepT b with
        | some b' => some (.bin k n a b')
        | none => none

theorem leaf_kind {k n : Int} (h : (Tr.leaf k n).wf ar) : k ≠ 2 := want_zero h.2
theorem bin_kind {k n : Int} {a b : Tr} (h : (Tr.bin k n a b).wf ar) : k = 2 := want_of h.1.2
theorem no_un {k n : Int} {a : Tr} (h : (Tr.un k n a).wf ar) : False := want_one h.1.2
theorem app_wf {a b : Tr} (ha : a.wf ar) (hb : b.wf ar) : (app a b).wf ar := ⟨⟨by decide, rfl⟩, ha, hb⟩

theorem headT_wf : ∀ (t : Tr), t.wf ar → ∀ (x : Tr), headT t = some x → x.wf ar
  | .leaf _ _, _, x, hx => by simp [headT] at hx
  | .un _ _ _, h, x, hx => (no_un h).elim
  | .bin _ _ (.leaf k _) c, h, x, hx => by
    by_cases hk : k = 5
    · simp only [headT, if_pos hk, Option.some.injEq] at hx; rw [← hx]; exact h.2.2
    · simp [headT, if_neg hk] at hx
  | .bin _ _ (.un _ _ _) c, h, x, hx => (no_un h.2.1).elim
  | .bin _ _ (.bin _ _ (.leaf k _) b) c, h, x, hx => by
    by_cases hk : k = 4
    · simp only [headT, if_pos hk, Option.some.injEq] at hx; rw [← hx]; exact h.2.1.2.2
    · simp [headT, if_neg hk] at hx
  | .bin _ _ (.bin _ _ (.un _ _ _) b) c, h, x, hx => (no_un h.2.1.2.1).elim
  | .bin _ _ (.bin _ _ (.bin _ _ (.leaf k _) a) b) c, h, x, hx => by
    by_cases hk : k = 3
    · simp only [headT, if_pos hk, Option.some.injEq] at hx; rw [← hx]
      exact app_wf (app_wf h.2.1.2.1.2.2 h.2.2) (app_wf h.2.1.2.2 h.2.2)
    · simp [headT, if_neg hk] at hx
  | .bin _ _ (.bin _ _ (.bin _ _ (.un _ _ _) a) b) c, h, x, hx => (no_un h.2.1.2.1.2.1).elim
  | .bin _ _ (.bin _ _ (.bin _ _ (.bin _ _ _ _) a) b) c, h, x, hx => by simp [headT] at hx
theorem headT_size : ∀ (t x : Tr), headT t = some x → x.size ≤ 2 * t.size
  | .leaf _ _, x, hx => by simp [headT] at hx
  | .un _ _ _, x, hx => by simp [headT] at hx
  | .bin _ _ (.leaf k _) c, x, hx => by
    by_cases hk : k = 5
    · simp only [headT, if_pos hk, Option.some.injEq] at hx; rw [← hx]; simp only [Tr.size]; omega
    · simp [headT, if_neg hk] at hx
  | .bin _ _ (.un _ _ _) c, x, hx => by simp [headT] at hx
  | .bin _ _ (.bin _ _ (.leaf k _) b) c, x, hx => by
    by_cases hk : k = 4
    · simp only [headT, if_pos hk, Option.some.injEq] at hx; rw [← hx]; simp only [Tr.size]; omega
    · simp [headT, if_neg hk] at hx
  | .bin _ _ (.bin _ _ (.un _ _ _) b) c, x, hx => by simp [headT] at hx
  | .bin _ _ (.bin _ _ (.bin _ _ (.leaf k _) a) b) c, x, hx => by
    by_cases hk : k = 3
    · simp only [headT, if_pos hk, Option.some.injEq] at hx; rw [← hx]; simp only [Tr.size, app]; omega
    · simp [headT, if_neg hk] at hx
  | .bin _ _ (.bin _ _ (.bin _ _ (.un _ _ _) a) b) c, x, hx => by simp [headT] at hx
  | .bin _ _ (.bin _ _ (.bin _ _ (.bin _ _ _ _) a) b) c, x, hx => by simp [headT] at hx

theorem stepT_wf : ∀ (t : Tr), t.wf ar → ∀ (x : Tr), stepT t = some x → x.wf ar
  | .leaf _ _, _, x, hx => by simp [stepT] at hx
  | .un _ _ _, h, x, hx => (no_un h).elim
  | .bin k n a b, h, x, hx => by
    rw [stepT] at hx
    cases h1 : headT (.bin k n a b) with
    | some y => rw [h1] at hx; simp only [Option.some.injEq] at hx; rw [← hx]; exact headT_wf _ h y h1
    | none =>
      rw [h1] at hx
      cases h2 : stepT a with
      | some y => rw [h2] at hx; simp only [Option.some.injEq] at hx; rw [← hx]; exact ⟨h.1, stepT_wf a h.2.1 y h2, h.2.2⟩
      | none =>
        rw [h2] at hx
        cases h3 : stepT b with
        | some y => rw [h3] at hx; simp only [Option.some.injEq] at hx; rw [← hx]; exact ⟨h.1, h.2.1, stepT_wf b h.2.2 y h3⟩
        | none => rw [h3] at hx; simp at hx
theorem stepT_size : ∀ (t x : Tr), stepT t = some x → x.size ≤ 2 * t.size
  | .leaf _ _, x, hx => by simp [stepT] at hx
  | .un _ _ _, x, hx => by simp [stepT] at hx
  | .bin k n a b, x, hx => by
    rw [stepT] at hx
    cases h1 : headT (.bin k n a b) with
    | some y => rw [h1] at hx; simp only [Option.some.injEq] at hx; rw [← hx]; exact headT_size _ y h1
    | none =>
      rw [h1] at hx
      cases h2 : stepT a with
      | some y => rw [h2] at hx; simp only [Option.some.injEq] at hx; rw [← hx]; have := stepT_size a y h2; simp only [Tr.size]; omega
      | none =>
        rw [h2] at hx
        cases h3 : stepT b with
        | some y => rw [h3] at hx; simp only [Option.some.injEq] at hx; rw [← hx]; have := stepT_size b y h3; simp only [Tr.size]; omega
        | none => rw [h3] at hx; simp at hx

def outL : Option Tr → Tr → Int × Int × List S77 × Bool
  | some x, _ => ((toL x).f0, (toL x).f1, (toL x).f2, true)
  | none, t => ((toL t).f0, (toL t).f1, (toL t).f2, false)
theorem rL0 (x y : S77) : rd_T77 [x, y] 0 = x := rfl
theorem rL1 (x y : S77) : rd_T77 [x, y] 1 = y := rfl
theorem len2 {α : Type} (x y : α) : (([x, y] : List α).length : Int) = 2 := rfl
theorem head_spec (t : Tr) (h : t.wf ar) : spec_ldHead.f (toL t).f0 (toL t).f1 (toL t).f2 = some (outL (headT t) t) := by
  cases t with
  | leaf k n => have := leaf_kind h; simp [spec_ldHead.f, toL, headT, outL, this]
  | un k n a => exact (no_un h).elim
  | bin k n f c =>
    obtain rfl := bin_kind h
    have hf := h.2.1
    cases f with
    | leaf k1 n1 =>
      have h2 := leaf_kind hf
      by_cases h5 : k1 = 5
      · simp [spec_ldHead.f, toL, headT, outL, rL0, rL1, len2, h5]
      · simp [spec_ldHead.f, toL, headT, outL, rL0, rL1, len2, h5, h2]
    | un k1 n1 a => exact (no_un hf).elim
    | bin k1 n1 g b =>
      obtain rfl := bin_kind hf
      have hg := hf.2.1
      cases g with
      | leaf k2 n2 =>
        have h2 := leaf_kind hg
        by_cases h4 : k2 = 4
        · simp [spec_ldHead.f, toL, headT, outL, rL0, rL1, len2, h4]
        · simp [spec_ldHead.f, toL, headT, outL, rL0, rL1, len2, h4, h2]
      | un k2 n2 a => exact (no_un hg).elim
      | bin k2 n2 q a =>
        obtain rfl := bin_kind hg
        have hq := hg.2.1
        cases q with
        | leaf k3 n3 =>
          by_cases h3 : k3 = 3
          · simp [spec_ldHead.f, spec_ldApp.f, toL, toL_eta, headT, outL, app, rL0, rL1, len2, h3]
          · simp [spec_ldHead.f, toL, headT, outL, rL0, rL1, len2, h3]
        | un k3 n3 a3 => exact (no_un hq).elim
        | bin k3 n3 a3 b3 =>
          obtain rfl := bin_kind hq
          simp [spec_ldHead.f, toL, headT, outL, rL0, rL1, len2]

theorem step_spec : ∀ (t : Tr), t.wf ar → Ev (fun k => spec_ldStep.f k (toL t).f0 (toL t).f1 (toL t).f2) (outL (stepT t) t)
  | .leaf k n, h => by
    have hh := head_spec (.leaf k n) h
    refine Ev.step (f := fun m => (spec_ldHead.f (toL (.leaf k n)).f0 (toL (.leaf k n)).f1 (toL (.leaf k n)).f2).bind fun bt => (if bt.2.2.2 = true then (some (bt.1, bt.2.1, bt.2.2.1, true)) else (spec_ldStep.l0 m false [] 0 0 k n []))) (fun m => rfl) ?_
    rw [hh]
    refine Ev.bind (Ev.const rfl) (Ev.ite_neg (by simp [outL, headT]) (Ev.step (f := fun _ => some (k, n, ([] : List S77), false)) (fun m => ?_) (Ev.now _)))
    simp only [spec_ldStep.l0]; rw [if_neg (by decide)]
  | .un k n a, h => (no_un h).elim
  | .bin k n a b, h => by
    have hh := head_spec (.bin k n a b) h
    have ia := step_spec a h.2.1
    have ib := step_spec b h.2.2
    refine Ev.step (f := fun m => (spec_ldHead.f (toL (.bin k n a b)).f0 (toL (.bin k n a b)).f1 (toL (.bin k n a b)).f2).bind fun bt => (if bt.2.2.2 = true then (some (bt.1, bt.2.1, bt.2.2.1, true)) else (spec_ldStep.l0 m false [toL a, toL b] 2 0 k n []))) (fun m => rfl) ?_
    rw [hh, stepT]
    cases h1 : headT (.bin k n a b) with
    | some x => exact Ev.bind (Ev.const rfl) (Ev.ite_pos rfl (Ev.now _))
    | none =>
      refine Ev.bind (Ev.const rfl) (Ev.ite_neg (by simp [outL]) ?_)
      have w1 : wrap64 ((0 : Int) + 1) = 1 := w64 (by decide) (by decide)
      have w2 : wrap64 ((1 : Int) + 1) = 2 := w64 (by decide) (by decide)
      have fin : ∀ (d : Bool) (acc : List S77), Ev (fun m => spec_ldStep.l0 m d [toL a, toL b] 2 2 k n acc) (k, n, acc, d) := fun d acc => Ev.step (f := fun _ => some (k, n, acc, d)) (fun m => by simp only [spec_ldStep.l0]; rw [if_neg (by decide)]) (Ev.now _)
      refine Ev.step (f := fun m => (spec_ldStep.f m (toL a).f0 (toL a).f1 (toL a).f2).bind fun bt => (spec_ldStep.l0 m bt.2.2.2 [toL a, toL b] 2 1 k n [(⟨bt.1, bt.2.1, bt.2.2.1⟩ : S77)])) (fun m => ?_) (Ev.bind ia ?_)
      · simp only [spec_ldStep.l0]; rw [if_pos (by decide), if_pos (by decide), if_pos (by simp), w1]; exact congrArg (fun F => (spec_ldStep.f m (toL a).f0 (toL a).f1 (toL a).f2).bind F) (funext fun bt => if_pos (by simp))
      cases h2 : stepT a with
      | some x =>
        refine Ev.step (f := fun m => spec_ldStep.l0 m true [toL a, toL b] 2 2 k n [toL x, toL b]) (fun m => ?_) (fin true _)
        show spec_ldStep.l0 (m + 1) true [toL a, toL b] 2 1 k n [(⟨(toL x).f0, (toL x).f1, (toL x).f2⟩ : S77)] = _
        rw [toL_eta]
        simp only [spec_ldStep.l0]; rw [if_pos (by decide), if_pos (by decide), if_pos (by simp), if_pos trivial, if_pos (by simp), w2, rL1, toL_eta]; rfl
      | none =>
        refine Ev.step (f := fun m => (spec_ldStep.f m (toL b).f0 (toL b).f1 (toL b).f2).bind fun bt => (spec_ldStep.l0 m bt.2.2.2 [toL a, toL b] 2 2 k n [toL a, (⟨bt.1, bt.2.1, bt.2.2.1⟩ : S77)])) (fun m => ?_) (Ev.bind ib ?_)
        · show spec_ldStep.l0 (m + 1) false [toL a, toL b] 2 1 k n [(⟨(toL a).f0, (toL a).f1, (toL a).f2⟩ : S77)] = _
          rw [toL_eta]
          simp only [spec_ldStep.l0]; rw [if_pos (by decide), if_pos (by decide), if_pos (by simp), w2]; exact congrArg (fun F => (spec_ldStep.f m (toL b).f0 (toL b).f1 (toL b).f2).bind F) (funext fun bt => if_pos (by simp))
        cases h3 : stepT b with
        | some x =>
          show Ev (fun m => spec_ldStep.l0 m true [toL a, toL b] 2 2 k n [toL a, (⟨(toL x).f0, (toL x).f1, (toL x).f2⟩ : S77)]) _
          rw [toL_eta]; exact fin true _
        | none =>
          show Ev (fun m => spec_ldStep.l0 m false [toL a, toL b] 2 2 k n [toL a, (⟨(toL b).f0, (toL b).f1, (toL b).f2⟩ : S77)]) _
          rw [toL_eta]; exact fin false _

def outS : Option Tr → Int × Int × List S58 × Bool
  | some x => ((toS x).f0, (toS x).f1, (toS x).f2, true)
  | none => (0, 0, [], false)
theorem rS0 (x y : S58) : rd_T58 [x, y] 0 = x := rfl
theorem rS1 (x y : S58) : rd_T58 [x, y] 1 = y := rfl
def fin3 (r : List S58) : Int × Int × List S58 × Bool := (2, 0, [⟨2, 0, [rd_T58 r 0, rd_T58 r 2]⟩, ⟨2, 0, [rd_T58 r 1, rd_T58 r 2]⟩], true)
def fin0 (r : List S58) : Int × Int × List S58 × Bool := ((rd_T58 r 0).f0, (rd_T58 r 0).f1, (rd_T58 r 0).f2, true)
theorem j3_no (r : List S58) : Ev (fun k => impl_comb_redex.j3 k r false) (0, 0, [], false) := Ev.step (f := fun _ => some (0, 0, ([] : List S58), false)) (fun k => by simp only [impl_comb_redex.j3]; rfl) (Ev.now _)
theorem etaS (x : S58) : (⟨x.f0, x.f1, x.f2⟩ : S58) = x := by cases x; rfl
theorem j3_yes (r : List S58) (h : r.length = 3) : Ev (fun k => impl_comb_redex.j3 k r true) (fin3 r) := Ev.step (f := fun _ => some (fin3 r)) (fun k => by
  simp only [impl_comb_redex.j3, impl_combApp.f, Option.bind_some, etaS]
  rw [if_pos trivial, if_pos (by rw [h]; decide), if_pos (by rw [h]; decide), if_pos (by rw [h]; decide)]; rfl) (Ev.now _)
def finR (r : List S58) (kh : Int) : Int × Int × List S58 × Bool := if kh = 5 ∧ r.length = 1 then fin0 r else if kh = 4 ∧ r.length = 2 then fin0 r else if kh = 3 ∧ r.length = 3 then fin3 r else (0, 0, [], false)
theorem len_eq (r : List S58) (n : Nat) : ((r.length : Int) == (n : Int)) = decide (r.length = n) := by
  rw [Bool.eq_iff_iff, beq_iff_eq, decide_eq_true_iff]; omega
theorem j2_ev (r : List S58) (b : Bool) (kh n : Int) (l : List S58) (hb : b = true → r.length = 2) : Ev (fun k => impl_comb_redex.j2 k r b kh n l) (if b = true then fin0 r else if kh = 3 ∧ r.length = 3 then fin3 r else (0, 0, [], false)) := by
  refine Ev.succ ?_
  simp only [impl_comb_redex.j2]
  by_cases h : b = true
  · rw [if_pos h]
    exact Ev.ite_pos h (Ev.ite_pos (by rw [hb h]; decide) (Ev.now _))
  · rw [if_neg h]
    refine Ev.ite_neg h ?_
    by_cases hk : kh = 3
    · refine Ev.ite_pos hk ?_
      rw [show ((r.length : Int) == 3) = decide (r.length = 3) from len_eq r 3]
      by_cases hl : r.length = 3
      · rw [if_pos ⟨hk, hl⟩, decide_eq_true hl]; exact j3_yes r hl
      · rw [if_neg (fun h => hl h.2), decide_eq_false hl]; exact j3_no r
    · rw [if_neg (fun h => hk h.1)]
      exact Ev.ite_neg hk (j3_no r)
theorem j1_ev (r : List S58) (b : Bool) (kh n : Int) (l : List S58) (hb : b = true → r.length = 1) : Ev (fun k => impl_comb_redex.j1 k r b kh n l) (if b = true then fin0 r else if kh = 4 ∧ r.length = 2 then fin0 r else if kh = 3 ∧ r.length = 3 then fin3 r else (0, 0, [], false)) := by
  refine Ev.succ ?_
  simp only [impl_comb_redex.j1]
  by_cases h : b = true
  · rw [if_pos h]
    exact Ev.ite_pos h (Ev.ite_pos (by rw [hb h]; decide) (Ev.now _))
  · rw [if_neg h]
    refine Ev.ite_neg h ?_
    by_cases hk : kh = 4
    · refine Ev.ite_pos hk ?_
      rw [show ((r.length : Int) == 2) = decide (r.length = 2) from len_eq r 2]
      refine Ev.of_eq (j2_ev r _ kh n l (fun h => of_decide_eq_true h)) ?_
      by_cases hl : r.length = 2
      · rw [if_pos (decide_eq_true hl), if_pos ⟨hk, hl⟩]
      · rw [if_neg (fun h => hl (of_decide_eq_true h)), if_neg (show ¬ (kh = 4 ∧ r.length = 2) from fun h => hl h.2)]
    · refine Ev.ite_neg hk ?_
      refine Ev.of_eq (j2_ev r false kh n l (fun h => by simp at h)) ?_
      rw [if_neg (by simp), if_neg (show ¬ (kh = 4 ∧ r.length = 2) from fun h => hk h.1)]
theorem end_ev (xs : List S58) (kh n : Int) (l : List S58) (hk : kh ≠ 2) : Ev (fun k => impl_comb_redex.l0 k xs kh n l) (finR xs.reverse kh) := by
  refine Ev.succ ?_
  simp only [impl_comb_redex.l0, impl_comb_91.f, Option.bind_some]
  refine Ev.ite_neg hk ?_
  unfold finR
  by_cases h5 : kh = 5
  · refine Ev.ite_pos h5 ?_
    rw [show ((xs.reverse.length : Int) == 1) = decide (xs.reverse.length = 1) from len_eq _ 1]
    refine Ev.of_eq (j1_ev _ _ kh n l (fun h => of_decide_eq_true h)) ?_
    by_cases hl : xs.reverse.length = 1
    · rw [if_pos (decide_eq_true hl), if_pos ⟨h5, hl⟩]
    · rw [if_neg (fun h => hl (of_decide_eq_true h)), if_neg (show ¬ (kh = 5 ∧ xs.reverse.length = 1) from fun h => hl h.2)]
  · refine Ev.ite_neg h5 (Ev.of_eq (j1_ev _ false kh n l (fun h => by simp at h)) ?_)
    rw [if_neg (by simp), if_neg (show ¬ (kh = 5 ∧ xs.reverse.length = 1) from fun h => h5 h.1)]
theorem more_ev (xs : List S58) (n : Int) (x y : S58) {r : Int × Int × List S58 × Bool} (hl : xs.length < 3518437208883) (h : Ev (fun k => impl_comb_redex.l0 k (xs ++ [y]) x.f0 x.f1 x.f2) r) : Ev (fun k => impl_comb_redex.l0 k xs 2 n [x, y]) r := by
  refine Ev.step (fun k => ?_) h
  simp only [impl_comb_redex.l0, rS0, rS1, len2, etaS]
  rw [if_pos trivial, if_pos (by decide), if_pos hl, if_pos (by decide)]
theorem long_ev : ∀ (t : Tr), t.wf ar → ∀ (xs : List S58), 4 ≤ xs.length → xs.length + t.size ≤ 100000 → Ev (fun k => impl_comb_redex.l0 k xs (toS t).f0 (toS t).f1 (toS t).f2) (0, 0, [], false)
  | .leaf k n, h, xs, h4, hs => by
    refine Ev.of_eq (end_ev xs k n [] (leaf_kind h)) ?_
    have hl : xs.reverse.length = xs.length := by simp
    unfold finR
    rw [if_neg (fun h => by omega), if_neg (fun h => by omega), if_neg (fun h => by omega)]
  | .un k n a, h, xs, h4, hs => (no_un h).elim
  | .bin k n a b, h, xs, h4, hs => by
    obtain rfl := bin_kind h
    have he : (Tr.bin 2 n a b).size = 1 + a.size + b.size := rfl
    exact more_ev xs n (toS a) (toS b) (by omega) (long_ev a h.2.1 _ (by simp; omega) (by simp; omega))
theorem redex_ev (t : Tr) (h : t.wf ar) (hs : t.size ≤ 5000) : Ev (fun k => impl_comb_redex.f k (toS t).f0 (toS t).f1 (toS t).f2) (outS (headT t)) := by
  show Ev (fun k => impl_comb_redex.l0 k [] (toS t).f0 (toS t).f1 (toS t).f2) _
  cases t with
  | leaf k n => exact Ev.of_eq (end_ev [] k n [] (leaf_kind h)) (by simp [finR, headT, outS])
  | un k n a => exact (no_un h).elim
  | bin k n f c =>
    obtain rfl := bin_kind h
    have hf := h.2.1
    refine more_ev [] n (toS f) (toS c) (by simp) ?_
    cases f with
    | leaf k1 n1 =>
      refine Ev.of_eq (end_ev [toS c] k1 n1 [] (leaf_kind hf)) ?_
      by_cases h5 : k1 = 5
      · simp [finR, fin0, headT, outS, rd_T58, h5]
      · simp [finR, headT, outS, h5]
    | un k1 n1 a => exact (no_un hf).elim
    | bin k1 n1 g b =>
      obtain rfl := bin_kind hf
      have hg := hf.2.1
      refine more_ev [toS c] n1 (toS g) (toS b) (by simp) ?_
      cases g with
      | leaf k2 n2 =>
        refine Ev.of_eq (end_ev [toS c, toS b] k2 n2 [] (leaf_kind hg)) ?_
        by_cases h4 : k2 = 4
        · simp [finR, fin0, headT, outS, rd_T58, h4]
        · simp [finR, headT, outS, h4]
      | un k2 n2 a => exact (no_un hg).elim
      | bin k2 n2 q a =>
        obtain rfl := bin_kind hg
        have hq := hg.2.1
        refine more_ev [toS c, toS b] n2 (toS q) (toS a) (by simp) ?_
        cases q with
        | leaf k3 n3 =>
          refine Ev.of_eq (end_ev [toS c, toS b, toS a] k3 n3 [] (leaf_kind hq)) ?_
          by_cases h3 : k3 = 3
          · simp [finR, fin3, headT, outS, app, toS, rd_T58, h3]
          · simp [finR, headT, outS, h3]
        | un k3 n3 a3 => exact (no_un hq).elim
        | bin k3 n3 a3 b3 =>
          obtain rfl := bin_kind hq
          have e1 : (Tr.bin 2 n (Tr.bin 2 n1 (Tr.bin 2 n2 (Tr.bin 2 n3 a3 b3) a) b) c).size = 1 + (1 + (1 + (1 + a3.size + b3.size) + a.size) + b.size) + c.size := rfl
          refine more_ev [toS c, toS b, toS a] n3 (toS a3) (toS b3) (by simp) ?_
          exact Ev.of_eq (long_ev a3 hq.2.1 [toS c, toS b, toS a, toS b3] (by simp) (by simp; omega)) (by simp [headT, outS])

theorem step_impl : ∀ (t : Tr), t.wf ar → t.size ≤ 5000 → Ev (fun k => impl_comb_step.f k (toS t).f0 (toS t).f1 (toS t).f2) (outS (stepT t))
  | .leaf k n, h, hs => by
    have hh := redex_ev (.leaf k n) h hs
    refine Ev.step (f := fun m => (impl_comb_redex.f m (toS (.leaf k n)).f0 (toS (.leaf k n)).f1 (toS (.leaf k n)).f2).bind fun bt => (if bt.2.2.2 = true then (some (bt.1, bt.2.1, bt.2.2.1, true)) else (impl_comb_step.l0 m [] 0 0 k n []))) (fun m => rfl) (Ev.bind hh ?_)
    refine Ev.ite_neg (by simp [outS, headT]) (Ev.step (f := fun _ => some (0, 0, ([] : List S58), false)) (fun m => ?_) (Ev.now _))
    simp only [impl_comb_step.l0]; rw [if_neg (by decide)]
  | .un k n a, h, hs => (no_un h).elim
  | .bin k n a b, h, hs => by
    have hsz : (Tr.bin k n a b).size = 1 + a.size + b.size := rfl
    have hh := redex_ev (.bin k n a b) h hs
    have ia := step_impl a h.2.1 (by omega)
    have ib := step_impl b h.2.2 (by omega)
    refine Ev.step (f := fun m => (impl_comb_redex.f m (toS (.bin k n a b)).f0 (toS (.bin k n a b)).f1 (toS (.bin k n a b)).f2).bind fun bt => (if bt.2.2.2 = true then (some (bt.1, bt.2.1, bt.2.2.1, true)) else (impl_comb_step.l0 m [toS a, toS b] 2 0 k n [toS a, toS b]))) (fun m => rfl) (Ev.bind hh ?_)
    rw [stepT]
    cases h1 : headT (.bin k n a b) with
    | some x => exact Ev.ite_pos rfl (Ev.now _)
    | none =>
      refine Ev.ite_neg (by simp [outS]) ?_
      have w1 : wrap64 ((0 : Int) + 1) = 1 := w64 (by decide) (by decide)
      have w2 : wrap64 ((1 : Int) + 1) = 2 := w64 (by decide) (by decide)
      have hcl : impl_comb_80.f [toS a, toS b] = some [toS a, toS b] := by simp [impl_comb_80.f]
      refine Ev.step (f := fun m => (impl_comb_step.f m (toS a).f0 (toS a).f1 (toS a).f2).bind fun bt => (if bt.2.2.2 = true then (some (k, n, [(⟨bt.1, bt.2.1, bt.2.2.1⟩ : S58), toS b], true)) else (impl_comb_step.l0 m [toS a, toS b] 2 1 k n [toS a, toS b]))) (fun m => ?_) (Ev.bind ia ?_)
      · simp only [impl_comb_step.l0, hcl, Option.bind_some]; rw [if_pos (by decide), if_pos (by decide), if_pos (by simp), w1]; rfl
      cases h2 : stepT a with
      | some x =>
        refine Ev.ite_pos rfl (Ev.of_eq (Ev.now _) ?_)
        show (k, n, [(⟨(toS x).f0, (toS x).f1, (toS x).f2⟩ : S58), toS b], true) = _
        rw [toS_eta]; rfl
      | none =>
        refine Ev.ite_neg (by simp [outS]) ?_
        refine Ev.step (f := fun m => (impl_comb_step.f m (toS b).f0 (toS b).f1 (toS b).f2).bind fun bt => (if bt.2.2.2 = true then (some (k, n, [toS a, (⟨bt.1, bt.2.1, bt.2.2.1⟩ : S58)], true)) else (impl_comb_step.l0 m [toS a, toS b] 2 2 k n [toS a, toS b]))) (fun m => ?_) (Ev.bind ib ?_)
        · simp only [impl_comb_step.l0, hcl, Option.bind_some]; rw [if_pos (by decide), if_pos (by decide), if_pos (by simp), w2]; rfl
        cases h3 : stepT b with
        | some x =>
          refine Ev.ite_pos rfl (Ev.of_eq (Ev.now _) ?_)
          show (k, n, [toS a, (⟨(toS x).f0, (toS x).f1, (toS x).f2⟩ : S58)], true) = _
          rw [toS_eta]; rfl
        | none =>
          refine Ev.ite_neg (by simp [outS]) (Ev.step (f := fun _ => some (0, 0, ([] : List S58), false)) (fun m => ?_) (Ev.now _))
          simp only [impl_comb_step.l0]; rw [if_neg (by decide)]

end Go.Proofs.Ytcjhhdecckcibaa.StepL

namespace Go.Proofs.Ytcjhhdecckcibaa.StepL
open Go.RowKit Go.Proofs.Ytcjhhdecckcibaa.G Go.Proofs.Ytcjhhdecckcibaa.EvL Go.Proofs.Ytcjhhdecckcibaa.TreeM Go.Proofs.Ytcjhhdecckcibaa.CombL Go.Proofs.YtcjhhdecckcibaaW.PrintWords Go.Proofs.YtcjhhdecckcibaaW.PrintLast
set_option linter.unusedVariables false

theorem loopBoth : ∀ (d : Nat) (n : Nat) (x : Int) (t : Tr), (n : Int) + d = x → (n : Int) + d ≤ 1000 → t.wf ar → t.size ≤ 200 →
    ∃ (o : List S52) (m : Int) (b : Bool), o.length ≤ 200 ∧ Ev (fun k => spec_NormalComb.l0 k x n (toL t).f0 (toL t).f1 (toL t).f2) (o, m, b) ∧ Ev (fun k => impl_NormalComb.l0 k x n (toS t).f0 (toS t).f1 (toS t).f2) (o, m, b) := by
  intro d
  induction d with
  | zero =>
    intro n x t hx hn hw hs
    obtain ⟨o, b, ho, h2, h3, _⟩ := toldBoth t hw (by omega)
    have hsp := step_spec t hw
    have him := step_impl t hw (by omega)
    cases hst : stepT t with
    | none =>
      rw [hst] at hsp him
      refine ⟨o, n, true, ho, Ev.succ ?_, Ev.succ ?_⟩
      · simp only [spec_NormalComb.l0]
        exact Ev.bind hsp (Ev.ite_neg (by simp [outL]) (Ev.bind h2 (Ev.now _)))
      · simp only [impl_NormalComb.l0]
        exact Ev.bind him (Ev.ite_neg (by simp [outS]) (Ev.bind h3 (Ev.now _)))
    | some y =>
      rw [hst] at hsp him
      have hys := stepT_size t y hst
      obtain ⟨o2, b2, ho2, h4, h5, _⟩ := toldBoth y (stepT_wf t hw y hst) (by omega)
      refine ⟨[], 0, false, by simp, Ev.succ ?_, Ev.succ ?_⟩
      · simp only [spec_NormalComb.l0]
        refine Ev.bind hsp (Ev.ite_pos rfl (Ev.bind h4 ?_))
        by_cases hb : b2 = true
        · exact Ev.ite_pos hb (Ev.ite_pos (by omega) (Ev.now _))
        · exact Ev.ite_neg hb (Ev.now _)
      · simp only [impl_NormalComb.l0]
        exact Ev.bind him (Ev.ite_pos rfl (Ev.ite_pos (by omega) (Ev.now _)))
  | succ d ih =>
    intro n x t hx hn hw hs
    obtain ⟨o, b, ho, h2, h3, _⟩ := toldBoth t hw (by omega)
    have hsp := step_spec t hw
    have him := step_impl t hw (by omega)
    cases hst : stepT t with
    | none =>
      rw [hst] at hsp him
      refine ⟨o, n, true, ho, Ev.succ ?_, Ev.succ ?_⟩
      · simp only [spec_NormalComb.l0]
        exact Ev.bind hsp (Ev.ite_neg (by simp [outL]) (Ev.bind h2 (Ev.now _)))
      · simp only [impl_NormalComb.l0]
        exact Ev.bind him (Ev.ite_neg (by simp [outS]) (Ev.bind h3 (Ev.now _)))
    | some y =>
      rw [hst] at hsp him
      have hys := stepT_size t y hst
      have hyw := stepT_wf t hw y hst
      obtain ⟨o2, b2, ho2, h4, h5, hg⟩ := toldBoth y hyw (by omega)
      obtain ⟨b3, h6, hg3⟩ := isGood_ev y (by omega)
      obtain rfl : b2 = b3 := by rw [Bool.eq_iff_iff, hg, hg3]
      have hne : ¬ (n : Int) = x := by omega
      have hw1 : wrap64 ((n : Int) + 1) = ((n + 1 : Nat) : Int) := w64 (by omega) (by omega)
      by_cases hb : b2 = true
      case neg =>
        refine ⟨[], 0, false, by simp, Ev.succ ?_, Ev.succ ?_⟩
        · simp only [spec_NormalComb.l0]
          exact Ev.bind hsp (Ev.ite_pos rfl (Ev.bind h4 (Ev.ite_neg hb (Ev.now _))))
        · simp only [impl_NormalComb.l0]
          exact Ev.bind him (Ev.ite_pos rfl (Ev.ite_neg hne (Ev.bind h6 (Ev.ite_neg hb (Ev.now _)))))
      have hgood := hg.mp hb
      obtain ⟨o3, m3, b4, ho3, h7, h8⟩ := ih (n + 1) x y (by omega) (by omega) hyw hgood.1
      refine ⟨o3, m3, b4, ho3, Ev.succ ?_, Ev.succ ?_⟩
      · simp only [spec_NormalComb.l0]
        refine Ev.bind hsp (Ev.ite_pos rfl (Ev.bind h4 (Ev.ite_pos hb (Ev.ite_neg hne ?_))))
        rw [hw1]; exact h7
      · simp only [impl_NormalComb.l0]
        refine Ev.bind him (Ev.ite_pos rfl (Ev.ite_neg hne (Ev.bind h6 (Ev.ite_pos hb ?_))))
        rw [hw1]; exact h8

theorem normalBoth (l : List S52) (hl : l.length ≤ 9223372036854775807) (x : Int) : ∃ (o : List S52) (m : Int) (b : Bool), o.length ≤ 200 ∧ Ev (fun k => spec_NormalComb.f k l x) (o, m, b) ∧ Ev (fun k => impl_NormalComb.f k l x) (o, m, b) := by
  obtain ⟨b1, e1, h1⟩ := specGood l hl
  obtain ⟨y, b, hE, hb, hx⟩ := rootEv l hl
  obtain rfl : b1 = b := by rw [Bool.eq_iff_iff, h1, hb]
  unfold spec_NormalComb.f impl_NormalComb.f
  have sbad : Ev (fun k => spec_NormalComb.j0 k l x true) (([] : List S52), 0, false) := Ev.step (f := fun _ => some (([] : List S52), 0, false)) (fun k => by simp only [spec_NormalComb.j0]; rfl) (Ev.now _)
  have ibad : Ev (fun k => impl_NormalComb.j0 k x true y.f0 y.f1 y.f2) (([] : List S52), 0, false) := Ev.step (f := fun _ => some (([] : List S52), 0, false)) (fun k => by simp only [impl_NormalComb.j0]; rfl) (Ev.now _)
  by_cases h : b1 = true
  case neg =>
    obtain rfl : b1 = false := by simpa using h
    exact ⟨[], 0, false, by simp, Ev.bind e1 (Ev.ite_neg (by simp) sbad), Ev.bind hE (Ev.ite_neg (by simp) ibad)⟩
  subst h
  have hfuel : impl_isTermFuel.f x = some (decide (0 ≤ x ∧ x ≤ 1000)) := by
    unfold impl_isTermFuel.f
    by_cases h3 : x ≥ 0
    · rw [if_pos h3]; congr 1; exact decide_eq_decide.mpr ⟨fun h => ⟨h3, h⟩, fun h => h.2⟩
    · rw [if_neg h3, decide_eq_false (fun h => h3 h.1)]
  by_cases h2 : 0 ≤ x ∧ x ≤ 1000
  case neg =>
    refine ⟨[], 0, false, by simp, Ev.bind e1 (Ev.ite_pos rfl ?_), Ev.bind hE (Ev.ite_pos rfl ?_)⟩
    · rw [l1In_eq, decide_eq_false h2]
      exact Ev.bind (Ev.const rfl) sbad
    · rw [hfuel, decide_eq_false h2]
      exact Ev.bind (Ev.const rfl) ibad
  obtain ⟨t, ht, rfl⟩ := hx rfl
  obtain ⟨htree, hw, hsz⟩ := tree_of l ht
  obtain ⟨o, m, b, ho, h3, h4⟩ := loopBoth x.toNat 0 x t (by omega) (by omega) hw hsz
  refine ⟨o, m, b, ho, Ev.bind e1 (Ev.ite_pos rfl ?_), Ev.bind hE (Ev.ite_pos rfl ?_)⟩
  · rw [l1In_eq, decide_eq_true h2]
    refine Ev.bind (Ev.const rfl) (Ev.succ ?_)
    simp only [spec_NormalComb.j0]
    exact Ev.ite_neg (by simp) (Ev.bind htree h3)
  · rw [hfuel, decide_eq_true h2]
    refine Ev.bind (Ev.const rfl) (Ev.succ ?_)
    simp only [impl_NormalComb.j0]
    exact Ev.ite_neg (by simp) h4
end Go.Proofs.Ytcjhhdecckcibaa.StepL

namespace Go.Proofs.Ytcjhhdecckcibaa.Pure
open Go.RowKit Go.Proofs.Ytcjhhdecckcibaa.G Go.Proofs.Ytcjhhdecckcibaa.EvL Go.Proofs.Ytcjhhdecckcibaa.CombL Go.Proofs.Ytcjhhdecckcibaa.StepL Go.Proofs.YtcjhhdecckcibaaW.PrintWords Go.Proofs.YtcjhhdecckcibaaW.PrintLast

theorem FnExactNormalComb : laws_FnExactNormalComb.Pure := by
  intro l x hl _
  obtain ⟨t, ht, hs⟩ := sizes l hl.1
  refine Ev.rounds ?_
  unfold laws_FnExactNormalComb.f
  rw [ht]
  simp only [Option.bind_some]
  by_cases h : t < 0
  · exact Ev.ite_pos h (Ev.now _)
  have hl1 := hs h
  have th := toCombs l hl1
  have hcl : (l.map conv).length ≤ 1048576 := by rw [List.length_map]; omega
  obtain ⟨o, m, b, hlen, hsp, him⟩ := normalBoth (l.map conv) (by omega) x
  have hm := markCombs (l.map conv) (by omega)
  have heq := eqCombs o (by omega)
  have hfl : (b != b) = false := by simp
  refine Ev.ite_neg h (Ev.bind th (Ev.bind hsp (Ev.bind th (Ev.bind him (Ev.bind heq (Ev.ite_pos rfl (Ev.ite_pos rfl (Ev.succ ?_))))))))
  simp only [laws_FnExactNormalComb.j0]
  refine Ev.ite_neg (by rw [hfl]; decide) (Ev.bind th (Ev.bind (eqCombs _ (by omega)) (Ev.ite_pos rfl (Ev.bind hm ?_))))
  refine Ev.ite_neg (by show ¬ (1 + 3 * ((l.map conv).length : Int) < 0); omega) (Ev.bind heq (Ev.ite_pos rfl (Ev.ite_pos trivial (Ev.succ ?_))))
  simp only [laws_FnExactNormalComb.j1]
  refine Ev.ite_neg (by rw [hfl]; decide) (Ev.bind (markCombs o (by omega)) (Ev.bind (heldCombs o (by omega)) ?_))
  refine Ev.ite_neg (by omega) (Ev.ite_pos rfl (Ev.bind th (Ev.bind him (Ev.bind heq (Ev.ite_pos rfl (Ev.ite_pos rfl (Ev.succ ?_)))))))
  simp only [laws_FnExactNormalComb.j2]
  refine Ev.ite_neg (by rw [hfl]; decide) (Ev.bind (heldCombs o (by omega)) (Ev.ite_neg (by omega) (Ev.ite_pos rfl (Ev.now _))))

end Go.Proofs.Ytcjhhdecckcibaa.Pure

namespace Go.Proofs.Ytcjhhdecckcibaa.Open
open Go.RowKit Go.Proofs.YtcjhhdecckcibaaW.PrintWords
open Go.WideShapes
set_option linter.unusedVariables false

def Opens {α : Type} (H : Type) (enc : TypeId × Value → H) (P : Program) (t : TypeId) (d : Kd α) (good : α → Prop) : Prop :=
  ∀ (w : World) (base : Nat) (spare : Nat → Bool) (held : Bool) (fuel : Nat) (cs : List Value) (x : DataW H × List MemPlace),
    DataW.trod enc P w base spare held fuel t cs = some x → ∃ v, d.K w v cs ∧ good v

section
variable {H : Type} {enc : TypeId × Value → H} {P : Program}

theorem opens_int {t : TypeId} {k : IntKind} (ht : P.underlying t = some (.int k)) : Opens H enc P t (Kd.int k) (fun n => (Lit.int k n).wf = true) := by
  intro w base spare held fuel cs x h
  obtain ⟨n, rfl, _, hw⟩ := DataW.trod_int ht h
  exact ⟨n, rfl, hw⟩

theorem choose_list {α : Type} (p : Nat → α → Prop) : ∀ n : Nat, (∀ i, i < n → ∃ a, p i a) → ∃ l : List α, l.length = n ∧ ∀ i a, l[i]? = some a → p i a
  | 0, _ => ⟨[], rfl, fun i a h => by simp at h⟩
  | n + 1, h => by
    obtain ⟨l, hl, hp⟩ := choose_list p n (fun i hi => h i (by omega))
    obtain ⟨a, ha⟩ := h n (by omega)
    refine ⟨l ++ [a], by simp [hl], fun i b hb => ?_⟩
    by_cases hi : i < n
    · exact hp i b (by rwa [List.getElem?_append_left (by omega)] at hb)
    · rw [List.getElem?_append_right (by omega)] at hb
      have : i - l.length = 0 := by
        by_cases h0 : i - l.length = 0
        · exact h0
        · rw [List.getElem?_eq_none (by simp; omega)] at hb; simp at hb
      rw [this] at hb
      obtain rfl : a = b := by simpa using hb
      obtain rfl : i = n := by omega
      exact ha

theorem opens_slice {α : Type} {t e : TypeId} {d : Kd α} {good : α → Prop} (ht : P.underlying t = some (.slice e)) (he : Opens H enc P e d good) (hc : P.cellsOf e = d.sz) :
    Opens H enc P t (Kd.slice e d) (fun l => l.length ≤ 9223372036854775807 ∧ ∀ x ∈ l, good x) := by
  intro w base spare held fuel cs x h
  rcases DataW.trod_slice ht h with ⟨rfl, _⟩ | ⟨a, len, cap, elems, rest, n, _, rfl, _, hb, hl, hm, hel, hg, _, _⟩
  · exact ⟨[], ⟨none, 0, rfl, Nat.le_refl _, ⟨rfl, by simp, fun h => by simp at h⟩⟩, by simp, by simp⟩
  · have hm' : cap ≤ 9223372036854775807 := hm
    have key : ∀ i, i < len → ∃ v : α, good v ∧ ∃ c : List Value, c.length = d.sz ∧ d.K w v c ∧ ∀ j u, c[j]? = some u → w.cell? (a.add (i * d.sz + j)) = some u := by
      intro i hi
      have hgi := hg i hi
      have hsome : ∃ y, elems[i]? = some y := ⟨elems[i]'(by omega), List.getElem?_eq_getElem (by omega)⟩
      obtain ⟨y, hy⟩ := hsome
      rw [hy] at hgi
      obtain ⟨c, hc1, hc2⟩ := Option.bind_eq_some_iff.mp hgi
      obtain ⟨v, hK, hgood⟩ := he w base spare held n c y hc2
      obtain ⟨_, hlen, hcell⟩ := World.cells?_some hc1
      refine ⟨v, hgood, c, d.K_len hK, hK, fun j u hu => ?_⟩
      have hj : j < c.length := by
        by_cases hj : j < c.length
        · exact hj
        · rw [List.getElem?_eq_none (by omega)] at hu; simp at hu
      have := hcell j (by omega)
      rw [Addr.add_add, hc, hu] at this
      exact this
    obtain ⟨l, hl0, hl1⟩ := choose_list (fun i v => good v ∧ ∃ c : List Value, c.length = d.sz ∧ d.K w v c ∧ ∀ j u, c[j]? = some u → w.cell? (a.add (i * d.sz + j)) = some u) len key
    refine ⟨l, ⟨some a, cap, by rw [hl0], by omega, ⟨rfl, by omega, fun _ => ⟨a, rfl, fun j p hp => (hl1 j p hp).2⟩⟩⟩, by omega, fun v hv => ?_⟩
    obtain ⟨i, hi⟩ := List.mem_iff_getElem?.mp hv
    exact (hl1 i v hi).1

def OpensF {α : Type} (H : Type) (enc : TypeId × Value → H) (P : Program) (fs : List Field) (off : Nat) (d : Kd α) (good : α → Prop) : Prop :=
  ∀ (w : World) (base : Nat) (spare : Nat → Bool) (held : Bool) (n : Nat) (cs : List Value), off + d.sz ≤ cs.length →
    (∀ f ∈ fs, ∃ y, DataW.trod enc P w base spare held n f.type ((cs.drop f.offset).take (P.cellsOf f.type)) = some y) → ∃ v, d.K w v ((cs.drop off).take d.sz) ∧ good v

theorem opensF_last {α : Type} {f : Field} {d : Kd α} {good : α → Prop} (h : Opens H enc P f.type d good) (hc : P.cellsOf f.type = d.sz) : OpensF H enc P [f] f.offset d good := by
  intro w base spare held n cs hl hf
  obtain ⟨y, hy⟩ := hf f (by simp)
  rw [hc] at hy
  exact h w base spare held n _ y hy

theorem opensF_cons {α β : Type} {f : Field} {fs : List Field} {d : Kd α} {e : Kd β} {g1 : α → Prop} {g2 : β → Prop} (h : Opens H enc P f.type d g1) (hc : P.cellsOf f.type = d.sz)
    (hs : OpensF H enc P fs (f.offset + d.sz) e g2) : OpensF H enc P (f :: fs) f.offset (Kd.pair d e) (fun x => g1 x.1 ∧ g2 x.2) := by
  intro w base spare held n cs hl hf
  have hl' : f.offset + (d.sz + e.sz) ≤ cs.length := hl
  obtain ⟨v, hv, hgv⟩ := opensF_last h hc w base spare held n cs (by omega) (fun f' hf' => hf f' (by simp at hf' ⊢; exact .inl hf'))
  obtain ⟨u, hu, hgu⟩ := hs w base spare held n cs (by omega) (fun f' hf' => hf f' (by simp; exact .inr hf'))
  refine ⟨(v, u), ⟨_, _, ?_, hv, hu⟩, hgv, hgu⟩
  show (cs.drop f.offset).take (d.sz + e.sz) = _
  rw [List.take_add, List.drop_drop]

theorem opens_struct {α β : Type} {t : TypeId} {fs : Array Field} {d : Kd α} {good : α → Prop} (f : β → α) (g : α → β) (hfg : ∀ x, f (g x) = x) (ht : P.underlying t = some (.struct fs))
    (hc : P.cellsOf t = d.sz) (h : OpensF H enc P fs.toList 0 d good) : Opens H enc P t (Kd.iso d f) (fun x => good (f x)) := by
  intro w base spare held fuel cs x hx
  obtain ⟨xs, n, _, _, hl, hxs, hf⟩ := DataW.trod_struct ht hx
  obtain ⟨v, hv, hg⟩ := h w base spare held n cs (by omega) (fun f' hf' => by
    obtain ⟨i, hi⟩ := List.mem_iff_getElem?.mp hf'
    have hlt : i < fs.size := by
      by_cases hlt : i < fs.size
      · exact hlt
      · rw [List.getElem?_eq_none (by simp; omega)] at hi; simp at hi
    refine ⟨xs[i]'(by omega), ?_⟩
    rw [hf i f' (by simpa using hi), List.getElem?_eq_getElem (by omega)])
  refine ⟨g v, ?_, by show good (f (g v)); rw [hfg]; exact hg⟩
  rw [List.drop_zero, List.take_of_length_le (by omega)] at hv
  show d.K w (f (g v)) cs
  rw [hfg]
  exact hv

theorem opens_imp {α : Type} {t : TypeId} {d : Kd α} {g1 g2 : α → Prop} (h : Opens H enc P t d g1) (hg : ∀ x, g1 x → g2 x) : Opens H enc P t d g2 := by
  intro w base spare held fuel cs x hx
  obtain ⟨v, h1, h2⟩ := h w base spare held fuel cs x hx
  exact ⟨v, h1, hg v h2⟩

theorem slice_in {α : Type} {t e : TypeId} {d : Kd α} {good : List α → Prop} (ht : P.underlying t = some (.slice e)) (hs : Opens H enc P t (Kd.slice e d) good) {W : World} {r : Reach} {b base : Nat} {spare : Nat → Bool} {held : Bool} {v : Value} {dd : DataW H} {p : List MemPlace}
    (hv : Value.okWide P W r b t v) (h : DataW.Trod enc P W base spare held t v dd p) : ∃ (A : Option Addr) (l : List α) (c : Nat), v = .slice A l.length c ∧ l.length ≤ c ∧ d.C W A l.length l ∧ good l := by
  obtain ⟨a, len, cap, rfl⟩ := okWide_slice ht hv
  obtain ⟨fuel, hf⟩ := h
  obtain ⟨l, ⟨A, c, hcs, hlc, hC⟩, hg⟩ := hs W base spare held fuel _ _ hf
  simp [Value.cells] at hcs
  obtain ⟨rfl, rfl, rfl⟩ := hcs
  exact ⟨a, l, cap, rfl, hlc, hC, hg⟩

end
end Go.Proofs.Ytcjhhdecckcibaa.Open

namespace Go.Proofs.Ytcjhhdecckcibaa.fnExactNormalComb
open Go.ChangeShapes Go.WideShapes Go.ChangeAt Go.RowKit Go.Proofs.Ytcjhhdecckcibaa.Open Go.Proofs.Ytcjhhdecckcibaa.G Go.Proofs.YtcjhhdecckcibaaW.PrintWords
open Go.ChangeMaps (open_string shut_string)
set_option linter.unusedVariables false
theorem own : ownKnob Try.prog.godebug = none := by kernel_rfl
theorem laidOut : laidOutB Try.prog = true := by kernel_rfl
section
variable {H : Type} {enc : TypeId × Value → H}
theorem openT55 : Opens H enc Try.prog 55 k55 (fun x => ((Lit.int .i64 x.f0).wf = true ∧ (Lit.int .i64 x.f1).wf = true ∧ (Lit.int .i64 x.f2).wf = true)) :=
  opens_imp (opens_struct (fun x : S55 => (x.f0, x.f1, x.f2)) (fun y => (⟨y.1, y.2.1, y.2.2⟩ : S55)) (fun _ => rfl) Try.underlying55 (by kernel_rfl) (opensF_cons (opens_int Try.underlying3) (by kernel_rfl) (opensF_cons (opens_int Try.underlying3) (by kernel_rfl) (opensF_last (opens_int Try.underlying3) (by kernel_rfl))))) (fun x h => h)
end
set_option maxRecDepth 100000 in
theorem lifted (os : Os) (started : os.Started) (H : Type) (enc : TypeId × Value → H) :
    ReturnsInHanded {} Try.checked os 8 .any (Rows.fnExactNormalCombSpec.pre6 enc Try.prog Try.f8 Rows.fnExactNormalCombRow.domain false) (Rows.fnExactNormalCombSpec.post enc Try.prog Try.f8 false true false false) := by
  refine returnsInHanded_of_change_sized (C := Try.checked) own started (by kernel_rfl) Try.func8
    (ChangeSpec.witness6 (enc := enc) (C := Try.checked) false ⟨#[], #[.slice none 0 0, .int .i64 0], []⟩ 8 (by kernel_rfl) (by kernel_rfl) (by kernel_rfl) (by kernel_rfl)) ?_
  intro W base args ds gs before hval0 hW hcnd hsz0 _
  have hsz : (DataW.weightsEach Try.prog (Try.f8.params.toList ++ Rows.fnExactNormalCombSpec.plain.varTypes Try.prog) (ds ++ gs)).all (· ≤ reachBytes) = true := hsz0
  have hval : ∀ (j : Nat) t v, Try.f8.params[j]? = some t → args[j]? = some v → Value.okWide Try.prog W .any base t v := hval0
  have hW' := hW
  obtain ⟨p, q, hA0, hV, rfl, hfz, hnd⟩ := hW
  have hA : DataW.TrodAll enc Try.prog W 0 (fun _ => true) true Try.f8.params.toList args.toList ds p := hA0
  rw [Try.params8] at hA hval hsz
  obtain ⟨v0, vs0, d0, ds0, p0, q0, hargs, rfl, rfl, h0, r0⟩ := trodAll_cons hA
  obtain ⟨v1, vs1, d1, ds1, p1, q1, rfl, rfl, rfl, h1, r1⟩ := trodAll_cons r0
  obtain ⟨rfl, rfl, rfl⟩ := trodAll_nil r1
  obtain rfl : args = #[v0, v1] := by cases args; simp_all
  obtain ⟨rfl, rfl⟩ := trodVars_none hV
  have k0 := h0
  have lt0 : ∀ x ∈ p0, x.block < W.heap.size := by obtain ⟨m, hm⟩ := k0; exact DataW.trod_lt m _ _ _ hm
  obtain ⟨A0, l0, c0, rfl, hc0, hr0, hg0⟩ := slice_in Try.underlying22 (opens_slice Try.underlying22 openT55 (by kernel_rfl)) (hval 0 22 v0 rfl rfl) h0
  obtain ⟨a1, rfl, rfl, rfl, w1⟩ := open_int Try.underlying3 (hval 1 3 v1 rfl rfl) h1
  clear hA0 hval0 hsz0 hsz
  obtain ⟨k_, hk_⟩ := Pure.FnExactNormalComb l0 a1 hg0 w1
  refine (laws_FnExactNormalComb.calls k_ A0 c0 l0 a1 true W hr0 hc0 hk_).mono fun e W' ⟨he, bel0⟩ => ?_
  have bel : Below W.heap.size W W' := bel0
  subst he
  exact ⟨_, rfl, _, _, _, [], _, [], hW', trodAll_mk1 (shut_bool Try.underlying4 _), (trodAll_cons_mk (Below.trod laidOut (by kernel_rfl) (of_decide_eq_true (by kernel_rfl)) k0 bel lt0) (trodAll_cons_mk (shut_int Try.underlying3 w1) trodAll_mk0)), rfl, bel.frame _, fun h => by cases h⟩
theorem over : Rows.fnExactNormalCombRow.holds Try.pinned (OpenSpec.ofChange Rows.fnExactNormalCombSpec) :=
  OpenClaim.holds_of_wide 8 Try.f8 rfl rfl rfl rfl rfl rfl rfl ⟨rfl, rfl, rfl, rfl, rfl⟩ rfl rfl rfl rfl rfl (by kernel_rfl) Try.func8 (by kernel_rfl)
    (of_decide_eq_true (by kernel_rfl)) (by unfold Func.isWrapper; first | (rw [if_pos (by decide +kernel)]; kernel_rfl) | (rw [if_neg (by decide +kernel)]; exact ⟨rfl, rfl⟩))
    (fun os started H enc _ => lifted os started H enc)
theorem proved : Rows.FnExactNormalCombSaid := over
#print axioms proved
end Go.Proofs.Ytcjhhdecckcibaa.fnExactNormalComb
namespace Go.Proofs.Ytcjhhdecckcibaa
theorem fnExactNormalComb_holds : Rows.FnExactNormalCombSaid := fnExactNormalComb.proved
end Go.Proofs.Ytcjhhdecckcibaa
