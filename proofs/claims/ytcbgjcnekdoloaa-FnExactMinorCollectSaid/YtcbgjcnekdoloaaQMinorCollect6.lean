/- Part 6 of 6 of the proof that the law FnExactMinorCollectSaid holds: for every input that can be read the call returns true and leaves its arguments as they were; no condition but those each theorem names. -/
import Derived.ChangeArms
import Derived.WideShapes
import Derived.DataElems
import Derived.DataReads
import Derived.Test.YtcbgjcnekdoloaaRows
import Derived.WalkKit
import Derived.ProofKit
import Derived.OpenShut
import Derived.ShutString
import Derived.ChangeOld
import Derived.Below
import Derived.SizedLaws
import Derived.Test.YtcbgjcnekdoloaaQMinorCollectW1
import Derived.Test.YtcbgjcnekdoloaaQMinorCollect1
import Derived.Test.YtcbgjcnekdoloaaQMinorCollect2
import Derived.Test.YtcbgjcnekdoloaaQMinorCollect3
import Derived.Test.YtcbgjcnekdoloaaQMinorCollect4
import Derived.Test.YtcbgjcnekdoloaaQMinorCollect5
namespace Go.Proofs.Ytcbgjcnekdoloaa.EvL
open Go.RowKit Go.Proofs.YtcbgjcnekdoloaaW.PrintWords
set_option linter.unusedVariables false

theorem w64 {x : Int} (h1 : -9223372036854775808 ≤ x) (h2 : x ≤ 9223372036854775807) : wrap64 x = x := by unfold wrap64; omega
theorem wf64 {n : Int} (h : (Lit.int .i64 n).wf = true) : -9223372036854775808 ≤ n ∧ n ≤ 9223372036854775807 := by
  have h' : (decide (IntKind.i64.min ≤ n) && decide (n ≤ IntKind.i64.max)) = true := h
  simp only [Bool.and_eq_true, decide_eq_true_iff] at h'
  exact ⟨h'.1, h'.2⟩

theorem Ev.const {α : Type} {a : Option α} {r : α} (h : a = some r) : Ev (fun _ => a) r := ⟨0, fun _ _ => h⟩
theorem Ev.of_eq {α : Type} {g : Nat → Option α} {r r' : α} (h : Ev g r) (e : r = r') : Ev g r' := e ▸ h
theorem Ev.ite_pos {α : Type} {c : Prop} [Decidable c] {g f : Nat → Option α} {r : α} (hc : c) (h : Ev g r) : Ev (fun k => if c then g k else f k) r := Ev.congr (fun k => if_pos hc) h
theorem Ev.ite_neg {α : Type} {c : Prop} [Decidable c] {g f : Nat → Option α} {r : α} (hc : ¬ c) (h : Ev f r) : Ev (fun k => if c then g k else f k) r := Ev.congr (fun k => if_neg hc) h
theorem Ev.succ {α : Type} {g : Nat → Option α} {r : α} (h : Ev (fun k => g (k + 1)) r) : Ev g r := Ev.step (fun k => rfl) h
/-- Both tell one answer in the end. -/
theorem Ev.unique {α : Type} {g : Nat → Option α} {r r' : α} (h : Ev g r) (h' : Ev g r') : r = r' := by
  obtain ⟨K, hK⟩ := h
  obtain ⟨K', hK'⟩ := h'
  have h1 := hK (max K K') (Nat.le_max_left ..)
  have h2 := hK' (max K K') (Nat.le_max_right ..)
  rw [h1] at h2
  exact Option.some.inj h2

/-- A loop that asks of each index. -/
theorem ev_all (F : Nat → Int → Option Bool) (n : Nat) (p : Nat → Bool) (hs : ∀ (k i : Nat), i < n → F (k + 1) i = if p i = true then F k ((i + 1 : Nat) : Int) else some false) (he : ∀ k, F (k + 1) n = some true) :
    ∀ (d i : Nat), i + d = n → Ev (fun k => F k i) ((List.range d).all fun j => p (i + j)) := by
  intro d
  induction d with
  | zero => intro i hi; obtain rfl : i = n := by omega
            exact Ev.step he (Ev.now _)
  | succ d ih =>
    intro i hi
    have e : ((List.range (d + 1)).all fun j => p (i + j)) = (p i && (List.range d).all fun j => p (i + 1 + j)) := by
      rw [List.range_succ_eq_map, List.all_cons, List.all_map, Nat.add_zero]
      congr 1; congr 1; funext j; show p (i + (j + 1)) = _; congr 1; omega
    rw [e]
    by_cases hp : p i = true
    · refine Ev.step (fun k => (hs k i (by omega)).trans (if_pos hp)) ?_
      rw [hp, Bool.true_and]
      exact ih (i + 1) (by omega)
    · refine Ev.step (fun k => (hs k i (by omega)).trans (if_neg hp)) ?_
      rw [Bool.eq_false_iff.mpr hp, Bool.false_and]
      exact Ev.now _

/-- A loop that fills a list. -/
theorem ev_fill {β : Type} (F : Nat → List β → Int → Option (List β)) (n : Nat) (g : Nat → β) (hs : ∀ (k : Nat) (acc : List β) (i : Nat), i < n → acc.length = n → F (k + 1) acc i = F k (acc.set i (g i)) ((i + 1 : Nat) : Int))
    (he : ∀ (k : Nat) (acc : List β), acc.length = n → F (k + 1) acc n = some acc) :
    ∀ (d i : Nat) (acc : List β), i + d = n → acc.length = n → Ev (fun k => F k acc i) (acc.take i ++ (List.range d).map fun j => g (i + j)) := by
  intro d
  induction d with
  | zero => intro i acc hi hl; obtain rfl : i = n := by omega
            rw [List.range_zero, List.map_nil, List.append_nil, List.take_of_length_le (by omega)]
            exact Ev.step (fun k => he k acc hl) (Ev.now _)
  | succ d ih =>
    intro i acc hi hl
    refine Ev.step (fun k => hs k acc i (by omega) hl) ?_
    refine Ev.of_eq (ih (i + 1) (acc.set i (g i)) (by omega) (by simpa using hl)) ?_
    rw [List.range_succ_eq_map, List.map_cons, List.map_map, Nat.add_zero]
    have e : (acc.set i (g i)).take (i + 1) = acc.take i ++ [g i] := by
      rw [List.take_succ_eq_append_getElem (by simp; omega)]
      simp [List.take_set_of_le]
    rw [e, List.append_assoc]
    congr 1
    rw [List.singleton_append]
    congr 1
    apply List.map_congr_left
    intro j _
    show g (i + 1 + j) = g (i + (j + 1))
    congr 1; omega

theorem range_getD {β : Type} (l : List β) (z : β) : (List.range l.length).map (fun j => l.getD j z) = l := by
  apply List.ext_getElem
  · simp
  · intro i h1 h2; simp [List.getD_eq_getElem?_getD, List.getElem?_eq_getElem h2]

theorem range_all_getD {β : Type} (l : List β) (z : β) (p : Nat → β → Bool) : ((List.range l.length).all fun j => p j (l.getD j z)) = true ↔ ∀ (i : Nat) (x : β), l[i]? = some x → p i x = true := by
  rw [List.all_eq_true]
  constructor
  · intro h i x hx
    have hi : i < l.length := by
      by_cases hi : i < l.length
      · exact hi
      · rw [List.getElem?_eq_none (by omega)] at hx; simp at hx
    have := h i (by simpa using hi)
    rwa [List.getD_eq_getElem?_getD, hx] at this
  · intro h i hi
    have hi' : i < l.length := by simpa using hi
    rw [List.getD_eq_getElem?_getD, List.getElem?_eq_getElem hi']
    exact h i _ (List.getElem?_eq_getElem hi')

/-- Two lists, compared place by place. -/
theorem range_all_eq {β : Type} [DecidableEq β] (a b : List β) (z : β) (h : a.length = b.length) : ((List.range a.length).all fun j => decide (a.getD j z = b.getD j z)) = decide (a = b) := by
  rw [Bool.eq_iff_iff, List.all_eq_true, decide_eq_true_iff]
  constructor
  · intro hh
    apply List.ext_getElem h
    intro i h1 h2
    have := of_decide_eq_true (hh i (by simpa using h1))
    rwa [List.getD_eq_getElem?_getD, List.getD_eq_getElem?_getD, List.getElem?_eq_getElem h1, List.getElem?_eq_getElem h2] at this
  · rintro rfl i _; simp
end Go.Proofs.Ytcbgjcnekdoloaa.EvL

namespace Go.Proofs.Ytcbgjcnekdoloaa.HeapL
open Go.RowKit Go.Proofs.Ytcbgjcnekdoloaa.G Go.Proofs.Ytcbgjcnekdoloaa.EvL Go.Proofs.YtcbgjcnekdoloaaW.PrintWords Go.Proofs.YtcbgjcnekdoloaaW.PrintLast
set_option linter.unusedVariables false

def conv (c : S59) : S44 := ⟨c.f0, c.f1, c.f2, c.f3⟩

theorem rdC (l : List S44) (i : Nat) : rd_T44 l (i : Int) = l.getD i z44 := by unfold rd_T44; rw [Int.toNat_natCast]
theorem rdL (l : List S59) (i : Nat) : rd_T59 l (i : Int) = l.getD i z59 := by unfold rd_T59; rw [Int.toNat_natCast]
theorem rdI (l : List Int) (i : Nat) : rd l (i : Int) = l.getD i 0 := by unfold rd; rw [Int.toNat_natCast]
theorem next (i : Nat) {n : Nat} (h : i < n) (hn : n ≤ 9223372036854775807) : wrap64 ((i : Int) + 1) = ((i + 1 : Nat) : Int) := by rw [w64 (by omega) (by omega)]; omega

theorem toCells (l : List S59) (hl : l.length ≤ 1048576) : Ev (fun k => laws_toCellS.f k l) (l.map conv) := by
  unfold laws_toCellS.f
  refine Ev.ite_pos (by omega) (Ev.ite_pos (by omega) ?_)
  rw [Int.toNat_natCast]
  refine Ev.of_eq (ev_fill (fun k acc i => laws_toCellS.l0 k l acc i) l.length (fun j => conv (l.getD j z59)) ?_ ?_ l.length 0 (List.replicate l.length z44) (by omega) (by simp)) ?_
  · intro k acc i hi hacc
    simp only [laws_toCellS.l0, laws_toCell.f, Option.bind_some]
    rw [if_pos (by omega), if_pos (by omega), if_pos (by omega), next i hi (by omega), rdL, Int.toNat_natCast]
    rfl
  · intro k acc hacc
    simp only [laws_toCellS.l0]
    rw [if_neg (by omega)]
  · rw [List.take_zero, List.nil_append]
    simp only [Nat.zero_add]
    rw [show (List.range l.length).map (fun j => conv (l.getD j z59)) = ((List.range l.length).map fun j => l.getD j z59).map conv by rw [List.map_map]; rfl, range_getD]

theorem toInts (l : List Int) (hl : l.length ≤ 1048576) : Ev (fun k => laws_toIntS.f k l) l := by
  unfold laws_toIntS.f
  refine Ev.ite_pos (by omega) (Ev.ite_pos (by omega) ?_)
  rw [Int.toNat_natCast]
  refine Ev.of_eq (ev_fill (fun k acc i => laws_toIntS.l0 k l acc i) l.length (fun j => l.getD j 0) ?_ ?_ l.length 0 (List.replicate l.length 0) (by omega) (by simp)) ?_
  · intro k acc i hi hacc
    simp only [laws_toIntS.l0]
    rw [if_pos (by omega), if_pos (by omega), if_pos (by omega), next i hi (by omega), rdI, Int.toNat_natCast]
  · intro k acc hacc
    simp only [laws_toIntS.l0]
    rw [if_neg (by omega)]
  · rw [List.take_zero, List.nil_append]
    simp only [Nat.zero_add]
    exact range_getD l 0

theorem sizes (old : Int) (c : List S59) (r : List Int) (hc : c.length ≤ 9223372036854775807) (hr : r.length ≤ 9223372036854775807) :
    ∃ t, laws_szHeap.f old c r 1048576 = some t ∧ (¬ t < 0 → c.length ≤ 1048576 ∧ r.length ≤ 1048576) := by
  unfold laws_szHeap.f laws_szCellS.f laws_szIntS.f
  rw [w64 (x := 1048576 - (c.length : Int)) (by omega) (by omega)]
  by_cases h : 1048576 - (c.length : Int) < 0
  · rw [if_pos h]
    exact ⟨-1, rfl, fun h => absurd (by decide) h⟩
  · rw [if_neg h]
    simp only [Option.bind_some]
    rw [if_neg h, w64 (by omega) (by omega)]
    by_cases h2 : 1048576 - (c.length : Int) - (r.length : Int) < 0
    · rw [if_pos h2]
      exact ⟨-1, rfl, fun h => absurd (by decide) h⟩
    · rw [if_neg h2]
      simp only [Option.bind_some]
      rw [if_neg h2]
      exact ⟨_, rfl, fun _ => by omega⟩

theorem toHeap (old : Int) (c : List S59) (r : List Int) (hc : c.length ≤ 1048576) (hr : r.length ≤ 1048576) : Ev (fun k => laws_toHeap.f k old c r) (old, c.map conv, r) := by
  unfold laws_toHeap.f
  refine Ev.bind (toCells c hc) (Ev.bind (toInts r hr) (Ev.now _))

theorem eqCells (a : List S44) (ha : a.length ≤ 9223372036854775807) : Ev (fun k => laws_eqCellS.f k a a) true := by
  unfold laws_eqCellS.f
  refine Ev.ite_pos rfl ?_
  refine Ev.of_eq (ev_all (fun k i => laws_eqCellS.l0 k a a i) a.length (fun _ => true) ?_ ?_ a.length 0 (by omega)) (by simp)
  · intro k i hi
    simp only [laws_eqCellS.l0, laws_eqCell.f]
    rw [if_pos (by omega), if_pos (by omega), if_pos (by omega), if_neg (by simp)]
    simp only [if_true, Option.bind_some]
    rw [next i hi ha]
  · intro k
    simp only [laws_eqCellS.l0]
    rw [if_neg (by omega)]

theorem eqInts (a : List Int) (ha : a.length ≤ 9223372036854775807) : Ev (fun k => laws_eqIntS.f k a a) true := by
  unfold laws_eqIntS.f
  refine Ev.ite_pos rfl ?_
  refine Ev.of_eq (ev_all (fun k i => laws_eqIntS.l0 k a a i) a.length (fun _ => true) ?_ ?_ a.length 0 (by omega)) (by simp)
  · intro k i hi
    simp only [laws_eqIntS.l0]
    rw [if_pos (by omega), if_pos (by omega), if_pos (by omega)]
    simp only [if_true]
    rw [next i hi ha]
  · intro k
    simp only [laws_eqIntS.l0]
    rw [if_neg (by omega)]

theorem eqHeap (old : Int) (c : List S44) (r : List Int) (hc : c.length ≤ 9223372036854775807) (hr : r.length ≤ 9223372036854775807) : Ev (fun k => laws_eqHeap.f k old c r old c r) true := by
  unfold laws_eqHeap.f
  refine Ev.ite_pos rfl (Ev.bind (eqCells c hc) (Ev.ite_pos rfl (Ev.bind (eqInts r hr) (Ev.ite_pos rfl (Ev.now _)))))

/-- May a cell stand at place i. -/
def CellOk (c : S44) (i : Nat) : Prop := (c.f0 = true ∧ c.f2 = 0 ∧ c.f3 = 0) ∨ (c.f0 = false ∧ c.f1 = 0 ∧ 0 ≤ c.f2 ∧ c.f2 < i ∧ 0 ≤ c.f3 ∧ c.f3 < i)
instance (c : S44) (i : Nat) : Decidable (CellOk c i) := by unfold CellOk; infer_instance
def cellsOk (c : List S44) : Bool := (List.range c.length).all fun i => decide (CellOk (c.getD i z44) i)
def rootsOk (n : Nat) (r : List Int) : Bool := r.all fun x => decide (0 ≤ x ∧ x < (n : Int))
/-- Is a heap good. -/
def goodH (old : Int) (c : List S44) (r : List Int) : Bool := decide (c.length ≤ 200) && (decide (r.length ≤ 60) && (decide (0 ≤ old ∧ old ≤ (c.length : Int)) && (cellsOk c && rootsOk c.length r)))

theorem l1In_eq (a b c : Int) : spec_l1In.f a b c = some (decide (b ≤ a ∧ a ≤ c)) := by
  unfold spec_l1In.f
  by_cases h : a ≥ b
  · rw [if_pos h]; congr 1; exact decide_eq_decide.mpr (by omega)
  · rw [if_neg h, decide_eq_false (by omega)]

theorem spec_roots (old : Int) (c : List S44) (r : List Int) (hc : c.length ≤ 200) (hr : r.length ≤ 60) : Ev (fun k => spec_GoodHeap.l1 k r r.length 0 old c r) (rootsOk c.length r) := by
  refine Ev.of_eq (ev_all (fun k i => spec_GoodHeap.l1 k r r.length i old c r) r.length (fun i => decide (0 ≤ r.getD i 0 ∧ r.getD i 0 < (c.length : Int))) ?_ ?_ r.length 0 (by omega)) ?_
  · intro k i hi
    simp only [spec_GoodHeap.l1]
    rw [if_pos (by omega), if_pos (by omega), if_pos (by omega), l1In_eq, rdI, w64 (by omega) (by omega), next i hi (by omega)]
    simp only [Option.bind_some]
    rw [show decide (0 ≤ r.getD i 0 ∧ r.getD i 0 ≤ (c.length : Int) - 1) = decide (0 ≤ r.getD i 0 ∧ r.getD i 0 < (c.length : Int)) from decide_eq_decide.mpr (by omega)]
  · intro k
    simp only [spec_GoodHeap.l1]
    rw [if_neg (by omega)]
  · simp only [Nat.zero_add]
    unfold rootsOk
    rw [Bool.eq_iff_iff, range_all_getD r 0 (fun _ x => decide (0 ≤ x ∧ x < (c.length : Int))), List.all_eq_true]
    constructor
    · intro h x hx
      obtain ⟨i, hi⟩ := List.mem_iff_getElem?.mp hx
      exact h i x hi
    · intro h i x hx
      exact h x (List.mem_of_getElem? hx)

theorem spec_cells (old : Int) (c : List S44) (r : List Int) (hc : c.length ≤ 200) (hr : r.length ≤ 60) : ∀ (d i : Nat), i + d = c.length →
    Ev (fun k => spec_GoodHeap.l0 k c c.length i old c r) (((List.range d).all fun j => decide (CellOk (c.getD (i + j) z44) (i + j))) && rootsOk c.length r) := by
  intro d
  induction d with
  | zero =>
    intro i hi
    refine Ev.step (f := fun k => spec_GoodHeap.l1 k r r.length 0 old c r) (fun k => ?_) (Ev.of_eq (spec_roots old c r hc hr) (by simp))
    simp only [spec_GoodHeap.l0]
    rw [if_neg (by omega)]
  | succ d ih =>
    intro i hi
    have e : ((List.range (d + 1)).all fun j => decide (CellOk (c.getD (i + j) z44) (i + j))) = (decide (CellOk (c.getD i z44) i) && (List.range d).all fun j => decide (CellOk (c.getD (i + 1 + j) z44) (i + 1 + j))) := by
      rw [List.range_succ_eq_map, List.all_cons, List.all_map, Nat.add_zero]
      congr 1; congr 1; funext j; show decide (CellOk (c.getD (i + (j + 1)) z44) (i + (j + 1))) = _; rw [show i + (j + 1) = i + 1 + j by omega]
    rw [e]
    refine Ev.step (f := fun k => if CellOk (c.getD i z44) i then spec_GoodHeap.l0 k c c.length ((i + 1 : Nat) : Int) old c r else some false) (fun k => ?_) ?_
    · simp only [spec_GoodHeap.l0]
      rw [if_pos (by omega), if_pos (by omega), if_pos (by omega), rdC, next i (n := c.length) (by omega) (by omega), w64 (x := (i : Int) - 1) (by omega) (by omega)]
      simp only [l1In_eq, Option.bind_some]
      generalize c.getD i z44 = x
      by_cases h0 : x.f0 = true
      · rw [if_pos h0]
        by_cases h1 : x.f2 = 0
        · rw [if_pos h1]
          by_cases h2 : x.f3 = 0
          · rw [if_pos h2, if_pos (.inl ⟨h0, h1, h2⟩)]
          · rw [if_neg h2, if_neg (by rintro (⟨_, _, h⟩ | ⟨h, _⟩); exact h2 h; rw [h0] at h; cases h)]
        · rw [if_neg h1, if_neg (by rintro (⟨_, h, _⟩ | ⟨h, _⟩); exact h1 h; rw [h0] at h; cases h)]
      · have h0' : x.f0 = false := Bool.eq_false_iff.mpr h0
        rw [if_neg h0]
        by_cases h1 : x.f1 = 0
        · rw [if_pos h1]
          by_cases h2 : 0 ≤ x.f2 ∧ x.f2 ≤ (i : Int) - 1
          · rw [if_pos (decide_eq_true h2)]
            by_cases h3 : 0 ≤ x.f3 ∧ x.f3 ≤ (i : Int) - 1
            · rw [if_pos (decide_eq_true h3), if_pos (.inr ⟨h0', h1, by omega, by omega, by omega, by omega⟩)]
            · rw [if_neg (by rw [decide_eq_false h3]; decide), if_neg (by rintro (⟨h, _⟩ | ⟨_, _, _, _, _, _⟩); exact h0 h; omega)]
          · rw [if_neg (by rw [decide_eq_false h2]; decide), if_neg (by rintro (⟨h, _⟩ | ⟨_, _, _, _, _, _⟩); exact h0 h; omega)]
        · rw [if_neg h1, if_neg (by rintro (⟨h, _⟩ | ⟨_, h, _⟩); exact h0 h; exact h1 h)]
    · by_cases h : CellOk (c.getD i z44) i
      · rw [decide_eq_true h, Bool.true_and]
        exact Ev.ite_pos h (ih (i + 1) (by omega))
      · rw [decide_eq_false h, Bool.false_and, Bool.false_and]
        exact Ev.ite_neg h (Ev.now _)

theorem specGood (old : Int) (c : List S44) (r : List Int) : Ev (fun k => spec_GoodHeap.f k old c r) (goodH old c r) := by
  unfold spec_GoodHeap.f goodH
  have no : Ev (fun k => spec_GoodHeap.j0 k true old c r) false := Ev.step (f := fun _ => some false) (fun k => by simp only [spec_GoodHeap.j0, if_true]) (Ev.now _)
  by_cases h1 : c.length ≤ 200
  · refine Ev.ite_neg (by omega) ?_
    rw [decide_eq_true h1, Bool.true_and]
    by_cases h2 : r.length ≤ 60
    · refine Ev.ite_neg (by omega) ?_
      rw [decide_eq_true h2, Bool.true_and, l1In_eq]
      simp only [Option.bind_some]
      by_cases h3 : 0 ≤ old ∧ old ≤ (c.length : Int)
      · rw [decide_eq_true h3, Bool.true_and]
        refine Ev.step (f := fun k => spec_GoodHeap.l0 k c c.length 0 old c r) (fun k => by simp only [spec_GoodHeap.j0, Bool.not_true, Bool.false_eq_true, if_false]) ?_
        exact Ev.of_eq (spec_cells old c r h1 h2 c.length 0 (by omega)) (by simp only [Nat.zero_add]; rfl)
      · rw [decide_eq_false h3, Bool.false_and]
        exact no
    · rw [decide_eq_false h2, Bool.false_and]
      exact Ev.ite_pos (by omega) no
  · rw [decide_eq_false h1, Bool.false_and]
    exact Ev.ite_pos (by omega) no

theorem isBelow_eq (a b : Int) : impl_isBelow.f a b = some (decide (0 ≤ a ∧ a < b)) := by
  unfold impl_isBelow.f
  by_cases h : a ≥ 0
  · rw [if_pos h]; congr 1; exact decide_eq_decide.mpr (by omega)
  · rw [if_neg h, decide_eq_false (by omega)]

theorem isCell_eq (c : S44) (i : Nat) : impl_isCell.f c.f0 c.f1 c.f2 c.f3 i = some (decide (CellOk c i)) := by
  unfold impl_isCell.f
  simp only [isBelow_eq, Option.bind_some]
  by_cases h0 : c.f0 = true
  · rw [if_pos h0]
    by_cases h1 : c.f2 = 0
    · rw [if_pos h1]
      by_cases h2 : c.f3 = 0
      · rw [beq_iff_eq.mpr h2, decide_eq_true (show CellOk c i from .inl ⟨h0, h1, h2⟩)]
      · rw [beq_eq_false_iff_ne.mpr h2, decide_eq_false (by rintro (⟨_, _, h⟩ | ⟨h, _⟩); exact h2 h; rw [h0] at h; cases h)]
    · rw [if_neg h1, decide_eq_false (by rintro (⟨_, h, _⟩ | ⟨h, _⟩); exact h1 h; rw [h0] at h; cases h)]
  · have h0' : c.f0 = false := Bool.eq_false_iff.mpr h0
    rw [if_neg h0]
    by_cases h1 : c.f1 = 0
    · rw [if_pos h1]
      by_cases h2 : 0 ≤ c.f2 ∧ c.f2 < (i : Int)
      · rw [if_pos (decide_eq_true h2)]
        congr 1
        refine decide_eq_decide.mpr ⟨fun h => .inr ⟨h0', h1, h2.1, h2.2, h.1, h.2⟩, ?_⟩
        rintro (⟨h, _⟩ | ⟨_, _, _, _, a, b⟩)
        · exact absurd h h0
        · exact ⟨a, b⟩
      · rw [if_neg (by rw [decide_eq_false h2]; decide), decide_eq_false (by rintro (⟨h, _⟩ | ⟨_, _, _, _, _, _⟩); exact h0 h; omega)]
    · rw [if_neg h1, decide_eq_false (by rintro (⟨h, _⟩ | ⟨_, h, _⟩); exact h0 h; exact h1 h)]

theorem implGood (old : Int) (c : List S44) (r : List Int) : Ev (fun k => impl_GoodHeap.f k old c r) (goodH old c r) := by
  unfold impl_GoodHeap.f goodH impl_areRoots.f
  have no : Ev (fun k => impl_GoodHeap.j0 k true old c r) false := Ev.step (f := fun _ => some false) (fun k => by simp only [impl_GoodHeap.j0, if_true]) (Ev.now _)
  by_cases h1 : c.length ≤ 200
  · refine Ev.ite_neg (by omega) ?_
    rw [decide_eq_true h1, Bool.true_and]
    by_cases h3 : 0 ≤ old ∧ old ≤ (c.length : Int)
    · refine Ev.ite_neg (by omega) (Ev.ite_neg (by omega) ?_)
      rw [decide_eq_true h3, Bool.true_and]
      simp only [Option.bind_some]
      by_cases h2 : r.length ≤ 60
      · rw [decide_eq_true h2, Bool.true_and, Bool.true_and]
        have er : (r.all fun n => decide (0 ≤ n ∧ n < (c.length : Int))) = rootsOk c.length r := rfl
        rw [er]
        cases hr : rootsOk c.length r with
        | false => rw [Bool.and_false]; exact no
        | true =>
          rw [Bool.and_true]
          refine Ev.step (f := fun k => impl_GoodHeap.l0 k c c.length 0) (fun k => by simp only [impl_GoodHeap.j0, Bool.not_true, Bool.false_eq_true, if_false]) ?_
          refine Ev.of_eq (ev_all (fun k i => impl_GoodHeap.l0 k c c.length i) c.length (fun i => decide (CellOk (c.getD i z44) i)) ?_ ?_ c.length 0 (by omega)) (by simp only [Nat.zero_add]; rfl)
          · intro k i hi
            simp only [impl_GoodHeap.l0]
            rw [if_pos (by omega), if_pos (by omega), if_pos (by omega), rdC, isCell_eq, next i hi (by omega)]
            simp only [Option.bind_some]
          · intro k
            simp only [impl_GoodHeap.l0]
            rw [if_neg (by omega)]
      · rw [decide_eq_false h2, Bool.false_and, Bool.false_and]
        exact no
    · rw [decide_eq_false h3, Bool.false_and, Bool.and_false]
      by_cases h4 : old < 0
      · exact Ev.ite_pos h4 no
      · exact Ev.ite_neg h4 (Ev.ite_pos (by omega) no)
  · rw [decide_eq_false h1, Bool.false_and]
    exact Ev.ite_pos (by omega) no
theorem good_parts {old : Int} {c : List S44} {r : List Int} (h : goodH old c r = true) : c.length ≤ 200 ∧ r.length ≤ 60 ∧ (0 ≤ old ∧ old ≤ (c.length : Int)) ∧ cellsOk c = true ∧ rootsOk c.length r = true := by
  unfold goodH at h
  simp only [Bool.and_eq_true, decide_eq_true_iff] at h
  exact h
end Go.Proofs.Ytcbgjcnekdoloaa.HeapL

namespace Go.Proofs.Ytcbgjcnekdoloaa.HeapL
open Go.RowKit Go.Proofs.Ytcbgjcnekdoloaa.G Go.Proofs.Ytcbgjcnekdoloaa.EvL Go.Proofs.YtcbgjcnekdoloaaW.PrintWords Go.Proofs.YtcbgjcnekdoloaaW.PrintLast
set_option linter.unusedVariables false

def getB (m : List Bool) (j : Nat) : Bool := m.getD j false
theorem rdB (m : List Bool) (j : Nat) : rdOf false m (j : Int) = getB m j := by unfold rdOf getB; rw [Int.toNat_natCast]
theorem getB_set (m : List Bool) (i j : Nat) (h : i < m.length) : getB (m.set i true) j = (getB m j || decide (i = j)) := by
  unfold getB
  rw [List.getD_eq_getElem?_getD, List.getD_eq_getElem?_getD, List.getElem?_set]
  by_cases e : i = j
  · subst e; simp [h]
  · simp [e]
theorem getB_lt {m : List Bool} {j : Nat} (h : getB m j = true) : j < m.length := by
  by_cases hj : j < m.length
  · exact hj
  · unfold getB at h; rw [List.getD_eq_getElem?_getD, List.getElem?_eq_none (by omega)] at h; simp at h
theorem cnt_set : ∀ (m : List Bool) (i : Nat), i < m.length → getB m i = false → (m.set i true).count false + 1 = m.count false
  | [], i, h, _ => by simp at h
  | b :: m, 0, _, hb => by
    have : b = false := hb
    subst this
    simp
  | b :: m, i + 1, h, hb => by
    have ih := cnt_set m i (by simpa using h) hb
    simp only [List.set_cons_succ, List.count_cons]
    omega

def pairAt (c : List S44) (i : Nat) : Bool := !(c.getD i z44).f0
def pA (c : List S44) (i : Nat) : Nat := (c.getD i z44).f2.toNat
def pB (c : List S44) (i : Nat) : Nat := (c.getD i z44).f3.toNat

theorem parts_lt {c : List S44} (hc : cellsOk c = true) {i : Nat} (hi : i < c.length) (hp : pairAt c i = true) :
    0 ≤ (c.getD i z44).f2 ∧ (c.getD i z44).f2 < i ∧ 0 ≤ (c.getD i z44).f3 ∧ (c.getD i z44).f3 < i := by
  unfold cellsOk at hc
  rw [List.all_eq_true] at hc
  have h : CellOk (c.getD i z44) i := of_decide_eq_true (hc i (by simpa using hi))
  unfold pairAt at hp
  rcases h with ⟨h, _⟩ | ⟨_, _, h⟩
  · rw [h] at hp; simp at hp
  · exact h

/-- The least marks that hold S and are closed under parts. -/
structure Least (c : List S44) (S : Nat → Prop) (m : List Bool) : Prop where
  len : m.length = c.length
  base : ∀ j, j < c.length → S j → getB m j = true
  closed : ∀ i, i < c.length → getB m i = true → pairAt c i = true → getB m (pA c i) = true ∧ getB m (pB c i) = true
  min : ∀ P : Nat → Prop, (∀ j, j < c.length → S j → P j) → (∀ i, i < c.length → P i → pairAt c i = true → P (pA c i) ∧ P (pB c i)) → ∀ j, getB m j = true → P j

theorem Least.eq {c : List S44} {S : Nat → Prop} {m1 m2 : List Bool} (h1 : Least c S m1) (h2 : Least c S m2) : m1 = m2 := by
  apply List.ext_getElem (h1.len.trans h2.len.symm)
  intro i ha hb
  have e : ∀ (m : List Bool) (h : i < m.length), m[i] = getB m i := fun m h => by unfold getB; rw [List.getD_eq_getElem?_getD, List.getElem?_eq_getElem h]; rfl
  rw [e m1 ha, e m2 hb, Bool.eq_iff_iff]
  constructor
  · intro h
    exact h1.min (fun j => getB m2 j = true) h2.base h2.closed i h
  · intro h
    exact h2.min (fun j => getB m1 j = true) h1.base h1.closed i h

theorem Least.congr {c : List S44} {S T : Nat → Prop} {m : List Bool} (h : Least c S m) (hST : ∀ j, j < c.length → (S j ↔ T j)) : Least c T m :=
  ⟨h.len, fun j hj ht => h.base j hj ((hST j hj).mpr ht), h.closed, fun P hP => h.min P (fun j hj hs => hP j hj ((hST j hj).mp hs))⟩

/-! The program. -/
theorem reached_step (k : Nat) (c : List S44) (m : List Bool) (st : List Int) (x : Int) (hm : m.length = c.length) (h0 : 0 ≤ x) (h1 : x < (c.length : Int)) (hl : st.length ≤ 1000000) :
    impl_reached.l0 (k + 1) c m (st ++ [x]) = if getB m x.toNat = true then impl_reached.l0 k c m st else
      if (c.getD x.toNat z44).f0 = true then impl_reached.l0 k c (m.set x.toNat true) st else impl_reached.l0 k c (m.set x.toNat true) (st ++ [(c.getD x.toNat z44).f2, (c.getD x.toNat z44).f3]) := by
  have hlen : ((st ++ [x]).length : Int) = (st.length : Int) + 1 := by simp
  have hw : wrap64 (((st ++ [x]).length : Int) - 1) = (st.length : Int) := by rw [hlen, w64 (by omega) (by omega)]; omega
  have hr : rd (st ++ [x]) (st.length : Int) = x := by unfold rd; rw [Int.toNat_natCast, List.getD_eq_getElem?_getD]; simp
  have ht : (st ++ [x]).take st.length = st := by rw [List.take_left]
  obtain ⟨j, rfl⟩ : ∃ j : Nat, x = (j : Int) := ⟨x.toNat, by omega⟩
  simp only [impl_reached.l0, hw, hr, ht, impl_always.f, Option.bind_some, rdB, Int.toNat_natCast]
  rw [if_pos (by omega), if_pos (by omega), if_pos (by omega), if_pos (by omega), if_pos (by omega), if_pos (by omega)]
  by_cases hb : getB m j = true
  · rw [if_pos hb, if_pos hb]
  · rw [if_neg hb, if_neg hb, if_pos (by omega)]
    have e : rd_T44 c (j : Int) = c.getD j z44 := rdC c j
    rw [e]
    by_cases hf : (c.getD j z44).f0 = true
    · rw [if_pos hf, if_pos hf]
    · rw [if_neg hf, if_neg hf]
      simp only [if_true]
      rw [if_pos (by simp; omega)]

theorem reached_l0 (c : List S44) (hc : cellsOk c = true) (hn : c.length ≤ 200) (S : Nat → Prop) : ∀ (d : Nat) (m : List Bool) (st : List Int), 2 * m.count false + st.length ≤ d → d ≤ 100000 → m.length = c.length →
    (∀ x ∈ st, 0 ≤ x ∧ x < (c.length : Int)) → (∀ j, j < c.length → S j → getB m j = true ∨ (j : Int) ∈ st) →
    (∀ i, i < c.length → getB m i = true → pairAt c i = true → (getB m (pA c i) = true ∨ (pA c i : Int) ∈ st) ∧ (getB m (pB c i) = true ∨ (pB c i : Int) ∈ st)) →
    (∀ P : Nat → Prop, (∀ j, j < c.length → S j → P j) → (∀ i, i < c.length → P i → pairAt c i = true → P (pA c i) ∧ P (pB c i)) → (∀ j, getB m j = true → P j) ∧ ∀ x ∈ st, P x.toNat) →
    ∃ r, Least c S r ∧ Ev (fun k => impl_reached.l0 k c m st) r := by
  intro d
  induction d with
  | zero =>
    intro m st hd _ hm hst hbase hcl hmin
    have h0 : st = [] := List.length_eq_zero_iff.mp (by omega)
    subst h0
    refine ⟨m, ⟨hm, fun j hj hs => (hbase j hj hs).resolve_right (by simp), fun i hi hb hp => ?_, fun P h1 h2 => (hmin P h1 h2).1⟩, Ev.succ (Ev.congr (fun k => ?_) (Ev.now m))⟩
    · have := hcl i hi hb hp
      exact ⟨this.1.resolve_right (by simp), this.2.resolve_right (by simp)⟩
    · simp only [impl_reached.l0]
      rw [if_neg (by simp)]
  | succ d ih =>
    intro m st hd hdd hm hst hbase hcl hmin
    rcases List.eq_nil_or_concat st with rfl | ⟨st', x, rfl⟩
    · refine ⟨m, ⟨hm, fun j hj hs => (hbase j hj hs).resolve_right (by simp), fun i hi hb hp => ?_, fun P h1 h2 => (hmin P h1 h2).1⟩, Ev.succ (Ev.congr (fun k => ?_) (Ev.now m))⟩
      · have := hcl i hi hb hp
        exact ⟨this.1.resolve_right (by simp), this.2.resolve_right (by simp)⟩
      · simp only [impl_reached.l0]
        rw [if_neg (by simp)]
    · rw [List.concat_eq_append] at *
      have hx := hst x (by simp)
      have hst' : ∀ y ∈ st', 0 ≤ y ∧ y < (c.length : Int) := fun y hy => hst y (by simp [hy])
      have hl : st'.length + 1 + 2 * m.count false ≤ d + 1 := by simp at hd; omega
      have hstep := fun k => reached_step k c m st' x hm hx.1 hx.2 (by omega)
      have hxm : x.toNat < m.length := by omega
      by_cases hb : getB m x.toNat = true
      · have key : ∀ j : Nat, (j : Int) ∈ st' ++ [x] → getB m j = true ∨ (j : Int) ∈ st' := by
          intro j hj
          rcases List.mem_append.mp hj with h | h
          · exact .inr h
          · have : (j : Int) = x := by simpa using h
            exact .inl (by rw [← hb]; congr 1; omega)
        obtain ⟨r, hr, hev⟩ := ih m st' (by omega) (by omega) hm hst' (fun j hj hs => (hbase j hj hs).elim .inl (key j))
          (fun i hi hbi hp => ⟨(hcl i hi hbi hp).1.elim .inl (key _), (hcl i hi hbi hp).2.elim .inl (key _)⟩) (fun P h1 h2 => ⟨(hmin P h1 h2).1, fun y hy => (hmin P h1 h2).2 y (by simp [hy])⟩)
        exact ⟨r, hr, Ev.step (fun k => (hstep k).trans (if_pos hb)) hev⟩
      · have hbf : getB m x.toNat = false := Bool.eq_false_iff.mpr hb
        have hcnt := cnt_set m x.toNat hxm hbf
        have hm' : (m.set x.toNat true).length = c.length := by simpa using hm
        have up : ∀ j, getB m j = true → getB (m.set x.toNat true) j = true := fun j h => by rw [getB_set m _ _ hxm, h]; rfl
        have hit : ∀ j : Nat, (j : Int) = x → getB (m.set x.toNat true) j = true := fun j h => by rw [getB_set m _ _ hxm, decide_eq_true (by omega), Bool.or_true]
        have key : ∀ j : Nat, (j : Int) ∈ st' ++ [x] → getB (m.set x.toNat true) j = true ∨ (j : Int) ∈ st' := by
          intro j hj
          rcases List.mem_append.mp hj with h | h
          · exact .inr h
          · exact .inl (hit j (by simpa using h))
        have isx : ∀ i, getB (m.set x.toNat true) i = true → getB m i = true ∨ i = x.toNat := by
          intro i h
          rw [getB_set m _ _ hxm, Bool.or_eq_true, decide_eq_true_iff] at h
          exact h.imp id Eq.symm
        by_cases hf : (c.getD x.toNat z44).f0 = true
        · have np : pairAt c x.toNat = false := by unfold pairAt; rw [hf]; rfl
          obtain ⟨r, hr, hev⟩ := ih (m.set x.toNat true) st' (by omega) (by omega) hm' hst' (fun j hj hs => (hbase j hj hs).elim (fun h => .inl (up j h)) (key j))
            (fun i hi hbi hp => by
              rcases isx i hbi with h | h
              · exact ⟨(hcl i hi h hp).1.elim (fun h => .inl (up _ h)) (key _), (hcl i hi h hp).2.elim (fun h => .inl (up _ h)) (key _)⟩
              · rw [h, np] at hp; cases hp)
            (fun P h1 h2 => ⟨fun j hj => (isx j hj).elim ((hmin P h1 h2).1 j) (fun e => by rw [e]; exact (hmin P h1 h2).2 x (by simp)), fun y hy => (hmin P h1 h2).2 y (by simp [hy])⟩)
          exact ⟨r, hr, Ev.step (fun k => ((hstep k).trans (if_neg hb)).trans (if_pos hf)) hev⟩
        · have hp : pairAt c x.toNat = true := by unfold pairAt; rw [Bool.eq_false_iff.mpr hf]; rfl
          have hlt := parts_lt hc (by omega) hp
          have eA : ((pA c x.toNat : Nat) : Int) = (c.getD x.toNat z44).f2 := by unfold pA; omega
          have eB : ((pB c x.toNat : Nat) : Int) = (c.getD x.toNat z44).f3 := by unfold pB; omega
          have key2 : ∀ j : Nat, (getB (m.set x.toNat true) j = true ∨ (j : Int) ∈ st') → getB (m.set x.toNat true) j = true ∨ (j : Int) ∈ st' ++ [(c.getD x.toNat z44).f2, (c.getD x.toNat z44).f3] := fun j h => h.imp id (fun h => by simp [h])
          obtain ⟨r, hr, hev⟩ := ih (m.set x.toNat true) (st' ++ [(c.getD x.toNat z44).f2, (c.getD x.toNat z44).f3]) (by simp; omega) (by omega) hm'
            (fun y hy => by
              rcases List.mem_append.mp hy with h | h
              · exact hst' y h
              · simp only [List.mem_cons, List.mem_nil_iff, or_false] at h; rcases h with rfl | rfl <;> omega)
            (fun j hj hs => key2 j ((hbase j hj hs).elim (fun h => .inl (up j h)) (key j)))
            (fun i hi hbi hpi => by
              rcases isx i hbi with h | h
              · exact ⟨key2 _ ((hcl i hi h hpi).1.elim (fun h => .inl (up _ h)) (key _)), key2 _ ((hcl i hi h hpi).2.elim (fun h => .inl (up _ h)) (key _))⟩
              · subst h
                exact ⟨.inr (by rw [eA]; simp), .inr (by rw [eB]; simp)⟩)
            (fun P h1 h2 => by
              have hx' := (hmin P h1 h2).2 x (by simp)
              have hpp := h2 x.toNat (by omega) hx' hp
              refine ⟨fun j hj => (isx j hj).elim ((hmin P h1 h2).1 j) (fun e => by rw [e]; exact hx'), fun y hy => ?_⟩
              rcases List.mem_append.mp hy with h | h
              · exact (hmin P h1 h2).2 y (by simp [h])
              · simp only [List.mem_cons, List.mem_nil_iff, or_false] at h
                rcases h with rfl | rfl
                · exact hpp.1
                · exact hpp.2)
          exact ⟨r, hr, Ev.step (fun k => ((hstep k).trans (if_neg hb)).trans (if_neg hf)) hev⟩

theorem getB_rep (n j : Nat) : getB (List.replicate n false) j = false := by
  unfold getB
  rw [List.getD_eq_getElem?_getD, List.getElem?_replicate]
  split <;> rfl

theorem clone_eq (l : List Int) (h : l.length ≤ 1000000) : slices_Clone_int_int.f l = some l := by
  unfold slices_Clone_int_int.f
  simp only [Option.bind_some, List.nil_append, List.length_nil]
  rw [if_pos (by omega)]

/-- What the program marks: the least marks with what it begins with. -/
theorem implReached (c : List S44) (st : List Int) (hc : cellsOk c = true) (hn : c.length ≤ 200) (hs : st.length ≤ 1000) (hr : rootsOk c.length st = true) :
    ∃ m, Least c (fun j => (j : Int) ∈ st) m ∧ Ev (fun k => impl_reached.f k c st) m := by
  have hr' : ∀ x ∈ st, 0 ≤ x ∧ x < (c.length : Int) := fun x hx => of_decide_eq_true (List.all_eq_true.mp hr x hx)
  obtain ⟨m, hm, hev⟩ := reached_l0 c hc hn (fun j => (j : Int) ∈ st) (2 * (List.replicate c.length false).count false + st.length) (List.replicate c.length false) st (Nat.le_refl _)
    (by rw [List.count_replicate_self]; omega) (by simp) hr' (fun j _ h => .inr h) (fun i _ h => by rw [getB_rep] at h; cases h)
    (fun P h1 h2 => ⟨fun j h => (by rw [getB_rep] at h; cases h), fun x hx => h1 x.toNat (by have := hr' x hx; omega) (by have := hr' x hx; rw [show ((x.toNat : Nat) : Int) = x by omega]; exact hx)⟩)
  refine ⟨m, hm, ?_⟩
  unfold impl_reached.f
  refine Ev.ite_pos (by omega) (Ev.ite_pos (by omega) ?_)
  rw [clone_eq st (by omega), Int.toNat_natCast]
  exact hev

/-! The reference. -/
def markAll (m : List Bool) (rs : List Int) : List Bool := rs.foldl (fun m r => m.set r.toNat true) m
theorem markAll_len : ∀ (rs : List Int) (m : List Bool), (markAll m rs).length = m.length
  | [], m => rfl
  | r :: rs, m => by show (markAll (m.set r.toNat true) rs).length = _; rw [markAll_len rs]; simp
theorem getB_markAll : ∀ (rs : List Int) (m : List Bool) (j : Nat), (∀ r ∈ rs, 0 ≤ r ∧ r < (m.length : Int)) → (getB (markAll m rs) j = true ↔ getB m j = true ∨ (j : Int) ∈ rs)
  | [], m, j, _ => by show getB m j = true ↔ _; simp
  | r :: rs, m, j, h => by
    have hr := h r (by simp)
    show getB (markAll (m.set r.toNat true) rs) j = true ↔ _
    rw [getB_markAll rs _ j (fun x hx => by have := h x (by simp [hx]); simpa using this), getB_set m _ _ (by omega), Bool.or_eq_true, decide_eq_true_iff, List.mem_cons]
    constructor
    · rintro ((h1 | h1) | h1)
      · exact .inl h1
      · exact .inr (.inl (by omega))
      · exact .inr (.inr h1)
    · rintro (h1 | h1 | h1)
      · exact .inl (.inl h1)
      · exact .inl (.inr (by omega))
      · exact .inr h1

def down1 (c : List S44) (i : Nat) (m : List Bool) : List Bool := if getB m i = true then (if pairAt c i = true then (m.set (pA c i) true).set (pB c i) true else m) else m
def passDown (c : List S44) : Nat → List Bool → List Bool
  | 0, m => m
  | i + 1, m => passDown c i (down1 c i m)

theorem down1_len (c : List S44) (i : Nat) (m : List Bool) : (down1 c i m).length = m.length := by
  unfold down1
  split
  · split
    · simp
    · rfl
  · rfl
theorem passDown_len (c : List S44) : ∀ (i : Nat) (m : List Bool), (passDown c i m).length = m.length
  | 0, m => rfl
  | i + 1, m => by show (passDown c i (down1 c i m)).length = _; rw [passDown_len c i, down1_len]
theorem down1_mono {c : List S44} {i : Nat} {m : List Bool} (hc : cellsOk c = true) (hm : m.length = c.length) (hi : i < c.length) {j : Nat} (h : getB m j = true) : getB (down1 c i m) j = true := by
  unfold down1
  split
  · split
    · rename_i hp
      have hl := parts_lt hc hi hp
      have hA : pA c i < m.length := by unfold pA; omega
      have hB : pB c i < m.length := by unfold pB; omega
      rw [getB_set _ _ _ (by simpa using hB), getB_set _ _ _ hA, h]; rfl
    · exact h
  · exact h
theorem passDown_mono {c : List S44} (hc : cellsOk c = true) {j : Nat} : ∀ (i : Nat) (m : List Bool), m.length = c.length → i ≤ c.length → getB m j = true → getB (passDown c i m) j = true
  | 0, m, _, _, h => h
  | i + 1, m, hm, hi, h => passDown_mono hc i (down1 c i m) ((down1_len c i m).trans hm) (by omega) (down1_mono hc hm (by omega) h)
/-- What lies from i on is left as it is. -/
theorem down1_high {c : List S44} {i : Nat} {m : List Bool} (hc : cellsOk c = true) (hm : m.length = c.length) (hi : i < c.length) {j : Nat} (hj : i ≤ j) : getB (down1 c i m) j = getB m j := by
  unfold down1
  split
  · split
    · rename_i hp
      have hl := parts_lt hc hi hp
      have hA : pA c i < i := by unfold pA; omega
      have hB : pB c i < i := by unfold pB; omega
      rw [getB_set _ _ _ (by simp; omega), getB_set _ _ _ (by omega), decide_eq_false (by omega), decide_eq_false (by omega), Bool.or_false, Bool.or_false]
    · rfl
  · rfl
theorem passDown_high {c : List S44} (hc : cellsOk c = true) {j : Nat} : ∀ (i : Nat) (m : List Bool), m.length = c.length → i ≤ c.length → i ≤ j → getB (passDown c i m) j = getB m j
  | 0, m, _, _, _ => rfl
  | i + 1, m, hm, hi, hj => (passDown_high hc i (down1 c i m) ((down1_len c i m).trans hm) (by omega) (by omega)).trans (down1_high hc hm (by omega) (by omega))
theorem passDown_closed {c : List S44} (hc : cellsOk c = true) : ∀ (i : Nat) (m : List Bool), m.length = c.length → i ≤ c.length → ∀ q, q < i → getB (passDown c i m) q = true → pairAt c q = true →
    getB (passDown c i m) (pA c q) = true ∧ getB (passDown c i m) (pB c q) = true
  | 0, m, _, _, q, h, _, _ => by omega
  | i + 1, m, hm, hi, q, hq, hb, hp => by
    have hm' := (down1_len c i m).trans hm
    by_cases e : q = i
    · subst e
      have h1 : getB (down1 c q m) q = true := by
        have := passDown_high hc q (down1 c q m) hm' (by omega) (Nat.le_refl q)
        rw [← this]; exact hb
      have h2 : getB m q = true := by rw [down1_high hc hm (by omega) (Nat.le_refl q)] at h1; exact h1
      have hl := parts_lt hc (show q < c.length by omega) hp
      have hA : pA c q < m.length := by unfold pA; omega
      have hB : pB c q < m.length := by unfold pB; omega
      have e1 : down1 c q m = (m.set (pA c q) true).set (pB c q) true := by unfold down1; rw [if_pos h2, if_pos hp]
      refine ⟨passDown_mono hc q _ hm' (by omega) ?_, passDown_mono hc q _ hm' (by omega) ?_⟩
      · rw [e1, getB_set _ _ _ (by simpa using hB), getB_set _ _ _ hA]; simp
      · rw [e1, getB_set _ _ _ (by simpa using hB)]; simp
    · exact passDown_closed hc i (down1 c i m) hm' (by omega) q (by omega) hb hp
theorem passDown_min {c : List S44} (hc : cellsOk c = true) (P : Nat → Prop) (h2 : ∀ i, i < c.length → P i → pairAt c i = true → P (pA c i) ∧ P (pB c i)) : ∀ (i : Nat) (m : List Bool), m.length = c.length → i ≤ c.length →
    (∀ j, getB m j = true → P j) → ∀ j, getB (passDown c i m) j = true → P j
  | 0, m, _, _, h, j, hj => h j hj
  | i + 1, m, hm, hi, h, j, hj => by
    refine passDown_min hc P h2 i (down1 c i m) ((down1_len c i m).trans hm) (by omega) ?_ j hj
    intro j hj
    unfold down1 at hj
    split at hj
    · rename_i hb
      split at hj
      · rename_i hp
        have hl := parts_lt hc (show i < c.length by omega) hp
        have hA : pA c i < m.length := by unfold pA; omega
        have hB : pB c i < m.length := by unfold pB; omega
        have hh := h2 i (by omega) (h i hb) hp
        rw [getB_set _ _ _ (by simpa using hB), getB_set _ _ _ hA, Bool.or_eq_true, Bool.or_eq_true, decide_eq_true_iff, decide_eq_true_iff] at hj
        rcases hj with (hj | rfl) | rfl
        · exact h j hj
        · exact hh.1
        · exact hh.2
      · exact h j hj
    · exact h j hj

theorem least_spec {c : List S44} (hc : cellsOk c = true) (m : List Bool) (hm : m.length = c.length) : Least c (fun j => getB m j = true) (passDown c c.length m) :=
  ⟨(passDown_len c _ m).trans hm, fun j _ h => passDown_mono hc _ m hm (Nat.le_refl _) h, fun i hi hb hp => passDown_closed hc _ m hm (Nat.le_refl _) i hi hb hp,
    fun P h1 h2 => passDown_min hc P h2 _ m hm (Nat.le_refl _) (fun j hj => h1 j (by have := getB_lt hj; omega) hj)⟩

theorem keep_l1 (old : Int) (c : List S44) (r : List Int) (hc : cellsOk c = true) (hn : c.length ≤ 200) : ∀ (i : Nat) (m : List Bool), m.length = c.length → i ≤ c.length →
    Ev (fun k => spec_l7Keep.l1 k m ((i : Int) - 1) old c r) (passDown c i m)
  | 0, m, hm, hi => by
    refine Ev.succ (Ev.congr (fun k => ?_) (Ev.now m))
    simp only [spec_l7Keep.l1]
    rw [if_neg (by omega)]
  | i + 1, m, hm, hi => by
    have e1 : ((i + 1 : Nat) : Int) - 1 = (i : Int) := by omega
    refine Ev.step (f := fun k => spec_l7Keep.l1 k (down1 c i m) ((i : Int) - 1) old c r) (fun k => ?_) (keep_l1 old c r hc hn i (down1 c i m) ((down1_len c i m).trans hm) (by omega))
    simp only [spec_l7Keep.l1, e1]
    rw [if_pos (by omega), if_pos (by omega), if_pos (by omega), if_pos (by omega), rdB, rdC, w64 (by omega) (by omega)]
    unfold down1
    by_cases hb : getB m i = true
    · rw [if_pos hb, if_pos hb]
      by_cases hf : (c.getD i z44).f0 = true
      · rw [if_pos hf, if_neg (by unfold pairAt; rw [hf]; decide)]
      · have hp : pairAt c i = true := by unfold pairAt; rw [Bool.eq_false_iff.mpr hf]; rfl
        have hl := parts_lt hc (show i < c.length by omega) hp
        rw [if_neg hf, if_pos hp, if_pos (by omega), if_pos (by omega), if_pos (by omega), if_pos (by omega)]
        rfl
    · rw [if_neg hb, if_neg hb]

theorem keep_l0 (old : Int) (c : List S44) (r : List Int) (hc : cellsOk c = true) (hn : c.length ≤ 200) (hr : r.length ≤ 60) (hro : rootsOk c.length r = true) : ∀ (d i : Nat) (m : List Bool), i + d = r.length → m.length = c.length →
    Ev (fun k => spec_l7Keep.l0 k m r r.length i old c r) (passDown c c.length (markAll m (r.drop i))) := by
  have hr' : ∀ x ∈ r, 0 ≤ x ∧ x < (c.length : Int) := fun x hx => of_decide_eq_true (List.all_eq_true.mp hro x hx)
  intro d
  induction d with
  | zero =>
    intro i m hi hm
    refine Ev.step (f := fun k => spec_l7Keep.l1 k m ((c.length : Int) - 1) old c r) (fun k => ?_) ?_
    · simp only [spec_l7Keep.l0]
      rw [if_neg (by omega), w64 (by omega) (by omega)]
    · rw [List.drop_of_length_le (by omega)]
      exact keep_l1 old c r hc hn c.length m hm (Nat.le_refl _)
  | succ d ih =>
    intro i m hi hm
    have hlt : i < r.length := by omega
    have hx := hr' r[i] (List.getElem_mem hlt)
    have e : rd r (i : Int) = r[i] := by rw [rdI, List.getD_eq_getElem?_getD, List.getElem?_eq_getElem hlt]; rfl
    refine Ev.step (f := fun k => spec_l7Keep.l0 k (m.set r[i].toNat true) r r.length ((i + 1 : Nat) : Int) old c r) (fun k => ?_) ?_
    · simp only [spec_l7Keep.l0, e]
      rw [if_pos (by omega), if_pos (by omega), if_pos (by omega), if_pos (by omega), if_pos (by omega), next i hlt (by omega)]
    · refine Ev.of_eq (ih (i + 1) (m.set r[i].toNat true) (by omega) (by simpa using hm)) ?_
      rw [List.drop_eq_getElem_cons hlt]
      rfl

/-- What the reference keeps: the least marks with what it begins with and the roots. -/
theorem specKeep (old : Int) (c : List S44) (r : List Int) (m : List Bool) (hc : cellsOk c = true) (hn : c.length ≤ 200) (hr : r.length ≤ 60) (hro : rootsOk c.length r = true) (hm : m.length = c.length) :
    ∃ m', Least c (fun j => getB m j = true ∨ (j : Int) ∈ r) m' ∧ Ev (fun k => spec_l7Keep.f k old c r m) m' := by
  have hr' : ∀ x ∈ r, 0 ≤ x ∧ x < (m.length : Int) := fun x hx => by rw [hm]; exact of_decide_eq_true (List.all_eq_true.mp hro x hx)
  refine ⟨_, (least_spec hc (markAll m r) ((markAll_len r m).trans hm)).congr (fun j hj => getB_markAll r m j hr'), ?_⟩
  unfold spec_l7Keep.f
  exact keep_l0 old c r hc hn hr hro r.length 0 m (by omega) hm
end Go.Proofs.Ytcbgjcnekdoloaa.HeapL

namespace Go.Proofs.Ytcbgjcnekdoloaa.G
open Go.RowKit Go.Proofs.YtcbgjcnekdoloaaW.PrintWords Go.Proofs.YtcbgjcnekdoloaaW.PrintLast Go.Proofs.YtcbgjcnekdoloaaW.PrintMore Go.Proofs.Ytcbgjcnekdoloaa.Short
attribute [local go_sem] max2_int min2_int max_two min_two max_three min_three max_four min_four   -- for this text's walks alone
set_option linter.unusedVariables false
set_option linter.unusedSimpArgs false

/-! ### spec_l7Collect: function 36 -/
def spec_l7Collect.f (k : Nat) (a0_0 : Int) (l0_1 : List (S44)) (l0_2 : List Int) : Option (Int × (List (S44)) × List Int) := if 0 ≤ (l0_1.length : Int) then (if ((l0_1.length : Int) : Int).toNat ≤ 281474976710656 then ((spec_l7Keep.f k a0_0 l0_1 l0_2 (List.replicate ((l0_1.length : Int) : Int).toNat false)).bind fun t106 => ((spec_l7Move.f k a0_0 l0_1 l0_2 t106).bind fun bt109 => (some (bt109.1, bt109.2.1, bt109.2.2)))) else (none)) else (none)
def spec_l7Collect.T1 : Bool × List (List Nat × List Nat) := (true, [([], []), ([], []), ([], []), ([2], [2]), ([3], [3]), ([4, 4], [4]), ([1, 5], [1, 5]), ([0, 6, 6], [0, 6]), ([7, 7, 0, 1, 2, 3, 4, 5, 6, 7], [7])])
def spec_l7Collect.B1 : List Nat := [0, 0, 0, 4, 12, 28, 62, 127, 255]
theorem spec_l7Collect.tab1 : rtab .any (opsOf Try.f36 1) = spec_l7Collect.T1 := by kernel_rfl
theorem spec_l7Collect.bits1 : waitsOk spec_l7Collect.T1.2 spec_l7Collect.B1 = true := by kernel_rfl
set_option maxHeartbeats 8000000 in
set_option maxRecDepth 100000 in
theorem spec_l7Collect.calls (k : Nat) (a0_0 : Int) (A0_1 : Option Addr) (c0_1 : Nat) (l0_1 : List (S44)) (A0_2 : Option Addr) (c0_2 : Nat) (l0_2 : List Int) (r1 : Int) (r2 : List (S44)) (r3 : List Int) (w : World) (hr0_1 : Kd.C k44 w A0_1 l0_1.length l0_1) (hc0_1 : l0_1.length ≤ c0_1) (hr0_2 : Kd.C (Kd.int .i64) w A0_2 l0_2.length l0_2) (hc0_2 : l0_2.length ≤ c0_2) (h : spec_l7Collect.f k a0_0 l0_1 l0_2 = some (r1, r2, r3)) :
    Calls Try.prog 36 #[.agg #[.int .i64 a0_0, .slice A0_1 l0_1.length c0_1, .slice A0_2 l0_2.length c0_2]] w fun e w' => ∃ v1_ v2_ : Value, e = .returned (.agg #[.int .i64 r1, v1_, v2_]) ∧ Kd.R k44 44 w' w.heap.size (fun _ => True) v1_ r2 ∧ Kd.R (Kd.int .i64) 3 w' w.heap.size (fun _ => True) v2_ r3 ∧ Below w.heap.size w w' := by
  have hu30 := Try.underlying30
  have HR0_1 := aM hr0_1
  have HC0_1 := aM hc0_1
  clear hr0_1 hc0_1
  have HR0_2 := aM hr0_2
  have HC0_2 := aM hc0_2
  clear hr0_2 hc0_2
  have HB := aM (Below.refl w.heap.size w)
  have H : (if 0 ≤ (l0_1.length : Int) then (if ((l0_1.length : Int) : Int).toNat ≤ 281474976710656 then ((spec_l7Keep.f k a0_0 l0_1 l0_2 (List.replicate ((l0_1.length : Int) : Int).toNat false)).bind fun t106 => ((spec_l7Move.f k a0_0 l0_1 l0_2 t106).bind fun bt109 => (some (bt109.1, bt109.2.1, bt109.2.2)))) else (none)) else (none)) = some (r1, r2, r3) := h
  clear h
  by_cases c2 : 0 ≤ (l0_1.length : Int)
  · rw [if_pos c2] at H
    have c2b0 := eq_true c2
    have c2b1 : decide (0 ≤ (l0_1.length : Int)) = true := decide_eq_true c2
    clear c2
    by_cases c3 : ((l0_1.length : Int) : Int).toNat ≤ 281474976710656
    · rw [if_pos c3] at H
      have c3b0 := eq_true c3
      have c3b1 : decide (((l0_1.length : Int) : Int).toNat ≤ 281474976710656) = true := decide_eq_true c3
      clear c3
      obtain ⟨y103, hy103⟩ : ∃ y_ : List Bool, y_ = (List.replicate ((l0_1.length : Int) : Int).toNat false) := ⟨_, rfl⟩
      replace H : ((spec_l7Keep.f k a0_0 l0_1 l0_2 y103).bind fun t106 => ((spec_l7Move.f k a0_0 l0_1 l0_2 t106).bind fun bt109 => (some (bt109.1, bt109.2.1, bt109.2.2)))) = some (r1, r2, r3) := by first | (rw [hy103]; with_reducible exact H) | (have H2_ := (Option.bind_some _ _).symm.trans H; rw [hy103]; with_reducible exact H2_) | (have H2_ := (Option.bind_some _ _).symm.trans H; with_reducible exact H2_) | with_reducible exact H | (rw [hy103]; exact H) | exact H
      have Ny103 := aM hy103
      clear hy103
      replace H := Option.bind_eq_some_iff.mp H
      obtain ⟨t106, A40, H⟩ := H
      replace H : ((spec_l7Move.f k a0_0 l0_1 l0_2 t106).bind fun bt109 => (some (bt109.1, bt109.2.1, bt109.2.2))) = some (r1, r2, r3) := H
      have A4 := aM A40
      clear A40
      replace H := Option.bind_eq_some_iff.mp H
      obtain ⟨⟨t109, t110, t113⟩, A50, H⟩ := H
      replace H : (some (t109, t110, t113)) = some (r1, r2, r3) := H
      have A5 := aM A50
      clear A50
      simp only [Option.some.injEq, Prod.mk.injEq] at H
      obtain ⟨rfl, rfl, rfl⟩ := H
      go_enter Try.func36, Try.ntmps36
      try go_wp2_with (first | ((with_reducible refine gate_dst (N := 1) rfl ?_); refine box_event ?hg (N := 1) ?hd (cs := #[.int .i64 a0_0, .slice A0_1 l0_1.length c0_1, .slice A0_2 l0_2.length c0_2]) (t := 30) ?hr ?_; (case hd => rfl); (case hg => rfl); (case hr => first | (go_simp; done) | (go_simp; rfl)); intro gb101 hg w6 hbox hb; have n0_ := aM (below_step (by repeat (first | (with_reducible first | exact HB.out | apply below_alloc | apply pw_below_drewN | apply below_drew1) | exact HB.out)) hb); have n1_ := aM (hbox); have n2_ := aM ((by rw [hg]; exact (below_size (by repeat (first | (with_reducible first | exact HB.out | apply below_alloc | apply pw_below_drewN | apply below_drew1) | exact HB.out))) : w.heap.size ≤ gb101)); have n3_ := aM ((by rw [hg]; exact (below_size (by repeat (first | (with_reducible first | exact HB.out | apply below_alloc | apply pw_below_drewN | apply below_drew1) | exact HB.out))) : w.heap.size ≤ gb101)); clear HB; have HB := n0_; have BK101 := n1_; have GW101 := n2_; have GE101 := n3_; clear n0_ n1_ n2_ n3_; clear hb hbox hg) | ((with_reducible refine gate_dst (N := 2) rfl ?_); refine box_event ?hg (N := 2) ?hd (cs := #[.int .i64 0, .slice none 0 0, .slice none 0 0]) (t := 30) ?hr ?_; (case hd => rfl); (case hg => rfl); (case hr => first | (go_simp; done) | (go_simp; rfl)); intro gb102 hg w7 hbox hb; have n0_ := aM (blk_below (g := gb101) (o := .cells #[.int .i64 a0_0, .slice A0_1 l0_1.length c0_1, .slice A0_2 l0_2.length c0_2] 30 (0, 0)) (by (with_reducible repeat (first | refine bN ?_ _ | refine bD ?_ | refine bA ?_ _)); exact BK101.out) hb); have n1_ := aM (below_step (by repeat (first | (with_reducible first | exact HB.out | apply below_alloc | apply pw_below_drewN | apply below_drew1 | refine below_set ?_ GE101.out) | exact HB.out)) hb); have n2_ := aM (hbox); have n3_ := aM ((by rw [hg]; exact (below_size (by repeat (first | (with_reducible first | exact HB.out | apply below_alloc | apply pw_below_drewN | apply below_drew1 | refine below_set ?_ GE101.out) | exact HB.out))) : w.heap.size ≤ gb102)); have n4_ := aM ((by rw [hg]; exact (below_size (by repeat (first | (with_reducible first | exact HB.out | apply below_alloc | apply pw_below_drewN | apply below_drew1 | refine below_set ?_ GE101.out) | exact HB.out))) : w.heap.size ≤ gb102)); have n5_ := aM ((by rw [hg]; exact Nat.ne_of_lt (blk_lt (g := gb101) (o := .cells #[.int .i64 a0_0, .slice A0_1 l0_1.length c0_1, .slice A0_2 l0_2.length c0_2] 30 (0, 0)) (by (with_reducible repeat (first | refine bN ?_ _ | refine bD ?_ | refine bA ?_ _)); exact BK101.out)) : gb101 ≠ gb102)); have n6_ := aM ((by rw [hg]; exact Nat.ne_of_gt (blk_lt (g := gb101) (o := .cells #[.int .i64 a0_0, .slice A0_1 l0_1.length c0_1, .slice A0_2 l0_2.length c0_2] 30 (0, 0)) (by (with_reducible repeat (first | refine bN ?_ _ | refine bD ?_ | refine bA ?_ _)); exact BK101.out)) : gb102 ≠ gb101)); clear BK101; clear HB; have BK101 := n0_; have HB := n1_; have BK102 := n2_; have GW102 := n3_; have GE102 := n4_; have NB101_102 := n5_; have NB102_101 := n6_; clear n0_ n1_ n2_ n3_ n4_ n5_ n6_; clear hb hbox hg))
      have n0_ := aM (blk_drew BK101.out)
      have n1_ := aM (blk_drew BK102.out)
      have n2_ := aM (below_drew1 HB.out)
      clear BK101
      clear BK102
      clear HB
      have BK101 := n0_
      have BK102 := n1_
      have HB := n2_
      clear n0_ n1_ n2_
      refine start_ (n := 9) (S := fun w' => w'.cell? ⟨gb101, 0, none⟩ = some (.int .i64 a0_0) ∧ w'.cell? ⟨gb101, 1, none⟩ = some (.slice A0_1 l0_1.length c0_1) ∧ w'.cell? ⟨gb101, 2, none⟩ = some (.slice A0_2 l0_2.length c0_2)) (ds := []) #[false, false, false, false, false, false, false, false, false] (by kernel_rfl) rfl rfl ⟨(blk_cell BK101.out 0).trans rfl, (blk_cell BK101.out 1).trans rfl, (blk_cell BK101.out 2).trans rfl⟩ (fun hHeld => ?_); refine with_tabW spec_l7Collect.tab1 spec_l7Collect.bits1 (fun HT_ HW_ => ?_)
      generalize w7.drew = w8 at BK101 BK102 HB hHeld ⊢
      refine pure_ (i := 2) (N := some 5) (v := ?_) (a' := ?_) #[false, false, true, false, false, false, false, false, false] rfl rfl (any_of HT_.out (by kernel_rfl)) (fun _ _ _ h => h) (Or.inl ⟨by rfl, ?_⟩) ?_ ?_
      rotate_left
      · intro w'
        go_simp
        with_reducible rfl
      rotate_left
      · simp only [Act.put, List.setIfInBounds_toArray, List.set_cons_zero, List.set_cons_succ, i64_w, i32_w]
        rfl
      refine take_ (i := 0) (N := some 3) (v := ?_) (a' := ?_) #[true, false, true, false, false, false, false, false, false] rfl rfl (take_ofW HT_.out HW_.out (by kernel_rfl)) (fun _ _ _ h => h) (Or.inl ⟨by rfl, ?_⟩) hHeld ?_ ?_
      rotate_left
      · rintro w' ⟨s0, s1, s2⟩
        go_simp
        with_reducible rfl
      rotate_left
      · simp only [Act.put, List.setIfInBounds_toArray, List.set_cons_zero, List.set_cons_succ, i64_w, i32_w]
        rfl
      refine take_ (i := 1) (N := some 4) (v := ?_) (a' := ?_) #[true, true, true, false, false, false, false, false, false] rfl rfl (take_ofW HT_.out HW_.out (by kernel_rfl)) (fun _ _ _ h => h) (Or.inl ⟨by rfl, ?_⟩) hHeld ?_ ?_
      rotate_left
      · rintro w' ⟨s0, s1, s2⟩
        go_simp
        with_reducible rfl
      rotate_left
      · simp only [Act.put, List.setIfInBounds_toArray, List.set_cons_zero, List.set_cons_succ, i64_w, i32_w]
        rfl
      refine take_ (i := 3) (N := some 6) (v := ?_) (a' := ?_) #[true, true, true, true, false, false, false, false, false] rfl rfl (take_ofW HT_.out HW_.out (by kernel_rfl)) (fun _ _ _ h => h) (Or.inl ⟨by rfl, ?_⟩) hHeld ?_ ?_
      rotate_left
      · rintro w' ⟨s0, s1, s2⟩
        go_simp
        with_reducible rfl
      rotate_left
      · simp only [Act.put, List.setIfInBounds_toArray, List.set_cons_zero, List.set_cons_succ, i64_w, i32_w]
        rfl
      refine pure_ (i := 4) (N := some 7) (v := ?_) (a' := ?_) #[true, true, true, true, true, false, false, false, false] rfl rfl (any_of HT_.out (by kernel_rfl)) (fun _ _ _ h => h) (Or.inl ⟨by rfl, ?_⟩) ?_ ?_
      rotate_left
      · intro w'
        go_simp
        with_reducible rfl
      rotate_left
      · simp only [Act.put, List.setIfInBounds_toArray, List.set_cons_zero, List.set_cons_succ, i64_w, i32_w]
        rfl
      refine one_ (i := 5) (N := some 8) #[true, true, true, true, true, true, false, false, false] rfl rfl (one_of HT_.out (by kernel_rfl)) (by decide) (fun K hK => ?_)
      refine Kd.R_make_step Kd.bool _ 4 (by rfl) (N := 8) rfl 50 _ _ rfl (l0_1.length : Int) rfl rfl Try.underlying50 (.bool false) 1 info4 rfl (by decide) (by omega) false (ok := fun _ => True) (okp := fun _ => True) rfl (fun _ hk => hk) trivial (of_decide_eq_true (by first | (with_reducible assumption) | assumption)) (Nat.le_trans (Nat.mul_le_mul_right _ (of_decide_eq_true (by first | (with_reducible assumption) | assumption) : (l0_1.length : Int).toNat ≤ 281474976710656)) (by omega)) (Below.refl _ _) (Nat.le_refl _) ?_
      intro v104 w9 ho10 hb hg_ hnew_
      clear hg_ hnew_
      (first | rw [← Ny103.out] at ho10 | (simp only [Int.reduceToNat] at ho10; rw [← Ny103.out] at ho10))
      have n0_ := aM (Kd.R_lower ho10 (below_size (by repeat (first | (with_reducible first | exact HB.out | apply below_alloc | apply pw_below_drewN | apply below_drew1 | refine below_set ?_ GE101.out | refine below_set ?_ GE102.out) | exact HB.out))))
      have n1_ := aM (blk_below (g := gb101) (o := .cells #[.int .i64 a0_0, .slice A0_1 l0_1.length c0_1, .slice A0_2 l0_2.length c0_2] 30 (0, 0)) (by (with_reducible repeat (first | refine bN ?_ _ | refine bD ?_ | refine bA ?_ _)); exact BK101.out) hb)
      have n2_ := aM (blk_below (g := gb102) (o := .cells #[.int .i64 0, .slice none 0 0, .slice none 0 0] 30 (0, 0)) (by (with_reducible repeat (first | refine bN ?_ _ | refine bD ?_ | refine bA ?_ _)); exact BK102.out) hb)
      have n3_ := aM (below_step (by repeat (first | (with_reducible first | exact HB.out | apply below_alloc | apply pw_below_drewN | apply below_drew1 | refine below_set ?_ GE101.out | refine below_set ?_ GE102.out) | exact HB.out)) hb)
      clear BK101
      clear BK102
      clear HB
      have HO105 := n0_
      have BK101 := n1_
      have BK102 := n2_
      have HB := n3_
      clear n0_ n1_ n2_ n3_
      clear hb ho10
      obtain ⟨Ao11, co11, eo11⟩ := Kd.R_slice HO105.out
      (first | subst eo11 | (injection eo11 with f1_ f2_ f3_; have f4_ := f1_.symm; have f5_ := f3_.symm; clear f1_ f2_ f3_; subst f4_; subst f5_))
      refine hK.out _ _ ⟨(blk_cell BK101.out 0).trans rfl, (blk_cell BK101.out 1).trans rfl, (blk_cell BK101.out 2).trans rfl⟩ (fun hHeld => ?_)
      clear hK K
      refine norm_ (a' := ?_) ?_ ?_
      rotate_left
      · show Act.put _ (some 8) _ = _
        simp only [Act.put, List.setIfInBounds_toArray, List.set_cons_zero, List.set_cons_succ, i64_w, i32_w]
        rfl
      refine one_ (i := 6) (N := some 9) #[true, true, true, true, true, true, true, false, false] rfl rfl (one_of HT_.out (by kernel_rfl)) (by decide) (fun K hK => ?_)
      refine goes_ Try.func31 (by kernel_rfl) rfl #[.agg #[.int .i64 a0_0, .slice A0_1 l0_1.length c0_1, .slice A0_2 l0_2.length c0_2], .slice Ao11 y103.length co11] (by rfl) rfl rfl (by (try simp only [List.map_toArray, List.map_cons, List.map_nil]); first | done | rfl | (simp only [List.length_drop, List.length_take]; rfl)) ?_
      with_reducible refine (spec_l7Keep.calls k a0_0 _ _ l0_1 _ _ l0_2 (fun k_ => some k_ = (.slice Ao11 y103.length co11 : Value).ownBlock) (.slice Ao11 y103.length co11) y103 t106 w _ ?side1 ?side2 ?side3 ?side4 ?side5 ?side6 A4.out).mono ?_
      (case side1 => repeat (first | (with_reducible first | exact HB.out | apply below_alloc | apply pw_below_drewN | apply below_drew1 | refine below_set ?_ GE101.out | refine below_set ?_ GE102.out) | exact HB.out))
      (case side2 => exact Kd.C_kept_came k44_heap HR0_1.out (by repeat (first | (with_reducible first | exact HB.out | apply below_alloc | apply pw_below_drewN | apply below_drew1 | refine below_set ?_ GE101.out | refine below_set ?_ GE102.out) | exact HB.out)) (fun k_ hs_ => (fun e_ => Kd.R_base HO105.out k_ e_.symm) hs_))
      (case side3 => exact HC0_1.out)
      (case side4 => exact Kd.C_kept_came (Kd.heap_int .i64) HR0_2.out (by repeat (first | (with_reducible first | exact HB.out | apply below_alloc | apply pw_below_drewN | apply below_drew1 | refine below_set ?_ GE101.out | refine below_set ?_ GE102.out) | exact HB.out)) (fun k_ hs_ => (fun e_ => Kd.R_base HO105.out k_ e_.symm) hs_))
      (case side5 => exact HC0_2.out)
      (case side6 => exact Kd.R_tight rfl HO105.out)
      rintro e w12 ⟨v107, rfl, ho0, hb, hkp⟩
      refine ⟨_, rfl, ?_⟩
      have n0_ := aM (blk_kept (by (with_reducible repeat (first | refine bN ?_ _ | refine bD ?_ | refine bA ?_ _)); exact BK101.out) hkp (fun hs_ => (fun e_ => (Kd.R_ne HO105.out BK101.out (by decide)) e_) hs_))
      have n1_ := aM (blk_kept (by (with_reducible repeat (first | refine bN ?_ _ | refine bD ?_ | refine bA ?_ _)); exact BK102.out) hkp (fun hs_ => (fun e_ => (Kd.R_ne HO105.out BK102.out (by decide)) e_) hs_))
      have n2_ := aM (Kd.R_mono (ok' := fun k_ => True) ho0 (fun k_ hk_ => trivial))
      have n3_ := aM (hb)
      clear BK101
      clear BK102
      clear HB
      clear HO105
      have BK101 := n0_
      have BK102 := n1_
      have HO108 := n2_
      have HB := n3_
      clear n0_ n1_ n2_ n3_
      (try clear hb)
      (try clear hkp)
      (try clear ho0)
      obtain ⟨Ao13, co13, eo13⟩ := Kd.R_slice HO108.out
      (first | subst eo13 | (injection eo13 with f1_ f2_ f3_; have f4_ := f1_.symm; have f5_ := f3_.symm; clear f1_ f2_ f3_; subst f4_; subst f5_))
      refine hK.out _ _ ⟨(blk_cell BK101.out 0).trans rfl, (blk_cell BK101.out 1).trans rfl, (blk_cell BK101.out 2).trans rfl⟩ (fun hHeld => ?_)
      clear hK K
      refine norm_ (a' := ?_) ?_ ?_
      rotate_left
      · show Act.put _ (some 9) _ = _
        simp only [Act.put, List.setIfInBounds_toArray, List.set_cons_zero, List.set_cons_succ, i64_w, i32_w]
        rfl
      refine one_ (i := 7) (N := some 10) #[true, true, true, true, true, true, true, true, false] rfl rfl (one_of HT_.out (by kernel_rfl)) (by decide) (fun K hK => ?_)
      refine goes_ Try.func47 (by kernel_rfl) rfl #[.agg #[.int .i64 a0_0, .slice A0_1 l0_1.length c0_1, .slice A0_2 l0_2.length c0_2], .slice Ao13 t106.length co13] (by rfl) rfl rfl (by (try simp only [List.map_toArray, List.map_cons, List.map_nil]); first | done | rfl | (simp only [List.length_drop, List.length_take]; rfl)) ?_
      with_reducible refine (spec_l7Move.calls k a0_0 _ _ l0_1 _ _ l0_2 _ _ t106 t109 t110 t113 _ ?side1 ?side2 ?side3 ?side4 ?side5 ?side6 A5.out).mono ?_
      (case side1 => repeat (first | exact (Kd.C_below HR0_1.out HB.out) | (with_reducible refine Kd.C_alloc ?_ _) | (with_reducible refine Kd.C_drewN ?_ _) | (with_reducible refine Kd.C_drew ?_)))
      (case side2 => exact HC0_1.out)
      (case side3 => repeat (first | exact (Kd.C_below HR0_2.out HB.out) | (with_reducible refine Kd.C_alloc ?_ _) | (with_reducible refine Kd.C_drewN ?_ _) | (with_reducible refine Kd.C_drew ?_)))
      (case side4 => exact HC0_2.out)
      (case side5 => repeat (first | exact (Kd.R_reads' HO108.out).2.2 | (with_reducible refine Kd.C_alloc ?_ _) | (with_reducible refine Kd.C_drewN ?_ _) | (with_reducible refine Kd.C_drew ?_)))
      (case side6 => exact (Kd.R_reads' HO108.out).2.1)
      rintro e w14 ⟨v111, v114, rfl, ho0, ho1, hb⟩
      refine ⟨_, rfl, ?_⟩
      have n0_ := aM (Kd.R_below (by (with_reducible repeat (first | apply rA | apply rN | apply rD)); exact HO108.out) hb)
      have n1_ := aM (Kd.R_lower ho0 (below_size (by repeat (first | (with_reducible first | exact HB.out | apply below_alloc | apply pw_below_drewN | apply below_drew1 | refine below_set ?_ GE101.out | refine below_set ?_ GE102.out) | exact HB.out))))
      have n2_ := aM (Kd.R_lower ho1 (below_size (by repeat (first | (with_reducible first | exact HB.out | apply below_alloc | apply pw_below_drewN | apply below_drew1 | refine below_set ?_ GE101.out | refine below_set ?_ GE102.out) | exact HB.out))))
      have n3_ := aM (blk_below (g := gb101) (o := .cells #[.int .i64 a0_0, .slice A0_1 l0_1.length c0_1, .slice A0_2 l0_2.length c0_2] 30 (0, 0)) (by (with_reducible repeat (first | refine bN ?_ _ | refine bD ?_ | refine bA ?_ _)); exact BK101.out) hb)
      have n4_ := aM (blk_below (g := gb102) (o := .cells #[.int .i64 0, .slice none 0 0, .slice none 0 0] 30 (0, 0)) (by (with_reducible repeat (first | refine bN ?_ _ | refine bD ?_ | refine bA ?_ _)); exact BK102.out) hb)
      have n5_ := aM (below_step (by repeat (first | (with_reducible first | exact HB.out | apply below_alloc | apply pw_below_drewN | apply below_drew1 | refine below_set ?_ GE101.out | refine below_set ?_ GE102.out) | exact HB.out)) hb)
      clear HO108
      clear BK101
      clear BK102
      clear HB
      have HO108 := n0_
      have HO112 := n1_
      have HO115 := n2_
      have BK101 := n3_
      have BK102 := n4_
      have HB := n5_
      clear n0_ n1_ n2_ n3_ n4_ n5_
      (try clear hb)
      (try clear hb2)
      (try clear hk)
      (try clear hi)
      (try clear ho0)
      (try clear ho1)
      obtain ⟨Ao16, co16, eo16⟩ := Kd.R_slice HO112.out
      (first | subst eo16 | (injection eo16 with f1_ f2_ f3_; have f4_ := f1_.symm; have f5_ := f3_.symm; clear f1_ f2_ f3_; subst f4_; subst f5_))
      obtain ⟨Ao18, co18, eo18⟩ := Kd.R_slice HO115.out
      (first | subst eo18 | (injection eo18 with f1_ f2_ f3_; have f4_ := f1_.symm; have f5_ := f3_.symm; clear f1_ f2_ f3_; subst f4_; subst f5_))
      refine hK.out _ _ ⟨(blk_cell BK101.out 0).trans rfl, (blk_cell BK101.out 1).trans rfl, (blk_cell BK101.out 2).trans rfl⟩ (fun hHeld => ?_)
      clear hK K
      refine norm_ (a' := ?_) ?_ ?_
      rotate_left
      · show Act.put _ (some 10) _ = _
        simp only [Act.put, List.setIfInBounds_toArray, List.set_cons_zero, List.set_cons_succ, i64_w, i32_w]
        rfl
      refine one_ (i := 8) (N := none) #[true, true, true, true, true, true, true, true, true] rfl rfl (one_of HT_.out (by kernel_rfl)) (by decide) (fun K hK => ?_)
      have hs15 : w14.cell? ⟨gb102, 0, none⟩ = some (.int .i64 0) := (blk_cell BK102.out 0).trans rfl
      have hfs15 := blk_frozen BK102.out 0
      have hns15_0 := NB101_102.out
      have hms15_0 := NB102_101.out
      have hs17 : w14.cell? ⟨gb102, 1, none⟩ = some (.slice none 0 0) := (blk_cell BK102.out 1).trans rfl
      have hfs17 := blk_frozen BK102.out 1
      have hns17_0 := NB101_102.out
      have hms17_0 := NB102_101.out
      have hs19 : w14.cell? ⟨gb102, 2, none⟩ = some (.slice none 0 0) := (blk_cell BK102.out 2).trans rfl
      have hfs19 := blk_frozen BK102.out 2
      have hns19_0 := NB101_102.out
      have hms19_0 := NB102_101.out
      refine skip_ (w1 := ?_) (by rfl) rfl ?_ ?_
      rotate_left
      · go_simp
        rfl
      refine hK.out _ _ ⟨((cell_far (p := ⟨gb102, _, none⟩) NB101_102.out _).trans (((cell_far (p := ⟨gb102, _, none⟩) NB101_102.out _).trans (((cell_far (p := ⟨gb102, _, none⟩) NB101_102.out _).trans (hHeld.1)))))), ((cell_far (p := ⟨gb102, _, none⟩) NB101_102.out _).trans (((cell_far (p := ⟨gb102, _, none⟩) NB101_102.out _).trans (((cell_far (p := ⟨gb102, _, none⟩) NB101_102.out _).trans (hHeld.2.1)))))), ((cell_far (p := ⟨gb102, _, none⟩) NB101_102.out _).trans (((cell_far (p := ⟨gb102, _, none⟩) NB101_102.out _).trans (((cell_far (p := ⟨gb102, _, none⟩) NB101_102.out _).trans (hHeld.2.2))))))⟩ (fun hHeld => ?_)
      clear hK K
      refine done_ (done_of HT_.out (by kernel_rfl)) ?_
      try go_wp2
      refine bodyPost_ret (results_cell_row rfl _ _ gb102 30 #[.int .i64 t109, .slice Ao16 t110.length co16, .slice Ao18 t113.length co18] (0, 0) _ rfl (by (with_reducible repeat (first | refine bN ?_ _ | refine bD ?_ | refine bA ?_ _)); refine blk_put (cs := #[.int .i64 t109, .slice Ao16 t110.length co16, .slice none 0 0]) ?_ 2 _ rfl; (with_reducible repeat (first | refine bN ?_ _ | refine bD ?_ | refine bA ?_ _)); refine blk_put (cs := #[.int .i64 t109, .slice none 0 0, .slice none 0 0]) ?_ 1 _ rfl; (with_reducible repeat (first | refine bN ?_ _ | refine bD ?_ | refine bA ?_ _)); refine blk_put (cs := #[.int .i64 0, .slice none 0 0, .slice none 0 0]) ?_ 0 _ rfl; (with_reducible repeat (first | refine bN ?_ _ | refine bD ?_ | refine bA ?_ _)); exact BK102.out) Try.underlying30 rfl (by kernel_rfl)) rfl ?_
      exact ⟨_, _, by first | rfl | (simp [errW_none, errW_some] <;> rfl) | (simp [*, errW_none, errW_some] <;> rfl), by (with_reducible repeat (first | apply rA | apply rN | apply rD)); exact Kd.R_mono (Kd.R_far (p := ⟨gb102, 2, none⟩) (Kd.R_far (p := ⟨gb102, 1, none⟩) (Kd.R_far (p := ⟨gb102, 0, none⟩) (Kd.R_types HO112.out BK102.out (by decide)) (fun _ hk => hk.2) (.int .i64 t109)) (fun _ hk => hk.2) (.slice Ao16 t110.length co16)) (fun _ hk => hk.2) (.slice Ao18 t113.length co18)) (fun _ hk => trivial), by (with_reducible repeat (first | apply rA | apply rN | apply rD)); exact Kd.R_mono (Kd.R_far (p := ⟨gb102, 2, none⟩) (Kd.R_far (p := ⟨gb102, 1, none⟩) (Kd.R_far (p := ⟨gb102, 0, none⟩) (Kd.R_types HO115.out BK102.out (by decide)) (fun _ hk => hk.2) (.int .i64 t109)) (fun _ hk => hk.2) (.slice Ao16 t110.length co16)) (fun _ hk => hk.2) (.slice Ao18 t113.length co18)) (fun _ hk => trivial), by repeat (first | (with_reducible first | exact HB.out | apply below_alloc | apply pw_below_drewN | apply below_drew1 | refine below_set ?_ GE101.out | refine below_set ?_ GE102.out) | exact HB.out)⟩
    · rw [if_neg c3] at H
      exact absurd H (by simp)
  · rw [if_neg c2] at H
    exact absurd H (by simp)

end Go.Proofs.Ytcbgjcnekdoloaa.G

namespace Go.Proofs.Ytcbgjcnekdoloaa.G
open Go.RowKit Go.Proofs.YtcbgjcnekdoloaaW.PrintWords Go.Proofs.YtcbgjcnekdoloaaW.PrintLast Go.Proofs.YtcbgjcnekdoloaaW.PrintMore Go.Proofs.Ytcbgjcnekdoloaa.Short
attribute [local go_sem] max2_int min2_int max_two min_two max_three min_three max_four min_four   -- for this text's walks alone
set_option linter.unusedVariables false
set_option linter.unusedSimpArgs false

/-! ### impl_Heap_collect: function 37 -/
def impl_Heap_collect.f (k : Nat) (a0_0 : Int) (l0_1 : List (S44)) (l0_2 : List Int) : Option (Int × (List (S44)) × List Int) := (impl_reached.f k l0_1 l0_2).bind fun t103 => ((impl_kept.f k l0_1 l0_2 t103).bind fun bt106 => (some ((bt106.1.length : Int), bt106.1, bt106.2)))
def impl_Heap_collect.T1 : Bool × List (List Nat × List Nat) := (true, [([], []), ([0], [0]), ([], []), ([2], [2]), ([], []), ([4], [4]), ([], []), ([6], [6]), ([5, 7], [5, 7]), ([1, 3, 8, 8], [1, 3, 8]), ([9], [9]), ([10], [10]), ([10], [10]), ([11, 9, 0, 1, 2, 3, 4, 5, 6, 7, 8, 9, 10, 11], [11]), ([12, 13, 0, 1, 2, 3, 4, 5, 6, 7, 8, 9, 10, 11, 12, 13], [12])])
def impl_Heap_collect.B1 : List Nat := [0, 1, 0, 4, 0, 16, 0, 64, 240, 511, 1023, 2047, 2047, 4095, 16383]
theorem impl_Heap_collect.tab1 : rtab .any (opsOf Try.f37 1) = impl_Heap_collect.T1 := by kernel_rfl
theorem impl_Heap_collect.bits1 : waitsOk impl_Heap_collect.T1.2 impl_Heap_collect.B1 = true := by kernel_rfl
set_option maxHeartbeats 8000000 in
set_option maxRecDepth 100000 in
theorem impl_Heap_collect.calls (k : Nat) (a0_0 : Int) (A0_1 : Option Addr) (c0_1 : Nat) (l0_1 : List (S44)) (A0_2 : Option Addr) (c0_2 : Nat) (l0_2 : List Int) (r1 : Int) (r2 : List (S44)) (r3 : List Int) (w : World) (hr0_1 : Kd.C k44 w A0_1 l0_1.length l0_1) (hc0_1 : l0_1.length ≤ c0_1) (hr0_2 : Kd.C (Kd.int .i64) w A0_2 l0_2.length l0_2) (hc0_2 : l0_2.length ≤ c0_2) (h : impl_Heap_collect.f k a0_0 l0_1 l0_2 = some (r1, r2, r3)) :
    Calls Try.prog 37 #[.agg #[.int .i64 a0_0, .slice A0_1 l0_1.length c0_1, .slice A0_2 l0_2.length c0_2]] w fun e w' => ∃ v1_ v2_ : Value, e = .returned (.agg #[.int .i64 r1, v1_, v2_]) ∧ Kd.R k44 44 w' w.heap.size (fun _ => True) v1_ r2 ∧ Kd.R (Kd.int .i64) 3 w' w.heap.size (fun _ => True) v2_ r3 ∧ Below w.heap.size w w' := by
  have hu30 := Try.underlying30
  have HR0_1 := aM hr0_1
  have HC0_1 := aM hc0_1
  clear hr0_1 hc0_1
  have HR0_2 := aM hr0_2
  have HC0_2 := aM hc0_2
  clear hr0_2 hc0_2
  have HB := aM (Below.refl w.heap.size w)
  have H : ((impl_reached.f k l0_1 l0_2).bind fun t103 => ((impl_kept.f k l0_1 l0_2 t103).bind fun bt106 => (some ((bt106.1.length : Int), bt106.1, bt106.2)))) = some (r1, r2, r3) := h
  clear h
  replace H := Option.bind_eq_some_iff.mp H
  obtain ⟨t103, A20, H⟩ := H
  replace H : ((impl_kept.f k l0_1 l0_2 t103).bind fun bt106 => (some ((bt106.1.length : Int), bt106.1, bt106.2))) = some (r1, r2, r3) := H
  have A2 := aM A20
  clear A20
  replace H := Option.bind_eq_some_iff.mp H
  obtain ⟨⟨t106, t107⟩, A30, H⟩ := H
  replace H : (some ((t106.length : Int), t106, t107)) = some (r1, r2, r3) := H
  have A3 := aM A30
  clear A30
  simp only [Option.some.injEq, Prod.mk.injEq] at H
  obtain ⟨rfl, rfl, rfl⟩ := H
  go_enter Try.func37, Try.ntmps37
  try go_wp2_with (first | ((with_reducible refine gate_dst (N := 1) rfl ?_); refine box_event ?hg (N := 1) ?hd (cs := #[.int .i64 a0_0, .slice A0_1 l0_1.length c0_1, .slice A0_2 l0_2.length c0_2]) (t := 30) ?hr ?_; (case hd => rfl); (case hg => rfl); (case hr => first | (go_simp; done) | (go_simp; rfl)); intro gb101 hg w4 hbox hb; have n0_ := aM (below_step (by repeat (first | (with_reducible first | exact HB.out | apply below_alloc | apply pw_below_drewN | apply below_drew1) | exact HB.out)) hb); have n1_ := aM (hbox); have n2_ := aM ((by rw [hg]; exact (below_size (by repeat (first | (with_reducible first | exact HB.out | apply below_alloc | apply pw_below_drewN | apply below_drew1) | exact HB.out))) : w.heap.size ≤ gb101)); have n3_ := aM ((by rw [hg]; exact (below_size (by repeat (first | (with_reducible first | exact HB.out | apply below_alloc | apply pw_below_drewN | apply below_drew1) | exact HB.out))) : w.heap.size ≤ gb101)); clear HB; have HB := n0_; have BK101 := n1_; have GW101 := n2_; have GE101 := n3_; clear n0_ n1_ n2_ n3_; clear hb hbox hg) | ((with_reducible refine gate_dst (N := 2) rfl ?_); refine box_event ?hg (N := 2) ?hd (cs := #[.int .i64 0, .slice none 0 0, .slice none 0 0]) (t := 30) ?hr ?_; (case hd => rfl); (case hg => rfl); (case hr => first | (go_simp; done) | (go_simp; rfl)); intro gb102 hg w5 hbox hb; have n0_ := aM (blk_below (g := gb101) (o := .cells #[.int .i64 a0_0, .slice A0_1 l0_1.length c0_1, .slice A0_2 l0_2.length c0_2] 30 (0, 0)) (by (with_reducible repeat (first | refine bN ?_ _ | refine bD ?_ | refine bA ?_ _)); exact BK101.out) hb); have n1_ := aM (below_step (by repeat (first | (with_reducible first | exact HB.out | apply below_alloc | apply pw_below_drewN | apply below_drew1 | refine below_set ?_ GE101.out) | exact HB.out)) hb); have n2_ := aM (hbox); have n3_ := aM ((by rw [hg]; exact (below_size (by repeat (first | (with_reducible first | exact HB.out | apply below_alloc | apply pw_below_drewN | apply below_drew1 | refine below_set ?_ GE101.out) | exact HB.out))) : w.heap.size ≤ gb102)); have n4_ := aM ((by rw [hg]; exact (below_size (by repeat (first | (with_reducible first | exact HB.out | apply below_alloc | apply pw_below_drewN | apply below_drew1 | refine below_set ?_ GE101.out) | exact HB.out))) : w.heap.size ≤ gb102)); have n5_ := aM ((by rw [hg]; exact Nat.ne_of_lt (blk_lt (g := gb101) (o := .cells #[.int .i64 a0_0, .slice A0_1 l0_1.length c0_1, .slice A0_2 l0_2.length c0_2] 30 (0, 0)) (by (with_reducible repeat (first | refine bN ?_ _ | refine bD ?_ | refine bA ?_ _)); exact BK101.out)) : gb101 ≠ gb102)); have n6_ := aM ((by rw [hg]; exact Nat.ne_of_gt (blk_lt (g := gb101) (o := .cells #[.int .i64 a0_0, .slice A0_1 l0_1.length c0_1, .slice A0_2 l0_2.length c0_2] 30 (0, 0)) (by (with_reducible repeat (first | refine bN ?_ _ | refine bD ?_ | refine bA ?_ _)); exact BK101.out)) : gb102 ≠ gb101)); clear BK101; clear HB; have BK101 := n0_; have HB := n1_; have BK102 := n2_; have GW102 := n3_; have GE102 := n4_; have NB101_102 := n5_; have NB102_101 := n6_; clear n0_ n1_ n2_ n3_ n4_ n5_ n6_; clear hb hbox hg))
  have n0_ := aM (blk_drew BK101.out)
  have n1_ := aM (blk_drew BK102.out)
  have n2_ := aM (below_drew1 HB.out)
  clear BK101
  clear BK102
  clear HB
  have BK101 := n0_
  have BK102 := n1_
  have HB := n2_
  clear n0_ n1_ n2_
  refine start_ (n := 15) (S := fun w' => w'.cell? ⟨gb101, 0, none⟩ = some (.int .i64 a0_0) ∧ w'.cell? ⟨gb101, 1, none⟩ = some (.slice A0_1 l0_1.length c0_1) ∧ w'.cell? ⟨gb101, 2, none⟩ = some (.slice A0_2 l0_2.length c0_2)) (ds := []) #[false, false, false, false, false, false, false, false, false, false, false, false, false, false, false] (by kernel_rfl) rfl rfl ⟨(blk_cell BK101.out 0).trans rfl, (blk_cell BK101.out 1).trans rfl, (blk_cell BK101.out 2).trans rfl⟩ (fun hHeld => ?_); refine with_tabW impl_Heap_collect.tab1 impl_Heap_collect.bits1 (fun HT_ HW_ => ?_)
  generalize w5.drew = w6 at BK101 BK102 HB hHeld ⊢
  refine pure_ (i := 0) (N := some 6) (v := ?_) (a' := ?_) #[true, false, false, false, false, false, false, false, false, false, false, false, false, false, false] rfl rfl (any_of HT_.out (by kernel_rfl)) (fun _ _ _ h => h) (Or.inl ⟨by rfl, ?_⟩) ?_ ?_
  rotate_left
  · intro w'
    go_simp
    with_reducible rfl
  rotate_left
  · simp only [Act.put, List.setIfInBounds_toArray, List.set_cons_zero, List.set_cons_succ, i64_w, i32_w]
    rfl
  refine pure_ (i := 2) (N := some 8) (v := ?_) (a' := ?_) #[true, false, true, false, false, false, false, false, false, false, false, false, false, false, false] rfl rfl (any_of HT_.out (by kernel_rfl)) (fun _ _ _ h => h) (Or.inl ⟨by rfl, ?_⟩) ?_ ?_
  rotate_left
  · intro w'
    go_simp
    with_reducible rfl
  rotate_left
  · simp only [Act.put, List.setIfInBounds_toArray, List.set_cons_zero, List.set_cons_succ, i64_w, i32_w]
    rfl
  refine pure_ (i := 4) (N := some 10) (v := ?_) (a' := ?_) #[true, false, true, false, true, false, false, false, false, false, false, false, false, false, false] rfl rfl (any_of HT_.out (by kernel_rfl)) (fun _ _ _ h => h) (Or.inl ⟨by rfl, ?_⟩) ?_ ?_
  rotate_left
  · intro w'
    go_simp
    with_reducible rfl
  rotate_left
  · simp only [Act.put, List.setIfInBounds_toArray, List.set_cons_zero, List.set_cons_succ, i64_w, i32_w]
    rfl
  refine pure_ (i := 6) (N := some 12) (v := ?_) (a' := ?_) #[true, false, true, false, true, false, true, false, false, false, false, false, false, false, false] rfl rfl (any_of HT_.out (by kernel_rfl)) (fun _ _ _ h => h) (Or.inl ⟨by rfl, ?_⟩) ?_ ?_
  rotate_left
  · intro w'
    go_simp
    with_reducible rfl
  rotate_left
  · simp only [Act.put, List.setIfInBounds_toArray, List.set_cons_zero, List.set_cons_succ, i64_w, i32_w]
    rfl
  refine take_ (i := 1) (N := some 7) (v := ?_) (a' := ?_) #[true, true, true, false, true, false, true, false, false, false, false, false, false, false, false] rfl rfl (take_ofW HT_.out HW_.out (by kernel_rfl)) (fun _ _ _ h => h) (Or.inl ⟨by rfl, ?_⟩) hHeld ?_ ?_
  rotate_left
  · rintro w' ⟨s0, s1, s2⟩
    go_simp
    with_reducible rfl
  rotate_left
  · simp only [Act.put, List.setIfInBounds_toArray, List.set_cons_zero, List.set_cons_succ, i64_w, i32_w]
    rfl
  refine take_ (i := 3) (N := some 9) (v := ?_) (a' := ?_) #[true, true, true, true, true, false, true, false, false, false, false, false, false, false, false] rfl rfl (take_ofW HT_.out HW_.out (by kernel_rfl)) (fun _ _ _ h => h) (Or.inl ⟨by rfl, ?_⟩) hHeld ?_ ?_
  rotate_left
  · rintro w' ⟨s0, s1, s2⟩
    go_simp
    with_reducible rfl
  rotate_left
  · simp only [Act.put, List.setIfInBounds_toArray, List.set_cons_zero, List.set_cons_succ, i64_w, i32_w]
    rfl
  refine take_ (i := 5) (N := some 11) (v := ?_) (a' := ?_) #[true, true, true, true, true, true, true, false, false, false, false, false, false, false, false] rfl rfl (take_ofW HT_.out HW_.out (by kernel_rfl)) (fun _ _ _ h => h) (Or.inl ⟨by rfl, ?_⟩) hHeld ?_ ?_
  rotate_left
  · rintro w' ⟨s0, s1, s2⟩
    go_simp
    with_reducible rfl
  rotate_left
  · simp only [Act.put, List.setIfInBounds_toArray, List.set_cons_zero, List.set_cons_succ, i64_w, i32_w]
    rfl
  refine take_ (i := 7) (N := some 13) (v := ?_) (a' := ?_) #[true, true, true, true, true, true, true, true, false, false, false, false, false, false, false] rfl rfl (take_ofW HT_.out HW_.out (by kernel_rfl)) (fun _ _ _ h => h) (Or.inl ⟨by rfl, ?_⟩) hHeld ?_ ?_
  rotate_left
  · rintro w' ⟨s0, s1, s2⟩
    go_simp
    with_reducible rfl
  rotate_left
  · simp only [Act.put, List.setIfInBounds_toArray, List.set_cons_zero, List.set_cons_succ, i64_w, i32_w]
    rfl
  refine one_ (i := 8) (N := some 14) #[true, true, true, true, true, true, true, true, true, false, false, false, false, false, false] rfl rfl (one_of HT_.out (by kernel_rfl)) (by decide) (fun K hK => ?_)
  refine goes_ Try.func33 (by kernel_rfl) rfl #[.slice A0_1 l0_1.length c0_1, .slice A0_2 l0_2.length c0_2, .func (.func 34) #[] #[]] (by rfl) rfl rfl (by (try simp only [List.map_toArray, List.map_cons, List.map_nil]); first | done | rfl | (simp only [List.length_drop, List.length_take]; rfl)) ?_
  with_reducible refine (impl_reached.calls k _ _ l0_1 _ _ l0_2  t103 _ ?side1 ?side2 ?side3 ?side4 A2.out).mono ?_
  (case side1 => repeat (first | exact (Kd.C_below HR0_1.out HB.out) | (with_reducible refine Kd.C_alloc ?_ _) | (with_reducible refine Kd.C_drewN ?_ _) | (with_reducible refine Kd.C_drew ?_)))
  (case side2 => exact HC0_1.out)
  (case side3 => repeat (first | exact (Kd.C_below HR0_2.out HB.out) | (with_reducible refine Kd.C_alloc ?_ _) | (with_reducible refine Kd.C_drewN ?_ _) | (with_reducible refine Kd.C_drew ?_)))
  (case side4 => exact HC0_2.out)
  rintro e w7 ⟨v104, rfl, ho0, hb⟩
  refine ⟨_, rfl, ?_⟩
  have n0_ := aM (Kd.R_lower ho0 (below_size (by repeat (first | (with_reducible first | exact HB.out | apply below_alloc | apply pw_below_drewN | apply below_drew1 | refine below_set ?_ GE101.out | refine below_set ?_ GE102.out) | exact HB.out))))
  have n1_ := aM (blk_below (g := gb101) (o := .cells #[.int .i64 a0_0, .slice A0_1 l0_1.length c0_1, .slice A0_2 l0_2.length c0_2] 30 (0, 0)) (by (with_reducible repeat (first | refine bN ?_ _ | refine bD ?_ | refine bA ?_ _)); exact BK101.out) hb)
  have n2_ := aM (blk_below (g := gb102) (o := .cells #[.int .i64 0, .slice none 0 0, .slice none 0 0] 30 (0, 0)) (by (with_reducible repeat (first | refine bN ?_ _ | refine bD ?_ | refine bA ?_ _)); exact BK102.out) hb)
  have n3_ := aM (below_step (by repeat (first | (with_reducible first | exact HB.out | apply below_alloc | apply pw_below_drewN | apply below_drew1 | refine below_set ?_ GE101.out | refine below_set ?_ GE102.out) | exact HB.out)) hb)
  clear BK101
  clear BK102
  clear HB
  have HO105 := n0_
  have BK101 := n1_
  have BK102 := n2_
  have HB := n3_
  clear n0_ n1_ n2_ n3_
  (try clear hb)
  (try clear hb2)
  (try clear hk)
  (try clear hi)
  (try clear ho0)
  obtain ⟨Ao8, co8, eo8⟩ := Kd.R_slice HO105.out
  (first | subst eo8 | (injection eo8 with f1_ f2_ f3_; have f4_ := f1_.symm; have f5_ := f3_.symm; clear f1_ f2_ f3_; subst f4_; subst f5_))
  refine hK.out _ _ ⟨(blk_cell BK101.out 0).trans rfl, (blk_cell BK101.out 1).trans rfl, (blk_cell BK101.out 2).trans rfl⟩ (fun hHeld => ?_)
  clear hK K
  refine norm_ (a' := ?_) ?_ ?_
  rotate_left
  · show Act.put _ (some 14) _ = _
    simp only [Act.put, List.setIfInBounds_toArray, List.set_cons_zero, List.set_cons_succ, i64_w, i32_w]
    rfl
  refine one_ (i := 9) (N := some 15) #[true, true, true, true, true, true, true, true, true, true, false, false, false, false, false] rfl rfl (one_of HT_.out (by kernel_rfl)) (by decide) (fun K hK => ?_)
  refine goes_ Try.func48 (by kernel_rfl) rfl #[.slice A0_1 l0_1.length c0_1, .slice A0_2 l0_2.length c0_2, .slice Ao8 t103.length co8] (by rfl) rfl rfl (by (try simp only [List.map_toArray, List.map_cons, List.map_nil]); first | done | rfl | (simp only [List.length_drop, List.length_take]; rfl)) ?_
  with_reducible refine (impl_kept.calls k _ _ l0_1 _ _ l0_2 _ _ t103 t106 t107 _ ?side1 ?side2 ?side3 ?side4 ?side5 ?side6 A3.out).mono ?_
  (case side1 => repeat (first | exact (Kd.C_below HR0_1.out HB.out) | (with_reducible refine Kd.C_alloc ?_ _) | (with_reducible refine Kd.C_drewN ?_ _) | (with_reducible refine Kd.C_drew ?_)))
  (case side2 => exact HC0_1.out)
  (case side3 => repeat (first | exact (Kd.C_below HR0_2.out HB.out) | (with_reducible refine Kd.C_alloc ?_ _) | (with_reducible refine Kd.C_drewN ?_ _) | (with_reducible refine Kd.C_drew ?_)))
  (case side4 => exact HC0_2.out)
  (case side5 => repeat (first | exact (Kd.R_reads' HO105.out).2.2 | (with_reducible refine Kd.C_alloc ?_ _) | (with_reducible refine Kd.C_drewN ?_ _) | (with_reducible refine Kd.C_drew ?_)))
  (case side6 => exact (Kd.R_reads' HO105.out).2.1)
  rintro e w9 ⟨v108, v110, rfl, ho0, ho1, hb⟩
  refine ⟨_, rfl, ?_⟩
  have n0_ := aM (Kd.R_below (by (with_reducible repeat (first | apply rA | apply rN | apply rD)); exact HO105.out) hb)
  have n1_ := aM (Kd.R_lower ho0 (below_size (by repeat (first | (with_reducible first | exact HB.out | apply below_alloc | apply pw_below_drewN | apply below_drew1 | refine below_set ?_ GE101.out | refine below_set ?_ GE102.out) | exact HB.out))))
  have n2_ := aM (Kd.R_lower ho1 (below_size (by repeat (first | (with_reducible first | exact HB.out | apply below_alloc | apply pw_below_drewN | apply below_drew1 | refine below_set ?_ GE101.out | refine below_set ?_ GE102.out) | exact HB.out))))
  have n3_ := aM (blk_below (g := gb101) (o := .cells #[.int .i64 a0_0, .slice A0_1 l0_1.length c0_1, .slice A0_2 l0_2.length c0_2] 30 (0, 0)) (by (with_reducible repeat (first | refine bN ?_ _ | refine bD ?_ | refine bA ?_ _)); exact BK101.out) hb)
  have n4_ := aM (blk_below (g := gb102) (o := .cells #[.int .i64 0, .slice none 0 0, .slice none 0 0] 30 (0, 0)) (by (with_reducible repeat (first | refine bN ?_ _ | refine bD ?_ | refine bA ?_ _)); exact BK102.out) hb)
  have n5_ := aM (below_step (by repeat (first | (with_reducible first | exact HB.out | apply below_alloc | apply pw_below_drewN | apply below_drew1 | refine below_set ?_ GE101.out | refine below_set ?_ GE102.out) | exact HB.out)) hb)
  clear HO105
  clear BK101
  clear BK102
  clear HB
  have HO105 := n0_
  have HO109 := n1_
  have HO111 := n2_
  have BK101 := n3_
  have BK102 := n4_
  have HB := n5_
  clear n0_ n1_ n2_ n3_ n4_ n5_
  (try clear hb)
  (try clear hb2)
  (try clear hk)
  (try clear hi)
  (try clear ho0)
  (try clear ho1)
  refine hK.out _ _ ⟨(blk_cell BK101.out 0).trans rfl, (blk_cell BK101.out 1).trans rfl, (blk_cell BK101.out 2).trans rfl⟩ (fun hHeld => ?_)
  clear hK K
  refine norm_ (a' := ?_) ?_ ?_
  rotate_left
  · show Act.put _ (some 15) _ = _
    simp only [Act.put, List.setIfInBounds_toArray, List.set_cons_zero, List.set_cons_succ, i64_w, i32_w]
    rfl
  refine pure_ (i := 10) (N := some 5) (v := ?_) (a' := ?_) #[true, true, true, true, true, true, true, true, true, true, true, false, false, false, false] rfl rfl (any_of HT_.out (by kernel_rfl)) (fun _ _ _ h => h) (Or.inl ⟨by rfl, ?_⟩) ?_ ?_
  rotate_left
  · intro w'
    go_simp
    with_reducible rfl
  rotate_left
  · simp only [Act.put, List.setIfInBounds_toArray, List.set_cons_zero, List.set_cons_succ, i64_w, i32_w]
    rfl
  refine pure_ (i := 11) (N := some 16) (v := ?_) (a' := ?_) #[true, true, true, true, true, true, true, true, true, true, true, true, false, false, false] rfl rfl (any_of HT_.out (by kernel_rfl)) (fun _ _ _ h => h) (Or.inl ⟨by rfl, ?_⟩) ?_ ?_
  rotate_left
  · intro w'
    go_simp
    with_reducible rfl
  rotate_left
  · simp only [Act.put, List.setIfInBounds_toArray, List.set_cons_zero, List.set_cons_succ, i64_w, i32_w]
    rfl
  refine pure_ (i := 12) (N := some 17) (v := ?_) (a' := ?_) #[true, true, true, true, true, true, true, true, true, true, true, true, true, false, false] rfl rfl (any_of HT_.out (by kernel_rfl)) (fun _ _ _ h => h) (Or.inl ⟨by rfl, ?_⟩) ?_ ?_
  rotate_left
  · intro w'
    go_simp
    with_reducible rfl
  rotate_left
  · simp only [Act.put, List.setIfInBounds_toArray, List.set_cons_zero, List.set_cons_succ, i64_w, i32_w]
    rfl
  refine pure_ (i := 13) (N := some 3) (v := ?_) (a' := ?_) #[true, true, true, true, true, true, true, true, true, true, true, true, true, true, false] rfl rfl (any_of HT_.out (by kernel_rfl)) (fun _ _ _ h => h) (Or.inl ⟨by rfl, ?_⟩) ?_ ?_
  rotate_left
  · intro w'
    go_simp
    with_reducible rfl
  rotate_left
  · simp only [Act.put, List.setIfInBounds_toArray, List.set_cons_zero, List.set_cons_succ, i64_w, i32_w]
    rfl
  refine pure_ (i := 14) (N := some 4) (v := ?_) (a' := ?_) #[true, true, true, true, true, true, true, true, true, true, true, true, true, true, true] rfl rfl (any_of HT_.out (by kernel_rfl)) (fun _ _ _ h => h) (Or.inl ⟨by rfl, ?_⟩) ?_ ?_
  rotate_left
  · intro w'
    go_simp
    with_reducible rfl
  rotate_left
  · simp only [Act.put, List.setIfInBounds_toArray, List.set_cons_zero, List.set_cons_succ, i64_w, i32_w]
    rfl
  refine done_ (done_of HT_.out (by kernel_rfl)) ?_
  obtain ⟨Ao10, co10, eo10⟩ := Kd.R_slice HO109.out
  subst eo10
  obtain ⟨Ao11, co11, eo11⟩ := Kd.R_slice HO111.out
  subst eo11
  have hnb12 := NB102_101.out
  have hnc12 := NB101_102.out
  have hcz13_0 : w9.cell? ⟨gb102, 0, none⟩ = some (.int .i64 0) := (blk_cell BK102.out 0).trans rfl
  have hcz13_1 : w9.cell? ⟨gb102, 1, none⟩ = some (.slice none 0 0) := (blk_cell BK102.out 1).trans rfl
  have hcz13_2 : w9.cell? ⟨gb102, 2, none⟩ = some (.slice none 0 0) := (blk_cell BK102.out 2).trans rfl
  have hfz13_0 := blk_frozen BK102.out 0
  have hfz13_1 := blk_frozen BK102.out 1
  have hfz13_2 := blk_frozen BK102.out 2
  try go_wp2
  refine bodyPost_ret (results_cell_row rfl _ _ gb102 30 #[.int .i64 (t106.length : Int), .slice Ao10 t106.length co10, .slice Ao11 t107.length co11] (0, 0) _ rfl (by (with_reducible repeat (first | refine bN ?_ _ | refine bD ?_ | refine bA ?_ _)); refine blk_put (cs := #[.int .i64 (t106.length : Int), .slice Ao10 t106.length co10, .slice none 0 0]) ?_ 2 _ rfl; (with_reducible repeat (first | refine bN ?_ _ | refine bD ?_ | refine bA ?_ _)); refine blk_put (cs := #[.int .i64 (t106.length : Int), .slice none 0 0, .slice none 0 0]) ?_ 1 _ rfl; (with_reducible repeat (first | refine bN ?_ _ | refine bD ?_ | refine bA ?_ _)); refine blk_put (cs := #[.int .i64 0, .slice none 0 0, .slice none 0 0]) ?_ 0 _ rfl; (with_reducible repeat (first | refine bN ?_ _ | refine bD ?_ | refine bA ?_ _)); exact BK102.out) Try.underlying30 rfl (by kernel_rfl)) rfl ?_
  exact ⟨_, _, by first | rfl | (simp [errW_none, errW_some] <;> rfl) | (simp [*, errW_none, errW_some] <;> rfl), by (with_reducible repeat (first | apply rA | apply rN | apply rD)); exact Kd.R_mono (Kd.R_far (p := ⟨gb102, 2, none⟩) (Kd.R_far (p := ⟨gb102, 1, none⟩) (Kd.R_far (p := ⟨gb102, 0, none⟩) (Kd.R_types HO109.out BK102.out (by decide)) (fun _ hk => hk.2) (.int .i64 (t106.length : Int))) (fun _ hk => hk.2) (.slice Ao10 t106.length co10)) (fun _ hk => hk.2) (.slice Ao11 t107.length co11)) (fun _ hk => trivial), by (with_reducible repeat (first | apply rA | apply rN | apply rD)); exact Kd.R_mono (Kd.R_far (p := ⟨gb102, 2, none⟩) (Kd.R_far (p := ⟨gb102, 1, none⟩) (Kd.R_far (p := ⟨gb102, 0, none⟩) (Kd.R_types HO111.out BK102.out (by decide)) (fun _ hk => hk.2) (.int .i64 (t106.length : Int))) (fun _ hk => hk.2) (.slice Ao10 t106.length co10)) (fun _ hk => hk.2) (.slice Ao11 t107.length co11)) (fun _ hk => trivial), by repeat (first | (with_reducible first | exact HB.out | apply below_alloc | apply pw_below_drewN | apply below_drew1 | refine below_set ?_ GE101.out | refine below_set ?_ GE102.out) | exact HB.out)⟩

end Go.Proofs.Ytcbgjcnekdoloaa.G

namespace Go.Proofs.Ytcbgjcnekdoloaa.HeapL
open Go.RowKit Go.Proofs.Ytcbgjcnekdoloaa.G Go.Proofs.Ytcbgjcnekdoloaa.EvL Go.Proofs.YtcbgjcnekdoloaaW.PrintWords Go.Proofs.YtcbgjcnekdoloaaW.PrintLast
set_option linter.unusedVariables false

def rank (m : List Bool) (j : Nat) : Nat := (m.take j).count true
theorem rank_succ (m : List Bool) (j : Nat) (h : j < m.length) : rank m (j + 1) = rank m j + if getB m j = true then 1 else 0 := by
  unfold rank
  rw [List.take_succ_eq_append_getElem h, List.count_append]
  have e : getB m j = m[j] := by unfold getB; rw [List.getD_eq_getElem?_getD, List.getElem?_eq_getElem h]; rfl
  rw [e]
  cases m[j] <;> simp
theorem rank_le (m : List Bool) (j : Nat) : rank m j ≤ j := by
  unfold rank
  exact Nat.le_trans (List.count_le_length ..) (by rw [List.length_take]; omega)

def pickFrom {β : Type} (f : Nat → β) (m : List Bool) (i d : Nat) : List β := ((List.range d).filter fun j => getB m (i + j)).map fun j => f (i + j)
theorem pickFrom_succ {β : Type} (f : Nat → β) (m : List Bool) (i d : Nat) : pickFrom f m i (d + 1) = (if getB m i = true then [f i] else []) ++ pickFrom f m (i + 1) d := by
  unfold pickFrom
  rw [List.range_succ_eq_map, List.filter_cons, List.filter_map]
  have e : List.map (fun j => f (i + j)) (List.map Nat.succ (List.filter ((fun j => getB m (i + j)) ∘ Nat.succ) (List.range d))) = List.map (fun j => f (i + 1 + j)) (List.filter (fun j => getB m (i + 1 + j)) (List.range d)) := by
    rw [List.map_map]
    have e1 : ((fun j => getB m (i + j)) ∘ Nat.succ) = fun j => getB m (i + 1 + j) := by funext j; show getB m (i + (j + 1)) = _; congr 1; omega
    rw [e1]
    apply List.map_congr_left
    intro j _
    show f (i + (j + 1)) = _
    congr 1; omega
  by_cases h : getB m i = true
  · rw [Nat.add_zero, if_pos h, if_pos h, List.map_cons, e, Nat.add_zero]; rfl
  · rw [Nat.add_zero, if_neg h, if_neg h, e, List.nil_append]
theorem pickFrom_len {β : Type} (f : Nat → β) (m : List Bool) (i d : Nat) : (pickFrom f m i d).length ≤ d := by
  unfold pickFrom
  rw [List.length_map]
  exact Nat.le_trans (List.length_filter_le ..) (by simp)

def newCell (c : List S44) (m : List Bool) (i : Nat) : S44 :=
  if (c.getD i z44).f0 = true then c.getD i z44 else ⟨(c.getD i z44).f0, (c.getD i z44).f1, (rank m (pA c i) : Int), (rank m (pB c i) : Int)⟩
def newRoots (m : List Bool) (r : List Int) : List Int := r.map fun x => (rank m x.toNat : Int)
def nums (m : List Bool) (n : Nat) : List Int := (List.range n).map fun j => (rank m j : Int)
theorem rd_nums (m : List Bool) (n : Nat) (x : Int) (h0 : 0 ≤ x) (h1 : x < (n : Int)) : rd (nums m n) x = (rank m x.toNat : Int) := by
  unfold rd nums
  rw [List.getD_eq_getElem?_getD, List.getElem?_map, List.getElem?_range (by omega)]; rfl
theorem nums_len (m : List Bool) (n : Nat) : (nums m n).length = n := by unfold nums; simp

theorem kept_l0 (c : List S44) (r : List Int) (m : List Bool) (n : Nat) (hn : n ≤ 200) (hm : m.length = n) (R : List S44 × List Int) : ∀ (d i : Nat) (x8 : List Int), i + d = n → x8.length = n →
    Ev (fun k => impl_kept.l1 k r m (x8.take i ++ (List.range d).map fun j => (rank m (i + j) : Int)) [] [] c c.length 0) R → Ev (fun k => impl_kept.l0 k c r m x8 [] [] (rank m i) m n i) R := by
  intro d
  induction d with
  | zero =>
    intro i x8 hi hx h
    refine Ev.step (f := fun k => impl_kept.l1 k r m x8 [] [] c c.length 0) (fun k => ?_) ?_
    · simp only [impl_kept.l0]
      rw [if_neg (by omega)]
    · rw [List.range_zero, List.map_nil, List.append_nil, List.take_of_length_le (by omega)] at h
      exact h
  | succ d ih =>
    intro i x8 hi hx h
    have hle := rank_le m i
    refine Ev.step (f := fun k => impl_kept.l0 k c r m (x8.set i (rank m i : Int)) [] [] (rank m (i + 1)) m n ((i + 1 : Nat) : Int)) (fun k => ?_) (ih (i + 1) (x8.set i (rank m i : Int)) (by omega) (by simpa using hx) ?_)
    · simp only [impl_kept.l0, Option.bind_some, Int.toNat_natCast]
      rw [if_pos (by omega), if_pos (by omega), if_pos (by omega), if_pos (by omega), rdB, next i (n := n) (by omega) (by omega), rank_succ m i (by omega)]
      by_cases hb : getB m i = true
      · rw [if_pos hb, if_pos hb, w64 (by omega) (by omega)]; rfl
      · rw [if_neg hb, if_neg hb]; rfl
    · have e : (x8.set i (rank m i : Int)).take (i + 1) = x8.take i ++ [(rank m i : Int)] := by
        rw [List.take_succ_eq_append_getElem (by simp; omega)]
        simp [List.take_set_of_le]
      rw [e, List.append_assoc, List.singleton_append]
      rw [List.range_succ_eq_map, List.map_cons, List.map_map, Nat.add_zero] at h
      have e2 : List.map (fun j => (rank m (i + 1 + j) : Int)) (List.range d) = List.map ((fun j => (rank m (i + j) : Int)) ∘ Nat.succ) (List.range d) := by
        apply List.map_congr_left
        intro j _
        show (rank m (i + 1 + j) : Int) = (rank m (i + (j + 1)) : Int)
        congr 2; omega
      rw [e2]
      exact h

theorem kept_l2 (out : List S44) (r : List Int) (m : List Bool) (n : Nat) (hr : r.length ≤ 60) (hro : ∀ x ∈ r, 0 ≤ x ∧ x < (n : Int)) : ∀ (d i : Nat) (acc : List Int), i + d = r.length → acc.length = i →
    Ev (fun k => impl_kept.l2 k (nums m n) out acc r r.length i) (out, acc ++ newRoots m (r.drop i)) := by
  intro d
  induction d with
  | zero =>
    intro i acc hi ha
    refine Ev.succ (Ev.congr (fun k => ?_) (Ev.now _))
    simp only [impl_kept.l2]
    rw [if_neg (by omega), List.drop_of_length_le (by omega)]
    simp [newRoots]
  | succ d ih =>
    intro i acc hi ha
    have hlt : i < r.length := by omega
    have hx := hro r[i] (List.getElem_mem hlt)
    have e : rd r (i : Int) = r[i] := by rw [rdI, List.getD_eq_getElem?_getD, List.getElem?_eq_getElem hlt]; rfl
    refine Ev.step (f := fun k => impl_kept.l2 k (nums m n) out (acc ++ [(rank m r[i].toNat : Int)]) r r.length ((i + 1 : Nat) : Int)) (fun k => ?_) ?_
    · simp only [impl_kept.l2, e, nums_len]
      rw [if_pos (by omega), if_pos (by omega), if_pos (by omega), if_pos (by omega), if_pos (by omega), if_pos (by omega), rd_nums m n _ hx.1 hx.2, next i hlt (by omega)]
    · refine Ev.of_eq (ih (i + 1) (acc ++ [(rank m r[i].toNat : Int)]) (by omega) (by simp; omega)) ?_
      rw [List.drop_eq_getElem_cons hlt, List.append_assoc]
      rfl

theorem eta (x : S44) : (⟨x.f0, x.f1, x.f2, x.f3⟩ : S44) = x := rfl

theorem kept_l1 (c : List S44) (hc : cellsOk c = true) (hn : c.length ≤ 200) (r : List Int) (m : List Bool) (hm : m.length = c.length) (hr : r.length ≤ 60) (hro : ∀ x ∈ r, 0 ≤ x ∧ x < (c.length : Int)) : ∀ (d i : Nat) (acc : List S44), i + d = c.length → acc.length ≤ i →
    Ev (fun k => impl_kept.l1 k r m (nums m c.length) acc [] c c.length i) (acc ++ pickFrom (newCell c m) m i d, newRoots m r) := by
  intro d
  induction d with
  | zero =>
    intro i acc hi ha
    refine Ev.step (f := fun k => impl_kept.l2 k (nums m c.length) acc [] r r.length 0) (fun k => ?_) ?_
    · simp only [impl_kept.l1]
      rw [if_neg (by omega)]
    · refine Ev.of_eq (kept_l2 acc r m c.length hr hro r.length 0 [] (by omega) rfl) ?_
      simp [pickFrom]
  | succ d ih =>
    intro i acc hi ha
    rw [pickFrom_succ]
    by_cases hb : getB m i = true
    · refine Ev.step (f := fun k => impl_kept.l1 k r m (nums m c.length) (acc ++ [newCell c m i]) [] c c.length ((i + 1 : Nat) : Int)) (fun k => ?_) ?_
      · simp only [impl_kept.l1, rdC, rdB, nums_len]
        rw [if_pos (by omega), if_pos (by omega), if_pos (by omega), if_pos (by omega), if_pos hb, next i (n := c.length) (by omega) (by omega)]
        by_cases hf : (c.getD i z44).f0 = true
        · rw [if_pos hf, if_pos (by omega), eta]
          unfold newCell
          rw [if_pos hf]
        · have hp : pairAt c i = true := by unfold pairAt; rw [Bool.eq_false_iff.mpr hf]; rfl
          have hl := parts_lt hc (show i < c.length by omega) hp
          rw [if_neg hf, if_pos (by omega), if_pos (by omega), if_pos (by omega), if_pos (by omega), if_pos (by omega), rd_nums m _ _ (by omega) (by omega), rd_nums m _ _ (by omega) (by omega)]
          unfold newCell
          rw [if_neg hf]
          rfl
      · refine Ev.of_eq (ih (i + 1) (acc ++ [newCell c m i]) (by omega) (by simp; omega)) ?_
        rw [if_pos hb, List.append_assoc]
    · refine Ev.step (f := fun k => impl_kept.l1 k r m (nums m c.length) acc [] c c.length ((i + 1 : Nat) : Int)) (fun k => ?_) ?_
      · simp only [impl_kept.l1, rdC, rdB]
        rw [if_pos (by omega), if_pos (by omega), if_pos (by omega), if_pos (by omega), if_neg hb, next i (n := c.length) (by omega) (by omega)]
      · rw [if_neg hb, List.nil_append]
        exact ih (i + 1) acc (by omega) (by omega)

theorem implKept (c : List S44) (hc : cellsOk c = true) (hn : c.length ≤ 200) (r : List Int) (m : List Bool) (hm : m.length = c.length) (hr : r.length ≤ 60) (hro : ∀ x ∈ r, 0 ≤ x ∧ x < (c.length : Int)) :
    Ev (fun k => impl_kept.f k c r m) (pickFrom (newCell c m) m 0 c.length, newRoots m r) := by
  unfold impl_kept.f
  refine Ev.ite_pos (by omega) (Ev.ite_pos (by omega) ?_)
  rw [Int.toNat_natCast, hm]
  refine kept_l0 c r m c.length hn hm _ c.length 0 (List.replicate c.length 0) (by omega) (by simp) ?_
  rw [List.take_zero, List.nil_append]
  simp only [Nat.zero_add]
  exact kept_l1 c hc hn r m hm hr hro c.length 0 [] (by omega) (by simp)

/-! The reference. -/
theorem move_l1 (out : List S44) (r : List Int) (m : List Bool) (tq : List Int) (hr : r.length ≤ 60) (hro : ∀ x ∈ r, 0 ≤ x ∧ x < (tq.length : Int)) (hto : ∀ x ∈ r, rd tq x = (rank m x.toNat : Int)) : ∀ (d i : Nat) (acc : List Int), i + d = r.length → acc.length = i →
    Ev (fun k => spec_l7Move.l1 k tq r r.length i 0 out acc) ((out.length : Int), out, acc ++ newRoots m (r.drop i)) := by
  intro d
  induction d with
  | zero =>
    intro i acc hi ha
    refine Ev.succ (Ev.congr (fun k => ?_) (Ev.now _))
    simp only [spec_l7Move.l1]
    rw [if_neg (by omega), List.drop_of_length_le (by omega)]
    simp [newRoots]
  | succ d ih =>
    intro i acc hi ha
    have hlt : i < r.length := by omega
    have hx := hro r[i] (List.getElem_mem hlt)
    have e : rd r (i : Int) = r[i] := by rw [rdI, List.getD_eq_getElem?_getD, List.getElem?_eq_getElem hlt]; rfl
    refine Ev.step (f := fun k => spec_l7Move.l1 k tq r r.length ((i + 1 : Nat) : Int) 0 out (acc ++ [(rank m r[i].toNat : Int)])) (fun k => ?_) ?_
    · simp only [spec_l7Move.l1, e]
      rw [if_pos (by omega), if_pos (by omega), if_pos (by omega), if_pos (by omega), if_pos (by omega), if_pos (by omega), hto _ (List.getElem_mem hlt), next i hlt (by omega)]
    · refine Ev.of_eq (ih (i + 1) (acc ++ [(rank m r[i].toNat : Int)]) (by omega) (by simp; omega)) ?_
      rw [List.drop_eq_getElem_cons hlt, List.append_assoc]
      rfl

theorem move_l0 (old : Int) (c : List S44) (hc : cellsOk c = true) (hn : c.length ≤ 200) (r : List Int) (m : List Bool) (S : Nat → Prop) (hm : Least c S m) (hr : r.length ≤ 60) (hro : ∀ x ∈ r, 0 ≤ x ∧ x < (c.length : Int)) (hrm : ∀ x ∈ r, getB m x.toNat = true) :
    ∀ (d i : Nat) (tq : List Int) (acc : List S44), i + d = c.length → tq.length = c.length → acc.length = rank m i → (∀ j, j < i → getB m j = true → tq.getD j 0 = (rank m j : Int)) →
    Ev (fun k => spec_l7Move.l0 k m tq c c.length i old c r 0 acc) (((acc ++ pickFrom (newCell c m) m i d).length : Int), acc ++ pickFrom (newCell c m) m i d, newRoots m r) := by
  intro d
  induction d with
  | zero =>
    intro i tq acc hi ht ha hto
    refine Ev.step (f := fun k => spec_l7Move.l1 k tq r r.length 0 0 acc []) (fun k => ?_) ?_
    · simp only [spec_l7Move.l0]
      rw [if_neg (by omega)]
    · have e : acc ++ pickFrom (newCell c m) m i 0 = acc := by simp [pickFrom]
      rw [e]
      refine Ev.of_eq (move_l1 acc r m tq hr (fun x hx => by rw [ht]; exact hro x hx) (fun x hx => ?_) r.length 0 [] (by omega) rfl) (by simp)
      have := hro x hx
      exact hto x.toNat (by omega) (hrm x hx)
  | succ d ih =>
    intro i tq acc hi ht ha hto
    have hml := hm.len
    have hle := rank_le m i
    rw [pickFrom_succ]
    by_cases hb : getB m i = true
    · refine Ev.step (f := fun k => spec_l7Move.l0 k m (tq.set i (rank m i : Int)) c c.length ((i + 1 : Nat) : Int) old c r 0 (acc ++ [newCell c m i])) (fun k => ?_) ?_
      · simp only [spec_l7Move.l0, rdC, rdB, Int.toNat_natCast, ha]
        rw [if_pos (by omega), if_pos (by omega), if_pos (by omega), if_pos (by omega), if_pos hb, next i (n := c.length) (by omega) (by omega)]
        by_cases hf : (c.getD i z44).f0 = true
        · rw [if_pos hf, if_pos (by omega), if_pos (by omega), eta]
          unfold newCell
          rw [if_pos hf]
        · have hp : pairAt c i = true := by unfold pairAt; rw [Bool.eq_false_iff.mpr hf]; rfl
          have hl := parts_lt hc (show i < c.length by omega) hp
          have hk := hm.closed i (by omega) hb hp
          have eA : rd tq (c.getD i z44).f2 = (rank m (pA c i) : Int) := hto (pA c i) (by unfold pA; omega) hk.1
          have eB : rd tq (c.getD i z44).f3 = (rank m (pB c i) : Int) := hto (pB c i) (by unfold pB; omega) hk.2
          rw [if_neg hf, if_pos (by omega), if_pos (by omega), if_pos (by omega), if_pos (by omega), if_pos (by omega), if_pos (by omega), eA, eB]
          unfold newCell
          rw [if_neg hf]
      · refine Ev.of_eq (ih (i + 1) (tq.set i (rank m i : Int)) (acc ++ [newCell c m i]) (by omega) (by simpa using ht) (by rw [rank_succ m i (by omega), if_pos hb]; simp; omega) (fun j hj hbj => ?_)) ?_
        · rw [List.getD_eq_getElem?_getD, List.getElem?_set]
          by_cases e : i = j
          · subst e; rw [if_pos rfl, if_pos (by omega)]; rfl
          · rw [if_neg e, ← List.getD_eq_getElem?_getD]; exact hto j (by omega) hbj
        · rw [if_pos hb, List.append_assoc]
    · refine Ev.step (f := fun k => spec_l7Move.l0 k m tq c c.length ((i + 1 : Nat) : Int) old c r 0 acc) (fun k => ?_) ?_
      · simp only [spec_l7Move.l0, rdC, rdB]
        rw [if_pos (by omega), if_pos (by omega), if_pos (by omega), if_pos (by omega), if_neg hb, next i (n := c.length) (by omega) (by omega)]
      · rw [if_neg hb, List.nil_append]
        refine ih (i + 1) tq acc (by omega) ht (by rw [rank_succ m i (by omega), if_neg hb]; omega) (fun j hj hbj => ?_)
        by_cases e : j = i
        · subst e; exact absurd hbj hb
        · exact hto j (by omega) hbj

theorem specMove (old : Int) (c : List S44) (hc : cellsOk c = true) (hn : c.length ≤ 200) (r : List Int) (m : List Bool) (S : Nat → Prop) (hm : Least c S m) (hr : r.length ≤ 60) (hro : ∀ x ∈ r, 0 ≤ x ∧ x < (c.length : Int)) (hrm : ∀ x ∈ r, getB m x.toNat = true) :
    Ev (fun k => spec_l7Move.f k old c r m) (((pickFrom (newCell c m) m 0 c.length).length : Int), pickFrom (newCell c m) m 0 c.length, newRoots m r) := by
  unfold spec_l7Move.f
  refine Ev.ite_pos (by omega) (Ev.ite_pos (by omega) ?_)
  rw [Int.toNat_natCast]
  exact move_l0 old c hc hn r m S hm hr hro hrm c.length 0 (List.replicate c.length 0) [] (by omega) (by simp) rfl (fun j hj => by omega)

/-- What both tell of a collection. -/
def told (c : List S44) (m : List Bool) (r : List Int) : Int × List S44 × List Int := (((pickFrom (newCell c m) m 0 c.length).length : Int), pickFrom (newCell c m) m 0 c.length, newRoots m r)

theorem collectBoth (old : Int) (c : List S44) (r : List Int) (hg : goodH old c r = true) : ∃ m, Least c (fun j => (j : Int) ∈ r) m ∧ Ev (fun k => spec_l7Collect.f k old c r) (told c m r) ∧ Ev (fun k => impl_Heap_collect.f k old c r) (told c m r) := by
  obtain ⟨hn, hr, ho, hc, hro⟩ := good_parts hg
  have hro' : ∀ x ∈ r, 0 ≤ x ∧ x < (c.length : Int) := fun x hx => of_decide_eq_true (List.all_eq_true.mp hro x hx)
  obtain ⟨m, hm, hev⟩ := implReached c r hc hn (by omega) hro
  obtain ⟨m', hm', hev'⟩ := specKeep old c r (List.replicate c.length false) hc hn hr hro (by simp)
  have e : m' = m := Least.eq (hm'.congr (fun j _ => by rw [getB_rep]; simp)) hm
  subst e
  have hrm : ∀ x ∈ r, getB m' x.toNat = true := fun x hx => hm.base x.toNat (by have := hro' x hx; omega) (by have := hro' x hx; rw [show ((x.toNat : Nat) : Int) = x by omega]; exact hx)
  refine ⟨m', hm, ?_, ?_⟩
  · unfold spec_l7Collect.f
    refine Ev.ite_pos (by omega) (Ev.ite_pos (by omega) (Ev.bind (a := m') ?_ ?_))
    · rw [Int.toNat_natCast]; exact hev'
    · exact Ev.bind (specMove old c hc hn r m' _ hm hr hro' hrm) (Ev.now _)
  · unfold impl_Heap_collect.f
    exact Ev.bind hev (Ev.bind (implKept c hc hn r m' hm.len hr hro') (Ev.now _))
end Go.Proofs.Ytcbgjcnekdoloaa.HeapL

namespace Go.Proofs.Ytcbgjcnekdoloaa.HeapL
open Go.RowKit Go.Proofs.Ytcbgjcnekdoloaa.G Go.Proofs.Ytcbgjcnekdoloaa.EvL Go.Proofs.YtcbgjcnekdoloaaW.PrintWords Go.Proofs.YtcbgjcnekdoloaaW.PrintLast
set_option linter.unusedVariables false

/-! The minor collection. -/
def firsts (n : Nat) : List Int := (List.range n).map fun (j : Nat) => (j : Int)
theorem mem_firsts (n : Nat) (x : Int) : x ∈ firsts n ↔ 0 ≤ x ∧ x < (n : Int) := by
  unfold firsts
  rw [List.mem_map]
  constructor
  · rintro ⟨j, hj, rfl⟩
    have : j < n := by simpa using hj
    omega
  · intro h
    exact ⟨x.toNat, by simp; omega, by omega⟩

theorem minor_from (o : Nat) (c : List S44) (r : List Int) (ho : o ≤ 200) (R : Int × List S44 × List Int) : ∀ (d i : Nat) (acc : List Int), i + d = o → acc.length ≤ 60 + i →
    Ev (fun k => (impl_reached.f k c (acc ++ (List.range d).map fun (j : Nat) => ((i + j : Nat) : Int))).bind fun t109 => ((impl_kept.f k c r t109).bind fun bt112 => (some ((bt112.1.length : Int), bt112.1, bt112.2)))) R →
    Ev (fun k => impl_Heap_minor.l0 k acc o i o c r) R := by
  intro d
  induction d with
  | zero =>
    intro i acc hi ha h
    refine Ev.succ ?_
    simp only [impl_Heap_minor.l0]
    refine Ev.ite_neg (by omega) ?_
    rw [List.range_zero, List.map_nil, List.append_nil] at h
    exact h
  | succ d ih =>
    intro i acc hi ha h
    refine Ev.step (f := fun k => impl_Heap_minor.l0 k (acc ++ [(i : Int)]) o ((i + 1 : Nat) : Int) o c r) (fun k => ?_) (ih (i + 1) (acc ++ [(i : Int)]) (by omega) (by simp; omega) ?_)
    · simp only [impl_Heap_minor.l0]
      rw [if_pos (by omega), if_pos (by omega), next i (n := o) (by omega) (by omega)]
    · rw [List.range_succ_eq_map, List.map_cons, List.map_map, Nat.add_zero] at h
      have e2 : List.map (fun (j : Nat) => ((i + 1 + j : Nat) : Int)) (List.range d) = List.map ((fun (j : Nat) => ((i + j : Nat) : Int)) ∘ Nat.succ) (List.range d) := by
        apply List.map_congr_left
        intro j _
        show ((i + 1 + j : Nat) : Int) = ((i + (j + 1) : Nat) : Int)
        congr 1; omega
      rw [List.append_assoc, List.singleton_append, e2]
      exact h

theorem minor_spec (o : Nat) (c : List S44) (r : List Int) (ho : o ≤ c.length) (hn : c.length ≤ 200) (R : Int × List S44 × List Int) : ∀ (d i : Nat) (m : List Bool), i + d = o → m.length = c.length → (∀ j, getB m j = true ↔ j < i) →
    (∀ m', m'.length = c.length → (∀ j, getB m' j = true ↔ j < o) → Ev (fun k => (spec_l7Keep.f k o c r m').bind fun t107 => ((spec_l7Move.f k o c r t107).bind fun bt110 => (some (bt110.1, bt110.2.1, bt110.2.2)))) R) →
    Ev (fun k => spec_l7Minor.l0 k m i o c r) R := by
  intro d
  induction d with
  | zero =>
    intro i m hi hm hb h
    refine Ev.succ ?_
    simp only [spec_l7Minor.l0]
    refine Ev.ite_neg (by omega) (h m hm (fun j => by rw [hb j]; omega))
  | succ d ih =>
    intro i m hi hm hb h
    refine Ev.step (f := fun k => spec_l7Minor.l0 k (m.set i true) ((i + 1 : Nat) : Int) o c r) (fun k => ?_) (ih (i + 1) (m.set i true) (by omega) (by simpa using hm) (fun j => ?_) h)
    · simp only [spec_l7Minor.l0, Int.toNat_natCast]
      rw [if_pos (by omega), if_pos (by omega), if_pos (by omega), next i (n := o) (by omega) (by omega)]
    · rw [getB_set m _ _ (by omega), Bool.or_eq_true, hb j, decide_eq_true_iff]; omega

theorem minorBoth (old : Int) (c : List S44) (r : List Int) (hg : goodH old c r = true) : ∃ m, Least c (fun j => (j : Int) < old ∨ (j : Int) ∈ r) m ∧ Ev (fun k => spec_l7Minor.f k old c r) (told c m r) ∧ Ev (fun k => impl_Heap_minor.f k old c r) (told c m r) := by
  obtain ⟨hn, hr, ho, hc, hro⟩ := good_parts hg
  have hro' : ∀ x ∈ r, 0 ≤ x ∧ x < (c.length : Int) := fun x hx => of_decide_eq_true (List.all_eq_true.mp hro x hx)
  obtain ⟨o, rfl⟩ : ∃ o : Nat, old = (o : Int) := ⟨old.toNat, by omega⟩
  have hst : rootsOk c.length (r ++ firsts o) = true := by
    unfold rootsOk
    rw [List.all_eq_true]
    intro x hx
    rcases List.mem_append.mp hx with h | h
    · exact decide_eq_true (hro' x h)
    · have := (mem_firsts o x).mp h; exact decide_eq_true (by omega)
  have hlen : (firsts o).length = o := by unfold firsts; simp
  obtain ⟨m0, hm0, hev⟩ := implReached c (r ++ firsts o) hc hn (by rw [List.length_append, hlen]; omega) hst
  have hm : Least c (fun j => (j : Int) < (o : Int) ∨ (j : Int) ∈ r) m0 := hm0.congr (fun j _ => by rw [List.mem_append, mem_firsts]; constructor; (rintro (h | h); exact .inr h; exact .inl h.2); (rintro (h | h); exact .inr ⟨by omega, h⟩; exact .inl h))
  have hrm : ∀ x ∈ r, getB m0 x.toNat = true := fun x hx => hm.base x.toNat (by have := hro' x hx; omega) (.inr (by have := hro' x hx; rw [show ((x.toNat : Nat) : Int) = x by omega]; exact hx))
  refine ⟨m0, hm, ?_, ?_⟩
  · unfold spec_l7Minor.f
    refine Ev.ite_pos (by omega) (Ev.ite_pos (by omega) ?_)
    rw [Int.toNat_natCast]
    refine minor_spec o c r (by omega) hn _ o 0 (List.replicate c.length false) (by omega) (by simp) (fun j => by rw [getB_rep]; simp) (fun m' hl hb => ?_)
    obtain ⟨m1, hm1, hev1⟩ := specKeep (o : Int) c r m' hc hn hr hro hl
    have e : m1 = m0 := Least.eq (hm1.congr (fun j _ => by rw [hb j]; constructor; (rintro (h | h); exact .inl (by omega); exact .inr h); (rintro (h | h); exact .inl (by omega); exact .inr h))) hm
    subst e
    exact Ev.bind hev1 (Ev.bind (specMove (o : Int) c hc hn r m1 _ hm hr hro' hrm) (Ev.now _))
  · unfold impl_Heap_minor.f
    rw [clone_eq r (by omega)]
    simp only [Option.bind_some]
    refine minor_from o c r (by omega) _ o 0 r (by omega) (by omega) ?_
    simp only [Nat.zero_add]
    exact Ev.bind hev (Ev.bind (implKept c hc hn r m0 hm.len hr hro') (Ev.now _))
end Go.Proofs.Ytcbgjcnekdoloaa.HeapL

namespace Go.Proofs.Ytcbgjcnekdoloaa.HeapL
open Go.RowKit Go.Proofs.Ytcbgjcnekdoloaa.G Go.Proofs.Ytcbgjcnekdoloaa.EvL Go.Proofs.YtcbgjcnekdoloaaW.PrintWords Go.Proofs.YtcbgjcnekdoloaaW.PrintLast
set_option linter.unusedVariables false

/-- The list with the numbers from q on at places i and behind. -/
def markI (l : List Int) (q : Int) : List Int := (List.range l.length).map fun (j : Nat) => q + (j : Int)

theorem markInts_from (n : Nat) (hn : n ≤ 2000000) : ∀ (d i : Nat) (l : List Int) (q : Int), i + d = n → l.length = n → 0 ≤ q → q ≤ 100000000 →
    Ev (fun k => laws_markIntS.l0 k l (q + (i : Int)) i) (q + (n : Int), l.take i ++ (List.range d).map fun (j : Nat) => q + ((i + j : Nat) : Int)) := by
  intro d
  induction d with
  | zero =>
    intro i l q hi hl h0 h1
    obtain rfl : i = n := by omega
    refine Ev.succ (Ev.congr (fun k => ?_) (Ev.now _))
    simp only [laws_markIntS.l0]
    rw [if_neg (by omega), List.range_zero, List.map_nil, List.append_nil, List.take_of_length_le (by omega)]
  | succ d ih =>
    intro i l q hi hl h0 h1
    refine Ev.step (f := fun k => laws_markIntS.l0 k (l.set i (q + (i : Int))) (q + ((i + 1 : Nat) : Int)) ((i + 1 : Nat) : Int)) (fun k => ?_) ?_
    · simp only [laws_markIntS.l0]
      rw [if_pos (by omega), if_pos (by omega), next i (n := n) (by omega) (by omega), w64 (by omega) (by omega), Int.toNat_natCast, show q + (i : Int) + 1 = q + ((i + 1 : Nat) : Int) by omega]
    · refine Ev.of_eq (ih (i + 1) (l.set i (q + (i : Int))) q (by omega) (by simpa using hl) h0 h1) ?_
      have e : (l.set i (q + (i : Int))).take (i + 1) = l.take i ++ [q + (i : Int)] := by
        rw [List.take_succ_eq_append_getElem (by simp; omega)]
        simp [List.take_set_of_le]
      rw [e, List.append_assoc, List.range_succ_eq_map, List.map_cons, List.map_map, Nat.add_zero, List.singleton_append]
      congr 2
      congr 1
      apply List.map_congr_left
      intro j _
      show q + ((i + 1 + j : Nat) : Int) = q + ((i + (j + 1) : Nat) : Int)
      congr 2; omega

theorem markInts (l : List Int) (q : Int) (hl : l.length ≤ 2000000) (h0 : 0 ≤ q) (h1 : q ≤ 100000000) : Ev (fun k => laws_markIntS.f k l q) (q + (l.length : Int), markI l q) := by
  unfold laws_markIntS.f markI
  have := markInts_from l.length hl l.length 0 l q (by omega) rfl h0 h1
  simp only [Nat.zero_add, List.take_zero, List.nil_append] at this
  have e : q + ((0 : Nat) : Int) = q := by omega
  rw [e] at this
  exact this

theorem heldInts (l : List Int) (q : Int) (hl : l.length ≤ 2000000) (h0 : 0 ≤ q) (h1 : q ≤ 100000000) : Ev (fun k => laws_heldIntS.f k (markI l q) q) (q + (l.length : Int)) := by
  unfold laws_heldIntS.f
  have hlen : (markI l q).length = l.length := by unfold markI; simp
  have key : ∀ (d i : Nat), i + d = l.length → Ev (fun k => laws_heldIntS.l0 k (markI l q) (q + (i : Int)) i) (q + (l.length : Int)) := by
    intro d
    induction d with
    | zero =>
      intro i hi
      refine Ev.succ (Ev.congr (fun k => ?_) (Ev.now _))
      simp only [laws_heldIntS.l0, hlen]
      rw [if_neg (by omega), show i = l.length by omega]
    | succ d ih =>
      intro i hi
      have e : rd (markI l q) (i : Int) = q + (i : Int) := by
        rw [rdI]; unfold markI
        rw [List.getD_eq_getElem?_getD, List.getElem?_map, List.getElem?_range (by omega)]; rfl
      refine Ev.step (f := fun k => laws_heldIntS.l0 k (markI l q) (q + ((i + 1 : Nat) : Int)) ((i + 1 : Nat) : Int)) (fun k => ?_) (ih (i + 1) (by omega))
      simp only [laws_heldIntS.l0, hlen, e]
      rw [if_pos (by omega), if_pos (by omega), next i (n := l.length) (by omega) (by omega), w64 (by omega) (by omega), show q + (i : Int) + 1 = q + ((i + 1 : Nat) : Int) by omega]
      rw [if_pos trivial]
  have := key l.length 0 (by omega)
  have e : q + ((0 : Nat) : Int) = q := by omega
  rw [e] at this
  exact this

def mkC (q : Int) : S44 := ⟨Int.tmod q 3 == 0, q + 1, q + 2, q + 3⟩
def markC (l : List S44) (q : Int) : List S44 := (List.range l.length).map fun (j : Nat) => mkC (q + 4 * (j : Int))

theorem rd_setC (l : List S44) (i : Nat) (v : S44) (h : i < l.length) : rd_T44 (l.set i v) (i : Int) = v := by
  rw [rdC, List.getD_eq_getElem?_getD, List.getElem?_set_self h]; rfl

theorem markCells_from (n : Nat) (hn : n ≤ 2000000) : ∀ (d i : Nat) (l : List S44) (q : Int), i + d = n → l.length = n → 0 ≤ q → q ≤ 100000000 →
    Ev (fun k => laws_markCellS.l0 k l (q + 4 * (i : Int)) i) (q + 4 * (n : Int), l.take i ++ (List.range d).map fun (j : Nat) => mkC (q + 4 * ((i + j : Nat) : Int))) := by
  intro d
  induction d with
  | zero =>
    intro i l q hi hl h0 h1
    obtain rfl : i = n := by omega
    refine Ev.succ (Ev.congr (fun k => ?_) (Ev.now _))
    simp only [laws_markCellS.l0]
    rw [if_neg (by omega), List.range_zero, List.map_nil, List.append_nil, List.take_of_length_le (by omega)]
  | succ d ih =>
    intro i l q hi hl h0 h1
    have hlt : i < l.length := by omega
    refine Ev.step (f := fun k => laws_markCellS.l0 k (l.set i (mkC (q + 4 * (i : Int)))) (q + 4 * ((i + 1 : Nat) : Int)) ((i + 1 : Nat) : Int)) (fun k => ?_) ?_
    · have w1 : wrap64 (q + 4 * (i : Int) + 1) = q + 4 * (i : Int) + 1 := w64 (by omega) (by omega)
      have w2 : wrap64 (q + 4 * (i : Int) + 1 + 1) = q + 4 * (i : Int) + 2 := by rw [w64 (by omega) (by omega)]; omega
      have w3 : wrap64 (q + 4 * (i : Int) + 2 + 1) = q + 4 * (i : Int) + 3 := by rw [w64 (by omega) (by omega)]; omega
      have w4 : wrap64 (q + 4 * (i : Int) + 3 + 1) = q + 4 * ((i + 1 : Nat) : Int) := by rw [w64 (by omega) (by omega)]; omega
      simp only [laws_markCellS.l0, w1, w2, w3, w4, Option.bind_some, Int.toNat_natCast]
      rw [if_pos (by omega), if_pos (by omega), next i (n := n) (by omega) (by omega)]
      congr 1
      simp only [rd_setC l i _ hlt, List.set_set]
      rfl
    · refine Ev.of_eq (ih (i + 1) (l.set i (mkC (q + 4 * (i : Int)))) q (by omega) (by simpa using hl) h0 h1) ?_
      have e : (l.set i (mkC (q + 4 * (i : Int)))).take (i + 1) = l.take i ++ [mkC (q + 4 * (i : Int))] := by
        rw [List.take_succ_eq_append_getElem (by simp; omega)]
        simp [List.take_set_of_le]
      rw [e, List.append_assoc, List.range_succ_eq_map, List.map_cons, List.map_map, Nat.add_zero, List.singleton_append]
      congr 2
      congr 1
      apply List.map_congr_left
      intro j _
      show mkC (q + 4 * ((i + 1 + j : Nat) : Int)) = mkC (q + 4 * ((i + (j + 1) : Nat) : Int))
      congr 3; omega

theorem markCells (l : List S44) (q : Int) (hl : l.length ≤ 2000000) (h0 : 0 ≤ q) (h1 : q ≤ 100000000) : Ev (fun k => laws_markCellS.f k l q) (q + 4 * (l.length : Int), markC l q) := by
  unfold laws_markCellS.f markC
  have := markCells_from l.length hl l.length 0 l q (by omega) rfl h0 h1
  simp only [Nat.zero_add, List.take_zero, List.nil_append] at this
  have e : q + 4 * ((0 : Nat) : Int) = q := by omega
  rw [e] at this
  exact this

theorem markHeap (old : Int) (c : List S44) (r : List Int) (hc : c.length ≤ 2000000) (hr : r.length ≤ 2000000) :
    Ev (fun k => laws_markHeap.f k old c r 1) (1 + 4 * (c.length : Int) + (r.length : Int), markC c 1, markI r (1 + 4 * (c.length : Int))) := by
  unfold laws_markHeap.f
  exact Ev.bind (markCells c 1 hc (by omega) (by omega)) (Ev.bind (markInts r (1 + 4 * (c.length : Int)) hr (by omega) (by omega)) (Ev.now _))
end Go.Proofs.Ytcbgjcnekdoloaa.HeapL

namespace Go.Proofs.Ytcbgjcnekdoloaa.HeapL
open Go.RowKit Go.Proofs.Ytcbgjcnekdoloaa.G Go.Proofs.Ytcbgjcnekdoloaa.EvL Go.Proofs.YtcbgjcnekdoloaaW.PrintWords Go.Proofs.YtcbgjcnekdoloaaW.PrintLast
set_option linter.unusedVariables false

theorem heldCells (l : List S44) (q : Int) (hl : l.length ≤ 2000000) (h0 : 0 ≤ q) (h1 : q ≤ 100000000) : Ev (fun k => laws_heldCellS.f k (markC l q) q) (q + 4 * (l.length : Int)) := by
  unfold laws_heldCellS.f
  have hlen : (markC l q).length = l.length := by unfold markC; simp
  have key : ∀ (d i : Nat), i + d = l.length → Ev (fun k => laws_heldCellS.l0 k (markC l q) (q + 4 * (i : Int)) i) (q + 4 * (l.length : Int)) := by
    intro d
    induction d with
    | zero =>
      intro i hi
      refine Ev.succ (Ev.congr (fun k => ?_) (Ev.now _))
      simp only [laws_heldCellS.l0, hlen]
      rw [if_neg (by omega), show i = l.length by omega]
    | succ d ih =>
      intro i hi
      have e : rd_T44 (markC l q) (i : Int) = mkC (q + 4 * (i : Int)) := by
        rw [rdC]; unfold markC
        rw [List.getD_eq_getElem?_getD, List.getElem?_map, List.getElem?_range (by omega)]; rfl
      have w1 : wrap64 (q + 4 * (i : Int) + 1) = q + 4 * (i : Int) + 1 := w64 (by omega) (by omega)
      have w2 : wrap64 (q + 4 * (i : Int) + 1 + 1) = q + 4 * (i : Int) + 2 := by rw [w64 (by omega) (by omega)]; omega
      have w3 : wrap64 (q + 4 * (i : Int) + 2 + 1) = q + 4 * (i : Int) + 3 := by rw [w64 (by omega) (by omega)]; omega
      have w4 : wrap64 (q + 4 * (i : Int) + 3 + 1) = q + 4 * ((i + 1 : Nat) : Int) := by rw [w64 (by omega) (by omega)]; omega
      refine Ev.step (f := fun k => laws_heldCellS.l0 k (markC l q) (q + 4 * ((i + 1 : Nat) : Int)) ((i + 1 : Nat) : Int)) (fun k => ?_) (ih (i + 1) (by omega))
      simp only [laws_heldCellS.l0, hlen, e, w1, w2, w3, w4, mkC]
      rw [if_pos (by omega), if_pos (by omega), next i (n := l.length) (by omega) (by omega), if_neg (by simp), if_pos trivial, if_pos trivial, if_pos trivial]
  have := key l.length 0 (by omega)
  have e : q + 4 * ((0 : Nat) : Int) = q := by omega
  rw [e] at this
  exact this

theorem heldHeap (old : Int) (c : List S44) (r : List Int) (hc : c.length ≤ 2000000) (hr : r.length ≤ 2000000) :
    Ev (fun k => laws_heldHeap.f k old (markC c 1) (markI r (1 + 4 * (c.length : Int))) 1) (1 + 4 * (c.length : Int) + (r.length : Int)) := by
  unfold laws_heldHeap.f
  exact Ev.bind (heldCells c 1 hc (by omega) (by omega)) (Ev.ite_neg (by omega) (Ev.bind (heldInts r (1 + 4 * (c.length : Int)) hr (by omega) (by omega)) (Ev.ite_neg (by omega) (Ev.now _))))
end Go.Proofs.Ytcbgjcnekdoloaa.HeapL

namespace Go.Proofs.Ytcbgjcnekdoloaa.Pure
open Go.RowKit Go.Proofs.Ytcbgjcnekdoloaa.G Go.Proofs.Ytcbgjcnekdoloaa.EvL Go.Proofs.Ytcbgjcnekdoloaa.HeapL Go.Proofs.YtcbgjcnekdoloaaW.PrintWords Go.Proofs.YtcbgjcnekdoloaaW.PrintLast

theorem bothMinorCollect (old : Int) (c : List S44) (r : List Int) : ∃ (o : Int) (c' : List S44) (r' : List Int) (b : Bool), c'.length ≤ 200 ∧ r'.length ≤ 60 ∧ Ev (fun k => spec_MinorCollect.f k old c r) (o, c', r', b) ∧ Ev (fun k => impl_MinorCollect.f k old c r) (o, c', r', b) := by
  unfold spec_MinorCollect.f impl_MinorCollect.f
  cases hg : goodH old c r with
  | false =>
    exact ⟨0, [], [], false, by simp, by simp, Ev.bind (hg ▸ specGood old c r) (Ev.ite_neg (by simp) (Ev.now _)), Ev.bind (hg ▸ implGood old c r) (Ev.ite_neg (by simp) (Ev.now _))⟩
  | true =>
    obtain ⟨hn, hr, _⟩ := good_parts hg
    obtain ⟨m, hm, h1, h2⟩ := minorBoth old c r hg
    refine ⟨_, _, _, true, ?_, ?_, Ev.bind (hg ▸ specGood old c r) (Ev.ite_pos rfl (Ev.bind h1 (Ev.now _))), Ev.bind (hg ▸ implGood old c r) (Ev.ite_pos rfl (Ev.bind h2 (Ev.now _)))⟩
    · exact Nat.le_trans (pickFrom_len ..) hn
    · unfold told newRoots; rw [List.length_map]; exact hr

theorem FnExactMinorCollect : laws_FnExactMinorCollect.Pure := by
  intro old c r _ hc hr
  obtain ⟨t, ht, hs⟩ := sizes old c r hc.1 hr.1
  refine Ev.rounds ?_
  unfold laws_FnExactMinorCollect.f
  rw [ht]
  simp only [Option.bind_some]
  by_cases h : t < 0
  · exact Ev.ite_pos h (Ev.now _)
  obtain ⟨hc1, hr1⟩ := hs h
  have th := toHeap old c r hc1 hr1
  obtain ⟨o, c', r', b, hcl', hrl', hsp, him⟩ := bothMinorCollect old (c.map conv) r
  have heq := eqHeap o c' r' (by omega) (by omega)
  have hcl : (c.map conv).length ≤ 2000000 := by rw [List.length_map]; omega
  have hfl : (b != b) = false := by simp
  refine Ev.ite_neg h (Ev.bind th (Ev.bind hsp (Ev.bind th (Ev.bind him (Ev.bind heq (Ev.ite_pos rfl (Ev.succ ?_)))))))
  simp only [laws_FnExactMinorCollect.j0]
  refine Ev.ite_neg (by rw [hfl]; decide) (Ev.bind th (Ev.bind (eqHeap old (c.map conv) r (by omega) (by omega)) (Ev.ite_pos rfl (Ev.bind (markHeap old (c.map conv) r hcl (by omega)) ?_))))
  refine Ev.ite_neg (by show ¬ (1 + 4 * ((c.map conv).length : Int) + (r.length : Int) < 0); omega) (Ev.bind heq (Ev.ite_pos rfl (Ev.succ ?_)))
  simp only [laws_FnExactMinorCollect.j1]
  have held := heldHeap o c' r' (by omega) (by omega)
  refine Ev.ite_neg (by rw [hfl]; decide) (Ev.bind (markHeap o c' r' (by omega) (by omega)) (Ev.bind held ?_))
  refine Ev.ite_neg (by omega) (Ev.ite_pos rfl (Ev.bind th (Ev.bind him (Ev.bind heq (Ev.ite_pos rfl (Ev.succ ?_))))))
  simp only [laws_FnExactMinorCollect.j2]
  refine Ev.ite_neg (by rw [hfl]; decide) (Ev.bind held (Ev.ite_neg (by omega) (Ev.ite_pos rfl (Ev.now _))))

end Go.Proofs.Ytcbgjcnekdoloaa.Pure

namespace Go.Proofs.Ytcbgjcnekdoloaa.Open
open Go.RowKit Go.Proofs.YtcbgjcnekdoloaaW.PrintWords
open Go.WideShapes
set_option linter.unusedVariables false

/-- Cells of type t that can be read tell a value of the kind d that is good. -/
def Opens {α : Type} (H : Type) (enc : TypeId × Value → H) (P : Program) (t : TypeId) (d : Kd α) (good : α → Prop) : Prop :=
  ∀ (w : World) (base : Nat) (spare : Nat → Bool) (held : Bool) (fuel : Nat) (cs : List Value) (x : DataW H × List MemPlace),
    DataW.trod enc P w base spare held fuel t cs = some x → ∃ v, d.K w v cs ∧ good v

section
variable {H : Type} {enc : TypeId × Value → H} {P : Program}

theorem opens_int {t : TypeId} {k : IntKind} (ht : P.underlying t = some (.int k)) : Opens H enc P t (Kd.int k) (fun n => (Lit.int k n).wf = true) := by
  intro w base spare held fuel cs x h
  obtain ⟨n, rfl, _, hw⟩ := DataW.trod_int ht h
  exact ⟨n, rfl, hw⟩

theorem opens_bool {t : TypeId} (ht : P.underlying t = some .bool) : Opens H enc P t Kd.bool (fun _ => True) := by
  intro w base spare held fuel cs x h
  obtain ⟨b, rfl, _⟩ := DataW.trod_bool ht h
  exact ⟨b, rfl, trivial⟩

theorem opens_string {t : TypeId} (ht : P.underlying t = some .string) : Opens H enc P t Kd.string (fun s => s.size ≤ 9223372036854775807) := by
  intro w base spare held fuel cs x h
  obtain ⟨s, rfl, _, hs⟩ := DataW.trod_string ht h
  exact ⟨s, rfl, hs⟩

/-- A list of choices. -/
theorem choose_list {α : Type} (p : Nat → α → Prop) : ∀ n : Nat, (∀ i, i < n → ∃ a, p i a) → ∃ l : List α, l.length = n ∧ ∀ i a, l[i]? = some a → p i a
  | 0, _ => ⟨[], rfl, fun i a h => by simp at h⟩
  | n + 1, h => by
    obtain ⟨l, hl, hp⟩ := choose_list p n (fun i hi => h i (by omega))
    obtain ⟨a, ha⟩ := h n (by omega)
    refine ⟨l ++ [a], by simp [hl], fun i b hb => ?_⟩
    by_cases hi : i < n
    · exact hp i b (by rwa [List.getElem?_append_left (by omega)] at hb)
    · rw [List.getElem?_append_right (by omega)] at hb
      have : i - l.length = 0 := by
        by_cases h0 : i - l.length = 0
        · exact h0
        · rw [List.getElem?_eq_none (by simp; omega)] at hb; simp at hb
      rw [this] at hb
      obtain rfl : a = b := by simpa using hb
      obtain rfl : i = n := by omega
      exact ha

theorem opens_slice {α : Type} {t e : TypeId} {d : Kd α} {good : α → Prop} (ht : P.underlying t = some (.slice e)) (he : Opens H enc P e d good) (hc : P.cellsOf e = d.sz) :
    Opens H enc P t (Kd.slice e d) (fun l => l.length ≤ 9223372036854775807 ∧ ∀ x ∈ l, good x) := by
  intro w base spare held fuel cs x h
  rcases DataW.trod_slice ht h with ⟨rfl, _⟩ | ⟨a, len, cap, elems, rest, n, _, rfl, _, hb, hl, hm, hel, hg, _, _⟩
  · exact ⟨[], ⟨none, 0, rfl, Nat.le_refl _, ⟨rfl, by simp, fun h => by simp at h⟩⟩, by simp, by simp⟩
  · have hm' : cap ≤ 9223372036854775807 := hm
    have key : ∀ i, i < len → ∃ v : α, good v ∧ ∃ c : List Value, c.length = d.sz ∧ d.K w v c ∧ ∀ j u, c[j]? = some u → w.cell? (a.add (i * d.sz + j)) = some u := by
      intro i hi
      have hgi := hg i hi
      have hsome : ∃ y, elems[i]? = some y := ⟨elems[i]'(by omega), List.getElem?_eq_getElem (by omega)⟩
      obtain ⟨y, hy⟩ := hsome
      rw [hy] at hgi
      obtain ⟨c, hc1, hc2⟩ := Option.bind_eq_some_iff.mp hgi
      obtain ⟨v, hK, hgood⟩ := he w base spare held n c y hc2
      obtain ⟨_, hlen, hcell⟩ := World.cells?_some hc1
      refine ⟨v, hgood, c, d.K_len hK, hK, fun j u hu => ?_⟩
      have hj : j < c.length := by
        by_cases hj : j < c.length
        · exact hj
        · rw [List.getElem?_eq_none (by omega)] at hu; simp at hu
      have := hcell j (by omega)
      rw [Addr.add_add, hc, hu] at this
      exact this
    obtain ⟨l, hl0, hl1⟩ := choose_list (fun i v => good v ∧ ∃ c : List Value, c.length = d.sz ∧ d.K w v c ∧ ∀ j u, c[j]? = some u → w.cell? (a.add (i * d.sz + j)) = some u) len key
    refine ⟨l, ⟨some a, cap, by rw [hl0], by omega, ⟨rfl, by omega, fun _ => ⟨a, rfl, fun j p hp => (hl1 j p hp).2⟩⟩⟩, by omega, fun v hv => ?_⟩
    obtain ⟨i, hi⟩ := List.mem_iff_getElem?.mp hv
    exact (hl1 i v hi).1

/-- The cells of fields, from one offset on. -/
def OpensF {α : Type} (H : Type) (enc : TypeId × Value → H) (P : Program) (fs : List Field) (off : Nat) (d : Kd α) (good : α → Prop) : Prop :=
  ∀ (w : World) (base : Nat) (spare : Nat → Bool) (held : Bool) (n : Nat) (cs : List Value), off + d.sz ≤ cs.length →
    (∀ f ∈ fs, ∃ y, DataW.trod enc P w base spare held n f.type ((cs.drop f.offset).take (P.cellsOf f.type)) = some y) → ∃ v, d.K w v ((cs.drop off).take d.sz) ∧ good v

theorem opensF_last {α : Type} {f : Field} {d : Kd α} {good : α → Prop} (h : Opens H enc P f.type d good) (hc : P.cellsOf f.type = d.sz) : OpensF H enc P [f] f.offset d good := by
  intro w base spare held n cs hl hf
  obtain ⟨y, hy⟩ := hf f (by simp)
  rw [hc] at hy
  exact h w base spare held n _ y hy

theorem opensF_cons {α β : Type} {f : Field} {fs : List Field} {d : Kd α} {e : Kd β} {g1 : α → Prop} {g2 : β → Prop} (h : Opens H enc P f.type d g1) (hc : P.cellsOf f.type = d.sz)
    (hs : OpensF H enc P fs (f.offset + d.sz) e g2) : OpensF H enc P (f :: fs) f.offset (Kd.pair d e) (fun x => g1 x.1 ∧ g2 x.2) := by
  intro w base spare held n cs hl hf
  have hl' : f.offset + (d.sz + e.sz) ≤ cs.length := hl
  obtain ⟨v, hv, hgv⟩ := opensF_last h hc w base spare held n cs (by omega) (fun f' hf' => hf f' (by simp at hf' ⊢; exact .inl hf'))
  obtain ⟨u, hu, hgu⟩ := hs w base spare held n cs (by omega) (fun f' hf' => hf f' (by simp; exact .inr hf'))
  refine ⟨(v, u), ⟨_, _, ?_, hv, hu⟩, hgv, hgu⟩
  show (cs.drop f.offset).take (d.sz + e.sz) = _
  rw [List.take_add, List.drop_drop]

theorem opens_struct {α β : Type} {t : TypeId} {fs : Array Field} {d : Kd α} {good : α → Prop} (f : β → α) (g : α → β) (hfg : ∀ x, f (g x) = x) (ht : P.underlying t = some (.struct fs))
    (hc : P.cellsOf t = d.sz) (h : OpensF H enc P fs.toList 0 d good) : Opens H enc P t (Kd.iso d f) (fun x => good (f x)) := by
  intro w base spare held fuel cs x hx
  obtain ⟨xs, n, _, _, hl, hxs, hf⟩ := DataW.trod_struct ht hx
  obtain ⟨v, hv, hg⟩ := h w base spare held n cs (by omega) (fun f' hf' => by
    obtain ⟨i, hi⟩ := List.mem_iff_getElem?.mp hf'
    have hlt : i < fs.size := by
      by_cases hlt : i < fs.size
      · exact hlt
      · rw [List.getElem?_eq_none (by simp; omega)] at hi; simp at hi
    refine ⟨xs[i]'(by omega), ?_⟩
    rw [hf i f' (by simpa using hi), List.getElem?_eq_getElem (by omega)])
  refine ⟨g v, ?_, by show good (f (g v)); rw [hfg]; exact hg⟩
  rw [List.drop_zero, List.take_of_length_le (by omega)] at hv
  show d.K w (f (g v)) cs
  rw [hfg]
  exact hv

theorem opens_imp {α : Type} {t : TypeId} {d : Kd α} {g1 g2 : α → Prop} (h : Opens H enc P t d g1) (hg : ∀ x, g1 x → g2 x) : Opens H enc P t d g2 := by
  intro w base spare held fuel cs x hx
  obtain ⟨v, h1, h2⟩ := h w base spare held fuel cs x hx
  exact ⟨v, h1, hg v h2⟩

/-- A slice that comes in. -/
theorem slice_in {α : Type} {t e : TypeId} {d : Kd α} {good : List α → Prop} (ht : P.underlying t = some (.slice e)) (hs : Opens H enc P t (Kd.slice e d) good) {W : World} {r : Reach} {b base : Nat} {spare : Nat → Bool} {held : Bool} {v : Value} {dd : DataW H} {p : List MemPlace}
    (hv : Value.okWide P W r b t v) (h : DataW.Trod enc P W base spare held t v dd p) : ∃ (A : Option Addr) (l : List α) (c : Nat), v = .slice A l.length c ∧ l.length ≤ c ∧ d.C W A l.length l ∧ good l := by
  obtain ⟨a, len, cap, rfl⟩ := okWide_slice ht hv
  obtain ⟨fuel, hf⟩ := h
  obtain ⟨l, ⟨A, c, hcs, hlc, hC⟩, hg⟩ := hs W base spare held fuel _ _ hf
  simp [Value.cells] at hcs
  obtain ⟨rfl, rfl, rfl⟩ := hcs
  exact ⟨a, l, cap, rfl, hlc, hC, hg⟩

/-- A struct that comes in by value. -/
theorem struct_in {α : Type} {t : TypeId} {fs : Array Field} {d : Kd α} {good : α → Prop} (ht : P.underlying t = some (.struct fs)) (hs : Opens H enc P t d good) {W : World} {r : Reach} {b base : Nat} {spare : Nat → Bool} {held : Bool} {v : Value} {dd : DataW H} {p : List MemPlace}
    (hv : Value.okWide P W r b t v) (h : DataW.Trod enc P W base spare held t v dd p) : ∃ (x : α) (cs : List Value), v = .agg cs.toArray ∧ d.K W x cs ∧ good x := by
  obtain ⟨cs, rfl, _⟩ := okWide_struct ht hv
  obtain ⟨fuel, hf⟩ := h
  obtain ⟨x, hK, hg⟩ := hs W base spare held fuel _ _ hf
  exact ⟨x, cs.toList, by simp, hK, hg⟩
end
end Go.Proofs.Ytcbgjcnekdoloaa.Open

namespace Go.Proofs.Ytcbgjcnekdoloaa.fnExactMinorCollect
open Go.ChangeShapes Go.WideShapes Go.ChangeAt Go.RowKit Go.Proofs.Ytcbgjcnekdoloaa.Open Go.Proofs.Ytcbgjcnekdoloaa.G Go.Proofs.YtcbgjcnekdoloaaW.PrintWords
open Go.ChangeMaps (open_string shut_string)
set_option linter.unusedVariables false
theorem own : ownKnob Try.prog.godebug = none := by kernel_rfl
theorem laidOut : laidOutB Try.prog = true := by kernel_rfl
section
variable {H : Type} {enc : TypeId × Value → H}
theorem openT59 : Opens H enc Try.prog 59 k59 (fun x => (True ∧ (Lit.int .i64 x.f1).wf = true ∧ (Lit.int .i64 x.f2).wf = true ∧ (Lit.int .i64 x.f3).wf = true)) :=
  opens_imp (opens_struct (fun x : S59 => (x.f0, x.f1, x.f2, x.f3)) (fun y => (⟨y.1, y.2.1, y.2.2.1, y.2.2.2⟩ : S59)) (fun _ => rfl) Try.underlying59 (by kernel_rfl) (opensF_cons (opens_bool Try.underlying4) (by kernel_rfl) (opensF_cons (opens_int Try.underlying3) (by kernel_rfl) (opensF_cons (opens_int Try.underlying3) (by kernel_rfl) (opensF_last (opens_int Try.underlying3) (by kernel_rfl)))))) (fun x h => h)
theorem openT25 : Opens H enc Try.prog 25 k25 (fun x => ((Lit.int .i64 x.f0).wf = true ∧ (x.f1.length ≤ 9223372036854775807 ∧ ∀ x_ ∈ x.f1, (True ∧ (Lit.int .i64 x_.f1).wf = true ∧ (Lit.int .i64 x_.f2).wf = true ∧ (Lit.int .i64 x_.f3).wf = true)) ∧ (x.f2.length ≤ 9223372036854775807 ∧ ∀ x_ ∈ x.f2, (Lit.int .i64 x_).wf = true))) :=
  opens_imp (opens_struct (fun x : S25 => (x.f0, x.f1, x.f2)) (fun y => (⟨y.1, y.2.1, y.2.2⟩ : S25)) (fun _ => rfl) Try.underlying25 (by kernel_rfl) (opensF_cons (opens_int Try.underlying3) (by kernel_rfl) (opensF_cons (opens_slice Try.underlying22 openT59 (by kernel_rfl)) (by kernel_rfl) (opensF_last (opens_slice Try.underlying23 (opens_int Try.underlying3) (by kernel_rfl)) (by kernel_rfl))))) (fun x h => h)
end
set_option maxRecDepth 100000 in
theorem lifted (os : Os) (started : os.Started) (H : Type) (enc : TypeId × Value → H) :
    ReturnsInHanded {} Try.checked os 6 .any (Rows.fnExactMinorCollectSpec.pre6 enc Try.prog Try.f6 Rows.fnExactMinorCollectRow.domain false) (Rows.fnExactMinorCollectSpec.post enc Try.prog Try.f6 false true false false) := by
  refine returnsInHanded_of_change_sized (C := Try.checked) own started (by kernel_rfl) Try.func6
    (ChangeSpec.witness6 (enc := enc) (C := Try.checked) false ⟨#[], #[.agg #[.int .i64 0, .slice none 0 0, .slice none 0 0]], []⟩ 8 (by kernel_rfl) (by kernel_rfl) (by kernel_rfl) (by kernel_rfl)) ?_
  intro W base args ds gs before hval0 hW hcnd hsz0 _
  have hsz : (DataW.weightsEach Try.prog (Try.f6.params.toList ++ Rows.fnExactMinorCollectSpec.plain.varTypes Try.prog) (ds ++ gs)).all (· ≤ reachBytes) = true := hsz0
  have hval : ∀ (j : Nat) t v, Try.f6.params[j]? = some t → args[j]? = some v → Value.okWide Try.prog W .any base t v := hval0
  have hW' := hW
  obtain ⟨p, q, hA0, hV, rfl, hfz, hnd⟩ := hW
  have hA : DataW.TrodAll enc Try.prog W 0 (fun _ => true) true Try.f6.params.toList args.toList ds p := hA0
  rw [Try.params6] at hA hval hsz
  obtain ⟨v0, vs0, d0, ds0, p0, q0, hargs, rfl, rfl, h0, r0⟩ := trodAll_cons hA
  obtain ⟨rfl, rfl, rfl⟩ := trodAll_nil r0
  obtain rfl : args = #[v0] := by cases args; simp_all
  obtain ⟨rfl, rfl⟩ := trodVars_none hV
  have k0 := h0
  have lt0 : ∀ x ∈ p0, x.block < W.heap.size := by obtain ⟨m, hm⟩ := k0; exact DataW.trod_lt m _ _ _ hm
  obtain ⟨x0, cs0, rfl, hK0, hg0⟩ := struct_in Try.underlying25 openT25 (hval 0 25 v0 rfl rfl) h0
  obtain ⟨A0_1, c0_1, A0_2, c0_2, rfl, hc0_1, hr0_1, hc0_2, hr0_2⟩ := k25_open hK0
  obtain ⟨hg0_0, hg0_1, hg0_2⟩ := hg0
  clear hA0 hval0 hsz0 hsz
  obtain ⟨k_, hk_⟩ := Pure.FnExactMinorCollect x0.f0 x0.f1 x0.f2 hg0_0 hg0_1 hg0_2
  refine (laws_FnExactMinorCollect.calls k_ x0.f0 A0_1 c0_1 x0.f1 A0_2 c0_2 x0.f2 true W hr0_1 hc0_1 hr0_2 hc0_2 hk_).mono fun e W' ⟨he, bel0⟩ => ?_
  have bel : Below W.heap.size W W' := bel0
  subst he
  exact ⟨_, rfl, _, _, _, [], _, [], hW', trodAll_mk1 (shut_bool Try.underlying4 _), (trodAll_cons_mk (Below.trod laidOut (by kernel_rfl) (of_decide_eq_true (by kernel_rfl)) k0 bel lt0) trodAll_mk0), rfl, bel.frame _, fun h => by cases h⟩
theorem over : Rows.fnExactMinorCollectRow.holds Try.pinned (OpenSpec.ofChange Rows.fnExactMinorCollectSpec) :=
  OpenClaim.holds_of_wide 6 Try.f6 rfl rfl rfl rfl rfl rfl rfl ⟨rfl, rfl, rfl, rfl, rfl⟩ rfl rfl rfl rfl rfl (by kernel_rfl) Try.func6 (by kernel_rfl)
    (of_decide_eq_true (by kernel_rfl)) (by unfold Func.isWrapper; first | (rw [if_pos (by decide +kernel)]; kernel_rfl) | (rw [if_neg (by decide +kernel)]; exact ⟨rfl, rfl⟩))
    (fun os started H enc _ => lifted os started H enc)
theorem proved : Rows.FnExactMinorCollectSaid := over
#print axioms proved
end Go.Proofs.Ytcbgjcnekdoloaa.fnExactMinorCollect
namespace Go.Proofs.Ytcbgjcnekdoloaa
/-- The row, under a short name, for the claim. -/
theorem fnExactMinorCollect_holds : Rows.FnExactMinorCollectSaid := fnExactMinorCollect.proved
end Go.Proofs.Ytcbgjcnekdoloaa
