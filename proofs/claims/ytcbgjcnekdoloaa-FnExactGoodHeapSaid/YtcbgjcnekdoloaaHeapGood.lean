/- What the printed functions on heaps of cells tell, in plain words: the copies that a law makes, and which heaps are good. No condition but those each lemma names. -/
import Derived.Test.YtcbgjcnekdoloaaF3
import Derived.Test.YtcbgjcnekdoloaaEv
namespace Go.Proofs.Ytcbgjcnekdoloaa.HeapL
open Go.RowKit Go.Proofs.Ytcbgjcnekdoloaa.G Go.Proofs.Ytcbgjcnekdoloaa.EvL Go.Proofs.YtcbgjcnekdoloaaW.PrintWords Go.Proofs.YtcbgjcnekdoloaaW.PrintLast
set_option linter.unusedVariables false

def conv (c : S59) : S44 := ⟨c.f0, c.f1, c.f2, c.f3⟩

theorem rdC (l : List S44) (i : Nat) : rd_T44 l (i : Int) = l.getD i z44 := by unfold rd_T44; rw [Int.toNat_natCast]
theorem rdL (l : List S59) (i : Nat) : rd_T59 l (i : Int) = l.getD i z59 := by unfold rd_T59; rw [Int.toNat_natCast]
theorem rdI (l : List Int) (i : Nat) : rd l (i : Int) = l.getD i 0 := by unfold rd; rw [Int.toNat_natCast]
theorem next (i : Nat) {n : Nat} (h : i < n) (hn : n ≤ 9223372036854775807) : wrap64 ((i : Int) + 1) = ((i + 1 : Nat) : Int) := by rw [w64 (by omega) (by omega)]; omega

theorem toCells (l : List S59) (hl : l.length ≤ 1048576) : Ev (fun k => laws_toCellS.f k l) (l.map conv) := by
  unfold laws_toCellS.f
  refine Ev.ite_pos (by omega) (Ev.ite_pos (by omega) ?_)
  rw [Int.toNat_natCast]
  refine Ev.of_eq (ev_fill (fun k acc i => laws_toCellS.l0 k l acc i) l.length (fun j => conv (l.getD j z59)) ?_ ?_ l.length 0 (List.replicate l.length z44) (by omega) (by simp)) ?_
  · intro k acc i hi hacc
    simp only [laws_toCellS.l0, laws_toCell.f, Option.bind_some]
    rw [if_pos (by omega), if_pos (by omega), if_pos (by omega), next i hi (by omega), rdL, Int.toNat_natCast]
    rfl
  · intro k acc hacc
    simp only [laws_toCellS.l0]
    rw [if_neg (by omega)]
  · rw [List.take_zero, List.nil_append]
    simp only [Nat.zero_add]
    rw [show (List.range l.length).map (fun j => conv (l.getD j z59)) = ((List.range l.length).map fun j => l.getD j z59).map conv by rw [List.map_map]; rfl, range_getD]

theorem toInts (l : List Int) (hl : l.length ≤ 1048576) : Ev (fun k => laws_toIntS.f k l) l := by
  unfold laws_toIntS.f
  refine Ev.ite_pos (by omega) (Ev.ite_pos (by omega) ?_)
  rw [Int.toNat_natCast]
  refine Ev.of_eq (ev_fill (fun k acc i => laws_toIntS.l0 k l acc i) l.length (fun j => l.getD j 0) ?_ ?_ l.length 0 (List.replicate l.length 0) (by omega) (by simp)) ?_
  · intro k acc i hi hacc
    simp only [laws_toIntS.l0]
    rw [if_pos (by omega), if_pos (by omega), if_pos (by omega), next i hi (by omega), rdI, Int.toNat_natCast]
  · intro k acc hacc
    simp only [laws_toIntS.l0]
    rw [if_neg (by omega)]
  · rw [List.take_zero, List.nil_append]
    simp only [Nat.zero_add]
    exact range_getD l 0

theorem sizes (old : Int) (c : List S59) (r : List Int) (hc : c.length ≤ 9223372036854775807) (hr : r.length ≤ 9223372036854775807) :
    ∃ t, laws_szHeap.f old c r 1048576 = some t ∧ (¬ t < 0 → c.length ≤ 1048576 ∧ r.length ≤ 1048576) := by
  unfold laws_szHeap.f laws_szCellS.f laws_szIntS.f
  rw [w64 (x := 1048576 - (c.length : Int)) (by omega) (by omega)]
  by_cases h : 1048576 - (c.length : Int) < 0
  · rw [if_pos h]
    exact ⟨-1, rfl, fun h => absurd (by decide) h⟩
  · rw [if_neg h]
    simp only [Option.bind_some]
    rw [if_neg h, w64 (by omega) (by omega)]
    by_cases h2 : 1048576 - (c.length : Int) - (r.length : Int) < 0
    · rw [if_pos h2]
      exact ⟨-1, rfl, fun h => absurd (by decide) h⟩
    · rw [if_neg h2]
      simp only [Option.bind_some]
      rw [if_neg h2]
      exact ⟨_, rfl, fun _ => by omega⟩

theorem toHeap (old : Int) (c : List S59) (r : List Int) (hc : c.length ≤ 1048576) (hr : r.length ≤ 1048576) : Ev (fun k => laws_toHeap.f k old c r) (old, c.map conv, r) := by
  unfold laws_toHeap.f
  refine Ev.bind (toCells c hc) (Ev.bind (toInts r hr) (Ev.now _))

theorem eqCells (a : List S44) (ha : a.length ≤ 9223372036854775807) : Ev (fun k => laws_eqCellS.f k a a) true := by
  unfold laws_eqCellS.f
  refine Ev.ite_pos rfl ?_
  refine Ev.of_eq (ev_all (fun k i => laws_eqCellS.l0 k a a i) a.length (fun _ => true) ?_ ?_ a.length 0 (by omega)) (by simp)
  · intro k i hi
    simp only [laws_eqCellS.l0, laws_eqCell.f]
    rw [if_pos (by omega), if_pos (by omega), if_pos (by omega), if_neg (by simp)]
    simp only [if_true, Option.bind_some]
    rw [next i hi ha]
  · intro k
    simp only [laws_eqCellS.l0]
    rw [if_neg (by omega)]

theorem eqInts (a : List Int) (ha : a.length ≤ 9223372036854775807) : Ev (fun k => laws_eqIntS.f k a a) true := by
  unfold laws_eqIntS.f
  refine Ev.ite_pos rfl ?_
  refine Ev.of_eq (ev_all (fun k i => laws_eqIntS.l0 k a a i) a.length (fun _ => true) ?_ ?_ a.length 0 (by omega)) (by simp)
  · intro k i hi
    simp only [laws_eqIntS.l0]
    rw [if_pos (by omega), if_pos (by omega), if_pos (by omega)]
    simp only [if_true]
    rw [next i hi ha]
  · intro k
    simp only [laws_eqIntS.l0]
    rw [if_neg (by omega)]

theorem eqHeap (old : Int) (c : List S44) (r : List Int) (hc : c.length ≤ 9223372036854775807) (hr : r.length ≤ 9223372036854775807) : Ev (fun k => laws_eqHeap.f k old c r old c r) true := by
  unfold laws_eqHeap.f
  refine Ev.ite_pos rfl (Ev.bind (eqCells c hc) (Ev.ite_pos rfl (Ev.bind (eqInts r hr) (Ev.ite_pos rfl (Ev.now _)))))

/-- May a cell stand at place i. -/
def CellOk (c : S44) (i : Nat) : Prop := (c.f0 = true ∧ c.f2 = 0 ∧ c.f3 = 0) ∨ (c.f0 = false ∧ c.f1 = 0 ∧ 0 ≤ c.f2 ∧ c.f2 < i ∧ 0 ≤ c.f3 ∧ c.f3 < i)
instance (c : S44) (i : Nat) : Decidable (CellOk c i) := by unfold CellOk; infer_instance
def cellsOk (c : List S44) : Bool := (List.range c.length).all fun i => decide (CellOk (c.getD i z44) i)
def rootsOk (n : Nat) (r : List Int) : Bool := r.all fun x => decide (0 ≤ x ∧ x < (n : Int))
/-- Is a heap good. -/
def goodH (old : Int) (c : List S44) (r : List Int) : Bool := decide (c.length ≤ 200) && (decide (r.length ≤ 60) && (decide (0 ≤ old ∧ old ≤ (c.length : Int)) && (cellsOk c && rootsOk c.length r)))

theorem l1In_eq (a b c : Int) : spec_l1In.f a b c = some (decide (b ≤ a ∧ a ≤ c)) := by
  unfold spec_l1In.f
  by_cases h : a ≥ b
  · rw [if_pos h]; congr 1; exact decide_eq_decide.mpr (by omega)
  · rw [if_neg h, decide_eq_false (by omega)]

theorem spec_roots (old : Int) (c : List S44) (r : List Int) (hc : c.length ≤ 200) (hr : r.length ≤ 60) : Ev (fun k => spec_GoodHeap.l1 k r r.length 0 old c r) (rootsOk c.length r) := by
  refine Ev.of_eq (ev_all (fun k i => spec_GoodHeap.l1 k r r.length i old c r) r.length (fun i => decide (0 ≤ r.getD i 0 ∧ r.getD i 0 < (c.length : Int))) ?_ ?_ r.length 0 (by omega)) ?_
  · intro k i hi
    simp only [spec_GoodHeap.l1]
    rw [if_pos (by omega), if_pos (by omega), if_pos (by omega), l1In_eq, rdI, w64 (by omega) (by omega), next i hi (by omega)]
    simp only [Option.bind_some]
    rw [show decide (0 ≤ r.getD i 0 ∧ r.getD i 0 ≤ (c.length : Int) - 1) = decide (0 ≤ r.getD i 0 ∧ r.getD i 0 < (c.length : Int)) from decide_eq_decide.mpr (by omega)]
  · intro k
    simp only [spec_GoodHeap.l1]
    rw [if_neg (by omega)]
  · simp only [Nat.zero_add]
    unfold rootsOk
    rw [Bool.eq_iff_iff, range_all_getD r 0 (fun _ x => decide (0 ≤ x ∧ x < (c.length : Int))), List.all_eq_true]
    constructor
    · intro h x hx
      obtain ⟨i, hi⟩ := List.mem_iff_getElem?.mp hx
      exact h i x hi
    · intro h i x hx
      exact h x (List.mem_of_getElem? hx)

theorem spec_cells (old : Int) (c : List S44) (r : List Int) (hc : c.length ≤ 200) (hr : r.length ≤ 60) : ∀ (d i : Nat), i + d = c.length →
    Ev (fun k => spec_GoodHeap.l0 k c c.length i old c r) (((List.range d).all fun j => decide (CellOk (c.getD (i + j) z44) (i + j))) && rootsOk c.length r) := by
  intro d
  induction d with
  | zero =>
    intro i hi
    refine Ev.step (f := fun k => spec_GoodHeap.l1 k r r.length 0 old c r) (fun k => ?_) (Ev.of_eq (spec_roots old c r hc hr) (by simp))
    simp only [spec_GoodHeap.l0]
    rw [if_neg (by omega)]
  | succ d ih =>
    intro i hi
    have e : ((List.range (d + 1)).all fun j => decide (CellOk (c.getD (i + j) z44) (i + j))) = (decide (CellOk (c.getD i z44) i) && (List.range d).all fun j => decide (CellOk (c.getD (i + 1 + j) z44) (i + 1 + j))) := by
      rw [List.range_succ_eq_map, List.all_cons, List.all_map, Nat.add_zero]
      congr 1; congr 1; funext j; show decide (CellOk (c.getD (i + (j + 1)) z44) (i + (j + 1))) = _; rw [show i + (j + 1) = i + 1 + j by omega]
    rw [e]
    refine Ev.step (f := fun k => if CellOk (c.getD i z44) i then spec_GoodHeap.l0 k c c.length ((i + 1 : Nat) : Int) old c r else some false) (fun k => ?_) ?_
    · simp only [spec_GoodHeap.l0]
      rw [if_pos (by omega), if_pos (by omega), if_pos (by omega), rdC, next i (n := c.length) (by omega) (by omega), w64 (x := (i : Int) - 1) (by omega) (by omega)]
      simp only [l1In_eq, Option.bind_some]
      generalize c.getD i z44 = x
      by_cases h0 : x.f0 = true
      · rw [if_pos h0]
        by_cases h1 : x.f2 = 0
        · rw [if_pos h1]
          by_cases h2 : x.f3 = 0
          · rw [if_pos h2, if_pos (.inl ⟨h0, h1, h2⟩)]
          · rw [if_neg h2, if_neg (by rintro (⟨_, _, h⟩ | ⟨h, _⟩); exact h2 h; rw [h0] at h; cases h)]
        · rw [if_neg h1, if_neg (by rintro (⟨_, h, _⟩ | ⟨h, _⟩); exact h1 h; rw [h0] at h; cases h)]
      · have h0' : x.f0 = false := Bool.eq_false_iff.mpr h0
        rw [if_neg h0]
        by_cases h1 : x.f1 = 0
        · rw [if_pos h1]
          by_cases h2 : 0 ≤ x.f2 ∧ x.f2 ≤ (i : Int) - 1
          · rw [if_pos (decide_eq_true h2)]
            by_cases h3 : 0 ≤ x.f3 ∧ x.f3 ≤ (i : Int) - 1
            · rw [if_pos (decide_eq_true h3), if_pos (.inr ⟨h0', h1, by omega, by omega, by omega, by omega⟩)]
            · rw [if_neg (by rw [decide_eq_false h3]; decide), if_neg (by rintro (⟨h, _⟩ | ⟨_, _, _, _, _, _⟩); exact h0 h; omega)]
          · rw [if_neg (by rw [decide_eq_false h2]; decide), if_neg (by rintro (⟨h, _⟩ | ⟨_, _, _, _, _, _⟩); exact h0 h; omega)]
        · rw [if_neg h1, if_neg (by rintro (⟨h, _⟩ | ⟨_, h, _⟩); exact h0 h; exact h1 h)]
    · by_cases h : CellOk (c.getD i z44) i
      · rw [decide_eq_true h, Bool.true_and]
        exact Ev.ite_pos h (ih (i + 1) (by omega))
      · rw [decide_eq_false h, Bool.false_and, Bool.false_and]
        exact Ev.ite_neg h (Ev.now _)

theorem specGood (old : Int) (c : List S44) (r : List Int) : Ev (fun k => spec_GoodHeap.f k old c r) (goodH old c r) := by
  unfold spec_GoodHeap.f goodH
  have no : Ev (fun k => spec_GoodHeap.j0 k true old c r) false := Ev.step (f := fun _ => some false) (fun k => by simp only [spec_GoodHeap.j0, if_true]) (Ev.now _)
  by_cases h1 : c.length ≤ 200
  · refine Ev.ite_neg (by omega) ?_
    rw [decide_eq_true h1, Bool.true_and]
    by_cases h2 : r.length ≤ 60
    · refine Ev.ite_neg (by omega) ?_
      rw [decide_eq_true h2, Bool.true_and, l1In_eq]
      simp only [Option.bind_some]
      by_cases h3 : 0 ≤ old ∧ old ≤ (c.length : Int)
      · rw [decide_eq_true h3, Bool.true_and]
        refine Ev.step (f := fun k => spec_GoodHeap.l0 k c c.length 0 old c r) (fun k => by simp only [spec_GoodHeap.j0, Bool.not_true, Bool.false_eq_true, if_false]) ?_
        exact Ev.of_eq (spec_cells old c r h1 h2 c.length 0 (by omega)) (by simp only [Nat.zero_add]; rfl)
      · rw [decide_eq_false h3, Bool.false_and]
        exact no
    · rw [decide_eq_false h2, Bool.false_and]
      exact Ev.ite_pos (by omega) no
  · rw [decide_eq_false h1, Bool.false_and]
    exact Ev.ite_pos (by omega) no

theorem isBelow_eq (a b : Int) : impl_isBelow.f a b = some (decide (0 ≤ a ∧ a < b)) := by
  unfold impl_isBelow.f
  by_cases h : a ≥ 0
  · rw [if_pos h]; congr 1; exact decide_eq_decide.mpr (by omega)
  · rw [if_neg h, decide_eq_false (by omega)]

theorem isCell_eq (c : S44) (i : Nat) : impl_isCell.f c.f0 c.f1 c.f2 c.f3 i = some (decide (CellOk c i)) := by
  unfold impl_isCell.f
  simp only [isBelow_eq, Option.bind_some]
  by_cases h0 : c.f0 = true
  · rw [if_pos h0]
    by_cases h1 : c.f2 = 0
    · rw [if_pos h1]
      by_cases h2 : c.f3 = 0
      · rw [beq_iff_eq.mpr h2, decide_eq_true (show CellOk c i from .inl ⟨h0, h1, h2⟩)]
      · rw [beq_eq_false_iff_ne.mpr h2, decide_eq_false (by rintro (⟨_, _, h⟩ | ⟨h, _⟩); exact h2 h; rw [h0] at h; cases h)]
    · rw [if_neg h1, decide_eq_false (by rintro (⟨_, h, _⟩ | ⟨h, _⟩); exact h1 h; rw [h0] at h; cases h)]
  · have h0' : c.f0 = false := Bool.eq_false_iff.mpr h0
    rw [if_neg h0]
    by_cases h1 : c.f1 = 0
    · rw [if_pos h1]
      by_cases h2 : 0 ≤ c.f2 ∧ c.f2 < (i : Int)
      · rw [if_pos (decide_eq_true h2)]
        congr 1
        refine decide_eq_decide.mpr ⟨fun h => .inr ⟨h0', h1, h2.1, h2.2, h.1, h.2⟩, ?_⟩
        rintro (⟨h, _⟩ | ⟨_, _, _, _, a, b⟩)
        · exact absurd h h0
        · exact ⟨a, b⟩
      · rw [if_neg (by rw [decide_eq_false h2]; decide), decide_eq_false (by rintro (⟨h, _⟩ | ⟨_, _, _, _, _, _⟩); exact h0 h; omega)]
    · rw [if_neg h1, decide_eq_false (by rintro (⟨h, _⟩ | ⟨_, h, _⟩); exact h0 h; exact h1 h)]

theorem implGood (old : Int) (c : List S44) (r : List Int) : Ev (fun k => impl_GoodHeap.f k old c r) (goodH old c r) := by
  unfold impl_GoodHeap.f goodH impl_areRoots.f
  have no : Ev (fun k => impl_GoodHeap.j0 k true old c r) false := Ev.step (f := fun _ => some false) (fun k => by simp only [impl_GoodHeap.j0, if_true]) (Ev.now _)
  by_cases h1 : c.length ≤ 200
  · refine Ev.ite_neg (by omega) ?_
    rw [decide_eq_true h1, Bool.true_and]
    by_cases h3 : 0 ≤ old ∧ old ≤ (c.length : Int)
    · refine Ev.ite_neg (by omega) (Ev.ite_neg (by omega) ?_)
      rw [decide_eq_true h3, Bool.true_and]
      simp only [Option.bind_some]
      by_cases h2 : r.length ≤ 60
      · rw [decide_eq_true h2, Bool.true_and, Bool.true_and]
        have er : (r.all fun n => decide (0 ≤ n ∧ n < (c.length : Int))) = rootsOk c.length r := rfl
        rw [er]
        cases hr : rootsOk c.length r with
        | false => rw [Bool.and_false]; exact no
        | true =>
          rw [Bool.and_true]
          refine Ev.step (f := fun k => impl_GoodHeap.l0 k c c.length 0) (fun k => by simp only [impl_GoodHeap.j0, Bool.not_true, Bool.false_eq_true, if_false]) ?_
          refine Ev.of_eq (ev_all (fun k i => impl_GoodHeap.l0 k c c.length i) c.length (fun i => decide (CellOk (c.getD i z44) i)) ?_ ?_ c.length 0 (by omega)) (by simp only [Nat.zero_add]; rfl)
          · intro k i hi
            simp only [impl_GoodHeap.l0]
            rw [if_pos (by omega), if_pos (by omega), if_pos (by omega), rdC, isCell_eq, next i hi (by omega)]
            simp only [Option.bind_some]
          · intro k
            simp only [impl_GoodHeap.l0]
            rw [if_neg (by omega)]
      · rw [decide_eq_false h2, Bool.false_and, Bool.false_and]
        exact no
    · rw [decide_eq_false h3, Bool.false_and, Bool.and_false]
      by_cases h4 : old < 0
      · exact Ev.ite_pos h4 no
      · exact Ev.ite_neg h4 (Ev.ite_pos (by omega) no)
  · rw [decide_eq_false h1, Bool.false_and]
    exact Ev.ite_pos (by omega) no
end Go.Proofs.Ytcbgjcnekdoloaa.HeapL
