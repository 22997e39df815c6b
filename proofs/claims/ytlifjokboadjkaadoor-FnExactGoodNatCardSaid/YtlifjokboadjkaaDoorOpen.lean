/- What comes in as an argument, read as the law's form reads it, is a value of one of the printed kinds. No condition but those each lemma names. -/
import Derived.Test.YtlifjokboadjkaaDoorWWords
import Derived.Test.YtlifjokboadjkaaDoorWMore
import Derived.ChangeArms
import Derived.WideShapes
import Derived.DataElems
import Derived.DataReads
namespace Go.Proofs.YtlifjokboadjkaaDoor.Open
open Go.RowKit Go.Proofs.YtlifjokboadjkaaDoorW.PrintWords
open Go.WideShapes
set_option linter.unusedVariables false

/-- Cells of type t that can be read tell a value of the kind d that is good. -/
def Opens {α : Type} (H : Type) (enc : TypeId × Value → H) (P : Program) (t : TypeId) (d : Kd α) (good : α → Prop) : Prop :=
  ∀ (w : World) (base : Nat) (spare : Nat → Bool) (held : Bool) (fuel : Nat) (cs : List Value) (x : DataW H × List MemPlace),
    DataW.trod enc P w base spare held fuel t cs = some x → ∃ v, d.K w v cs ∧ good v

section
variable {H : Type} {enc : TypeId × Value → H} {P : Program}

theorem opens_int {t : TypeId} {k : IntKind} (ht : P.underlying t = some (.int k)) : Opens H enc P t (Kd.int k) (fun n => (Lit.int k n).wf = true) := by
  intro w base spare held fuel cs x h
  obtain ⟨n, rfl, _, hw⟩ := DataW.trod_int ht h
  exact ⟨n, rfl, hw⟩

theorem opens_bool {t : TypeId} (ht : P.underlying t = some .bool) : Opens H enc P t Kd.bool (fun _ => True) := by
  intro w base spare held fuel cs x h
  obtain ⟨b, rfl, _⟩ := DataW.trod_bool ht h
  exact ⟨b, rfl, trivial⟩

theorem opens_string {t : TypeId} (ht : P.underlying t = some .string) : Opens H enc P t Kd.string (fun s => s.size ≤ 9223372036854775807) := by
  intro w base spare held fuel cs x h
  obtain ⟨s, rfl, _, hs⟩ := DataW.trod_string ht h
  exact ⟨s, rfl, hs⟩

/-- A list of choices. -/
theorem choose_list {α : Type} (p : Nat → α → Prop) : ∀ n : Nat, (∀ i, i < n → ∃ a, p i a) → ∃ l : List α, l.length = n ∧ ∀ i a, l[i]? = some a → p i a
  | 0, _ => ⟨[], rfl, fun i a h => by simp at h⟩
  | n + 1, h => by
    obtain ⟨l, hl, hp⟩ := choose_list p n (fun i hi => h i (by omega))
    obtain ⟨a, ha⟩ := h n (by omega)
    refine ⟨l ++ [a], by simp [hl], fun i b hb => ?_⟩
    by_cases hi : i < n
    · exact hp i b (by rwa [List.getElem?_append_left (by omega)] at hb)
    · rw [List.getElem?_append_right (by omega)] at hb
      have : i - l.length = 0 := by
        by_cases h0 : i - l.length = 0
        · exact h0
        · rw [List.getElem?_eq_none (by simp; omega)] at hb; simp at hb
      rw [this] at hb
      obtain rfl : a = b := by simpa using hb
      obtain rfl : i = n := by omega
      exact ha

theorem opens_slice {α : Type} {t e : TypeId} {d : Kd α} {good : α → Prop} (ht : P.underlying t = some (.slice e)) (he : Opens H enc P e d good) (hc : P.cellsOf e = d.sz) :
    Opens H enc P t (Kd.slice e d) (fun l => l.length ≤ 9223372036854775807 ∧ ∀ x ∈ l, good x) := by
  intro w base spare held fuel cs x h
  rcases DataW.trod_slice ht h with ⟨rfl, _⟩ | ⟨a, len, cap, elems, rest, n, _, rfl, _, hb, hl, hm, hel, hg, _, _⟩
  · exact ⟨[], ⟨none, 0, rfl, Nat.le_refl _, ⟨rfl, by simp, fun h => by simp at h⟩⟩, by simp, by simp⟩
  · have hm' : cap ≤ 9223372036854775807 := hm
    have key : ∀ i, i < len → ∃ v : α, good v ∧ ∃ c : List Value, c.length = d.sz ∧ d.K w v c ∧ ∀ j u, c[j]? = some u → w.cell? (a.add (i * d.sz + j)) = some u := by
      intro i hi
      have hgi := hg i hi
      have hsome : ∃ y, elems[i]? = some y := ⟨elems[i]'(by omega), List.getElem?_eq_getElem (by omega)⟩
      obtain ⟨y, hy⟩ := hsome
      rw [hy] at hgi
      obtain ⟨c, hc1, hc2⟩ := Option.bind_eq_some_iff.mp hgi
      obtain ⟨v, hK, hgood⟩ := he w base spare held n c y hc2
      obtain ⟨_, hlen, hcell⟩ := World.cells?_some hc1
      refine ⟨v, hgood, c, d.K_len hK, hK, fun j u hu => ?_⟩
      have hj : j < c.length := by
        by_cases hj : j < c.length
        · exact hj
        · rw [List.getElem?_eq_none (by omega)] at hu; simp at hu
      have := hcell j (by omega)
      rw [Addr.add_add, hc, hu] at this
      exact this
    obtain ⟨l, hl0, hl1⟩ := choose_list (fun i v => good v ∧ ∃ c : List Value, c.length = d.sz ∧ d.K w v c ∧ ∀ j u, c[j]? = some u → w.cell? (a.add (i * d.sz + j)) = some u) len key
    refine ⟨l, ⟨some a, cap, by rw [hl0], by omega, ⟨rfl, by omega, fun _ => ⟨a, rfl, fun j p hp => (hl1 j p hp).2⟩⟩⟩, by omega, fun v hv => ?_⟩
    obtain ⟨i, hi⟩ := List.mem_iff_getElem?.mp hv
    exact (hl1 i v hi).1

/-- The cells of fields, from one offset on. -/
def OpensF {α : Type} (H : Type) (enc : TypeId × Value → H) (P : Program) (fs : List Field) (off : Nat) (d : Kd α) (good : α → Prop) : Prop :=
  ∀ (w : World) (base : Nat) (spare : Nat → Bool) (held : Bool) (n : Nat) (cs : List Value), off + d.sz ≤ cs.length →
    (∀ f ∈ fs, ∃ y, DataW.trod enc P w base spare held n f.type ((cs.drop f.offset).take (P.cellsOf f.type)) = some y) → ∃ v, d.K w v ((cs.drop off).take d.sz) ∧ good v

theorem opensF_last {α : Type} {f : Field} {d : Kd α} {good : α → Prop} (h : Opens H enc P f.type d good) (hc : P.cellsOf f.type = d.sz) : OpensF H enc P [f] f.offset d good := by
  intro w base spare held n cs hl hf
  obtain ⟨y, hy⟩ := hf f (by simp)
  rw [hc] at hy
  exact h w base spare held n _ y hy

theorem opensF_cons {α β : Type} {f : Field} {fs : List Field} {d : Kd α} {e : Kd β} {g1 : α → Prop} {g2 : β → Prop} (h : Opens H enc P f.type d g1) (hc : P.cellsOf f.type = d.sz)
    (hs : OpensF H enc P fs (f.offset + d.sz) e g2) : OpensF H enc P (f :: fs) f.offset (Kd.pair d e) (fun x => g1 x.1 ∧ g2 x.2) := by
  intro w base spare held n cs hl hf
  have hl' : f.offset + (d.sz + e.sz) ≤ cs.length := hl
  obtain ⟨v, hv, hgv⟩ := opensF_last h hc w base spare held n cs (by omega) (fun f' hf' => hf f' (by simp at hf' ⊢; exact .inl hf'))
  obtain ⟨u, hu, hgu⟩ := hs w base spare held n cs (by omega) (fun f' hf' => hf f' (by simp; exact .inr hf'))
  refine ⟨(v, u), ⟨_, _, ?_, hv, hu⟩, hgv, hgu⟩
  show (cs.drop f.offset).take (d.sz + e.sz) = _
  rw [List.take_add, List.drop_drop]

theorem opens_struct {α β : Type} {t : TypeId} {fs : Array Field} {d : Kd α} {good : α → Prop} (f : β → α) (g : α → β) (hfg : ∀ x, f (g x) = x) (ht : P.underlying t = some (.struct fs))
    (hc : P.cellsOf t = d.sz) (h : OpensF H enc P fs.toList 0 d good) : Opens H enc P t (Kd.iso d f) (fun x => good (f x)) := by
  intro w base spare held fuel cs x hx
  obtain ⟨xs, n, _, _, hl, hxs, hf⟩ := DataW.trod_struct ht hx
  obtain ⟨v, hv, hg⟩ := h w base spare held n cs (by omega) (fun f' hf' => by
    obtain ⟨i, hi⟩ := List.mem_iff_getElem?.mp hf'
    have hlt : i < fs.size := by
      by_cases hlt : i < fs.size
      · exact hlt
      · rw [List.getElem?_eq_none (by simp; omega)] at hi; simp at hi
    refine ⟨xs[i]'(by omega), ?_⟩
    rw [hf i f' (by simpa using hi), List.getElem?_eq_getElem (by omega)])
  refine ⟨g v, ?_, by show good (f (g v)); rw [hfg]; exact hg⟩
  rw [List.drop_zero, List.take_of_length_le (by omega)] at hv
  show d.K w (f (g v)) cs
  rw [hfg]
  exact hv

theorem opens_imp {α : Type} {t : TypeId} {d : Kd α} {g1 g2 : α → Prop} (h : Opens H enc P t d g1) (hg : ∀ x, g1 x → g2 x) : Opens H enc P t d g2 := by
  intro w base spare held fuel cs x hx
  obtain ⟨v, h1, h2⟩ := h w base spare held fuel cs x hx
  exact ⟨v, h1, hg v h2⟩

/-- A slice that comes in. -/
theorem slice_in {α : Type} {t e : TypeId} {d : Kd α} {good : List α → Prop} (ht : P.underlying t = some (.slice e)) (hs : Opens H enc P t (Kd.slice e d) good) {W : World} {r : Reach} {b base : Nat} {spare : Nat → Bool} {held : Bool} {v : Value} {dd : DataW H} {p : List MemPlace}
    (hv : Value.okWide P W r b t v) (h : DataW.Trod enc P W base spare held t v dd p) : ∃ (A : Option Addr) (l : List α) (c : Nat), v = .slice A l.length c ∧ l.length ≤ c ∧ d.C W A l.length l ∧ good l := by
  obtain ⟨a, len, cap, rfl⟩ := okWide_slice ht hv
  obtain ⟨fuel, hf⟩ := h
  obtain ⟨l, ⟨A, c, hcs, hlc, hC⟩, hg⟩ := hs W base spare held fuel _ _ hf
  simp [Value.cells] at hcs
  obtain ⟨rfl, rfl, rfl⟩ := hcs
  exact ⟨a, l, cap, rfl, hlc, hC, hg⟩

/-- A struct that comes in by value. -/
theorem struct_in {α : Type} {t : TypeId} {fs : Array Field} {d : Kd α} {good : α → Prop} (ht : P.underlying t = some (.struct fs)) (hs : Opens H enc P t d good) {W : World} {r : Reach} {b base : Nat} {spare : Nat → Bool} {held : Bool} {v : Value} {dd : DataW H} {p : List MemPlace}
    (hv : Value.okWide P W r b t v) (h : DataW.Trod enc P W base spare held t v dd p) : ∃ (x : α) (cs : List Value), v = .agg cs.toArray ∧ d.K W x cs ∧ good x := by
  obtain ⟨cs, rfl, _⟩ := okWide_struct ht hv
  obtain ⟨fuel, hf⟩ := h
  obtain ⟨x, hK, hg⟩ := hs W base spare held fuel _ _ hf
  exact ⟨x, cs.toList, by simp, hK, hg⟩
end
end Go.Proofs.YtlifjokboadjkaaDoor.Open
