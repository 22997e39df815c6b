/- Part 5 of 5 of the proof that the law FnClosedSaid holds: for every input that can be read the call returns true and leaves its arguments as they were; no condition but those each theorem names. -/
import Derived.Lib.SlicesCompact
import Derived.Laws.Bits64b
import Derived.ChangeArms
import Derived.WideShapes
import Derived.DataElems
import Derived.DataReads
import Derived.Test.YtmcmclcebnepgaaRows
import Derived.WalkKit
import Derived.ProofKit
import Derived.OpenShut
import Derived.ShutString
import Derived.ChangeOld
import Derived.Below
import Derived.SizedLaws
import Derived.Test.YtmcmclcebnepgaaQClosedW1
import Derived.Test.YtmcmclcebnepgaaQClosed1
import Derived.Test.YtmcmclcebnepgaaQClosed2
import Derived.Test.YtmcmclcebnepgaaQClosed3
import Derived.Test.YtmcmclcebnepgaaQClosed4
namespace Go.Proofs.Ytmcmclcebnepgaa.EvL
open Go.RowKit Go.Proofs.YtmcmclcebnepgaaW.PrintWords
set_option linter.unusedVariables false

theorem w64 {x : Int} (h1 : -9223372036854775808 ≤ x) (h2 : x ≤ 9223372036854775807) : wrap64 x = x := by unfold wrap64; omega
theorem Ev.const {α : Type} {a : Option α} {r : α} (h : a = some r) : Ev (fun _ => a) r := ⟨0, fun _ _ => h⟩
theorem Ev.of_eq {α : Type} {g : Nat → Option α} {r r' : α} (h : Ev g r) (e : r = r') : Ev g r' := e ▸ h
theorem Ev.ite_pos {α : Type} {c : Prop} [Decidable c] {g f : Nat → Option α} {r : α} (hc : c) (h : Ev g r) : Ev (fun k => if c then g k else f k) r := Ev.congr (fun k => if_pos hc) h
theorem Ev.ite_neg {α : Type} {c : Prop} [Decidable c] {g f : Nat → Option α} {r : α} (hc : ¬ c) (h : Ev f r) : Ev (fun k => if c then g k else f k) r := Ev.congr (fun k => if_neg hc) h
theorem Ev.succ {α : Type} {g : Nat → Option α} {r : α} (h : Ev (fun k => g (k + 1)) r) : Ev g r := Ev.step (fun k => rfl) h
theorem Ev.unique {α : Type} {g : Nat → Option α} {r r' : α} (h : Ev g r) (h' : Ev g r') : r = r' := by
  obtain ⟨K, hK⟩ := h
  obtain ⟨K', hK'⟩ := h'
  have h1 := hK (max K K') (Nat.le_max_left ..)
  have h2 := hK' (max K K') (Nat.le_max_right ..)
  rw [h1] at h2
  exact Option.some.inj h2

theorem ev_all (F : Nat → Int → Option Bool) (n : Nat) (p : Nat → Bool) (hs : ∀ (k i : Nat), i < n → F (k + 1) i = if p i = true then F k ((i + 1 : Nat) : Int) else some false) (he : ∀ k, F (k + 1) n = some true) :
    ∀ (d i : Nat), i + d = n → Ev (fun k => F k i) ((List.range d).all fun j => p (i + j)) := by
  intro d
  induction d with
  | zero => intro i hi; obtain rfl : i = n := by omega
            exact Ev.step he (Ev.now _)
  | succ d ih =>
    intro i hi
    have e : ((List.range (d + 1)).all fun j => p (i + j)) = (p i && (List.range d).all fun j => p (i + 1 + j)) := by
      rw [List.range_succ_eq_map, List.all_cons, List.all_map, Nat.add_zero]
      congr 1; congr 1; funext j; show p (i + (j + 1)) = _; congr 1; omega
    rw [e]
    by_cases hp : p i = true
    · refine Ev.step (fun k => (hs k i (by omega)).trans (if_pos hp)) ?_
      rw [hp, Bool.true_and]
      exact ih (i + 1) (by omega)
    · refine Ev.step (fun k => (hs k i (by omega)).trans (if_neg hp)) ?_
      rw [Bool.eq_false_iff.mpr hp, Bool.false_and]
      exact Ev.now _

end Go.Proofs.Ytmcmclcebnepgaa.EvL

namespace Go.Proofs.Ytmcmclcebnepgaa.TreeM
set_option linter.unusedVariables false

structure Nd where
  kind : Int
  n : Int
  up : Int
inductive Tr where
  | leaf (k n : Int)
  | un (k n : Int) (a : Tr)
  | bin (k n : Int) (a b : Tr)
def Tr.kind : Tr → Int
  | .leaf k _ => k
  | .un k _ _ => k
  | .bin k _ _ _ => k
def Tr.num : Tr → Int
  | .leaf _ n => n
  | .un _ n _ => n
  | .bin _ n _ _ => n
def Tr.size : Tr → Nat
  | .leaf _ _ => 1
  | .un _ _ a => 1 + a.size
  | .bin _ _ a b => 1 + a.size + b.size
def Tr.depth : Tr → Nat
  | .leaf _ _ => 1
  | .un _ _ a => a.depth + 1
  | .bin _ _ a b => max a.depth b.depth + 1
def Tr.all (p : Int → Int → Prop) : Tr → Prop
  | .leaf k n => p k n
  | .un k n a => p k n ∧ a.all p
  | .bin k n a b => p k n ∧ a.all p ∧ b.all p

def z : Nd := ⟨0, 0, 0⟩
def up (l : List Nd) (i : Nat) : Int := (l.getD i z).up
theorem up_of {l : List Nd} {i : Nat} {x : Nd} (h : l[i]? = some x) : up l i = x.up := by unfold up; rw [List.getD_eq_getElem?_getD, h]; rfl
theorem lt_of {l : List Nd} {i : Nat} {x : Nd} (h : l[i]? = some x) : i < l.length := by
  by_cases hi : i < l.length
  · exact hi
  · rw [List.getElem?_eq_none (by omega)] at h; cases h
theorem get_of {l : List Nd} {i : Nat} (h : i < l.length) : l[i]? = some (l.getD i z) := by rw [List.getD_eq_getElem?_getD, List.getElem?_eq_getElem h]; rfl

def chain (l : List Nd) (i : Nat) : List Nat := i :: if h : 0 ≤ up l i ∧ up l i < (i : Int) then chain l (up l i).toNat else []
termination_by i
decreasing_by omega
theorem chain_self (l : List Nd) (i : Nat) : i ∈ chain l i := by rw [chain]; simp
theorem chain_up {l : List Nd} {i : Nat} (h : 0 ≤ up l i ∧ up l i < (i : Int)) : chain l i = i :: chain l (up l i).toNat := by rw [chain, dif_pos h]
theorem chain_top {l : List Nd} {i : Nat} (h : ¬ (0 ≤ up l i ∧ up l i < (i : Int))) : chain l i = [i] := by rw [chain, dif_neg h]
theorem chain_le {l : List Nd} : ∀ (i j : Nat), j ∈ chain l i → j ≤ i := by
  intro i
  induction i using Nat.strongRecOn with
  | _ i ih =>
    intro j hj
    by_cases h : 0 ≤ up l i ∧ up l i < (i : Int)
    · rw [chain_up h, List.mem_cons] at hj
      rcases hj with rfl | hj
      · exact Nat.le_refl _
      · have := ih _ (by omega) j hj; omega
    · rw [chain_top h] at hj
      have : j = i := by simpa using hj
      omega
theorem chain_trans {l : List Nd} : ∀ (i j x : Nat), j ∈ chain l i → x ∈ chain l j → x ∈ chain l i := by
  intro i
  induction i using Nat.strongRecOn with
  | _ i ih =>
    intro j x hj hx
    by_cases h : 0 ≤ up l i ∧ up l i < (i : Int)
    · rw [chain_up h, List.mem_cons] at hj
      rcases hj with rfl | hj
      · exact hx
      · rw [chain_up h]
        exact List.mem_cons_of_mem _ (ih _ (by omega) j x hj hx)
    · rw [chain_top h] at hj
      obtain rfl : j = i := by simpa using hj
      exact hx
theorem chain_below {l : List Nd} : ∀ (i j x : Nat), j ∈ chain l i → x ∈ chain l i → x ≤ j → x ∈ chain l j := by
  intro i
  induction i using Nat.strongRecOn with
  | _ i ih =>
    intro j x hj hx hle
    by_cases h : 0 ≤ up l i ∧ up l i < (i : Int)
    · rw [chain_up h, List.mem_cons] at hj hx
      rcases hj with rfl | hj
      · rw [chain_up h]; exact List.mem_cons.mpr hx
      · rcases hx with rfl | hx
        · have := chain_le _ _ hj; omega
        · exact ih _ (by omega) j x hj hx hle
    · rw [chain_top h] at hj hx
      obtain rfl : j = i := by simpa using hj
      rw [chain_top h]; exact hx
theorem chain_mem_up {l : List Nd} {i : Nat} (h : 0 ≤ up l i ∧ up l i < (i : Int)) {x : Nat} (hx : x ∈ chain l i) (hne : x ≠ i) : x ∈ chain l (up l i).toNat := by
  rw [chain_up h, List.mem_cons] at hx
  exact hx.resolve_left hne

def cnt (l : List Nd) (i : Nat) : Nat → Nat → Nat
  | _, 0 => 0
  | a, d + 1 => (if up l a = (i : Int) then 1 else 0) + cnt l i (a + 1) d
theorem cnt_add (l : List Nd) (i : Nat) : ∀ (d a d' : Nat), cnt l i a (d + d') = cnt l i a d + cnt l i (a + d) d'
  | 0, a, d' => by simp [cnt]
  | d + 1, a, d' => by
    have e : d + 1 + d' = (d + d') + 1 := by omega
    rw [e]
    show (if up l a = (i : Int) then 1 else 0) + cnt l i (a + 1) (d + d') = (if up l a = (i : Int) then 1 else 0) + cnt l i (a + 1) d + cnt l i (a + (d + 1)) d'
    rw [cnt_add l i d (a + 1) d', show a + 1 + d = a + (d + 1) by omega]; omega
theorem cnt_zero (l : List Nd) (i : Nat) : ∀ (d a : Nat), (∀ m, a ≤ m → m < a + d → up l m ≠ (i : Int)) → cnt l i a d = 0
  | 0, a, h => rfl
  | d + 1, a, h => by
    show (if up l a = (i : Int) then 1 else 0) + cnt l i (a + 1) d = 0
    rw [if_neg (h a (Nat.le_refl _) (by omega)), cnt_zero l i d (a + 1) (fun m h1 h2 => h m (by omega) (by omega))]

structure Arity where
  top : Int
  want : Int → Nat

inductive Par (A : Arity) (l : List Nd) : Nat → Int → Tr → Nat → Prop
  | leaf {i : Nat} {u k n : Int} (h : l[i]? = some ⟨k, n, u⟩) (hk : 1 ≤ k ∧ k ≤ A.top) (hw : A.want k = 0) : Par A l i u (.leaf k n) (i + 1)
  | un {i e : Nat} {u k n : Int} {a : Tr} (h : l[i]? = some ⟨k, n, u⟩) (hk : 1 ≤ k ∧ k ≤ A.top) (hw : A.want k = 1) (ha : Par A l (i + 1) i a e) : Par A l i u (.un k n a) e
  | bin {i e e' : Nat} {u k n : Int} {a b : Tr} (h : l[i]? = some ⟨k, n, u⟩) (hk : 1 ≤ k ∧ k ≤ A.top) (hw : A.want k = 2) (ha : Par A l (i + 1) i a e) (hb : Par A l e i b e') : Par A l i u (.bin k n a b) e'

theorem Par.span {A : Arity} {l : List Nd} {i e : Nat} {u : Int} {t : Tr} (h : Par A l i u t e) : e = i + t.size ∧ e ≤ l.length ∧ up l i = u := by
  induction h with
  | @leaf i u k n h hk hw => exact ⟨rfl, lt_of h, up_of h⟩
  | @un i e u k n a h hk hw ha ih => exact ⟨by rw [ih.1]; show _ = _ + (1 + _); omega, ih.2.1, up_of h⟩
  | @bin i e e' u k n a b h hk hw ha hb ih1 ih2 => exact ⟨by rw [ih2.1, ih1.1]; show _ = _ + (1 + _ + _); omega, ih2.2.1, up_of h⟩
theorem Tr.size_pos (t : Tr) : 0 < t.size := by cases t <;> (simp only [Tr.size]; omega)
theorem Par.lt {A : Arity} {l : List Nd} {i e : Nat} {u : Int} {t : Tr} (h : Par A l i u t e) : i < e := by have := h.span.1; have := t.size_pos; omega

theorem Par.inside {A : Arity} {l : List Nd} {i e : Nat} {u : Int} {t : Tr} (h : Par A l i u t e) : ∀ m, i < m → m < e → (i : Int) ≤ up l m ∧ up l m < (m : Int) := by
  induction h with
  | @leaf i u k n h hk hw => intro m h1 h2; omega
  | @un i e u k n a h hk hw ha ih =>
    intro m h1 h2
    by_cases hm : m = i + 1
    · subst hm; rw [ha.span.2.2]; omega
    · have := ih m (by omega) h2; omega
  | @bin i e e' u k n a b h hk hw ha hb ih1 ih2 =>
    intro m h1 h2
    have := ha.lt
    by_cases hm : m = i + 1
    · subst hm; rw [ha.span.2.2]; omega
    · by_cases hme : m < e
      · have := ih1 m (by omega) hme; omega
      · by_cases hm2 : m = e
        · subst hm2; rw [hb.span.2.2]; omega
        · have := ih2 m (by omega) h2; omega

theorem anc_of_sub {l : List Nd} {i e : Nat} (h : ∀ m, i < m → m < e → (i : Int) ≤ up l m ∧ up l m < (m : Int)) : ∀ m, i ≤ m → m < e → i ∈ chain l m := by
  intro m
  induction m using Nat.strongRecOn with
  | _ m ih =>
    intro h1 h2
    by_cases hm : m = i
    · subst hm; exact chain_self l m
    · have hu := h m (by omega) h2
      rw [chain_up (by omega)]
      exact List.mem_cons_of_mem _ (ih (up l m).toNat (by omega) (by omega) (by omega))

theorem Par.around {A : Arity} {l : List Nd} {i e : Nat} {u : Int} {t : Tr} (h : Par A l i u t e) : ∀ m, i < m → m < e → (up l m).toNat ∈ chain l (m - 1) := by
  induction h with
  | @leaf i u k n h hk hw => intro m h1 h2; omega
  | @un i e u k n a h hk hw ha ih =>
    intro m h1 h2
    by_cases hm : m = i + 1
    · subst hm; rw [ha.span.2.2]; exact chain_self l i
    · exact ih m (by omega) h2
  | @bin i e e' u k n a b h hk hw ha hb ih1 ih2 =>
    intro m h1 h2
    have hlt := ha.lt
    by_cases hm : m = i + 1
    · subst hm; rw [ha.span.2.2]; exact chain_self l i
    · by_cases hme : m < e
      · exact ih1 m (by omega) hme
      · by_cases hm2 : m = e
        · subst hm2
          rw [hb.span.2.2]
          exact anc_of_sub (e := m) (fun q h3 h4 => (Par.bin h hk hw ha hb).inside q h3 (by have := hb.lt; omega)) (m - 1) (by omega) (by omega)
        · exact ih2 m (by omega) h2

theorem Par.counts {A : Arity} {l : List Nd} {i e : Nat} {u : Int} {t : Tr} (h : Par A l i u t e) : ∀ m, i ≤ m → m < e → ∃ k n v, l[m]? = some ⟨k, n, v⟩ ∧ (1 ≤ k ∧ k ≤ A.top) ∧ cnt l m (m + 1) (e - (m + 1)) = A.want k := by
  induction h with
  | @leaf i u k n h hk hw =>
    intro m h1 h2
    obtain rfl : m = i := by omega
    exact ⟨k, n, u, h, hk, by rw [hw, Nat.sub_self]; rfl⟩
  | @un i e u k n a h hk hw ha ih =>
    intro m h1 h2
    have hlt := ha.lt
    by_cases hm : m = i
    · subst hm
      refine ⟨k, n, u, h, hk, ?_⟩
      obtain ⟨d, hd⟩ : ∃ d, e - (m + 1) = d + 1 := ⟨e - (m + 1) - 1, by omega⟩
      rw [hd, hw]
      show (if up l (m + 1) = (m : Int) then 1 else 0) + cnt l m (m + 1 + 1) d = 1
      rw [if_pos ha.span.2.2, cnt_zero]
      intro q h3 h4
      have := ha.inside q (by omega) (by omega); omega
    · exact ih m (by omega) h2
  | @bin i e e' u k n a b h hk hw ha hb ih1 ih2 =>
    intro m h1 h2
    have hlt := ha.lt
    have hlt2 := hb.lt
    by_cases hm : m = i
    · subst hm
      refine ⟨k, n, u, h, hk, ?_⟩
      obtain ⟨d, hd⟩ : ∃ d, e - (m + 1) = d + 1 := ⟨e - (m + 1) - 1, by omega⟩
      obtain ⟨d2, hd2⟩ : ∃ d2, e' - e = d2 + 1 := ⟨e' - e - 1, by omega⟩
      rw [show e' - (m + 1) = (d + 1) + (d2 + 1) by omega, hw, cnt_add, show m + 1 + (d + 1) = e by omega]
      show (if up l (m + 1) = (m : Int) then 1 else 0) + cnt l m (m + 1 + 1) d + ((if up l e = (m : Int) then 1 else 0) + cnt l m (e + 1) d2) = 2
      rw [if_pos ha.span.2.2, if_pos hb.span.2.2, cnt_zero, cnt_zero]
      · intro q h3 h4
        have := hb.inside q (by omega) (by omega); omega
      · intro q h3 h4
        have := ha.inside q (by omega) (by omega); omega
    · by_cases hme : m < e
      · obtain ⟨k', n', v', h3, h4, h5⟩ := ih1 m (by omega) hme
        refine ⟨k', n', v', h3, h4, ?_⟩
        rw [show e' - (m + 1) = (e - (m + 1)) + (e' - e) by omega, cnt_add, h5, show m + 1 + (e - (m + 1)) = e by omega, cnt_zero, Nat.add_zero]
        intro q h6 h7
        by_cases hq : q = e
        · subst hq; rw [hb.span.2.2]; omega
        · have := hb.inside q (by omega) (by omega); omega
      · exact ih2 m (by omega) h2

theorem Par.deep {A : Arity} {l : List Nd} {i e : Nat} {u : Int} {t : Tr} (h : Par A l i u t e) : (∀ m, i ≤ m → m < e → (chain l m).length + 1 ≤ (chain l i).length + t.depth) ∧ ∃ m, i ≤ m ∧ m < e ∧ (chain l m).length + 1 = (chain l i).length + t.depth := by
  have up1 : ∀ (q i : Nat), up l q = (i : Int) → i < q → (chain l q).length = (chain l i).length + 1 := fun q i h1 h2 => by
    rw [chain_up (by omega), h1]; simp
  induction h with
  | @leaf i u k n h hk hw =>
    exact ⟨fun m h1 h2 => by obtain rfl : m = i := by omega
                             exact Nat.le_refl _, i, Nat.le_refl _, by omega, rfl⟩
  | @un i e u k n a h hk hw ha ih =>
    have hlt := ha.lt
    have e1 := up1 (i + 1) i ha.span.2.2 (by omega)
    refine ⟨fun m h1 h2 => ?_, ?_⟩
    · by_cases hm : m = i
      · subst hm; show _ ≤ _ + (a.depth + 1); omega
      · have := ih.1 m (by omega) h2; show _ ≤ _ + (a.depth + 1); omega
    · obtain ⟨m, h1, h2, h3⟩ := ih.2
      exact ⟨m, by omega, h2, by show _ = _ + (a.depth + 1); omega⟩
  | @bin i e e' u k n a b h hk hw ha hb ih1 ih2 =>
    have hlt := ha.lt
    have hlt2 := hb.lt
    have e1 := up1 (i + 1) i ha.span.2.2 (by omega)
    have e2 := up1 e i hb.span.2.2 (by omega)
    refine ⟨fun m h1 h2 => ?_, ?_⟩
    · show _ ≤ _ + (max a.depth b.depth + 1)
      by_cases hm : m = i
      · subst hm; omega
      · by_cases hme : m < e
        · have := ih1.1 m (by omega) hme; omega
        · have := ih2.1 m (by omega) h2; omega
    · by_cases hd : b.depth ≤ a.depth
      · obtain ⟨m, h1, h2, h3⟩ := ih1.2
        exact ⟨m, by omega, by omega, by show _ = _ + (max a.depth b.depth + 1); omega⟩
      · obtain ⟨m, h1, h2, h3⟩ := ih2.2
        exact ⟨m, by omega, by omega, by show _ = _ + (max a.depth b.depth + 1); omega⟩

theorem Par.alls {A : Arity} {l : List Nd} {i e : Nat} {u : Int} {t : Tr} (h : Par A l i u t e) (p : Int → Int → Prop) : t.all p ↔ ∀ m, i ≤ m → m < e → p (l.getD m z).kind (l.getD m z).n := by
  have at1 : ∀ (q : Nat) (x : Nd), l[q]? = some x → l.getD q z = x := fun q x h => by rw [List.getD_eq_getElem?_getD, h]; rfl
  induction h with
  | @leaf i u k n h hk hw =>
    constructor
    · intro h1 m h2 h3
      obtain rfl : m = i := by omega
      rw [at1 _ _ h]; exact h1
    · intro h1
      have := h1 i (Nat.le_refl _) (by omega)
      rw [at1 _ _ h] at this; exact this
  | @un i e u k n a h hk hw ha ih =>
    have hlt := ha.lt
    constructor
    · rintro ⟨h1, h2⟩ m h3 h4
      by_cases hm : m = i
      · subst hm; rw [at1 _ _ h]; exact h1
      · exact ih.mp h2 m (by omega) h4
    · intro h1
      have := h1 i (Nat.le_refl _) (by omega)
      rw [at1 _ _ h] at this
      exact ⟨this, ih.mpr (fun m h3 h4 => h1 m (by omega) h4)⟩
  | @bin i e e' u k n a b h hk hw ha hb ih1 ih2 =>
    have hlt := ha.lt
    have hlt2 := hb.lt
    constructor
    · rintro ⟨h1, h2, h2'⟩ m h3 h4
      by_cases hm : m = i
      · subst hm; rw [at1 _ _ h]; exact h1
      · by_cases hme : m < e
        · exact ih1.mp h2 m (by omega) hme
        · exact ih2.mp h2' m (by omega) h4
    · intro h1
      have := h1 i (Nat.le_refl _) (by omega)
      rw [at1 _ _ h] at this
      exact ⟨this, ih1.mpr (fun m h3 h4 => h1 m (by omega) (by omega)), ih2.mpr (fun m h3 h4 => h1 m (by omega) (by omega))⟩

structure Loc (A : Arity) (l : List Nd) : Prop where
  root : ∀ h : 0 < l.length, up l 0 = -1
  ahead : ∀ m, 0 < m → m < l.length → 0 ≤ up l m ∧ up l m < (m : Int)
  around : ∀ m, 0 < m → m < l.length → (up l m).toNat ∈ chain l (m - 1)
  kinds : ∀ m, m < l.length → 1 ≤ (l.getD m z).kind ∧ (l.getD m z).kind ≤ A.top
  wants : ∀ m, m < l.length → cnt l m (m + 1) (l.length - (m + 1)) = A.want (l.getD m z).kind

theorem Par.loc {A : Arity} {l : List Nd} {t : Tr} (h : Par A l 0 (-1) t l.length) : Loc A l := by
  have at1 : ∀ (q : Nat) (x : Nd), l[q]? = some x → l.getD q z = x := fun q x h => by rw [List.getD_eq_getElem?_getD, h]; rfl
  refine ⟨fun _ => h.span.2.2, fun m h1 h2 => by have := h.inside m h1 h2; omega, fun m h1 h2 => h.around m h1 h2, fun m h1 => ?_, fun m h1 => ?_⟩
  · obtain ⟨k, n, v, h2, h3, _⟩ := h.counts m (by omega) h1
    rw [at1 _ _ h2]; exact h3
  · obtain ⟨k, n, v, h2, _, h3⟩ := h.counts m (by omega) h1
    rw [at1 _ _ h2]; exact h3

theorem Loc.past {A : Arity} {l : List Nd} (L : Loc A l) {i e : Nat} (hi : i < e) (he : e < l.length) (hu : up l e < (i : Int)) : ∀ m, e ≤ m → m < l.length → ∀ x ∈ chain l m, x < i ∨ e ≤ x := by
  intro m
  induction m using Nat.strongRecOn with
  | _ m ih =>
    intro h1 h2 x hx
    have ha := L.ahead m (by omega) h2
    rw [chain_up ha, List.mem_cons] at hx
    rcases hx with rfl | hx
    · exact .inr h1
    · by_cases hm : m = e
      · subst hm
        have := chain_le _ _ hx
        exact .inl (by omega)
      · exact ih (m - 1) (by omega) (by omega) (by omega) x (chain_trans _ _ _ (L.around m (by omega) h2) hx)

theorem Loc.par {A : Arity} {l : List Nd} (L : Loc A l) (hA : ∀ k, A.want k ≤ 2) : ∀ (d i : Nat), i + d = l.length → 0 < d → ∃ t e, Par A l i (up l i) t e ∧ (e = l.length ∨ up l e < (i : Int)) := by
  intro d
  induction d using Nat.strongRecOn with
  | _ d ih =>
    intro i hi hd
    have hlt : i < l.length := by omega
    have hx : l[i]? = some ⟨(l.getD i z).kind, (l.getD i z).n, up l i⟩ := get_of hlt
    have hk := L.kinds i hlt
    have hw := L.wants i hlt
    -- the first part, if there is any
    have first : ∀ h : 0 < A.want (l.getD i z).kind, i + 1 < l.length ∧ up l (i + 1) = (i : Int) := by
      intro h
      have h1 : i + 1 < l.length := by
        by_cases h1 : i + 1 < l.length
        · exact h1
        · rw [show l.length - (i + 1) = 0 by omega] at hw
          have : cnt l i (i + 1) 0 = 0 := rfl
          omega
      refine ⟨h1, ?_⟩
      have ha := L.ahead (i + 1) (by omega) h1
      by_cases hu : up l (i + 1) = (i : Int)
      · exact hu
      · have hz : cnt l i (i + 1) (l.length - (i + 1)) = 0 := cnt_zero l i _ _ (fun m h2 h3 he => by
          have hp := L.past (i := i) (e := i + 1) (by omega) h1 (by omega) m (by omega) (by omega) i (by
            rw [chain_up (L.ahead m (by omega) (by omega)), he, Int.toNat_natCast]
            exact List.mem_cons_of_mem _ (chain_self l i))
          omega)
        omega
    by_cases h0 : A.want (l.getD i z).kind = 0
    · refine ⟨_, i + 1, .leaf hx hk h0, ?_⟩
      by_cases h1 : i + 1 < l.length
      · refine .inr ?_
        have ha := L.ahead (i + 1) (by omega) h1
        by_cases hu : up l (i + 1) = (i : Int)
        · obtain ⟨d', hd'⟩ : ∃ d', l.length - (i + 1) = d' + 1 := ⟨l.length - (i + 1) - 1, by omega⟩
          rw [hd', h0] at hw
          have hw' : (if up l (i + 1) = (i : Int) then 1 else 0) + cnt l i (i + 1 + 1) d' = 0 := hw
          rw [if_pos hu] at hw'; omega
        · omega
      · exact .inl (by omega)
    · obtain ⟨h1, hu1⟩ := first (by omega)
      obtain ⟨a, e1, pa, he1⟩ := ih (l.length - (i + 1)) (by omega) (i + 1) (by omega) (by omega)
      rw [hu1] at pa
      have hs1 := pa.span
      have hl1 := pa.lt
      have c1 : cnt l i (i + 1) (e1 - (i + 1)) = 1 := by
        obtain ⟨d', hd'⟩ : ∃ d', e1 - (i + 1) = d' + 1 := ⟨e1 - (i + 1) - 1, by omega⟩
        rw [hd']
        show (if up l (i + 1) = (i : Int) then 1 else 0) + cnt l i (i + 1 + 1) d' = 1
        rw [if_pos hu1, cnt_zero]
        intro q h3 h4
        have := pa.inside q (by omega) (by omega); omega
      have c2 : cnt l i (i + 1) (l.length - (i + 1)) = 1 + cnt l i e1 (l.length - e1) := by
        rw [show l.length - (i + 1) = (e1 - (i + 1)) + (l.length - e1) by omega, cnt_add, c1, show i + 1 + (e1 - (i + 1)) = e1 by omega]
      by_cases hw1 : A.want (l.getD i z).kind = 1
      · refine ⟨_, e1, .un hx hk hw1 pa, ?_⟩
        by_cases h2 : e1 < l.length
        · refine .inr ?_
          have hu := he1.resolve_left (by omega)
          by_cases hq : up l e1 = (i : Int)
          · obtain ⟨d', hd'⟩ : ∃ d', l.length - e1 = d' + 1 := ⟨l.length - e1 - 1, by omega⟩
            have : cnt l i e1 (l.length - e1) = (if up l e1 = (i : Int) then 1 else 0) + cnt l i (e1 + 1) d' := by rw [hd']; rfl
            rw [if_pos hq] at this; omega
          · omega
        · exact .inl (by omega)
      · have hw2 : A.want (l.getD i z).kind = 2 := by have := hA (l.getD i z).kind; omega
        have h2 : e1 < l.length := by
          by_cases h2 : e1 < l.length
          · exact h2
          · rw [show l.length - e1 = 0 by omega] at c2
            have : cnt l i e1 0 = 0 := rfl
            omega
        have hu := he1.resolve_left (by omega)
        have hu2 : up l e1 = (i : Int) := by
          by_cases hq : up l e1 = (i : Int)
          · exact hq
          · have hz : cnt l i e1 (l.length - e1) = 0 := cnt_zero l i _ _ (fun m h3 h4 he => by
              have hp := L.past (i := i) (e := e1) (by omega) h2 (by omega) m (by omega) (by omega) i (by
                rw [chain_up (L.ahead m (by omega) (by omega)), he, Int.toNat_natCast]
                exact List.mem_cons_of_mem _ (chain_self l i))
              omega)
            omega
        obtain ⟨b, e2, pb, he2⟩ := ih (l.length - e1) (by omega) e1 (by omega) (by omega)
        rw [hu2] at pb
        have hl2 := pb.lt
        have hs2 := pb.span
        refine ⟨_, e2, .bin hx hk hw2 pa pb, ?_⟩
        by_cases h3 : e2 < l.length
        · refine .inr ?_
          have hv := he2.resolve_left (by omega)
          have hav := L.ahead e2 (by omega) h3
          have hanc : e1 ∈ chain l (e2 - 1) := anc_of_sub (e := e2) (fun q h5 h6 => by have := pb.inside q h5 h6; omega) (e2 - 1) (by omega) (by omega)
          have hin := chain_below _ _ _ hanc (L.around e2 (by omega) h3) (by omega)
          have hin2 := chain_mem_up (L.ahead e1 (by omega) h2) hin (by omega)
          rw [hu2, Int.toNat_natCast] at hin2
          have hle := chain_le _ _ hin2
          by_cases hq : up l e2 = (i : Int)
          · obtain ⟨d1, hd1⟩ : ∃ d', e2 - e1 = d' + 1 := ⟨e2 - e1 - 1, by omega⟩
            obtain ⟨d2, hd2⟩ : ∃ d', l.length - e2 = d' + 1 := ⟨l.length - e2 - 1, by omega⟩
            have e3 : cnt l i e1 (l.length - e1) = cnt l i e1 (e2 - e1) + cnt l i e2 (l.length - e2) := by
              rw [show l.length - e1 = (e2 - e1) + (l.length - e2) by omega, cnt_add, show e1 + (e2 - e1) = e2 by omega]
            have e4 : cnt l i e1 (e2 - e1) = (if up l e1 = (i : Int) then 1 else 0) + cnt l i (e1 + 1) d1 := by rw [hd1]; rfl
            have e5 : cnt l i e2 (l.length - e2) = (if up l e2 = (i : Int) then 1 else 0) + cnt l i (e2 + 1) d2 := by rw [hd2]; rfl
            rw [if_pos hu2] at e4
            rw [if_pos hq] at e5
            omega
          · omega
        · exact .inl (by omega)

theorem loc_iff {A : Arity} {l : List Nd} (hA : ∀ k, A.want k ≤ 2) (hl : 0 < l.length) : Loc A l ↔ ∃ t, Par A l 0 (-1) t l.length := by
  constructor
  · intro L
    obtain ⟨t, e, h, he⟩ := L.par hA l.length 0 (by omega) hl
    rw [L.root hl] at h
    rcases he with rfl | he
    · exact ⟨t, h⟩
    · have hlt := h.lt
      have hs := h.span
      by_cases h2 : e < l.length
      · have := L.ahead e (by omega) h2; omega
      · obtain rfl : e = l.length := by omega
        exact ⟨t, h⟩
  · rintro ⟨t, h⟩
    exact h.loc

theorem Par.unique {A : Arity} {l : List Nd} {i e e' : Nat} {u : Int} {t t' : Tr} (h : Par A l i u t e) (h' : Par A l i u t' e') : t = t' ∧ e = e' := by
  induction h generalizing t' e' with
  | @leaf i u k n h hk hw =>
    cases h' with
    | leaf h2 _ _ => rw [h] at h2; injection h2 with h2; injection h2 with a b c; subst a; subst b; exact ⟨rfl, rfl⟩
    | un h2 _ hw2 _ => rw [h] at h2; injection h2 with h2; injection h2 with a b c; subst a; omega
    | bin h2 _ hw2 _ _ => rw [h] at h2; injection h2 with h2; injection h2 with a b c; subst a; omega
  | @un i e u k n a h hk hw ha ih =>
    cases h' with
    | leaf h2 _ hw2 => rw [h] at h2; injection h2 with h2; injection h2 with a b c; subst a; omega
    | un h2 _ _ ha2 =>
      rw [h] at h2; injection h2 with h2; injection h2 with a b c; subst a; subst b
      obtain ⟨rfl, rfl⟩ := ih ha2
      exact ⟨rfl, rfl⟩
    | bin h2 _ hw2 _ _ => rw [h] at h2; injection h2 with h2; injection h2 with a b c; subst a; omega
  | @bin i e e' u k n a b h hk hw ha hb ih1 ih2 =>
    cases h' with
    | leaf h2 _ hw2 => rw [h] at h2; injection h2 with h2; injection h2 with a b c; subst a; omega
    | un h2 _ hw2 _ => rw [h] at h2; injection h2 with h2; injection h2 with a b c; subst a; omega
    | bin h2 _ _ ha2 hb2 =>
      rw [h] at h2; injection h2 with h2; injection h2 with a b c; subst a; subst b
      obtain ⟨rfl, rfl⟩ := ih1 ha2
      obtain ⟨rfl, rfl⟩ := ih2 hb2
      exact ⟨rfl, rfl⟩
end Go.Proofs.Ytmcmclcebnepgaa.TreeM

namespace Go.Proofs.Ytmcmclcebnepgaa.CombL
open Go.RowKit Go.Proofs.Ytmcmclcebnepgaa.G Go.Proofs.Ytmcmclcebnepgaa.EvL Go.Proofs.Ytmcmclcebnepgaa.TreeM Go.Proofs.YtmcmclcebnepgaaW.PrintWords Go.Proofs.YtmcmclcebnepgaaW.PrintLast
set_option linter.unusedVariables false

def nd (c : S33) : Nd := ⟨c.f0, c.f1, c.f2⟩
theorem rdC (l : List S33) (i : Nat) : rd_T33 l (i : Int) = l.getD i z33 := by unfold rd_T33; rw [Int.toNat_natCast]
theorem next (i : Nat) {n : Nat} (h : i < n) (hn : n ≤ 9223372036854775807) : wrap64 ((i : Int) + 1) = ((i + 1 : Nat) : Int) := by rw [w64 (by omega) (by omega)]; omega
theorem getD_nd (l : List S33) (i : Nat) : (l.map nd).getD i z = nd (l.getD i z33) := by
  rw [List.getD_eq_getElem?_getD, List.getD_eq_getElem?_getD, List.getElem?_map]
  cases l[i]? <;> rfl
theorem up_nd (l : List S33) (i : Nat) : (l.getD i z33).f2 = TreeM.up (l.map nd) i := by unfold TreeM.up; rw [getD_nd]; rfl

theorem l1In_eq (a b c : Int) : spec_l1In.f a b c = some (decide (b ≤ a ∧ a ≤ c)) := by
  unfold spec_l1In.f
  by_cases h : a ≥ b
  · rw [if_pos h]; congr 1; exact decide_eq_decide.mpr (by omega)
  · rw [if_neg h, decide_eq_false (by omega)]

def ar : Arity := ⟨5, fun k => if k = 2 then 2 else 0⟩
theorem ar2 (k : Int) : ar.want k ≤ 2 := by show (if k = 2 then 2 else 0) ≤ 2; split <;> omega

structure NodeOk (L : List Nd) (m : Nat) : Prop where
  top : m = 0 ↔ up L m = -1
  ahead : -1 ≤ up L m ∧ up L m < (m : Int)
  kind : 1 ≤ (L.getD m z).kind ∧ (L.getD m z).kind ≤ 5
  num : 0 ≤ (L.getD m z).n ∧ (L.getD m z).n ≤ 999 ∧ ((L.getD m z).kind = 1 ∨ (L.getD m z).n = 0)
  around : m = 0 ∨ ∃ x ∈ chain L (m - 1), (x : Int) = up L m
  deep : (chain L m).length ≤ 60
  wants : cnt L m (m + 1) (L.length - (m + 1)) = ar.want (L.getD m z).kind

theorem parts (l : List S33) (i : Nat) (hl : l.length ≤ 200) : ∀ (d a : Nat) (acc : List Int), a + d = l.length → acc.length + d ≤ 200 → ∃ r, Ev (fun k => spec_ldParts.l0 k l i acc a) r ∧ r.length = acc.length + cnt (l.map nd) i a d := by
  intro d
  induction d with
  | zero =>
    intro a acc ha _
    refine ⟨acc, Ev.step (f := fun _ => some acc) (fun k => ?_) (Ev.now _), rfl⟩
    simp only [spec_ldParts.l0]
    rw [if_neg (by omega)]
  | succ d ih =>
    intro a acc ha hacc
    by_cases h : up (l.map nd) a = (i : Int)
    · obtain ⟨r, hr, hn⟩ := ih (a + 1) (acc ++ [(a : Int)]) (by omega) (by simp; omega)
      refine ⟨r, Ev.step (fun k => ?_) hr, ?_⟩
      · simp only [spec_ldParts.l0]
        rw [if_pos (by omega), if_pos (by omega), rdC, up_nd, if_pos h, if_pos (by omega), next a (n := l.length) (by omega) (by omega)]
      · rw [hn, List.length_append]
        show acc.length + 1 + _ = acc.length + ((if up (l.map nd) a = (i : Int) then 1 else 0) + _)
        rw [if_pos h]; omega
    · obtain ⟨r, hr, hn⟩ := ih (a + 1) acc (by omega) (by omega)
      refine ⟨r, Ev.step (fun k => ?_) hr, ?_⟩
      · simp only [spec_ldParts.l0]
        rw [if_pos (by omega), if_pos (by omega), rdC, up_nd, if_neg h, next a (n := l.length) (by omega) (by omega)]
      · rw [hn]
        show _ = acc.length + ((if up (l.map nd) a = (i : Int) then 1 else 0) + _)
        rw [if_neg h]; omega

theorem ldParts (l : List S33) (i : Nat) (hi : i < l.length) (hl : l.length ≤ 200) : ∃ r, Ev (fun k => spec_ldParts.f k l i) r ∧ r.length = cnt (l.map nd) i (i + 1) (l.length - (i + 1)) := by
  obtain ⟨r, hr, hn⟩ := parts l i hl (l.length - (i + 1)) (i + 1) [] (by omega) (by simp; omega)
  refine ⟨r, ?_, by rw [hn]; simp⟩
  unfold spec_ldParts.f
  rw [next i hi (by omega)]
  exact hr

theorem deepLoop (l : List S33) (hl : l.length ≤ 200) (i : Nat) (hi : i < l.length) (b : Bool) (kd n u : Int) (h : ∀ m, m ≤ i → -1 ≤ up (l.map nd) m ∧ up (l.map nd) m < (m : Int)) {r : Bool} :
    ∀ (j d : Nat), j ≤ i → d + j ≤ 400 → Ev (fun k => spec_GoodComb.l2 k l i b ((d + (chain (l.map nd) j).length : Nat) : Int) (-1) l l.length i kd n u) r → Ev (fun k => spec_GoodComb.l2 k l i b (d : Int) (j : Int) l l.length i kd n u) r := by
  intro j
  induction j using Nat.strongRecOn with
  | _ j ih =>
    intro d hj hd hE
    refine Ev.step (f := fun k => spec_GoodComb.l2 k l i b ((d + 1 : Nat) : Int) (up (l.map nd) j) l l.length i kd n u) (fun k => ?_) ?_
    · show (if (j : Int) ≥ 0 then _ else _) = _
      rw [if_pos (by omega), if_pos (by omega), if_pos (by omega), rdC, up_nd, w64 (by omega) (by omega)]
      rfl
    · have hu := h j hj
      by_cases hu0 : 0 ≤ up (l.map nd) j
      · rw [show up (l.map nd) j = (((up (l.map nd) j).toNat : Nat) : Int) by omega]
        refine ih _ (by omega) (d + 1) (by omega) (by omega) ?_
        rw [chain_up ⟨hu0, hu.2⟩, List.length_cons] at hE
        rw [show d + 1 + (chain (l.map nd) (up (l.map nd) j).toNat).length = d + ((chain (l.map nd) (up (l.map nd) j).toNat).length + 1) by omega]
        exact hE
      · rw [chain_top (by omega)] at hE
        rw [show up (l.map nd) j = -1 by omega]
        exact hE

theorem aroundLoop (l : List S33) (hl : l.length ≤ 200) (i : Nat) (hi : i < l.length) (kd n u : Int) (h : ∀ m, m < i → -1 ≤ up (l.map nd) m ∧ up (l.map nd) m < (m : Int)) {r : Bool} {c : Bool} :
    ∀ (j : Nat), j < i → (c = true ↔ ∃ x ∈ chain (l.map nd) j, (x : Int) = u) → Ev (fun k => spec_GoodComb.j3 k l i c l l.length i kd n u) r → Ev (fun k => spec_GoodComb.l1 k l i false (j : Int) l l.length i kd n u) r := by
  intro j
  induction j using Nat.strongRecOn with
  | _ j ih =>
    intro hj hc hE
    have hu := h j hj
    refine Ev.step (f := fun k => spec_GoodComb.l1 k l i ((j : Int) == u) (up (l.map nd) j) l l.length i kd n u) (fun k => ?_) ?_
    · show (if (j : Int) ≥ 0 then _ else _) = _
      rw [if_pos (by omega), if_neg (by simp), if_pos (by omega), if_pos (by omega), rdC, up_nd]
    · by_cases hju : (j : Int) = u
      · obtain rfl : c = true := hc.mpr ⟨j, chain_self _ _, hju⟩
        rw [show ((j : Int) == u) = true by simpa using hju]
        refine Ev.step (f := fun k => spec_GoodComb.j3 k l i true l l.length i kd n u) (fun k => ?_) hE
        simp only [spec_GoodComb.l1]
        simp
      · rw [show ((j : Int) == u) = false by simpa using hju]
        by_cases hu0 : 0 ≤ up (l.map nd) j
        · rw [show up (l.map nd) j = (((up (l.map nd) j).toNat : Nat) : Int) by omega]
          refine ih _ (by omega) (by omega) (hc.trans ?_) hE
          rw [chain_up ⟨hu0, hu.2⟩]
          simp [hju]
        · obtain rfl : c = false := by
            cases c with
            | false => rfl
            | true =>
              obtain ⟨x, hx, hxu⟩ := hc.mp rfl
              rw [chain_top (by omega)] at hx
              have : x = j := by simpa using hx
              subst this; exact absurd hxu hju
          refine Ev.step (f := fun k => spec_GoodComb.j3 k l i false l l.length i kd n u) (fun k => ?_) hE
          simp only [spec_GoodComb.l1]
          rw [if_neg (by omega)]

theorem badNode (l : List S33) (a b c kd n u : Int) : Ev (fun k => spec_GoodComb.j1 k l a l b c true kd n u) false := by
  refine Ev.step (f := fun _ => some false) (fun k => ?_) (Ev.now _)
  simp only [spec_GoodComb.j1]
  rfl

theorem specLoop (l : List S33) (hl : l.length ≤ 200) : ∀ (d i : Nat), i + d = l.length → (∀ m, m < i → -1 ≤ up (l.map nd) m ∧ up (l.map nd) m < (m : Int)) →
    ∃ b, Ev (fun k => spec_GoodComb.l0 k l l l.length i) b ∧ (b = true ↔ ∀ m, i ≤ m → m < l.length → NodeOk (l.map nd) m) := by
  intro d
  induction d with
  | zero =>
    intro i hi _
    refine ⟨true, Ev.step (f := fun _ => some true) (fun k => ?_) (Ev.now _), ?_⟩
    · simp only [spec_GoodComb.l0]
      rw [if_neg (by omega)]
    · exact ⟨fun _ m h1 h2 => by omega, fun _ => rfl⟩
  | succ d ih =>
    intro i hi hah
    have hil : i < l.length := by omega
    have eu : (l.getD i z33).f2 = TreeM.up (l.map nd) i := up_nd l i
    have ek : (l.getD i z33).f0 = ((l.map nd).getD i z).kind := by rw [getD_nd]; rfl
    have en : (l.getD i z33).f1 = ((l.map nd).getD i z).n := by rw [getD_nd]; rfl
    have hlen : (l.map nd).length = l.length := List.length_map ..
    -- a node that is not good
    have bad : ∀ {F : Nat → Option Bool}, ¬ NodeOk (l.map nd) i → Ev F false → ∃ b, Ev F b ∧ (b = true ↔ ∀ m, i ≤ m → m < l.length → NodeOk (l.map nd) m) :=
      fun hn hE => ⟨false, hE, fun h => absurd h (by simp), fun h => absurd (h i (Nat.le_refl _) hil) hn⟩
    generalize hu : up (l.map nd) i = u at *
    generalize hk : ((l.map nd).getD i z).kind = kd at *
    generalize hn : ((l.map nd).getD i z).n = n at *
    have st : ∀ k, spec_GoodComb.l0 (k + 1) l l l.length i = (if ((((i : Int) == 0) != (u == (-1))) = true) then (spec_GoodComb.j1 k l i l l.length i true kd n u) else if (-1 ≤ u ∧ u ≤ (i : Int) - 1) then (if (1 ≤ kd ∧ kd ≤ 5) then (if (0 ≤ n ∧ n ≤ 999) then (if kd = 1 then (spec_GoodComb.j1 k l i l l.length i false kd n u) else (spec_GoodComb.j1 k l i l l.length i (n != 0) kd n u)) else (spec_GoodComb.j1 k l i l l.length i true kd n u)) else (spec_GoodComb.j1 k l i l l.length i true kd n u)) else (spec_GoodComb.j1 k l i l l.length i true kd n u)) := by
      intro k
      simp only [spec_GoodComb.l0]
      rw [if_pos (by omega), if_pos (by omega), if_pos (by omega), rdC, eu, ek, en, l1In_eq, l1In_eq, l1In_eq, w64 (by omega) (by omega)]
      simp only [Option.bind_some, decide_eq_true_eq]
    have hT : ((((i : Int) == 0) != (u == (-1))) = true) ↔ ¬ (i = 0 ↔ u = -1) := by
      have e1 : ((i : Int) == 0) = decide (i = 0) := by rw [Bool.eq_iff_iff]; simp
      have e2 : (u == (-1)) = decide (u = -1) := by rw [Bool.eq_iff_iff]; simp
      rw [e1, e2]
      by_cases h1 : i = 0 <;> by_cases h2 : u = -1 <;> simp [h1, h2]
    by_cases h1 : i = 0 ↔ u = -1
    case neg =>
      exact bad (fun h => h1 (hu ▸ h.top)) (Ev.step (fun k => (st k).trans (if_pos (hT.mpr h1))) (badNode ..))
    have st := fun k => (st k).trans (if_neg (fun h => hT.mp h h1))
    by_cases h2 : -1 ≤ u ∧ u ≤ (i : Int) - 1
    case neg =>
      exact bad (fun h => h2 (by have := h.ahead; rw [hu] at this; omega)) (Ev.step (fun k => (st k).trans (if_neg h2)) (badNode ..))
    have st := fun k => (st k).trans (if_pos h2)
    by_cases h3 : 1 ≤ kd ∧ kd ≤ 5
    case neg =>
      exact bad (fun h => h3 (hk ▸ h.kind)) (Ev.step (fun k => (st k).trans (if_neg h3)) (badNode ..))
    have st := fun k => (st k).trans (if_pos h3)
    by_cases h4 : 0 ≤ n ∧ n ≤ 999
    case neg =>
      exact bad (fun h => h4 (by have := h.num; rw [hn] at this; omega)) (Ev.step (fun k => (st k).trans (if_neg h4)) (badNode ..))
    have st := fun k => (st k).trans (if_pos h4)
    by_cases h5 : kd = 1 ∨ n = 0
    case neg =>
      refine bad (fun h => h5 (by have := h.num; rw [hn, hk] at this; omega)) (Ev.step (f := fun k => spec_GoodComb.j1 k l i l l.length i true kd n u) (fun k => (st k).trans ?_) (badNode ..))
      rw [if_neg (by omega), show (n != 0) = true by simp; omega]
    -- the node itself is good; what it is in, how deep, how many parts
    have st : ∀ k, spec_GoodComb.l0 (k + 1) l l l.length i = spec_GoodComb.j1 k l i l l.length i false kd n u := by
      intro k
      rw [st k]
      by_cases h6 : kd = 1
      · rw [if_pos h6]
      · rw [if_neg h6, show (n != 0) = false by simp; omega]
    have hah' : ∀ m, m < i + 1 → -1 ≤ up (l.map nd) m ∧ up (l.map nd) m < (m : Int) := by
      intro m hm
      by_cases hmi : m = i
      · subst hmi; rw [hu]; omega
      · exact hah m (by omega)
    obtain ⟨b, hb, hbi⟩ := ih (i + 1) (by omega) hah'
    obtain ⟨ps, hps, hpn⟩ := ldParts l i hil hl
    -- the end
    obtain ⟨c, hc⟩ : ∃ c : Bool, c = true ↔ (i = 0 ∨ ∃ x ∈ chain (l.map nd) (i - 1), (x : Int) = u) := by
      by_cases h : (i = 0 ∨ ∃ x ∈ chain (l.map nd) (i - 1), (x : Int) = u)
      · exact ⟨true, by simp [h]⟩
      · exact ⟨false, by simp [h]⟩
    have go : ∀ {r : Bool}, Ev (fun k => spec_GoodComb.l2 k l i c (((chain (l.map nd) i).length : Nat) : Int) (-1) l l.length i kd n u) r → Ev (fun k => spec_GoodComb.l0 k l l l.length i) r := by
      intro r hE
      refine Ev.step st ?_
      refine Ev.step (f := fun k => spec_GoodComb.l1 k l i ((i : Int) == 0) ((i : Int) - 1) l l.length i kd n u) (fun k => ?_) ?_
      · simp only [spec_GoodComb.j1]
        rw [w64 (by omega) (by omega)]
        rfl
      · have hj3 : Ev (fun k => spec_GoodComb.j3 k l i c l l.length i kd n u) r := by
          refine Ev.step (f := fun k => spec_GoodComb.l2 k l i c ((0 : Nat) : Int) (i : Int) l l.length i kd n u) (fun k => rfl) ?_
          refine deepLoop l hl i hil c kd n u (fun m hm => hah' m (by omega)) i 0 (Nat.le_refl _) (by omega) ?_
          rw [Nat.zero_add]; exact hE
        by_cases hi0 : i = 0
        · obtain rfl : c = true := hc.mpr (.inl hi0)
          subst hi0
          refine Ev.step (f := fun k => spec_GoodComb.j3 k l (0 : Nat) true l l.length (0 : Nat) kd n u) (fun k => ?_) hj3
          simp only [spec_GoodComb.l1]
          rfl
        · rw [show ((i : Int) == 0) = false by simpa using hi0, show (i : Int) - 1 = ((i - 1 : Nat) : Int) by omega]
          refine aroundLoop l hl i hil kd n u hah (i - 1) (by omega) (hc.trans ?_) hj3
          simp [hi0]
    have fin : ∀ k, spec_GoodComb.l2 (k + 1) l i c (((chain (l.map nd) i).length : Nat) : Int) (-1) l l.length i kd n u = (if c = true then (if (chain (l.map nd) i).length ≤ 60 then ((spec_ldParts.f k l i).bind fun t => (if t.length = ar.want kd then (spec_GoodComb.l0 k l l l.length ((i + 1 : Nat) : Int)) else (some false))) else some false) else (some false)) := by
      intro k
      simp only [spec_GoodComb.l2]
      rw [if_neg (by decide), next i hil (by omega)]
      have hd : ((((chain (l.map nd) i).length : Nat) : Int) > 60) ↔ ¬ (chain (l.map nd) i).length ≤ 60 := by omega
      have hw : ∀ (t : List Int), (t.length = ar.want kd) ↔ (if kd = 2 then (t.length : Int) = 2 else (t.length : Int) = 0) := by
        intro t
        show (t.length = if kd = 2 then 2 else 0) ↔ _
        by_cases h6 : kd = 2
        · rw [if_pos h6, if_pos h6]; omega
        · rw [if_neg h6, if_neg h6]; omega
      by_cases h6 : kd = 2
      · simp only [hw, if_pos h6]
        by_cases h7 : (chain (l.map nd) i).length ≤ 60
        · simp only [if_pos h7, if_neg (fun h => hd.mp h h7)]
        · simp only [if_neg h7, if_pos (hd.mpr h7)]
      · simp only [hw, if_neg h6]
        by_cases h7 : (chain (l.map nd) i).length ≤ 60
        · simp only [if_pos h7, if_neg (fun h => hd.mp h h7)]
        · simp only [if_neg h7, if_pos (hd.mpr h7)]
    by_cases h7 : c = true
    case neg =>
      exact bad (fun h => h7 (hc.mpr (hu ▸ h.around))) (go (Ev.step (f := fun _ => some false) (fun k => (fin k).trans (if_neg h7)) (Ev.now _)))
    have fin := fun k => (fin k).trans (if_pos h7)
    by_cases h8 : (chain (l.map nd) i).length ≤ 60
    case neg =>
      exact bad (fun h => h8 h.deep) (go (Ev.step (f := fun _ => some false) (fun k => (fin k).trans (if_neg h8)) (Ev.now _)))
    have fin := fun k => (fin k).trans (if_pos h8)
    by_cases h9 : ps.length = ar.want kd
    case neg =>
      exact bad (fun h => h9 (by have := h.wants; rw [hk, hlen] at this; rw [hpn]; exact this)) (go (Ev.step fin (Ev.bind hps (Ev.ite_neg h9 (Ev.now _)))))
    refine ⟨b, go (Ev.step fin (Ev.bind hps (Ev.ite_pos h9 hb))), hbi.trans ?_⟩
    have good : NodeOk (l.map nd) i := by
      refine ⟨by rw [hu]; exact h1, by rw [hu]; omega, by rw [hk]; exact h3, by rw [hn, hk]; exact ⟨h4.1, h4.2, h5⟩, by rw [hu]; exact hc.mp h7, h8, ?_⟩
      rw [hk, hlen, ← hpn]; exact h9
    constructor
    · intro h m hm1 hm2
      by_cases hmi : m = i
      · subst hmi; exact good
      · exact h m (by omega) hm2
    · intro h m hm1 hm2
      exact h m (by omega) hm2

def toS : Tr → S42
  | .leaf k n => ⟨k, n, []⟩
  | .un k n a => ⟨k, n, [toS a]⟩
  | .bin k n a b => ⟨k, n, [toS a, toS b]⟩

def numOk (k n : Int) : Prop := 0 ≤ n ∧ n ≤ 999 ∧ (k = 1 ∨ n = 0)

theorem Tr.depth_le (t : Tr) : t.depth ≤ t.size ∧ 1 ≤ t.depth := by
  induction t with
  | leaf k n => exact ⟨Nat.le_refl _, Nat.le_refl _⟩
  | un k n a ih => show a.depth + 1 ≤ 1 + a.size ∧ 1 ≤ a.depth + 1; omega
  | bin k n a b iha ihb => show max a.depth b.depth + 1 ≤ 1 + a.size + b.size ∧ 1 ≤ max a.depth b.depth + 1; omega

theorem measure_ev : ∀ (t : Tr), t.size ≤ 4000 → ∃ b, Ev (fun k => impl_comb_measure.f k (toS t).f0 (toS t).f1 (toS t).f2) ((t.size : Int), (t.depth : Int), b) ∧ (b = true ↔ t.all numOk) := by
  -- the node itself
  have node : ∀ (kd n : Int) (ps : List S42), ∃ c : Bool, (c = true ↔ numOk kd n) ∧ ∀ {r}, Ev (fun k => impl_comb_measure.l0 k 1 0 c ps ps.length 0) r → Ev (fun k => impl_comb_measure.f k kd n ps) r := by
    intro kd n ps
    have fin : ∀ (c : Bool) {r}, Ev (fun k => impl_comb_measure.l0 k 1 0 c ps ps.length 0) r → Ev (fun k => impl_comb_measure.j0 k 1 0 c kd n ps) r := fun c r h => Ev.step (fun k => rfl) h
    unfold numOk
    by_cases h1 : n ≥ 0
    · by_cases h2 : n ≤ 999
      · by_cases h3 : kd = 1
        · exact ⟨true, by simp; omega, fun h => Ev.step (fun k => by simp only [impl_comb_measure.f]; rw [if_pos h1, if_pos h2, if_pos h3]) (fin _ h)⟩
        · exact ⟨n == 0, by simp; omega, fun h => Ev.step (fun k => by simp only [impl_comb_measure.f]; rw [if_pos h1, if_pos h2, if_neg h3]) (fin _ h)⟩
      · exact ⟨false, by simp; omega, fun h => Ev.step (fun k => by simp only [impl_comb_measure.f]; rw [if_pos h1, if_neg h2]) (fin _ h)⟩
    · exact ⟨false, by simp; omega, fun h => Ev.step (fun k => by simp only [impl_comb_measure.f]; rw [if_neg h1]) (fin _ h)⟩
  have fin : ∀ (s dp : Nat) (c : Bool) (ps : List S42), dp ≤ 4000 → Ev (fun k => impl_comb_measure.l0 k s dp c ps ps.length ps.length) ((s : Int), ((dp + 1 : Nat) : Int), c) := by
    intro s dp c ps hd
    refine Ev.step (f := fun _ => some ((s : Int), ((dp + 1 : Nat) : Int), c)) (fun k => ?_) (Ev.now _)
    simp only [impl_comb_measure.l0]
    rw [if_neg (by omega), w64 (by omega) (by omega)]
    rfl
  have part : ∀ (s dp i s2 d2 : Nat) (c b : Bool) (ps : List S42) (x : S42), i < ps.length → ps.length ≤ 2 → rd_T42 ps i = x → s + s2 ≤ 4000 → Ev (fun k => impl_comb_measure.f k x.f0 x.f1 x.f2) ((s2 : Int), (d2 : Int), b) → ∀ {r}, Ev (fun k => impl_comb_measure.l0 k ((s + s2 : Nat) : Int) ((max dp d2 : Nat) : Int) (c && b) ps ps.length ((i + 1 : Nat) : Int)) r → Ev (fun k => impl_comb_measure.l0 k s dp c ps ps.length i) r := by
    intro s dp i s2 d2 c b ps x hi hl hx hs hE r h
    have hm : mx (dp : Int) (d2 : Int) = ((max dp d2 : Nat) : Int) := by unfold mx; split <;> omega
    refine Ev.step (f := fun k => (impl_comb_measure.f k x.f0 x.f1 x.f2).bind fun bt => (if c = true then (impl_comb_measure.l0 k (wrap64 ((s : Int) + bt.1)) (mx dp bt.2.1) bt.2.2 ps ps.length ((i + 1 : Nat) : Int)) else (impl_comb_measure.l0 k (wrap64 ((s : Int) + bt.1)) (mx dp bt.2.1) false ps ps.length ((i + 1 : Nat) : Int)))) (fun k => ?_) (Ev.bind hE ?_)
    · simp only [impl_comb_measure.l0]
      rw [if_pos (by omega), if_pos (by omega), if_pos (by omega), hx, next i hi (by omega)]
    · show Ev (fun k => if c = true then (impl_comb_measure.l0 k (wrap64 ((s : Int) + s2)) (mx dp d2) b ps ps.length ((i + 1 : Nat) : Int)) else (impl_comb_measure.l0 k (wrap64 ((s : Int) + s2)) (mx dp d2) false ps ps.length ((i + 1 : Nat) : Int))) r
      rw [hm, w64 (by omega) (by omega), show (s : Int) + s2 = ((s + s2 : Nat) : Int) by omega]
      by_cases hc : c = true
      · subst hc; rw [Bool.true_and] at h; exact Ev.ite_pos rfl h
      · obtain rfl : c = false := by simpa using hc
        rw [Bool.false_and] at h; exact Ev.ite_neg (by simp) h
  intro t
  induction t with
  | leaf kd n =>
    intro _
    obtain ⟨c, hc, hE⟩ := node kd n []
    exact ⟨c, hE (fin 1 0 c [] (by omega)), hc⟩
  | un kd n a ih =>
    intro hs
    have hs' : 1 + a.size ≤ 4000 := hs
    obtain ⟨b, hb, hbi⟩ := ih (by omega)
    obtain ⟨c, hc, hE⟩ := node kd n [toS a]
    have := Tr.depth_le a
    refine ⟨c && b, ?_, ?_⟩
    · refine hE (part 1 0 0 a.size a.depth c b [toS a] (toS a) (by simp) (by simp) rfl hs' hb (Ev.of_eq (fin (1 + a.size) (max 0 a.depth) (c && b) [toS a] (by omega)) ?_))
      rw [Nat.zero_max]; rfl
    · rw [Bool.and_eq_true, hc, hbi]; exact Iff.rfl
  | bin kd n x y ihx ihy =>
    intro hs
    have hs' : 1 + x.size + y.size ≤ 4000 := hs
    obtain ⟨b1, hb1, hbi1⟩ := ihx (by omega)
    obtain ⟨b2, hb2, hbi2⟩ := ihy (by omega)
    obtain ⟨c, hc, hE⟩ := node kd n [toS x, toS y]
    have := Tr.depth_le x
    have := Tr.depth_le y
    refine ⟨(c && b1) && b2, ?_, ?_⟩
    · refine hE (part 1 0 0 x.size x.depth c b1 [toS x, toS y] (toS x) (by simp) (by simp) rfl (by omega) hb1 ?_)
      refine part (1 + x.size) (max 0 x.depth) 1 y.size y.depth (c && b1) b2 [toS x, toS y] (toS y) (by simp) (by simp) rfl hs' hb2 ?_
      refine Ev.of_eq (fin (1 + x.size + y.size) (max (max 0 x.depth) y.depth) ((c && b1) && b2) [toS x, toS y] (by omega)) ?_
      rw [Nat.zero_max]; rfl
    · rw [Bool.and_eq_true, Bool.and_eq_true, hc, hbi1, hbi2, and_assoc]; exact Iff.rfl

def Tells (l : List S33) (t : Tr) : Prop := 1 ≤ l.length ∧ l.length ≤ 200 ∧ Par ar (l.map nd) 0 (-1) t l.length ∧ t.all numOk ∧ t.depth ≤ 60

theorem nodes_iff (l : List S33) (h1 : 1 ≤ l.length) (h2 : l.length ≤ 200) : (∀ m, 0 ≤ m → m < l.length → NodeOk (l.map nd) m) ↔ ∃ t, Tells l t := by
  have hlen : (l.map nd).length = l.length := List.length_map ..
  have hli := loc_iff (A := ar) (l := l.map nd) ar2 (by omega)
  constructor
  · intro h
    have L : TreeM.Loc ar (l.map nd) := by
      refine ⟨fun _ => (h 0 (Nat.le_refl _) (by omega)).top.mp rfl, fun m h3 h4 => ?_, fun m h3 h4 => ?_, fun m h3 => (h m (by omega) (by omega)).kind, fun m h3 => (h m (by omega) (by omega)).wants⟩
      · have hm := h m (by omega) (by omega)
        have := hm.ahead
        have := hm.top
        omega
      · have hm := h m (by omega) (by omega)
        obtain ⟨x, hx, hxu⟩ := hm.around.resolve_left (by omega)
        rw [← hxu, Int.toNat_natCast]; exact hx
    obtain ⟨t, ht⟩ := hli.mp L
    rw [hlen] at ht
    refine ⟨t, h1, h2, ht, (ht.alls numOk).mpr (fun m h3 h4 => (h m h3 h4).num), ?_⟩
    obtain ⟨m, h3, h4, h5⟩ := ht.deep.2
    have hm := (h m h3 h4).deep
    have h0 : (chain (l.map nd) 0).length = 1 := by rw [chain_top (by rw [ht.span.2.2]; omega)]; rfl
    omega
  · rintro ⟨t, _, _, ht, hn, hd⟩ m _ hm
    have L : TreeM.Loc ar (l.map nd) := hli.mpr ⟨t, by rw [hlen]; exact ht⟩
    have h0 : (chain (l.map nd) 0).length = 1 := by rw [chain_top (by rw [ht.span.2.2]; omega)]; rfl
    have hr := L.root (by omega)
    refine ⟨?_, ?_, L.kinds m (by omega), (ht.alls numOk).mp hn m (by omega) hm, ?_, by have := ht.deep.1 m (by omega) hm; omega, L.wants m (by omega)⟩
    · by_cases h3 : m = 0
      · subst h3; exact ⟨fun _ => hr, fun _ => rfl⟩
      · have := L.ahead m (by omega) (by omega); omega
    · by_cases h3 : m = 0
      · subst h3; omega
      · have := L.ahead m (by omega) (by omega); omega
    · by_cases h3 : m = 0
      · exact .inl h3
      · have h4 := L.ahead m (by omega) (by omega)
        exact .inr ⟨_, L.around m (by omega) (by omega), by omega⟩

theorem specGood (l : List S33) (hl : l.length ≤ 9223372036854775807) : ∃ b, Ev (fun k => spec_GoodComb.f k l) b ∧ (b = true ↔ ∃ t, Tells l t) := by
  unfold spec_GoodComb.f
  rw [l1In_eq]
  simp only [Option.bind_some, decide_eq_true_eq]
  by_cases h : (1 : Int) ≤ (l.length : Int) ∧ (l.length : Int) ≤ 200
  · obtain ⟨b, hb, hbi⟩ := specLoop l (by omega) l.length 0 (by omega) (fun m hm => by omega)
    exact ⟨b, Ev.ite_pos h hb, hbi.trans (nodes_iff l (by omega) (by omega))⟩
  · exact ⟨false, Ev.ite_neg h (Ev.now _), fun h2 => absurd h2 (by simp), fun ⟨t, h2, h3, _⟩ => absurd ⟨by omega, by omega⟩ h⟩

end Go.Proofs.Ytmcmclcebnepgaa.CombL

namespace Go.Proofs.Ytmcmclcebnepgaa.TreeM
set_option linter.unusedVariables false

def flat : Tr → Nat → Int → List Nd
  | .leaf k n, _, u => [⟨k, n, u⟩]
  | .un k n a, i, u => ⟨k, n, u⟩ :: flat a (i + 1) i
  | .bin k n a b, i, u => ⟨k, n, u⟩ :: (flat a (i + 1) i ++ flat b (i + 1 + a.size) i)
theorem flat_len : ∀ (t : Tr) (i : Nat) (u : Int), (flat t i u).length = t.size
  | .leaf _ _, _, _ => rfl
  | .un k n a, i, u => by show (flat a (i + 1) i).length + 1 = 1 + a.size; rw [flat_len a]; omega
  | .bin k n a b, i, u => by show (flat a (i + 1) i ++ flat b (i + 1 + a.size) i).length + 1 = 1 + a.size + b.size; rw [List.length_append, flat_len a, flat_len b]; omega

def Tr.wf (A : Arity) : Tr → Prop
  | .leaf k _ => (1 ≤ k ∧ k ≤ A.top) ∧ A.want k = 0
  | .un k _ a => ((1 ≤ k ∧ k ≤ A.top) ∧ A.want k = 1) ∧ a.wf A
  | .bin k _ a b => ((1 ≤ k ∧ k ≤ A.top) ∧ A.want k = 2) ∧ a.wf A ∧ b.wf A
theorem Par.wf {A : Arity} {l : List Nd} {i e : Nat} {u : Int} {t : Tr} (h : Par A l i u t e) : t.wf A := by
  induction h with
  | leaf h hk hw => exact ⟨hk, hw⟩
  | un h hk hw ha ih => exact ⟨⟨hk, hw⟩, ih⟩
  | bin h hk hw ha hb ih1 ih2 => exact ⟨⟨hk, hw⟩, ih1, ih2⟩

theorem par_flat {A : Arity} : ∀ (t : Tr) (i : Nat) (u : Int) (l : List Nd), t.wf A → (∀ j x, (flat t i u)[j]? = some x → l[i + j]? = some x) → Par A l i u t (i + t.size)
  | .leaf k n, i, u, l, hw, h => .leaf (h 0 _ rfl) hw.1 hw.2
  | .un k n a, i, u, l, hw, h => by
    have pa := par_flat a (i + 1) i l hw.2 (fun j x hx => by rw [show i + 1 + j = i + (j + 1) by omega]; exact h (j + 1) x hx)
    have e : i + (Tr.un k n a).size = i + 1 + a.size := by show i + (1 + a.size) = _; omega
    rw [e]
    exact .un (h 0 _ rfl) hw.1.1 hw.1.2 pa
  | .bin k n a b, i, u, l, hw, h => by
    have pa := par_flat a (i + 1) i l hw.2.1 (fun j x hx => by
      rw [show i + 1 + j = i + (j + 1) by omega]
      refine h (j + 1) x ?_
      show (flat a (i + 1) i ++ flat b (i + 1 + a.size) i)[j]? = _
      rw [List.getElem?_append_left (by have := lt_of hx; exact this)]; exact hx)
    have pb := par_flat b (i + 1 + a.size) i l hw.2.2 (fun j x hx => by
      rw [show i + 1 + a.size + j = i + (a.size + j + 1) by omega]
      refine h (a.size + j + 1) x ?_
      show (flat a (i + 1) i ++ flat b (i + 1 + a.size) i)[a.size + j]? = _
      rw [List.getElem?_append_right (by rw [flat_len]; omega), flat_len, show a.size + j - a.size = j by omega]; exact hx)
    have e : i + (Tr.bin k n a b).size = i + 1 + a.size + b.size := by show i + (1 + a.size + b.size) = _; omega
    rw [e]
    exact .bin (h 0 _ rfl) hw.1.1 hw.1.2 pa pb

theorem flat_par {A : Arity} (t : Tr) (hw : t.wf A) : Par A (flat t 0 (-1)) 0 (-1) t (flat t 0 (-1)).length := by
  have := par_flat (A := A) t 0 (-1) (flat t 0 (-1)) hw (fun j x hx => by rw [Nat.zero_add]; exact hx)
  rw [flat_len]; rw [Nat.zero_add] at this; exact this

def pts (l : List Nd) (i : Nat) : Nat → Nat → List Nat
  | _, 0 => []
  | a, d + 1 => if up l a = (i : Int) then a :: pts l i (a + 1) d else pts l i (a + 1) d
theorem pts_add (l : List Nd) (i : Nat) : ∀ (d a d' : Nat), pts l i a (d + d') = pts l i a d ++ pts l i (a + d) d'
  | 0, a, d' => by simp [pts]
  | d + 1, a, d' => by
    have e : d + 1 + d' = (d + d') + 1 := by omega
    rw [e]
    show (if up l a = (i : Int) then a :: pts l i (a + 1) (d + d') else pts l i (a + 1) (d + d')) = (if up l a = (i : Int) then a :: pts l i (a + 1) d else pts l i (a + 1) d) ++ pts l i (a + (d + 1)) d'
    rw [pts_add l i d (a + 1) d', show a + 1 + d = a + (d + 1) by omega]
    split <;> rfl
theorem pts_none (l : List Nd) (i : Nat) : ∀ (d a : Nat), (∀ m, a ≤ m → m < a + d → up l m ≠ (i : Int)) → pts l i a d = []
  | 0, a, h => rfl
  | d + 1, a, h => by
    show (if up l a = (i : Int) then a :: pts l i (a + 1) d else pts l i (a + 1) d) = []
    rw [if_neg (h a (Nat.le_refl _) (by omega)), pts_none l i d (a + 1) (fun m h1 h2 => h m (by omega) (by omega))]

def Shut (l : List Nd) (i e : Nat) : Prop := ∀ m, e ≤ m → m < l.length → ¬ ((i : Int) ≤ up l m ∧ up l m < (e : Int))

inductive Parts (A : Arity) (l : List Nd) : Nat → Tr → Nat → Prop
  | leaf {i : Nat} {k n : Int} (h : l.getD i z = ⟨k, n, up l i⟩) (hi : i < l.length) (hw : A.want k = 0) (hp : pts l i (i + 1) (l.length - (i + 1)) = []) : Parts A l i (.leaf k n) (i + 1)
  | un {i e : Nat} {k n : Int} {a : Tr} (h : l.getD i z = ⟨k, n, up l i⟩) (hi : i < l.length) (hw : A.want k = 1) (hp : pts l i (i + 1) (l.length - (i + 1)) = [i + 1]) (ha : Parts A l (i + 1) a e) : Parts A l i (.un k n a) e
  | bin {i e e' : Nat} {k n : Int} {a b : Tr} (h : l.getD i z = ⟨k, n, up l i⟩) (hi : i < l.length) (hw : A.want k = 2) (hp : pts l i (i + 1) (l.length - (i + 1)) = [i + 1, e]) (ha : Parts A l (i + 1) a e) (hb : Parts A l e b e') : Parts A l i (.bin k n a b) e'

theorem Par.parts {A : Arity} {l : List Nd} {i e : Nat} {u : Int} {t : Tr} (h : Par A l i u t e) : Shut l i e → Parts A l i t e := by
  have at1 : ∀ (q : Nat) (k n v : Int), l[q]? = some ⟨k, n, v⟩ → l.getD q z = ⟨k, n, up l q⟩ := fun q k n v h => by rw [up_of h, List.getD_eq_getElem?_getD, h]; rfl
  induction h with
  | @leaf i u k n h hk hw =>
    intro hs
    refine .leaf (at1 _ _ _ _ h) (lt_of h) hw (pts_none _ _ _ _ fun m h1 h2 he => hs m h1 (by have := lt_of h; omega) ?_)
    omega
  | @un i e u k n a h hk hw ha ih =>
    intro hs
    have hlt := ha.lt
    have hsp := ha.span
    refine .un (at1 _ _ _ _ h) (lt_of h) hw ?_ (ih fun m h1 h2 h3 => hs m h1 h2 (by omega))
    obtain ⟨d, hd⟩ : ∃ d, e - (i + 1) = d + 1 := ⟨e - (i + 1) - 1, by omega⟩
    rw [show l.length - (i + 1) = (d + 1) + (l.length - e) by omega, pts_add l i (d + 1) (i + 1) (l.length - e), show i + 1 + (d + 1) = e by omega]
    have e1 : pts l i (i + 1) (d + 1) = [i + 1] := by
      show (if up l (i + 1) = (i : Int) then (i + 1) :: pts l i (i + 1 + 1) d else pts l i (i + 1 + 1) d) = _
      rw [if_pos hsp.2.2, pts_none]
      intro q h3 h4
      have := ha.inside q (by omega) (by omega); omega
    have e2 : pts l i e (l.length - e) = [] := pts_none _ _ _ _ fun m h1 h2 he => hs m h1 (by omega) (by omega)
    rw [e1, e2]; rfl
  | @bin i e e' u k n a b h hk hw ha hb ih1 ih2 =>
    intro hs
    have hlt := ha.lt
    have hsp := ha.span
    have hlt2 := hb.lt
    have hsp2 := hb.span
    refine .bin (at1 _ _ _ _ h) (lt_of h) hw ?_ (ih1 fun m h1 h2 h3 => ?_) (ih2 fun m h1 h2 h3 => hs m h1 h2 (by omega))
    · obtain ⟨d, hd⟩ : ∃ d, e - (i + 1) = d + 1 := ⟨e - (i + 1) - 1, by omega⟩
      obtain ⟨d2, hd2⟩ : ∃ d2, e' - e = d2 + 1 := ⟨e' - e - 1, by omega⟩
      rw [show l.length - (i + 1) = (d + 1) + ((d2 + 1) + (l.length - e')) by omega, pts_add l i (d + 1) (i + 1) ((d2 + 1) + (l.length - e')), show i + 1 + (d + 1) = e by omega, pts_add l i (d2 + 1) e (l.length - e'), show e + (d2 + 1) = e' by omega]
      have e1 : pts l i (i + 1) (d + 1) = [i + 1] := by
        show (if up l (i + 1) = (i : Int) then (i + 1) :: pts l i (i + 1 + 1) d else pts l i (i + 1 + 1) d) = _
        rw [if_pos hsp.2.2, pts_none]
        intro q h3 h4
        have := ha.inside q (by omega) (by omega); omega
      have e2 : pts l i e (d2 + 1) = [e] := by
        show (if up l e = (i : Int) then e :: pts l i (e + 1) d2 else pts l i (e + 1) d2) = _
        rw [if_pos hsp2.2.2, pts_none]
        intro q h3 h4
        have := hb.inside q (by omega) (by omega); omega
      have e3 : pts l i e' (l.length - e') = [] := pts_none _ _ _ _ fun m h1 h2 he => hs m h1 (by omega) (by omega)
      rw [e1, e2, e3]; rfl
    · by_cases hm : m < e'
      · by_cases hme : m = e
        · subst hme; omega
        · have := hb.inside m (by omega) hm; omega
      · exact hs m (by omega) h2 (by omega)

theorem Par.parts_all {A : Arity} {l : List Nd} {t : Tr} (h : Par A l 0 (-1) t l.length) : Parts A l 0 t l.length := h.parts fun m h1 h2 => by omega
end Go.Proofs.Ytmcmclcebnepgaa.TreeM

namespace Go.Proofs.Ytmcmclcebnepgaa.CombL
open Go.RowKit Go.Proofs.Ytmcmclcebnepgaa.G Go.Proofs.Ytmcmclcebnepgaa.EvL Go.Proofs.Ytmcmclcebnepgaa.TreeM Go.Proofs.YtmcmclcebnepgaaW.PrintWords Go.Proofs.YtmcmclcebnepgaaW.PrintLast
set_option linter.unusedVariables false

def toL : Tr → S49
  | .leaf k n => ⟨k, n, []⟩
  | .un k n a => ⟨k, n, [toL a]⟩
  | .bin k n a b => ⟨k, n, [toL a, toL b]⟩
theorem toL_eta (a : Tr) : (⟨(toL a).f0, (toL a).f1, (toL a).f2⟩ : S49) = toL a := by cases toL a; rfl
theorem toS_eta (a : Tr) : (⟨(toS a).f0, (toS a).f1, (toS a).f2⟩ : S42) = toS a := by cases toS a; rfl

theorem want_of {k : Int} (h : ar.want k = 2) : k = 2 := by
  by_cases hk : k = 2
  · exact hk
  · have h2 : (if k = 2 then 2 else 0) = 2 := h
    rw [if_neg hk] at h2; omega
theorem want_one {k : Int} (h : ar.want k = 1) : False := by
  have h2 : (if k = 2 then 2 else 0) = 1 := h
  split at h2 <;> omega
theorem want_zero {k : Int} (h : ar.want k = 0) : k ≠ 2 := by
  rintro rfl
  have h2 : (2 : Nat) = 0 := h
  omega

def back (x : Nd) : S33 := ⟨x.kind, x.n, x.up⟩
theorem nd_back (l : List Nd) : (l.map back).map nd = l := by
  rw [List.map_map]
  have : (nd ∘ back) = id := by funext x; rfl
  rw [this, List.map_id]
def tnodes (t : Tr) : List S33 := (flat t 0 (-1)).map back
theorem tnodes_len (t : Tr) : (tnodes t).length = t.size := by unfold tnodes; rw [List.length_map, flat_len]

theorem fl_spec : ∀ (t : Tr) (up : Int) (l : List S33), l.length ≤ 200 → (l.length + t.size ≤ 201 → Flat49.flT (toL t) up l = l ++ (flat t l.length up).map back) ∧ (201 < l.length + t.size → 201 ≤ (Flat49.flT (toL t) up l).length) := by
  intro t
  induction t with
  | leaf k n =>
    intro up l hl
    have e : Flat49.flT (toL (.leaf k n)) up l = l ++ [⟨k, n, up⟩] := by rw [Flat49.flT_eq]; show Flat49.flL [] _ _ = _; rw [Flat49.flL_nil]; rfl
    have hs : (Tr.leaf k n).size = 1 := rfl
    exact ⟨fun _ => e, fun h => by omega⟩
  | un k n a ih =>
    intro up l hl
    have hs : (Tr.un k n a).size = 1 + a.size := rfl
    have hp := a.size_pos
    have e : Flat49.flT (toL (.un k n a)) up l = (if (l ++ [(⟨k, n, up⟩ : S33)]).length ≤ 200 then Flat49.flT (toL a) (l.length : Int) (l ++ [⟨k, n, up⟩]) else l ++ [⟨k, n, up⟩]) := by
      rw [Flat49.flT_eq]; show Flat49.flL [toL a] _ _ = _; rw [Flat49.flL_cons, Flat49.flL_nil]; rfl
    have e1 : (l ++ [(⟨k, n, up⟩ : S33)]).length = l.length + 1 := by simp
    rw [e, e1]
    by_cases h1 : l.length + 1 ≤ 200
    · rw [if_pos h1]
      have h2 := ih (l.length : Int) (l ++ [⟨k, n, up⟩]) (by omega)
      rw [e1] at h2
      refine ⟨fun h => ?_, fun h => h2.2 (by omega)⟩
      rw [h2.1 (by omega)]
      show _ = l ++ (⟨k, n, up⟩ :: flat a (l.length + 1) l.length).map back
      simp [back]
    · rw [if_neg h1]
      exact ⟨fun h => by omega, fun h => by omega⟩
  | bin k n a b iha ihb =>
    intro up l hl
    have hs : (Tr.bin k n a b).size = 1 + a.size + b.size := rfl
    have hp := a.size_pos
    have hq := b.size_pos
    have e1 : (l ++ [(⟨k, n, up⟩ : S33)]).length = l.length + 1 := by simp
    have e : Flat49.flT (toL (.bin k n a b)) up l = (fun m => if m.length ≤ 200 then Flat49.flT (toL b) (l.length : Int) m else m) (if l.length + 1 ≤ 200 then Flat49.flT (toL a) (l.length : Int) (l ++ [⟨k, n, up⟩]) else l ++ [⟨k, n, up⟩]) := by
      rw [Flat49.flT_eq]; show Flat49.flL [toL a, toL b] _ _ = _; rw [Flat49.flL_cons, Flat49.flL_cons, Flat49.flL_nil, ← e1]; rfl
    rw [e]
    by_cases h1 : l.length + 1 ≤ 200
    · rw [if_pos h1]
      have h2 := iha (l.length : Int) (l ++ [⟨k, n, up⟩]) (by omega)
      rw [e1] at h2
      by_cases h3 : l.length + 1 + a.size ≤ 201
      · rw [h2.1 h3]
        have e2 : (l ++ [(⟨k, n, up⟩ : S33)] ++ (flat a (l.length + 1) l.length).map back).length = l.length + 1 + a.size := by rw [List.length_append, List.length_map, flat_len, e1]
        dsimp only
        rw [e2]
        by_cases h4 : l.length + 1 + a.size ≤ 200
        · rw [if_pos h4]
          have h5 := ihb (l.length : Int) (l ++ [(⟨k, n, up⟩ : S33)] ++ (flat a (l.length + 1) l.length).map back) (by omega)
          rw [e2] at h5
          refine ⟨fun h => ?_, fun h => h5.2 (by omega)⟩
          rw [h5.1 (by omega)]
          show _ = l ++ (⟨k, n, up⟩ :: (flat a (l.length + 1) l.length ++ flat b (l.length + 1 + a.size) l.length)).map back
          simp [back]
        · rw [if_neg h4]
          exact ⟨fun h => by omega, fun h => by omega⟩
      · have h6 := h2.2 (by omega)
        dsimp only
        rw [if_neg (by omega)]
        exact ⟨fun h => by omega, fun h => h6⟩
    · rw [if_neg h1]
      dsimp only
      rw [if_neg (by omega)]
      exact ⟨fun h => by omega, fun h => by omega⟩

theorem fl_impl : ∀ (t : Tr) (up : Int) (l : List S33), Nodes42.flT (toS t) up l = l ++ (flat t l.length up).map back := by
  intro t
  induction t with
  | leaf k n => intro up l; rw [Nodes42.flT_eq]; show Nodes42.flL [] _ _ = _; rw [Nodes42.flL_nil]; rfl
  | un k n a ih =>
    intro up l
    rw [Nodes42.flT_eq]; show Nodes42.flL [toS a] _ _ = _
    rw [Nodes42.flL_cons, Nodes42.flL_nil, ih]
    show _ = l ++ (⟨k, n, up⟩ :: flat a (l.length + 1) l.length).map back
    simp [back, toS]
  | bin k n a b iha ihb =>
    intro up l
    rw [Nodes42.flT_eq]; show Nodes42.flL [toS a, toS b] _ _ = _
    rw [Nodes42.flL_cons, Nodes42.flL_cons, Nodes42.flL_nil, iha, ihb]
    show _ = l ++ (⟨k, n, up⟩ :: (flat a (l.length + 1) l.length ++ flat b (l.length + 1 + a.size) l.length)).map back
    simp [back, toS, flat_len, show l.length + 1 + a.size = l.length + (a.size + 1) by omega]
theorem sz_impl : ∀ (t : Tr), Nodes42.szT (toS t) = t.size := by
  intro t
  induction t with
  | leaf k n => rw [Nodes42.szT_eq]; show 1 + Nodes42.szL [] = 1; rw [Nodes42.szL]
  | un k n a ih => rw [Nodes42.szT_eq]; show 1 + Nodes42.szL [toS a] = 1 + a.size; rw [Nodes42.szL_cons, Nodes42.szL, ih]; omega
  | bin k n a b iha ihb => rw [Nodes42.szT_eq]; show 1 + Nodes42.szL [toS a, toS b] = 1 + a.size + b.size; rw [Nodes42.szL_cons, Nodes42.szL_cons, Nodes42.szL, iha, ihb]; omega

def Good (t : Tr) : Prop := t.size ≤ 200 ∧ t.depth ≤ 60 ∧ t.all numOk

theorem isGood_ev (t : Tr) (hs : t.size ≤ 4000) : ∃ b, Ev (fun k => impl_comb_isGood.f k (toS t).f0 (toS t).f1 (toS t).f2) b ∧ (b = true ↔ Good t) := by
  obtain ⟨b, hb, hbi⟩ := measure_ev t hs
  unfold impl_comb_isGood.f Good
  by_cases h3 : b = true
  case neg => exact ⟨false, Ev.bind hb (Ev.ite_neg h3 (Ev.now _)), fun h => absurd h (by simp), fun h => absurd (hbi.mpr h.2.2) h3⟩
  by_cases h4 : t.size ≤ 200
  case neg => exact ⟨false, Ev.bind hb (Ev.ite_pos h3 (Ev.ite_neg (by omega) (Ev.now _))), fun h => absurd h (by simp), fun h => absurd h.1 h4⟩
  refine ⟨decide (t.depth ≤ 60), Ev.bind hb (Ev.ite_pos h3 (Ev.ite_pos (by omega) (Ev.of_eq (Ev.now _) ?_))), ?_⟩
  · exact decide_eq_decide.mpr (by show ((t.depth : Int) ≤ 60) ↔ _; omega)
  · rw [decide_eq_true_iff]
    exact ⟨fun h => ⟨h4, h, hbi.mp h3⟩, fun h => h.2.1⟩

theorem tells_iff (t : Tr) (hw : t.wf ar) (hs : t.size ≤ 200) : (∃ t', Tells (tnodes t) t') ↔ Good t := by
  have hp := flat_par t hw
  have hm : (tnodes t).map nd = flat t 0 (-1) := nd_back _
  have hl := tnodes_len t
  constructor
  · rintro ⟨t', h1, h2, h3, h4, h5⟩
    rw [hm, hl, ← flat_len t 0 (-1)] at h3
    obtain ⟨rfl, _⟩ := hp.unique h3
    exact ⟨hs, h5, h4⟩
  · rintro ⟨_, h2, h3⟩
    refine ⟨t, ?_, by omega, ?_, h3, h2⟩
    · rw [hl]; exact t.size_pos
    · rw [hm, hl, ← flat_len t 0 (-1)]; exact hp

theorem toldBoth (t : Tr) (hw : t.wf ar) (hs : t.size ≤ 4000) : ∃ (o : List S33) (b : Bool), o.length ≤ 200 ∧ Ev (fun k => spec_ldTold.f k (toL t).f0 (toL t).f1 (toL t).f2) (o, b) ∧ Ev (fun k => impl_comb_goodNodes.f k (toS t).f0 (toS t).f1 (toS t).f2) (o, b) ∧ (b = true ↔ Good t) ∧ (b = true → o = tnodes t) ∧ (b = false → o = []) := by
  obtain ⟨bi, hbi, hg⟩ := isGood_ev t hs
  have hfs := fl_spec t (-1) [] (by simp)
  have e0 : (([] : List S33).length + t.size) = t.size := by simp
  rw [e0] at hfs
  have hsg : ∃ b, Ev (fun k => spec_GoodComb.f k (Flat49.flT (toL t) (-1) [])) b ∧ (b = true ↔ Good t) ∧ (b = true → Flat49.flT (toL t) (-1) [] = tnodes t) := by
    by_cases h : t.size ≤ 201
    · have e : Flat49.flT (toL t) (-1) [] = tnodes t := by rw [hfs.1 h]; rfl
      rw [e]
      obtain ⟨b, hb, hbg⟩ := specGood (tnodes t) (by rw [tnodes_len]; omega)
      refine ⟨b, hb, ?_, fun _ => rfl⟩
      by_cases h2 : t.size ≤ 200
      · rw [hbg, tells_iff t hw h2]
      · rw [hbg]
        constructor
        · rintro ⟨t', _, h3, _⟩; rw [tnodes_len] at h3; omega
        · intro h3; exact absurd h3.1 h2
    · have h1 := hfs.2 (by omega)
      have h2 := Flat49.flT_len (toL t) (-1) [] (by simp)
      obtain ⟨b, hb, hbg⟩ := specGood (Flat49.flT (toL t) (-1) []) (by omega)
      have hf : ¬ b = true := by rw [hbg]; rintro ⟨t', _, h3, _⟩; omega
      exact ⟨b, hb, ⟨fun h3 => absurd h3 hf, fun h3 => absurd h3.1 (by omega)⟩, fun h3 => absurd h3 hf⟩
  obtain ⟨bs, hbs, hgs, hes⟩ := hsg
  obtain rfl : bs = bi := by rw [Bool.eq_iff_iff, hgs, hg]
  unfold spec_ldTold.f impl_comb_goodNodes.f
  rw [toL_eta, toS_eta]
  by_cases h : bs = true
  · have hgood := hgs.mp h
    refine ⟨tnodes t, true, by rw [tnodes_len]; exact hgood.1, Ev.bind hbs (Ev.ite_pos h (Ev.of_eq (Ev.now _) (by rw [hes h]))), Ev.bind hbi (Ev.ite_pos h (Ev.ite_pos (by rw [sz_impl]; omega) (Ev.of_eq (Ev.now _) (by rw [fl_impl]; rfl)))), by simp [hgood], fun _ => rfl, fun h => absurd h (by simp)⟩
  · refine ⟨[], false, by simp, Ev.bind hbs (Ev.ite_neg h (Ev.now _)), Ev.bind hbi (Ev.ite_neg h (Ev.now _)), ?_, fun h => absurd h (by simp), fun _ => rfl⟩
    constructor
    · intro h2; exact absurd h2 (by simp)
    · intro h2; exact absurd (hgs.mpr h2) h


def hasV (x : Int) : Tr → Bool
  | .leaf k n => decide (k = 1) && decide (n = x)
  | .un _ _ a => hasV x a
  | .bin _ _ a b => hasV x a || hasV x b
def app (a b : Tr) : Tr := .bin 2 0 a b
def isV (x : Int) (t : Tr) : Bool := decide (t.kind = 1) && decide (t.num = x)
def absT (x : Int) : Tr → Tr
  | .leaf k n => if hasV x (.leaf k n) = true then .leaf 5 0 else app (.leaf 4 0) (.leaf k n)
  | .un k n a => .un k n a
  | .bin k n a b => if hasV x (.bin k n a b) = true then (if (isV x b && !hasV x a) = true then a else app (app (.leaf 3 0) (absT x a)) (absT x b)) else app (.leaf 4 0) (.bin k n a b)

theorem leaf_wf {k n : Int} (h1 : 1 ≤ k ∧ k ≤ 5) (h2 : k ≠ 2) : (Tr.leaf k n).wf ar := ⟨h1, by show (if k = 2 then 2 else 0) = 0; rw [if_neg h2]⟩
theorem app_wf {a b : Tr} (ha : a.wf ar) (hb : b.wf ar) : (app a b).wf ar := ⟨⟨by decide, rfl⟩, ha, hb⟩
theorem absT_wf (x : Int) : ∀ (t : Tr), t.wf ar → (absT x t).wf ar
  | .leaf k n, h => by
    rw [absT]; split
    · exact leaf_wf (by decide) (by decide)
    · exact app_wf (leaf_wf (by decide) (by decide)) h
  | .un k n a, h => h
  | .bin k n a b, h => by
    rw [absT]; split
    · split
      · exact h.2.1
      · exact app_wf (app_wf (leaf_wf (by decide) (by decide)) (absT_wf x a h.2.1)) (absT_wf x b h.2.2)
    · exact app_wf (leaf_wf (by decide) (by decide)) h
theorem absT_size (x : Int) : ∀ (t : Tr), (absT x t).size ≤ 3 * t.size
  | .leaf k n => by
    rw [absT]; split
    · show 1 ≤ 3 * 1; omega
    · show 1 + 1 + 1 ≤ 3 * 1; omega
  | .un k n a => by show (Tr.un k n a).size ≤ 3 * (Tr.un k n a).size; omega
  | .bin k n a b => by
    have h1 := absT_size x a
    have h2 := absT_size x b
    have hp := a.size_pos
    have hq := b.size_pos
    have hs : (Tr.bin k n a b).size = 1 + a.size + b.size := rfl
    rw [absT]; split
    · split
      · omega
      · show 1 + (1 + 1 + (absT x a).size) + (absT x b).size ≤ _; omega
    · show 1 + 1 + (Tr.bin k n a b).size ≤ _; omega

theorem kind_S (t : Tr) : (toS t).f0 = t.kind ∧ (toS t).f1 = t.num := by cases t <;> exact ⟨rfl, rfl⟩
theorem kind_L (t : Tr) : (toL t).f0 = t.kind ∧ (toL t).f1 = t.num := by cases t <;> exact ⟨rfl, rfl⟩
theorem not_un {k n : Int} {a : Tr} (h : (Tr.un k n a).wf ar) : False := want_one h.1.2

theorem has_impl (x : Int) : ∀ (t : Tr), t.wf ar → Has42.hasT x (toS t) = hasV x t
  | .leaf k n, h => by rw [Has42.hasT_eq]; show (decide (k = 1) && decide (n = x) || Has42.hasL x []) = _; rw [Has42.hasL_any]; simp [hasV]
  | .un k n a, h => (not_un h).elim
  | .bin k n a b, h => by
    have hk : k = 2 := want_of h.1.2
    rw [Has42.hasT_eq]
    show (decide (k = 1) && decide (n = x) || Has42.hasL x [toS a, toS b]) = (hasV x a || hasV x b)
    rw [Has42.hasL_any, hk]
    simp [has_impl x a h.2.1, has_impl x b h.2.2]
theorem has_impl_ev (x : Int) (t : Tr) (h : t.wf ar) : Ev (fun k => impl_comb_has.f k (toS t).f0 (toS t).f1 (toS t).f2 x) (hasV x t) := by
  refine Ev.of_eq (Ev.now _) ?_
  rw [← Has42.hasT_eq, has_impl x t h]

theorem has_spec_ev (x : Int) : ∀ (t : Tr), t.wf ar → Ev (fun k => spec_ldHas.f k (toL t).f0 (toL t).f1 (toL t).f2 x) (hasV x t)
  | .leaf k n, h => by
    by_cases hk : k = 1
    · refine Ev.step (f := fun _ => some (n == x)) (fun m => ?_) (Ev.of_eq (Ev.now _) ?_)
      · show spec_ldHas.f (m + 1) k n [] x = _
        simp only [spec_ldHas.f]; rw [if_pos hk]
      · rw [hasV, decide_eq_true hk, Bool.true_and]; rfl
    · refine Ev.step (f := fun m => spec_ldHas.l0 m x [] 0 0) (fun m => ?_) (Ev.step (f := fun _ => some false) (fun m => ?_) (Ev.of_eq (Ev.now _) ?_))
      · show spec_ldHas.f (m + 1) k n [] x = _
        simp only [spec_ldHas.f]; rw [if_neg hk]; rfl
      · simp only [spec_ldHas.l0]; rw [if_neg (by decide)]
      · rw [hasV, decide_eq_false hk, Bool.false_and]
  | .un k n a, h => (not_un h).elim
  | .bin k n a b, h => by
    have hk : k = 2 := want_of h.1.2
    have ia := has_spec_ev x a h.2.1
    have ib := has_spec_ev x b h.2.2
    refine Ev.step (f := fun m => spec_ldHas.l0 m x [toL a, toL b] 2 0) (fun m => ?_) ?_
    · show spec_ldHas.f (m + 1) k n [toL a, toL b] x = _
      simp only [spec_ldHas.f]; rw [if_neg (by omega)]; rfl
    refine Ev.step (f := fun m => (spec_ldHas.f m (toL a).f0 (toL a).f1 (toL a).f2 x).bind fun t104 => (if t104 = true then (some true) else (spec_ldHas.l0 m x [toL a, toL b] 2 1))) (fun m => ?_) (Ev.bind ia ?_)
    · simp only [spec_ldHas.l0]; rw [if_pos (by decide), if_pos (by decide), if_pos (by simp), show wrap64 ((0 : Int) + 1) = 1 from w64 (by decide) (by decide)]; rfl
    by_cases ha : hasV x a = true
    · refine Ev.ite_pos ha (Ev.of_eq (Ev.now _) ?_)
      rw [hasV, ha, Bool.true_or]
    refine Ev.ite_neg ha ?_
    rw [hasV, Bool.eq_false_iff.mpr ha, Bool.false_or]
    refine Ev.step (f := fun m => (spec_ldHas.f m (toL b).f0 (toL b).f1 (toL b).f2 x).bind fun t104 => (if t104 = true then (some true) else (spec_ldHas.l0 m x [toL a, toL b] 2 2))) (fun m => ?_) (Ev.bind ib ?_)
    · simp only [spec_ldHas.l0]; rw [if_pos (by decide), if_pos (by decide), if_pos (by simp), show wrap64 ((1 : Int) + 1) = 2 from w64 (by decide) (by decide)]; rfl
    by_cases hb : hasV x b = true
    · rw [hb]; exact Ev.ite_pos rfl (Ev.now _)
    · rw [Bool.eq_false_iff.mpr hb]
      refine Ev.ite_neg (by simp) (Ev.step (f := fun _ => some false) (fun m => ?_) (Ev.now _))
      simp only [spec_ldHas.l0]; rw [if_neg (by decide)]

def lastSpec (m : Nat) (x : Int) (a b : Tr) : Option (Int × Int × List S49) := (spec_ldAbstract.f m (toL a).f0 (toL a).f1 (toL a).f2 x).bind fun bt120 => ((spec_ldAbstract.f m (toL b).f0 (toL b).f1 (toL b).f2 x).bind fun bt130 => some (2, 0, [(⟨2, 0, [⟨3, 0, []⟩, ⟨bt120.1, bt120.2.1, bt120.2.2⟩]⟩ : S49), ⟨bt130.1, bt130.2.1, bt130.2.2⟩]))
theorem stop_spec (x : Int) (a b : Tr) : Ev (fun m => spec_ldAbstract.j0 m x true (toL a).f0 (toL a).f1 (toL a).f2 (toL b).f0 (toL b).f1 (toL b).f2) ((toL a).f0, (toL a).f1, (toL a).f2) := Ev.step (f := fun _ => some ((toL a).f0, (toL a).f1, (toL a).f2)) (fun m => rfl) (Ev.now _)
theorem more_spec (x : Int) (a b : Tr) {r : Int × Int × List S49} (h : Ev (fun m => lastSpec m x a b) r) : Ev (fun m => spec_ldAbstract.j0 m x false (toL a).f0 (toL a).f1 (toL a).f2 (toL b).f0 (toL b).f1 (toL b).f2) r := Ev.step (fun m => rfl) h
theorem abs_spec_ev (x : Int) : ∀ (t : Tr), t.wf ar → Ev (fun k => spec_ldAbstract.f k (toL t).f0 (toL t).f1 (toL t).f2 x) ((toL (absT x t)).f0, (toL (absT x t)).f1, (toL (absT x t)).f2)
  | .leaf k n, h => by
    have hh := has_spec_ev x (.leaf k n) h
    rw [absT]
    by_cases hv : hasV x (.leaf k n) = true
    · rw [if_pos hv]
      rw [hv] at hh
      have hk : k = 1 := by
        have h2 := hv
        rw [hasV, Bool.and_eq_true] at h2
        exact of_decide_eq_true h2.1
      refine Ev.step (f := fun m => (spec_ldHas.f m k n [] x).bind fun t103 => (if t103 = true then (if k = 1 then some (5, 0, ([] : List S49)) else none) else some (2, 0, [(⟨4, 0, []⟩ : S49), ⟨k, n, []⟩]))) (fun m => ?_) (Ev.bind hh (Ev.ite_pos rfl (Ev.ite_pos hk (Ev.now _))))
      rfl
    · rw [if_neg hv]
      rw [Bool.eq_false_iff.mpr hv] at hh
      refine Ev.step (f := fun m => (spec_ldHas.f m k n [] x).bind fun t103 => (if t103 = true then (if k = 1 then some (5, 0, ([] : List S49)) else none) else some (2, 0, [(⟨4, 0, []⟩ : S49), ⟨k, n, []⟩]))) (fun m => ?_) (Ev.bind hh (Ev.ite_neg (by simp) (Ev.now _)))
      rfl
  | .un k n a, h => (not_un h).elim
  | .bin k n a b, h => by
    have hk : k = 2 := want_of h.1.2
    have hh := has_spec_ev x (.bin k n a b) h
    have ha := has_spec_ev x a h.2.1
    have ia := abs_spec_ev x a h.2.1
    have ib := abs_spec_ev x b h.2.2
    have kb := kind_L b
    rw [absT]
    by_cases hv : hasV x (.bin k n a b) = true
    case neg =>
      rw [if_neg hv]
      rw [Bool.eq_false_iff.mpr hv] at hh
      refine Ev.step (f := fun m => (spec_ldHas.f m k n [toL a, toL b] x).bind fun t103 => (if t103 = true then (if k = 1 then some (5, 0, ([] : List S49)) else ((spec_ldIs.f (toL b).f0 (toL b).f1 (toL b).f2 x).bind fun t113 => (if t113 = true then ((spec_ldHas.f m (toL a).f0 (toL a).f1 (toL a).f2 x).bind fun t114 => (spec_ldAbstract.j0 m x (!t114) (toL a).f0 (toL a).f1 (toL a).f2 (toL b).f0 (toL b).f1 (toL b).f2)) else (spec_ldAbstract.j0 m x false (toL a).f0 (toL a).f1 (toL a).f2 (toL b).f0 (toL b).f1 (toL b).f2)))) else some (2, 0, [(⟨4, 0, []⟩ : S49), ⟨k, n, [toL a, toL b]⟩]))) (fun m => ?_) (Ev.bind hh (Ev.ite_neg (by simp) (Ev.now _)))
      rfl
    rw [if_pos hv]
    rw [hv] at hh
    have last : Ev (fun m => lastSpec m x a b) ((toL (app (app (.leaf 3 0) (absT x a)) (absT x b))).f0, (toL (app (app (.leaf 3 0) (absT x a)) (absT x b))).f1, (toL (app (app (.leaf 3 0) (absT x a)) (absT x b))).f2) := by
      unfold lastSpec
      refine Ev.bind ia (Ev.bind ib (Ev.of_eq (Ev.now _) ?_))
      dsimp only
      rw [toL_eta, toL_eta]; rfl
    have hi : spec_ldIs.f (toL b).f0 (toL b).f1 (toL b).f2 x = some (isV x b) := by
      unfold spec_ldIs.f isV
      rw [kb.1, kb.2]
      by_cases hb : b.kind = 1
      · rw [if_pos hb, decide_eq_true hb, Bool.true_and]; rfl
      · rw [if_neg hb, decide_eq_false hb, Bool.false_and]
    refine Ev.step (f := fun m => (spec_ldHas.f m k n [toL a, toL b] x).bind fun t103 => (if t103 = true then (if k = 1 then some (5, 0, ([] : List S49)) else ((spec_ldIs.f (toL b).f0 (toL b).f1 (toL b).f2 x).bind fun t113 => (if t113 = true then ((spec_ldHas.f m (toL a).f0 (toL a).f1 (toL a).f2 x).bind fun t114 => (spec_ldAbstract.j0 m x (!t114) (toL a).f0 (toL a).f1 (toL a).f2 (toL b).f0 (toL b).f1 (toL b).f2)) else (spec_ldAbstract.j0 m x false (toL a).f0 (toL a).f1 (toL a).f2 (toL b).f0 (toL b).f1 (toL b).f2)))) else some (2, 0, [(⟨4, 0, []⟩ : S49), ⟨k, n, [toL a, toL b]⟩]))) (fun m => ?_) (Ev.bind hh (Ev.ite_pos rfl (Ev.ite_neg (by omega) ?_)))
    · rfl
    rw [hi]
    refine Ev.bind (Ev.const rfl) ?_
    by_cases hb : isV x b = true
    · refine Ev.ite_pos hb (Ev.bind ha ?_)
      by_cases hxa : hasV x a = true
      · rw [hb, hxa]
        exact more_spec x a b last
      · rw [hb, Bool.eq_false_iff.mpr hxa]
        exact stop_spec x a b
    · refine Ev.ite_neg hb ?_
      rw [Bool.eq_false_iff.mpr hb, Bool.false_and, if_neg (by simp)]
      exact more_spec x a b last

def lastImpl (m : Nat) (x : Int) (a b : Tr) : Option (Int × Int × List S42) := (impl_comb_abstract.f m (toS a).f0 (toS a).f1 (toS a).f2 x).bind fun bt120 => ((impl_comb_abstract.f m (toS b).f0 (toS b).f1 (toS b).f2 x).bind fun bt130 => some (2, 0, [(⟨2, 0, [⟨3, 0, []⟩, ⟨bt120.1, bt120.2.1, bt120.2.2⟩]⟩ : S42), ⟨bt130.1, bt130.2.1, bt130.2.2⟩]))
theorem stop_impl (x : Int) (a b : Tr) : Ev (fun m => impl_comb_abstract.j0 m x true (toS a).f0 (toS a).f1 (toS a).f2 (toS b).f0 (toS b).f1 (toS b).f2) ((toS a).f0, (toS a).f1, (toS a).f2) := Ev.step (f := fun _ => some ((toS a).f0, (toS a).f1, (toS a).f2)) (fun m => rfl) (Ev.now _)
theorem more_impl (x : Int) (a b : Tr) {r : Int × Int × List S42} (h : Ev (fun m => lastImpl m x a b) r) : Ev (fun m => impl_comb_abstract.j0 m x false (toS a).f0 (toS a).f1 (toS a).f2 (toS b).f0 (toS b).f1 (toS b).f2) r := Ev.step (fun m => rfl) h
theorem abs_impl_ev (x : Int) : ∀ (t : Tr), t.wf ar → Ev (fun k => impl_comb_abstract.f k (toS t).f0 (toS t).f1 (toS t).f2 x) ((toS (absT x t)).f0, (toS (absT x t)).f1, (toS (absT x t)).f2)
  | .leaf k n, h => by
    have hh := has_impl_ev x (.leaf k n) h
    rw [absT]
    by_cases hv : hasV x (.leaf k n) = true
    · rw [if_pos hv]
      rw [hv] at hh
      have hk : k = 1 := by
        have h2 := hv
        rw [hasV, Bool.and_eq_true] at h2
        exact of_decide_eq_true h2.1
      refine Ev.step (f := fun m => (impl_comb_has.f m k n [] x).bind fun t103 => (if t103 = true then (if k = 1 then some (5, 0, ([] : List S42)) else none) else some (2, 0, [(⟨4, 0, []⟩ : S42), ⟨k, n, []⟩]))) (fun m => ?_) (Ev.bind hh (Ev.ite_pos rfl (Ev.ite_pos hk (Ev.now _))))
      rfl
    · rw [if_neg hv]
      rw [Bool.eq_false_iff.mpr hv] at hh
      refine Ev.step (f := fun m => (impl_comb_has.f m k n [] x).bind fun t103 => (if t103 = true then (if k = 1 then some (5, 0, ([] : List S42)) else none) else some (2, 0, [(⟨4, 0, []⟩ : S42), ⟨k, n, []⟩]))) (fun m => ?_) (Ev.bind hh (Ev.ite_neg (by simp) (Ev.now _)))
      rfl
  | .un k n a, h => (not_un h).elim
  | .bin k n a b, h => by
    have hk : k = 2 := want_of h.1.2
    have hh := has_impl_ev x (.bin k n a b) h
    have ha := has_impl_ev x a h.2.1
    have ia := abs_impl_ev x a h.2.1
    have ib := abs_impl_ev x b h.2.2
    have kb := kind_S b
    rw [absT]
    by_cases hv : hasV x (.bin k n a b) = true
    case neg =>
      rw [if_neg hv]
      rw [Bool.eq_false_iff.mpr hv] at hh
      refine Ev.step (f := fun m => (impl_comb_has.f m k n [toS a, toS b] x).bind fun t103 => (if t103 = true then (if k = 1 then some (5, 0, ([] : List S42)) else (if (toS b).f0 = 1 then (if (toS b).f1 = x then ((impl_comb_has.f m (toS a).f0 (toS a).f1 (toS a).f2 x).bind fun t114 => (impl_comb_abstract.j0 m x (!t114) (toS a).f0 (toS a).f1 (toS a).f2 (toS b).f0 (toS b).f1 (toS b).f2)) else (impl_comb_abstract.j0 m x false (toS a).f0 (toS a).f1 (toS a).f2 (toS b).f0 (toS b).f1 (toS b).f2)) else (impl_comb_abstract.j0 m x false (toS a).f0 (toS a).f1 (toS a).f2 (toS b).f0 (toS b).f1 (toS b).f2))) else some (2, 0, [(⟨4, 0, []⟩ : S42), ⟨k, n, [toS a, toS b]⟩]))) (fun m => ?_) (Ev.bind hh (Ev.ite_neg (by simp) (Ev.now _)))
      rfl
    rw [if_pos hv]
    rw [hv] at hh
    have last : Ev (fun m => lastImpl m x a b) ((toS (app (app (.leaf 3 0) (absT x a)) (absT x b))).f0, (toS (app (app (.leaf 3 0) (absT x a)) (absT x b))).f1, (toS (app (app (.leaf 3 0) (absT x a)) (absT x b))).f2) := by
      unfold lastImpl
      refine Ev.bind ia (Ev.bind ib (Ev.of_eq (Ev.now _) ?_))
      dsimp only
      rw [toS_eta, toS_eta]; rfl
    refine Ev.step (f := fun m => (impl_comb_has.f m k n [toS a, toS b] x).bind fun t103 => (if t103 = true then (if k = 1 then some (5, 0, ([] : List S42)) else (if (toS b).f0 = 1 then (if (toS b).f1 = x then ((impl_comb_has.f m (toS a).f0 (toS a).f1 (toS a).f2 x).bind fun t114 => (impl_comb_abstract.j0 m x (!t114) (toS a).f0 (toS a).f1 (toS a).f2 (toS b).f0 (toS b).f1 (toS b).f2)) else (impl_comb_abstract.j0 m x false (toS a).f0 (toS a).f1 (toS a).f2 (toS b).f0 (toS b).f1 (toS b).f2)) else (impl_comb_abstract.j0 m x false (toS a).f0 (toS a).f1 (toS a).f2 (toS b).f0 (toS b).f1 (toS b).f2))) else some (2, 0, [(⟨4, 0, []⟩ : S42), ⟨k, n, [toS a, toS b]⟩]))) (fun m => ?_) (Ev.bind hh (Ev.ite_pos rfl (Ev.ite_neg (by omega) ?_)))
    · rfl
    by_cases hb : (toS b).f0 = 1
    · refine Ev.ite_pos hb ?_
      by_cases hn : (toS b).f1 = x
      · have hi : isV x b = true := by unfold isV; rw [← kb.1, ← kb.2, decide_eq_true hb, decide_eq_true hn]; rfl
        refine Ev.ite_pos hn (Ev.bind ha ?_)
        by_cases hxa : hasV x a = true
        · rw [hi, hxa]
          exact more_impl x a b last
        · rw [hi, Bool.eq_false_iff.mpr hxa]
          exact stop_impl x a b
      · have hi : isV x b = false := by unfold isV; rw [← kb.2, decide_eq_false hn, Bool.and_false]
        refine Ev.ite_neg hn ?_
        rw [hi, Bool.false_and, if_neg (by simp)]
        exact more_impl x a b last
    · have hi : isV x b = false := by unfold isV; rw [← kb.1, decide_eq_false hb, Bool.false_and]
      refine Ev.ite_neg hb ?_
      rw [hi, Bool.false_and, if_neg (by simp)]
      exact more_impl x a b last

end Go.Proofs.Ytmcmclcebnepgaa.CombL

namespace Go.Proofs.Ytmcmclcebnepgaa.TermL
open Go.RowKit Go.Proofs.Ytmcmclcebnepgaa.G Go.Proofs.Ytmcmclcebnepgaa.EvL Go.Proofs.Ytmcmclcebnepgaa.TreeM Go.Proofs.YtmcmclcebnepgaaW.PrintWords Go.Proofs.YtmcmclcebnepgaaW.PrintLast
set_option linter.unusedVariables false

def nd (c : S70) : Nd := ⟨c.f0, c.f1, c.f2⟩
theorem rdC (l : List S70) (i : Nat) : rd_T70 l (i : Int) = l.getD i z70 := by unfold rd_T70; rw [Int.toNat_natCast]
theorem next (i : Nat) {n : Nat} (h : i < n) (hn : n ≤ 9223372036854775807) : wrap64 ((i : Int) + 1) = ((i + 1 : Nat) : Int) := by rw [w64 (by omega) (by omega)]; omega
theorem getD_nd (l : List S70) (i : Nat) : (l.map nd).getD i z = nd (l.getD i z70) := by
  rw [List.getD_eq_getElem?_getD, List.getD_eq_getElem?_getD, List.getElem?_map]
  cases l[i]? <;> rfl
theorem up_nd (l : List S70) (i : Nat) : (l.getD i z70).f2 = TreeM.up (l.map nd) i := by unfold TreeM.up; rw [getD_nd]; rfl

theorem l1In_eq (a b c : Int) : spec_l1In.f a b c = some (decide (b ≤ a ∧ a ≤ c)) := by
  unfold spec_l1In.f
  by_cases h : a ≥ b
  · rw [if_pos h]; congr 1; exact decide_eq_decide.mpr (by omega)
  · rw [if_neg h, decide_eq_false (by omega)]

def ar : Arity := ⟨3, fun k => if k = 2 then 1 else if k = 3 then 2 else 0⟩
theorem ar2 (k : Int) : ar.want k ≤ 2 := by show (if k = 2 then 1 else if k = 3 then 2 else 0) ≤ 2; split <;> (try split) <;> omega
structure NodeOk (L : List Nd) (m : Nat) : Prop where
  top : m = 0 ↔ up L m = -1
  ahead : -1 ≤ up L m ∧ up L m < (m : Int)
  kind : 1 ≤ (L.getD m z).kind ∧ (L.getD m z).kind ≤ 3
  num : 0 ≤ (L.getD m z).n ∧ (L.getD m z).n ≤ 99 ∧ ((L.getD m z).kind = 1 ∨ (L.getD m z).n = 0)
  around : m = 0 ∨ ∃ x ∈ chain L (m - 1), (x : Int) = up L m
  deep : (chain L m).length ≤ 40
  wants : cnt L m (m + 1) (L.length - (m + 1)) = ar.want (L.getD m z).kind

theorem parts (l : List S70) (i : Nat) (hl : l.length ≤ 200) : ∀ (d a : Nat) (acc : List Int), a + d = l.length → acc.length + d ≤ 200 → ∃ r, Ev (fun k => spec_lcParts.l0 k l i acc a) r ∧ r.length = acc.length + cnt (l.map nd) i a d := by
  intro d
  induction d with
  | zero =>
    intro a acc ha _
    refine ⟨acc, Ev.step (f := fun _ => some acc) (fun k => ?_) (Ev.now _), rfl⟩
    simp only [spec_lcParts.l0]
    rw [if_neg (by omega)]
  | succ d ih =>
    intro a acc ha hacc
    by_cases h : up (l.map nd) a = (i : Int)
    · obtain ⟨r, hr, hn⟩ := ih (a + 1) (acc ++ [(a : Int)]) (by omega) (by simp; omega)
      refine ⟨r, Ev.step (fun k => ?_) hr, ?_⟩
      · simp only [spec_lcParts.l0]
        rw [if_pos (by omega), if_pos (by omega), rdC, up_nd, if_pos h, if_pos (by omega), next a (n := l.length) (by omega) (by omega)]
      · rw [hn, List.length_append]
        show acc.length + 1 + _ = acc.length + ((if up (l.map nd) a = (i : Int) then 1 else 0) + _)
        rw [if_pos h]; omega
    · obtain ⟨r, hr, hn⟩ := ih (a + 1) acc (by omega) (by omega)
      refine ⟨r, Ev.step (fun k => ?_) hr, ?_⟩
      · simp only [spec_lcParts.l0]
        rw [if_pos (by omega), if_pos (by omega), rdC, up_nd, if_neg h, next a (n := l.length) (by omega) (by omega)]
      · rw [hn]
        show _ = acc.length + ((if up (l.map nd) a = (i : Int) then 1 else 0) + _)
        rw [if_neg h]; omega

theorem lcParts (l : List S70) (i : Nat) (hi : i < l.length) (hl : l.length ≤ 200) : ∃ r, Ev (fun k => spec_lcParts.f k l i) r ∧ r.length = cnt (l.map nd) i (i + 1) (l.length - (i + 1)) := by
  obtain ⟨r, hr, hn⟩ := parts l i hl (l.length - (i + 1)) (i + 1) [] (by omega) (by simp; omega)
  refine ⟨r, ?_, by rw [hn]; simp⟩
  unfold spec_lcParts.f
  rw [next i hi (by omega)]
  exact hr

theorem deepLoop (l : List S70) (hl : l.length ≤ 200) (i : Nat) (hi : i < l.length) (b : Bool) (kd n u : Int) (h : ∀ m, m ≤ i → -1 ≤ up (l.map nd) m ∧ up (l.map nd) m < (m : Int)) {r : Bool} :
    ∀ (j d : Nat), j ≤ i → d + j ≤ 400 → Ev (fun k => spec_GoodTerm.l2 k l i b ((d + (chain (l.map nd) j).length : Nat) : Int) (-1) l l.length i kd n u) r → Ev (fun k => spec_GoodTerm.l2 k l i b (d : Int) (j : Int) l l.length i kd n u) r := by
  intro j
  induction j using Nat.strongRecOn with
  | _ j ih =>
    intro d hj hd hE
    refine Ev.step (f := fun k => spec_GoodTerm.l2 k l i b ((d + 1 : Nat) : Int) (up (l.map nd) j) l l.length i kd n u) (fun k => ?_) ?_
    · show (if (j : Int) ≥ 0 then _ else _) = _
      rw [if_pos (by omega), if_pos (by omega), if_pos (by omega), rdC, up_nd, w64 (by omega) (by omega)]
      rfl
    · have hu := h j hj
      by_cases hu0 : 0 ≤ up (l.map nd) j
      · rw [show up (l.map nd) j = (((up (l.map nd) j).toNat : Nat) : Int) by omega]
        refine ih _ (by omega) (d + 1) (by omega) (by omega) ?_
        rw [chain_up ⟨hu0, hu.2⟩, List.length_cons] at hE
        rw [show d + 1 + (chain (l.map nd) (up (l.map nd) j).toNat).length = d + ((chain (l.map nd) (up (l.map nd) j).toNat).length + 1) by omega]
        exact hE
      · rw [chain_top (by omega)] at hE
        rw [show up (l.map nd) j = -1 by omega]
        exact hE

theorem aroundLoop (l : List S70) (hl : l.length ≤ 200) (i : Nat) (hi : i < l.length) (kd n u : Int) (h : ∀ m, m < i → -1 ≤ up (l.map nd) m ∧ up (l.map nd) m < (m : Int)) {r : Bool} {c : Bool} :
    ∀ (j : Nat), j < i → (c = true ↔ ∃ x ∈ chain (l.map nd) j, (x : Int) = u) → Ev (fun k => spec_GoodTerm.j3 k l i c l l.length i kd n u) r → Ev (fun k => spec_GoodTerm.l1 k l i false (j : Int) l l.length i kd n u) r := by
  intro j
  induction j using Nat.strongRecOn with
  | _ j ih =>
    intro hj hc hE
    have hu := h j hj
    refine Ev.step (f := fun k => spec_GoodTerm.l1 k l i ((j : Int) == u) (up (l.map nd) j) l l.length i kd n u) (fun k => ?_) ?_
    · show (if (j : Int) ≥ 0 then _ else _) = _
      rw [if_pos (by omega), if_neg (by simp), if_pos (by omega), if_pos (by omega), rdC, up_nd]
    · by_cases hju : (j : Int) = u
      · obtain rfl : c = true := hc.mpr ⟨j, chain_self _ _, hju⟩
        rw [show ((j : Int) == u) = true by simpa using hju]
        refine Ev.step (f := fun k => spec_GoodTerm.j3 k l i true l l.length i kd n u) (fun k => ?_) hE
        simp only [spec_GoodTerm.l1]
        simp
      · rw [show ((j : Int) == u) = false by simpa using hju]
        by_cases hu0 : 0 ≤ up (l.map nd) j
        · rw [show up (l.map nd) j = (((up (l.map nd) j).toNat : Nat) : Int) by omega]
          refine ih _ (by omega) (by omega) (hc.trans ?_) hE
          rw [chain_up ⟨hu0, hu.2⟩]
          simp [hju]
        · obtain rfl : c = false := by
            cases c with
            | false => rfl
            | true =>
              obtain ⟨x, hx, hxu⟩ := hc.mp rfl
              rw [chain_top (by omega)] at hx
              have : x = j := by simpa using hx
              subst this; exact absurd hxu hju
          refine Ev.step (f := fun k => spec_GoodTerm.j3 k l i false l l.length i kd n u) (fun k => ?_) hE
          simp only [spec_GoodTerm.l1]
          rw [if_neg (by omega)]

theorem badNode (l : List S70) (a b c kd n u : Int) : Ev (fun k => spec_GoodTerm.j1 k l a l b c true kd n u) false := by
  refine Ev.step (f := fun _ => some false) (fun k => ?_) (Ev.now _)
  simp only [spec_GoodTerm.j1]
  rfl

theorem specLoop (l : List S70) (hl : l.length ≤ 200) : ∀ (d i : Nat), i + d = l.length → (∀ m, m < i → -1 ≤ up (l.map nd) m ∧ up (l.map nd) m < (m : Int)) →
    ∃ b, Ev (fun k => spec_GoodTerm.l0 k l l l.length i) b ∧ (b = true ↔ ∀ m, i ≤ m → m < l.length → NodeOk (l.map nd) m) := by
  intro d
  induction d with
  | zero =>
    intro i hi _
    refine ⟨true, Ev.step (f := fun _ => some true) (fun k => ?_) (Ev.now _), ?_⟩
    · simp only [spec_GoodTerm.l0]
      rw [if_neg (by omega)]
    · exact ⟨fun _ m h1 h2 => by omega, fun _ => rfl⟩
  | succ d ih =>
    intro i hi hah
    have hil : i < l.length := by omega
    have eu : (l.getD i z70).f2 = TreeM.up (l.map nd) i := up_nd l i
    have ek : (l.getD i z70).f0 = ((l.map nd).getD i z).kind := by rw [getD_nd]; rfl
    have en : (l.getD i z70).f1 = ((l.map nd).getD i z).n := by rw [getD_nd]; rfl
    have hlen : (l.map nd).length = l.length := List.length_map ..
    -- a node that is not good
    have bad : ∀ {F : Nat → Option Bool}, ¬ NodeOk (l.map nd) i → Ev F false → ∃ b, Ev F b ∧ (b = true ↔ ∀ m, i ≤ m → m < l.length → NodeOk (l.map nd) m) :=
      fun hn hE => ⟨false, hE, fun h => absurd h (by simp), fun h => absurd (h i (Nat.le_refl _) hil) hn⟩
    generalize hu : up (l.map nd) i = u at *
    generalize hk : ((l.map nd).getD i z).kind = kd at *
    generalize hn : ((l.map nd).getD i z).n = n at *
    have st : ∀ k, spec_GoodTerm.l0 (k + 1) l l l.length i = (if ((((i : Int) == 0) != (u == (-1))) = true) then (spec_GoodTerm.j1 k l i l l.length i true kd n u) else (spec_GoodTerm.j1 k l i l l.length i (!decide (-1 ≤ u ∧ u ≤ (i : Int) - 1)) kd n u)) := by
      intro k
      simp only [spec_GoodTerm.l0]
      rw [if_pos (by omega), if_pos (by omega), if_pos (by omega), rdC, eu, ek, en, l1In_eq, w64 (by omega) (by omega)]
      simp only [Option.bind_some]
    have hT : ((((i : Int) == 0) != (u == (-1))) = true) ↔ ¬ (i = 0 ↔ u = -1) := by
      have e1 : ((i : Int) == 0) = decide (i = 0) := by rw [Bool.eq_iff_iff]; simp
      have e2 : (u == (-1)) = decide (u = -1) := by rw [Bool.eq_iff_iff]; simp
      rw [e1, e2]
      by_cases h1 : i = 0 <;> by_cases h2 : u = -1 <;> simp [h1, h2]
    by_cases h1 : i = 0 ↔ u = -1
    case neg =>
      exact bad (fun h => h1 (hu ▸ h.top)) (Ev.step (fun k => (st k).trans (if_pos (hT.mpr h1))) (badNode ..))
    have st := fun k => (st k).trans (if_neg (fun h => hT.mp h h1))
    by_cases h2 : -1 ≤ u ∧ u ≤ (i : Int) - 1
    case neg =>
      refine bad (fun h => h2 (by have := h.ahead; rw [hu] at this; omega)) (Ev.step (f := fun k => spec_GoodTerm.j1 k l i l l.length i true kd n u) (fun k => (st k).trans ?_) (badNode ..))
      rw [decide_eq_false h2]; rfl
    have st : ∀ k, spec_GoodTerm.l0 (k + 1) l l l.length i = spec_GoodTerm.j1 k l i l l.length i false kd n u := by
      intro k
      rw [st k, decide_eq_true h2]; rfl
    have hah' : ∀ m, m < i + 1 → -1 ≤ up (l.map nd) m ∧ up (l.map nd) m < (m : Int) := by
      intro m hm
      by_cases hmi : m = i
      · subst hmi; rw [hu]; omega
      · exact hah m (by omega)
    obtain ⟨b, hb, hbi⟩ := ih (i + 1) (by omega) hah'
    obtain ⟨ps, hps, hpn⟩ := lcParts l i hil hl
    -- the end
    obtain ⟨c, hc⟩ : ∃ c : Bool, c = true ↔ (i = 0 ∨ ∃ x ∈ chain (l.map nd) (i - 1), (x : Int) = u) := by
      by_cases h : (i = 0 ∨ ∃ x ∈ chain (l.map nd) (i - 1), (x : Int) = u)
      · exact ⟨true, by simp [h]⟩
      · exact ⟨false, by simp [h]⟩
    have go : ∀ {r : Bool}, Ev (fun k => spec_GoodTerm.l2 k l i c (((chain (l.map nd) i).length : Nat) : Int) (-1) l l.length i kd n u) r → Ev (fun k => spec_GoodTerm.l0 k l l l.length i) r := by
      intro r hE
      refine Ev.step st ?_
      refine Ev.step (f := fun k => spec_GoodTerm.l1 k l i ((i : Int) == 0) ((i : Int) - 1) l l.length i kd n u) (fun k => ?_) ?_
      · simp only [spec_GoodTerm.j1]
        rw [w64 (by omega) (by omega)]
        rfl
      · have hj3 : Ev (fun k => spec_GoodTerm.j3 k l i c l l.length i kd n u) r := by
          refine Ev.step (f := fun k => spec_GoodTerm.l2 k l i c ((0 : Nat) : Int) (i : Int) l l.length i kd n u) (fun k => rfl) ?_
          refine deepLoop l hl i hil c kd n u (fun m hm => hah' m (by omega)) i 0 (Nat.le_refl _) (by omega) ?_
          rw [Nat.zero_add]; exact hE
        by_cases hi0 : i = 0
        · obtain rfl : c = true := hc.mpr (.inl hi0)
          subst hi0
          refine Ev.step (f := fun k => spec_GoodTerm.j3 k l (0 : Nat) true l l.length (0 : Nat) kd n u) (fun k => ?_) hj3
          simp only [spec_GoodTerm.l1]
          rfl
        · rw [show ((i : Int) == 0) = false by simpa using hi0, show (i : Int) - 1 = ((i - 1 : Nat) : Int) by omega]
          refine aroundLoop l hl i hil kd n u hah (i - 1) (by omega) (hc.trans ?_) hj3
          simp [hi0]
    have fin : ∀ k, spec_GoodTerm.l2 (k + 1) l i c (((chain (l.map nd) i).length : Nat) : Int) (-1) l l.length i kd n u = (if 1 ≤ kd ∧ kd ≤ 3 then spec_GoodTerm.j5 k l i c (((chain (l.map nd) i).length : Nat) : Int) (ar.want kd) l l.length i kd n u else some false) := by
      intro k
      simp only [spec_GoodTerm.l2]
      rw [if_neg (by decide)]
      by_cases h1 : kd = 1
      · subst h1; rw [if_pos rfl, if_pos (by decide)]; rfl
      · rw [if_neg h1]
        by_cases h2 : kd = 2
        · subst h2; rw [if_pos rfl, if_pos (by decide)]; rfl
        · rw [if_neg h2]
          by_cases h3 : kd = 3
          · subst h3; rw [if_pos rfl, if_pos (by decide)]; rfl
          · rw [if_neg h3, if_neg (by omega)]
    by_cases h3 : 1 ≤ kd ∧ kd ≤ 3
    case neg =>
      exact bad (fun h => h3 (hk ▸ h.kind)) (go (Ev.step (f := fun _ => some false) (fun k => (fin k).trans (if_neg h3)) (Ev.now _)))
    have go : ∀ {r : Bool}, Ev (fun k => spec_GoodTerm.j5 k l i c (((chain (l.map nd) i).length : Nat) : Int) (ar.want kd) l l.length i kd n u) r → Ev (fun k => spec_GoodTerm.l0 k l l l.length i) r :=
      fun hE => go (Ev.step (fun k => (fin k).trans (if_pos h3)) hE)
    have fin : ∀ k, spec_GoodTerm.j5 (k + 1) l i c (((chain (l.map nd) i).length : Nat) : Int) (ar.want kd) l l.length i kd n u = (if c = true then (if (((chain (l.map nd) i).length : Nat) : Int) > 40 then some false else ((spec_lcParts.f k l i).bind fun t => (if (t.length : Int) = ar.want kd then (if 0 ≤ n ∧ n ≤ 99 then (if kd = 1 then spec_GoodTerm.l0 k l l l.length ((i + 1 : Nat) : Int) else if n = 0 then spec_GoodTerm.l0 k l l l.length ((i + 1 : Nat) : Int) else some false) else some false) else some false))) else some false) := by
      intro k
      simp only [spec_GoodTerm.j5, l1In_eq, next i hil (Nat.le_trans hl (by decide)), Option.bind_some, decide_eq_true_eq]
    by_cases h7 : c = true
    case neg =>
      exact bad (fun h => h7 (hc.mpr (hu ▸ h.around))) (go (Ev.step (f := fun _ => some false) (fun k => (fin k).trans (if_neg h7)) (Ev.now _)))
    have fin := fun k => (fin k).trans (if_pos h7)
    by_cases h8 : (chain (l.map nd) i).length ≤ 40
    case neg =>
      exact bad (fun h => h8 h.deep) (go (Ev.step (f := fun _ => some false) (fun k => (fin k).trans (if_pos (by omega))) (Ev.now _)))
    have fin := fun k => (fin k).trans (if_neg (by omega))
    by_cases h9 : ps.length = ar.want kd
    case neg =>
      exact bad (fun h => h9 (by have := h.wants; rw [hk, hlen] at this; rw [hpn]; exact this)) (go (Ev.step fin (Ev.bind hps (Ev.ite_neg (by omega) (Ev.now _)))))
    have go : ∀ {r : Bool}, Ev (fun k => (if 0 ≤ n ∧ n ≤ 99 then (if kd = 1 then spec_GoodTerm.l0 k l l l.length ((i + 1 : Nat) : Int) else if n = 0 then spec_GoodTerm.l0 k l l l.length ((i + 1 : Nat) : Int) else some false) else some false)) r → Ev (fun k => spec_GoodTerm.l0 k l l l.length i) r :=
      fun hE => go (Ev.step fin (Ev.bind hps (Ev.ite_pos (by omega) hE)))
    by_cases h4 : 0 ≤ n ∧ n ≤ 99
    case neg =>
      exact bad (fun h => h4 (by have := h.num; rw [hn] at this; omega)) (go (Ev.ite_neg h4 (Ev.now _)))
    by_cases h5 : kd = 1 ∨ n = 0
    case neg =>
      exact bad (fun h => h5 (by have := h.num; rw [hn, hk] at this; omega)) (go (Ev.ite_pos h4 (Ev.ite_neg (by omega) (Ev.ite_neg (by omega) (Ev.now _)))))
    have good : NodeOk (l.map nd) i := by
      refine ⟨by rw [hu]; exact h1, by rw [hu]; omega, by rw [hk]; exact h3, by rw [hn, hk]; exact ⟨h4.1, h4.2, h5⟩, by rw [hu]; exact hc.mp h7, h8, ?_⟩
      rw [hk, hlen, ← hpn]; exact h9
    refine ⟨b, go (Ev.ite_pos h4 ?_), hbi.trans ?_⟩
    · by_cases h6 : kd = 1
      · exact Ev.ite_pos h6 hb
      · exact Ev.ite_neg h6 (Ev.ite_pos (by omega) hb)
    constructor
    · intro h m hm1 hm2
      by_cases hmi : m = i
      · subst hmi; exact good
      · exact h m (by omega) hm2
    · intro h m hm1 hm2
      exact h m (by omega) hm2

def toS : Tr → S37
  | .leaf k n => ⟨k, n, []⟩
  | .un k n a => ⟨k, n, [toS a]⟩
  | .bin k n a b => ⟨k, n, [toS a, toS b]⟩
theorem toS_eta (a : Tr) : (⟨(toS a).f0, (toS a).f1, (toS a).f2⟩ : S37) = toS a := by cases toS a; rfl

theorem at_nd {l : List S70} {i : Nat} (h : i < l.length) : (l.map nd)[i]? = some ⟨(l.getD i z70).f0, (l.getD i z70).f1, TreeM.up (l.map nd) i⟩ := by
  rw [get_of (by rw [List.length_map]; exact h), getD_nd, ← up_nd]; rfl

theorem termAt_ev (l : List S70) (hl : l.length ≤ 200) : ∀ (d i : Nat) (u : Int), i + d = l.length →
    (∃ t e, Par ar (l.map nd) i u t e ∧ Ev (fun k => impl_termAt.f k l i u) ((toS t).f0, (toS t).f1, (toS t).f2, (e : Int), true)) ∨
    ((∀ t e, ¬ Par ar (l.map nd) i u t e) ∧ Ev (fun k => impl_termAt.f k l i u) (0, 0, ([] : List S37), 0, false)) := by
  intro d
  induction d using Nat.strongRecOn with
  | _ d ih =>
    intro i u hi
    have bad : ∀ {x}, Ev (fun k => impl_termAt.j0 k l x true) (0, 0, ([] : List S37), 0, false) := fun {x} => Ev.step (f := fun _ => some (0, 0, ([] : List S37), 0, false)) (fun k => by simp only [impl_termAt.j0]; rfl) (Ev.now _)
    have hlen : (l.map nd).length = l.length := List.length_map ..
    by_cases hd : d = 0
    · refine .inr ⟨fun t e h => ?_, Ev.step (f := fun k => impl_termAt.j0 k l i true) (fun k => ?_) bad⟩
      · have := h.lt; have := h.span; omega
      · simp only [impl_termAt.f]; rw [if_pos (by omega)]
    have hil : i < l.length := by omega
    have hx := at_nd hil
    generalize hk : (l.getD i z70).f0 = kd at *
    generalize hn : (l.getD i z70).f1 = n at *
    -- what a tree from here on begins with
    have inv : ∀ {t e}, Par ar (l.map nd) i u t e → TreeM.up (l.map nd) i = u ∧ 1 ≤ kd ∧ kd ≤ 3 := by
      intro t e h
      cases h with
      | leaf h2 h3 _ => rw [hx] at h2; injection h2 with h2; injection h2 with a b c; subst a; exact ⟨c, h3⟩
      | un h2 h3 _ _ => rw [hx] at h2; injection h2 with h2; injection h2 with a b c; subst a; exact ⟨c, h3⟩
      | bin h2 h3 _ _ _ => rw [hx] at h2; injection h2 with h2; injection h2 with a b c; subst a; exact ⟨c, h3⟩
    have st : ∀ k, impl_termAt.f (k + 1) l i u = (if TreeM.up (l.map nd) i = u then (if kd < 1 then (impl_termAt.j0 k l i true) else (impl_termAt.j0 k l i (decide (kd > 3)))) else (impl_termAt.j0 k l i true)) := by
      intro k
      simp only [impl_termAt.f]
      rw [if_neg (by omega), if_pos (by omega), if_pos (by omega), rdC, up_nd, hk]
    by_cases h1 : TreeM.up (l.map nd) i = u
    case neg => exact .inr ⟨fun t e h => h1 (inv h).1, Ev.step (fun k => (st k).trans (if_neg h1)) bad⟩
    have st := fun k => (st k).trans (if_pos h1)
    by_cases h2 : kd < 1
    · exact .inr ⟨fun t e h => by have := inv h; omega, Ev.step (fun k => (st k).trans (if_pos h2)) bad⟩
    have st := fun k => (st k).trans (if_neg h2)
    by_cases h3 : kd > 3
    · refine .inr ⟨fun t e h => by have := inv h; omega, Ev.step (f := fun k => impl_termAt.j0 k l i true) (fun k => ?_) bad⟩
      rw [st k, decide_eq_true h3]
    have hkd : 1 ≤ kd ∧ kd ≤ ar.top := ⟨by omega, by show kd ≤ 3; omega⟩
    -- the rounds over its parts
    have go : ∀ {r}, Ev (fun k => impl_termAt.l0 k l i ((i + 1 : Nat) : Int) (kd - 1) 0 kd n []) r → Ev (fun k => impl_termAt.f k l i u) r := by
      intro r hE
      refine Ev.step (f := fun k => impl_termAt.j0 k l i false) (fun k => ?_) (Ev.step (fun k => ?_) hE)
      · rw [st k, decide_eq_false h3]
      · simp only [impl_termAt.j0]
        rw [if_neg (by simp), if_pos (by omega), if_pos (by omega), rdC, hk, hn, next i hil (by omega), w64 (x := kd - 1) (by omega) (by omega)]
    have done : ∀ (e j : Int) (ps : List S37), ¬ j < kd - 1 → Ev (fun k => impl_termAt.l0 k l i e (kd - 1) j kd n ps) (kd, n, ps, e, true) := by
      intro e j ps hps
      refine Ev.step (f := fun _ => some (kd, n, ps, e, true)) (fun k => ?_) (Ev.now _)
      simp only [impl_termAt.l0]
      rw [if_neg hps]
    have one : ∀ (e : Nat) (j : Int) (ps : List S37), 0 ≤ j → j < kd - 1 → ∀ {r}, Ev (fun k => (impl_termAt.f k l e i).bind fun bt => (if bt.2.2.2.2 = true then (if ps.length < 3518437208883 then (impl_termAt.l0 k l i bt.2.2.2.1 (kd - 1) (j + 1) kd n (ps ++ [(⟨bt.1, bt.2.1, bt.2.2.1⟩ : S37)])) else (none)) else (some (0, 0, ([] : List S37), 0, false)))) r → Ev (fun k => impl_termAt.l0 k l i e (kd - 1) j kd n ps) r := by
      intro e j ps hj0 hj r hE
      refine Ev.step (fun k => ?_) hE
      simp only [impl_termAt.l0]
      rw [if_pos hj, w64 (x := j + 1) (by omega) (by omega)]
    by_cases hk1 : kd = 1
    · refine .inl ⟨.leaf kd n, i + 1, .leaf (by rw [hx, h1]) hkd (by rw [hk1]; rfl), ?_⟩
      exact go (done _ _ _ (by omega))
    have inva : ∀ {t e}, Par ar (l.map nd) i u t e → ∃ a e1, Par ar (l.map nd) (i + 1) i a e1 := by
      intro t e h
      cases h with
      | leaf h2 h3 h4 =>
        rw [hx] at h2; injection h2 with h2; injection h2 with a b c; subst a
        have : kd = 2 ∨ kd = 3 := by omega
        rcases this with rfl | rfl <;> exact absurd h4 (by decide)
      | un h2 _ _ h5 => exact ⟨_, _, h5⟩
      | bin _ _ _ h5 _ => exact ⟨_, _, h5⟩
    rcases ih (d - 1) (by omega) (i + 1) i (by omega) with ⟨a, e1, pa, ea⟩ | ⟨na, ea⟩
    case inr =>
      refine .inr ⟨fun t e h => ?_, go (one _ _ _ (by omega) (by omega) (Ev.bind ea (Ev.ite_neg (by simp) (Ev.now _))))⟩
      obtain ⟨a, e1, h5⟩ := inva h
      exact na _ _ h5
    have s1 := pa.span
    have l1 := pa.lt
    by_cases hk2 : kd = 2
    · refine .inl ⟨.un kd n a, e1, .un (by rw [hx, h1]) hkd (by rw [hk2]; rfl) pa, ?_⟩
      refine go (one _ 0 [] (by omega) (by omega) (Ev.bind ea (Ev.ite_pos rfl (Ev.ite_pos (by simp) ?_))))
      show Ev (fun k => impl_termAt.l0 k l i (e1 : Int) (kd - 1) (0 + 1) kd n ([] ++ [(⟨(toS a).f0, (toS a).f1, (toS a).f2⟩ : S37)])) _
      rw [toS_eta, List.nil_append]
      exact done (e1 : Int) _ [toS a] (by omega)
    have hk3 : kd = 3 := by omega
    have hw : ar.want kd = 2 := by rw [hk3]; rfl
    have invb : ∀ {t e}, Par ar (l.map nd) i u t e → ∃ a b e1, Par ar (l.map nd) (i + 1) i a e1 ∧ Par ar (l.map nd) e1 i b e := by
      intro t e h
      cases h with
      | leaf h2 _ h4 => rw [hx] at h2; injection h2 with h2; injection h2 with a b c; subst a; omega
      | un h2 _ h4 _ => rw [hx] at h2; injection h2 with h2; injection h2 with a b c; subst a; omega
      | bin _ _ _ h5 h6 => exact ⟨_, _, _, h5, h6⟩
    rcases ih (l.length - e1) (by omega) e1 i (by omega) with ⟨b, e2, pb, eb⟩ | ⟨nb, eb⟩
    case inr =>
      refine .inr ⟨fun t e h => ?_, go (one _ 0 _ (by omega) (by omega) (Ev.bind ea (Ev.ite_pos rfl (Ev.ite_pos (by simp) (one _ _ _ (by omega) (by omega) (Ev.bind eb (Ev.ite_neg (by simp) (Ev.now _))))))))⟩
      obtain ⟨a', b', e1', h5, h6⟩ := invb h
      obtain ⟨_, rfl⟩ := pa.unique h5
      exact nb _ _ h6
    refine .inl ⟨.bin kd n a b, e2, .bin (by rw [hx, h1]) hkd hw pa pb, ?_⟩
    refine go (one _ 0 [] (by omega) (by omega) (Ev.bind ea (Ev.ite_pos rfl (Ev.ite_pos (by simp) ?_))))
    show Ev (fun k => impl_termAt.l0 k l i (e1 : Int) (kd - 1) (0 + 1) kd n ([] ++ [(⟨(toS a).f0, (toS a).f1, (toS a).f2⟩ : S37)])) _
    rw [toS_eta, List.nil_append]
    refine one e1 _ [toS a] (by omega) (by omega) (Ev.bind eb (Ev.ite_pos rfl (Ev.ite_pos (by simp) ?_)))
    show Ev (fun k => impl_termAt.l0 k l i (e2 : Int) (kd - 1) (0 + 1 + 1) kd n ([toS a] ++ [(⟨(toS b).f0, (toS b).f1, (toS b).f2⟩ : S37)])) _
    rw [toS_eta]
    exact done (e2 : Int) _ [toS a, toS b] (by omega)

def numOk (k n : Int) : Prop := 0 ≤ n ∧ n ≤ 99 ∧ (k = 1 ∨ n = 0)

theorem Tr.depth_le (t : Tr) : t.depth ≤ t.size ∧ 1 ≤ t.depth := by
  induction t with
  | leaf k n => exact ⟨Nat.le_refl _, Nat.le_refl _⟩
  | un k n a ih => show a.depth + 1 ≤ 1 + a.size ∧ 1 ≤ a.depth + 1; omega
  | bin k n a b iha ihb => show max a.depth b.depth + 1 ≤ 1 + a.size + b.size ∧ 1 ≤ max a.depth b.depth + 1; omega

theorem size_ev : ∀ (t : Tr), t.size ≤ 4000 → Ev (fun k => impl_term_size.f k (toS t).f0 (toS t).f1 (toS t).f2) (t.size : Int) := by
  have start : ∀ (kd n : Int) (ps : List S37) {r}, Ev (fun k => impl_term_size.l0 k 1 ps ps.length 0) r → Ev (fun k => impl_term_size.f k kd n ps) r := fun kd n ps r h => Ev.step (fun k => rfl) h
  have fin : ∀ (s : Int) (ps : List S37), Ev (fun k => impl_term_size.l0 k s ps ps.length ps.length) s := by
    intro s ps
    refine Ev.step (f := fun _ => some s) (fun k => ?_) (Ev.now _)
    simp only [impl_term_size.l0]
    rw [if_neg (by omega)]
  have part : ∀ (s i s2 : Nat) (ps : List S37) (x : S37), i < ps.length → ps.length ≤ 2 → rd_T37 ps i = x → s + s2 ≤ 4000 → Ev (fun k => impl_term_size.f k x.f0 x.f1 x.f2) (s2 : Int) → ∀ {r}, Ev (fun k => impl_term_size.l0 k ((s + s2 : Nat) : Int) ps ps.length ((i + 1 : Nat) : Int)) r → Ev (fun k => impl_term_size.l0 k s ps ps.length i) r := by
    intro s i s2 ps x hi hl hx hs hE r h
    refine Ev.step (f := fun k => (impl_term_size.f k x.f0 x.f1 x.f2).bind fun t104 => impl_term_size.l0 k (wrap64 ((s : Int) + t104)) ps ps.length ((i + 1 : Nat) : Int)) (fun k => ?_) (Ev.bind hE ?_)
    · simp only [impl_term_size.l0]
      rw [if_pos (by omega), if_pos (by omega), if_pos (by omega), hx, next i hi (by omega)]
    · show Ev (fun k => impl_term_size.l0 k (wrap64 ((s : Int) + s2)) ps ps.length ((i + 1 : Nat) : Int)) r
      rw [w64 (by omega) (by omega), show (s : Int) + s2 = ((s + s2 : Nat) : Int) by omega]
      exact h
  intro t
  induction t with
  | leaf kd n => intro _; exact start kd n [] (fin 1 [])
  | un kd n a ih =>
    intro hs
    have hs' : 1 + a.size ≤ 4000 := hs
    exact start kd n [toS a] (part 1 0 a.size [toS a] (toS a) (by simp) (by simp) rfl hs' (ih (by omega)) (fin _ [toS a]))
  | bin kd n x y ihx ihy =>
    intro hs
    have hs' : 1 + x.size + y.size ≤ 4000 := hs
    exact start kd n [toS x, toS y] (part 1 0 x.size [toS x, toS y] (toS x) (by simp) (by simp) rfl (by omega) (ihx (by omega))
      (part (1 + x.size) 1 y.size [toS x, toS y] (toS y) (by simp) (by simp) rfl hs' (ihy (by omega)) (fin _ [toS x, toS y])))

theorem depth_ev : ∀ (t : Tr), t.size ≤ 4000 → Ev (fun k => impl_term_depth.f k (toS t).f0 (toS t).f1 (toS t).f2) (t.depth : Int) := by
  have start : ∀ (kd n : Int) (ps : List S37) {r}, Ev (fun k => impl_term_depth.l0 k 0 ps ps.length 0) r → Ev (fun k => impl_term_depth.f k kd n ps) r := fun kd n ps r h => Ev.step (fun k => rfl) h
  have fin : ∀ (s : Nat) (ps : List S37), s ≤ 4000 → Ev (fun k => impl_term_depth.l0 k s ps ps.length ps.length) ((s + 1 : Nat) : Int) := by
    intro s ps hs
    refine Ev.step (f := fun _ => some ((s + 1 : Nat) : Int)) (fun k => ?_) (Ev.now _)
    simp only [impl_term_depth.l0]
    rw [if_neg (by omega), w64 (by omega) (by omega)]
    rfl
  have part : ∀ (s i s2 : Nat) (ps : List S37) (x : S37), i < ps.length → ps.length ≤ 2 → rd_T37 ps i = x → Ev (fun k => impl_term_depth.f k x.f0 x.f1 x.f2) (s2 : Int) → ∀ {r}, Ev (fun k => impl_term_depth.l0 k ((max s s2 : Nat) : Int) ps ps.length ((i + 1 : Nat) : Int)) r → Ev (fun k => impl_term_depth.l0 k s ps ps.length i) r := by
    intro s i s2 ps x hi hl hx hE r h
    have hm : mx (s : Int) (s2 : Int) = ((max s s2 : Nat) : Int) := by unfold mx; split <;> omega
    refine Ev.step (f := fun k => (impl_term_depth.f k x.f0 x.f1 x.f2).bind fun t104 => impl_term_depth.l0 k (mx (s : Int) t104) ps ps.length ((i + 1 : Nat) : Int)) (fun k => ?_) (Ev.bind hE ?_)
    · simp only [impl_term_depth.l0]
      rw [if_pos (by omega), if_pos (by omega), if_pos (by omega), hx, next i hi (by omega)]
    · show Ev (fun k => impl_term_depth.l0 k (mx (s : Int) s2) ps ps.length ((i + 1 : Nat) : Int)) r
      rw [hm]
      exact h
  intro t
  induction t with
  | leaf kd n => intro _; exact start kd n [] (fin 0 [] (by omega))
  | un kd n a ih =>
    intro hs
    have hs' : 1 + a.size ≤ 4000 := hs
    have := Tr.depth_le a
    refine start kd n [toS a] (part 0 0 a.depth [toS a] (toS a) (by simp) (by simp) rfl (ih (by omega)) (Ev.of_eq (fin _ [toS a] (by omega)) ?_))
    rw [Nat.zero_max]; rfl
  | bin kd n x y ihx ihy =>
    intro hs
    have hs' : 1 + x.size + y.size ≤ 4000 := hs
    have := Tr.depth_le x
    have := Tr.depth_le y
    refine start kd n [toS x, toS y] (part 0 0 x.depth [toS x, toS y] (toS x) (by simp) (by simp) rfl (ihx (by omega)) (part _ 1 y.depth [toS x, toS y] (toS y) (by simp) (by simp) rfl (ihy (by omega)) (Ev.of_eq (fin _ [toS x, toS y] (by omega)) ?_)))
    rw [Nat.zero_max]; rfl

theorem node_iff (k n : Int) : Are37.nodeOk k n = true ↔ numOk k n := by
  unfold Are37.nodeOk numOk; simp; omega
theorem nums_iff : ∀ (t : Tr), (Are37.nodeOk (toS t).f0 (toS t).f1 && Are37.okL (toS t).f2) = true ↔ t.all numOk := by
  intro t
  induction t with
  | leaf k n =>
    show (Are37.nodeOk k n && Are37.okL []) = true ↔ numOk k n
    rw [Are37.okL_all]; simp [node_iff]
  | un k n a ih =>
    show (Are37.nodeOk k n && Are37.okL [toS a]) = true ↔ numOk k n ∧ a.all numOk
    rw [Are37.okL_all, ← ih, ← node_iff, ← Are37.okT_eq]; simp
  | bin k n a b iha ihb =>
    show (Are37.nodeOk k n && Are37.okL [toS a, toS b]) = true ↔ numOk k n ∧ a.all numOk ∧ b.all numOk
    rw [Are37.okL_all, ← iha, ← ihb, ← node_iff, ← Are37.okT_eq, ← Are37.okT_eq]; simp

theorem isGood_ev (t : Tr) (hs : t.size ≤ 4000) : ∃ b, Ev (fun k => impl_term_isGood.f k (toS t).f0 (toS t).f1 (toS t).f2) b ∧ (b = true ↔ t.size ≤ 150 ∧ t.depth ≤ 40 ∧ t.all numOk) := by
  have h1 := size_ev t hs
  have h2 := depth_ev t hs
  unfold impl_term_isGood.f
  by_cases c1 : t.size ≤ 150
  case neg => exact ⟨false, Ev.bind h1 (Ev.ite_neg (by omega) (Ev.now _)), fun h => absurd h (by simp), fun h => absurd h.1 c1⟩
  by_cases c2 : t.depth ≤ 40
  case neg => exact ⟨false, Ev.bind h1 (Ev.ite_pos (by omega) (Ev.bind h2 (Ev.ite_neg (by omega) (Ev.now _)))), fun h => absurd h (by simp), fun h => absurd h.2.1 c2⟩
  refine ⟨Are37.nodeOk (toS t).f0 (toS t).f1 && Are37.okL (toS t).f2, Ev.bind h1 (Ev.ite_pos (by omega) (Ev.bind h2 (Ev.ite_pos (by omega) (Ev.now _)))), ?_⟩
  rw [nums_iff]
  exact ⟨fun h => ⟨c1, c2, h⟩, fun h => h.2.2⟩

def Tells (l : List S70) (t : Tr) : Prop := 1 ≤ l.length ∧ l.length ≤ 150 ∧ Par ar (l.map nd) 0 (-1) t l.length ∧ t.all numOk ∧ t.depth ≤ 40

theorem nodes_iff (l : List S70) (h1 : 1 ≤ l.length) (h2 : l.length ≤ 150) : (∀ m, 0 ≤ m → m < l.length → NodeOk (l.map nd) m) ↔ ∃ t, Tells l t := by
  have hlen : (l.map nd).length = l.length := List.length_map ..
  have hli := loc_iff (A := ar) (l := l.map nd) ar2 (by omega)
  constructor
  · intro h
    have L : TreeM.Loc ar (l.map nd) := by
      refine ⟨fun _ => (h 0 (Nat.le_refl _) (by omega)).top.mp rfl, fun m h3 h4 => ?_, fun m h3 h4 => ?_, fun m h3 => (h m (by omega) (by omega)).kind, fun m h3 => (h m (by omega) (by omega)).wants⟩
      · have hm := h m (by omega) (by omega)
        have := hm.ahead
        have := hm.top
        omega
      · have hm := h m (by omega) (by omega)
        obtain ⟨x, hx, hxu⟩ := hm.around.resolve_left (by omega)
        rw [← hxu, Int.toNat_natCast]; exact hx
    obtain ⟨t, ht⟩ := hli.mp L
    rw [hlen] at ht
    refine ⟨t, h1, h2, ht, (ht.alls numOk).mpr (fun m h3 h4 => (h m h3 h4).num), ?_⟩
    obtain ⟨m, h3, h4, h5⟩ := ht.deep.2
    have hm := (h m h3 h4).deep
    have h0 : (chain (l.map nd) 0).length = 1 := by rw [chain_top (by rw [ht.span.2.2]; omega)]; rfl
    omega
  · rintro ⟨t, _, _, ht, hn, hd⟩ m _ hm
    have L : TreeM.Loc ar (l.map nd) := hli.mpr ⟨t, by rw [hlen]; exact ht⟩
    have h0 : (chain (l.map nd) 0).length = 1 := by rw [chain_top (by rw [ht.span.2.2]; omega)]; rfl
    have hr := L.root (by omega)
    refine ⟨?_, ?_, L.kinds m (by omega), (ht.alls numOk).mp hn m (by omega) hm, ?_, by have := ht.deep.1 m (by omega) hm; omega, L.wants m (by omega)⟩
    · by_cases h3 : m = 0
      · subst h3; exact ⟨fun _ => hr, fun _ => rfl⟩
      · have := L.ahead m (by omega) (by omega); omega
    · by_cases h3 : m = 0
      · subst h3; omega
      · have := L.ahead m (by omega) (by omega); omega
    · by_cases h3 : m = 0
      · exact .inl h3
      · have h4 := L.ahead m (by omega) (by omega)
        exact .inr ⟨_, L.around m (by omega) (by omega), by omega⟩

theorem specGood (l : List S70) (hl : l.length ≤ 9223372036854775807) : ∃ b, Ev (fun k => spec_GoodTerm.f k l) b ∧ (b = true ↔ ∃ t, Tells l t) := by
  unfold spec_GoodTerm.f
  rw [l1In_eq]
  simp only [Option.bind_some, decide_eq_true_eq]
  by_cases h : (1 : Int) ≤ (l.length : Int) ∧ (l.length : Int) ≤ 150
  · obtain ⟨b, hb, hbi⟩ := specLoop l (by omega) l.length 0 (by omega) (fun m hm => by omega)
    exact ⟨b, Ev.ite_pos h hb, hbi.trans (nodes_iff l (by omega) (by omega))⟩
  · exact ⟨false, Ev.ite_neg h (Ev.now _), fun h2 => absurd h2 (by simp), fun ⟨t, h2, h3, _⟩ => absurd ⟨by omega, by omega⟩ h⟩

theorem rootEv (l : List S70) (hl : l.length ≤ 9223372036854775807) : ∃ (x : S37) (b : Bool), Ev (fun k => impl_termOf.f k l) (x.f0, x.f1, x.f2, b) ∧ (b = true ↔ ∃ t, Tells l t) ∧ (b = true → ∃ t, Tells l t ∧ x = toS t) := by
  have bad : (¬ ∃ t, Tells l t) → ∀ (x : S37), Ev (fun k => impl_termOf.f k l) (x.f0, x.f1, x.f2, false) → ∃ (x : S37) (b : Bool), Ev (fun k => impl_termOf.f k l) (x.f0, x.f1, x.f2, b) ∧ (b = true ↔ ∃ t, Tells l t) ∧ (b = true → ∃ t, Tells l t ∧ x = toS t) :=
    fun h x hE => ⟨x, false, hE, ⟨fun h2 => absurd h2 (by simp), fun h2 => absurd h2 h⟩, fun h2 => absurd h2 (by simp)⟩
  have none : Ev (fun k => impl_termOf.j0 k l true) (0, 0, ([] : List S37), false) := Ev.step (f := fun _ => some (0, 0, ([] : List S37), false)) (fun k => by simp only [impl_termOf.j0]; rfl) (Ev.now _)
  by_cases h1 : (l.length : Int) < 1
  · refine bad (fun ⟨t, h2, _⟩ => by omega) ⟨0, 0, []⟩ ?_
    unfold impl_termOf.f
    exact Ev.ite_pos h1 none
  by_cases h2 : (l.length : Int) > 150
  · refine bad (fun ⟨t, _, h3, _⟩ => by omega) ⟨0, 0, []⟩ ?_
    unfold impl_termOf.f
    refine Ev.ite_neg h1 ?_
    rw [decide_eq_true h2]; exact none
  have go : ∀ {r}, Ev (fun k => (impl_termAt.f k l 0 (-1)).bind fun bt102 => (if bt102.2.2.2.2 = true then (if bt102.2.2.2.1 = (l.length : Int) then ((impl_term_isGood.f k bt102.1 bt102.2.1 bt102.2.2.1).bind fun t110 => (some (bt102.1, bt102.2.1, bt102.2.2.1, t110))) else (some (bt102.1, bt102.2.1, bt102.2.2.1, false))) else (some (bt102.1, bt102.2.1, bt102.2.2.1, false)))) r → Ev (fun k => impl_termOf.f k l) r := by
    intro r hE
    unfold impl_termOf.f
    refine Ev.ite_neg h1 ?_
    rw [decide_eq_false h2]
    exact Ev.step (fun k => by simp only [impl_termOf.j0]; rfl) hE
  rcases termAt_ev l (by omega) l.length 0 (-1) (by omega) with ⟨t, e, ht, hE⟩ | ⟨hn, hE⟩
  case inr =>
    exact bad (fun ⟨t, _, _, h3, _⟩ => hn _ _ h3) ⟨0, 0, []⟩ (go (Ev.bind hE (Ev.ite_neg (by simp) (Ev.now _))))
  by_cases he : e = l.length
  case neg =>
    refine bad (fun ⟨t', _, _, h3, _⟩ => he (ht.unique h3).2) (toS t) (go (Ev.bind hE (Ev.ite_pos rfl (Ev.ite_neg ?_ (Ev.now _)))))
    show ¬ (e : Int) = _
    omega
  subst he
  have hs := ht.span
  obtain ⟨b, hb, hbi⟩ := isGood_ev t (by omega)
  refine ⟨toS t, b, go (Ev.bind hE (Ev.ite_pos rfl (Ev.ite_pos rfl (Ev.bind hb (Ev.now _))))), ?_, ?_⟩
  · rw [hbi]
    constructor
    · intro h3; exact ⟨t, by omega, by omega, ht, h3.2.2, h3.2.1⟩
    · rintro ⟨t', _, _, h3, h4, h5⟩
      obtain ⟨rfl, _⟩ := ht.unique h3
      exact ⟨by omega, h5, h4⟩
  · intro h3
    rw [hbi] at h3
    exact ⟨t, ⟨by omega, by omega, ht, h3.2.2, h3.2.1⟩, rfl⟩


def toL : Tr → S54
  | .leaf k n => ⟨k, n, []⟩
  | .un k n a => ⟨k, n, [toL a]⟩
  | .bin k n a b => ⟨k, n, [toL a, toL b]⟩
theorem toL_eta (a : Tr) : (⟨(toL a).f0, (toL a).f1, (toL a).f2⟩ : S54) = toL a := by cases toL a; rfl
theorem partsL (l : List S70) (i : Nat) (hl : l.length ≤ 200) : ∀ (d a : Nat) (acc : List Int), a + d = l.length → acc.length + d ≤ 200 → Ev (fun k => spec_lcParts.l0 k l i acc a) (acc ++ (pts (l.map nd) i a d).map fun (m : Nat) => (m : Int)) := by
  intro d
  induction d with
  | zero =>
    intro a acc ha _
    refine Ev.step (f := fun _ => some acc) (fun k => ?_) (Ev.of_eq (Ev.now _) ?_)
    · simp only [spec_lcParts.l0]
      rw [if_neg (by omega)]
    · simp [pts]
  | succ d ih =>
    intro a acc ha hacc
    by_cases h : up (l.map nd) a = (i : Int)
    · refine Ev.step (fun k => ?_) (Ev.of_eq (ih (a + 1) (acc ++ [(a : Int)]) (by omega) (by simp; omega)) ?_)
      · simp only [spec_lcParts.l0]
        rw [if_pos (by omega), if_pos (by omega), rdC, up_nd, if_pos h, if_pos (by omega), next a (n := l.length) (by omega) (by omega)]
      · have e : pts (l.map nd) i a (d + 1) = a :: pts (l.map nd) i (a + 1) d := by
          show (if up (l.map nd) a = (i : Int) then _ else _) = _
          rw [if_pos h]
        rw [e]; simp
    · refine Ev.step (fun k => ?_) (Ev.of_eq (ih (a + 1) acc (by omega) (by omega)) ?_)
      · simp only [spec_lcParts.l0]
        rw [if_pos (by omega), if_pos (by omega), rdC, up_nd, if_neg h, next a (n := l.length) (by omega) (by omega)]
      · have e : pts (l.map nd) i a (d + 1) = pts (l.map nd) i (a + 1) d := by
          show (if up (l.map nd) a = (i : Int) then _ else _) = _
          rw [if_neg h]
        rw [e]
theorem lcPartsL (l : List S70) (i : Nat) (hi : i < l.length) (hl : l.length ≤ 200) : Ev (fun k => spec_lcParts.f k l i) ((pts (l.map nd) i (i + 1) (l.length - (i + 1))).map fun (m : Nat) => (m : Int)) := by
  have := partsL l i hl (l.length - (i + 1)) (i + 1) [] (by omega) (by simp; omega)
  unfold spec_lcParts.f
  rw [next i hi (by omega)]
  rw [List.nil_append] at this
  exact this

theorem rdI (l : List Int) (i : Nat) : rd l (i : Int) = l.getD i 0 := by unfold rd; rw [Int.toNat_natCast]

theorem lcTree_ev (l : List S70) (hl : l.length ≤ 200) {i e : Nat} {t : Tr} (h : Parts ar (l.map nd) i t e) : Ev (fun k => spec_lcTree.f k l i) ((toL t).f0, (toL t).f1, (toL t).f2) := by
  have hlen : (l.map nd).length = l.length := List.length_map ..
  have start : ∀ {i : Nat} {kd n v : Int} {ps : List Nat}, (l.map nd).getD i z = ⟨kd, n, v⟩ → i < (l.map nd).length → pts (l.map nd) i (i + 1) ((l.map nd).length - (i + 1)) = ps → ∀ {r}, Ev (fun k => spec_lcTree.l0 k l (ps.map fun (m : Nat) => (m : Int)) ((ps.map fun (m : Nat) => (m : Int)).length : Int) 0 kd n []) r → Ev (fun k => spec_lcTree.f k l i) r := by
    intro i kd n v ps h0 hi hp r hE
    rw [hlen] at hi hp
    have e0 : (l.getD i z70).f0 = kd := by have := getD_nd l i; rw [h0] at this; exact (congrArg Nd.kind this).symm
    have e1 : (l.getD i z70).f1 = n := by have := getD_nd l i; rw [h0] at this; exact (congrArg Nd.n this).symm
    refine Ev.step (f := fun k => (spec_lcParts.f k l i).bind fun t105 => (spec_lcTree.l0 k l t105 (t105.length : Int) 0 kd n [])) (fun k => ?_) (Ev.bind (lcPartsL l i hi hl) ?_)
    · simp only [spec_lcTree.f]
      rw [if_pos (by omega), if_pos (by omega), rdC, e0, e1]
    · rw [hp]; exact hE
  have fin : ∀ (qs : List Int) (j kd n : Int) (ps : List S54), ¬ j < (qs.length : Int) → Ev (fun k => spec_lcTree.l0 k l qs (qs.length : Int) j kd n ps) (kd, n, ps) := by
    intro qs j kd n ps hj
    refine Ev.step (f := fun _ => some (kd, n, ps)) (fun k => ?_) (Ev.now _)
    simp only [spec_lcTree.l0]
    rw [if_neg hj]
  have one : ∀ (qs : List Int) (j q : Nat) (kd n : Int) (ps : List S54) (t : Tr), j < qs.length → qs.length ≤ 2 → ps.length ≤ 2 → qs.getD j 0 = (q : Int) → Ev (fun k => spec_lcTree.f k l q) ((toL t).f0, (toL t).f1, (toL t).f2) → ∀ {r}, Ev (fun k => spec_lcTree.l0 k l qs (qs.length : Int) ((j + 1 : Nat) : Int) kd n (ps ++ [toL t])) r → Ev (fun k => spec_lcTree.l0 k l qs (qs.length : Int) (j : Int) kd n ps) r := by
    intro qs j q kd n ps t hj hq hp hqe hE r h
    refine Ev.step (f := fun k => (spec_lcTree.f k l (q : Int)).bind fun bt109 => (if ps.length < 3518437208883 then (spec_lcTree.l0 k l qs (qs.length : Int) ((j + 1 : Nat) : Int) kd n (ps ++ [(⟨bt109.1, bt109.2.1, bt109.2.2⟩ : S54)])) else (none))) (fun k => ?_) (Ev.bind hE (Ev.ite_pos (by omega) ?_))
    · simp only [spec_lcTree.l0]
      rw [if_pos (by omega), if_pos (by omega), if_pos (by omega), rdI, hqe, next j hj (by omega)]
    · show Ev (fun k => spec_lcTree.l0 k l qs (qs.length : Int) ((j + 1 : Nat) : Int) kd n (ps ++ [(⟨(toL t).f0, (toL t).f1, (toL t).f2⟩ : S54)])) r
      rw [toL_eta]; exact h
  induction h with
  | @leaf i k n h hi hw hp => exact start h hi hp (fin [] 0 k n [] (by simp))
  | @un i e k n a h hi hw hp ha ih => exact start h hi hp (one [((i + 1 : Nat) : Int)] 0 (i + 1) k n [] a (by simp) (by simp) (by simp) rfl ih (fin [((i + 1 : Nat) : Int)] 1 k n [toL a] (by simp)))
  | @bin i e e' k n a b h hi hw hp ha hb ih1 ih2 =>
    exact start h hi hp (one [((i + 1 : Nat) : Int), (e : Int)] 0 (i + 1) k n [] a (by simp) (by simp) (by simp) rfl ih1 (one [((i + 1 : Nat) : Int), (e : Int)] 1 e k n [toL a] b (by simp) (by simp) (by simp) rfl ih2 (fin [((i + 1 : Nat) : Int), (e : Int)] 2 k n [toL a, toL b] (by simp))))

theorem tree_of (l : List S70) {t : Tr} (h : Tells l t) : Ev (fun k => spec_lcTree.f k l 0) ((toL t).f0, (toL t).f1, (toL t).f2) ∧ t.wf ar ∧ t.all numOk ∧ t.depth ≤ 40 := by
  have hlen : (l.map nd).length = l.length := List.length_map ..
  obtain ⟨h1, h2, h3, h5, h6⟩ := h
  have h4 := h3
  rw [← hlen] at h4
  exact ⟨lcTree_ev l (by omega) h4.parts_all, h3.wf, h5, h6⟩
theorem kind_of {k : Int} (h : 1 ≤ k ∧ k ≤ ar.top) : k = 1 ∨ k = 2 ∨ k = 3 := by
  have : 1 ≤ k ∧ k ≤ 3 := h
  omega
theorem want_zero {k : Int} (h : (1 ≤ k ∧ k ≤ ar.top) ∧ ar.want k = 0) : k = 1 := by
  rcases kind_of h.1 with rfl | rfl | rfl
  · rfl
  · exact absurd h.2 (by decide)
  · exact absurd h.2 (by decide)
theorem want_one {k : Int} (h : (1 ≤ k ∧ k ≤ ar.top) ∧ ar.want k = 1) : k = 2 := by
  rcases kind_of h.1 with rfl | rfl | rfl
  · exact absurd h.2 (by decide)
  · rfl
  · exact absurd h.2 (by decide)
theorem want_two {k : Int} (h : (1 ≤ k ∧ k ≤ ar.top) ∧ ar.want k = 2) : k = 3 := by
  rcases kind_of h.1 with rfl | rfl | rfl
  · exact absurd h.2 (by decide)
  · exact absurd h.2 (by decide)
  · rfl
end Go.Proofs.Ytmcmclcebnepgaa.TermL

namespace Go.Proofs.Ytmcmclcebnepgaa.RiseL
open Go.RowKit Go.Proofs.YtmcmclcebnepgaaW.PrintWords
set_option linter.unusedVariables false

theorem get_arr (zs : List Int) (j : Nat) (h : j < zs.length) : zs.toArray[j]! = zs[j] := by rw [getElem!_pos _ _ (by simpa using h)]; simp
theorem compact_mem (zs : List Int) (x : Int) : x ∈ Lib.compact zs ↔ x ∈ zs := by
  unfold Lib.compact Lib.compactUpTo
  rw [List.mem_map]
  constructor
  · rintro ⟨j, hj, rfl⟩
    have h1 : j < zs.length := by simpa using (List.mem_filter.mp hj).1
    rw [get_arr zs j h1]
    exact List.getElem_mem h1
  · intro hx
    obtain ⟨j, hj, he⟩ := List.getElem_of_mem hx
    -- the first place
    have key : ∀ n j, j ≤ n → ∀ hj : j < zs.length, zs[j] = x → ∃ i, i ∈ (List.range zs.length).filter (Lib.keeps zs.toArray) ∧ zs.toArray[i]! = x := by
      intro n
      induction n with
      | zero =>
        intro j h0 hj he
        obtain rfl : j = 0 := by omega
        exact ⟨0, List.mem_filter.mpr ⟨by simpa using hj, by simp [Lib.keeps]⟩, by rw [get_arr zs 0 hj]; exact he⟩
      | succ n ih =>
        intro j h0 hj he
        by_cases hk : Lib.keeps zs.toArray j = true
        · exact ⟨j, List.mem_filter.mpr ⟨by simpa using hj, hk⟩, by rw [get_arr zs j hj]; exact he⟩
        · have hk2 : ¬ (j = 0 ∨ zs.toArray[j]! ≠ zs.toArray[j - 1]!) := fun h => hk (decide_eq_true h)
          have hj0 : j ≠ 0 := fun h => hk2 (.inl h)
          have hee : zs.toArray[j]! = zs.toArray[j - 1]! := Classical.byContradiction fun h => hk2 (.inr h)
          rw [get_arr zs j hj, get_arr zs (j - 1) (by omega)] at hee
          exact ih (j - 1) (by omega) (by omega) (hee ▸ he)
    exact key j j (Nat.le_refl _) hj he
theorem sort_mem (l : List Int) (x : Int) : x ∈ (l.mergeSort fun x y => decide (x ≤ y)) ↔ x ∈ l := List.mem_mergeSort
end Go.Proofs.Ytmcmclcebnepgaa.RiseL

namespace Go.Proofs.Ytmcmclcebnepgaa.TermL
open Go.RowKit Go.Proofs.Ytmcmclcebnepgaa.G Go.Proofs.Ytmcmclcebnepgaa.EvL Go.Proofs.Ytmcmclcebnepgaa.TreeM Go.Proofs.Ytmcmclcebnepgaa.RiseL Go.Proofs.YtmcmclcebnepgaaW.PrintWords Go.Proofs.YtmcmclcebnepgaaW.PrintLast
set_option linter.unusedVariables false

def fvs : Tr → Int → List Int
  | .leaf _ n, ar => if ar ≤ n then [n - ar] else []
  | .un _ _ a, ar => fvs a (ar + 1)
  | .bin _ _ a b, ar => fvs a ar ++ fvs b ar
theorem fr_impl : ∀ (t : Tr) (ar : Int) (acc : List Int), t.wf TermL.ar → t.all numOk → 0 ≤ ar → ar + t.depth ≤ 1000 → Free37.frT (toS t) ar acc = acc ++ fvs t ar
  | .leaf k n, ar, acc, hw, hn, h0, hd => by
    have hk := want_zero hw
    have h2 : n ≤ 99 := hn.2.1
    have h3 : 0 ≤ n := hn.1
    subst hk
    rw [Free37.frT_eq]
    show Free37.frL [] _ (if (1 : Int) = 1 ∧ ar ≤ n then acc ++ [wrap64 (n - ar)] else acc) = _
    rw [Free37.frL_nil]
    unfold fvs
    by_cases h : ar ≤ n
    · rw [if_pos ⟨rfl, h⟩, if_pos h, w64 (by omega) (by omega)]
    · rw [if_neg (fun g => h g.2), if_neg h, List.append_nil]
  | .un k n a, ar, acc, hw, hn, h0, hd => by
    have hk := want_one hw.1
    subst hk
    have hd' : ar + ((a.depth + 1 : Nat) : Int) ≤ 1000 := hd
    rw [Free37.frT_eq]
    show Free37.frL [toS a] (if (2 : Int) = 2 then wrap64 (ar + 1) else ar) (if (2 : Int) = 1 ∧ ar ≤ n then acc ++ [wrap64 (n - ar)] else acc) = _
    rw [if_pos rfl, if_neg (fun g => absurd g.1 (by decide)), Free37.frL_cons, Free37.frL_nil, w64 (by omega) (by omega), fr_impl a (ar + 1) acc hw.2 hn.2 (by omega) (by omega)]
    rfl
  | .bin k n a b, ar, acc, hw, hn, h0, hd => by
    have hk := want_two hw.1
    subst hk
    have hd' : ar + ((max a.depth b.depth + 1 : Nat) : Int) ≤ 1000 := hd
    rw [Free37.frT_eq]
    show Free37.frL [toS a, toS b] (if (3 : Int) = 2 then wrap64 (ar + 1) else ar) (if (3 : Int) = 1 ∧ ar ≤ n then acc ++ [wrap64 (n - ar)] else acc) = _
    rw [if_neg (by decide), if_neg (fun g => absurd g.1 (by decide)), Free37.frL_cons, Free37.frL_cons, Free37.frL_nil, fr_impl a ar acc hw.2.1 hn.2.1 h0 (by omega), fr_impl b ar _ hw.2.2 hn.2.2 h0 (by omega), List.append_assoc]
    rfl
theorem fvs_len : ∀ (t : Tr) (ar : Int), (fvs t ar).length ≤ t.size
  | .leaf k n, ar => by unfold fvs; split <;> simp [Tr.size]
  | .un k n a, ar => by have := fvs_len a (ar + 1); show (fvs a (ar + 1)).length ≤ 1 + a.size; omega
  | .bin k n a b, ar => by have := fvs_len a ar; have := fvs_len b ar; show (fvs a ar ++ fvs b ar).length ≤ 1 + a.size + b.size; rw [List.length_append]; omega
theorem sz_impl : ∀ (t : Tr), Free37.szT (toS t) = t.size := by
  intro t
  induction t with
  | leaf k n => rw [Free37.szT_eq]; show 1 + Free37.szL [] = 1; rw [Free37.szL]
  | un k n a ih => rw [Free37.szT_eq]; show 1 + Free37.szL [toS a] = 1 + a.size; rw [Free37.szL_cons, Free37.szL, ih]; omega
  | bin k n a b iha ihb => rw [Free37.szT_eq]; show 1 + Free37.szL [toS a, toS b] = 1 + a.size + b.size; rw [Free37.szL_cons, Free37.szL_cons, Free37.szL, iha, ihb]; omega
theorem freeIn_ev (l : List S70) {t : Tr} (ht : Tells l t) (hE : Ev (fun k => impl_termOf.f k l) ((toS t).f0, (toS t).f1, (toS t).f2, true)) :
    ∃ fr : List Int, Ev (fun k => impl_FreeIn.f k l) (fr, true) ∧ fr.length ≤ 1000 ∧ ∀ x, x ∈ fr ↔ x ∈ fvs t 0 := by
  obtain ⟨htree, hw, hn, hd⟩ := tree_of l ht
  have hsize : t.size ≤ 150 := by
    have h3 := ht.2.2.1.span.1
    have h2 := ht.2.1
    omega
  have g1 := fr_impl t 0 [] hw hn (by omega) (by omega)
  refine ⟨Lib.compact (sorted (fvs t 0)), ?_, ?_, fun x => by rw [compact_mem]; exact sort_mem _ _⟩
  · unfold impl_FreeIn.f
    refine Ev.bind hE (Ev.ite_pos rfl ?_)
    have hi : impl_term_freeIn.f (toS t).f0 (toS t).f1 (toS t).f2 = some (Lib.compact (sorted (fvs t 0))) := by
      unfold impl_term_freeIn.f
      rw [toS_eta, sz_impl, if_pos (by omega), g1, List.nil_append]
    exact Ev.bind (Ev.const hi) (Ev.now _)
  · have hc : (Lib.compact (sorted (fvs t 0))).length ≤ (sorted (fvs t 0)).length := by
      unfold Lib.compact Lib.compactUpTo
      rw [List.length_map]
      refine Nat.le_trans (List.length_filter_le _ _) ?_
      simp
    have h2 : (sorted (fvs t 0)).length = (fvs t 0).length := List.length_mergeSort _
    have := fvs_len t 0
    omega
end Go.Proofs.Ytmcmclcebnepgaa.TermL

namespace Go.Proofs.Ytmcmclcebnepgaa.CombL
open Go.RowKit Go.Proofs.Ytmcmclcebnepgaa.G Go.Proofs.Ytmcmclcebnepgaa.EvL Go.Proofs.Ytmcmclcebnepgaa.TreeM Go.Proofs.YtmcmclcebnepgaaW.PrintWords Go.Proofs.YtmcmclcebnepgaaW.PrintLast
set_option linter.unusedVariables false

def SOf (t : Tr) (u : Nat) (r : Int × Int × List S49 × Bool) : Prop := Ev (fun k => spec_ldOf.f k (TermL.toL t).f0 (TermL.toL t).f1 (TermL.toL t).f2 (u : Int)) r
def IOf (t : Tr) (u : Nat) (r : Int × Int × List S42 × Bool) : Prop := Ev (fun k => impl_combOfTerm.f k (TermL.toS t).f0 (TermL.toS t).f1 (TermL.toS t).f2 (u : Int)) r
def lOf (c : Tr) (b : Bool) : Int × Int × List S49 × Bool := ((toL c).f0, (toL c).f1, (toL c).f2, b)
def sOf (c : Tr) (b : Bool) : Int × Int × List S42 × Bool := ((toS c).f0, (toS c).f1, (toS c).f2, b)

def cvs : Tr → List Int
  | .leaf k n => if k = 1 then [n] else []
  | .un _ _ a => cvs a
  | .bin _ _ a b => cvs a ++ cvs b
theorem mem_app {a b : Tr} {x : Int} : x ∈ cvs (.bin 2 0 a b) ↔ x ∈ cvs a ∨ x ∈ cvs b := List.mem_append
theorem no_leaf {k n x : Int} (h : k ≠ 1) : ¬ x ∈ cvs (.leaf k n) := by unfold cvs; rw [if_neg h]; simp
theorem has_iff (y : Int) : ∀ (t : Tr), hasV y t = true ↔ y ∈ cvs t
  | .leaf k n => by
    unfold hasV cvs
    by_cases h : k = 1
    · rw [if_pos h, List.mem_singleton]; simp [h, eq_comm]
    · rw [if_neg h]; simp [h]
  | .un _ _ a => has_iff y a
  | .bin _ _ a b => by
    unfold hasV cvs
    rw [Bool.or_eq_true, List.mem_append, has_iff y a, has_iff y b]
theorem absT_vars (y : Int) : ∀ (t : Tr), t.wf ar → ∀ x ∈ cvs (absT y t), x ∈ cvs t ∧ x ≠ y
  | .leaf k n, h, x, hx => by
    rw [absT] at hx
    split at hx
    · exact absurd hx (no_leaf (by decide))
    · rename_i hv
      rcases mem_app.mp hx with h1 | h1
      · exact absurd h1 (no_leaf (by decide))
      · exact ⟨h1, fun e => hv ((has_iff y _).mpr (e ▸ h1))⟩
  | .un k n a, h, _, _ => (not_un h).elim
  | .bin k n a b, h, x, hx => by
    rw [absT] at hx
    split at hx
    · split at hx
      · rename_i hv
        have hv2 : ¬ hasV y a = true := by
          intro e; rw [e] at hv; simp at hv
        exact ⟨List.mem_append.mpr (.inl hx), fun e => hv2 ((has_iff y _).mpr (e ▸ hx))⟩
      · rcases mem_app.mp hx with h1 | h1
        · rcases mem_app.mp h1 with h1 | h1
          · exact absurd h1 (no_leaf (by decide))
          · have := absT_vars y a h.2.1 x h1
            exact ⟨List.mem_append.mpr (.inl this.1), this.2⟩
        · have := absT_vars y b h.2.2 x h1
          exact ⟨List.mem_append.mpr (.inr this.1), this.2⟩
    · rename_i hv
      rcases mem_app.mp hx with h1 | h1
      · exact absurd h1 (no_leaf (by decide))
      · exact ⟨h1, fun e => hv ((has_iff y _).mpr (e ▸ h1))⟩
def Vars (t : Tr) (u : Nat) (c : Tr) : Prop := ∀ x ∈ cvs c, x ∈ TermL.fvs t u ∨ (100 ≤ x ∧ x < 100 + (u : Int))
theorem ofBoth : ∀ (t : Tr) (u : Nat), t.wf TermL.ar → t.all TermL.numOk → u + t.depth ≤ 1000 →
    (∃ c : Tr, c.wf ar ∧ c.size ≤ 200 ∧ Vars t u c ∧ SOf t u (lOf c true) ∧ IOf t u (sOf c true)) ∨ ((∃ a b c, SOf t u (a, b, c, false)) ∧ ∃ a b c, IOf t u (a, b, c, false))
  | .leaf k n, u, hw, hn, hu => by
    obtain rfl : k = 1 := TermL.want_zero hw
    have hn' : 0 ≤ n ∧ n ≤ 99 := ⟨hn.1, hn.2.1⟩
    have hu' : u + 1 ≤ 1000 := hu
    refine .inl ?_
    by_cases h : n ≥ (u : Int)
    · refine ⟨.leaf 1 (n - u), leaf_wf (by decide) (by decide), by show 1 ≤ 200; omega, (by intro x hx; unfold cvs at hx; rw [if_pos rfl] at hx; left; unfold TermL.fvs; rw [if_pos h]; exact hx), Ev.step (f := fun _ => some (lOf (.leaf 1 (n - u)) true)) (fun m => ?_) (Ev.now _), Ev.step (f := fun _ => some (sOf (.leaf 1 (n - u)) true)) (fun m => ?_) (Ev.now _)⟩
      · show spec_ldOf.f (m + 1) 1 n [] u = _
        simp only [spec_ldOf.f]
        rw [if_pos trivial, if_pos h, w64 (by omega) (by omega), decide_eq_true (by omega)]; rfl
      · show impl_combOfTerm.f (m + 1) 1 n [] u = _
        simp only [impl_combOfTerm.f]
        rw [if_pos trivial, if_neg (by omega), w64 (x := n - u) (by omega) (by omega)]; rfl
    · have w1 : wrap64 (100 + (u : Int)) = 100 + u := w64 (by omega) (by omega)
      have w2 : wrap64 (100 + (u : Int) - 1) = 100 + u - 1 := w64 (by omega) (by omega)
      have w3 : wrap64 (100 + (u : Int) - 1 - n) = 100 + u - 1 - n := w64 (by omega) (by omega)
      refine ⟨.leaf 1 (100 + u - 1 - n), leaf_wf (by decide) (by decide), by show 1 ≤ 200; omega, (by intro x hx; unfold cvs at hx; rw [if_pos rfl, List.mem_singleton] at hx; right; omega), Ev.step (f := fun _ => some (lOf (.leaf 1 (100 + u - 1 - n)) true)) (fun m => ?_) (Ev.now _), Ev.step (f := fun _ => some (sOf (.leaf 1 (100 + u - 1 - n)) true)) (fun m => ?_) (Ev.now _)⟩
      · show spec_ldOf.f (m + 1) 1 n [] u = _
        simp only [spec_ldOf.f, w1, w2, w3]
        rw [if_pos trivial, if_neg h]; rfl
      · show impl_combOfTerm.f (m + 1) 1 n [] u = _
        simp only [impl_combOfTerm.f, w1, w2, w3]
        rw [if_pos trivial, if_pos (by omega)]; rfl
  | .un k n a, u, hw, hn, hu => by
    obtain rfl : k = 2 := TermL.want_one hw.1
    have hu' : u + (a.depth + 1) ≤ 1000 := hu
    have w1 : wrap64 (100 + (u : Int)) = 100 + u := w64 (by omega) (by omega)
    have w2 : wrap64 ((u : Int) + 1) = ((u + 1 : Nat) : Int) := by rw [w64 (by omega) (by omega)]; omega
    have st : ∀ m, spec_ldOf.f (m + 1) 2 n [TermL.toL a] u = (spec_ldOf.f m (TermL.toL a).f0 (TermL.toL a).f1 (TermL.toL a).f2 ((u + 1 : Nat) : Int)).bind fun bt104 => (if bt104.2.2.2 = true then ((spec_ldAbstract.f m bt104.1 bt104.2.1 bt104.2.2.1 (100 + u)).bind fun bt111 => ((spec_ldTold.f m bt111.1 bt111.2.1 bt111.2.2).bind fun bt117 => (some (bt111.1, bt111.2.1, bt111.2.2, bt117.2)))) else (some (bt104.1, bt104.2.1, bt104.2.2.1, false))) := by
      intro m
      simp only [spec_ldOf.f, w1, w2]
      rw [if_neg (by decide), if_pos trivial, if_pos (by simp)]; rfl
    have it : ∀ m, impl_combOfTerm.f (m + 1) 2 n [TermL.toS a] u = (impl_combOfTerm.f m (TermL.toS a).f0 (TermL.toS a).f1 (TermL.toS a).f2 ((u + 1 : Nat) : Int)).bind fun bt114 => (if bt114.2.2.2 = true then ((impl_comb_abstract.f m bt114.1 bt114.2.1 bt114.2.2.1 (100 + u)).bind fun bt121 => ((impl_comb_isGood.f m bt121.1 bt121.2.1 bt121.2.2).bind fun t127 => (some (bt121.1, bt121.2.1, bt121.2.2, t127)))) else (some (0, 0, ([] : List S42), false))) := by
      intro m
      simp only [impl_combOfTerm.f, w1, w2]
      rw [if_neg (by decide), if_pos trivial, if_pos (by simp)]; rfl
    rcases ofBoth a (u + 1) hw.2 hn.2 (by omega) with ⟨c, cw, cs, cv, sE, iE⟩ | ⟨⟨x, y, zz, sE⟩, ⟨x', y', z', iE⟩⟩
    case inr =>
      exact .inr ⟨⟨_, _, _, Ev.step st (Ev.bind sE (Ev.ite_neg (by simp) (Ev.now _)))⟩, ⟨_, _, _, Ev.step it (Ev.bind iE (Ev.ite_neg (by simp) (Ev.now _)))⟩⟩
    have hs3 := absT_size (100 + u) c
    have hw3 := absT_wf (100 + u) c cw
    obtain ⟨o, b, _, htold, _, hb, _⟩ := toldBoth (absT (100 + u) c) hw3 (by omega)
    obtain ⟨b', hgood, hb'⟩ := isGood_ev (absT (100 + u) c) (by omega)
    obtain rfl : b = b' := by rw [Bool.eq_iff_iff, hb, hb']
    have s1 : SOf (.un 2 n a) u (lOf (absT (100 + u) c) b) := Ev.step st (Ev.bind sE (Ev.ite_pos rfl (Ev.bind (abs_spec_ev (100 + u) c cw) (Ev.bind htold (Ev.now _)))))
    have i1 : IOf (.un 2 n a) u (sOf (absT (100 + u) c) b) := Ev.step it (Ev.bind iE (Ev.ite_pos rfl (Ev.bind (abs_impl_ev (100 + u) c cw) (Ev.bind hgood (Ev.now _)))))
    have hv : Vars (.un 2 n a) u (absT (100 + u) c) := by
      intro x hx
      obtain ⟨h1, h2⟩ := absT_vars (100 + u) c cw x hx
      rcases cv x h1 with h3 | h3
      · left; show x ∈ TermL.fvs a (u + 1); rw [show ((u : Int) + 1) = ((u + 1 : Nat) : Int) by omega]; exact h3
      · right; omega
    cases b with
    | true => exact .inl ⟨_, hw3, (hb.mp rfl).1, hv, s1, i1⟩
    | false => exact .inr ⟨⟨_, _, _, s1⟩, ⟨_, _, _, i1⟩⟩
  | .bin k n a b, u, hw, hn, hu => by
    obtain rfl : k = 3 := TermL.want_two hw.1
    have hd1 : a.depth ≤ max a.depth b.depth := Nat.le_max_left ..
    have hd2 : b.depth ≤ max a.depth b.depth := Nat.le_max_right ..
    have hu' : u + (max a.depth b.depth + 1) ≤ 1000 := hu
    have st : ∀ m, spec_ldOf.f (m + 1) 3 n [TermL.toL a, TermL.toL b] u = (spec_ldOf.f m (TermL.toL a).f0 (TermL.toL a).f1 (TermL.toL a).f2 u).bind fun bt122 => (if bt122.2.2.2 = true then ((spec_ldOf.f m (TermL.toL b).f0 (TermL.toL b).f1 (TermL.toL b).f2 u).bind fun bt130 => (if bt130.2.2.2 = true then ((spec_ldTold.f m 2 0 [(⟨bt122.1, bt122.2.1, bt122.2.2.1⟩ : S49), ⟨bt130.1, bt130.2.1, bt130.2.2.1⟩]).bind fun bt143 => (some (2, 0, [(⟨bt122.1, bt122.2.1, bt122.2.2.1⟩ : S49), ⟨bt130.1, bt130.2.1, bt130.2.2.1⟩], bt143.2))) else (some (bt130.1, bt130.2.1, bt130.2.2.1, false)))) else (some (bt122.1, bt122.2.1, bt122.2.2.1, false))) := by
      intro m
      simp only [spec_ldOf.f]
      rw [if_neg (by decide), if_neg (by decide), if_pos (by simp)]; rfl
    have it : ∀ m, impl_combOfTerm.f (m + 1) 3 n [TermL.toS a, TermL.toS b] u = (impl_combOfTerm.f m (TermL.toS a).f0 (TermL.toS a).f1 (TermL.toS a).f2 u).bind fun bt129 => ((impl_combOfTerm.f m (TermL.toS b).f0 (TermL.toS b).f1 (TermL.toS b).f2 u).bind fun bt137 => (if bt129.2.2.2 = true then (if bt137.2.2.2 = true then ((impl_comb_isGood.f m 2 0 [(⟨bt129.1, bt129.2.1, bt129.2.2.1⟩ : S42), ⟨bt137.1, bt137.2.1, bt137.2.2.1⟩]).bind fun t150 => (some (2, 0, [(⟨bt129.1, bt129.2.1, bt129.2.2.1⟩ : S42), ⟨bt137.1, bt137.2.1, bt137.2.2.1⟩], t150))) else (some (2, 0, [(⟨bt129.1, bt129.2.1, bt129.2.2.1⟩ : S42), ⟨bt137.1, bt137.2.1, bt137.2.2.1⟩], false))) else (some (2, 0, [(⟨bt129.1, bt129.2.1, bt129.2.2.1⟩ : S42), ⟨bt137.1, bt137.2.1, bt137.2.2.1⟩], false)))) := by
      intro m
      simp only [impl_combOfTerm.f]
      rw [if_neg (by decide), if_neg (by decide), if_pos (by simp)]; rfl
    rcases ofBoth a u hw.2.1 hn.2.1 (by omega) with ⟨c, cw, cs, cv, sE, iE⟩ | ⟨⟨x, y, zz, sE⟩, ⟨x', y', z', iE⟩⟩ <;>
    rcases ofBoth b u hw.2.2 hn.2.2 (by omega) with ⟨d, dw, ds, dv, sF, iF⟩ | ⟨⟨x2, y2, z2, sF⟩, ⟨x3, y3, z3, iF⟩⟩
    · have hs3 : (app c d).size ≤ 4000 := by show 1 + c.size + d.size ≤ 4000; omega
      have hw3 := app_wf cw dw
      obtain ⟨o, e, _, htold, _, he, _⟩ := toldBoth (app c d) hw3 hs3
      obtain ⟨e', hgood, he'⟩ := isGood_ev (app c d) hs3
      obtain rfl : e = e' := by rw [Bool.eq_iff_iff, he, he']
      have s1 : SOf (.bin 3 n a b) u (lOf (app c d) e) := by
        refine Ev.step st (Ev.bind sE (Ev.ite_pos rfl (Ev.bind sF (Ev.ite_pos rfl ?_))))
        show Ev (fun m => (spec_ldTold.f m 2 0 [(⟨(toL c).f0, (toL c).f1, (toL c).f2⟩ : S49), ⟨(toL d).f0, (toL d).f1, (toL d).f2⟩]).bind fun bt143 => (some (2, 0, [(⟨(toL c).f0, (toL c).f1, (toL c).f2⟩ : S49), ⟨(toL d).f0, (toL d).f1, (toL d).f2⟩], bt143.2))) _
        rw [toL_eta, toL_eta]
        exact Ev.bind htold (Ev.now _)
      have i1 : IOf (.bin 3 n a b) u (sOf (app c d) e) := by
        refine Ev.step it (Ev.bind iE (Ev.bind iF (Ev.ite_pos rfl (Ev.ite_pos rfl ?_))))
        show Ev (fun m => (impl_comb_isGood.f m 2 0 [(⟨(toS c).f0, (toS c).f1, (toS c).f2⟩ : S42), ⟨(toS d).f0, (toS d).f1, (toS d).f2⟩]).bind fun t150 => (some (2, 0, [(⟨(toS c).f0, (toS c).f1, (toS c).f2⟩ : S42), ⟨(toS d).f0, (toS d).f1, (toS d).f2⟩], t150))) _
        rw [toS_eta, toS_eta]
        exact Ev.bind hgood (Ev.now _)
      have hv : Vars (.bin 3 n a b) u (app c d) := by
        intro x hx
        rcases mem_app.mp hx with h1 | h1
        · rcases cv x h1 with h3 | h3
          · exact .inl (List.mem_append.mpr (.inl h3))
          · exact .inr h3
        · rcases dv x h1 with h3 | h3
          · exact .inl (List.mem_append.mpr (.inr h3))
          · exact .inr h3
      cases e with
      | true => exact .inl ⟨_, hw3, (he.mp rfl).1, hv, s1, i1⟩
      | false => exact .inr ⟨⟨_, _, _, s1⟩, ⟨_, _, _, i1⟩⟩
    · exact .inr ⟨⟨_, _, _, Ev.step st (Ev.bind sE (Ev.ite_pos rfl (Ev.bind sF (Ev.ite_neg (by simp) (Ev.now _)))))⟩, ⟨_, _, _, Ev.step it (Ev.bind iE (Ev.bind iF (Ev.ite_pos rfl (Ev.ite_neg (by simp) (Ev.now _)))))⟩⟩
    · exact .inr ⟨⟨_, _, _, Ev.step st (Ev.bind sE (Ev.ite_neg (by simp) (Ev.now _)))⟩, ⟨_, _, _, Ev.step it (Ev.bind iE (Ev.bind iF (Ev.ite_neg (by simp) (Ev.now _))))⟩⟩
    · exact .inr ⟨⟨_, _, _, Ev.step st (Ev.bind sE (Ev.ite_neg (by simp) (Ev.now _)))⟩, ⟨_, _, _, Ev.step it (Ev.bind iE (Ev.bind iF (Ev.ite_neg (by simp) (Ev.now _))))⟩⟩

theorem flat_vars : ∀ (c : Tr) (p : Nat) (v : Int), c.wf ar → ∀ y ∈ TreeM.flat c p v, y.kind = 1 → y.n ∈ cvs c
  | .leaf k n, p, v, h, y, hy, hk => by
    have e : y = ⟨k, n, v⟩ := List.mem_singleton.mp hy
    subst e
    have hk' : k = 1 := hk
    unfold cvs; rw [if_pos hk']; exact List.mem_singleton.mpr rfl
  | .un k n a, _, _, h, _, _, _ => (not_un h).elim
  | .bin k n a b, p, v, h, y, hy, hk => by
    have h2 : k = 2 := want_of h.1.2
    rcases List.mem_cons.mp hy with e | hy
    · subst e; have hk' : k = 1 := hk; omega
    · rcases List.mem_append.mp hy with hy | hy
      · exact List.mem_append.mpr (.inl (flat_vars a _ _ h.2.1 y hy hk))
      · exact List.mem_append.mpr (.inr (flat_vars b _ _ h.2.2 y hy hk))
theorem closedBoth (l : List S70) (hl : l.length ≤ 9223372036854775807) : ∃ (o : List S33) (b : Bool), o.length ≤ 200 ∧ Ev (fun k => spec_CombOfTerm.f k l) (o, b) ∧ Ev (fun k => impl_CombOfTerm.f k l) (o, b) ∧ (b = false → o = []) ∧
    (b = true → ∃ fr : List Int, Ev (fun k => impl_FreeIn.f k l) (fr, true) ∧ fr.length ≤ 1000 ∧ ∀ y ∈ o, y.f0 = 1 → y.f1 ∈ fr) := by
  obtain ⟨b1, e1, h1⟩ := TermL.specGood l hl
  obtain ⟨y, b, hE, hb, hx⟩ := TermL.rootEv l hl
  obtain rfl : b1 = b := by rw [Bool.eq_iff_iff, h1, hb]
  unfold spec_CombOfTerm.f impl_CombOfTerm.f
  by_cases h : b1 = true
  case neg =>
    obtain rfl : b1 = false := by simpa using h
    exact ⟨[], false, by simp, Ev.bind e1 (Ev.ite_neg (by simp) (Ev.now _)), Ev.bind hE (Ev.ite_neg (by simp) (Ev.now _)), fun _ => rfl, fun h => absurd h (by simp)⟩
  subst h
  obtain ⟨t, ht, rfl⟩ := hx rfl
  obtain ⟨htree, hw, hn, hd⟩ := TermL.tree_of l ht
  rcases ofBoth t 0 hw hn (by omega) with ⟨c, cw, cs, cv, sE, iE⟩ | ⟨⟨x, y, zz, sE⟩, ⟨x', y', z', iE⟩⟩
  case inr =>
    exact ⟨[], false, by simp, Ev.bind e1 (Ev.ite_pos rfl (Ev.bind htree (Ev.bind sE (Ev.ite_neg (by simp) (Ev.now _))))), Ev.bind hE (Ev.ite_pos rfl (Ev.bind iE (Ev.ite_neg (by simp) (Ev.now _)))), fun _ => rfl, fun h => absurd h (by simp)⟩
  obtain ⟨o, b, ho, hsp, him, _, ht1, ht0⟩ := toldBoth c cw (by omega)
  refine ⟨o, b, ho, Ev.bind e1 (Ev.ite_pos rfl (Ev.bind htree (Ev.bind sE (Ev.ite_pos rfl (Ev.bind hsp (Ev.now _)))))), Ev.bind hE (Ev.ite_pos rfl (Ev.bind iE (Ev.ite_pos rfl (Ev.bind him (Ev.now _))))), ht0, fun hb => ?_⟩
  obtain ⟨fr, hf, hfl, hm⟩ := TermL.freeIn_ev l ht hE
  refine ⟨fr, hf, hfl, fun y hy hk => ?_⟩
  rw [ht1 hb] at hy
  obtain ⟨q, hq, rfl⟩ := List.mem_map.mp hy
  have h2 := flat_vars c 0 (-1) cw q hq hk
  rcases cv _ h2 with h3 | h3
  · exact (hm _).mpr h3
  · omega
end Go.Proofs.Ytmcmclcebnepgaa.CombL

namespace Go.Proofs.Ytmcmclcebnepgaa.DrawL
open Go.RowKit Go.Proofs.Ytmcmclcebnepgaa.G Go.Proofs.Ytmcmclcebnepgaa.EvL Go.Proofs.YtmcmclcebnepgaaW.PrintWords Go.Proofs.YtmcmclcebnepgaaW.PrintLast
set_option linter.unusedVariables false

def Bytes (c : List Int) : Prop := c.length ≤ 1048576 ∧ ∀ x ∈ c, 0 ≤ x ∧ x ≤ 255
theorem wf8 {n : Int} (h : (Lit.int .u8 n).wf = true) : 0 ≤ n ∧ n ≤ 255 := by
  have h' : (decide (IntKind.u8.min ≤ n) && decide (n ≤ IntKind.u8.max)) = true := h
  simp only [Bool.and_eq_true, decide_eq_true_iff] at h'
  exact ⟨h'.1, h'.2⟩
theorem and255 (x : Int) : 0 ≤ Go.bits .and .u64 x 255 ∧ Go.bits .and .u64 x 255 ≤ 255 := by
  have h2 : (BitVec.ofInt 64 x &&& BitVec.ofInt 64 255).toNat ≤ 255 := by
    rw [BitVec.toNat_and]
    exact Nat.le_trans Nat.and_le_right (by decide)
  show 0 ≤ IntKind.u64.wrap ((BitVec.ofInt 64 x &&& BitVec.ofInt 64 255).toNat : Int) ∧ IntKind.u64.wrap ((BitVec.ofInt 64 x &&& BitVec.ofInt 64 255).toNat : Int) ≤ 255
  rw [IntKind.wrap_u64]
  omega
theorem rd_byte {c : List Int} (hc : Bytes c) (a : Int) (h0 : 0 ≤ a) (h1 : a < c.length) : 0 ≤ rd c a ∧ rd c a ≤ 255 := by
  refine hc.2 _ ?_
  unfold rd
  rw [List.getD_eq_getElem?_getD, List.getElem?_eq_getElem (by omega : a.toNat < c.length)]
  exact List.getElem_mem _
theorem next_ev {c : List Int} (hc : Bytes c) (a s : Int) (h0 : 0 ≤ a) (h1 : a ≤ 4000000) : ∃ r s', spec_l1Cur_next.f c a s = some (r, a + 1, s') ∧ 0 ≤ r ∧ r ≤ 255 := by
  have hl := hc.1
  have w1 : wrap64 (a + 1) = a + 1 := w64 (by omega) (by omega)
  have wa : ∀ x, 0 ≤ wrap64 (Go.bits .and .u64 x 255) ∧ wrap64 (Go.bits .and .u64 x 255) ≤ 255 := fun x => by
    have := and255 x
    rw [w64 (by omega) (by omega)]; exact this
  unfold spec_l1Cur_next.f
  rw [w1]
  by_cases h : a < (c.length : Int)
  · rw [if_pos h, if_pos h0, if_pos (by omega)]
    have hr := rd_byte hc a h0 h
    exact ⟨_, _, rfl, by rw [w64 (by omega) (by omega)]; exact hr⟩
  · rw [if_neg h, if_neg (by omega)]
    exact ⟨_, _, rfl, wa _⟩
theorem pick_ev {c : List Int} (hc : Bytes c) (a s n : Int) (h0 : 0 ≤ a) (h1 : a ≤ 3000000) (hn : 1 ≤ n) (hn2 : n ≤ 60000) : ∃ r a' s', spec_l1Cur_pick.f c a s n = some (r, a', s') ∧ 0 ≤ r ∧ r < n ∧ a ≤ a' ∧ a' ≤ a + 2 := by
  unfold spec_l1Cur_pick.f
  by_cases h : n ≤ 1
  · rw [if_pos h]; exact ⟨_, _, _, rfl, by omega, by omega, by omega, by omega⟩
  rw [if_neg h]
  obtain ⟨r, s1, e1, g0, g1⟩ := next_ev hc a s h0 (by omega)
  rw [e1, Option.bind_some]
  by_cases h2 : n > 200
  · rw [if_pos h2]
    obtain ⟨r2, s2, e2, k0, k1⟩ := next_ev hc (a + 1) s1 (by omega) (by omega)
    rw [e2, Option.bind_some, if_neg (by omega)]
    dsimp only
    have w1 : wrap64 (r * 256) = r * 256 := w64 (by omega) (by omega)
    have w2 : wrap64 (r * 256 + r2) = r * 256 + r2 := w64 (by omega) (by omega)
    rw [w1, w2]
    exact ⟨_, _, _, rfl, Int.tmod_nonneg _ (by omega), Int.tmod_lt_of_pos _ (by omega), by omega, by omega⟩
  · rw [if_neg h2, if_neg (by omega)]
    exact ⟨_, _, _, rfl, Int.tmod_nonneg _ g0, Int.tmod_lt_of_pos _ (by omega), by show a ≤ a + 1; omega, by show a + 1 ≤ a + 2; omega⟩
theorem one_ev {c : List Int} (hc : Bytes c) (a s n : Int) (h0 : 0 ≤ a) (h1 : a ≤ 3000000) (hn : 1 ≤ n) (hn2 : n ≤ 60000) : ∃ r a' s', spec_l1Cur_one.f c a s n = some (r, a', s') ∧ a ≤ a' ∧ a' ≤ a + 2 := by
  obtain ⟨r, a', s', e, _, _, g1, g2⟩ := pick_ev hc a s n h0 h1 hn hn2
  unfold spec_l1Cur_one.f
  rw [e]
  exact ⟨_, _, _, rfl, g1, g2⟩
theorem among_ev {c : List Int} (hc : Bytes c) (a s : Int) (l : List Int) (h0 : 0 ≤ a) (h1 : a ≤ 3000000) (hn : 1 ≤ l.length) (hn2 : l.length ≤ 60000) : ∃ r a' s', spec_l1Cur_among.f c a s l = some (r, a', s') ∧ a ≤ a' ∧ a' ≤ a + 2 := by
  obtain ⟨r, a', s', e, g3, g4, g1, g2⟩ := pick_ev hc a s l.length h0 h1 (by omega) (by omega)
  unfold spec_l1Cur_among.f
  rw [e, Option.bind_some, if_pos g3, if_pos g4]
  exact ⟨_, _, _, rfl, g1, g2⟩
theorem of_ev {c : List Int} (hc : Bytes c) (a s : Int) (l : List ByteArray) (h0 : 0 ≤ a) (h1 : a ≤ 3000000) (hn : 1 ≤ l.length) (hn2 : l.length ≤ 60000) : ∃ (i : Nat) (a' s' : Int), i < l.length ∧ spec_l1Cur_of.f c a s l = some (l.getD i ByteArray.empty, a', s') ∧ a ≤ a' ∧ a' ≤ a + 2 := by
  obtain ⟨r, a', s', e, g3, g4, g1, g2⟩ := pick_ev hc a s l.length h0 h1 (by omega) (by omega)
  unfold spec_l1Cur_of.f
  rw [e, Option.bind_some, if_pos g3, if_pos g4]
  exact ⟨r.toNat, _, _, by omega, rfl, g1, g2⟩

theorem var_ev {c : List Int} (hc : Bytes c) (u : Nat) (a s d x : Int) (hu : u ≤ 5) (h0 : 0 ≤ a) (h1 : a ≤ 2000000) : ∃ k n l a' s', Ev (fun m => spec_l1Cur_term.j1 m u d x true c a s) (k, n, l, a', s') ∧ a ≤ a' ∧ a' ≤ a + 4 := by
  have two : ∀ (b : Bool) (a1 s1 : Int), (b = true → 0 < u) → 0 ≤ a1 → a1 ≤ 2000002 → ∃ k n l a' s', Ev (fun m => spec_l1Cur_term.j2 m u b c a1 s1) (k, n, l, a', s') ∧ a1 ≤ a' ∧ a' ≤ a1 + 2 := by
    intro b a1 s1 hb g0 g1
    cases b with
    | true =>
      have := hb rfl
      obtain ⟨r, a', s', e, _, _, g3, g4⟩ := pick_ev hc a1 s1 u g0 (by omega) (by omega) (by omega)
      refine ⟨1, r, [], a', s', Ev.succ ?_, g3, g4⟩
      simp only [spec_l1Cur_term.j2, e, Option.bind_some, spec_lcVar.f]
      exact Ev.ite_pos trivial (Ev.now _)
    | false =>
      obtain ⟨r, a', s', e, _, _, g3, g4⟩ := pick_ev hc a1 s1 3 g0 (by omega) (by omega) (by omega)
      refine ⟨1, wrap64 (u + r), [], a', s', Ev.succ ?_, g3, g4⟩
      simp only [spec_l1Cur_term.j2, e, Option.bind_some, spec_lcVar.f]
      exact Ev.ite_neg (by simp) (Ev.now _)
  by_cases h : (u : Int) > 0
  · obtain ⟨r, a1, s1, e, g1, g2⟩ := one_ev hc a s 6 h0 (by omega) (by omega) (by omega)
    obtain ⟨k, n, l, a', s', hh, g3, g4⟩ := two (!r) a1 s1 (fun _ => by omega) (by omega) (by omega)
    refine ⟨k, n, l, a', s', Ev.succ ?_, by omega, by omega⟩
    simp only [spec_l1Cur_term.j1, e, Option.bind_some]
    exact Ev.ite_pos trivial (Ev.ite_pos h hh)
  · obtain ⟨k, n, l, a', s', hh, g3, g4⟩ := two false a s (fun h => by simp at h) (by omega) (by omega)
    refine ⟨k, n, l, a', s', Ev.succ ?_, by omega, by omega⟩
    simp only [spec_l1Cur_term.j1]
    exact Ev.ite_pos trivial (Ev.ite_neg h hh)
theorem term_ev {c : List Int} (hc : Bytes c) : ∀ (d : Nat) (u : Nat) (a s : Int), d ≤ 4 → u + d ≤ 4 → 0 ≤ a → a + 12 * 2 ^ d ≤ 1000000 → ∃ k n l a' s', Ev (fun m => spec_l1Cur_term.f m c a s u d) (k, n, l, a', s') ∧ a ≤ a' ∧ a' ≤ a + 12 * 2 ^ d - 6
  | 0, u, a, s, hd, hu, h0, h1 => by
    obtain ⟨x, a1, s1, e1, g1, g2, g3, g4⟩ := pick_ev hc a s 6 h0 (by omega) (by omega) (by omega)
    obtain ⟨k, n, l, a', s', h, g5, g6⟩ := var_ev hc u a1 s1 _ _ (by omega) (by omega) (by omega)
    refine ⟨k, n, l, a', s', Ev.succ ?_, by omega, by omega⟩
    simp only [spec_l1Cur_term.f, e1, Option.bind_some]
    refine Ev.ite_pos rfl (Ev.succ ?_)
    simp only [spec_l1Cur_term.j0]
    exact Ev.ite_pos trivial h
  | d + 1, u, a, s, hd, hu, h0, h1 => by
    have w1 : wrap64 ((u : Int) + 1) = ((u + 1 : Nat) : Int) := by rw [w64 (by omega) (by omega)]; omega
    have w2 : wrap64 (((d + 1 : Nat) : Int) - 1) = (d : Int) := by rw [w64 (by omega) (by omega)]; omega
    have hp : (2 : Int) ^ (d + 1) = 2 * 2 ^ d := by rw [Int.pow_succ]; omega
    have hq : (1 : Int) ≤ 2 ^ d ∧ (2 : Int) ^ d ≤ 16 := by
      have : d = 0 ∨ d = 1 ∨ d = 2 ∨ d = 3 := by omega
      rcases this with rfl | rfl | rfl | rfl <;> decide
    rw [hp] at h1 ⊢
    obtain ⟨x, a1, s1, e1, g1, g2, g3, g4⟩ := pick_ev hc a s 6 h0 (by omega) (by omega) (by omega)
    have main : ∃ k n l a' s', Ev (fun m => spec_l1Cur_term.j0 m u ((d + 1 : Nat) : Int) x c a1 s1) (k, n, l, a', s') ∧ a1 ≤ a' ∧ a' ≤ a1 + 24 * 2 ^ d - 12 := by
      by_cases hx : x = 0 ∨ x = 1
      · obtain ⟨k, n, l, a', s', h, g5, g6⟩ := var_ev hc u a1 s1 ((d + 1 : Nat) : Int) x (by omega) (by omega) (by omega)
        refine ⟨k, n, l, a', s', Ev.succ ?_, by omega, by omega⟩
        simp only [spec_l1Cur_term.j0]
        rcases hx with rfl | rfl
        · exact Ev.ite_pos rfl h
        · exact Ev.ite_neg (by decide) h
      obtain ⟨k, n, l, a2, s2, h, g5, g6⟩ := term_ev hc d (u + 1) a1 s1 (by omega) (by omega) (by omega) (by omega)
      obtain ⟨k', n', l', a3, s3, h', g7, g8⟩ := term_ev hc d u a2 s2 (by omega) (by omega) (by omega) (by omega)
      obtain ⟨k2, n2, l2, a4, s4, h2, g9, g10⟩ := term_ev hc d u a1 s1 (by omega) (by omega) (by omega) (by omega)
      obtain ⟨k3, n3, l3, a5, s5, h3, g11, g12⟩ := term_ev hc d u a4 s4 (by omega) (by omega) (by omega) (by omega)
      have j : ∀ r, Ev (fun m => spec_l1Cur_term.j3 m u ((d + 1 : Nat) : Int) x (x == 2 || x == 3) c a1 s1) r → Ev (fun m => spec_l1Cur_term.j0 m u ((d + 1 : Nat) : Int) x c a1 s1) r := by
        intro r hr
        refine Ev.succ ?_
        simp only [spec_l1Cur_term.j0]
        refine Ev.ite_neg (fun e => hx (.inl e)) (Ev.succ ?_)
        simp only [spec_l1Cur_term.j1]
        refine Ev.ite_neg (by simp; omega) ?_
        by_cases e2 : x = 2
        · subst e2; exact Ev.ite_pos rfl hr
        · refine Ev.ite_neg e2 ?_
          have : (x == 2 || x == 3) = (x == 3) := by simp [e2]
          rw [this] at hr; exact hr
      by_cases e23 : x = 2 ∨ x = 3
      · refine ⟨2, 0, [⟨k, n, l⟩], a2, s2, j _ ?_, by omega, by omega⟩
        refine Ev.succ ?_
        simp only [spec_l1Cur_term.j3, w1, w2]
        refine Ev.ite_pos (by simp; omega) (Ev.bind h ?_)
        exact Ev.now _
      by_cases e4 : x = 4
      · refine ⟨3, 0, [⟨2, 0, [⟨k, n, l⟩]⟩, ⟨k', n', l'⟩], a3, s3, j _ ?_, by omega, by omega⟩
        refine Ev.succ ?_
        simp only [spec_l1Cur_term.j3, w1, w2]
        refine Ev.ite_neg (by simp; omega) (Ev.ite_pos e4 (Ev.bind h (Ev.bind (Ev.now _) (Ev.bind h' ?_))))
        exact Ev.now _
      · refine ⟨3, 0, [⟨k2, n2, l2⟩, ⟨k3, n3, l3⟩], a5, s5, j _ ?_, by omega, by omega⟩
        refine Ev.succ ?_
        simp only [spec_l1Cur_term.j3, w1, w2]
        refine Ev.ite_neg (by simp; omega) (Ev.ite_neg e4 (Ev.bind h2 ?_))
        exact Ev.bind h3 (Ev.now _)
    obtain ⟨k, n, l, a', s', h, g5, g6⟩ := main
    refine ⟨k, n, l, a', s', Ev.succ ?_, by omega, by omega⟩
    simp only [spec_l1Cur_term.f, e1, Option.bind_some]
    exact Ev.ite_neg (by omega) h
theorem small_mono_l : ∀ k, (∀ y0 y1 y2, LeO (spec_laSmall.l0 k y0 y1 y2) (spec_laSmall.l0 (k + 1) y0 y1 y2))
 | 0 => fun _ _ _ r h => by simp [spec_laSmall.l0] at h
 | k + 1 => by
  have ih0 := small_mono_l k
  ·intro y0 y1 y2
   unfold spec_laSmall.l0
   repeat' first
   | (with_reducible exact ih0 _ _ _)
   | (with_reducible exact LeO.refl _)
   | (with_reducible exact LeO.none _)
   | (with_reducible refine LeO.ite ?_ ?_)
   | (with_reducible refine LeO.bind ?_ (fun _ => ?_))
   | exact ih0 _ _ _
   | exact LeO.none _
   | refine LeO.ite ?_ ?_
   | refine LeO.bind ?_ (fun _ => ?_)
theorem small_mono : ∀ a0 k, LeO (spec_laSmall.f k a0) (spec_laSmall.f (k + 1) a0) := by
 intro a0 k
 have ih0 := small_mono_l k
 unfold spec_laSmall.f
 repeat' first
   | (with_reducible exact ih0 _ _ _)
   | (with_reducible exact LeO.refl _)
   | (with_reducible exact LeO.none _)
   | (with_reducible refine LeO.ite ?_ ?_)
   | (with_reducible refine LeO.bind ?_ (fun _ => ?_))
   | exact ih0 _ _ _
   | exact LeO.none _
   | refine LeO.ite ?_ ?_
   | refine LeO.bind ?_ (fun _ => ?_)
theorem read_mono_l : ∀ k, (∀ y0 y1, LeO (spec_lcRead.f k y0 y1) (spec_lcRead.f (k + 1) y0 y1)) ∧ (∀ y0 y1 y2, LeO (spec_lcRead.j0 k y0 y1 y2) (spec_lcRead.j0 (k + 1) y0 y1 y2)) ∧ (∀ y0 y1 y2 y3 y4 y5 y6, LeO (spec_lcRead.j1 k y0 y1 y2 y3 y4 y5 y6) (spec_lcRead.j1 (k + 1) y0 y1 y2 y3 y4 y5 y6)) ∧ (∀ y0 y1, LeO (spec_lcRead.j3 k y0 y1) (spec_lcRead.j3 (k + 1) y0 y1)) ∧ (∀ y0 y1, LeO (spec_lcRead.l0 k y0 y1) (spec_lcRead.l0 (k + 1) y0 y1))
 | 0 => ⟨fun _ _ r h => by simp [spec_lcRead.f] at h, fun _ _ _ r h => by simp [spec_lcRead.j0] at h, fun _ _ _ _ _ _ _ r h => by simp [spec_lcRead.j1] at h, fun _ _ r h => by simp [spec_lcRead.j3] at h, fun _ _ r h => by simp [spec_lcRead.l0] at h⟩
 | k + 1 => by
  obtain ⟨ih0, ih1, ih2, ih3, ih4⟩ := read_mono_l k
  refine ⟨?_, ?_, ?_, ?_, ?_⟩
  ·intro y0 y1
   unfold spec_lcRead.f
   repeat' first
   | (with_reducible exact ih0 _ _)
   | (with_reducible exact ih1 _ _ _)
   | (with_reducible exact ih2 _ _ _ _ _ _ _)
   | (with_reducible exact ih3 _ _)
   | (with_reducible exact ih4 _ _)
   | (with_reducible exact small_mono _ _)
   | (with_reducible exact LeO.refl _)
   | (with_reducible exact LeO.none _)
   | (with_reducible refine LeO.ite ?_ ?_)
   | (with_reducible refine LeO.bind ?_ (fun _ => ?_))
   | exact ih0 _ _
   | exact ih1 _ _ _
   | exact ih2 _ _ _ _ _ _ _
   | exact ih3 _ _
   | exact ih4 _ _
   | exact small_mono _ _
   | exact LeO.none _
   | refine LeO.ite ?_ ?_
   | refine LeO.bind ?_ (fun _ => ?_)
  ·intro y0 y1 y2
   unfold spec_lcRead.j0
   repeat' first
   | (with_reducible exact ih0 _ _)
   | (with_reducible exact ih1 _ _ _)
   | (with_reducible exact ih2 _ _ _ _ _ _ _)
   | (with_reducible exact ih3 _ _)
   | (with_reducible exact ih4 _ _)
   | (with_reducible exact small_mono _ _)
   | (with_reducible exact LeO.refl _)
   | (with_reducible exact LeO.none _)
   | (with_reducible refine LeO.ite ?_ ?_)
   | (with_reducible refine LeO.bind ?_ (fun _ => ?_))
   | exact ih0 _ _
   | exact ih1 _ _ _
   | exact ih2 _ _ _ _ _ _ _
   | exact ih3 _ _
   | exact ih4 _ _
   | exact small_mono _ _
   | exact LeO.none _
   | refine LeO.ite ?_ ?_
   | refine LeO.bind ?_ (fun _ => ?_)
  ·intro y0 y1 y2 y3 y4 y5 y6
   unfold spec_lcRead.j1
   repeat' first
   | (with_reducible exact ih0 _ _)
   | (with_reducible exact ih1 _ _ _)
   | (with_reducible exact ih2 _ _ _ _ _ _ _)
   | (with_reducible exact ih3 _ _)
   | (with_reducible exact ih4 _ _)
   | (with_reducible exact small_mono _ _)
   | (with_reducible exact LeO.refl _)
   | (with_reducible exact LeO.none _)
   | (with_reducible refine LeO.ite ?_ ?_)
   | (with_reducible refine LeO.bind ?_ (fun _ => ?_))
   | exact ih0 _ _
   | exact ih1 _ _ _
   | exact ih2 _ _ _ _ _ _ _
   | exact ih3 _ _
   | exact ih4 _ _
   | exact small_mono _ _
   | exact LeO.none _
   | refine LeO.ite ?_ ?_
   | refine LeO.bind ?_ (fun _ => ?_)
  ·intro y0 y1
   unfold spec_lcRead.j3
   repeat' first
   | (with_reducible exact ih0 _ _)
   | (with_reducible exact ih1 _ _ _)
   | (with_reducible exact ih2 _ _ _ _ _ _ _)
   | (with_reducible exact ih3 _ _)
   | (with_reducible exact ih4 _ _)
   | (with_reducible exact small_mono _ _)
   | (with_reducible exact LeO.refl _)
   | (with_reducible exact LeO.none _)
   | (with_reducible refine LeO.ite ?_ ?_)
   | (with_reducible refine LeO.bind ?_ (fun _ => ?_))
   | exact ih0 _ _
   | exact ih1 _ _ _
   | exact ih2 _ _ _ _ _ _ _
   | exact ih3 _ _
   | exact ih4 _ _
   | exact small_mono _ _
   | exact LeO.none _
   | refine LeO.ite ?_ ?_
   | refine LeO.bind ?_ (fun _ => ?_)
  ·intro y0 y1
   unfold spec_lcRead.l0
   repeat' first
   | (with_reducible exact ih0 _ _)
   | (with_reducible exact ih1 _ _ _)
   | (with_reducible exact ih2 _ _ _ _ _ _ _)
   | (with_reducible exact ih3 _ _)
   | (with_reducible exact ih4 _ _)
   | (with_reducible exact small_mono _ _)
   | (with_reducible exact LeO.refl _)
   | (with_reducible exact LeO.none _)
   | (with_reducible refine LeO.ite ?_ ?_)
   | (with_reducible refine LeO.bind ?_ (fun _ => ?_))
   | exact ih0 _ _
   | exact ih1 _ _ _
   | exact ih2 _ _ _ _ _ _ _
   | exact ih3 _ _
   | exact ih4 _ _
   | exact small_mono _ _
   | exact LeO.none _
   | refine LeO.ite ?_ ?_
   | refine LeO.bind ?_ (fun _ => ?_)
theorem read_mono : ∀ a0 a1 k, LeO (spec_lcRead.f k a0 a1) (spec_lcRead.f (k + 1) a0 a1) := by
 intro a0 a1 k
 obtain ⟨ih0, ih1, ih2, ih3, ih4⟩ := read_mono_l k
 exact ih0 a0 a1
theorem Ev.mono {α : Type} {g : Nat → Option α} {r : α} (K : Nat) (h : g K = some r) (hm : ∀ k, LeO (g k) (g (k + 1))) : Ev g r :=
  ⟨K, fun k hk => by
    induction hk with
    | refl => exact h
    | step _ ih => exact hm _ _ ih⟩
def knowns : List ByteArray := [(⟨#[92, 48]⟩ : ByteArray), (⟨#[92, 92, 49]⟩ : ByteArray), (⟨#[92, 92, 92, 40, 40, 50, 32, 48, 41, 32, 40, 49, 32, 48, 41, 41]⟩ : ByteArray), (⟨#[92, 92, 40, 49, 32, 40, 49, 32, 48, 41, 41]⟩ : ByteArray), (⟨#[40, 92, 40, 48, 32, 48, 41, 32, 92, 40, 48, 32, 48, 41, 41]⟩ : ByteArray), (⟨#[92, 40, 92, 40, 49, 32, 40, 48, 32, 48, 41, 41, 32, 92, 40, 49, 32, 40, 48, 32, 48, 41, 41, 41]⟩ : ByteArray), (⟨#[92, 92, 40, 48, 32, 49, 41]⟩ : ByteArray), (⟨#[40, 40, 92, 92, 40, 49, 32, 40, 49, 32, 48, 41, 41, 32, 92, 92, 40, 49, 32, 40, 49, 32, 48, 41, 41, 41, 32, 92, 48, 41]⟩ : ByteArray)]
theorem knowns_all : ∀ i : Fin 8, (spec_lcRead.f 100 (knowns.getD i.val ByteArray.empty) 1).isSome = true := by decide +kernel
theorem known_ev {c : List Int} (hc : Bytes c) (a s : Int) (h0 : 0 ≤ a) (h1 : a ≤ 3000000) : ∃ k n l a' s', Ev (fun m => spec_l1Cur_known.f m c a s) (k, n, l, a', s') ∧ a ≤ a' ∧ a' ≤ a + 2 := by
  obtain ⟨i, a', s', hi, e, g1, g2⟩ := of_ev hc a s knowns h0 h1 (by decide) (by decide)
  obtain ⟨⟨k, n, l, x⟩, hr⟩ := Option.isSome_iff_exists.mp (knowns_all ⟨i, hi⟩)
  refine ⟨k, n, l, a', s', ?_, g1, g2⟩
  unfold spec_l1Cur_known.f
  show Ev (fun m => (spec_l1Cur_of.f c a s knowns).bind _) _
  rw [e]
  exact Ev.bind (Ev.now _) (Ev.bind (Ev.mono 100 hr (fun k => read_mono _ _ k)) (Ev.now _))
theorem len_ge : ∀ (N : Nat), (∀ (x : S54) (up : Int) (l : List S70), SizeOf.sizeOf x ≤ N → l.length + 1 ≤ (Flat54.flT x up l).length) ∧ (∀ (xs : List S54) (k : Int) (l : List S70), SizeOf.sizeOf xs ≤ N → l.length ≤ (Flat54.flL xs k l).length) := by
  intro N
  induction N with
  | zero =>
    refine ⟨fun x up l h => ?_, fun xs k l h => ?_⟩
    · cases x; simp at h
    · cases xs <;> simp at h
  | succ N ih =>
    refine ⟨fun x up l h => ?_, fun xs k l h => ?_⟩
    · cases x with
      | mk k n ks =>
        rw [Flat54.flT]
        have := ih.2 ks (l.length : Int) (l ++ [⟨k, n, up⟩]) (by simp at h; omega)
        rw [List.length_append] at this
        exact this
    · cases xs with
      | nil => rw [Flat54.flL]; exact Nat.le_refl _
      | cons x xs =>
        rw [Flat54.flL]
        have h1 : SizeOf.sizeOf x ≤ N := by simp at h; omega
        have h2 : SizeOf.sizeOf xs ≤ N := by simp at h; omega
        refine Nat.le_trans ?_ (ih.2 xs k _ h2)
        split
        · exact Nat.le_of_succ_le (ih.1 x k l h1)
        · exact Nat.le_refl _
theorem nodes_ev {c : List Int} (hc : Bytes c) (a s k n : Int) (ks : List S54) (h0 : 0 ≤ a) (h1 : a ≤ 1000000) : ∃ l a' s', Ev (fun m => spec_l1Cur_terms.j0 m c a s k n ks) (l, a', s') ∧ l.length ≤ 152 := by
  have hlo := (len_ge _).1 ⟨k, n, ks⟩ (-1) [] (Nat.le_refl _)
  have hhi := Flat54.flT_len ⟨k, n, ks⟩ (-1) [] (by simp)
  have hf : ∀ m, spec_lcFlat.f m ([] : List S70) k n ks (-1) = some (Flat54.flT ⟨k, n, ks⟩ (-1) []) := fun m => rfl
  generalize Flat54.flT ⟨k, n, ks⟩ (-1) [] = L at hlo hhi hf
  have hlo' : 1 ≤ L.length := hlo
  have w1 : wrap64 ((L.length : Int) - 1) = (L.length : Int) - 1 := w64 (by omega) (by omega)
  obtain ⟨x, a1, s1, e1, g1, g2, g3, g4⟩ := pick_ev hc a s 40 h0 (by omega) (by omega) (by omega)
  obtain ⟨y, a2, s2, e2, _, _⟩ := among_ev hc a1 s1 [(-1), 99, 100] (by omega) (by omega) (by decide) (by decide)
  obtain ⟨z, a3, s3, e3, _⟩ := pick_ev hc a1 s1 4 (by omega) (by omega) (by omega) (by omega)
  obtain ⟨z', a4, s4, e4, _⟩ := pick_ev hc a1 s1 3 (by omega) (by omega) (by omega) (by omega)
  have st : ∀ m, spec_l1Cur_terms.j0 (m + 1) c a s k n ks = if x = 0 then some (L.set ((L.length : Int) - 1).toNat ⟨(rd_T70 L ((L.length : Int) - 1)).f0, y, (rd_T70 L ((L.length : Int) - 1)).f2⟩, a2, s2) else if x = 1 then some (L.set ((L.length : Int) - 1).toNat ⟨(rd_T70 L ((L.length : Int) - 1)).f0, (rd_T70 L ((L.length : Int) - 1)).f1, wrap64 (z - 1)⟩, a3, s3) else if x = 2 then some (L ++ [⟨wrap64 (1 + z'), 0, 0⟩], a4, s4) else some (L, a1, s1) := by
    intro m
    have p1 := eq_true (show 0 ≤ (L.length : Int) - 1 by omega)
    have p2 := eq_true (show (L.length : Int) - 1 < (L.length : Int) by omega)
    have p3 := eq_true (show L.length < 5864062014805 by omega)
    simp only [spec_l1Cur_terms.j0, hf, Option.bind_some, e1, e2, e3, e4, w1, p1, p2, p3, if_true]
  by_cases h : x = 0
  · exact ⟨_, _, _, Ev.step st (Ev.ite_pos h (Ev.now _)), by rw [List.length_set]; omega⟩
  by_cases h2 : x = 1
  · exact ⟨_, _, _, Ev.step st (Ev.ite_neg h (Ev.ite_pos h2 (Ev.now _))), by rw [List.length_set]; omega⟩
  by_cases h3 : x = 2
  · exact ⟨_, _, _, Ev.step st (Ev.ite_neg h (Ev.ite_neg h2 (Ev.ite_pos h3 (Ev.now _)))), by rw [List.length_append]; show L.length + 1 ≤ 152; omega⟩
  · exact ⟨_, _, _, Ev.step st (Ev.ite_neg h (Ev.ite_neg h2 (Ev.ite_neg h3 (Ev.now _)))), by omega⟩
theorem draw_ev {c : List Int} (hc : Bytes c) : ∃ l, Ev (fun m => spec_DrawCombOfTerm.f m c) l ∧ l.length ≤ 152 := by
  obtain ⟨x, a1, s1, e1, g1, g2, g3, g4⟩ := pick_ev hc 0 0 4 (by omega) (by omega) (by omega) (by omega)
  obtain ⟨d, rfl⟩ : ∃ d : Nat, x = (d : Int) := ⟨x.toNat, by omega⟩
  have w1 : wrap64 (1 + (d : Int)) = ((d + 1 : Nat) : Int) := by rw [w64 (by omega) (by omega)]; omega
  have hb : (12 : Int) * 2 ^ (d + 1) ≤ 192 := by
    have : d = 0 ∨ d = 1 ∨ d = 2 ∨ d = 3 := by omega
    rcases this with rfl | rfl | rfl | rfl <;> decide
  obtain ⟨k, n, ks, a2, s2, h2, g5, g6⟩ := term_ev hc (d + 1) 0 a1 s1 (by omega) (by omega) (by omega) (by omega)
  obtain ⟨y, a3, s3, e3, _, _, g7, g8⟩ := pick_ev hc a2 s2 5 (by omega) (by omega) (by omega) (by omega)
  obtain ⟨k1, n1, l1, a4, s4, h4, g9, g10⟩ := known_ev hc a3 s3 (by omega) (by omega)
  obtain ⟨k2, n2, l2, a5, s5, h5, g11, g12⟩ := known_ev hc a4 s4 (by omega) (by omega)
  have key : ∃ l a' s', Ev (fun m => spec_l1Cur_terms.f m c 0 0) (l, a', s') ∧ l.length ≤ 152 := by
    simp only [spec_l1Cur_terms.f, e1, Option.bind_some, w1]
    by_cases h : y = 0
    · obtain ⟨l, a', s', hl, hn⟩ := nodes_ev hc a5 s5 3 0 [⟨k1, n1, l1⟩, ⟨k2, n2, l2⟩] (by omega) (by omega)
      exact ⟨l, a', s', Ev.bind h2 (Ev.bind (Ev.const e3) (Ev.ite_pos h (Ev.bind h4 (Ev.bind h5 hl)))), hn⟩
    by_cases h' : y = 1
    · obtain ⟨l, a', s', hl, hn⟩ := nodes_ev hc a4 s4 3 0 [⟨k1, n1, l1⟩, ⟨k, n, ks⟩] (by omega) (by omega)
      exact ⟨l, a', s', Ev.bind h2 (Ev.bind (Ev.const e3) (Ev.ite_neg h (Ev.ite_pos h' (Ev.bind h4 hl)))), hn⟩
    · obtain ⟨l, a', s', hl, hn⟩ := nodes_ev hc a3 s3 k n ks (by omega) (by omega)
      exact ⟨l, a', s', Ev.bind h2 (Ev.bind (Ev.const e3) (Ev.ite_neg h (Ev.ite_neg h' hl))), hn⟩
  obtain ⟨l, a', s', hl, hn⟩ := key
  exact ⟨l, Ev.bind hl (Ev.now _), hn⟩
end Go.Proofs.Ytmcmclcebnepgaa.DrawL

namespace Go.Proofs.Ytmcmclcebnepgaa.Pure
open Go.RowKit Go.Proofs.Ytmcmclcebnepgaa.G Go.Proofs.Ytmcmclcebnepgaa.EvL Go.Proofs.Ytmcmclcebnepgaa.CombL Go.Proofs.YtmcmclcebnepgaaW.PrintWords Go.Proofs.YtmcmclcebnepgaaW.PrintLast

theorem same (a : List S33) (ha : a.length ≤ 9223372036854775807) : Ev (fun k => laws_sameCombs.f k a a) true := by
  unfold laws_sameCombs.f
  refine Ev.ite_pos rfl ?_
  refine Ev.of_eq (ev_all (fun k i => laws_sameCombs.l0 k a a a.length i) a.length (fun _ => true) ?_ ?_ a.length 0 (by omega)) (by simp)
  · intro k i hi
    simp only [laws_sameCombs.l0]
    rw [if_pos (by omega), if_pos (by omega), if_pos (by omega), if_pos (by omega), if_neg (by simp), w64 (by omega) (by omega)]
    rfl
  · intro k
    simp only [laws_sameCombs.l0]
    rw [if_neg (by omega)]
theorem inner (fr : List Int) (hf : fr.length ≤ 1000) (c : List S33) (n i f0 f1 f2 : Int) (hnext : Ev (fun k => laws_FnClosed.l0 k fr c n (wrap64 (i + 1))) true) :
    ∀ (d j : Nat) (has : Bool), j + d = fr.length → (has = true ∨ ∃ q, j ≤ q ∧ ∃ h : q < fr.length, fr[q] = f1) → Ev (fun k => laws_FnClosed.l1 k fr has c n i fr fr.length j f0 f1 f2) true
  | 0, j, has, hj, h => by
    have hh : has = true := by
      rcases h with h | ⟨q, h1, h2, _⟩
      · exact h
      · omega
    subst hh
    refine Ev.succ ?_
    simp only [laws_FnClosed.l1]
    exact Ev.ite_neg (by omega) (Ev.ite_pos trivial hnext)
  | d + 1, j, has, hj, h => by
    have w1 : wrap64 ((j : Int) + 1) = ((j + 1 : Nat) : Int) := by rw [w64 (by omega) (by omega)]; omega
    have hr : rd fr (j : Int) = fr[j]'(by omega) := by
      unfold rd
      rw [Int.toNat_natCast, List.getD_eq_getElem?_getD, List.getElem?_eq_getElem (by omega)]; rfl
    refine Ev.succ ?_
    simp only [laws_FnClosed.l1, w1]
    refine Ev.ite_pos (by omega) (Ev.ite_pos (by omega) (Ev.ite_pos (by omega) ?_))
    cases has with
    | true => exact Ev.ite_pos rfl (inner fr hf c n i f0 f1 f2 hnext d (j + 1) true (by omega) (.inl rfl))
    | false =>
      refine Ev.ite_neg (by simp) (inner fr hf c n i f0 f1 f2 hnext d (j + 1) _ (by omega) ?_)
      rcases h with h | ⟨q, h1, h2, h3⟩
      · exact absurd h (by simp)
      · by_cases e : q = j
        · subst e; left; rw [hr, h3]; simp
        · right; exact ⟨q, by omega, h2, h3⟩
theorem outer (fr : List Int) (hf : fr.length ≤ 1000) (c : List S33) (hc : c.length ≤ 200) (h : ∀ y ∈ c, y.f0 = 1 → y.f1 ∈ fr) : ∀ (d i : Nat), i + d = c.length → Ev (fun k => laws_FnClosed.l0 k fr c c.length i) true
  | 0, i, hi => by
    refine Ev.succ ?_
    simp only [laws_FnClosed.l0]
    exact Ev.ite_neg (by omega) (Ev.now _)
  | d + 1, i, hi => by
    have w1 : wrap64 ((i : Int) + 1) = ((i + 1 : Nat) : Int) := by rw [w64 (by omega) (by omega)]; omega
    have ih := outer fr hf c hc h d (i + 1) (by omega)
    have hm : rd_T33 c (i : Int) ∈ c := by
      unfold rd_T33
      rw [Int.toNat_natCast, List.getD_eq_getElem?_getD, List.getElem?_eq_getElem (by omega)]
      exact List.getElem_mem _
    refine Ev.succ ?_
    simp only [laws_FnClosed.l0]
    refine Ev.ite_pos (by omega) (Ev.ite_pos (by omega) (Ev.ite_pos (by omega) (inner fr hf c _ _ _ _ _ (by rw [w1]; exact ih) fr.length 0 _ (by omega) ?_)))
    by_cases h1 : (rd_T33 c (i : Int)).f0 = 1
    · right
      obtain ⟨q, hq, e⟩ := List.getElem_of_mem (h _ hm h1)
      exact ⟨q, by omega, hq, e⟩
    · left; simpa using h1

theorem FnClosed : laws_FnClosed.Pure := by
  intro l0 _ hl
  refine Ev.rounds ?_
  unfold laws_FnClosed.f
  by_cases h : (l0.length : Int) > 1048576
  · exact Ev.ite_pos h (Ev.now _)
  have hb : DrawL.Bytes l0 := ⟨by omega, fun x hx => DrawL.wf8 (hl.2 x hx)⟩
  obtain ⟨l, hd, hn⟩ := DrawL.draw_ev hb
  obtain ⟨o, b, ho, hsp, him, h0, h1⟩ := closedBoth l (by omega)
  refine Ev.ite_neg h (Ev.bind hd (Ev.bind him (Ev.bind hsp (Ev.ite_neg (by simp) (Ev.bind (same o (by omega)) (Ev.succ ?_))))))
  simp only [laws_FnClosed.j0]
  refine Ev.ite_neg (by simp) ?_
  cases b with
  | false =>
    rw [h0 rfl]
    exact Ev.ite_neg (by simp) (Ev.now _)
  | true =>
    obtain ⟨fr, hf, hfl, hm⟩ := h1 rfl
    exact Ev.ite_pos rfl (Ev.bind hf (Ev.ite_pos rfl (outer fr hfl o ho hm o.length 0 (by omega))))
end Go.Proofs.Ytmcmclcebnepgaa.Pure

namespace Go.Proofs.Ytmcmclcebnepgaa.Open
open Go.RowKit Go.Proofs.YtmcmclcebnepgaaW.PrintWords
open Go.WideShapes
set_option linter.unusedVariables false

def Opens {α : Type} (H : Type) (enc : TypeId × Value → H) (P : Program) (t : TypeId) (d : Kd α) (good : α → Prop) : Prop :=
  ∀ (w : World) (base : Nat) (spare : Nat → Bool) (held : Bool) (fuel : Nat) (cs : List Value) (x : DataW H × List MemPlace),
    DataW.trod enc P w base spare held fuel t cs = some x → ∃ v, d.K w v cs ∧ good v

section
variable {H : Type} {enc : TypeId × Value → H} {P : Program}

theorem opens_int {t : TypeId} {k : IntKind} (ht : P.underlying t = some (.int k)) : Opens H enc P t (Kd.int k) (fun n => (Lit.int k n).wf = true) := by
  intro w base spare held fuel cs x h
  obtain ⟨n, rfl, _, hw⟩ := DataW.trod_int ht h
  exact ⟨n, rfl, hw⟩

theorem choose_list {α : Type} (p : Nat → α → Prop) : ∀ n : Nat, (∀ i, i < n → ∃ a, p i a) → ∃ l : List α, l.length = n ∧ ∀ i a, l[i]? = some a → p i a
  | 0, _ => ⟨[], rfl, fun i a h => by simp at h⟩
  | n + 1, h => by
    obtain ⟨l, hl, hp⟩ := choose_list p n (fun i hi => h i (by omega))
    obtain ⟨a, ha⟩ := h n (by omega)
    refine ⟨l ++ [a], by simp [hl], fun i b hb => ?_⟩
    by_cases hi : i < n
    · exact hp i b (by rwa [List.getElem?_append_left (by omega)] at hb)
    · rw [List.getElem?_append_right (by omega)] at hb
      have : i - l.length = 0 := by
        by_cases h0 : i - l.length = 0
        · exact h0
        · rw [List.getElem?_eq_none (by simp; omega)] at hb; simp at hb
      rw [this] at hb
      obtain rfl : a = b := by simpa using hb
      obtain rfl : i = n := by omega
      exact ha

theorem opens_slice {α : Type} {t e : TypeId} {d : Kd α} {good : α → Prop} (ht : P.underlying t = some (.slice e)) (he : Opens H enc P e d good) (hc : P.cellsOf e = d.sz) :
    Opens H enc P t (Kd.slice e d) (fun l => l.length ≤ 9223372036854775807 ∧ ∀ x ∈ l, good x) := by
  intro w base spare held fuel cs x h
  rcases DataW.trod_slice ht h with ⟨rfl, _⟩ | ⟨a, len, cap, elems, rest, n, _, rfl, _, hb, hl, hm, hel, hg, _, _⟩
  · exact ⟨[], ⟨none, 0, rfl, Nat.le_refl _, ⟨rfl, by simp, fun h => by simp at h⟩⟩, by simp, by simp⟩
  · have hm' : cap ≤ 9223372036854775807 := hm
    have key : ∀ i, i < len → ∃ v : α, good v ∧ ∃ c : List Value, c.length = d.sz ∧ d.K w v c ∧ ∀ j u, c[j]? = some u → w.cell? (a.add (i * d.sz + j)) = some u := by
      intro i hi
      have hgi := hg i hi
      have hsome : ∃ y, elems[i]? = some y := ⟨elems[i]'(by omega), List.getElem?_eq_getElem (by omega)⟩
      obtain ⟨y, hy⟩ := hsome
      rw [hy] at hgi
      obtain ⟨c, hc1, hc2⟩ := Option.bind_eq_some_iff.mp hgi
      obtain ⟨v, hK, hgood⟩ := he w base spare held n c y hc2
      obtain ⟨_, hlen, hcell⟩ := World.cells?_some hc1
      refine ⟨v, hgood, c, d.K_len hK, hK, fun j u hu => ?_⟩
      have hj : j < c.length := by
        by_cases hj : j < c.length
        · exact hj
        · rw [List.getElem?_eq_none (by omega)] at hu; simp at hu
      have := hcell j (by omega)
      rw [Addr.add_add, hc, hu] at this
      exact this
    obtain ⟨l, hl0, hl1⟩ := choose_list (fun i v => good v ∧ ∃ c : List Value, c.length = d.sz ∧ d.K w v c ∧ ∀ j u, c[j]? = some u → w.cell? (a.add (i * d.sz + j)) = some u) len key
    refine ⟨l, ⟨some a, cap, by rw [hl0], by omega, ⟨rfl, by omega, fun _ => ⟨a, rfl, fun j p hp => (hl1 j p hp).2⟩⟩⟩, by omega, fun v hv => ?_⟩
    obtain ⟨i, hi⟩ := List.mem_iff_getElem?.mp hv
    exact (hl1 i v hi).1

theorem slice_in {α : Type} {t e : TypeId} {d : Kd α} {good : List α → Prop} (ht : P.underlying t = some (.slice e)) (hs : Opens H enc P t (Kd.slice e d) good) {W : World} {r : Reach} {b base : Nat} {spare : Nat → Bool} {held : Bool} {v : Value} {dd : DataW H} {p : List MemPlace}
    (hv : Value.okWide P W r b t v) (h : DataW.Trod enc P W base spare held t v dd p) : ∃ (A : Option Addr) (l : List α) (c : Nat), v = .slice A l.length c ∧ l.length ≤ c ∧ d.C W A l.length l ∧ good l := by
  obtain ⟨a, len, cap, rfl⟩ := okWide_slice ht hv
  obtain ⟨fuel, hf⟩ := h
  obtain ⟨l, ⟨A, c, hcs, hlc, hC⟩, hg⟩ := hs W base spare held fuel _ _ hf
  simp [Value.cells] at hcs
  obtain ⟨rfl, rfl, rfl⟩ := hcs
  exact ⟨a, l, cap, rfl, hlc, hC, hg⟩

end
end Go.Proofs.Ytmcmclcebnepgaa.Open

namespace Go.Proofs.Ytmcmclcebnepgaa.fnClosed
open Go.ChangeShapes Go.WideShapes Go.ChangeAt Go.RowKit Go.Proofs.Ytmcmclcebnepgaa.Open Go.Proofs.Ytmcmclcebnepgaa.G Go.Proofs.YtmcmclcebnepgaaW.PrintWords
open Go.ChangeMaps (open_string shut_string)
set_option linter.unusedVariables false
theorem own : ownKnob Try.prog.godebug = none := by kernel_rfl
theorem laidOut : laidOutB Try.prog = true := by kernel_rfl
set_option maxRecDepth 100000 in
theorem lifted (os : Os) (started : os.Started) (H : Type) (enc : TypeId × Value → H) :
    ReturnsInHanded {} Try.checked os 3 .any (Rows.fnClosedSpec.pre6 enc Try.prog Try.f3 Rows.fnClosedRow.domain false) (Rows.fnClosedSpec.post enc Try.prog Try.f3 false true false false) := by
  refine returnsInHanded_of_change_sized (C := Try.checked) own started (by kernel_rfl) Try.func3
    (ChangeSpec.witness6 (enc := enc) (C := Try.checked) false ⟨#[], #[.slice none 0 0], []⟩ 8 (by kernel_rfl) (by kernel_rfl) (by kernel_rfl) (by kernel_rfl)) ?_
  intro W base args ds gs before hval0 hW hcnd hsz0 _
  have hsz : (DataW.weightsEach Try.prog (Try.f3.params.toList ++ Rows.fnClosedSpec.plain.varTypes Try.prog) (ds ++ gs)).all (· ≤ reachBytes) = true := hsz0
  have hval : ∀ (j : Nat) t v, Try.f3.params[j]? = some t → args[j]? = some v → Value.okWide Try.prog W .any base t v := hval0
  have hW' := hW
  obtain ⟨p, q, hA0, hV, rfl, hfz, hnd⟩ := hW
  have hA : DataW.TrodAll enc Try.prog W 0 (fun _ => true) true Try.f3.params.toList args.toList ds p := hA0
  rw [Try.params3] at hA hval hsz
  obtain ⟨v0, vs0, d0, ds0, p0, q0, hargs, rfl, rfl, h0, r0⟩ := trodAll_cons hA
  obtain ⟨rfl, rfl, rfl⟩ := trodAll_nil r0
  obtain rfl : args = #[v0] := by cases args; simp_all
  obtain ⟨rfl, rfl⟩ := trodVars_none hV
  have k0 := h0
  have lt0 : ∀ x ∈ p0, x.block < W.heap.size := by obtain ⟨m, hm⟩ := k0; exact DataW.trod_lt m _ _ _ hm
  have y0 := fun a len cap (e : v0 = .slice a len cap) => Go.Proofs.YtmcmclcebnepgaaW.PrintWords.sized_ints (B := 1) hsz (j := 0) (t := 22) rfl rfl Try.underlying22 Try.underlying5 (by kernel_rfl) (by kernel_rfl) (e ▸ h0)
  obtain ⟨A0, l0, c0, rfl, hc0, hr0, hg0⟩ := slice_in Try.underlying22 (opens_slice Try.underlying22 (opens_int Try.underlying5) (by kernel_rfl)) (hval 0 22 v0 rfl rfl) h0
  clear hA0 hval0 hsz0 hsz
  obtain ⟨k_, hk_⟩ := Pure.FnClosed l0 (y0 _ _ _ rfl) hg0
  refine (laws_FnClosed.calls k_ A0 c0 l0 true W hr0 hc0 hk_).mono fun e W' ⟨he, bel0⟩ => ?_
  have bel : Below W.heap.size W W' := bel0
  subst he
  exact ⟨_, rfl, _, _, _, [], _, [], hW', trodAll_mk1 (shut_bool Try.underlying4 _), (trodAll_cons_mk (Below.trod laidOut (by kernel_rfl) (of_decide_eq_true (by kernel_rfl)) k0 bel lt0) trodAll_mk0), rfl, bel.frame _, fun h => by cases h⟩
theorem over : Rows.fnClosedRow.holds Try.pinned (OpenSpec.ofChange Rows.fnClosedSpec) :=
  OpenClaim.holds_of_wide 3 Try.f3 rfl rfl rfl rfl rfl rfl rfl ⟨rfl, rfl, rfl, rfl, rfl⟩ rfl rfl rfl rfl rfl (by kernel_rfl) Try.func3 (by kernel_rfl)
    (of_decide_eq_true (by kernel_rfl)) (by unfold Func.isWrapper; first | (rw [if_pos (by decide +kernel)]; kernel_rfl) | (rw [if_neg (by decide +kernel)]; exact ⟨rfl, rfl⟩))
    (fun os started H enc _ => lifted os started H enc)
theorem proved : Rows.FnClosedSaid := over
#print axioms proved
end Go.Proofs.Ytmcmclcebnepgaa.fnClosed
namespace Go.Proofs.Ytmcmclcebnepgaa
theorem fnClosed_holds : Rows.FnClosedSaid := fnClosed.proved
end Go.Proofs.Ytmcmclcebnepgaa
