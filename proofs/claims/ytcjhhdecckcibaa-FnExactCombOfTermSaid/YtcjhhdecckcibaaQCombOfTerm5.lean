/- Part 5 of 5 of the proof that the law FnExactCombOfTermSaid holds: for every input that can be read the call returns true and leaves its arguments as they were; no condition but those each theorem names. -/
import Derived.ChangeArms
import Derived.WideShapes
import Derived.DataElems
import Derived.DataReads
import Derived.Test.YtcjhhdecckcibaaRows
import Derived.WalkKit
import Derived.ProofKit
import Derived.OpenShut
import Derived.ShutString
import Derived.ChangeOld
import Derived.Below
import Derived.SizedLaws
import Derived.Test.YtcjhhdecckcibaaQCombOfTermW1
import Derived.Test.YtcjhhdecckcibaaQCombOfTerm1
import Derived.Test.YtcjhhdecckcibaaQCombOfTerm2
import Derived.Test.YtcjhhdecckcibaaQCombOfTerm3
import Derived.Test.YtcjhhdecckcibaaQCombOfTerm4
namespace Go.Proofs.Ytcjhhdecckcibaa.TreeM
set_option linter.unusedVariables false

def flat : Tr → Nat → Int → List Nd
  | .leaf k n, _, u => [⟨k, n, u⟩]
  | .un k n a, i, u => ⟨k, n, u⟩ :: flat a (i + 1) i
  | .bin k n a b, i, u => ⟨k, n, u⟩ :: (flat a (i + 1) i ++ flat b (i + 1 + a.size) i)
theorem flat_len : ∀ (t : Tr) (i : Nat) (u : Int), (flat t i u).length = t.size
  | .leaf _ _, _, _ => rfl
  | .un k n a, i, u => by show (flat a (i + 1) i).length + 1 = 1 + a.size; rw [flat_len a]; omega
  | .bin k n a b, i, u => by show (flat a (i + 1) i ++ flat b (i + 1 + a.size) i).length + 1 = 1 + a.size + b.size; rw [List.length_append, flat_len a, flat_len b]; omega

def Tr.wf (A : Arity) : Tr → Prop
  | .leaf k _ => (1 ≤ k ∧ k ≤ A.top) ∧ A.want k = 0
  | .un k _ a => ((1 ≤ k ∧ k ≤ A.top) ∧ A.want k = 1) ∧ a.wf A
  | .bin k _ a b => ((1 ≤ k ∧ k ≤ A.top) ∧ A.want k = 2) ∧ a.wf A ∧ b.wf A
theorem Par.wf {A : Arity} {l : List Nd} {i e : Nat} {u : Int} {t : Tr} (h : Par A l i u t e) : t.wf A := by
  induction h with
  | leaf h hk hw => exact ⟨hk, hw⟩
  | un h hk hw ha ih => exact ⟨⟨hk, hw⟩, ih⟩
  | bin h hk hw ha hb ih1 ih2 => exact ⟨⟨hk, hw⟩, ih1, ih2⟩

theorem par_flat {A : Arity} : ∀ (t : Tr) (i : Nat) (u : Int) (l : List Nd), t.wf A → (∀ j x, (flat t i u)[j]? = some x → l[i + j]? = some x) → Par A l i u t (i + t.size)
  | .leaf k n, i, u, l, hw, h => .leaf (h 0 _ rfl) hw.1 hw.2
  | .un k n a, i, u, l, hw, h => by
    have pa := par_flat a (i + 1) i l hw.2 (fun j x hx => by rw [show i + 1 + j = i + (j + 1) by omega]; exact h (j + 1) x hx)
    have e : i + (Tr.un k n a).size = i + 1 + a.size := by show i + (1 + a.size) = _; omega
    rw [e]
    exact .un (h 0 _ rfl) hw.1.1 hw.1.2 pa
  | .bin k n a b, i, u, l, hw, h => by
    have pa := par_flat a (i + 1) i l hw.2.1 (fun j x hx => by
      rw [show i + 1 + j = i + (j + 1) by omega]
      refine h (j + 1) x ?_
      show (flat a (i + 1) i ++ flat b (i + 1 + a.size) i)[j]? = _
      rw [List.getElem?_append_left (by have := lt_of hx; exact this)]; exact hx)
    have pb := par_flat b (i + 1 + a.size) i l hw.2.2 (fun j x hx => by
      rw [show i + 1 + a.size + j = i + (a.size + j + 1) by omega]
      refine h (a.size + j + 1) x ?_
      show (flat a (i + 1) i ++ flat b (i + 1 + a.size) i)[a.size + j]? = _
      rw [List.getElem?_append_right (by rw [flat_len]; omega), flat_len, show a.size + j - a.size = j by omega]; exact hx)
    have e : i + (Tr.bin k n a b).size = i + 1 + a.size + b.size := by show i + (1 + a.size + b.size) = _; omega
    rw [e]
    exact .bin (h 0 _ rfl) hw.1.1 hw.1.2 pa pb

theorem flat_par {A : Arity} (t : Tr) (hw : t.wf A) : Par A (flat t 0 (-1)) 0 (-1) t (flat t 0 (-1)).length := by
  have := par_flat (A := A) t 0 (-1) (flat t 0 (-1)) hw (fun j x hx => by rw [Nat.zero_add]; exact hx)
  rw [flat_len]; rw [Nat.zero_add] at this; exact this

def pts (l : List Nd) (i : Nat) : Nat → Nat → List Nat
  | _, 0 => []
  | a, d + 1 => if up l a = (i : Int) then a :: pts l i (a + 1) d else pts l i (a + 1) d
theorem pts_add (l : List Nd) (i : Nat) : ∀ (d a d' : Nat), pts l i a (d + d') = pts l i a d ++ pts l i (a + d) d'
  | 0, a, d' => by simp [pts]
  | d + 1, a, d' => by
    have e : d + 1 + d' = (d + d') + 1 := by omega
    rw [e]
    show (if up l a = (i : Int) then a :: pts l i (a + 1) (d + d') else pts l i (a + 1) (d + d')) = (if up l a = (i : Int) then a :: pts l i (a + 1) d else pts l i (a + 1) d) ++ pts l i (a + (d + 1)) d'
    rw [pts_add l i d (a + 1) d', show a + 1 + d = a + (d + 1) by omega]
    split <;> rfl
theorem pts_none (l : List Nd) (i : Nat) : ∀ (d a : Nat), (∀ m, a ≤ m → m < a + d → up l m ≠ (i : Int)) → pts l i a d = []
  | 0, a, h => rfl
  | d + 1, a, h => by
    show (if up l a = (i : Int) then a :: pts l i (a + 1) d else pts l i (a + 1) d) = []
    rw [if_neg (h a (Nat.le_refl _) (by omega)), pts_none l i d (a + 1) (fun m h1 h2 => h m (by omega) (by omega))]

def Shut (l : List Nd) (i e : Nat) : Prop := ∀ m, e ≤ m → m < l.length → ¬ ((i : Int) ≤ up l m ∧ up l m < (e : Int))

inductive Parts (A : Arity) (l : List Nd) : Nat → Tr → Nat → Prop
  | leaf {i : Nat} {k n : Int} (h : l.getD i z = ⟨k, n, up l i⟩) (hi : i < l.length) (hw : A.want k = 0) (hp : pts l i (i + 1) (l.length - (i + 1)) = []) : Parts A l i (.leaf k n) (i + 1)
  | un {i e : Nat} {k n : Int} {a : Tr} (h : l.getD i z = ⟨k, n, up l i⟩) (hi : i < l.length) (hw : A.want k = 1) (hp : pts l i (i + 1) (l.length - (i + 1)) = [i + 1]) (ha : Parts A l (i + 1) a e) : Parts A l i (.un k n a) e
  | bin {i e e' : Nat} {k n : Int} {a b : Tr} (h : l.getD i z = ⟨k, n, up l i⟩) (hi : i < l.length) (hw : A.want k = 2) (hp : pts l i (i + 1) (l.length - (i + 1)) = [i + 1, e]) (ha : Parts A l (i + 1) a e) (hb : Parts A l e b e') : Parts A l i (.bin k n a b) e'

theorem Par.parts {A : Arity} {l : List Nd} {i e : Nat} {u : Int} {t : Tr} (h : Par A l i u t e) : Shut l i e → Parts A l i t e := by
  have at1 : ∀ (q : Nat) (k n v : Int), l[q]? = some ⟨k, n, v⟩ → l.getD q z = ⟨k, n, up l q⟩ := fun q k n v h => by rw [up_of h, List.getD_eq_getElem?_getD, h]; rfl
  induction h with
  | @leaf i u k n h hk hw =>
    intro hs
    refine .leaf (at1 _ _ _ _ h) (lt_of h) hw (pts_none _ _ _ _ fun m h1 h2 he => hs m h1 (by have := lt_of h; omega) ?_)
    omega
  | @un i e u k n a h hk hw ha ih =>
    intro hs
    have hlt := ha.lt
    have hsp := ha.span
    refine .un (at1 _ _ _ _ h) (lt_of h) hw ?_ (ih fun m h1 h2 h3 => hs m h1 h2 (by omega))
    obtain ⟨d, hd⟩ : ∃ d, e - (i + 1) = d + 1 := ⟨e - (i + 1) - 1, by omega⟩
    rw [show l.length - (i + 1) = (d + 1) + (l.length - e) by omega, pts_add l i (d + 1) (i + 1) (l.length - e), show i + 1 + (d + 1) = e by omega]
    have e1 : pts l i (i + 1) (d + 1) = [i + 1] := by
      show (if up l (i + 1) = (i : Int) then (i + 1) :: pts l i (i + 1 + 1) d else pts l i (i + 1 + 1) d) = _
      rw [if_pos hsp.2.2, pts_none]
      intro q h3 h4
      have := ha.inside q (by omega) (by omega); omega
    have e2 : pts l i e (l.length - e) = [] := pts_none _ _ _ _ fun m h1 h2 he => hs m h1 (by omega) (by omega)
    rw [e1, e2]; rfl
  | @bin i e e' u k n a b h hk hw ha hb ih1 ih2 =>
    intro hs
    have hlt := ha.lt
    have hsp := ha.span
    have hlt2 := hb.lt
    have hsp2 := hb.span
    refine .bin (at1 _ _ _ _ h) (lt_of h) hw ?_ (ih1 fun m h1 h2 h3 => ?_) (ih2 fun m h1 h2 h3 => hs m h1 h2 (by omega))
    · obtain ⟨d, hd⟩ : ∃ d, e - (i + 1) = d + 1 := ⟨e - (i + 1) - 1, by omega⟩
      obtain ⟨d2, hd2⟩ : ∃ d2, e' - e = d2 + 1 := ⟨e' - e - 1, by omega⟩
      rw [show l.length - (i + 1) = (d + 1) + ((d2 + 1) + (l.length - e')) by omega, pts_add l i (d + 1) (i + 1) ((d2 + 1) + (l.length - e')), show i + 1 + (d + 1) = e by omega, pts_add l i (d2 + 1) e (l.length - e'), show e + (d2 + 1) = e' by omega]
      have e1 : pts l i (i + 1) (d + 1) = [i + 1] := by
        show (if up l (i + 1) = (i : Int) then (i + 1) :: pts l i (i + 1 + 1) d else pts l i (i + 1 + 1) d) = _
        rw [if_pos hsp.2.2, pts_none]
        intro q h3 h4
        have := ha.inside q (by omega) (by omega); omega
      have e2 : pts l i e (d2 + 1) = [e] := by
        show (if up l e = (i : Int) then e :: pts l i (e + 1) d2 else pts l i (e + 1) d2) = _
        rw [if_pos hsp2.2.2, pts_none]
        intro q h3 h4
        have := hb.inside q (by omega) (by omega); omega
      have e3 : pts l i e' (l.length - e') = [] := pts_none _ _ _ _ fun m h1 h2 he => hs m h1 (by omega) (by omega)
      rw [e1, e2, e3]; rfl
    · by_cases hm : m < e'
      · by_cases hme : m = e
        · subst hme; omega
        · have := hb.inside m (by omega) hm; omega
      · exact hs m (by omega) h2 (by omega)

theorem Par.parts_all {A : Arity} {l : List Nd} {t : Tr} (h : Par A l 0 (-1) t l.length) : Parts A l 0 t l.length := h.parts fun m h1 h2 => by omega
end Go.Proofs.Ytcjhhdecckcibaa.TreeM

namespace Go.Proofs.Ytcjhhdecckcibaa.G
open Go.RowKit Go.Proofs.YtcjhhdecckcibaaW.PrintWords Go.Proofs.YtcjhhdecckcibaaW.PrintLast Go.Proofs.YtcjhhdecckcibaaW.PrintMore
attribute [local go_sem] max2_int min2_int max_two min_two max_three min_three max_four min_four   -- for this text's walks alone
set_option linter.unusedVariables false
set_option linter.unusedSimpArgs false

mutual
def spec_ldTree.l0 : Nat → List (S52) → List Int → Int → Int → Int → Int → List (S77) → Option (Int × Int × (List (S77)))
 | 0, _, _, _, _, _, _, _ => none
 | k + 1, x0, x21, x22, x23, x105000, x105001, x105002 => if x23 < x22 then (if 0 ≤ x23 then (if x23 < (x21.length : Int) then ((spec_ldTree.f k x0 (rd x21 x23)).bind fun bt109 => (if x105002.length < 3518437208883 then (spec_ldTree.l0 k x0 x21 x22 (wrap64 (x23 + 1)) x105000 x105001 (x105002 ++ [(⟨bt109.1, bt109.2.1, bt109.2.2⟩ : S77)])) else (none))) else (none)) else (none)) else (some (x105000, x105001, x105002))
def spec_ldTree.f : Nat → List (S52) → Int → Option (Int × Int × (List (S77)))
 | 0, _, _ => none
 | k + 1, l0, a1 => if 0 ≤ a1 then (if a1 < (l0.length : Int) then ((spec_ldParts.f k l0 a1).bind fun t105 => (spec_ldTree.l0 k l0 t105 (t105.length : Int) 0 ((rd_T52 l0 a1).f0) ((rd_T52 l0 a1).f1) ([] : List (S77)))) else (none)) else (none)
end
end Go.Proofs.Ytcjhhdecckcibaa.G

namespace Go.Proofs.Ytcjhhdecckcibaa.CombL
open Go.RowKit Go.Proofs.Ytcjhhdecckcibaa.G Go.Proofs.Ytcjhhdecckcibaa.EvL Go.Proofs.Ytcjhhdecckcibaa.TreeM Go.Proofs.YtcjhhdecckcibaaW.PrintWords Go.Proofs.YtcjhhdecckcibaaW.PrintLast
set_option linter.unusedVariables false

def toL : Tr → S77
  | .leaf k n => ⟨k, n, []⟩
  | .un k n a => ⟨k, n, [toL a]⟩
  | .bin k n a b => ⟨k, n, [toL a, toL b]⟩
theorem toL_eta (a : Tr) : (⟨(toL a).f0, (toL a).f1, (toL a).f2⟩ : S77) = toL a := by cases toL a; rfl
theorem toS_eta (a : Tr) : (⟨(toS a).f0, (toS a).f1, (toS a).f2⟩ : S58) = toS a := by cases toS a; rfl

theorem want_of {k : Int} (h : ar.want k = 2) : k = 2 := by
  by_cases hk : k = 2
  · exact hk
  · have h2 : (if k = 2 then 2 else 0) = 2 := h
    rw [if_neg hk] at h2; omega
theorem want_one {k : Int} (h : ar.want k = 1) : False := by
  have h2 : (if k = 2 then 2 else 0) = 1 := h
  split at h2 <;> omega
theorem want_zero {k : Int} (h : ar.want k = 0) : k ≠ 2 := by
  rintro rfl
  have h2 : (2 : Nat) = 0 := h
  omega

theorem partsL (l : List S52) (i : Nat) (hl : l.length ≤ 200) : ∀ (d a : Nat) (acc : List Int), a + d = l.length → acc.length + d ≤ 200 → Ev (fun k => spec_ldParts.l0 k l i acc a) (acc ++ (pts (l.map nd) i a d).map fun (m : Nat) => (m : Int)) := by
  intro d
  induction d with
  | zero =>
    intro a acc ha _
    refine Ev.step (f := fun _ => some acc) (fun k => ?_) (Ev.of_eq (Ev.now _) ?_)
    · simp only [spec_ldParts.l0]
      rw [if_neg (by omega)]
    · simp [pts]
  | succ d ih =>
    intro a acc ha hacc
    by_cases h : up (l.map nd) a = (i : Int)
    · refine Ev.step (fun k => ?_) (Ev.of_eq (ih (a + 1) (acc ++ [(a : Int)]) (by omega) (by simp; omega)) ?_)
      · simp only [spec_ldParts.l0]
        rw [if_pos (by omega), if_pos (by omega), rdC, up_nd, if_pos h, if_pos (by omega), next a (n := l.length) (by omega) (by omega)]
      · have e : pts (l.map nd) i a (d + 1) = a :: pts (l.map nd) i (a + 1) d := by
          show (if up (l.map nd) a = (i : Int) then _ else _) = _
          rw [if_pos h]
        rw [e]; simp
    · refine Ev.step (fun k => ?_) (Ev.of_eq (ih (a + 1) acc (by omega) (by omega)) ?_)
      · simp only [spec_ldParts.l0]
        rw [if_pos (by omega), if_pos (by omega), rdC, up_nd, if_neg h, next a (n := l.length) (by omega) (by omega)]
      · have e : pts (l.map nd) i a (d + 1) = pts (l.map nd) i (a + 1) d := by
          show (if up (l.map nd) a = (i : Int) then _ else _) = _
          rw [if_neg h]
        rw [e]
theorem ldPartsL (l : List S52) (i : Nat) (hi : i < l.length) (hl : l.length ≤ 200) : Ev (fun k => spec_ldParts.f k l i) ((pts (l.map nd) i (i + 1) (l.length - (i + 1))).map fun (m : Nat) => (m : Int)) := by
  have := partsL l i hl (l.length - (i + 1)) (i + 1) [] (by omega) (by simp; omega)
  unfold spec_ldParts.f
  rw [next i hi (by omega)]
  rw [List.nil_append] at this
  exact this

theorem rdI (l : List Int) (i : Nat) : rd l (i : Int) = l.getD i 0 := by unfold rd; rw [Int.toNat_natCast]

theorem ldTree_ev (l : List S52) (hl : l.length ≤ 200) {i e : Nat} {t : Tr} (h : Parts ar (l.map nd) i t e) : Ev (fun k => spec_ldTree.f k l i) ((toL t).f0, (toL t).f1, (toL t).f2) := by
  have hlen : (l.map nd).length = l.length := List.length_map ..
  have start : ∀ {i : Nat} {kd n v : Int} {ps : List Nat}, (l.map nd).getD i z = ⟨kd, n, v⟩ → i < (l.map nd).length → pts (l.map nd) i (i + 1) ((l.map nd).length - (i + 1)) = ps → ∀ {r}, Ev (fun k => spec_ldTree.l0 k l (ps.map fun (m : Nat) => (m : Int)) ((ps.map fun (m : Nat) => (m : Int)).length : Int) 0 kd n []) r → Ev (fun k => spec_ldTree.f k l i) r := by
    intro i kd n v ps h0 hi hp r hE
    rw [hlen] at hi hp
    have e0 : (l.getD i z52).f0 = kd := by have := getD_nd l i; rw [h0] at this; exact (congrArg Nd.kind this).symm
    have e1 : (l.getD i z52).f1 = n := by have := getD_nd l i; rw [h0] at this; exact (congrArg Nd.n this).symm
    refine Ev.step (f := fun k => (spec_ldParts.f k l i).bind fun t105 => (spec_ldTree.l0 k l t105 (t105.length : Int) 0 kd n [])) (fun k => ?_) (Ev.bind (ldPartsL l i hi hl) ?_)
    · simp only [spec_ldTree.f]
      rw [if_pos (by omega), if_pos (by omega), rdC, e0, e1]
    · rw [hp]; exact hE
  have fin : ∀ (qs : List Int) (j kd n : Int) (ps : List S77), ¬ j < (qs.length : Int) → Ev (fun k => spec_ldTree.l0 k l qs (qs.length : Int) j kd n ps) (kd, n, ps) := by
    intro qs j kd n ps hj
    refine Ev.step (f := fun _ => some (kd, n, ps)) (fun k => ?_) (Ev.now _)
    simp only [spec_ldTree.l0]
    rw [if_neg hj]
  have one : ∀ (qs : List Int) (j q : Nat) (kd n : Int) (ps : List S77) (t : Tr), j < qs.length → qs.length ≤ 2 → ps.length ≤ 2 → qs.getD j 0 = (q : Int) → Ev (fun k => spec_ldTree.f k l q) ((toL t).f0, (toL t).f1, (toL t).f2) → ∀ {r}, Ev (fun k => spec_ldTree.l0 k l qs (qs.length : Int) ((j + 1 : Nat) : Int) kd n (ps ++ [toL t])) r → Ev (fun k => spec_ldTree.l0 k l qs (qs.length : Int) (j : Int) kd n ps) r := by
    intro qs j q kd n ps t hj hq hp hqe hE r h
    refine Ev.step (f := fun k => (spec_ldTree.f k l (q : Int)).bind fun bt109 => (if ps.length < 3518437208883 then (spec_ldTree.l0 k l qs (qs.length : Int) ((j + 1 : Nat) : Int) kd n (ps ++ [(⟨bt109.1, bt109.2.1, bt109.2.2⟩ : S77)])) else (none))) (fun k => ?_) (Ev.bind hE (Ev.ite_pos (by omega) ?_))
    · simp only [spec_ldTree.l0]
      rw [if_pos (by omega), if_pos (by omega), if_pos (by omega), rdI, hqe, next j hj (by omega)]
    · show Ev (fun k => spec_ldTree.l0 k l qs (qs.length : Int) ((j + 1 : Nat) : Int) kd n (ps ++ [(⟨(toL t).f0, (toL t).f1, (toL t).f2⟩ : S77)])) r
      rw [toL_eta]; exact h
  induction h with
  | @leaf i k n h hi hw hp => exact start h hi hp (fin [] 0 k n [] (by simp))
  | @un i e k n a h hi hw hp ha ih => exact start h hi hp (one [((i + 1 : Nat) : Int)] 0 (i + 1) k n [] a (by simp) (by simp) (by simp) rfl ih (fin [((i + 1 : Nat) : Int)] 1 k n [toL a] (by simp)))
  | @bin i e e' k n a b h hi hw hp ha hb ih1 ih2 =>
    exact start h hi hp (one [((i + 1 : Nat) : Int), (e : Int)] 0 (i + 1) k n [] a (by simp) (by simp) (by simp) rfl ih1 (one [((i + 1 : Nat) : Int), (e : Int)] 1 e k n [toL a] b (by simp) (by simp) (by simp) rfl ih2 (fin [((i + 1 : Nat) : Int), (e : Int)] 2 k n [toL a, toL b] (by simp))))

def back (x : Nd) : S52 := ⟨x.kind, x.n, x.up⟩
theorem nd_back (l : List Nd) : (l.map back).map nd = l := by
  rw [List.map_map]
  have : (nd ∘ back) = id := by funext x; rfl
  rw [this, List.map_id]
def tnodes (t : Tr) : List S52 := (flat t 0 (-1)).map back
theorem tnodes_len (t : Tr) : (tnodes t).length = t.size := by unfold tnodes; rw [List.length_map, flat_len]

theorem fl_spec : ∀ (t : Tr) (up : Int) (l : List S52), l.length ≤ 200 → (l.length + t.size ≤ 201 → Flat77.flT (toL t) up l = l ++ (flat t l.length up).map back) ∧ (201 < l.length + t.size → 201 ≤ (Flat77.flT (toL t) up l).length) := by
  intro t
  induction t with
  | leaf k n =>
    intro up l hl
    have e : Flat77.flT (toL (.leaf k n)) up l = l ++ [⟨k, n, up⟩] := by rw [Flat77.flT_eq]; show Flat77.flL [] _ _ = _; rw [Flat77.flL_nil]; rfl
    have hs : (Tr.leaf k n).size = 1 := rfl
    exact ⟨fun _ => e, fun h => by omega⟩
  | un k n a ih =>
    intro up l hl
    have hs : (Tr.un k n a).size = 1 + a.size := rfl
    have hp := a.size_pos
    have e : Flat77.flT (toL (.un k n a)) up l = (if (l ++ [(⟨k, n, up⟩ : S52)]).length ≤ 200 then Flat77.flT (toL a) (l.length : Int) (l ++ [⟨k, n, up⟩]) else l ++ [⟨k, n, up⟩]) := by
      rw [Flat77.flT_eq]; show Flat77.flL [toL a] _ _ = _; rw [Flat77.flL_cons, Flat77.flL_nil]; rfl
    have e1 : (l ++ [(⟨k, n, up⟩ : S52)]).length = l.length + 1 := by simp
    rw [e, e1]
    by_cases h1 : l.length + 1 ≤ 200
    · rw [if_pos h1]
      have h2 := ih (l.length : Int) (l ++ [⟨k, n, up⟩]) (by omega)
      rw [e1] at h2
      refine ⟨fun h => ?_, fun h => h2.2 (by omega)⟩
      rw [h2.1 (by omega)]
      show _ = l ++ (⟨k, n, up⟩ :: flat a (l.length + 1) l.length).map back
      simp [back]
    · rw [if_neg h1]
      exact ⟨fun h => by omega, fun h => by omega⟩
  | bin k n a b iha ihb =>
    intro up l hl
    have hs : (Tr.bin k n a b).size = 1 + a.size + b.size := rfl
    have hp := a.size_pos
    have hq := b.size_pos
    have e1 : (l ++ [(⟨k, n, up⟩ : S52)]).length = l.length + 1 := by simp
    have e : Flat77.flT (toL (.bin k n a b)) up l = (fun m => if m.length ≤ 200 then Flat77.flT (toL b) (l.length : Int) m else m) (if l.length + 1 ≤ 200 then Flat77.flT (toL a) (l.length : Int) (l ++ [⟨k, n, up⟩]) else l ++ [⟨k, n, up⟩]) := by
      rw [Flat77.flT_eq]; show Flat77.flL [toL a, toL b] _ _ = _; rw [Flat77.flL_cons, Flat77.flL_cons, Flat77.flL_nil, ← e1]; rfl
    rw [e]
    by_cases h1 : l.length + 1 ≤ 200
    · rw [if_pos h1]
      have h2 := iha (l.length : Int) (l ++ [⟨k, n, up⟩]) (by omega)
      rw [e1] at h2
      by_cases h3 : l.length + 1 + a.size ≤ 201
      · rw [h2.1 h3]
        have e2 : (l ++ [(⟨k, n, up⟩ : S52)] ++ (flat a (l.length + 1) l.length).map back).length = l.length + 1 + a.size := by rw [List.length_append, List.length_map, flat_len, e1]
        dsimp only
        rw [e2]
        by_cases h4 : l.length + 1 + a.size ≤ 200
        · rw [if_pos h4]
          have h5 := ihb (l.length : Int) (l ++ [(⟨k, n, up⟩ : S52)] ++ (flat a (l.length + 1) l.length).map back) (by omega)
          rw [e2] at h5
          refine ⟨fun h => ?_, fun h => h5.2 (by omega)⟩
          rw [h5.1 (by omega)]
          show _ = l ++ (⟨k, n, up⟩ :: (flat a (l.length + 1) l.length ++ flat b (l.length + 1 + a.size) l.length)).map back
          simp [back]
        · rw [if_neg h4]
          exact ⟨fun h => by omega, fun h => by omega⟩
      · have h6 := h2.2 (by omega)
        dsimp only
        rw [if_neg (by omega)]
        exact ⟨fun h => by omega, fun h => h6⟩
    · rw [if_neg h1]
      dsimp only
      rw [if_neg (by omega)]
      exact ⟨fun h => by omega, fun h => by omega⟩

theorem fl_impl : ∀ (t : Tr) (up : Int) (l : List S52), Nodes58.flT (toS t) up l = l ++ (flat t l.length up).map back := by
  intro t
  induction t with
  | leaf k n => intro up l; rw [Nodes58.flT_eq]; show Nodes58.flL [] _ _ = _; rw [Nodes58.flL_nil]; rfl
  | un k n a ih =>
    intro up l
    rw [Nodes58.flT_eq]; show Nodes58.flL [toS a] _ _ = _
    rw [Nodes58.flL_cons, Nodes58.flL_nil, ih]
    show _ = l ++ (⟨k, n, up⟩ :: flat a (l.length + 1) l.length).map back
    simp [back, toS]
  | bin k n a b iha ihb =>
    intro up l
    rw [Nodes58.flT_eq]; show Nodes58.flL [toS a, toS b] _ _ = _
    rw [Nodes58.flL_cons, Nodes58.flL_cons, Nodes58.flL_nil, iha, ihb]
    show _ = l ++ (⟨k, n, up⟩ :: (flat a (l.length + 1) l.length ++ flat b (l.length + 1 + a.size) l.length)).map back
    simp [back, toS, flat_len, show l.length + 1 + a.size = l.length + (a.size + 1) by omega]
theorem sz_impl : ∀ (t : Tr), Nodes58.szT (toS t) = t.size := by
  intro t
  induction t with
  | leaf k n => rw [Nodes58.szT_eq]; show 1 + Nodes58.szL [] = 1; rw [Nodes58.szL]
  | un k n a ih => rw [Nodes58.szT_eq]; show 1 + Nodes58.szL [toS a] = 1 + a.size; rw [Nodes58.szL_cons, Nodes58.szL, ih]; omega
  | bin k n a b iha ihb => rw [Nodes58.szT_eq]; show 1 + Nodes58.szL [toS a, toS b] = 1 + a.size + b.size; rw [Nodes58.szL_cons, Nodes58.szL_cons, Nodes58.szL, iha, ihb]; omega

def Good (t : Tr) : Prop := t.size ≤ 200 ∧ t.depth ≤ 60 ∧ t.all numOk

theorem isGood_ev (t : Tr) (hs : t.size ≤ 4000) : ∃ b, Ev (fun k => impl_comb_isGood.f k (toS t).f0 (toS t).f1 (toS t).f2) b ∧ (b = true ↔ Good t) := by
  obtain ⟨b, hb, hbi⟩ := measure_ev t hs
  unfold impl_comb_isGood.f Good
  by_cases h3 : b = true
  case neg => exact ⟨false, Ev.bind hb (Ev.ite_neg h3 (Ev.now _)), fun h => absurd h (by simp), fun h => absurd (hbi.mpr h.2.2) h3⟩
  by_cases h4 : t.size ≤ 200
  case neg => exact ⟨false, Ev.bind hb (Ev.ite_pos h3 (Ev.ite_neg (by omega) (Ev.now _))), fun h => absurd h (by simp), fun h => absurd h.1 h4⟩
  refine ⟨decide (t.depth ≤ 60), Ev.bind hb (Ev.ite_pos h3 (Ev.ite_pos (by omega) (Ev.of_eq (Ev.now _) ?_))), ?_⟩
  · exact decide_eq_decide.mpr (by show ((t.depth : Int) ≤ 60) ↔ _; omega)
  · rw [decide_eq_true_iff]
    exact ⟨fun h => ⟨h4, h, hbi.mp h3⟩, fun h => h.2.1⟩

theorem tells_iff (t : Tr) (hw : t.wf ar) (hs : t.size ≤ 200) : (∃ t', Tells (tnodes t) t') ↔ Good t := by
  have hp := flat_par t hw
  have hm : (tnodes t).map nd = flat t 0 (-1) := nd_back _
  have hl := tnodes_len t
  constructor
  · rintro ⟨t', h1, h2, h3, h4, h5⟩
    rw [hm, hl, ← flat_len t 0 (-1)] at h3
    obtain ⟨rfl, _⟩ := hp.unique h3
    exact ⟨hs, h5, h4⟩
  · rintro ⟨_, h2, h3⟩
    refine ⟨t, ?_, by omega, ?_, h3, h2⟩
    · rw [hl]; exact t.size_pos
    · rw [hm, hl, ← flat_len t 0 (-1)]; exact hp

theorem toldBoth (t : Tr) (hw : t.wf ar) (hs : t.size ≤ 4000) : ∃ (o : List S52) (b : Bool), o.length ≤ 200 ∧ Ev (fun k => spec_ldTold.f k (toL t).f0 (toL t).f1 (toL t).f2) (o, b) ∧ Ev (fun k => impl_comb_goodNodes.f k (toS t).f0 (toS t).f1 (toS t).f2) (o, b) ∧ (b = true ↔ Good t) := by
  obtain ⟨bi, hbi, hg⟩ := isGood_ev t hs
  have hfs := fl_spec t (-1) [] (by simp)
  have e0 : (([] : List S52).length + t.size) = t.size := by simp
  rw [e0] at hfs
  have hsg : ∃ b, Ev (fun k => spec_GoodComb.f k (Flat77.flT (toL t) (-1) [])) b ∧ (b = true ↔ Good t) ∧ (b = true → Flat77.flT (toL t) (-1) [] = tnodes t) := by
    by_cases h : t.size ≤ 201
    · have e : Flat77.flT (toL t) (-1) [] = tnodes t := by rw [hfs.1 h]; rfl
      rw [e]
      obtain ⟨b, hb, hbg⟩ := specGood (tnodes t) (by rw [tnodes_len]; omega)
      refine ⟨b, hb, ?_, fun _ => rfl⟩
      by_cases h2 : t.size ≤ 200
      · rw [hbg, tells_iff t hw h2]
      · rw [hbg]
        constructor
        · rintro ⟨t', _, h3, _⟩; rw [tnodes_len] at h3; omega
        · intro h3; exact absurd h3.1 h2
    · have h1 := hfs.2 (by omega)
      have h2 := Flat77.flT_len (toL t) (-1) [] (by simp)
      obtain ⟨b, hb, hbg⟩ := specGood (Flat77.flT (toL t) (-1) []) (by omega)
      have hf : ¬ b = true := by rw [hbg]; rintro ⟨t', _, h3, _⟩; omega
      exact ⟨b, hb, ⟨fun h3 => absurd h3 hf, fun h3 => absurd h3.1 (by omega)⟩, fun h3 => absurd h3 hf⟩
  obtain ⟨bs, hbs, hgs, hes⟩ := hsg
  obtain rfl : bs = bi := by rw [Bool.eq_iff_iff, hgs, hg]
  unfold spec_ldTold.f impl_comb_goodNodes.f
  rw [toL_eta, toS_eta]
  by_cases h : bs = true
  · have hgood := hgs.mp h
    refine ⟨tnodes t, true, by rw [tnodes_len]; exact hgood.1, Ev.bind hbs (Ev.ite_pos h (Ev.of_eq (Ev.now _) (by rw [hes h]))), Ev.bind hbi (Ev.ite_pos h (Ev.ite_pos (by rw [sz_impl]; omega) (Ev.of_eq (Ev.now _) (by rw [fl_impl]; rfl)))), by simp [hgood]⟩
  · refine ⟨[], false, by simp, Ev.bind hbs (Ev.ite_neg h (Ev.now _)), Ev.bind hbi (Ev.ite_neg h (Ev.now _)), ?_⟩
    constructor
    · intro h2; exact absurd h2 (by simp)
    · intro h2; exact absurd (hgs.mpr h2) h

theorem tree_of (l : List S52) {t : Tr} (h : Tells l t) : Ev (fun k => spec_ldTree.f k l 0) ((toL t).f0, (toL t).f1, (toL t).f2) ∧ t.wf ar ∧ t.size ≤ 200 := by
  have hlen : (l.map nd).length = l.length := List.length_map ..
  obtain ⟨h1, h2, h3, _, _⟩ := h
  have h4 := h3
  rw [← hlen] at h4
  refine ⟨ldTree_ev l h2 h4.parts_all, h3.wf, ?_⟩
  have := h3.span; omega

def mkC (q : Int) : S52 := ⟨q, q + 1, q + 2⟩
def markC (l : List S52) : List S52 := (List.range l.length).map fun (j : Nat) => mkC (1 + 3 * (j : Int))
theorem rd_setC (l : List S52) (i : Nat) (v : S52) (h : i < l.length) : rd_T52 (l.set i v) (i : Int) = v := by
  rw [rdC, List.getD_eq_getElem?_getD, List.getElem?_set_self h]; rfl
theorem markCombs_from (n : Nat) (hn : n ≤ 2000000) : ∀ (d i : Nat) (l : List S52), i + d = n → l.length = n →
    Ev (fun k => laws_markCombS.l0 k l (1 + 3 * (i : Int)) i) (1 + 3 * (n : Int), l.take i ++ (List.range d).map fun (j : Nat) => mkC (1 + 3 * ((i + j : Nat) : Int))) := by
  intro d
  induction d with
  | zero =>
    intro i l hi hl
    obtain rfl : i = n := by omega
    refine Ev.succ (Ev.congr (fun k => ?_) (Ev.now _))
    simp only [laws_markCombS.l0]
    rw [if_neg (by omega), List.range_zero, List.map_nil, List.append_nil, List.take_of_length_le (by omega)]
  | succ d ih =>
    intro i l hi hl
    have hlt : i < l.length := by omega
    refine Ev.step (f := fun k => laws_markCombS.l0 k (l.set i (mkC (1 + 3 * (i : Int)))) (1 + 3 * ((i + 1 : Nat) : Int)) ((i + 1 : Nat) : Int)) (fun k => ?_) ?_
    · have w1 : wrap64 (1 + 3 * (i : Int) + 1) = 1 + 3 * (i : Int) + 1 := w64 (by omega) (by omega)
      have w2 : wrap64 (1 + 3 * (i : Int) + 1 + 1) = 1 + 3 * (i : Int) + 2 := by rw [w64 (by omega) (by omega)]; omega
      have w3 : wrap64 (1 + 3 * (i : Int) + 2 + 1) = 1 + 3 * ((i + 1 : Nat) : Int) := by rw [w64 (by omega) (by omega)]; omega
      simp only [laws_markCombS.l0, w1, w2, w3, Option.bind_some, Int.toNat_natCast]
      rw [if_pos (by omega), if_pos (by omega), next i (n := n) (by omega) (by omega)]
      congr 1
      simp only [rd_setC l i _ hlt, List.set_set]
      rfl
    · refine Ev.of_eq (ih (i + 1) (l.set i (mkC (1 + 3 * (i : Int)))) (by omega) (by simpa using hl)) ?_
      have e : (l.set i (mkC (1 + 3 * (i : Int)))).take (i + 1) = l.take i ++ [mkC (1 + 3 * (i : Int))] := by
        rw [List.take_succ_eq_append_getElem (by simp; omega)]
        simp [List.take_set_of_le]
      rw [e, List.append_assoc, List.range_succ_eq_map, List.map_cons, List.map_map, Nat.add_zero, List.singleton_append]
      congr 2
      congr 1
      apply List.map_congr_left
      intro j _
      show mkC (1 + 3 * ((i + 1 + j : Nat) : Int)) = mkC (1 + 3 * ((i + (j + 1) : Nat) : Int))
      congr 3; omega
theorem markCombs (l : List S52) (hl : l.length ≤ 2000000) : Ev (fun k => laws_markCombS.f k l 1) (1 + 3 * (l.length : Int), markC l) := by
  unfold laws_markCombS.f markC
  have := markCombs_from l.length hl l.length 0 l (by omega) rfl
  simp only [Nat.zero_add, List.take_zero, List.nil_append] at this
  exact this
theorem heldCombs (l : List S52) (hl : l.length ≤ 2000000) : Ev (fun k => laws_heldCombS.f k (markC l) 1) (1 + 3 * (l.length : Int)) := by
  unfold laws_heldCombS.f
  have hlen : (markC l).length = l.length := by unfold markC; simp
  have key : ∀ (d i : Nat), i + d = l.length → Ev (fun k => laws_heldCombS.l0 k (markC l) (1 + 3 * (i : Int)) i) (1 + 3 * (l.length : Int)) := by
    intro d
    induction d with
    | zero =>
      intro i hi
      refine Ev.succ (Ev.congr (fun k => ?_) (Ev.now _))
      simp only [laws_heldCombS.l0, hlen]
      rw [if_neg (by omega), show i = l.length by omega]
    | succ d ih =>
      intro i hi
      have e : rd_T52 (markC l) (i : Int) = mkC (1 + 3 * (i : Int)) := by
        rw [rdC]; unfold markC
        rw [List.getD_eq_getElem?_getD, List.getElem?_map, List.getElem?_range (by omega)]; rfl
      have w1 : wrap64 (1 + 3 * (i : Int) + 1) = 1 + 3 * (i : Int) + 1 := w64 (by omega) (by omega)
      have w2 : wrap64 (1 + 3 * (i : Int) + 1 + 1) = 1 + 3 * (i : Int) + 2 := by rw [w64 (by omega) (by omega)]; omega
      have w3 : wrap64 (1 + 3 * (i : Int) + 2 + 1) = 1 + 3 * ((i + 1 : Nat) : Int) := by rw [w64 (by omega) (by omega)]; omega
      refine Ev.step (f := fun k => laws_heldCombS.l0 k (markC l) (1 + 3 * ((i + 1 : Nat) : Int)) ((i + 1 : Nat) : Int)) (fun k => ?_) (ih (i + 1) (by omega))
      simp only [laws_heldCombS.l0, hlen, e, w1, w2, w3, mkC]
      rw [if_pos (by omega), if_pos (by omega), next i (n := l.length) (by omega) (by omega), if_pos trivial, if_pos trivial, if_pos trivial]
  exact key l.length 0 (by omega)
end Go.Proofs.Ytcjhhdecckcibaa.CombL

namespace Go.Proofs.Ytcjhhdecckcibaa.CombL
open Go.RowKit Go.Proofs.Ytcjhhdecckcibaa.G Go.Proofs.Ytcjhhdecckcibaa.EvL Go.Proofs.Ytcjhhdecckcibaa.TreeM Go.Proofs.YtcjhhdecckcibaaW.PrintWords Go.Proofs.YtcjhhdecckcibaaW.PrintLast
set_option linter.unusedVariables false

def hasV (x : Int) : Tr → Bool
  | .leaf k n => decide (k = 1) && decide (n = x)
  | .un _ _ a => hasV x a
  | .bin _ _ a b => hasV x a || hasV x b
def app (a b : Tr) : Tr := .bin 2 0 a b
def isV (x : Int) (t : Tr) : Bool := decide (t.kind = 1) && decide (t.num = x)
def absT (x : Int) : Tr → Tr
  | .leaf k n => if hasV x (.leaf k n) = true then .leaf 5 0 else app (.leaf 4 0) (.leaf k n)
  | .un k n a => .un k n a
  | .bin k n a b => if hasV x (.bin k n a b) = true then (if (isV x b && !hasV x a) = true then a else app (app (.leaf 3 0) (absT x a)) (absT x b)) else app (.leaf 4 0) (.bin k n a b)

theorem leaf_wf {k n : Int} (h1 : 1 ≤ k ∧ k ≤ 5) (h2 : k ≠ 2) : (Tr.leaf k n).wf ar := ⟨h1, by show (if k = 2 then 2 else 0) = 0; rw [if_neg h2]⟩
theorem app_wf {a b : Tr} (ha : a.wf ar) (hb : b.wf ar) : (app a b).wf ar := ⟨⟨by decide, rfl⟩, ha, hb⟩
theorem absT_wf (x : Int) : ∀ (t : Tr), t.wf ar → (absT x t).wf ar
  | .leaf k n, h => by
    rw [absT]; split
    · exact leaf_wf (by decide) (by decide)
    · exact app_wf (leaf_wf (by decide) (by decide)) h
  | .un k n a, h => h
  | .bin k n a b, h => by
    rw [absT]; split
    · split
      · exact h.2.1
      · exact app_wf (app_wf (leaf_wf (by decide) (by decide)) (absT_wf x a h.2.1)) (absT_wf x b h.2.2)
    · exact app_wf (leaf_wf (by decide) (by decide)) h
theorem absT_size (x : Int) : ∀ (t : Tr), (absT x t).size ≤ 3 * t.size
  | .leaf k n => by
    rw [absT]; split
    · show 1 ≤ 3 * 1; omega
    · show 1 + 1 + 1 ≤ 3 * 1; omega
  | .un k n a => by show (Tr.un k n a).size ≤ 3 * (Tr.un k n a).size; omega
  | .bin k n a b => by
    have h1 := absT_size x a
    have h2 := absT_size x b
    have hp := a.size_pos
    have hq := b.size_pos
    have hs : (Tr.bin k n a b).size = 1 + a.size + b.size := rfl
    rw [absT]; split
    · split
      · omega
      · show 1 + (1 + 1 + (absT x a).size) + (absT x b).size ≤ _; omega
    · show 1 + 1 + (Tr.bin k n a b).size ≤ _; omega

theorem kind_S (t : Tr) : (toS t).f0 = t.kind ∧ (toS t).f1 = t.num := by cases t <;> exact ⟨rfl, rfl⟩
theorem kind_L (t : Tr) : (toL t).f0 = t.kind ∧ (toL t).f1 = t.num := by cases t <;> exact ⟨rfl, rfl⟩
theorem not_un {k n : Int} {a : Tr} (h : (Tr.un k n a).wf ar) : False := want_one h.1.2

theorem has_impl (x : Int) : ∀ (t : Tr), t.wf ar → Has58.hasT x (toS t) = hasV x t
  | .leaf k n, h => by rw [Has58.hasT_eq]; show (decide (k = 1) && decide (n = x) || Has58.hasL x []) = _; rw [Has58.hasL_any]; simp [hasV]
  | .un k n a, h => (not_un h).elim
  | .bin k n a b, h => by
    have hk : k = 2 := want_of h.1.2
    rw [Has58.hasT_eq]
    show (decide (k = 1) && decide (n = x) || Has58.hasL x [toS a, toS b]) = (hasV x a || hasV x b)
    rw [Has58.hasL_any, hk]
    simp [has_impl x a h.2.1, has_impl x b h.2.2]
theorem has_impl_ev (x : Int) (t : Tr) (h : t.wf ar) : Ev (fun k => impl_comb_has.f k (toS t).f0 (toS t).f1 (toS t).f2 x) (hasV x t) := by
  refine Ev.of_eq (Ev.now _) ?_
  rw [← Has58.hasT_eq, has_impl x t h]

theorem has_spec_ev (x : Int) : ∀ (t : Tr), t.wf ar → Ev (fun k => spec_ldHas.f k (toL t).f0 (toL t).f1 (toL t).f2 x) (hasV x t)
  | .leaf k n, h => by
    by_cases hk : k = 1
    · refine Ev.step (f := fun _ => some (n == x)) (fun m => ?_) (Ev.of_eq (Ev.now _) ?_)
      · show spec_ldHas.f (m + 1) k n [] x = _
        simp only [spec_ldHas.f]; rw [if_pos hk]
      · rw [hasV, decide_eq_true hk, Bool.true_and]; rfl
    · refine Ev.step (f := fun m => spec_ldHas.l0 m x [] 0 0) (fun m => ?_) (Ev.step (f := fun _ => some false) (fun m => ?_) (Ev.of_eq (Ev.now _) ?_))
      · show spec_ldHas.f (m + 1) k n [] x = _
        simp only [spec_ldHas.f]; rw [if_neg hk]; rfl
      · simp only [spec_ldHas.l0]; rw [if_neg (by decide)]
      · rw [hasV, decide_eq_false hk, Bool.false_and]
  | .un k n a, h => (not_un h).elim
  | .bin k n a b, h => by
    have hk : k = 2 := want_of h.1.2
    have ia := has_spec_ev x a h.2.1
    have ib := has_spec_ev x b h.2.2
    refine Ev.step (f := fun m => spec_ldHas.l0 m x [toL a, toL b] 2 0) (fun m => ?_) ?_
    · show spec_ldHas.f (m + 1) k n [toL a, toL b] x = _
      simp only [spec_ldHas.f]; rw [if_neg (by omega)]; rfl
    refine Ev.step (f := fun m => (spec_ldHas.f m (toL a).f0 (toL a).f1 (toL a).f2 x).bind fun t104 => (if t104 = true then (some true) else (spec_ldHas.l0 m x [toL a, toL b] 2 1))) (fun m => ?_) (Ev.bind ia ?_)
    · simp only [spec_ldHas.l0]; rw [if_pos (by decide), if_pos (by decide), if_pos (by simp), show wrap64 ((0 : Int) + 1) = 1 from w64 (by decide) (by decide)]; rfl
    by_cases ha : hasV x a = true
    · refine Ev.ite_pos ha (Ev.of_eq (Ev.now _) ?_)
      rw [hasV, ha, Bool.true_or]
    refine Ev.ite_neg ha ?_
    rw [hasV, Bool.eq_false_iff.mpr ha, Bool.false_or]
    refine Ev.step (f := fun m => (spec_ldHas.f m (toL b).f0 (toL b).f1 (toL b).f2 x).bind fun t104 => (if t104 = true then (some true) else (spec_ldHas.l0 m x [toL a, toL b] 2 2))) (fun m => ?_) (Ev.bind ib ?_)
    · simp only [spec_ldHas.l0]; rw [if_pos (by decide), if_pos (by decide), if_pos (by simp), show wrap64 ((1 : Int) + 1) = 2 from w64 (by decide) (by decide)]; rfl
    by_cases hb : hasV x b = true
    · rw [hb]; exact Ev.ite_pos rfl (Ev.now _)
    · rw [Bool.eq_false_iff.mpr hb]
      refine Ev.ite_neg (by simp) (Ev.step (f := fun _ => some false) (fun m => ?_) (Ev.now _))
      simp only [spec_ldHas.l0]; rw [if_neg (by decide)]

def lastSpec (m : Nat) (x : Int) (a b : Tr) : Option (Int × Int × List S77) := (spec_ldAbstract.f m (toL a).f0 (toL a).f1 (toL a).f2 x).bind fun bt120 => ((spec_ldAbstract.f m (toL b).f0 (toL b).f1 (toL b).f2 x).bind fun bt130 => some (2, 0, [(⟨2, 0, [⟨3, 0, []⟩, ⟨bt120.1, bt120.2.1, bt120.2.2⟩]⟩ : S77), ⟨bt130.1, bt130.2.1, bt130.2.2⟩]))
theorem stop_spec (x : Int) (a b : Tr) : Ev (fun m => spec_ldAbstract.j0 m x true (toL a).f0 (toL a).f1 (toL a).f2 (toL b).f0 (toL b).f1 (toL b).f2) ((toL a).f0, (toL a).f1, (toL a).f2) := Ev.step (f := fun _ => some ((toL a).f0, (toL a).f1, (toL a).f2)) (fun m => rfl) (Ev.now _)
theorem more_spec (x : Int) (a b : Tr) {r : Int × Int × List S77} (h : Ev (fun m => lastSpec m x a b) r) : Ev (fun m => spec_ldAbstract.j0 m x false (toL a).f0 (toL a).f1 (toL a).f2 (toL b).f0 (toL b).f1 (toL b).f2) r := Ev.step (fun m => rfl) h
theorem abs_spec_ev (x : Int) : ∀ (t : Tr), t.wf ar → Ev (fun k => spec_ldAbstract.f k (toL t).f0 (toL t).f1 (toL t).f2 x) ((toL (absT x t)).f0, (toL (absT x t)).f1, (toL (absT x t)).f2)
  | .leaf k n, h => by
    have hh := has_spec_ev x (.leaf k n) h
    rw [absT]
    by_cases hv : hasV x (.leaf k n) = true
    · rw [if_pos hv]
      rw [hv] at hh
      have hk : k = 1 := by
        have h2 := hv
        rw [hasV, Bool.and_eq_true] at h2
        exact of_decide_eq_true h2.1
      refine Ev.step (f := fun m => (spec_ldHas.f m k n [] x).bind fun t103 => (if t103 = true then (if k = 1 then some (5, 0, ([] : List S77)) else none) else some (2, 0, [(⟨4, 0, []⟩ : S77), ⟨k, n, []⟩]))) (fun m => ?_) (Ev.bind hh (Ev.ite_pos rfl (Ev.ite_pos hk (Ev.now _))))
      rfl
    · rw [if_neg hv]
      rw [Bool.eq_false_iff.mpr hv] at hh
      refine Ev.step (f := fun m => (spec_ldHas.f m k n [] x).bind fun t103 => (if t103 = true then (if k = 1 then some (5, 0, ([] : List S77)) else none) else some (2, 0, [(⟨4, 0, []⟩ : S77), ⟨k, n, []⟩]))) (fun m => ?_) (Ev.bind hh (Ev.ite_neg (by simp) (Ev.now _)))
      rfl
  | .un k n a, h => (not_un h).elim
  | .bin k n a b, h => by
    have hk : k = 2 := want_of h.1.2
    have hh := has_spec_ev x (.bin k n a b) h
    have ha := has_spec_ev x a h.2.1
    have ia := abs_spec_ev x a h.2.1
    have ib := abs_spec_ev x b h.2.2
    have kb := kind_L b
    rw [absT]
    by_cases hv : hasV x (.bin k n a b) = true
    case neg =>
      rw [if_neg hv]
      rw [Bool.eq_false_iff.mpr hv] at hh
      refine Ev.step (f := fun m => (spec_ldHas.f m k n [toL a, toL b] x).bind fun t103 => (if t103 = true then (if k = 1 then some (5, 0, ([] : List S77)) else ((spec_ldIs.f (toL b).f0 (toL b).f1 (toL b).f2 x).bind fun t113 => (if t113 = true then ((spec_ldHas.f m (toL a).f0 (toL a).f1 (toL a).f2 x).bind fun t114 => (spec_ldAbstract.j0 m x (!t114) (toL a).f0 (toL a).f1 (toL a).f2 (toL b).f0 (toL b).f1 (toL b).f2)) else (spec_ldAbstract.j0 m x false (toL a).f0 (toL a).f1 (toL a).f2 (toL b).f0 (toL b).f1 (toL b).f2)))) else some (2, 0, [(⟨4, 0, []⟩ : S77), ⟨k, n, [toL a, toL b]⟩]))) (fun m => ?_) (Ev.bind hh (Ev.ite_neg (by simp) (Ev.now _)))
      rfl
    rw [if_pos hv]
    rw [hv] at hh
    have last : Ev (fun m => lastSpec m x a b) ((toL (app (app (.leaf 3 0) (absT x a)) (absT x b))).f0, (toL (app (app (.leaf 3 0) (absT x a)) (absT x b))).f1, (toL (app (app (.leaf 3 0) (absT x a)) (absT x b))).f2) := by
      unfold lastSpec
      refine Ev.bind ia (Ev.bind ib (Ev.of_eq (Ev.now _) ?_))
      dsimp only
      rw [toL_eta, toL_eta]; rfl
    have hi : spec_ldIs.f (toL b).f0 (toL b).f1 (toL b).f2 x = some (isV x b) := by
      unfold spec_ldIs.f isV
      rw [kb.1, kb.2]
      by_cases hb : b.kind = 1
      · rw [if_pos hb, decide_eq_true hb, Bool.true_and]; rfl
      · rw [if_neg hb, decide_eq_false hb, Bool.false_and]
    refine Ev.step (f := fun m => (spec_ldHas.f m k n [toL a, toL b] x).bind fun t103 => (if t103 = true then (if k = 1 then some (5, 0, ([] : List S77)) else ((spec_ldIs.f (toL b).f0 (toL b).f1 (toL b).f2 x).bind fun t113 => (if t113 = true then ((spec_ldHas.f m (toL a).f0 (toL a).f1 (toL a).f2 x).bind fun t114 => (spec_ldAbstract.j0 m x (!t114) (toL a).f0 (toL a).f1 (toL a).f2 (toL b).f0 (toL b).f1 (toL b).f2)) else (spec_ldAbstract.j0 m x false (toL a).f0 (toL a).f1 (toL a).f2 (toL b).f0 (toL b).f1 (toL b).f2)))) else some (2, 0, [(⟨4, 0, []⟩ : S77), ⟨k, n, [toL a, toL b]⟩]))) (fun m => ?_) (Ev.bind hh (Ev.ite_pos rfl (Ev.ite_neg (by omega) ?_)))
    · rfl
    rw [hi]
    refine Ev.bind (Ev.const rfl) ?_
    by_cases hb : isV x b = true
    · refine Ev.ite_pos hb (Ev.bind ha ?_)
      by_cases hxa : hasV x a = true
      · rw [hb, hxa]
        exact more_spec x a b last
      · rw [hb, Bool.eq_false_iff.mpr hxa]
        exact stop_spec x a b
    · refine Ev.ite_neg hb ?_
      rw [Bool.eq_false_iff.mpr hb, Bool.false_and, if_neg (by simp)]
      exact more_spec x a b last

def lastImpl (m : Nat) (x : Int) (a b : Tr) : Option (Int × Int × List S58) := (impl_comb_abstract.f m (toS a).f0 (toS a).f1 (toS a).f2 x).bind fun bt120 => ((impl_comb_abstract.f m (toS b).f0 (toS b).f1 (toS b).f2 x).bind fun bt130 => some (2, 0, [(⟨2, 0, [⟨3, 0, []⟩, ⟨bt120.1, bt120.2.1, bt120.2.2⟩]⟩ : S58), ⟨bt130.1, bt130.2.1, bt130.2.2⟩]))
theorem stop_impl (x : Int) (a b : Tr) : Ev (fun m => impl_comb_abstract.j0 m x true (toS a).f0 (toS a).f1 (toS a).f2 (toS b).f0 (toS b).f1 (toS b).f2) ((toS a).f0, (toS a).f1, (toS a).f2) := Ev.step (f := fun _ => some ((toS a).f0, (toS a).f1, (toS a).f2)) (fun m => rfl) (Ev.now _)
theorem more_impl (x : Int) (a b : Tr) {r : Int × Int × List S58} (h : Ev (fun m => lastImpl m x a b) r) : Ev (fun m => impl_comb_abstract.j0 m x false (toS a).f0 (toS a).f1 (toS a).f2 (toS b).f0 (toS b).f1 (toS b).f2) r := Ev.step (fun m => rfl) h
theorem abs_impl_ev (x : Int) : ∀ (t : Tr), t.wf ar → Ev (fun k => impl_comb_abstract.f k (toS t).f0 (toS t).f1 (toS t).f2 x) ((toS (absT x t)).f0, (toS (absT x t)).f1, (toS (absT x t)).f2)
  | .leaf k n, h => by
    have hh := has_impl_ev x (.leaf k n) h
    rw [absT]
    by_cases hv : hasV x (.leaf k n) = true
    · rw [if_pos hv]
      rw [hv] at hh
      have hk : k = 1 := by
        have h2 := hv
        rw [hasV, Bool.and_eq_true] at h2
        exact of_decide_eq_true h2.1
      refine Ev.step (f := fun m => (impl_comb_has.f m k n [] x).bind fun t103 => (if t103 = true then (if k = 1 then some (5, 0, ([] : List S58)) else none) else some (2, 0, [(⟨4, 0, []⟩ : S58), ⟨k, n, []⟩]))) (fun m => ?_) (Ev.bind hh (Ev.ite_pos rfl (Ev.ite_pos hk (Ev.now _))))
      rfl
    · rw [if_neg hv]
      rw [Bool.eq_false_iff.mpr hv] at hh
      refine Ev.step (f := fun m => (impl_comb_has.f m k n [] x).bind fun t103 => (if t103 = true then (if k = 1 then some (5, 0, ([] : List S58)) else none) else some (2, 0, [(⟨4, 0, []⟩ : S58), ⟨k, n, []⟩]))) (fun m => ?_) (Ev.bind hh (Ev.ite_neg (by simp) (Ev.now _)))
      rfl
  | .un k n a, h => (not_un h).elim
  | .bin k n a b, h => by
    have hk : k = 2 := want_of h.1.2
    have hh := has_impl_ev x (.bin k n a b) h
    have ha := has_impl_ev x a h.2.1
    have ia := abs_impl_ev x a h.2.1
    have ib := abs_impl_ev x b h.2.2
    have kb := kind_S b
    rw [absT]
    by_cases hv : hasV x (.bin k n a b) = true
    case neg =>
      rw [if_neg hv]
      rw [Bool.eq_false_iff.mpr hv] at hh
      refine Ev.step (f := fun m => (impl_comb_has.f m k n [toS a, toS b] x).bind fun t103 => (if t103 = true then (if k = 1 then some (5, 0, ([] : List S58)) else (if (toS b).f0 = 1 then (if (toS b).f1 = x then ((impl_comb_has.f m (toS a).f0 (toS a).f1 (toS a).f2 x).bind fun t114 => (impl_comb_abstract.j0 m x (!t114) (toS a).f0 (toS a).f1 (toS a).f2 (toS b).f0 (toS b).f1 (toS b).f2)) else (impl_comb_abstract.j0 m x false (toS a).f0 (toS a).f1 (toS a).f2 (toS b).f0 (toS b).f1 (toS b).f2)) else (impl_comb_abstract.j0 m x false (toS a).f0 (toS a).f1 (toS a).f2 (toS b).f0 (toS b).f1 (toS b).f2))) else some (2, 0, [(⟨4, 0, []⟩ : S58), ⟨k, n, [toS a, toS b]⟩]))) (fun m => ?_) (Ev.bind hh (Ev.ite_neg (by simp) (Ev.now _)))
      rfl
    rw [if_pos hv]
    rw [hv] at hh
    have last : Ev (fun m => lastImpl m x a b) ((toS (app (app (.leaf 3 0) (absT x a)) (absT x b))).f0, (toS (app (app (.leaf 3 0) (absT x a)) (absT x b))).f1, (toS (app (app (.leaf 3 0) (absT x a)) (absT x b))).f2) := by
      unfold lastImpl
      refine Ev.bind ia (Ev.bind ib (Ev.of_eq (Ev.now _) ?_))
      dsimp only
      rw [toS_eta, toS_eta]; rfl
    refine Ev.step (f := fun m => (impl_comb_has.f m k n [toS a, toS b] x).bind fun t103 => (if t103 = true then (if k = 1 then some (5, 0, ([] : List S58)) else (if (toS b).f0 = 1 then (if (toS b).f1 = x then ((impl_comb_has.f m (toS a).f0 (toS a).f1 (toS a).f2 x).bind fun t114 => (impl_comb_abstract.j0 m x (!t114) (toS a).f0 (toS a).f1 (toS a).f2 (toS b).f0 (toS b).f1 (toS b).f2)) else (impl_comb_abstract.j0 m x false (toS a).f0 (toS a).f1 (toS a).f2 (toS b).f0 (toS b).f1 (toS b).f2)) else (impl_comb_abstract.j0 m x false (toS a).f0 (toS a).f1 (toS a).f2 (toS b).f0 (toS b).f1 (toS b).f2))) else some (2, 0, [(⟨4, 0, []⟩ : S58), ⟨k, n, [toS a, toS b]⟩]))) (fun m => ?_) (Ev.bind hh (Ev.ite_pos rfl (Ev.ite_neg (by omega) ?_)))
    · rfl
    by_cases hb : (toS b).f0 = 1
    · refine Ev.ite_pos hb ?_
      by_cases hn : (toS b).f1 = x
      · have hi : isV x b = true := by unfold isV; rw [← kb.1, ← kb.2, decide_eq_true hb, decide_eq_true hn]; rfl
        refine Ev.ite_pos hn (Ev.bind ha ?_)
        by_cases hxa : hasV x a = true
        · rw [hi, hxa]
          exact more_impl x a b last
        · rw [hi, Bool.eq_false_iff.mpr hxa]
          exact stop_impl x a b
      · have hi : isV x b = false := by unfold isV; rw [← kb.2, decide_eq_false hn, Bool.and_false]
        refine Ev.ite_neg hn ?_
        rw [hi, Bool.false_and, if_neg (by simp)]
        exact more_impl x a b last
    · have hi : isV x b = false := by unfold isV; rw [← kb.1, decide_eq_false hb, Bool.false_and]
      refine Ev.ite_neg hb ?_
      rw [hi, Bool.false_and, if_neg (by simp)]
      exact more_impl x a b last

end Go.Proofs.Ytcjhhdecckcibaa.CombL

namespace Go.Proofs.Ytcjhhdecckcibaa.TermL
open Go.RowKit Go.Proofs.Ytcjhhdecckcibaa.G Go.Proofs.Ytcjhhdecckcibaa.EvL Go.Proofs.Ytcjhhdecckcibaa.TreeM Go.Proofs.YtcjhhdecckcibaaW.PrintWords Go.Proofs.YtcjhhdecckcibaaW.PrintLast
set_option linter.unusedVariables false

def conv (c : S65) : S62 := ⟨c.f0, c.f1, c.f2⟩
def nd (c : S62) : Nd := ⟨c.f0, c.f1, c.f2⟩
theorem rdC (l : List S62) (i : Nat) : rd_T62 l (i : Int) = l.getD i z62 := by unfold rd_T62; rw [Int.toNat_natCast]
theorem rdL (l : List S65) (i : Nat) : rd_T65 l (i : Int) = l.getD i z65 := by unfold rd_T65; rw [Int.toNat_natCast]
theorem next (i : Nat) {n : Nat} (h : i < n) (hn : n ≤ 9223372036854775807) : wrap64 ((i : Int) + 1) = ((i + 1 : Nat) : Int) := by rw [w64 (by omega) (by omega)]; omega
theorem getD_nd (l : List S62) (i : Nat) : (l.map nd).getD i z = nd (l.getD i z62) := by
  rw [List.getD_eq_getElem?_getD, List.getD_eq_getElem?_getD, List.getElem?_map]
  cases l[i]? <;> rfl
theorem up_nd (l : List S62) (i : Nat) : (l.getD i z62).f2 = TreeM.up (l.map nd) i := by unfold TreeM.up; rw [getD_nd]; rfl

theorem toTerms (l : List S65) (hl : l.length ≤ 1048576) : Ev (fun k => laws_toTermS.f k l) (l.map conv) := by
  unfold laws_toTermS.f
  refine Ev.ite_pos (by omega) (Ev.ite_pos (by omega) ?_)
  rw [Int.toNat_natCast]
  refine Ev.of_eq (ev_fill (fun k acc i => laws_toTermS.l0 k l acc i) l.length (fun j => conv (l.getD j z65)) ?_ ?_ l.length 0 (List.replicate l.length z62) (by omega) (by simp)) ?_
  · intro k acc i hi hacc
    simp only [laws_toTermS.l0, laws_toTerm.f, Option.bind_some]
    rw [if_pos (by omega), if_pos (by omega), if_pos (by omega), next i hi (by omega), rdL, Int.toNat_natCast]
    rfl
  · intro k acc hacc
    simp only [laws_toTermS.l0]
    rw [if_neg (by omega)]
  · rw [List.take_zero, List.nil_append]
    simp only [Nat.zero_add]
    rw [show (List.range l.length).map (fun j => conv (l.getD j z65)) = ((List.range l.length).map fun j => l.getD j z65).map conv by rw [List.map_map]; rfl, range_getD]

theorem eqTerms (a : List S62) (ha : a.length ≤ 9223372036854775807) : Ev (fun k => laws_eqTermS.f k a a) true := by
  unfold laws_eqTermS.f
  refine Ev.ite_pos rfl ?_
  refine Ev.of_eq (ev_all (fun k i => laws_eqTermS.l0 k a a i) a.length (fun _ => true) ?_ ?_ a.length 0 (by omega)) (by simp)
  · intro k i hi
    simp only [laws_eqTermS.l0, laws_eqTerm.f]
    rw [if_pos (by omega), if_pos (by omega), if_pos (by omega)]
    simp only [if_true, Option.bind_some]
    rw [next i hi ha]
  · intro k
    simp only [laws_eqTermS.l0]
    rw [if_neg (by omega)]

theorem l1In_eq (a b c : Int) : spec_l1In.f a b c = some (decide (b ≤ a ∧ a ≤ c)) := by
  unfold spec_l1In.f
  by_cases h : a ≥ b
  · rw [if_pos h]; congr 1; exact decide_eq_decide.mpr (by omega)
  · rw [if_neg h, decide_eq_false (by omega)]

def ar : Arity := ⟨3, fun k => if k = 2 then 1 else if k = 3 then 2 else 0⟩
theorem ar2 (k : Int) : ar.want k ≤ 2 := by show (if k = 2 then 1 else if k = 3 then 2 else 0) ≤ 2; split <;> (try split) <;> omega
structure NodeOk (L : List Nd) (m : Nat) : Prop where
  top : m = 0 ↔ up L m = -1
  ahead : -1 ≤ up L m ∧ up L m < (m : Int)
  kind : 1 ≤ (L.getD m z).kind ∧ (L.getD m z).kind ≤ 3
  num : 0 ≤ (L.getD m z).n ∧ (L.getD m z).n ≤ 99 ∧ ((L.getD m z).kind = 1 ∨ (L.getD m z).n = 0)
  around : m = 0 ∨ ∃ x ∈ chain L (m - 1), (x : Int) = up L m
  deep : (chain L m).length ≤ 40
  wants : cnt L m (m + 1) (L.length - (m + 1)) = ar.want (L.getD m z).kind

theorem parts (l : List S62) (i : Nat) (hl : l.length ≤ 200) : ∀ (d a : Nat) (acc : List Int), a + d = l.length → acc.length + d ≤ 200 → ∃ r, Ev (fun k => spec_lcParts.l0 k l i acc a) r ∧ r.length = acc.length + cnt (l.map nd) i a d := by
  intro d
  induction d with
  | zero =>
    intro a acc ha _
    refine ⟨acc, Ev.step (f := fun _ => some acc) (fun k => ?_) (Ev.now _), rfl⟩
    simp only [spec_lcParts.l0]
    rw [if_neg (by omega)]
  | succ d ih =>
    intro a acc ha hacc
    by_cases h : up (l.map nd) a = (i : Int)
    · obtain ⟨r, hr, hn⟩ := ih (a + 1) (acc ++ [(a : Int)]) (by omega) (by simp; omega)
      refine ⟨r, Ev.step (fun k => ?_) hr, ?_⟩
      · simp only [spec_lcParts.l0]
        rw [if_pos (by omega), if_pos (by omega), rdC, up_nd, if_pos h, if_pos (by omega), next a (n := l.length) (by omega) (by omega)]
      · rw [hn, List.length_append]
        show acc.length + 1 + _ = acc.length + ((if up (l.map nd) a = (i : Int) then 1 else 0) + _)
        rw [if_pos h]; omega
    · obtain ⟨r, hr, hn⟩ := ih (a + 1) acc (by omega) (by omega)
      refine ⟨r, Ev.step (fun k => ?_) hr, ?_⟩
      · simp only [spec_lcParts.l0]
        rw [if_pos (by omega), if_pos (by omega), rdC, up_nd, if_neg h, next a (n := l.length) (by omega) (by omega)]
      · rw [hn]
        show _ = acc.length + ((if up (l.map nd) a = (i : Int) then 1 else 0) + _)
        rw [if_neg h]; omega

theorem lcParts (l : List S62) (i : Nat) (hi : i < l.length) (hl : l.length ≤ 200) : ∃ r, Ev (fun k => spec_lcParts.f k l i) r ∧ r.length = cnt (l.map nd) i (i + 1) (l.length - (i + 1)) := by
  obtain ⟨r, hr, hn⟩ := parts l i hl (l.length - (i + 1)) (i + 1) [] (by omega) (by simp; omega)
  refine ⟨r, ?_, by rw [hn]; simp⟩
  unfold spec_lcParts.f
  rw [next i hi (by omega)]
  exact hr

theorem deepLoop (l : List S62) (hl : l.length ≤ 200) (i : Nat) (hi : i < l.length) (b : Bool) (kd n u : Int) (h : ∀ m, m ≤ i → -1 ≤ up (l.map nd) m ∧ up (l.map nd) m < (m : Int)) {r : Bool} :
    ∀ (j d : Nat), j ≤ i → d + j ≤ 400 → Ev (fun k => spec_GoodTerm.l2 k l i b ((d + (chain (l.map nd) j).length : Nat) : Int) (-1) l l.length i kd n u) r → Ev (fun k => spec_GoodTerm.l2 k l i b (d : Int) (j : Int) l l.length i kd n u) r := by
  intro j
  induction j using Nat.strongRecOn with
  | _ j ih =>
    intro d hj hd hE
    refine Ev.step (f := fun k => spec_GoodTerm.l2 k l i b ((d + 1 : Nat) : Int) (up (l.map nd) j) l l.length i kd n u) (fun k => ?_) ?_
    · show (if (j : Int) ≥ 0 then _ else _) = _
      rw [if_pos (by omega), if_pos (by omega), if_pos (by omega), rdC, up_nd, w64 (by omega) (by omega)]
      rfl
    · have hu := h j hj
      by_cases hu0 : 0 ≤ up (l.map nd) j
      · rw [show up (l.map nd) j = (((up (l.map nd) j).toNat : Nat) : Int) by omega]
        refine ih _ (by omega) (d + 1) (by omega) (by omega) ?_
        rw [chain_up ⟨hu0, hu.2⟩, List.length_cons] at hE
        rw [show d + 1 + (chain (l.map nd) (up (l.map nd) j).toNat).length = d + ((chain (l.map nd) (up (l.map nd) j).toNat).length + 1) by omega]
        exact hE
      · rw [chain_top (by omega)] at hE
        rw [show up (l.map nd) j = -1 by omega]
        exact hE

theorem aroundLoop (l : List S62) (hl : l.length ≤ 200) (i : Nat) (hi : i < l.length) (kd n u : Int) (h : ∀ m, m < i → -1 ≤ up (l.map nd) m ∧ up (l.map nd) m < (m : Int)) {r : Bool} {c : Bool} :
    ∀ (j : Nat), j < i → (c = true ↔ ∃ x ∈ chain (l.map nd) j, (x : Int) = u) → Ev (fun k => spec_GoodTerm.j3 k l i c l l.length i kd n u) r → Ev (fun k => spec_GoodTerm.l1 k l i false (j : Int) l l.length i kd n u) r := by
  intro j
  induction j using Nat.strongRecOn with
  | _ j ih =>
    intro hj hc hE
    have hu := h j hj
    refine Ev.step (f := fun k => spec_GoodTerm.l1 k l i ((j : Int) == u) (up (l.map nd) j) l l.length i kd n u) (fun k => ?_) ?_
    · show (if (j : Int) ≥ 0 then _ else _) = _
      rw [if_pos (by omega), if_neg (by simp), if_pos (by omega), if_pos (by omega), rdC, up_nd]
    · by_cases hju : (j : Int) = u
      · obtain rfl : c = true := hc.mpr ⟨j, chain_self _ _, hju⟩
        rw [show ((j : Int) == u) = true by simpa using hju]
        refine Ev.step (f := fun k => spec_GoodTerm.j3 k l i true l l.length i kd n u) (fun k => ?_) hE
        simp only [spec_GoodTerm.l1]
        simp
      · rw [show ((j : Int) == u) = false by simpa using hju]
        by_cases hu0 : 0 ≤ up (l.map nd) j
        · rw [show up (l.map nd) j = (((up (l.map nd) j).toNat : Nat) : Int) by omega]
          refine ih _ (by omega) (by omega) (hc.trans ?_) hE
          rw [chain_up ⟨hu0, hu.2⟩]
          simp [hju]
        · obtain rfl : c = false := by
            cases c with
            | false => rfl
            | true =>
              obtain ⟨x, hx, hxu⟩ := hc.mp rfl
              rw [chain_top (by omega)] at hx
              have : x = j := by simpa using hx
              subst this; exact absurd hxu hju
          refine Ev.step (f := fun k => spec_GoodTerm.j3 k l i false l l.length i kd n u) (fun k => ?_) hE
          simp only [spec_GoodTerm.l1]
          rw [if_neg (by omega)]

theorem badNode (l : List S62) (a b c kd n u : Int) : Ev (fun k => spec_GoodTerm.j1 k l a l b c true kd n u) false := by
  refine Ev.step (f := fun _ => some false) (fun k => ?_) (Ev.now _)
  simp only [spec_GoodTerm.j1]
  rfl

theorem specLoop (l : List S62) (hl : l.length ≤ 200) : ∀ (d i : Nat), i + d = l.length → (∀ m, m < i → -1 ≤ up (l.map nd) m ∧ up (l.map nd) m < (m : Int)) →
    ∃ b, Ev (fun k => spec_GoodTerm.l0 k l l l.length i) b ∧ (b = true ↔ ∀ m, i ≤ m → m < l.length → NodeOk (l.map nd) m) := by
  intro d
  induction d with
  | zero =>
    intro i hi _
    refine ⟨true, Ev.step (f := fun _ => some true) (fun k => ?_) (Ev.now _), ?_⟩
    · simp only [spec_GoodTerm.l0]
      rw [if_neg (by omega)]
    · exact ⟨fun _ m h1 h2 => by omega, fun _ => rfl⟩
  | succ d ih =>
    intro i hi hah
    have hil : i < l.length := by omega
    have eu : (l.getD i z62).f2 = TreeM.up (l.map nd) i := up_nd l i
    have ek : (l.getD i z62).f0 = ((l.map nd).getD i z).kind := by rw [getD_nd]; rfl
    have en : (l.getD i z62).f1 = ((l.map nd).getD i z).n := by rw [getD_nd]; rfl
    have hlen : (l.map nd).length = l.length := List.length_map ..
    -- a node that is not good
    have bad : ∀ {F : Nat → Option Bool}, ¬ NodeOk (l.map nd) i → Ev F false → ∃ b, Ev F b ∧ (b = true ↔ ∀ m, i ≤ m → m < l.length → NodeOk (l.map nd) m) :=
      fun hn hE => ⟨false, hE, fun h => absurd h (by simp), fun h => absurd (h i (Nat.le_refl _) hil) hn⟩
    generalize hu : up (l.map nd) i = u at *
    generalize hk : ((l.map nd).getD i z).kind = kd at *
    generalize hn : ((l.map nd).getD i z).n = n at *
    have st : ∀ k, spec_GoodTerm.l0 (k + 1) l l l.length i = (if ((((i : Int) == 0) != (u == (-1))) = true) then (spec_GoodTerm.j1 k l i l l.length i true kd n u) else (spec_GoodTerm.j1 k l i l l.length i (!decide (-1 ≤ u ∧ u ≤ (i : Int) - 1)) kd n u)) := by
      intro k
      simp only [spec_GoodTerm.l0]
      rw [if_pos (by omega), if_pos (by omega), if_pos (by omega), rdC, eu, ek, en, l1In_eq, w64 (by omega) (by omega)]
      simp only [Option.bind_some]
    have hT : ((((i : Int) == 0) != (u == (-1))) = true) ↔ ¬ (i = 0 ↔ u = -1) := by
      have e1 : ((i : Int) == 0) = decide (i = 0) := by rw [Bool.eq_iff_iff]; simp
      have e2 : (u == (-1)) = decide (u = -1) := by rw [Bool.eq_iff_iff]; simp
      rw [e1, e2]
      by_cases h1 : i = 0 <;> by_cases h2 : u = -1 <;> simp [h1, h2]
    by_cases h1 : i = 0 ↔ u = -1
    case neg =>
      exact bad (fun h => h1 (hu ▸ h.top)) (Ev.step (fun k => (st k).trans (if_pos (hT.mpr h1))) (badNode ..))
    have st := fun k => (st k).trans (if_neg (fun h => hT.mp h h1))
    by_cases h2 : -1 ≤ u ∧ u ≤ (i : Int) - 1
    case neg =>
      refine bad (fun h => h2 (by have := h.ahead; rw [hu] at this; omega)) (Ev.step (f := fun k => spec_GoodTerm.j1 k l i l l.length i true kd n u) (fun k => (st k).trans ?_) (badNode ..))
      rw [decide_eq_false h2]; rfl
    have st : ∀ k, spec_GoodTerm.l0 (k + 1) l l l.length i = spec_GoodTerm.j1 k l i l l.length i false kd n u := by
      intro k
      rw [st k, decide_eq_true h2]; rfl
    have hah' : ∀ m, m < i + 1 → -1 ≤ up (l.map nd) m ∧ up (l.map nd) m < (m : Int) := by
      intro m hm
      by_cases hmi : m = i
      · subst hmi; rw [hu]; omega
      · exact hah m (by omega)
    obtain ⟨b, hb, hbi⟩ := ih (i + 1) (by omega) hah'
    obtain ⟨ps, hps, hpn⟩ := lcParts l i hil hl
    -- the end
    obtain ⟨c, hc⟩ : ∃ c : Bool, c = true ↔ (i = 0 ∨ ∃ x ∈ chain (l.map nd) (i - 1), (x : Int) = u) := by
      by_cases h : (i = 0 ∨ ∃ x ∈ chain (l.map nd) (i - 1), (x : Int) = u)
      · exact ⟨true, by simp [h]⟩
      · exact ⟨false, by simp [h]⟩
    have go : ∀ {r : Bool}, Ev (fun k => spec_GoodTerm.l2 k l i c (((chain (l.map nd) i).length : Nat) : Int) (-1) l l.length i kd n u) r → Ev (fun k => spec_GoodTerm.l0 k l l l.length i) r := by
      intro r hE
      refine Ev.step st ?_
      refine Ev.step (f := fun k => spec_GoodTerm.l1 k l i ((i : Int) == 0) ((i : Int) - 1) l l.length i kd n u) (fun k => ?_) ?_
      · simp only [spec_GoodTerm.j1]
        rw [w64 (by omega) (by omega)]
        rfl
      · have hj3 : Ev (fun k => spec_GoodTerm.j3 k l i c l l.length i kd n u) r := by
          refine Ev.step (f := fun k => spec_GoodTerm.l2 k l i c ((0 : Nat) : Int) (i : Int) l l.length i kd n u) (fun k => rfl) ?_
          refine deepLoop l hl i hil c kd n u (fun m hm => hah' m (by omega)) i 0 (Nat.le_refl _) (by omega) ?_
          rw [Nat.zero_add]; exact hE
        by_cases hi0 : i = 0
        · obtain rfl : c = true := hc.mpr (.inl hi0)
          subst hi0
          refine Ev.step (f := fun k => spec_GoodTerm.j3 k l (0 : Nat) true l l.length (0 : Nat) kd n u) (fun k => ?_) hj3
          simp only [spec_GoodTerm.l1]
          rfl
        · rw [show ((i : Int) == 0) = false by simpa using hi0, show (i : Int) - 1 = ((i - 1 : Nat) : Int) by omega]
          refine aroundLoop l hl i hil kd n u hah (i - 1) (by omega) (hc.trans ?_) hj3
          simp [hi0]
    have fin : ∀ k, spec_GoodTerm.l2 (k + 1) l i c (((chain (l.map nd) i).length : Nat) : Int) (-1) l l.length i kd n u = (if 1 ≤ kd ∧ kd ≤ 3 then spec_GoodTerm.j5 k l i c (((chain (l.map nd) i).length : Nat) : Int) (ar.want kd) l l.length i kd n u else some false) := by
      intro k
      simp only [spec_GoodTerm.l2]
      rw [if_neg (by decide)]
      by_cases h1 : kd = 1
      · subst h1; rw [if_pos rfl, if_pos (by decide)]; rfl
      · rw [if_neg h1]
        by_cases h2 : kd = 2
        · subst h2; rw [if_pos rfl, if_pos (by decide)]; rfl
        · rw [if_neg h2]
          by_cases h3 : kd = 3
          · subst h3; rw [if_pos rfl, if_pos (by decide)]; rfl
          · rw [if_neg h3, if_neg (by omega)]
    by_cases h3 : 1 ≤ kd ∧ kd ≤ 3
    case neg =>
      exact bad (fun h => h3 (hk ▸ h.kind)) (go (Ev.step (f := fun _ => some false) (fun k => (fin k).trans (if_neg h3)) (Ev.now _)))
    have go : ∀ {r : Bool}, Ev (fun k => spec_GoodTerm.j5 k l i c (((chain (l.map nd) i).length : Nat) : Int) (ar.want kd) l l.length i kd n u) r → Ev (fun k => spec_GoodTerm.l0 k l l l.length i) r :=
      fun hE => go (Ev.step (fun k => (fin k).trans (if_pos h3)) hE)
    have fin : ∀ k, spec_GoodTerm.j5 (k + 1) l i c (((chain (l.map nd) i).length : Nat) : Int) (ar.want kd) l l.length i kd n u = (if c = true then (if (((chain (l.map nd) i).length : Nat) : Int) > 40 then some false else ((spec_lcParts.f k l i).bind fun t => (if (t.length : Int) = ar.want kd then (if 0 ≤ n ∧ n ≤ 99 then (if kd = 1 then spec_GoodTerm.l0 k l l l.length ((i + 1 : Nat) : Int) else if n = 0 then spec_GoodTerm.l0 k l l l.length ((i + 1 : Nat) : Int) else some false) else some false) else some false))) else some false) := by
      intro k
      simp only [spec_GoodTerm.j5, l1In_eq, next i hil (Nat.le_trans hl (by decide)), Option.bind_some, decide_eq_true_eq]
    by_cases h7 : c = true
    case neg =>
      exact bad (fun h => h7 (hc.mpr (hu ▸ h.around))) (go (Ev.step (f := fun _ => some false) (fun k => (fin k).trans (if_neg h7)) (Ev.now _)))
    have fin := fun k => (fin k).trans (if_pos h7)
    by_cases h8 : (chain (l.map nd) i).length ≤ 40
    case neg =>
      exact bad (fun h => h8 h.deep) (go (Ev.step (f := fun _ => some false) (fun k => (fin k).trans (if_pos (by omega))) (Ev.now _)))
    have fin := fun k => (fin k).trans (if_neg (by omega))
    by_cases h9 : ps.length = ar.want kd
    case neg =>
      exact bad (fun h => h9 (by have := h.wants; rw [hk, hlen] at this; rw [hpn]; exact this)) (go (Ev.step fin (Ev.bind hps (Ev.ite_neg (by omega) (Ev.now _)))))
    have go : ∀ {r : Bool}, Ev (fun k => (if 0 ≤ n ∧ n ≤ 99 then (if kd = 1 then spec_GoodTerm.l0 k l l l.length ((i + 1 : Nat) : Int) else if n = 0 then spec_GoodTerm.l0 k l l l.length ((i + 1 : Nat) : Int) else some false) else some false)) r → Ev (fun k => spec_GoodTerm.l0 k l l l.length i) r :=
      fun hE => go (Ev.step fin (Ev.bind hps (Ev.ite_pos (by omega) hE)))
    by_cases h4 : 0 ≤ n ∧ n ≤ 99
    case neg =>
      exact bad (fun h => h4 (by have := h.num; rw [hn] at this; omega)) (go (Ev.ite_neg h4 (Ev.now _)))
    by_cases h5 : kd = 1 ∨ n = 0
    case neg =>
      exact bad (fun h => h5 (by have := h.num; rw [hn, hk] at this; omega)) (go (Ev.ite_pos h4 (Ev.ite_neg (by omega) (Ev.ite_neg (by omega) (Ev.now _)))))
    have good : NodeOk (l.map nd) i := by
      refine ⟨by rw [hu]; exact h1, by rw [hu]; omega, by rw [hk]; exact h3, by rw [hn, hk]; exact ⟨h4.1, h4.2, h5⟩, by rw [hu]; exact hc.mp h7, h8, ?_⟩
      rw [hk, hlen, ← hpn]; exact h9
    refine ⟨b, go (Ev.ite_pos h4 ?_), hbi.trans ?_⟩
    · by_cases h6 : kd = 1
      · exact Ev.ite_pos h6 hb
      · exact Ev.ite_neg h6 (Ev.ite_pos (by omega) hb)
    constructor
    · intro h m hm1 hm2
      by_cases hmi : m = i
      · subst hmi; exact good
      · exact h m (by omega) hm2
    · intro h m hm1 hm2
      exact h m (by omega) hm2
end Go.Proofs.Ytcjhhdecckcibaa.TermL

namespace Go.Proofs.Ytcjhhdecckcibaa.TermL
open Go.RowKit Go.Proofs.Ytcjhhdecckcibaa.G Go.Proofs.Ytcjhhdecckcibaa.EvL Go.Proofs.Ytcjhhdecckcibaa.TreeM Go.Proofs.YtcjhhdecckcibaaW.PrintWords Go.Proofs.YtcjhhdecckcibaaW.PrintLast
set_option linter.unusedVariables false

def toS : Tr → S68
  | .leaf k n => ⟨k, n, []⟩
  | .un k n a => ⟨k, n, [toS a]⟩
  | .bin k n a b => ⟨k, n, [toS a, toS b]⟩
theorem toS_eta (a : Tr) : (⟨(toS a).f0, (toS a).f1, (toS a).f2⟩ : S68) = toS a := by cases toS a; rfl

theorem at_nd {l : List S62} {i : Nat} (h : i < l.length) : (l.map nd)[i]? = some ⟨(l.getD i z62).f0, (l.getD i z62).f1, TreeM.up (l.map nd) i⟩ := by
  rw [get_of (by rw [List.length_map]; exact h), getD_nd, ← up_nd]; rfl

theorem termAt_ev (l : List S62) (hl : l.length ≤ 200) : ∀ (d i : Nat) (u : Int), i + d = l.length →
    (∃ t e, Par ar (l.map nd) i u t e ∧ Ev (fun k => impl_termAt.f k l i u) ((toS t).f0, (toS t).f1, (toS t).f2, (e : Int), true)) ∨
    ((∀ t e, ¬ Par ar (l.map nd) i u t e) ∧ Ev (fun k => impl_termAt.f k l i u) (0, 0, ([] : List S68), 0, false)) := by
  intro d
  induction d using Nat.strongRecOn with
  | _ d ih =>
    intro i u hi
    have bad : ∀ {x}, Ev (fun k => impl_termAt.j0 k l x true) (0, 0, ([] : List S68), 0, false) := fun {x} => Ev.step (f := fun _ => some (0, 0, ([] : List S68), 0, false)) (fun k => by simp only [impl_termAt.j0]; rfl) (Ev.now _)
    have hlen : (l.map nd).length = l.length := List.length_map ..
    by_cases hd : d = 0
    · refine .inr ⟨fun t e h => ?_, Ev.step (f := fun k => impl_termAt.j0 k l i true) (fun k => ?_) bad⟩
      · have := h.lt; have := h.span; omega
      · simp only [impl_termAt.f]; rw [if_pos (by omega)]
    have hil : i < l.length := by omega
    have hx := at_nd hil
    generalize hk : (l.getD i z62).f0 = kd at *
    generalize hn : (l.getD i z62).f1 = n at *
    -- what a tree from here on begins with
    have inv : ∀ {t e}, Par ar (l.map nd) i u t e → TreeM.up (l.map nd) i = u ∧ 1 ≤ kd ∧ kd ≤ 3 := by
      intro t e h
      cases h with
      | leaf h2 h3 _ => rw [hx] at h2; injection h2 with h2; injection h2 with a b c; subst a; exact ⟨c, h3⟩
      | un h2 h3 _ _ => rw [hx] at h2; injection h2 with h2; injection h2 with a b c; subst a; exact ⟨c, h3⟩
      | bin h2 h3 _ _ _ => rw [hx] at h2; injection h2 with h2; injection h2 with a b c; subst a; exact ⟨c, h3⟩
    have st : ∀ k, impl_termAt.f (k + 1) l i u = (if TreeM.up (l.map nd) i = u then (if kd < 1 then (impl_termAt.j0 k l i true) else (impl_termAt.j0 k l i (decide (kd > 3)))) else (impl_termAt.j0 k l i true)) := by
      intro k
      simp only [impl_termAt.f]
      rw [if_neg (by omega), if_pos (by omega), if_pos (by omega), rdC, up_nd, hk]
    by_cases h1 : TreeM.up (l.map nd) i = u
    case neg => exact .inr ⟨fun t e h => h1 (inv h).1, Ev.step (fun k => (st k).trans (if_neg h1)) bad⟩
    have st := fun k => (st k).trans (if_pos h1)
    by_cases h2 : kd < 1
    · exact .inr ⟨fun t e h => by have := inv h; omega, Ev.step (fun k => (st k).trans (if_pos h2)) bad⟩
    have st := fun k => (st k).trans (if_neg h2)
    by_cases h3 : kd > 3
    · refine .inr ⟨fun t e h => by have := inv h; omega, Ev.step (f := fun k => impl_termAt.j0 k l i true) (fun k => ?_) bad⟩
      rw [st k, decide_eq_true h3]
    have hkd : 1 ≤ kd ∧ kd ≤ ar.top := ⟨by omega, by show kd ≤ 3; omega⟩
    -- the rounds over its parts
    have go : ∀ {r}, Ev (fun k => impl_termAt.l0 k l i ((i + 1 : Nat) : Int) (kd - 1) 0 kd n []) r → Ev (fun k => impl_termAt.f k l i u) r := by
      intro r hE
      refine Ev.step (f := fun k => impl_termAt.j0 k l i false) (fun k => ?_) (Ev.step (fun k => ?_) hE)
      · rw [st k, decide_eq_false h3]
      · simp only [impl_termAt.j0]
        rw [if_neg (by simp), if_pos (by omega), if_pos (by omega), rdC, hk, hn, next i hil (by omega), w64 (x := kd - 1) (by omega) (by omega)]
    have done : ∀ (e j : Int) (ps : List S68), ¬ j < kd - 1 → Ev (fun k => impl_termAt.l0 k l i e (kd - 1) j kd n ps) (kd, n, ps, e, true) := by
      intro e j ps hps
      refine Ev.step (f := fun _ => some (kd, n, ps, e, true)) (fun k => ?_) (Ev.now _)
      simp only [impl_termAt.l0]
      rw [if_neg hps]
    have one : ∀ (e : Nat) (j : Int) (ps : List S68), 0 ≤ j → j < kd - 1 → ∀ {r}, Ev (fun k => (impl_termAt.f k l e i).bind fun bt => (if bt.2.2.2.2 = true then (if ps.length < 3518437208883 then (impl_termAt.l0 k l i bt.2.2.2.1 (kd - 1) (j + 1) kd n (ps ++ [(⟨bt.1, bt.2.1, bt.2.2.1⟩ : S68)])) else (none)) else (some (0, 0, ([] : List S68), 0, false)))) r → Ev (fun k => impl_termAt.l0 k l i e (kd - 1) j kd n ps) r := by
      intro e j ps hj0 hj r hE
      refine Ev.step (fun k => ?_) hE
      simp only [impl_termAt.l0]
      rw [if_pos hj, w64 (x := j + 1) (by omega) (by omega)]
    by_cases hk1 : kd = 1
    · refine .inl ⟨.leaf kd n, i + 1, .leaf (by rw [hx, h1]) hkd (by rw [hk1]; rfl), ?_⟩
      exact go (done _ _ _ (by omega))
    have inva : ∀ {t e}, Par ar (l.map nd) i u t e → ∃ a e1, Par ar (l.map nd) (i + 1) i a e1 := by
      intro t e h
      cases h with
      | leaf h2 h3 h4 =>
        rw [hx] at h2; injection h2 with h2; injection h2 with a b c; subst a
        have : kd = 2 ∨ kd = 3 := by omega
        rcases this with rfl | rfl <;> exact absurd h4 (by decide)
      | un h2 _ _ h5 => exact ⟨_, _, h5⟩
      | bin _ _ _ h5 _ => exact ⟨_, _, h5⟩
    rcases ih (d - 1) (by omega) (i + 1) i (by omega) with ⟨a, e1, pa, ea⟩ | ⟨na, ea⟩
    case inr =>
      refine .inr ⟨fun t e h => ?_, go (one _ _ _ (by omega) (by omega) (Ev.bind ea (Ev.ite_neg (by simp) (Ev.now _))))⟩
      obtain ⟨a, e1, h5⟩ := inva h
      exact na _ _ h5
    have s1 := pa.span
    have l1 := pa.lt
    by_cases hk2 : kd = 2
    · refine .inl ⟨.un kd n a, e1, .un (by rw [hx, h1]) hkd (by rw [hk2]; rfl) pa, ?_⟩
      refine go (one _ 0 [] (by omega) (by omega) (Ev.bind ea (Ev.ite_pos rfl (Ev.ite_pos (by simp) ?_))))
      show Ev (fun k => impl_termAt.l0 k l i (e1 : Int) (kd - 1) (0 + 1) kd n ([] ++ [(⟨(toS a).f0, (toS a).f1, (toS a).f2⟩ : S68)])) _
      rw [toS_eta, List.nil_append]
      exact done (e1 : Int) _ [toS a] (by omega)
    have hk3 : kd = 3 := by omega
    have hw : ar.want kd = 2 := by rw [hk3]; rfl
    have invb : ∀ {t e}, Par ar (l.map nd) i u t e → ∃ a b e1, Par ar (l.map nd) (i + 1) i a e1 ∧ Par ar (l.map nd) e1 i b e := by
      intro t e h
      cases h with
      | leaf h2 _ h4 => rw [hx] at h2; injection h2 with h2; injection h2 with a b c; subst a; omega
      | un h2 _ h4 _ => rw [hx] at h2; injection h2 with h2; injection h2 with a b c; subst a; omega
      | bin _ _ _ h5 h6 => exact ⟨_, _, _, h5, h6⟩
    rcases ih (l.length - e1) (by omega) e1 i (by omega) with ⟨b, e2, pb, eb⟩ | ⟨nb, eb⟩
    case inr =>
      refine .inr ⟨fun t e h => ?_, go (one _ 0 _ (by omega) (by omega) (Ev.bind ea (Ev.ite_pos rfl (Ev.ite_pos (by simp) (one _ _ _ (by omega) (by omega) (Ev.bind eb (Ev.ite_neg (by simp) (Ev.now _))))))))⟩
      obtain ⟨a', b', e1', h5, h6⟩ := invb h
      obtain ⟨_, rfl⟩ := pa.unique h5
      exact nb _ _ h6
    refine .inl ⟨.bin kd n a b, e2, .bin (by rw [hx, h1]) hkd hw pa pb, ?_⟩
    refine go (one _ 0 [] (by omega) (by omega) (Ev.bind ea (Ev.ite_pos rfl (Ev.ite_pos (by simp) ?_))))
    show Ev (fun k => impl_termAt.l0 k l i (e1 : Int) (kd - 1) (0 + 1) kd n ([] ++ [(⟨(toS a).f0, (toS a).f1, (toS a).f2⟩ : S68)])) _
    rw [toS_eta, List.nil_append]
    refine one e1 _ [toS a] (by omega) (by omega) (Ev.bind eb (Ev.ite_pos rfl (Ev.ite_pos (by simp) ?_)))
    show Ev (fun k => impl_termAt.l0 k l i (e2 : Int) (kd - 1) (0 + 1 + 1) kd n ([toS a] ++ [(⟨(toS b).f0, (toS b).f1, (toS b).f2⟩ : S68)])) _
    rw [toS_eta]
    exact done (e2 : Int) _ [toS a, toS b] (by omega)

def numOk (k n : Int) : Prop := 0 ≤ n ∧ n ≤ 99 ∧ (k = 1 ∨ n = 0)

theorem Tr.depth_le (t : Tr) : t.depth ≤ t.size ∧ 1 ≤ t.depth := by
  induction t with
  | leaf k n => exact ⟨Nat.le_refl _, Nat.le_refl _⟩
  | un k n a ih => show a.depth + 1 ≤ 1 + a.size ∧ 1 ≤ a.depth + 1; omega
  | bin k n a b iha ihb => show max a.depth b.depth + 1 ≤ 1 + a.size + b.size ∧ 1 ≤ max a.depth b.depth + 1; omega

theorem size_ev : ∀ (t : Tr), t.size ≤ 4000 → Ev (fun k => impl_term_size.f k (toS t).f0 (toS t).f1 (toS t).f2) (t.size : Int) := by
  have start : ∀ (kd n : Int) (ps : List S68) {r}, Ev (fun k => impl_term_size.l0 k 1 ps ps.length 0) r → Ev (fun k => impl_term_size.f k kd n ps) r := fun kd n ps r h => Ev.step (fun k => rfl) h
  have fin : ∀ (s : Int) (ps : List S68), Ev (fun k => impl_term_size.l0 k s ps ps.length ps.length) s := by
    intro s ps
    refine Ev.step (f := fun _ => some s) (fun k => ?_) (Ev.now _)
    simp only [impl_term_size.l0]
    rw [if_neg (by omega)]
  have part : ∀ (s i s2 : Nat) (ps : List S68) (x : S68), i < ps.length → ps.length ≤ 2 → rd_T68 ps i = x → s + s2 ≤ 4000 → Ev (fun k => impl_term_size.f k x.f0 x.f1 x.f2) (s2 : Int) → ∀ {r}, Ev (fun k => impl_term_size.l0 k ((s + s2 : Nat) : Int) ps ps.length ((i + 1 : Nat) : Int)) r → Ev (fun k => impl_term_size.l0 k s ps ps.length i) r := by
    intro s i s2 ps x hi hl hx hs hE r h
    refine Ev.step (f := fun k => (impl_term_size.f k x.f0 x.f1 x.f2).bind fun t104 => impl_term_size.l0 k (wrap64 ((s : Int) + t104)) ps ps.length ((i + 1 : Nat) : Int)) (fun k => ?_) (Ev.bind hE ?_)
    · simp only [impl_term_size.l0]
      rw [if_pos (by omega), if_pos (by omega), if_pos (by omega), hx, next i hi (by omega)]
    · show Ev (fun k => impl_term_size.l0 k (wrap64 ((s : Int) + s2)) ps ps.length ((i + 1 : Nat) : Int)) r
      rw [w64 (by omega) (by omega), show (s : Int) + s2 = ((s + s2 : Nat) : Int) by omega]
      exact h
  intro t
  induction t with
  | leaf kd n => intro _; exact start kd n [] (fin 1 [])
  | un kd n a ih =>
    intro hs
    have hs' : 1 + a.size ≤ 4000 := hs
    exact start kd n [toS a] (part 1 0 a.size [toS a] (toS a) (by simp) (by simp) rfl hs' (ih (by omega)) (fin _ [toS a]))
  | bin kd n x y ihx ihy =>
    intro hs
    have hs' : 1 + x.size + y.size ≤ 4000 := hs
    exact start kd n [toS x, toS y] (part 1 0 x.size [toS x, toS y] (toS x) (by simp) (by simp) rfl (by omega) (ihx (by omega))
      (part (1 + x.size) 1 y.size [toS x, toS y] (toS y) (by simp) (by simp) rfl hs' (ihy (by omega)) (fin _ [toS x, toS y])))

theorem depth_ev : ∀ (t : Tr), t.size ≤ 4000 → Ev (fun k => impl_term_depth.f k (toS t).f0 (toS t).f1 (toS t).f2) (t.depth : Int) := by
  have start : ∀ (kd n : Int) (ps : List S68) {r}, Ev (fun k => impl_term_depth.l0 k 0 ps ps.length 0) r → Ev (fun k => impl_term_depth.f k kd n ps) r := fun kd n ps r h => Ev.step (fun k => rfl) h
  have fin : ∀ (s : Nat) (ps : List S68), s ≤ 4000 → Ev (fun k => impl_term_depth.l0 k s ps ps.length ps.length) ((s + 1 : Nat) : Int) := by
    intro s ps hs
    refine Ev.step (f := fun _ => some ((s + 1 : Nat) : Int)) (fun k => ?_) (Ev.now _)
    simp only [impl_term_depth.l0]
    rw [if_neg (by omega), w64 (by omega) (by omega)]
    rfl
  have part : ∀ (s i s2 : Nat) (ps : List S68) (x : S68), i < ps.length → ps.length ≤ 2 → rd_T68 ps i = x → Ev (fun k => impl_term_depth.f k x.f0 x.f1 x.f2) (s2 : Int) → ∀ {r}, Ev (fun k => impl_term_depth.l0 k ((max s s2 : Nat) : Int) ps ps.length ((i + 1 : Nat) : Int)) r → Ev (fun k => impl_term_depth.l0 k s ps ps.length i) r := by
    intro s i s2 ps x hi hl hx hE r h
    have hm : mx (s : Int) (s2 : Int) = ((max s s2 : Nat) : Int) := by unfold mx; split <;> omega
    refine Ev.step (f := fun k => (impl_term_depth.f k x.f0 x.f1 x.f2).bind fun t104 => impl_term_depth.l0 k (mx (s : Int) t104) ps ps.length ((i + 1 : Nat) : Int)) (fun k => ?_) (Ev.bind hE ?_)
    · simp only [impl_term_depth.l0]
      rw [if_pos (by omega), if_pos (by omega), if_pos (by omega), hx, next i hi (by omega)]
    · show Ev (fun k => impl_term_depth.l0 k (mx (s : Int) s2) ps ps.length ((i + 1 : Nat) : Int)) r
      rw [hm]
      exact h
  intro t
  induction t with
  | leaf kd n => intro _; exact start kd n [] (fin 0 [] (by omega))
  | un kd n a ih =>
    intro hs
    have hs' : 1 + a.size ≤ 4000 := hs
    have := Tr.depth_le a
    refine start kd n [toS a] (part 0 0 a.depth [toS a] (toS a) (by simp) (by simp) rfl (ih (by omega)) (Ev.of_eq (fin _ [toS a] (by omega)) ?_))
    rw [Nat.zero_max]; rfl
  | bin kd n x y ihx ihy =>
    intro hs
    have hs' : 1 + x.size + y.size ≤ 4000 := hs
    have := Tr.depth_le x
    have := Tr.depth_le y
    refine start kd n [toS x, toS y] (part 0 0 x.depth [toS x, toS y] (toS x) (by simp) (by simp) rfl (ihx (by omega)) (part _ 1 y.depth [toS x, toS y] (toS y) (by simp) (by simp) rfl (ihy (by omega)) (Ev.of_eq (fin _ [toS x, toS y] (by omega)) ?_)))
    rw [Nat.zero_max]; rfl

theorem node_iff (k n : Int) : Are68.nodeOk k n = true ↔ numOk k n := by
  unfold Are68.nodeOk numOk; simp; omega
theorem nums_iff : ∀ (t : Tr), (Are68.nodeOk (toS t).f0 (toS t).f1 && Are68.okL (toS t).f2) = true ↔ t.all numOk := by
  intro t
  induction t with
  | leaf k n =>
    show (Are68.nodeOk k n && Are68.okL []) = true ↔ numOk k n
    rw [Are68.okL_all]; simp [node_iff]
  | un k n a ih =>
    show (Are68.nodeOk k n && Are68.okL [toS a]) = true ↔ numOk k n ∧ a.all numOk
    rw [Are68.okL_all, ← ih, ← node_iff, ← Are68.okT_eq]; simp
  | bin k n a b iha ihb =>
    show (Are68.nodeOk k n && Are68.okL [toS a, toS b]) = true ↔ numOk k n ∧ a.all numOk ∧ b.all numOk
    rw [Are68.okL_all, ← iha, ← ihb, ← node_iff, ← Are68.okT_eq, ← Are68.okT_eq]; simp

theorem isGood_ev (t : Tr) (hs : t.size ≤ 4000) : ∃ b, Ev (fun k => impl_term_isGood.f k (toS t).f0 (toS t).f1 (toS t).f2) b ∧ (b = true ↔ t.size ≤ 150 ∧ t.depth ≤ 40 ∧ t.all numOk) := by
  have h1 := size_ev t hs
  have h2 := depth_ev t hs
  unfold impl_term_isGood.f
  by_cases c1 : t.size ≤ 150
  case neg => exact ⟨false, Ev.bind h1 (Ev.ite_neg (by omega) (Ev.now _)), fun h => absurd h (by simp), fun h => absurd h.1 c1⟩
  by_cases c2 : t.depth ≤ 40
  case neg => exact ⟨false, Ev.bind h1 (Ev.ite_pos (by omega) (Ev.bind h2 (Ev.ite_neg (by omega) (Ev.now _)))), fun h => absurd h (by simp), fun h => absurd h.2.1 c2⟩
  refine ⟨Are68.nodeOk (toS t).f0 (toS t).f1 && Are68.okL (toS t).f2, Ev.bind h1 (Ev.ite_pos (by omega) (Ev.bind h2 (Ev.ite_pos (by omega) (Ev.now _)))), ?_⟩
  rw [nums_iff]
  exact ⟨fun h => ⟨c1, c2, h⟩, fun h => h.2.2⟩
end Go.Proofs.Ytcjhhdecckcibaa.TermL

namespace Go.Proofs.Ytcjhhdecckcibaa.TermL
open Go.RowKit Go.Proofs.Ytcjhhdecckcibaa.G Go.Proofs.Ytcjhhdecckcibaa.EvL Go.Proofs.Ytcjhhdecckcibaa.TreeM Go.Proofs.YtcjhhdecckcibaaW.PrintWords Go.Proofs.YtcjhhdecckcibaaW.PrintLast
set_option linter.unusedVariables false

def Tells (l : List S62) (t : Tr) : Prop := 1 ≤ l.length ∧ l.length ≤ 150 ∧ Par ar (l.map nd) 0 (-1) t l.length ∧ t.all numOk ∧ t.depth ≤ 40

theorem nodes_iff (l : List S62) (h1 : 1 ≤ l.length) (h2 : l.length ≤ 150) : (∀ m, 0 ≤ m → m < l.length → NodeOk (l.map nd) m) ↔ ∃ t, Tells l t := by
  have hlen : (l.map nd).length = l.length := List.length_map ..
  have hli := loc_iff (A := ar) (l := l.map nd) ar2 (by omega)
  constructor
  · intro h
    have L : TreeM.Loc ar (l.map nd) := by
      refine ⟨fun _ => (h 0 (Nat.le_refl _) (by omega)).top.mp rfl, fun m h3 h4 => ?_, fun m h3 h4 => ?_, fun m h3 => (h m (by omega) (by omega)).kind, fun m h3 => (h m (by omega) (by omega)).wants⟩
      · have hm := h m (by omega) (by omega)
        have := hm.ahead
        have := hm.top
        omega
      · have hm := h m (by omega) (by omega)
        obtain ⟨x, hx, hxu⟩ := hm.around.resolve_left (by omega)
        rw [← hxu, Int.toNat_natCast]; exact hx
    obtain ⟨t, ht⟩ := hli.mp L
    rw [hlen] at ht
    refine ⟨t, h1, h2, ht, (ht.alls numOk).mpr (fun m h3 h4 => (h m h3 h4).num), ?_⟩
    obtain ⟨m, h3, h4, h5⟩ := ht.deep.2
    have hm := (h m h3 h4).deep
    have h0 : (chain (l.map nd) 0).length = 1 := by rw [chain_top (by rw [ht.span.2.2]; omega)]; rfl
    omega
  · rintro ⟨t, _, _, ht, hn, hd⟩ m _ hm
    have L : TreeM.Loc ar (l.map nd) := hli.mpr ⟨t, by rw [hlen]; exact ht⟩
    have h0 : (chain (l.map nd) 0).length = 1 := by rw [chain_top (by rw [ht.span.2.2]; omega)]; rfl
    have hr := L.root (by omega)
    refine ⟨?_, ?_, L.kinds m (by omega), (ht.alls numOk).mp hn m (by omega) hm, ?_, by have := ht.deep.1 m (by omega) hm; omega, L.wants m (by omega)⟩
    · by_cases h3 : m = 0
      · subst h3; exact ⟨fun _ => hr, fun _ => rfl⟩
      · have := L.ahead m (by omega) (by omega); omega
    · by_cases h3 : m = 0
      · subst h3; omega
      · have := L.ahead m (by omega) (by omega); omega
    · by_cases h3 : m = 0
      · exact .inl h3
      · have h4 := L.ahead m (by omega) (by omega)
        exact .inr ⟨_, L.around m (by omega) (by omega), by omega⟩

theorem specGood (l : List S62) (hl : l.length ≤ 9223372036854775807) : ∃ b, Ev (fun k => spec_GoodTerm.f k l) b ∧ (b = true ↔ ∃ t, Tells l t) := by
  unfold spec_GoodTerm.f
  rw [l1In_eq]
  simp only [Option.bind_some, decide_eq_true_eq]
  by_cases h : (1 : Int) ≤ (l.length : Int) ∧ (l.length : Int) ≤ 150
  · obtain ⟨b, hb, hbi⟩ := specLoop l (by omega) l.length 0 (by omega) (fun m hm => by omega)
    exact ⟨b, Ev.ite_pos h hb, hbi.trans (nodes_iff l (by omega) (by omega))⟩
  · exact ⟨false, Ev.ite_neg h (Ev.now _), fun h2 => absurd h2 (by simp), fun ⟨t, h2, h3, _⟩ => absurd ⟨by omega, by omega⟩ h⟩

theorem rootEv (l : List S62) (hl : l.length ≤ 9223372036854775807) : ∃ (x : S68) (b : Bool), Ev (fun k => impl_termOf.f k l) (x.f0, x.f1, x.f2, b) ∧ (b = true ↔ ∃ t, Tells l t) ∧ (b = true → ∃ t, Tells l t ∧ x = toS t) := by
  have bad : (¬ ∃ t, Tells l t) → ∀ (x : S68), Ev (fun k => impl_termOf.f k l) (x.f0, x.f1, x.f2, false) → ∃ (x : S68) (b : Bool), Ev (fun k => impl_termOf.f k l) (x.f0, x.f1, x.f2, b) ∧ (b = true ↔ ∃ t, Tells l t) ∧ (b = true → ∃ t, Tells l t ∧ x = toS t) :=
    fun h x hE => ⟨x, false, hE, ⟨fun h2 => absurd h2 (by simp), fun h2 => absurd h2 h⟩, fun h2 => absurd h2 (by simp)⟩
  have none : Ev (fun k => impl_termOf.j0 k l true) (0, 0, ([] : List S68), false) := Ev.step (f := fun _ => some (0, 0, ([] : List S68), false)) (fun k => by simp only [impl_termOf.j0]; rfl) (Ev.now _)
  by_cases h1 : (l.length : Int) < 1
  · refine bad (fun ⟨t, h2, _⟩ => by omega) ⟨0, 0, []⟩ ?_
    unfold impl_termOf.f
    exact Ev.ite_pos h1 none
  by_cases h2 : (l.length : Int) > 150
  · refine bad (fun ⟨t, _, h3, _⟩ => by omega) ⟨0, 0, []⟩ ?_
    unfold impl_termOf.f
    refine Ev.ite_neg h1 ?_
    rw [decide_eq_true h2]; exact none
  have go : ∀ {r}, Ev (fun k => (impl_termAt.f k l 0 (-1)).bind fun bt102 => (if bt102.2.2.2.2 = true then (if bt102.2.2.2.1 = (l.length : Int) then ((impl_term_isGood.f k bt102.1 bt102.2.1 bt102.2.2.1).bind fun t110 => (some (bt102.1, bt102.2.1, bt102.2.2.1, t110))) else (some (bt102.1, bt102.2.1, bt102.2.2.1, false))) else (some (bt102.1, bt102.2.1, bt102.2.2.1, false)))) r → Ev (fun k => impl_termOf.f k l) r := by
    intro r hE
    unfold impl_termOf.f
    refine Ev.ite_neg h1 ?_
    rw [decide_eq_false h2]
    exact Ev.step (fun k => by simp only [impl_termOf.j0]; rfl) hE
  rcases termAt_ev l (by omega) l.length 0 (-1) (by omega) with ⟨t, e, ht, hE⟩ | ⟨hn, hE⟩
  case inr =>
    exact bad (fun ⟨t, _, _, h3, _⟩ => hn _ _ h3) ⟨0, 0, []⟩ (go (Ev.bind hE (Ev.ite_neg (by simp) (Ev.now _))))
  by_cases he : e = l.length
  case neg =>
    refine bad (fun ⟨t', _, _, h3, _⟩ => he (ht.unique h3).2) (toS t) (go (Ev.bind hE (Ev.ite_pos rfl (Ev.ite_neg ?_ (Ev.now _)))))
    show ¬ (e : Int) = _
    omega
  subst he
  have hs := ht.span
  obtain ⟨b, hb, hbi⟩ := isGood_ev t (by omega)
  refine ⟨toS t, b, go (Ev.bind hE (Ev.ite_pos rfl (Ev.ite_pos rfl (Ev.bind hb (Ev.now _))))), ?_, ?_⟩
  · rw [hbi]
    constructor
    · intro h3; exact ⟨t, by omega, by omega, ht, h3.2.2, h3.2.1⟩
    · rintro ⟨t', _, _, h3, h4, h5⟩
      obtain ⟨rfl, _⟩ := ht.unique h3
      exact ⟨by omega, h5, h4⟩
  · intro h3
    rw [hbi] at h3
    exact ⟨t, ⟨by omega, by omega, ht, h3.2.2, h3.2.1⟩, rfl⟩

theorem sizes (l : List S65) (hl : l.length ≤ 9223372036854775807) : ∃ t, laws_szTermS.f l 1048576 = some t ∧ (¬ t < 0 → l.length ≤ 1048576) := by
  unfold laws_szTermS.f
  rw [w64 (x := 1048576 - (l.length : Int)) (by omega) (by omega)]
  by_cases h : 1048576 - (l.length : Int) < 0
  · rw [if_pos h]; exact ⟨-1, rfl, fun h => absurd (by decide) h⟩
  · rw [if_neg h]; exact ⟨_, rfl, fun _ => by omega⟩
end Go.Proofs.Ytcjhhdecckcibaa.TermL

namespace Go.Proofs.Ytcjhhdecckcibaa.TermL
open Go.RowKit Go.Proofs.Ytcjhhdecckcibaa.G Go.Proofs.Ytcjhhdecckcibaa.EvL Go.Proofs.Ytcjhhdecckcibaa.TreeM Go.Proofs.YtcjhhdecckcibaaW.PrintWords Go.Proofs.YtcjhhdecckcibaaW.PrintLast
set_option linter.unusedVariables false

def toL : Tr → S90
  | .leaf k n => ⟨k, n, []⟩
  | .un k n a => ⟨k, n, [toL a]⟩
  | .bin k n a b => ⟨k, n, [toL a, toL b]⟩
theorem toL_eta (a : Tr) : (⟨(toL a).f0, (toL a).f1, (toL a).f2⟩ : S90) = toL a := by cases toL a; rfl
theorem partsL (l : List S62) (i : Nat) (hl : l.length ≤ 200) : ∀ (d a : Nat) (acc : List Int), a + d = l.length → acc.length + d ≤ 200 → Ev (fun k => spec_lcParts.l0 k l i acc a) (acc ++ (pts (l.map nd) i a d).map fun (m : Nat) => (m : Int)) := by
  intro d
  induction d with
  | zero =>
    intro a acc ha _
    refine Ev.step (f := fun _ => some acc) (fun k => ?_) (Ev.of_eq (Ev.now _) ?_)
    · simp only [spec_lcParts.l0]
      rw [if_neg (by omega)]
    · simp [pts]
  | succ d ih =>
    intro a acc ha hacc
    by_cases h : up (l.map nd) a = (i : Int)
    · refine Ev.step (fun k => ?_) (Ev.of_eq (ih (a + 1) (acc ++ [(a : Int)]) (by omega) (by simp; omega)) ?_)
      · simp only [spec_lcParts.l0]
        rw [if_pos (by omega), if_pos (by omega), rdC, up_nd, if_pos h, if_pos (by omega), next a (n := l.length) (by omega) (by omega)]
      · have e : pts (l.map nd) i a (d + 1) = a :: pts (l.map nd) i (a + 1) d := by
          show (if up (l.map nd) a = (i : Int) then _ else _) = _
          rw [if_pos h]
        rw [e]; simp
    · refine Ev.step (fun k => ?_) (Ev.of_eq (ih (a + 1) acc (by omega) (by omega)) ?_)
      · simp only [spec_lcParts.l0]
        rw [if_pos (by omega), if_pos (by omega), rdC, up_nd, if_neg h, next a (n := l.length) (by omega) (by omega)]
      · have e : pts (l.map nd) i a (d + 1) = pts (l.map nd) i (a + 1) d := by
          show (if up (l.map nd) a = (i : Int) then _ else _) = _
          rw [if_neg h]
        rw [e]
theorem lcPartsL (l : List S62) (i : Nat) (hi : i < l.length) (hl : l.length ≤ 200) : Ev (fun k => spec_lcParts.f k l i) ((pts (l.map nd) i (i + 1) (l.length - (i + 1))).map fun (m : Nat) => (m : Int)) := by
  have := partsL l i hl (l.length - (i + 1)) (i + 1) [] (by omega) (by simp; omega)
  unfold spec_lcParts.f
  rw [next i hi (by omega)]
  rw [List.nil_append] at this
  exact this

theorem rdI (l : List Int) (i : Nat) : rd l (i : Int) = l.getD i 0 := by unfold rd; rw [Int.toNat_natCast]

theorem lcTree_ev (l : List S62) (hl : l.length ≤ 200) {i e : Nat} {t : Tr} (h : Parts ar (l.map nd) i t e) : Ev (fun k => spec_lcTree.f k l i) ((toL t).f0, (toL t).f1, (toL t).f2) := by
  have hlen : (l.map nd).length = l.length := List.length_map ..
  have start : ∀ {i : Nat} {kd n v : Int} {ps : List Nat}, (l.map nd).getD i z = ⟨kd, n, v⟩ → i < (l.map nd).length → pts (l.map nd) i (i + 1) ((l.map nd).length - (i + 1)) = ps → ∀ {r}, Ev (fun k => spec_lcTree.l0 k l (ps.map fun (m : Nat) => (m : Int)) ((ps.map fun (m : Nat) => (m : Int)).length : Int) 0 kd n []) r → Ev (fun k => spec_lcTree.f k l i) r := by
    intro i kd n v ps h0 hi hp r hE
    rw [hlen] at hi hp
    have e0 : (l.getD i z62).f0 = kd := by have := getD_nd l i; rw [h0] at this; exact (congrArg Nd.kind this).symm
    have e1 : (l.getD i z62).f1 = n := by have := getD_nd l i; rw [h0] at this; exact (congrArg Nd.n this).symm
    refine Ev.step (f := fun k => (spec_lcParts.f k l i).bind fun t105 => (spec_lcTree.l0 k l t105 (t105.length : Int) 0 kd n [])) (fun k => ?_) (Ev.bind (lcPartsL l i hi hl) ?_)
    · simp only [spec_lcTree.f]
      rw [if_pos (by omega), if_pos (by omega), rdC, e0, e1]
    · rw [hp]; exact hE
  have fin : ∀ (qs : List Int) (j kd n : Int) (ps : List S90), ¬ j < (qs.length : Int) → Ev (fun k => spec_lcTree.l0 k l qs (qs.length : Int) j kd n ps) (kd, n, ps) := by
    intro qs j kd n ps hj
    refine Ev.step (f := fun _ => some (kd, n, ps)) (fun k => ?_) (Ev.now _)
    simp only [spec_lcTree.l0]
    rw [if_neg hj]
  have one : ∀ (qs : List Int) (j q : Nat) (kd n : Int) (ps : List S90) (t : Tr), j < qs.length → qs.length ≤ 2 → ps.length ≤ 2 → qs.getD j 0 = (q : Int) → Ev (fun k => spec_lcTree.f k l q) ((toL t).f0, (toL t).f1, (toL t).f2) → ∀ {r}, Ev (fun k => spec_lcTree.l0 k l qs (qs.length : Int) ((j + 1 : Nat) : Int) kd n (ps ++ [toL t])) r → Ev (fun k => spec_lcTree.l0 k l qs (qs.length : Int) (j : Int) kd n ps) r := by
    intro qs j q kd n ps t hj hq hp hqe hE r h
    refine Ev.step (f := fun k => (spec_lcTree.f k l (q : Int)).bind fun bt109 => (if ps.length < 3518437208883 then (spec_lcTree.l0 k l qs (qs.length : Int) ((j + 1 : Nat) : Int) kd n (ps ++ [(⟨bt109.1, bt109.2.1, bt109.2.2⟩ : S90)])) else (none))) (fun k => ?_) (Ev.bind hE (Ev.ite_pos (by omega) ?_))
    · simp only [spec_lcTree.l0]
      rw [if_pos (by omega), if_pos (by omega), if_pos (by omega), rdI, hqe, next j hj (by omega)]
    · show Ev (fun k => spec_lcTree.l0 k l qs (qs.length : Int) ((j + 1 : Nat) : Int) kd n (ps ++ [(⟨(toL t).f0, (toL t).f1, (toL t).f2⟩ : S90)])) r
      rw [toL_eta]; exact h
  induction h with
  | @leaf i k n h hi hw hp => exact start h hi hp (fin [] 0 k n [] (by simp))
  | @un i e k n a h hi hw hp ha ih => exact start h hi hp (one [((i + 1 : Nat) : Int)] 0 (i + 1) k n [] a (by simp) (by simp) (by simp) rfl ih (fin [((i + 1 : Nat) : Int)] 1 k n [toL a] (by simp)))
  | @bin i e e' k n a b h hi hw hp ha hb ih1 ih2 =>
    exact start h hi hp (one [((i + 1 : Nat) : Int), (e : Int)] 0 (i + 1) k n [] a (by simp) (by simp) (by simp) rfl ih1 (one [((i + 1 : Nat) : Int), (e : Int)] 1 e k n [toL a] b (by simp) (by simp) (by simp) rfl ih2 (fin [((i + 1 : Nat) : Int), (e : Int)] 2 k n [toL a, toL b] (by simp))))

theorem tree_of (l : List S62) {t : Tr} (h : Tells l t) : Ev (fun k => spec_lcTree.f k l 0) ((toL t).f0, (toL t).f1, (toL t).f2) ∧ t.wf ar ∧ t.all numOk ∧ t.depth ≤ 40 := by
  have hlen : (l.map nd).length = l.length := List.length_map ..
  obtain ⟨h1, h2, h3, h5, h6⟩ := h
  have h4 := h3
  rw [← hlen] at h4
  exact ⟨lcTree_ev l (by omega) h4.parts_all, h3.wf, h5, h6⟩
theorem kind_of {k : Int} (h : 1 ≤ k ∧ k ≤ ar.top) : k = 1 ∨ k = 2 ∨ k = 3 := by
  have : 1 ≤ k ∧ k ≤ 3 := h
  omega
theorem want_zero {k : Int} (h : (1 ≤ k ∧ k ≤ ar.top) ∧ ar.want k = 0) : k = 1 := by
  rcases kind_of h.1 with rfl | rfl | rfl
  · rfl
  · exact absurd h.2 (by decide)
  · exact absurd h.2 (by decide)
theorem want_one {k : Int} (h : (1 ≤ k ∧ k ≤ ar.top) ∧ ar.want k = 1) : k = 2 := by
  rcases kind_of h.1 with rfl | rfl | rfl
  · exact absurd h.2 (by decide)
  · rfl
  · exact absurd h.2 (by decide)
theorem want_two {k : Int} (h : (1 ≤ k ∧ k ≤ ar.top) ∧ ar.want k = 2) : k = 3 := by
  rcases kind_of h.1 with rfl | rfl | rfl
  · exact absurd h.2 (by decide)
  · exact absurd h.2 (by decide)
  · rfl
end Go.Proofs.Ytcjhhdecckcibaa.TermL

namespace Go.Proofs.Ytcjhhdecckcibaa.CombL
open Go.RowKit Go.Proofs.Ytcjhhdecckcibaa.G Go.Proofs.Ytcjhhdecckcibaa.EvL Go.Proofs.Ytcjhhdecckcibaa.TreeM Go.Proofs.YtcjhhdecckcibaaW.PrintWords Go.Proofs.YtcjhhdecckcibaaW.PrintLast
set_option linter.unusedVariables false

def SOf (t : Tr) (u : Nat) (r : Int × Int × List S77 × Bool) : Prop := Ev (fun k => spec_ldOf.f k (TermL.toL t).f0 (TermL.toL t).f1 (TermL.toL t).f2 (u : Int)) r
def IOf (t : Tr) (u : Nat) (r : Int × Int × List S58 × Bool) : Prop := Ev (fun k => impl_combOfTerm.f k (TermL.toS t).f0 (TermL.toS t).f1 (TermL.toS t).f2 (u : Int)) r
def lOf (c : Tr) (b : Bool) : Int × Int × List S77 × Bool := ((toL c).f0, (toL c).f1, (toL c).f2, b)
def sOf (c : Tr) (b : Bool) : Int × Int × List S58 × Bool := ((toS c).f0, (toS c).f1, (toS c).f2, b)

theorem ofBoth : ∀ (t : Tr) (u : Nat), t.wf TermL.ar → t.all TermL.numOk → u + t.depth ≤ 1000 →
    (∃ c : Tr, c.wf ar ∧ c.size ≤ 200 ∧ SOf t u (lOf c true) ∧ IOf t u (sOf c true)) ∨ ((∃ a b c, SOf t u (a, b, c, false)) ∧ ∃ a b c, IOf t u (a, b, c, false))
  | .leaf k n, u, hw, hn, hu => by
    obtain rfl : k = 1 := TermL.want_zero hw
    have hn' : 0 ≤ n ∧ n ≤ 99 := ⟨hn.1, hn.2.1⟩
    have hu' : u + 1 ≤ 1000 := hu
    refine .inl ?_
    by_cases h : n ≥ (u : Int)
    · refine ⟨.leaf 1 (n - u), leaf_wf (by decide) (by decide), by show 1 ≤ 200; omega, Ev.step (f := fun _ => some (lOf (.leaf 1 (n - u)) true)) (fun m => ?_) (Ev.now _), Ev.step (f := fun _ => some (sOf (.leaf 1 (n - u)) true)) (fun m => ?_) (Ev.now _)⟩
      · show spec_ldOf.f (m + 1) 1 n [] u = _
        simp only [spec_ldOf.f]
        rw [if_pos trivial, if_pos h, w64 (by omega) (by omega), decide_eq_true (by omega)]; rfl
      · show impl_combOfTerm.f (m + 1) 1 n [] u = _
        simp only [impl_combOfTerm.f]
        rw [if_pos trivial, if_neg (by omega), w64 (x := n - u) (by omega) (by omega)]; rfl
    · have w1 : wrap64 (100 + (u : Int)) = 100 + u := w64 (by omega) (by omega)
      have w2 : wrap64 (100 + (u : Int) - 1) = 100 + u - 1 := w64 (by omega) (by omega)
      have w3 : wrap64 (100 + (u : Int) - 1 - n) = 100 + u - 1 - n := w64 (by omega) (by omega)
      refine ⟨.leaf 1 (100 + u - 1 - n), leaf_wf (by decide) (by decide), by show 1 ≤ 200; omega, Ev.step (f := fun _ => some (lOf (.leaf 1 (100 + u - 1 - n)) true)) (fun m => ?_) (Ev.now _), Ev.step (f := fun _ => some (sOf (.leaf 1 (100 + u - 1 - n)) true)) (fun m => ?_) (Ev.now _)⟩
      · show spec_ldOf.f (m + 1) 1 n [] u = _
        simp only [spec_ldOf.f, w1, w2, w3]
        rw [if_pos trivial, if_neg h]; rfl
      · show impl_combOfTerm.f (m + 1) 1 n [] u = _
        simp only [impl_combOfTerm.f, w1, w2, w3]
        rw [if_pos trivial, if_pos (by omega)]; rfl
  | .un k n a, u, hw, hn, hu => by
    obtain rfl : k = 2 := TermL.want_one hw.1
    have hu' : u + (a.depth + 1) ≤ 1000 := hu
    have w1 : wrap64 (100 + (u : Int)) = 100 + u := w64 (by omega) (by omega)
    have w2 : wrap64 ((u : Int) + 1) = ((u + 1 : Nat) : Int) := by rw [w64 (by omega) (by omega)]; omega
    have st : ∀ m, spec_ldOf.f (m + 1) 2 n [TermL.toL a] u = (spec_ldOf.f m (TermL.toL a).f0 (TermL.toL a).f1 (TermL.toL a).f2 ((u + 1 : Nat) : Int)).bind fun bt104 => (if bt104.2.2.2 = true then ((spec_ldAbstract.f m bt104.1 bt104.2.1 bt104.2.2.1 (100 + u)).bind fun bt111 => ((spec_ldTold.f m bt111.1 bt111.2.1 bt111.2.2).bind fun bt117 => (some (bt111.1, bt111.2.1, bt111.2.2, bt117.2)))) else (some (bt104.1, bt104.2.1, bt104.2.2.1, false))) := by
      intro m
      simp only [spec_ldOf.f, w1, w2]
      rw [if_neg (by decide), if_pos trivial, if_pos (by simp)]; rfl
    have it : ∀ m, impl_combOfTerm.f (m + 1) 2 n [TermL.toS a] u = (impl_combOfTerm.f m (TermL.toS a).f0 (TermL.toS a).f1 (TermL.toS a).f2 ((u + 1 : Nat) : Int)).bind fun bt114 => (if bt114.2.2.2 = true then ((impl_comb_abstract.f m bt114.1 bt114.2.1 bt114.2.2.1 (100 + u)).bind fun bt121 => ((impl_comb_isGood.f m bt121.1 bt121.2.1 bt121.2.2).bind fun t127 => (some (bt121.1, bt121.2.1, bt121.2.2, t127)))) else (some (0, 0, ([] : List S58), false))) := by
      intro m
      simp only [impl_combOfTerm.f, w1, w2]
      rw [if_neg (by decide), if_pos trivial, if_pos (by simp)]; rfl
    rcases ofBoth a (u + 1) hw.2 hn.2 (by omega) with ⟨c, cw, cs, sE, iE⟩ | ⟨⟨x, y, zz, sE⟩, ⟨x', y', z', iE⟩⟩
    case inr =>
      exact .inr ⟨⟨_, _, _, Ev.step st (Ev.bind sE (Ev.ite_neg (by simp) (Ev.now _)))⟩, ⟨_, _, _, Ev.step it (Ev.bind iE (Ev.ite_neg (by simp) (Ev.now _)))⟩⟩
    have hs3 := absT_size (100 + u) c
    have hw3 := absT_wf (100 + u) c cw
    obtain ⟨o, b, _, htold, _, hb⟩ := toldBoth (absT (100 + u) c) hw3 (by omega)
    obtain ⟨b', hgood, hb'⟩ := isGood_ev (absT (100 + u) c) (by omega)
    obtain rfl : b = b' := by rw [Bool.eq_iff_iff, hb, hb']
    have s1 : SOf (.un 2 n a) u (lOf (absT (100 + u) c) b) := Ev.step st (Ev.bind sE (Ev.ite_pos rfl (Ev.bind (abs_spec_ev (100 + u) c cw) (Ev.bind htold (Ev.now _)))))
    have i1 : IOf (.un 2 n a) u (sOf (absT (100 + u) c) b) := Ev.step it (Ev.bind iE (Ev.ite_pos rfl (Ev.bind (abs_impl_ev (100 + u) c cw) (Ev.bind hgood (Ev.now _)))))
    cases b with
    | true => exact .inl ⟨_, hw3, (hb.mp rfl).1, s1, i1⟩
    | false => exact .inr ⟨⟨_, _, _, s1⟩, ⟨_, _, _, i1⟩⟩
  | .bin k n a b, u, hw, hn, hu => by
    obtain rfl : k = 3 := TermL.want_two hw.1
    have hd1 : a.depth ≤ max a.depth b.depth := Nat.le_max_left ..
    have hd2 : b.depth ≤ max a.depth b.depth := Nat.le_max_right ..
    have hu' : u + (max a.depth b.depth + 1) ≤ 1000 := hu
    have st : ∀ m, spec_ldOf.f (m + 1) 3 n [TermL.toL a, TermL.toL b] u = (spec_ldOf.f m (TermL.toL a).f0 (TermL.toL a).f1 (TermL.toL a).f2 u).bind fun bt122 => (if bt122.2.2.2 = true then ((spec_ldOf.f m (TermL.toL b).f0 (TermL.toL b).f1 (TermL.toL b).f2 u).bind fun bt130 => (if bt130.2.2.2 = true then ((spec_ldTold.f m 2 0 [(⟨bt122.1, bt122.2.1, bt122.2.2.1⟩ : S77), ⟨bt130.1, bt130.2.1, bt130.2.2.1⟩]).bind fun bt143 => (some (2, 0, [(⟨bt122.1, bt122.2.1, bt122.2.2.1⟩ : S77), ⟨bt130.1, bt130.2.1, bt130.2.2.1⟩], bt143.2))) else (some (bt130.1, bt130.2.1, bt130.2.2.1, false)))) else (some (bt122.1, bt122.2.1, bt122.2.2.1, false))) := by
      intro m
      simp only [spec_ldOf.f]
      rw [if_neg (by decide), if_neg (by decide), if_pos (by simp)]; rfl
    have it : ∀ m, impl_combOfTerm.f (m + 1) 3 n [TermL.toS a, TermL.toS b] u = (impl_combOfTerm.f m (TermL.toS a).f0 (TermL.toS a).f1 (TermL.toS a).f2 u).bind fun bt129 => ((impl_combOfTerm.f m (TermL.toS b).f0 (TermL.toS b).f1 (TermL.toS b).f2 u).bind fun bt137 => (if bt129.2.2.2 = true then (if bt137.2.2.2 = true then ((impl_comb_isGood.f m 2 0 [(⟨bt129.1, bt129.2.1, bt129.2.2.1⟩ : S58), ⟨bt137.1, bt137.2.1, bt137.2.2.1⟩]).bind fun t150 => (some (2, 0, [(⟨bt129.1, bt129.2.1, bt129.2.2.1⟩ : S58), ⟨bt137.1, bt137.2.1, bt137.2.2.1⟩], t150))) else (some (2, 0, [(⟨bt129.1, bt129.2.1, bt129.2.2.1⟩ : S58), ⟨bt137.1, bt137.2.1, bt137.2.2.1⟩], false))) else (some (2, 0, [(⟨bt129.1, bt129.2.1, bt129.2.2.1⟩ : S58), ⟨bt137.1, bt137.2.1, bt137.2.2.1⟩], false)))) := by
      intro m
      simp only [impl_combOfTerm.f]
      rw [if_neg (by decide), if_neg (by decide), if_pos (by simp)]; rfl
    rcases ofBoth a u hw.2.1 hn.2.1 (by omega) with ⟨c, cw, cs, sE, iE⟩ | ⟨⟨x, y, zz, sE⟩, ⟨x', y', z', iE⟩⟩ <;>
    rcases ofBoth b u hw.2.2 hn.2.2 (by omega) with ⟨d, dw, ds, sF, iF⟩ | ⟨⟨x2, y2, z2, sF⟩, ⟨x3, y3, z3, iF⟩⟩
    · have hs3 : (app c d).size ≤ 4000 := by show 1 + c.size + d.size ≤ 4000; omega
      have hw3 := app_wf cw dw
      obtain ⟨o, e, _, htold, _, he⟩ := toldBoth (app c d) hw3 hs3
      obtain ⟨e', hgood, he'⟩ := isGood_ev (app c d) hs3
      obtain rfl : e = e' := by rw [Bool.eq_iff_iff, he, he']
      have s1 : SOf (.bin 3 n a b) u (lOf (app c d) e) := by
        refine Ev.step st (Ev.bind sE (Ev.ite_pos rfl (Ev.bind sF (Ev.ite_pos rfl ?_))))
        show Ev (fun m => (spec_ldTold.f m 2 0 [(⟨(toL c).f0, (toL c).f1, (toL c).f2⟩ : S77), ⟨(toL d).f0, (toL d).f1, (toL d).f2⟩]).bind fun bt143 => (some (2, 0, [(⟨(toL c).f0, (toL c).f1, (toL c).f2⟩ : S77), ⟨(toL d).f0, (toL d).f1, (toL d).f2⟩], bt143.2))) _
        rw [toL_eta, toL_eta]
        exact Ev.bind htold (Ev.now _)
      have i1 : IOf (.bin 3 n a b) u (sOf (app c d) e) := by
        refine Ev.step it (Ev.bind iE (Ev.bind iF (Ev.ite_pos rfl (Ev.ite_pos rfl ?_))))
        show Ev (fun m => (impl_comb_isGood.f m 2 0 [(⟨(toS c).f0, (toS c).f1, (toS c).f2⟩ : S58), ⟨(toS d).f0, (toS d).f1, (toS d).f2⟩]).bind fun t150 => (some (2, 0, [(⟨(toS c).f0, (toS c).f1, (toS c).f2⟩ : S58), ⟨(toS d).f0, (toS d).f1, (toS d).f2⟩], t150))) _
        rw [toS_eta, toS_eta]
        exact Ev.bind hgood (Ev.now _)
      cases e with
      | true => exact .inl ⟨_, hw3, (he.mp rfl).1, s1, i1⟩
      | false => exact .inr ⟨⟨_, _, _, s1⟩, ⟨_, _, _, i1⟩⟩
    · exact .inr ⟨⟨_, _, _, Ev.step st (Ev.bind sE (Ev.ite_pos rfl (Ev.bind sF (Ev.ite_neg (by simp) (Ev.now _)))))⟩, ⟨_, _, _, Ev.step it (Ev.bind iE (Ev.bind iF (Ev.ite_pos rfl (Ev.ite_neg (by simp) (Ev.now _)))))⟩⟩
    · exact .inr ⟨⟨_, _, _, Ev.step st (Ev.bind sE (Ev.ite_neg (by simp) (Ev.now _)))⟩, ⟨_, _, _, Ev.step it (Ev.bind iE (Ev.bind iF (Ev.ite_neg (by simp) (Ev.now _))))⟩⟩
    · exact .inr ⟨⟨_, _, _, Ev.step st (Ev.bind sE (Ev.ite_neg (by simp) (Ev.now _)))⟩, ⟨_, _, _, Ev.step it (Ev.bind iE (Ev.bind iF (Ev.ite_neg (by simp) (Ev.now _))))⟩⟩

theorem combOfBoth (l : List S62) (hl : l.length ≤ 9223372036854775807) : ∃ (o : List S52) (b : Bool), o.length ≤ 200 ∧ Ev (fun k => spec_CombOfTerm.f k l) (o, b) ∧ Ev (fun k => impl_CombOfTerm.f k l) (o, b) := by
  obtain ⟨b1, e1, h1⟩ := TermL.specGood l hl
  obtain ⟨y, b, hE, hb, hx⟩ := TermL.rootEv l hl
  obtain rfl : b1 = b := by rw [Bool.eq_iff_iff, h1, hb]
  unfold spec_CombOfTerm.f impl_CombOfTerm.f
  by_cases h : b1 = true
  case neg =>
    obtain rfl : b1 = false := by simpa using h
    exact ⟨[], false, by simp, Ev.bind e1 (Ev.ite_neg (by simp) (Ev.now _)), Ev.bind hE (Ev.ite_neg (by simp) (Ev.now _))⟩
  subst h
  obtain ⟨t, ht, rfl⟩ := hx rfl
  obtain ⟨htree, hw, hn, hd⟩ := TermL.tree_of l ht
  rcases ofBoth t 0 hw hn (by omega) with ⟨c, cw, cs, sE, iE⟩ | ⟨⟨x, y, zz, sE⟩, ⟨x', y', z', iE⟩⟩
  case inr =>
    exact ⟨[], false, by simp, Ev.bind e1 (Ev.ite_pos rfl (Ev.bind htree (Ev.bind sE (Ev.ite_neg (by simp) (Ev.now _))))), Ev.bind hE (Ev.ite_pos rfl (Ev.bind iE (Ev.ite_neg (by simp) (Ev.now _))))⟩
  obtain ⟨o, b, ho, hsp, him, _⟩ := toldBoth c cw (by omega)
  exact ⟨o, b, ho, Ev.bind e1 (Ev.ite_pos rfl (Ev.bind htree (Ev.bind sE (Ev.ite_pos rfl (Ev.bind hsp (Ev.now _)))))), Ev.bind hE (Ev.ite_pos rfl (Ev.bind iE (Ev.ite_pos rfl (Ev.bind him (Ev.now _)))))⟩
end Go.Proofs.Ytcjhhdecckcibaa.CombL

namespace Go.Proofs.Ytcjhhdecckcibaa.TermL
open Go.RowKit Go.Proofs.Ytcjhhdecckcibaa.G Go.Proofs.Ytcjhhdecckcibaa.EvL Go.Proofs.Ytcjhhdecckcibaa.TreeM Go.Proofs.YtcjhhdecckcibaaW.PrintWords Go.Proofs.YtcjhhdecckcibaaW.PrintLast
set_option linter.unusedVariables false

theorem markTerms (l : List S62) (hl : l.length ≤ 2000000) : ∃ y, Ev (fun k => laws_markTermS.f k l 1) (1 + 3 * (l.length : Int), y) := by
  have key : ∀ (d i : Nat) (x : List S62), i + d = x.length → x.length = l.length → ∃ y, Ev (fun k => laws_markTermS.l0 k x (1 + 3 * (i : Int)) i) (1 + 3 * (l.length : Int), y) := by
    intro d
    induction d with
    | zero =>
      intro i x hi hx
      refine ⟨x, Ev.step (f := fun _ => some (1 + 3 * (i : Int), x)) (fun k => ?_) (Ev.of_eq (Ev.now _) ?_)⟩
      · simp only [laws_markTermS.l0]
        rw [if_neg (by omega)]
      · rw [show i = l.length by omega]
    | succ d ih =>
      intro i x hi hx
      have w1 : wrap64 (1 + 3 * (i : Int) + 1) = 1 + 3 * (i : Int) + 1 := w64 (by omega) (by omega)
      have w2 : wrap64 (1 + 3 * (i : Int) + 1 + 1) = 1 + 3 * (i : Int) + 2 := by rw [w64 (by omega) (by omega)]; omega
      have w3 : wrap64 (1 + 3 * (i : Int) + 2 + 1) = 1 + 3 * ((i + 1 : Nat) : Int) := by rw [w64 (by omega) (by omega)]; omega
      have st : ∃ x' : List S62, x'.length = x.length ∧ ∀ k, laws_markTermS.l0 (k + 1) x (1 + 3 * (i : Int)) i = laws_markTermS.l0 k x' (1 + 3 * ((i + 1 : Nat) : Int)) ((i + 1 : Nat) : Int) := by
        let y1 : List S62 := x.set i ⟨1 + 3 * (i : Int), (rd_T62 x i).f1, (rd_T62 x i).f2⟩
        let y2 : List S62 := y1.set i ⟨(rd_T62 y1 i).f0, 1 + 3 * (i : Int) + 1, (rd_T62 y1 i).f2⟩
        let y3 : List S62 := y2.set i ⟨(rd_T62 y2 i).f0, (rd_T62 y2 i).f1, 1 + 3 * (i : Int) + 2⟩
        refine ⟨y3, by simp [y3, y2, y1], fun k => ?_⟩
        simp only [laws_markTermS.l0, w1, w2, w3, Option.bind_some, Int.toNat_natCast]
        rw [if_pos (by omega), if_pos (by omega), next i (n := x.length) (by omega) (by omega)]
      obtain ⟨x', hx', st⟩ := st
      obtain ⟨y, hy⟩ := ih (i + 1) x' (by omega) (by omega)
      exact ⟨y, Ev.step st hy⟩
  obtain ⟨y, hy⟩ := key l.length 0 l (by omega) rfl
  exact ⟨y, hy⟩
end Go.Proofs.Ytcjhhdecckcibaa.TermL

namespace Go.Proofs.Ytcjhhdecckcibaa.Pure
open Go.RowKit Go.Proofs.Ytcjhhdecckcibaa.G Go.Proofs.Ytcjhhdecckcibaa.EvL Go.Proofs.Ytcjhhdecckcibaa.CombL Go.Proofs.YtcjhhdecckcibaaW.PrintWords Go.Proofs.YtcjhhdecckcibaaW.PrintLast

theorem FnExactCombOfTerm : laws_FnExactCombOfTerm.Pure := by
  intro l hl
  obtain ⟨t, ht, hs⟩ := TermL.sizes l hl.1
  refine Ev.rounds ?_
  unfold laws_FnExactCombOfTerm.f
  rw [ht]
  simp only [Option.bind_some]
  by_cases h : t < 0
  · exact Ev.ite_pos h (Ev.now _)
  have hl1 := hs h
  have th := TermL.toTerms l hl1
  have hcl : (l.map TermL.conv).length ≤ 1048576 := by rw [List.length_map]; omega
  obtain ⟨o, b, hlen, hsp, him⟩ := combOfBoth (l.map TermL.conv) (by omega)
  obtain ⟨y, hm⟩ := TermL.markTerms (l.map TermL.conv) (by omega)
  have heq := eqCombs o (by omega)
  have hfl : (b != b) = false := by simp
  refine Ev.ite_neg h (Ev.bind th (Ev.bind hsp (Ev.bind th (Ev.bind him (Ev.bind heq (Ev.ite_pos rfl (Ev.succ ?_)))))))
  simp only [laws_FnExactCombOfTerm.j0]
  refine Ev.ite_neg (by rw [hfl]; decide) (Ev.bind th (Ev.bind (TermL.eqTerms _ (by omega)) (Ev.ite_pos rfl (Ev.bind hm ?_))))
  refine Ev.ite_neg (by show ¬ (1 + 3 * ((l.map TermL.conv).length : Int) < 0); omega) (Ev.bind heq (Ev.ite_pos rfl (Ev.succ ?_)))
  simp only [laws_FnExactCombOfTerm.j1]
  refine Ev.ite_neg (by rw [hfl]; decide) (Ev.bind (markCombs o (by omega)) (Ev.bind (heldCombs o (by omega)) ?_))
  refine Ev.ite_neg (by omega) (Ev.ite_pos rfl (Ev.bind th (Ev.bind him (Ev.bind heq (Ev.ite_pos rfl (Ev.succ ?_))))))
  simp only [laws_FnExactCombOfTerm.j2]
  refine Ev.ite_neg (by rw [hfl]; decide) (Ev.bind (heldCombs o (by omega)) (Ev.ite_neg (by omega) (Ev.ite_pos rfl (Ev.now _))))

end Go.Proofs.Ytcjhhdecckcibaa.Pure

namespace Go.Proofs.Ytcjhhdecckcibaa.Open
open Go.RowKit Go.Proofs.YtcjhhdecckcibaaW.PrintWords
open Go.WideShapes
set_option linter.unusedVariables false

def Opens {α : Type} (H : Type) (enc : TypeId × Value → H) (P : Program) (t : TypeId) (d : Kd α) (good : α → Prop) : Prop :=
  ∀ (w : World) (base : Nat) (spare : Nat → Bool) (held : Bool) (fuel : Nat) (cs : List Value) (x : DataW H × List MemPlace),
    DataW.trod enc P w base spare held fuel t cs = some x → ∃ v, d.K w v cs ∧ good v

section
variable {H : Type} {enc : TypeId × Value → H} {P : Program}

theorem opens_int {t : TypeId} {k : IntKind} (ht : P.underlying t = some (.int k)) : Opens H enc P t (Kd.int k) (fun n => (Lit.int k n).wf = true) := by
  intro w base spare held fuel cs x h
  obtain ⟨n, rfl, _, hw⟩ := DataW.trod_int ht h
  exact ⟨n, rfl, hw⟩

theorem choose_list {α : Type} (p : Nat → α → Prop) : ∀ n : Nat, (∀ i, i < n → ∃ a, p i a) → ∃ l : List α, l.length = n ∧ ∀ i a, l[i]? = some a → p i a
  | 0, _ => ⟨[], rfl, fun i a h => by simp at h⟩
  | n + 1, h => by
    obtain ⟨l, hl, hp⟩ := choose_list p n (fun i hi => h i (by omega))
    obtain ⟨a, ha⟩ := h n (by omega)
    refine ⟨l ++ [a], by simp [hl], fun i b hb => ?_⟩
    by_cases hi : i < n
    · exact hp i b (by rwa [List.getElem?_append_left (by omega)] at hb)
    · rw [List.getElem?_append_right (by omega)] at hb
      have : i - l.length = 0 := by
        by_cases h0 : i - l.length = 0
        · exact h0
        · rw [List.getElem?_eq_none (by simp; omega)] at hb; simp at hb
      rw [this] at hb
      obtain rfl : a = b := by simpa using hb
      obtain rfl : i = n := by omega
      exact ha

theorem opens_slice {α : Type} {t e : TypeId} {d : Kd α} {good : α → Prop} (ht : P.underlying t = some (.slice e)) (he : Opens H enc P e d good) (hc : P.cellsOf e = d.sz) :
    Opens H enc P t (Kd.slice e d) (fun l => l.length ≤ 9223372036854775807 ∧ ∀ x ∈ l, good x) := by
  intro w base spare held fuel cs x h
  rcases DataW.trod_slice ht h with ⟨rfl, _⟩ | ⟨a, len, cap, elems, rest, n, _, rfl, _, hb, hl, hm, hel, hg, _, _⟩
  · exact ⟨[], ⟨none, 0, rfl, Nat.le_refl _, ⟨rfl, by simp, fun h => by simp at h⟩⟩, by simp, by simp⟩
  · have hm' : cap ≤ 9223372036854775807 := hm
    have key : ∀ i, i < len → ∃ v : α, good v ∧ ∃ c : List Value, c.length = d.sz ∧ d.K w v c ∧ ∀ j u, c[j]? = some u → w.cell? (a.add (i * d.sz + j)) = some u := by
      intro i hi
      have hgi := hg i hi
      have hsome : ∃ y, elems[i]? = some y := ⟨elems[i]'(by omega), List.getElem?_eq_getElem (by omega)⟩
      obtain ⟨y, hy⟩ := hsome
      rw [hy] at hgi
      obtain ⟨c, hc1, hc2⟩ := Option.bind_eq_some_iff.mp hgi
      obtain ⟨v, hK, hgood⟩ := he w base spare held n c y hc2
      obtain ⟨_, hlen, hcell⟩ := World.cells?_some hc1
      refine ⟨v, hgood, c, d.K_len hK, hK, fun j u hu => ?_⟩
      have hj : j < c.length := by
        by_cases hj : j < c.length
        · exact hj
        · rw [List.getElem?_eq_none (by omega)] at hu; simp at hu
      have := hcell j (by omega)
      rw [Addr.add_add, hc, hu] at this
      exact this
    obtain ⟨l, hl0, hl1⟩ := choose_list (fun i v => good v ∧ ∃ c : List Value, c.length = d.sz ∧ d.K w v c ∧ ∀ j u, c[j]? = some u → w.cell? (a.add (i * d.sz + j)) = some u) len key
    refine ⟨l, ⟨some a, cap, by rw [hl0], by omega, ⟨rfl, by omega, fun _ => ⟨a, rfl, fun j p hp => (hl1 j p hp).2⟩⟩⟩, by omega, fun v hv => ?_⟩
    obtain ⟨i, hi⟩ := List.mem_iff_getElem?.mp hv
    exact (hl1 i v hi).1

def OpensF {α : Type} (H : Type) (enc : TypeId × Value → H) (P : Program) (fs : List Field) (off : Nat) (d : Kd α) (good : α → Prop) : Prop :=
  ∀ (w : World) (base : Nat) (spare : Nat → Bool) (held : Bool) (n : Nat) (cs : List Value), off + d.sz ≤ cs.length →
    (∀ f ∈ fs, ∃ y, DataW.trod enc P w base spare held n f.type ((cs.drop f.offset).take (P.cellsOf f.type)) = some y) → ∃ v, d.K w v ((cs.drop off).take d.sz) ∧ good v

theorem opensF_last {α : Type} {f : Field} {d : Kd α} {good : α → Prop} (h : Opens H enc P f.type d good) (hc : P.cellsOf f.type = d.sz) : OpensF H enc P [f] f.offset d good := by
  intro w base spare held n cs hl hf
  obtain ⟨y, hy⟩ := hf f (by simp)
  rw [hc] at hy
  exact h w base spare held n _ y hy

theorem opensF_cons {α β : Type} {f : Field} {fs : List Field} {d : Kd α} {e : Kd β} {g1 : α → Prop} {g2 : β → Prop} (h : Opens H enc P f.type d g1) (hc : P.cellsOf f.type = d.sz)
    (hs : OpensF H enc P fs (f.offset + d.sz) e g2) : OpensF H enc P (f :: fs) f.offset (Kd.pair d e) (fun x => g1 x.1 ∧ g2 x.2) := by
  intro w base spare held n cs hl hf
  have hl' : f.offset + (d.sz + e.sz) ≤ cs.length := hl
  obtain ⟨v, hv, hgv⟩ := opensF_last h hc w base spare held n cs (by omega) (fun f' hf' => hf f' (by simp at hf' ⊢; exact .inl hf'))
  obtain ⟨u, hu, hgu⟩ := hs w base spare held n cs (by omega) (fun f' hf' => hf f' (by simp; exact .inr hf'))
  refine ⟨(v, u), ⟨_, _, ?_, hv, hu⟩, hgv, hgu⟩
  show (cs.drop f.offset).take (d.sz + e.sz) = _
  rw [List.take_add, List.drop_drop]

theorem opens_struct {α β : Type} {t : TypeId} {fs : Array Field} {d : Kd α} {good : α → Prop} (f : β → α) (g : α → β) (hfg : ∀ x, f (g x) = x) (ht : P.underlying t = some (.struct fs))
    (hc : P.cellsOf t = d.sz) (h : OpensF H enc P fs.toList 0 d good) : Opens H enc P t (Kd.iso d f) (fun x => good (f x)) := by
  intro w base spare held fuel cs x hx
  obtain ⟨xs, n, _, _, hl, hxs, hf⟩ := DataW.trod_struct ht hx
  obtain ⟨v, hv, hg⟩ := h w base spare held n cs (by omega) (fun f' hf' => by
    obtain ⟨i, hi⟩ := List.mem_iff_getElem?.mp hf'
    have hlt : i < fs.size := by
      by_cases hlt : i < fs.size
      · exact hlt
      · rw [List.getElem?_eq_none (by simp; omega)] at hi; simp at hi
    refine ⟨xs[i]'(by omega), ?_⟩
    rw [hf i f' (by simpa using hi), List.getElem?_eq_getElem (by omega)])
  refine ⟨g v, ?_, by show good (f (g v)); rw [hfg]; exact hg⟩
  rw [List.drop_zero, List.take_of_length_le (by omega)] at hv
  show d.K w (f (g v)) cs
  rw [hfg]
  exact hv

theorem opens_imp {α : Type} {t : TypeId} {d : Kd α} {g1 g2 : α → Prop} (h : Opens H enc P t d g1) (hg : ∀ x, g1 x → g2 x) : Opens H enc P t d g2 := by
  intro w base spare held fuel cs x hx
  obtain ⟨v, h1, h2⟩ := h w base spare held fuel cs x hx
  exact ⟨v, h1, hg v h2⟩

theorem slice_in {α : Type} {t e : TypeId} {d : Kd α} {good : List α → Prop} (ht : P.underlying t = some (.slice e)) (hs : Opens H enc P t (Kd.slice e d) good) {W : World} {r : Reach} {b base : Nat} {spare : Nat → Bool} {held : Bool} {v : Value} {dd : DataW H} {p : List MemPlace}
    (hv : Value.okWide P W r b t v) (h : DataW.Trod enc P W base spare held t v dd p) : ∃ (A : Option Addr) (l : List α) (c : Nat), v = .slice A l.length c ∧ l.length ≤ c ∧ d.C W A l.length l ∧ good l := by
  obtain ⟨a, len, cap, rfl⟩ := okWide_slice ht hv
  obtain ⟨fuel, hf⟩ := h
  obtain ⟨l, ⟨A, c, hcs, hlc, hC⟩, hg⟩ := hs W base spare held fuel _ _ hf
  simp [Value.cells] at hcs
  obtain ⟨rfl, rfl, rfl⟩ := hcs
  exact ⟨a, l, cap, rfl, hlc, hC, hg⟩

end
end Go.Proofs.Ytcjhhdecckcibaa.Open

namespace Go.Proofs.Ytcjhhdecckcibaa.fnExactCombOfTerm
open Go.ChangeShapes Go.WideShapes Go.ChangeAt Go.RowKit Go.Proofs.Ytcjhhdecckcibaa.Open Go.Proofs.Ytcjhhdecckcibaa.G Go.Proofs.YtcjhhdecckcibaaW.PrintWords
open Go.ChangeMaps (open_string shut_string)
set_option linter.unusedVariables false
theorem own : ownKnob Try.prog.godebug = none := by kernel_rfl
theorem laidOut : laidOutB Try.prog = true := by kernel_rfl
section
variable {H : Type} {enc : TypeId × Value → H}
theorem openT65 : Opens H enc Try.prog 65 k65 (fun x => ((Lit.int .i64 x.f0).wf = true ∧ (Lit.int .i64 x.f1).wf = true ∧ (Lit.int .i64 x.f2).wf = true)) :=
  opens_imp (opens_struct (fun x : S65 => (x.f0, x.f1, x.f2)) (fun y => (⟨y.1, y.2.1, y.2.2⟩ : S65)) (fun _ => rfl) Try.underlying65 (by kernel_rfl) (opensF_cons (opens_int Try.underlying3) (by kernel_rfl) (opensF_cons (opens_int Try.underlying3) (by kernel_rfl) (opensF_last (opens_int Try.underlying3) (by kernel_rfl))))) (fun x h => h)
end
set_option maxRecDepth 100000 in
theorem lifted (os : Os) (started : os.Started) (H : Type) (enc : TypeId × Value → H) :
    ReturnsInHanded {} Try.checked os 9 .any (Rows.fnExactCombOfTermSpec.pre6 enc Try.prog Try.f9 Rows.fnExactCombOfTermRow.domain false) (Rows.fnExactCombOfTermSpec.post enc Try.prog Try.f9 false true false false) := by
  refine returnsInHanded_of_change_sized (C := Try.checked) own started (by kernel_rfl) Try.func9
    (ChangeSpec.witness6 (enc := enc) (C := Try.checked) false ⟨#[], #[.slice none 0 0], []⟩ 8 (by kernel_rfl) (by kernel_rfl) (by kernel_rfl) (by kernel_rfl)) ?_
  intro W base args ds gs before hval0 hW hcnd hsz0 _
  have hsz : (DataW.weightsEach Try.prog (Try.f9.params.toList ++ Rows.fnExactCombOfTermSpec.plain.varTypes Try.prog) (ds ++ gs)).all (· ≤ reachBytes) = true := hsz0
  have hval : ∀ (j : Nat) t v, Try.f9.params[j]? = some t → args[j]? = some v → Value.okWide Try.prog W .any base t v := hval0
  have hW' := hW
  obtain ⟨p, q, hA0, hV, rfl, hfz, hnd⟩ := hW
  have hA : DataW.TrodAll enc Try.prog W 0 (fun _ => true) true Try.f9.params.toList args.toList ds p := hA0
  rw [Try.params9] at hA hval hsz
  obtain ⟨v0, vs0, d0, ds0, p0, q0, hargs, rfl, rfl, h0, r0⟩ := trodAll_cons hA
  obtain ⟨rfl, rfl, rfl⟩ := trodAll_nil r0
  obtain rfl : args = #[v0] := by cases args; simp_all
  obtain ⟨rfl, rfl⟩ := trodVars_none hV
  have k0 := h0
  have lt0 : ∀ x ∈ p0, x.block < W.heap.size := by obtain ⟨m, hm⟩ := k0; exact DataW.trod_lt m _ _ _ hm
  obtain ⟨A0, l0, c0, rfl, hc0, hr0, hg0⟩ := slice_in Try.underlying29 (opens_slice Try.underlying29 openT65 (by kernel_rfl)) (hval 0 29 v0 rfl rfl) h0
  clear hA0 hval0 hsz0 hsz
  obtain ⟨k_, hk_⟩ := Pure.FnExactCombOfTerm l0 hg0
  refine (laws_FnExactCombOfTerm.calls k_ A0 c0 l0 true W hr0 hc0 hk_).mono fun e W' ⟨he, bel0⟩ => ?_
  have bel : Below W.heap.size W W' := bel0
  subst he
  exact ⟨_, rfl, _, _, _, [], _, [], hW', trodAll_mk1 (shut_bool Try.underlying4 _), (trodAll_cons_mk (Below.trod laidOut (by kernel_rfl) (of_decide_eq_true (by kernel_rfl)) k0 bel lt0) trodAll_mk0), rfl, bel.frame _, fun h => by cases h⟩
theorem over : Rows.fnExactCombOfTermRow.holds Try.pinned (OpenSpec.ofChange Rows.fnExactCombOfTermSpec) :=
  OpenClaim.holds_of_wide 9 Try.f9 rfl rfl rfl rfl rfl rfl rfl ⟨rfl, rfl, rfl, rfl, rfl⟩ rfl rfl rfl rfl rfl (by kernel_rfl) Try.func9 (by kernel_rfl)
    (of_decide_eq_true (by kernel_rfl)) (by unfold Func.isWrapper; first | (rw [if_pos (by decide +kernel)]; kernel_rfl) | (rw [if_neg (by decide +kernel)]; exact ⟨rfl, rfl⟩))
    (fun os started H enc _ => lifted os started H enc)
theorem proved : Rows.FnExactCombOfTermSaid := over
#print axioms proved
end Go.Proofs.Ytcjhhdecckcibaa.fnExactCombOfTerm
namespace Go.Proofs.Ytcjhhdecckcibaa
theorem fnExactCombOfTerm_holds : Rows.FnExactCombOfTermSaid := fnExactCombOfTerm.proved
end Go.Proofs.Ytcjhhdecckcibaa
