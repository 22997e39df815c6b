/- Part 6 of 6 of the proof that the law FnExactReadTermCardSaid holds: for every input that can be read the call returns true and leaves its arguments as they were; no condition but those each theorem names. -/
import Derived.Test.YtcjhhdecckcibaaDoorRows
import Derived.Test.YtcjhhdecckcibaaDoorCards
import Derived.Test.YtcjhhdecckcibaaDoorTie
import Derived.WalkKit
import Derived.ProofKit
import Derived.OpenShut
import Derived.ShutString
import Derived.ChangeOld
import Derived.Below
import Derived.SizedLaws
import Derived.LaidMore
import Derived.Lib.LaidTab
import Derived.Stop.LaidErr
import Derived.MakeChecks
import Derived.HandedShaped
import Derived.LaidLaws
import Derived.Lay
import Derived.SevenTiedAt
import Derived.Stop.Joined
import Derived.Test.YtcjhhdecckcibaaDoorQReadTermW1
import Derived.Test.YtcjhhdecckcibaaDoorQReadTerm1
import Derived.Test.YtcjhhdecckcibaaDoorQReadTerm2
import Derived.Test.YtcjhhdecckcibaaDoorQReadTerm3
import Derived.Test.YtcjhhdecckcibaaDoorQReadTerm4
import Derived.Test.YtcjhhdecckcibaaDoorQReadTerm5
namespace Go.Proofs.YtcjhhdecckcibaaDoor.TermL
open Go.RowKit Go.Proofs.YtcjhhdecckcibaaDoor.G Go.Proofs.YtcjhhdecckcibaaDoor.EvL Go.Proofs.YtcjhhdecckcibaaDoor.TreeM Go.Proofs.YtcjhhdecckcibaaDoorW.PrintWords Go.Proofs.YtcjhhdecckcibaaDoorW.PrintLast
set_option linter.unusedVariables false

def back (x : Nd) : S67 := ⟨x.kind, x.n, x.up⟩
theorem nd_back (l : List Nd) : (l.map back).map nd = l := by
  rw [List.map_map]
  have : (nd ∘ back) = id := by funext x; rfl
  rw [this, List.map_id]
def tnodes (t : Tr) : List S67 := (flat t 0 (-1)).map back
theorem tnodes_len (t : Tr) : (tnodes t).length = t.size := by unfold tnodes; rw [List.length_map, flat_len]

theorem fl_spec : ∀ (t : Tr) (up : Int) (l : List S67), l.length ≤ 150 → (l.length + t.size ≤ 151 → Flat65.flT (toL t) up l = l ++ (flat t l.length up).map back) ∧ (151 < l.length + t.size → 151 ≤ (Flat65.flT (toL t) up l).length) := by
  intro t
  induction t with
  | leaf k n =>
    intro up l hl
    have e : Flat65.flT (toL (.leaf k n)) up l = l ++ [⟨k, n, up⟩] := by rw [Flat65.flT_eq]; show Flat65.flL [] _ _ = _; rw [Flat65.flL_nil]; rfl
    have hs : (Tr.leaf k n).size = 1 := rfl
    exact ⟨fun _ => e, fun h => by omega⟩
  | un k n a ih =>
    intro up l hl
    have hs : (Tr.un k n a).size = 1 + a.size := rfl
    have hp := a.size_pos
    have e : Flat65.flT (toL (.un k n a)) up l = (if (l ++ [(⟨k, n, up⟩ : S67)]).length ≤ 150 then Flat65.flT (toL a) (l.length : Int) (l ++ [⟨k, n, up⟩]) else l ++ [⟨k, n, up⟩]) := by
      rw [Flat65.flT_eq]; show Flat65.flL [toL a] _ _ = _; rw [Flat65.flL_cons, Flat65.flL_nil]; rfl
    have e1 : (l ++ [(⟨k, n, up⟩ : S67)]).length = l.length + 1 := by simp
    rw [e, e1]
    by_cases h1 : l.length + 1 ≤ 150
    · rw [if_pos h1]
      have h2 := ih (l.length : Int) (l ++ [⟨k, n, up⟩]) (by omega)
      rw [e1] at h2
      refine ⟨fun h => ?_, fun h => h2.2 (by omega)⟩
      rw [h2.1 (by omega)]
      show _ = l ++ (⟨k, n, up⟩ :: flat a (l.length + 1) l.length).map back
      simp [back]
    · rw [if_neg h1]
      exact ⟨fun h => by omega, fun h => by omega⟩
  | bin k n a b iha ihb =>
    intro up l hl
    have hs : (Tr.bin k n a b).size = 1 + a.size + b.size := rfl
    have hp := a.size_pos
    have hq := b.size_pos
    have e1 : (l ++ [(⟨k, n, up⟩ : S67)]).length = l.length + 1 := by simp
    have e : Flat65.flT (toL (.bin k n a b)) up l = (fun m => if m.length ≤ 150 then Flat65.flT (toL b) (l.length : Int) m else m) (if l.length + 1 ≤ 150 then Flat65.flT (toL a) (l.length : Int) (l ++ [⟨k, n, up⟩]) else l ++ [⟨k, n, up⟩]) := by
      rw [Flat65.flT_eq]; show Flat65.flL [toL a, toL b] _ _ = _; rw [Flat65.flL_cons, Flat65.flL_cons, Flat65.flL_nil, ← e1]; rfl
    rw [e]
    by_cases h1 : l.length + 1 ≤ 150
    · rw [if_pos h1]
      have h2 := iha (l.length : Int) (l ++ [⟨k, n, up⟩]) (by omega)
      rw [e1] at h2
      by_cases h3 : l.length + 1 + a.size ≤ 151
      · rw [h2.1 h3]
        have e2 : (l ++ [(⟨k, n, up⟩ : S67)] ++ (flat a (l.length + 1) l.length).map back).length = l.length + 1 + a.size := by rw [List.length_append, List.length_map, flat_len, e1]
        dsimp only
        rw [e2]
        by_cases h4 : l.length + 1 + a.size ≤ 150
        · rw [if_pos h4]
          have h5 := ihb (l.length : Int) (l ++ [(⟨k, n, up⟩ : S67)] ++ (flat a (l.length + 1) l.length).map back) (by omega)
          rw [e2] at h5
          refine ⟨fun h => ?_, fun h => h5.2 (by omega)⟩
          rw [h5.1 (by omega)]
          show _ = l ++ (⟨k, n, up⟩ :: (flat a (l.length + 1) l.length ++ flat b (l.length + 1 + a.size) l.length)).map back
          simp [back]
        · rw [if_neg h4]
          exact ⟨fun h => by omega, fun h => by omega⟩
      · have h6 := h2.2 (by omega)
        dsimp only
        rw [if_neg (by omega)]
        exact ⟨fun h => by omega, fun h => h6⟩
    · rw [if_neg h1]
      dsimp only
      rw [if_neg (by omega)]
      exact ⟨fun h => by omega, fun h => by omega⟩

theorem fl_impl : ∀ (t : Tr) (up : Int) (l : List S67), Nodes72.flT (toS t) up l = l ++ (flat t l.length up).map back := by
  intro t
  induction t with
  | leaf k n => intro up l; rw [Nodes72.flT_eq]; show Nodes72.flL [] _ _ = _; rw [Nodes72.flL_nil]; rfl
  | un k n a ih =>
    intro up l
    rw [Nodes72.flT_eq]; show Nodes72.flL [toS a] _ _ = _
    rw [Nodes72.flL_cons, Nodes72.flL_nil, ih]
    show _ = l ++ (⟨k, n, up⟩ :: flat a (l.length + 1) l.length).map back
    simp [back, toS]
  | bin k n a b iha ihb =>
    intro up l
    rw [Nodes72.flT_eq]; show Nodes72.flL [toS a, toS b] _ _ = _
    rw [Nodes72.flL_cons, Nodes72.flL_cons, Nodes72.flL_nil, iha, ihb]
    show _ = l ++ (⟨k, n, up⟩ :: (flat a (l.length + 1) l.length ++ flat b (l.length + 1 + a.size) l.length)).map back
    simp [back, toS, flat_len, show l.length + 1 + a.size = l.length + (a.size + 1) by omega]
theorem sz_impl : ∀ (t : Tr), Nodes72.szT (toS t) = t.size := by
  intro t
  induction t with
  | leaf k n => rw [Nodes72.szT_eq]; show 1 + Nodes72.szL [] = 1; rw [Nodes72.szL]
  | un k n a ih => rw [Nodes72.szT_eq]; show 1 + Nodes72.szL [toS a] = 1 + a.size; rw [Nodes72.szL_cons, Nodes72.szL, ih]; omega
  | bin k n a b iha ihb => rw [Nodes72.szT_eq]; show 1 + Nodes72.szL [toS a, toS b] = 1 + a.size + b.size; rw [Nodes72.szL_cons, Nodes72.szL_cons, Nodes72.szL, iha, ihb]; omega

def Good (t : Tr) : Prop := t.size ≤ 150 ∧ t.depth ≤ 40 ∧ t.all numOk

theorem good_ev (t : Tr) (hs : t.size ≤ 4000) : ∃ b, Ev (fun k => impl_term_isGood.f k (toS t).f0 (toS t).f1 (toS t).f2) b ∧ (b = true ↔ Good t) := isGood_ev t hs

theorem tells_iff (t : Tr) (hw : t.wf ar) (hs : t.size ≤ 150) : (∃ t', Tells (tnodes t) t') ↔ Good t := by
  have hp := flat_par t hw
  have hm : (tnodes t).map nd = flat t 0 (-1) := nd_back _
  have hl := tnodes_len t
  constructor
  · rintro ⟨t', h1, h2, h3, h4, h5⟩
    rw [hm, hl, ← flat_len t 0 (-1)] at h3
    obtain ⟨rfl, _⟩ := hp.unique h3
    exact ⟨hs, h5, h4⟩
  · rintro ⟨_, h2, h3⟩
    refine ⟨t, ?_, by omega, ?_, h3, h2⟩
    · rw [hl]; exact t.size_pos
    · rw [hm, hl, ← flat_len t 0 (-1)]; exact hp

theorem toldS (t : Tr) (hw : t.wf ar) : ∃ b, (b = true ↔ Good t) ∧ Ev (fun k => spec_lcTold.f k (toL t).f0 (toL t).f1 (toL t).f2) (if b = true then tnodes t else [], b) := by
  have hfs := fl_spec t (-1) [] (by simp)
  have e0 : (([] : List S67).length + t.size) = t.size := by simp
  rw [e0] at hfs
  have hsg : ∃ b, Ev (fun k => spec_GoodTerm.f k (Flat65.flT (toL t) (-1) [])) b ∧ (b = true ↔ Good t) ∧ (b = true → Flat65.flT (toL t) (-1) [] = tnodes t) := by
    by_cases h : t.size ≤ 151
    · have e : Flat65.flT (toL t) (-1) [] = tnodes t := by rw [hfs.1 h]; rfl
      rw [e]
      obtain ⟨b, hb, hbg⟩ := specGood (tnodes t) (by rw [tnodes_len]; omega)
      refine ⟨b, hb, ?_, fun _ => rfl⟩
      by_cases h2 : t.size ≤ 150
      · rw [hbg, tells_iff t hw h2]
      · rw [hbg]
        constructor
        · rintro ⟨t', _, h3, _⟩; rw [tnodes_len] at h3; omega
        · intro h3; exact absurd h3.1 h2
    · have h1 := hfs.2 (by omega)
      have h2 := Flat65.flT_len (toL t) (-1) [] (by simp)
      obtain ⟨b, hb, hbg⟩ := specGood (Flat65.flT (toL t) (-1) []) (by omega)
      have hf : ¬ b = true := by rw [hbg]; rintro ⟨t', _, h3, _⟩; omega
      exact ⟨b, hb, ⟨fun h3 => absurd h3 hf, fun h3 => absurd h3.1 (by omega)⟩, fun h3 => absurd h3 hf⟩
  obtain ⟨bs, hbs, hgs, hes⟩ := hsg
  refine ⟨bs, hgs, ?_⟩
  unfold spec_lcTold.f
  rw [toL_eta]
  by_cases h : bs = true
  · rw [if_pos h]
    exact Ev.bind hbs (Ev.ite_pos h (Ev.of_eq (Ev.now _) (by rw [hes h, h])))
  · rw [if_neg h]
    exact Ev.bind hbs (Ev.ite_neg h (Ev.of_eq (Ev.now _) (by simpa using h)))
theorem toldI (t : Tr) (hs : t.size ≤ 4000) : ∃ b, (b = true ↔ Good t) ∧ Ev (fun k => impl_term_goodNodes.f k (toS t).f0 (toS t).f1 (toS t).f2) (if b = true then tnodes t else [], b) := by
  obtain ⟨bi, hbi, hg⟩ := good_ev t hs
  refine ⟨bi, hg, ?_⟩
  unfold impl_term_goodNodes.f
  by_cases h : bi = true
  · have hgood := hg.mp h
    have hnd : Ev (fun _ => impl_term_nodes.f (toS t).f0 (toS t).f1 (toS t).f2) (tnodes t) := by
      unfold impl_term_nodes.f
      rw [toS_eta]
      exact Ev.ite_pos (by rw [sz_impl]; omega) (Ev.of_eq (Ev.now _) (by rw [fl_impl]; rfl))
    rw [if_pos h]
    exact Ev.bind hbi (Ev.ite_pos h (Ev.bind hnd (Ev.of_eq (Ev.now _) (by rw [h]))))
  · rw [if_neg h]
    exact Ev.bind hbi (Ev.ite_neg h (Ev.of_eq (Ev.now _) (by simpa using h)))

def mkC (q : Int) : S67 := ⟨q, q + 1, q + 2⟩
def markC (l : List S67) : List S67 := (List.range l.length).map fun (j : Nat) => mkC (1 + 3 * (j : Int))
theorem rd_setC (l : List S67) (i : Nat) (v : S67) (h : i < l.length) : rd_T67 (l.set i v) (i : Int) = v := by
  rw [rdC, List.getD_eq_getElem?_getD, List.getElem?_set_self h]; rfl
theorem markTerms_from (n : Nat) (hn : n ≤ 1500000) : ∀ (d i : Nat) (l : List S67), i + d = n → l.length = n →
    Ev (fun k => laws_markTermS.l0 k l (1 + 3 * (i : Int)) i) (1 + 3 * (n : Int), l.take i ++ (List.range d).map fun (j : Nat) => mkC (1 + 3 * ((i + j : Nat) : Int))) := by
  intro d
  induction d with
  | zero =>
    intro i l hi hl
    obtain rfl : i = n := by omega
    refine Ev.succ (Ev.congr (fun k => ?_) (Ev.now _))
    simp only [laws_markTermS.l0]
    rw [if_neg (by omega), List.range_zero, List.map_nil, List.append_nil, List.take_of_length_le (by omega)]
  | succ d ih =>
    intro i l hi hl
    have hlt : i < l.length := by omega
    refine Ev.step (f := fun k => laws_markTermS.l0 k (l.set i (mkC (1 + 3 * (i : Int)))) (1 + 3 * ((i + 1 : Nat) : Int)) ((i + 1 : Nat) : Int)) (fun k => ?_) ?_
    · have w1 : wrap64 (1 + 3 * (i : Int) + 1) = 1 + 3 * (i : Int) + 1 := w64 (by omega) (by omega)
      have w2 : wrap64 (1 + 3 * (i : Int) + 1 + 1) = 1 + 3 * (i : Int) + 2 := by rw [w64 (by omega) (by omega)]; omega
      have w3 : wrap64 (1 + 3 * (i : Int) + 2 + 1) = 1 + 3 * ((i + 1 : Nat) : Int) := by rw [w64 (by omega) (by omega)]; omega
      simp only [laws_markTermS.l0, w1, w2, w3, Option.bind_some, Int.toNat_natCast]
      rw [if_pos (by omega), if_pos (by omega), next i (n := n) (by omega) (by omega)]
      congr 1
      simp only [rd_setC l i _ hlt, List.set_set]
      rfl
    · refine Ev.of_eq (ih (i + 1) (l.set i (mkC (1 + 3 * (i : Int)))) (by omega) (by simpa using hl)) ?_
      have e : (l.set i (mkC (1 + 3 * (i : Int)))).take (i + 1) = l.take i ++ [mkC (1 + 3 * (i : Int))] := by
        rw [List.take_succ_eq_append_getElem (by simp; omega)]
        simp [List.take_set_of_le]
      rw [e, List.append_assoc, List.range_succ_eq_map, List.map_cons, List.map_map, Nat.add_zero, List.singleton_append]
      congr 2
      congr 1
      apply List.map_congr_left
      intro j _
      show mkC (1 + 3 * ((i + 1 + j : Nat) : Int)) = mkC (1 + 3 * ((i + (j + 1) : Nat) : Int))
      congr 3; omega
theorem markTerms (l : List S67) (hl : l.length ≤ 1500000) : Ev (fun k => laws_markTermS.f k l 1) (1 + 3 * (l.length : Int), markC l) := by
  unfold laws_markTermS.f markC
  have := markTerms_from l.length hl l.length 0 l (by omega) rfl
  simp only [Nat.zero_add, List.take_zero, List.nil_append] at this
  exact this
theorem heldTerms (l : List S67) (hl : l.length ≤ 1500000) : Ev (fun k => laws_heldTermS.f k (markC l) 1) (1 + 3 * (l.length : Int)) := by
  unfold laws_heldTermS.f
  have hlen : (markC l).length = l.length := by unfold markC; simp
  have key : ∀ (d i : Nat), i + d = l.length → Ev (fun k => laws_heldTermS.l0 k (markC l) (1 + 3 * (i : Int)) i) (1 + 3 * (l.length : Int)) := by
    intro d
    induction d with
    | zero =>
      intro i hi
      refine Ev.succ (Ev.congr (fun k => ?_) (Ev.now _))
      simp only [laws_heldTermS.l0, hlen]
      rw [if_neg (by omega), show i = l.length by omega]
    | succ d ih =>
      intro i hi
      have e : rd_T67 (markC l) (i : Int) = mkC (1 + 3 * (i : Int)) := by
        rw [rdC]; unfold markC
        rw [List.getD_eq_getElem?_getD, List.getElem?_map, List.getElem?_range (by omega)]; rfl
      have w1 : wrap64 (1 + 3 * (i : Int) + 1) = 1 + 3 * (i : Int) + 1 := w64 (by omega) (by omega)
      have w2 : wrap64 (1 + 3 * (i : Int) + 1 + 1) = 1 + 3 * (i : Int) + 2 := by rw [w64 (by omega) (by omega)]; omega
      have w3 : wrap64 (1 + 3 * (i : Int) + 2 + 1) = 1 + 3 * ((i + 1 : Nat) : Int) := by rw [w64 (by omega) (by omega)]; omega
      refine Ev.step (f := fun k => laws_heldTermS.l0 k (markC l) (1 + 3 * ((i + 1 : Nat) : Int)) ((i + 1 : Nat) : Int)) (fun k => ?_) (ih (i + 1) (by omega))
      simp only [laws_heldTermS.l0, hlen, e, w1, w2, w3, mkC]
      rw [if_pos (by omega), if_pos (by omega), next i (n := l.length) (by omega) (by omega), if_pos trivial, if_pos trivial, if_pos trivial]
  exact key l.length 0 (by omega)
end Go.Proofs.YtcjhhdecckcibaaDoor.TermL

namespace Go.Proofs.YtcjhhdecckcibaaDoor.TermL
open Go.RowKit Go.Proofs.YtcjhhdecckcibaaDoor.G Go.Proofs.YtcjhhdecckcibaaDoor.EvL Go.Proofs.YtcjhhdecckcibaaDoor.TreeM Go.Proofs.YtcjhhdecckcibaaDoor.TxtL Go.Proofs.YtcjhhdecckcibaaDoor.NumL Go.Proofs.YtcjhhdecckcibaaDoor.ReadM Go.Proofs.YtcjhhdecckcibaaDoorW.PrintWords Go.Proofs.YtcjhhdecckcibaaDoorW.PrintLast
set_option linter.unusedVariables false
set_option linter.unusedSimpArgs false

theorem e40 : (⟨#[40]⟩ : ByteArray) = B [40] := rfl
theorem e32 : (⟨#[32]⟩ : ByteArray) = B [32] := rfl
theorem e41 : (⟨#[41]⟩ : ByteArray) = B [41] := rfl
theorem e92 : (⟨#[92]⟩ : ByteArray) = B [92] := rfl
theorem text_ev : ∀ (t : Tr), TForm 1000 t → (ttxt t).length ≤ 9000000 → Ev (fun k => spec_lcText.f k (toL t).f0 (toL t).f1 (toL t).f2) (B (ttxt t)) ∧ Ev (fun k => impl_term_text.f k (toS t).f0 (toS t).f1 (toS t).f2) (B (ttxt t))
  | .leaf k n, h, hl => by
    obtain ⟨rfl, h0, h1⟩ := h
    have hi : strconv_Itoa_52.f n = some (B (Lib.decDigits n.toNat)) := if_pos ⟨h0, by omega⟩
    refine ⟨Ev.step (f := fun m => (spec_l1Num.f m n).bind fun t102 => some t102) (fun m => ?_) (Ev.bind (num_B n h0 (by omega)) (Ev.now _)), Ev.step (f := fun _ => some (B (Lib.decDigits n.toNat))) (fun m => ?_) (Ev.now _)⟩
    · show spec_lcText.f (m + 1) 1 n [] = _
      rw [spec_lcText.f, if_pos rfl]
    · show impl_term_text.f (m + 1) 1 n [] = _
      rw [impl_term_text.f, if_pos rfl, hi, Option.bind_some]
  | .un k n a, h, hl => by
    obtain ⟨rfl, rfl, ha⟩ := h
    have hl' : (ttxt a).length + 1 ≤ 9000000 := hl
    obtain ⟨sE, iE⟩ := text_ev a ha (by omega)
    have z1 : 1 + (B (ttxt a)).size ≤ 9223372036854775807 := by rw [B_size]; omega
    have e : (⟨#[92]⟩ : ByteArray) ++ B (ttxt a) = B (ttxt (.un 2 0 a)) := by rw [e92, B_append]; rfl
    refine ⟨Ev.step (f := fun m => (spec_lcText.f m (toL a).f0 (toL a).f1 (toL a).f2).bind fun t104 => if 1 + t104.size ≤ 9223372036854775807 then some ((⟨#[92]⟩ : ByteArray) ++ t104) else none) (fun m => ?_) (Ev.bind sE (Ev.ite_pos z1 (Ev.of_eq (Ev.now _) e))), Ev.step (f := fun m => (impl_term_text.f m (toS a).f0 (toS a).f1 (toS a).f2).bind fun t104 => if 1 + t104.size ≤ 9223372036854775807 then some ((⟨#[92]⟩ : ByteArray) ++ t104) else none) (fun m => ?_) (Ev.bind iE (Ev.ite_pos z1 (Ev.of_eq (Ev.now _) e)))⟩
    · show spec_lcText.f (m + 1) 2 0 [toL a] = _
      rw [spec_lcText.f, if_neg (by decide), if_pos rfl, if_pos (show (0 : Int) < (([toL a] : List S65).length : Int) by simp)]; rfl
    · show impl_term_text.f (m + 1) 2 0 [toS a] = _
      rw [impl_term_text.f, if_neg (by decide), if_pos rfl, if_pos (show (0 : Int) < (([toS a] : List S72).length : Int) by simp)]; rfl
  | .bin k n a b, h, hl => by
    obtain ⟨rfl, rfl, ha, hb⟩ := h
    have hl' : (ttxt a).length + (ttxt b).length + 3 ≤ 9000000 := by simp only [ttxt, List.length_cons, List.length_append, List.length_nil] at hl; omega
    obtain ⟨sE, iE⟩ := text_ev a ha (by omega)
    obtain ⟨sF, iF⟩ := text_ev b hb (by omega)
    have z1 : 1 + (B (ttxt a)).size ≤ 9223372036854775807 := by rw [B_size]; omega
    have q2 : (⟨#[40]⟩ : ByteArray) ++ B (ttxt a) = B (40 :: ttxt a) := by rw [e40, B_append]; rfl
    have z2 : (B (40 :: ttxt a)).size + 1 ≤ 9223372036854775807 := by rw [B_size, List.length_cons]; omega
    have q3 : B (40 :: ttxt a) ++ (⟨#[32]⟩ : ByteArray) = B (40 :: (ttxt a ++ [32])) := by rw [e32, B_append]; rfl
    have z3 : (B (40 :: (ttxt a ++ [32]))).size + (B (ttxt b)).size ≤ 9223372036854775807 := by rw [B_size, B_size, List.length_cons, List.length_append, List.length_singleton]; omega
    have q4 : B (40 :: (ttxt a ++ [32])) ++ B (ttxt b) = B (40 :: (ttxt a ++ [32]) ++ ttxt b) := B_append _ _
    have z4 : (B (40 :: (ttxt a ++ [32]) ++ ttxt b)).size + 1 ≤ 9223372036854775807 := by rw [B_size, List.length_append, List.length_cons, List.length_append, List.length_singleton]; omega
    have q5 : B (40 :: (ttxt a ++ [32]) ++ ttxt b) ++ (⟨#[41]⟩ : ByteArray) = B (ttxt (.bin 3 0 a b)) := by
      rw [e41, B_append]; congr 1; simp [ttxt]
    refine ⟨Ev.step (f := fun m => (spec_lcText.f m (toL a).f0 (toL a).f1 (toL a).f2).bind fun t106 => (if 1 + t106.size ≤ 9223372036854775807 then (if ((⟨#[40]⟩ : ByteArray) ++ t106).size + 1 ≤ 9223372036854775807 then ((spec_lcText.f m (toL b).f0 (toL b).f1 (toL b).f2).bind fun t108 => (if (((⟨#[40]⟩ : ByteArray) ++ t106) ++ (⟨#[32]⟩ : ByteArray)).size + t108.size ≤ 9223372036854775807 then (if ((((⟨#[40]⟩ : ByteArray) ++ t106) ++ (⟨#[32]⟩ : ByteArray)) ++ t108).size + 1 ≤ 9223372036854775807 then (some (((((⟨#[40]⟩ : ByteArray) ++ t106) ++ (⟨#[32]⟩ : ByteArray)) ++ t108) ++ (⟨#[41]⟩ : ByteArray))) else (none)) else (none))) else (none)) else (none))) (fun m => ?_) (Ev.bind sE (Ev.ite_pos z1 ?_)),
      Ev.step (f := fun m => (impl_term_text.f m (toS a).f0 (toS a).f1 (toS a).f2).bind fun t106 => (if 1 + t106.size ≤ 9223372036854775807 then (if ((⟨#[40]⟩ : ByteArray) ++ t106).size + 1 ≤ 9223372036854775807 then ((impl_term_text.f m (toS b).f0 (toS b).f1 (toS b).f2).bind fun t108 => (if (((⟨#[40]⟩ : ByteArray) ++ t106) ++ (⟨#[32]⟩ : ByteArray)).size + t108.size ≤ 9223372036854775807 then (if ((((⟨#[40]⟩ : ByteArray) ++ t106) ++ (⟨#[32]⟩ : ByteArray)) ++ t108).size + 1 ≤ 9223372036854775807 then (some (((((⟨#[40]⟩ : ByteArray) ++ t106) ++ (⟨#[32]⟩ : ByteArray)) ++ t108) ++ (⟨#[41]⟩ : ByteArray))) else (none)) else (none))) else (none)) else (none))) (fun m => ?_) (Ev.bind iE (Ev.ite_pos z1 ?_))⟩
    · show spec_lcText.f (m + 1) 3 0 [toL a, toL b] = _
      rw [spec_lcText.f, if_neg (by decide), if_neg (by decide), if_pos (show (0 : Int) < (([toL a, toL b] : List S65).length : Int) by simp)]
      simp only [if_pos (show (1 : Int) < (([toL a, toL b] : List S65).length : Int) by simp)]
      rfl
    · rw [q2]
      refine Ev.ite_pos z2 (Ev.bind sF ?_)
      rw [q3]
      refine Ev.ite_pos z3 ?_
      rw [q4]
      exact Ev.ite_pos z4 (Ev.of_eq (Ev.now _) q5)
    · show impl_term_text.f (m + 1) 3 0 [toS a, toS b] = _
      rw [impl_term_text.f, if_neg (by decide), if_neg (by decide), if_pos (show (0 : Int) < (([toS a, toS b] : List S72).length : Int) by simp)]
      simp only [if_pos (show (1 : Int) < (([toS a, toS b] : List S72).length : Int) by simp)]
      rfl
    · rw [q2]
      refine Ev.ite_pos z2 (Ev.bind iF ?_)
      rw [q3]
      refine Ev.ite_pos z3 ?_
      rw [q4]
      exact Ev.ite_pos z4 (Ev.of_eq (Ev.now _) q5)

def outS (s : List UInt8) : Option (Tr × List UInt8) → Int × Int × List S65 × Int
  | none => (0, 0, [], 0)
  | some (t, r) => ((toL t).f0, (toL t).f1, (toL t).f2, (s.length : Int) - (r.length : Int))
theorem bt0 (c : UInt8) (s : List UInt8) : bt (B (c :: s)) 0 = (c.toNat : Int) := bt_B (c :: s) 0 (by simp)
theorem bt_ne {c b : UInt8} (h : c ≠ b) : ¬ (c.toNat : Int) = (b.toNat : Int) := fun e => h (UInt8.toNat_inj.mp (by omega))
theorem digS (s : List UInt8) (hs : s.length ≤ 2000000) {r : Int × Int × List S65 × Int} : ∀ (e i : Nat), i + e = 2 → i ≤ s.length → Ev (fun k => spec_lcRead.j3 k (B s) ((i + (digs e (s.drop i)).length : Nat) : Int)) r → Ev (fun k => spec_lcRead.l0 k (B s) i) r := by
  have hsz : (B s).size = s.length := B_size s
  intro e
  induction e with
  | zero =>
    intro i hi hl hE
    have hE' : Ev (fun k => spec_lcRead.j3 k (B s) (i : Int)) r := hE
    by_cases c : (i : Int) < (((B s).size : Nat) : Int)
    · exact Ev.step (fun k => by rw [spec_lcRead.l0, if_pos c, if_neg (by omega)]) hE'
    · exact Ev.step (fun k => by rw [spec_lcRead.l0, if_neg c]) hE'
  | succ e ih =>
    intro i hi hl hE
    by_cases c : (i : Int) < (((B s).size : Nat) : Int)
    · have hlt : i < s.length := by rw [hsz] at c; omega
      have hbt := bt_B s i hlt
      have c0 : 0 ≤ (i : Int) := by omega
      have c2 : (i : Int) < 2 := by omega
      have hw := NumL.next i s.length hlt (by omega)
      rw [List.drop_eq_getElem_cons hlt] at hE
      by_cases hD : isD s[i]
      · have h48 : bt (B s) (i : Int) ≥ 48 := by unfold isD at hD; omega
        have h57 : bt (B s) (i : Int) ≤ 57 := by unfold isD at hD; omega
        refine Ev.step (fun k => by rw [spec_lcRead.l0, if_pos c, if_pos c2, if_pos c0, if_pos h48, if_pos h57, hw]) (ih (i + 1) (by omega) (by omega) ?_)
        rw [digs, if_pos hD, List.length_cons] at hE
        rw [show i + 1 + (digs e (s.drop (i + 1))).length = i + ((digs e (s.drop (i + 1))).length + 1) by omega]
        exact hE
      · rw [digs, if_neg hD] at hE
        have hE' : Ev (fun k => spec_lcRead.j3 k (B s) (i : Int)) r := hE
        by_cases h48 : bt (B s) (i : Int) ≥ 48
        · have h57 : ¬ bt (B s) (i : Int) ≤ 57 := by unfold isD at hD; omega
          exact Ev.step (fun k => by rw [spec_lcRead.l0, if_pos c, if_pos c2, if_pos c0, if_pos h48, if_neg h57]) hE'
        · exact Ev.step (fun k => by rw [spec_lcRead.l0, if_pos c, if_pos c2, if_pos c0, if_neg h48]) hE'
    · have hd : s.drop i = [] := List.drop_eq_nil_of_le (by rw [hsz] at c; omega)
      rw [hd, digs] at hE
      have hE' : Ev (fun k => spec_lcRead.j3 k (B s) (i : Int)) r := hE
      exact Ev.step (fun k => by rw [spec_lcRead.l0, if_neg c]) hE'
theorem outS_len {d : Nat} {s : List UInt8} {t : Tr} {r : List UInt8} (h : trd 2 d s = some (t, r)) : r.length < s.length := by
  have := trd_sound 2 d s t r h
  have := t.size_pos
  omega
theorem lcRead_ev : ∀ (d : Nat) (s : List UInt8), d ≤ 40 → s.length ≤ 1048576 → Ev (fun k => spec_lcRead.f k (B s) (41 - (d : Int))) (outS s (trd 2 d s)) := by
  intro d
  induction d with
  | zero =>
    intro s hd hs
    refine Ev.step (f := fun k => spec_lcRead.j0 k (B s) (41 - ((0 : Nat) : Int)) true) (fun k => by rw [spec_lcRead.f, if_pos (by omega)]) ?_
    exact Ev.step (f := fun _ => some (0, 0, ([] : List S65), 0)) (fun k => by rw [spec_lcRead.j0, if_pos rfl]) (Ev.now _)
  | succ d ih =>
    intro s hd hs
    have hsz : (B s).size = s.length := B_size s
    have hw : wrap64 ((41 - ((d + 1 : Nat) : Int)) + 1) = 41 - (d : Int) := by rw [w64 (by omega) (by omega)]; omega
    refine Ev.step (f := fun k => spec_lcRead.j0 k (B s) (41 - ((d + 1 : Nat) : Int)) ((B s).toList == ([] : List UInt8))) (fun k => by rw [spec_lcRead.f, if_neg (by omega)]) ?_
    rw [toList_B]
    cases s with
    | nil => exact Ev.step (f := fun _ => some (0, 0, ([] : List S65), 0)) (fun k => by rw [spec_lcRead.j0, if_pos (show (([] : List UInt8) == []) = true from rfl)]) (Ev.now _)
    | cons c s =>
      have hs' : s.length + 1 ≤ 1048576 := hs
      have p0 : 0 < (((B (c :: s)).size : Nat) : Int) := by rw [hsz, List.length_cons]; omega
      have p1 : 1 ≤ (((B (c :: s)).size : Nat) : Int) := by omega
      have ex1 : (B (c :: s)).extract 1 (B (c :: s)).size = B s := by rw [ext_drop _ _ _ hsz]; rfl
      have hne : ¬ (((c :: s) == ([] : List UInt8)) = true) := by simp
      by_cases h92 : c = 92
      · have b92 : bt (B (c :: s)) 0 = 92 := by rw [bt0, h92]; rfl
        have hE := ih s (by omega) (by omega)
        refine Ev.step (f := fun k => (spec_lcRead.f k (B s) (41 - (d : Int))).bind fun bt102 => (if bt102.2.2.2 = 0 then (some (bt102.1, bt102.2.1, bt102.2.2.1, 0)) else ((spec_lcLam.f bt102.1 bt102.2.1 bt102.2.2.1).bind fun bt109 => (some (bt109.1, bt109.2.1, bt109.2.2, wrap64 (bt102.2.2.2 + 1)))))) (fun k => by rw [spec_lcRead.j0, if_neg hne, if_pos p0, if_pos b92, if_pos p1, ex1, hw]) (Ev.bind hE ?_)
        rw [trd, if_pos h92]
        cases hq : trd 2 d s with
        | none => exact Ev.ite_pos rfl (Ev.now _)
        | some p =>
          obtain ⟨t, r⟩ := p
          have hlen := outS_len hq
          refine Ev.ite_neg (show ¬ ((s.length : Int) - (r.length : Int)) = 0 by omega) (Ev.of_eq (Ev.now _) ?_)
          show ((2 : Int), (0 : Int), [(⟨(toL t).f0, (toL t).f1, (toL t).f2⟩ : S65)], wrap64 ((s.length : Int) - (r.length : Int) + 1)) = (2, 0, [toL t], (((c :: s).length : Nat) : Int) - (r.length : Int))
          rw [toL_eta, w64 (by omega) (by omega), List.length_cons]
          congr 3; omega
      by_cases h40 : c = 40
      · have b92 : ¬ bt (B (c :: s)) 0 = 92 := by rw [bt0]; exact bt_ne h92
        have b40 : bt (B (c :: s)) 0 = 40 := by rw [bt0, h40]; rfl
        have hE := ih s (by omega) (by omega)
        have bad : ∀ (x0 x1 : Int) (x2 : List S65) (n : Int), Ev (fun k => spec_lcRead.j1 k (B (c :: s)) (41 - ((d + 1 : Nat) : Int)) n true x0 x1 x2) ((0 : Int), (0 : Int), ([] : List S65), (0 : Int)) := fun x0 x1 x2 n => Ev.step (f := fun _ => some (0, 0, ([] : List S65), 0)) (fun k => by rw [spec_lcRead.j1, if_pos rfl]) (Ev.now _)
        have hT : trd 2 (d + 1) (c :: s) = (trd 2 d s).bind fun p => (eat 32 p.2).bind fun r1 => (trd 2 d r1).bind fun q => (eat 41 q.2).bind fun r3 => some (.bin 3 0 p.1 q.1, r3) := by rw [trd, if_neg h92, if_pos h40]
        have hsz' : (((B (c :: s)).size : Nat) : Int) = ((s.length + 1 : Nat) : Int) := by rw [hsz, List.length_cons]
        cases hq : trd 2 d s with
        | none =>
          rw [hq] at hE
          refine Ev.step (fun k => by rw [spec_lcRead.j0, if_neg hne, if_pos p0, if_neg b92, if_pos b40, if_pos p1, ex1, hw]) (Ev.bind hE (Ev.ite_pos rfl (Ev.of_eq (bad _ _ _ _) ?_)))
          rw [hT, hq]; rfl
        | some p =>
          obtain ⟨t, r⟩ := p
          rw [hq] at hE
          have hlen := outS_len hq
          have hw1 : wrap64 (((s.length - r.length : Nat) : Int) + 1) = ((s.length - r.length + 1 : Nat) : Int) := by rw [w64 (by omega) (by omega)]; omega
          have hE' : Ev (fun k => spec_lcRead.f k (B s) (41 - (d : Int))) ((toL t).f0, (toL t).f1, (toL t).f2, ((s.length - r.length : Nat) : Int)) := Ev.of_eq hE (by
            show ((toL t).f0, (toL t).f1, (toL t).f2, (s.length : Int) - (r.length : Int)) = _
            congr 3; omega)
          have hsuf := trd_suffix 2 d s t r hq
          refine Ev.step (fun k => by rw [spec_lcRead.j0, if_neg hne, if_pos p0, if_neg b92, if_pos b40, if_pos p1, ex1, hw]) (Ev.bind hE' (Ev.ite_neg (show ¬ ((s.length - r.length : Nat) : Int) = 0 by omega) ?_))
          cases r with
          | nil =>
            exact Ev.ite_pos (show wrap64 (((s.length - ([] : List UInt8).length : Nat) : Int) + 1) ≥ (((B (c :: s)).size : Nat) : Int) by rw [hw1, hsz', List.length_nil]; omega) (Ev.of_eq (bad _ _ _ _) (by rw [hT, hq]; rfl))
          | cons y r1 =>
            have hlr : (y :: r1).length = r1.length + 1 := rfl
            have hbt : bt (B (c :: s)) ((s.length - (y :: r1).length + 1 : Nat) : Int) = (y.toNat : Int) := by
              rw [bt_B _ _ (by rw [List.length_cons]; omega)]
              have : (c :: s)[s.length - (y :: r1).length + 1]'(by rw [List.length_cons]; omega) = y := by
                rw [List.getElem_cons_succ]
                exact suffix_get hsuf _
              rw [this]
            refine Ev.ite_neg (show ¬ wrap64 (((s.length - (y :: r1).length : Nat) : Int) + 1) ≥ (((B (c :: s)).size : Nat) : Int) by rw [hw1, hsz']; omega) (Ev.ite_pos (show 0 ≤ wrap64 (((s.length - (y :: r1).length : Nat) : Int) + 1) by rw [hw1]; omega) (Ev.ite_pos (show wrap64 (((s.length - (y :: r1).length : Nat) : Int) + 1) < (((B (c :: s)).size : Nat) : Int) by rw [hw1, hsz']; omega) ?_))
            show Ev (fun k => spec_lcRead.j1 k (B (c :: s)) (41 - ((d + 1 : Nat) : Int)) ((s.length - (y :: r1).length : Nat) : Int) (bt (B (c :: s)) (wrap64 (((s.length - (y :: r1).length : Nat) : Int) + 1)) != 32) (toL t).f0 (toL t).f1 (toL t).f2) _
            rw [hw1, hbt]
            by_cases h32 : y = 32
            · subst h32
              have e1 : (((32 : UInt8).toNat : Int) != 32) = false := rfl
              rw [e1]
              have hT2 : trd 2 (d + 1) (c :: s) = (trd 2 d r1).bind fun q => (eat 41 q.2).bind fun r3 => some (.bin 3 0 t q.1, r3) := by rw [hT, hq, Option.bind_some, eat_cons, Option.bind_some]
              have hw2 : wrap64 (((s.length - (32 :: r1 : List UInt8).length : Nat) : Int) + 2) = ((s.length - r1.length + 1 : Nat) : Int) := by rw [w64 (by omega) (by omega)]; omega
              have ex2 : (B (c :: s)).extract (s.length - r1.length + 1) (B (c :: s)).size = B r1 := by
                rw [ext_drop _ _ _ hsz]
                congr 1
                rw [List.drop_succ_cons]
                exact suffix_drop hsuf
              have hF := ih r1 (by omega) (by omega)
              have g1 : 0 ≤ ((s.length - r1.length + 1 : Nat) : Int) := by omega
              have g2 : ((s.length - r1.length + 1 : Nat) : Int) ≤ (((B (c :: s)).size : Nat) : Int) := by rw [hsz']; omega
              cases hq2 : trd 2 d r1 with
              | none =>
                rw [hq2] at hF
                refine Ev.step (fun k => by rw [spec_lcRead.j1, if_neg (by decide), hw2, if_pos g1, if_pos g2, Int.toNat_natCast, ex2, hw]) (Ev.bind hF (Ev.ite_pos rfl (Ev.of_eq (Ev.now _) ?_)))
                rw [hT2, hq2]; rfl
              | some p2 =>
                obtain ⟨u, r2⟩ := p2
                rw [hq2] at hF
                have hlen2 := outS_len hq2
                have hsuf2 := trd_suffix 2 d r1 u r2 hq2
                have hw3 : wrap64 (((s.length - r1.length + 1 : Nat) : Int) + ((r1.length - r2.length : Nat) : Int)) = ((s.length - r2.length + 1 : Nat) : Int) := by rw [w64 (by omega) (by omega)]; omega
                have hF' : Ev (fun k => spec_lcRead.f k (B r1) (41 - (d : Int))) ((toL u).f0, (toL u).f1, (toL u).f2, ((r1.length - r2.length : Nat) : Int)) := Ev.of_eq hF (by
                  show ((toL u).f0, (toL u).f1, (toL u).f2, (r1.length : Int) - (r2.length : Int)) = _
                  congr 3; omega)
                refine Ev.step (fun k => by rw [spec_lcRead.j1, if_neg (by decide), hw2, if_pos g1, if_pos g2, Int.toNat_natCast, ex2, hw]) (Ev.bind hF' (Ev.ite_neg (show ¬ ((r1.length - r2.length : Nat) : Int) = 0 by omega) ?_))
                cases r2 with
                | nil =>
                  exact Ev.ite_pos (show wrap64 (((s.length - r1.length + 1 : Nat) : Int) + ((r1.length - ([] : List UInt8).length : Nat) : Int)) ≥ (((B (c :: s)).size : Nat) : Int) by rw [hw3, hsz', List.length_nil]; omega) (Ev.of_eq (Ev.now _) (by rw [hT2, hq2]; rfl))
                | cons y2 r3 =>
                  have hlr2 : (y2 :: r3).length = r3.length + 1 := rfl
                  have hbt2 : bt (B (c :: s)) ((s.length - (y2 :: r3).length + 1 : Nat) : Int) = (y2.toNat : Int) := by
                    rw [bt_B _ _ (by rw [List.length_cons]; omega)]
                    have : (c :: s)[s.length - (y2 :: r3).length + 1]'(by rw [List.length_cons]; omega) = y2 := by
                      rw [List.getElem_cons_succ]
                      exact suffix_get (hsuf2.trans ((List.suffix_cons _ _).trans hsuf)) _
                    rw [this]
                  refine Ev.ite_neg (show ¬ wrap64 (((s.length - r1.length + 1 : Nat) : Int) + ((r1.length - (y2 :: r3).length : Nat) : Int)) ≥ (((B (c :: s)).size : Nat) : Int) by rw [hw3, hsz']; omega) (Ev.ite_pos (show 0 ≤ wrap64 (((s.length - r1.length + 1 : Nat) : Int) + ((r1.length - (y2 :: r3).length : Nat) : Int)) by rw [hw3]; omega) (Ev.ite_pos (show wrap64 (((s.length - r1.length + 1 : Nat) : Int) + ((r1.length - (y2 :: r3).length : Nat) : Int)) < (((B (c :: s)).size : Nat) : Int) by rw [hw3, hsz']; omega) ?_))
                  by_cases h41 : y2 = 41
                  · subst h41
                    refine Ev.ite_pos (show bt (B (c :: s)) (wrap64 (((s.length - r1.length + 1 : Nat) : Int) + ((r1.length - (41 :: r3 : List UInt8).length : Nat) : Int))) = 41 by rw [hw3, hbt2]; rfl) (Ev.of_eq (Ev.now _) ?_)
                    rw [hT2, hq2, Option.bind_some, eat_cons]
                    show ((3 : Int), (0 : Int), [(⟨(toL t).f0, (toL t).f1, (toL t).f2⟩ : S65), (⟨(toL u).f0, (toL u).f1, (toL u).f2⟩ : S65)], wrap64 (wrap64 (((s.length - r1.length + 1 : Nat) : Int) + ((r1.length - (41 :: r3 : List UInt8).length : Nat) : Int)) + 1)) = (3, 0, [toL t, toL u], (((c :: s).length : Nat) : Int) - (r3.length : Int))
                    rw [toL_eta, toL_eta, hw3, w64 (by omega) (by omega), List.length_cons]
                    congr 3; omega
                  · refine Ev.ite_neg (show ¬ bt (B (c :: s)) (wrap64 (((s.length - r1.length + 1 : Nat) : Int) + ((r1.length - (y2 :: r3).length : Nat) : Int))) = 41 by rw [hw3, hbt2]; exact bt_ne h41) (Ev.of_eq (Ev.now _) ?_)
                    have : eat 41 (y2 :: r3) = none := if_neg h41
                    rw [hT2, hq2, Option.bind_some, this]; rfl
            · have e1 : ((y.toNat : Int) != 32) = true := by
                rw [bne_iff_ne]; exact bt_ne h32
              have e2 : eat 32 (y :: r1) = none := if_neg h32
              rw [e1]
              exact Ev.of_eq (bad _ _ _ _) (by rw [hT, hq, Option.bind_some, e2]; rfl)
      · have b92 : ¬ bt (B (c :: s)) 0 = 92 := by rw [bt0]; exact bt_ne h92
        have b40 : ¬ bt (B (c :: s)) 0 = 40 := by rw [bt0]; exact bt_ne h40
        rw [trd, if_neg h92, if_neg h40]
        refine Ev.step (f := fun k => spec_lcRead.l0 k (B (c :: s)) ((0 : Nat) : Int)) (fun k => by rw [spec_lcRead.j0, if_neg hne, if_pos p0, if_neg b92, if_neg b40]; rfl) (digS (c :: s) (by omega) 2 0 rfl (by simp) ?_)
        rw [Nat.zero_add, List.drop_zero]
        have hdl := digs_len 2 (c :: s)
        by_cases hd0 : digs 2 (c :: s) = []
        · rw [if_pos hd0, hd0]
          exact Ev.step (f := fun _ => some ((0 : Int), (0 : Int), ([] : List S65), (0 : Int))) (fun k => by rw [spec_lcRead.j3, if_pos (show (([] : List UInt8).length : Int) = 0 from rfl)]) (Ev.now _)
        · rw [if_neg hd0]
          have hpos : 0 < (digs 2 (c :: s)).length := by
            cases hq : digs 2 (c :: s) with
            | nil => exact absurd hq hd0
            | cons a b => simp
          have ex3 : (B (c :: s)).extract 0 (digs 2 (c :: s)).length = B (digs 2 (c :: s)) := by
            rw [ext_take]
            congr 1
            have := digs_pre 2 (c :: s)
            conv => lhs; arg 2; rw [this]
            rw [List.take_left]
          refine Ev.step (fun k => by rw [spec_lcRead.j3, if_neg (by omega), if_pos (by omega), if_pos (by rw [hsz]; omega), Int.toNat_natCast, ex3]) (Ev.bind (small_ev _ (by omega) (digs_all 2 _)) (Ev.of_eq (Ev.now _) ?_))
          show ((1 : Int), ((valF 0 (digs 2 (c :: s)) : Nat) : Int), ([] : List S65), (((digs 2 (c :: s)).length : Nat) : Int)) = (1, ((valF 0 (digs 2 (c :: s)) : Nat) : Int), [], (((c :: s).length : Nat) : Int) - ((((c :: s).drop (digs 2 (c :: s)).length).length : Nat) : Int))
          rw [List.length_drop]
          congr 3; omega

theorem atoi_f (a : List UInt8) (h : a.length ≤ 2000000) : strconv_Atoi_63.f (B a) = some (atoiNum (B a), atoiErr (B a)) := if_pos (by rw [B_size]; omega)
theorem atoi_ds (ds : List UInt8) (h1 : ∀ c ∈ ds, isD c) (h2 : ds ≠ []) (hl : ds.length ≤ 10) : atoiNum (B ds) = ((valF 0 ds : Nat) : Int) ∧ atoiErr (B ds) = none := by
  have hv := val_le 10 ds h1 hl
  have ha := atoi_digits ds h1 h2 (Nat.le_trans (Nat.le_of_lt hv) (by decide))
  unfold atoiNum atoiErr
  rw [B_list, ha]
  exact ⟨rfl, rfl⟩
theorem digI (s : List UInt8) (hs : s.length ≤ 2000000) : ∀ (e i n : Nat), i + e = 3 → i ≤ s.length → n = i + (digs e (s.drop i)).length → Ev (fun k => impl_termRead.l0 k (B s) i) ((1 : Int), atoiNum (B (s.take n)), ([] : List S72), B (s.drop n), (atoiErr (B (s.take n))).isNone) := by
  have hsz : (B s).size = s.length := B_size s
  have leaf : ∀ i : Nat, i ≤ s.length → (if (i : Int) ≤ (((B s).size : Nat) : Int) then ((strconv_Atoi_63.f ((B s).extract 0 (i : Int).toNat)).bind fun bt140 => ((impl_variable.f bt140.1).bind fun bt142 => (if bt140.2.isNone = true then (some (bt142.1, bt142.2.1, bt142.2.2, (B s).extract (i : Int).toNat (B s).size, true)) else (some (bt142.1, bt142.2.1, bt142.2.2, (B s).extract (i : Int).toNat (B s).size, false))))) else (none)) = some ((1 : Int), atoiNum (B (s.take i)), ([] : List S72), B (s.drop i), (atoiErr (B (s.take i))).isNone) := by
    intro i hi
    have hv : ∀ x : Int, impl_variable.f x = some (1, x, []) := fun x => rfl
    rw [if_pos (by rw [hsz]; omega), Int.toNat_natCast, ext_take, ext_drop _ _ _ hsz, atoi_f _ (by rw [List.length_take]; omega), Option.bind_some, hv, Option.bind_some]
    by_cases hN : (atoiErr (B (s.take i))).isNone = true
    · rw [if_pos hN, hN]
    · rw [if_neg hN, Bool.eq_false_iff.mpr hN]
  intro e
  induction e with
  | zero =>
    intro i n hi hl hn
    have hn' : n = i := by rw [hn]; simp [digs]
    subst hn'
    refine Ev.step (f := fun _ => some ((1 : Int), atoiNum (B (s.take n)), ([] : List S72), B (s.drop n), (atoiErr (B (s.take n))).isNone)) (fun k => ?_) (Ev.now _)
    by_cases c : (n : Int) < (((B s).size : Nat) : Int)
    · rw [impl_termRead.l0, if_pos c, if_neg (by omega), if_pos (by omega), leaf n hl]
    · rw [impl_termRead.l0, if_neg c, if_pos (by omega), leaf n hl]
  | succ e ih =>
    intro i n hi hl hn
    by_cases c : (i : Int) < (((B s).size : Nat) : Int)
    · have hlt : i < s.length := by rw [hsz] at c; omega
      have hbt := bt_B s i hlt
      have c0 : 0 ≤ (i : Int) := by omega
      have c2 : (i : Int) < 3 := by omega
      have hw := NumL.next i s.length hlt (by omega)
      rw [List.drop_eq_getElem_cons hlt] at hn
      by_cases hD : isD s[i]
      · have h48 : bt (B s) (i : Int) ≥ 48 := by unfold isD at hD; omega
        have h57 : bt (B s) (i : Int) ≤ 57 := by unfold isD at hD; omega
        rw [digs, if_pos hD, List.length_cons] at hn
        exact Ev.step (fun k => by rw [impl_termRead.l0, if_pos c, if_pos c2, if_pos c0, if_pos h48, if_pos h57, hw]) (ih (i + 1) n (by omega) (by omega) (by omega))
      · rw [digs, if_neg hD] at hn
        have hn' : n = i := hn
        subst hn'
        refine Ev.step (f := fun _ => some ((1 : Int), atoiNum (B (s.take n)), ([] : List S72), B (s.drop n), (atoiErr (B (s.take n))).isNone)) (fun k => ?_) (Ev.now _)
        by_cases h48 : bt (B s) (n : Int) ≥ 48
        · have h57 : ¬ bt (B s) (n : Int) ≤ 57 := by unfold isD at hD; omega
          rw [impl_termRead.l0, if_pos c, if_pos c2, if_pos c0, if_pos h48, if_neg h57, leaf n hl]
        · rw [impl_termRead.l0, if_pos c, if_pos c2, if_pos c0, if_neg h48, leaf n hl]
    · have hd : s.drop i = [] := List.drop_eq_nil_of_le (by rw [hsz] at c; omega)
      rw [hd, digs] at hn
      have hn' : n = i := hn
      subst hn'
      refine Ev.step (f := fun _ => some ((1 : Int), atoiNum (B (s.take n)), ([] : List S72), B (s.drop n), (atoiErr (B (s.take n))).isNone)) (fun k => ?_) (Ev.now _)
      rw [impl_termRead.l0, if_neg c, if_pos (by omega), leaf n hl]
theorem cutp (x : UInt8) (r : List UInt8) : strings_CutPrefix.f (B r) (B [x]) = some (B ((eat x r).getD r), (eat x r).isSome) := by
  unfold strings_CutPrefix.f
  rw [B_list, B_list]
  show some (B (Lib.trimPrefix r [x]), Lib.hasPrefix r [x]) = _
  rw [(trim_eat x r).1, (trim_eat x r).2]
theorem getD_len (x : UInt8) (r : List UInt8) : ((eat x r).getD r).length ≤ r.length := by
  cases h : eat x r with
  | none => exact Nat.le_refl _
  | some r' => rw [eat_some h]; simp
def OutI (o : Option (Tr × List UInt8)) (x : S72) (r : List UInt8) (b : Bool) : Prop := (o = none ∧ b = false) ∨ (∃ t, o = some (t, r) ∧ x = toS t ∧ b = true)
theorem termRead_ev : ∀ (d : Nat) (s : List UInt8), d ≤ 40 → s.length ≤ 1048576 → ∃ (x : S72) (r : List UInt8) (b : Bool), r.length ≤ s.length ∧ Ev (fun k => impl_termRead.f k (B s) (41 - (d : Int))) (x.f0, x.f1, x.f2, B r, b) ∧ OutI (trd 3 d s) x r b := by
  intro d
  have bad : ∀ (s : ByteArray) (a : Int), Ev (fun k => impl_termRead.j0 k s a true) ((0 : Int), (0 : Int), ([] : List S72), B [], false) := fun s a => Ev.step (f := fun _ => some (0, 0, ([] : List S72), (⟨#[]⟩ : ByteArray), false)) (fun k => by rw [impl_termRead.j0, if_pos rfl]) (Ev.now _)
  induction d with
  | zero =>
    intro s hd hs
    refine ⟨⟨0, 0, []⟩, [], false, Nat.zero_le _, ?_, .inl ⟨rfl, rfl⟩⟩
    by_cases hn : (B s).toList = []
    · exact Ev.step (fun k => by rw [impl_termRead.f, if_pos hn]) (bad _ _)
    · have hg : decide ((41 - ((0 : Nat) : Int)) > 40) = true := by decide
      exact Ev.step (fun k => by rw [impl_termRead.f, if_neg hn, hg]) (bad _ _)
  | succ d ih =>
    intro s hd hs
    have hsz : (B s).size = s.length := B_size s
    have hw : wrap64 ((41 - ((d + 1 : Nat) : Int)) + 1) = 41 - (d : Int) := by rw [w64 (by omega) (by omega)]; omega
    cases s with
    | nil =>
      refine ⟨⟨0, 0, []⟩, [], false, Nat.zero_le _, ?_, .inl ⟨rfl, rfl⟩⟩
      exact Ev.step (fun k => by rw [impl_termRead.f, if_pos (show (B ([] : List UInt8)).toList = [] from toList_B [])]) (bad _ _)
    | cons c s =>
      have hs' : s.length + 1 ≤ 1048576 := hs
      have hn : ¬ (B (c :: s)).toList = [] := by rw [toList_B]; simp
      have hg : decide ((41 - ((d + 1 : Nat) : Int)) > 40) = false := decide_eq_false (by omega)
      have p0 : 0 < (((B (c :: s)).size : Nat) : Int) := by rw [hsz, List.length_cons]; omega
      have p1 : 1 ≤ (((B (c :: s)).size : Nat) : Int) := by omega
      have ex1 : (B (c :: s)).extract 1 (B (c :: s)).size = B s := by rw [ext_drop _ _ _ hsz]; rfl
      have start : ∀ {r : Int × Int × List S72 × ByteArray × Bool}, Ev (fun k => impl_termRead.j0 k (B (c :: s)) (41 - ((d + 1 : Nat) : Int)) false) r → Ev (fun k => impl_termRead.f k (B (c :: s)) (41 - ((d + 1 : Nat) : Int))) r := fun h => Ev.step (fun k => by rw [impl_termRead.f, if_neg hn, hg]) h
      by_cases h92 : c = 92
      · have b92 : bt (B (c :: s)) 0 = 92 := by rw [bt0, h92]; rfl
        obtain ⟨x, r, b, hr, hE, hO⟩ := ih s (by omega) (by omega)
        refine ⟨⟨2, 0, [x]⟩, r, b, by rw [List.length_cons]; omega, start (Ev.step (f := fun k => (impl_termRead.f k (B s) (41 - (d : Int))).bind fun bt102 => ((impl_lam.f bt102.1 bt102.2.1 bt102.2.2.1).bind fun bt110 => (some (bt110.1, bt110.2.1, bt110.2.2, bt102.2.2.2.1, bt102.2.2.2.2)))) (fun k => by rw [impl_termRead.j0, if_neg (by decide), if_pos p0, if_pos b92, if_pos p1, ex1, hw]) (Ev.bind hE (Ev.of_eq (Ev.now _) ?_))), ?_⟩
        · show ((2 : Int), (0 : Int), [(⟨x.f0, x.f1, x.f2⟩ : S72)], B r, b) = (2, 0, [x], B r, b)
          cases x; rfl
        · rw [trd, if_pos h92]
          rcases hO with ⟨h1, h2⟩ | ⟨t, h1, h2, h3⟩
          · rw [h1]; exact .inl ⟨rfl, h2⟩
          · rw [h1]; exact .inr ⟨.un 2 0 t, rfl, by rw [h2]; rfl, h3⟩
      have b92 : ¬ bt (B (c :: s)) 0 = 92 := by rw [bt0]; exact bt_ne h92
      by_cases h40 : c = 40
      · have b40 : bt (B (c :: s)) 0 = 40 := by rw [bt0, h40]; rfl
        obtain ⟨x, r, b, hr, hE, hO⟩ := ih s (by omega) (by omega)
        have hl1 := getD_len 32 r
        obtain ⟨y, r2, b2, hr2, hE2, hO2⟩ := ih ((eat 32 r).getD r) (by omega) (by omega)
        have hl2 := getD_len 41 r2
        refine ⟨⟨3, 0, [x, y]⟩, (eat 41 r2).getD r2, b && (eat 32 r).isSome && b2 && (eat 41 r2).isSome, by rw [List.length_cons]; omega, start (Ev.step (fun k => by rw [impl_termRead.j0, if_neg (by decide), if_pos p0, if_neg b92, if_pos b40, if_pos p1, ex1, hw]) (Ev.bind hE ?_)), ?_⟩
        · refine Ev.bind (Ev.const (cutp 32 r)) (Ev.bind hE2 (Ev.bind (Ev.const (cutp 41 r2)) (Ev.bind (Ev.now ((3 : Int), (0 : Int), [(⟨x.f0, x.f1, x.f2⟩ : S72), (⟨y.f0, y.f1, y.f2⟩ : S72)])) ?_)))
          have ex : ([(⟨x.f0, x.f1, x.f2⟩ : S72), (⟨y.f0, y.f1, y.f2⟩ : S72)] : List S72) = [x, y] := by cases x; cases y; rfl
          rw [ex]
          cases b with
          | false => exact Ev.ite_neg Bool.false_ne_true (Ev.now _)
          | true =>
            refine Ev.ite_pos rfl ?_
            cases hs1 : (eat 32 r).isSome with
            | false => exact Ev.ite_neg Bool.false_ne_true (Ev.now _)
            | true =>
              refine Ev.ite_pos rfl ?_
              cases b2 with
              | false => exact Ev.ite_neg Bool.false_ne_true (Ev.now _)
              | true => exact Ev.ite_pos rfl (Ev.now _)
        · rw [trd, if_neg h92, if_pos h40]
          rcases hO with ⟨h1, h2⟩ | ⟨t, h1, h2, h3⟩
          · rw [h1, h2]; exact .inl ⟨rfl, rfl⟩
          rw [h1, h3, Option.bind_some]
          cases he : eat 32 r with
          | none => exact .inl ⟨rfl, rfl⟩
          | some r1 =>
            rw [he] at hO2
            rw [Option.bind_some]
            rcases hO2 with ⟨g1, g2⟩ | ⟨u, g1, g2, g3⟩
            · rw [show trd 3 d r1 = none from g1, g2]; exact .inl ⟨rfl, rfl⟩
            rw [show trd 3 d r1 = some (u, r2) from g1, g3, Option.bind_some]
            cases he2 : eat 41 r2 with
            | none => exact .inl ⟨rfl, rfl⟩
            | some r3 => exact .inr ⟨.bin 3 0 t u, rfl, by rw [h2, g2]; rfl, rfl⟩
      · have b40 : ¬ bt (B (c :: s)) 0 = 40 := by rw [bt0]; exact bt_ne h40
        have hdl := digs_len 3 (c :: s)
        have hE := digI (c :: s) (by omega) 3 0 (digs 3 (c :: s)).length rfl (by simp) (by simp)
        have htk : (c :: s).take (digs 3 (c :: s)).length = digs 3 (c :: s) := by
          have := digs_pre 3 (c :: s)
          conv => lhs; arg 2; rw [this]
          rw [List.take_left]
        rw [htk] at hE
        refine ⟨⟨1, atoiNum (B (digs 3 (c :: s))), []⟩, (c :: s).drop (digs 3 (c :: s)).length, (atoiErr (B (digs 3 (c :: s)))).isNone, by rw [List.length_drop]; omega, start (Ev.step (fun k => by rw [impl_termRead.j0, if_neg (by decide), if_pos p0, if_neg b92, if_neg b40]; rfl) hE), ?_⟩
        rw [trd, if_neg h92, if_neg h40]
        by_cases hd0 : digs 3 (c :: s) = []
        · rw [if_pos hd0, hd0]; exact .inl ⟨rfl, rfl⟩
        · rw [if_neg hd0]
          obtain ⟨q1, q2⟩ := atoi_ds _ (digs_all 3 (c :: s)) hd0 (by omega)
          rw [q1, q2]
          exact .inr ⟨_, rfl, rfl, rfl⟩

theorem form_mono {m m' : Nat} (h : m ≤ m') : ∀ {t : Tr}, TForm m t → TForm m' t
  | .leaf _ _, ht => ⟨ht.1, ht.2.1, by have := ht.2.2; omega⟩
  | .un _ _ _, ht => ⟨ht.1, ht.2.1, form_mono h ht.2.2⟩
  | .bin _ _ _ _, ht => ⟨ht.1, ht.2.1, form_mono h ht.2.2.1, form_mono h ht.2.2.2⟩
theorem form_wf {m : Nat} : ∀ {t : Tr}, TForm m t → t.wf ar
  | .leaf _ _, ht => by obtain ⟨rfl, _⟩ := ht; exact ⟨⟨by decide, by decide⟩, rfl⟩
  | .un _ _ _, ht => by obtain ⟨rfl, _, h⟩ := ht; exact ⟨⟨⟨by decide, by decide⟩, rfl⟩, form_wf h⟩
  | .bin _ _ _ _, ht => by obtain ⟨rfl, _, h1, h2⟩ := ht; exact ⟨⟨⟨by decide, by decide⟩, rfl⟩, form_wf h1, form_wf h2⟩
theorem form_of {t : Tr} {m : Nat} (hf : TForm m t) : t.all numOk → TForm 100 t := by
  induction t with
  | leaf k n => intro h; exact ⟨hf.1, hf.2.1, by have := h.2.1; omega⟩
  | un k n a ih => intro h; exact ⟨hf.1, hf.2.1, ih hf.2.2 h.2⟩
  | bin k n a b iha ihb => intro h; exact ⟨hf.1, hf.2.1, iha hf.2.2.1 h.2.1, ihb hf.2.2.2 h.2.2⟩
theorem specRead (s : List UInt8) (h : s.length ≤ 1048576) : (∃ t, TForm 100 t ∧ Good t ∧ s = ttxt t ∧ Ev (fun k => spec_ReadTerm.f k (B s)) (tnodes t, true)) ∨ ((¬ ∃ t, TForm 100 t ∧ Good t ∧ s = ttxt t) ∧ Ev (fun k => spec_ReadTerm.f k (B s)) (([] : List S67), false)) := by
  have hE := lcRead_ev 40 s (by omega) h
  have hE1 : Ev (fun k => spec_lcRead.f k (B s) 1) (outS s (trd 2 40 s)) := hE
  have hsz : (B s).size = s.length := B_size s
  have back : ∀ t, TForm 100 t → Good t → s = ttxt t → trd 2 40 s = some (t, []) := fun t h1 h2 h3 => by
    have := trd_text 2 (by omega) t 40 [] h1 h2.2.1 noD_nil
    rwa [List.append_nil, ← h3] at this
  unfold spec_ReadTerm.f
  cases hq : trd 2 40 s with
  | none =>
    rw [hq] at hE1
    refine .inr ⟨?_, Ev.bind hE1 (Ev.ite_pos rfl (Ev.now _))⟩
    rintro ⟨t, h1, h2, h3⟩
    rw [back t h1 h2 h3] at hq; cases hq
  | some p =>
    obtain ⟨t, r⟩ := p
    rw [hq] at hE1
    have hlen := outS_len hq
    obtain ⟨f1, f2, f3, f4⟩ := trd_sound 2 40 s t r hq
    have nz : ¬ ((s.length : Int) - (r.length : Int)) = 0 := by omega
    cases r with
    | cons y r =>
      refine .inr ⟨?_, Ev.bind hE1 (Ev.ite_neg nz (Ev.ite_neg (show ¬ ((s.length : Int) - ((y :: r).length : Int)) = (((B s).size : Nat) : Int) by rw [hsz, List.length_cons]; omega) (Ev.now _)))⟩
      rintro ⟨t', h1, h2, h3⟩
      rw [back t' h1 h2 h3] at hq; cases hq
    | nil =>
      have hl : (ttxt t).length ≤ 9000000 := by rw [List.length_nil] at f2; omega
      obtain ⟨tE, _⟩ := text_ev t (form_mono (by decide) f1) hl
      obtain ⟨b, hb, hT⟩ := toldS t (form_wf f1)
      have hlen0 : ((s.length : Int) - (([] : List UInt8).length : Int)) = (((B s).size : Nat) : Int) := by rw [hsz, List.length_nil]; omega
      by_cases ht : ttxt t = s
      · have hT' : Ev (fun k => spec_ReadTerm.f k (B s)) (if b = true then tnodes t else [], b) := by
          unfold spec_ReadTerm.f
          exact Ev.bind hE1 (Ev.ite_neg nz (Ev.ite_pos hlen0 (Ev.bind tE (Ev.ite_pos (show (B (ttxt t)).toList = (B s).toList by rw [ht]) (Ev.bind hT (Ev.now _))))))
        by_cases hbt : b = true
        · rw [if_pos hbt, hbt] at hT'
          exact .inl ⟨t, form_of f1 (hb.mp hbt).2.2, hb.mp hbt, ht.symm, hT'⟩
        · rw [if_neg hbt, Bool.eq_false_iff.mpr hbt] at hT'
          refine .inr ⟨?_, hT'⟩
          rintro ⟨t', h1, h2, h3⟩
          rw [back t' h1 h2 h3] at hq
          injection hq with hq
          injection hq with hq _
          subst hq
          exact hbt (hb.mpr h2)
      · refine .inr ⟨?_, Ev.bind hE1 (Ev.ite_neg nz (Ev.ite_pos hlen0 (Ev.bind tE (Ev.ite_neg (show ¬ (B (ttxt t)).toList = (B s).toList by rw [toList_B, toList_B]; exact ht) (Ev.now _)))))⟩
        rintro ⟨t', h1, h2, h3⟩
        rw [back t' h1 h2 h3] at hq
        injection hq with hq
        injection hq with hq _
        subst hq
        exact ht h3.symm
theorem implRead (s : List UInt8) (h : s.length ≤ 1048576) : (∃ t, TForm 100 t ∧ Good t ∧ s = ttxt t ∧ Ev (fun k => impl_ReadTerm.f k (B s)) (tnodes t, true)) ∨ ((¬ ∃ t, TForm 100 t ∧ Good t ∧ s = ttxt t) ∧ Ev (fun k => impl_ReadTerm.f k (B s)) (([] : List S67), false)) := by
  have hsz : (B s).size = s.length := B_size s
  have back : ∀ t, TForm 100 t → Good t → s = ttxt t → trd 3 40 s = some (t, []) := fun t h1 h2 h3 => by
    have := trd_text 3 (by omega) t 40 [] h1 h2.2.1 noD_nil
    rwa [List.append_nil, ← h3] at this
  by_cases hbig : (((B s).size : Nat) : Int) > 600
  · refine .inr ⟨?_, Ev.congr (fun k => by unfold impl_ReadTerm.f; rw [if_pos hbig]) (Ev.now _)⟩
    rintro ⟨t, h1, h2, h3⟩
    have := ttxt_len t h1
    have h4 := h2.1
    rw [hsz, h3] at hbig; omega
  obtain ⟨x, r, b, hr, hE, hO⟩ := termRead_ev 40 s (by omega) h
  have hE1 : Ev (fun k => impl_termRead.f k (B s) 1) (x.f0, x.f1, x.f2, B r, b) := hE
  have start : ∀ {o : List S67 × Bool}, Ev (fun k => (impl_termRead.f k (B s) 1).bind fun bt101 => (if bt101.2.2.2.2 = true then (if bt101.2.2.2.1.toList = ([] : List UInt8) then ((impl_term_text.f k bt101.1 bt101.2.1 bt101.2.2.1).bind fun t109 => (if t109.toList = (B s).toList then ((impl_term_goodNodes.f k bt101.1 bt101.2.1 bt101.2.2.1).bind fun bt110 => (some (bt110.1, bt110.2))) else (some (([] : List S67), false)))) else (some (([] : List S67), false))) else (some (([] : List S67), false)))) o → Ev (fun k => impl_ReadTerm.f k (B s)) o := fun hh => Ev.congr (fun k => by unfold impl_ReadTerm.f; rw [if_neg hbig]) hh
  rcases hO with ⟨h1, h2⟩ | ⟨t, h1, h2, h3⟩
  · subst h2
    refine .inr ⟨?_, start (Ev.bind hE1 (Ev.ite_neg Bool.false_ne_true (Ev.now _)))⟩
    rintro ⟨t, g1, g2, g3⟩
    rw [back t g1 g2 g3] at h1; cases h1
  · subst h3
    subst h2
    obtain ⟨f1, f2, f3, f4⟩ := trd_sound 3 40 s t r h1
    by_cases hr0 : r = []
    · subst hr0
      have hl : (ttxt t).length ≤ 9000000 := by rw [List.length_nil] at f2; omega
      have hs6 : t.size ≤ 4000 := by rw [hsz] at hbig; omega
      obtain ⟨_, tE⟩ := text_ev t (form_mono (by decide) f1) hl
      obtain ⟨bb, hb, hT⟩ := toldI t hs6
      by_cases ht : ttxt t = s
      · have hT' : Ev (fun k => impl_ReadTerm.f k (B s)) (if bb = true then tnodes t else [], bb) :=
          start (Ev.bind hE1 (Ev.ite_pos rfl (Ev.ite_pos (show (B ([] : List UInt8)).toList = [] from toList_B []) (Ev.bind tE (Ev.ite_pos (show (B (ttxt t)).toList = (B s).toList by rw [ht]) (Ev.bind hT (Ev.now _)))))))
        by_cases hbt : bb = true
        · rw [if_pos hbt, hbt] at hT'
          exact .inl ⟨t, form_of f1 (hb.mp hbt).2.2, hb.mp hbt, ht.symm, hT'⟩
        · rw [if_neg hbt, Bool.eq_false_iff.mpr hbt] at hT'
          refine .inr ⟨?_, hT'⟩
          rintro ⟨t', g1, g2, g3⟩
          rw [back t' g1 g2 g3] at h1
          injection h1 with h1
          injection h1 with h1 _
          subst h1
          exact hbt (hb.mpr g2)
      · refine .inr ⟨?_, start (Ev.bind hE1 (Ev.ite_pos rfl (Ev.ite_pos (show (B ([] : List UInt8)).toList = [] from toList_B []) (Ev.bind tE (Ev.ite_neg (show ¬ (B (ttxt t)).toList = (B s).toList by rw [toList_B, toList_B]; exact ht) (Ev.now _))))))⟩
        rintro ⟨t', g1, g2, g3⟩
        rw [back t' g1 g2 g3] at h1
        injection h1 with h1
        injection h1 with h1 _
        subst h1
        exact ht g3.symm
    · refine .inr ⟨?_, start (Ev.bind hE1 (Ev.ite_pos rfl (Ev.ite_neg (show ¬ (B r).toList = [] by rw [toList_B]; exact hr0) (Ev.now _))))⟩
      rintro ⟨t', g1, g2, g3⟩
      rw [back t' g1 g2 g3] at h1
      injection h1 with h1
      injection h1 with _ h1
      exact hr0 h1.symm
theorem ttxt_inj {t u : Tr} (ht : TForm 100 t) (gt : Good t) (hu : TForm 100 u) (gu : Good u) (h : ttxt t = ttxt u) : t = u := by
  have h1 := trd_text 3 (by omega) t 40 [] ht gt.2.1 noD_nil
  have h2 := trd_text 3 (by omega) u 40 [] hu gu.2.1 noD_nil
  rw [h, h2] at h1
  injection h1 with h1
  injection h1 with h1 _
  exact h1.symm
theorem readBoth (s : List UInt8) (h : s.length ≤ 1048576) : ∃ (l : List S67) (b : Bool), l.length ≤ 150 ∧ Ev (fun k => spec_ReadTerm.f k (B s)) (l, b) ∧ Ev (fun k => impl_ReadTerm.f k (B s)) (l, b) := by
  rcases specRead s h with ⟨t, h1, h2, h3, hE⟩ | ⟨h1, hE⟩
  · rcases implRead s h with ⟨u, g1, g2, g3, gE⟩ | ⟨g1, gE⟩
    · obtain rfl := ttxt_inj h1 h2 g1 g2 (h3.symm.trans g3)
      exact ⟨tnodes t, true, by rw [tnodes_len]; exact h2.1, hE, gE⟩
    · exact absurd ⟨t, h1, h2, h3⟩ g1
  · rcases implRead s h with ⟨u, g1, g2, g3, gE⟩ | ⟨g1, gE⟩
    · exact absurd ⟨u, g1, g2, g3⟩ h1
    · exact ⟨[], false, by simp, hE, gE⟩
end Go.Proofs.YtcjhhdecckcibaaDoor.TermL

namespace Go.Proofs.YtcjhhdecckcibaaDoor.Pure
open Go.RowKit Go.Proofs.YtcjhhdecckcibaaDoor.G Go.Proofs.YtcjhhdecckcibaaDoor.EvL Go.Proofs.YtcjhhdecckcibaaDoor.TermL Go.Proofs.YtcjhhdecckcibaaDoor.TxtL Go.Proofs.YtcjhhdecckcibaaDoorW.PrintWords Go.Proofs.YtcjhhdecckcibaaDoorW.PrintLast
theorem FnExactReadTerm : laws_FnExactReadTerm.Pure := by
  intro a0 ha0
  refine Ev.rounds ?_
  unfold laws_FnExactReadTerm.f
  by_cases hbig : ((a0.size : Nat) : Int) > 1048576
  · exact Ev.ite_pos hbig (Ev.now _)
  obtain ⟨l, b, hl, hS, hI⟩ := readBoth a0.data.toList (by rw [len]; omega)
  rw [B_of] at hS hI
  have hEq := eqTerms l (by omega)
  have hM := markTerms l (by omega)
  have hH := heldTerms l (by omega)
  have hb : (b != b) = false := by simp
  have hneg : ¬ (1 + 3 * (l.length : Int)) < 0 := by omega
  refine Ev.ite_neg hbig (Ev.bind hS (Ev.bind hI (Ev.bind hEq (Ev.ite_pos rfl (Ev.succ ?_)))))
  rw [hb]
  refine Ev.congr (f := fun k => (laws_markTermS.f k l 1).bind fun bt110 => (laws_heldTermS.f k bt110.2 1).bind fun t112 => if t112 < 0 then some false else if t112 = bt110.1 then (impl_ReadTerm.f k a0).bind fun bt113 => (laws_eqTermS.f k bt113.1 l).bind fun t117 => if t117 = true then laws_FnExactReadTerm.j1 k bt110.2 bt110.1 (bt113.2 != b) else laws_FnExactReadTerm.j1 k bt110.2 bt110.1 true else some false) (fun k => by rw [laws_FnExactReadTerm.j0, if_neg (by decide)]) ?_
  refine Ev.bind hM (Ev.bind hH (Ev.ite_neg hneg (Ev.ite_pos rfl (Ev.bind hI (Ev.bind hEq (Ev.ite_pos rfl (Ev.succ ?_)))))))
  refine Ev.congr (f := fun k => (laws_heldTermS.f k (markC l) 1).bind fun t118 => if t118 < 0 then some false else if t118 = 1 + 3 * (l.length : Int) then some true else some false) (fun k => by rw [hb, laws_FnExactReadTerm.j1, if_neg (by decide)]) ?_
  exact Ev.bind hH (Ev.ite_neg hneg (Ev.ite_pos rfl (Ev.now _)))
end Go.Proofs.YtcjhhdecckcibaaDoor.Pure

namespace Go.Proofs.YtcjhhdecckcibaaDoor.fnExactReadTerm
open Go.ChangeShapes Go.WideShapes Go.ChangeAt Go.RowKit Go.Proofs.YtcjhhdecckcibaaDoor.G Go.Proofs.YtcjhhdecckcibaaDoorW.PrintWords
open Go.ChangeMaps (open_string shut_string)
set_option linter.unusedVariables false
theorem own : ownKnob Tryd.prog.godebug = none := by kernel_rfl
theorem laidShaped {H : Type} {enc : TypeId × Value → H} {a : Assume} {C : Checked} {os : Os} {f : FuncId} {fn : Func} {s : ChangeSpec} {conds : List PathCond} {apart fresh handsOn again : Bool} {X : World → Array Value → Prop}
    (hX : ∀ (w w' : World) (args : Array Value), w.heap = w'.heap → X w args → X w' args)
    (own : ownKnob C.prog.godebug = none) (started : os.Started) (noInit : C.prog.inits.idxOf? f = none) (hfn : C.prog.funcs[f]? = some fn)
    (witness : ∃ (w : World) (tape : Tape) (i : Input), w.os = os ∧ (w.forCall tape i).Shaped C.prog ∧ i.vars = [] ∧ Input.okWide C.prog (w.forCall tape i) .any w.heap.size f i ∧
      ((s.pre enc C.prog fn conds apart (w.forCall tape i).memory i.args ∧ X (w.forCall tape i).memory i.args) ∧ sizedMet enc C.prog fn (OpenSpec.ofChange s) apart (w.forCall tape i).memory i.args) ∧ a.holds C.prog (lone (Frame.enter C.prog f i.args .normal) [] (w.forCall tape i)))
    (contract : ∀ (W : World) (base : Nat) (args : Array Value) (ds gs : List (DataW H)) (before : List MemPlace),
      (∀ (j : Nat) t v, fn.params[j]? = some t → args[j]? = some v → Value.okWide C.prog W .any base t v) →
      DataW.Whole enc C.prog fn.params.toList s.vars apart W args.toList ds gs before →
      conds.all (PathCond.test C.prog ⟨fn.params.toList, ds, s.plain.varTypes C.prog, gs⟩) = true →
      (DataW.weightsEach C.prog (fn.params.toList ++ s.plain.varTypes C.prog) (ds ++ gs)).all (· ≤ reachBytes) = true → X W args → W.ShapedOpen C.prog →
      Calls C.prog f args W fun e W' => ∃ v, e = .returned v ∧ s.post enc C.prog fn apart fresh handsOn again W args v W') :
    ReturnsInHanded a C os f .any (fun w args => (s.pre enc C.prog fn conds apart w args ∧ X w args) ∧ sizedMet enc C.prog fn (OpenSpec.ofChange s) apart w args) (s.post enc C.prog fn apart fresh handsOn again) := by
  refine returnsInHanded_of_calls own started noInit witness ?_
  intro w tape i _ hsh _ hok hpre _
  obtain ⟨_, _, _, fn', hfn', _, _, _, _, hval⟩ := hok
  obtain rfl : fn' = fn := Option.some.inj (hfn'.symm.trans hfn)
  obtain ⟨⟨⟨ds, gs, before, hw, hc⟩, hx⟩, hz⟩ := hpre
  refine (contract _ w.heap.size i.args ds gs before hval (DataW.Whole.of_heap (w' := w.forCall tape i) (by rfl) hw) hc (hz.weights hw) (hX _ _ _ (by rfl) hx) hsh).mono fun e W' h => ?_
  obtain ⟨v, rfl, hp⟩ := h
  exact ChangeSpec.post_blind hp
theorem tab_of {W : World} {rest : List (String × DataW Unit)} (h : laidMet Tryd.prog (("internal/strconv.uint64pow10", Rows.laid_internal_strconv_uint64pow10) :: rest) W) : Tab W :=
  Lib.tabIs_of_head (k := .u64) (zs := Lib.pow10Tab) (g := 2) (t := 151) (e := 136) (n := 20) (by kernel_rfl) (by kernel_rfl) (by kernel_rfl) (by kernel_rfl) (by kernel_rfl) (by kernel_rfl) h
theorem star : "*" ++ "errors.errorString" = "*errors.errorString" := by decide
theorem row_err (u : TypeId) (h : Tryd.prog.typeName? 3 u = some "*errors.errorString") : u = 158 :=
  typeName_ptr_named (nm := "errors.errorString") (by rw [star]; kernel_rfl) (by kernel_rfl) (by decide) u (by rw [star]; exact h)
theorem synOf {W : World} {rest : List (String × DataW Unit)} (h : laidMet Tryd.prog (("strconv.ErrSyntax", Rows.laid_strconv_ErrSyntax) :: rest) W) : ∃ tp p, W.var? Tryd.prog "strconv.ErrSyntax" = some #[.iface tp p] := by
  obtain ⟨a, s, hv, _⟩ := laid_sentinel h (g := 0) (ti := 107) (tp := 158) (te := 160) (ts := 9) (by kernel_rfl) (by kernel_rfl) Tryd.underlying107 row_err Tryd.underlying158 Tryd.underlying160 rfl rfl Tryd.underlying9 (by kernel_rfl) (by kernel_rfl)
  exact ⟨_, _, hv⟩
theorem rngOf {W : World} {rest : List (String × DataW Unit)} (h : laidMet Tryd.prog (("strconv.ErrRange", Rows.laid_strconv_ErrRange) :: rest) W) : ∃ tp p, W.var? Tryd.prog "strconv.ErrRange" = some #[.iface tp p] := by
  obtain ⟨a, s, hv, _⟩ := laid_sentinel h (g := 1) (ti := 107) (tp := 158) (te := 160) (ts := 9) (by kernel_rfl) (by kernel_rfl) Tryd.underlying107 row_err Tryd.underlying158 Tryd.underlying160 rfl rfl Tryd.underlying9 (by kernel_rfl) (by kernel_rfl)
  exact ⟨_, _, hv⟩
set_option maxRecDepth 100000 in
theorem lifted (os : Os) (started : os.Started) (H : Type) (enc : TypeId × Value → H) :
    ReturnsInHanded {} Tryd.checked os 6 .any (fun w args => (Rows.fnExactReadTermSpec.pre enc Tryd.prog Tryd.f6 Rows.fnExactReadTermRow.domain false w args ∧ laidMetH Tryd.prog Rows.fnExactReadTermRow.laid w) ∧ sizedMet enc Tryd.prog Tryd.f6 (OpenSpec.ofChange Rows.fnExactReadTermSpec) false w args) (Rows.fnExactReadTermSpec.post enc Tryd.prog Tryd.f6 false true false false) := by
  refine laidShaped (C := Tryd.checked) (X := fun w _ => laidMetH Tryd.prog Rows.fnExactReadTermRow.laid w) (fun _ _ _ hh h => h.of_heap hh) own started (by kernel_rfl) Tryd.func6
    (ChangeSpec.witness_shaped (enc := enc) (C := Tryd.checked) (os := os) (X := fun w _ => laidMetH Tryd.prog Rows.fnExactReadTermRow.laid w) false (World.laidAll Tryd.prog os Rows.fnExactReadTermRow.laid) #[.string ByteArray.empty] 8 (World.laidAll_os _ _ _)
      (World.shaped_of_ZipB (by kernel_rfl) (by kernel_rfl)) (by kernel_rfl) (by kernel_rfl) (by kernel_rfl)
      (by rw [MakeChecks.laidMetH_plain _ _ _ (by kernel_rfl)]; exact laidMet_laidAll _ (by kernel_rfl) (by kernel_rfl))) ?_
  intro W base args ds gs before hval0 hW hcnd hsz0 hX1 hsh
  have hsz : (DataW.weightsEach Tryd.prog (Tryd.f6.params.toList ++ Rows.fnExactReadTermSpec.plain.varTypes Tryd.prog) (ds ++ gs)).all (· ≤ reachBytes) = true := hsz0
  have hval : ∀ (j : Nat) t v, Tryd.f6.params[j]? = some t → args[j]? = some v → Value.okWide Tryd.prog W .any base t v := hval0
  have hW' := hW
  obtain ⟨p, q, hA0, hV, rfl, hfz, hnd⟩ := hW
  have hA : DataW.TrodAll enc Tryd.prog W 0 (fun _ => true) true Tryd.f6.params.toList args.toList ds p := hA0
  rw [Tryd.params6] at hA hval hsz
  obtain ⟨v0, vs0, d0, ds0, p0, q0, hargs, rfl, rfl, h0, r0⟩ := trodAll_cons hA
  obtain ⟨rfl, rfl, rfl⟩ := trodAll_nil r0
  obtain rfl : args = #[v0] := by cases args; simp_all
  obtain ⟨rfl, rfl⟩ := trodVars_none hV
  obtain ⟨a0, rfl, rfl, rfl, y0⟩ := open_string Tryd.underlying9 (hval 0 9 v0 rfl rfl) h0
  have w0 : a0.size ≤ 140737488351232 := by
    have z := sized_string hsz (j := 0) (t := 9) rfl rfl
    rw [Array.length_toList] at z
    exact z
  clear hA0 hval0 hsz0 hsz
  obtain ⟨k_, hk_⟩ := Pure.FnExactReadTerm a0 w0
  have hL : laidMet Tryd.prog Rows.fnExactReadTermRow.laid W := by
    rw [← MakeChecks.laidMetH_plain _ _ _ (by kernel_rfl)]; exact hX1
  have hE : G.Met W := ⟨(tab_of (laidMet.tail (laidMet.tail hL))), ⟨(synOf (laidMet.tail (laidMet.tail (laidMet.tail (laidMet.tail hL))))), (rngOf (laidMet.tail (laidMet.tail (laidMet.tail hL))))⟩⟩
  refine (laws_FnExactReadTerm.calls k_ a0 true W  hk_ hE).mono fun e W' ⟨he, bel0⟩ => ?_
  have bel : Below W.heap.size W W' := bel0
  subst he
  exact ⟨_, rfl, _, _, _, [], _, [], hW', trodAll_mk1 (shut_bool Tryd.underlying4 _), (trodAll_cons_mk (shut_string Tryd.underlying9 y0) trodAll_mk0), rfl, bel.frame _, fun h => by cases h⟩
theorem over : Rows.FnExactReadTermSaid :=
  OpenClaim.holds_of_wide 6 Tryd.f6 rfl rfl rfl rfl rfl rfl rfl ⟨rfl, rfl, rfl, rfl, rfl⟩ rfl rfl rfl rfl rfl (by kernel_rfl) Tryd.func6 (by kernel_rfl)
    (of_decide_eq_true (by kernel_rfl)) (by unfold Func.isWrapper; first | (rw [if_pos (by decide +kernel)]; kernel_rfl) | (rw [if_neg (by decide +kernel)]; exact ⟨rfl, rfl⟩))
    (fun os started H enc _ => lifted os started H enc)
theorem proved : Rows.FnExactReadTermCardSaid :=
  Claim7.holds_tied_plain_at .later [] [.data, .data, .data, .sentinel, .sentinel] true (true, "b2e2a58b97a697acf1a696e6eab1d943ef166cfcc3a0def1cd198d3ebdec561e") true
    over (fun _ h => by cases h) (by kernel_rfl) (fun _ h => by cases h) fnExactReadTerm_row_tie rfl ⟨rfl, rfl⟩ (by kernel_rfl) rfl
    (fun f fn hf hfn => by
      obtain rfl : f = 6 := Option.some.inj ((show Tryd.prog.funcNamed "loop.example/g00201/laws.FnExactReadTerm" = some 6 by kernel_rfl).symm.trans hf) |>.symm
      obtain rfl : fn = Tryd.f6 := (Option.some.inj (Tryd.func6.symm.trans hfn)).symm
      exact ⟨by kernel_rfl, fun j t ht => by
        rw [Tryd.params6] at ht
        have hm : t ∈ [9] := by simpa using Array.mem_of_getElem? ht
        have hall : ([9].all fun u => !Tryd.prog.wantsStandIn u) = true := by kernel_rfl
        exact (show Tryd.prog.wantsStandIn t = false by simpa using List.all_eq_true.1 hall t hm)⟩)
    (by kernel_rfl)
#print axioms proved
end Go.Proofs.YtcjhhdecckcibaaDoor.fnExactReadTerm
namespace Go.Proofs.YtcjhhdecckcibaaDoor
theorem fnExactReadTerm_holds : Rows.FnExactReadTermCardSaid := fnExactReadTerm.proved
end Go.Proofs.YtcjhhdecckcibaaDoor
