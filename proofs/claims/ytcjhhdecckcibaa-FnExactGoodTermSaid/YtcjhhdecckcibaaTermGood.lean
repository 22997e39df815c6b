/- What the printed functions on terms told by nodes tell, in plain words: the copies that a law makes, and which terms are good. No condition but those each lemma names. -/
import Derived.Test.YtcjhhdecckcibaaF16
import Derived.Test.YtcjhhdecckcibaaF18
import Derived.Test.YtcjhhdecckcibaaF17
import Derived.Test.YtcjhhdecckcibaaF19
import Derived.Test.YtcjhhdecckcibaaF20
import Derived.Test.YtcjhhdecckcibaaEv
import Derived.Test.YtcjhhdecckcibaaTreeMath
namespace Go.Proofs.Ytcjhhdecckcibaa.TermL
open Go.RowKit Go.Proofs.Ytcjhhdecckcibaa.G Go.Proofs.Ytcjhhdecckcibaa.EvL Go.Proofs.Ytcjhhdecckcibaa.TreeM Go.Proofs.YtcjhhdecckcibaaW.PrintWords Go.Proofs.YtcjhhdecckcibaaW.PrintLast
set_option linter.unusedVariables false

def conv (c : S65) : S62 := ⟨c.f0, c.f1, c.f2⟩
def nd (c : S62) : Nd := ⟨c.f0, c.f1, c.f2⟩
theorem rdC (l : List S62) (i : Nat) : rd_T62 l (i : Int) = l.getD i z62 := by unfold rd_T62; rw [Int.toNat_natCast]
theorem rdL (l : List S65) (i : Nat) : rd_T65 l (i : Int) = l.getD i z65 := by unfold rd_T65; rw [Int.toNat_natCast]
theorem next (i : Nat) {n : Nat} (h : i < n) (hn : n ≤ 9223372036854775807) : wrap64 ((i : Int) + 1) = ((i + 1 : Nat) : Int) := by rw [w64 (by omega) (by omega)]; omega
theorem getD_nd (l : List S62) (i : Nat) : (l.map nd).getD i z = nd (l.getD i z62) := by
  rw [List.getD_eq_getElem?_getD, List.getD_eq_getElem?_getD, List.getElem?_map]
  cases l[i]? <;> rfl
theorem up_nd (l : List S62) (i : Nat) : (l.getD i z62).f2 = TreeM.up (l.map nd) i := by unfold TreeM.up; rw [getD_nd]; rfl

theorem toTerms (l : List S65) (hl : l.length ≤ 1048576) : Ev (fun k => laws_toTermS.f k l) (l.map conv) := by
  unfold laws_toTermS.f
  refine Ev.ite_pos (by omega) (Ev.ite_pos (by omega) ?_)
  rw [Int.toNat_natCast]
  refine Ev.of_eq (ev_fill (fun k acc i => laws_toTermS.l0 k l acc i) l.length (fun j => conv (l.getD j z65)) ?_ ?_ l.length 0 (List.replicate l.length z62) (by omega) (by simp)) ?_
  · intro k acc i hi hacc
    simp only [laws_toTermS.l0, laws_toTerm.f, Option.bind_some]
    rw [if_pos (by omega), if_pos (by omega), if_pos (by omega), next i hi (by omega), rdL, Int.toNat_natCast]
    rfl
  · intro k acc hacc
    simp only [laws_toTermS.l0]
    rw [if_neg (by omega)]
  · rw [List.take_zero, List.nil_append]
    simp only [Nat.zero_add]
    rw [show (List.range l.length).map (fun j => conv (l.getD j z65)) = ((List.range l.length).map fun j => l.getD j z65).map conv by rw [List.map_map]; rfl, range_getD]

theorem eqTerms (a : List S62) (ha : a.length ≤ 9223372036854775807) : Ev (fun k => laws_eqTermS.f k a a) true := by
  unfold laws_eqTermS.f
  refine Ev.ite_pos rfl ?_
  refine Ev.of_eq (ev_all (fun k i => laws_eqTermS.l0 k a a i) a.length (fun _ => true) ?_ ?_ a.length 0 (by omega)) (by simp)
  · intro k i hi
    simp only [laws_eqTermS.l0, laws_eqTerm.f]
    rw [if_pos (by omega), if_pos (by omega), if_pos (by omega)]
    simp only [if_true, Option.bind_some]
    rw [next i hi ha]
  · intro k
    simp only [laws_eqTermS.l0]
    rw [if_neg (by omega)]

theorem l1In_eq (a b c : Int) : spec_l1In.f a b c = some (decide (b ≤ a ∧ a ≤ c)) := by
  unfold spec_l1In.f
  by_cases h : a ≥ b
  · rw [if_pos h]; congr 1; exact decide_eq_decide.mpr (by omega)
  · rw [if_neg h, decide_eq_false (by omega)]

def ar : Arity := ⟨3, fun k => if k = 2 then 1 else if k = 3 then 2 else 0⟩
theorem ar2 (k : Int) : ar.want k ≤ 2 := by show (if k = 2 then 1 else if k = 3 then 2 else 0) ≤ 2; split <;> (try split) <;> omega
theorem ar_1 : ar.want 1 = 0 := rfl
theorem ar_2 : ar.want 2 = 1 := rfl
theorem ar_3 : ar.want 3 = 2 := rfl

/-- May a node stand at place m. -/
structure NodeOk (L : List Nd) (m : Nat) : Prop where
  top : m = 0 ↔ up L m = -1
  ahead : -1 ≤ up L m ∧ up L m < (m : Int)
  kind : 1 ≤ (L.getD m z).kind ∧ (L.getD m z).kind ≤ 3
  num : 0 ≤ (L.getD m z).n ∧ (L.getD m z).n ≤ 99 ∧ ((L.getD m z).kind = 1 ∨ (L.getD m z).n = 0)
  around : m = 0 ∨ ∃ x ∈ chain L (m - 1), (x : Int) = up L m
  deep : (chain L m).length ≤ 40
  wants : cnt L m (m + 1) (L.length - (m + 1)) = ar.want (L.getD m z).kind

/-- The nodes in one. -/
theorem parts (l : List S62) (i : Nat) (hl : l.length ≤ 200) : ∀ (d a : Nat) (acc : List Int), a + d = l.length → acc.length + d ≤ 200 → ∃ r, Ev (fun k => spec_lcParts.l0 k l i acc a) r ∧ r.length = acc.length + cnt (l.map nd) i a d := by
  intro d
  induction d with
  | zero =>
    intro a acc ha _
    refine ⟨acc, Ev.step (f := fun _ => some acc) (fun k => ?_) (Ev.now _), rfl⟩
    simp only [spec_lcParts.l0]
    rw [if_neg (by omega)]
  | succ d ih =>
    intro a acc ha hacc
    by_cases h : up (l.map nd) a = (i : Int)
    · obtain ⟨r, hr, hn⟩ := ih (a + 1) (acc ++ [(a : Int)]) (by omega) (by simp; omega)
      refine ⟨r, Ev.step (fun k => ?_) hr, ?_⟩
      · simp only [spec_lcParts.l0]
        rw [if_pos (by omega), if_pos (by omega), rdC, up_nd, if_pos h, if_pos (by omega), next a (n := l.length) (by omega) (by omega)]
      · rw [hn, List.length_append]
        show acc.length + 1 + _ = acc.length + ((if up (l.map nd) a = (i : Int) then 1 else 0) + _)
        rw [if_pos h]; omega
    · obtain ⟨r, hr, hn⟩ := ih (a + 1) acc (by omega) (by omega)
      refine ⟨r, Ev.step (fun k => ?_) hr, ?_⟩
      · simp only [spec_lcParts.l0]
        rw [if_pos (by omega), if_pos (by omega), rdC, up_nd, if_neg h, next a (n := l.length) (by omega) (by omega)]
      · rw [hn]
        show _ = acc.length + ((if up (l.map nd) a = (i : Int) then 1 else 0) + _)
        rw [if_neg h]; omega

theorem lcParts (l : List S62) (i : Nat) (hi : i < l.length) (hl : l.length ≤ 200) : ∃ r, Ev (fun k => spec_lcParts.f k l i) r ∧ r.length = cnt (l.map nd) i (i + 1) (l.length - (i + 1)) := by
  obtain ⟨r, hr, hn⟩ := parts l i hl (l.length - (i + 1)) (i + 1) [] (by omega) (by simp; omega)
  refine ⟨r, ?_, by rw [hn]; simp⟩
  unfold spec_lcParts.f
  rw [next i hi (by omega)]
  exact hr

theorem deepLoop (l : List S62) (hl : l.length ≤ 200) (i : Nat) (hi : i < l.length) (b : Bool) (kd n u : Int) (h : ∀ m, m ≤ i → -1 ≤ up (l.map nd) m ∧ up (l.map nd) m < (m : Int)) {r : Bool} :
    ∀ (j d : Nat), j ≤ i → d + j ≤ 400 → Ev (fun k => spec_GoodTerm.l2 k l i b ((d + (chain (l.map nd) j).length : Nat) : Int) (-1) l l.length i kd n u) r → Ev (fun k => spec_GoodTerm.l2 k l i b (d : Int) (j : Int) l l.length i kd n u) r := by
  intro j
  induction j using Nat.strongRecOn with
  | _ j ih =>
    intro d hj hd hE
    refine Ev.step (f := fun k => spec_GoodTerm.l2 k l i b ((d + 1 : Nat) : Int) (up (l.map nd) j) l l.length i kd n u) (fun k => ?_) ?_
    · show (if (j : Int) ≥ 0 then _ else _) = _
      rw [if_pos (by omega), if_pos (by omega), if_pos (by omega), rdC, up_nd, w64 (by omega) (by omega)]
      rfl
    · have hu := h j hj
      by_cases hu0 : 0 ≤ up (l.map nd) j
      · rw [show up (l.map nd) j = (((up (l.map nd) j).toNat : Nat) : Int) by omega]
        refine ih _ (by omega) (d + 1) (by omega) (by omega) ?_
        rw [chain_up ⟨hu0, hu.2⟩, List.length_cons] at hE
        rw [show d + 1 + (chain (l.map nd) (up (l.map nd) j).toNat).length = d + ((chain (l.map nd) (up (l.map nd) j).toNat).length + 1) by omega]
        exact hE
      · rw [chain_top (by omega)] at hE
        rw [show up (l.map nd) j = -1 by omega]
        exact hE

theorem aroundLoop (l : List S62) (hl : l.length ≤ 200) (i : Nat) (hi : i < l.length) (kd n u : Int) (h : ∀ m, m < i → -1 ≤ up (l.map nd) m ∧ up (l.map nd) m < (m : Int)) {r : Bool} {c : Bool} :
    ∀ (j : Nat), j < i → (c = true ↔ ∃ x ∈ chain (l.map nd) j, (x : Int) = u) → Ev (fun k => spec_GoodTerm.j3 k l i c l l.length i kd n u) r → Ev (fun k => spec_GoodTerm.l1 k l i false (j : Int) l l.length i kd n u) r := by
  intro j
  induction j using Nat.strongRecOn with
  | _ j ih =>
    intro hj hc hE
    have hu := h j hj
    refine Ev.step (f := fun k => spec_GoodTerm.l1 k l i ((j : Int) == u) (up (l.map nd) j) l l.length i kd n u) (fun k => ?_) ?_
    · show (if (j : Int) ≥ 0 then _ else _) = _
      rw [if_pos (by omega), if_neg (by simp), if_pos (by omega), if_pos (by omega), rdC, up_nd]
    · by_cases hju : (j : Int) = u
      · obtain rfl : c = true := hc.mpr ⟨j, chain_self _ _, hju⟩
        rw [show ((j : Int) == u) = true by simpa using hju]
        refine Ev.step (f := fun k => spec_GoodTerm.j3 k l i true l l.length i kd n u) (fun k => ?_) hE
        simp only [spec_GoodTerm.l1]
        simp
      · rw [show ((j : Int) == u) = false by simpa using hju]
        by_cases hu0 : 0 ≤ up (l.map nd) j
        · rw [show up (l.map nd) j = (((up (l.map nd) j).toNat : Nat) : Int) by omega]
          refine ih _ (by omega) (by omega) (hc.trans ?_) hE
          rw [chain_up ⟨hu0, hu.2⟩]
          simp [hju]
        · obtain rfl : c = false := by
            cases c with
            | false => rfl
            | true =>
              obtain ⟨x, hx, hxu⟩ := hc.mp rfl
              rw [chain_top (by omega)] at hx
              have : x = j := by simpa using hx
              subst this; exact absurd hxu hju
          refine Ev.step (f := fun k => spec_GoodTerm.j3 k l i false l l.length i kd n u) (fun k => ?_) hE
          simp only [spec_GoodTerm.l1]
          rw [if_neg (by omega)]

theorem badNode (l : List S62) (a b c kd n u : Int) : Ev (fun k => spec_GoodTerm.j1 k l a l b c true kd n u) false := by
  refine Ev.step (f := fun _ => some false) (fun k => ?_) (Ev.now _)
  simp only [spec_GoodTerm.j1]
  rfl

theorem specLoop (l : List S62) (hl : l.length ≤ 200) : ∀ (d i : Nat), i + d = l.length → (∀ m, m < i → -1 ≤ up (l.map nd) m ∧ up (l.map nd) m < (m : Int)) →
    ∃ b, Ev (fun k => spec_GoodTerm.l0 k l l l.length i) b ∧ (b = true ↔ ∀ m, i ≤ m → m < l.length → NodeOk (l.map nd) m) := by
  intro d
  induction d with
  | zero =>
    intro i hi _
    refine ⟨true, Ev.step (f := fun _ => some true) (fun k => ?_) (Ev.now _), ?_⟩
    · simp only [spec_GoodTerm.l0]
      rw [if_neg (by omega)]
    · exact ⟨fun _ m h1 h2 => by omega, fun _ => rfl⟩
  | succ d ih =>
    intro i hi hah
    have hil : i < l.length := by omega
    have eu : (l.getD i z62).f2 = TreeM.up (l.map nd) i := up_nd l i
    have ek : (l.getD i z62).f0 = ((l.map nd).getD i z).kind := by rw [getD_nd]; rfl
    have en : (l.getD i z62).f1 = ((l.map nd).getD i z).n := by rw [getD_nd]; rfl
    have hlen : (l.map nd).length = l.length := List.length_map ..
    -- a node that is not good
    have bad : ∀ {F : Nat → Option Bool}, ¬ NodeOk (l.map nd) i → Ev F false → ∃ b, Ev F b ∧ (b = true ↔ ∀ m, i ≤ m → m < l.length → NodeOk (l.map nd) m) :=
      fun hn hE => ⟨false, hE, fun h => absurd h (by simp), fun h => absurd (h i (Nat.le_refl _) hil) hn⟩
    generalize hu : up (l.map nd) i = u at *
    generalize hk : ((l.map nd).getD i z).kind = kd at *
    generalize hn : ((l.map nd).getD i z).n = n at *
    have st : ∀ k, spec_GoodTerm.l0 (k + 1) l l l.length i = (if ((((i : Int) == 0) != (u == (-1))) = true) then (spec_GoodTerm.j1 k l i l l.length i true kd n u) else (spec_GoodTerm.j1 k l i l l.length i (!decide (-1 ≤ u ∧ u ≤ (i : Int) - 1)) kd n u)) := by
      intro k
      simp only [spec_GoodTerm.l0]
      rw [if_pos (by omega), if_pos (by omega), if_pos (by omega), rdC, eu, ek, en, l1In_eq, w64 (by omega) (by omega)]
      simp only [Option.bind_some]
    have hT : ((((i : Int) == 0) != (u == (-1))) = true) ↔ ¬ (i = 0 ↔ u = -1) := by
      have e1 : ((i : Int) == 0) = decide (i = 0) := by rw [Bool.eq_iff_iff]; simp
      have e2 : (u == (-1)) = decide (u = -1) := by rw [Bool.eq_iff_iff]; simp
      rw [e1, e2]
      by_cases h1 : i = 0 <;> by_cases h2 : u = -1 <;> simp [h1, h2]
    by_cases h1 : i = 0 ↔ u = -1
    case neg =>
      exact bad (fun h => h1 (hu ▸ h.top)) (Ev.step (fun k => (st k).trans (if_pos (hT.mpr h1))) (badNode ..))
    have st := fun k => (st k).trans (if_neg (fun h => hT.mp h h1))
    by_cases h2 : -1 ≤ u ∧ u ≤ (i : Int) - 1
    case neg =>
      refine bad (fun h => h2 (by have := h.ahead; rw [hu] at this; omega)) (Ev.step (f := fun k => spec_GoodTerm.j1 k l i l l.length i true kd n u) (fun k => (st k).trans ?_) (badNode ..))
      rw [decide_eq_false h2]; rfl
    have st : ∀ k, spec_GoodTerm.l0 (k + 1) l l l.length i = spec_GoodTerm.j1 k l i l l.length i false kd n u := by
      intro k
      rw [st k, decide_eq_true h2]; rfl
    have hah' : ∀ m, m < i + 1 → -1 ≤ up (l.map nd) m ∧ up (l.map nd) m < (m : Int) := by
      intro m hm
      by_cases hmi : m = i
      · subst hmi; rw [hu]; omega
      · exact hah m (by omega)
    obtain ⟨b, hb, hbi⟩ := ih (i + 1) (by omega) hah'
    obtain ⟨ps, hps, hpn⟩ := lcParts l i hil hl
    -- the end
    obtain ⟨c, hc⟩ : ∃ c : Bool, c = true ↔ (i = 0 ∨ ∃ x ∈ chain (l.map nd) (i - 1), (x : Int) = u) := by
      by_cases h : (i = 0 ∨ ∃ x ∈ chain (l.map nd) (i - 1), (x : Int) = u)
      · exact ⟨true, by simp [h]⟩
      · exact ⟨false, by simp [h]⟩
    have go : ∀ {r : Bool}, Ev (fun k => spec_GoodTerm.l2 k l i c (((chain (l.map nd) i).length : Nat) : Int) (-1) l l.length i kd n u) r → Ev (fun k => spec_GoodTerm.l0 k l l l.length i) r := by
      intro r hE
      refine Ev.step st ?_
      refine Ev.step (f := fun k => spec_GoodTerm.l1 k l i ((i : Int) == 0) ((i : Int) - 1) l l.length i kd n u) (fun k => ?_) ?_
      · simp only [spec_GoodTerm.j1]
        rw [w64 (by omega) (by omega)]
        rfl
      · have hj3 : Ev (fun k => spec_GoodTerm.j3 k l i c l l.length i kd n u) r := by
          refine Ev.step (f := fun k => spec_GoodTerm.l2 k l i c ((0 : Nat) : Int) (i : Int) l l.length i kd n u) (fun k => rfl) ?_
          refine deepLoop l hl i hil c kd n u (fun m hm => hah' m (by omega)) i 0 (Nat.le_refl _) (by omega) ?_
          rw [Nat.zero_add]; exact hE
        by_cases hi0 : i = 0
        · obtain rfl : c = true := hc.mpr (.inl hi0)
          subst hi0
          refine Ev.step (f := fun k => spec_GoodTerm.j3 k l (0 : Nat) true l l.length (0 : Nat) kd n u) (fun k => ?_) hj3
          simp only [spec_GoodTerm.l1]
          rfl
        · rw [show ((i : Int) == 0) = false by simpa using hi0, show (i : Int) - 1 = ((i - 1 : Nat) : Int) by omega]
          refine aroundLoop l hl i hil kd n u hah (i - 1) (by omega) (hc.trans ?_) hj3
          simp [hi0]
    have fin : ∀ k, spec_GoodTerm.l2 (k + 1) l i c (((chain (l.map nd) i).length : Nat) : Int) (-1) l l.length i kd n u = (if 1 ≤ kd ∧ kd ≤ 3 then spec_GoodTerm.j5 k l i c (((chain (l.map nd) i).length : Nat) : Int) (ar.want kd) l l.length i kd n u else some false) := by
      intro k
      simp only [spec_GoodTerm.l2]
      rw [if_neg (by decide)]
      by_cases h1 : kd = 1
      · subst h1; rw [if_pos rfl, if_pos (by decide)]; rfl
      · rw [if_neg h1]
        by_cases h2 : kd = 2
        · subst h2; rw [if_pos rfl, if_pos (by decide)]; rfl
        · rw [if_neg h2]
          by_cases h3 : kd = 3
          · subst h3; rw [if_pos rfl, if_pos (by decide)]; rfl
          · rw [if_neg h3, if_neg (by omega)]
    by_cases h3 : 1 ≤ kd ∧ kd ≤ 3
    case neg =>
      exact bad (fun h => h3 (hk ▸ h.kind)) (go (Ev.step (f := fun _ => some false) (fun k => (fin k).trans (if_neg h3)) (Ev.now _)))
    have go : ∀ {r : Bool}, Ev (fun k => spec_GoodTerm.j5 k l i c (((chain (l.map nd) i).length : Nat) : Int) (ar.want kd) l l.length i kd n u) r → Ev (fun k => spec_GoodTerm.l0 k l l l.length i) r :=
      fun hE => go (Ev.step (fun k => (fin k).trans (if_pos h3)) hE)
    have fin : ∀ k, spec_GoodTerm.j5 (k + 1) l i c (((chain (l.map nd) i).length : Nat) : Int) (ar.want kd) l l.length i kd n u = (if c = true then (if (((chain (l.map nd) i).length : Nat) : Int) > 40 then some false else ((spec_lcParts.f k l i).bind fun t => (if (t.length : Int) = ar.want kd then (if 0 ≤ n ∧ n ≤ 99 then (if kd = 1 then spec_GoodTerm.l0 k l l l.length ((i + 1 : Nat) : Int) else if n = 0 then spec_GoodTerm.l0 k l l l.length ((i + 1 : Nat) : Int) else some false) else some false) else some false))) else some false) := by
      intro k
      simp only [spec_GoodTerm.j5, l1In_eq, next i hil (Nat.le_trans hl (by decide)), Option.bind_some, decide_eq_true_eq]
    by_cases h7 : c = true
    case neg =>
      exact bad (fun h => h7 (hc.mpr (hu ▸ h.around))) (go (Ev.step (f := fun _ => some false) (fun k => (fin k).trans (if_neg h7)) (Ev.now _)))
    have fin := fun k => (fin k).trans (if_pos h7)
    by_cases h8 : (chain (l.map nd) i).length ≤ 40
    case neg =>
      exact bad (fun h => h8 h.deep) (go (Ev.step (f := fun _ => some false) (fun k => (fin k).trans (if_pos (by omega))) (Ev.now _)))
    have fin := fun k => (fin k).trans (if_neg (by omega))
    by_cases h9 : ps.length = ar.want kd
    case neg =>
      exact bad (fun h => h9 (by have := h.wants; rw [hk, hlen] at this; rw [hpn]; exact this)) (go (Ev.step fin (Ev.bind hps (Ev.ite_neg (by omega) (Ev.now _)))))
    have go : ∀ {r : Bool}, Ev (fun k => (if 0 ≤ n ∧ n ≤ 99 then (if kd = 1 then spec_GoodTerm.l0 k l l l.length ((i + 1 : Nat) : Int) else if n = 0 then spec_GoodTerm.l0 k l l l.length ((i + 1 : Nat) : Int) else some false) else some false)) r → Ev (fun k => spec_GoodTerm.l0 k l l l.length i) r :=
      fun hE => go (Ev.step fin (Ev.bind hps (Ev.ite_pos (by omega) hE)))
    by_cases h4 : 0 ≤ n ∧ n ≤ 99
    case neg =>
      exact bad (fun h => h4 (by have := h.num; rw [hn] at this; omega)) (go (Ev.ite_neg h4 (Ev.now _)))
    by_cases h5 : kd = 1 ∨ n = 0
    case neg =>
      exact bad (fun h => h5 (by have := h.num; rw [hn, hk] at this; omega)) (go (Ev.ite_pos h4 (Ev.ite_neg (by omega) (Ev.ite_neg (by omega) (Ev.now _)))))
    have good : NodeOk (l.map nd) i := by
      refine ⟨by rw [hu]; exact h1, by rw [hu]; omega, by rw [hk]; exact h3, by rw [hn, hk]; exact ⟨h4.1, h4.2, h5⟩, by rw [hu]; exact hc.mp h7, h8, ?_⟩
      rw [hk, hlen, ← hpn]; exact h9
    refine ⟨b, go (Ev.ite_pos h4 ?_), hbi.trans ?_⟩
    · by_cases h6 : kd = 1
      · exact Ev.ite_pos h6 hb
      · exact Ev.ite_neg h6 (Ev.ite_pos (by omega) hb)
    constructor
    · intro h m hm1 hm2
      by_cases hmi : m = i
      · subst hmi; exact good
      · exact h m (by omega) hm2
    · intro h m hm1 hm2
      exact h m (by omega) hm2
end Go.Proofs.Ytcjhhdecckcibaa.TermL
