/- The reference's way to ask whether a term is good, and the program's: they agree. No condition but those each lemma names. -/
import Derived.Test.YtcjhhdecckcibaaTermImpl
namespace Go.Proofs.Ytcjhhdecckcibaa.TermL
open Go.RowKit Go.Proofs.Ytcjhhdecckcibaa.G Go.Proofs.Ytcjhhdecckcibaa.EvL Go.Proofs.Ytcjhhdecckcibaa.TreeM Go.Proofs.YtcjhhdecckcibaaW.PrintWords Go.Proofs.YtcjhhdecckcibaaW.PrintLast
set_option linter.unusedVariables false

/-- The nodes tell a term that is good. -/
def Tells (l : List S62) (t : Tr) : Prop := 1 ≤ l.length ∧ l.length ≤ 150 ∧ Par ar (l.map nd) 0 (-1) t l.length ∧ t.all numOk ∧ t.depth ≤ 40

theorem nodes_iff (l : List S62) (h1 : 1 ≤ l.length) (h2 : l.length ≤ 150) : (∀ m, 0 ≤ m → m < l.length → NodeOk (l.map nd) m) ↔ ∃ t, Tells l t := by
  have hlen : (l.map nd).length = l.length := List.length_map ..
  have hli := loc_iff (A := ar) (l := l.map nd) ar2 (by omega)
  constructor
  · intro h
    have L : TreeM.Loc ar (l.map nd) := by
      refine ⟨fun _ => (h 0 (Nat.le_refl _) (by omega)).top.mp rfl, fun m h3 h4 => ?_, fun m h3 h4 => ?_, fun m h3 => (h m (by omega) (by omega)).kind, fun m h3 => (h m (by omega) (by omega)).wants⟩
      · have hm := h m (by omega) (by omega)
        have := hm.ahead
        have := hm.top
        omega
      · have hm := h m (by omega) (by omega)
        obtain ⟨x, hx, hxu⟩ := hm.around.resolve_left (by omega)
        rw [← hxu, Int.toNat_natCast]; exact hx
    obtain ⟨t, ht⟩ := hli.mp L
    rw [hlen] at ht
    refine ⟨t, h1, h2, ht, (ht.alls numOk).mpr (fun m h3 h4 => (h m h3 h4).num), ?_⟩
    obtain ⟨m, h3, h4, h5⟩ := ht.deep.2
    have hm := (h m h3 h4).deep
    have h0 : (chain (l.map nd) 0).length = 1 := by rw [chain_top (by rw [ht.span.2.2]; omega)]; rfl
    omega
  · rintro ⟨t, _, _, ht, hn, hd⟩ m _ hm
    have L : TreeM.Loc ar (l.map nd) := hli.mpr ⟨t, by rw [hlen]; exact ht⟩
    have h0 : (chain (l.map nd) 0).length = 1 := by rw [chain_top (by rw [ht.span.2.2]; omega)]; rfl
    have hr := L.root (by omega)
    refine ⟨?_, ?_, L.kinds m (by omega), (ht.alls numOk).mp hn m (by omega) hm, ?_, by have := ht.deep.1 m (by omega) hm; omega, L.wants m (by omega)⟩
    · by_cases h3 : m = 0
      · subst h3; exact ⟨fun _ => hr, fun _ => rfl⟩
      · have := L.ahead m (by omega) (by omega); omega
    · by_cases h3 : m = 0
      · subst h3; omega
      · have := L.ahead m (by omega) (by omega); omega
    · by_cases h3 : m = 0
      · exact .inl h3
      · have h4 := L.ahead m (by omega) (by omega)
        exact .inr ⟨_, L.around m (by omega) (by omega), by omega⟩

theorem specGood (l : List S62) (hl : l.length ≤ 9223372036854775807) : ∃ b, Ev (fun k => spec_GoodTerm.f k l) b ∧ (b = true ↔ ∃ t, Tells l t) := by
  unfold spec_GoodTerm.f
  rw [l1In_eq]
  simp only [Option.bind_some, decide_eq_true_eq]
  by_cases h : (1 : Int) ≤ (l.length : Int) ∧ (l.length : Int) ≤ 150
  · obtain ⟨b, hb, hbi⟩ := specLoop l (by omega) l.length 0 (by omega) (fun m hm => by omega)
    exact ⟨b, Ev.ite_pos h hb, hbi.trans (nodes_iff l (by omega) (by omega))⟩
  · exact ⟨false, Ev.ite_neg h (Ev.now _), fun h2 => absurd h2 (by simp), fun ⟨t, h2, h3, _⟩ => absurd ⟨by omega, by omega⟩ h⟩

/-- What the program reads: a tree that is good, or none. -/
theorem rootEv (l : List S62) (hl : l.length ≤ 9223372036854775807) : ∃ (x : S68) (b : Bool), Ev (fun k => impl_termOf.f k l) (x.f0, x.f1, x.f2, b) ∧ (b = true ↔ ∃ t, Tells l t) ∧ (b = true → ∃ t, Tells l t ∧ x = toS t) := by
  have bad : (¬ ∃ t, Tells l t) → ∀ (x : S68), Ev (fun k => impl_termOf.f k l) (x.f0, x.f1, x.f2, false) → ∃ (x : S68) (b : Bool), Ev (fun k => impl_termOf.f k l) (x.f0, x.f1, x.f2, b) ∧ (b = true ↔ ∃ t, Tells l t) ∧ (b = true → ∃ t, Tells l t ∧ x = toS t) :=
    fun h x hE => ⟨x, false, hE, ⟨fun h2 => absurd h2 (by simp), fun h2 => absurd h2 h⟩, fun h2 => absurd h2 (by simp)⟩
  have none : Ev (fun k => impl_termOf.j0 k l true) (0, 0, ([] : List S68), false) := Ev.step (f := fun _ => some (0, 0, ([] : List S68), false)) (fun k => by simp only [impl_termOf.j0]; rfl) (Ev.now _)
  by_cases h1 : (l.length : Int) < 1
  · refine bad (fun ⟨t, h2, _⟩ => by omega) ⟨0, 0, []⟩ ?_
    unfold impl_termOf.f
    exact Ev.ite_pos h1 none
  by_cases h2 : (l.length : Int) > 150
  · refine bad (fun ⟨t, _, h3, _⟩ => by omega) ⟨0, 0, []⟩ ?_
    unfold impl_termOf.f
    refine Ev.ite_neg h1 ?_
    rw [decide_eq_true h2]; exact none
  have go : ∀ {r}, Ev (fun k => (impl_termAt.f k l 0 (-1)).bind fun bt102 => (if bt102.2.2.2.2 = true then (if bt102.2.2.2.1 = (l.length : Int) then ((impl_term_isGood.f k bt102.1 bt102.2.1 bt102.2.2.1).bind fun t110 => (some (bt102.1, bt102.2.1, bt102.2.2.1, t110))) else (some (bt102.1, bt102.2.1, bt102.2.2.1, false))) else (some (bt102.1, bt102.2.1, bt102.2.2.1, false)))) r → Ev (fun k => impl_termOf.f k l) r := by
    intro r hE
    unfold impl_termOf.f
    refine Ev.ite_neg h1 ?_
    rw [decide_eq_false h2]
    exact Ev.step (fun k => by simp only [impl_termOf.j0]; rfl) hE
  rcases termAt_ev l (by omega) l.length 0 (-1) (by omega) with ⟨t, e, ht, hE⟩ | ⟨hn, hE⟩
  case inr =>
    exact bad (fun ⟨t, _, _, h3, _⟩ => hn _ _ h3) ⟨0, 0, []⟩ (go (Ev.bind hE (Ev.ite_neg (by simp) (Ev.now _))))
  by_cases he : e = l.length
  case neg =>
    refine bad (fun ⟨t', _, _, h3, _⟩ => he (ht.unique h3).2) (toS t) (go (Ev.bind hE (Ev.ite_pos rfl (Ev.ite_neg ?_ (Ev.now _)))))
    show ¬ (e : Int) = _
    omega
  subst he
  have hs := ht.span
  obtain ⟨b, hb, hbi⟩ := isGood_ev t (by omega)
  refine ⟨toS t, b, go (Ev.bind hE (Ev.ite_pos rfl (Ev.ite_pos rfl (Ev.bind hb (Ev.now _))))), ?_, ?_⟩
  · rw [hbi]
    constructor
    · intro h3; exact ⟨t, by omega, by omega, ht, h3.2.2, h3.2.1⟩
    · rintro ⟨t', _, _, h3, h4, h5⟩
      obtain ⟨rfl, _⟩ := ht.unique h3
      exact ⟨by omega, h5, h4⟩
  · intro h3
    rw [hbi] at h3
    exact ⟨t, ⟨by omega, by omega, ht, h3.2.2, h3.2.1⟩, rfl⟩

theorem implGood (l : List S62) (hl : l.length ≤ 9223372036854775807) : ∃ b, Ev (fun k => impl_GoodTerm.f k l) b ∧ (b = true ↔ ∃ t, Tells l t) := by
  obtain ⟨x, b, hE, hb, _⟩ := rootEv l hl
  refine ⟨b, ?_, hb⟩
  unfold impl_GoodTerm.f
  exact Ev.bind hE (Ev.now _)

theorem sizes (l : List S65) (hl : l.length ≤ 9223372036854775807) : ∃ t, laws_szTermS.f l 1048576 = some t ∧ (¬ t < 0 → l.length ≤ 1048576) := by
  unfold laws_szTermS.f
  rw [w64 (x := 1048576 - (l.length : Int)) (by omega) (by omega)]
  by_cases h : 1048576 - (l.length : Int) < 0
  · rw [if_pos h]; exact ⟨-1, rfl, fun h => absurd (by decide) h⟩
  · rw [if_neg h]; exact ⟨_, rfl, fun _ => by omega⟩
end Go.Proofs.Ytcjhhdecckcibaa.TermL
