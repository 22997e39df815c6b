/- Which combs the program finds good: it reads them from the front. No condition but those each lemma names. -/
import Derived.Test.YtcjhhdecckcibaaCombGood
namespace Go.Proofs.Ytcjhhdecckcibaa.CombL
open Go.RowKit Go.Proofs.Ytcjhhdecckcibaa.G Go.Proofs.Ytcjhhdecckcibaa.EvL Go.Proofs.Ytcjhhdecckcibaa.TreeM Go.Proofs.YtcjhhdecckcibaaW.PrintWords Go.Proofs.YtcjhhdecckcibaaW.PrintLast
set_option linter.unusedVariables false

/-- A tree as the program keeps it. -/
def toS : Tr → S58
  | .leaf k n => ⟨k, n, []⟩
  | .un k n a => ⟨k, n, [toS a]⟩
  | .bin k n a b => ⟨k, n, [toS a, toS b]⟩

theorem at_nd {l : List S52} {i : Nat} (h : i < l.length) : (l.map nd)[i]? = some ⟨(l.getD i z52).f0, (l.getD i z52).f1, TreeM.up (l.map nd) i⟩ := by
  rw [get_of (by rw [List.length_map]; exact h), getD_nd, ← up_nd]; rfl

theorem combAt_ev (l : List S52) (hl : l.length ≤ 200) : ∀ (d i : Nat) (u : Int), i + d = l.length →
    (∃ t e, Par ar (l.map nd) i u t e ∧ Ev (fun k => impl_combAt.f k l i u) ((toS t).f0, (toS t).f1, (toS t).f2, (e : Int), true)) ∨
    ((∀ t e, ¬ Par ar (l.map nd) i u t e) ∧ Ev (fun k => impl_combAt.f k l i u) (0, 0, ([] : List S58), 0, false)) := by
  intro d
  induction d using Nat.strongRecOn with
  | _ d ih =>
    intro i u hi
    have bad : ∀ {x}, Ev (fun k => impl_combAt.j0 k l x true) (0, 0, ([] : List S58), 0, false) := fun {x} => Ev.step (f := fun _ => some (0, 0, ([] : List S58), 0, false)) (fun k => by simp only [impl_combAt.j0]; rfl) (Ev.now _)
    have hlen : (l.map nd).length = l.length := List.length_map ..
    by_cases hd : d = 0
    · refine .inr ⟨fun t e h => ?_, Ev.step (f := fun k => impl_combAt.j0 k l i true) (fun k => ?_) bad⟩
      · have := h.lt; have := h.span; omega
      · simp only [impl_combAt.f]; rw [if_pos (by omega)]
    have hil : i < l.length := by omega
    have hx := at_nd hil
    generalize hk : (l.getD i z52).f0 = kd at *
    generalize hn : (l.getD i z52).f1 = n at *
    -- what a tree from here on begins with
    have inv : ∀ {t e}, Par ar (l.map nd) i u t e → TreeM.up (l.map nd) i = u ∧ 1 ≤ kd ∧ kd ≤ 5 := by
      intro t e h
      cases h with
      | leaf h2 h3 _ => rw [hx] at h2; injection h2 with h2; injection h2 with a b c; subst a; exact ⟨c, h3⟩
      | un h2 h3 _ _ => rw [hx] at h2; injection h2 with h2; injection h2 with a b c; subst a; exact ⟨c, h3⟩
      | bin h2 h3 _ _ _ => rw [hx] at h2; injection h2 with h2; injection h2 with a b c; subst a; exact ⟨c, h3⟩
    have st : ∀ k, impl_combAt.f (k + 1) l i u = (if TreeM.up (l.map nd) i = u then (if kd < 1 then (impl_combAt.j0 k l i true) else (impl_combAt.j0 k l i (decide (kd > 5)))) else (impl_combAt.j0 k l i true)) := by
      intro k
      simp only [impl_combAt.f]
      rw [if_neg (by omega), if_pos (by omega), if_pos (by omega), rdC, up_nd, hk]
    by_cases h1 : TreeM.up (l.map nd) i = u
    case neg => exact .inr ⟨fun t e h => h1 (inv h).1, Ev.step (fun k => (st k).trans (if_neg h1)) bad⟩
    have st := fun k => (st k).trans (if_pos h1)
    by_cases h2 : kd < 1
    · exact .inr ⟨fun t e h => by have := inv h; omega, Ev.step (fun k => (st k).trans (if_pos h2)) bad⟩
    have st := fun k => (st k).trans (if_neg h2)
    by_cases h3 : kd > 5
    · refine .inr ⟨fun t e h => by have := inv h; omega, Ev.step (f := fun k => impl_combAt.j0 k l i true) (fun k => ?_) bad⟩
      rw [st k, decide_eq_true h3]
    have hkd : 1 ≤ kd ∧ kd ≤ ar.top := ⟨by omega, by show kd ≤ 5; omega⟩
    -- the rounds over its parts
    have go : ∀ {r}, Ev (fun k => impl_combAt.l0 k l i ((i + 1 : Nat) : Int) kd n []) r → Ev (fun k => impl_combAt.f k l i u) r := by
      intro r hE
      refine Ev.step (f := fun k => impl_combAt.j0 k l i false) (fun k => ?_) (Ev.step (fun k => ?_) hE)
      · rw [st k, decide_eq_false h3]
      · simp only [impl_combAt.j0]
        rw [if_neg (by simp), if_pos (by omega), if_pos (by omega), rdC, hk, hn, next i hil (by omega)]
    have done : ∀ (e : Int) (ps : List S58), (kd = 2 → ps.length = 2) → Ev (fun k => impl_combAt.l0 k l i e kd n ps) (kd, n, ps, e, true) := by
      intro e ps hps
      refine Ev.step (f := fun k => impl_combAt.j2 k l i e false kd n ps) (fun k => ?_) (Ev.step (f := fun _ => some (kd, n, ps, e, true)) (fun k => ?_) (Ev.now _))
      · simp only [impl_combAt.l0]
        by_cases h : kd = 2
        · rw [if_pos h, decide_eq_false (by have := hps h; omega)]
        · rw [if_neg h]
      · simp only [impl_combAt.j2]; rfl
    have one : ∀ (e : Nat) (ps : List S58), kd = 2 → ps.length < 2 → ∀ {r}, Ev (fun k => (impl_combAt.f k l e i).bind fun bt => (if bt.2.2.2.2 = true then (if ps.length < 3518437208883 then (impl_combAt.l0 k l i bt.2.2.2.1 kd n (ps ++ [(⟨bt.1, bt.2.1, bt.2.2.1⟩ : S58)])) else (none)) else (some (0, 0, ([] : List S58), 0, false)))) r → Ev (fun k => impl_combAt.l0 k l i e kd n ps) r := by
      intro e ps hk2 hps r hE
      refine Ev.step (f := fun k => impl_combAt.j2 k l i e true kd n ps) (fun k => ?_) (Ev.step (fun k => ?_) hE)
      · simp only [impl_combAt.l0]
        rw [if_pos hk2, decide_eq_true (by omega)]
      · simp only [impl_combAt.j2]; rfl
    by_cases hk2 : kd = 2
    case neg =>
      refine .inl ⟨.leaf kd n, i + 1, .leaf (by rw [hx, h1]) hkd (by show (if kd = 2 then 2 else 0) = 0; rw [if_neg hk2]), ?_⟩
      exact go (done _ _ (fun h => absurd h hk2))
    have hw : ar.want kd = 2 := by show (if kd = 2 then 2 else 0) = 2; rw [if_pos hk2]
    have invb : ∀ {t e}, Par ar (l.map nd) i u t e → ∃ a b e1, Par ar (l.map nd) (i + 1) i a e1 ∧ Par ar (l.map nd) e1 i b e := by
      intro t e h
      cases h with
      | leaf h2 _ h4 => rw [hx] at h2; injection h2 with h2; injection h2 with a b c; subst a; omega
      | un h2 _ h4 _ => rw [hx] at h2; injection h2 with h2; injection h2 with a b c; subst a; omega
      | bin _ _ _ h5 h6 => exact ⟨_, _, _, h5, h6⟩
    rcases ih (d - 1) (by omega) (i + 1) i (by omega) with ⟨a, e1, pa, ea⟩ | ⟨na, ea⟩
    case inr =>
      refine .inr ⟨fun t e h => ?_, go (one _ _ hk2 (by simp) (Ev.bind ea (Ev.ite_neg (by simp) (Ev.now _))))⟩
      obtain ⟨a, b, e1, h5, _⟩ := invb h
      exact na _ _ h5
    have s1 := pa.span
    have l1 := pa.lt
    rcases ih (l.length - e1) (by omega) e1 i (by omega) with ⟨b, e2, pb, eb⟩ | ⟨nb, eb⟩
    case inr =>
      refine .inr ⟨fun t e h => ?_, go (one _ _ hk2 (by simp) (Ev.bind ea (Ev.ite_pos rfl (Ev.ite_pos (by simp) (one _ _ hk2 (by simp) (Ev.bind eb (Ev.ite_neg (by simp) (Ev.now _))))))))⟩
      obtain ⟨a', b', e1', h5, h6⟩ := invb h
      obtain ⟨_, rfl⟩ := pa.unique h5
      exact nb _ _ h6
    refine .inl ⟨.bin kd n a b, e2, .bin (by rw [hx, h1]) hkd hw pa pb, ?_⟩
    have ea' : (⟨(toS a).f0, (toS a).f1, (toS a).f2⟩ : S58) = toS a := by cases toS a; rfl
    have eb' : (⟨(toS b).f0, (toS b).f1, (toS b).f2⟩ : S58) = toS b := by cases toS b; rfl
    refine go (one _ [] hk2 (by simp) (Ev.bind ea (Ev.ite_pos rfl (Ev.ite_pos (by simp) ?_))))
    show Ev (fun k => impl_combAt.l0 k l i (e1 : Int) kd n ([] ++ [(⟨(toS a).f0, (toS a).f1, (toS a).f2⟩ : S58)])) _
    rw [ea', List.nil_append]
    refine one e1 [toS a] hk2 (by simp) (Ev.bind eb (Ev.ite_pos rfl (Ev.ite_pos (by simp) ?_)))
    show Ev (fun k => impl_combAt.l0 k l i (e2 : Int) kd n ([toS a] ++ [(⟨(toS b).f0, (toS b).f1, (toS b).f2⟩ : S58)])) _
    rw [eb']
    exact done (e2 : Int) [toS a, toS b] (fun _ => rfl)

/-- A node's number may stand beside its kind. -/
def numOk (k n : Int) : Prop := 0 ≤ n ∧ n ≤ 999 ∧ (k = 1 ∨ n = 0)

theorem Tr.depth_le (t : Tr) : t.depth ≤ t.size ∧ 1 ≤ t.depth := by
  induction t with
  | leaf k n => exact ⟨Nat.le_refl _, Nat.le_refl _⟩
  | un k n a ih => show a.depth + 1 ≤ 1 + a.size ∧ 1 ≤ a.depth + 1; omega
  | bin k n a b iha ihb => show max a.depth b.depth + 1 ≤ 1 + a.size + b.size ∧ 1 ≤ max a.depth b.depth + 1; omega

theorem measure_ev : ∀ (t : Tr), t.size ≤ 4000 → ∃ b, Ev (fun k => impl_comb_measure.f k (toS t).f0 (toS t).f1 (toS t).f2) ((t.size : Int), (t.depth : Int), b) ∧ (b = true ↔ t.all numOk) := by
  -- the node itself
  have node : ∀ (kd n : Int) (ps : List S58), ∃ c : Bool, (c = true ↔ numOk kd n) ∧ ∀ {r}, Ev (fun k => impl_comb_measure.l0 k 1 0 c ps ps.length 0) r → Ev (fun k => impl_comb_measure.f k kd n ps) r := by
    intro kd n ps
    have fin : ∀ (c : Bool) {r}, Ev (fun k => impl_comb_measure.l0 k 1 0 c ps ps.length 0) r → Ev (fun k => impl_comb_measure.j0 k 1 0 c kd n ps) r := fun c r h => Ev.step (fun k => rfl) h
    unfold numOk
    by_cases h1 : n ≥ 0
    · by_cases h2 : n ≤ 999
      · by_cases h3 : kd = 1
        · exact ⟨true, by simp; omega, fun h => Ev.step (fun k => by simp only [impl_comb_measure.f]; rw [if_pos h1, if_pos h2, if_pos h3]) (fin _ h)⟩
        · exact ⟨n == 0, by simp; omega, fun h => Ev.step (fun k => by simp only [impl_comb_measure.f]; rw [if_pos h1, if_pos h2, if_neg h3]) (fin _ h)⟩
      · exact ⟨false, by simp; omega, fun h => Ev.step (fun k => by simp only [impl_comb_measure.f]; rw [if_pos h1, if_neg h2]) (fin _ h)⟩
    · exact ⟨false, by simp; omega, fun h => Ev.step (fun k => by simp only [impl_comb_measure.f]; rw [if_neg h1]) (fin _ h)⟩
  have fin : ∀ (s dp : Nat) (c : Bool) (ps : List S58), dp ≤ 4000 → Ev (fun k => impl_comb_measure.l0 k s dp c ps ps.length ps.length) ((s : Int), ((dp + 1 : Nat) : Int), c) := by
    intro s dp c ps hd
    refine Ev.step (f := fun _ => some ((s : Int), ((dp + 1 : Nat) : Int), c)) (fun k => ?_) (Ev.now _)
    simp only [impl_comb_measure.l0]
    rw [if_neg (by omega), w64 (by omega) (by omega)]
    rfl
  have part : ∀ (s dp i s2 d2 : Nat) (c b : Bool) (ps : List S58) (x : S58), i < ps.length → ps.length ≤ 2 → rd_T58 ps i = x → s + s2 ≤ 4000 → Ev (fun k => impl_comb_measure.f k x.f0 x.f1 x.f2) ((s2 : Int), (d2 : Int), b) → ∀ {r}, Ev (fun k => impl_comb_measure.l0 k ((s + s2 : Nat) : Int) ((max dp d2 : Nat) : Int) (c && b) ps ps.length ((i + 1 : Nat) : Int)) r → Ev (fun k => impl_comb_measure.l0 k s dp c ps ps.length i) r := by
    intro s dp i s2 d2 c b ps x hi hl hx hs hE r h
    have hm : mx (dp : Int) (d2 : Int) = ((max dp d2 : Nat) : Int) := by unfold mx; split <;> omega
    refine Ev.step (f := fun k => (impl_comb_measure.f k x.f0 x.f1 x.f2).bind fun bt => (if c = true then (impl_comb_measure.l0 k (wrap64 ((s : Int) + bt.1)) (mx dp bt.2.1) bt.2.2 ps ps.length ((i + 1 : Nat) : Int)) else (impl_comb_measure.l0 k (wrap64 ((s : Int) + bt.1)) (mx dp bt.2.1) false ps ps.length ((i + 1 : Nat) : Int)))) (fun k => ?_) (Ev.bind hE ?_)
    · simp only [impl_comb_measure.l0]
      rw [if_pos (by omega), if_pos (by omega), if_pos (by omega), hx, next i hi (by omega)]
    · show Ev (fun k => if c = true then (impl_comb_measure.l0 k (wrap64 ((s : Int) + s2)) (mx dp d2) b ps ps.length ((i + 1 : Nat) : Int)) else (impl_comb_measure.l0 k (wrap64 ((s : Int) + s2)) (mx dp d2) false ps ps.length ((i + 1 : Nat) : Int))) r
      rw [hm, w64 (by omega) (by omega), show (s : Int) + s2 = ((s + s2 : Nat) : Int) by omega]
      by_cases hc : c = true
      · subst hc; rw [Bool.true_and] at h; exact Ev.ite_pos rfl h
      · obtain rfl : c = false := by simpa using hc
        rw [Bool.false_and] at h; exact Ev.ite_neg (by simp) h
  intro t
  induction t with
  | leaf kd n =>
    intro _
    obtain ⟨c, hc, hE⟩ := node kd n []
    exact ⟨c, hE (fin 1 0 c [] (by omega)), hc⟩
  | un kd n a ih =>
    intro hs
    have hs' : 1 + a.size ≤ 4000 := hs
    obtain ⟨b, hb, hbi⟩ := ih (by omega)
    obtain ⟨c, hc, hE⟩ := node kd n [toS a]
    have := Tr.depth_le a
    refine ⟨c && b, ?_, ?_⟩
    · refine hE (part 1 0 0 a.size a.depth c b [toS a] (toS a) (by simp) (by simp) rfl hs' hb (Ev.of_eq (fin (1 + a.size) (max 0 a.depth) (c && b) [toS a] (by omega)) ?_))
      rw [Nat.zero_max]; rfl
    · rw [Bool.and_eq_true, hc, hbi]; exact Iff.rfl
  | bin kd n x y ihx ihy =>
    intro hs
    have hs' : 1 + x.size + y.size ≤ 4000 := hs
    obtain ⟨b1, hb1, hbi1⟩ := ihx (by omega)
    obtain ⟨b2, hb2, hbi2⟩ := ihy (by omega)
    obtain ⟨c, hc, hE⟩ := node kd n [toS x, toS y]
    have := Tr.depth_le x
    have := Tr.depth_le y
    refine ⟨(c && b1) && b2, ?_, ?_⟩
    · refine hE (part 1 0 0 x.size x.depth c b1 [toS x, toS y] (toS x) (by simp) (by simp) rfl (by omega) hb1 ?_)
      refine part (1 + x.size) (max 0 x.depth) 1 y.size y.depth (c && b1) b2 [toS x, toS y] (toS y) (by simp) (by simp) rfl hs' hb2 ?_
      refine Ev.of_eq (fin (1 + x.size + y.size) (max (max 0 x.depth) y.depth) ((c && b1) && b2) [toS x, toS y] (by omega)) ?_
      rw [Nat.zero_max]; rfl
    · rw [Bool.and_eq_true, Bool.and_eq_true, hc, hbi1, hbi2, and_assoc]; exact Iff.rfl
end Go.Proofs.Ytcjhhdecckcibaa.CombL
