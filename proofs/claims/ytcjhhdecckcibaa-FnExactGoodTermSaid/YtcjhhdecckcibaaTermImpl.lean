/- Which terms the program finds good: it reads them from the front. No condition but those each lemma names. -/
import Derived.Test.YtcjhhdecckcibaaTermGood
namespace Go.Proofs.Ytcjhhdecckcibaa.TermL
open Go.RowKit Go.Proofs.Ytcjhhdecckcibaa.G Go.Proofs.Ytcjhhdecckcibaa.EvL Go.Proofs.Ytcjhhdecckcibaa.TreeM Go.Proofs.YtcjhhdecckcibaaW.PrintWords Go.Proofs.YtcjhhdecckcibaaW.PrintLast
set_option linter.unusedVariables false

/-- A tree as the program keeps it. -/
def toS : Tr → S68
  | .leaf k n => ⟨k, n, []⟩
  | .un k n a => ⟨k, n, [toS a]⟩
  | .bin k n a b => ⟨k, n, [toS a, toS b]⟩
theorem toS_eta (a : Tr) : (⟨(toS a).f0, (toS a).f1, (toS a).f2⟩ : S68) = toS a := by cases toS a; rfl

theorem at_nd {l : List S62} {i : Nat} (h : i < l.length) : (l.map nd)[i]? = some ⟨(l.getD i z62).f0, (l.getD i z62).f1, TreeM.up (l.map nd) i⟩ := by
  rw [get_of (by rw [List.length_map]; exact h), getD_nd, ← up_nd]; rfl

theorem termAt_ev (l : List S62) (hl : l.length ≤ 200) : ∀ (d i : Nat) (u : Int), i + d = l.length →
    (∃ t e, Par ar (l.map nd) i u t e ∧ Ev (fun k => impl_termAt.f k l i u) ((toS t).f0, (toS t).f1, (toS t).f2, (e : Int), true)) ∨
    ((∀ t e, ¬ Par ar (l.map nd) i u t e) ∧ Ev (fun k => impl_termAt.f k l i u) (0, 0, ([] : List S68), 0, false)) := by
  intro d
  induction d using Nat.strongRecOn with
  | _ d ih =>
    intro i u hi
    have bad : ∀ {x}, Ev (fun k => impl_termAt.j0 k l x true) (0, 0, ([] : List S68), 0, false) := fun {x} => Ev.step (f := fun _ => some (0, 0, ([] : List S68), 0, false)) (fun k => by simp only [impl_termAt.j0]; rfl) (Ev.now _)
    have hlen : (l.map nd).length = l.length := List.length_map ..
    by_cases hd : d = 0
    · refine .inr ⟨fun t e h => ?_, Ev.step (f := fun k => impl_termAt.j0 k l i true) (fun k => ?_) bad⟩
      · have := h.lt; have := h.span; omega
      · simp only [impl_termAt.f]; rw [if_pos (by omega)]
    have hil : i < l.length := by omega
    have hx := at_nd hil
    generalize hk : (l.getD i z62).f0 = kd at *
    generalize hn : (l.getD i z62).f1 = n at *
    -- what a tree from here on begins with
    have inv : ∀ {t e}, Par ar (l.map nd) i u t e → TreeM.up (l.map nd) i = u ∧ 1 ≤ kd ∧ kd ≤ 3 := by
      intro t e h
      cases h with
      | leaf h2 h3 _ => rw [hx] at h2; injection h2 with h2; injection h2 with a b c; subst a; exact ⟨c, h3⟩
      | un h2 h3 _ _ => rw [hx] at h2; injection h2 with h2; injection h2 with a b c; subst a; exact ⟨c, h3⟩
      | bin h2 h3 _ _ _ => rw [hx] at h2; injection h2 with h2; injection h2 with a b c; subst a; exact ⟨c, h3⟩
    have st : ∀ k, impl_termAt.f (k + 1) l i u = (if TreeM.up (l.map nd) i = u then (if kd < 1 then (impl_termAt.j0 k l i true) else (impl_termAt.j0 k l i (decide (kd > 3)))) else (impl_termAt.j0 k l i true)) := by
      intro k
      simp only [impl_termAt.f]
      rw [if_neg (by omega), if_pos (by omega), if_pos (by omega), rdC, up_nd, hk]
    by_cases h1 : TreeM.up (l.map nd) i = u
    case neg => exact .inr ⟨fun t e h => h1 (inv h).1, Ev.step (fun k => (st k).trans (if_neg h1)) bad⟩
    have st := fun k => (st k).trans (if_pos h1)
    by_cases h2 : kd < 1
    · exact .inr ⟨fun t e h => by have := inv h; omega, Ev.step (fun k => (st k).trans (if_pos h2)) bad⟩
    have st := fun k => (st k).trans (if_neg h2)
    by_cases h3 : kd > 3
    · refine .inr ⟨fun t e h => by have := inv h; omega, Ev.step (f := fun k => impl_termAt.j0 k l i true) (fun k => ?_) bad⟩
      rw [st k, decide_eq_true h3]
    have hkd : 1 ≤ kd ∧ kd ≤ ar.top := ⟨by omega, by show kd ≤ 3; omega⟩
    -- the rounds over its parts
    have go : ∀ {r}, Ev (fun k => impl_termAt.l0 k l i ((i + 1 : Nat) : Int) (kd - 1) 0 kd n []) r → Ev (fun k => impl_termAt.f k l i u) r := by
      intro r hE
      refine Ev.step (f := fun k => impl_termAt.j0 k l i false) (fun k => ?_) (Ev.step (fun k => ?_) hE)
      · rw [st k, decide_eq_false h3]
      · simp only [impl_termAt.j0]
        rw [if_neg (by simp), if_pos (by omega), if_pos (by omega), rdC, hk, hn, next i hil (by omega), w64 (x := kd - 1) (by omega) (by omega)]
    have done : ∀ (e j : Int) (ps : List S68), ¬ j < kd - 1 → Ev (fun k => impl_termAt.l0 k l i e (kd - 1) j kd n ps) (kd, n, ps, e, true) := by
      intro e j ps hps
      refine Ev.step (f := fun _ => some (kd, n, ps, e, true)) (fun k => ?_) (Ev.now _)
      simp only [impl_termAt.l0]
      rw [if_neg hps]
    have one : ∀ (e : Nat) (j : Int) (ps : List S68), 0 ≤ j → j < kd - 1 → ∀ {r}, Ev (fun k => (impl_termAt.f k l e i).bind fun bt => (if bt.2.2.2.2 = true then (if ps.length < 3518437208883 then (impl_termAt.l0 k l i bt.2.2.2.1 (kd - 1) (j + 1) kd n (ps ++ [(⟨bt.1, bt.2.1, bt.2.2.1⟩ : S68)])) else (none)) else (some (0, 0, ([] : List S68), 0, false)))) r → Ev (fun k => impl_termAt.l0 k l i e (kd - 1) j kd n ps) r := by
      intro e j ps hj0 hj r hE
      refine Ev.step (fun k => ?_) hE
      simp only [impl_termAt.l0]
      rw [if_pos hj, w64 (x := j + 1) (by omega) (by omega)]
    by_cases hk1 : kd = 1
    · refine .inl ⟨.leaf kd n, i + 1, .leaf (by rw [hx, h1]) hkd (by rw [hk1]; rfl), ?_⟩
      exact go (done _ _ _ (by omega))
    have inva : ∀ {t e}, Par ar (l.map nd) i u t e → ∃ a e1, Par ar (l.map nd) (i + 1) i a e1 := by
      intro t e h
      cases h with
      | leaf h2 h3 h4 =>
        rw [hx] at h2; injection h2 with h2; injection h2 with a b c; subst a
        have : kd = 2 ∨ kd = 3 := by omega
        rcases this with rfl | rfl <;> exact absurd h4 (by decide)
      | un h2 _ _ h5 => exact ⟨_, _, h5⟩
      | bin _ _ _ h5 _ => exact ⟨_, _, h5⟩
    rcases ih (d - 1) (by omega) (i + 1) i (by omega) with ⟨a, e1, pa, ea⟩ | ⟨na, ea⟩
    case inr =>
      refine .inr ⟨fun t e h => ?_, go (one _ _ _ (by omega) (by omega) (Ev.bind ea (Ev.ite_neg (by simp) (Ev.now _))))⟩
      obtain ⟨a, e1, h5⟩ := inva h
      exact na _ _ h5
    have s1 := pa.span
    have l1 := pa.lt
    by_cases hk2 : kd = 2
    · refine .inl ⟨.un kd n a, e1, .un (by rw [hx, h1]) hkd (by rw [hk2]; rfl) pa, ?_⟩
      refine go (one _ 0 [] (by omega) (by omega) (Ev.bind ea (Ev.ite_pos rfl (Ev.ite_pos (by simp) ?_))))
      show Ev (fun k => impl_termAt.l0 k l i (e1 : Int) (kd - 1) (0 + 1) kd n ([] ++ [(⟨(toS a).f0, (toS a).f1, (toS a).f2⟩ : S68)])) _
      rw [toS_eta, List.nil_append]
      exact done (e1 : Int) _ [toS a] (by omega)
    have hk3 : kd = 3 := by omega
    have hw : ar.want kd = 2 := by rw [hk3]; rfl
    have invb : ∀ {t e}, Par ar (l.map nd) i u t e → ∃ a b e1, Par ar (l.map nd) (i + 1) i a e1 ∧ Par ar (l.map nd) e1 i b e := by
      intro t e h
      cases h with
      | leaf h2 _ h4 => rw [hx] at h2; injection h2 with h2; injection h2 with a b c; subst a; omega
      | un h2 _ h4 _ => rw [hx] at h2; injection h2 with h2; injection h2 with a b c; subst a; omega
      | bin _ _ _ h5 h6 => exact ⟨_, _, _, h5, h6⟩
    rcases ih (l.length - e1) (by omega) e1 i (by omega) with ⟨b, e2, pb, eb⟩ | ⟨nb, eb⟩
    case inr =>
      refine .inr ⟨fun t e h => ?_, go (one _ 0 _ (by omega) (by omega) (Ev.bind ea (Ev.ite_pos rfl (Ev.ite_pos (by simp) (one _ _ _ (by omega) (by omega) (Ev.bind eb (Ev.ite_neg (by simp) (Ev.now _))))))))⟩
      obtain ⟨a', b', e1', h5, h6⟩ := invb h
      obtain ⟨_, rfl⟩ := pa.unique h5
      exact nb _ _ h6
    refine .inl ⟨.bin kd n a b, e2, .bin (by rw [hx, h1]) hkd hw pa pb, ?_⟩
    refine go (one _ 0 [] (by omega) (by omega) (Ev.bind ea (Ev.ite_pos rfl (Ev.ite_pos (by simp) ?_))))
    show Ev (fun k => impl_termAt.l0 k l i (e1 : Int) (kd - 1) (0 + 1) kd n ([] ++ [(⟨(toS a).f0, (toS a).f1, (toS a).f2⟩ : S68)])) _
    rw [toS_eta, List.nil_append]
    refine one e1 _ [toS a] (by omega) (by omega) (Ev.bind eb (Ev.ite_pos rfl (Ev.ite_pos (by simp) ?_)))
    show Ev (fun k => impl_termAt.l0 k l i (e2 : Int) (kd - 1) (0 + 1 + 1) kd n ([toS a] ++ [(⟨(toS b).f0, (toS b).f1, (toS b).f2⟩ : S68)])) _
    rw [toS_eta]
    exact done (e2 : Int) _ [toS a, toS b] (by omega)

/-- A node's number may stand beside its kind. -/
def numOk (k n : Int) : Prop := 0 ≤ n ∧ n ≤ 99 ∧ (k = 1 ∨ n = 0)

theorem Tr.depth_le (t : Tr) : t.depth ≤ t.size ∧ 1 ≤ t.depth := by
  induction t with
  | leaf k n => exact ⟨Nat.le_refl _, Nat.le_refl _⟩
  | un k n a ih => show a.depth + 1 ≤ 1 + a.size ∧ 1 ≤ a.depth + 1; omega
  | bin k n a b iha ihb => show max a.depth b.depth + 1 ≤ 1 + a.size + b.size ∧ 1 ≤ max a.depth b.depth + 1; omega

theorem size_ev : ∀ (t : Tr), t.size ≤ 4000 → Ev (fun k => impl_term_size.f k (toS t).f0 (toS t).f1 (toS t).f2) (t.size : Int) := by
  have start : ∀ (kd n : Int) (ps : List S68) {r}, Ev (fun k => impl_term_size.l0 k 1 ps ps.length 0) r → Ev (fun k => impl_term_size.f k kd n ps) r := fun kd n ps r h => Ev.step (fun k => rfl) h
  have fin : ∀ (s : Int) (ps : List S68), Ev (fun k => impl_term_size.l0 k s ps ps.length ps.length) s := by
    intro s ps
    refine Ev.step (f := fun _ => some s) (fun k => ?_) (Ev.now _)
    simp only [impl_term_size.l0]
    rw [if_neg (by omega)]
  have part : ∀ (s i s2 : Nat) (ps : List S68) (x : S68), i < ps.length → ps.length ≤ 2 → rd_T68 ps i = x → s + s2 ≤ 4000 → Ev (fun k => impl_term_size.f k x.f0 x.f1 x.f2) (s2 : Int) → ∀ {r}, Ev (fun k => impl_term_size.l0 k ((s + s2 : Nat) : Int) ps ps.length ((i + 1 : Nat) : Int)) r → Ev (fun k => impl_term_size.l0 k s ps ps.length i) r := by
    intro s i s2 ps x hi hl hx hs hE r h
    refine Ev.step (f := fun k => (impl_term_size.f k x.f0 x.f1 x.f2).bind fun t104 => impl_term_size.l0 k (wrap64 ((s : Int) + t104)) ps ps.length ((i + 1 : Nat) : Int)) (fun k => ?_) (Ev.bind hE ?_)
    · simp only [impl_term_size.l0]
      rw [if_pos (by omega), if_pos (by omega), if_pos (by omega), hx, next i hi (by omega)]
    · show Ev (fun k => impl_term_size.l0 k (wrap64 ((s : Int) + s2)) ps ps.length ((i + 1 : Nat) : Int)) r
      rw [w64 (by omega) (by omega), show (s : Int) + s2 = ((s + s2 : Nat) : Int) by omega]
      exact h
  intro t
  induction t with
  | leaf kd n => intro _; exact start kd n [] (fin 1 [])
  | un kd n a ih =>
    intro hs
    have hs' : 1 + a.size ≤ 4000 := hs
    exact start kd n [toS a] (part 1 0 a.size [toS a] (toS a) (by simp) (by simp) rfl hs' (ih (by omega)) (fin _ [toS a]))
  | bin kd n x y ihx ihy =>
    intro hs
    have hs' : 1 + x.size + y.size ≤ 4000 := hs
    exact start kd n [toS x, toS y] (part 1 0 x.size [toS x, toS y] (toS x) (by simp) (by simp) rfl (by omega) (ihx (by omega))
      (part (1 + x.size) 1 y.size [toS x, toS y] (toS y) (by simp) (by simp) rfl hs' (ihy (by omega)) (fin _ [toS x, toS y])))

theorem depth_ev : ∀ (t : Tr), t.size ≤ 4000 → Ev (fun k => impl_term_depth.f k (toS t).f0 (toS t).f1 (toS t).f2) (t.depth : Int) := by
  have start : ∀ (kd n : Int) (ps : List S68) {r}, Ev (fun k => impl_term_depth.l0 k 0 ps ps.length 0) r → Ev (fun k => impl_term_depth.f k kd n ps) r := fun kd n ps r h => Ev.step (fun k => rfl) h
  have fin : ∀ (s : Nat) (ps : List S68), s ≤ 4000 → Ev (fun k => impl_term_depth.l0 k s ps ps.length ps.length) ((s + 1 : Nat) : Int) := by
    intro s ps hs
    refine Ev.step (f := fun _ => some ((s + 1 : Nat) : Int)) (fun k => ?_) (Ev.now _)
    simp only [impl_term_depth.l0]
    rw [if_neg (by omega), w64 (by omega) (by omega)]
    rfl
  have part : ∀ (s i s2 : Nat) (ps : List S68) (x : S68), i < ps.length → ps.length ≤ 2 → rd_T68 ps i = x → Ev (fun k => impl_term_depth.f k x.f0 x.f1 x.f2) (s2 : Int) → ∀ {r}, Ev (fun k => impl_term_depth.l0 k ((max s s2 : Nat) : Int) ps ps.length ((i + 1 : Nat) : Int)) r → Ev (fun k => impl_term_depth.l0 k s ps ps.length i) r := by
    intro s i s2 ps x hi hl hx hE r h
    have hm : mx (s : Int) (s2 : Int) = ((max s s2 : Nat) : Int) := by unfold mx; split <;> omega
    refine Ev.step (f := fun k => (impl_term_depth.f k x.f0 x.f1 x.f2).bind fun t104 => impl_term_depth.l0 k (mx (s : Int) t104) ps ps.length ((i + 1 : Nat) : Int)) (fun k => ?_) (Ev.bind hE ?_)
    · simp only [impl_term_depth.l0]
      rw [if_pos (by omega), if_pos (by omega), if_pos (by omega), hx, next i hi (by omega)]
    · show Ev (fun k => impl_term_depth.l0 k (mx (s : Int) s2) ps ps.length ((i + 1 : Nat) : Int)) r
      rw [hm]
      exact h
  intro t
  induction t with
  | leaf kd n => intro _; exact start kd n [] (fin 0 [] (by omega))
  | un kd n a ih =>
    intro hs
    have hs' : 1 + a.size ≤ 4000 := hs
    have := Tr.depth_le a
    refine start kd n [toS a] (part 0 0 a.depth [toS a] (toS a) (by simp) (by simp) rfl (ih (by omega)) (Ev.of_eq (fin _ [toS a] (by omega)) ?_))
    rw [Nat.zero_max]; rfl
  | bin kd n x y ihx ihy =>
    intro hs
    have hs' : 1 + x.size + y.size ≤ 4000 := hs
    have := Tr.depth_le x
    have := Tr.depth_le y
    refine start kd n [toS x, toS y] (part 0 0 x.depth [toS x, toS y] (toS x) (by simp) (by simp) rfl (ihx (by omega)) (part _ 1 y.depth [toS x, toS y] (toS y) (by simp) (by simp) rfl (ihy (by omega)) (Ev.of_eq (fin _ [toS x, toS y] (by omega)) ?_)))
    rw [Nat.zero_max]; rfl

theorem node_iff (k n : Int) : Are68.nodeOk k n = true ↔ numOk k n := by
  unfold Are68.nodeOk numOk; simp; omega
theorem nums_iff : ∀ (t : Tr), (Are68.nodeOk (toS t).f0 (toS t).f1 && Are68.okL (toS t).f2) = true ↔ t.all numOk := by
  intro t
  induction t with
  | leaf k n =>
    show (Are68.nodeOk k n && Are68.okL []) = true ↔ numOk k n
    rw [Are68.okL_all]; simp [node_iff]
  | un k n a ih =>
    show (Are68.nodeOk k n && Are68.okL [toS a]) = true ↔ numOk k n ∧ a.all numOk
    rw [Are68.okL_all, ← ih, ← node_iff, ← Are68.okT_eq]; simp
  | bin k n a b iha ihb =>
    show (Are68.nodeOk k n && Are68.okL [toS a, toS b]) = true ↔ numOk k n ∧ a.all numOk ∧ b.all numOk
    rw [Are68.okL_all, ← iha, ← ihb, ← node_iff, ← Are68.okT_eq, ← Are68.okT_eq]; simp

theorem isGood_ev (t : Tr) (hs : t.size ≤ 4000) : ∃ b, Ev (fun k => impl_term_isGood.f k (toS t).f0 (toS t).f1 (toS t).f2) b ∧ (b = true ↔ t.size ≤ 150 ∧ t.depth ≤ 40 ∧ t.all numOk) := by
  have h1 := size_ev t hs
  have h2 := depth_ev t hs
  unfold impl_term_isGood.f
  by_cases c1 : t.size ≤ 150
  case neg => exact ⟨false, Ev.bind h1 (Ev.ite_neg (by omega) (Ev.now _)), fun h => absurd h (by simp), fun h => absurd h.1 c1⟩
  by_cases c2 : t.depth ≤ 40
  case neg => exact ⟨false, Ev.bind h1 (Ev.ite_pos (by omega) (Ev.bind h2 (Ev.ite_neg (by omega) (Ev.now _)))), fun h => absurd h (by simp), fun h => absurd h.2.1 c2⟩
  refine ⟨Are68.nodeOk (toS t).f0 (toS t).f1 && Are68.okL (toS t).f2, Ev.bind h1 (Ev.ite_pos (by omega) (Ev.bind h2 (Ev.ite_pos (by omega) (Ev.now _)))), ?_⟩
  rw [nums_iff]
  exact ⟨fun h => ⟨c1, c2, h⟩, fun h => h.2.2⟩
end Go.Proofs.Ytcjhhdecckcibaa.TermL
