/- Plain lemmas on trees told by nodes, each with the place of what it is in: which lists of nodes tell a tree, asked node by node and read from the front. No condition but those each lemma names. -/
import Derived.Test.YtcjhhdecckcibaaEv
namespace Go.Proofs.Ytcjhhdecckcibaa.TreeM
set_option linter.unusedVariables false

/-- A node: its kind, its number, the place of what it is in. -/
structure Nd where
  kind : Int
  n : Int
  up : Int
/-- A tree: a node with none, one or two parts. -/
inductive Tr where
  | leaf (k n : Int)
  | un (k n : Int) (a : Tr)
  | bin (k n : Int) (a b : Tr)
def Tr.kind : Tr → Int
  | .leaf k _ => k
  | .un k _ _ => k
  | .bin k _ _ _ => k
def Tr.num : Tr → Int
  | .leaf _ n => n
  | .un _ n _ => n
  | .bin _ n _ _ => n
def Tr.size : Tr → Nat
  | .leaf _ _ => 1
  | .un _ _ a => 1 + a.size
  | .bin _ _ a b => 1 + a.size + b.size
def Tr.depth : Tr → Nat
  | .leaf _ _ => 1
  | .un _ _ a => a.depth + 1
  | .bin _ _ a b => max a.depth b.depth + 1
def Tr.all (p : Int → Int → Prop) : Tr → Prop
  | .leaf k n => p k n
  | .un k n a => p k n ∧ a.all p
  | .bin k n a b => p k n ∧ a.all p ∧ b.all p

def z : Nd := ⟨0, 0, 0⟩
def up (l : List Nd) (i : Nat) : Int := (l.getD i z).up
theorem up_of {l : List Nd} {i : Nat} {x : Nd} (h : l[i]? = some x) : up l i = x.up := by unfold up; rw [List.getD_eq_getElem?_getD, h]; rfl
theorem lt_of {l : List Nd} {i : Nat} {x : Nd} (h : l[i]? = some x) : i < l.length := by
  by_cases hi : i < l.length
  · exact hi
  · rw [List.getElem?_eq_none (by omega)] at h; cases h
theorem get_of {l : List Nd} {i : Nat} (h : i < l.length) : l[i]? = some (l.getD i z) := by rw [List.getD_eq_getElem?_getD, List.getElem?_eq_getElem h]; rfl

/-- A node and all that it is in, from within. -/
def chain (l : List Nd) (i : Nat) : List Nat := i :: if h : 0 ≤ up l i ∧ up l i < (i : Int) then chain l (up l i).toNat else []
termination_by i
decreasing_by omega
theorem chain_self (l : List Nd) (i : Nat) : i ∈ chain l i := by rw [chain]; simp
theorem chain_up {l : List Nd} {i : Nat} (h : 0 ≤ up l i ∧ up l i < (i : Int)) : chain l i = i :: chain l (up l i).toNat := by rw [chain, dif_pos h]
theorem chain_top {l : List Nd} {i : Nat} (h : ¬ (0 ≤ up l i ∧ up l i < (i : Int))) : chain l i = [i] := by rw [chain, dif_neg h]
theorem chain_le {l : List Nd} : ∀ (i j : Nat), j ∈ chain l i → j ≤ i := by
  intro i
  induction i using Nat.strongRecOn with
  | _ i ih =>
    intro j hj
    by_cases h : 0 ≤ up l i ∧ up l i < (i : Int)
    · rw [chain_up h, List.mem_cons] at hj
      rcases hj with rfl | hj
      · exact Nat.le_refl _
      · have := ih _ (by omega) j hj; omega
    · rw [chain_top h] at hj
      have : j = i := by simpa using hj
      omega
theorem chain_trans {l : List Nd} : ∀ (i j x : Nat), j ∈ chain l i → x ∈ chain l j → x ∈ chain l i := by
  intro i
  induction i using Nat.strongRecOn with
  | _ i ih =>
    intro j x hj hx
    by_cases h : 0 ≤ up l i ∧ up l i < (i : Int)
    · rw [chain_up h, List.mem_cons] at hj
      rcases hj with rfl | hj
      · exact hx
      · rw [chain_up h]
        exact List.mem_cons_of_mem _ (ih _ (by omega) j x hj hx)
    · rw [chain_top h] at hj
      obtain rfl : j = i := by simpa using hj
      exact hx
/-- What is in a chain and not above one of it is in that one's chain. -/
theorem chain_below {l : List Nd} : ∀ (i j x : Nat), j ∈ chain l i → x ∈ chain l i → x ≤ j → x ∈ chain l j := by
  intro i
  induction i using Nat.strongRecOn with
  | _ i ih =>
    intro j x hj hx hle
    by_cases h : 0 ≤ up l i ∧ up l i < (i : Int)
    · rw [chain_up h, List.mem_cons] at hj hx
      rcases hj with rfl | hj
      · rw [chain_up h]; exact List.mem_cons.mpr hx
      · rcases hx with rfl | hx
        · have := chain_le _ _ hj; omega
        · exact ih _ (by omega) j x hj hx hle
    · rw [chain_top h] at hj hx
      obtain rfl : j = i := by simpa using hj
      rw [chain_top h]; exact hx
theorem chain_mem_up {l : List Nd} {i : Nat} (h : 0 ≤ up l i ∧ up l i < (i : Int)) {x : Nat} (hx : x ∈ chain l i) (hne : x ≠ i) : x ∈ chain l (up l i).toNat := by
  rw [chain_up h, List.mem_cons] at hx
  exact hx.resolve_left hne

/-- How many from a on, d of them, are in i. -/
def cnt (l : List Nd) (i : Nat) : Nat → Nat → Nat
  | _, 0 => 0
  | a, d + 1 => (if up l a = (i : Int) then 1 else 0) + cnt l i (a + 1) d
theorem cnt_add (l : List Nd) (i : Nat) : ∀ (d a d' : Nat), cnt l i a (d + d') = cnt l i a d + cnt l i (a + d) d'
  | 0, a, d' => by simp [cnt]
  | d + 1, a, d' => by
    have e : d + 1 + d' = (d + d') + 1 := by omega
    rw [e]
    show (if up l a = (i : Int) then 1 else 0) + cnt l i (a + 1) (d + d') = (if up l a = (i : Int) then 1 else 0) + cnt l i (a + 1) d + cnt l i (a + (d + 1)) d'
    rw [cnt_add l i d (a + 1) d', show a + 1 + d = a + (d + 1) by omega]; omega
theorem cnt_zero (l : List Nd) (i : Nat) : ∀ (d a : Nat), (∀ m, a ≤ m → m < a + d → up l m ≠ (i : Int)) → cnt l i a d = 0
  | 0, a, h => rfl
  | d + 1, a, h => by
    show (if up l a = (i : Int) then 1 else 0) + cnt l i (a + 1) d = 0
    rw [if_neg (h a (Nat.le_refl _) (by omega)), cnt_zero l i d (a + 1) (fun m h1 h2 => h m (by omega) (by omega))]

/-- Which kinds there are, and how many parts each wants. -/
structure Arity where
  top : Int
  want : Int → Nat

/-- The nodes from i on tell the tree t, which is in u, and end ahead of e. -/
inductive Par (A : Arity) (l : List Nd) : Nat → Int → Tr → Nat → Prop
  | leaf {i : Nat} {u k n : Int} (h : l[i]? = some ⟨k, n, u⟩) (hk : 1 ≤ k ∧ k ≤ A.top) (hw : A.want k = 0) : Par A l i u (.leaf k n) (i + 1)
  | un {i e : Nat} {u k n : Int} {a : Tr} (h : l[i]? = some ⟨k, n, u⟩) (hk : 1 ≤ k ∧ k ≤ A.top) (hw : A.want k = 1) (ha : Par A l (i + 1) i a e) : Par A l i u (.un k n a) e
  | bin {i e e' : Nat} {u k n : Int} {a b : Tr} (h : l[i]? = some ⟨k, n, u⟩) (hk : 1 ≤ k ∧ k ≤ A.top) (hw : A.want k = 2) (ha : Par A l (i + 1) i a e) (hb : Par A l e i b e') : Par A l i u (.bin k n a b) e'

theorem Par.span {A : Arity} {l : List Nd} {i e : Nat} {u : Int} {t : Tr} (h : Par A l i u t e) : e = i + t.size ∧ e ≤ l.length ∧ up l i = u := by
  induction h with
  | @leaf i u k n h hk hw => exact ⟨rfl, lt_of h, up_of h⟩
  | @un i e u k n a h hk hw ha ih => exact ⟨by rw [ih.1]; show _ = _ + (1 + _); omega, ih.2.1, up_of h⟩
  | @bin i e e' u k n a b h hk hw ha hb ih1 ih2 => exact ⟨by rw [ih2.1, ih1.1]; show _ = _ + (1 + _ + _); omega, ih2.2.1, up_of h⟩
theorem Tr.size_pos (t : Tr) : 0 < t.size := by cases t <;> (simp only [Tr.size]; omega)
theorem Par.lt {A : Arity} {l : List Nd} {i e : Nat} {u : Int} {t : Tr} (h : Par A l i u t e) : i < e := by have := h.span.1; have := t.size_pos; omega

/-- Each node inside is in one of these ahead of it. -/
theorem Par.inside {A : Arity} {l : List Nd} {i e : Nat} {u : Int} {t : Tr} (h : Par A l i u t e) : ∀ m, i < m → m < e → (i : Int) ≤ up l m ∧ up l m < (m : Int) := by
  induction h with
  | @leaf i u k n h hk hw => intro m h1 h2; omega
  | @un i e u k n a h hk hw ha ih =>
    intro m h1 h2
    by_cases hm : m = i + 1
    · subst hm; rw [ha.span.2.2]; omega
    · have := ih m (by omega) h2; omega
  | @bin i e e' u k n a b h hk hw ha hb ih1 ih2 =>
    intro m h1 h2
    have := ha.lt
    by_cases hm : m = i + 1
    · subst hm; rw [ha.span.2.2]; omega
    · by_cases hme : m < e
      · have := ih1 m (by omega) hme; omega
      · by_cases hm2 : m = e
        · subst hm2; rw [hb.span.2.2]; omega
        · have := ih2 m (by omega) h2; omega

theorem anc_of_sub {l : List Nd} {i e : Nat} (h : ∀ m, i < m → m < e → (i : Int) ≤ up l m ∧ up l m < (m : Int)) : ∀ m, i ≤ m → m < e → i ∈ chain l m := by
  intro m
  induction m using Nat.strongRecOn with
  | _ m ih =>
    intro h1 h2
    by_cases hm : m = i
    · subst hm; exact chain_self l m
    · have hu := h m (by omega) h2
      rw [chain_up (by omega)]
      exact List.mem_cons_of_mem _ (ih (up l m).toNat (by omega) (by omega) (by omega))

theorem Par.around {A : Arity} {l : List Nd} {i e : Nat} {u : Int} {t : Tr} (h : Par A l i u t e) : ∀ m, i < m → m < e → (up l m).toNat ∈ chain l (m - 1) := by
  induction h with
  | @leaf i u k n h hk hw => intro m h1 h2; omega
  | @un i e u k n a h hk hw ha ih =>
    intro m h1 h2
    by_cases hm : m = i + 1
    · subst hm; rw [ha.span.2.2]; exact chain_self l i
    · exact ih m (by omega) h2
  | @bin i e e' u k n a b h hk hw ha hb ih1 ih2 =>
    intro m h1 h2
    have hlt := ha.lt
    by_cases hm : m = i + 1
    · subst hm; rw [ha.span.2.2]; exact chain_self l i
    · by_cases hme : m < e
      · exact ih1 m (by omega) hme
      · by_cases hm2 : m = e
        · subst hm2
          rw [hb.span.2.2]
          exact anc_of_sub (e := m) (fun q h3 h4 => (Par.bin h hk hw ha hb).inside q h3 (by have := hb.lt; omega)) (m - 1) (by omega) (by omega)
        · exact ih2 m (by omega) h2

theorem Par.counts {A : Arity} {l : List Nd} {i e : Nat} {u : Int} {t : Tr} (h : Par A l i u t e) : ∀ m, i ≤ m → m < e → ∃ k n v, l[m]? = some ⟨k, n, v⟩ ∧ (1 ≤ k ∧ k ≤ A.top) ∧ cnt l m (m + 1) (e - (m + 1)) = A.want k := by
  induction h with
  | @leaf i u k n h hk hw =>
    intro m h1 h2
    obtain rfl : m = i := by omega
    exact ⟨k, n, u, h, hk, by rw [hw, Nat.sub_self]; rfl⟩
  | @un i e u k n a h hk hw ha ih =>
    intro m h1 h2
    have hlt := ha.lt
    by_cases hm : m = i
    · subst hm
      refine ⟨k, n, u, h, hk, ?_⟩
      obtain ⟨d, hd⟩ : ∃ d, e - (m + 1) = d + 1 := ⟨e - (m + 1) - 1, by omega⟩
      rw [hd, hw]
      show (if up l (m + 1) = (m : Int) then 1 else 0) + cnt l m (m + 1 + 1) d = 1
      rw [if_pos ha.span.2.2, cnt_zero]
      intro q h3 h4
      have := ha.inside q (by omega) (by omega); omega
    · exact ih m (by omega) h2
  | @bin i e e' u k n a b h hk hw ha hb ih1 ih2 =>
    intro m h1 h2
    have hlt := ha.lt
    have hlt2 := hb.lt
    by_cases hm : m = i
    · subst hm
      refine ⟨k, n, u, h, hk, ?_⟩
      obtain ⟨d, hd⟩ : ∃ d, e - (m + 1) = d + 1 := ⟨e - (m + 1) - 1, by omega⟩
      obtain ⟨d2, hd2⟩ : ∃ d2, e' - e = d2 + 1 := ⟨e' - e - 1, by omega⟩
      rw [show e' - (m + 1) = (d + 1) + (d2 + 1) by omega, hw, cnt_add, show m + 1 + (d + 1) = e by omega]
      show (if up l (m + 1) = (m : Int) then 1 else 0) + cnt l m (m + 1 + 1) d + ((if up l e = (m : Int) then 1 else 0) + cnt l m (e + 1) d2) = 2
      rw [if_pos ha.span.2.2, if_pos hb.span.2.2, cnt_zero, cnt_zero]
      · intro q h3 h4
        have := hb.inside q (by omega) (by omega); omega
      · intro q h3 h4
        have := ha.inside q (by omega) (by omega); omega
    · by_cases hme : m < e
      · obtain ⟨k', n', v', h3, h4, h5⟩ := ih1 m (by omega) hme
        refine ⟨k', n', v', h3, h4, ?_⟩
        rw [show e' - (m + 1) = (e - (m + 1)) + (e' - e) by omega, cnt_add, h5, show m + 1 + (e - (m + 1)) = e by omega, cnt_zero, Nat.add_zero]
        intro q h6 h7
        by_cases hq : q = e
        · subst hq; rw [hb.span.2.2]; omega
        · have := hb.inside q (by omega) (by omega); omega
      · exact ih2 m (by omega) h2

/-- The deepest node inside. -/
theorem Par.deep {A : Arity} {l : List Nd} {i e : Nat} {u : Int} {t : Tr} (h : Par A l i u t e) : (∀ m, i ≤ m → m < e → (chain l m).length + 1 ≤ (chain l i).length + t.depth) ∧ ∃ m, i ≤ m ∧ m < e ∧ (chain l m).length + 1 = (chain l i).length + t.depth := by
  have up1 : ∀ (q i : Nat), up l q = (i : Int) → i < q → (chain l q).length = (chain l i).length + 1 := fun q i h1 h2 => by
    rw [chain_up (by omega), h1]; simp
  induction h with
  | @leaf i u k n h hk hw =>
    exact ⟨fun m h1 h2 => by obtain rfl : m = i := by omega
                             exact Nat.le_refl _, i, Nat.le_refl _, by omega, rfl⟩
  | @un i e u k n a h hk hw ha ih =>
    have hlt := ha.lt
    have e1 := up1 (i + 1) i ha.span.2.2 (by omega)
    refine ⟨fun m h1 h2 => ?_, ?_⟩
    · by_cases hm : m = i
      · subst hm; show _ ≤ _ + (a.depth + 1); omega
      · have := ih.1 m (by omega) h2; show _ ≤ _ + (a.depth + 1); omega
    · obtain ⟨m, h1, h2, h3⟩ := ih.2
      exact ⟨m, by omega, h2, by show _ = _ + (a.depth + 1); omega⟩
  | @bin i e e' u k n a b h hk hw ha hb ih1 ih2 =>
    have hlt := ha.lt
    have hlt2 := hb.lt
    have e1 := up1 (i + 1) i ha.span.2.2 (by omega)
    have e2 := up1 e i hb.span.2.2 (by omega)
    refine ⟨fun m h1 h2 => ?_, ?_⟩
    · show _ ≤ _ + (max a.depth b.depth + 1)
      by_cases hm : m = i
      · subst hm; omega
      · by_cases hme : m < e
        · have := ih1.1 m (by omega) hme; omega
        · have := ih2.1 m (by omega) h2; omega
    · by_cases hd : b.depth ≤ a.depth
      · obtain ⟨m, h1, h2, h3⟩ := ih1.2
        exact ⟨m, by omega, by omega, by show _ = _ + (max a.depth b.depth + 1); omega⟩
      · obtain ⟨m, h1, h2, h3⟩ := ih2.2
        exact ⟨m, by omega, by omega, by show _ = _ + (max a.depth b.depth + 1); omega⟩

theorem Par.alls {A : Arity} {l : List Nd} {i e : Nat} {u : Int} {t : Tr} (h : Par A l i u t e) (p : Int → Int → Prop) : t.all p ↔ ∀ m, i ≤ m → m < e → p (l.getD m z).kind (l.getD m z).n := by
  have at1 : ∀ (q : Nat) (x : Nd), l[q]? = some x → l.getD q z = x := fun q x h => by rw [List.getD_eq_getElem?_getD, h]; rfl
  induction h with
  | @leaf i u k n h hk hw =>
    constructor
    · intro h1 m h2 h3
      obtain rfl : m = i := by omega
      rw [at1 _ _ h]; exact h1
    · intro h1
      have := h1 i (Nat.le_refl _) (by omega)
      rw [at1 _ _ h] at this; exact this
  | @un i e u k n a h hk hw ha ih =>
    have hlt := ha.lt
    constructor
    · rintro ⟨h1, h2⟩ m h3 h4
      by_cases hm : m = i
      · subst hm; rw [at1 _ _ h]; exact h1
      · exact ih.mp h2 m (by omega) h4
    · intro h1
      have := h1 i (Nat.le_refl _) (by omega)
      rw [at1 _ _ h] at this
      exact ⟨this, ih.mpr (fun m h3 h4 => h1 m (by omega) h4)⟩
  | @bin i e e' u k n a b h hk hw ha hb ih1 ih2 =>
    have hlt := ha.lt
    have hlt2 := hb.lt
    constructor
    · rintro ⟨h1, h2, h2'⟩ m h3 h4
      by_cases hm : m = i
      · subst hm; rw [at1 _ _ h]; exact h1
      · by_cases hme : m < e
        · exact ih1.mp h2 m (by omega) hme
        · exact ih2.mp h2' m (by omega) h4
    · intro h1
      have := h1 i (Nat.le_refl _) (by omega)
      rw [at1 _ _ h] at this
      exact ⟨this, ih1.mpr (fun m h3 h4 => h1 m (by omega) (by omega)), ih2.mpr (fun m h3 h4 => h1 m (by omega) (by omega))⟩

/-- Asked node by node. -/
structure Loc (A : Arity) (l : List Nd) : Prop where
  root : ∀ h : 0 < l.length, up l 0 = -1
  ahead : ∀ m, 0 < m → m < l.length → 0 ≤ up l m ∧ up l m < (m : Int)
  around : ∀ m, 0 < m → m < l.length → (up l m).toNat ∈ chain l (m - 1)
  kinds : ∀ m, m < l.length → 1 ≤ (l.getD m z).kind ∧ (l.getD m z).kind ≤ A.top
  wants : ∀ m, m < l.length → cnt l m (m + 1) (l.length - (m + 1)) = A.want (l.getD m z).kind

theorem Par.loc {A : Arity} {l : List Nd} {t : Tr} (h : Par A l 0 (-1) t l.length) : Loc A l := by
  have at1 : ∀ (q : Nat) (x : Nd), l[q]? = some x → l.getD q z = x := fun q x h => by rw [List.getD_eq_getElem?_getD, h]; rfl
  refine ⟨fun _ => h.span.2.2, fun m h1 h2 => by have := h.inside m h1 h2; omega, fun m h1 h2 => h.around m h1 h2, fun m h1 => ?_, fun m h1 => ?_⟩
  · obtain ⟨k, n, v, h2, h3, _⟩ := h.counts m (by omega) h1
    rw [at1 _ _ h2]; exact h3
  · obtain ⟨k, n, v, h2, _, h3⟩ := h.counts m (by omega) h1
    rw [at1 _ _ h2]; exact h3

/-- Behind the end of a node's parts nothing is in it or in them. -/
theorem Loc.past {A : Arity} {l : List Nd} (L : Loc A l) {i e : Nat} (hi : i < e) (he : e < l.length) (hu : up l e < (i : Int)) : ∀ m, e ≤ m → m < l.length → ∀ x ∈ chain l m, x < i ∨ e ≤ x := by
  intro m
  induction m using Nat.strongRecOn with
  | _ m ih =>
    intro h1 h2 x hx
    have ha := L.ahead m (by omega) h2
    rw [chain_up ha, List.mem_cons] at hx
    rcases hx with rfl | hx
    · exact .inr h1
    · by_cases hm : m = e
      · subst hm
        have := chain_le _ _ hx
        exact .inl (by omega)
      · exact ih (m - 1) (by omega) (by omega) (by omega) x (chain_trans _ _ _ (L.around m (by omega) h2) hx)

theorem Loc.par {A : Arity} {l : List Nd} (L : Loc A l) (hA : ∀ k, A.want k ≤ 2) : ∀ (d i : Nat), i + d = l.length → 0 < d → ∃ t e, Par A l i (up l i) t e ∧ (e = l.length ∨ up l e < (i : Int)) := by
  intro d
  induction d using Nat.strongRecOn with
  | _ d ih =>
    intro i hi hd
    have hlt : i < l.length := by omega
    have hx : l[i]? = some ⟨(l.getD i z).kind, (l.getD i z).n, up l i⟩ := get_of hlt
    have hk := L.kinds i hlt
    have hw := L.wants i hlt
    -- the first part, if there is any
    have first : ∀ h : 0 < A.want (l.getD i z).kind, i + 1 < l.length ∧ up l (i + 1) = (i : Int) := by
      intro h
      have h1 : i + 1 < l.length := by
        by_cases h1 : i + 1 < l.length
        · exact h1
        · rw [show l.length - (i + 1) = 0 by omega] at hw
          have : cnt l i (i + 1) 0 = 0 := rfl
          omega
      refine ⟨h1, ?_⟩
      have ha := L.ahead (i + 1) (by omega) h1
      by_cases hu : up l (i + 1) = (i : Int)
      · exact hu
      · have hz : cnt l i (i + 1) (l.length - (i + 1)) = 0 := cnt_zero l i _ _ (fun m h2 h3 he => by
          have hp := L.past (i := i) (e := i + 1) (by omega) h1 (by omega) m (by omega) (by omega) i (by
            rw [chain_up (L.ahead m (by omega) (by omega)), he, Int.toNat_natCast]
            exact List.mem_cons_of_mem _ (chain_self l i))
          omega)
        omega
    by_cases h0 : A.want (l.getD i z).kind = 0
    · refine ⟨_, i + 1, .leaf hx hk h0, ?_⟩
      by_cases h1 : i + 1 < l.length
      · refine .inr ?_
        have ha := L.ahead (i + 1) (by omega) h1
        by_cases hu : up l (i + 1) = (i : Int)
        · obtain ⟨d', hd'⟩ : ∃ d', l.length - (i + 1) = d' + 1 := ⟨l.length - (i + 1) - 1, by omega⟩
          rw [hd', h0] at hw
          have hw' : (if up l (i + 1) = (i : Int) then 1 else 0) + cnt l i (i + 1 + 1) d' = 0 := hw
          rw [if_pos hu] at hw'; omega
        · omega
      · exact .inl (by omega)
    · obtain ⟨h1, hu1⟩ := first (by omega)
      obtain ⟨a, e1, pa, he1⟩ := ih (l.length - (i + 1)) (by omega) (i + 1) (by omega) (by omega)
      rw [hu1] at pa
      have hs1 := pa.span
      have hl1 := pa.lt
      have c1 : cnt l i (i + 1) (e1 - (i + 1)) = 1 := by
        obtain ⟨d', hd'⟩ : ∃ d', e1 - (i + 1) = d' + 1 := ⟨e1 - (i + 1) - 1, by omega⟩
        rw [hd']
        show (if up l (i + 1) = (i : Int) then 1 else 0) + cnt l i (i + 1 + 1) d' = 1
        rw [if_pos hu1, cnt_zero]
        intro q h3 h4
        have := pa.inside q (by omega) (by omega); omega
      have c2 : cnt l i (i + 1) (l.length - (i + 1)) = 1 + cnt l i e1 (l.length - e1) := by
        rw [show l.length - (i + 1) = (e1 - (i + 1)) + (l.length - e1) by omega, cnt_add, c1, show i + 1 + (e1 - (i + 1)) = e1 by omega]
      by_cases hw1 : A.want (l.getD i z).kind = 1
      · refine ⟨_, e1, .un hx hk hw1 pa, ?_⟩
        by_cases h2 : e1 < l.length
        · refine .inr ?_
          have hu := he1.resolve_left (by omega)
          by_cases hq : up l e1 = (i : Int)
          · obtain ⟨d', hd'⟩ : ∃ d', l.length - e1 = d' + 1 := ⟨l.length - e1 - 1, by omega⟩
            have : cnt l i e1 (l.length - e1) = (if up l e1 = (i : Int) then 1 else 0) + cnt l i (e1 + 1) d' := by rw [hd']; rfl
            rw [if_pos hq] at this; omega
          · omega
        · exact .inl (by omega)
      · have hw2 : A.want (l.getD i z).kind = 2 := by have := hA (l.getD i z).kind; omega
        have h2 : e1 < l.length := by
          by_cases h2 : e1 < l.length
          · exact h2
          · rw [show l.length - e1 = 0 by omega] at c2
            have : cnt l i e1 0 = 0 := rfl
            omega
        have hu := he1.resolve_left (by omega)
        have hu2 : up l e1 = (i : Int) := by
          by_cases hq : up l e1 = (i : Int)
          · exact hq
          · have hz : cnt l i e1 (l.length - e1) = 0 := cnt_zero l i _ _ (fun m h3 h4 he => by
              have hp := L.past (i := i) (e := e1) (by omega) h2 (by omega) m (by omega) (by omega) i (by
                rw [chain_up (L.ahead m (by omega) (by omega)), he, Int.toNat_natCast]
                exact List.mem_cons_of_mem _ (chain_self l i))
              omega)
            omega
        obtain ⟨b, e2, pb, he2⟩ := ih (l.length - e1) (by omega) e1 (by omega) (by omega)
        rw [hu2] at pb
        have hl2 := pb.lt
        have hs2 := pb.span
        refine ⟨_, e2, .bin hx hk hw2 pa pb, ?_⟩
        by_cases h3 : e2 < l.length
        · refine .inr ?_
          have hv := he2.resolve_left (by omega)
          have hav := L.ahead e2 (by omega) h3
          have hanc : e1 ∈ chain l (e2 - 1) := anc_of_sub (e := e2) (fun q h5 h6 => by have := pb.inside q h5 h6; omega) (e2 - 1) (by omega) (by omega)
          have hin := chain_below _ _ _ hanc (L.around e2 (by omega) h3) (by omega)
          have hin2 := chain_mem_up (L.ahead e1 (by omega) h2) hin (by omega)
          rw [hu2, Int.toNat_natCast] at hin2
          have hle := chain_le _ _ hin2
          by_cases hq : up l e2 = (i : Int)
          · obtain ⟨d1, hd1⟩ : ∃ d', e2 - e1 = d' + 1 := ⟨e2 - e1 - 1, by omega⟩
            obtain ⟨d2, hd2⟩ : ∃ d', l.length - e2 = d' + 1 := ⟨l.length - e2 - 1, by omega⟩
            have e3 : cnt l i e1 (l.length - e1) = cnt l i e1 (e2 - e1) + cnt l i e2 (l.length - e2) := by
              rw [show l.length - e1 = (e2 - e1) + (l.length - e2) by omega, cnt_add, show e1 + (e2 - e1) = e2 by omega]
            have e4 : cnt l i e1 (e2 - e1) = (if up l e1 = (i : Int) then 1 else 0) + cnt l i (e1 + 1) d1 := by rw [hd1]; rfl
            have e5 : cnt l i e2 (l.length - e2) = (if up l e2 = (i : Int) then 1 else 0) + cnt l i (e2 + 1) d2 := by rw [hd2]; rfl
            rw [if_pos hu2] at e4
            rw [if_pos hq] at e5
            omega
          · omega
        · exact .inl (by omega)

/-- Node by node, or as a tree: the same. -/
theorem loc_iff {A : Arity} {l : List Nd} (hA : ∀ k, A.want k ≤ 2) (hl : 0 < l.length) : Loc A l ↔ ∃ t, Par A l 0 (-1) t l.length := by
  constructor
  · intro L
    obtain ⟨t, e, h, he⟩ := L.par hA l.length 0 (by omega) hl
    rw [L.root hl] at h
    rcases he with rfl | he
    · exact ⟨t, h⟩
    · have hlt := h.lt
      have hs := h.span
      by_cases h2 : e < l.length
      · have := L.ahead e (by omega) h2; omega
      · obtain rfl : e = l.length := by omega
        exact ⟨t, h⟩
  · rintro ⟨t, h⟩
    exact h.loc

/-- One tree at most. -/
theorem Par.unique {A : Arity} {l : List Nd} {i e e' : Nat} {u : Int} {t t' : Tr} (h : Par A l i u t e) (h' : Par A l i u t' e') : t = t' ∧ e = e' := by
  induction h generalizing t' e' with
  | @leaf i u k n h hk hw =>
    cases h' with
    | leaf h2 _ _ => rw [h] at h2; injection h2 with h2; injection h2 with a b c; subst a; subst b; exact ⟨rfl, rfl⟩
    | un h2 _ hw2 _ => rw [h] at h2; injection h2 with h2; injection h2 with a b c; subst a; omega
    | bin h2 _ hw2 _ _ => rw [h] at h2; injection h2 with h2; injection h2 with a b c; subst a; omega
  | @un i e u k n a h hk hw ha ih =>
    cases h' with
    | leaf h2 _ hw2 => rw [h] at h2; injection h2 with h2; injection h2 with a b c; subst a; omega
    | un h2 _ _ ha2 =>
      rw [h] at h2; injection h2 with h2; injection h2 with a b c; subst a; subst b
      obtain ⟨rfl, rfl⟩ := ih ha2
      exact ⟨rfl, rfl⟩
    | bin h2 _ hw2 _ _ => rw [h] at h2; injection h2 with h2; injection h2 with a b c; subst a; omega
  | @bin i e e' u k n a b h hk hw ha hb ih1 ih2 =>
    cases h' with
    | leaf h2 _ hw2 => rw [h] at h2; injection h2 with h2; injection h2 with a b c; subst a; omega
    | un h2 _ hw2 _ => rw [h] at h2; injection h2 with h2; injection h2 with a b c; subst a; omega
    | bin h2 _ _ ha2 hb2 =>
      rw [h] at h2; injection h2 with h2; injection h2 with a b c; subst a; subst b
      obtain ⟨rfl, rfl⟩ := ih1 ha2
      obtain ⟨rfl, rfl⟩ := ih2 hb2
      exact ⟨rfl, rfl⟩
end Go.Proofs.Ytcjhhdecckcibaa.TreeM
