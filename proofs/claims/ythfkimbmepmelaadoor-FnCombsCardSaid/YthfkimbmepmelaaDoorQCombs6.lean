/- Part 6 of 6 of the proof that the law FnCombsCardSaid holds: for every input that can be read the call returns true and leaves its arguments as they were; no condition but those each theorem names. -/
import Derived.Laws.Bits64b
import Derived.ChangeArms
import Derived.WideShapes
import Derived.DataElems
import Derived.DataReads
import Derived.Test.YthfkimbmepmelaaDoorRows
import Derived.Test.YthfkimbmepmelaaDoorCards
import Derived.Test.YthfkimbmepmelaaDoorTie
import Derived.WalkKit
import Derived.ProofKit
import Derived.OpenShut
import Derived.ShutString
import Derived.ChangeOld
import Derived.Below
import Derived.SizedLaws
import Derived.LaidMore
import Derived.Lib.LaidTab
import Derived.Stop.LaidErr
import Derived.MakeChecks
import Derived.HandedShaped
import Derived.LaidLaws
import Derived.Lay
import Derived.SevenTiedAt
import Derived.Stop.Joined
import Derived.Test.YthfkimbmepmelaaDoorQCombsW1
import Derived.Test.YthfkimbmepmelaaDoorQCombs1
import Derived.Test.YthfkimbmepmelaaDoorQCombs2
import Derived.Test.YthfkimbmepmelaaDoorQCombs3
import Derived.Test.YthfkimbmepmelaaDoorQCombs4
import Derived.Test.YthfkimbmepmelaaDoorQCombs5
namespace Go.Proofs.YthfkimbmepmelaaDoor.ReadM
open Go.RowKit Go.Proofs.YthfkimbmepmelaaDoor.EvL Go.Proofs.YthfkimbmepmelaaDoor.TxtL Go.Proofs.YthfkimbmepmelaaDoor.TreeM Go.Proofs.YthfkimbmepmelaaDoorW.PrintWords
set_option linter.unusedVariables false
set_option linter.unusedSimpArgs false

def digs : Nat → List UInt8 → List UInt8
  | 0, _ => []
  | _ + 1, [] => []
  | m + 1, c :: l => if isD c then c :: digs m l else []
theorem digs_all : ∀ (m : Nat) (l : List UInt8), ∀ c ∈ digs m l, isD c
  | 0, _, c, h => by simp [digs] at h
  | _ + 1, [], c, h => by simp [digs] at h
  | m + 1, x :: l, c, h => by
    unfold digs at h
    by_cases hx : isD x
    · rw [if_pos hx] at h
      rcases List.mem_cons.mp h with rfl | h
      · exact hx
      · exact digs_all m l c h
    · rw [if_neg hx] at h; simp at h
theorem digs_len : ∀ (m : Nat) (l : List UInt8), (digs m l).length ≤ m ∧ (digs m l).length ≤ l.length
  | 0, _ => by simp [digs]
  | _ + 1, [] => by simp [digs]
  | m + 1, x :: l => by
    have ih := digs_len m l
    unfold digs
    split
    · simp only [List.length_cons]; omega
    · simp
theorem digs_pre : ∀ (m : Nat) (l : List UInt8), l = digs m l ++ l.drop (digs m l).length
  | 0, _ => by simp [digs]
  | _ + 1, [] => by simp [digs]
  | m + 1, x :: l => by
    have ih := digs_pre m l
    unfold digs
    split
    · rw [List.length_cons, List.drop_succ_cons, List.cons_append, ← ih]
    · rfl
def NoD (r : List UInt8) : Prop := ∀ c, r.head? = some c → ¬ isD c
theorem noD_nil : NoD [] := fun c h => by cases h
theorem noD_cons {c : UInt8} (r : List UInt8) (h : ¬ isD c) : NoD (c :: r) := fun x hx => by
  have : c = x := by simpa using hx
  rw [← this]; exact h
theorem digs_app : ∀ (m : Nat) (ds r : List UInt8), (∀ c ∈ ds, isD c) → ds.length ≤ m → NoD r → digs m (ds ++ r) = ds
  | 0, ds, r, _, hl, _ => by
    have : ds = [] := List.eq_nil_of_length_eq_zero (by omega)
    rw [this]; rfl
  | m + 1, [], r, _, _, hr => by
    cases r with
    | nil => rfl
    | cons c r => rw [List.nil_append, digs, if_neg (hr c rfl)]
  | m + 1, x :: ds, r, h, hl, hr => by
    rw [List.cons_append, digs, if_pos (h x (by simp)), digs_app m ds r (fun c hc => h c (by simp [hc])) (by simpa using hl) hr]
theorem dec_len : ∀ (m n : Nat), 1 ≤ m → n < 10 ^ m → (Lib.decDigits n).length ≤ m
  | 0, n, h, _ => by omega
  | m + 1, n, _, hn => by
    by_cases h : n < 10
    · rw [Lib.decDigits_one h]; simp
    · have hm : 1 ≤ m := by
        cases m with
        | zero => simp at hn; omega
        | succ m => omega
      rw [Nat.pow_succ] at hn
      have ih := dec_len m (n / 10) hm (by omega)
      rw [Lib.decDigits, dif_neg h, List.length_append, List.length_singleton]
      omega
theorem val_lt (ds : List UInt8) (h : ∀ c ∈ ds, isD c) : valF 0 ds < 10 ^ ds.length := by
  have := valF_lt ds 0 h
  rwa [Nat.zero_add, Nat.one_mul] at this
theorem val_le (m : Nat) (ds : List UInt8) (h : ∀ c ∈ ds, isD c) (hl : ds.length ≤ m) : valF 0 ds < 10 ^ m := Nat.lt_of_lt_of_le (val_lt ds h) (Nat.pow_le_pow_right (by omega) hl)
theorem dec_val_len (ds : List UInt8) (h : ∀ c ∈ ds, isD c) (hne : ds ≠ []) : (Lib.decDigits (valF 0 ds)).length ≤ ds.length := by
  refine dec_len ds.length _ ?_ (val_lt ds h)
  cases ds with
  | nil => exact absurd rfl hne
  | cons c ds => simp

def eat (x : UInt8) : List UInt8 → Option (List UInt8)
  | [] => none
  | c :: r => if c = x then some r else none
theorem eat_some {x : UInt8} {r r' : List UInt8} (h : eat x r = some r') : r = x :: r' := by
  cases r with
  | nil => cases h
  | cons c r =>
    replace h : (if c = x then some r else none) = some r' := h
    by_cases hc : c = x
    · rw [if_pos hc] at h; injection h with h; rw [hc, h]
    · rw [if_neg hc] at h; cases h
theorem eat_cons (x : UInt8) (r : List UInt8) : eat x (x :: r) = some r := if_pos rfl
theorem trim_eat (x : UInt8) (r : List UInt8) : Lib.hasPrefix r [x] = (eat x r).isSome ∧ Lib.trimPrefix r [x] = (eat x r).getD r := by
  cases r with
  | nil => exact ⟨rfl, rfl⟩
  | cons c r =>
    have hp : Lib.hasPrefix (c :: r) [x] = decide (x = c) := by unfold Lib.hasPrefix; rw [Bool.eq_iff_iff, decide_eq_true_iff]; simp [List.isPrefixOf]
    have he : eat x (c :: r) = if c = x then some r else none := rfl
    unfold Lib.trimPrefix
    rw [hp, he]
    by_cases h : c = x
    · subst h; simp
    · have h' : ¬ x = c := fun e => h e.symm
      simp [h, h']

def ctxt : Tr → List UInt8
  | .leaf k n => if k = 1 then 120 :: Lib.decDigits n.toNat else if k = 3 then [83] else if k = 4 then [75] else [73]
  | .un _ _ a => ctxt a
  | .bin _ _ a b => 40 :: (ctxt a ++ 32 :: (ctxt b ++ [41]))
def CForm (m : Nat) : Tr → Prop
  | .leaf k n => (k = 1 ∧ 0 ≤ n ∧ n < (m : Int)) ∨ ((k = 3 ∨ k = 4 ∨ k = 5) ∧ n = 0)
  | .un _ _ _ => False
  | .bin k n a b => k = 2 ∧ n = 0 ∧ CForm m a ∧ CForm m b
def crd (m : Nat) : Nat → List UInt8 → Option (Tr × List UInt8)
  | 0, _ => none
  | _ + 1, [] => none
  | d + 1, c :: s =>
    if c = 83 then some (.leaf 3 0, s) else if c = 75 then some (.leaf 4 0, s) else if c = 73 then some (.leaf 5 0, s)
    else if c = 120 then (if digs m s = [] then none else some (.leaf 1 (valF 0 (digs m s) : Nat), s.drop (digs m s).length))
    else if c = 40 then (crd m d s).bind fun p => (eat 32 p.2).bind fun r1 => (crd m d r1).bind fun q => (eat 41 q.2).bind fun r3 => some (.bin 2 0 p.1 q.1, r3)
    else none
theorem crd_sound (m : Nat) : ∀ (d : Nat) (s : List UInt8) (t : Tr) (r : List UInt8), crd m d s = some (t, r) → CForm (10 ^ m) t ∧ (ctxt t).length + r.length ≤ s.length ∧ t.size + r.length ≤ s.length ∧ t.depth ≤ d
  | 0, _, _, _, h => by cases h
  | _ + 1, [], _, _, h => by cases h
  | d + 1, c :: s, t, r, h => by
    unfold crd at h
    by_cases h1 : c = 83
    · rw [if_pos h1] at h
      simp only [Option.some.injEq, Prod.mk.injEq] at h
      obtain ⟨rfl, rfl⟩ := h
      exact ⟨.inr ⟨.inl rfl, rfl⟩, by simp [ctxt]; omega, by simp [Tr.size]; omega, by simp [Tr.depth]⟩
    rw [if_neg h1] at h
    by_cases h2 : c = 75
    · rw [if_pos h2] at h
      simp only [Option.some.injEq, Prod.mk.injEq] at h
      obtain ⟨rfl, rfl⟩ := h
      exact ⟨.inr ⟨.inr (.inl rfl), rfl⟩, by simp [ctxt]; omega, by simp [Tr.size]; omega, by simp [Tr.depth]⟩
    rw [if_neg h2] at h
    by_cases h3 : c = 73
    · rw [if_pos h3] at h
      simp only [Option.some.injEq, Prod.mk.injEq] at h
      obtain ⟨rfl, rfl⟩ := h
      exact ⟨.inr ⟨.inr (.inr rfl), rfl⟩, by simp [ctxt]; omega, by simp [Tr.size]; omega, by simp [Tr.depth]⟩
    rw [if_neg h3] at h
    by_cases h4 : c = 120
    · rw [if_pos h4] at h
      by_cases h5 : digs m s = []
      · rw [if_pos h5] at h; cases h
      rw [if_neg h5] at h
      simp only [Option.some.injEq, Prod.mk.injEq] at h
      obtain ⟨rfl, rfl⟩ := h
      have hl := digs_len m s
      have hv := val_le m (digs m s) (digs_all m s) hl.1
      have hd := dec_val_len (digs m s) (digs_all m s) h5
      have hp : 1 ≤ (digs m s).length := by
        cases hq : digs m s with
        | nil => exact absurd hq h5
        | cons a b => simp
      refine ⟨.inl ⟨rfl, by omega, by exact_mod_cast hv⟩, ?_, ?_, by simp [Tr.depth]⟩
      · rw [ctxt, if_pos rfl, List.length_cons, List.length_cons, List.length_drop, Int.toNat_natCast]; omega
      · rw [List.length_cons, List.length_drop]; show 1 + _ ≤ _; omega
    rw [if_neg h4] at h
    by_cases h5 : c = 40
    · rw [if_pos h5] at h
      obtain ⟨⟨a, r0⟩, ha, h⟩ := Option.bind_eq_some_iff.mp h
      obtain ⟨r1, e1, h⟩ := Option.bind_eq_some_iff.mp h
      obtain ⟨⟨b, r2⟩, hb, h⟩ := Option.bind_eq_some_iff.mp h
      obtain ⟨r3, e2, h⟩ := Option.bind_eq_some_iff.mp h
      simp only [Option.some.injEq, Prod.mk.injEq] at h
      obtain ⟨rfl, rfl⟩ := h
      obtain ⟨a1, a2, a3, a4⟩ := crd_sound m d s a r0 ha
      obtain ⟨b1, b2, b3, b4⟩ := crd_sound m d r1 b r2 hb
      have q1 : r0 = 32 :: r1 := eat_some e1
      have q2 : r2 = 41 :: r3 := eat_some e2
      rw [q1, List.length_cons] at a2 a3
      rw [q2, List.length_cons] at b2 b3
      refine ⟨⟨rfl, rfl, a1, b1⟩, ?_, ?_, ?_⟩
      · simp only [ctxt, List.length_cons, List.length_append, List.length_nil]; omega
      · show 1 + a.size + b.size + _ ≤ _; rw [List.length_cons]; omega
      · show max a.depth b.depth + 1 ≤ _; omega
    · rw [if_neg h5] at h; cases h
theorem crd_text (m : Nat) (hm : 3 ≤ m) : ∀ (t : Tr) (d : Nat) (r : List UInt8), CForm 1000 t → t.depth ≤ d → NoD r → crd m d (ctxt t ++ r) = some (t, r)
  | .leaf k n, 0, r, _, hd, _ => by simp [Tr.depth] at hd
  | .leaf k n, d + 1, r, h, _, hr => by
    rcases h with ⟨rfl, h0, h1⟩ | ⟨h, rfl⟩
    · have hN := dec_numeral n.toNat
      have hds : digs m (Lib.decDigits n.toNat ++ r) = Lib.decDigits n.toNat := digs_app m _ r hN.1.1 (Nat.le_trans (dec_len 3 n.toNat (by omega) (by show _ < 1000; omega)) hm) hr
      rw [ctxt, if_pos rfl, List.cons_append, crd, if_neg (by decide), if_neg (by decide), if_neg (by decide), if_pos rfl, hds, if_neg hN.1.2.1, List.drop_left, hN.2.1]
      congr 3
      omega
    · rcases h with rfl | rfl | rfl <;> simp [ctxt, crd]
  | .un k n a, _, _, h, _, _ => h.elim
  | .bin k n a b, 0, r, _, hd, _ => by simp [Tr.depth] at hd
  | .bin k n a b, d + 1, r, h, hd, hr => by
    obtain ⟨rfl, rfl, ha, hb⟩ := h
    have hd' : max a.depth b.depth + 1 ≤ d + 1 := hd
    have e : ctxt (.bin 2 0 a b) ++ r = 40 :: (ctxt a ++ 32 :: (ctxt b ++ 41 :: r)) := by simp [ctxt]
    rw [e, crd, if_neg (by decide), if_neg (by decide), if_neg (by decide), if_neg (by decide), if_pos rfl,
      crd_text m hm a d _ ha (by omega) (noD_cons _ (by decide)), Option.bind_some, eat_cons, Option.bind_some,
      crd_text m hm b d _ hb (by omega) (noD_cons _ (by decide)), Option.bind_some, eat_cons, Option.bind_some]
theorem ctxt_len : ∀ (t : Tr), CForm 1000 t → (ctxt t).length ≤ 5 * t.size
  | .leaf k n, h => by
    rcases h with ⟨rfl, h0, h1⟩ | ⟨h, rfl⟩
    · have := dec_len 3 n.toNat (by omega) (by show _ < 1000; omega)
      rw [ctxt, if_pos rfl, List.length_cons]; show _ ≤ 5 * 1; omega
    · rcases h with rfl | rfl | rfl <;> simp [ctxt, Tr.size]
  | .un _ _ _, h => h.elim
  | .bin k n a b, h => by
    have ia := ctxt_len a h.2.2.1
    have ib := ctxt_len b h.2.2.2
    simp only [ctxt, List.length_cons, List.length_append, List.length_nil]
    show _ ≤ 5 * (1 + a.size + b.size); omega

end Go.Proofs.YthfkimbmepmelaaDoor.ReadM

namespace Go.Proofs.YthfkimbmepmelaaDoor.NumL
open Go.RowKit Go.Proofs.YthfkimbmepmelaaDoor.G Go.Proofs.YthfkimbmepmelaaDoor.EvL Go.Proofs.YthfkimbmepmelaaDoor.TxtL Go.Proofs.YthfkimbmepmelaaDoorW.PrintWords Go.Proofs.YthfkimbmepmelaaDoorW.PrintLast
set_option linter.unusedVariables false
set_option linter.unusedSimpArgs false

theorem digit_all : ∀ i : Fin 10, strOfNums (([(wrap64 (48 + (i.val : Int))) % 256] : List Int)) = ⟨([UInt8.ofNat (48 + i.val)] : List UInt8).toArray⟩ := by decide +kernel
theorem digit (n : Int) (h0 : 0 ≤ n) (h1 : n < 10) : strOfNums (([(wrap64 (48 + n)) % 256] : List Int)) = ⟨([UInt8.ofNat (48 + n.toNat)] : List UInt8).toArray⟩ := by
  have h := digit_all ⟨n.toNat, by omega⟩
  have e : (((⟨n.toNat, by omega⟩ : Fin 10).val : Nat) : Int) = n := by show ((n.toNat : Nat) : Int) = n; omega
  rw [e] at h
  exact h
theorem low_ev (n : Int) (h0 : 0 ≤ n) (h1 : n < 10) : Ev (fun k => spec_l1Num.f k n) ⟨(Lib.decDigits n.toNat).toArray⟩ := by
  refine Ev.step (f := fun _ => some ⟨(Lib.decDigits n.toNat).toArray⟩) (fun k => ?_) (Ev.now _)
  simp only [spec_l1Num.f]
  rw [if_neg (by omega), if_pos h1, digit n h0 h1, Lib.decDigits_one (by omega)]
theorem up_ev (n : Int) (h0 : 10 ≤ n) (h1 : n ≤ 100000) (hl : (Lib.decDigits (n / 10).toNat).length ≤ 100) (h : Ev (fun k => spec_l1Num.f k (n / 10)) ⟨(Lib.decDigits (n / 10).toNat).toArray⟩) : Ev (fun k => spec_l1Num.f k n) ⟨(Lib.decDigits n.toNat).toArray⟩ := by
  have e : Int.tdiv n 10 = n / 10 := Int.tdiv_eq_ediv_of_nonneg (by omega)
  have e2 : wrap64 (Int.tdiv n 10) = n / 10 := by rw [e]; exact w64 (by omega) (by omega)
  have e3 : Int.tmod n 10 = n % 10 := Int.tmod_eq_emod_of_nonneg (by omega)
  have e4 := digit (n % 10) (by omega) (by omega)
  have e5 : Lib.decDigits n.toNat = Lib.decDigits (n / 10).toNat ++ [UInt8.ofNat (48 + (n % 10).toNat)] := by
    rw [Lib.decDigits, dif_neg (by omega), show n.toNat / 10 = (n / 10).toNat by omega, show n.toNat % 10 = (n % 10).toNat by omega]
  refine Ev.step (f := fun k => (spec_l1Num.f k (n / 10)).bind fun t105 => (if t105.size + (⟨([UInt8.ofNat (48 + (n % 10).toNat)] : List UInt8).toArray⟩ : ByteArray).size ≤ 9223372036854775807 then (some (t105 ++ (⟨([UInt8.ofNat (48 + (n % 10).toNat)] : List UInt8).toArray⟩ : ByteArray))) else (none))) (fun k => ?_) (Ev.bind h (Ev.ite_pos ?_ (Ev.of_eq (Ev.now _) ?_)))
  · simp only [spec_l1Num.f]
    rw [if_neg (by omega), if_neg (by omega), e2, e3]
    simp only [Option.bind_some, e4]
  · show (Lib.decDigits (n / 10).toNat).toArray.size + 1 ≤ _
    simp; omega
  · rw [e5]
    apply ByteArray.ext
    simp
theorem num_ev : ∀ (m : Nat) (n : Int), 0 ≤ n → n < 10 ^ (m + 1) → n ≤ 100000 → m ≤ 20 → Ev (fun k => spec_l1Num.f k n) ⟨(Lib.decDigits n.toNat).toArray⟩ ∧ (Lib.decDigits n.toNat).length ≤ m + 1 := by
  intro m
  induction m with
  | zero =>
    intro n h0 h1 h2 hm
    have h1' : n < 10 := by simpa using h1
    exact ⟨low_ev n h0 h1', by rw [Lib.decDigits_one (by omega)]; simp⟩
  | succ m ih =>
    intro n h0 h1 h2 hm
    by_cases c : n < 10
    · exact ⟨low_ev n h0 c, by rw [Lib.decDigits_one (by omega)]; simp⟩
    · have hp : (10 : Int) ^ (m + 1 + 1) = 10 ^ (m + 1) * 10 := Int.pow_succ ..
      obtain ⟨hE, hl⟩ := ih (n / 10) (by omega) (by rw [hp] at h1; omega) (by omega) (by omega)
      refine ⟨up_ev n (by omega) h2 (by omega) hE, ?_⟩
      rw [Lib.decDigits, dif_neg (by omega), show n.toNat / 10 = (n / 10).toNat by omega]
      simp; omega
theorem num (n : Int) (h0 : 0 ≤ n) (h1 : n ≤ 100000) : Ev (fun k => spec_l1Num.f k n) ⟨(Lib.decDigits n.toNat).toArray⟩ ∧ (Lib.decDigits n.toNat).length ≤ 6 :=
  num_ev 5 n h0 (by have : (10 : Int) ^ (5 + 1) = 1000000 := by decide
                    omega) h1 (by decide)

theorem next (i n : Nat) (h : i < n) (hn : n ≤ 9223372036854775807) : wrap64 ((i : Int) + 1) = ((i + 1 : Nat) : Int) := w64 (by omega) (by omega)
theorem num_B (n : Int) (h0 : 0 ≤ n) (h1 : n ≤ 100000) : Ev (fun k => spec_l1Num.f k n) (B (Lib.decDigits n.toNat)) := (num n h0 h1).1
end Go.Proofs.YthfkimbmepmelaaDoor.NumL

namespace Go.Proofs.YthfkimbmepmelaaDoor.CombL
open Go.RowKit Go.Proofs.YthfkimbmepmelaaDoor.G Go.Proofs.YthfkimbmepmelaaDoor.EvL Go.Proofs.YthfkimbmepmelaaDoor.TreeM Go.Proofs.YthfkimbmepmelaaDoorW.PrintWords Go.Proofs.YthfkimbmepmelaaDoorW.PrintLast
set_option linter.unusedVariables false

def nd (c : S65) : Nd := ⟨c.f0, c.f1, c.f2⟩
theorem rdC (l : List S65) (i : Nat) : rd_T65 l (i : Int) = l.getD i z65 := by unfold rd_T65; rw [Int.toNat_natCast]
theorem next (i : Nat) {n : Nat} (h : i < n) (hn : n ≤ 9223372036854775807) : wrap64 ((i : Int) + 1) = ((i + 1 : Nat) : Int) := by rw [w64 (by omega) (by omega)]; omega
theorem getD_nd (l : List S65) (i : Nat) : (l.map nd).getD i z = nd (l.getD i z65) := by
  rw [List.getD_eq_getElem?_getD, List.getD_eq_getElem?_getD, List.getElem?_map]
  cases l[i]? <;> rfl
theorem up_nd (l : List S65) (i : Nat) : (l.getD i z65).f2 = TreeM.up (l.map nd) i := by unfold TreeM.up; rw [getD_nd]; rfl

theorem l1In_eq (a b c : Int) : spec_l1In.f a b c = some (decide (b ≤ a ∧ a ≤ c)) := by
  unfold spec_l1In.f
  by_cases h : a ≥ b
  · rw [if_pos h]; congr 1; exact decide_eq_decide.mpr (by omega)
  · rw [if_neg h, decide_eq_false (by omega)]

def ar : Arity := ⟨5, fun k => if k = 2 then 2 else 0⟩
theorem ar2 (k : Int) : ar.want k ≤ 2 := by show (if k = 2 then 2 else 0) ≤ 2; split <;> omega

structure NodeOk (L : List Nd) (m : Nat) : Prop where
  top : m = 0 ↔ up L m = -1
  ahead : -1 ≤ up L m ∧ up L m < (m : Int)
  kind : 1 ≤ (L.getD m z).kind ∧ (L.getD m z).kind ≤ 5
  num : 0 ≤ (L.getD m z).n ∧ (L.getD m z).n ≤ 999 ∧ ((L.getD m z).kind = 1 ∨ (L.getD m z).n = 0)
  around : m = 0 ∨ ∃ x ∈ chain L (m - 1), (x : Int) = up L m
  deep : (chain L m).length ≤ 60
  wants : cnt L m (m + 1) (L.length - (m + 1)) = ar.want (L.getD m z).kind

theorem parts (l : List S65) (i : Nat) (hl : l.length ≤ 200) : ∀ (d a : Nat) (acc : List Int), a + d = l.length → acc.length + d ≤ 200 → ∃ r, Ev (fun k => spec_ldParts.l0 k l i acc a) r ∧ r.length = acc.length + cnt (l.map nd) i a d := by
  intro d
  induction d with
  | zero =>
    intro a acc ha _
    refine ⟨acc, Ev.step (f := fun _ => some acc) (fun k => ?_) (Ev.now _), rfl⟩
    simp only [spec_ldParts.l0]
    rw [if_neg (by omega)]
  | succ d ih =>
    intro a acc ha hacc
    by_cases h : up (l.map nd) a = (i : Int)
    · obtain ⟨r, hr, hn⟩ := ih (a + 1) (acc ++ [(a : Int)]) (by omega) (by simp; omega)
      refine ⟨r, Ev.step (fun k => ?_) hr, ?_⟩
      · simp only [spec_ldParts.l0]
        rw [if_pos (by omega), if_pos (by omega), rdC, up_nd, if_pos h, if_pos (by omega), next a (n := l.length) (by omega) (by omega)]
      · rw [hn, List.length_append]
        show acc.length + 1 + _ = acc.length + ((if up (l.map nd) a = (i : Int) then 1 else 0) + _)
        rw [if_pos h]; omega
    · obtain ⟨r, hr, hn⟩ := ih (a + 1) acc (by omega) (by omega)
      refine ⟨r, Ev.step (fun k => ?_) hr, ?_⟩
      · simp only [spec_ldParts.l0]
        rw [if_pos (by omega), if_pos (by omega), rdC, up_nd, if_neg h, next a (n := l.length) (by omega) (by omega)]
      · rw [hn]
        show _ = acc.length + ((if up (l.map nd) a = (i : Int) then 1 else 0) + _)
        rw [if_neg h]; omega

theorem ldParts (l : List S65) (i : Nat) (hi : i < l.length) (hl : l.length ≤ 200) : ∃ r, Ev (fun k => spec_ldParts.f k l i) r ∧ r.length = cnt (l.map nd) i (i + 1) (l.length - (i + 1)) := by
  obtain ⟨r, hr, hn⟩ := parts l i hl (l.length - (i + 1)) (i + 1) [] (by omega) (by simp; omega)
  refine ⟨r, ?_, by rw [hn]; simp⟩
  unfold spec_ldParts.f
  rw [next i hi (by omega)]
  exact hr

theorem deepLoop (l : List S65) (hl : l.length ≤ 200) (i : Nat) (hi : i < l.length) (b : Bool) (kd n u : Int) (h : ∀ m, m ≤ i → -1 ≤ up (l.map nd) m ∧ up (l.map nd) m < (m : Int)) {r : Bool} :
    ∀ (j d : Nat), j ≤ i → d + j ≤ 400 → Ev (fun k => spec_GoodComb.l2 k l i b ((d + (chain (l.map nd) j).length : Nat) : Int) (-1) l l.length i kd n u) r → Ev (fun k => spec_GoodComb.l2 k l i b (d : Int) (j : Int) l l.length i kd n u) r := by
  intro j
  induction j using Nat.strongRecOn with
  | _ j ih =>
    intro d hj hd hE
    refine Ev.step (f := fun k => spec_GoodComb.l2 k l i b ((d + 1 : Nat) : Int) (up (l.map nd) j) l l.length i kd n u) (fun k => ?_) ?_
    · show (if (j : Int) ≥ 0 then _ else _) = _
      rw [if_pos (by omega), if_pos (by omega), if_pos (by omega), rdC, up_nd, w64 (by omega) (by omega)]
      rfl
    · have hu := h j hj
      by_cases hu0 : 0 ≤ up (l.map nd) j
      · rw [show up (l.map nd) j = (((up (l.map nd) j).toNat : Nat) : Int) by omega]
        refine ih _ (by omega) (d + 1) (by omega) (by omega) ?_
        rw [chain_up ⟨hu0, hu.2⟩, List.length_cons] at hE
        rw [show d + 1 + (chain (l.map nd) (up (l.map nd) j).toNat).length = d + ((chain (l.map nd) (up (l.map nd) j).toNat).length + 1) by omega]
        exact hE
      · rw [chain_top (by omega)] at hE
        rw [show up (l.map nd) j = -1 by omega]
        exact hE

theorem aroundLoop (l : List S65) (hl : l.length ≤ 200) (i : Nat) (hi : i < l.length) (kd n u : Int) (h : ∀ m, m < i → -1 ≤ up (l.map nd) m ∧ up (l.map nd) m < (m : Int)) {r : Bool} {c : Bool} :
    ∀ (j : Nat), j < i → (c = true ↔ ∃ x ∈ chain (l.map nd) j, (x : Int) = u) → Ev (fun k => spec_GoodComb.j3 k l i c l l.length i kd n u) r → Ev (fun k => spec_GoodComb.l1 k l i false (j : Int) l l.length i kd n u) r := by
  intro j
  induction j using Nat.strongRecOn with
  | _ j ih =>
    intro hj hc hE
    have hu := h j hj
    refine Ev.step (f := fun k => spec_GoodComb.l1 k l i ((j : Int) == u) (up (l.map nd) j) l l.length i kd n u) (fun k => ?_) ?_
    · show (if (j : Int) ≥ 0 then _ else _) = _
      rw [if_pos (by omega), if_neg (by simp), if_pos (by omega), if_pos (by omega), rdC, up_nd]
    · by_cases hju : (j : Int) = u
      · obtain rfl : c = true := hc.mpr ⟨j, chain_self _ _, hju⟩
        rw [show ((j : Int) == u) = true by simpa using hju]
        refine Ev.step (f := fun k => spec_GoodComb.j3 k l i true l l.length i kd n u) (fun k => ?_) hE
        simp only [spec_GoodComb.l1]
        simp
      · rw [show ((j : Int) == u) = false by simpa using hju]
        by_cases hu0 : 0 ≤ up (l.map nd) j
        · rw [show up (l.map nd) j = (((up (l.map nd) j).toNat : Nat) : Int) by omega]
          refine ih _ (by omega) (by omega) (hc.trans ?_) hE
          rw [chain_up ⟨hu0, hu.2⟩]
          simp [hju]
        · obtain rfl : c = false := by
            cases c with
            | false => rfl
            | true =>
              obtain ⟨x, hx, hxu⟩ := hc.mp rfl
              rw [chain_top (by omega)] at hx
              have : x = j := by simpa using hx
              subst this; exact absurd hxu hju
          refine Ev.step (f := fun k => spec_GoodComb.j3 k l i false l l.length i kd n u) (fun k => ?_) hE
          simp only [spec_GoodComb.l1]
          rw [if_neg (by omega)]

theorem badNode (l : List S65) (a b c kd n u : Int) : Ev (fun k => spec_GoodComb.j1 k l a l b c true kd n u) false := by
  refine Ev.step (f := fun _ => some false) (fun k => ?_) (Ev.now _)
  simp only [spec_GoodComb.j1]
  rfl

theorem specLoop (l : List S65) (hl : l.length ≤ 200) : ∀ (d i : Nat), i + d = l.length → (∀ m, m < i → -1 ≤ up (l.map nd) m ∧ up (l.map nd) m < (m : Int)) →
    ∃ b, Ev (fun k => spec_GoodComb.l0 k l l l.length i) b ∧ (b = true ↔ ∀ m, i ≤ m → m < l.length → NodeOk (l.map nd) m) := by
  intro d
  induction d with
  | zero =>
    intro i hi _
    refine ⟨true, Ev.step (f := fun _ => some true) (fun k => ?_) (Ev.now _), ?_⟩
    · simp only [spec_GoodComb.l0]
      rw [if_neg (by omega)]
    · exact ⟨fun _ m h1 h2 => by omega, fun _ => rfl⟩
  | succ d ih =>
    intro i hi hah
    have hil : i < l.length := by omega
    have eu : (l.getD i z65).f2 = TreeM.up (l.map nd) i := up_nd l i
    have ek : (l.getD i z65).f0 = ((l.map nd).getD i z).kind := by rw [getD_nd]; rfl
    have en : (l.getD i z65).f1 = ((l.map nd).getD i z).n := by rw [getD_nd]; rfl
    have hlen : (l.map nd).length = l.length := List.length_map ..
    -- a node that is not good
    have bad : ∀ {F : Nat → Option Bool}, ¬ NodeOk (l.map nd) i → Ev F false → ∃ b, Ev F b ∧ (b = true ↔ ∀ m, i ≤ m → m < l.length → NodeOk (l.map nd) m) :=
      fun hn hE => ⟨false, hE, fun h => absurd h (by simp), fun h => absurd (h i (Nat.le_refl _) hil) hn⟩
    generalize hu : up (l.map nd) i = u at *
    generalize hk : ((l.map nd).getD i z).kind = kd at *
    generalize hn : ((l.map nd).getD i z).n = n at *
    have st : ∀ k, spec_GoodComb.l0 (k + 1) l l l.length i = (if ((((i : Int) == 0) != (u == (-1))) = true) then (spec_GoodComb.j1 k l i l l.length i true kd n u) else if (-1 ≤ u ∧ u ≤ (i : Int) - 1) then (if (1 ≤ kd ∧ kd ≤ 5) then (if (0 ≤ n ∧ n ≤ 999) then (if kd = 1 then (spec_GoodComb.j1 k l i l l.length i false kd n u) else (spec_GoodComb.j1 k l i l l.length i (n != 0) kd n u)) else (spec_GoodComb.j1 k l i l l.length i true kd n u)) else (spec_GoodComb.j1 k l i l l.length i true kd n u)) else (spec_GoodComb.j1 k l i l l.length i true kd n u)) := by
      intro k
      simp only [spec_GoodComb.l0]
      rw [if_pos (by omega), if_pos (by omega), if_pos (by omega), rdC, eu, ek, en, l1In_eq, l1In_eq, l1In_eq, w64 (by omega) (by omega)]
      simp only [Option.bind_some, decide_eq_true_eq]
    have hT : ((((i : Int) == 0) != (u == (-1))) = true) ↔ ¬ (i = 0 ↔ u = -1) := by
      have e1 : ((i : Int) == 0) = decide (i = 0) := by rw [Bool.eq_iff_iff]; simp
      have e2 : (u == (-1)) = decide (u = -1) := by rw [Bool.eq_iff_iff]; simp
      rw [e1, e2]
      by_cases h1 : i = 0 <;> by_cases h2 : u = -1 <;> simp [h1, h2]
    by_cases h1 : i = 0 ↔ u = -1
    case neg =>
      exact bad (fun h => h1 (hu ▸ h.top)) (Ev.step (fun k => (st k).trans (if_pos (hT.mpr h1))) (badNode ..))
    have st := fun k => (st k).trans (if_neg (fun h => hT.mp h h1))
    by_cases h2 : -1 ≤ u ∧ u ≤ (i : Int) - 1
    case neg =>
      exact bad (fun h => h2 (by have := h.ahead; rw [hu] at this; omega)) (Ev.step (fun k => (st k).trans (if_neg h2)) (badNode ..))
    have st := fun k => (st k).trans (if_pos h2)
    by_cases h3 : 1 ≤ kd ∧ kd ≤ 5
    case neg =>
      exact bad (fun h => h3 (hk ▸ h.kind)) (Ev.step (fun k => (st k).trans (if_neg h3)) (badNode ..))
    have st := fun k => (st k).trans (if_pos h3)
    by_cases h4 : 0 ≤ n ∧ n ≤ 999
    case neg =>
      exact bad (fun h => h4 (by have := h.num; rw [hn] at this; omega)) (Ev.step (fun k => (st k).trans (if_neg h4)) (badNode ..))
    have st := fun k => (st k).trans (if_pos h4)
    by_cases h5 : kd = 1 ∨ n = 0
    case neg =>
      refine bad (fun h => h5 (by have := h.num; rw [hn, hk] at this; omega)) (Ev.step (f := fun k => spec_GoodComb.j1 k l i l l.length i true kd n u) (fun k => (st k).trans ?_) (badNode ..))
      rw [if_neg (by omega), show (n != 0) = true by simp; omega]
    -- the node itself is good; what it is in, how deep, how many parts
    have st : ∀ k, spec_GoodComb.l0 (k + 1) l l l.length i = spec_GoodComb.j1 k l i l l.length i false kd n u := by
      intro k
      rw [st k]
      by_cases h6 : kd = 1
      · rw [if_pos h6]
      · rw [if_neg h6, show (n != 0) = false by simp; omega]
    have hah' : ∀ m, m < i + 1 → -1 ≤ up (l.map nd) m ∧ up (l.map nd) m < (m : Int) := by
      intro m hm
      by_cases hmi : m = i
      · subst hmi; rw [hu]; omega
      · exact hah m (by omega)
    obtain ⟨b, hb, hbi⟩ := ih (i + 1) (by omega) hah'
    obtain ⟨ps, hps, hpn⟩ := ldParts l i hil hl
    -- the end
    obtain ⟨c, hc⟩ : ∃ c : Bool, c = true ↔ (i = 0 ∨ ∃ x ∈ chain (l.map nd) (i - 1), (x : Int) = u) := by
      by_cases h : (i = 0 ∨ ∃ x ∈ chain (l.map nd) (i - 1), (x : Int) = u)
      · exact ⟨true, by simp [h]⟩
      · exact ⟨false, by simp [h]⟩
    have go : ∀ {r : Bool}, Ev (fun k => spec_GoodComb.l2 k l i c (((chain (l.map nd) i).length : Nat) : Int) (-1) l l.length i kd n u) r → Ev (fun k => spec_GoodComb.l0 k l l l.length i) r := by
      intro r hE
      refine Ev.step st ?_
      refine Ev.step (f := fun k => spec_GoodComb.l1 k l i ((i : Int) == 0) ((i : Int) - 1) l l.length i kd n u) (fun k => ?_) ?_
      · simp only [spec_GoodComb.j1]
        rw [w64 (by omega) (by omega)]
        rfl
      · have hj3 : Ev (fun k => spec_GoodComb.j3 k l i c l l.length i kd n u) r := by
          refine Ev.step (f := fun k => spec_GoodComb.l2 k l i c ((0 : Nat) : Int) (i : Int) l l.length i kd n u) (fun k => rfl) ?_
          refine deepLoop l hl i hil c kd n u (fun m hm => hah' m (by omega)) i 0 (Nat.le_refl _) (by omega) ?_
          rw [Nat.zero_add]; exact hE
        by_cases hi0 : i = 0
        · obtain rfl : c = true := hc.mpr (.inl hi0)
          subst hi0
          refine Ev.step (f := fun k => spec_GoodComb.j3 k l (0 : Nat) true l l.length (0 : Nat) kd n u) (fun k => ?_) hj3
          simp only [spec_GoodComb.l1]
          rfl
        · rw [show ((i : Int) == 0) = false by simpa using hi0, show (i : Int) - 1 = ((i - 1 : Nat) : Int) by omega]
          refine aroundLoop l hl i hil kd n u hah (i - 1) (by omega) (hc.trans ?_) hj3
          simp [hi0]
    have fin : ∀ k, spec_GoodComb.l2 (k + 1) l i c (((chain (l.map nd) i).length : Nat) : Int) (-1) l l.length i kd n u = (if c = true then (if (chain (l.map nd) i).length ≤ 60 then ((spec_ldParts.f k l i).bind fun t => (if t.length = ar.want kd then (spec_GoodComb.l0 k l l l.length ((i + 1 : Nat) : Int)) else (some false))) else some false) else (some false)) := by
      intro k
      simp only [spec_GoodComb.l2]
      rw [if_neg (by decide), next i hil (by omega)]
      have hd : ((((chain (l.map nd) i).length : Nat) : Int) > 60) ↔ ¬ (chain (l.map nd) i).length ≤ 60 := by omega
      have hw : ∀ (t : List Int), (t.length = ar.want kd) ↔ (if kd = 2 then (t.length : Int) = 2 else (t.length : Int) = 0) := by
        intro t
        show (t.length = if kd = 2 then 2 else 0) ↔ _
        by_cases h6 : kd = 2
        · rw [if_pos h6, if_pos h6]; omega
        · rw [if_neg h6, if_neg h6]; omega
      by_cases h6 : kd = 2
      · simp only [hw, if_pos h6]
        by_cases h7 : (chain (l.map nd) i).length ≤ 60
        · simp only [if_pos h7, if_neg (fun h => hd.mp h h7)]
        · simp only [if_neg h7, if_pos (hd.mpr h7)]
      · simp only [hw, if_neg h6]
        by_cases h7 : (chain (l.map nd) i).length ≤ 60
        · simp only [if_pos h7, if_neg (fun h => hd.mp h h7)]
        · simp only [if_neg h7, if_pos (hd.mpr h7)]
    by_cases h7 : c = true
    case neg =>
      exact bad (fun h => h7 (hc.mpr (hu ▸ h.around))) (go (Ev.step (f := fun _ => some false) (fun k => (fin k).trans (if_neg h7)) (Ev.now _)))
    have fin := fun k => (fin k).trans (if_pos h7)
    by_cases h8 : (chain (l.map nd) i).length ≤ 60
    case neg =>
      exact bad (fun h => h8 h.deep) (go (Ev.step (f := fun _ => some false) (fun k => (fin k).trans (if_neg h8)) (Ev.now _)))
    have fin := fun k => (fin k).trans (if_pos h8)
    by_cases h9 : ps.length = ar.want kd
    case neg =>
      exact bad (fun h => h9 (by have := h.wants; rw [hk, hlen] at this; rw [hpn]; exact this)) (go (Ev.step fin (Ev.bind hps (Ev.ite_neg h9 (Ev.now _)))))
    refine ⟨b, go (Ev.step fin (Ev.bind hps (Ev.ite_pos h9 hb))), hbi.trans ?_⟩
    have good : NodeOk (l.map nd) i := by
      refine ⟨by rw [hu]; exact h1, by rw [hu]; omega, by rw [hk]; exact h3, by rw [hn, hk]; exact ⟨h4.1, h4.2, h5⟩, by rw [hu]; exact hc.mp h7, h8, ?_⟩
      rw [hk, hlen, ← hpn]; exact h9
    constructor
    · intro h m hm1 hm2
      by_cases hmi : m = i
      · subst hmi; exact good
      · exact h m (by omega) hm2
    · intro h m hm1 hm2
      exact h m (by omega) hm2

def toS : Tr → S45
  | .leaf k n => ⟨k, n, []⟩
  | .un k n a => ⟨k, n, [toS a]⟩
  | .bin k n a b => ⟨k, n, [toS a, toS b]⟩

theorem at_nd {l : List S65} {i : Nat} (h : i < l.length) : (l.map nd)[i]? = some ⟨(l.getD i z65).f0, (l.getD i z65).f1, TreeM.up (l.map nd) i⟩ := by
  rw [get_of (by rw [List.length_map]; exact h), getD_nd, ← up_nd]; rfl

theorem combAt_ev (l : List S65) (hl : l.length ≤ 200) : ∀ (d i : Nat) (u : Int), i + d = l.length →
    (∃ t e, Par ar (l.map nd) i u t e ∧ Ev (fun k => impl_combAt.f k l i u) ((toS t).f0, (toS t).f1, (toS t).f2, (e : Int), true)) ∨
    ((∀ t e, ¬ Par ar (l.map nd) i u t e) ∧ Ev (fun k => impl_combAt.f k l i u) (0, 0, ([] : List S45), 0, false)) := by
  intro d
  induction d using Nat.strongRecOn with
  | _ d ih =>
    intro i u hi
    have bad : ∀ {x}, Ev (fun k => impl_combAt.j0 k l x true) (0, 0, ([] : List S45), 0, false) := fun {x} => Ev.step (f := fun _ => some (0, 0, ([] : List S45), 0, false)) (fun k => by simp only [impl_combAt.j0]; rfl) (Ev.now _)
    have hlen : (l.map nd).length = l.length := List.length_map ..
    by_cases hd : d = 0
    · refine .inr ⟨fun t e h => ?_, Ev.step (f := fun k => impl_combAt.j0 k l i true) (fun k => ?_) bad⟩
      · have := h.lt; have := h.span; omega
      · simp only [impl_combAt.f]; rw [if_pos (by omega)]
    have hil : i < l.length := by omega
    have hx := at_nd hil
    generalize hk : (l.getD i z65).f0 = kd at *
    generalize hn : (l.getD i z65).f1 = n at *
    -- what a tree from here on begins with
    have inv : ∀ {t e}, Par ar (l.map nd) i u t e → TreeM.up (l.map nd) i = u ∧ 1 ≤ kd ∧ kd ≤ 5 := by
      intro t e h
      cases h with
      | leaf h2 h3 _ => rw [hx] at h2; injection h2 with h2; injection h2 with a b c; subst a; exact ⟨c, h3⟩
      | un h2 h3 _ _ => rw [hx] at h2; injection h2 with h2; injection h2 with a b c; subst a; exact ⟨c, h3⟩
      | bin h2 h3 _ _ _ => rw [hx] at h2; injection h2 with h2; injection h2 with a b c; subst a; exact ⟨c, h3⟩
    have st : ∀ k, impl_combAt.f (k + 1) l i u = (if TreeM.up (l.map nd) i = u then (if kd < 1 then (impl_combAt.j0 k l i true) else (impl_combAt.j0 k l i (decide (kd > 5)))) else (impl_combAt.j0 k l i true)) := by
      intro k
      simp only [impl_combAt.f]
      rw [if_neg (by omega), if_pos (by omega), if_pos (by omega), rdC, up_nd, hk]
    by_cases h1 : TreeM.up (l.map nd) i = u
    case neg => exact .inr ⟨fun t e h => h1 (inv h).1, Ev.step (fun k => (st k).trans (if_neg h1)) bad⟩
    have st := fun k => (st k).trans (if_pos h1)
    by_cases h2 : kd < 1
    · exact .inr ⟨fun t e h => by have := inv h; omega, Ev.step (fun k => (st k).trans (if_pos h2)) bad⟩
    have st := fun k => (st k).trans (if_neg h2)
    by_cases h3 : kd > 5
    · refine .inr ⟨fun t e h => by have := inv h; omega, Ev.step (f := fun k => impl_combAt.j0 k l i true) (fun k => ?_) bad⟩
      rw [st k, decide_eq_true h3]
    have hkd : 1 ≤ kd ∧ kd ≤ ar.top := ⟨by omega, by show kd ≤ 5; omega⟩
    -- the rounds over its parts
    have go : ∀ {r}, Ev (fun k => impl_combAt.l0 k l i ((i + 1 : Nat) : Int) kd n []) r → Ev (fun k => impl_combAt.f k l i u) r := by
      intro r hE
      refine Ev.step (f := fun k => impl_combAt.j0 k l i false) (fun k => ?_) (Ev.step (fun k => ?_) hE)
      · rw [st k, decide_eq_false h3]
      · simp only [impl_combAt.j0]
        rw [if_neg (by simp), if_pos (by omega), if_pos (by omega), rdC, hk, hn, next i hil (by omega)]
    have done : ∀ (e : Int) (ps : List S45), (kd = 2 → ps.length = 2) → Ev (fun k => impl_combAt.l0 k l i e kd n ps) (kd, n, ps, e, true) := by
      intro e ps hps
      refine Ev.step (f := fun k => impl_combAt.j2 k l i e false kd n ps) (fun k => ?_) (Ev.step (f := fun _ => some (kd, n, ps, e, true)) (fun k => ?_) (Ev.now _))
      · simp only [impl_combAt.l0]
        by_cases h : kd = 2
        · rw [if_pos h, decide_eq_false (by have := hps h; omega)]
        · rw [if_neg h]
      · simp only [impl_combAt.j2]; rfl
    have one : ∀ (e : Nat) (ps : List S45), kd = 2 → ps.length < 2 → ∀ {r}, Ev (fun k => (impl_combAt.f k l e i).bind fun bt => (if bt.2.2.2.2 = true then (if ps.length < 3518437208883 then (impl_combAt.l0 k l i bt.2.2.2.1 kd n (ps ++ [(⟨bt.1, bt.2.1, bt.2.2.1⟩ : S45)])) else (none)) else (some (0, 0, ([] : List S45), 0, false)))) r → Ev (fun k => impl_combAt.l0 k l i e kd n ps) r := by
      intro e ps hk2 hps r hE
      refine Ev.step (f := fun k => impl_combAt.j2 k l i e true kd n ps) (fun k => ?_) (Ev.step (fun k => ?_) hE)
      · simp only [impl_combAt.l0]
        rw [if_pos hk2, decide_eq_true (by omega)]
      · simp only [impl_combAt.j2]; rfl
    by_cases hk2 : kd = 2
    case neg =>
      refine .inl ⟨.leaf kd n, i + 1, .leaf (by rw [hx, h1]) hkd (by show (if kd = 2 then 2 else 0) = 0; rw [if_neg hk2]), ?_⟩
      exact go (done _ _ (fun h => absurd h hk2))
    have hw : ar.want kd = 2 := by show (if kd = 2 then 2 else 0) = 2; rw [if_pos hk2]
    have invb : ∀ {t e}, Par ar (l.map nd) i u t e → ∃ a b e1, Par ar (l.map nd) (i + 1) i a e1 ∧ Par ar (l.map nd) e1 i b e := by
      intro t e h
      cases h with
      | leaf h2 _ h4 => rw [hx] at h2; injection h2 with h2; injection h2 with a b c; subst a; omega
      | un h2 _ h4 _ => rw [hx] at h2; injection h2 with h2; injection h2 with a b c; subst a; omega
      | bin _ _ _ h5 h6 => exact ⟨_, _, _, h5, h6⟩
    rcases ih (d - 1) (by omega) (i + 1) i (by omega) with ⟨a, e1, pa, ea⟩ | ⟨na, ea⟩
    case inr =>
      refine .inr ⟨fun t e h => ?_, go (one _ _ hk2 (by simp) (Ev.bind ea (Ev.ite_neg (by simp) (Ev.now _))))⟩
      obtain ⟨a, b, e1, h5, _⟩ := invb h
      exact na _ _ h5
    have s1 := pa.span
    have l1 := pa.lt
    rcases ih (l.length - e1) (by omega) e1 i (by omega) with ⟨b, e2, pb, eb⟩ | ⟨nb, eb⟩
    case inr =>
      refine .inr ⟨fun t e h => ?_, go (one _ _ hk2 (by simp) (Ev.bind ea (Ev.ite_pos rfl (Ev.ite_pos (by simp) (one _ _ hk2 (by simp) (Ev.bind eb (Ev.ite_neg (by simp) (Ev.now _))))))))⟩
      obtain ⟨a', b', e1', h5, h6⟩ := invb h
      obtain ⟨_, rfl⟩ := pa.unique h5
      exact nb _ _ h6
    refine .inl ⟨.bin kd n a b, e2, .bin (by rw [hx, h1]) hkd hw pa pb, ?_⟩
    have ea' : (⟨(toS a).f0, (toS a).f1, (toS a).f2⟩ : S45) = toS a := by cases toS a; rfl
    have eb' : (⟨(toS b).f0, (toS b).f1, (toS b).f2⟩ : S45) = toS b := by cases toS b; rfl
    refine go (one _ [] hk2 (by simp) (Ev.bind ea (Ev.ite_pos rfl (Ev.ite_pos (by simp) ?_))))
    show Ev (fun k => impl_combAt.l0 k l i (e1 : Int) kd n ([] ++ [(⟨(toS a).f0, (toS a).f1, (toS a).f2⟩ : S45)])) _
    rw [ea', List.nil_append]
    refine one e1 [toS a] hk2 (by simp) (Ev.bind eb (Ev.ite_pos rfl (Ev.ite_pos (by simp) ?_)))
    show Ev (fun k => impl_combAt.l0 k l i (e2 : Int) kd n ([toS a] ++ [(⟨(toS b).f0, (toS b).f1, (toS b).f2⟩ : S45)])) _
    rw [eb']
    exact done (e2 : Int) [toS a, toS b] (fun _ => rfl)

def numOk (k n : Int) : Prop := 0 ≤ n ∧ n ≤ 999 ∧ (k = 1 ∨ n = 0)

theorem Tr.depth_le (t : Tr) : t.depth ≤ t.size ∧ 1 ≤ t.depth := by
  induction t with
  | leaf k n => exact ⟨Nat.le_refl _, Nat.le_refl _⟩
  | un k n a ih => show a.depth + 1 ≤ 1 + a.size ∧ 1 ≤ a.depth + 1; omega
  | bin k n a b iha ihb => show max a.depth b.depth + 1 ≤ 1 + a.size + b.size ∧ 1 ≤ max a.depth b.depth + 1; omega

theorem measure_ev : ∀ (t : Tr), t.size ≤ 4000 → ∃ b, Ev (fun k => impl_comb_measure.f k (toS t).f0 (toS t).f1 (toS t).f2) ((t.size : Int), (t.depth : Int), b) ∧ (b = true ↔ t.all numOk) := by
  -- the node itself
  have node : ∀ (kd n : Int) (ps : List S45), ∃ c : Bool, (c = true ↔ numOk kd n) ∧ ∀ {r}, Ev (fun k => impl_comb_measure.l0 k 1 0 c ps ps.length 0) r → Ev (fun k => impl_comb_measure.f k kd n ps) r := by
    intro kd n ps
    have fin : ∀ (c : Bool) {r}, Ev (fun k => impl_comb_measure.l0 k 1 0 c ps ps.length 0) r → Ev (fun k => impl_comb_measure.j0 k 1 0 c kd n ps) r := fun c r h => Ev.step (fun k => rfl) h
    unfold numOk
    by_cases h1 : n ≥ 0
    · by_cases h2 : n ≤ 999
      · by_cases h3 : kd = 1
        · exact ⟨true, by simp; omega, fun h => Ev.step (fun k => by simp only [impl_comb_measure.f]; rw [if_pos h1, if_pos h2, if_pos h3]) (fin _ h)⟩
        · exact ⟨n == 0, by simp; omega, fun h => Ev.step (fun k => by simp only [impl_comb_measure.f]; rw [if_pos h1, if_pos h2, if_neg h3]) (fin _ h)⟩
      · exact ⟨false, by simp; omega, fun h => Ev.step (fun k => by simp only [impl_comb_measure.f]; rw [if_pos h1, if_neg h2]) (fin _ h)⟩
    · exact ⟨false, by simp; omega, fun h => Ev.step (fun k => by simp only [impl_comb_measure.f]; rw [if_neg h1]) (fin _ h)⟩
  have fin : ∀ (s dp : Nat) (c : Bool) (ps : List S45), dp ≤ 4000 → Ev (fun k => impl_comb_measure.l0 k s dp c ps ps.length ps.length) ((s : Int), ((dp + 1 : Nat) : Int), c) := by
    intro s dp c ps hd
    refine Ev.step (f := fun _ => some ((s : Int), ((dp + 1 : Nat) : Int), c)) (fun k => ?_) (Ev.now _)
    simp only [impl_comb_measure.l0]
    rw [if_neg (by omega), w64 (by omega) (by omega)]
    rfl
  have part : ∀ (s dp i s2 d2 : Nat) (c b : Bool) (ps : List S45) (x : S45), i < ps.length → ps.length ≤ 2 → rd_T45 ps i = x → s + s2 ≤ 4000 → Ev (fun k => impl_comb_measure.f k x.f0 x.f1 x.f2) ((s2 : Int), (d2 : Int), b) → ∀ {r}, Ev (fun k => impl_comb_measure.l0 k ((s + s2 : Nat) : Int) ((max dp d2 : Nat) : Int) (c && b) ps ps.length ((i + 1 : Nat) : Int)) r → Ev (fun k => impl_comb_measure.l0 k s dp c ps ps.length i) r := by
    intro s dp i s2 d2 c b ps x hi hl hx hs hE r h
    have hm : mx (dp : Int) (d2 : Int) = ((max dp d2 : Nat) : Int) := by unfold mx; split <;> omega
    refine Ev.step (f := fun k => (impl_comb_measure.f k x.f0 x.f1 x.f2).bind fun bt => (if c = true then (impl_comb_measure.l0 k (wrap64 ((s : Int) + bt.1)) (mx dp bt.2.1) bt.2.2 ps ps.length ((i + 1 : Nat) : Int)) else (impl_comb_measure.l0 k (wrap64 ((s : Int) + bt.1)) (mx dp bt.2.1) false ps ps.length ((i + 1 : Nat) : Int)))) (fun k => ?_) (Ev.bind hE ?_)
    · simp only [impl_comb_measure.l0]
      rw [if_pos (by omega), if_pos (by omega), if_pos (by omega), hx, next i hi (by omega)]
    · show Ev (fun k => if c = true then (impl_comb_measure.l0 k (wrap64 ((s : Int) + s2)) (mx dp d2) b ps ps.length ((i + 1 : Nat) : Int)) else (impl_comb_measure.l0 k (wrap64 ((s : Int) + s2)) (mx dp d2) false ps ps.length ((i + 1 : Nat) : Int))) r
      rw [hm, w64 (by omega) (by omega), show (s : Int) + s2 = ((s + s2 : Nat) : Int) by omega]
      by_cases hc : c = true
      · subst hc; rw [Bool.true_and] at h; exact Ev.ite_pos rfl h
      · obtain rfl : c = false := by simpa using hc
        rw [Bool.false_and] at h; exact Ev.ite_neg (by simp) h
  intro t
  induction t with
  | leaf kd n =>
    intro _
    obtain ⟨c, hc, hE⟩ := node kd n []
    exact ⟨c, hE (fin 1 0 c [] (by omega)), hc⟩
  | un kd n a ih =>
    intro hs
    have hs' : 1 + a.size ≤ 4000 := hs
    obtain ⟨b, hb, hbi⟩ := ih (by omega)
    obtain ⟨c, hc, hE⟩ := node kd n [toS a]
    have := Tr.depth_le a
    refine ⟨c && b, ?_, ?_⟩
    · refine hE (part 1 0 0 a.size a.depth c b [toS a] (toS a) (by simp) (by simp) rfl hs' hb (Ev.of_eq (fin (1 + a.size) (max 0 a.depth) (c && b) [toS a] (by omega)) ?_))
      rw [Nat.zero_max]; rfl
    · rw [Bool.and_eq_true, hc, hbi]; exact Iff.rfl
  | bin kd n x y ihx ihy =>
    intro hs
    have hs' : 1 + x.size + y.size ≤ 4000 := hs
    obtain ⟨b1, hb1, hbi1⟩ := ihx (by omega)
    obtain ⟨b2, hb2, hbi2⟩ := ihy (by omega)
    obtain ⟨c, hc, hE⟩ := node kd n [toS x, toS y]
    have := Tr.depth_le x
    have := Tr.depth_le y
    refine ⟨(c && b1) && b2, ?_, ?_⟩
    · refine hE (part 1 0 0 x.size x.depth c b1 [toS x, toS y] (toS x) (by simp) (by simp) rfl (by omega) hb1 ?_)
      refine part (1 + x.size) (max 0 x.depth) 1 y.size y.depth (c && b1) b2 [toS x, toS y] (toS y) (by simp) (by simp) rfl hs' hb2 ?_
      refine Ev.of_eq (fin (1 + x.size + y.size) (max (max 0 x.depth) y.depth) ((c && b1) && b2) [toS x, toS y] (by omega)) ?_
      rw [Nat.zero_max]; rfl
    · rw [Bool.and_eq_true, Bool.and_eq_true, hc, hbi1, hbi2, and_assoc]; exact Iff.rfl

def Tells (l : List S65) (t : Tr) : Prop := 1 ≤ l.length ∧ l.length ≤ 200 ∧ Par ar (l.map nd) 0 (-1) t l.length ∧ t.all numOk ∧ t.depth ≤ 60

theorem nodes_iff (l : List S65) (h1 : 1 ≤ l.length) (h2 : l.length ≤ 200) : (∀ m, 0 ≤ m → m < l.length → NodeOk (l.map nd) m) ↔ ∃ t, Tells l t := by
  have hlen : (l.map nd).length = l.length := List.length_map ..
  have hli := loc_iff (A := ar) (l := l.map nd) ar2 (by omega)
  constructor
  · intro h
    have L : TreeM.Loc ar (l.map nd) := by
      refine ⟨fun _ => (h 0 (Nat.le_refl _) (by omega)).top.mp rfl, fun m h3 h4 => ?_, fun m h3 h4 => ?_, fun m h3 => (h m (by omega) (by omega)).kind, fun m h3 => (h m (by omega) (by omega)).wants⟩
      · have hm := h m (by omega) (by omega)
        have := hm.ahead
        have := hm.top
        omega
      · have hm := h m (by omega) (by omega)
        obtain ⟨x, hx, hxu⟩ := hm.around.resolve_left (by omega)
        rw [← hxu, Int.toNat_natCast]; exact hx
    obtain ⟨t, ht⟩ := hli.mp L
    rw [hlen] at ht
    refine ⟨t, h1, h2, ht, (ht.alls numOk).mpr (fun m h3 h4 => (h m h3 h4).num), ?_⟩
    obtain ⟨m, h3, h4, h5⟩ := ht.deep.2
    have hm := (h m h3 h4).deep
    have h0 : (chain (l.map nd) 0).length = 1 := by rw [chain_top (by rw [ht.span.2.2]; omega)]; rfl
    omega
  · rintro ⟨t, _, _, ht, hn, hd⟩ m _ hm
    have L : TreeM.Loc ar (l.map nd) := hli.mpr ⟨t, by rw [hlen]; exact ht⟩
    have h0 : (chain (l.map nd) 0).length = 1 := by rw [chain_top (by rw [ht.span.2.2]; omega)]; rfl
    have hr := L.root (by omega)
    refine ⟨?_, ?_, L.kinds m (by omega), (ht.alls numOk).mp hn m (by omega) hm, ?_, by have := ht.deep.1 m (by omega) hm; omega, L.wants m (by omega)⟩
    · by_cases h3 : m = 0
      · subst h3; exact ⟨fun _ => hr, fun _ => rfl⟩
      · have := L.ahead m (by omega) (by omega); omega
    · by_cases h3 : m = 0
      · subst h3; omega
      · have := L.ahead m (by omega) (by omega); omega
    · by_cases h3 : m = 0
      · exact .inl h3
      · have h4 := L.ahead m (by omega) (by omega)
        exact .inr ⟨_, L.around m (by omega) (by omega), by omega⟩

theorem specGood (l : List S65) (hl : l.length ≤ 9223372036854775807) : ∃ b, Ev (fun k => spec_GoodComb.f k l) b ∧ (b = true ↔ ∃ t, Tells l t) := by
  unfold spec_GoodComb.f
  rw [l1In_eq]
  simp only [Option.bind_some, decide_eq_true_eq]
  by_cases h : (1 : Int) ≤ (l.length : Int) ∧ (l.length : Int) ≤ 200
  · obtain ⟨b, hb, hbi⟩ := specLoop l (by omega) l.length 0 (by omega) (fun m hm => by omega)
    exact ⟨b, Ev.ite_pos h hb, hbi.trans (nodes_iff l (by omega) (by omega))⟩
  · exact ⟨false, Ev.ite_neg h (Ev.now _), fun h2 => absurd h2 (by simp), fun ⟨t, h2, h3, _⟩ => absurd ⟨by omega, by omega⟩ h⟩

theorem rootEv (l : List S65) (hl : l.length ≤ 9223372036854775807) : ∃ (x : S45) (b : Bool), Ev (fun k => impl_combRoot.f k l) (x.f0, x.f1, x.f2, b) ∧ (b = true ↔ ∃ t, Tells l t) ∧ (b = true → ∃ t, Tells l t ∧ x = toS t) := by
  have bad : (¬ ∃ t, Tells l t) → ∀ (x : S45), Ev (fun k => impl_combRoot.f k l) (x.f0, x.f1, x.f2, false) → ∃ (x : S45) (b : Bool), Ev (fun k => impl_combRoot.f k l) (x.f0, x.f1, x.f2, b) ∧ (b = true ↔ ∃ t, Tells l t) ∧ (b = true → ∃ t, Tells l t ∧ x = toS t) :=
    fun h x hE => ⟨x, false, hE, ⟨fun h2 => absurd h2 (by simp), fun h2 => absurd h2 h⟩, fun h2 => absurd h2 (by simp)⟩
  have none : Ev (fun k => impl_combRoot.j0 k l true) (0, 0, ([] : List S45), false) := Ev.step (f := fun _ => some (0, 0, ([] : List S45), false)) (fun k => by simp only [impl_combRoot.j0]; rfl) (Ev.now _)
  by_cases h1 : (l.length : Int) < 1
  · refine bad (fun ⟨t, h2, _⟩ => by omega) ⟨0, 0, []⟩ ?_
    unfold impl_combRoot.f
    exact Ev.ite_pos h1 none
  by_cases h2 : (l.length : Int) > 200
  · refine bad (fun ⟨t, _, h3, _⟩ => by omega) ⟨0, 0, []⟩ ?_
    unfold impl_combRoot.f
    refine Ev.ite_neg h1 ?_
    rw [decide_eq_true h2]; exact none
  have go : ∀ {r}, Ev (fun k => (impl_combAt.f k l 0 (-1)).bind fun bt102 => (if bt102.2.2.2.2 = true then (if bt102.2.2.2.1 = (l.length : Int) then ((impl_comb_isGood.f k bt102.1 bt102.2.1 bt102.2.2.1).bind fun t110 => (some (bt102.1, bt102.2.1, bt102.2.2.1, t110))) else (some (bt102.1, bt102.2.1, bt102.2.2.1, false))) else (some (bt102.1, bt102.2.1, bt102.2.2.1, false)))) r → Ev (fun k => impl_combRoot.f k l) r := by
    intro r hE
    unfold impl_combRoot.f
    refine Ev.ite_neg h1 ?_
    rw [decide_eq_false h2]
    exact Ev.step (fun k => by simp only [impl_combRoot.j0]; rfl) hE
  rcases combAt_ev l (by omega) l.length 0 (-1) (by omega) with ⟨t, e, ht, hE⟩ | ⟨hn, hE⟩
  case inr =>
    exact bad (fun ⟨t, _, _, h3, _⟩ => hn _ _ h3) ⟨0, 0, []⟩ (go (Ev.bind hE (Ev.ite_neg (by simp) (Ev.now _))))
  by_cases he : e = l.length
  case neg =>
    refine bad (fun ⟨t', _, _, h3, _⟩ => he (ht.unique h3).2) (toS t) (go (Ev.bind hE (Ev.ite_pos rfl (Ev.ite_neg ?_ (Ev.now _)))))
    show ¬ (e : Int) = _
    omega
  subst he
  have hs := ht.span
  obtain ⟨b, hb, hbi⟩ := measure_ev t (by omega)
  have hd := Tr.depth_le t
  refine ⟨toS t, b && decide (t.depth ≤ 60), go (Ev.bind hE (Ev.ite_pos rfl (Ev.ite_pos rfl ?_))), ?_, ?_⟩
  · unfold impl_comb_isGood.f
    show Ev (fun k => ((impl_comb_measure.f k (toS t).f0 (toS t).f1 (toS t).f2).bind _).bind _) _
    refine Ev.bind (a := b && decide (t.depth ≤ 60)) (Ev.bind hb ?_) (Ev.now _)
    show Ev (fun k => if b = true then (if (t.size : Int) ≤ 200 then some (decide ((t.depth : Int) ≤ 60)) else some false) else some false) _
    by_cases h3 : b = true
    · refine Ev.ite_pos h3 (Ev.ite_pos (by omega) (Ev.of_eq (Ev.now _) ?_))
      rw [h3, Bool.true_and]; exact decide_eq_decide.mpr (by omega)
    · refine Ev.ite_neg h3 (Ev.of_eq (Ev.now _) ?_)
      rw [Bool.eq_false_iff.mpr h3, Bool.false_and]
  · rw [Bool.and_eq_true, hbi, decide_eq_true_iff]
    constructor
    · intro h3; exact ⟨t, by omega, by omega, ht, h3.1, h3.2⟩
    · rintro ⟨t', _, _, h3, h4, h5⟩
      obtain ⟨rfl, _⟩ := ht.unique h3
      exact ⟨h4, h5⟩
  · intro h3
    rw [Bool.and_eq_true, hbi, decide_eq_true_iff] at h3
    exact ⟨t, ⟨by omega, by omega, ht, h3.1, h3.2⟩, rfl⟩


def toL : Tr → S53
  | .leaf k n => ⟨k, n, []⟩
  | .un k n a => ⟨k, n, [toL a]⟩
  | .bin k n a b => ⟨k, n, [toL a, toL b]⟩
theorem toL_eta (a : Tr) : (⟨(toL a).f0, (toL a).f1, (toL a).f2⟩ : S53) = toL a := by cases toL a; rfl
theorem toS_eta (a : Tr) : (⟨(toS a).f0, (toS a).f1, (toS a).f2⟩ : S45) = toS a := by cases toS a; rfl

theorem want_of {k : Int} (h : ar.want k = 2) : k = 2 := by
  by_cases hk : k = 2
  · exact hk
  · have h2 : (if k = 2 then 2 else 0) = 2 := h
    rw [if_neg hk] at h2; omega
theorem want_one {k : Int} (h : ar.want k = 1) : False := by
  have h2 : (if k = 2 then 2 else 0) = 1 := h
  split at h2 <;> omega
theorem want_zero {k : Int} (h : ar.want k = 0) : k ≠ 2 := by
  rintro rfl
  have h2 : (2 : Nat) = 0 := h
  omega

theorem partsL (l : List S65) (i : Nat) (hl : l.length ≤ 200) : ∀ (d a : Nat) (acc : List Int), a + d = l.length → acc.length + d ≤ 200 → Ev (fun k => spec_ldParts.l0 k l i acc a) (acc ++ (pts (l.map nd) i a d).map fun (m : Nat) => (m : Int)) := by
  intro d
  induction d with
  | zero =>
    intro a acc ha _
    refine Ev.step (f := fun _ => some acc) (fun k => ?_) (Ev.of_eq (Ev.now _) ?_)
    · simp only [spec_ldParts.l0]
      rw [if_neg (by omega)]
    · simp [pts]
  | succ d ih =>
    intro a acc ha hacc
    by_cases h : up (l.map nd) a = (i : Int)
    · refine Ev.step (fun k => ?_) (Ev.of_eq (ih (a + 1) (acc ++ [(a : Int)]) (by omega) (by simp; omega)) ?_)
      · simp only [spec_ldParts.l0]
        rw [if_pos (by omega), if_pos (by omega), rdC, up_nd, if_pos h, if_pos (by omega), next a (n := l.length) (by omega) (by omega)]
      · have e : pts (l.map nd) i a (d + 1) = a :: pts (l.map nd) i (a + 1) d := by
          show (if up (l.map nd) a = (i : Int) then _ else _) = _
          rw [if_pos h]
        rw [e]; simp
    · refine Ev.step (fun k => ?_) (Ev.of_eq (ih (a + 1) acc (by omega) (by omega)) ?_)
      · simp only [spec_ldParts.l0]
        rw [if_pos (by omega), if_pos (by omega), rdC, up_nd, if_neg h, next a (n := l.length) (by omega) (by omega)]
      · have e : pts (l.map nd) i a (d + 1) = pts (l.map nd) i (a + 1) d := by
          show (if up (l.map nd) a = (i : Int) then _ else _) = _
          rw [if_neg h]
        rw [e]
theorem ldPartsL (l : List S65) (i : Nat) (hi : i < l.length) (hl : l.length ≤ 200) : Ev (fun k => spec_ldParts.f k l i) ((pts (l.map nd) i (i + 1) (l.length - (i + 1))).map fun (m : Nat) => (m : Int)) := by
  have := partsL l i hl (l.length - (i + 1)) (i + 1) [] (by omega) (by simp; omega)
  unfold spec_ldParts.f
  rw [next i hi (by omega)]
  rw [List.nil_append] at this
  exact this

theorem rdI (l : List Int) (i : Nat) : rd l (i : Int) = l.getD i 0 := by unfold rd; rw [Int.toNat_natCast]

theorem ldTree_ev (l : List S65) (hl : l.length ≤ 200) {i e : Nat} {t : Tr} (h : Parts ar (l.map nd) i t e) : Ev (fun k => spec_ldTree.f k l i) ((toL t).f0, (toL t).f1, (toL t).f2) := by
  have hlen : (l.map nd).length = l.length := List.length_map ..
  have start : ∀ {i : Nat} {kd n v : Int} {ps : List Nat}, (l.map nd).getD i z = ⟨kd, n, v⟩ → i < (l.map nd).length → pts (l.map nd) i (i + 1) ((l.map nd).length - (i + 1)) = ps → ∀ {r}, Ev (fun k => spec_ldTree.l0 k l (ps.map fun (m : Nat) => (m : Int)) ((ps.map fun (m : Nat) => (m : Int)).length : Int) 0 kd n []) r → Ev (fun k => spec_ldTree.f k l i) r := by
    intro i kd n v ps h0 hi hp r hE
    rw [hlen] at hi hp
    have e0 : (l.getD i z65).f0 = kd := by have := getD_nd l i; rw [h0] at this; exact (congrArg Nd.kind this).symm
    have e1 : (l.getD i z65).f1 = n := by have := getD_nd l i; rw [h0] at this; exact (congrArg Nd.n this).symm
    refine Ev.step (f := fun k => (spec_ldParts.f k l i).bind fun t105 => (spec_ldTree.l0 k l t105 (t105.length : Int) 0 kd n [])) (fun k => ?_) (Ev.bind (ldPartsL l i hi hl) ?_)
    · simp only [spec_ldTree.f]
      rw [if_pos (by omega), if_pos (by omega), rdC, e0, e1]
    · rw [hp]; exact hE
  have fin : ∀ (qs : List Int) (j kd n : Int) (ps : List S53), ¬ j < (qs.length : Int) → Ev (fun k => spec_ldTree.l0 k l qs (qs.length : Int) j kd n ps) (kd, n, ps) := by
    intro qs j kd n ps hj
    refine Ev.step (f := fun _ => some (kd, n, ps)) (fun k => ?_) (Ev.now _)
    simp only [spec_ldTree.l0]
    rw [if_neg hj]
  have one : ∀ (qs : List Int) (j q : Nat) (kd n : Int) (ps : List S53) (t : Tr), j < qs.length → qs.length ≤ 2 → ps.length ≤ 2 → qs.getD j 0 = (q : Int) → Ev (fun k => spec_ldTree.f k l q) ((toL t).f0, (toL t).f1, (toL t).f2) → ∀ {r}, Ev (fun k => spec_ldTree.l0 k l qs (qs.length : Int) ((j + 1 : Nat) : Int) kd n (ps ++ [toL t])) r → Ev (fun k => spec_ldTree.l0 k l qs (qs.length : Int) (j : Int) kd n ps) r := by
    intro qs j q kd n ps t hj hq hp hqe hE r h
    refine Ev.step (f := fun k => (spec_ldTree.f k l (q : Int)).bind fun bt109 => (if ps.length < 3518437208883 then (spec_ldTree.l0 k l qs (qs.length : Int) ((j + 1 : Nat) : Int) kd n (ps ++ [(⟨bt109.1, bt109.2.1, bt109.2.2⟩ : S53)])) else (none))) (fun k => ?_) (Ev.bind hE (Ev.ite_pos (by omega) ?_))
    · simp only [spec_ldTree.l0]
      rw [if_pos (by omega), if_pos (by omega), if_pos (by omega), rdI, hqe, next j hj (by omega)]
    · show Ev (fun k => spec_ldTree.l0 k l qs (qs.length : Int) ((j + 1 : Nat) : Int) kd n (ps ++ [(⟨(toL t).f0, (toL t).f1, (toL t).f2⟩ : S53)])) r
      rw [toL_eta]; exact h
  induction h with
  | @leaf i k n h hi hw hp => exact start h hi hp (fin [] 0 k n [] (by simp))
  | @un i e k n a h hi hw hp ha ih => exact start h hi hp (one [((i + 1 : Nat) : Int)] 0 (i + 1) k n [] a (by simp) (by simp) (by simp) rfl ih (fin [((i + 1 : Nat) : Int)] 1 k n [toL a] (by simp)))
  | @bin i e e' k n a b h hi hw hp ha hb ih1 ih2 =>
    exact start h hi hp (one [((i + 1 : Nat) : Int), (e : Int)] 0 (i + 1) k n [] a (by simp) (by simp) (by simp) rfl ih1 (one [((i + 1 : Nat) : Int), (e : Int)] 1 e k n [toL a] b (by simp) (by simp) (by simp) rfl ih2 (fin [((i + 1 : Nat) : Int), (e : Int)] 2 k n [toL a, toL b] (by simp))))

def back (x : Nd) : S65 := ⟨x.kind, x.n, x.up⟩
theorem nd_back (l : List Nd) : (l.map back).map nd = l := by
  rw [List.map_map]
  have : (nd ∘ back) = id := by funext x; rfl
  rw [this, List.map_id]
def tnodes (t : Tr) : List S65 := (flat t 0 (-1)).map back
theorem tnodes_len (t : Tr) : (tnodes t).length = t.size := by unfold tnodes; rw [List.length_map, flat_len]

theorem fl_spec : ∀ (t : Tr) (up : Int) (l : List S65), l.length ≤ 200 → (l.length + t.size ≤ 201 → Flat53.flT (toL t) up l = l ++ (flat t l.length up).map back) ∧ (201 < l.length + t.size → 201 ≤ (Flat53.flT (toL t) up l).length) := by
  intro t
  induction t with
  | leaf k n =>
    intro up l hl
    have e : Flat53.flT (toL (.leaf k n)) up l = l ++ [⟨k, n, up⟩] := by rw [Flat53.flT_eq]; show Flat53.flL [] _ _ = _; rw [Flat53.flL_nil]; rfl
    have hs : (Tr.leaf k n).size = 1 := rfl
    exact ⟨fun _ => e, fun h => by omega⟩
  | un k n a ih =>
    intro up l hl
    have hs : (Tr.un k n a).size = 1 + a.size := rfl
    have hp := a.size_pos
    have e : Flat53.flT (toL (.un k n a)) up l = (if (l ++ [(⟨k, n, up⟩ : S65)]).length ≤ 200 then Flat53.flT (toL a) (l.length : Int) (l ++ [⟨k, n, up⟩]) else l ++ [⟨k, n, up⟩]) := by
      rw [Flat53.flT_eq]; show Flat53.flL [toL a] _ _ = _; rw [Flat53.flL_cons, Flat53.flL_nil]; rfl
    have e1 : (l ++ [(⟨k, n, up⟩ : S65)]).length = l.length + 1 := by simp
    rw [e, e1]
    by_cases h1 : l.length + 1 ≤ 200
    · rw [if_pos h1]
      have h2 := ih (l.length : Int) (l ++ [⟨k, n, up⟩]) (by omega)
      rw [e1] at h2
      refine ⟨fun h => ?_, fun h => h2.2 (by omega)⟩
      rw [h2.1 (by omega)]
      show _ = l ++ (⟨k, n, up⟩ :: flat a (l.length + 1) l.length).map back
      simp [back]
    · rw [if_neg h1]
      exact ⟨fun h => by omega, fun h => by omega⟩
  | bin k n a b iha ihb =>
    intro up l hl
    have hs : (Tr.bin k n a b).size = 1 + a.size + b.size := rfl
    have hp := a.size_pos
    have hq := b.size_pos
    have e1 : (l ++ [(⟨k, n, up⟩ : S65)]).length = l.length + 1 := by simp
    have e : Flat53.flT (toL (.bin k n a b)) up l = (fun m => if m.length ≤ 200 then Flat53.flT (toL b) (l.length : Int) m else m) (if l.length + 1 ≤ 200 then Flat53.flT (toL a) (l.length : Int) (l ++ [⟨k, n, up⟩]) else l ++ [⟨k, n, up⟩]) := by
      rw [Flat53.flT_eq]; show Flat53.flL [toL a, toL b] _ _ = _; rw [Flat53.flL_cons, Flat53.flL_cons, Flat53.flL_nil, ← e1]; rfl
    rw [e]
    by_cases h1 : l.length + 1 ≤ 200
    · rw [if_pos h1]
      have h2 := iha (l.length : Int) (l ++ [⟨k, n, up⟩]) (by omega)
      rw [e1] at h2
      by_cases h3 : l.length + 1 + a.size ≤ 201
      · rw [h2.1 h3]
        have e2 : (l ++ [(⟨k, n, up⟩ : S65)] ++ (flat a (l.length + 1) l.length).map back).length = l.length + 1 + a.size := by rw [List.length_append, List.length_map, flat_len, e1]
        dsimp only
        rw [e2]
        by_cases h4 : l.length + 1 + a.size ≤ 200
        · rw [if_pos h4]
          have h5 := ihb (l.length : Int) (l ++ [(⟨k, n, up⟩ : S65)] ++ (flat a (l.length + 1) l.length).map back) (by omega)
          rw [e2] at h5
          refine ⟨fun h => ?_, fun h => h5.2 (by omega)⟩
          rw [h5.1 (by omega)]
          show _ = l ++ (⟨k, n, up⟩ :: (flat a (l.length + 1) l.length ++ flat b (l.length + 1 + a.size) l.length)).map back
          simp [back]
        · rw [if_neg h4]
          exact ⟨fun h => by omega, fun h => by omega⟩
      · have h6 := h2.2 (by omega)
        dsimp only
        rw [if_neg (by omega)]
        exact ⟨fun h => by omega, fun h => h6⟩
    · rw [if_neg h1]
      dsimp only
      rw [if_neg (by omega)]
      exact ⟨fun h => by omega, fun h => by omega⟩

theorem fl_impl : ∀ (t : Tr) (up : Int) (l : List S65), Nodes45.flT (toS t) up l = l ++ (flat t l.length up).map back := by
  intro t
  induction t with
  | leaf k n => intro up l; rw [Nodes45.flT_eq]; show Nodes45.flL [] _ _ = _; rw [Nodes45.flL_nil]; rfl
  | un k n a ih =>
    intro up l
    rw [Nodes45.flT_eq]; show Nodes45.flL [toS a] _ _ = _
    rw [Nodes45.flL_cons, Nodes45.flL_nil, ih]
    show _ = l ++ (⟨k, n, up⟩ :: flat a (l.length + 1) l.length).map back
    simp [back, toS]
  | bin k n a b iha ihb =>
    intro up l
    rw [Nodes45.flT_eq]; show Nodes45.flL [toS a, toS b] _ _ = _
    rw [Nodes45.flL_cons, Nodes45.flL_cons, Nodes45.flL_nil, iha, ihb]
    show _ = l ++ (⟨k, n, up⟩ :: (flat a (l.length + 1) l.length ++ flat b (l.length + 1 + a.size) l.length)).map back
    simp [back, toS, flat_len, show l.length + 1 + a.size = l.length + (a.size + 1) by omega]
theorem sz_impl : ∀ (t : Tr), Nodes45.szT (toS t) = t.size := by
  intro t
  induction t with
  | leaf k n => rw [Nodes45.szT_eq]; show 1 + Nodes45.szL [] = 1; rw [Nodes45.szL]
  | un k n a ih => rw [Nodes45.szT_eq]; show 1 + Nodes45.szL [toS a] = 1 + a.size; rw [Nodes45.szL_cons, Nodes45.szL, ih]; omega
  | bin k n a b iha ihb => rw [Nodes45.szT_eq]; show 1 + Nodes45.szL [toS a, toS b] = 1 + a.size + b.size; rw [Nodes45.szL_cons, Nodes45.szL_cons, Nodes45.szL, iha, ihb]; omega

def Good (t : Tr) : Prop := t.size ≤ 200 ∧ t.depth ≤ 60 ∧ t.all numOk

theorem isGood_ev (t : Tr) (hs : t.size ≤ 4000) : ∃ b, Ev (fun k => impl_comb_isGood.f k (toS t).f0 (toS t).f1 (toS t).f2) b ∧ (b = true ↔ Good t) := by
  obtain ⟨b, hb, hbi⟩ := measure_ev t hs
  unfold impl_comb_isGood.f Good
  by_cases h3 : b = true
  case neg => exact ⟨false, Ev.bind hb (Ev.ite_neg h3 (Ev.now _)), fun h => absurd h (by simp), fun h => absurd (hbi.mpr h.2.2) h3⟩
  by_cases h4 : t.size ≤ 200
  case neg => exact ⟨false, Ev.bind hb (Ev.ite_pos h3 (Ev.ite_neg (by omega) (Ev.now _))), fun h => absurd h (by simp), fun h => absurd h.1 h4⟩
  refine ⟨decide (t.depth ≤ 60), Ev.bind hb (Ev.ite_pos h3 (Ev.ite_pos (by omega) (Ev.of_eq (Ev.now _) ?_))), ?_⟩
  · exact decide_eq_decide.mpr (by show ((t.depth : Int) ≤ 60) ↔ _; omega)
  · rw [decide_eq_true_iff]
    exact ⟨fun h => ⟨h4, h, hbi.mp h3⟩, fun h => h.2.1⟩

theorem tells_iff (t : Tr) (hw : t.wf ar) (hs : t.size ≤ 200) : (∃ t', Tells (tnodes t) t') ↔ Good t := by
  have hp := flat_par t hw
  have hm : (tnodes t).map nd = flat t 0 (-1) := nd_back _
  have hl := tnodes_len t
  constructor
  · rintro ⟨t', h1, h2, h3, h4, h5⟩
    rw [hm, hl, ← flat_len t 0 (-1)] at h3
    obtain ⟨rfl, _⟩ := hp.unique h3
    exact ⟨hs, h5, h4⟩
  · rintro ⟨_, h2, h3⟩
    refine ⟨t, ?_, by omega, ?_, h3, h2⟩
    · rw [hl]; exact t.size_pos
    · rw [hm, hl, ← flat_len t 0 (-1)]; exact hp

theorem toldBoth (t : Tr) (hw : t.wf ar) (hs : t.size ≤ 4000) : ∃ (o : List S65) (b : Bool), o.length ≤ 200 ∧ Ev (fun k => spec_ldTold.f k (toL t).f0 (toL t).f1 (toL t).f2) (o, b) ∧ Ev (fun k => impl_comb_goodNodes.f k (toS t).f0 (toS t).f1 (toS t).f2) (o, b) ∧ (b = true ↔ Good t) ∧ (b = true → o = tnodes t) ∧ (b = false → o = []) := by
  obtain ⟨bi, hbi, hg⟩ := isGood_ev t hs
  have hfs := fl_spec t (-1) [] (by simp)
  have e0 : (([] : List S65).length + t.size) = t.size := by simp
  rw [e0] at hfs
  have hsg : ∃ b, Ev (fun k => spec_GoodComb.f k (Flat53.flT (toL t) (-1) [])) b ∧ (b = true ↔ Good t) ∧ (b = true → Flat53.flT (toL t) (-1) [] = tnodes t) := by
    by_cases h : t.size ≤ 201
    · have e : Flat53.flT (toL t) (-1) [] = tnodes t := by rw [hfs.1 h]; rfl
      rw [e]
      obtain ⟨b, hb, hbg⟩ := specGood (tnodes t) (by rw [tnodes_len]; omega)
      refine ⟨b, hb, ?_, fun _ => rfl⟩
      by_cases h2 : t.size ≤ 200
      · rw [hbg, tells_iff t hw h2]
      · rw [hbg]
        constructor
        · rintro ⟨t', _, h3, _⟩; rw [tnodes_len] at h3; omega
        · intro h3; exact absurd h3.1 h2
    · have h1 := hfs.2 (by omega)
      have h2 := Flat53.flT_len (toL t) (-1) [] (by simp)
      obtain ⟨b, hb, hbg⟩ := specGood (Flat53.flT (toL t) (-1) []) (by omega)
      have hf : ¬ b = true := by rw [hbg]; rintro ⟨t', _, h3, _⟩; omega
      exact ⟨b, hb, ⟨fun h3 => absurd h3 hf, fun h3 => absurd h3.1 (by omega)⟩, fun h3 => absurd h3 hf⟩
  obtain ⟨bs, hbs, hgs, hes⟩ := hsg
  obtain rfl : bs = bi := by rw [Bool.eq_iff_iff, hgs, hg]
  unfold spec_ldTold.f impl_comb_goodNodes.f
  rw [toL_eta, toS_eta]
  by_cases h : bs = true
  · have hgood := hgs.mp h
    refine ⟨tnodes t, true, by rw [tnodes_len]; exact hgood.1, Ev.bind hbs (Ev.ite_pos h (Ev.of_eq (Ev.now _) (by rw [hes h]))), Ev.bind hbi (Ev.ite_pos h (Ev.ite_pos (by rw [sz_impl]; omega) (Ev.of_eq (Ev.now _) (by rw [fl_impl]; rfl)))), by simp [hgood], fun _ => rfl, fun h => absurd h (by simp)⟩
  · refine ⟨[], false, by simp, Ev.bind hbs (Ev.ite_neg h (Ev.now _)), Ev.bind hbi (Ev.ite_neg h (Ev.now _)), ?_, fun h => absurd h (by simp), fun _ => rfl⟩
    constructor
    · intro h2; exact absurd h2 (by simp)
    · intro h2; exact absurd (hgs.mpr h2) h

theorem tree_of (l : List S65) {t : Tr} (h : Tells l t) : Ev (fun k => spec_ldTree.f k l 0) ((toL t).f0, (toL t).f1, (toL t).f2) ∧ t.wf ar ∧ t.size ≤ 200 := by
  have hlen : (l.map nd).length = l.length := List.length_map ..
  obtain ⟨h1, h2, h3, _, _⟩ := h
  have h4 := h3
  rw [← hlen] at h4
  refine ⟨ldTree_ev l h2 h4.parts_all, h3.wf, ?_⟩
  have := h3.span; omega


theorem toldI (t : Tr) (hs : t.size ≤ 4000) : ∃ b, (b = true ↔ Good t) ∧ Ev (fun k => impl_comb_goodNodes.f k (toS t).f0 (toS t).f1 (toS t).f2) (if b = true then tnodes t else [], b) := by
  obtain ⟨bi, hbi, hg⟩ := isGood_ev t hs
  refine ⟨bi, hg, ?_⟩
  unfold impl_comb_goodNodes.f
  by_cases h : bi = true
  · have hgood := hg.mp h
    rw [if_pos h, toS_eta]
    exact Ev.bind hbi (Ev.ite_pos h (Ev.ite_pos (by rw [sz_impl]; omega) (Ev.of_eq (Ev.now _) (by rw [fl_impl, h]; rfl))))
  · rw [if_neg h]
    exact Ev.bind hbi (Ev.ite_neg h (Ev.of_eq (Ev.now _) (by simpa using h)))

end Go.Proofs.YthfkimbmepmelaaDoor.CombL

namespace Go.Proofs.YthfkimbmepmelaaDoor.CombL
open Go.RowKit Go.Proofs.YthfkimbmepmelaaDoor.G Go.Proofs.YthfkimbmepmelaaDoor.EvL Go.Proofs.YthfkimbmepmelaaDoor.TreeM Go.Proofs.YthfkimbmepmelaaDoor.TxtL Go.Proofs.YthfkimbmepmelaaDoor.NumL Go.Proofs.YthfkimbmepmelaaDoor.ReadM Go.Proofs.YthfkimbmepmelaaDoorW.PrintWords Go.Proofs.YthfkimbmepmelaaDoorW.PrintLast
set_option linter.unusedVariables false
set_option linter.unusedSimpArgs false

theorem e40 : (⟨#[40]⟩ : ByteArray) = B [40] := rfl
theorem e32 : (⟨#[32]⟩ : ByteArray) = B [32] := rfl
theorem e41 : (⟨#[41]⟩ : ByteArray) = B [41] := rfl
theorem e120 : (⟨#[120]⟩ : ByteArray) = B [120] := rfl
theorem text_ev : ∀ (t : Tr), CForm 10000 t → (ctxt t).length ≤ 9000000 → Ev (fun k => spec_ldText.f k (toL t).f0 (toL t).f1 (toL t).f2) (B (ctxt t)) ∧ Ev (fun k => impl_comb_text.f k (toS t).f0 (toS t).f1 (toS t).f2) (B (ctxt t))
  | .leaf k n, h, hl => by
    rcases h with ⟨rfl, h0, h1⟩ | ⟨h, rfl⟩
    · have hi : strconv_Itoa_32.f n = some (B (Lib.decDigits n.toNat)) := if_pos ⟨h0, by omega⟩
      have hl' : (Lib.decDigits n.toNat).length + 1 ≤ 9000000 := hl
      have z1 : 1 + (B (Lib.decDigits n.toNat)).size ≤ 9223372036854775807 := by rw [B_size]; omega
      have e : (⟨#[120]⟩ : ByteArray) ++ B (Lib.decDigits n.toNat) = B (ctxt (.leaf 1 n)) := by rw [e120, B_append]; rfl
      refine ⟨Ev.step (f := fun m => (spec_l1Num.f m n).bind fun t102 => if 1 + t102.size ≤ 9223372036854775807 then some ((⟨#[120]⟩ : ByteArray) ++ t102) else none) (fun m => ?_) (Ev.bind (num_B n h0 (by omega)) (Ev.ite_pos z1 (Ev.of_eq (Ev.now _) e))), Ev.step (f := fun _ => some (B (ctxt (.leaf 1 n)))) (fun m => ?_) (Ev.now _)⟩
      · show spec_ldText.f (m + 1) 1 n [] = _
        rw [spec_ldText.f, if_pos rfl]
      · show impl_comb_text.f (m + 1) 1 n [] = _
        rw [impl_comb_text.f, if_pos rfl, hi, Option.bind_some, if_pos z1, e]
    · have rest : ∀ (c : ByteArray), c = B (ctxt (.leaf k 0)) → (k = 3 ∧ c = ⟨#[83]⟩ ∨ k = 4 ∧ c = ⟨#[75]⟩ ∨ k = 5 ∧ c = ⟨#[73]⟩) → Ev (fun m => spec_ldText.f m (toL (.leaf k 0)).f0 (toL (.leaf k 0)).f1 (toL (.leaf k 0)).f2) (B (ctxt (.leaf k 0))) ∧ Ev (fun m => impl_comb_text.f m (toS (.leaf k 0)).f0 (toS (.leaf k 0)).f1 (toS (.leaf k 0)).f2) (B (ctxt (.leaf k 0))) := by
        intro c e hc
        rw [← e]
        refine ⟨Ev.step (f := fun _ => some c) (fun m => ?_) (Ev.now _), Ev.step (f := fun _ => some c) (fun m => ?_) (Ev.now _)⟩
        · show spec_ldText.f (m + 1) k 0 [] = _
          simp only [spec_ldText.f]
          clear e
          rcases hc with ⟨rfl, rfl⟩ | ⟨rfl, rfl⟩ | ⟨rfl, rfl⟩ <;> simp
        · show impl_comb_text.f (m + 1) k 0 [] = _
          simp only [impl_comb_text.f]
          clear e
          rcases hc with ⟨rfl, rfl⟩ | ⟨rfl, rfl⟩ | ⟨rfl, rfl⟩ <;> simp
      rcases h with rfl | rfl | rfl
      · exact rest ⟨#[83]⟩ rfl (.inl ⟨rfl, rfl⟩)
      · exact rest ⟨#[75]⟩ rfl (.inr (.inl ⟨rfl, rfl⟩))
      · exact rest ⟨#[73]⟩ rfl (.inr (.inr ⟨rfl, rfl⟩))
  | .un _ _ _, h, _ => h.elim
  | .bin k n a b, h, hl => by
    obtain ⟨rfl, rfl, ha, hb⟩ := h
    have hl' : (ctxt a).length + (ctxt b).length + 3 ≤ 9000000 := by simp only [ctxt, List.length_cons, List.length_append, List.length_nil] at hl; omega
    obtain ⟨sE, iE⟩ := text_ev a ha (by omega)
    obtain ⟨sF, iF⟩ := text_ev b hb (by omega)
    have z1 : 1 + (B (ctxt a)).size ≤ 9223372036854775807 := by rw [B_size]; omega
    have q2 : (⟨#[40]⟩ : ByteArray) ++ B (ctxt a) = B (40 :: ctxt a) := by rw [e40, B_append]; rfl
    have z2 : (B (40 :: ctxt a)).size + 1 ≤ 9223372036854775807 := by rw [B_size, List.length_cons]; omega
    have q3 : B (40 :: ctxt a) ++ (⟨#[32]⟩ : ByteArray) = B (40 :: (ctxt a ++ [32])) := by rw [e32, B_append]; rfl
    have z3 : (B (40 :: (ctxt a ++ [32]))).size + (B (ctxt b)).size ≤ 9223372036854775807 := by rw [B_size, B_size, List.length_cons, List.length_append, List.length_singleton]; omega
    have q4 : B (40 :: (ctxt a ++ [32])) ++ B (ctxt b) = B (40 :: (ctxt a ++ [32]) ++ ctxt b) := B_append _ _
    have z4 : (B (40 :: (ctxt a ++ [32]) ++ ctxt b)).size + 1 ≤ 9223372036854775807 := by rw [B_size, List.length_append, List.length_cons, List.length_append, List.length_singleton]; omega
    have q5 : B (40 :: (ctxt a ++ [32]) ++ ctxt b) ++ (⟨#[41]⟩ : ByteArray) = B (ctxt (.bin 2 0 a b)) := by
      rw [e41, B_append]; congr 1; simp [ctxt]
    refine ⟨Ev.step (f := fun m => (spec_ldText.f m (toL a).f0 (toL a).f1 (toL a).f2).bind fun tA => (if 1 + tA.size ≤ 9223372036854775807 then (if ((⟨#[40]⟩ : ByteArray) ++ tA).size + 1 ≤ 9223372036854775807 then ((spec_ldText.f m (toL b).f0 (toL b).f1 (toL b).f2).bind fun tB => (if (((⟨#[40]⟩ : ByteArray) ++ tA) ++ (⟨#[32]⟩ : ByteArray)).size + tB.size ≤ 9223372036854775807 then (if ((((⟨#[40]⟩ : ByteArray) ++ tA) ++ (⟨#[32]⟩ : ByteArray)) ++ tB).size + 1 ≤ 9223372036854775807 then (some (((((⟨#[40]⟩ : ByteArray) ++ tA) ++ (⟨#[32]⟩ : ByteArray)) ++ tB) ++ (⟨#[41]⟩ : ByteArray))) else (none)) else (none))) else (none)) else (none))) (fun m => ?_) (Ev.bind sE (Ev.ite_pos z1 ?_)),
      Ev.step (f := fun m => (impl_comb_text.f m (toS a).f0 (toS a).f1 (toS a).f2).bind fun tA => (if 1 + tA.size ≤ 9223372036854775807 then (if ((⟨#[40]⟩ : ByteArray) ++ tA).size + 1 ≤ 9223372036854775807 then ((impl_comb_text.f m (toS b).f0 (toS b).f1 (toS b).f2).bind fun tB => (if (((⟨#[40]⟩ : ByteArray) ++ tA) ++ (⟨#[32]⟩ : ByteArray)).size + tB.size ≤ 9223372036854775807 then (if ((((⟨#[40]⟩ : ByteArray) ++ tA) ++ (⟨#[32]⟩ : ByteArray)) ++ tB).size + 1 ≤ 9223372036854775807 then (some (((((⟨#[40]⟩ : ByteArray) ++ tA) ++ (⟨#[32]⟩ : ByteArray)) ++ tB) ++ (⟨#[41]⟩ : ByteArray))) else (none)) else (none))) else (none)) else (none))) (fun m => ?_) (Ev.bind iE (Ev.ite_pos z1 ?_))⟩
    · show spec_ldText.f (m + 1) 2 0 [toL a, toL b] = _
      rw [spec_ldText.f, if_neg (by decide), if_neg (by decide), if_neg (by decide), if_neg (by decide), if_pos (show (0 : Int) < (([toL a, toL b] : List S53).length : Int) by simp)]
      simp only [if_pos (show (1 : Int) < (([toL a, toL b] : List S53).length : Int) by simp)]
      rfl
    · rw [q2]
      refine Ev.ite_pos z2 (Ev.bind sF ?_)
      rw [q3]
      refine Ev.ite_pos z3 ?_
      rw [q4]
      exact Ev.ite_pos z4 (Ev.of_eq (Ev.now _) q5)
    · show impl_comb_text.f (m + 1) 2 0 [toS a, toS b] = _
      rw [impl_comb_text.f, if_neg (by decide), if_pos rfl, if_pos (show (0 : Int) < (([toS a, toS b] : List S45).length : Int) by simp)]
      simp only [if_pos (show (1 : Int) < (([toS a, toS b] : List S45).length : Int) by simp)]
      rfl
    · rw [q2]
      refine Ev.ite_pos z2 (Ev.bind iF ?_)
      rw [q3]
      refine Ev.ite_pos z3 ?_
      rw [q4]
      exact Ev.ite_pos z4 (Ev.of_eq (Ev.now _) q5)

theorem bt0 (c : UInt8) (s : List UInt8) : bt (B (c :: s)) 0 = (c.toNat : Int) := bt_B (c :: s) 0 (by simp)
theorem bt_ne {c b : UInt8} (h : c ≠ b) : ¬ (c.toNat : Int) = (b.toNat : Int) := fun e => h (UInt8.toNat_inj.mp (by omega))
theorem atoi_f (a : List UInt8) (h : a.length ≤ 2000000) : strconv_Atoi_38.f (B a) = some (atoiNum (B a), atoiErr (B a)) := if_pos (by rw [B_size]; omega)
theorem atoi_ds (ds : List UInt8) (h1 : ∀ c ∈ ds, isD c) (h2 : ds ≠ []) (hl : ds.length ≤ 10) : atoiNum (B ds) = ((valF 0 ds : Nat) : Int) ∧ atoiErr (B ds) = none := by
  have hv := val_le 10 ds h1 hl
  have ha := atoi_digits ds h1 h2 (Nat.le_trans (Nat.le_of_lt hv) (by decide))
  unfold atoiNum atoiErr
  rw [B_list, ha]
  exact ⟨rfl, rfl⟩
theorem digI (s : List UInt8) (hs : s.length ≤ 2000000) (hs1 : 1 ≤ s.length) : ∀ (e i n : Nat), i + e = 5 → 1 ≤ i → i ≤ s.length → n = i + (digs e (s.drop i)).length → Ev (fun k => impl_combRead.l0 k (B s) i) ((1 : Int), atoiNum (B ((s.take n).drop 1)), ([] : List S45), B (s.drop n), if (atoiErr (B ((s.take n).drop 1))).isNone = true then (bt (B s) 0 == 120) else false) := by
  have hsz : (B s).size = s.length := B_size s
  have hv : ∀ x : Int, impl_combVar.f x = some (1, x, []) := fun x => rfl
  have p0 : 0 < (((B s).size : Nat) : Int) := by rw [hsz]; omega
  have ex : ∀ i : Nat, (B s).extract 1 (i : Int).toNat = B ((s.take i).drop 1) := by
    intro i
    rw [Int.toNat_natCast]
    apply ByteArray.ext
    simp [B, List.drop_take]
  have leaf : ∀ i : Nat, 1 ≤ i → i ≤ s.length → (if 1 ≤ (i : Int) then (if (i : Int) ≤ (((B s).size : Nat) : Int) then ((strconv_Atoi_38.f ((B s).extract 1 (i : Int).toNat)).bind fun bt142 => ((impl_combVar.f bt142.1).bind fun bt144 => (if bt142.2.isNone = true then (if 0 < (((B s).size : Nat) : Int) then (some (bt144.1, bt144.2.1, bt144.2.2, (B s).extract (i : Int).toNat (B s).size, ((bt (B s) 0) == 120))) else (none)) else (some (bt144.1, bt144.2.1, bt144.2.2, (B s).extract (i : Int).toNat (B s).size, false))))) else (none)) else (none)) = some ((1 : Int), atoiNum (B ((s.take i).drop 1)), ([] : List S45), B (s.drop i), if (atoiErr (B ((s.take i).drop 1))).isNone = true then (bt (B s) 0 == 120) else false) := by
    intro i h1 hi
    rw [if_pos (by omega), if_pos (by rw [hsz]; omega), ex, Int.toNat_natCast, ext_drop _ _ _ hsz, atoi_f _ (by rw [List.length_drop, List.length_take]; omega), Option.bind_some, hv, Option.bind_some]
    by_cases hN : (atoiErr (B ((s.take i).drop 1))).isNone = true
    · rw [if_pos hN, if_pos p0, if_pos hN]
    · rw [if_neg hN, if_neg hN]
  have leaf2 : ∀ i : Nat, 1 ≤ i → i ≤ s.length → (if 1 ≤ (i : Int) then (if (i : Int) ≤ (((B s).size : Nat) : Int) then ((strconv_Atoi_38.f ((B s).extract 1 (i : Int).toNat)).bind fun bt142 => ((impl_combVar.f bt142.1).bind fun bt144 => (if 0 ≤ (i : Int) then (if bt142.2.isNone = true then (if 0 < (((B s).size : Nat) : Int) then (some (bt144.1, bt144.2.1, bt144.2.2, (B s).extract (i : Int).toNat (B s).size, ((bt (B s) 0) == 120))) else (none)) else (some (bt144.1, bt144.2.1, bt144.2.2, (B s).extract (i : Int).toNat (B s).size, false))) else (none)))) else (none)) else (none)) = some ((1 : Int), atoiNum (B ((s.take i).drop 1)), ([] : List S45), B (s.drop i), if (atoiErr (B ((s.take i).drop 1))).isNone = true then (bt (B s) 0 == 120) else false) := by
    intro i h1 hi
    rw [if_pos (by omega), if_pos (by rw [hsz]; omega), ex, Int.toNat_natCast, ext_drop _ _ _ hsz, atoi_f _ (by rw [List.length_drop, List.length_take]; omega), Option.bind_some, hv, Option.bind_some, if_pos (by omega)]
    by_cases hN : (atoiErr (B ((s.take i).drop 1))).isNone = true
    · rw [if_pos hN, if_pos p0, if_pos hN]
    · rw [if_neg hN, if_neg hN]
  intro e
  induction e with
  | zero =>
    intro i n hi h1 hl hn
    have hn' : n = i := by rw [hn]; simp [digs]
    subst hn'
    refine Ev.step (f := fun _ => some ((1 : Int), atoiNum (B ((s.take n).drop 1)), ([] : List S45), B (s.drop n), if (atoiErr (B ((s.take n).drop 1))).isNone = true then (bt (B s) 0 == 120) else false)) (fun k => ?_) (Ev.now _)
    by_cases c : (n : Int) < (((B s).size : Nat) : Int)
    · rw [impl_combRead.l0, if_pos c, if_neg (by omega), leaf2 n h1 hl]
    · rw [impl_combRead.l0, if_neg c, leaf2 n h1 hl]
  | succ e ih =>
    intro i n hi h1 hl hn
    by_cases c : (i : Int) < (((B s).size : Nat) : Int)
    · have hlt : i < s.length := by rw [hsz] at c; omega
      have hbt := bt_B s i hlt
      have c0 : 0 ≤ (i : Int) := by omega
      have c2 : (i : Int) < 5 := by omega
      have hw := NumL.next i s.length hlt (by omega)
      rw [List.drop_eq_getElem_cons hlt] at hn
      by_cases hD : isD s[i]
      · have h48 : bt (B s) (i : Int) ≥ 48 := by unfold isD at hD; omega
        have h57 : bt (B s) (i : Int) ≤ 57 := by unfold isD at hD; omega
        rw [digs, if_pos hD, List.length_cons] at hn
        exact Ev.step (fun k => by rw [impl_combRead.l0, if_pos c, if_pos c2, if_pos c0, if_pos h48, if_pos h57, hw]) (ih (i + 1) n (by omega) (by omega) (by omega) (by omega))
      · rw [digs, if_neg hD] at hn
        have hn' : n = i := hn
        subst hn'
        refine Ev.step (f := fun _ => some ((1 : Int), atoiNum (B ((s.take n).drop 1)), ([] : List S45), B (s.drop n), if (atoiErr (B ((s.take n).drop 1))).isNone = true then (bt (B s) 0 == 120) else false)) (fun k => ?_) (Ev.now _)
        by_cases h48 : bt (B s) (n : Int) ≥ 48
        · have h57 : ¬ bt (B s) (n : Int) ≤ 57 := by unfold isD at hD; omega
          rw [impl_combRead.l0, if_pos c, if_pos c2, if_pos c0, if_pos h48, if_neg h57, leaf n h1 hl]
        · rw [impl_combRead.l0, if_pos c, if_pos c2, if_pos c0, if_neg h48, leaf n h1 hl]
    · have hd : s.drop i = [] := List.drop_eq_nil_of_le (by rw [hsz] at c; omega)
      rw [hd, digs] at hn
      have hn' : n = i := hn
      subst hn'
      refine Ev.step (f := fun _ => some ((1 : Int), atoiNum (B ((s.take n).drop 1)), ([] : List S45), B (s.drop n), if (atoiErr (B ((s.take n).drop 1))).isNone = true then (bt (B s) 0 == 120) else false)) (fun k => ?_) (Ev.now _)
      rw [impl_combRead.l0, if_neg c, leaf2 n h1 hl]
theorem cutp (x : UInt8) (r : List UInt8) : strings_CutPrefix.f (B r) (B [x]) = some (B ((eat x r).getD r), (eat x r).isSome) := by
  unfold strings_CutPrefix.f
  rw [B_list, B_list]
  show some (B (Lib.trimPrefix r [x]), Lib.hasPrefix r [x]) = _
  rw [(trim_eat x r).1, (trim_eat x r).2]
theorem getD_len (x : UInt8) (r : List UInt8) : ((eat x r).getD r).length ≤ r.length := by
  cases h : eat x r with
  | none => exact Nat.le_refl _
  | some r' => rw [eat_some h]; simp
def OutI (o : Option (Tr × List UInt8)) (x : S45) (r : List UInt8) (b : Bool) : Prop := (o = none ∧ b = false) ∨ (∃ t, o = some (t, r) ∧ x = toS t ∧ b = true)
theorem combRead_ev : ∀ (d : Nat) (s : List UInt8), d ≤ 60 → s.length ≤ 1048576 → ∃ (x : S45) (r : List UInt8) (b : Bool), r.length ≤ s.length ∧ Ev (fun k => impl_combRead.f k (B s) (61 - (d : Int))) (x.f0, x.f1, x.f2, B r, b) ∧ OutI (crd 4 d s) x r b := by
  intro d
  have bad : ∀ (s : ByteArray) (a : Int), Ev (fun k => impl_combRead.j0 k s a true) ((0 : Int), (0 : Int), ([] : List S45), B [], false) := fun s a => Ev.step (f := fun _ => some (0, 0, ([] : List S45), (⟨#[]⟩ : ByteArray), false)) (fun k => by rw [impl_combRead.j0, if_pos rfl]) (Ev.now _)
  induction d with
  | zero =>
    intro s hd hs
    refine ⟨⟨0, 0, []⟩, [], false, Nat.zero_le _, ?_, .inl ⟨rfl, rfl⟩⟩
    by_cases hn : (B s).toList = []
    · exact Ev.step (fun k => by rw [impl_combRead.f, if_pos hn]) (bad _ _)
    · have hg : decide ((61 - ((0 : Nat) : Int)) > 60) = true := by decide
      exact Ev.step (fun k => by rw [impl_combRead.f, if_neg hn, hg]) (bad _ _)
  | succ d ih =>
    intro s hd hs
    have hsz : (B s).size = s.length := B_size s
    have hw : wrap64 ((61 - ((d + 1 : Nat) : Int)) + 1) = 61 - (d : Int) := by rw [w64 (by omega) (by omega)]; omega
    cases s with
    | nil =>
      refine ⟨⟨0, 0, []⟩, [], false, Nat.zero_le _, ?_, .inl ⟨rfl, rfl⟩⟩
      exact Ev.step (fun k => by rw [impl_combRead.f, if_pos (show (B ([] : List UInt8)).toList = [] from toList_B [])]) (bad _ _)
    | cons c s =>
      have hs' : s.length + 1 ≤ 1048576 := hs
      have hn : ¬ (B (c :: s)).toList = [] := by rw [toList_B]; simp
      have hg : decide ((61 - ((d + 1 : Nat) : Int)) > 60) = false := decide_eq_false (by omega)
      have p0 : 0 < (((B (c :: s)).size : Nat) : Int) := by rw [hsz, List.length_cons]; omega
      have p1 : 1 ≤ (((B (c :: s)).size : Nat) : Int) := by omega
      have ex1 : (B (c :: s)).extract 1 (B (c :: s)).size = B s := by rw [ext_drop _ _ _ hsz]; rfl
      have start : ∀ {r : Int × Int × List S45 × ByteArray × Bool}, Ev (fun k => impl_combRead.j0 k (B (c :: s)) (61 - ((d + 1 : Nat) : Int)) false) r → Ev (fun k => impl_combRead.f k (B (c :: s)) (61 - ((d + 1 : Nat) : Int))) r := fun h => Ev.step (fun k => by rw [impl_combRead.f, if_neg hn, hg]) h
      have one : ∀ (kd : Int), Ev (fun k => (impl_combOf.f kd).bind fun bt102 => (if 1 ≤ (((B (c :: s)).size : Nat) : Int) then (some (bt102.1, bt102.2.1, bt102.2.2, (B (c :: s)).extract 1 (B (c :: s)).size, true)) else (none))) (kd, 0, ([] : List S45), B s, true) := fun kd => Ev.bind (Ev.now (kd, (0 : Int), ([] : List S45))) (Ev.ite_pos p1 (Ev.of_eq (Ev.now _) (by rw [ex1])))
      by_cases h83 : c = 83
      · have b83 : bt (B (c :: s)) 0 = 83 := by rw [bt0, h83]; rfl
        exact ⟨⟨3, 0, []⟩, s, true, by rw [List.length_cons]; omega, start (Ev.step (fun k => by rw [impl_combRead.j0, if_neg (by decide), if_pos p0, if_pos b83]) (one 3)), .inr ⟨.leaf 3 0, by rw [crd, if_pos h83], rfl, rfl⟩⟩
      have b83 : ¬ bt (B (c :: s)) 0 = 83 := by rw [bt0]; exact bt_ne h83
      by_cases h75 : c = 75
      · have b75 : bt (B (c :: s)) 0 = 75 := by rw [bt0, h75]; rfl
        exact ⟨⟨4, 0, []⟩, s, true, by rw [List.length_cons]; omega, start (Ev.step (fun k => by rw [impl_combRead.j0, if_neg (by decide), if_pos p0, if_neg b83, if_pos b75]) (one 4)), .inr ⟨.leaf 4 0, by rw [crd, if_neg h83, if_pos h75], rfl, rfl⟩⟩
      have b75 : ¬ bt (B (c :: s)) 0 = 75 := by rw [bt0]; exact bt_ne h75
      by_cases h73 : c = 73
      · have b73 : bt (B (c :: s)) 0 = 73 := by rw [bt0, h73]; rfl
        exact ⟨⟨5, 0, []⟩, s, true, by rw [List.length_cons]; omega, start (Ev.step (fun k => by rw [impl_combRead.j0, if_neg (by decide), if_pos p0, if_neg b83, if_neg b75, if_pos b73]) (one 5)), .inr ⟨.leaf 5 0, by rw [crd, if_neg h83, if_neg h75, if_pos h73], rfl, rfl⟩⟩
      have b73 : ¬ bt (B (c :: s)) 0 = 73 := by rw [bt0]; exact bt_ne h73
      by_cases h40 : c = 40
      · have b40 : bt (B (c :: s)) 0 = 40 := by rw [bt0, h40]; rfl
        obtain ⟨x, r, b, hr, hE, hO⟩ := ih s (by omega) (by omega)
        have hl1 := getD_len 32 r
        obtain ⟨y, r2, b2, hr2, hE2, hO2⟩ := ih ((eat 32 r).getD r) (by omega) (by omega)
        have hl2 := getD_len 41 r2
        refine ⟨⟨2, 0, [x, y]⟩, (eat 41 r2).getD r2, b && (eat 32 r).isSome && b2 && (eat 41 r2).isSome, by rw [List.length_cons]; omega, start (Ev.step (fun k => by rw [impl_combRead.j0, if_neg (by decide), if_pos p0, if_neg b83, if_neg b75, if_neg b73, if_pos b40, if_pos p1, ex1, hw]) (Ev.bind hE ?_)), ?_⟩
        · refine Ev.bind (Ev.const (cutp 32 r)) (Ev.bind hE2 (Ev.bind (Ev.const (cutp 41 r2)) (Ev.bind (Ev.now ((2 : Int), (0 : Int), [(⟨x.f0, x.f1, x.f2⟩ : S45), (⟨y.f0, y.f1, y.f2⟩ : S45)])) ?_)))
          have ex : ([(⟨x.f0, x.f1, x.f2⟩ : S45), (⟨y.f0, y.f1, y.f2⟩ : S45)] : List S45) = [x, y] := by cases x; cases y; rfl
          rw [ex]
          cases b with
          | false => exact Ev.ite_neg Bool.false_ne_true (Ev.now _)
          | true =>
            refine Ev.ite_pos rfl ?_
            cases hs1 : (eat 32 r).isSome with
            | false => exact Ev.ite_neg Bool.false_ne_true (Ev.now _)
            | true =>
              refine Ev.ite_pos rfl ?_
              cases b2 with
              | false => exact Ev.ite_neg Bool.false_ne_true (Ev.now _)
              | true => exact Ev.ite_pos rfl (Ev.now _)
        · rw [crd, if_neg h83, if_neg h75, if_neg h73, if_neg (show ¬ c = 120 by rw [h40]; decide), if_pos h40]
          rcases hO with ⟨h1, h2⟩ | ⟨t, h1, h2, h3⟩
          · rw [h1, h2]; exact .inl ⟨rfl, rfl⟩
          rw [h1, h3, Option.bind_some]
          cases he : eat 32 r with
          | none => exact .inl ⟨rfl, rfl⟩
          | some r1 =>
            rw [he] at hO2
            rw [Option.bind_some]
            rcases hO2 with ⟨g1, g2⟩ | ⟨u, g1, g2, g3⟩
            · rw [show crd 4 d r1 = none from g1, g2]; exact .inl ⟨rfl, rfl⟩
            rw [show crd 4 d r1 = some (u, r2) from g1, g3, Option.bind_some]
            cases he2 : eat 41 r2 with
            | none => exact .inl ⟨rfl, rfl⟩
            | some r3 => exact .inr ⟨.bin 2 0 t u, rfl, by rw [h2, g2]; rfl, rfl⟩
      · have b40 : ¬ bt (B (c :: s)) 0 = 40 := by rw [bt0]; exact bt_ne h40
        have hdl := digs_len 4 s
        have hE := digI (c :: s) (by omega) (by simp) 4 1 (1 + (digs 4 s).length) rfl (by omega) (by simp) (by rfl)
        have htk : ((c :: s).take (1 + (digs 4 s).length)).drop 1 = digs 4 s := by
          rw [Nat.add_comm, List.take_succ_cons, List.drop_succ_cons, List.drop_zero]
          have := digs_pre 4 s
          conv => lhs; arg 2; rw [this]
          rw [List.take_left]
        have hdr : (c :: s).drop (1 + (digs 4 s).length) = s.drop (digs 4 s).length := by rw [Nat.add_comm, List.drop_succ_cons]
        rw [htk, hdr] at hE
        refine ⟨⟨1, atoiNum (B (digs 4 s)), []⟩, s.drop (digs 4 s).length, if (atoiErr (B (digs 4 s))).isNone = true then (bt (B (c :: s)) 0 == 120) else false, by rw [List.length_drop, List.length_cons]; omega, start (Ev.step (f := fun k => impl_combRead.l0 k (B (c :: s)) ((1 : Nat) : Int)) (fun k => by rw [impl_combRead.j0, if_neg (by decide), if_pos p0, if_neg b83, if_neg b75, if_neg b73, if_neg b40]; rfl) hE), ?_⟩
        by_cases h120 : c = 120
        · have b120 : (bt (B (c :: s)) 0 == 120) = true := by rw [bt0, h120]; rfl
          rw [b120, crd, if_neg h83, if_neg h75, if_neg h73, if_pos h120]
          by_cases hd0 : digs 4 s = []
          · rw [if_pos hd0, hd0]; exact .inl ⟨rfl, rfl⟩
          · rw [if_neg hd0]
            obtain ⟨q1, q2⟩ := atoi_ds _ (digs_all 4 s) hd0 (by omega)
            rw [q1, q2]
            exact .inr ⟨_, rfl, rfl, rfl⟩
        · have b120 : (bt (B (c :: s)) 0 == 120) = false := by rw [bt0, beq_eq_false_iff_ne]; exact bt_ne h120
          rw [b120, crd, if_neg h83, if_neg h75, if_neg h73, if_neg h120, if_neg h40]
          exact .inl ⟨rfl, by simp⟩

theorem form_mono {m m' : Nat} (h : m ≤ m') : ∀ {t : Tr}, CForm m t → CForm m' t
  | .leaf _ _, ht => by
    rcases ht with ⟨h1, h2, h3⟩ | ht
    · exact .inl ⟨h1, h2, by omega⟩
    · exact .inr ht
  | .un _ _ _, ht => ht.elim
  | .bin _ _ _ _, ht => ⟨ht.1, ht.2.1, form_mono h ht.2.2.1, form_mono h ht.2.2.2⟩
theorem form_of {t : Tr} {m : Nat} (hf : CForm m t) : t.all numOk → CForm 1000 t := by
  induction t with
  | leaf k n =>
    intro h
    rcases hf with ⟨h1, h2, h3⟩ | hf
    · exact .inl ⟨h1, h2, by have := h.2.1; omega⟩
    · exact .inr hf
  | un k n a ih => exact hf.elim
  | bin k n a b iha ihb => intro h; exact ⟨hf.1, hf.2.1, iha hf.2.2.1 h.2.1, ihb hf.2.2.2 h.2.2⟩
theorem form_good : ∀ {t : Tr}, t.wf ar → t.all numOk → CForm 1000 t
  | .leaf k n, hw, h => by
    have hk : 1 ≤ k ∧ k ≤ 5 := hw.1
    have h2 : k ≠ 2 := want_zero hw.2
    obtain ⟨a, b, c⟩ := h
    by_cases h1 : k = 1
    · exact .inl ⟨h1, a, by omega⟩
    · exact .inr ⟨by omega, by rcases c with c | c; exact absurd c h1; exact c⟩
  | .un k n a, hw, _ => (want_one hw.1.2).elim
  | .bin k n a b, hw, h => by
    have h2 : k = 2 := want_of hw.1.2
    obtain ⟨⟨_, _, c⟩, h3, h4⟩ := h
    exact ⟨h2, by rcases c with c | c; omega; exact c, form_good hw.2.1 h3, form_good hw.2.2 h4⟩
theorem implRead (s : List UInt8) (h : s.length ≤ 1048576) : (∃ t, CForm 1000 t ∧ Good t ∧ s = ctxt t ∧ Ev (fun k => impl_ReadComb.f k (B s)) (tnodes t, true)) ∨ ((¬ ∃ t, CForm 1000 t ∧ Good t ∧ s = ctxt t) ∧ Ev (fun k => impl_ReadComb.f k (B s)) (([] : List S65), false)) := by
  have hsz : (B s).size = s.length := B_size s
  have back : ∀ t, CForm 1000 t → Good t → s = ctxt t → crd 4 60 s = some (t, []) := fun t h1 h2 h3 => by
    have := crd_text 4 (by omega) t 60 [] h1 h2.2.1 noD_nil
    rwa [List.append_nil, ← h3] at this
  by_cases hbig : (((B s).size : Nat) : Int) > 1000
  · refine .inr ⟨?_, Ev.congr (fun k => by unfold impl_ReadComb.f; rw [if_pos hbig]) (Ev.now _)⟩
    rintro ⟨t, h1, h2, h3⟩
    have := ctxt_len t h1
    have h4 := h2.1
    rw [hsz, h3] at hbig; omega
  obtain ⟨x, r, b, hr, hE, hO⟩ := combRead_ev 60 s (by omega) h
  have hE1 : Ev (fun k => impl_combRead.f k (B s) 1) (x.f0, x.f1, x.f2, B r, b) := hE
  have start : ∀ {o : List S65 × Bool}, Ev (fun k => (impl_combRead.f k (B s) 1).bind fun bt101 => (if bt101.2.2.2.2 = true then (if bt101.2.2.2.1.toList = ([] : List UInt8) then ((impl_comb_text.f k bt101.1 bt101.2.1 bt101.2.2.1).bind fun t109 => (if t109.toList = (B s).toList then ((impl_comb_goodNodes.f k bt101.1 bt101.2.1 bt101.2.2.1).bind fun bt110 => (some (bt110.1, bt110.2))) else (some (([] : List S65), false)))) else (some (([] : List S65), false))) else (some (([] : List S65), false)))) o → Ev (fun k => impl_ReadComb.f k (B s)) o := fun hh => Ev.congr (fun k => by unfold impl_ReadComb.f; rw [if_neg hbig]) hh
  rcases hO with ⟨h1, h2⟩ | ⟨t, h1, h2, h3⟩
  · subst h2
    refine .inr ⟨?_, start (Ev.bind hE1 (Ev.ite_neg Bool.false_ne_true (Ev.now _)))⟩
    rintro ⟨t, g1, g2, g3⟩
    rw [back t g1 g2 g3] at h1; cases h1
  · subst h3
    subst h2
    obtain ⟨f1, f2, f3, f4⟩ := crd_sound 4 60 s t r h1
    by_cases hr0 : r = []
    · subst hr0
      have hl : (ctxt t).length ≤ 9000000 := by rw [List.length_nil] at f2; omega
      have hs6 : t.size ≤ 4000 := by rw [hsz] at hbig; omega
      obtain ⟨_, tE⟩ := text_ev t (form_mono (by decide) f1) hl
      obtain ⟨bb, hb, hT⟩ := toldI t hs6
      by_cases ht : ctxt t = s
      · have hT' : Ev (fun k => impl_ReadComb.f k (B s)) (if bb = true then tnodes t else [], bb) :=
          start (Ev.bind hE1 (Ev.ite_pos rfl (Ev.ite_pos (show (B ([] : List UInt8)).toList = [] from toList_B []) (Ev.bind tE (Ev.ite_pos (show (B (ctxt t)).toList = (B s).toList by rw [ht]) (Ev.bind hT (Ev.now _)))))))
        by_cases hbt : bb = true
        · rw [if_pos hbt, hbt] at hT'
          exact .inl ⟨t, form_of f1 (hb.mp hbt).2.2, hb.mp hbt, ht.symm, hT'⟩
        · rw [if_neg hbt, Bool.eq_false_iff.mpr hbt] at hT'
          refine .inr ⟨?_, hT'⟩
          rintro ⟨t', g1, g2, g3⟩
          rw [back t' g1 g2 g3] at h1
          injection h1 with h1
          injection h1 with h1 _
          subst h1
          exact hbt (hb.mpr g2)
      · refine .inr ⟨?_, start (Ev.bind hE1 (Ev.ite_pos rfl (Ev.ite_pos (show (B ([] : List UInt8)).toList = [] from toList_B []) (Ev.bind tE (Ev.ite_neg (show ¬ (B (ctxt t)).toList = (B s).toList by rw [toList_B, toList_B]; exact ht) (Ev.now _))))))⟩
        rintro ⟨t', g1, g2, g3⟩
        rw [back t' g1 g2 g3] at h1
        injection h1 with h1
        injection h1 with h1 _
        subst h1
        exact ht g3.symm
    · refine .inr ⟨?_, start (Ev.bind hE1 (Ev.ite_pos rfl (Ev.ite_neg (show ¬ (B r).toList = [] by rw [toList_B]; exact hr0) (Ev.now _))))⟩
      rintro ⟨t', g1, g2, g3⟩
      rw [back t' g1 g2 g3] at h1
      injection h1 with h1
      injection h1 with _ h1
      exact hr0 h1.symm
theorem ctxt_inj {t u : Tr} (ht : CForm 1000 t) (gt : Good t) (hu : CForm 1000 u) (gu : Good u) (h : ctxt t = ctxt u) : t = u := by
  have h1 := crd_text 4 (by omega) t 60 [] ht gt.2.1 noD_nil
  have h2 := crd_text 4 (by omega) u 60 [] hu gu.2.1 noD_nil
  rw [h, h2] at h1
  injection h1 with h1
  injection h1 with h1 _
  exact h1.symm
end Go.Proofs.YthfkimbmepmelaaDoor.CombL

namespace Go.Proofs.YthfkimbmepmelaaDoor.StepL
open Go.RowKit Go.Proofs.YthfkimbmepmelaaDoor.G Go.Proofs.YthfkimbmepmelaaDoor.EvL Go.Proofs.YthfkimbmepmelaaDoor.TreeM Go.Proofs.YthfkimbmepmelaaDoor.CombL Go.Proofs.YthfkimbmepmelaaDoorW.PrintWords Go.Proofs.YthfkimbmepmelaaDoorW.PrintLast
set_option linter.unusedVariables false
set_option linter.unusedSimpArgs false

def app (a b : Tr) : Tr := .bin 2 0 a b
def headT : Tr → Option Tr
  | .bin _ _ (.leaf k _) c => if k = 5 then some c else none
  | .bin _ _ (.bin _ _ (.leaf k _) b) c => if k = 4 then some b else none
  | .bin _ _ (.bin _ _ (.bin _ _ (.leaf k _) a) b) c => if k = 3 then some (app (app a c) (app b c)) else none
  | _ => none
def stepT : Tr → Option Tr
  | .leaf _ _ => none
  | .un _ _ _ => none
  | .bin k n a b => match headT (.bin k n a b) with
    | some x => some x
    | none => match stepT a with
      | some a' => some (.bin k n a' b)
      | none => match stepT b with
        | some b' => some (.bin k n a b')
        | none => none

theorem leaf_kind {k n : Int} (h : (Tr.leaf k n).wf ar) : k ≠ 2 := want_zero h.2
theorem bin_kind {k n : Int} {a b : Tr} (h : (Tr.bin k n a b).wf ar) : k = 2 := want_of h.1.2
theorem no_un {k n : Int} {a : Tr} (h : (Tr.un k n a).wf ar) : False := want_one h.1.2
theorem app_wf {a b : Tr} (ha : a.wf ar) (hb : b.wf ar) : (app a b).wf ar := ⟨⟨by decide, rfl⟩, ha, hb⟩

theorem headT_wf : ∀ (t : Tr), t.wf ar → ∀ (x : Tr), headT t = some x → x.wf ar
  | .leaf _ _, _, x, hx => by simp [headT] at hx
  | .un _ _ _, h, x, hx => (no_un h).elim
  | .bin _ _ (.leaf k _) c, h, x, hx => by
    by_cases hk : k = 5
    · simp only [headT, if_pos hk, Option.some.injEq] at hx; rw [← hx]; exact h.2.2
    · simp [headT, if_neg hk] at hx
  | .bin _ _ (.un _ _ _) c, h, x, hx => (no_un h.2.1).elim
  | .bin _ _ (.bin _ _ (.leaf k _) b) c, h, x, hx => by
    by_cases hk : k = 4
    · simp only [headT, if_pos hk, Option.some.injEq] at hx; rw [← hx]; exact h.2.1.2.2
    · simp [headT, if_neg hk] at hx
  | .bin _ _ (.bin _ _ (.un _ _ _) b) c, h, x, hx => (no_un h.2.1.2.1).elim
  | .bin _ _ (.bin _ _ (.bin _ _ (.leaf k _) a) b) c, h, x, hx => by
    by_cases hk : k = 3
    · simp only [headT, if_pos hk, Option.some.injEq] at hx; rw [← hx]
      exact app_wf (app_wf h.2.1.2.1.2.2 h.2.2) (app_wf h.2.1.2.2 h.2.2)
    · simp [headT, if_neg hk] at hx
  | .bin _ _ (.bin _ _ (.bin _ _ (.un _ _ _) a) b) c, h, x, hx => (no_un h.2.1.2.1.2.1).elim
  | .bin _ _ (.bin _ _ (.bin _ _ (.bin _ _ _ _) a) b) c, h, x, hx => by simp [headT] at hx
theorem headT_size : ∀ (t x : Tr), headT t = some x → x.size ≤ 2 * t.size
  | .leaf _ _, x, hx => by simp [headT] at hx
  | .un _ _ _, x, hx => by simp [headT] at hx
  | .bin _ _ (.leaf k _) c, x, hx => by
    by_cases hk : k = 5
    · simp only [headT, if_pos hk, Option.some.injEq] at hx; rw [← hx]; simp only [Tr.size]; omega
    · simp [headT, if_neg hk] at hx
  | .bin _ _ (.un _ _ _) c, x, hx => by simp [headT] at hx
  | .bin _ _ (.bin _ _ (.leaf k _) b) c, x, hx => by
    by_cases hk : k = 4
    · simp only [headT, if_pos hk, Option.some.injEq] at hx; rw [← hx]; simp only [Tr.size]; omega
    · simp [headT, if_neg hk] at hx
  | .bin _ _ (.bin _ _ (.un _ _ _) b) c, x, hx => by simp [headT] at hx
  | .bin _ _ (.bin _ _ (.bin _ _ (.leaf k _) a) b) c, x, hx => by
    by_cases hk : k = 3
    · simp only [headT, if_pos hk, Option.some.injEq] at hx; rw [← hx]; simp only [Tr.size, app]; omega
    · simp [headT, if_neg hk] at hx
  | .bin _ _ (.bin _ _ (.bin _ _ (.un _ _ _) a) b) c, x, hx => by simp [headT] at hx
  | .bin _ _ (.bin _ _ (.bin _ _ (.bin _ _ _ _) a) b) c, x, hx => by simp [headT] at hx

theorem stepT_wf : ∀ (t : Tr), t.wf ar → ∀ (x : Tr), stepT t = some x → x.wf ar
  | .leaf _ _, _, x, hx => by simp [stepT] at hx
  | .un _ _ _, h, x, hx => (no_un h).elim
  | .bin k n a b, h, x, hx => by
    rw [stepT] at hx
    cases h1 : headT (.bin k n a b) with
    | some y => rw [h1] at hx; simp only [Option.some.injEq] at hx; rw [← hx]; exact headT_wf _ h y h1
    | none =>
      rw [h1] at hx
      cases h2 : stepT a with
      | some y => rw [h2] at hx; simp only [Option.some.injEq] at hx; rw [← hx]; exact ⟨h.1, stepT_wf a h.2.1 y h2, h.2.2⟩
      | none =>
        rw [h2] at hx
        cases h3 : stepT b with
        | some y => rw [h3] at hx; simp only [Option.some.injEq] at hx; rw [← hx]; exact ⟨h.1, h.2.1, stepT_wf b h.2.2 y h3⟩
        | none => rw [h3] at hx; simp at hx
theorem stepT_size : ∀ (t x : Tr), stepT t = some x → x.size ≤ 2 * t.size
  | .leaf _ _, x, hx => by simp [stepT] at hx
  | .un _ _ _, x, hx => by simp [stepT] at hx
  | .bin k n a b, x, hx => by
    rw [stepT] at hx
    cases h1 : headT (.bin k n a b) with
    | some y => rw [h1] at hx; simp only [Option.some.injEq] at hx; rw [← hx]; exact headT_size _ y h1
    | none =>
      rw [h1] at hx
      cases h2 : stepT a with
      | some y => rw [h2] at hx; simp only [Option.some.injEq] at hx; rw [← hx]; have := stepT_size a y h2; simp only [Tr.size]; omega
      | none =>
        rw [h2] at hx
        cases h3 : stepT b with
        | some y => rw [h3] at hx; simp only [Option.some.injEq] at hx; rw [← hx]; have := stepT_size b y h3; simp only [Tr.size]; omega
        | none => rw [h3] at hx; simp at hx

def outL : Option Tr → Tr → Int × Int × List S53 × Bool
  | some x, _ => ((toL x).f0, (toL x).f1, (toL x).f2, true)
  | none, t => ((toL t).f0, (toL t).f1, (toL t).f2, false)
theorem rL0 (x y : S53) : rd_T53 [x, y] 0 = x := rfl
theorem rL1 (x y : S53) : rd_T53 [x, y] 1 = y := rfl
theorem len2 {α : Type} (x y : α) : (([x, y] : List α).length : Int) = 2 := rfl
theorem head_spec (t : Tr) (h : t.wf ar) : spec_ldHead.f (toL t).f0 (toL t).f1 (toL t).f2 = some (outL (headT t) t) := by
  cases t with
  | leaf k n => have := leaf_kind h; simp [spec_ldHead.f, toL, headT, outL, this]
  | un k n a => exact (no_un h).elim
  | bin k n f c =>
    obtain rfl := bin_kind h
    have hf := h.2.1
    cases f with
    | leaf k1 n1 =>
      have h2 := leaf_kind hf
      by_cases h5 : k1 = 5
      · simp [spec_ldHead.f, toL, headT, outL, rL0, rL1, len2, h5]
      · simp [spec_ldHead.f, toL, headT, outL, rL0, rL1, len2, h5, h2]
    | un k1 n1 a => exact (no_un hf).elim
    | bin k1 n1 g b =>
      obtain rfl := bin_kind hf
      have hg := hf.2.1
      cases g with
      | leaf k2 n2 =>
        have h2 := leaf_kind hg
        by_cases h4 : k2 = 4
        · simp [spec_ldHead.f, toL, headT, outL, rL0, rL1, len2, h4]
        · simp [spec_ldHead.f, toL, headT, outL, rL0, rL1, len2, h4, h2]
      | un k2 n2 a => exact (no_un hg).elim
      | bin k2 n2 q a =>
        obtain rfl := bin_kind hg
        have hq := hg.2.1
        cases q with
        | leaf k3 n3 =>
          by_cases h3 : k3 = 3
          · simp [spec_ldHead.f, spec_ldApp.f, toL, toL_eta, headT, outL, app, rL0, rL1, len2, h3]
          · simp [spec_ldHead.f, toL, headT, outL, rL0, rL1, len2, h3]
        | un k3 n3 a3 => exact (no_un hq).elim
        | bin k3 n3 a3 b3 =>
          obtain rfl := bin_kind hq
          simp [spec_ldHead.f, toL, headT, outL, rL0, rL1, len2]

theorem step_spec : ∀ (t : Tr), t.wf ar → Ev (fun k => spec_ldStep.f k (toL t).f0 (toL t).f1 (toL t).f2) (outL (stepT t) t)
  | .leaf k n, h => by
    have hh := head_spec (.leaf k n) h
    refine Ev.step (f := fun m => (spec_ldHead.f (toL (.leaf k n)).f0 (toL (.leaf k n)).f1 (toL (.leaf k n)).f2).bind fun bt => (if bt.2.2.2 = true then (some (bt.1, bt.2.1, bt.2.2.1, true)) else (spec_ldStep.l0 m false [] 0 0 k n []))) (fun m => rfl) ?_
    rw [hh]
    refine Ev.bind (Ev.const rfl) (Ev.ite_neg (by simp [outL, headT]) (Ev.step (f := fun _ => some (k, n, ([] : List S53), false)) (fun m => ?_) (Ev.now _)))
    simp only [spec_ldStep.l0]; rw [if_neg (by decide)]
  | .un k n a, h => (no_un h).elim
  | .bin k n a b, h => by
    have hh := head_spec (.bin k n a b) h
    have ia := step_spec a h.2.1
    have ib := step_spec b h.2.2
    refine Ev.step (f := fun m => (spec_ldHead.f (toL (.bin k n a b)).f0 (toL (.bin k n a b)).f1 (toL (.bin k n a b)).f2).bind fun bt => (if bt.2.2.2 = true then (some (bt.1, bt.2.1, bt.2.2.1, true)) else (spec_ldStep.l0 m false [toL a, toL b] 2 0 k n []))) (fun m => rfl) ?_
    rw [hh, stepT]
    cases h1 : headT (.bin k n a b) with
    | some x => exact Ev.bind (Ev.const rfl) (Ev.ite_pos rfl (Ev.now _))
    | none =>
      refine Ev.bind (Ev.const rfl) (Ev.ite_neg (by simp [outL]) ?_)
      have w1 : wrap64 ((0 : Int) + 1) = 1 := w64 (by decide) (by decide)
      have w2 : wrap64 ((1 : Int) + 1) = 2 := w64 (by decide) (by decide)
      have fin : ∀ (d : Bool) (acc : List S53), Ev (fun m => spec_ldStep.l0 m d [toL a, toL b] 2 2 k n acc) (k, n, acc, d) := fun d acc => Ev.step (f := fun _ => some (k, n, acc, d)) (fun m => by simp only [spec_ldStep.l0]; rw [if_neg (by decide)]) (Ev.now _)
      refine Ev.step (f := fun m => (spec_ldStep.f m (toL a).f0 (toL a).f1 (toL a).f2).bind fun bt => (spec_ldStep.l0 m bt.2.2.2 [toL a, toL b] 2 1 k n [(⟨bt.1, bt.2.1, bt.2.2.1⟩ : S53)])) (fun m => ?_) (Ev.bind ia ?_)
      · simp only [spec_ldStep.l0]; rw [if_pos (by decide), if_pos (by decide), if_pos (by simp), w1]; exact congrArg (fun F => (spec_ldStep.f m (toL a).f0 (toL a).f1 (toL a).f2).bind F) (funext fun bt => if_pos (by simp))
      cases h2 : stepT a with
      | some x =>
        refine Ev.step (f := fun m => spec_ldStep.l0 m true [toL a, toL b] 2 2 k n [toL x, toL b]) (fun m => ?_) (fin true _)
        show spec_ldStep.l0 (m + 1) true [toL a, toL b] 2 1 k n [(⟨(toL x).f0, (toL x).f1, (toL x).f2⟩ : S53)] = _
        rw [toL_eta]
        simp only [spec_ldStep.l0]; rw [if_pos (by decide), if_pos (by decide), if_pos (by simp), if_pos trivial, if_pos (by simp), w2, rL1, toL_eta]; rfl
      | none =>
        refine Ev.step (f := fun m => (spec_ldStep.f m (toL b).f0 (toL b).f1 (toL b).f2).bind fun bt => (spec_ldStep.l0 m bt.2.2.2 [toL a, toL b] 2 2 k n [toL a, (⟨bt.1, bt.2.1, bt.2.2.1⟩ : S53)])) (fun m => ?_) (Ev.bind ib ?_)
        · show spec_ldStep.l0 (m + 1) false [toL a, toL b] 2 1 k n [(⟨(toL a).f0, (toL a).f1, (toL a).f2⟩ : S53)] = _
          rw [toL_eta]
          simp only [spec_ldStep.l0]; rw [if_pos (by decide), if_pos (by decide), if_pos (by simp), w2]; exact congrArg (fun F => (spec_ldStep.f m (toL b).f0 (toL b).f1 (toL b).f2).bind F) (funext fun bt => if_pos (by simp))
        cases h3 : stepT b with
        | some x =>
          show Ev (fun m => spec_ldStep.l0 m true [toL a, toL b] 2 2 k n [toL a, (⟨(toL x).f0, (toL x).f1, (toL x).f2⟩ : S53)]) _
          rw [toL_eta]; exact fin true _
        | none =>
          show Ev (fun m => spec_ldStep.l0 m false [toL a, toL b] 2 2 k n [toL a, (⟨(toL b).f0, (toL b).f1, (toL b).f2⟩ : S53)]) _
          rw [toL_eta]; exact fin false _

def outS : Option Tr → Int × Int × List S45 × Bool
  | some x => ((toS x).f0, (toS x).f1, (toS x).f2, true)
  | none => (0, 0, [], false)
theorem rS0 (x y : S45) : rd_T45 [x, y] 0 = x := rfl
theorem rS1 (x y : S45) : rd_T45 [x, y] 1 = y := rfl
def fin3 (r : List S45) : Int × Int × List S45 × Bool := (2, 0, [⟨2, 0, [rd_T45 r 0, rd_T45 r 2]⟩, ⟨2, 0, [rd_T45 r 1, rd_T45 r 2]⟩], true)
def fin0 (r : List S45) : Int × Int × List S45 × Bool := ((rd_T45 r 0).f0, (rd_T45 r 0).f1, (rd_T45 r 0).f2, true)
theorem j3_no (r : List S45) : Ev (fun k => impl_comb_redex.j3 k r false) (0, 0, [], false) := Ev.step (f := fun _ => some (0, 0, ([] : List S45), false)) (fun k => by simp only [impl_comb_redex.j3]; rfl) (Ev.now _)
theorem etaS (x : S45) : (⟨x.f0, x.f1, x.f2⟩ : S45) = x := by cases x; rfl
theorem j3_yes (r : List S45) (h : r.length = 3) : Ev (fun k => impl_comb_redex.j3 k r true) (fin3 r) := Ev.step (f := fun _ => some (fin3 r)) (fun k => by
  simp only [impl_comb_redex.j3, impl_combApp.f, Option.bind_some, etaS]
  rw [if_pos trivial, if_pos (by rw [h]; decide), if_pos (by rw [h]; decide), if_pos (by rw [h]; decide)]; rfl) (Ev.now _)
def finR (r : List S45) (kh : Int) : Int × Int × List S45 × Bool := if kh = 5 ∧ r.length = 1 then fin0 r else if kh = 4 ∧ r.length = 2 then fin0 r else if kh = 3 ∧ r.length = 3 then fin3 r else (0, 0, [], false)
theorem len_eq (r : List S45) (n : Nat) : ((r.length : Int) == (n : Int)) = decide (r.length = n) := by
  rw [Bool.eq_iff_iff, beq_iff_eq, decide_eq_true_iff]; omega
theorem j2_ev (r : List S45) (b : Bool) (kh n : Int) (l : List S45) (hb : b = true → r.length = 2) : Ev (fun k => impl_comb_redex.j2 k r b kh n l) (if b = true then fin0 r else if kh = 3 ∧ r.length = 3 then fin3 r else (0, 0, [], false)) := by
  refine Ev.succ ?_
  simp only [impl_comb_redex.j2]
  by_cases h : b = true
  · rw [if_pos h]
    exact Ev.ite_pos h (Ev.ite_pos (by rw [hb h]; decide) (Ev.now _))
  · rw [if_neg h]
    refine Ev.ite_neg h ?_
    by_cases hk : kh = 3
    · refine Ev.ite_pos hk ?_
      rw [show ((r.length : Int) == 3) = decide (r.length = 3) from len_eq r 3]
      by_cases hl : r.length = 3
      · rw [if_pos ⟨hk, hl⟩, decide_eq_true hl]; exact j3_yes r hl
      · rw [if_neg (fun h => hl h.2), decide_eq_false hl]; exact j3_no r
    · rw [if_neg (fun h => hk h.1)]
      exact Ev.ite_neg hk (j3_no r)
theorem j1_ev (r : List S45) (b : Bool) (kh n : Int) (l : List S45) (hb : b = true → r.length = 1) : Ev (fun k => impl_comb_redex.j1 k r b kh n l) (if b = true then fin0 r else if kh = 4 ∧ r.length = 2 then fin0 r else if kh = 3 ∧ r.length = 3 then fin3 r else (0, 0, [], false)) := by
  refine Ev.succ ?_
  simp only [impl_comb_redex.j1]
  by_cases h : b = true
  · rw [if_pos h]
    exact Ev.ite_pos h (Ev.ite_pos (by rw [hb h]; decide) (Ev.now _))
  · rw [if_neg h]
    refine Ev.ite_neg h ?_
    by_cases hk : kh = 4
    · refine Ev.ite_pos hk ?_
      rw [show ((r.length : Int) == 2) = decide (r.length = 2) from len_eq r 2]
      refine Ev.of_eq (j2_ev r _ kh n l (fun h => of_decide_eq_true h)) ?_
      by_cases hl : r.length = 2
      · rw [if_pos (decide_eq_true hl), if_pos ⟨hk, hl⟩]
      · rw [if_neg (fun h => hl (of_decide_eq_true h)), if_neg (show ¬ (kh = 4 ∧ r.length = 2) from fun h => hl h.2)]
    · refine Ev.ite_neg hk ?_
      refine Ev.of_eq (j2_ev r false kh n l (fun h => by simp at h)) ?_
      rw [if_neg (by simp), if_neg (show ¬ (kh = 4 ∧ r.length = 2) from fun h => hk h.1)]
theorem end_ev (xs : List S45) (kh n : Int) (l : List S45) (hk : kh ≠ 2) : Ev (fun k => impl_comb_redex.l0 k xs kh n l) (finR xs.reverse kh) := by
  refine Ev.succ ?_
  simp only [impl_comb_redex.l0, impl_comb_52.f, Option.bind_some]
  refine Ev.ite_neg hk ?_
  unfold finR
  by_cases h5 : kh = 5
  · refine Ev.ite_pos h5 ?_
    rw [show ((xs.reverse.length : Int) == 1) = decide (xs.reverse.length = 1) from len_eq _ 1]
    refine Ev.of_eq (j1_ev _ _ kh n l (fun h => of_decide_eq_true h)) ?_
    by_cases hl : xs.reverse.length = 1
    · rw [if_pos (decide_eq_true hl), if_pos ⟨h5, hl⟩]
    · rw [if_neg (fun h => hl (of_decide_eq_true h)), if_neg (show ¬ (kh = 5 ∧ xs.reverse.length = 1) from fun h => hl h.2)]
  · refine Ev.ite_neg h5 (Ev.of_eq (j1_ev _ false kh n l (fun h => by simp at h)) ?_)
    rw [if_neg (by simp), if_neg (show ¬ (kh = 5 ∧ xs.reverse.length = 1) from fun h => h5 h.1)]
theorem more_ev (xs : List S45) (n : Int) (x y : S45) {r : Int × Int × List S45 × Bool} (hl : xs.length < 3518437208883) (h : Ev (fun k => impl_comb_redex.l0 k (xs ++ [y]) x.f0 x.f1 x.f2) r) : Ev (fun k => impl_comb_redex.l0 k xs 2 n [x, y]) r := by
  refine Ev.step (fun k => ?_) h
  simp only [impl_comb_redex.l0, rS0, rS1, len2, etaS]
  rw [if_pos trivial, if_pos (by decide), if_pos hl, if_pos (by decide)]
theorem long_ev : ∀ (t : Tr), t.wf ar → ∀ (xs : List S45), 4 ≤ xs.length → xs.length + t.size ≤ 100000 → Ev (fun k => impl_comb_redex.l0 k xs (toS t).f0 (toS t).f1 (toS t).f2) (0, 0, [], false)
  | .leaf k n, h, xs, h4, hs => by
    refine Ev.of_eq (end_ev xs k n [] (leaf_kind h)) ?_
    have hl : xs.reverse.length = xs.length := by simp
    unfold finR
    rw [if_neg (fun h => by omega), if_neg (fun h => by omega), if_neg (fun h => by omega)]
  | .un k n a, h, xs, h4, hs => (no_un h).elim
  | .bin k n a b, h, xs, h4, hs => by
    obtain rfl := bin_kind h
    have he : (Tr.bin 2 n a b).size = 1 + a.size + b.size := rfl
    exact more_ev xs n (toS a) (toS b) (by omega) (long_ev a h.2.1 _ (by simp; omega) (by simp; omega))
theorem redex_ev (t : Tr) (h : t.wf ar) (hs : t.size ≤ 5000) : Ev (fun k => impl_comb_redex.f k (toS t).f0 (toS t).f1 (toS t).f2) (outS (headT t)) := by
  show Ev (fun k => impl_comb_redex.l0 k [] (toS t).f0 (toS t).f1 (toS t).f2) _
  cases t with
  | leaf k n => exact Ev.of_eq (end_ev [] k n [] (leaf_kind h)) (by simp [finR, headT, outS])
  | un k n a => exact (no_un h).elim
  | bin k n f c =>
    obtain rfl := bin_kind h
    have hf := h.2.1
    refine more_ev [] n (toS f) (toS c) (by simp) ?_
    cases f with
    | leaf k1 n1 =>
      refine Ev.of_eq (end_ev [toS c] k1 n1 [] (leaf_kind hf)) ?_
      by_cases h5 : k1 = 5
      · simp [finR, fin0, headT, outS, rd_T45, h5]
      · simp [finR, headT, outS, h5]
    | un k1 n1 a => exact (no_un hf).elim
    | bin k1 n1 g b =>
      obtain rfl := bin_kind hf
      have hg := hf.2.1
      refine more_ev [toS c] n1 (toS g) (toS b) (by simp) ?_
      cases g with
      | leaf k2 n2 =>
        refine Ev.of_eq (end_ev [toS c, toS b] k2 n2 [] (leaf_kind hg)) ?_
        by_cases h4 : k2 = 4
        · simp [finR, fin0, headT, outS, rd_T45, h4]
        · simp [finR, headT, outS, h4]
      | un k2 n2 a => exact (no_un hg).elim
      | bin k2 n2 q a =>
        obtain rfl := bin_kind hg
        have hq := hg.2.1
        refine more_ev [toS c, toS b] n2 (toS q) (toS a) (by simp) ?_
        cases q with
        | leaf k3 n3 =>
          refine Ev.of_eq (end_ev [toS c, toS b, toS a] k3 n3 [] (leaf_kind hq)) ?_
          by_cases h3 : k3 = 3
          · simp [finR, fin3, headT, outS, app, toS, rd_T45, h3]
          · simp [finR, headT, outS, h3]
        | un k3 n3 a3 => exact (no_un hq).elim
        | bin k3 n3 a3 b3 =>
          obtain rfl := bin_kind hq
          have e1 : (Tr.bin 2 n (Tr.bin 2 n1 (Tr.bin 2 n2 (Tr.bin 2 n3 a3 b3) a) b) c).size = 1 + (1 + (1 + (1 + a3.size + b3.size) + a.size) + b.size) + c.size := rfl
          refine more_ev [toS c, toS b, toS a] n3 (toS a3) (toS b3) (by simp) ?_
          exact Ev.of_eq (long_ev a3 hq.2.1 [toS c, toS b, toS a, toS b3] (by simp) (by simp; omega)) (by simp [headT, outS])

theorem step_impl : ∀ (t : Tr), t.wf ar → t.size ≤ 5000 → Ev (fun k => impl_comb_step.f k (toS t).f0 (toS t).f1 (toS t).f2) (outS (stepT t))
  | .leaf k n, h, hs => by
    have hh := redex_ev (.leaf k n) h hs
    refine Ev.step (f := fun m => (impl_comb_redex.f m (toS (.leaf k n)).f0 (toS (.leaf k n)).f1 (toS (.leaf k n)).f2).bind fun bt => (if bt.2.2.2 = true then (some (bt.1, bt.2.1, bt.2.2.1, true)) else (impl_comb_step.l0 m [] 0 0 k n []))) (fun m => rfl) (Ev.bind hh ?_)
    refine Ev.ite_neg (by simp [outS, headT]) (Ev.step (f := fun _ => some (0, 0, ([] : List S45), false)) (fun m => ?_) (Ev.now _))
    simp only [impl_comb_step.l0]; rw [if_neg (by decide)]
  | .un k n a, h, hs => (no_un h).elim
  | .bin k n a b, h, hs => by
    have hsz : (Tr.bin k n a b).size = 1 + a.size + b.size := rfl
    have hh := redex_ev (.bin k n a b) h hs
    have ia := step_impl a h.2.1 (by omega)
    have ib := step_impl b h.2.2 (by omega)
    refine Ev.step (f := fun m => (impl_comb_redex.f m (toS (.bin k n a b)).f0 (toS (.bin k n a b)).f1 (toS (.bin k n a b)).f2).bind fun bt => (if bt.2.2.2 = true then (some (bt.1, bt.2.1, bt.2.2.1, true)) else (impl_comb_step.l0 m [toS a, toS b] 2 0 k n [toS a, toS b]))) (fun m => rfl) (Ev.bind hh ?_)
    rw [stepT]
    cases h1 : headT (.bin k n a b) with
    | some x => exact Ev.ite_pos rfl (Ev.now _)
    | none =>
      refine Ev.ite_neg (by simp [outS]) ?_
      have w1 : wrap64 ((0 : Int) + 1) = 1 := w64 (by decide) (by decide)
      have w2 : wrap64 ((1 : Int) + 1) = 2 := w64 (by decide) (by decide)
      have hcl : impl_comb_42.f [toS a, toS b] = some [toS a, toS b] := by simp [impl_comb_42.f]
      refine Ev.step (f := fun m => (impl_comb_step.f m (toS a).f0 (toS a).f1 (toS a).f2).bind fun bt => (if bt.2.2.2 = true then (some (k, n, [(⟨bt.1, bt.2.1, bt.2.2.1⟩ : S45), toS b], true)) else (impl_comb_step.l0 m [toS a, toS b] 2 1 k n [toS a, toS b]))) (fun m => ?_) (Ev.bind ia ?_)
      · simp only [impl_comb_step.l0, hcl, Option.bind_some]; rw [if_pos (by decide), if_pos (by decide), if_pos (by simp), w1]; rfl
      cases h2 : stepT a with
      | some x =>
        refine Ev.ite_pos rfl (Ev.of_eq (Ev.now _) ?_)
        show (k, n, [(⟨(toS x).f0, (toS x).f1, (toS x).f2⟩ : S45), toS b], true) = _
        rw [toS_eta]; rfl
      | none =>
        refine Ev.ite_neg (by simp [outS]) ?_
        refine Ev.step (f := fun m => (impl_comb_step.f m (toS b).f0 (toS b).f1 (toS b).f2).bind fun bt => (if bt.2.2.2 = true then (some (k, n, [toS a, (⟨bt.1, bt.2.1, bt.2.2.1⟩ : S45)], true)) else (impl_comb_step.l0 m [toS a, toS b] 2 2 k n [toS a, toS b]))) (fun m => ?_) (Ev.bind ib ?_)
        · simp only [impl_comb_step.l0, hcl, Option.bind_some]; rw [if_pos (by decide), if_pos (by decide), if_pos (by simp), w2]; rfl
        cases h3 : stepT b with
        | some x =>
          refine Ev.ite_pos rfl (Ev.of_eq (Ev.now _) ?_)
          show (k, n, [toS a, (⟨(toS x).f0, (toS x).f1, (toS x).f2⟩ : S45)], true) = _
          rw [toS_eta]; rfl
        | none =>
          refine Ev.ite_neg (by simp [outS]) (Ev.step (f := fun _ => some (0, 0, ([] : List S45), false)) (fun m => ?_) (Ev.now _))
          simp only [impl_comb_step.l0]; rw [if_neg (by decide)]

end Go.Proofs.YthfkimbmepmelaaDoor.StepL

namespace Go.Proofs.YthfkimbmepmelaaDoor.StepL
open Go.RowKit Go.Proofs.YthfkimbmepmelaaDoor.G Go.Proofs.YthfkimbmepmelaaDoor.EvL Go.Proofs.YthfkimbmepmelaaDoor.TreeM Go.Proofs.YthfkimbmepmelaaDoor.CombL Go.Proofs.YthfkimbmepmelaaDoorW.PrintWords Go.Proofs.YthfkimbmepmelaaDoorW.PrintLast
set_option linter.unusedVariables false

theorem loopBoth : ∀ (d : Nat) (n : Nat) (x : Int) (t : Tr), (n : Int) + d = x → (n : Int) + d ≤ 1000 → t.wf ar → CombL.Good t →
    ∃ (o : List S65) (m : Int) (b : Bool), o.length ≤ 200 ∧ (b = false → o = []) ∧ (b = true → ∃ y, y.wf ar ∧ CombL.Good y ∧ o = tnodes y ∧ stepT y = none) ∧ Ev (fun k => spec_NormalComb.l0 k x n (toL t).f0 (toL t).f1 (toL t).f2) (o, m, b) ∧ Ev (fun k => impl_NormalComb.l0 k x n (toS t).f0 (toS t).f1 (toS t).f2) (o, m, b) := by
  intro d
  induction d with
  | zero =>
    intro n x t hx hn hw hgt
    have hs := hgt.1
    obtain ⟨o, b, ho, h2, h3, hb0, ht1, _⟩ := toldBoth t hw (by omega)
    have hsp := step_spec t hw
    have him := step_impl t hw (by omega)
    cases hst : stepT t with
    | none =>
      rw [hst] at hsp him
      refine ⟨o, n, true, ho, fun h => absurd h (by simp), fun _ => ⟨t, hw, hgt, ht1 (hb0.mpr hgt), hst⟩, Ev.succ ?_, Ev.succ ?_⟩
      · simp only [spec_NormalComb.l0]
        exact Ev.bind hsp (Ev.ite_neg (by simp [outL]) (Ev.bind h2 (Ev.now _)))
      · simp only [impl_NormalComb.l0]
        exact Ev.bind him (Ev.ite_neg (by simp [outS]) (Ev.bind h3 (Ev.now _)))
    | some y =>
      rw [hst] at hsp him
      have hys := stepT_size t y hst
      obtain ⟨o2, b2, ho2, h4, h5, _⟩ := toldBoth y (stepT_wf t hw y hst) (by omega)
      refine ⟨[], 0, false, by simp, fun _ => rfl, fun h => absurd h (by simp), Ev.succ ?_, Ev.succ ?_⟩
      · simp only [spec_NormalComb.l0]
        refine Ev.bind hsp (Ev.ite_pos rfl (Ev.bind h4 ?_))
        by_cases hb : b2 = true
        · exact Ev.ite_pos hb (Ev.ite_pos (by omega) (Ev.now _))
        · exact Ev.ite_neg hb (Ev.now _)
      · simp only [impl_NormalComb.l0]
        exact Ev.bind him (Ev.ite_pos rfl (Ev.ite_pos (by omega) (Ev.now _)))
  | succ d ih =>
    intro n x t hx hn hw hgt
    have hs := hgt.1
    obtain ⟨o, b, ho, h2, h3, hb0, ht1, _⟩ := toldBoth t hw (by omega)
    have hsp := step_spec t hw
    have him := step_impl t hw (by omega)
    cases hst : stepT t with
    | none =>
      rw [hst] at hsp him
      refine ⟨o, n, true, ho, fun h => absurd h (by simp), fun _ => ⟨t, hw, hgt, ht1 (hb0.mpr hgt), hst⟩, Ev.succ ?_, Ev.succ ?_⟩
      · simp only [spec_NormalComb.l0]
        exact Ev.bind hsp (Ev.ite_neg (by simp [outL]) (Ev.bind h2 (Ev.now _)))
      · simp only [impl_NormalComb.l0]
        exact Ev.bind him (Ev.ite_neg (by simp [outS]) (Ev.bind h3 (Ev.now _)))
    | some y =>
      rw [hst] at hsp him
      have hys := stepT_size t y hst
      have hyw := stepT_wf t hw y hst
      obtain ⟨o2, b2, ho2, h4, h5, hg, _⟩ := toldBoth y hyw (by omega)
      obtain ⟨b3, h6, hg3⟩ := isGood_ev y (by omega)
      obtain rfl : b2 = b3 := by rw [Bool.eq_iff_iff, hg, hg3]
      have hne : ¬ (n : Int) = x := by omega
      have hw1 : wrap64 ((n : Int) + 1) = ((n + 1 : Nat) : Int) := w64 (by omega) (by omega)
      by_cases hb : b2 = true
      case neg =>
        refine ⟨[], 0, false, by simp, fun _ => rfl, fun h => absurd h (by simp), Ev.succ ?_, Ev.succ ?_⟩
        · simp only [spec_NormalComb.l0]
          exact Ev.bind hsp (Ev.ite_pos rfl (Ev.bind h4 (Ev.ite_neg hb (Ev.now _))))
        · simp only [impl_NormalComb.l0]
          exact Ev.bind him (Ev.ite_pos rfl (Ev.ite_neg hne (Ev.bind h6 (Ev.ite_neg hb (Ev.now _)))))
      have hgood := hg.mp hb
      obtain ⟨o3, m3, b4, ho3, hq0, hq1, h7, h8⟩ := ih (n + 1) x y (by omega) (by omega) hyw hgood
      refine ⟨o3, m3, b4, ho3, hq0, hq1, Ev.succ ?_, Ev.succ ?_⟩
      · simp only [spec_NormalComb.l0]
        refine Ev.bind hsp (Ev.ite_pos rfl (Ev.bind h4 (Ev.ite_pos hb (Ev.ite_neg hne ?_))))
        rw [hw1]; exact h7
      · simp only [impl_NormalComb.l0]
        refine Ev.bind him (Ev.ite_pos rfl (Ev.ite_neg hne (Ev.bind h6 (Ev.ite_pos hb ?_))))
        rw [hw1]; exact h8

theorem normalBoth (l : List S65) (hl : l.length ≤ 9223372036854775807) (x : Int) : ∃ (o : List S65) (m : Int) (b : Bool), o.length ≤ 200 ∧ (b = false → o = []) ∧ (b = true → ∃ y, y.wf ar ∧ CombL.Good y ∧ o = tnodes y ∧ stepT y = none) ∧ Ev (fun k => spec_NormalComb.f k l x) (o, m, b) ∧ Ev (fun k => impl_NormalComb.f k l x) (o, m, b) := by
  obtain ⟨b1, e1, h1⟩ := specGood l hl
  obtain ⟨y, b, hE, hb, hx⟩ := rootEv l hl
  obtain rfl : b1 = b := by rw [Bool.eq_iff_iff, h1, hb]
  unfold spec_NormalComb.f impl_NormalComb.f
  have sbad : Ev (fun k => spec_NormalComb.j0 k l x true) (([] : List S65), 0, false) := Ev.step (f := fun _ => some (([] : List S65), 0, false)) (fun k => by simp only [spec_NormalComb.j0]; rfl) (Ev.now _)
  have ibad : Ev (fun k => impl_NormalComb.j0 k x true y.f0 y.f1 y.f2) (([] : List S65), 0, false) := Ev.step (f := fun _ => some (([] : List S65), 0, false)) (fun k => by simp only [impl_NormalComb.j0]; rfl) (Ev.now _)
  by_cases h : b1 = true
  case neg =>
    obtain rfl : b1 = false := by simpa using h
    exact ⟨[], 0, false, by simp, fun _ => rfl, fun h => absurd h (by simp), Ev.bind e1 (Ev.ite_neg (by simp) sbad), Ev.bind hE (Ev.ite_neg (by simp) ibad)⟩
  subst h
  have hfuel : impl_isTermFuel.f x = some (decide (0 ≤ x ∧ x ≤ 1000)) := by
    unfold impl_isTermFuel.f
    by_cases h3 : x ≥ 0
    · rw [if_pos h3]; congr 1; exact decide_eq_decide.mpr ⟨fun h => ⟨h3, h⟩, fun h => h.2⟩
    · rw [if_neg h3, decide_eq_false (fun h => h3 h.1)]
  by_cases h2 : 0 ≤ x ∧ x ≤ 1000
  case neg =>
    refine ⟨[], 0, false, by simp, fun _ => rfl, fun h => absurd h (by simp), Ev.bind e1 (Ev.ite_pos rfl ?_), Ev.bind hE (Ev.ite_pos rfl ?_)⟩
    · rw [l1In_eq, decide_eq_false h2]
      exact Ev.bind (Ev.const rfl) sbad
    · rw [hfuel, decide_eq_false h2]
      exact Ev.bind (Ev.const rfl) ibad
  obtain ⟨t, ht, rfl⟩ := hx rfl
  obtain ⟨htree, hw, hsz⟩ := tree_of l ht
  obtain ⟨o, m, b, ho, hq0, hq1, h3, h4⟩ := loopBoth x.toNat 0 x t (by omega) (by omega) hw ⟨hsz, ht.2.2.2.2, ht.2.2.2.1⟩
  refine ⟨o, m, b, ho, hq0, hq1, Ev.bind e1 (Ev.ite_pos rfl ?_), Ev.bind hE (Ev.ite_pos rfl ?_)⟩
  · rw [l1In_eq, decide_eq_true h2]
    refine Ev.bind (Ev.const rfl) (Ev.succ ?_)
    simp only [spec_NormalComb.j0]
    exact Ev.ite_neg (by simp) (Ev.bind htree h3)
  · rw [hfuel, decide_eq_true h2]
    refine Ev.bind (Ev.const rfl) (Ev.succ ?_)
    simp only [impl_NormalComb.j0]
    exact Ev.ite_neg (by simp) h4
end Go.Proofs.YthfkimbmepmelaaDoor.StepL

namespace Go.Proofs.YthfkimbmepmelaaDoor.LawL
open Go.RowKit Go.Proofs.YthfkimbmepmelaaDoor.G Go.Proofs.YthfkimbmepmelaaDoor.EvL Go.Proofs.YthfkimbmepmelaaDoor.TreeM Go.Proofs.YthfkimbmepmelaaDoor.TxtL Go.Proofs.YthfkimbmepmelaaDoor.ReadM Go.Proofs.YthfkimbmepmelaaDoor.CombL Go.Proofs.YthfkimbmepmelaaDoor.StepL Go.Proofs.YthfkimbmepmelaaDoorW.PrintWords Go.Proofs.YthfkimbmepmelaaDoorW.PrintLast
set_option linter.unusedVariables false

theorem same (a : List S65) (ha : a.length ≤ 9223372036854775807) : Ev (fun k => laws_sameCombs.f k a a) true := by
  unfold laws_sameCombs.f
  refine Ev.ite_pos rfl ?_
  refine Ev.of_eq (ev_all (fun k i => laws_sameCombs.l0 k a a a.length i) a.length (fun _ => true) ?_ ?_ a.length 0 (by omega)) (by simp)
  · intro k i hi
    simp only [laws_sameCombs.l0]
    rw [if_pos (by omega), if_pos (by omega), if_pos (by omega), if_pos (by omega), if_neg (by simp), w64 (by omega) (by omega)]
    rfl
  · intro k
    simp only [laws_sameCombs.l0]
    rw [if_neg (by omega)]
theorem par_nodes {A : Arity} {l : List Nd} {i e : Nat} {u : Int} {t : Tr} (h : Par A l i u t e) : ∀ (j : Nat) (x : Nd), (flat t i u)[j]? = some x → l[i + j]? = some x := by
  induction h with
  | @leaf i u k n h hk hw =>
    intro j x hx
    cases j with
    | zero => rw [Nat.add_zero, h]; exact hx
    | succ j => simp [flat] at hx
  | @un i e u k n a h hk hw ha ih =>
    intro j x hx
    cases j with
    | zero => rw [Nat.add_zero, h]; exact hx
    | succ j => rw [show i + (j + 1) = i + 1 + j by omega]; exact ih j x hx
  | @bin i e e' u k n a b h hk hw ha hb ih1 ih2 =>
    intro j x hx
    cases j with
    | zero => rw [Nat.add_zero, h]; exact hx
    | succ j =>
      have hs := ha.span.1
      have hx' : (flat a (i + 1) i ++ flat b (i + 1 + a.size) i)[j]? = some x := hx
      by_cases hj : j < a.size
      · rw [List.getElem?_append_left (by rw [flat_len]; exact hj)] at hx'
        rw [show i + (j + 1) = i + 1 + j by omega]; exact ih1 j x hx'
      · rw [List.getElem?_append_right (by rw [flat_len]; omega), flat_len, ← hs] at hx'
        rw [show i + (j + 1) = e + (j - a.size) by omega]; exact ih2 _ x hx'
theorem nodes_of {l : List S65} {t : Tr} (h : Tells l t) : l = tnodes t := by
  have hp := h.2.2.1
  have hs := hp.span.1
  have e : l.map nd = flat t 0 (-1) := by
    apply List.ext_getElem?
    intro j
    by_cases hj : j < t.size
    · have h1 : (flat t 0 (-1))[j]? = some ((flat t 0 (-1))[j]'(by rw [flat_len]; exact hj)) := List.getElem?_eq_getElem _
      have h2 := par_nodes hp j _ h1
      rw [Nat.zero_add] at h2
      rw [h1, h2]
    · rw [List.getElem?_eq_none (by rw [List.length_map]; omega), List.getElem?_eq_none (by rw [flat_len]; omega)]
  have hb : l = (l.map nd).map back := by
    rw [List.map_map]
    exact (List.map_id' l).symm.trans (List.map_congr_left fun x _ => rfl)
  rw [hb, e]; rfl
theorem texts (l : List S65) (hl : l.length ≤ 9223372036854775807) : ∃ (s : ByteArray) (b : Bool), Ev (fun k => spec_CombText.f k l) (s, b) ∧ Ev (fun k => impl_CombText.f k l) (s, b) ∧ (b = false → s = B []) ∧ (b = true → ∃ t, Tells l t ∧ t.wf ar ∧ CForm 1000 t ∧ CombL.Good t ∧ s = B (ctxt t)) := by
  obtain ⟨b1, e1, h1⟩ := specGood l hl
  obtain ⟨y, b, hE, hb, hx⟩ := rootEv l hl
  obtain rfl : b1 = b := by rw [Bool.eq_iff_iff, h1, hb]
  unfold spec_CombText.f impl_CombText.f
  by_cases h : b1 = true
  case neg =>
    obtain rfl : b1 = false := by simpa using h
    exact ⟨⟨#[]⟩, false, Ev.bind e1 (Ev.ite_neg (by simp) (Ev.now _)), Ev.bind hE (Ev.ite_neg (by simp) (Ev.now _)), fun _ => rfl, fun h => absurd h (by simp)⟩
  subst h
  obtain ⟨t, ht, rfl⟩ := hx rfl
  obtain ⟨htree, hw, hz⟩ := tree_of l ht
  have hf := form_good hw ht.2.2.2.1
  have hlen := ctxt_len t hf
  obtain ⟨sE, iE⟩ := text_ev t (form_mono (by decide) hf) (by omega)
  exact ⟨B (ctxt t), true, Ev.bind e1 (Ev.ite_pos rfl (Ev.bind htree (Ev.bind sE (Ev.now _)))), Ev.bind hE (Ev.ite_pos rfl (Ev.bind iE (Ev.now _))), fun h => absurd h (by simp), fun _ => ⟨t, ht, hw, hf, ⟨hz, ht.2.2.2.2, ht.2.2.2.1⟩, rfl⟩⟩
theorem back_ev {t : Tr} (hf : CForm 1000 t) (hg : CombL.Good t) : Ev (fun k => impl_ReadComb.f k (B (ctxt t))) (tnodes t, true) := by
  have hlen := ctxt_len t hf
  have h2 := hg.1
  rcases implRead (ctxt t) (by omega) with ⟨t', f', g', e, hE⟩ | ⟨hn, _⟩
  · obtain rfl := ctxt_inj hf hg f' g' e
    exact hE
  · exact absurd ⟨t, hf, hg, rfl⟩ hn
theorem noStep {t : Tr} (hw : t.wf ar) (hg : CombL.Good t) (hst : StepL.stepT t = none) : Ev (fun k => impl_StepComb.f k (tnodes t)) (([] : List S65), false) := by
  have h1 := hg.1
  have hl := tnodes_len t
  obtain ⟨y, b, hE, hb, hx⟩ := rootEv (tnodes t) (by omega)
  have hbt : b = true := hb.mpr ((tells_iff t hw h1).mpr hg)
  subst hbt
  obtain ⟨t', ht', rfl⟩ := hx rfl
  have hp : Par ar ((tnodes t).map nd) 0 (-1) t (flat t 0 (-1)).length := by
    unfold tnodes; rw [nd_back]; exact flat_par t hw
  obtain rfl : t' = t := (Par.unique ht'.2.2.1 hp).1
  have him := step_impl t' hw (by omega)
  rw [hst] at him
  unfold impl_StepComb.f
  exact Ev.bind hE (Ev.ite_pos rfl (Ev.bind him (Ev.ite_neg (by simp [StepL.outS]) (Ev.now _))))
end Go.Proofs.YthfkimbmepmelaaDoor.LawL

namespace Go.Proofs.YthfkimbmepmelaaDoor.DrawL
open Go.RowKit Go.Proofs.YthfkimbmepmelaaDoor.G Go.Proofs.YthfkimbmepmelaaDoor.EvL Go.Proofs.YthfkimbmepmelaaDoorW.PrintWords Go.Proofs.YthfkimbmepmelaaDoorW.PrintLast
set_option linter.unusedVariables false

def Bytes (c : List Int) : Prop := c.length ≤ 1048576 ∧ ∀ x ∈ c, 0 ≤ x ∧ x ≤ 255
theorem wf8 {n : Int} (h : (Lit.int .u8 n).wf = true) : 0 ≤ n ∧ n ≤ 255 := by
  have h' : (decide (IntKind.u8.min ≤ n) && decide (n ≤ IntKind.u8.max)) = true := h
  simp only [Bool.and_eq_true, decide_eq_true_iff] at h'
  exact ⟨h'.1, h'.2⟩
theorem and255 (x : Int) : 0 ≤ Go.bits .and .u64 x 255 ∧ Go.bits .and .u64 x 255 ≤ 255 := by
  have h2 : (BitVec.ofInt 64 x &&& BitVec.ofInt 64 255).toNat ≤ 255 := by
    rw [BitVec.toNat_and]
    exact Nat.le_trans Nat.and_le_right (by decide)
  show 0 ≤ IntKind.u64.wrap ((BitVec.ofInt 64 x &&& BitVec.ofInt 64 255).toNat : Int) ∧ IntKind.u64.wrap ((BitVec.ofInt 64 x &&& BitVec.ofInt 64 255).toNat : Int) ≤ 255
  rw [IntKind.wrap_u64]
  omega
theorem rd_byte {c : List Int} (hc : Bytes c) (a : Int) (h0 : 0 ≤ a) (h1 : a < c.length) : 0 ≤ rd c a ∧ rd c a ≤ 255 := by
  refine hc.2 _ ?_
  unfold rd
  rw [List.getD_eq_getElem?_getD, List.getElem?_eq_getElem (by omega : a.toNat < c.length)]
  exact List.getElem_mem _
theorem next_ev {c : List Int} (hc : Bytes c) (a s : Int) (h0 : 0 ≤ a) (h1 : a ≤ 4000000) : ∃ r s', spec_l1Cur_next.f c a s = some (r, a + 1, s') ∧ 0 ≤ r ∧ r ≤ 255 := by
  have hl := hc.1
  have w1 : wrap64 (a + 1) = a + 1 := w64 (by omega) (by omega)
  have wa : ∀ x, 0 ≤ wrap64 (Go.bits .and .u64 x 255) ∧ wrap64 (Go.bits .and .u64 x 255) ≤ 255 := fun x => by
    have := and255 x
    rw [w64 (by omega) (by omega)]; exact this
  unfold spec_l1Cur_next.f
  rw [w1]
  by_cases h : a < (c.length : Int)
  · rw [if_pos h, if_pos h0, if_pos (by omega)]
    have hr := rd_byte hc a h0 h
    exact ⟨_, _, rfl, by rw [w64 (by omega) (by omega)]; exact hr⟩
  · rw [if_neg h, if_neg (by omega)]
    exact ⟨_, _, rfl, wa _⟩
theorem pick_ev {c : List Int} (hc : Bytes c) (a s n : Int) (h0 : 0 ≤ a) (h1 : a ≤ 3000000) (hn : 1 ≤ n) (hn2 : n ≤ 60000) : ∃ r a' s', spec_l1Cur_pick.f c a s n = some (r, a', s') ∧ 0 ≤ r ∧ r < n ∧ a ≤ a' ∧ a' ≤ a + 2 := by
  unfold spec_l1Cur_pick.f
  by_cases h : n ≤ 1
  · rw [if_pos h]; exact ⟨_, _, _, rfl, by omega, by omega, by omega, by omega⟩
  rw [if_neg h]
  obtain ⟨r, s1, e1, g0, g1⟩ := next_ev hc a s h0 (by omega)
  rw [e1, Option.bind_some]
  by_cases h2 : n > 200
  · rw [if_pos h2]
    obtain ⟨r2, s2, e2, k0, k1⟩ := next_ev hc (a + 1) s1 (by omega) (by omega)
    rw [e2, Option.bind_some, if_neg (by omega)]
    dsimp only
    have w1 : wrap64 (r * 256) = r * 256 := w64 (by omega) (by omega)
    have w2 : wrap64 (r * 256 + r2) = r * 256 + r2 := w64 (by omega) (by omega)
    rw [w1, w2]
    exact ⟨_, _, _, rfl, Int.tmod_nonneg _ (by omega), Int.tmod_lt_of_pos _ (by omega), by omega, by omega⟩
  · rw [if_neg h2, if_neg (by omega)]
    exact ⟨_, _, _, rfl, Int.tmod_nonneg _ g0, Int.tmod_lt_of_pos _ (by omega), by show a ≤ a + 1; omega, by show a + 1 ≤ a + 2; omega⟩
theorem one_ev {c : List Int} (hc : Bytes c) (a s n : Int) (h0 : 0 ≤ a) (h1 : a ≤ 3000000) (hn : 1 ≤ n) (hn2 : n ≤ 60000) : ∃ r a' s', spec_l1Cur_one.f c a s n = some (r, a', s') ∧ a ≤ a' ∧ a' ≤ a + 2 := by
  obtain ⟨r, a', s', e, _, _, g1, g2⟩ := pick_ev hc a s n h0 h1 hn hn2
  unfold spec_l1Cur_one.f
  rw [e]
  exact ⟨_, _, _, rfl, g1, g2⟩
theorem among_ev {c : List Int} (hc : Bytes c) (a s : Int) (l : List Int) (h0 : 0 ≤ a) (h1 : a ≤ 3000000) (hn : 1 ≤ l.length) (hn2 : l.length ≤ 60000) : ∃ r a' s', spec_l1Cur_among.f c a s l = some (r, a', s') ∧ a ≤ a' ∧ a' ≤ a + 2 := by
  obtain ⟨r, a', s', e, g3, g4, g1, g2⟩ := pick_ev hc a s l.length h0 h1 (by omega) (by omega)
  unfold spec_l1Cur_among.f
  rw [e, Option.bind_some, if_pos g3, if_pos g4]
  exact ⟨_, _, _, rfl, g1, g2⟩
theorem comb_ev {c : List Int} (hc : Bytes c) : ∀ (d : Nat) (a s : Int), d ≤ 4 → 0 ≤ a → a + 12 * 2 ^ d ≤ 1000000 → ∃ k n l a' s', Ev (fun m => spec_l1Cur_comb.f m c a s d) (k, n, l, a', s') ∧ a ≤ a' ∧ a' ≤ a + 12 * 2 ^ d - 6 := by
  have low : ∀ (d a1 s1 x : Int), 0 ≤ x → x ≤ 3 → 0 ≤ a1 → a1 ≤ 2000000 → ∃ k n l a' s', Ev (fun m => spec_l1Cur_comb.j1 m d x c a1 s1) (k, n, l, a', s') ∧ a1 ≤ a' ∧ a' ≤ a1 + 2 := by
    intro d a1 s1 x h0 h1 h2 h3
    obtain ⟨r, a', s', e, _, _, g3, g4⟩ := pick_ev hc a1 s1 3 h2 (by omega) (by omega) (by omega)
    obtain ⟨r2, a2, s2, e2, q1, q2, g5, g6⟩ := pick_ev hc a1 s1 2 h2 (by omega) (by omega) (by omega)
    by_cases hx : x = 0 ∨ x = 1
    · refine ⟨1, r, [], a', s', Ev.succ ?_, g3, g4⟩
      simp only [spec_l1Cur_comb.j1]
      rcases hx with rfl | rfl
      · refine Ev.ite_pos rfl (Ev.succ ?_)
        simp only [spec_l1Cur_comb.j2, e, Option.bind_some]
        exact Ev.ite_pos rfl (Ev.now _)
      · refine Ev.ite_neg (by decide) (Ev.succ ?_)
        simp only [spec_l1Cur_comb.j2, e, Option.bind_some]
        exact Ev.ite_pos rfl (Ev.now _)
    have hj : ∀ {r}, Ev (fun m => spec_l1Cur_comb.j2 m d x (x == 1) c a1 s1) r → Ev (fun m => spec_l1Cur_comb.j1 m d x c a1 s1) r := fun h => Ev.succ (by simp only [spec_l1Cur_comb.j1]; exact Ev.ite_neg (fun e => hx (.inl e)) h)
    by_cases h2' : x = 2
    · refine ⟨5, 0, [], a1, s1, hj (Ev.succ ?_), by omega, by omega⟩
      simp only [spec_l1Cur_comb.j2]
      exact Ev.ite_neg (by simp; omega) (Ev.ite_pos h2' (Ev.now _))
    · refine ⟨wrap64 (3 + r2), 0, [], a2, s2, hj (Ev.succ ?_), by omega, by omega⟩
      simp only [spec_l1Cur_comb.j2, e2, Option.bind_some]
      exact Ev.ite_neg (by simp; omega) (Ev.ite_neg h2' (Ev.ite_pos (by omega) (Ev.now _)))
  intro d
  induction d with
  | zero =>
    intro a s hd h0 h1
    have hp : (2 : Int) ^ 0 = 1 := rfl
    rw [hp] at h1 ⊢
    obtain ⟨x, a1, s1, e1, g1, g2, g3, g4⟩ := pick_ev hc a s 7 h0 (by omega) (by omega) (by omega)
    by_cases hx : x > 3
    · have w1 : wrap64 (x - 4) = x - 4 := w64 (by omega) (by omega)
      obtain ⟨k, n, l, a', s', h, g5, g6⟩ := low ((0 : Nat) : Int) a1 s1 (x - 4) (by omega) (by omega) (by omega) (by omega)
      refine ⟨k, n, l, a', s', Ev.succ ?_, by omega, by omega⟩
      simp only [spec_l1Cur_comb.f, e1, Option.bind_some]
      refine Ev.ite_pos rfl (Ev.succ ?_)
      simp only [spec_l1Cur_comb.j0, w1]
      exact Ev.ite_pos (by simp; omega) h
    · obtain ⟨k, n, l, a', s', h, g5, g6⟩ := low ((0 : Nat) : Int) a1 s1 x (by omega) (by omega) (by omega) (by omega)
      refine ⟨k, n, l, a', s', Ev.succ ?_, by omega, by omega⟩
      simp only [spec_l1Cur_comb.f, e1, Option.bind_some]
      refine Ev.ite_pos rfl (Ev.succ ?_)
      simp only [spec_l1Cur_comb.j0]
      exact Ev.ite_neg (by simp; omega) h
  | succ d ih =>
    intro a s hd h0 h1
    have hp : (2 : Int) ^ (d + 1) = 2 * 2 ^ d := by rw [Int.pow_succ]; omega
    have hq : (1 : Int) ≤ 2 ^ d ∧ (2 : Int) ^ d ≤ 16 := by
      have : d = 0 ∨ d = 1 ∨ d = 2 ∨ d = 3 := by omega
      rcases this with rfl | rfl | rfl | rfl <;> decide
    have w2 : wrap64 (((d + 1 : Nat) : Int) - 1) = (d : Int) := by rw [w64 (by omega) (by omega)]; omega
    rw [hp] at h1 ⊢
    obtain ⟨x, a1, s1, e1, g1, g2, g3, g4⟩ := pick_ev hc a s 7 h0 (by omega) (by omega) (by omega)
    have st : ∀ {r}, Ev (fun m => spec_l1Cur_comb.j1 m ((d + 1 : Nat) : Int) x c a1 s1) r → Ev (fun m => spec_l1Cur_comb.f m c a s ((d + 1 : Nat) : Int)) r := by
      intro r h
      refine Ev.succ ?_
      simp only [spec_l1Cur_comb.f, e1, Option.bind_some]
      refine Ev.ite_neg (by omega) (Ev.succ ?_)
      simp only [spec_l1Cur_comb.j0]
      exact Ev.ite_neg (by simp) h
    by_cases hx : x ≤ 3
    · obtain ⟨k, n, l, a', s', h, g5, g6⟩ := low ((d + 1 : Nat) : Int) a1 s1 x (by omega) (by omega) (by omega) (by omega)
      exact ⟨k, n, l, a', s', st h, by omega, by omega⟩
    obtain ⟨k, n, l, a2, s2, h, g5, g6⟩ := ih a1 s1 (by omega) (by omega) (by omega)
    obtain ⟨k', n', l', a3, s3, h', g7, g8⟩ := ih a2 s2 (by omega) (by omega) (by omega)
    refine ⟨2, 0, [⟨k, n, l⟩, ⟨k', n', l'⟩], a3, s3, st (Ev.succ ?_), by omega, by omega⟩
    simp only [spec_l1Cur_comb.j1]
    refine Ev.ite_neg (by omega) (Ev.succ ?_)
    simp only [spec_l1Cur_comb.j2, w2]
    exact Ev.ite_neg (by simp; omega) (Ev.ite_neg (by omega) (Ev.ite_neg (by omega) (Ev.bind h (Ev.bind h' (Ev.now _)))))
theorem len_ge : ∀ (N : Nat), (∀ (x : S53) (up : Int) (l : List S65), SizeOf.sizeOf x ≤ N → l.length + 1 ≤ (Flat53.flT x up l).length) ∧ (∀ (xs : List S53) (k : Int) (l : List S65), SizeOf.sizeOf xs ≤ N → l.length ≤ (Flat53.flL xs k l).length) := by
  intro N
  induction N with
  | zero =>
    refine ⟨fun x up l h => ?_, fun xs k l h => ?_⟩
    · cases x; simp at h
    · cases xs <;> simp at h
  | succ N ih =>
    refine ⟨fun x up l h => ?_, fun xs k l h => ?_⟩
    · cases x with
      | mk k n ks =>
        rw [Flat53.flT]
        have := ih.2 ks (l.length : Int) (l ++ [⟨k, n, up⟩]) (by simp at h; omega)
        rw [List.length_append] at this
        exact this
    · cases xs with
      | nil => rw [Flat53.flL]; exact Nat.le_refl _
      | cons x xs =>
        rw [Flat53.flL]
        have h1 : SizeOf.sizeOf x ≤ N := by simp at h; omega
        have h2 : SizeOf.sizeOf xs ≤ N := by simp at h; omega
        refine Nat.le_trans ?_ (ih.2 xs k _ h2)
        split
        · exact Nat.le_of_succ_le (ih.1 x k l h1)
        · exact Nat.le_refl _
theorem combs_ev {c : List Int} (hc : Bytes c) (a s : Int) (h0 : 0 ≤ a) (h1 : a ≤ 900000) : ∃ l a' s', Ev (fun m => spec_l1Cur_combs.f m c a s) (l, a', s') ∧ l.length ≤ 201 := by
  obtain ⟨x, a1, s1, e1, g1, g2, g3, g4⟩ := pick_ev hc a s 4 h0 (by omega) (by omega) (by omega)
  obtain ⟨d, rfl⟩ : ∃ d : Nat, x = (d : Int) := ⟨x.toNat, by omega⟩
  have wd : wrap64 (1 + (d : Int)) = ((d + 1 : Nat) : Int) := by rw [w64 (by omega) (by omega)]; omega
  have hb : (12 : Int) * 2 ^ (d + 1) ≤ 192 := by
    have : d = 0 ∨ d = 1 ∨ d = 2 ∨ d = 3 := by omega
    rcases this with rfl | rfl | rfl | rfl <;> decide
  obtain ⟨k, n, ks, a2, s2, h2, g5, g6⟩ := comb_ev hc (d + 1) a1 s1 (by omega) (by omega) (by omega)
  have hlo := (len_ge _).1 ⟨k, n, ks⟩ (-1) [] (Nat.le_refl _)
  have hhi := Flat53.flT_len ⟨k, n, ks⟩ (-1) [] (by simp)
  have hf : ∀ m, spec_ldFlat.f m ([] : List S65) k n ks (-1) = some (Flat53.flT ⟨k, n, ks⟩ (-1) []) := fun m => rfl
  generalize Flat53.flT ⟨k, n, ks⟩ (-1) [] = L at hlo hhi hf
  have hlo' : 1 ≤ L.length := hlo
  have w1 : wrap64 ((L.length : Int) - 1) = (L.length : Int) - 1 := w64 (by omega) (by omega)
  obtain ⟨y, a3, s3, e3, _, _, g7, g8⟩ := pick_ev hc a2 s2 40 (by omega) (by omega) (by omega) (by omega)
  obtain ⟨z, a4, s4, e4, _, _⟩ := among_ev hc a3 s3 [(-1), 999, 1000] (by omega) (by omega) (by decide) (by decide)
  obtain ⟨v, a5, s5, e5, _⟩ := pick_ev hc a3 s3 4 (by omega) (by omega) (by omega) (by omega)
  have p1 := eq_true (show 0 ≤ (L.length : Int) - 1 by omega)
  have p2 := eq_true (show (L.length : Int) - 1 < (L.length : Int) by omega)
  simp only [spec_l1Cur_combs.f, e1, Option.bind_some, wd]
  by_cases h : y = 0
  · refine ⟨L.set ((L.length : Int) - 1).toNat ⟨(rd_T65 L ((L.length : Int) - 1)).f0, z, (rd_T65 L ((L.length : Int) - 1)).f2⟩, a4, s4, Ev.bind h2 ?_, by rw [List.length_set]; omega⟩
    simp only [hf, Option.bind_some, e3, e4, w1, p1, p2, if_true]
    exact Ev.ite_pos h (Ev.now _)
  by_cases h' : y = 1
  · refine ⟨L.set ((L.length : Int) - 1).toNat ⟨(rd_T65 L ((L.length : Int) - 1)).f0, (rd_T65 L ((L.length : Int) - 1)).f1, wrap64 (v - 1)⟩, a5, s5, Ev.bind h2 ?_, by rw [List.length_set]; omega⟩
    simp only [hf, Option.bind_some, e3, e5, w1, p1, p2, if_true]
    exact Ev.ite_neg h (Ev.ite_pos h' (Ev.now _))
  · refine ⟨L, a3, s3, Ev.bind h2 ?_, by omega⟩
    simp only [hf, Option.bind_some, e3]
    exact Ev.ite_neg h (Ev.ite_neg h' (Ev.now _))
theorem draw_ev {c : List Int} (hc : Bytes c) : ∃ l x, Ev (fun m => spec_DrawNormalComb.f m c) (l, x) ∧ l.length ≤ 201 := by
  obtain ⟨b, a1, s1, e1, g1, g2⟩ := one_ev hc 0 0 8 (by omega) (by omega) (by omega) (by omega)
  obtain ⟨x, a2, s2, e2, g3, g4⟩ := among_ev hc a1 s1 [(-1), 0, 1, 1000, 1001] (by omega) (by omega) (by decide) (by decide)
  simp only [spec_DrawNormalComb.f, e1, Option.bind_some]
  by_cases h : b = true
  · obtain ⟨l, a', s', hl, hn⟩ := combs_ev hc a2 s2 (by omega) (by omega)
    refine ⟨l, x, Ev.ite_pos h ?_, hn⟩
    simp only [e2, Option.bind_some]
    exact Ev.bind hl (Ev.now _)
  · obtain ⟨l, a', s', hl, hn⟩ := combs_ev hc a1 s1 (by omega) (by omega)
    exact ⟨l, 60, Ev.ite_neg h (Ev.bind hl (Ev.now _)), hn⟩
end Go.Proofs.YthfkimbmepmelaaDoor.DrawL

namespace Go.Proofs.YthfkimbmepmelaaDoor.Pure
open Go.RowKit Go.Proofs.YthfkimbmepmelaaDoor.G Go.Proofs.YthfkimbmepmelaaDoor.EvL Go.Proofs.YthfkimbmepmelaaDoor.TreeM Go.Proofs.YthfkimbmepmelaaDoor.TxtL Go.Proofs.YthfkimbmepmelaaDoor.ReadM Go.Proofs.YthfkimbmepmelaaDoor.CombL Go.Proofs.YthfkimbmepmelaaDoor.StepL Go.Proofs.YthfkimbmepmelaaDoor.LawL Go.Proofs.YthfkimbmepmelaaDoorW.PrintWords Go.Proofs.YthfkimbmepmelaaDoorW.PrintLast

theorem FnCombs : laws_FnCombs.Pure := by
  intro l0 _ hl
  refine Ev.rounds ?_
  unfold laws_FnCombs.f
  by_cases h : (l0.length : Int) > 1048576
  · exact Ev.ite_pos h (Ev.now _)
  have hb : DrawL.Bytes l0 := ⟨by omega, fun x hx => DrawL.wf8 (hl.2 x hx)⟩
  obtain ⟨l, x, hd, hn⟩ := DrawL.draw_ev hb
  obtain ⟨s, b, hsp, him, h0, h1⟩ := texts l (by omega)
  refine Ev.ite_neg h (Ev.bind hd (Ev.bind him (Ev.bind hsp (Ev.ite_neg (by simp) (Ev.succ ?_)))))
  simp only [laws_FnCombs.j0]
  refine Ev.ite_neg (by simp) ?_
  cases b with
  | false =>
    rw [h0 rfl]
    exact Ev.ite_neg (by simp) (Ev.of_eq (Ev.now _) (by rw [toList_B]; rfl))
  | true =>
    obtain ⟨t, ht, hw, hf, hg, rfl⟩ := h1 rfl
    have hln := nodes_of ht
    obtain ⟨o, m, b2, ho, hq0, hq1, h3, h4⟩ := normalBoth l (by omega) x
    have hr := back_ev hf hg
    rw [← hln] at hr
    refine Ev.ite_pos rfl (Ev.bind hr (Ev.bind h4 (Ev.bind h3 (Ev.ite_pos rfl (Ev.bind (same l (by omega)) (Ev.ite_pos rfl (Ev.ite_neg (by simp) (Ev.succ ?_))))))))
    simp only [laws_FnCombs.j1]
    refine Ev.ite_neg (by simp) ?_
    cases b2 with
    | false =>
      rw [hq0 rfl]
      exact Ev.ite_neg (by simp) (Ev.now _)
    | true =>
      obtain ⟨y, yw, yg, rfl, yst⟩ := hq1 rfl
      exact Ev.ite_pos rfl (Ev.bind (noStep yw yg yst) (Ev.now _))
end Go.Proofs.YthfkimbmepmelaaDoor.Pure

namespace Go.Proofs.YthfkimbmepmelaaDoor.Open
open Go.RowKit Go.Proofs.YthfkimbmepmelaaDoorW.PrintWords
open Go.WideShapes
set_option linter.unusedVariables false

def Opens {α : Type} (H : Type) (enc : TypeId × Value → H) (P : Program) (t : TypeId) (d : Kd α) (good : α → Prop) : Prop :=
  ∀ (w : World) (base : Nat) (spare : Nat → Bool) (held : Bool) (fuel : Nat) (cs : List Value) (x : DataW H × List MemPlace),
    DataW.trod enc P w base spare held fuel t cs = some x → ∃ v, d.K w v cs ∧ good v

section
variable {H : Type} {enc : TypeId × Value → H} {P : Program}

theorem opens_int {t : TypeId} {k : IntKind} (ht : P.underlying t = some (.int k)) : Opens H enc P t (Kd.int k) (fun n => (Lit.int k n).wf = true) := by
  intro w base spare held fuel cs x h
  obtain ⟨n, rfl, _, hw⟩ := DataW.trod_int ht h
  exact ⟨n, rfl, hw⟩

theorem choose_list {α : Type} (p : Nat → α → Prop) : ∀ n : Nat, (∀ i, i < n → ∃ a, p i a) → ∃ l : List α, l.length = n ∧ ∀ i a, l[i]? = some a → p i a
  | 0, _ => ⟨[], rfl, fun i a h => by simp at h⟩
  | n + 1, h => by
    obtain ⟨l, hl, hp⟩ := choose_list p n (fun i hi => h i (by omega))
    obtain ⟨a, ha⟩ := h n (by omega)
    refine ⟨l ++ [a], by simp [hl], fun i b hb => ?_⟩
    by_cases hi : i < n
    · exact hp i b (by rwa [List.getElem?_append_left (by omega)] at hb)
    · rw [List.getElem?_append_right (by omega)] at hb
      have : i - l.length = 0 := by
        by_cases h0 : i - l.length = 0
        · exact h0
        · rw [List.getElem?_eq_none (by simp; omega)] at hb; simp at hb
      rw [this] at hb
      obtain rfl : a = b := by simpa using hb
      obtain rfl : i = n := by omega
      exact ha

theorem opens_slice {α : Type} {t e : TypeId} {d : Kd α} {good : α → Prop} (ht : P.underlying t = some (.slice e)) (he : Opens H enc P e d good) (hc : P.cellsOf e = d.sz) :
    Opens H enc P t (Kd.slice e d) (fun l => l.length ≤ 9223372036854775807 ∧ ∀ x ∈ l, good x) := by
  intro w base spare held fuel cs x h
  rcases DataW.trod_slice ht h with ⟨rfl, _⟩ | ⟨a, len, cap, elems, rest, n, _, rfl, _, hb, hl, hm, hel, hg, _, _⟩
  · exact ⟨[], ⟨none, 0, rfl, Nat.le_refl _, ⟨rfl, by simp, fun h => by simp at h⟩⟩, by simp, by simp⟩
  · have hm' : cap ≤ 9223372036854775807 := hm
    have key : ∀ i, i < len → ∃ v : α, good v ∧ ∃ c : List Value, c.length = d.sz ∧ d.K w v c ∧ ∀ j u, c[j]? = some u → w.cell? (a.add (i * d.sz + j)) = some u := by
      intro i hi
      have hgi := hg i hi
      have hsome : ∃ y, elems[i]? = some y := ⟨elems[i]'(by omega), List.getElem?_eq_getElem (by omega)⟩
      obtain ⟨y, hy⟩ := hsome
      rw [hy] at hgi
      obtain ⟨c, hc1, hc2⟩ := Option.bind_eq_some_iff.mp hgi
      obtain ⟨v, hK, hgood⟩ := he w base spare held n c y hc2
      obtain ⟨_, hlen, hcell⟩ := World.cells?_some hc1
      refine ⟨v, hgood, c, d.K_len hK, hK, fun j u hu => ?_⟩
      have hj : j < c.length := by
        by_cases hj : j < c.length
        · exact hj
        · rw [List.getElem?_eq_none (by omega)] at hu; simp at hu
      have := hcell j (by omega)
      rw [Addr.add_add, hc, hu] at this
      exact this
    obtain ⟨l, hl0, hl1⟩ := choose_list (fun i v => good v ∧ ∃ c : List Value, c.length = d.sz ∧ d.K w v c ∧ ∀ j u, c[j]? = some u → w.cell? (a.add (i * d.sz + j)) = some u) len key
    refine ⟨l, ⟨some a, cap, by rw [hl0], by omega, ⟨rfl, by omega, fun _ => ⟨a, rfl, fun j p hp => (hl1 j p hp).2⟩⟩⟩, by omega, fun v hv => ?_⟩
    obtain ⟨i, hi⟩ := List.mem_iff_getElem?.mp hv
    exact (hl1 i v hi).1

theorem slice_in {α : Type} {t e : TypeId} {d : Kd α} {good : List α → Prop} (ht : P.underlying t = some (.slice e)) (hs : Opens H enc P t (Kd.slice e d) good) {W : World} {r : Reach} {b base : Nat} {spare : Nat → Bool} {held : Bool} {v : Value} {dd : DataW H} {p : List MemPlace}
    (hv : Value.okWide P W r b t v) (h : DataW.Trod enc P W base spare held t v dd p) : ∃ (A : Option Addr) (l : List α) (c : Nat), v = .slice A l.length c ∧ l.length ≤ c ∧ d.C W A l.length l ∧ good l := by
  obtain ⟨a, len, cap, rfl⟩ := okWide_slice ht hv
  obtain ⟨fuel, hf⟩ := h
  obtain ⟨l, ⟨A, c, hcs, hlc, hC⟩, hg⟩ := hs W base spare held fuel _ _ hf
  simp [Value.cells] at hcs
  obtain ⟨rfl, rfl, rfl⟩ := hcs
  exact ⟨a, l, cap, rfl, hlc, hC, hg⟩

end
end Go.Proofs.YthfkimbmepmelaaDoor.Open

namespace Go.Proofs.YthfkimbmepmelaaDoor.fnCombs
open Go.ChangeShapes Go.WideShapes Go.ChangeAt Go.RowKit Go.Proofs.YthfkimbmepmelaaDoor.Open Go.Proofs.YthfkimbmepmelaaDoor.G Go.Proofs.YthfkimbmepmelaaDoorW.PrintWords
open Go.ChangeMaps (open_string shut_string)
set_option linter.unusedVariables false
theorem own : ownKnob Tryd.prog.godebug = none := by kernel_rfl
theorem laidOut : laidOutB Tryd.prog = true := by kernel_rfl
theorem laidShaped {H : Type} {enc : TypeId × Value → H} {a : Assume} {C : Checked} {os : Os} {f : FuncId} {fn : Func} {s : ChangeSpec} {conds : List PathCond} {apart fresh handsOn again : Bool} {X : World → Array Value → Prop}
    (hX : ∀ (w w' : World) (args : Array Value), w.heap = w'.heap → X w args → X w' args)
    (own : ownKnob C.prog.godebug = none) (started : os.Started) (noInit : C.prog.inits.idxOf? f = none) (hfn : C.prog.funcs[f]? = some fn)
    (witness : ∃ (w : World) (tape : Tape) (i : Input), w.os = os ∧ (w.forCall tape i).Shaped C.prog ∧ i.vars = [] ∧ Input.okWide C.prog (w.forCall tape i) .any w.heap.size f i ∧
      ((s.pre enc C.prog fn conds apart (w.forCall tape i).memory i.args ∧ X (w.forCall tape i).memory i.args) ∧ sizedMet enc C.prog fn (OpenSpec.ofChange s) apart (w.forCall tape i).memory i.args) ∧ a.holds C.prog (lone (Frame.enter C.prog f i.args .normal) [] (w.forCall tape i)))
    (contract : ∀ (W : World) (base : Nat) (args : Array Value) (ds gs : List (DataW H)) (before : List MemPlace),
      (∀ (j : Nat) t v, fn.params[j]? = some t → args[j]? = some v → Value.okWide C.prog W .any base t v) →
      DataW.Whole enc C.prog fn.params.toList s.vars apart W args.toList ds gs before →
      conds.all (PathCond.test C.prog ⟨fn.params.toList, ds, s.plain.varTypes C.prog, gs⟩) = true →
      (DataW.weightsEach C.prog (fn.params.toList ++ s.plain.varTypes C.prog) (ds ++ gs)).all (· ≤ reachBytes) = true → X W args → W.ShapedOpen C.prog →
      Calls C.prog f args W fun e W' => ∃ v, e = .returned v ∧ s.post enc C.prog fn apart fresh handsOn again W args v W') :
    ReturnsInHanded a C os f .any (fun w args => (s.pre enc C.prog fn conds apart w args ∧ X w args) ∧ sizedMet enc C.prog fn (OpenSpec.ofChange s) apart w args) (s.post enc C.prog fn apart fresh handsOn again) := by
  refine returnsInHanded_of_calls own started noInit witness ?_
  intro w tape i _ hsh _ hok hpre _
  obtain ⟨_, _, _, fn', hfn', _, _, _, _, hval⟩ := hok
  obtain rfl : fn' = fn := Option.some.inj (hfn'.symm.trans hfn)
  obtain ⟨⟨⟨ds, gs, before, hw, hc⟩, hx⟩, hz⟩ := hpre
  refine (contract _ w.heap.size i.args ds gs before hval (DataW.Whole.of_heap (w' := w.forCall tape i) (by rfl) hw) hc (hz.weights hw) (hX _ _ _ (by rfl) hx) hsh).mono fun e W' h => ?_
  obtain ⟨v, rfl, hp⟩ := h
  exact ChangeSpec.post_blind hp
theorem tab_of {W : World} {rest : List (String × DataW Unit)} (h : laidMet Tryd.prog (("internal/strconv.uint64pow10", Rows.laid_internal_strconv_uint64pow10) :: rest) W) : Tab W :=
  Lib.tabIs_of_head (k := .u64) (zs := Lib.pow10Tab) (g := 2) (t := 110) (e := 36) (n := 20) (by kernel_rfl) (by kernel_rfl) (by kernel_rfl) (by kernel_rfl) (by kernel_rfl) (by kernel_rfl) h
theorem star : "*" ++ "errors.errorString" = "*errors.errorString" := by decide
theorem row_err (u : TypeId) (h : Tryd.prog.typeName? 3 u = some "*errors.errorString") : u = 117 :=
  typeName_ptr_named (nm := "errors.errorString") (by rw [star]; kernel_rfl) (by kernel_rfl) (by decide) u (by rw [star]; exact h)
theorem synOf {W : World} {rest : List (String × DataW Unit)} (h : laidMet Tryd.prog (("strconv.ErrSyntax", Rows.laid_strconv_ErrSyntax) :: rest) W) : ∃ tp p, W.var? Tryd.prog "strconv.ErrSyntax" = some #[.iface tp p] := by
  obtain ⟨a, s, hv, _⟩ := laid_sentinel h (g := 0) (ti := 78) (tp := 117) (te := 119) (ts := 9) (by kernel_rfl) (by kernel_rfl) Tryd.underlying78 row_err Tryd.underlying117 Tryd.underlying119 rfl rfl Tryd.underlying9 (by kernel_rfl) (by kernel_rfl)
  exact ⟨_, _, hv⟩
theorem rngOf {W : World} {rest : List (String × DataW Unit)} (h : laidMet Tryd.prog (("strconv.ErrRange", Rows.laid_strconv_ErrRange) :: rest) W) : ∃ tp p, W.var? Tryd.prog "strconv.ErrRange" = some #[.iface tp p] := by
  obtain ⟨a, s, hv, _⟩ := laid_sentinel h (g := 1) (ti := 78) (tp := 117) (te := 119) (ts := 9) (by kernel_rfl) (by kernel_rfl) Tryd.underlying78 row_err Tryd.underlying117 Tryd.underlying119 rfl rfl Tryd.underlying9 (by kernel_rfl) (by kernel_rfl)
  exact ⟨_, _, hv⟩
set_option maxRecDepth 100000 in
theorem lifted (os : Os) (started : os.Started) (H : Type) (enc : TypeId × Value → H) :
    ReturnsInHanded {} Tryd.checked os 3 .any (fun w args => (Rows.fnCombsSpec.pre enc Tryd.prog Tryd.f3 Rows.fnCombsRow.domain false w args ∧ laidMetH Tryd.prog Rows.fnCombsRow.laid w) ∧ sizedMet enc Tryd.prog Tryd.f3 (OpenSpec.ofChange Rows.fnCombsSpec) false w args) (Rows.fnCombsSpec.post enc Tryd.prog Tryd.f3 false true false false) := by
  refine laidShaped (C := Tryd.checked) (X := fun w _ => laidMetH Tryd.prog Rows.fnCombsRow.laid w) (fun _ _ _ hh h => h.of_heap hh) own started (by kernel_rfl) Tryd.func3
    (ChangeSpec.witness_shaped (enc := enc) (C := Tryd.checked) (os := os) (X := fun w _ => laidMetH Tryd.prog Rows.fnCombsRow.laid w) false (World.laidAll Tryd.prog os Rows.fnCombsRow.laid) #[.slice none 0 0] 8 (World.laidAll_os _ _ _)
      (World.shaped_of_ZipB (by kernel_rfl) (by kernel_rfl)) (by kernel_rfl) (by kernel_rfl) (by kernel_rfl)
      (by rw [MakeChecks.laidMetH_plain _ _ _ (by kernel_rfl)]; exact laidMet_laidAll _ (by kernel_rfl) (by kernel_rfl))) ?_
  intro W base args ds gs before hval0 hW hcnd hsz0 hX1 hsh
  have hsz : (DataW.weightsEach Tryd.prog (Tryd.f3.params.toList ++ Rows.fnCombsSpec.plain.varTypes Tryd.prog) (ds ++ gs)).all (· ≤ reachBytes) = true := hsz0
  have hval : ∀ (j : Nat) t v, Tryd.f3.params[j]? = some t → args[j]? = some v → Value.okWide Tryd.prog W .any base t v := hval0
  have hW' := hW
  obtain ⟨p, q, hA0, hV, rfl, hfz, hnd⟩ := hW
  have hA : DataW.TrodAll enc Tryd.prog W 0 (fun _ => true) true Tryd.f3.params.toList args.toList ds p := hA0
  rw [Tryd.params3] at hA hval hsz
  obtain ⟨v0, vs0, d0, ds0, p0, q0, hargs, rfl, rfl, h0, r0⟩ := trodAll_cons hA
  obtain ⟨rfl, rfl, rfl⟩ := trodAll_nil r0
  obtain rfl : args = #[v0] := by cases args; simp_all
  obtain ⟨rfl, rfl⟩ := trodVars_none hV
  have k0 := h0
  have lt0 : ∀ x ∈ p0, x.block < W.heap.size := by obtain ⟨m, hm⟩ := k0; exact DataW.trod_lt m _ _ _ hm
  have y0 := fun a len cap (e : v0 = .slice a len cap) => Go.Proofs.YthfkimbmepmelaaDoorW.PrintWords.sized_ints (B := 1) hsz (j := 0) (t := 22) rfl rfl Tryd.underlying22 Tryd.underlying5 (by kernel_rfl) (by kernel_rfl) (e ▸ h0)
  obtain ⟨A0, l0, c0, rfl, hc0, hr0, hg0⟩ := slice_in Tryd.underlying22 (opens_slice Tryd.underlying22 (opens_int Tryd.underlying5) (by kernel_rfl)) (hval 0 22 v0 rfl rfl) h0
  clear hA0 hval0 hsz0 hsz
  obtain ⟨k_, hk_⟩ := Pure.FnCombs l0 (y0 _ _ _ rfl) hg0
  have hL : laidMet Tryd.prog Rows.fnCombsRow.laid W := by
    rw [← MakeChecks.laidMetH_plain _ _ _ (by kernel_rfl)]; exact hX1
  have hE : G.Met W := ⟨(tab_of (laidMet.tail (laidMet.tail hL))), ⟨(synOf (laidMet.tail (laidMet.tail (laidMet.tail (laidMet.tail hL))))), (rngOf (laidMet.tail (laidMet.tail (laidMet.tail hL))))⟩⟩
  refine (laws_FnCombs.calls k_ A0 c0 l0 true W hr0 hc0 hk_ hE).mono fun e W' ⟨he, bel0⟩ => ?_
  have bel : Below W.heap.size W W' := bel0
  subst he
  exact ⟨_, rfl, _, _, _, [], _, [], hW', trodAll_mk1 (shut_bool Tryd.underlying4 _), (trodAll_cons_mk (Below.trod laidOut (by kernel_rfl) (of_decide_eq_true (by kernel_rfl)) k0 bel lt0) trodAll_mk0), rfl, bel.frame _, fun h => by cases h⟩
theorem over : Rows.FnCombsSaid :=
  OpenClaim.holds_of_wide 3 Tryd.f3 rfl rfl rfl rfl rfl rfl rfl ⟨rfl, rfl, rfl, rfl, rfl⟩ rfl rfl rfl rfl rfl (by kernel_rfl) Tryd.func3 (by kernel_rfl)
    (of_decide_eq_true (by kernel_rfl)) (by unfold Func.isWrapper; first | (rw [if_pos (by decide +kernel)]; kernel_rfl) | (rw [if_neg (by decide +kernel)]; exact ⟨rfl, rfl⟩))
    (fun os started H enc _ => lifted os started H enc)
theorem proved : Rows.FnCombsCardSaid :=
  Claim7.holds_tied_plain_at .later [] [.data, .data, .data, .sentinel, .sentinel] true (true, "b6b77651fcbedc76e68f6fd4e8052050f79afc89f4d41351be736ef7cd8fe924") true
    over (fun _ h => by cases h) (by kernel_rfl) (fun _ h => by cases h) fnCombs_row_tie rfl ⟨rfl, rfl⟩ (by kernel_rfl) rfl
    (fun f fn hf hfn => by
      obtain rfl : f = 3 := Option.some.inj ((show Tryd.prog.funcNamed "loop.example/g00201/laws.FnCombs" = some 3 by kernel_rfl).symm.trans hf) |>.symm
      obtain rfl : fn = Tryd.f3 := (Option.some.inj (Tryd.func3.symm.trans hfn)).symm
      exact ⟨by kernel_rfl, fun j t ht => by
        rw [Tryd.params3] at ht
        have hm : t ∈ [22] := by simpa using Array.mem_of_getElem? ht
        have hall : ([22].all fun u => !Tryd.prog.wantsStandIn u) = true := by kernel_rfl
        exact (show Tryd.prog.wantsStandIn t = false by simpa using List.all_eq_true.1 hall t hm)⟩)
    (by kernel_rfl)
#print axioms proved
end Go.Proofs.YthfkimbmepmelaaDoor.fnCombs
namespace Go.Proofs.YthfkimbmepmelaaDoor
theorem fnCombs_holds : Rows.FnCombsCardSaid := fnCombs.proved
end Go.Proofs.YthfkimbmepmelaaDoor
