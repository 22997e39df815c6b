/- Part 2 of 2 of the proof that the law FnExactCodeTextCardSaid holds: for every input that can be read the call returns true and leaves its arguments as they were; no condition but those each theorem names. -/
import Derived.Lib.ItoaNum
import Derived.ChangeArms
import Derived.WideShapes
import Derived.DataElems
import Derived.DataReads
import Derived.Test.YtlkgimnafnmgpaaDoorRows
import Derived.Test.YtlkgimnafnmgpaaDoorCards
import Derived.Test.YtlkgimnafnmgpaaDoorTie
import Derived.WalkKit
import Derived.ProofKit
import Derived.OpenShut
import Derived.ShutString
import Derived.ChangeOld
import Derived.Below
import Derived.SizedLaws
import Derived.LaidMore
import Derived.Lib.LaidTab
import Derived.Stop.LaidErr
import Derived.MakeChecks
import Derived.HandedShaped
import Derived.Shelf.Strings.Shaped
import Derived.Lay
import Derived.SevenTiedAt
import Derived.Stop.Joined
import Derived.Test.YtlkgimnafnmgpaaDoorQCodeTextW1
import Derived.Test.YtlkgimnafnmgpaaDoorQCodeText1
namespace Go.Proofs.YtlkgimnafnmgpaaDoor.CodeL
open Go.RowKit Go.Proofs.YtlkgimnafnmgpaaDoor.G Go.Proofs.YtlkgimnafnmgpaaDoor.EvL Go.Proofs.YtlkgimnafnmgpaaDoorW.PrintWords Go.Proofs.YtlkgimnafnmgpaaDoorW.PrintLast
set_option linter.unusedVariables false
set_option linter.unusedSimpArgs false

theorem rd36 (l : List S36) (i : Nat) : rd_T36 l (i : Int) = l.getD i z36 := by unfold rd_T36; rw [Int.toNat_natCast]
theorem rd37 (l : List S37) (i : Nat) : rd_T37 l (i : Int) = l.getD i z37 := by unfold rd_T37; rw [Int.toNat_natCast]
theorem next (i n : Nat) (h : i < n) (hn : n ≤ 9223372036854775807) : wrap64 ((i : Int) + 1) = ((i + 1 : Nat) : Int) := w64 (by omega) (by omega)
theorem mem_getD {α : Type} (l : List α) (z : α) (i : Nat) (h : i < l.length) : l.getD i z ∈ l := by
  rw [List.getD_eq_getElem?_getD, List.getElem?_eq_getElem h]; exact List.getElem_mem h

theorem szLoop (l : List S36) (hl : l.length ≤ 9223372036854775807) (ht : ∀ x ∈ l, x.f2.size ≤ 9223372036854775807) : ∀ (d i : Nat) (a : Int), i + d = l.length → 0 ≤ a → a ≤ 1048576 → ∃ t, Ev (fun k => laws_szInstrS.l0 k l a i) t := by
  intro d
  induction d with
  | zero =>
    intro i a hi h0 h1
    exact ⟨a, Ev.step (f := fun _ => some a) (fun k => by simp only [laws_szInstrS.l0]; rw [if_neg (by omega)]) (Ev.now _)⟩
  | succ d ih =>
    intro i a hi h0 h1
    have hx := ht _ (mem_getD l z36 i (by omega))
    have hw : wrap64 (a - ((l.getD i z36).f2.size : Int)) = a - ((l.getD i z36).f2.size : Int) := w64 (by omega) (by omega)
    by_cases hn : a - ((l.getD i z36).f2.size : Int) < 0
    · refine ⟨-1, Ev.step (f := fun _ => some (-1)) (fun k => ?_) (Ev.now _)⟩
      simp only [laws_szInstrS.l0, laws_szInstr.f]
      rw [if_pos (by omega), if_pos (by omega), rd36, hw, if_pos hn]
      rfl
    · obtain ⟨t, hE⟩ := ih (i + 1) (a - ((l.getD i z36).f2.size : Int)) (by omega) (by omega) (by omega)
      refine ⟨t, Ev.step (fun k => ?_) hE⟩
      simp only [laws_szInstrS.l0, laws_szInstr.f]
      rw [if_pos (by omega), if_pos (by omega), rd36, hw, if_neg hn]
      simp only [Option.bind_some]
      rw [if_neg hn, next i l.length (by omega) hl]
theorem sizes (l : List S36) (hl : l.length ≤ 9223372036854775807) (ht : ∀ x ∈ l, x.f2.size ≤ 9223372036854775807) : ∃ t, Ev (fun k => laws_szInstrS.f k l 1048576) t ∧ (¬ t < 0 → l.length ≤ 1048576) := by
  have hw : wrap64 (1048576 - (l.length : Int)) = 1048576 - (l.length : Int) := w64 (by omega) (by omega)
  unfold laws_szInstrS.f
  rw [hw]
  by_cases h : 1048576 - (l.length : Int) < 0
  · exact ⟨-1, Ev.ite_pos h (Ev.now _), fun h => absurd (by decide) h⟩
  · obtain ⟨t, hE⟩ := szLoop l hl ht l.length 0 (1048576 - (l.length : Int)) (by omega) (by omega) (by omega)
    exact ⟨t, Ev.ite_neg h hE, fun _ => by omega⟩

def conv (x : S36) : S37 := ⟨x.f0, x.f1, x.f2⟩
theorem toInstrs (l : List S36) (hl : l.length ≤ 1048576) : Ev (fun k => laws_toInstrS.f k l) (l.map conv) := by
  unfold laws_toInstrS.f
  refine Ev.ite_pos (by omega) (Ev.ite_pos (by omega) ?_)
  rw [Int.toNat_natCast]
  have h := ev_fill (fun k acc i => laws_toInstrS.l0 k l acc i) l.length (fun i => conv (l.getD i z36)) (fun k acc i hi hacc => by
    simp only [laws_toInstrS.l0, laws_toInstr.f, Option.bind_some]
    rw [if_pos (by omega), if_pos (by omega), if_pos (by omega), rd36, Int.toNat_natCast, next i l.length hi (by omega)]; rfl) (fun k acc hacc => by
    simp only [laws_toInstrS.l0]; rw [if_neg (by omega)]) l.length 0 (List.replicate l.length z37) (by omega) (by simp)
  refine Ev.of_eq h ?_
  rw [List.take_zero, List.nil_append]
  have e : (List.range l.length).map (fun j => conv (l.getD (0 + j) z36)) = ((List.range l.length).map (fun j => l.getD j z36)).map conv := by
    rw [List.map_map]; congr 1; funext j; show conv (l.getD (0 + j) z36) = conv (l.getD j z36); rw [Nat.zero_add]
  rw [e, range_getD]
theorem eqInstrs (l : List S37) (hl : l.length ≤ 9223372036854775807) : Ev (fun k => laws_eqInstrS.f k l l) true := by
  unfold laws_eqInstrS.f
  refine Ev.ite_pos rfl ?_
  have h := ev_all (fun k i => laws_eqInstrS.l0 k l l i) l.length (fun _ => true) (fun k i hi => by
    simp only [laws_eqInstrS.l0, laws_eqInstr.f]
    rw [if_pos (by omega), if_pos (by omega), if_pos (by omega), if_pos trivial, if_pos trivial, if_pos trivial, next i l.length hi hl]
    rfl) (fun k => by simp only [laws_eqInstrS.l0]; rw [if_neg (by omega)]) l.length 0 (by omega)
  exact Ev.of_eq h (by simp)

theorem index_one (b : UInt8) : ∀ (l : List UInt8), 0 ≤ Lib.index l [b] ↔ b ∈ l
  | [] => by simp [Lib.index]
  | c :: l => by
    have ih := index_one b l
    have hm : Lib.index l [b] = -1 ∨ 0 ≤ Lib.index l [b] := by
      clear ih
      induction l with
      | nil => left; simp [Lib.index]
      | cons x l ih =>
        unfold Lib.index
        split
        · right; omega
        · split
          · left; rfl
          · rename_i h1 h2
            have : ¬ Lib.index l [b] = -1 := by simpa using h2
            right; omega
    unfold Lib.index
    by_cases hc : b = c
    · subst hc; simp [List.isPrefixOf]
    · have hp : ([b].isPrefixOf (c :: l)) = false := by simp [List.isPrefixOf, hc]
      rw [hp]
      simp only [Bool.false_eq_true, if_false, List.mem_cons, hc, false_or]
      rcases hm with h | h
      · rw [h]; simp; rw [← ih, h]; omega
      · have : ¬ Lib.index l [b] = -1 := by omega
        rw [if_neg (by simpa using this), ← ih]; omega
theorem contains_ten (l : List UInt8) : Lib.contains l [10] = decide ((10 : UInt8) ∈ l) := by
  unfold Lib.contains
  exact decide_eq_decide.mpr (index_one 10 l)
end Go.Proofs.YtlkgimnafnmgpaaDoor.CodeL

namespace Go.Proofs.YtlkgimnafnmgpaaDoor.CodeL
open Go.RowKit Go.Proofs.YtlkgimnafnmgpaaDoor.G Go.Proofs.YtlkgimnafnmgpaaDoor.EvL Go.Proofs.YtlkgimnafnmgpaaDoorW.PrintWords Go.Proofs.YtlkgimnafnmgpaaDoorW.PrintLast
set_option linter.unusedVariables false
set_option linter.unusedSimpArgs false

theorem digit_all : ∀ i : Fin 10, strOfNums (([(wrap64 (48 + (i.val : Int))) % 256] : List Int)) = ⟨([UInt8.ofNat (48 + i.val)] : List UInt8).toArray⟩ := by decide +kernel
theorem digit (n : Int) (h0 : 0 ≤ n) (h1 : n < 10) : strOfNums (([(wrap64 (48 + n)) % 256] : List Int)) = ⟨([UInt8.ofNat (48 + n.toNat)] : List UInt8).toArray⟩ := by
  have h := digit_all ⟨n.toNat, by omega⟩
  have e : (((⟨n.toNat, by omega⟩ : Fin 10).val : Nat) : Int) = n := by show ((n.toNat : Nat) : Int) = n; omega
  rw [e] at h
  exact h
theorem low_ev (n : Int) (h0 : 0 ≤ n) (h1 : n < 10) : Ev (fun k => spec_l1Num.f k n) ⟨(Lib.decDigits n.toNat).toArray⟩ := by
  refine Ev.step (f := fun _ => some ⟨(Lib.decDigits n.toNat).toArray⟩) (fun k => ?_) (Ev.now _)
  simp only [spec_l1Num.f]
  rw [if_neg (by omega), if_pos h1, digit n h0 h1, Lib.decDigits_one (by omega)]
theorem up_ev (n : Int) (h0 : 10 ≤ n) (h1 : n ≤ 100000) (hl : (Lib.decDigits (n / 10).toNat).length ≤ 100) (h : Ev (fun k => spec_l1Num.f k (n / 10)) ⟨(Lib.decDigits (n / 10).toNat).toArray⟩) : Ev (fun k => spec_l1Num.f k n) ⟨(Lib.decDigits n.toNat).toArray⟩ := by
  have e : Int.tdiv n 10 = n / 10 := Int.tdiv_eq_ediv_of_nonneg (by omega)
  have e2 : wrap64 (Int.tdiv n 10) = n / 10 := by rw [e]; exact w64 (by omega) (by omega)
  have e3 : Int.tmod n 10 = n % 10 := Int.tmod_eq_emod_of_nonneg (by omega)
  have e4 := digit (n % 10) (by omega) (by omega)
  have e5 : Lib.decDigits n.toNat = Lib.decDigits (n / 10).toNat ++ [UInt8.ofNat (48 + (n % 10).toNat)] := by
    rw [Lib.decDigits, dif_neg (by omega), show n.toNat / 10 = (n / 10).toNat by omega, show n.toNat % 10 = (n % 10).toNat by omega]
  refine Ev.step (f := fun k => (spec_l1Num.f k (n / 10)).bind fun t105 => (if t105.size + (⟨([UInt8.ofNat (48 + (n % 10).toNat)] : List UInt8).toArray⟩ : ByteArray).size ≤ 9223372036854775807 then (some (t105 ++ (⟨([UInt8.ofNat (48 + (n % 10).toNat)] : List UInt8).toArray⟩ : ByteArray))) else (none))) (fun k => ?_) (Ev.bind h (Ev.ite_pos ?_ (Ev.of_eq (Ev.now _) ?_)))
  · simp only [spec_l1Num.f]
    rw [if_neg (by omega), if_neg (by omega), e2, e3]
    simp only [Option.bind_some, e4]
  · show (Lib.decDigits (n / 10).toNat).toArray.size + 1 ≤ _
    simp; omega
  · rw [e5]
    apply ByteArray.ext
    simp
theorem num_ev : ∀ (m : Nat) (n : Int), 0 ≤ n → n < 10 ^ (m + 1) → n ≤ 100000 → m ≤ 20 → Ev (fun k => spec_l1Num.f k n) ⟨(Lib.decDigits n.toNat).toArray⟩ ∧ (Lib.decDigits n.toNat).length ≤ m + 1 := by
  intro m
  induction m with
  | zero =>
    intro n h0 h1 h2 hm
    have h1' : n < 10 := by simpa using h1
    exact ⟨low_ev n h0 h1', by rw [Lib.decDigits_one (by omega)]; simp⟩
  | succ m ih =>
    intro n h0 h1 h2 hm
    by_cases c : n < 10
    · exact ⟨low_ev n h0 c, by rw [Lib.decDigits_one (by omega)]; simp⟩
    · have hp : (10 : Int) ^ (m + 1 + 1) = 10 ^ (m + 1) * 10 := Int.pow_succ ..
      obtain ⟨hE, hl⟩ := ih (n / 10) (by omega) (by rw [hp] at h1; omega) (by omega) (by omega)
      refine ⟨up_ev n (by omega) h2 (by omega) hE, ?_⟩
      rw [Lib.decDigits, dif_neg (by omega), show n.toNat / 10 = (n / 10).toNat by omega]
      simp; omega
theorem num (n : Int) (h0 : 0 ≤ n) (h1 : n ≤ 100000) : Ev (fun k => spec_l1Num.f k n) ⟨(Lib.decDigits n.toNat).toArray⟩ ∧ (Lib.decDigits n.toNat).length ≤ 6 :=
  num_ev 5 n h0 (by have : (10 : Int) ^ (5 + 1) = 1000000 := by decide
                    omega) h1 (by decide)

theorem cutLoop (s : ByteArray) (hs : s.size ≤ 9223372036854775807) : ∀ (d i : Nat), i + d = s.size → ∃ a b, Ev (fun k => spec_l2Cut.l0 k s 10 i) (a, b, decide ((10 : UInt8) ∈ s.data.toList.drop i)) := by
  intro d
  have hlen : s.data.toList.length = s.size := by rw [Array.length_toList]; rfl
  induction d with
  | zero =>
    intro i hi
    refine ⟨s, ⟨#[]⟩, Ev.step (f := fun _ => some (s, (⟨#[]⟩ : ByteArray), false)) (fun k => ?_) (Ev.of_eq (Ev.now _) ?_)⟩
    · simp only [spec_l2Cut.l0]; rw [if_neg (by omega)]
    · rw [List.drop_eq_nil_of_le (by omega)]; simp
  | succ d ih =>
    intro i hi
    have hlt : i < s.size := by omega
    have hdrop : s.data.toList.drop i = s[i] :: s.data.toList.drop (i + 1) := by
      rw [List.drop_eq_getElem_cons (by omega)]
      rfl
    have hb : bt s (i : Int) = ((s[i]).toNat : Int) := by rw [← bt_at s i (by rw [Int.toNat_natCast]; exact hlt)]; rfl
    by_cases c : s[i] = 10
    · have hbt : bt s (i : Int) = 10 := by rw [hb, c]; rfl
      refine ⟨s.extract 0 i, s.extract (i + 1) s.size, Ev.step (f := fun _ => some (s.extract 0 i, s.extract (i + 1) s.size, true)) (fun k => ?_) (Ev.of_eq (Ev.now _) ?_)⟩
      · simp only [spec_l2Cut.l0]
        rw [if_pos (by omega), if_pos (by omega), if_pos hbt, if_pos (by omega), next i s.size hlt hs, if_pos (by omega), if_pos (by omega), Int.toNat_natCast, Int.toNat_natCast]
      · rw [hdrop, c]; simp
    · have hbt : ¬ bt s (i : Int) = 10 := by
        rw [hb]
        intro e
        exact c (UInt8.toNat_inj.mp (by show (s[i]).toNat = 10; omega))
      obtain ⟨a, b, hE⟩ := ih (i + 1) (by omega)
      refine ⟨a, b, Ev.step (f := fun k => spec_l2Cut.l0 k s 10 ((i + 1 : Nat) : Int)) (fun k => ?_) (Ev.of_eq hE ?_)⟩
      · simp only [spec_l2Cut.l0]
        rw [if_pos (by omega), if_pos (by omega), if_neg hbt, next i s.size hlt hs]
      · rw [hdrop]
        have : ¬ (10 : UInt8) = s[i] := fun e => c e.symm
        simp [this]
theorem cut_ev (s : ByteArray) (hs : s.size ≤ 9223372036854775807) : ∃ a b, Ev (fun k => spec_l2Cut.f k s 10) (a, b, Lib.contains s.data.toList [10]) := by
  obtain ⟨a, b, h⟩ := cutLoop s hs s.size 0 (by omega)
  exact ⟨a, b, by rw [contains_ten]; exact h⟩
theorem l1In_eq (a b c : Int) : spec_l1In.f a b c = some (decide (b ≤ a ∧ a ≤ c)) := by
  unfold spec_l1In.f
  by_cases h : a ≥ b
  · rw [if_pos h]; congr 1; exact decide_eq_decide.mpr ⟨fun h2 => ⟨h, h2⟩, fun h2 => h2.2⟩
  · rw [if_neg h, decide_eq_false (fun h2 => h h2.1)]
end Go.Proofs.YtlkgimnafnmgpaaDoor.CodeL

namespace Go.Proofs.YtlkgimnafnmgpaaDoor.CodeL
open Go.RowKit Go.Proofs.YtlkgimnafnmgpaaDoor.G Go.Proofs.YtlkgimnafnmgpaaDoor.EvL Go.Proofs.YtlkgimnafnmgpaaDoorW.PrintWords Go.Proofs.YtlkgimnafnmgpaaDoorW.PrintLast
set_option linter.unusedVariables false
set_option linter.unusedSimpArgs false

theorem ok_of {x : S37} (h : Ins.okI x = true) : 1 ≤ x.f0 ∧ x.f0 ≤ 13 ∧ 0 ≤ x.f1 ∧ x.f1 ≤ 100000 ∧ x.f2.size ≤ 1500 ∧ Lib.contains x.f2.data.toList [10] = false := by
  unfold Ins.okI at h
  simp only [Bool.and_eq_true, decide_eq_true_eq, Bool.not_eq_true'] at h
  obtain ⟨⟨⟨⟨⟨h1, h2⟩, h3⟩, h4⟩, h5⟩, h6⟩ := h
  exact ⟨h1, h2, h3, h4, h5, h6⟩
def dec (n : Int) : ByteArray := ⟨(Lib.decDigits n.toNat).toArray⟩
theorem dec_size (n : Int) (h0 : 0 ≤ n) (h1 : n ≤ 100000) : (dec n).size ≤ 6 := by
  have h := (num n h0 h1).2
  show (Lib.decDigits n.toNat).toArray.size ≤ 6
  simpa using h

theorem l6_step (K : Nat) (acc : ByteArray) (l : List S37) (i : Nat) (c1 : (i : Int) < (l.length : Int)) (a b L : ByteArray)
    (h0 : spec_l1Num.f K (rd_T37 l i).f0 = some a) (h1 : spec_l1Num.f K (rd_T37 l i).f1 = some b)
    (s1 : a.size + 1 ≤ 9223372036854775807) (s2 : (a ++ (⟨#[32]⟩ : ByteArray)).size + b.size ≤ 9223372036854775807)
    (s3 : ((a ++ (⟨#[32]⟩ : ByteArray)) ++ b).size + 1 ≤ 9223372036854775807)
    (s4 : (((a ++ (⟨#[32]⟩ : ByteArray)) ++ b) ++ (⟨#[32]⟩ : ByteArray)).size + ((rd_T37 l i).f2).size ≤ 9223372036854775807)
    (s5 : ((((a ++ (⟨#[32]⟩ : ByteArray)) ++ b) ++ (⟨#[32]⟩ : ByteArray)) ++ ((rd_T37 l i).f2)).size + 1 ≤ 9223372036854775807)
    (hL : (((((a ++ (⟨#[32]⟩ : ByteArray)) ++ b) ++ (⟨#[32]⟩ : ByteArray)) ++ ((rd_T37 l i).f2)) ++ (⟨#[10]⟩ : ByteArray)) = L)
    (s6 : acc.size + L.size ≤ 9223372036854775807) (hn : wrap64 ((i : Int) + 1) = ((i + 1 : Nat) : Int)) (z0 : 0 ≤ (i : Int)) :
    spec_l6Text.l0 (K + 1) acc l (l.length : Int) i = spec_l6Text.l0 K (acc ++ L) l (l.length : Int) ((i + 1 : Nat) : Int) := by
  subst hL
  rw [spec_l6Text.l0, if_pos c1, if_pos z0, if_pos c1, h0, Option.bind_some, if_pos s1, h1, Option.bind_some, if_pos s2, if_pos s3, if_pos s4, if_pos s5, if_pos s6, hn]
theorem ct_step (K : Nat) (acc : ByteArray) (l : List S37) (i : Nat) (c1 : (i : Int) < (l.length : Int)) (a b L : ByteArray)
    (h0 : strconv_Itoa_23.f (rd_T37 l i).f0 = some a) (h1 : strconv_Itoa_23.f (rd_T37 l i).f1 = some b)
    (s1 : a.size + 1 ≤ 9223372036854775807) (s2 : (a ++ (⟨#[32]⟩ : ByteArray)).size + b.size ≤ 9223372036854775807)
    (s3 : ((a ++ (⟨#[32]⟩ : ByteArray)) ++ b).size + 1 ≤ 9223372036854775807)
    (s4 : (((a ++ (⟨#[32]⟩ : ByteArray)) ++ b) ++ (⟨#[32]⟩ : ByteArray)).size + ((rd_T37 l i).f2).size ≤ 9223372036854775807)
    (s5 : ((((a ++ (⟨#[32]⟩ : ByteArray)) ++ b) ++ (⟨#[32]⟩ : ByteArray)) ++ ((rd_T37 l i).f2)).size + 1 ≤ 9223372036854775807)
    (hL : (((((a ++ (⟨#[32]⟩ : ByteArray)) ++ b) ++ (⟨#[32]⟩ : ByteArray)) ++ ((rd_T37 l i).f2)) ++ (⟨#[10]⟩ : ByteArray)) = L)
    (hW : strings_Builder_WriteString.f acc L = some (acc ++ L)) (hn : wrap64 ((i : Int) + 1) = ((i + 1 : Nat) : Int)) (z0 : 0 ≤ (i : Int)) :
    impl_CodeText.l0 (K + 1) acc l (l.length : Int) i = impl_CodeText.l0 K (acc ++ L) l (l.length : Int) ((i + 1 : Nat) : Int) := by
  subst hL
  rw [impl_CodeText.l0, if_pos c1, if_pos z0, if_pos c1, h0, Option.bind_some, if_pos s1, h1, Option.bind_some, if_pos s2, if_pos s3, if_pos s4, if_pos s5, hW, Option.bind_some, hn]
theorem lineSize (a b c : ByteArray) (ha : a.size ≤ 6) (hb : b.size ≤ 6) (hc : c.size ≤ 1500) :
    a.size + 1 ≤ 9223372036854775807 ∧ (a ++ (⟨#[32]⟩ : ByteArray)).size + b.size ≤ 9223372036854775807 ∧ ((a ++ (⟨#[32]⟩ : ByteArray)) ++ b).size + 1 ≤ 9223372036854775807 ∧
    (((a ++ (⟨#[32]⟩ : ByteArray)) ++ b) ++ (⟨#[32]⟩ : ByteArray)).size + c.size ≤ 9223372036854775807 ∧
    ((((a ++ (⟨#[32]⟩ : ByteArray)) ++ b) ++ (⟨#[32]⟩ : ByteArray)) ++ c).size + 1 ≤ 9223372036854775807 ∧
    (((((a ++ (⟨#[32]⟩ : ByteArray)) ++ b) ++ (⟨#[32]⟩ : ByteArray)) ++ c) ++ (⟨#[10]⟩ : ByteArray)).size ≤ 1600 := by
  have e1 : (⟨#[32]⟩ : ByteArray).size = 1 := rfl
  have e2 : (⟨#[10]⟩ : ByteArray).size = 1 := rfl
  simp only [ByteArray.size_append, e1, e2]
  generalize a.size = x at *
  generalize b.size = y at *
  generalize c.size = z at *
  clear e1 e2
  omega
theorem bothLoop (l : List S37) (hl : l.length ≤ 3000) (hok : ∀ x ∈ l, Ins.okI x = true) : ∀ (d i : Nat) (acc : ByteArray), i + d = l.length → acc.size ≤ 1600 * i → ∃ s : ByteArray, Ev (fun k => spec_l6Text.l0 k acc l (l.length : Int) i) s ∧ Ev (fun k => impl_CodeText.l0 k acc l (l.length : Int) i) (s, true) := by
  intro d
  induction d with
  | zero =>
    intro i acc hi ha
    have hge : ¬ (i : Int) < (l.length : Int) := by omega
    refine ⟨acc, Ev.step (f := fun _ => some acc) (fun k => ?_) (Ev.now _), Ev.step (f := fun _ => some (acc, true)) (fun k => ?_) (Ev.now _)⟩
    · rw [spec_l6Text.l0, if_neg hge]
    · rw [impl_CodeText.l0, if_neg hge]; rfl
  | succ d ih =>
    intro i acc hi ha
    have c0 : i < l.length := by omega
    have c1 : (i : Int) < (l.length : Int) := by omega
    have z0 : 0 ≤ (i : Int) := by omega
    have hn := next i l.length c0 (by omega)
    have hx := ok_of (hok _ (mem_getD l z37 i c0))
    rw [← rd37] at hx
    obtain ⟨h1, h2, h3, h4, h5, _⟩ := hx
    have g0 : 0 ≤ (rd_T37 l i).f0 := by omega
    have g1 : (rd_T37 l i).f0 ≤ 100000 := by omega
    have g2 : 0 ≤ (rd_T37 l i).f0 ∧ (rd_T37 l i).f0 ≤ 9223372036854775807 := ⟨g0, by omega⟩
    have g3 : 0 ≤ (rd_T37 l i).f1 ∧ (rd_T37 l i).f1 ≤ 9223372036854775807 := ⟨h3, by omega⟩
    have n0 := (num (rd_T37 l i).f0 g0 g1).1
    have n1 := (num (rd_T37 l i).f1 h3 h4).1
    have i0 : strconv_Itoa_23.f (rd_T37 l i).f0 = some (dec (rd_T37 l i).f0) := if_pos g2
    have i1 : strconv_Itoa_23.f (rd_T37 l i).f1 = some (dec (rd_T37 l i).f1) := if_pos g3
    obtain ⟨s1, s2, s3, s4, s5, sL⟩ := lineSize _ _ _ (dec_size (rd_T37 l i).f0 g0 g1) (dec_size (rd_T37 l i).f1 h3 h4) h5
    generalize hL : (((((dec (rd_T37 l i).f0 ++ (⟨#[32]⟩ : ByteArray)) ++ dec (rd_T37 l i).f1) ++ (⟨#[32]⟩ : ByteArray)) ++ (rd_T37 l i).f2) ++ (⟨#[10]⟩ : ByteArray)) = L at sL
    have s67 : acc.size + L.size ≤ 1600 * (i + 1) := by clear s1 s2 s3 s4 s5 hL i0 i1 n0 n1; omega
    have s6 : acc.size + L.size ≤ 9223372036854775807 := by clear s1 s2 s3 s4 s5 hL i0 i1 n0 n1; omega
    have s7 : acc.size + L.size ≤ 140737488355328 := by clear s1 s2 s3 s4 s5 hL i0 i1 n0 n1; omega
    have hW : strings_Builder_WriteString.f acc L = some (acc ++ L) := if_pos s7
    have hi2 : i + 1 + d = l.length := by clear s1 s2 s3 s4 s5 hL i0 i1 n0 n1; omega
    obtain ⟨s, ⟨K2, hS⟩, ⟨K3, hI⟩⟩ := ih (i + 1) (acc ++ L) hi2 (by rw [ByteArray.size_append]; exact s67)
    obtain ⟨K0, h0⟩ := n0
    obtain ⟨K1, h1⟩ := n1
    refine ⟨s, ⟨K0 + K1 + K2 + 1, fun k hk => ?_⟩, ⟨K3 + 1, fun k hk => ?_⟩⟩
    · obtain ⟨k, rfl⟩ : ∃ k', k = k' + 1 := ⟨k - 1, by clear s1 s2 s3 s4 s5 hL i0 i1; omega⟩
      have b0 : K0 ≤ k := by clear s1 s2 s3 s4 s5 hL i0 i1; omega
      have b1 : K1 ≤ k := by clear s1 s2 s3 s4 s5 hL i0 i1; omega
      have b2 : K2 ≤ k := by clear s1 s2 s3 s4 s5 hL i0 i1; omega
      exact (l6_step k acc l i c1 _ _ L (h0 k b0) (h1 k b1) s1 s2 s3 s4 s5 hL s6 hn z0).trans (hS k b2)
    · obtain ⟨k, rfl⟩ : ∃ k', k = k' + 1 := ⟨k - 1, by clear s1 s2 s3 s4 s5 hL i0 i1; omega⟩
      have b2 : K3 ≤ k := by clear s1 s2 s3 s4 s5 hL i0 i1; omega
      exact (ct_step k acc l i c1 _ _ L i0 i1 s1 s2 s3 s4 s5 hL hW hn z0).trans (hI k b2)

section
variable (l : List S37) (hl : l.length ≤ 3000) (ht : ∀ x ∈ l, x.f2.size ≤ 9223372036854775807)
include hl ht
theorem stepOk (i : Nat) (hi : i < l.length) (hok : Ins.okI (l.getD i z37) = true) {r : ByteArray × Bool} (h : Ev (fun k => spec_CodeText.l0 k l l (l.length : Int) ((i + 1 : Nat) : Int)) r) : Ev (fun k => spec_CodeText.l0 k l l (l.length : Int) i) r := by
  obtain ⟨h1, h2, h3, h4, h5, h6⟩ := ok_of hok
  obtain ⟨a, b, hc⟩ := cut_ev (l.getD i z37).f2 (ht _ (mem_getD l z37 i hi))
  rw [h6] at hc
  refine Ev.succ ?_
  simp only [spec_CodeText.l0, rd37, l1In_eq, next i l.length hi (by omega)]
  exact Ev.ite_pos (by omega) (Ev.ite_pos (by omega) (Ev.ite_pos (by omega) (Ev.bind hc (Ev.ite_neg (by simp) (Ev.bind (Ev.now _) (Ev.ite_pos (decide_eq_true ⟨h1, h2⟩) (Ev.bind (Ev.now _) (Ev.ite_pos (decide_eq_true ⟨h3, h4⟩) (Ev.ite_neg (by omega) h)))))))))
omit hl in
theorem stepBad (i : Nat) (hi : i < l.length) (hok : Ins.okI (l.getD i z37) = false) : Ev (fun k => spec_CodeText.l0 k l l (l.length : Int) i) ((⟨#[]⟩ : ByteArray), false) := by
  obtain ⟨a, b, hc⟩ := cut_ev (l.getD i z37).f2 (ht _ (mem_getD l z37 i hi))
  refine Ev.succ ?_
  simp only [spec_CodeText.l0, rd37, l1In_eq]
  refine Ev.ite_pos (by omega) (Ev.ite_pos (by omega) (Ev.ite_pos (by omega) (Ev.bind hc ?_)))
  by_cases c6 : Lib.contains (l.getD i z37).f2.data.toList [10] = true
  · exact Ev.ite_pos c6 (Ev.now _)
  refine Ev.ite_neg c6 (Ev.bind (Ev.now _) ?_)
  by_cases c1 : 1 ≤ (l.getD i z37).f0 ∧ (l.getD i z37).f0 ≤ 13
  case neg => exact Ev.ite_neg (by rw [decide_eq_false c1]; decide) (Ev.now _)
  refine Ev.ite_pos (decide_eq_true c1) (Ev.bind (Ev.now _) ?_)
  by_cases c2 : 0 ≤ (l.getD i z37).f1 ∧ (l.getD i z37).f1 ≤ 100000
  case neg => exact Ev.ite_neg (by rw [decide_eq_false c2]; decide) (Ev.now _)
  refine Ev.ite_pos (decide_eq_true c2) ?_
  by_cases c3 : (((l.getD i z37).f2).size : Int) > 1500
  · exact Ev.ite_pos c3 (Ev.now _)
  · exfalso
    have : Ins.okI (l.getD i z37) = true := by
      unfold Ins.okI
      simp only [Bool.and_eq_true, decide_eq_true_eq, Bool.not_eq_true']
      exact ⟨⟨⟨⟨⟨c1.1, c1.2⟩, c2.1⟩, c2.2⟩, by omega⟩, Bool.eq_false_iff.mpr c6⟩
    rw [this] at hok; cases hok
theorem goodLoop (hok : ∀ x ∈ l, Ins.okI x = true) {s : ByteArray} (hs : Ev (fun k => spec_l6Text.f k l) s) : ∀ (d i : Nat), i + d = l.length → Ev (fun k => spec_CodeText.l0 k l l (l.length : Int) i) (s, true) := by
  intro d
  induction d with
  | zero =>
    intro i hi
    refine Ev.succ ?_
    simp only [spec_CodeText.l0]
    exact Ev.ite_neg (by omega) (Ev.bind hs (Ev.now _))
  | succ d ih => intro i hi; exact stepOk l hl ht i (by omega) (hok _ (mem_getD l z37 i (by omega))) (ih (i + 1) (by omega))
theorem badLoop : ∀ (d i : Nat), i + d = l.length → (∃ j, i ≤ j ∧ j < l.length ∧ Ins.okI (l.getD j z37) = false) → Ev (fun k => spec_CodeText.l0 k l l (l.length : Int) i) ((⟨#[]⟩ : ByteArray), false) := by
  intro d
  induction d with
  | zero => intro i hi ⟨j, h1, h2, _⟩; omega
  | succ d ih =>
    intro i hi ⟨j, h1, h2, h3⟩
    by_cases c : Ins.okI (l.getD i z37) = true
    · refine stepOk l hl ht i (by omega) c (ih (i + 1) (by omega) ⟨j, ?_, h2, h3⟩)
      rcases Nat.lt_or_ge i j with h | h
      · exact h
      · obtain rfl : i = j := by omega
        rw [c] at h3; cases h3
    · exact stepBad l ht i (by omega) (by simpa using c)
end

theorem codeBoth (l : List S37) (hl : l.length ≤ 1048576) (ht : ∀ x ∈ l, x.f2.size ≤ 9223372036854775807) : ∃ (s : ByteArray) (b : Bool), Ev (fun k => spec_CodeText.f k l) (s, b) ∧ Ev (fun k => impl_CodeText.f k l) (s, b) := by
  unfold spec_CodeText.f impl_CodeText.f impl_Instr_19.f
  have ibad : Ev (fun k => impl_CodeText.j0 k l true) ((⟨#[]⟩ : ByteArray), false) := Ev.succ (by simp only [impl_CodeText.j0]; exact Ev.ite_pos trivial (Ev.now _))
  by_cases h : (l.length : Int) > 3000
  · exact ⟨⟨#[]⟩, false, Ev.ite_pos h (Ev.now _), Ev.ite_pos h ibad⟩
  have hl3 : l.length ≤ 3000 := by omega
  by_cases hb : (l.any fun x => !Ins.okI x) = true
  · refine ⟨⟨#[]⟩, false, Ev.ite_neg h ?_, Ev.ite_neg h (Ev.bind (Ev.now _) (by rw [hb]; exact ibad))⟩
    rw [List.any_eq_true] at hb
    obtain ⟨x, hx, hxb⟩ := hb
    obtain ⟨j, hj, he⟩ := List.getElem_of_mem hx
    refine badLoop l hl3 ht l.length 0 (by omega) ⟨j, by omega, hj, ?_⟩
    rw [List.getD_eq_getElem?_getD, List.getElem?_eq_getElem hj, Option.getD_some, he]
    simpa using hxb
  · have hbf := Bool.eq_false_iff.mpr hb
    have hok : ∀ x ∈ l, Ins.okI x = true := fun x hx => by
      cases hc : Ins.okI x with
      | true => rfl
      | false => exact absurd (List.any_eq_true.mpr ⟨x, hx, by rw [hc]; rfl⟩) hb
    obtain ⟨s, hS, hI⟩ := bothLoop l hl3 hok l.length 0 (⟨#[]⟩ : ByteArray) (by omega) (by show (0 : Nat) ≤ _; omega)
    refine ⟨s, true, Ev.ite_neg h (goodLoop l hl3 ht hok hS l.length 0 (by omega)), Ev.ite_neg h (Ev.bind (Ev.now _) ?_)⟩
    rw [hbf]
    refine Ev.succ ?_
    simp only [impl_CodeText.j0]
    exact Ev.ite_neg (by simp) hI
end Go.Proofs.YtlkgimnafnmgpaaDoor.CodeL
namespace Go.Proofs.YtlkgimnafnmgpaaDoor.Pure
open Go.RowKit Go.Proofs.YtlkgimnafnmgpaaDoor.G Go.Proofs.YtlkgimnafnmgpaaDoor.EvL Go.Proofs.YtlkgimnafnmgpaaDoor.CodeL Go.Proofs.YtlkgimnafnmgpaaDoorW.PrintWords Go.Proofs.YtlkgimnafnmgpaaDoorW.PrintLast
theorem FnExactCodeText : laws_FnExactCodeText.Pure := by
  intro l hl
  have hts : ∀ x ∈ l, x.f2.size ≤ 9223372036854775807 := fun x hx => (hl.2 x hx).2.2
  obtain ⟨t, ht, hs⟩ := sizes l hl.1 hts
  refine Ev.rounds ?_
  unfold laws_FnExactCodeText.f
  refine Ev.bind ht ?_
  by_cases h : t < 0
  · exact Ev.ite_pos h (Ev.now _)
  have hl1 := hs h
  have th := toInstrs l hl1
  have hts2 : ∀ x ∈ l.map conv, x.f2.size ≤ 9223372036854775807 := fun x hx => by
    obtain ⟨y, hy, rfl⟩ := List.mem_map.mp hx
    exact hts y hy
  obtain ⟨s, b, e1, e2⟩ := codeBoth (l.map conv) (by rw [List.length_map]; omega) hts2
  have hfl : (b != b) = false := by simp
  refine Ev.ite_neg h (Ev.bind th (Ev.bind e1 (Ev.bind th (Ev.bind e2 (Ev.ite_pos rfl (Ev.succ ?_))))))
  simp only [laws_FnExactCodeText.j0]
  refine Ev.ite_neg (by rw [hfl]; decide) (Ev.bind th (Ev.bind (eqInstrs _ (by rw [List.length_map]; omega)) (Ev.ite_pos rfl (Ev.now _))))
end Go.Proofs.YtlkgimnafnmgpaaDoor.Pure

namespace Go.Proofs.YtlkgimnafnmgpaaDoor.Open
open Go.RowKit Go.Proofs.YtlkgimnafnmgpaaDoorW.PrintWords
open Go.WideShapes
set_option linter.unusedVariables false

def Opens {α : Type} (H : Type) (enc : TypeId × Value → H) (P : Program) (t : TypeId) (d : Kd α) (good : α → Prop) : Prop :=
  ∀ (w : World) (base : Nat) (spare : Nat → Bool) (held : Bool) (fuel : Nat) (cs : List Value) (x : DataW H × List MemPlace),
    DataW.trod enc P w base spare held fuel t cs = some x → ∃ v, d.K w v cs ∧ good v

section
variable {H : Type} {enc : TypeId × Value → H} {P : Program}

theorem opens_int {t : TypeId} {k : IntKind} (ht : P.underlying t = some (.int k)) : Opens H enc P t (Kd.int k) (fun n => (Lit.int k n).wf = true) := by
  intro w base spare held fuel cs x h
  obtain ⟨n, rfl, _, hw⟩ := DataW.trod_int ht h
  exact ⟨n, rfl, hw⟩

theorem opens_string {t : TypeId} (ht : P.underlying t = some .string) : Opens H enc P t Kd.string (fun s => s.size ≤ 9223372036854775807) := by
  intro w base spare held fuel cs x h
  obtain ⟨s, rfl, _, hs⟩ := DataW.trod_string ht h
  exact ⟨s, rfl, hs⟩

theorem choose_list {α : Type} (p : Nat → α → Prop) : ∀ n : Nat, (∀ i, i < n → ∃ a, p i a) → ∃ l : List α, l.length = n ∧ ∀ i a, l[i]? = some a → p i a
  | 0, _ => ⟨[], rfl, fun i a h => by simp at h⟩
  | n + 1, h => by
    obtain ⟨l, hl, hp⟩ := choose_list p n (fun i hi => h i (by omega))
    obtain ⟨a, ha⟩ := h n (by omega)
    refine ⟨l ++ [a], by simp [hl], fun i b hb => ?_⟩
    by_cases hi : i < n
    · exact hp i b (by rwa [List.getElem?_append_left (by omega)] at hb)
    · rw [List.getElem?_append_right (by omega)] at hb
      have : i - l.length = 0 := by
        by_cases h0 : i - l.length = 0
        · exact h0
        · rw [List.getElem?_eq_none (by simp; omega)] at hb; simp at hb
      rw [this] at hb
      obtain rfl : a = b := by simpa using hb
      obtain rfl : i = n := by omega
      exact ha

theorem opens_slice {α : Type} {t e : TypeId} {d : Kd α} {good : α → Prop} (ht : P.underlying t = some (.slice e)) (he : Opens H enc P e d good) (hc : P.cellsOf e = d.sz) :
    Opens H enc P t (Kd.slice e d) (fun l => l.length ≤ 9223372036854775807 ∧ ∀ x ∈ l, good x) := by
  intro w base spare held fuel cs x h
  rcases DataW.trod_slice ht h with ⟨rfl, _⟩ | ⟨a, len, cap, elems, rest, n, _, rfl, _, hb, hl, hm, hel, hg, _, _⟩
  · exact ⟨[], ⟨none, 0, rfl, Nat.le_refl _, ⟨rfl, by simp, fun h => by simp at h⟩⟩, by simp, by simp⟩
  · have hm' : cap ≤ 9223372036854775807 := hm
    have key : ∀ i, i < len → ∃ v : α, good v ∧ ∃ c : List Value, c.length = d.sz ∧ d.K w v c ∧ ∀ j u, c[j]? = some u → w.cell? (a.add (i * d.sz + j)) = some u := by
      intro i hi
      have hgi := hg i hi
      have hsome : ∃ y, elems[i]? = some y := ⟨elems[i]'(by omega), List.getElem?_eq_getElem (by omega)⟩
      obtain ⟨y, hy⟩ := hsome
      rw [hy] at hgi
      obtain ⟨c, hc1, hc2⟩ := Option.bind_eq_some_iff.mp hgi
      obtain ⟨v, hK, hgood⟩ := he w base spare held n c y hc2
      obtain ⟨_, hlen, hcell⟩ := World.cells?_some hc1
      refine ⟨v, hgood, c, d.K_len hK, hK, fun j u hu => ?_⟩
      have hj : j < c.length := by
        by_cases hj : j < c.length
        · exact hj
        · rw [List.getElem?_eq_none (by omega)] at hu; simp at hu
      have := hcell j (by omega)
      rw [Addr.add_add, hc, hu] at this
      exact this
    obtain ⟨l, hl0, hl1⟩ := choose_list (fun i v => good v ∧ ∃ c : List Value, c.length = d.sz ∧ d.K w v c ∧ ∀ j u, c[j]? = some u → w.cell? (a.add (i * d.sz + j)) = some u) len key
    refine ⟨l, ⟨some a, cap, by rw [hl0], by omega, ⟨rfl, by omega, fun _ => ⟨a, rfl, fun j p hp => (hl1 j p hp).2⟩⟩⟩, by omega, fun v hv => ?_⟩
    obtain ⟨i, hi⟩ := List.mem_iff_getElem?.mp hv
    exact (hl1 i v hi).1

def OpensF {α : Type} (H : Type) (enc : TypeId × Value → H) (P : Program) (fs : List Field) (off : Nat) (d : Kd α) (good : α → Prop) : Prop :=
  ∀ (w : World) (base : Nat) (spare : Nat → Bool) (held : Bool) (n : Nat) (cs : List Value), off + d.sz ≤ cs.length →
    (∀ f ∈ fs, ∃ y, DataW.trod enc P w base spare held n f.type ((cs.drop f.offset).take (P.cellsOf f.type)) = some y) → ∃ v, d.K w v ((cs.drop off).take d.sz) ∧ good v

theorem opensF_last {α : Type} {f : Field} {d : Kd α} {good : α → Prop} (h : Opens H enc P f.type d good) (hc : P.cellsOf f.type = d.sz) : OpensF H enc P [f] f.offset d good := by
  intro w base spare held n cs hl hf
  obtain ⟨y, hy⟩ := hf f (by simp)
  rw [hc] at hy
  exact h w base spare held n _ y hy

theorem opensF_cons {α β : Type} {f : Field} {fs : List Field} {d : Kd α} {e : Kd β} {g1 : α → Prop} {g2 : β → Prop} (h : Opens H enc P f.type d g1) (hc : P.cellsOf f.type = d.sz)
    (hs : OpensF H enc P fs (f.offset + d.sz) e g2) : OpensF H enc P (f :: fs) f.offset (Kd.pair d e) (fun x => g1 x.1 ∧ g2 x.2) := by
  intro w base spare held n cs hl hf
  have hl' : f.offset + (d.sz + e.sz) ≤ cs.length := hl
  obtain ⟨v, hv, hgv⟩ := opensF_last h hc w base spare held n cs (by omega) (fun f' hf' => hf f' (by simp at hf' ⊢; exact .inl hf'))
  obtain ⟨u, hu, hgu⟩ := hs w base spare held n cs (by omega) (fun f' hf' => hf f' (by simp; exact .inr hf'))
  refine ⟨(v, u), ⟨_, _, ?_, hv, hu⟩, hgv, hgu⟩
  show (cs.drop f.offset).take (d.sz + e.sz) = _
  rw [List.take_add, List.drop_drop]

theorem opens_struct {α β : Type} {t : TypeId} {fs : Array Field} {d : Kd α} {good : α → Prop} (f : β → α) (g : α → β) (hfg : ∀ x, f (g x) = x) (ht : P.underlying t = some (.struct fs))
    (hc : P.cellsOf t = d.sz) (h : OpensF H enc P fs.toList 0 d good) : Opens H enc P t (Kd.iso d f) (fun x => good (f x)) := by
  intro w base spare held fuel cs x hx
  obtain ⟨xs, n, _, _, hl, hxs, hf⟩ := DataW.trod_struct ht hx
  obtain ⟨v, hv, hg⟩ := h w base spare held n cs (by omega) (fun f' hf' => by
    obtain ⟨i, hi⟩ := List.mem_iff_getElem?.mp hf'
    have hlt : i < fs.size := by
      by_cases hlt : i < fs.size
      · exact hlt
      · rw [List.getElem?_eq_none (by simp; omega)] at hi; simp at hi
    refine ⟨xs[i]'(by omega), ?_⟩
    rw [hf i f' (by simpa using hi), List.getElem?_eq_getElem (by omega)])
  refine ⟨g v, ?_, by show good (f (g v)); rw [hfg]; exact hg⟩
  rw [List.drop_zero, List.take_of_length_le (by omega)] at hv
  show d.K w (f (g v)) cs
  rw [hfg]
  exact hv

theorem opens_imp {α : Type} {t : TypeId} {d : Kd α} {g1 g2 : α → Prop} (h : Opens H enc P t d g1) (hg : ∀ x, g1 x → g2 x) : Opens H enc P t d g2 := by
  intro w base spare held fuel cs x hx
  obtain ⟨v, h1, h2⟩ := h w base spare held fuel cs x hx
  exact ⟨v, h1, hg v h2⟩

theorem slice_in {α : Type} {t e : TypeId} {d : Kd α} {good : List α → Prop} (ht : P.underlying t = some (.slice e)) (hs : Opens H enc P t (Kd.slice e d) good) {W : World} {r : Reach} {b base : Nat} {spare : Nat → Bool} {held : Bool} {v : Value} {dd : DataW H} {p : List MemPlace}
    (hv : Value.okWide P W r b t v) (h : DataW.Trod enc P W base spare held t v dd p) : ∃ (A : Option Addr) (l : List α) (c : Nat), v = .slice A l.length c ∧ l.length ≤ c ∧ d.C W A l.length l ∧ good l := by
  obtain ⟨a, len, cap, rfl⟩ := okWide_slice ht hv
  obtain ⟨fuel, hf⟩ := h
  obtain ⟨l, ⟨A, c, hcs, hlc, hC⟩, hg⟩ := hs W base spare held fuel _ _ hf
  simp [Value.cells] at hcs
  obtain ⟨rfl, rfl, rfl⟩ := hcs
  exact ⟨a, l, cap, rfl, hlc, hC, hg⟩

end
end Go.Proofs.YtlkgimnafnmgpaaDoor.Open

namespace Go.Proofs
open Go.Shelf
def Tryd.laysM144_ren : Go.Shelf.Ren := ⟨fun | 144 => 33 | 143 => 41 | 219 => 44 | 217 => 56 | 225 => 57 | 224 => 58 | 267 => 59 | 266 => 71 | 314 => 72 | n => n, fun | 9 => 9 | 4 => 4 | 3 => 3 | 5 => 5 | 46 => 84 | 146 => 99 | 51 => 95 | n => n, fun | 1 => 0 | n => n⟩
theorem Tryd.laysM144 : Go.Proofs.LaysM.n144 Tryd.prog Tryd.laysM144_ren := {
 mixed := by kernel_rfl
 f143 := Tryd.func41.trans (congrArg some (by kernel_rfl))
 f144 := Tryd.func33.trans (congrArg some (by kernel_rfl))
 f217 := Tryd.func56.trans (congrArg some (by kernel_rfl))
 f219 := Tryd.func44.trans (congrArg some (by kernel_rfl))
 f224 := Tryd.func58.trans (congrArg some (by kernel_rfl))
 f225 := Tryd.func57.trans (congrArg some (by kernel_rfl))
 f266 := Tryd.func71.trans (congrArg some (by kernel_rfl))
 f267 := Tryd.func59.trans (congrArg some (by kernel_rfl))
 f314 := Tryd.func72.trans (congrArg some (by kernel_rfl))
 t3 := Tryd.underlying3
 a3 := Tryd.isAgg3
 z3 := Tryd.sizeOf3
 v3 := Tryd.zeroValue3
 t4 := Tryd.underlying4
 a4 := Tryd.isAgg4
 z4 := Tryd.sizeOf4
 v4 := Tryd.zeroValue4
 t5 := Tryd.underlying5
 a5 := Tryd.isAgg5
 z5 := Tryd.sizeOf5
 v5 := Tryd.zeroValue5
 t9 := Tryd.underlying9
 a9 := Tryd.isAgg9
 z9 := Tryd.sizeOf9
 v9 := Tryd.zeroValue9
 t46 := Tryd.underlying84
 a46 := Tryd.isAgg84
 z46 := Tryd.sizeOf84
 v46 := Tryd.zeroValue84
 t51 := Tryd.underlying95
 a51 := Tryd.isAgg95
 z51 := Tryd.sizeOf95
 v51 := Tryd.zeroValue95
 t146 := Tryd.underlying99
 a146 := Tryd.isAgg99
 z146 := Tryd.sizeOf99
 v146 := Tryd.zeroValue99
 g1 := by kernel_rfl
 i3 := by kernel_rfl
 i4 := by kernel_rfl
 i5 := by kernel_rfl
 i9 := by kernel_rfl
 i46 := by kernel_rfl
 i51 := by kernel_rfl
 i146 := by kernel_rfl
 m1 := by kernel_rfl
 s1_3 := fun w h => Go.Proofs.cell_of_shapedOpen_int (zero := #[.int .i64 0]) (t := 3) h (of_decide_eq_true (by kernel_rfl)) (by kernel_rfl) rfl (by kernel_rfl) (by kernel_rfl) Tryd.underlying3 }
end Go.Proofs
namespace Go.Proofs.YtlkgimnafnmgpaaDoor.fnExactCodeText
open Go.ChangeShapes Go.WideShapes Go.ChangeAt Go.RowKit Go.Proofs.YtlkgimnafnmgpaaDoor.Open Go.Proofs.YtlkgimnafnmgpaaDoor.G Go.Proofs.YtlkgimnafnmgpaaDoorW.PrintWords
open Go.ChangeMaps (open_string shut_string)
set_option linter.unusedVariables false
theorem own : ownKnob Tryd.prog.godebug = none := by kernel_rfl
theorem laidOut : laidOutB Tryd.prog = true := by kernel_rfl
section
variable {H : Type} {enc : TypeId × Value → H}
theorem openT36 : Opens H enc Tryd.prog 36 k36 (fun x => ((Lit.int .i64 x.f0).wf = true ∧ (Lit.int .i64 x.f1).wf = true ∧ x.f2.size ≤ 9223372036854775807)) :=
  opens_imp (opens_struct (fun x : S36 => (x.f0, x.f1, x.f2)) (fun y => (⟨y.1, y.2.1, y.2.2⟩ : S36)) (fun _ => rfl) Tryd.underlying36 (by kernel_rfl) (opensF_cons (opens_int Tryd.underlying3) (by kernel_rfl) (opensF_cons (opens_int Tryd.underlying3) (by kernel_rfl) (opensF_last (opens_string Tryd.underlying9) (by kernel_rfl))))) (fun x h => h)
end
theorem laidShaped {H : Type} {enc : TypeId × Value → H} {a : Assume} {C : Checked} {os : Os} {f : FuncId} {fn : Func} {s : ChangeSpec} {conds : List PathCond} {apart fresh handsOn again : Bool} {X : World → Array Value → Prop}
    (hX : ∀ (w w' : World) (args : Array Value), w.heap = w'.heap → X w args → X w' args)
    (own : ownKnob C.prog.godebug = none) (started : os.Started) (noInit : C.prog.inits.idxOf? f = none) (hfn : C.prog.funcs[f]? = some fn)
    (witness : ∃ (w : World) (tape : Tape) (i : Input), w.os = os ∧ (w.forCall tape i).Shaped C.prog ∧ i.vars = [] ∧ Input.okWide C.prog (w.forCall tape i) .any w.heap.size f i ∧
      ((s.pre enc C.prog fn conds apart (w.forCall tape i).memory i.args ∧ X (w.forCall tape i).memory i.args) ∧ sizedMet enc C.prog fn (OpenSpec.ofChange s) apart (w.forCall tape i).memory i.args) ∧ a.holds C.prog (lone (Frame.enter C.prog f i.args .normal) [] (w.forCall tape i)))
    (contract : ∀ (W : World) (base : Nat) (args : Array Value) (ds gs : List (DataW H)) (before : List MemPlace),
      (∀ (j : Nat) t v, fn.params[j]? = some t → args[j]? = some v → Value.okWide C.prog W .any base t v) →
      DataW.Whole enc C.prog fn.params.toList s.vars apart W args.toList ds gs before →
      conds.all (PathCond.test C.prog ⟨fn.params.toList, ds, s.plain.varTypes C.prog, gs⟩) = true →
      (DataW.weightsEach C.prog (fn.params.toList ++ s.plain.varTypes C.prog) (ds ++ gs)).all (· ≤ reachBytes) = true → X W args → W.ShapedOpen C.prog →
      Calls C.prog f args W fun e W' => ∃ v, e = .returned v ∧ s.post enc C.prog fn apart fresh handsOn again W args v W') :
    ReturnsInHanded a C os f .any (fun w args => (s.pre enc C.prog fn conds apart w args ∧ X w args) ∧ sizedMet enc C.prog fn (OpenSpec.ofChange s) apart w args) (s.post enc C.prog fn apart fresh handsOn again) := by
  refine returnsInHanded_of_calls own started noInit witness ?_
  intro w tape i _ hsh _ hok hpre _
  obtain ⟨_, _, _, fn', hfn', _, _, _, _, hval⟩ := hok
  obtain rfl : fn' = fn := Option.some.inj (hfn'.symm.trans hfn)
  obtain ⟨⟨⟨ds, gs, before, hw, hc⟩, hx⟩, hz⟩ := hpre
  refine (contract _ w.heap.size i.args ds gs before hval (DataW.Whole.of_heap (w' := w.forCall tape i) (by rfl) hw) hc (hz.weights hw) (hX _ _ _ (by rfl) hx) hsh).mono fun e W' h => ?_
  obtain ⟨v, rfl, hp⟩ := h
  exact ChangeSpec.post_blind hp
theorem tab_of {W : World} {rest : List (String × DataW Unit)} (h : laidMet Tryd.prog (("internal/strconv.uint64pow10", Rows.laid_internal_strconv_uint64pow10) :: rest) W) : Tab W :=
  Lib.tabIs_of_head (k := .u64) (zs := Lib.pow10Tab) (g := 3) (t := 94) (e := 77) (n := 20) (by kernel_rfl) (by kernel_rfl) (by kernel_rfl) (by kernel_rfl) (by kernel_rfl) (by kernel_rfl) h
set_option maxRecDepth 100000 in
theorem lifted (os : Os) (started : os.Started) (H : Type) (enc : TypeId × Value → H) :
    ReturnsInHanded {} Tryd.checked os 3 .any (fun w args => (Rows.fnExactCodeTextSpec.pre enc Tryd.prog Tryd.f3 Rows.fnExactCodeTextRow.domain false w args ∧ laidMetH Tryd.prog Rows.fnExactCodeTextRow.laid w) ∧ sizedMet enc Tryd.prog Tryd.f3 (OpenSpec.ofChange Rows.fnExactCodeTextSpec) false w args) (Rows.fnExactCodeTextSpec.post enc Tryd.prog Tryd.f3 false true false false) := by
  refine laidShaped (C := Tryd.checked) (X := fun w _ => laidMetH Tryd.prog Rows.fnExactCodeTextRow.laid w) (fun _ _ _ hh h => h.of_heap hh) own started (by kernel_rfl) Tryd.func3
    (ChangeSpec.witness_shaped (enc := enc) (C := Tryd.checked) (os := os) (X := fun w _ => laidMetH Tryd.prog Rows.fnExactCodeTextRow.laid w) false (World.laidAll Tryd.prog os Rows.fnExactCodeTextRow.laid) #[.slice none 0 0] 8 (World.laidAll_os _ _ _)
      (World.shaped_of_ZipB (by kernel_rfl) (by kernel_rfl)) (by kernel_rfl) (by kernel_rfl) (by kernel_rfl)
      (by rw [MakeChecks.laidMetH_plain _ _ _ (by kernel_rfl)]; exact laidMet_laidAll _ (by kernel_rfl) (by kernel_rfl))) ?_
  intro W base args ds gs before hval0 hW hcnd hsz0 hX1 hsh
  have hsz : (DataW.weightsEach Tryd.prog (Tryd.f3.params.toList ++ Rows.fnExactCodeTextSpec.plain.varTypes Tryd.prog) (ds ++ gs)).all (· ≤ reachBytes) = true := hsz0
  have hval : ∀ (j : Nat) t v, Tryd.f3.params[j]? = some t → args[j]? = some v → Value.okWide Tryd.prog W .any base t v := hval0
  have hW' := hW
  obtain ⟨p, q, hA0, hV, rfl, hfz, hnd⟩ := hW
  have hA : DataW.TrodAll enc Tryd.prog W 0 (fun _ => true) true Tryd.f3.params.toList args.toList ds p := hA0
  rw [Tryd.params3] at hA hval hsz
  obtain ⟨v0, vs0, d0, ds0, p0, q0, hargs, rfl, rfl, h0, r0⟩ := trodAll_cons hA
  obtain ⟨rfl, rfl, rfl⟩ := trodAll_nil r0
  obtain rfl : args = #[v0] := by cases args; simp_all
  obtain ⟨rfl, rfl⟩ := trodVars_none hV
  have k0 := h0
  have lt0 : ∀ x ∈ p0, x.block < W.heap.size := by obtain ⟨m, hm⟩ := k0; exact DataW.trod_lt m _ _ _ hm
  obtain ⟨A0, l0, c0, rfl, hc0, hr0, hg0⟩ := slice_in Tryd.underlying22 (opens_slice Tryd.underlying22 openT36 (by kernel_rfl)) (hval 0 22 v0 rfl rfl) h0
  clear hA0 hval0 hsz0 hsz
  obtain ⟨k_, hk_⟩ := Pure.FnExactCodeText l0 hg0
  have hL : laidMet Tryd.prog Rows.fnExactCodeTextRow.laid W := by
    rw [← MakeChecks.laidMetH_plain _ _ _ (by kernel_rfl)]; exact hX1
  have htab : Tab W := tab_of (laidMet.tail (laidMet.tail hL))
  have hmach : Ins.Mach W := Tryd.laysM144.s1_3 W hsh
  refine (laws_FnExactCodeText.calls k_ A0 c0 l0 true W hr0 hc0 hk_ htab hmach).mono fun e W' ⟨he, bel0⟩ => ?_
  have bel : Below W.heap.size W W' := bel0
  subst he
  exact ⟨_, rfl, _, _, _, [], _, [], hW', trodAll_mk1 (shut_bool Tryd.underlying4 _), (trodAll_cons_mk (Below.trod laidOut (by kernel_rfl) (of_decide_eq_true (by kernel_rfl)) k0 bel lt0) trodAll_mk0), rfl, bel.frame _, fun h => by cases h⟩
theorem over : Rows.FnExactCodeTextSaid :=
  OpenClaim.holds_of_wide 3 Tryd.f3 rfl rfl rfl rfl rfl rfl rfl ⟨rfl, rfl, rfl, rfl, rfl⟩ rfl rfl rfl rfl rfl (by kernel_rfl) Tryd.func3 (by kernel_rfl)
    (of_decide_eq_true (by kernel_rfl)) (by unfold Func.isWrapper; first | (rw [if_pos (by decide +kernel)]; kernel_rfl) | (rw [if_neg (by decide +kernel)]; exact ⟨rfl, rfl⟩))
    (fun os started H enc _ => lifted os started H enc)
theorem proved : Rows.FnExactCodeTextCardSaid :=
  Claim7.holds_tied_plain_at .later [] [.data, .data, .data] true (true, "764cd66b92eddc2cc52d2f80c94eb3304a3f8ea8cee8ef9b88e137440bbc64ec") true
    over (fun _ h => by cases h) (by kernel_rfl) (fun _ h => by cases h) fnExactCodeText_row_tie rfl ⟨rfl, rfl⟩ (by kernel_rfl) rfl
    (fun f fn hf hfn => by
      obtain rfl : f = 3 := Option.some.inj ((show Tryd.prog.funcNamed "loop.example/g00201/laws.FnExactCodeText" = some 3 by kernel_rfl).symm.trans hf) |>.symm
      obtain rfl : fn = Tryd.f3 := (Option.some.inj (Tryd.func3.symm.trans hfn)).symm
      exact ⟨by kernel_rfl, fun j t ht => by
        rw [Tryd.params3] at ht
        have hm : t ∈ [22] := by simpa using Array.mem_of_getElem? ht
        have hall : ([22].all fun u => !Tryd.prog.wantsStandIn u) = true := by kernel_rfl
        exact (show Tryd.prog.wantsStandIn t = false by simpa using List.all_eq_true.1 hall t hm)⟩)
    (by kernel_rfl)
#print axioms proved
end Go.Proofs.YtlkgimnafnmgpaaDoor.fnExactCodeText
namespace Go.Proofs.YtlkgimnafnmgpaaDoor
theorem fnExactCodeText_holds : Rows.FnExactCodeTextCardSaid := fnExactCodeText.proved
end Go.Proofs.YtlkgimnafnmgpaaDoor
