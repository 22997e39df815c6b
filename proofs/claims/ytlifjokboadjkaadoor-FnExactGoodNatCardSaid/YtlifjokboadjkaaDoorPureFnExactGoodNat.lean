/- The pure statement of the law FnExactGoodNat: for every text the printed function answers true. No condition but the text's length. -/
import Derived.Test.YtlifjokboadjkaaDoorF3
import Derived.Test.YtlifjokboadjkaaDoorEv
import Derived.Lib.SlTrimSet
namespace Go.Proofs.YtlifjokboadjkaaDoor.Pure
open Go.RowKit Go.Proofs.YtlifjokboadjkaaDoor.G Go.Proofs.YtlifjokboadjkaaDoor.EvL Go.Proofs.YtlifjokboadjkaaDoorW.PrintWords Go.Proofs.YtlifjokboadjkaaDoorW.PrintLast
set_option linter.unusedVariables false

theorem w64 {x : Int} (h1 : -9223372036854775808 ≤ x) (h2 : x ≤ 9223372036854775807) : wrap64 x = x := by unfold wrap64; omega
theorem loop_nil (s : ByteArray) : ∀ (n i : Nat) (r : List UInt8), s.size - i = n → (ByteArray.toList.loop s i r = [] ↔ s.size ≤ i ∧ r = []) := by
  intro n
  induction n with
  | zero =>
    intro i r h
    unfold ByteArray.toList.loop
    rw [if_neg (by omega)]
    simp; omega
  | succ n ih =>
    intro i r h
    unfold ByteArray.toList.loop
    rw [if_pos (by omega), ih _ _ (by omega)]
    simp; omega
theorem toList_nil (s : ByteArray) : s.toList = [] ↔ s.size = 0 := by
  unfold ByteArray.toList
  rw [loop_nil s _ 0 [] rfl]; simp
theorem dw_nil {cs : List UInt8} : ∀ (l : List UInt8), l.dropWhile (cs.contains ·) = [] ↔ ∀ b ∈ l, cs.contains b = true
  | [] => by simp
  | b :: l => by
    rw [List.dropWhile_cons]
    cases h : cs.contains b with
    | true =>
      simp only [if_true]
      rw [dw_nil l]
      constructor
      · intro k c hc
        rcases List.mem_cons.1 hc with rfl | hc
        · exact h
        · exact k c hc
      · exact fun k c hc => k c (List.mem_cons_of_mem _ hc)
    | false =>
      simp only [Bool.false_eq_true, if_false]
      constructor
      · intro k; cases k
      · intro k; have := k b List.mem_cons_self; rw [h] at this; cases this

theorem trim_nil {cs : List UInt8} (l : List UInt8) : Lib.trimS l cs = [] ↔ ∀ b ∈ l, cs.contains b = true := by
  unfold Lib.trimS Lib.trimLeftS Lib.trimRightS
  constructor
  · intro h
    have h1 := (dw_nil _).1 h
    -- what is left at the right's trimming has no such byte at its end
    cases e : l.reverse.dropWhile (cs.contains ·) with
    | nil =>
      intro b hb
      exact (dw_nil _).1 e b (List.mem_reverse.2 hb)
    | cons c m =>
      have hc : ¬ (cs.contains c = true) := by
        have := List.head?_dropWhile_not (cs.contains ·) l.reverse
        rw [e] at this
        simpa using this
      exact absurd (h1 c (by rw [e]; simp)) hc
  · intro h
    have e : l.reverse.dropWhile (cs.contains ·) = [] := (dw_nil _).2 fun b hb => h b (List.mem_reverse.1 hb)
    rw [e]; rfl

theorem digit_iff (b : UInt8) : digits.contains b = true ↔ 48 ≤ (b.toNat : Int) ∧ (b.toNat : Int) ≤ 57 := by
  have h : ∀ n : Fin 256, digits.contains (UInt8.ofNat n.val) = true ↔ (48 ≤ n.val ∧ n.val ≤ 57) := by decide +kernel
  have hb : b.toNat < 256 := b.toNat_lt
  have := h ⟨b.toNat, hb⟩
  rw [show UInt8.ofNat b.toNat = b from UInt8.ofNat_toNat] at this
  rw [this]
  show (48 ≤ b.toNat ∧ b.toNat ≤ 57) ↔ _
  constructor <;> intro ⟨x, y⟩ <;> exact ⟨by omega, by omega⟩

theorem bt_get (s : ByteArray) (i : Nat) (h : i < s.size) : bt s (i : Int) = (s.data[i]'h).toNat := by
  have := bt_at s (i : Int) (by simpa using h)
  rw [← this]; rfl

/-- All the bytes are digits. -/
def allD (s : ByteArray) : Prop := ∀ b ∈ s.data.toList, digits.contains b = true

theorem allD_iff (s : ByteArray) : allD s ↔ ∀ i, i < s.size → 48 ≤ bt s (i : Int) ∧ bt s (i : Int) ≤ 57 := by
  unfold allD
  constructor
  · intro h i hi
    rw [bt_get s i hi]
    exact (digit_iff _).1 (h _ (by simp))
  · intro h b hb
    obtain ⟨i, hi, rfl⟩ := List.getElem_of_mem hb
    have hi' : i < s.size := by simpa using hi
    have := h i hi'
    rw [bt_get s i hi'] at this
    rw [digit_iff]
    simpa using this

/-- What both give when all bytes are digits. -/
def fin (s : ByteArray) : Bool := if 0 < (s.size : Int) then (if bt s 0 = 48 then ((s.size : Int) == 1) else true) else false

theorem l0_good (s : ByteArray) (hs : s.size ≤ 600) (h : allD s) : ∀ (n : Nat) (i : Nat), s.size - i = n → i ≤ s.size → spec_l1Digits.l0 (n + 1) s (i : Int) = some (fin s) := by
  have hd := (allD_iff s).1 h
  intro n
  induction n with
  | zero =>
    intro i e hi
    unfold spec_l1Digits.l0 fin
    rw [if_neg (by omega)]
    by_cases c : 0 < (s.size : Int)
    · rw [if_pos c, if_pos c, if_pos c]; split <;> rfl
    · rw [if_neg c, if_neg c]
  | succ n ih =>
    intro i e hi
    have hi' : i < s.size := by omega
    obtain ⟨a, b⟩ := hd i hi'
    unfold spec_l1Digits.l0
    rw [if_pos (by omega), if_pos (by omega), if_neg (by omega), if_neg (by omega)]
    rw [show wrap64 ((i : Int) + 1) = ((i + 1 : Nat) : Int) by rw [w64 (by omega) (by omega)]; rfl]
    exact ih (i + 1) (by omega) (by omega)

theorem l0_bad (s : ByteArray) (hs : s.size ≤ 600) : ∀ (n : Nat) (i : Nat), s.size - i = n → i ≤ s.size → (∃ j, i ≤ j ∧ j < s.size ∧ ¬ (48 ≤ bt s (j : Int) ∧ bt s (j : Int) ≤ 57)) → spec_l1Digits.l0 (n + 1) s (i : Int) = some false := by
  intro n
  induction n with
  | zero =>
    intro i e hi ⟨j, h1, h2, _⟩
    omega
  | succ n ih =>
    intro i e hi ⟨j, h1, h2, h3⟩
    have hi' : i < s.size := by omega
    unfold spec_l1Digits.l0
    rw [if_pos (by omega), if_pos (by omega)]
    by_cases c1 : bt s (i : Int) < 48
    · rw [if_pos c1]
    rw [if_neg c1]
    by_cases c2 : bt s (i : Int) > 57
    · rw [if_pos c2]
    rw [if_neg c2]
    rw [show wrap64 ((i : Int) + 1) = ((i + 1 : Nat) : Int) by rw [w64 (by omega) (by omega)]; rfl]
    refine ih (i + 1) (by omega) (by omega) ⟨j, ?_, h2, h3⟩
    by_cases e : j = i
    · subst e; exact absurd ⟨by omega, by omega⟩ h3
    · omega

open Classical in
theorem spec_ev (s : ByteArray) (hs : s.size ≤ 600) : spec_l1Digits.f (s.size + 1) s = some (if allD s then fin s else false) := by
  unfold spec_l1Digits.f
  by_cases h : allD s
  · rw [if_pos h]; exact l0_good s hs h s.size 0 (by omega) (by omega)
  · rw [if_neg h]
    refine l0_bad s hs s.size 0 (by omega) (by omega) ?_
    rw [allD_iff] at h
    obtain ⟨j, hj⟩ := Classical.not_forall.1 h
    obtain ⟨hj1, hj2⟩ := Classical.not_imp.1 hj
    exact ⟨j, by omega, hj1, hj2⟩

open Classical in
theorem impl_ev (s : ByteArray) (k : Nat) (h1 : 1 ≤ s.size) (hs : s.size ≤ 600) : impl_GoodNat.f k s = some (if allD s then fin s else false) := by
  unfold impl_GoodNat.f strings_Trim.f
  rw [if_pos (by omega), if_pos (by omega), if_pos ⟨rfl, by omega⟩, Option.bind_some]
  by_cases h : allD s
  · have e : Lib.trimS s.data.toList digits = [] := (trim_nil _).2 h
    rw [e, if_pos h, if_pos ((toList_nil _).2 rfl)]
    unfold fin
    have c : 0 < (s.size : Int) := by omega
    simp only [if_pos c]
    split <;> rfl
  · have e : ¬ Lib.trimS s.data.toList digits = [] := fun e => h ((trim_nil _).1 e)
    rw [if_neg h, if_neg]
    intro e2
    apply e
    have := (toList_nil _).1 e2
    exact List.eq_nil_of_length_eq_zero (by simpa [ByteArray.size] using this)

theorem FnExactGoodNat : laws_FnExactGoodNat.Pure := by
  intro s hs
  refine ⟨s.size + 1, ?_⟩
  unfold laws_FnExactGoodNat.f
  by_cases c : (s.size : Int) > 1048576
  · rw [if_pos c]
  rw [if_neg c]
  have key : spec_GoodNat.f (s.size + 1) s = impl_GoodNat.f (s.size + 1) s ∧ (impl_GoodNat.f (s.size + 1) s).isSome := by
    unfold spec_GoodNat.f
    by_cases c6 : (s.size : Int) ≤ 600
    · rw [if_pos c6, spec_ev s (by omega)]
      by_cases c1 : 1 ≤ s.size
      · rw [impl_ev s _ c1 (by omega)]; exact ⟨rfl, rfl⟩
      · have e0 : s.size = 0 := by omega
        have : impl_GoodNat.f (s.size + 1) s = some false := by unfold impl_GoodNat.f; rw [if_neg (by omega)]
        rw [this]
        have e1 : fin s = false := by unfold fin; rw [if_neg (by omega)]
        rw [e1]
        exact ⟨by simp, rfl⟩
    · rw [if_neg c6]
      have : impl_GoodNat.f (s.size + 1) s = some false := by
        unfold impl_GoodNat.f
        rw [if_pos (by omega), if_neg c6]
      rw [this]; exact ⟨rfl, rfl⟩
  obtain ⟨b, hb⟩ := Option.isSome_iff_exists.1 key.2
  rw [key.1, hb]
  simp
end Go.Proofs.YtlifjokboadjkaaDoor.Pure
