/- The pure statement of the law FnExactIsKeyword: for every text the printed function answers true. No condition but the form's own bound on a text's bytes. -/
import Derived.Test.YthikbhnckghiiaaPFnExactIsKeywordx1
namespace Go.Proofs.Ythikbhnckghiiaa.Pure
open Go.RowKit Go.Proofs.Ythikbhnckghiiaa.PFnExactIsKeyword Go.Proofs.YthikbhnckghiiaaW.PrintWords Go.Proofs.YthikbhnckghiiaaW.PrintLast

theorem has_step (k : Nat) (s : ByteArray) (l : List ByteArray) (i : Nat) (hi : i < l.length) (hl : l.length ≤ 1000) :
    spec_l4Has.l0 (k + 1) s l l.length i = if (l.getD i ByteArray.empty).toList = s.toList then some true else spec_l4Has.l0 k s l l.length ((i + 1 : Nat) : Int) := by
  simp only [spec_l4Has.l0]
  rw [if_pos (by omega), if_pos (by omega), if_pos (by omega)]
  have e : wrap64 ((i : Int) + 1) = ((i + 1 : Nat) : Int) := by unfold wrap64; omega
  rw [e]
  rfl

theorem has_end (k : Nat) (s : ByteArray) (l : List ByteArray) : spec_l4Has.l0 (k + 1) s l l.length l.length = some false := by
  simp only [spec_l4Has.l0]
  rw [if_neg (by omega)]

theorem has_all (s : ByteArray) (l : List ByteArray) (hl : l.length ≤ 1000) (d : Nat) : ∀ (k i : Nat), i + d = l.length → d < k →
    spec_l4Has.l0 k s l l.length i = some ((l.drop i).any fun x => decide (x.toList = s.toList)) := by
  induction d with
  | zero =>
    intro k i hi hk
    obtain ⟨k, rfl⟩ : ∃ m, k = m + 1 := ⟨k - 1, by omega⟩
    obtain rfl : i = l.length := by omega
    rw [has_end, List.drop_length]; rfl
  | succ d ih =>
    intro k i hi hk
    obtain ⟨k, rfl⟩ : ∃ m, k = m + 1 := ⟨k - 1, by omega⟩
    have hlt : i < l.length := by omega
    rw [has_step k s l i hlt hl, List.drop_eq_getElem_cons hlt, List.any_cons, ih k (i + 1) (by omega) (by omega)]
    have e : l.getD i ByteArray.empty = l[i] := by simp [List.getD, hlt]
    rw [e]
    by_cases h : l[i].toList = s.toList
    · rw [if_pos h]; simp [h]
    · rw [if_neg h]; simp [h]

theorem FnExactIsKeyword : laws_FnExactIsKeyword.Pure := by
  intro s hs
  refine ⟨18, ?_⟩
  unfold laws_FnExactIsKeyword.f
  by_cases hb : (s.size : Int) > 1048576
  · rw [if_pos hb]
  rw [if_neg hb]
  unfold spec_IsKeyword.f spec_l4Has.f
  rw [show (0 : Int) = ((0 : Nat) : Int) from rfl, has_all s _ (by simp) 17 18 0 (by rfl) (by omega)]
  simp only [Option.bind_some, List.drop_zero, List.any_cons, List.any_nil]
  generalize hs' : s.toList = l
  simp only [ByteArray.toList_mk, Bool.or_false]
  unfold impl_IsKeyword.f
  rw [hs']
  have sym : ∀ a : List UInt8, (decide (a = l)) = decide (l = a) := fun a => by simp only [eq_comm]
  simp only [sym]
  by_cases h0 : l = [113, 117, 111, 116, 101]
  · subst h0; rfl
  by_cases h1 : l = [105, 102]
  · subst h1; rfl
  by_cases h2 : l = [100, 101, 102, 105, 110, 101]
  · subst h2; rfl
  by_cases h3 : l = [115, 101, 116, 33]
  · subst h3; rfl
  by_cases h4 : l = [108, 97, 109, 98, 100, 97]
  · subst h4; rfl
  by_cases h5 : l = [98, 101, 103, 105, 110]
  · subst h5; rfl
  by_cases h6 : l = [108, 101, 116]
  · subst h6; rfl
  by_cases h7 : l = [108, 101, 116, 42]
  · subst h7; rfl
  by_cases h8 : l = [108, 101, 116, 114, 101, 99]
  · subst h8; rfl
  by_cases h9 : l = [99, 111, 110, 100]
  · subst h9; rfl
  by_cases h10 : l = [101, 108, 115, 101]
  · subst h10; rfl
  by_cases h11 : l = [97, 110, 100]
  · subst h11; rfl
  by_cases h12 : l = [111, 114]
  · subst h12; rfl
  by_cases h13 : l = [119, 104, 101, 110]
  · subst h13; rfl
  by_cases h14 : l = [117, 110, 108, 101, 115, 115]
  · subst h14; rfl
  by_cases h15 : l = [100, 101, 102, 105, 110, 101, 45, 115, 121, 110, 116, 97, 120]
  · subst h15; rfl
  by_cases h16 : l = [115, 121, 110, 116, 97, 120, 45, 114, 117, 108, 101, 115]
  · subst h16; rfl
  simp [h0, h1, h2, h3, h4, h5, h6, h7, h8, h9, h10, h11, h12, h13, h14, h15, h16]

end Go.Proofs.Ythikbhnckghiiaa.Pure
