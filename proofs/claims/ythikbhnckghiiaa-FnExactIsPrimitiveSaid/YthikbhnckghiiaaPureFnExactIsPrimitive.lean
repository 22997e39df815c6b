/- The pure statement of the law FnExactIsPrimitive: for every text the printed function answers true. No condition but the form's own bound on a text's bytes. -/
import Derived.Test.YthikbhnckghiiaaPFnExactIsPrimitivex2
namespace Go.Proofs.Ythikbhnckghiiaa.Pure
open Go.RowKit Go.Proofs.Ythikbhnckghiiaa.PFnExactIsPrimitive Go.Proofs.YthikbhnckghiiaaW.PrintWords Go.Proofs.YthikbhnckghiiaaW.PrintLast

theorem FnExactIsPrimitive : laws_FnExactIsPrimitive.Pure := by
  intro s hs
  refine ⟨10, ?_⟩
  unfold laws_FnExactIsPrimitive.f
  by_cases hb : (s.size : Int) > 1048576
  · rw [if_pos hb]
  rw [if_neg hb]
  unfold spec_IsPrimitive.f spec_l5Arity.f impl_IsPrimitive.f
  simp only [spec_l5Arity.j0, spec_l5Arity.j1, spec_l5Arity.j2]
  generalize s.toList = l
  by_cases h0 : l = [43]
  · subst h0; rfl
  by_cases h1 : l = [42]
  · subst h1; rfl
  by_cases h2 : l = [45]
  · subst h2; rfl
  by_cases h3 : l = [47]
  · subst h3; rfl
  by_cases h4 : l = [61]
  · subst h4; rfl
  by_cases h5 : l = [60]
  · subst h5; rfl
  by_cases h6 : l = [62]
  · subst h6; rfl
  by_cases h7 : l = [60, 61]
  · subst h7; rfl
  by_cases h8 : l = [62, 61]
  · subst h8; rfl
  by_cases h9 : l = [113, 117, 111, 116, 105, 101, 110, 116]
  · subst h9; rfl
  by_cases h10 : l = [114, 101, 109, 97, 105, 110, 100, 101, 114]
  · subst h10; rfl
  by_cases h11 : l = [102, 108, 111, 111, 114]
  · subst h11; rfl
  by_cases h12 : l = [99, 111, 110, 115]
  · subst h12; rfl
  by_cases h13 : l = [99, 97, 114]
  · subst h13; rfl
  by_cases h14 : l = [99, 100, 114]
  · subst h14; rfl
  by_cases h15 : l = [108, 105, 115, 116]
  · subst h15; rfl
  by_cases h16 : l = [110, 117, 108, 108, 63]
  · subst h16; rfl
  by_cases h17 : l = [112, 97, 105, 114, 63]
  · subst h17; rfl
  by_cases h18 : l = [110, 117, 109, 98, 101, 114, 63]
  · subst h18; rfl
  by_cases h19 : l = [115, 121, 109, 98, 111, 108, 63]
  · subst h19; rfl
  by_cases h20 : l = [115, 116, 114, 105, 110, 103, 63]
  · subst h20; rfl
  by_cases h21 : l = [98, 111, 111, 108, 101, 97, 110, 63]
  · subst h21; rfl
  by_cases h22 : l = [112, 114, 111, 99, 101, 100, 117, 114, 101, 63]
  · subst h22; rfl
  by_cases h23 : l = [110, 111, 116]
  · subst h23; rfl
  by_cases h24 : l = [101, 113, 63]
  · subst h24; rfl
  by_cases h25 : l = [101, 113, 117, 97, 108, 63]
  · subst h25; rfl
  by_cases h26 : l = [108, 101, 110, 103, 116, 104]
  · subst h26; rfl
  by_cases h27 : l = [97, 112, 112, 101, 110, 100]
  · subst h27; rfl
  by_cases h28 : l = [114, 101, 118, 101, 114, 115, 101]
  · subst h28; rfl
  by_cases h29 : l = [100, 105, 115, 112, 108, 97, 121]
  · subst h29; rfl
  by_cases h30 : l = [119, 114, 105, 116, 101]
  · subst h30; rfl
  by_cases h31 : l = [110, 101, 119, 108, 105, 110, 101]
  · subst h31; rfl
  by_cases h32 : l = [97, 112, 112, 108, 121]
  · subst h32; rfl
  by_cases h33 : l = [99, 97, 108, 108, 47, 99, 99]
  · subst h33; rfl
  simp [h0, h1, h2, h3, h4, h5, h6, h7, h8, h9, h10, h11, h12, h13, h14, h15, h16, h17, h18, h19, h20, h21, h22, h23, h24, h25, h26, h27, h28, h29, h30, h31, h32, h33]

end Go.Proofs.Ythikbhnckghiiaa.Pure
