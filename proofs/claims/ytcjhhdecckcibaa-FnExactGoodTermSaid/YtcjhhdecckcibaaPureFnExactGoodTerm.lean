/- The pure statement of the law FnExactGoodTerm: for every term told by nodes the printed function answers true. No condition but that the numbers are ints and the list has a length that is. -/
import Derived.Test.YtcjhhdecckcibaaTermBoth
import Derived.Test.YtcjhhdecckcibaaF4
namespace Go.Proofs.Ytcjhhdecckcibaa.Pure
open Go.RowKit Go.Proofs.Ytcjhhdecckcibaa.G Go.Proofs.Ytcjhhdecckcibaa.EvL Go.Proofs.Ytcjhhdecckcibaa.TermL Go.Proofs.YtcjhhdecckcibaaW.PrintWords Go.Proofs.YtcjhhdecckcibaaW.PrintLast

theorem FnExactGoodTerm : laws_FnExactGoodTerm.Pure := by
  intro l hl
  obtain ⟨t, ht, hs⟩ := sizes l hl.1
  refine Ev.rounds ?_
  unfold laws_FnExactGoodTerm.f
  rw [ht]
  simp only [Option.bind_some]
  by_cases h : t < 0
  · exact Ev.ite_pos h (Ev.now _)
  have hl1 := hs h
  have th := toTerms l hl1
  obtain ⟨b1, e1, h1⟩ := specGood (l.map conv) (by rw [List.length_map]; omega)
  obtain ⟨b2, e2, h2⟩ := implGood (l.map conv) (by rw [List.length_map]; omega)
  obtain rfl : b1 = b2 := by rw [Bool.eq_iff_iff, h1, h2]
  refine Ev.ite_neg h (Ev.bind th (Ev.bind e1 (Ev.bind th (Ev.bind e2 ?_))))
  refine Ev.ite_neg (by simp) (Ev.bind th (Ev.bind (eqTerms _ (by rw [List.length_map]; omega)) (Ev.ite_pos rfl (Ev.now _))))

end Go.Proofs.Ytcjhhdecckcibaa.Pure
