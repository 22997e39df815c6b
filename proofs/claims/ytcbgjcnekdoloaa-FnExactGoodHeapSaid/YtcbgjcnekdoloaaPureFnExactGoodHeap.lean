/- The pure statement of the law FnExactGoodHeap: for every heap the printed function answers true. No condition but that the numbers are ints and the lists have lengths that are. -/
import Derived.Test.YtcbgjcnekdoloaaHeapGood
namespace Go.Proofs.Ytcbgjcnekdoloaa.Pure
open Go.RowKit Go.Proofs.Ytcbgjcnekdoloaa.G Go.Proofs.Ytcbgjcnekdoloaa.EvL Go.Proofs.Ytcbgjcnekdoloaa.HeapL Go.Proofs.YtcbgjcnekdoloaaW.PrintWords Go.Proofs.YtcbgjcnekdoloaaW.PrintLast

theorem FnExactGoodHeap : laws_FnExactGoodHeap.Pure := by
  intro old c r _ hc hr
  obtain ⟨t, ht, hs⟩ := sizes old c r hc.1 hr.1
  refine Ev.rounds ?_
  unfold laws_FnExactGoodHeap.f
  rw [ht]
  simp only [Option.bind_some]
  by_cases h : t < 0
  · exact Ev.ite_pos h (Ev.now _)
  obtain ⟨hc1, hr1⟩ := hs h
  have th := toHeap old c r hc1 hr1
  refine Ev.ite_neg h (Ev.bind th (Ev.bind (specGood _ _ _) (Ev.bind th (Ev.bind (implGood _ _ _) ?_))))
  refine Ev.ite_neg (by simp) (Ev.bind th (Ev.bind (eqHeap _ _ _ (by show (c.map conv).length ≤ _; rw [List.length_map]; omega) (by show r.length ≤ _; omega)) (Ev.ite_pos rfl (Ev.now _))))

end Go.Proofs.Ytcbgjcnekdoloaa.Pure
