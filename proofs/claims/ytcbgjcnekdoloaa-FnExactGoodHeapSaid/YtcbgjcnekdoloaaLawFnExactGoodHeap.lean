/- The law FnExactGoodHeap of the program holds: for every input that can be read, the call returns true and leaves its arguments as they were. No condition. -/
import Derived.Test.YtcbgjcnekdoloaaRows
import Derived.Test.YtcbgjcnekdoloaaF3
import Derived.Test.YtcbgjcnekdoloaaPureFnExactGoodHeap
import Derived.Test.YtcbgjcnekdoloaaOpen
import Derived.WalkKit
import Derived.ProofKit
import Derived.OpenShut
import Derived.ShutString
import Derived.ChangeOld
import Derived.Below
import Derived.SizedLaws
import Derived.Test.YtcbgjcnekdoloaaWSized
namespace Go.Proofs.Ytcbgjcnekdoloaa.fnExactGoodHeap
open Go.ChangeShapes Go.WideShapes Go.ChangeAt Go.RowKit Go.Proofs.Ytcbgjcnekdoloaa.Open Go.Proofs.Ytcbgjcnekdoloaa.G Go.Proofs.YtcbgjcnekdoloaaW.PrintWords
open Go.ChangeMaps (open_string shut_string)
set_option linter.unusedVariables false
theorem own : ownKnob Try.prog.godebug = none := by kernel_rfl
theorem laidOut : laidOutB Try.prog = true := by kernel_rfl
section
variable {H : Type} {enc : TypeId × Value → H}
theorem openT59 : Opens H enc Try.prog 59 k59 (fun x => (True ∧ (Lit.int .i64 x.f1).wf = true ∧ (Lit.int .i64 x.f2).wf = true ∧ (Lit.int .i64 x.f3).wf = true)) :=
  opens_imp (opens_struct (fun x : S59 => (x.f0, x.f1, x.f2, x.f3)) (fun y => (⟨y.1, y.2.1, y.2.2.1, y.2.2.2⟩ : S59)) (fun _ => rfl) Try.underlying59 (by kernel_rfl) (opensF_cons (opens_bool Try.underlying4) (by kernel_rfl) (opensF_cons (opens_int Try.underlying3) (by kernel_rfl) (opensF_cons (opens_int Try.underlying3) (by kernel_rfl) (opensF_last (opens_int Try.underlying3) (by kernel_rfl)))))) (fun x h => h)
theorem openT25 : Opens H enc Try.prog 25 k25 (fun x => ((Lit.int .i64 x.f0).wf = true ∧ (x.f1.length ≤ 9223372036854775807 ∧ ∀ x_ ∈ x.f1, (True ∧ (Lit.int .i64 x_.f1).wf = true ∧ (Lit.int .i64 x_.f2).wf = true ∧ (Lit.int .i64 x_.f3).wf = true)) ∧ (x.f2.length ≤ 9223372036854775807 ∧ ∀ x_ ∈ x.f2, (Lit.int .i64 x_).wf = true))) :=
  opens_imp (opens_struct (fun x : S25 => (x.f0, x.f1, x.f2)) (fun y => (⟨y.1, y.2.1, y.2.2⟩ : S25)) (fun _ => rfl) Try.underlying25 (by kernel_rfl) (opensF_cons (opens_int Try.underlying3) (by kernel_rfl) (opensF_cons (opens_slice Try.underlying22 openT59 (by kernel_rfl)) (by kernel_rfl) (opensF_last (opens_slice Try.underlying23 (opens_int Try.underlying3) (by kernel_rfl)) (by kernel_rfl))))) (fun x h => h)
end
set_option maxRecDepth 100000 in
theorem lifted (os : Os) (started : os.Started) (H : Type) (enc : TypeId × Value → H) :
    ReturnsInHanded {} Try.checked os 3 .any (Rows.fnExactGoodHeapSpec.pre6 enc Try.prog Try.f3 Rows.fnExactGoodHeapRow.domain false) (Rows.fnExactGoodHeapSpec.post enc Try.prog Try.f3 false true false false) := by
  refine returnsInHanded_of_change_sized (C := Try.checked) own started (by kernel_rfl) Try.func3
    (ChangeSpec.witness6 (enc := enc) (C := Try.checked) false ⟨#[], #[.agg #[.int .i64 0, .slice none 0 0, .slice none 0 0]], []⟩ 8 (by kernel_rfl) (by kernel_rfl) (by kernel_rfl) (by kernel_rfl)) ?_
  intro W base args ds gs before hval0 hW hcnd hsz0 _
  have hsz : (DataW.weightsEach Try.prog (Try.f3.params.toList ++ Rows.fnExactGoodHeapSpec.plain.varTypes Try.prog) (ds ++ gs)).all (· ≤ reachBytes) = true := hsz0
  have hval : ∀ (j : Nat) t v, Try.f3.params[j]? = some t → args[j]? = some v → Value.okWide Try.prog W .any base t v := hval0
  have hW' := hW
  obtain ⟨p, q, hA0, hV, rfl, hfz, hnd⟩ := hW
  have hA : DataW.TrodAll enc Try.prog W 0 (fun _ => true) true Try.f3.params.toList args.toList ds p := hA0
  rw [Try.params3] at hA hval hsz
  obtain ⟨v0, vs0, d0, ds0, p0, q0, hargs, rfl, rfl, h0, r0⟩ := trodAll_cons hA
  obtain ⟨rfl, rfl, rfl⟩ := trodAll_nil r0
  obtain rfl : args = #[v0] := by cases args; simp_all
  obtain ⟨rfl, rfl⟩ := trodVars_none hV
  have k0 := h0
  have lt0 : ∀ x ∈ p0, x.block < W.heap.size := by obtain ⟨m, hm⟩ := k0; exact DataW.trod_lt m _ _ _ hm
  obtain ⟨x0, cs0, rfl, hK0, hg0⟩ := struct_in Try.underlying25 openT25 (hval 0 25 v0 rfl rfl) h0
  obtain ⟨A0_1, c0_1, A0_2, c0_2, rfl, hc0_1, hr0_1, hc0_2, hr0_2⟩ := k25_open hK0
  obtain ⟨hg0_0, hg0_1, hg0_2⟩ := hg0
  clear hA0 hval0 hsz0 hsz
  obtain ⟨k_, hk_⟩ := Pure.FnExactGoodHeap x0.f0 x0.f1 x0.f2 hg0_0 hg0_1 hg0_2
  refine (laws_FnExactGoodHeap.calls k_ x0.f0 A0_1 c0_1 x0.f1 A0_2 c0_2 x0.f2 true W hr0_1 hc0_1 hr0_2 hc0_2 hk_).mono fun e W' ⟨he, bel0⟩ => ?_
  have bel : Below W.heap.size W W' := bel0
  subst he
  exact ⟨_, rfl, _, _, _, [], _, [], hW', trodAll_mk1 (shut_bool Try.underlying4 _), (trodAll_cons_mk (Below.trod laidOut (by kernel_rfl) (of_decide_eq_true (by kernel_rfl)) k0 bel lt0) trodAll_mk0), rfl, bel.frame _, fun h => by cases h⟩
theorem over : Rows.fnExactGoodHeapRow.holds Try.pinned (OpenSpec.ofChange Rows.fnExactGoodHeapSpec) :=
  OpenClaim.holds_of_wide 3 Try.f3 rfl rfl rfl rfl rfl rfl rfl ⟨rfl, rfl, rfl, rfl, rfl⟩ rfl rfl rfl rfl rfl (by kernel_rfl) Try.func3 (by kernel_rfl)
    (of_decide_eq_true (by kernel_rfl)) (by unfold Func.isWrapper; first | (rw [if_pos (by decide +kernel)]; kernel_rfl) | (rw [if_neg (by decide +kernel)]; exact ⟨rfl, rfl⟩))
    (fun os started H enc _ => lifted os started H enc)
theorem proved : Rows.FnExactGoodHeapSaid := over
#print axioms proved
end Go.Proofs.Ytcbgjcnekdoloaa.fnExactGoodHeap
namespace Go.Proofs.Ytcbgjcnekdoloaa
/-- The row, under a short name, for the claim. -/
theorem fnExactGoodHeap_holds : Rows.FnExactGoodHeapSaid := fnExactGoodHeap.proved
end Go.Proofs.Ytcbgjcnekdoloaa
