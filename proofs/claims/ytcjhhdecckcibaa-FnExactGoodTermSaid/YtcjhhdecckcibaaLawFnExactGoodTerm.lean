/- The law FnExactGoodTerm of the program holds: for every input that can be read, the call returns true and leaves its arguments as they were. No condition. -/
import Derived.Test.YtcjhhdecckcibaaRows
import Derived.Test.YtcjhhdecckcibaaF4
import Derived.Test.YtcjhhdecckcibaaPureFnExactGoodTerm
import Derived.Test.YtcjhhdecckcibaaOpen
import Derived.WalkKit
import Derived.ProofKit
import Derived.OpenShut
import Derived.ShutString
import Derived.ChangeOld
import Derived.Below
import Derived.SizedLaws
import Derived.Test.YtcjhhdecckcibaaWSized
namespace Go.Proofs.Ytcjhhdecckcibaa.fnExactGoodTerm
open Go.ChangeShapes Go.WideShapes Go.ChangeAt Go.RowKit Go.Proofs.Ytcjhhdecckcibaa.Open Go.Proofs.Ytcjhhdecckcibaa.G Go.Proofs.YtcjhhdecckcibaaW.PrintWords
open Go.ChangeMaps (open_string shut_string)
set_option linter.unusedVariables false
theorem own : ownKnob Try.prog.godebug = none := by kernel_rfl
theorem laidOut : laidOutB Try.prog = true := by kernel_rfl
section
variable {H : Type} {enc : TypeId × Value → H}
theorem openT65 : Opens H enc Try.prog 65 k65 (fun x => ((Lit.int .i64 x.f0).wf = true ∧ (Lit.int .i64 x.f1).wf = true ∧ (Lit.int .i64 x.f2).wf = true)) :=
  opens_imp (opens_struct (fun x : S65 => (x.f0, x.f1, x.f2)) (fun y => (⟨y.1, y.2.1, y.2.2⟩ : S65)) (fun _ => rfl) Try.underlying65 (by kernel_rfl) (opensF_cons (opens_int Try.underlying3) (by kernel_rfl) (opensF_cons (opens_int Try.underlying3) (by kernel_rfl) (opensF_last (opens_int Try.underlying3) (by kernel_rfl))))) (fun x h => h)
end
set_option maxRecDepth 100000 in
theorem lifted (os : Os) (started : os.Started) (H : Type) (enc : TypeId × Value → H) :
    ReturnsInHanded {} Try.checked os 4 .any (Rows.fnExactGoodTermSpec.pre6 enc Try.prog Try.f4 Rows.fnExactGoodTermRow.domain false) (Rows.fnExactGoodTermSpec.post enc Try.prog Try.f4 false true false false) := by
  refine returnsInHanded_of_change_sized (C := Try.checked) own started (by kernel_rfl) Try.func4
    (ChangeSpec.witness6 (enc := enc) (C := Try.checked) false ⟨#[], #[.slice none 0 0], []⟩ 8 (by kernel_rfl) (by kernel_rfl) (by kernel_rfl) (by kernel_rfl)) ?_
  intro W base args ds gs before hval0 hW hcnd hsz0 _
  have hsz : (DataW.weightsEach Try.prog (Try.f4.params.toList ++ Rows.fnExactGoodTermSpec.plain.varTypes Try.prog) (ds ++ gs)).all (· ≤ reachBytes) = true := hsz0
  have hval : ∀ (j : Nat) t v, Try.f4.params[j]? = some t → args[j]? = some v → Value.okWide Try.prog W .any base t v := hval0
  have hW' := hW
  obtain ⟨p, q, hA0, hV, rfl, hfz, hnd⟩ := hW
  have hA : DataW.TrodAll enc Try.prog W 0 (fun _ => true) true Try.f4.params.toList args.toList ds p := hA0
  rw [Try.params4] at hA hval hsz
  obtain ⟨v0, vs0, d0, ds0, p0, q0, hargs, rfl, rfl, h0, r0⟩ := trodAll_cons hA
  obtain ⟨rfl, rfl, rfl⟩ := trodAll_nil r0
  obtain rfl : args = #[v0] := by cases args; simp_all
  obtain ⟨rfl, rfl⟩ := trodVars_none hV
  have k0 := h0
  have lt0 : ∀ x ∈ p0, x.block < W.heap.size := by obtain ⟨m, hm⟩ := k0; exact DataW.trod_lt m _ _ _ hm
  obtain ⟨A0, l0, c0, rfl, hc0, hr0, hg0⟩ := slice_in Try.underlying29 (opens_slice Try.underlying29 openT65 (by kernel_rfl)) (hval 0 29 v0 rfl rfl) h0
  clear hA0 hval0 hsz0 hsz
  obtain ⟨k_, hk_⟩ := Pure.FnExactGoodTerm l0 hg0
  refine (laws_FnExactGoodTerm.calls k_ A0 c0 l0 true W hr0 hc0 hk_).mono fun e W' ⟨he, bel0⟩ => ?_
  have bel : Below W.heap.size W W' := bel0
  subst he
  exact ⟨_, rfl, _, _, _, [], _, [], hW', trodAll_mk1 (shut_bool Try.underlying4 _), (trodAll_cons_mk (Below.trod laidOut (by kernel_rfl) (of_decide_eq_true (by kernel_rfl)) k0 bel lt0) trodAll_mk0), rfl, bel.frame _, fun h => by cases h⟩
theorem over : Rows.fnExactGoodTermRow.holds Try.pinned (OpenSpec.ofChange Rows.fnExactGoodTermSpec) :=
  OpenClaim.holds_of_wide 4 Try.f4 rfl rfl rfl rfl rfl rfl rfl ⟨rfl, rfl, rfl, rfl, rfl⟩ rfl rfl rfl rfl rfl (by kernel_rfl) Try.func4 (by kernel_rfl)
    (of_decide_eq_true (by kernel_rfl)) (by unfold Func.isWrapper; first | (rw [if_pos (by decide +kernel)]; kernel_rfl) | (rw [if_neg (by decide +kernel)]; exact ⟨rfl, rfl⟩))
    (fun os started H enc _ => lifted os started H enc)
theorem proved : Rows.FnExactGoodTermSaid := over
#print axioms proved
end Go.Proofs.Ytcjhhdecckcibaa.fnExactGoodTerm
namespace Go.Proofs.Ytcjhhdecckcibaa
/-- The row, under a short name, for the claim. -/
theorem fnExactGoodTerm_holds : Rows.FnExactGoodTermSaid := fnExactGoodTerm.proved
end Go.Proofs.Ytcjhhdecckcibaa
