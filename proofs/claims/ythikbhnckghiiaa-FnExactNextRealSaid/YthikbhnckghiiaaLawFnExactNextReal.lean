/- The law FnExactNextReal of the program holds: for every input that can be read, the call returns true and leaves its arguments as they were. No condition. -/
import Derived.Test.YthikbhnckghiiaaRows
import Derived.Test.YthikbhnckghiiaaMFnExactNextRealx4
import Derived.Test.YthikbhnckghiiaaPureFnExactNextReal
import Derived.Test.YthikbhnckghiiaaOpen
import Derived.WalkKit
import Derived.ProofKit
import Derived.OpenShut
import Derived.ShutString
import Derived.ChangeOld
import Derived.Below
import Derived.SizedLaws
import Derived.Test.YthikbhnckghiiaaWSized
namespace Go.Proofs.Ythikbhnckghiiaa.fnExactNextReal
open Go.ChangeShapes Go.WideShapes Go.ChangeAt Go.RowKit Go.Proofs.Ythikbhnckghiiaa.Open Go.Proofs.Ythikbhnckghiiaa.MFnExactNextReal Go.Proofs.YthikbhnckghiiaaW.PrintWords
open Go.ChangeMaps (open_string shut_string)
set_option linter.unusedVariables false
theorem own : ownKnob Try.prog.godebug = none := by kernel_rfl
theorem laidOut : laidOutB Try.prog = true := by kernel_rfl
section
variable {H : Type} {enc : TypeId × Value → H}
theorem openT25 : Opens H enc Try.prog 25 k25 (fun x => (True ∧ (Lit.int .i64 x.f1).wf = true ∧ (Lit.int .i64 x.f2).wf = true)) :=
  opens_imp (opens_struct (fun x : S25 => (x.f0, x.f1, x.f2)) (fun y => (⟨y.1, y.2.1, y.2.2⟩ : S25)) (fun _ => rfl) Try.underlying25 (by kernel_rfl) (opensF_cons (opens_bool Try.underlying4) (by kernel_rfl) (opensF_cons (opens_int Try.underlying3) (by kernel_rfl) (opensF_last (opens_int Try.underlying3) (by kernel_rfl))))) (fun x h => h)
end
set_option maxRecDepth 100000 in
theorem lifted (os : Os) (started : os.Started) (H : Type) (enc : TypeId × Value → H) :
    ReturnsInHanded {} Try.checked os 7 .any (Rows.fnExactNextRealSpec.pre6 enc Try.prog Try.f7 Rows.fnExactNextRealRow.domain false) (Rows.fnExactNextRealSpec.post enc Try.prog Try.f7 false true false false) := by
  refine returnsInHanded_of_change_sized (C := Try.checked) own started (by kernel_rfl) Try.func7
    (ChangeSpec.witness6 (enc := enc) (C := Try.checked) false ⟨#[], #[.agg #[.bool false, .int .i64 0, .int .i64 0]], []⟩ 8 (by kernel_rfl) (by kernel_rfl) (by kernel_rfl) (by kernel_rfl)) ?_
  intro W base args ds gs before hval0 hW hcnd hsz0 _
  have hsz : (DataW.weightsEach Try.prog (Try.f7.params.toList ++ Rows.fnExactNextRealSpec.plain.varTypes Try.prog) (ds ++ gs)).all (· ≤ reachBytes) = true := hsz0
  have hval : ∀ (j : Nat) t v, Try.f7.params[j]? = some t → args[j]? = some v → Value.okWide Try.prog W .any base t v := hval0
  have hW' := hW
  obtain ⟨p, q, hA0, hV, rfl, hfz, hnd⟩ := hW
  have hA : DataW.TrodAll enc Try.prog W 0 (fun _ => true) true Try.f7.params.toList args.toList ds p := hA0
  rw [Try.params7] at hA hval hsz
  obtain ⟨v0, vs0, d0, ds0, p0, q0, hargs, rfl, rfl, h0, r0⟩ := trodAll_cons hA
  obtain ⟨rfl, rfl, rfl⟩ := trodAll_nil r0
  obtain rfl : args = #[v0] := by cases args; simp_all
  obtain ⟨rfl, rfl⟩ := trodVars_none hV
  have k0 := h0
  have lt0 : ∀ x ∈ p0, x.block < W.heap.size := by obtain ⟨m, hm⟩ := k0; exact DataW.trod_lt m _ _ _ hm
  obtain ⟨x0, cs0, rfl, hK0, hg0⟩ := struct_in Try.underlying25 openT25 (hval 0 25 v0 rfl rfl) h0
  obtain rfl := k25_open hK0
  obtain ⟨_, hg0_1, hg0_2⟩ := hg0
  clear hA0 hval0 hsz0 hsz
  obtain ⟨k_, hk_⟩ := Pure.FnExactNextReal x0.f0 x0.f1 x0.f2 hg0_1 hg0_2
  refine (laws_FnExactNextReal.calls k_ x0.f0 x0.f1 x0.f2 true W  hk_).mono fun e W' ⟨he, bel0⟩ => ?_
  have bel : Below W.heap.size W W' := bel0
  subst he
  exact ⟨_, rfl, _, _, _, [], _, [], hW', trodAll_mk1 (shut_bool Try.underlying4 _), (trodAll_cons_mk (Below.trod laidOut (by kernel_rfl) (of_decide_eq_true (by kernel_rfl)) k0 bel lt0) trodAll_mk0), rfl, bel.frame _, fun h => by cases h⟩
theorem over : Rows.fnExactNextRealRow.holds Try.pinned (OpenSpec.ofChange Rows.fnExactNextRealSpec) :=
  OpenClaim.holds_of_wide 7 Try.f7 rfl rfl rfl rfl rfl rfl rfl ⟨rfl, rfl, rfl, rfl, rfl⟩ rfl rfl rfl rfl rfl (by kernel_rfl) Try.func7 (by kernel_rfl)
    (of_decide_eq_true (by kernel_rfl)) (by unfold Func.isWrapper; first | (rw [if_pos (by decide +kernel)]; kernel_rfl) | (rw [if_neg (by decide +kernel)]; exact ⟨rfl, rfl⟩))
    (fun os started H enc _ => lifted os started H enc)
theorem proved : Rows.FnExactNextRealSaid := over
#print axioms proved
end Go.Proofs.Ythikbhnckghiiaa.fnExactNextReal
namespace Go.Proofs.Ythikbhnckghiiaa
/-- The row, under a short name, for the claim. -/
theorem fnExactNextReal_holds : Rows.FnExactNextRealSaid := fnExactNextReal.proved
end Go.Proofs.Ythikbhnckghiiaa
