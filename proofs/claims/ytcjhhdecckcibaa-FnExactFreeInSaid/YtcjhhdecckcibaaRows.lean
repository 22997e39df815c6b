/-
  No cell of these rows narrows 'for every input' (looked for: loops, veiled, ifaces, maps, wideKeys, modest, calm, conditions, laid).
  DERIVED. THE GIVEN ROWS OF THIS SEAT. 8 by the template 'for every input the law returns true; each argument reads behind the call as it read before'; 0 by the template 'total and deterministic' (their statements: YtcjhhdecckcibaaTotals.lean).
  GIVEN WITH THE SEED: the statements are not yours to turn. If you find one false, say at which input.
  Laid BY PROGRAM, IN A SANDBOX (cutbox-rows.mjs): the forced cells as the released guide's own fill.sh prints them over the translation 63fd4dd8a951c3ca… (all of the seat's roots in one cut). By AI agents, Wed Nov 11 2026. No macro, syntax, notation, axiom, sorry.
-/
import Derived.Test.YtcjhhdecckcibaaChecked
import GoSem.Claim
import GoSem.ClaimJoined
import GoSem.ClaimMapViews
import Derived.JoinedTies
import Derived.KernelRfl
namespace Go.Proofs.Ytcjhhdecckcibaa
/- THE CELL 'sum', in the pinned program and in every row, IS THE sha256 OF THE DUMP (.gsa) THAT YtcjhhdecckcibaaProg.lean LOADS. Nothing in Lean hashes anything: it is a label: what it is worth is what the hold of that sum in a sandbox is worth. -/
noncomputable def Try.pinned : Pinned := { name := "ytcjhhdecckcibaa", sum := "63fd4dd8a951c3cad8885da5efe7e7a28165729277408a0d4a3da00b3495beaa", checked := Try.checked }
namespace Rows
def none {H : Type} : Left H := { results := [], args := [] }

/-- 'laws.FnExactGoodComb': WHATEVER THE INPUT: true; the input reads as it did. -/
def fnExactGoodCombSpec : ChangeSpec := { name := "fnExactGoodComb", fn := fun _ => fun
  | [d] => { results := [.lit (.bool true)], args := [d] }
  | _ => none }
def fnExactGoodCombRow : OpenClaim := { program := "ytcjhhdecckcibaa", sum := "63fd4dd8a951c3cad8885da5efe7e7a28165729277408a0d4a3da00b3495beaa", func := "loop.example/g00201/laws.FnExactGoodComb", spec := "fnExactGoodComb", recurses := true, apart := false }
def FnExactGoodCombSaid : Prop := fnExactGoodCombRow.holds Try.pinned (OpenSpec.ofChange fnExactGoodCombSpec)

/-- ITS FALSE NEIGHBOUR: 'it returns false'. Refute it at one input. -/
def fnExactGoodCombWrong : ChangeSpec := { name := "fnExactGoodComb", fn := fun _ => fun
  | [d] => { results := [.lit (.bool false)], args := [d] }
  | _ => none }
def FnExactGoodCombWrongFalsely : Prop := fnExactGoodCombRow.holds Try.pinned (OpenSpec.ofChange fnExactGoodCombWrong)

/-- 'laws.FnExactGoodTerm': WHATEVER THE INPUT: true; the input reads as it did. -/
def fnExactGoodTermSpec : ChangeSpec := { name := "fnExactGoodTerm", fn := fun _ => fun
  | [d] => { results := [.lit (.bool true)], args := [d] }
  | _ => none }
def fnExactGoodTermRow : OpenClaim := { program := "ytcjhhdecckcibaa", sum := "63fd4dd8a951c3cad8885da5efe7e7a28165729277408a0d4a3da00b3495beaa", func := "loop.example/g00201/laws.FnExactGoodTerm", spec := "fnExactGoodTerm", unfollowed := true, recurses := true, apart := false }
def FnExactGoodTermSaid : Prop := fnExactGoodTermRow.holds Try.pinned (OpenSpec.ofChange fnExactGoodTermSpec)

/-- ITS FALSE NEIGHBOUR: 'it returns false'. Refute it at one input. -/
def fnExactGoodTermWrong : ChangeSpec := { name := "fnExactGoodTerm", fn := fun _ => fun
  | [d] => { results := [.lit (.bool false)], args := [d] }
  | _ => none }
def FnExactGoodTermWrongFalsely : Prop := fnExactGoodTermRow.holds Try.pinned (OpenSpec.ofChange fnExactGoodTermWrong)

/-- 'laws.FnExactRedexesIn': WHATEVER THE INPUT: true; the input reads as it did. -/
def fnExactRedexesInSpec : ChangeSpec := { name := "fnExactRedexesIn", fn := fun _ => fun
  | [d] => { results := [.lit (.bool true)], args := [d] }
  | _ => none }
def fnExactRedexesInRow : OpenClaim := { program := "ytcjhhdecckcibaa", sum := "63fd4dd8a951c3cad8885da5efe7e7a28165729277408a0d4a3da00b3495beaa", func := "loop.example/g00201/laws.FnExactRedexesIn", spec := "fnExactRedexesIn", unfollowed := true, recurses := true, apart := false }
def FnExactRedexesInSaid : Prop := fnExactRedexesInRow.holds Try.pinned (OpenSpec.ofChange fnExactRedexesInSpec)

/-- ITS FALSE NEIGHBOUR: 'it returns false'. Refute it at one input. -/
def fnExactRedexesInWrong : ChangeSpec := { name := "fnExactRedexesIn", fn := fun _ => fun
  | [d] => { results := [.lit (.bool false)], args := [d] }
  | _ => none }
def FnExactRedexesInWrongFalsely : Prop := fnExactRedexesInRow.holds Try.pinned (OpenSpec.ofChange fnExactRedexesInWrong)

/-- 'laws.FnExactAbstractComb': WHATEVER THE INPUT: true; the input reads as it did. -/
def fnExactAbstractCombSpec : ChangeSpec := { name := "fnExactAbstractComb", fn := fun _ => fun
  | [d1, d2] => { results := [.lit (.bool true)], args := [d1, d2] }
  | _ => none }
def fnExactAbstractCombRow : OpenClaim := { program := "ytcjhhdecckcibaa", sum := "63fd4dd8a951c3cad8885da5efe7e7a28165729277408a0d4a3da00b3495beaa", func := "loop.example/g00201/laws.FnExactAbstractComb", spec := "fnExactAbstractComb", unfollowed := true, recurses := true, apart := false }
def FnExactAbstractCombSaid : Prop := fnExactAbstractCombRow.holds Try.pinned (OpenSpec.ofChange fnExactAbstractCombSpec)

/-- ITS FALSE NEIGHBOUR: 'it returns false'. Refute it at one input. -/
def fnExactAbstractCombWrong : ChangeSpec := { name := "fnExactAbstractComb", fn := fun _ => fun
  | [d1, d2] => { results := [.lit (.bool false)], args := [d1, d2] }
  | _ => none }
def FnExactAbstractCombWrongFalsely : Prop := fnExactAbstractCombRow.holds Try.pinned (OpenSpec.ofChange fnExactAbstractCombWrong)

/-- 'laws.FnExactStepComb': WHATEVER THE INPUT: true; the input reads as it did. -/
def fnExactStepCombSpec : ChangeSpec := { name := "fnExactStepComb", fn := fun _ => fun
  | [d] => { results := [.lit (.bool true)], args := [d] }
  | _ => none }
def fnExactStepCombRow : OpenClaim := { program := "ytcjhhdecckcibaa", sum := "63fd4dd8a951c3cad8885da5efe7e7a28165729277408a0d4a3da00b3495beaa", func := "loop.example/g00201/laws.FnExactStepComb", spec := "fnExactStepComb", unfollowed := true, recurses := true, apart := false }
def FnExactStepCombSaid : Prop := fnExactStepCombRow.holds Try.pinned (OpenSpec.ofChange fnExactStepCombSpec)

/-- ITS FALSE NEIGHBOUR: 'it returns false'. Refute it at one input. -/
def fnExactStepCombWrong : ChangeSpec := { name := "fnExactStepComb", fn := fun _ => fun
  | [d] => { results := [.lit (.bool false)], args := [d] }
  | _ => none }
def FnExactStepCombWrongFalsely : Prop := fnExactStepCombRow.holds Try.pinned (OpenSpec.ofChange fnExactStepCombWrong)

/-- 'laws.FnExactNormalComb': WHATEVER THE INPUT: true; the input reads as it did. -/
def fnExactNormalCombSpec : ChangeSpec := { name := "fnExactNormalComb", fn := fun _ => fun
  | [d1, d2] => { results := [.lit (.bool true)], args := [d1, d2] }
  | _ => none }
def fnExactNormalCombRow : OpenClaim := { program := "ytcjhhdecckcibaa", sum := "63fd4dd8a951c3cad8885da5efe7e7a28165729277408a0d4a3da00b3495beaa", func := "loop.example/g00201/laws.FnExactNormalComb", spec := "fnExactNormalComb", unfollowed := true, recurses := true, apart := false }
def FnExactNormalCombSaid : Prop := fnExactNormalCombRow.holds Try.pinned (OpenSpec.ofChange fnExactNormalCombSpec)

/-- ITS FALSE NEIGHBOUR: 'it returns false'. Refute it at one input. -/
def fnExactNormalCombWrong : ChangeSpec := { name := "fnExactNormalComb", fn := fun _ => fun
  | [d1, d2] => { results := [.lit (.bool false)], args := [d1, d2] }
  | _ => none }
def FnExactNormalCombWrongFalsely : Prop := fnExactNormalCombRow.holds Try.pinned (OpenSpec.ofChange fnExactNormalCombWrong)

/-- 'laws.FnExactCombOfTerm': WHATEVER THE INPUT: true; the input reads as it did. -/
def fnExactCombOfTermSpec : ChangeSpec := { name := "fnExactCombOfTerm", fn := fun _ => fun
  | [d] => { results := [.lit (.bool true)], args := [d] }
  | _ => none }
def fnExactCombOfTermRow : OpenClaim := { program := "ytcjhhdecckcibaa", sum := "63fd4dd8a951c3cad8885da5efe7e7a28165729277408a0d4a3da00b3495beaa", func := "loop.example/g00201/laws.FnExactCombOfTerm", spec := "fnExactCombOfTerm", unfollowed := true, recurses := true, apart := false }
def FnExactCombOfTermSaid : Prop := fnExactCombOfTermRow.holds Try.pinned (OpenSpec.ofChange fnExactCombOfTermSpec)

/-- ITS FALSE NEIGHBOUR: 'it returns false'. Refute it at one input. -/
def fnExactCombOfTermWrong : ChangeSpec := { name := "fnExactCombOfTerm", fn := fun _ => fun
  | [d] => { results := [.lit (.bool false)], args := [d] }
  | _ => none }
def FnExactCombOfTermWrongFalsely : Prop := fnExactCombOfTermRow.holds Try.pinned (OpenSpec.ofChange fnExactCombOfTermWrong)

/-- 'laws.FnExactFreeIn': WHATEVER THE INPUT: true; the input reads as it did. -/
def fnExactFreeInSpec : ChangeSpec := { name := "fnExactFreeIn", fn := fun _ => fun
  | [d] => { results := [.lit (.bool true)], args := [d] }
  | _ => none }
def fnExactFreeInRow : OpenClaim := { program := "ytcjhhdecckcibaa", sum := "63fd4dd8a951c3cad8885da5efe7e7a28165729277408a0d4a3da00b3495beaa", func := "loop.example/g00201/laws.FnExactFreeIn", spec := "fnExactFreeIn", unfollowed := true, recurses := true, apart := false }
def FnExactFreeInSaid : Prop := fnExactFreeInRow.holds Try.pinned (OpenSpec.ofChange fnExactFreeInSpec)

/-- ITS FALSE NEIGHBOUR: 'it returns false'. Refute it at one input. -/
def fnExactFreeInWrong : ChangeSpec := { name := "fnExactFreeIn", fn := fun _ => fun
  | [d] => { results := [.lit (.bool false)], args := [d] }
  | _ => none }
def FnExactFreeInWrongFalsely : Prop := fnExactFreeInRow.holds Try.pinned (OpenSpec.ofChange fnExactFreeInWrong)

/- THE SECOND FORM. 'bulk': how many values and letters a reading holds, each counted each time it is reached (what is shared counts as often as it is met; a slice's spare places count too). A statement '..UptoSaid' is the law's where the arguments, and the package variables that the reading takes, are together of bulk at most 1048576: NARROWER than '..Said'. Prove '..Said' where nothing that the law and all that it calls make is longer than what came in: it says more and counts as full. Else prove '..UptoSaid'. A law counts once. -/
mutual
def uptoBulk {H : Type} : DataW H → Nat
  | .lit (.string bytes) => bytes.length + 1
  | .lit _ => 1
  | .nil => 1
  | .ptr d => uptoBulk d + 1
  | .slice elems spare => uptoBulkAll elems + uptoBulkAll spare + 1
  | .agg parts => uptoBulkAll parts + 1
  | .iface _ d => uptoBulk d + 1
  | .map entries => uptoBulkEntries entries + 1
  | .held _ => 1
def uptoBulkAll {H : Type} : List (DataW H) → Nat
  | [] => 0
  | d :: r => uptoBulk d + uptoBulkAll r
def uptoBulkEntries {H : Type} : List (Lit × DataW H) → Nat
  | [] => 0
  | x :: r => uptoBulkEntry x + uptoBulkEntries r
def uptoBulkEntry {H : Type} : Lit × DataW H → Nat
  | (.string bytes, d) => bytes.length + uptoBulk d + 1
  | (_, d) => uptoBulk d + 1
 end
def uptoSmall : (H : Type) → List (DataW H) → Bool := fun _ ds => decide (uptoBulkAll ds ≤ 1048576)
def OpenSpec.upto (s : _root_.Go.ChangeSpec) : _root_.Go.OpenSpec := { _root_.Go.OpenSpec.ofChange s with cond := some uptoSmall }

/-- 'laws.FnExactGoodComb', WHERE WHAT IT READS IS OF BULK AT MOST 1048576: true; the input reads as it did. -/
def fnExactGoodCombUptoRow : OpenClaim := { program := "ytcjhhdecckcibaa", sum := "63fd4dd8a951c3cad8885da5efe7e7a28165729277408a0d4a3da00b3495beaa", func := "loop.example/g00201/laws.FnExactGoodComb", spec := "fnExactGoodComb", recurses := true, apart := false, narrowed := true }
def FnExactGoodCombUptoSaid : Prop := fnExactGoodCombUptoRow.holds Try.pinned (OpenSpec.upto fnExactGoodCombSpec)

/-- 'laws.FnExactGoodTerm', WHERE WHAT IT READS IS OF BULK AT MOST 1048576: true; the input reads as it did. -/
def fnExactGoodTermUptoRow : OpenClaim := { program := "ytcjhhdecckcibaa", sum := "63fd4dd8a951c3cad8885da5efe7e7a28165729277408a0d4a3da00b3495beaa", func := "loop.example/g00201/laws.FnExactGoodTerm", spec := "fnExactGoodTerm", unfollowed := true, recurses := true, apart := false, narrowed := true }
def FnExactGoodTermUptoSaid : Prop := fnExactGoodTermUptoRow.holds Try.pinned (OpenSpec.upto fnExactGoodTermSpec)

/-- 'laws.FnExactRedexesIn', WHERE WHAT IT READS IS OF BULK AT MOST 1048576: true; the input reads as it did. -/
def fnExactRedexesInUptoRow : OpenClaim := { program := "ytcjhhdecckcibaa", sum := "63fd4dd8a951c3cad8885da5efe7e7a28165729277408a0d4a3da00b3495beaa", func := "loop.example/g00201/laws.FnExactRedexesIn", spec := "fnExactRedexesIn", unfollowed := true, recurses := true, apart := false, narrowed := true }
def FnExactRedexesInUptoSaid : Prop := fnExactRedexesInUptoRow.holds Try.pinned (OpenSpec.upto fnExactRedexesInSpec)

/-- 'laws.FnExactAbstractComb', WHERE WHAT IT READS IS OF BULK AT MOST 1048576: true; the input reads as it did. -/
def fnExactAbstractCombUptoRow : OpenClaim := { program := "ytcjhhdecckcibaa", sum := "63fd4dd8a951c3cad8885da5efe7e7a28165729277408a0d4a3da00b3495beaa", func := "loop.example/g00201/laws.FnExactAbstractComb", spec := "fnExactAbstractComb", unfollowed := true, recurses := true, apart := false, narrowed := true }
def FnExactAbstractCombUptoSaid : Prop := fnExactAbstractCombUptoRow.holds Try.pinned (OpenSpec.upto fnExactAbstractCombSpec)

/-- 'laws.FnExactStepComb', WHERE WHAT IT READS IS OF BULK AT MOST 1048576: true; the input reads as it did. -/
def fnExactStepCombUptoRow : OpenClaim := { program := "ytcjhhdecckcibaa", sum := "63fd4dd8a951c3cad8885da5efe7e7a28165729277408a0d4a3da00b3495beaa", func := "loop.example/g00201/laws.FnExactStepComb", spec := "fnExactStepComb", unfollowed := true, recurses := true, apart := false, narrowed := true }
def FnExactStepCombUptoSaid : Prop := fnExactStepCombUptoRow.holds Try.pinned (OpenSpec.upto fnExactStepCombSpec)

/-- 'laws.FnExactNormalComb', WHERE WHAT IT READS IS OF BULK AT MOST 1048576: true; the input reads as it did. -/
def fnExactNormalCombUptoRow : OpenClaim := { program := "ytcjhhdecckcibaa", sum := "63fd4dd8a951c3cad8885da5efe7e7a28165729277408a0d4a3da00b3495beaa", func := "loop.example/g00201/laws.FnExactNormalComb", spec := "fnExactNormalComb", unfollowed := true, recurses := true, apart := false, narrowed := true }
def FnExactNormalCombUptoSaid : Prop := fnExactNormalCombUptoRow.holds Try.pinned (OpenSpec.upto fnExactNormalCombSpec)

/-- 'laws.FnExactCombOfTerm', WHERE WHAT IT READS IS OF BULK AT MOST 1048576: true; the input reads as it did. -/
def fnExactCombOfTermUptoRow : OpenClaim := { program := "ytcjhhdecckcibaa", sum := "63fd4dd8a951c3cad8885da5efe7e7a28165729277408a0d4a3da00b3495beaa", func := "loop.example/g00201/laws.FnExactCombOfTerm", spec := "fnExactCombOfTerm", unfollowed := true, recurses := true, apart := false, narrowed := true }
def FnExactCombOfTermUptoSaid : Prop := fnExactCombOfTermUptoRow.holds Try.pinned (OpenSpec.upto fnExactCombOfTermSpec)

/-- 'laws.FnExactFreeIn', WHERE WHAT IT READS IS OF BULK AT MOST 1048576: true; the input reads as it did. -/
def fnExactFreeInUptoRow : OpenClaim := { program := "ytcjhhdecckcibaa", sum := "63fd4dd8a951c3cad8885da5efe7e7a28165729277408a0d4a3da00b3495beaa", func := "loop.example/g00201/laws.FnExactFreeIn", spec := "fnExactFreeIn", unfollowed := true, recurses := true, apart := false, narrowed := true }
def FnExactFreeInUptoSaid : Prop := fnExactFreeInUptoRow.holds Try.pinned (OpenSpec.upto fnExactFreeInSpec)

end Rows
end Go.Proofs.Ytcjhhdecckcibaa
