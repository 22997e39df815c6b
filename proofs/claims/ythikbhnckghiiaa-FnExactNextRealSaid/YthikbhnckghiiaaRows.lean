/-
  No cell of these rows narrows 'for every input' (looked for: loops, veiled, ifaces, maps, wideKeys, modest, calm, conditions, laid).
  DERIVED. THE GIVEN ROWS OF THIS SEAT. 5 by the template 'for every input the law returns true; each argument reads behind the call as it read before'; 0 by the template 'total and deterministic' (their statements: YthikbhnckghiiaaTotals.lean).
  GIVEN WITH THE SEED: the statements are not yours to turn. If you find one false, say at which input.
  Laid BY PROGRAM, IN A SANDBOX (cutbox-rows.mjs): the forced cells as the released guide's own fill.sh prints them over the translation bc9a36233f337db9… (all of the seat's roots in one cut). By AI agents, Wed Nov 11 2026. No macro, syntax, notation, axiom, sorry.
-/
import Derived.Test.YthikbhnckghiiaaChecked
import GoSem.Claim
import GoSem.ClaimJoined
import GoSem.ClaimMapViews
import Derived.JoinedTies
import Derived.KernelRfl
namespace Go.Proofs.Ythikbhnckghiiaa
/- THE CELL 'sum', in the pinned program and in every row, IS THE sha256 OF THE DUMP (.gsa) THAT YthikbhnckghiiaaProg.lean LOADS. Nothing in Lean hashes anything: it is a label: what it is worth is what the hold of that sum in a sandbox is worth. -/
noncomputable def Try.pinned : Pinned := { name := "ythikbhnckghiiaa", sum := "bc9a36233f337db9fa2838376c9faa372f5ee38600995ff62037ef339174fd67", checked := Try.checked }
namespace Rows
def none {H : Type} : Left H := { results := [], args := [] }

/-- 'laws.FnExactConstants': WHATEVER THE INPUT: true; the input reads as it did. -/
def fnExactConstantsSpec : ChangeSpec := { name := "fnExactConstants", fn := fun _ => fun
  | [] => { results := [.lit (.bool true)], args := [] }
  | _ => none }
def fnExactConstantsRow : OpenClaim := { program := "ythikbhnckghiiaa", sum := "bc9a36233f337db9fa2838376c9faa372f5ee38600995ff62037ef339174fd67", func := "loop.example/g00201/laws.FnExactConstants", spec := "fnExactConstants", apart := false }
def FnExactConstantsSaid : Prop := fnExactConstantsRow.holds Try.pinned (OpenSpec.ofChange fnExactConstantsSpec)

/-- ITS FALSE NEIGHBOUR: 'it returns false'. Refute it at one input. -/
def fnExactConstantsWrong : ChangeSpec := { name := "fnExactConstants", fn := fun _ => fun
  | [] => { results := [.lit (.bool false)], args := [] }
  | _ => none }
def FnExactConstantsWrongFalsely : Prop := fnExactConstantsRow.holds Try.pinned (OpenSpec.ofChange fnExactConstantsWrong)

/-- 'laws.FnExactIsKeyword': WHATEVER THE INPUT: true; the input reads as it did. -/
def fnExactIsKeywordSpec : ChangeSpec := { name := "fnExactIsKeyword", fn := fun _ => fun
  | [d] => { results := [.lit (.bool true)], args := [d] }
  | _ => none }
def fnExactIsKeywordRow : OpenClaim := { program := "ythikbhnckghiiaa", sum := "bc9a36233f337db9fa2838376c9faa372f5ee38600995ff62037ef339174fd67", func := "loop.example/g00201/laws.FnExactIsKeyword", spec := "fnExactIsKeyword", apart := false }
def FnExactIsKeywordSaid : Prop := fnExactIsKeywordRow.holds Try.pinned (OpenSpec.ofChange fnExactIsKeywordSpec)

/-- ITS FALSE NEIGHBOUR: 'it returns false'. Refute it at one input. -/
def fnExactIsKeywordWrong : ChangeSpec := { name := "fnExactIsKeyword", fn := fun _ => fun
  | [d] => { results := [.lit (.bool false)], args := [d] }
  | _ => none }
def FnExactIsKeywordWrongFalsely : Prop := fnExactIsKeywordRow.holds Try.pinned (OpenSpec.ofChange fnExactIsKeywordWrong)

/-- 'laws.FnExactIsPrimitive': WHATEVER THE INPUT: true; the input reads as it did. -/
def fnExactIsPrimitiveSpec : ChangeSpec := { name := "fnExactIsPrimitive", fn := fun _ => fun
  | [d] => { results := [.lit (.bool true)], args := [d] }
  | _ => none }
def fnExactIsPrimitiveRow : OpenClaim := { program := "ythikbhnckghiiaa", sum := "bc9a36233f337db9fa2838376c9faa372f5ee38600995ff62037ef339174fd67", func := "loop.example/g00201/laws.FnExactIsPrimitive", spec := "fnExactIsPrimitive", apart := false }
def FnExactIsPrimitiveSaid : Prop := fnExactIsPrimitiveRow.holds Try.pinned (OpenSpec.ofChange fnExactIsPrimitiveSpec)

/-- ITS FALSE NEIGHBOUR: 'it returns false'. Refute it at one input. -/
def fnExactIsPrimitiveWrong : ChangeSpec := { name := "fnExactIsPrimitive", fn := fun _ => fun
  | [d] => { results := [.lit (.bool false)], args := [d] }
  | _ => none }
def FnExactIsPrimitiveWrongFalsely : Prop := fnExactIsPrimitiveRow.holds Try.pinned (OpenSpec.ofChange fnExactIsPrimitiveWrong)

/-- 'laws.FnExactGoodReal': WHATEVER THE INPUT: true; the input reads as it did. -/
def fnExactGoodRealSpec : ChangeSpec := { name := "fnExactGoodReal", fn := fun _ => fun
  | [d] => { results := [.lit (.bool true)], args := [d] }
  | _ => none }
def fnExactGoodRealRow : OpenClaim := { program := "ythikbhnckghiiaa", sum := "bc9a36233f337db9fa2838376c9faa372f5ee38600995ff62037ef339174fd67", func := "loop.example/g00201/laws.FnExactGoodReal", spec := "fnExactGoodReal", apart := false }
def FnExactGoodRealSaid : Prop := fnExactGoodRealRow.holds Try.pinned (OpenSpec.ofChange fnExactGoodRealSpec)

/-- ITS FALSE NEIGHBOUR: 'it returns false'. Refute it at one input. -/
def fnExactGoodRealWrong : ChangeSpec := { name := "fnExactGoodReal", fn := fun _ => fun
  | [d] => { results := [.lit (.bool false)], args := [d] }
  | _ => none }
def FnExactGoodRealWrongFalsely : Prop := fnExactGoodRealRow.holds Try.pinned (OpenSpec.ofChange fnExactGoodRealWrong)

/-- 'laws.FnExactNextReal': WHATEVER THE INPUT: true; the input reads as it did. -/
def fnExactNextRealSpec : ChangeSpec := { name := "fnExactNextReal", fn := fun _ => fun
  | [d] => { results := [.lit (.bool true)], args := [d] }
  | _ => none }
def fnExactNextRealRow : OpenClaim := { program := "ythikbhnckghiiaa", sum := "bc9a36233f337db9fa2838376c9faa372f5ee38600995ff62037ef339174fd67", func := "loop.example/g00201/laws.FnExactNextReal", spec := "fnExactNextReal", apart := false }
def FnExactNextRealSaid : Prop := fnExactNextRealRow.holds Try.pinned (OpenSpec.ofChange fnExactNextRealSpec)

/-- ITS FALSE NEIGHBOUR: 'it returns false'. Refute it at one input. -/
def fnExactNextRealWrong : ChangeSpec := { name := "fnExactNextReal", fn := fun _ => fun
  | [d] => { results := [.lit (.bool false)], args := [d] }
  | _ => none }
def FnExactNextRealWrongFalsely : Prop := fnExactNextRealRow.holds Try.pinned (OpenSpec.ofChange fnExactNextRealWrong)

/- THE SECOND FORM. 'bulk': how many values and letters a reading holds, each counted each time it is reached (what is shared counts as often as it is met; a slice's spare places count too). A statement '..UptoSaid' is the law's where the arguments, and the package variables that the reading takes, are together of bulk at most 1048576: NARROWER than '..Said'. Prove '..Said' where nothing that the law and all that it calls make is longer than what came in: it says more and counts as full. Else prove '..UptoSaid'. A law counts once. -/
mutual
def uptoBulk {H : Type} : DataW H → Nat
  | .lit (.string bytes) => bytes.length + 1
  | .lit _ => 1
  | .nil => 1
  | .ptr d => uptoBulk d + 1
  | .slice elems spare => uptoBulkAll elems + uptoBulkAll spare + 1
  | .agg parts => uptoBulkAll parts + 1
  | .iface _ d => uptoBulk d + 1
  | .map entries => uptoBulkEntries entries + 1
  | .held _ => 1
def uptoBulkAll {H : Type} : List (DataW H) → Nat
  | [] => 0
  | d :: r => uptoBulk d + uptoBulkAll r
def uptoBulkEntries {H : Type} : List (Lit × DataW H) → Nat
  | [] => 0
  | x :: r => uptoBulkEntry x + uptoBulkEntries r
def uptoBulkEntry {H : Type} : Lit × DataW H → Nat
  | (.string bytes, d) => bytes.length + uptoBulk d + 1
  | (_, d) => uptoBulk d + 1
 end
def uptoSmall : (H : Type) → List (DataW H) → Bool := fun _ ds => decide (uptoBulkAll ds ≤ 1048576)
def OpenSpec.upto (s : _root_.Go.ChangeSpec) : _root_.Go.OpenSpec := { _root_.Go.OpenSpec.ofChange s with cond := some uptoSmall }

/-- 'laws.FnExactConstants', WHERE WHAT IT READS IS OF BULK AT MOST 1048576: true; the input reads as it did. -/
def fnExactConstantsUptoRow : OpenClaim := { program := "ythikbhnckghiiaa", sum := "bc9a36233f337db9fa2838376c9faa372f5ee38600995ff62037ef339174fd67", func := "loop.example/g00201/laws.FnExactConstants", spec := "fnExactConstants", apart := false, narrowed := true }
def FnExactConstantsUptoSaid : Prop := fnExactConstantsUptoRow.holds Try.pinned (OpenSpec.upto fnExactConstantsSpec)

/-- 'laws.FnExactIsKeyword', WHERE WHAT IT READS IS OF BULK AT MOST 1048576: true; the input reads as it did. -/
def fnExactIsKeywordUptoRow : OpenClaim := { program := "ythikbhnckghiiaa", sum := "bc9a36233f337db9fa2838376c9faa372f5ee38600995ff62037ef339174fd67", func := "loop.example/g00201/laws.FnExactIsKeyword", spec := "fnExactIsKeyword", apart := false, narrowed := true }
def FnExactIsKeywordUptoSaid : Prop := fnExactIsKeywordUptoRow.holds Try.pinned (OpenSpec.upto fnExactIsKeywordSpec)

/-- 'laws.FnExactIsPrimitive', WHERE WHAT IT READS IS OF BULK AT MOST 1048576: true; the input reads as it did. -/
def fnExactIsPrimitiveUptoRow : OpenClaim := { program := "ythikbhnckghiiaa", sum := "bc9a36233f337db9fa2838376c9faa372f5ee38600995ff62037ef339174fd67", func := "loop.example/g00201/laws.FnExactIsPrimitive", spec := "fnExactIsPrimitive", apart := false, narrowed := true }
def FnExactIsPrimitiveUptoSaid : Prop := fnExactIsPrimitiveUptoRow.holds Try.pinned (OpenSpec.upto fnExactIsPrimitiveSpec)

/-- 'laws.FnExactGoodReal', WHERE WHAT IT READS IS OF BULK AT MOST 1048576: true; the input reads as it did. -/
def fnExactGoodRealUptoRow : OpenClaim := { program := "ythikbhnckghiiaa", sum := "bc9a36233f337db9fa2838376c9faa372f5ee38600995ff62037ef339174fd67", func := "loop.example/g00201/laws.FnExactGoodReal", spec := "fnExactGoodReal", apart := false, narrowed := true }
def FnExactGoodRealUptoSaid : Prop := fnExactGoodRealUptoRow.holds Try.pinned (OpenSpec.upto fnExactGoodRealSpec)

/-- 'laws.FnExactNextReal', WHERE WHAT IT READS IS OF BULK AT MOST 1048576: true; the input reads as it did. -/
def fnExactNextRealUptoRow : OpenClaim := { program := "ythikbhnckghiiaa", sum := "bc9a36233f337db9fa2838376c9faa372f5ee38600995ff62037ef339174fd67", func := "loop.example/g00201/laws.FnExactNextReal", spec := "fnExactNextReal", apart := false, narrowed := true }
def FnExactNextRealUptoSaid : Prop := fnExactNextRealUptoRow.holds Try.pinned (OpenSpec.upto fnExactNextRealSpec)

end Rows
end Go.Proofs.Ythikbhnckghiiaa
