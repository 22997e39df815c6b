/-
  No cell of these rows narrows 'for every input' (looked for: loops, veiled, ifaces, maps, wideKeys, modest, calm, conditions, laid).
  DERIVED. THE GIVEN ROWS OF THIS SEAT. 4 by the template 'for every input the law returns true; each argument reads behind the call as it read before'; 0 by the template 'total and deterministic' (their statements: YtcbgjcnekdoloaaTotals.lean).
  GIVEN WITH THE SEED: the statements are not yours to turn. If you find one false, say at which input.
  Laid BY PROGRAM, IN A SANDBOX (cutbox-rows.mjs): the forced cells as the released guide's own fill.sh prints them over the translation 85dc96eb70c85c92… (all of the seat's roots in one cut). By AI agents, Wed Nov 11 2026. No macro, syntax, notation, axiom, sorry.
-/
import Derived.Test.YtcbgjcnekdoloaaChecked
import GoSem.Claim
import GoSem.ClaimJoined
import GoSem.ClaimMapViews
import Derived.JoinedTies
import Derived.KernelRfl
namespace Go.Proofs.Ytcbgjcnekdoloaa
/- THE CELL 'sum', in the pinned program and in every row, IS THE sha256 OF THE DUMP (.gsa) THAT YtcbgjcnekdoloaaProg.lean LOADS. Nothing in Lean hashes anything: it is a label: what it is worth is what the hold of that sum in a sandbox is worth. -/
noncomputable def Try.pinned : Pinned := { name := "ytcbgjcnekdoloaa", sum := "85dc96eb70c85c92e1e8f6aa34dd70614b06ce8ffa90fc879f3047fb0fd67730", checked := Try.checked }
namespace Rows
def none {H : Type} : Left H := { results := [], args := [] }

/-- 'laws.FnExactGoodHeap': WHATEVER THE INPUT: true; the input reads as it did. -/
def fnExactGoodHeapSpec : ChangeSpec := { name := "fnExactGoodHeap", fn := fun _ => fun
  | [d] => { results := [.lit (.bool true)], args := [d] }
  | _ => none }
def fnExactGoodHeapRow : OpenClaim := { program := "ytcbgjcnekdoloaa", sum := "85dc96eb70c85c92e1e8f6aa34dd70614b06ce8ffa90fc879f3047fb0fd67730", func := "loop.example/g00201/laws.FnExactGoodHeap", spec := "fnExactGoodHeap", unfollowed := true, recurses := true, apart := false }
def FnExactGoodHeapSaid : Prop := fnExactGoodHeapRow.holds Try.pinned (OpenSpec.ofChange fnExactGoodHeapSpec)

/-- ITS FALSE NEIGHBOUR: 'it returns false'. Refute it at one input. -/
def fnExactGoodHeapWrong : ChangeSpec := { name := "fnExactGoodHeap", fn := fun _ => fun
  | [d] => { results := [.lit (.bool false)], args := [d] }
  | _ => none }
def FnExactGoodHeapWrongFalsely : Prop := fnExactGoodHeapRow.holds Try.pinned (OpenSpec.ofChange fnExactGoodHeapWrong)

/-- 'laws.FnExactReachIn': WHATEVER THE INPUT: true; the input reads as it did. -/
def fnExactReachInSpec : ChangeSpec := { name := "fnExactReachIn", fn := fun _ => fun
  | [d] => { results := [.lit (.bool true)], args := [d] }
  | _ => none }
def fnExactReachInRow : OpenClaim := { program := "ytcbgjcnekdoloaa", sum := "85dc96eb70c85c92e1e8f6aa34dd70614b06ce8ffa90fc879f3047fb0fd67730", func := "loop.example/g00201/laws.FnExactReachIn", spec := "fnExactReachIn", unfollowed := true, recurses := true, apart := false }
def FnExactReachInSaid : Prop := fnExactReachInRow.holds Try.pinned (OpenSpec.ofChange fnExactReachInSpec)

/-- ITS FALSE NEIGHBOUR: 'it returns false'. Refute it at one input. -/
def fnExactReachInWrong : ChangeSpec := { name := "fnExactReachIn", fn := fun _ => fun
  | [d] => { results := [.lit (.bool false)], args := [d] }
  | _ => none }
def FnExactReachInWrongFalsely : Prop := fnExactReachInRow.holds Try.pinned (OpenSpec.ofChange fnExactReachInWrong)

/-- 'laws.FnExactCollectHeap': WHATEVER THE INPUT: true; the input reads as it did. -/
def fnExactCollectHeapSpec : ChangeSpec := { name := "fnExactCollectHeap", fn := fun _ => fun
  | [d] => { results := [.lit (.bool true)], args := [d] }
  | _ => none }
def fnExactCollectHeapRow : OpenClaim := { program := "ytcbgjcnekdoloaa", sum := "85dc96eb70c85c92e1e8f6aa34dd70614b06ce8ffa90fc879f3047fb0fd67730", func := "loop.example/g00201/laws.FnExactCollectHeap", spec := "fnExactCollectHeap", unfollowed := true, recurses := true, apart := false }
def FnExactCollectHeapSaid : Prop := fnExactCollectHeapRow.holds Try.pinned (OpenSpec.ofChange fnExactCollectHeapSpec)

/-- ITS FALSE NEIGHBOUR: 'it returns false'. Refute it at one input. -/
def fnExactCollectHeapWrong : ChangeSpec := { name := "fnExactCollectHeap", fn := fun _ => fun
  | [d] => { results := [.lit (.bool false)], args := [d] }
  | _ => none }
def FnExactCollectHeapWrongFalsely : Prop := fnExactCollectHeapRow.holds Try.pinned (OpenSpec.ofChange fnExactCollectHeapWrong)

/-- 'laws.FnExactMinorCollect': WHATEVER THE INPUT: true; the input reads as it did. -/
def fnExactMinorCollectSpec : ChangeSpec := { name := "fnExactMinorCollect", fn := fun _ => fun
  | [d] => { results := [.lit (.bool true)], args := [d] }
  | _ => none }
def fnExactMinorCollectRow : OpenClaim := { program := "ytcbgjcnekdoloaa", sum := "85dc96eb70c85c92e1e8f6aa34dd70614b06ce8ffa90fc879f3047fb0fd67730", func := "loop.example/g00201/laws.FnExactMinorCollect", spec := "fnExactMinorCollect", unfollowed := true, recurses := true, apart := false }
def FnExactMinorCollectSaid : Prop := fnExactMinorCollectRow.holds Try.pinned (OpenSpec.ofChange fnExactMinorCollectSpec)

/-- ITS FALSE NEIGHBOUR: 'it returns false'. Refute it at one input. -/
def fnExactMinorCollectWrong : ChangeSpec := { name := "fnExactMinorCollect", fn := fun _ => fun
  | [d] => { results := [.lit (.bool false)], args := [d] }
  | _ => none }
def FnExactMinorCollectWrongFalsely : Prop := fnExactMinorCollectRow.holds Try.pinned (OpenSpec.ofChange fnExactMinorCollectWrong)

/- THE SECOND FORM. 'bulk': how many values and letters a reading holds, each counted each time it is reached (what is shared counts as often as it is met; a slice's spare places count too). A statement '..UptoSaid' is the law's where the arguments, and the package variables that the reading takes, are together of bulk at most 1048576: NARROWER than '..Said'. Prove '..Said' where nothing that the law and all that it calls make is longer than what came in: it says more and counts as full. Else prove '..UptoSaid'. A law counts once. -/
mutual
def uptoBulk {H : Type} : DataW H → Nat
  | .lit (.string bytes) => bytes.length + 1
  | .lit _ => 1
  | .nil => 1
  | .ptr d => uptoBulk d + 1
  | .slice elems spare => uptoBulkAll elems + uptoBulkAll spare + 1
  | .agg parts => uptoBulkAll parts + 1
  | .iface _ d => uptoBulk d + 1
  | .map entries => uptoBulkEntries entries + 1
  | .held _ => 1
def uptoBulkAll {H : Type} : List (DataW H) → Nat
  | [] => 0
  | d :: r => uptoBulk d + uptoBulkAll r
def uptoBulkEntries {H : Type} : List (Lit × DataW H) → Nat
  | [] => 0
  | x :: r => uptoBulkEntry x + uptoBulkEntries r
def uptoBulkEntry {H : Type} : Lit × DataW H → Nat
  | (.string bytes, d) => bytes.length + uptoBulk d + 1
  | (_, d) => uptoBulk d + 1
 end
def uptoSmall : (H : Type) → List (DataW H) → Bool := fun _ ds => decide (uptoBulkAll ds ≤ 1048576)
def OpenSpec.upto (s : _root_.Go.ChangeSpec) : _root_.Go.OpenSpec := { _root_.Go.OpenSpec.ofChange s with cond := some uptoSmall }

/-- 'laws.FnExactGoodHeap', WHERE WHAT IT READS IS OF BULK AT MOST 1048576: true; the input reads as it did. -/
def fnExactGoodHeapUptoRow : OpenClaim := { program := "ytcbgjcnekdoloaa", sum := "85dc96eb70c85c92e1e8f6aa34dd70614b06ce8ffa90fc879f3047fb0fd67730", func := "loop.example/g00201/laws.FnExactGoodHeap", spec := "fnExactGoodHeap", unfollowed := true, recurses := true, apart := false, narrowed := true }
def FnExactGoodHeapUptoSaid : Prop := fnExactGoodHeapUptoRow.holds Try.pinned (OpenSpec.upto fnExactGoodHeapSpec)

/-- 'laws.FnExactReachIn', WHERE WHAT IT READS IS OF BULK AT MOST 1048576: true; the input reads as it did. -/
def fnExactReachInUptoRow : OpenClaim := { program := "ytcbgjcnekdoloaa", sum := "85dc96eb70c85c92e1e8f6aa34dd70614b06ce8ffa90fc879f3047fb0fd67730", func := "loop.example/g00201/laws.FnExactReachIn", spec := "fnExactReachIn", unfollowed := true, recurses := true, apart := false, narrowed := true }
def FnExactReachInUptoSaid : Prop := fnExactReachInUptoRow.holds Try.pinned (OpenSpec.upto fnExactReachInSpec)

/-- 'laws.FnExactCollectHeap', WHERE WHAT IT READS IS OF BULK AT MOST 1048576: true; the input reads as it did. -/
def fnExactCollectHeapUptoRow : OpenClaim := { program := "ytcbgjcnekdoloaa", sum := "85dc96eb70c85c92e1e8f6aa34dd70614b06ce8ffa90fc879f3047fb0fd67730", func := "loop.example/g00201/laws.FnExactCollectHeap", spec := "fnExactCollectHeap", unfollowed := true, recurses := true, apart := false, narrowed := true }
def FnExactCollectHeapUptoSaid : Prop := fnExactCollectHeapUptoRow.holds Try.pinned (OpenSpec.upto fnExactCollectHeapSpec)

/-- 'laws.FnExactMinorCollect', WHERE WHAT IT READS IS OF BULK AT MOST 1048576: true; the input reads as it did. -/
def fnExactMinorCollectUptoRow : OpenClaim := { program := "ytcbgjcnekdoloaa", sum := "85dc96eb70c85c92e1e8f6aa34dd70614b06ce8ffa90fc879f3047fb0fd67730", func := "loop.example/g00201/laws.FnExactMinorCollect", spec := "fnExactMinorCollect", unfollowed := true, recurses := true, apart := false, narrowed := true }
def FnExactMinorCollectUptoSaid : Prop := fnExactMinorCollectUptoRow.holds Try.pinned (OpenSpec.upto fnExactMinorCollectSpec)

end Rows
end Go.Proofs.Ytcbgjcnekdoloaa
