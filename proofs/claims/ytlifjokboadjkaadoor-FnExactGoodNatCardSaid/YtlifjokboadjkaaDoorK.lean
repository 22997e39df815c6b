/- Printed by a program: what the Go functions that a law reaches come to, as Lean functions, each with the proof that the machine's call answers so; no condition but those each theorem names. -/
import Derived.Test.YtlifjokboadjkaaDoorProg
import Derived.Below
import Derived.Deep.Draws
import Derived.Deep.AppendLies
import Derived.Maps.AppendAt
import Derived.OwnWalk
import Derived.Laws.BytesArg
import Derived.Laws.MakeOwn
import Derived.Laws.OwnMore
import Derived.Deep.OwnRows
import Derived.Tactics
import Derived.Lib.ConvBytes
import Derived.Laws.Slices
import Derived.WalkKit
import Derived.KernelRfl
import Derived.RowKit3
import Derived.Deep.LoopGhost
import Derived.Deep.QuietTactic
import Derived.BigQuiet
import Derived.WideLaws
import Derived.Deep.DeepCutAuto
import Derived.Deep.CutBlock
import Derived.Deep.RegionHeld3
import Derived.Laws.Rows
import Derived.Lib.AppendStr
import Derived.ArgAppend
import Derived.Laws.IdiomCopy
import Derived.OrdersHeld
import Derived.Laws.BitsLemmas
import Derived.RowKit
import Derived.Test.YtlifjokboadjkaaDoorWWords
import Derived.Test.YtlifjokboadjkaaDoorWLast
import Derived.Test.YtlifjokboadjkaaDoorWTab
import Derived.Test.YtlifjokboadjkaaDoorWFour
import Derived.Test.YtlifjokboadjkaaDoorWQPut
import Derived.Test.YtlifjokboadjkaaDoorWApart
import Derived.Test.YtlifjokboadjkaaDoorWArr
import Derived.Test.YtlifjokboadjkaaDoorWZeros
import Derived.Test.YtlifjokboadjkaaDoorWFoot
import Derived.Test.YtlifjokboadjkaaDoorWKept
import Derived.Test.YtlifjokboadjkaaDoorWShare
import Derived.Test.YtlifjokboadjkaaDoorWN
import Derived.Test.YtlifjokboadjkaaDoorWFootNe
import Derived.Test.YtlifjokboadjkaaDoorWAt
import Derived.Test.YtlifjokboadjkaaDoorWEqStruct
import Derived.Test.YtlifjokboadjkaaDoorWRepsOne
import Derived.Test.YtlifjokboadjkaaDoorWInv
import Derived.Test.YtlifjokboadjkaaDoorWInvWords
import Derived.Test.YtlifjokboadjkaaDoorWGuard
import Derived.Test.YtlifjokboadjkaaDoorWNEv
import Derived.Test.YtlifjokboadjkaaDoorWMore
namespace Go.Proofs.YtlifjokboadjkaaDoor.G
open Go.RowKit Go.Proofs.YtlifjokboadjkaaDoorW.PrintWords Go.Proofs.YtlifjokboadjkaaDoorW.PrintLast Go.Proofs.YtlifjokboadjkaaDoorW.PrintMore
attribute [local go_sem] max2_int min2_int max_two min_two max_three min_three max_four min_four   -- for this text's walks alone
set_option linter.unusedVariables false
set_option linter.unusedSimpArgs false



def errW : Option Int → Value
  | none => .nilIface
  | some c => .iface 0 (.int .i64 c)
theorem errW_none : errW none = .nilIface := rfl
theorem errW_some (c : Int) : errW (some c) = .iface 0 (.int .i64 c) := rfl

-- the values' own types

end Go.Proofs.YtlifjokboadjkaaDoor.G
