-- Written by xprint.py, a program of this session's, by means of the kit's print. Not trusted: Lean checks it.
import Derived.Test.YtikhboebmmmopaaDoorProg
import Derived.Below
import Derived.Deep.Draws
import Derived.Deep.AppendLies
import Derived.Maps.AppendAt
import Derived.OwnWalk
import Derived.Laws.BytesArg
import Derived.Laws.MakeOwn
import Derived.Laws.OwnMore
import Derived.Deep.OwnRows
import Derived.Tactics
import Derived.Lib.ConvBytes
import Derived.Laws.Slices
import Derived.WalkKit
import Derived.KernelRfl
import Derived.RowKit3
import Derived.Deep.LoopGhost
import Derived.Deep.QuietTactic
import Derived.BigQuiet
import Derived.WideLaws
import Derived.Deep.DeepCutAuto
import Derived.Deep.CutBlock
import Derived.Deep.RegionHeld3
import Derived.Laws.Rows
import Derived.Lib.AppendStr
import Derived.ArgAppend
import Derived.Laws.IdiomCopy
import Derived.OrdersHeld
import Derived.Laws.BitsLemmas
import Derived.RowKit
import Derived.Test.YtikhboebmmmopaaDoorExtTok
import Derived.Test.YtikhboebmmmopaaDoorExtI
import Derived.Test.YtikhboebmmmopaaDoorWWords
import Derived.Test.YtikhboebmmmopaaDoorWLast
import Derived.Test.YtikhboebmmmopaaDoorWTab
import Derived.Test.YtikhboebmmmopaaDoorWFour
import Derived.Test.YtikhboebmmmopaaDoorWQPut
import Derived.Test.YtikhboebmmmopaaDoorWApart
import Derived.Test.YtikhboebmmmopaaDoorWArr
import Derived.Test.YtikhboebmmmopaaDoorWZeros
import Derived.Test.YtikhboebmmmopaaDoorWFoot
import Derived.Test.YtikhboebmmmopaaDoorWKept
import Derived.Test.YtikhboebmmmopaaDoorWShare
import Derived.Test.YtikhboebmmmopaaDoorWN
import Derived.Test.YtikhboebmmmopaaDoorWFootNe
import Derived.Test.YtikhboebmmmopaaDoorWAt
import Derived.Test.YtikhboebmmmopaaDoorWEqStruct
import Derived.Test.YtikhboebmmmopaaDoorWRepsOne
import Derived.Test.YtikhboebmmmopaaDoorWInv
import Derived.Test.YtikhboebmmmopaaDoorWInvWords
import Derived.Test.YtikhboebmmmopaaDoorWGuard
import Derived.Test.YtikhboebmmmopaaDoorWNEv
import Derived.Test.YtikhboebmmmopaaDoorWMore
namespace Go.Proofs.YtikhboebmmmopaaDoor.FunE
open Go.RowKit Go.Proofs.YtikhboebmmmopaaDoorW.PrintWords Go.Proofs.YtikhboebmmmopaaDoorW.PrintLast Go.Proofs.YtikhboebmmmopaaDoorW.PrintMore
attribute [local go_sem] max2_int min2_int max_two min_two max_three min_three max_four min_four   -- for this text's walks alone
set_option linter.unusedVariables false
set_option linter.unusedSimpArgs false



def errW : Option Int → Value
  | none => .nilIface
  | some c => .iface 0 (.int .i64 c)
theorem errW_none : errW none = .nilIface := rfl
theorem errW_some (c : Int) : errW (some c) = .iface 0 (.int .i64 c) := rfl

-- the values' own types

end Go.Proofs.YtikhboebmmmopaaDoor.FunE
