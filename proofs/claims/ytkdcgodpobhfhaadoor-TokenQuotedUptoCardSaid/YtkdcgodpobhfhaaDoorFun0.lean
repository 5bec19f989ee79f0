-- Written by xprint.py, a program of this session's, by means of the kit's print. Not trusted: Lean checks it.
import Derived.Test.YtkdcgodpobhfhaaDoorProg
import Derived.Below
import Derived.Deep.Draws
import Derived.Deep.AppendLies
import Derived.Maps.AppendAt
import Derived.OwnWalk
import Derived.Laws.BytesArg
import Derived.Laws.MakeOwn
import Derived.Laws.OwnMore
import Derived.Deep.OwnRows
import Derived.Tactics
import Derived.Lib.ConvBytes
import Derived.Laws.Slices
import Derived.WalkKit
import Derived.KernelRfl
import Derived.RowKit3
import Derived.Deep.LoopGhost
import Derived.Deep.QuietTactic
import Derived.BigQuiet
import Derived.WideLaws
import Derived.Deep.DeepCutAuto
import Derived.Deep.CutBlock
import Derived.Deep.RegionHeld3
import Derived.Laws.Rows
import Derived.Lib.AppendStr
import Derived.ArgAppend
import Derived.Laws.IdiomCopy
import Derived.OrdersHeld
import Derived.Laws.BitsLemmas
import Derived.RowKit
import Derived.Test.YtkdcgodpobhfhaaDoorExtTok
import Derived.Test.YtkdcgodpobhfhaaDoorWWords
import Derived.Test.YtkdcgodpobhfhaaDoorWLast
import Derived.Test.YtkdcgodpobhfhaaDoorWTab
import Derived.Test.YtkdcgodpobhfhaaDoorWFour
import Derived.Test.YtkdcgodpobhfhaaDoorWQPut
import Derived.Test.YtkdcgodpobhfhaaDoorWApart
import Derived.Test.YtkdcgodpobhfhaaDoorWArr
import Derived.Test.YtkdcgodpobhfhaaDoorWZeros
import Derived.Test.YtkdcgodpobhfhaaDoorWFoot
import Derived.Test.YtkdcgodpobhfhaaDoorWKept
import Derived.Test.YtkdcgodpobhfhaaDoorWShare
import Derived.Test.YtkdcgodpobhfhaaDoorWN
import Derived.Test.YtkdcgodpobhfhaaDoorWFootNe
import Derived.Test.YtkdcgodpobhfhaaDoorWAt
import Derived.Test.YtkdcgodpobhfhaaDoorWEqStruct
import Derived.Test.YtkdcgodpobhfhaaDoorWRepsOne
import Derived.Test.YtkdcgodpobhfhaaDoorWInv
import Derived.Test.YtkdcgodpobhfhaaDoorWInvWords
import Derived.Test.YtkdcgodpobhfhaaDoorWGuard
import Derived.Test.YtkdcgodpobhfhaaDoorWNEv
import Derived.Test.YtkdcgodpobhfhaaDoorWMore
namespace Go.Proofs.YtkdcgodpobhfhaaDoor.Fun
open Go.RowKit Go.Proofs.YtkdcgodpobhfhaaDoorW.PrintWords Go.Proofs.YtkdcgodpobhfhaaDoorW.PrintLast Go.Proofs.YtkdcgodpobhfhaaDoorW.PrintMore
attribute [local go_sem] max2_int min2_int max_two min_two max_three min_three max_four min_four   -- for this text's walks alone
set_option linter.unusedVariables false
set_option linter.unusedSimpArgs false



def errW : Option Int → Value
  | none => .nilIface
  | some c => .iface 0 (.int .i64 c)
theorem errW_none : errW none = .nilIface := rfl
theorem errW_some (c : Int) : errW (some c) = .iface 0 (.int .i64 c) := rfl

theorem info9 : (Tryd.prog.info? 9).map (fun i => (i.zero, i.size, i.bytes)) = some (some (.string ⟨#[]⟩), 1, 16) := by kernel_rfl
-- the values' own types

end Go.Proofs.YtkdcgodpobhfhaaDoor.Fun
