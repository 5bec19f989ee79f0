-- Written by xprint.py, a program of this session's, by means of the kit's print. Not trusted: Lean checks it.
import Derived.Test.YtikhboebmmmopaaGreatDoorFun0
import Derived.Test.YtikhboebmmmopaaGreatDoorFun1xB
import Derived.Test.YtikhboebmmmopaaGreatDoorFun2xB
import Derived.Test.YtikhboebmmmopaaGreatDoorFun3xB
import Derived.Test.YtikhboebmmmopaaGreatDoorFun4xB
import Derived.Test.YtikhboebmmmopaaGreatDoorFun5xB
namespace Go.Proofs.YtikhboebmmmopaaGreatDoor.Fun
open Go.RowKit Go.Proofs.YtikhboebmmmopaaGreatDoorW.PrintWords Go.Proofs.YtikhboebmmmopaaGreatDoorW.PrintLast Go.Proofs.YtikhboebmmmopaaGreatDoorW.PrintMore
attribute [local go_sem] max2_int min2_int max_two min_two max_three min_three max_four min_four   -- for this text's walks alone
set_option linter.unusedVariables false
set_option linter.unusedSimpArgs false

end Go.Proofs.YtikhboebmmmopaaGreatDoor.Fun
