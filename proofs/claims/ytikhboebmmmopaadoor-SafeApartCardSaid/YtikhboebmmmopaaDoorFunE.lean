-- Written by xprint.py, a program of this session's, by means of the kit's print. Not trusted: Lean checks it.
import Derived.Test.YtikhboebmmmopaaDoorFunE0
import Derived.Test.YtikhboebmmmopaaDoorFunE1
namespace Go.Proofs.YtikhboebmmmopaaDoor.FunE
open Go.RowKit Go.Proofs.YtikhboebmmmopaaDoorW.PrintWords Go.Proofs.YtikhboebmmmopaaDoorW.PrintLast Go.Proofs.YtikhboebmmmopaaDoorW.PrintMore
attribute [local go_sem] max2_int min2_int max_two min_two max_three min_three max_four min_four   -- for this text's walks alone
set_option linter.unusedVariables false
set_option linter.unusedSimpArgs false

end Go.Proofs.YtikhboebmmmopaaDoor.FunE
