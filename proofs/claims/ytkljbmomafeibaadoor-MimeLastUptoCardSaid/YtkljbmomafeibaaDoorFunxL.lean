-- Written by xprint.py, a program of this session's, by means of the kit's print. Not trusted: Lean checks it.
import Derived.Test.YtkljbmomafeibaaDoorFun0
import Derived.Test.YtkljbmomafeibaaDoorFun1xL
import Derived.Test.YtkljbmomafeibaaDoorFun2xL
import Derived.Test.YtkljbmomafeibaaDoorFun3xL
import Derived.Test.YtkljbmomafeibaaDoorFun4xL
import Derived.Test.YtkljbmomafeibaaDoorFun5xL
namespace Go.Proofs.YtkljbmomafeibaaDoor.Fun
open Go.RowKit Go.Proofs.YtkljbmomafeibaaDoorW.PrintWords Go.Proofs.YtkljbmomafeibaaDoorW.PrintLast Go.Proofs.YtkljbmomafeibaaDoorW.PrintMore
attribute [local go_sem] max2_int min2_int max_two min_two max_three min_three max_four min_four   -- for this text's walks alone
set_option linter.unusedVariables false
set_option linter.unusedSimpArgs false

end Go.Proofs.YtkljbmomafeibaaDoor.Fun
