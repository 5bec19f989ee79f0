-- Written by xprint.py, a program of this session's, by means of the kit's print. Not trusted: Lean checks it.
import Derived.Test.YtaabfmpoodjhjaaDoorFun0
import Derived.Test.YtaabfmpoodjhjaaDoorFun3xB
namespace Go.Proofs.YtaabfmpoodjhjaaDoor.Fun
open Go.RowKit Go.Proofs.YtaabfmpoodjhjaaDoorW.PrintWords Go.Proofs.YtaabfmpoodjhjaaDoorW.PrintLast Go.Proofs.YtaabfmpoodjhjaaDoorW.PrintMore
attribute [local go_sem] max2_int min2_int max_two min_two max_three min_three max_four min_four   -- for this text's walks alone
set_option linter.unusedVariables false
set_option linter.unusedSimpArgs false

/-! ### transeptref10_Number: function 33 -/
/-! ### transeptref17_Age: function 15 -/
/-! ### transeptref09_Same: function 16 -/
/-! ### transeptref10_Get: function 61 -/
/-! ### transeptref09_In: function 64 -/
end Go.Proofs.YtaabfmpoodjhjaaDoor.Fun
