-- Written by xprint.py, a program of this session's, by means of the kit's print. Not trusted: Lean checks it.
import Derived.Test.YtaabfmpoodjhjaaDoorFun0
import Derived.Test.YtaabfmpoodjhjaaDoorFun3xB
import Derived.Test.YtaabfmpoodjhjaaDoorFun4xB
import Derived.Test.YtaabfmpoodjhjaaDoorFun5xB
namespace Go.Proofs.YtaabfmpoodjhjaaDoor.Fun
open Go.RowKit Go.Proofs.YtaabfmpoodjhjaaDoorW.PrintWords Go.Proofs.YtaabfmpoodjhjaaDoorW.PrintLast Go.Proofs.YtaabfmpoodjhjaaDoorW.PrintMore
attribute [local go_sem] max2_int min2_int max_two min_two max_three min_three max_four min_four   -- for this text's walks alone
set_option linter.unusedVariables false
set_option linter.unusedSimpArgs false

/-! ### transeptref09_Name: function 39 -/
/-! ### transeptref17_List: function 18 -/
/-! ### transeptref12_among: function 67 -/
/-! ### transeptref12_Hidden: function 42 -/
/-! ### transeptref12_Reads: function 43 -/
/-! ### transeptref17_has: function 44 -/
/-! ### transeptref17_Exposes: function 20 -/
end Go.Proofs.YtaabfmpoodjhjaaDoor.Fun
