-- Go functions of this seat as plain functions, and proofs that the code comes to these answers: written by a program (wip/tools/xprint.py over the kit's print).
import Derived.Test.YtnaalaakhdbfbaaV1XP0
import Derived.Test.YtnaalaakhdbfbaaV1XP13
import Derived.Test.YtnaalaakhdbfbaaV1XP17
namespace Go.Proofs.Ytnaalaakhdbfbaa.XP
open Go.RowKit Go.Proofs.YtnaalaakhdbfbaaW.PrintWords Go.Proofs.YtnaalaakhdbfbaaW.PrintLast Go.Proofs.YtnaalaakhdbfbaaW.PrintMore
attribute [local go_sem] max2_int min2_int max_two min_two max_three min_three max_four min_four   -- for this text's walks alone
set_option linter.unusedVariables false
set_option linter.unusedSimpArgs false

/-! ### mandolineref02_Holds: function 61 -/
end Go.Proofs.Ytnaalaakhdbfbaa.XP
