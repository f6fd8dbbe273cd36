-- Go functions as plain functions, and that the code comes to these answers (printed by a program).
import Derived.Test.YtnaalaakhdbfbaaV4XP0
import Derived.Test.YtnaalaakhdbfbaaV4XP2
import Derived.Test.YtnaalaakhdbfbaaV4XP3
import Derived.Test.YtnaalaakhdbfbaaV4XP7
import Derived.Test.YtnaalaakhdbfbaaV4XP8
namespace Go.Proofs.Ytnaalaakhdbfbaa.XP
open Go.RowKit Go.Proofs.YtnaalaakhdbfbaaW.PrintWords Go.Proofs.YtnaalaakhdbfbaaW.PrintLast Go.Proofs.YtnaalaakhdbfbaaW.PrintMore
attribute [local go_sem] max2_int min2_int max_two min_two max_three min_three max_four min_four
set_option linter.unusedVariables false
set_option linter.unusedSimpArgs false
def plan_Waste.f (k : Nat) (a0_0 : Int) (a0_1 : Int) (l1_0 : List (S48)) : Option (Int) := (span_Right.f a0_0 a0_1).bind fun t583 => (if t583 = true then ((ranges_Of.f k (([(⟨a0_0, a0_1⟩ : S48)] : List (S48)))).bind fun t587 => ((ranges_Set_Less.f k t587 l1_0).bind fun t590 => ((ranges_Set_Len.f k t590).bind fun t593 => (some t593)))) else (some 0))
-- NOT PRINTED: function 6 (mandolinelaw35_PlanWidens)
-- NOT PRINTED: function 68 (api_Span_68)
-- NOT PRINTED: function 56 (api_Span_56)
end Go.Proofs.Ytnaalaakhdbfbaa.XP
