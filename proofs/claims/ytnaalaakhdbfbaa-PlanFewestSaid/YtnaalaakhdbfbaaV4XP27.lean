-- Go functions as plain functions, and that the code comes to these answers (printed by a program).
import Derived.Test.YtnaalaakhdbfbaaV4XP0
import Derived.Test.YtnaalaakhdbfbaaV4XP2
import Derived.Test.YtnaalaakhdbfbaaV4XP9
namespace Go.Proofs.Ytnaalaakhdbfbaa.XP
open Go.RowKit Go.Proofs.YtnaalaakhdbfbaaW.PrintWords Go.Proofs.YtnaalaakhdbfbaaW.PrintLast Go.Proofs.YtnaalaakhdbfbaaW.PrintMore
attribute [local go_sem] max2_int min2_int max_two min_two max_three min_three max_four min_four
set_option linter.unusedVariables false
set_option linter.unusedSimpArgs false
def plan_whole.f (a0_0 : Int) (a0_1 : Int) (a1_0 : Int) (a1_1 : Int) (a2 : Int) : Option (Bool) := (span_Right.f a0_0 a0_1).bind fun t659 => (if t659 = true then (if a0_0 < a0_1 then (if a0_1 ≤ a1_1 then (if a2 = 0 then (none) else (if (Int.tmod a0_0 a2) = 0 then (if a0_1 = a1_1 then (some true) else (some ((Int.tmod a0_1 a2) == 0))) else (some false))) else (some false)) else (some false)) else (some false))
def span_Within.f (a0_0 : Int) (a0_1 : Int) (a1_0 : Int) (a1_1 : Int) : Option (Bool) := (span_Right.f a0_0 a0_1).bind fun t662 => (if t662 = true then ((span_Right.f a1_0 a1_1).bind fun t663 => (if t663 = true then (if a0_0 = a0_1 then (some true) else (if a1_0 ≤ a0_0 then (some (decide (a0_1 ≤ a1_1))) else (some false))) else (some false))) else (some false))
def ranges_Set_Holds.f (l0_0 : List (S48)) (a1_0 : Int) (a1_1 : Int) : Option (Bool) := (span_Right.f a1_0 a1_1).bind fun t666 => (if t666 = true then (if a1_0 = a1_1 then (some true) else ((ranges_Set_from.f l0_0 a1_0).bind fun t667 => (if t667 < (l0_0.length : Int) then (if 0 ≤ t667 then ((span_Within.f a1_0 a1_1 ((rd_T48 l0_0 t667).f0) ((rd_T48 l0_0 t667).f1)).bind fun t669 => (some t669)) else (none)) else (some false)))) else (some false))
end Go.Proofs.Ytnaalaakhdbfbaa.XP
