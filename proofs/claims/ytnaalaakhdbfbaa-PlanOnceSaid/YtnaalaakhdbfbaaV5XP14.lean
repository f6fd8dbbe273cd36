-- Go functions as plain functions, and that the code comes to these answers (printed by a program).
import Derived.Test.YtnaalaakhdbfbaaV5XP0
import Derived.Test.YtnaalaakhdbfbaaV5XP13
namespace Go.Proofs.Ytnaalaakhdbfbaa.XP
open Go.RowKit Go.Proofs.YtnaalaakhdbfbaaW.PrintWords Go.Proofs.YtnaalaakhdbfbaaW.PrintLast Go.Proofs.YtnaalaakhdbfbaaW.PrintMore
attribute [local go_sem] max2_int min2_int max_two min_two max_three min_three max_four min_four
set_option linter.unusedVariables false
set_option linter.unusedSimpArgs false
def mandolineref02_In.l0 : Nat → List (S48) → Int → Int → Option (Bool)
 | 0, _, _, _ => none
 | k + 1, x0, x1, x5 => if x5 < (x0.length : Int) then (if 0 ≤ x5 then ((mandolineref01_Right.f ((rd_T48 x0 x5).f0) ((rd_T48 x0 x5).f1)).bind fun t339 => (if t339 = true then (if x1 ≥ ((rd_T48 x0 x5).f0) then (if x1 < ((rd_T48 x0 x5).f1) then (some true) else (mandolineref02_In.l0 k x0 x1 (wrap64 (x5 + 1)))) else (mandolineref02_In.l0 k x0 x1 (wrap64 (x5 + 1)))) else (mandolineref02_In.l0 k x0 x1 (wrap64 (x5 + 1))))) else (none)) else (some false)
def mandolineref02_In.f (k : Nat) (l0 : List (S48)) (a1 : Int) : Option (Bool) := mandolineref02_In.l0 k l0 a1 0
end Go.Proofs.Ytnaalaakhdbfbaa.XP
