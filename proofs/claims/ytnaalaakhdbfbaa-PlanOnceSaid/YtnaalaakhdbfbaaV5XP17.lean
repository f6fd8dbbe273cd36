-- Go functions as plain functions, and that the code comes to these answers (printed by a program).
import Derived.Test.YtnaalaakhdbfbaaV5XP0
import Derived.Test.YtnaalaakhdbfbaaV5XP12
import Derived.Test.YtnaalaakhdbfbaaV5XP13
import Derived.Test.YtnaalaakhdbfbaaV5XP15
import Derived.Test.YtnaalaakhdbfbaaV5XP16
namespace Go.Proofs.Ytnaalaakhdbfbaa.XP
open Go.RowKit Go.Proofs.YtnaalaakhdbfbaaW.PrintWords Go.Proofs.YtnaalaakhdbfbaaW.PrintLast Go.Proofs.YtnaalaakhdbfbaaW.PrintMore
attribute [local go_sem] max2_int min2_int max_two min_two max_three min_three max_four min_four
set_option linter.unusedVariables false
set_option linter.unusedSimpArgs false
def mandolineref02_Less.f (k : Nat) (l0 : List (S48)) (l1 : List (S48)) : Option ((List (S48))) := (mandolineref02_of.f k l0 l1 3).bind fun t394 => (some t394)
def mandolineref02_Len.l0 : Nat → List (S48) → Int → Int → Option (Int)
 | 0, _, _, _ => none
 | k + 1, x0, x3, x4 => if x4 < (x0.length : Int) then (if 0 ≤ x4 then (if ((rd_T48 x0 x4).f1) = 4611686018427387904 then (some 4611686018427387904) else (mandolineref02_Len.l0 k x0 (wrap64 ((wrap64 (x3 + ((rd_T48 x0 x4).f1))) - ((rd_T48 x0 x4).f0))) (wrap64 (x4 + 1)))) else (none)) else (some x3)
def mandolineref02_Len.f (k : Nat) (l0 : List (S48)) : Option (Int) := mandolineref02_Len.l0 k l0 0 0
def mandolineref35_Waste.f (k : Nat) (a0_0 : Int) (a0_1 : Int) (l1 : List (S48)) : Option (Int) := (mandolineref01_Right.f a0_0 a0_1).bind fun t415 => (if t415 = true then ((mandolineref02_Less.f k (([(⟨a0_0, a0_1⟩ : S48)] : List (S48))) l1).bind fun t419 => ((mandolineref02_Len.f k t419).bind fun t422 => (some t422))) else (some 0))
end Go.Proofs.Ytnaalaakhdbfbaa.XP
