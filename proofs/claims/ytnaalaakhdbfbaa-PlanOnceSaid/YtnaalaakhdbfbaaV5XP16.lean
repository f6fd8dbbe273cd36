-- Go functions as plain functions, and that the code comes to these answers (printed by a program).
import Derived.Test.YtnaalaakhdbfbaaV5XP0
import Derived.Test.YtnaalaakhdbfbaaV5XP12
import Derived.Test.YtnaalaakhdbfbaaV5XP15
namespace Go.Proofs.Ytnaalaakhdbfbaa.XP
open Go.RowKit Go.Proofs.YtnaalaakhdbfbaaW.PrintWords Go.Proofs.YtnaalaakhdbfbaaW.PrintLast Go.Proofs.YtnaalaakhdbfbaaW.PrintMore
attribute [local go_sem] max2_int min2_int max_two min_two max_three min_three max_four min_four
set_option linter.unusedVariables false
set_option linter.unusedSimpArgs false
def mandolineref02_Of.f (k : Nat) (l0 : List (S48)) : Option ((List (S48))) := (mandolineref02_of.f k l0 ([] : List (S48)) 1).bind fun t363 => (some t363)
def mandolineref35_lengthOk.f (a0 : Int) : Option (Bool) := if a0 ≥ (-1) then (some (decide (a0 ≤ 1099511627776))) else (some false)
def mandolineref02_And.f (k : Nat) (l0 : List (S48)) (l1 : List (S48)) : Option ((List (S48))) := (mandolineref02_of.f k l0 l1 2).bind fun t366 => (some t366)
def mandolineref35_end.f (a0 : Int) : Option (Int) := if a0 < 0 then (some 4611686018427387904) else (some a0)
mutual
def mandolineref35_Units.j0 : Nat → List (S48) → Int → Int → Bool → Option ((List (S48)))
 | 0, _, _, _, _ => none
 | k + 1, x0, x1, x2, x18 => if x18 = true then (some ([] : List (S48))) else ((mandolineref35_end.f x1).bind fun t371 => ((mandolineref02_And.f k x0 (([(⟨0, t371⟩ : S48)] : List (S48)))).bind fun t375 => (mandolineref35_Units.l0 k x1 x2 ([] : List (S48)) t375 (t375.length : Int) 0)))
def mandolineref35_Units.l0 : Nat → Int → Int → List (S48) → List (S48) → Int → Int → Option ((List (S48)))
 | 0, _, _, _, _, _, _ => none
 | k + 1, x1, x2, x7, x24, x25, x26 => if x26 < x25 then (if 0 ≤ x26 then (if x26 < (x24.length : Int) then (if x2 = 0 then (none) else (if ((rd_T48 x24 x26).f1) < 4611686018427387904 then ((mandolineref35_end.f x1).bind fun t381 => (if x7.length < 8796093022208 then (mandolineref35_Units.l0 k x1 x2 (x7 ++ [(⟨wrap64 (((rd_T48 x24 x26).f0) - (Int.tmod ((rd_T48 x24 x26).f0) x2)), mn (wrap64 (((rd_T48 x24 x26).f1) + (Int.tmod (wrap64 (x2 - (Int.tmod ((rd_T48 x24 x26).f1) x2))) x2))) t381⟩ : S48)]) x24 x25 (wrap64 (x26 + 1))) else (none))) else (if x7.length < 8796093022208 then (mandolineref35_Units.l0 k x1 x2 (x7 ++ [(⟨wrap64 (((rd_T48 x24 x26).f0) - (Int.tmod ((rd_T48 x24 x26).f0) x2)), 4611686018427387904⟩ : S48)]) x24 x25 (wrap64 (x26 + 1))) else (none)))) else (none)) else (none)) else ((mandolineref02_Of.f k x7).bind fun t388 => (some t388))
end
def mandolineref35_Units.f (k : Nat) (l0 : List (S48)) (a1 : Int) (a2 : Int) : Option ((List (S48))) := (mandolineref35_unitOk.f k a2).bind fun t369 => (if t369 = true then ((mandolineref35_lengthOk.f a1).bind fun t370 => (mandolineref35_Units.j0 k l0 a1 a2 (!t370))) else (mandolineref35_Units.j0 k l0 a1 a2 true))
end Go.Proofs.Ytnaalaakhdbfbaa.XP
