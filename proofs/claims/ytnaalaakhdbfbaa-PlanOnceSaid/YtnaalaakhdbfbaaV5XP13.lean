-- Go functions as plain functions, and that the code comes to these answers (printed by a program).
import Derived.Test.YtnaalaakhdbfbaaV5XP0
namespace Go.Proofs.Ytnaalaakhdbfbaa.XP
open Go.RowKit Go.Proofs.YtnaalaakhdbfbaaW.PrintWords Go.Proofs.YtnaalaakhdbfbaaW.PrintLast Go.Proofs.YtnaalaakhdbfbaaW.PrintMore
attribute [local go_sem] max2_int min2_int max_two min_two max_three min_three max_four min_four
set_option linter.unusedVariables false
set_option linter.unusedSimpArgs false
def mandolineref01_end.f  : Option (Int) := some 4611686018427387904
def mandolineref01_Right.f (a0_0 : Int) (a0_1 : Int) : Option (Bool) := if a0_0 ≥ 0 then (if a0_0 ≤ a0_1 then ((mandolineref01_end.f).bind fun t298 => (some (decide (a0_1 ≤ t298)))) else (some false)) else (some false)
mutual
def mandolineref02_insert.l0 : Nat → List Int → Int → List Int → Bool → Int → Option (List Int)
 | 0, _, _, _, _, _ => none
 | k + 1, x0, x1, x5, x6, x7 => if x7 < (x0.length : Int) then (if x6 = true then (mandolineref02_insert.j1 k x0 x1 x5 x6 x7 false) else (if 0 ≤ x7 then (mandolineref02_insert.j1 k x0 x1 x5 x6 x7 (decide ((rd x0 x7) ≥ x1))) else (none))) else (if x6 = true then (some x5) else (if x5.length < 17592186044416 then (some (x5 ++ [x1])) else (none)))
def mandolineref02_insert.j1 : Nat → List Int → Int → List Int → Bool → Int → Bool → Option (List Int)
 | 0, _, _, _, _, _, _ => none
 | k + 1, x0, x1, x5, x6, x7, x23 => if x23 = true then (if 0 ≤ x7 then (if x7 < (x0.length : Int) then (if (rd x0 x7) > x1 then (if x5.length < 17592186044416 then ((some (x5 ++ [x1] : List Int)).bind fun y304 => (if y304.length < 17592186044416 then (mandolineref02_insert.l0 k x0 x1 (y304 ++ [rd x0 x7]) true (wrap64 (x7 + 1))) else (none))) else (none)) else (if x5.length < 17592186044416 then (mandolineref02_insert.l0 k x0 x1 (x5 ++ [rd x0 x7]) true (wrap64 (x7 + 1))) else (none))) else (none)) else (none)) else (if 0 ≤ x7 then (if x7 < (x0.length : Int) then (if x5.length < 17592186044416 then (mandolineref02_insert.l0 k x0 x1 (x5 ++ [rd x0 x7]) x6 (wrap64 (x7 + 1))) else (none)) else (none)) else (none))
end
def mandolineref02_insert.f (k : Nat) (l0 : List Int) (a1 : Int) : Option (List Int) := mandolineref02_insert.l0 k l0 a1 ([] : List Int) false 0
def mandolineref02_ends.l0 : Nat → List Int → List (S48) → Int → Option (List Int)
 | 0, _, _, _ => none
 | k + 1, x5, x6, x7 => if x7 < (x6.length : Int) then (if 0 ≤ x7 then ((mandolineref01_Right.f ((rd_T48 x6 x7).f0) ((rd_T48 x6 x7).f1)).bind fun t329 => (if t329 = true then ((mandolineref02_insert.f k x5 ((rd_T48 x6 x7).f0)).bind fun t331 => ((mandolineref02_insert.f k t331 ((rd_T48 x6 x7).f1)).bind fun t335 => (mandolineref02_ends.l0 k t335 x6 (wrap64 (x7 + 1))))) else (mandolineref02_ends.l0 k x5 x6 (wrap64 (x7 + 1))))) else (none)) else (some x5)
def mandolineref02_ends.f (k : Nat) (l0 : List (S48)) (l1 : List (S48)) : Option (List Int) := (some (([] : List (S48)) : List (S48))).bind fun y319 => (if y319.length + l0.length < 8796093022208 then ((some (y319 ++ l0 : List (S48))).bind fun y322 => (if y322.length + l1.length < 8796093022208 then (mandolineref02_ends.l0 k ([] : List Int) (y322 ++ l1) 0) else (none))) else (none))
end Go.Proofs.Ytnaalaakhdbfbaa.XP
