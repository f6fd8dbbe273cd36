-- Go functions as plain functions, and that the code comes to these answers (printed by a program).
import Derived.Test.YtnaalaakhdbfbaaV5XP0
import Derived.Test.YtnaalaakhdbfbaaV5XP13
import Derived.Test.YtnaalaakhdbfbaaV5XP14
namespace Go.Proofs.Ytnaalaakhdbfbaa.XP
open Go.RowKit Go.Proofs.YtnaalaakhdbfbaaW.PrintWords Go.Proofs.YtnaalaakhdbfbaaW.PrintLast Go.Proofs.YtnaalaakhdbfbaaW.PrintMore
attribute [local go_sem] max2_int min2_int max_two min_two max_three min_three max_four min_four
set_option linter.unusedVariables false
set_option linter.unusedSimpArgs false
mutual
def mandolineref02_of.l0 : Nat → List (S48) → List (S48) → Int → List (S48) → List Int → Int → Option ((List (S48)))
 | 0, _, _, _, _, _, _ => none
 | k + 1, x0, x1, x2, x7, x8, x9 => if (wrap64 (x9 + 1)) < (x8.length : Int) then (if 0 ≤ x9 then (if x9 < (x8.length : Int) then ((mandolineref02_In.f k x0 (rd x8 x9)).bind fun t346 => ((mandolineref02_In.f k x1 (rd x8 x9)).bind fun t348 => (if x2 = 1 then (if t346 = true then (mandolineref02_of.j1 k x0 x1 x2 x7 x8 x9 true) else (if t348 = true then (mandolineref02_of.j1 k x0 x1 x2 x7 x8 x9 true) else (if x2 = 2 then (if x2 = 3 then (mandolineref02_of.j1 k x0 x1 x2 x7 x8 x9 false) else (mandolineref02_of.j1 k x0 x1 x2 x7 x8 x9 false)) else (if x2 = 3 then (mandolineref02_of.j1 k x0 x1 x2 x7 x8 x9 false) else (mandolineref02_of.j1 k x0 x1 x2 x7 x8 x9 false))))) else (if x2 = 2 then (if t346 = true then (if t348 = true then (mandolineref02_of.j1 k x0 x1 x2 x7 x8 x9 true) else (if x2 = 3 then (mandolineref02_of.j1 k x0 x1 x2 x7 x8 x9 (!t348)) else (mandolineref02_of.j1 k x0 x1 x2 x7 x8 x9 false))) else (if x2 = 3 then (mandolineref02_of.j1 k x0 x1 x2 x7 x8 x9 false) else (mandolineref02_of.j1 k x0 x1 x2 x7 x8 x9 false))) else (if x2 = 3 then (if t346 = true then (mandolineref02_of.j1 k x0 x1 x2 x7 x8 x9 (!t348)) else (mandolineref02_of.j1 k x0 x1 x2 x7 x8 x9 false)) else (mandolineref02_of.j1 k x0 x1 x2 x7 x8 x9 false)))))) else (none)) else (none)) else (some x7)
def mandolineref02_of.j1 : Nat → List (S48) → List (S48) → Int → List (S48) → List Int → Int → Bool → Option ((List (S48)))
 | 0, _, _, _, _, _, _, _ => none
 | k + 1, x0, x1, x2, x7, x8, x9, x12 => if x12 = true then (if (wrap64 ((x7.length : Int) - 1)) ≥ 0 then (if 0 ≤ (wrap64 ((x7.length : Int) - 1)) then (if (wrap64 ((x7.length : Int) - 1)) < (x7.length : Int) then (if 0 ≤ x9 then (if x9 < (x8.length : Int) then (if ((rd_T48 x7 (wrap64 ((x7.length : Int) - 1))).f1) = (rd x8 x9) then (if 0 ≤ (wrap64 (x9 + 1)) then (if (wrap64 (x9 + 1)) < (x8.length : Int) then (mandolineref02_of.l0 k x0 x1 x2 (x7.set ((wrap64 ((x7.length : Int) - 1)) : Int).toNat (⟨(rd_T48 x7 (wrap64 ((x7.length : Int) - 1))).f0, rd x8 (wrap64 (x9 + 1))⟩ : S48)) x8 (wrap64 (x9 + 1))) else (none)) else (none)) else (if 0 ≤ (wrap64 (x9 + 1)) then (if (wrap64 (x9 + 1)) < (x8.length : Int) then (if x7.length < 8796093022208 then (mandolineref02_of.l0 k x0 x1 x2 (x7 ++ [(⟨rd x8 x9, rd x8 (wrap64 (x9 + 1))⟩ : S48)]) x8 (wrap64 (x9 + 1))) else (none)) else (none)) else (none))) else (none)) else (none)) else (none)) else (none)) else (if 0 ≤ x9 then (if x9 < (x8.length : Int) then (if 0 ≤ (wrap64 (x9 + 1)) then (if (wrap64 (x9 + 1)) < (x8.length : Int) then (if x7.length < 8796093022208 then (mandolineref02_of.l0 k x0 x1 x2 (x7 ++ [(⟨rd x8 x9, rd x8 (wrap64 (x9 + 1))⟩ : S48)]) x8 (wrap64 (x9 + 1))) else (none)) else (none)) else (none)) else (none)) else (none))) else (mandolineref02_of.l0 k x0 x1 x2 x7 x8 (wrap64 (x9 + 1)))
end
def mandolineref02_of.f (k : Nat) (l0 : List (S48)) (l1 : List (S48)) (a2 : Int) : Option ((List (S48))) := (mandolineref02_ends.f k l0 l1).bind fun t342 => (mandolineref02_of.l0 k l0 l1 a2 ([] : List (S48)) t342 0)
end Go.Proofs.Ytnaalaakhdbfbaa.XP
