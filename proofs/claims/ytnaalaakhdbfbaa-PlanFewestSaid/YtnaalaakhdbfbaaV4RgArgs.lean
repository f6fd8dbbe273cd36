/- A law's spans, opened from its row. -/
import Derived.Test.YtnaalaakhdbfbaaV4Law
import Derived.OpenShut
import Derived.Test.YtnaalaakhdbfbaaV4RgSets
set_option linter.unusedVariables false
set_option linter.unusedSimpArgs false
namespace Go.Proofs.Ytnaalaakhdbfbaa.XP
open Go.ChangeShapes Go.WideShapes Go.ChangeAt Go.RowKit Go.Deep Go.Proofs.YtnaalaakhdbfbaaW.PrintWords
theorem two_of {cs : Array Value} (h : cs.size = 2) : ∃ a b, cs = #[a, b] := by
 obtain ⟨l⟩ := cs
 match l, h with
 | [a, b], _ => exact ⟨a, b, rfl⟩
end Go.Proofs.Ytnaalaakhdbfbaa.XP
