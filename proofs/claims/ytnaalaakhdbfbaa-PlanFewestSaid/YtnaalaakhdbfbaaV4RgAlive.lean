/- The chapter's examples hold. -/
import Derived.Test.YtnaalaakhdbfbaaV4XP12
set_option linter.unusedVariables false
set_option linter.unusedSimpArgs false
namespace Go.Proofs.Ytnaalaakhdbfbaa.XP
open Go.RowKit Go.Proofs.YtnaalaakhdbfbaaW.PrintWords Go.Proofs.YtnaalaakhdbfbaaW.PrintLast Go.Proofs.YtnaalaakhdbfbaaW.PrintMore
theorem alive_f : mandolinelaw35_alive.f 60 = some true := by decide +kernel
end Go.Proofs.Ytnaalaakhdbfbaa.XP
