/- Are all bytes of a span in a set; may a span be one of whole units: the program's tests and the document's. -/
import Derived.Test.YtnaalaakhdbfbaaV5RgDrop
import Derived.Test.YtnaalaakhdbfbaaV5RgMay
import Derived.Test.YtnaalaakhdbfbaaV5XP20
import Derived.Test.YtnaalaakhdbfbaaV5XP27
set_option linter.unusedVariables false
set_option linter.unusedSimpArgs false
namespace Go.Proofs.Ytnaalaakhdbfbaa.XP
open Go.RowKit Go.Proofs.YtnaalaakhdbfbaaW.PrintWords Go.Proofs.YtnaalaakhdbfbaaW.PrintLast Go.Proofs.YtnaalaakhdbfbaaW.PrintMore
end Go.Proofs.Ytnaalaakhdbfbaa.XP
