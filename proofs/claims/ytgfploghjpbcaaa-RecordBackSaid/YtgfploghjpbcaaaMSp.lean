/- Layer 7: the laws' head: the document's example. -/
import Derived.Test.YtgfploghjpbcaaaMSo
import Derived.Test.YtgfploghjpbcaaaMEx
namespace Go.Proofs.Ytgfploghjpbcaaa.Eng
open Go Go.Proofs
set_option linter.unusedVariables false
set_option linter.unusedSimpArgs false
set_option maxRecDepth 10000
end Go.Proofs.Ytgfploghjpbcaaa.Eng

