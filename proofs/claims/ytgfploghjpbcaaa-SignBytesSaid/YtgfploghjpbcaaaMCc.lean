/- The code of some functions, as the abstract machine's. Printed by program. -/
import Derived.Test.YtgfploghjpbcaaaMCa
namespace Go.Proofs.Ytgfploghjpbcaaa.Eng
open Go Go.Proofs
set_option maxRecDepth 20000
end Go.Proofs.Ytgfploghjpbcaaa.Eng

