/- The code of some functions, as the abstract machine's. Printed by program. -/
import Derived.Test.YtgfploghjpbcaaaGreatMCa
namespace Go.Proofs.YtgfploghjpbcaaaGreat.Eng
open Go Go.Proofs
set_option maxRecDepth 20000
end Go.Proofs.YtgfploghjpbcaaaGreat.Eng

