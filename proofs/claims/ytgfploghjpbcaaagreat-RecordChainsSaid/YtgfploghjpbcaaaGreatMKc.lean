/- Layer 10: what bytes check as with keys: both sides. -/
import Derived.Test.YtgfploghjpbcaaaGreatMTk
import Derived.Test.YtgfploghjpbcaaaGreatMKy
namespace Go.Proofs.YtgfploghjpbcaaaGreat.Eng
open Go Go.Proofs
set_option linter.unusedVariables false
set_option linter.unusedSimpArgs false
set_option maxRecDepth 10000
theorem e5:[AV.lit (Value.int IntKind.i64 0),AV.lit (Value.int IntKind.i64 0),AV.lit (Value.int IntKind.i64 0),AV.lit (Value.int IntKind.i64 0),AV.lit (Value.int IntKind.i64 0)]=noTk.cells:=rfl
end Go.Proofs.YtgfploghjpbcaaaGreat.Eng

