/- The document's example, worked out: hashes of numbers. (No program in sight.) -/
import Derived.Test.YtgfploghjpbcaaaMGl
namespace Go.Proofs.Ytgfploghjpbcaaa.Eng
open Go
set_option linter.unusedVariables false
set_option linter.unusedSimpArgs false
set_option maxRecDepth 10000
def tn (l:List UInt8):List Nat:=l.map UInt8.toNat
end Go.Proofs.Ytgfploghjpbcaaa.Eng

