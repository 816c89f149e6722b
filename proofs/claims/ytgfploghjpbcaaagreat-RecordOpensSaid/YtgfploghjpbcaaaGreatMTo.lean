/- Layer 9: the example at the head; the law TicketOpens. -/
import Derived.Test.YtgfploghjpbcaaaGreatMRc
import Derived.Test.YtgfploghjpbcaaaGreatMTk
import Derived.Test.YtgfploghjpbcaaaGreatMKc
namespace Go.Proofs.YtgfploghjpbcaaaGreat.Eng
open Go Go.Proofs
set_option linter.unusedVariables false
set_option linter.unusedSimpArgs false
set_option maxRecDepth 10000
theorem sg_ok (r s r' s':Nat):aggEqOk [some .u64,some .u64,some .u64,some .u64,some .u64,some .u64,some .u64,some .u64] (.agg (sgc r s)) (.agg (sgc r' s'))=True:=by
 simp [aggEqOk,wd,dig,kindOf]
theorem sg_eq (r s:Nat):aggEq (.agg (sgc r s)) (.agg (sgc r s))=true:=by
 show cellsEq _ _=_
 rw [cellsEq_append _ _ rfl,cells_wd,cells_wd]; simp
end Go.Proofs.YtgfploghjpbcaaaGreat.Eng

