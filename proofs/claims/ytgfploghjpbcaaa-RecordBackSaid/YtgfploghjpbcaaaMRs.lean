/- The document's layer 3: words turned, shifted; the constants. -/
import Derived.Test.YtgfploghjpbcaaaMSh
import Derived.Test.YtgfploghjpbcaaaMTl
namespace Go.Proofs.Ytgfploghjpbcaaa.Eng
open Go Go.Proofs
set_option linter.unusedVariables false
set_option linter.unusedSimpArgs false
set_option maxRecDepth 10000
section
variable {Q:Ex→Env→AH→Prop} {B:AH} {b:List UInt8} {T:List UInt8} {x7 x8 x2:AV} {tx:AV} {at_:Nat}
end
section
variable {Q:Ex→Env→AH→Prop} {D:AH} {x2 x3 x7 x9 x10 x17:AV} {K ws s:List Nat}
end
section
variable {Q:Ex→Env→AH→Prop} {H G:AH} {o1 o2:AObj} {x2 x3 x8 x9:AV} {K ws s S:List Nat}
end
section
variable {Q:Ex→Env→AH→Prop} {H G:AH} {o1 o2:AObj} {x2 x3 x9:AV} {b:List UInt8} {s:List Nat}
end
section
variable {Q:Ex→Env→AH→Prop} {H G:AH} {o1:AObj} {x2:AV} {T:List UInt8}
end
section
variable {H G:AH} {o2:AObj} {S:List Nat} {v:AV}
end
end Go.Proofs.Ytgfploghjpbcaaa.Eng

