/- Layer 10: which keys may be, and which counts. -/
import Derived.Test.YtgfploghjpbcaaaMRf
import Derived.Test.YtgfploghjpbcaaaMTl
import Derived.Test.YtgfploghjpbcaaaMCc
import Derived.Test.YtgfploghjpbcaaaMCb
import Derived.Test.YtgfploghjpbcaaaME6
namespace Go.Proofs.Ytgfploghjpbcaaa.Eng
open Go Go.Proofs
set_option linter.unusedVariables false
set_option linter.unusedSimpArgs false
set_option maxRecDepth 10000
structure Key where
 id:Int
 x:Nat
 y:Nat
 far:Bool
 from_:Int
 to:Int
def Key.ok (k:Key):Prop:=ok64 k.id∧k.x<(18446744073709551616:Nat)^4∧k.y<(18446744073709551616:Nat)^4∧ok64 k.from_∧ok64 k.to
def Key.cells (k:Key):List AV:=I k.id::(pcell k.x k.y k.far++[I k.from_,I k.to])
theorem Key.len (k:Key):k.cells.length=12:=by simp [Key.cells,pcell,wd_length]
def noKey:Key:=⟨0,0,0,false,0,0⟩
abbrev kcs (l:List Key):List AV:=l.flatMap Key.cells
section
variable {H:AH} {x:AV} {l:List Key}
theorem Sl.key (h:Sl 12 H x (kcs l) l.length) {i:Nat} (hi:i<l.length):loadV true 12 H (idxaV 12 (.lit (.int .i64 i)) x)=.agg (l.getD i noKey).cells:=by
 rw [h.ldA _ hi (by decide),elt_flat _ 12 Key.len _ _ noKey hi]
end
set_option maxRecDepth 10000
abbrev errA (n:Int):AV:=.lit (.iface T.api_Code (.int .i64 n))
end Go.Proofs.Ytgfploghjpbcaaa.Eng

