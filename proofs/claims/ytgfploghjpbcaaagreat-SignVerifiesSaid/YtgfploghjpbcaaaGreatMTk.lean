/- Layer 9: which tickets may be. -/
import Derived.Test.YtgfploghjpbcaaaGreatMCc
import Derived.Test.YtgfploghjpbcaaaGreatME6
import Derived.Test.YtgfploghjpbcaaaGreatMTl
import Derived.Test.YtgfploghjpbcaaaGreatMVf
import Derived.Test.YtgfploghjpbcaaaGreatMKy
import Derived.Test.YtgfploghjpbcaaaGreatMSh
import Derived.Test.YtgfploghjpbcaaaGreatMRf
import Derived.Test.YtgfploghjpbcaaaGreatMRs
namespace Go.Proofs.YtgfploghjpbcaaaGreat.Eng
open Go Go.Proofs
set_option linter.unusedVariables false
set_option linter.unusedSimpArgs false
set_option maxRecDepth 10000
structure Tkt where
 serial:Int
 product:Int
 zones:Int
 from_:Int
 key:Int
def Tkt.ok (t:Tkt):Prop:=ok64 t.serial∧ok64 t.product∧ok64 t.zones∧ok64 t.from_∧ok64 t.key
abbrev Tkt.cells (t:Tkt):List AV:=[I t.serial,I t.product,I t.zones,I t.from_,I t.key]
abbrev sgc (r s:Nat):List AV:=num r++num s
theorem sg_len (r s:Nat):(sgc r s).length=8:=by rw [List.length_append,wd_length,wd_length]
theorem sg_one (r s:Nat):(sgc r s).all AV.one=true:=by rw [List.all_append,one_wd,one_wd]; rfl
theorem sg_ne (r s:Nat):(sgc r s).isEmpty=false:=rfl
theorem sg_take (r s:Nat):(sgc r s).take 8=sgc r s:=List.take_of_length_le (by rw [sg_len]; exact Nat.le_refl _)
theorem sg_spl (a c r s:Nat):splice (sgc a c) 0 (sgc r s)=sgc r s:=splice_all (by rw [sg_len,sg_len])
theorem lowL_sg (ren:Nat→Option Nat) (H:AH) (r s:Nat):lowL ren H (sgc r s)=sgc r s:=by rw [lowL_append,lowL_wd,lowL_wd]
set_option maxRecDepth 10000
theorem bs32_ne {l:List UInt8} (h:l.length=32):(bs l).isEmpty=false∧(bs l).length=32∧(bs l).take 32=bs l:=by
 have hb:(bs l).length=32:=by rw [bs_len,h]
 refine ⟨?_,hb,List.take_of_length_le (by omega)⟩
 cases hh:bs l with
 | nil => rw [hh] at hb; cases hb
 | cons => rfl
end Go.Proofs.YtgfploghjpbcaaaGreat.Eng

