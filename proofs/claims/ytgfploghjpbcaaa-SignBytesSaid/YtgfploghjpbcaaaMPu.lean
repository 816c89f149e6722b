/- Layer 8: a number's bytes; fields' bytes: the program's walks. -/
import Derived.Test.YtgfploghjpbcaaaMTk
namespace Go.Proofs.Ytgfploghjpbcaaa.Eng
open Go Go.Proofs
set_option linter.unusedVariables false
set_option linter.unusedSimpArgs false
set_option maxRecDepth 10000
section
variable {H K:AH} {x s:AV} {vs ws:List AV} {b:Nat}
end
set_option maxRecDepth 10000
def Tkt.nums (t:Tkt):List Int:=[t.serial,t.product,t.zones,t.from_,t.key]
structure Rec where
 dev:Int
 seq:Int
 min_:Int
 kind:Int
 stop:Int
 zone:Int
 serial:Int
 verdict:Int
 prev:List UInt8
 b:List UInt8
 e:AV
def Rec.nums (r:Rec):List AV:=[I r.dev,I r.seq,I r.min_,I r.kind,I r.stop,I r.zone,I r.serial,I r.verdict]
def Rec.cells (r:Rec):List AV:=r.nums++(bs r.prev++[r.e])
def Rec.ok (r:Rec):Prop:=r.prev.length=32∧r.b.length≤1000000∧∀ H,Sl 1 H r.e (bs r.b) r.b.length
abbrev z32:List UInt8:=List.replicate 32 0
section
variable {r:Rec}
end
set_option maxRecDepth 10000
def Rec.ns (r:Rec):List Int:=[r.dev,r.seq,r.min_,r.kind,r.stop,r.zone,r.serial,r.verdict]
def zd:List UInt8:=z32
def z32Z:List Value:=List.replicate 32 (.int .u8 0)
theorem z32Z_eq:List.replicate 32 (Value.int .u8 0)=z32Z:=rfl
theorem z32Z_map:z32Z.map AV.lit=bs zd:=rfl
theorem bs32_spl {a d:List UInt8} (ha:a.length=32) (h:d.length=32):splice (bs a) 0 (bs d)=bs d:=splice_all (by rw [bs_len,bs_len,ha,h])
structure Bt where
 b:List UInt8
 e:AV
def Bt.ok (x:Bt):Prop:=x.b.length≤100000∧∀ H,Sl 1 H x.e (bs x.b) x.b.length
def noB:Bt:=⟨[],nilS⟩
end Go.Proofs.Ytgfploghjpbcaaa.Eng

