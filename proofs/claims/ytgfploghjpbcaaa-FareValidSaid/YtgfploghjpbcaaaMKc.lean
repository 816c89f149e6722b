/- Layer 10: what bytes check as with keys: both sides. -/
import Derived.Test.YtgfploghjpbcaaaMTk
import Derived.Test.YtgfploghjpbcaaaMKy
namespace Go.Proofs.Ytgfploghjpbcaaa.Eng
open Go Go.Proofs
set_option linter.unusedVariables false
set_option linter.unusedSimpArgs false
set_option maxRecDepth 10000
noncomputable def kcheckN (l:List Key) (b:List UInt8) (m:Int):Tkt × Int:=match openO b with
 | none => (noTk,2)
 | some (t,_,_) => match fOf l t.key m with
  | none => (noTk,4)
  | some k => checkN b k.x k.y k.far
theorem e5:[AV.lit (Value.int IntKind.i64 0),AV.lit (Value.int IntKind.i64 0),AV.lit (Value.int IntKind.i64 0),AV.lit (Value.int IntKind.i64 0),AV.lit (Value.int IntKind.i64 0)]=noTk.cells:=rfl
theorem low_err (ren:Nat→Option Nat) (H:AH) (n:Int):low ren H (errO n)=errO n:=by unfold errO; split <;> rfl
theorem un_err (n:Int):(errO n).un=errO n:=by unfold errO; split <;> rfl
theorem t_kCheck {H:AH} {x y:AV} {l:List Key} {b:List UInt8} (hx:Sl 12 H x (kcs l) l.length) (hl:∀ p ∈ l,p.ok) (hn:l.length≤1000000) (hy:Sl 1 H y (bs b) b.length) (hb:b.length≤100000) (m:Int) :
  Called Try.prog F.keys_Check [x,y,I m] H (.tup [.agg (if keysB l then kcheckN l b m else (noTk,1)).1.cells,errO (if keysB l then kcheckN l b m else (noTk,1)).2]) H:=by
 have e8:[Z0,Z0,Z0,Z0,Z0,Z0,Z0,Z0]=sgc 0 0:=rfl
 have ez:[Z0,Z0,Z0,Z0,Z0,Z0,Z0,Z0,Bl false]=pcell 0 0 false:=rfl
 refine e_keys_Check ?_
 simp only [ic_keys_Check,go_sem,hx.s,hy.s]
 refine callW_some (t_kMay hx.app hl hn) (fun _ => rfl) ?_
 cases hk:keysB l
 ·simp only [go_sem,hx.s,hy.s,fillOk,fillv]
  exact leave_drop rfl
 ·rw [if_pos rfl]
  simp only [go_sem,hx.s,hy.s,fillOk,fillv]
  refine callW_some (t_Open hy.app hb) (fun _ => rfl) ?_
  cases hO:openO b with
  | none =>
   have ec:kcheckN l b m=(noTk,2):=by rw [kcheckN,hO]
   rw [ec]
   simp only [openV,go_sem,hx.s,hy.s,fillOk,fillv,e8,sg_spl,sg_len,sg_one,sg_take,Tkt.cells]
   exact leave_drop rfl
  | some p =>
   obtain ⟨t,r,s⟩:=p
   have ec:kcheckN l b m=match fOf l t.key m with | none => (noTk,4) | some k => checkN b k.x k.y k.far:=by rw [kcheckN,hO]
   rw [ec]
   simp only [openV,go_sem,hx.s,hy.s,fillOk,fillv,e8,sg_spl,sg_len,sg_one,sg_take,Tkt.cells]
   refine callW_some (t_find hx.app hn t.key m) (fun _ => rfl) ?_
   cases hf:fOf l t.key m with
   | none =>
    simp only [go_sem,ptO,Option.isSome,hx.s,hy.s,fillOk,fillv,e8,sg_spl,sg_len,sg_one,sg_take,pc_one,pc_len,pc_splz]
    exact leave_drop rfl
   | some k =>
    have ko:=fOf_ok hl hf
    simp only [go_sem,ptO,Option.isSome,hx.s,hy.s,fillOk,fillv,e8,sg_spl,sg_len,sg_one,sg_take,pc_one,pc_len,pc_splz,pc_take]
    refine callW_some (t_Check hy.app hb ko.2.1 ko.2.2.1) (fun _ => rfl) ?_
    generalize checkN b k.x k.y k.far=c
    obtain ⟨t',n⟩:=c
    simp only [go_sem]
    exact leave_drop (by simp only [low,lowL,low_err])
set_option maxRecDepth 10000
theorem checkN_err (b:List UInt8) (X Y:Nat) (f:Bool):(checkN b X Y f).2=0∨(checkN b X Y f).2=2∨(checkN b X Y f).2=8:=by
 unfold checkN
 split
 ·exact .inr (.inl rfl)
 ·rename_i t r s h
  generalize verB X Y f (sha ((partsO b).getD ([],0,0)).1) r s=v
  cases v
  ·exact .inr (.inr rfl)
  ·exact .inl rfl
theorem kcheckN_err (l:List Key) (b:List UInt8) (m:Int):0≤(kcheckN l b m).2∧(kcheckN l b m).2≤9:=by
 unfold kcheckN
 split
 ·exact ⟨by decide,by decide⟩
 ·split
  ·exact ⟨by decide,by decide⟩
  ·rename_i k h
   have:=checkN_err b k.x k.y k.far
   omega
theorem tk_one (t:Tkt):t.cells.all AV.one=true:=rfl
theorem tk_len (t:Tkt):t.cells.length=5:=rfl
theorem tk_take (t:Tkt):t.cells.take 5=t.cells:=rfl
theorem tk_spl (t u:Tkt):splice t.cells 0 u.cells=u.cells:=splice_all rfl
end Go.Proofs.Ytgfploghjpbcaaa.Eng

