/- Rows of elements of many cells; the first that is as asked. (No program in sight.) -/
import Derived.Test.YtabpkmfgmjnipaaME6
import Derived.Test.YtabpkmfgmjnipaaMCa
namespace Go.Proofs.Ytabpkmfgmjnipaa.Eng
open Go
set_option linter.unusedVariables false
set_option linter.unusedSimpArgs false
theorem elt_flat {α:Type} (f:α→List AV) (k:Nat) (hk:∀ a,(f a).length=k):∀ (l:List α) (i:Nat) (d:α),i<l.length→elt (l.flatMap f) k i=f (l.getD i d)
 | [],i,d,h => absurd h (Nat.not_lt_zero _)
 | a::l,0,d,h => by
  show ((f a++l.flatMap f).drop (0*k)).take k=f a
  rw [Nat.zero_mul,List.drop_zero,List.take_left' (hk a)]
 | a::l,i+1,d,h => by
  have:=elt_flat f k hk l i d (Nat.lt_of_succ_lt_succ h)
  show ((f a++l.flatMap f).drop ((i+1)*k)).take k=f (l.getD i d)
  rw [← this,elt,Nat.succ_mul,Nat.add_comm,← List.drop_drop,List.drop_left' (hk a)]
end Go.Proofs.Ytabpkmfgmjnipaa.Eng
namespace Go.Proofs.Ytabpkmfgmjnipaa.Eng
open Go Go.Proofs
set_option linter.unusedVariables false
set_option linter.unusedSimpArgs false
set_option maxRecDepth 10000
section
variable {H:AH}
abbrev eAV (n:Int):AV:=.lit (.iface T.api_Code (.int .i64 n))
theorem xor8 (a b:UInt8):bXor .u8 (a.toNat:Int) (b.toNat:Int)=((a ^^^ b).toNat:Int):=by
 have h:∀ x:UInt8,(BitVec.ofInt 8 (x.toNat:Int)).toNat=x.toNat:=fun x => by
  have:=x.toNat_lt
  rw [BitVec.toNat_ofInt]; omega
 have h2:=(a ^^^ b).toNat_lt
 show IntKind.u8.wrap ((BitVec.ofInt 8 (a.toNat:Int) ^^^ BitVec.ofInt 8 (b.toNat:Int)).toNat:Int)=_
 rw [BitVec.toNat_xor,h,h,← UInt8.toNat_xor]
 generalize (a ^^^ b).toNat=n at h2 ⊢
 simp only [IntKind.wrap,IntKind.bits,IntKind.signed]
 show ((n:Int)%256)=n
 omega
def clV (H:AH) (n:Nat):AV:=if n=0 then .view [] 0 false else .row H.length 0 n n
def clH (H:AH) (cs:List AV) (n:Nat):AH:=if n=0 then H else H++[⟨cs,1,true⟩]
theorem t_clone {x:AV} {cs:List AV} {n:Nat} (hx:Sl 1 H x cs n) (hp:pureL cs=true) (h1:cs.all AV.one=true) (hn:n≤140737488355328):Called Try.prog F.slices_Clone_byte_byte [x] H (clV H n) (clH H cs n):=by
 have hl:=hx.length
 refine e_slices_Clone_byte_byte ?_
 simp only [ic_slices_Clone_byte_byte,go_sem]
 by_cases h0:n=0
 ·subst h0
  have:cs=[]:=List.eq_nil_of_length_eq_zero (by omega)
  subst this
  rw [clV,clH,if_pos rfl,if_pos rfl]
  refine hx.nilc (fun h0 => leave_le (le_nil false)) ?_
  ·simp only [go_sem,hx.s]
   exact leave_drop (low_newrow (renk_none _) (by decide) hl hp _ _ rfl)
 ·rw [clV,clH,if_neg h0,if_neg h0]
  refine hx.nilc (fun h => absurd h h0) ?_
  simp only [go_sem,hx.s]
  refine ⟨⟨h1,by omega⟩,?_⟩
  rw [show cs.length=n by omega]
  exact Leave.refl _ _ _
def snE (H:AH) (n:Nat):AV:=clV (H++[dumO]) n
def snH (H:AH) (cs:List AV) (n:Nat):AH:=H++[⟨[snE H n],1,true⟩]++(if n=0 then [] else [⟨cs,1,true⟩])
theorem snE_one {H:AH} {n:Nat}:(snE H n).one=true∧(snE H n).cells=[snE H n]∧(snE H n).un=snE H n∧∀ g,okMay g (snE H n)=True:=by
 rw [snE,clV]
 split
 ·exact ⟨rfl,rfl,rfl,fun _ => rfl⟩
 ·exact ⟨rfl,rfl,rfl,fun _ => rfl⟩
theorem clH_eq (cs:List AV) (n:Nat):clH (H++[dumO]) cs n=H++[dumO]++(if n=0 then [] else [⟨cs,1,true⟩]):=by
 rw [clH]
 split
 ·rw [List.append_nil]
 ·rfl
theorem t_send0 {p:Nat} (hp0:p<H.length) (ho:obj H p=⟨[nilS],0,true⟩) {x:AV} {cs:List AV} {n:Nat} (hx:∀ G,Sl 1 (H++G) x cs n) (hp:pureL cs=true) (h1:cs.all AV.one=true) (hn:n≤140737488355328) :
  Called Try.prog F.link_Link_Send [.ptr p 0,x] H nilE (setO (snH H cs n++[⟨[snE H n],1,true⟩]) p [.row (snH H cs n).length 0 1 1]):=by
 refine e_link_Link_Send ?_
 simp only [ic_link_Link_Send,go_sem,ho,hp0]
 refine ⟨fun h => absurd h (by decide),fun _ => ?_⟩
 refine callW_some (t_clone (hx _) hp h1 hn) (fun h => absurd h (by decide)) ?_
 rw [clH_eq]
 have e:=@snE_one H n
 rw [← snE]
 generalize hE:snE H n=E at e
 generalize hG:(if n=0 then [] else [⟨cs,1,true⟩]:AH)=G
 have hS:snH H cs n=H++[⟨[E],1,true⟩]++G:=by rw [snH,hE,hG]
 rw [hS]
 simp only [go_sem,e.1,e.2.1,e.2.2.1,e.2.2.2,obj_old _ _ hp0,ho]
 exact ⟨by omega,⟨by omega,by decide⟩,by omega,Leave.refl _ _ _⟩
theorem t_send {p r k L:Nat} (hp0:p<H.length) (hr:r<H.length) (hne:r≠p) (ho:obj H p=⟨[.row r 0 k L],0,true⟩) {qs:List AV} (hq:obj H r=⟨qs,1,true⟩) (hL:L=qs.length) (hk:k≤L) (hk2:k<64) {x:AV} {cs:List AV} {n:Nat} (hx:∀ G,Sl 1 (H++G) x cs n) (hp:pureL cs=true) (h1:cs.all AV.one=true) (hn:n≤140737488355328) :
  Called Try.prog F.link_Link_Send [.ptr p 0,x] H nilE (setO (setO (snH H cs n) r (appC 1 qs [snE H n] 0 k 1 L)) p [.row r 0 (k+1) (appL 1 0 k 1 1 L)]):=by
 refine e_link_Link_Send ?_
 simp only [ic_link_Link_Send,go_sem,ho,hp0]
 refine ⟨fun h => by omega,fun _ => ?_⟩
 refine callW_some (t_clone (hx _) hp h1 hn) (fun h => absurd h (by decide)) ?_
 rw [clH_eq]
 have e:=@snE_one H n
 rw [← snE]
 generalize hE:snE H n=E at e
 generalize hG:(if n=0 then [] else [⟨cs,1,true⟩]:AH)=G
 have hS:snH H cs n=H++[⟨[E],1,true⟩]++G:=by rw [snH,hE,hG]
 rw [hS]
 simp only [go_sem,e.1,e.2.1,e.2.2.1,e.2.2.2,obj_old _ _ hp0,obj_old _ _ hr,ho,hq,obj_setO_ne _ _ hne]
 exact ⟨by omega,⟨by omega,by omega,by omega,hL,hk⟩,by omega,Leave.refl _ _ _⟩
theorem t_full {p r k L:Nat} (hp0:p<H.length) (ho:obj H p=⟨[.row r 0 k L],0,true⟩) (hk:64≤k) (x:AV):Called Try.prog F.link_Link_Send [.ptr p 0,x] H (eAV 6) H:=by
 refine e_link_Link_Send ?_
 simp only [ic_link_Link_Send,go_sem,ho,hp0]
 exact ⟨fun _ => Leave.refl _ _ _,fun h => absurd h (by omega)⟩
theorem t_there {p k:Nat} {v:AV} (hp0:p<H.length) (ho:obj H p=⟨[v],0,true⟩) (hv:lenOk false v=True) (hn:srcN v=k) (hm:∀ g,okMay g v=True) (hu:v.un=v) (i:Int):Called Try.prog F.link_Link_there [.ptr p 0,I i] H (Bl (decide (0≤i)&&decide (i<k))) H:=by
 refine e_link_Link_there ?_
 simp only [ic_link_Link_there,go_sem,ho,hp0,hv,hn,hm,hu]
 exact Leave.refl _ _ _
theorem all_sub {l:List AV} (h:l.all AV.one=true) (a b:Nat):((l.drop a).take b).all AV.one=true:=by
 rw [List.all_eq_true] at h ⊢
 exact fun x hx => h x (List.mem_of_mem_drop (List.mem_of_mem_take hx))
theorem t_delete {r k i:Nat} {qs:List AV} (hr:r<H.length) (hq:obj H r=⟨qs,1,true⟩) (hone:qs.all AV.one=true) (hk:k≤qs.length) (hk2:k≤1000000) (hi:i<k) :
  Called Try.prog F.slices_Delete_byte_byte [.row r 0 k qs.length,I i,I (i+1:Nat)] H (.row r 0 (k - 1) qs.length) (setO H r (qs.take i++((qs.drop (i+1)).take (k - (i+1))++(nilS::qs.drop k)))):=by
 have hm:i+(k - (i+1))=k - 1:=by omega
 have hsrc:((qs.drop (i+1)).take (k - (i+1))).length=k - (i+1):=by rw [List.length_take,List.length_drop]; omega
 have eL:appL 1 0 i (k - (i+1)) (k - (i+1)) qs.length=qs.length:=by rw [appL]; split <;> omega
 have eC:appC 1 qs ((qs.drop (i+1)).take (k - (i+1))) 0 i (k - (i+1)) qs.length=qs.take i++((qs.drop (i+1)).take (k - (i+1))++qs.drop (k - 1)):=by
  rw [appC_eq rfl,List.append_assoc]
  simp only [Nat.mul_one,Nat.zero_add,hm]
 have hl:(qs.take i++((qs.drop (i+1)).take (k - (i+1))++qs.drop (k - 1))).length=qs.length:=by
  simp only [List.length_append,hsrc,List.length_take,List.length_drop]; omega
 have e2:((i:Int) == ((i+1:Nat):Int))=false:=by simp; omega
 have e3:k - (k - 1)=1:=by omega
 refine e_slices_Delete_byte_byte ?_
 simp only [ic_slices_Delete_byte_byte,go_sem,hr,hq,hsrc,eL,eC,hm,obj_setO _ _ hr,e2,all_sub hone,hl,clearOk,clearH,copyTo,e3]
 refine ⟨⟨by omega,by omega,by omega,by omega⟩,⟨by omega,by omega⟩,⟨by omega,by omega,by omega⟩,⟨by omega,by omega,by omega⟩,⟨by omega,by omega,by omega⟩,by omega,?_⟩
 have e4:(qs.take i++((qs.drop (i+1)).take (k - (i+1))++qs.drop (k - 1))).set (k - 1) nilS=qs.take i++((qs.drop (i+1)).take (k - (i+1))++(nilS::qs.drop k)):=by
  have hA:(qs.take i).length=i:=by rw [List.length_take]; omega
  rw [List.set_append_right _ _ (by omega),List.set_append_right _ _ (by omega),hA,hsrc,show k - 1 - i - (k - (i+1))=0 by omega,List.drop_eq_getElem_cons (show k - 1<qs.length by omega),List.set_cons_zero,show k - 1+1=k by omega]
 rw [setO_setO,e4]
 exact Leave.refl _ _ _
theorem t_take {p r k i:Nat} {qs:List AV} (hp0:p<H.length) (hr:r<H.length) (hne:r≠p) (ho:obj H p=⟨[.row r 0 k qs.length],0,true⟩) (hq:obj H r=⟨qs,1,true⟩) (hone:qs.all AV.one=true) (hk:k≤qs.length) (hk2:k≤1000000) (hi:i<k) :
  Called Try.prog F.link_Link_Take [.ptr p 0,I i] H (.tup [qs.getD i .junk,nilE]) (setO (setO H r (qs.take i++((qs.drop (i+1)).take (k - (i+1))++(nilS::qs.drop k)))) p [.row r 0 (k - 1) qs.length]):=by
 have e1:(decide (0≤(i:Int))&&decide ((i:Int)<k))=true:=by simp; omega
 refine e_link_Link_Take ?_
 simp only [ic_link_Link_Take,go_sem]
 refine callW_some (t_there (k:=k) hp0 ho rfl rfl (fun _ => rfl) rfl i) (fun _ => rfl) ?_
 simp only [go_sem,e1,ho,hp0,hr,hq]
 refine ⟨by omega,by omega,?_⟩
 rw [w64 _ (by omega) (by omega)]
 refine callW_some (t_delete hr hq hone hk hk2 hi) (fun h => absurd h (by decide)) ?_
 simp only [go_sem,ho,hp0,hr,hq,obj_setO_ne _ _ hne]
 exact Leave.refl _ _ _
theorem t_takeno {p k:Nat} {v:AV} (hp0:p<H.length) (ho:obj H p=⟨[v],0,true⟩) (hv:lenOk false v=True) (hn:srcN v=k) (hm:∀ g,okMay g v=True) (hu:v.un=v) {i:Int} (hi:i<0∨k≤i):Called Try.prog F.link_Link_Take [.ptr p 0,I i] H (.tup [nilS,eAV 4]) H:=by
 have e1:(decide (0≤(i:Int))&&decide ((i:Int)<k))=false:=by simp; omega
 refine e_link_Link_Take ?_
 simp only [ic_link_Link_Take,go_sem]
 refine callW_some (t_there (k:=k) hp0 ho hv hn hm hu i) (fun _ => rfl) ?_
 simp only [go_sem,e1]
 exact Leave.refl _ _ _
theorem t_new (H:AH):Called Try.prog F.link_New [] H (.ptr H.length 0) (H++[⟨[nilS],0,true⟩]):=by
 refine e_link_New ?_
 simp only [ic_link_New,go_sem]
 exact Leave.refl _ _ _
theorem t_many {p k:Nat} {v:AV} (hp0:p<H.length) (ho:obj H p=⟨[v],0,true⟩) (hv:lenOk false v=True) (hn:srcN v=k):Called Try.prog F.link_Link_Many [.ptr p 0] H (I k) H:=by
 refine e_link_Link_Many ?_
 simp only [ic_link_Link_Many,go_sem,ho,hp0,hv,hn]
 exact Leave.refl _ _ _
theorem t_dblno {p k:Nat} {v:AV} (hp0:p<H.length) (ho:obj H p=⟨[v],0,true⟩) (hv:lenOk false v=True) (hn:srcN v=k) (hm:∀ g,okMay g v=True) (hu:v.un=v) {i:Int} (hi:i<0∨k≤i):Called Try.prog F.link_Link_Double [.ptr p 0,I i] H (eAV 4) H:=by
 have e1:(decide (0≤(i:Int))&&decide ((i:Int)<k))=false:=by simp; omega
 refine e_link_Link_Double ?_
 simp only [ic_link_Link_Double,go_sem]
 refine callW_some (t_there (k:=k) hp0 ho hv hn hm hu i) (fun _ => rfl) ?_
 simp only [go_sem,e1]
 exact Leave.refl _ _ _
theorem t_double {p r k i:Nat} {qs:List AV} {v:AV} {H':AH} (hp0:p<H.length) (hr:r<H.length) (ho:obj H p=⟨[.row r 0 k qs.length],0,true⟩) (hq:obj H r=⟨qs,1,true⟩) (hk:k≤qs.length) (hi:i<k) (hu:(qs.getD i .junk).un=qs.getD i .junk) (ho1:(qs.getD i .junk).one=true)
  (hs:Called Try.prog F.link_Link_Send [.ptr p 0,qs.getD i .junk] H v H') (hv:v.un=v) :
  Called Try.prog F.link_Link_Double [.ptr p 0,I i] H v H':=by
 have e1:(decide (0≤(i:Int))&&decide ((i:Int)<k))=true:=by simp; omega
 refine e_link_Link_Double ?_
 simp only [ic_link_Link_Double,go_sem]
 refine callW_some (t_there (k:=k) hp0 ho rfl rfl (fun _ => rfl) rfl i) (fun _ => rfl) ?_
 simp only [go_sem,e1,ho,hp0,hr,hq,hu,ho1]
 refine ⟨by omega,by omega,?_⟩
 refine callW_some hs (fun h => absurd h (by decide)) ?_
 simp only [go_sem,hv]
 exact Leave.refl _ _ _
theorem t_flipno {p k:Nat} {v:AV} (hp0:p<H.length) (ho:obj H p=⟨[v],0,true⟩) (hv:lenOk false v=True) (hn:srcN v=k) (hm:∀ g,okMay g v=True) (hu:v.un=v) {i a x:Int} (hi:i<0∨k≤i):Called Try.prog F.link_Link_Flip [.ptr p 0,I i,I a,.lit (.int .u8 x)] H (eAV 4) H:=by
 have e1:(decide (0≤(i:Int))&&decide ((i:Int)<k))=false:=by simp; omega
 refine e_link_Link_Flip ?_
 simp only [ic_link_Link_Flip,go_sem]
 refine callW_some (t_there (k:=k) hp0 ho hv hn hm hu i) (fun _ => rfl) ?_
 simp only [go_sem,e1]
 exact Leave.refl _ _ _
theorem t_flipat {p r k i:Nat} {qs:List AV} (hp0:p<H.length) (hr:r<H.length) (ho:obj H p=⟨[.row r 0 k qs.length],0,true⟩) (hq:obj H r=⟨qs,1,true⟩) (hk:k≤qs.length) (hi:i<k) {cs:List AV} {n:Nat} (hs:Sl 1 H (qs.getD i .junk) cs n) {a x:Int} (ha:a<0∨n≤a) :
  Called Try.prog F.link_Link_Flip [.ptr p 0,I i,I a,.lit (.int .u8 x)] H (eAV 4) H:=by
 have e1:(decide (0≤(i:Int))&&decide ((i:Int)<k))=true:=by simp; omega
 refine e_link_Link_Flip ?_
 simp only [ic_link_Link_Flip,go_sem]
 refine callW_some (t_there (k:=k) hp0 ho rfl rfl (fun _ => rfl) rfl i) (fun _ => rfl) ?_
 simp only [go_sem,e1,ho,hp0,hr,hq,hs.s]
 have en:((!decide (a<0))=true→0≤(i:Int)∧(i:Int)<k):=fun _ => ⟨by omega,by omega⟩
 have ed:(decide (a<0) || decide ((n:Int)≤a))=true:=by simp only [Bool.or_eq_true,decide_eq_true_eq]; exact ha
 exact ⟨en,fun _ => by omega,fun _ => Leave.refl _ _ _,fun h => by rw [ed] at h; cases h⟩
theorem set_u8 (v:List UInt8) (a:Nat) (b:UInt8):(bs v).set a (u8 b)=bs (v.set a b):=List.map_set.symm
theorem t_flip {p r k i o:Nat} {qs:List AV} {v:List UInt8} (hp0:p<H.length) (hr:r<H.length) (ho:obj H p=⟨[.row r 0 k qs.length],0,true⟩) (hq:obj H r=⟨qs,1,true⟩) (hk:k≤qs.length) (hi:i<k) (hg:qs.getD i .junk=.row o 0 v.length v.length) (hv:obj H o=⟨bs v,1,true⟩) (hol:o<H.length) {a:Nat} (ha:a<v.length) {x:UInt8} :
  Called Try.prog F.link_Link_Flip [.ptr p 0,I i,I a,u8 x] H nilE (setO H o (bs (v.set a (v.getD a 0 ^^^ x)))):=by
 have e1:(decide (0≤(i:Int))&&decide ((i:Int)<k))=true:=by simp; omega
 refine e_link_Link_Flip ?_
 simp only [ic_link_Link_Flip,go_sem]
 refine callW_some (t_there (k:=k) hp0 ho rfl rfl (fun _ => rfl) rfl i) (fun _ => rfl) ?_
 simp only [go_sem,e1,ho,hp0,hr,hq,hg,hv,hol,bs_get _ _ ha,bs_len,xor8]
 rw [← set_u8]
 have en:((!decide ((a:Int)<0))=true→0≤(i:Int)∧(i:Int)<k):=fun _ => ⟨by omega,by omega⟩
 have ed:(decide ((a:Int)<0) || decide ((v.length:Int)≤a))=false:=by simp; omega
 exact ⟨en,fun _ => by omega,fun h => by (rw [ed] at h; cases h),fun _ => ⟨⟨by omega,by omega⟩,by omega,⟨by omega,by omega⟩,by omega,⟨by omega,by omega⟩,by omega,Leave.refl _ _ _⟩⟩
end
end Go.Proofs.Ytabpkmfgmjnipaa.Eng
namespace Go.Proofs.Ytabpkmfgmjnipaa.Eng
open Go Go.Proofs
set_option linter.unusedVariables false
set_option linter.unusedSimpArgs false
def ids:AV→List Nat
 | .row id _ _ _ => [id]
 | _ => []
def Elt (B:Nat) (H:AH) (x:AV) (v:List UInt8):Prop:=(x=.view [] 0 false∧v=[])∨∃ o,x=.row o 0 v.length v.length∧0<o∧o<B∧obj H o=⟨bs v,1,true⟩
def Sd (l:List AV):Prop:=l.Pairwise fun x y => ∀ o ∈ ids x,o ∉ ids y
structure Inv (B:Nat) (H:AH) (lv w:AV) (qs ws:List AV) (fr:Nat) (vq vw:List (List UInt8)):Prop where
 b0:0<B
 bh:B≤H.length
 o0:obj H 0=⟨[lv],0,true⟩
 lk:(lv=nilS∧qs=[]∧fr=0)∨∃ r,lv=.row r 0 qs.length (qs.length+fr)∧0<r∧r<B∧obj H r=⟨qs++List.replicate fr nilS,1,true⟩
 wy:(w=nilS∧ws=[])∨∃ r,w=.row r 0 ws.length ws.length∧0<r∧r<B∧obj H r=⟨ws,1,true⟩
 lw:∀ r ∈ ids lv,r ∉ ids w
 ql:qs.length=vq.length
 wl:ws.length=vw.length
 eq:∀ i,i<vq.length→Elt B H (qs.getD i .junk) (vq.getD i [])
 ew:∀ i,i<vw.length→Elt B H (ws.getD i .junk) (vw.getD i [])
 sq:Sd qs
 sw:Sd ws
 dj:∀ x ∈ qs,∀ y ∈ ws,∀ o ∈ ids x,o ∉ ids y
 nq:∀ x ∈ qs,∀ o ∈ ids x,o ∉ ids lv∧o ∉ ids w
 nw:∀ x ∈ ws,∀ o ∈ ids x,o ∉ ids lv∧o ∉ ids w
section
variable {B B':Nat} {H H':AH} {lv lv' w w' x E:AV} {qs ws:List AV} {fr fr':Nat} {vq vw:List (List UInt8)} {v:List UInt8}
theorem Elt.lt (h:Elt B H x v):∀ o ∈ ids x,0<o∧o<B:=by
 rcases h with ⟨rfl,_⟩ | ⟨o,rfl,h1,h2,_⟩
 ·intro o h; cases h
 ·intro o h; cases List.mem_singleton.1 h; exact ⟨h1,h2⟩
theorem Elt.mono (h:Elt B H x v) (hB:B≤B') (hH:∀ o ∈ ids x,obj H' o=obj H o):Elt B' H' x v:=by
 rcases h with h | ⟨o,rfl,h1,h2,h3⟩
 ·exact .inl h
 ·exact .inr ⟨o,rfl,h1,by omega,by rw [hH o (List.mem_singleton.2 rfl),h3]⟩
theorem Elt.sl (h:Elt B H x v) (hB:B≤H.length):Sl 1 H x (bs v) v.length:=by
 rcases h with ⟨rfl,rfl⟩ | ⟨o,rfl,h1,h2,h3⟩
 ·exact .view rfl _
 ·exact .row (by omega) (by rw [h3,bs_len]) (by omega) (by rw [h3,List.drop_zero,List.take_of_length_le (by simp)]) (.inl (by rw [h3]))
theorem mem_getD {l:List AV} (h:x ∈ l):∃ i,i<l.length∧l.getD i .junk=x:=by
 obtain ⟨i,hi,e⟩:=List.getElem_of_mem h
 exact ⟨i,hi,by rw [List.getD_eq_getElem?_getD,List.getElem?_eq_getElem hi]; exact e⟩
theorem getD_mem0 {l:List AV} {i:Nat} (h:i<l.length):l.getD i .junk ∈ l:=by
 rw [List.getD_eq_getElem?_getD,List.getElem?_eq_getElem h]; exact List.getElem_mem h
theorem Inv.ltq (h:Inv B H lv w qs ws fr vq vw):∀ x ∈ qs,∀ o ∈ ids x,0<o∧o<B:=fun x hx => by
 obtain ⟨i,hi,rfl⟩:=mem_getD hx
 exact (h.eq i (by rw [← h.ql]; exact hi)).lt
theorem Inv.ltw (h:Inv B H lv w qs ws fr vq vw):∀ x ∈ ws,∀ o ∈ ids x,0<o∧o<B:=fun x hx => by
 obtain ⟨i,hi,rfl⟩:=mem_getD hx
 exact (h.ew i (by rw [← h.wl]; exact hi)).lt
theorem Inv.ltl (h:Inv B H lv w qs ws fr vq vw):∀ o ∈ ids lv,0<o∧o<B:=by
 rcases h.lk with ⟨rfl,_⟩ | ⟨r,rfl,h1,h2,_⟩
 ·intro o h; cases h
 ·intro o h; cases List.mem_singleton.1 h; exact ⟨h1,h2⟩
theorem Inv.ltv (h:Inv B H lv w qs ws fr vq vw):∀ o ∈ ids w,0<o∧o<B:=by
 rcases h.wy with ⟨rfl,_⟩ | ⟨r,rfl,h1,h2,_⟩
 ·intro o h; cases h
 ·intro o h; cases List.mem_singleton.1 h; exact ⟨h1,h2⟩
theorem Inv.far (h:Inv B H lv w qs ws fr vq vw) (hB:B≤B') (hl:B'≤H'.length) (hH:∀ o,o<B→obj H' o=obj H o):Inv B' H' lv w qs ws fr vq vw where
 b0:=by have:=h.b0; omega
 bh:=hl
 o0:=by rw [hH 0 h.b0,h.o0]
 lk:=by
  rcases h.lk with h1 | ⟨r,h1,h2,h3,h4⟩
  ·exact .inl h1
  ·exact .inr ⟨r,h1,h2,by omega,by rw [hH r h3,h4]⟩
 wy:=by
  rcases h.wy with h1 | ⟨r,h1,h2,h3,h4⟩
  ·exact .inl h1
  ·exact .inr ⟨r,h1,h2,by omega,by rw [hH r h3,h4]⟩
 lw:=h.lw
 ql:=h.ql
 wl:=h.wl
 eq:=fun i hi => (h.eq i hi).mono hB fun o ho => hH o ((h.eq i hi).lt o ho).2
 ew:=fun i hi => (h.ew i hi).mono hB fun o ho => hH o ((h.ew i hi).lt o ho).2
 sq:=h.sq
 sw:=h.sw
 dj:=h.dj
 nq:=h.nq
 nw:=h.nw
theorem getD_snoc {α:Type} (l:List α) (a d:α) (i:Nat):(l++[a]).getD i d=if i=l.length then a else l.getD i d:=by
 simp only [List.getD_eq_getElem?_getD]
 rcases Nat.lt_trichotomy i l.length with h | h | h
 ·rw [List.getElem?_append_left h,if_neg (by omega)]
 ·rw [if_pos h,List.getElem?_append_right (by omega),h,Nat.sub_self]; rfl
 ·rw [if_neg (by omega),List.getElem?_eq_none (by simp; omega),List.getElem?_eq_none (by omega)]
theorem getD_erase {α:Type} (l:List α) (d:α) (i j:Nat):(l.eraseIdx i).getD j d=if j<i then l.getD j d else l.getD (j+1) d:=by
 simp only [List.getD_eq_getElem?_getD,List.getElem?_eraseIdx]
 split <;> rfl
theorem Sd.snoc {l:List AV} (h:Sd l) (hE:∀ x ∈ l,∀ o ∈ ids x,o ∉ ids E):Sd (l++[E]) :=
 List.pairwise_append.2 ⟨h,List.pairwise_singleton _ _,fun a ha b hb => by cases List.mem_singleton.1 hb; exact hE a ha⟩
theorem Sd.erase {l:List AV} (h:Sd l) (i:Nat):Sd (l.eraseIdx i):=h.sublist (List.eraseIdx_sublist l i)
theorem Inv.addq (h:Inv B H lv w qs ws fr vq vw) (hl:B≤H'.length) (o0:obj H' 0=⟨[lv'],0,true⟩) (lk:∃ r,lv'=.row r 0 (qs++[E]).length ((qs++[E]).length+fr')∧(r ∈ ids lv∨B≤r)∧0<r∧r<H'.length∧obj H' r=⟨qs++[E]++List.replicate fr' nilS,1,true⟩)
  (hH:∀ o,0<o→o<B→o ∉ ids lv→obj H' o=obj H o) (hE:Elt H'.length H' E v) (hE2:∀ o ∈ ids E,B≤o∧o ∉ ids lv'):Inv H'.length H' lv' w (qs++[E]) ws fr' (vq++[v]) vw:=by
 obtain ⟨r,rfl,hr,r0,r1,r2⟩:=lk
 have hm:∀ o,o<B→o ∉ ids lv→o ∉ ids (AV.row r 0 (qs++[E]).length ((qs++[E]).length+fr')):=fun o h1 h2 h3 => by
  cases List.mem_singleton.1 h3
  rcases hr with hr | hr
  ·exact h2 hr
  ·omega
 have hq:∀ x ∈ qs,∀ o ∈ ids x,obj H' o=obj H o:=fun x hx o ho => hH o (h.ltq x hx o ho).1 (h.ltq x hx o ho).2 (h.nq x hx o ho).1
 have hw:∀ x ∈ ws,∀ o ∈ ids x,obj H' o=obj H o:=fun x hx o ho => hH o (h.ltw x hx o ho).1 (h.ltw x hx o ho).2 (h.nw x hx o ho).1
 refine ⟨by have:=h.b0; omega,Nat.le_refl _,o0,.inr ⟨r,rfl,r0,r1,r2⟩,?_,?_,by simp [h.ql],h.wl,?_,?_,?_,h.sw,?_,?_,?_⟩
 ·rcases h.wy with h1 | ⟨s,h1,h2,h3,h4⟩
  ·exact .inl h1
  ·refine .inr ⟨s,h1,h2,by omega,?_⟩
   rw [hH s h2 h3 (fun hs => h.lw s hs (by rw [h1]; exact List.mem_singleton.2 rfl)),h4]
 ·intro s hs
  cases List.mem_singleton.1 hs
  rcases hr with hr | hr
  ·exact h.lw _ hr
  ·exact fun h1 => by have:=h.ltv _ h1; omega
 ·intro i hi
  rw [getD_snoc,getD_snoc,h.ql]
  split
  ·exact hE
  ·have hi:i<vq.length:=by simp at hi; omega
   exact (h.eq i hi).mono hl (hq _ (getD_mem0 (by rw [h.ql]; exact hi)))
 ·intro i hi
  exact (h.ew i hi).mono hl (hw _ (getD_mem0 (by rw [h.wl]; exact hi)))
 ·exact h.sq.snoc fun x hx o ho h1 => by have:=hE2 o h1; have:=h.ltq x hx o ho; omega
 ·intro x hx y hy o ho h1
  rcases List.mem_append.1 hx with hx | hx
  ·exact h.dj x hx y hy o ho h1
  ·cases List.mem_singleton.1 hx
   have:=hE2 o ho; have:=h.ltw y hy o h1; omega
 ·intro x hx o ho
  rcases List.mem_append.1 hx with hx | hx
  ·exact ⟨hm o (h.ltq x hx o ho).2 (h.nq x hx o ho).1,(h.nq x hx o ho).2⟩
  ·cases List.mem_singleton.1 hx
   exact ⟨(hE2 o ho).2,fun h1 => by have:=hE2 o ho; have:=h.ltv o h1; omega⟩
 ·intro x hx o ho
  exact ⟨hm o (h.ltw x hx o ho).2 (h.nw x hx o ho).1,(h.nw x hx o ho).2⟩
theorem Inv.ersq (h:Inv B H lv w qs ws fr vq vw) {i:Nat} (hi:i<vq.length) (hl:B≤H'.length) (o0:obj H' 0=⟨[lv'],0,true⟩) (lk:∃ r,lv'=.row r 0 (qs.eraseIdx i).length ((qs.eraseIdx i).length+fr')∧ids lv=[r]∧obj H' r=⟨qs.eraseIdx i++List.replicate fr' nilS,1,true⟩)
  (hH:∀ o,0<o→o<B→o ∉ ids lv→obj H' o=obj H o):Inv B H' lv' w (qs.eraseIdx i) ws fr' (vq.eraseIdx i) vw:=by
 obtain ⟨r,rfl,hr,r2⟩:=lk
 have hrm:r ∈ ids lv:=by rw [hr]; exact List.mem_singleton.2 rfl
 have e:ids (AV.row r 0 (qs.eraseIdx i).length ((qs.eraseIdx i).length+fr'))=ids lv:=hr.symm
 have hq:∀ x ∈ qs,∀ o ∈ ids x,obj H' o=obj H o:=fun x hx o ho => hH o (h.ltq x hx o ho).1 (h.ltq x hx o ho).2 (h.nq x hx o ho).1
 have hw:∀ x ∈ ws,∀ o ∈ ids x,obj H' o=obj H o:=fun x hx o ho => hH o (h.ltw x hx o ho).1 (h.ltw x hx o ho).2 (h.nw x hx o ho).1
 have hme:∀ x,x ∈ qs.eraseIdx i→x ∈ qs:=fun x hx => (List.eraseIdx_sublist qs i).subset hx
 refine ⟨h.b0,hl,o0,.inr ⟨r,rfl,(h.ltl r hrm).1,(h.ltl r hrm).2,r2⟩,?_,by rw [e]; exact h.lw,by rw [List.length_eraseIdx,List.length_eraseIdx,h.ql],h.wl,?_,?_,h.sq.erase i,h.sw,fun x hx => h.dj x (hme x hx),fun x hx => by rw [e]; exact h.nq x (hme x hx),fun x hx => by rw [e]; exact h.nw x hx⟩
 ·rcases h.wy with h1 | ⟨s,h1,h2,h3,h4⟩
  ·exact .inl h1
  ·refine .inr ⟨s,h1,h2,by omega,?_⟩
   rw [hH s h2 h3 (fun hs => h.lw s hs (by rw [h1]; exact List.mem_singleton.2 rfl)),h4]
 ·intro j hj
  rw [List.length_eraseIdx,if_pos hi] at hj
  rw [getD_erase,getD_erase]
  split
  ·exact (h.eq j (by omega)).mono (Nat.le_refl _) (hq _ (getD_mem0 (by rw [h.ql]; omega)))
  ·exact (h.eq (j+1) (by omega)).mono (Nat.le_refl _) (hq _ (getD_mem0 (by rw [h.ql]; omega)))
 ·intro j hj
  exact (h.ew j hj).mono (Nat.le_refl _) (hw _ (getD_mem0 (by rw [h.wl]; omega)))
theorem Inv.neww (h:Inv B H lv w qs ws fr vq vw) {ws':List AV} {vw':List (List UInt8)} {r:Nat} (hl:B≤H'.length) (hr:B≤r) (hr2:r<H'.length) (ho:obj H' r=⟨ws',1,true⟩) (hH:∀ o,o<B→obj H' o=obj H o) (wl:ws'.length=vw'.length)
  (ew:∀ i,i<vw'.length→Elt H'.length H' (ws'.getD i .junk) (vw'.getD i [])) (sw:Sd ws') (hn:∀ x ∈ ws',x ∈ ws∨∀ o ∈ ids x,B≤o∧o≠r):Inv H'.length H' lv (.row r 0 ws'.length ws'.length) qs ws' fr vq vw' where
 b0:=by have:=h.b0; omega
 bh:=Nat.le_refl _
 o0:=by rw [hH 0 h.b0,h.o0]
 lk:=by
  rcases h.lk with h1 | ⟨r,h1,h2,h3,h4⟩
  ·exact .inl h1
  ·exact .inr ⟨r,h1,h2,by omega,by rw [hH r h3,h4]⟩
 wy:=.inr ⟨r,rfl,by have:=h.b0; omega,hr2,ho⟩
 lw:=fun s hs h1 => by cases List.mem_singleton.1 h1; have:=h.ltl _ hs; omega
 ql:=h.ql
 wl:=wl
 eq:=fun i hi => (h.eq i hi).mono hl fun o ho => hH o ((h.eq i hi).lt o ho).2
 ew:=ew
 sq:=h.sq
 sw:=sw
 dj:=fun x hx y hy o ho h1 => by
  rcases hn y hy with hy | hy
  ·exact h.dj x hx y hy o ho h1
  ·have:=(hy o h1).1; have:=h.ltq x hx o ho; omega
 nq:=fun x hx o ho => ⟨(h.nq x hx o ho).1,fun h1 => by cases List.mem_singleton.1 h1; have:=h.ltq x hx _ ho; omega⟩
 nw:=fun x hx o ho => by
  rcases hn x hx with hx | hx
  ·exact ⟨(h.nw x hx o ho).1,fun h1 => by cases List.mem_singleton.1 h1; have:=h.ltw x hx _ ho; omega⟩
  ·exact ⟨fun h1 => by have:=hx o ho; have:=h.ltl o h1; omega,fun h1 => (hx o ho).2 (List.mem_singleton.1 h1)⟩
theorem Sd.ne {l:List AV} (h:Sd l) {i j:Nat} (hi:i<l.length) (hj:j<l.length) (hne:i≠j) {o:Nat} (h1:o ∈ ids (l.getD i .junk)):o ∉ ids (l.getD j .junk):=by
 have hp:=List.pairwise_iff_getElem.1 h
 rw [List.getD_eq_getElem?_getD,List.getElem?_eq_getElem hi] at h1
 rw [List.getD_eq_getElem?_getD,List.getElem?_eq_getElem hj]
 rcases Nat.lt_or_gt_of_ne hne with h2 | h2
 ·exact hp i j hi hj h2 o h1
 ·exact fun h3 => hp j i hj hi h2 o h3 h1
theorem getD_set' {α:Type} (l:List α) (d a:α) (i j:Nat) (hi:i<l.length):(l.set i a).getD j d=if j=i then a else l.getD j d:=by
 simp only [List.getD_eq_getElem?_getD,List.getElem?_set]
 by_cases h:i=j
 ·subst h; rw [if_pos rfl,if_pos hi,if_pos rfl]; rfl
 ·rw [if_neg h,if_neg (Ne.symm h)]
theorem Inv.setq (h:Inv B H lv w qs ws fr vq vw) {i o:Nat} {v':List UInt8} (hi:i<vq.length) (hg:qs.getD i .junk=.row o 0 (vq.getD i []).length (vq.getD i []).length) (hv:v'.length=(vq.getD i []).length):Inv B (setO H o (bs v')) lv w qs ws fr (vq.set i v') vw:=by
 have hx:=getD_mem0 (l:=qs) (i:=i) (by rw [h.ql]; exact hi)
 have hoi:o ∈ ids (qs.getD i .junk):=by rw [hg]; exact List.mem_singleton.2 rfl
 have hob:obj H o=⟨bs (vq.getD i []),1,true⟩:=by
  rcases h.eq i hi with ⟨h1,_⟩ | ⟨o',h1,_,_,h2⟩
  ·rw [h1] at hg; cases hg
  ·rw [h1] at hg; cases hg; exact h2
 have hlo:=h.ltq _ hx o hoi
 have hH:∀ s,s≠o→obj (setO H o (bs v')) s=obj H s:=fun s hs => obj_setO_ne _ _ (Ne.symm hs)
 refine ⟨h.b0,by rw [setO_length]; exact h.bh,by rw [hH 0 (by omega)]; exact h.o0,?_,?_,h.lw,by rw [List.length_set]; exact h.ql,h.wl,?_,?_,h.sq,h.sw,h.dj,h.nq,h.nw⟩
 ·rcases h.lk with h1 | ⟨r,h1,h2,h3,h4⟩
  ·exact .inl h1
  ·refine .inr ⟨r,h1,h2,h3,?_⟩
   rw [hH r (fun e => (h.nq _ hx o hoi).1 (by rw [h1,e]; exact List.mem_singleton.2 rfl)),h4]
 ·rcases h.wy with h1 | ⟨r,h1,h2,h3,h4⟩
  ·exact .inl h1
  ·refine .inr ⟨r,h1,h2,h3,?_⟩
   rw [hH r (fun e => (h.nq _ hx o hoi).2 (by rw [h1,e]; exact List.mem_singleton.2 rfl)),h4]
 ·intro j hj
  rw [List.length_set] at hj
  rw [getD_set' _ _ _ _ _ hi]
  split
  ·rename_i e
   subst e
   refine .inr ⟨o,by rw [hg,hv],hlo.1,hlo.2,?_⟩
   rw [obj_setO _ _ (by have:=h.bh; omega),hob]
  ·rename_i e
   refine (h.eq j hj).mono (Nat.le_refl _) fun s hs => hH s fun e2 => ?_
   subst e2
   exact h.sq.ne (by rw [h.ql]; exact hi) (by rw [h.ql]; exact hj) (Ne.symm e) hoi hs
 ·intro j hj
  refine (h.ew j hj).mono (Nat.le_refl _) fun s hs => hH s fun e2 => ?_
  subst e2
  exact h.dj _ hx _ (getD_mem0 (by rw [h.wl]; exact hj)) s hoi hs
theorem Inv.setw (h:Inv B H lv w qs ws fr vq vw) {i o:Nat} {v':List UInt8} (hi:i<vw.length) (hg:ws.getD i .junk=.row o 0 (vw.getD i []).length (vw.getD i []).length) (hv:v'.length=(vw.getD i []).length):Inv B (setO H o (bs v')) lv w qs ws fr vq (vw.set i v'):=by
 have hx:=getD_mem0 (l:=ws) (i:=i) (by rw [h.wl]; exact hi)
 have hoi:o ∈ ids (ws.getD i .junk):=by rw [hg]; exact List.mem_singleton.2 rfl
 have hob:obj H o=⟨bs (vw.getD i []),1,true⟩:=by
  rcases h.ew i hi with ⟨h1,_⟩ | ⟨o',h1,_,_,h2⟩
  ·rw [h1] at hg; cases hg
  ·rw [h1] at hg; cases hg; exact h2
 have hlo:=h.ltw _ hx o hoi
 have hH:∀ s,s≠o→obj (setO H o (bs v')) s=obj H s:=fun s hs => obj_setO_ne _ _ (Ne.symm hs)
 refine ⟨h.b0,by rw [setO_length]; exact h.bh,by rw [hH 0 (by omega)]; exact h.o0,?_,?_,h.lw,h.ql,by rw [List.length_set]; exact h.wl,?_,?_,h.sq,h.sw,h.dj,h.nq,h.nw⟩
 ·rcases h.lk with h1 | ⟨r,h1,h2,h3,h4⟩
  ·exact .inl h1
  ·refine .inr ⟨r,h1,h2,h3,?_⟩
   rw [hH r (fun e => (h.nw _ hx o hoi).1 (by rw [h1,e]; exact List.mem_singleton.2 rfl)),h4]
 ·rcases h.wy with h1 | ⟨r,h1,h2,h3,h4⟩
  ·exact .inl h1
  ·refine .inr ⟨r,h1,h2,h3,?_⟩
   rw [hH r (fun e => (h.nw _ hx o hoi).2 (by rw [h1,e]; exact List.mem_singleton.2 rfl)),h4]
 ·intro j hj
  refine (h.eq j hj).mono (Nat.le_refl _) fun s hs => hH s fun e2 => ?_
  subst e2
  exact h.dj _ (getD_mem0 (by rw [h.ql]; exact hj)) _ hx s hs hoi
 ·intro j hj
  rw [List.length_set] at hj
  rw [getD_set' _ _ _ _ _ hi]
  split
  ·rename_i e
   subst e
   refine .inr ⟨o,by rw [hg,hv],hlo.1,hlo.2,?_⟩
   rw [obj_setO _ _ (by have:=h.bh; omega),hob]
  ·rename_i e
   refine (h.ew j hj).mono (Nat.le_refl _) fun s hs => hH s fun e2 => ?_
   subst e2
   exact h.sw.ne (by rw [h.wl]; exact hi) (by rw [h.wl]; exact hj) (Ne.symm e) hoi hs
end
end Go.Proofs.Ytabpkmfgmjnipaa.Eng
namespace Go.Proofs.Ytabpkmfgmjnipaa.Eng
open Go Go.Proofs
set_option linter.unusedVariables false
set_option linter.unusedSimpArgs false
set_option maxRecDepth 10000
section
variable {B:Nat} {H:AH} {lv w x:AV} {qs ws:List AV} {fr:Nat} {vq vw:List (List UInt8)} {v:List UInt8}
theorem Inv.lvf (h:Inv B H lv w qs ws fr vq vw):lenOk false lv=True∧srcN lv=vq.length∧(∀ g,okMay g lv=True)∧lv.un=lv:=by
 rcases h.lk with ⟨rfl,h1,_⟩ | ⟨r,rfl,_⟩
 ·exact ⟨rfl,by rw [← h.ql,h1]; rfl,fun _ => rfl,rfl⟩
 ·exact ⟨rfl,by rw [← h.ql]; rfl,fun _ => rfl,rfl⟩
theorem Inv.p0 (h:Inv B H lv w qs ws fr vq vw):0<H.length:=by have:=h.b0; have:=h.bh; omega
theorem Inv.row (h:Inv B H lv w qs ws fr vq vw) {i:Nat} (hi:i<vq.length):∃ r,lv=.row r 0 qs.length (qs++List.replicate fr nilS).length∧r≠0∧r<H.length∧obj H r=⟨qs++List.replicate fr nilS,1,true⟩∧ids lv=[r]∧0<r∧r<B:=by
 rcases h.lk with ⟨_,h1,_⟩ | ⟨r,h1,h2,h3,h4⟩
 ·have:=h.ql; rw [h1] at this; simp at this; omega
 ·have:=h.bh
  exact ⟨r,by rw [h1]; simp,by omega,by omega,h4,by rw [h1]; rfl,h2,h3⟩
theorem getD_app_l {α:Type} (l r:List α) (d:α) {i:Nat} (h:i<l.length):(l++r).getD i d=l.getD i d:=by
 simp only [List.getD_eq_getElem?_getD,List.getElem?_append_left h]
theorem Inv.one (h:Inv B H lv w qs ws fr vq vw):(qs++List.replicate fr nilS).all AV.one=true:=by
 rw [List.all_append,Bool.and_eq_true]
 refine ⟨?_,?_⟩
 ·rw [List.all_eq_true]
  intro x hx
  obtain ⟨i,hi,rfl⟩:=mem_getD hx
  exact ((h.eq i (by rw [← h.ql]; exact hi)).sl h.bh).one
 ·rw [List.all_eq_true]
  intro x hx
  rw [List.eq_of_mem_replicate hx]; rfl
theorem Elt.mono' {H':AH} {B':Nat} (h:Elt B H x v) (hH:∀ o ∈ ids x,o<B'∧obj H' o=obj H o):Elt B' H' x v:=by
 rcases h with h | ⟨o,rfl,h1,h2,h3⟩
 ·exact .inl h
 ·exact .inr ⟨o,rfl,h1,(hH o (List.mem_singleton.2 rfl)).1,by rw [(hH o (List.mem_singleton.2 rfl)).2,h3]⟩
theorem many_inv (h:Inv B H lv w qs ws fr vq vw):Called Try.prog F.link_Link_Many [.ptr 0 0] H (I vq.length) H :=
 t_many h.p0 h.o0 h.lvf.1 h.lvf.2.1
theorem takeno_inv (h:Inv B H lv w qs ws fr vq vw) {i:Int} (hi:i<0∨vq.length≤i):Called Try.prog F.link_Link_Take [.ptr 0 0,I i] H (.tup [nilS,eAV 4]) H :=
 t_takeno h.p0 h.o0 h.lvf.1 h.lvf.2.1 h.lvf.2.2.1 h.lvf.2.2.2 hi
theorem dblno_inv (h:Inv B H lv w qs ws fr vq vw) {i:Int} (hi:i<0∨vq.length≤i):Called Try.prog F.link_Link_Double [.ptr 0 0,I i] H (eAV 4) H :=
 t_dblno h.p0 h.o0 h.lvf.1 h.lvf.2.1 h.lvf.2.2.1 h.lvf.2.2.2 hi
theorem flipno_inv (h:Inv B H lv w qs ws fr vq vw) {i a x:Int} (hi:i<0∨vq.length≤i):Called Try.prog F.link_Link_Flip [.ptr 0 0,I i,I a,.lit (.int .u8 x)] H (eAV 4) H :=
 t_flipno h.p0 h.o0 h.lvf.1 h.lvf.2.1 h.lvf.2.2.1 h.lvf.2.2.2 hi
theorem flipat_inv (h:Inv B H lv w qs ws fr vq vw) {i:Nat} (hi:i<vq.length) {a x:Int} (ha:a<0∨(vq.getD i []).length≤a):Called Try.prog F.link_Link_Flip [.ptr 0 0,I i,I a,.lit (.int .u8 x)] H (eAV 4) H:=by
 obtain ⟨r,h1,h2,h3,h4,h5,h6,h7⟩:=h.row hi
 have hi':i<qs.length:=by rw [h.ql]; exact hi
 refine t_flipat (r:=r) (k:=qs.length) (qs:=qs++List.replicate fr nilS) (n:=(vq.getD i []).length) (cs:=bs (vq.getD i [])) h.p0 h3 (by rw [h.o0,h1]) h4 (by simp) hi' ?_ ha
 rw [getD_app_l _ _ _ hi']
 exact (h.eq i hi).sl h.bh
theorem flip_inv (h:Inv B H lv w qs ws fr vq vw) {i a:Nat} (hi:i<vq.length) (ha:a<(vq.getD i []).length) (x:UInt8):∃ H',Called Try.prog F.link_Link_Flip [.ptr 0 0,I i,I a,u8 x] H nilE H'∧Inv B H' lv w qs ws fr (vq.set i ((vq.getD i []).set a ((vq.getD i []).getD a 0 ^^^ x))) vw∧H'.length=H.length∧∀ o,B≤o→obj H' o=obj H o:=by
 obtain ⟨r,h1,h2,h3,h4,h5,h6,h7⟩:=h.row hi
 have hi':i<qs.length:=by rw [h.ql]; exact hi
 rcases h.eq i hi with ⟨_,h8⟩ | ⟨o,g1,g2,g3,g4⟩
 ·rw [h8] at ha; simp at ha
 ·have hb:=h.bh
  refine ⟨_,t_flip (r:=r) (k:=qs.length) (qs:=qs++List.replicate fr nilS) (v:=vq.getD i []) h.p0 h3 (by rw [h.o0,h1]) h4 (by simp) hi' (by rw [getD_app_l _ _ _ hi']; exact g1) g4 (by omega) ha,h.setq hi g1 (by simp),by rw [setO_length],fun s hs => obj_setO_ne _ _ (by omega)⟩
theorem eraseIdx_td {α:Type} (l r:List α) (i:Nat) (h:i<l.length):(l++r).take i++(((l++r).drop (i+1)).take (l.length - (i+1))++r)=l.eraseIdx i++r:=by
 rw [List.eraseIdx_eq_take_drop_succ,List.take_append_of_le_length (by omega),List.drop_append_of_le_length (by omega),List.take_append_of_le_length (by rw [List.length_drop]; omega),List.take_of_length_le (l:=l.drop (i+1)) (by rw [List.length_drop]; omega),List.append_assoc]
theorem take_inv (h:Inv B H lv w qs ws fr vq vw) (hv:vq.length≤100) {i:Nat} (hi:i<vq.length):∃ H' lv',Called Try.prog F.link_Link_Take [.ptr 0 0,I i] H (.tup [qs.getD i .junk,nilE]) H'∧Inv B H' lv' w (qs.eraseIdx i) ws (fr+1) (vq.eraseIdx i) vw∧Elt B H' (qs.getD i .junk) (vq.getD i [])∧H'.length=H.length∧∀ o,B≤o→obj H' o=obj H o:=by
 obtain ⟨r,h1,h2,h3,h4,h5,h6,h7⟩:=h.row hi
 have hi':i<qs.length:=by rw [h.ql]; exact hi
 have hb:=h.bh
 have ht:=t_take (p:=0) (r:=r) (k:=qs.length) (i:=i) (qs:=qs++List.replicate fr nilS) h.p0 h3 h2 (by rw [h.o0,h1]) h4 h.one (by simp) (by rw [h.ql]; omega) hi'
 rw [getD_app_l _ _ _ hi',List.drop_left,show nilS::List.replicate fr nilS=List.replicate (fr+1) nilS from rfl] at ht
 have e1:(qs++List.replicate fr nilS).take i++(((qs++List.replicate fr nilS).drop (i+1)).take (qs.length - (i+1))++List.replicate (fr+1) nilS)=qs.eraseIdx i++List.replicate (fr+1) nilS:=by
  have:=eraseIdx_td qs (List.replicate fr nilS) i hi'
  have e:List.take i (qs++List.replicate fr nilS)++List.take (qs.length - (i+1)) (List.drop (i+1) (qs++List.replicate fr nilS))=qs.eraseIdx i:=List.append_cancel_right (by rw [List.append_assoc]; exact this)
  rw [← List.append_assoc,e]
 rw [e1] at ht
 have hel:(qs.eraseIdx i).length=qs.length - 1:=by rw [List.length_eraseIdx,if_pos hi']
 have hH:∀ o,0<o→o≠r→obj (setO (setO H r (qs.eraseIdx i++List.replicate (fr+1) nilS)) 0 [.row r 0 (qs.length - 1) (qs++List.replicate fr nilS).length]) o=obj H o:=fun o g1 g2 => by
  rw [obj_setO_ne _ _ (by omega),obj_setO_ne _ _ (Ne.symm g2)]
 refine ⟨_,.row r 0 (qs.length - 1) (qs++List.replicate fr nilS).length,ht,h.ersq hi (by rw [setO_length,setO_length]; exact hb) ?_ ⟨r,?_,h5,?_⟩ ?_,?_,by rw [setO_length,setO_length],fun o g1 => hH o (by omega) (by omega)⟩
 ·rw [obj_setO _ _ (by rw [setO_length]; exact h.p0),obj_setO_ne _ _ h2,h.o0]
 ·rw [hel,List.length_append,List.length_replicate]
  congr 1; omega
 ·rw [obj_setO_ne _ _ (Ne.symm h2),obj_setO _ _ h3,h4]
 ·intro o g1 g2 g3
  exact hH o g1 (fun e => g3 (by rw [h5,e]; exact List.mem_singleton.2 rfl))
 ·refine (h.eq i hi).mono (Nat.le_refl _) fun o g1 => ?_
  have g2:=h.ltq _ (getD_mem0 hi') o g1
  exact hH o g2.1 fun e => (h.nq _ (getD_mem0 hi') o g1).1 (by rw [h5,e]; exact List.mem_singleton.2 rfl)
theorem send_inv (h:Inv B H lv w qs ws fr vq vw) (hk:vq.length<64) (hx:∀ G,Sl 1 (H++G) x (bs v) v.length) (hn:v.length≤140737488355328):∃ H' lv' E fr',Called Try.prog F.link_Link_Send [.ptr 0 0,x] H nilE H'∧Inv H'.length H' lv' w (qs++[E]) ws fr' (vq++[v]) vw∧H.length≤H'.length∧(∀ o,B≤o→o<H.length→obj H' o=obj H o)∧∀ o,B≤o→o<H.length→o ∉ ids lv'∧o ∉ ids E:=by
 have hb:=h.bh
 have h0:=h.b0
 have hql:=h.ql
 have p0:=h.p0
 have hh:∀ c d:AObj,obj (H++[c]++[d]) (H.length+1)=d:=fun c d => by rw [List.append_assoc,obj_appk]; rfl
 obtain ⟨hE1,hE2,hE3⟩:Elt (H.length+2) (snH H (bs v) v.length) (snE H v.length) v∧(∀ o ∈ ids (snE H v.length),o=H.length+1∧H.length+1<(snH H (bs v) v.length).length)∧H.length<(snH H (bs v) v.length).length:=by
  by_cases hv:v.length=0
  ·have e:snE H v.length=.view [] 0 false:=by rw [snE,clV,if_pos hv]
   rw [e]
   refine ⟨.inl ⟨rfl,List.eq_nil_of_length_eq_zero hv⟩,fun o ho => ?_,?_⟩
   ·cases ho
   ·rw [snH,if_pos hv]; simp
  ·have e:snE H v.length=.row (H.length+1) 0 v.length v.length:=by rw [snE,clV,if_neg hv]; simp
   have e2:snH H (bs v) v.length=H++[⟨[snE H v.length],1,true⟩]++[⟨bs v,1,true⟩]:=by rw [snH,if_neg hv]
   rw [e2,e]
   refine ⟨.inr ⟨H.length+1,rfl,by omega,by omega,?_⟩,fun o ho => (by cases List.mem_singleton.1 ho; exact ⟨rfl,by simp⟩),by simp⟩
   exact hh _ _
 have hold:∀ o,o<H.length→obj (snH H (bs v) v.length) o=obj H o:=fun o ho => by
  rw [snH,List.append_assoc,obj_old _ _ ho]
 rcases h.lk with ⟨g1,g2,g3⟩ | ⟨r,g1,g2,g3,g4⟩
 ·subst g1 g2 g3
  have ht:=t_send0 p0 h.o0 hx (pure_bs v) (one_bs v) hn
  generalize snH H (bs v) v.length=H1 at *
  generalize snE H v.length=E at *
  have hlen:(setO (H1++[⟨[E],1,true⟩]) 0 [.row H1.length 0 1 1]).length=H1.length+1:=by rw [setO_length]; simp
  have hH:∀ o,0<o→o<H1.length→obj (setO (H1++[⟨[E],1,true⟩]) 0 [.row H1.length 0 1 1]) o=obj H1 o:=fun o k1 k2 => by
   rw [obj_setO_ne _ _ (by omega),obj_old _ _ k2]
  refine ⟨_,.row H1.length 0 1 1,E,0,ht,h.addq (H':=setO (H1++[⟨[E],1,true⟩]) 0 [.row H1.length 0 1 1]) (lv':=.row H1.length 0 1 1) (E:=E) (fr':=0) (by rw [hlen]; omega) ?_ ⟨H1.length,rfl,.inr (by omega),by omega,by rw [hlen]; omega,?_⟩ ?_ ?_ ?_,by rw [hlen]; omega,fun o k1 k2 => by rw [hH o (by omega) (by omega),hold o k2],fun o k1 k2 => ⟨fun k => by cases List.mem_singleton.1 k; omega,fun k => by have:=hE2 o k; omega⟩⟩
  ·rw [obj_setO _ _ (by simp),obj_old _ _ (by omega),hold 0 p0,h.o0]
  ·rw [obj_setO_ne _ _ (by omega),obj_app0]; rfl
  ·intro o k1 k2 k3
   rw [hH o k1 (by omega),hold o (by omega)]
  ·refine hE1.mono' (fun o ho => ?_)
   have:=hE2 o ho
   exact ⟨by rw [hlen]; omega,hH o (by omega) (by omega)⟩
  ·intro o ho
   have:=hE2 o ho
   exact ⟨by omega,fun k => by cases List.mem_singleton.1 k; omega⟩
 ·have hqf:(qs++List.replicate fr nilS).length=qs.length+fr:=by simp
  have ht:=t_send (p:=0) (r:=r) (k:=qs.length) (L:=qs.length+fr) p0 (by omega) (by omega) (by rw [h.o0,g1]) g4 hqf.symm (by omega) (by omega) hx (pure_bs v) (one_bs v) hn
  generalize snH H (bs v) v.length=H1 at *
  generalize snE H v.length=E at *
  have e1:appC 1 (qs++List.replicate fr nilS) [E] 0 qs.length 1 (qs.length+fr)=qs++[E]++List.replicate (fr - 1) nilS:=by
   rw [appC]
   simp only [Nat.mul_one,Nat.zero_add]
   cases fr with
   | zero => rw [if_pos (by omega)]; simp
   | succ m =>
    rw [if_neg (by omega),List.take_left,show qs.length+1=qs.length+1 from rfl,List.drop_append,List.drop_of_length_le (by omega),List.nil_append,Nat.add_sub_cancel_left,List.replicate_succ]
    rfl
  have e2:appL 1 0 qs.length 1 1 (qs.length+fr)=(qs++[E]).length+(fr - 1):=by
   rw [appL,List.length_append]
   simp only [Nat.mul_one,Nat.zero_add,List.length_singleton]
   split <;> omega
  rw [e1,e2] at ht
  have hlen:∀ a b,(setO (setO H1 r a) 0 b).length=H1.length:=fun a b => by rw [setO_length,setO_length]
  have hH:∀ a b o,0<o→o≠r→obj (setO (setO H1 r a) 0 b) o=obj H1 o:=fun a b o k1 k2 => by
   rw [obj_setO_ne _ _ (by omega),obj_setO_ne _ _ (Ne.symm k2)]
  have hr:r ∈ ids lv:=by rw [g1]; exact List.mem_singleton.2 rfl
  have ho1:=hold 0 p0
  have ho2:=hold r (by omega)
  refine ⟨_,.row r 0 (qs.length+1) ((qs++[E]).length+(fr - 1)),E,fr - 1,ht,h.addq (H':=setO (setO H1 r (qs++[E]++List.replicate (fr - 1) nilS)) 0 [.row r 0 (qs.length+1) ((qs++[E]).length+(fr - 1))]) (lv':=.row r 0 (qs.length+1) ((qs++[E]).length+(fr - 1))) (E:=E) (fr':=fr - 1) (by rw [hlen]; omega) ?_ ⟨r,by rw [List.length_append]; rfl,.inl hr,g2,by rw [hlen]; omega,?_⟩ ?_ ?_ ?_,by rw [hlen]; omega,fun o k1 k2 => by rw [hH _ _ o (by omega) (by omega),hold o k2],fun o k1 k2 => ⟨fun k => by cases List.mem_singleton.1 k; omega,fun k => by have:=hE2 o k; omega⟩⟩
  ·rw [obj_setO _ _ (by rw [setO_length]; omega),obj_setO_ne _ _ (by omega),ho1,h.o0]
  ·rw [obj_setO_ne _ _ (by omega),obj_setO _ _ (by omega),ho2,g4]
  ·intro o k1 k2 k3
   rw [hH _ _ o k1 (fun e => k3 (by rw [e]; exact hr)),hold o (by omega)]
  ·refine hE1.mono' (fun o ho => ?_)
   have:=hE2 o ho
   exact ⟨by rw [hlen]; omega,hH _ _ o (by omega) (by omega)⟩
  ·intro o ho
   have:=hE2 o ho
   exact ⟨by omega,fun k => by cases List.mem_singleton.1 k; omega⟩
end
end Go.Proofs.Ytabpkmfgmjnipaa.Eng
namespace Go.Proofs.Ytabpkmfgmjnipaa.Eng
open Go Go.Proofs
set_option linter.unusedVariables false
set_option linter.unusedSimpArgs false
set_option maxRecDepth 10000
section
variable {B:Nat} {H:AH} {lv w x:AV} {qs ws:List AV} {fr:Nat} {vq vw:List (List UInt8)} {v:List UInt8}
theorem full_inv (h:Inv B H lv w qs ws fr vq vw) (hk:64≤vq.length) (x:AV):Called Try.prog F.link_Link_Send [.ptr 0 0,x] H (eAV 6) H:=by
 obtain ⟨r,h1,h2,h3,h4,h5,h6,h7⟩:=h.row (i:=0) (by omega)
 exact t_full h.p0 (by rw [h.o0,h1]) (by rw [h.ql]; exact hk) x
theorem dblfull_inv (h:Inv B H lv w qs ws fr vq vw) (hk:64≤vq.length) {i:Nat} (hi:i<vq.length):Called Try.prog F.link_Link_Double [.ptr 0 0,I i] H (eAV 6) H:=by
 obtain ⟨r,h1,h2,h3,h4,h5,h6,h7⟩:=h.row hi
 have hi':i<qs.length:=by rw [h.ql]; exact hi
 have hs:=(h.eq i hi).sl h.bh
 exact t_double h.p0 h3 (by rw [h.o0,h1]) h4 (by simp) hi' (by rw [getD_app_l _ _ _ hi']; exact hs.un) (by rw [getD_app_l _ _ _ hi']; exact hs.one) (full_inv h hk _) rfl
theorem double_inv (h:Inv B H lv w qs ws fr vq vw) (hk:vq.length<64) {i:Nat} (hi:i<vq.length) (hn:(vq.getD i []).length≤140737488355328):∃ H' lv' E fr',Called Try.prog F.link_Link_Double [.ptr 0 0,I i] H nilE H'∧Inv H'.length H' lv' w (qs++[E]) ws fr' (vq++[vq.getD i []]) vw∧H.length≤H'.length∧∀ o,B≤o→o<H.length→obj H' o=obj H o:=by
 obtain ⟨r,h1,h2,h3,h4,h5,h6,h7⟩:=h.row hi
 have hi':i<qs.length:=by rw [h.ql]; exact hi
 have hs:=(h.eq i hi).sl h.bh
 obtain ⟨H',lv',E,fr',c,r1,r2,r3,_⟩:=send_inv h hk (x:=qs.getD i .junk) (v:=vq.getD i []) (fun G => hs.app) hn
 exact ⟨H',lv',E,fr',t_double h.p0 h3 (by rw [h.o0,h1]) h4 (by simp) hi' (by rw [getD_app_l _ _ _ hi']; exact hs.un) (by rw [getD_app_l _ _ _ hi']; exact hs.one) (by rw [getD_app_l _ _ _ hi']; exact c) rfl,r1,r2,r3⟩
theorem Inv.wsl (h:Inv B H lv w qs ws fr vq vw):Sl 1 H w ws vw.length:=by
 have:=h.bh
 rcases h.wy with ⟨rfl,h1⟩ | ⟨r,rfl,h1,h2,h3⟩
 ·have:=h.wl; rw [h1] at this; rw [h1,← this]; exact .nil
 ·rw [← h.wl]
  exact .row (by omega) (by rw [h3]) (by omega) (by rw [h3,List.drop_zero,List.take_of_length_le (by simp)]) (.inl (by rw [h3]))
theorem Inv.wone (h:Inv B H lv w qs ws fr vq vw):ws.all AV.one=true:=by
 rw [List.all_eq_true]
 intro x hx
 obtain ⟨i,hi,rfl⟩:=mem_getD hx
 exact ((h.ew i (by rw [← h.wl]; exact hi)).sl h.bh).one
theorem Inv.addw (h:Inv B H lv w qs ws fr vq vw) (v:List UInt8):Inv (H.length+3) (H++[⟨ws++[.row (H.length+1) 0 v.length v.length],1,true⟩,⟨bs v,1,true⟩,⟨[.row (H.length+1) 0 v.length v.length],1,true⟩]) lv (.row H.length 0 (vw.length+1) (vw.length+1)) qs (ws++[.row (H.length+1) 0 v.length v.length]) fr vq (vw++[v]):=by
 have hb:=h.bh
 have e:(ws++[AV.row (H.length+1) 0 v.length v.length]).length=vw.length+1:=by simp [h.wl]
 have hh:=h.neww (H':=H++[⟨ws++[.row (H.length+1) 0 v.length v.length],1,true⟩,⟨bs v,1,true⟩,⟨[.row (H.length+1) 0 v.length v.length],1,true⟩]) (r:=H.length) (ws':=ws++[.row (H.length+1) 0 v.length v.length]) (vw':=vw++[v]) (by simp; omega) hb (by simp) (by rw [obj_app0]; rfl) (fun o ho => obj_old _ _ (by omega)) (by simp [h.wl]) ?_ ?_ ?_
 ·rw [e] at hh
  simpa using hh
 ·intro i hi
  rw [getD_snoc,getD_snoc,h.wl]
  split
  ·exact .inr ⟨H.length+1,rfl,by omega,by simp,by rw [obj_appk]; rfl⟩
  ·have hi:i<vw.length:=by simp at hi; omega
   exact (h.ew i hi).mono (by simp; omega) fun o ho => obj_old _ _ (by have:=(h.ew i hi).lt o ho; omega)
 ·exact h.sw.snoc fun x hx o ho h1 => by
   cases List.mem_singleton.1 h1
   have:=h.ltw x hx _ ho; omega
 ·intro x hx
  rcases List.mem_append.1 hx with hx | hx
  ·exact .inl hx
  ·cases List.mem_singleton.1 hx
   exact .inr fun o ho => by cases List.mem_singleton.1 ho; omega
theorem Inv.ersw (h:Inv B H lv w qs ws fr vq vw) {i:Nat} (hi:i<vw.length):Inv (H.length+1) (H++[⟨ws.eraseIdx i,1,true⟩]) lv (.row H.length 0 (vw.length - 1) (vw.length - 1)) qs (ws.eraseIdx i) fr vq (vw.eraseIdx i):=by
 have hb:=h.bh
 have e:(ws.eraseIdx i).length=vw.length - 1:=by rw [List.length_eraseIdx,if_pos (by rw [h.wl]; exact hi),h.wl]
 have hh:=h.neww (H':=H++[⟨ws.eraseIdx i,1,true⟩]) (r:=H.length) (ws':=ws.eraseIdx i) (vw':=vw.eraseIdx i) (by simp; omega) hb (by simp) (by rw [obj_app0]; rfl) (fun o ho => obj_old _ _ (by omega)) (by rw [List.length_eraseIdx,List.length_eraseIdx,h.wl]) ?_ (h.sw.erase i) fun x hx => .inl ((List.eraseIdx_sublist ws i).subset hx)
 ·rw [e] at hh
  simpa using hh
 ·intro j hj
  have hm:∀ k,k<vw.length→Elt (H++([⟨ws.eraseIdx i,1,true⟩]:AH)).length (H++[⟨ws.eraseIdx i,1,true⟩]) (ws.getD k .junk) (vw.getD k []):=fun k hk => (h.ew k hk).mono (by simp; omega) fun o ho => obj_old _ _ (by have:=(h.ew k hk).lt o ho; omega)
  rw [List.length_eraseIdx,if_pos hi] at hj
  rw [getD_erase,getD_erase]
  split
  ·exact hm j (by omega)
  ·exact hm (j+1) (by omega)
theorem inv0 (G:AH):Inv 1 (⟨[nilS],0,true⟩::G) nilS nilS [] [] 0 [] [] where
 b0:=by omega
 bh:=by simp
 o0:=rfl
 lk:=.inl ⟨rfl,rfl,rfl⟩
 wy:=.inl ⟨rfl,rfl⟩
 lw:=fun _ h => by cases h
 ql:=rfl
 wl:=rfl
 eq:=fun _ h => by cases h
 ew:=fun _ h => by cases h
 sq:=.nil
 sw:=.nil
 dj:=fun _ h => by cases h
 nq:=fun _ h => by cases h
 nw:=fun _ h => by cases h
theorem t_up20:Called Try.prog F.clapperlaw20_up [] [] (Bl true) []:=by
 refine e_clapperlaw20_up ?_
 simp only [ic_clapperlaw20_up,go_sem]
 refine callW_some (t_new []) (fun h => absurd h (by decide)) ?_
 simp only [go_sem,markOk,s2bOk]
 obtain ⟨H1,lv1,E1,f1,c1,i1,l1,r1,_⟩:=send_inv (inv0 [⟨[u8 97],1,true⟩]) (x:=.row 1 0 1 1) (v:=[97]) (by simp) (fun G => .row (by simp) rfl (by decide) rfl (.inl rfl)) (by simp)
 refine callW_some c1 (fun h => absurd h (by decide)) ?_
 simp only [go_sem,markOk,s2bOk]
 obtain ⟨H2,lv2,E2,f2,c2,i2,l2,r2,_⟩:=send_inv (i1.far (B':=H1.length) (H':=H1++[⟨[u8 98],1,true⟩]) (Nat.le_refl _) (by simp) (fun o ho => obj_old _ _ ho)) (x:=.row H1.length 0 1 1) (v:=[98]) (by simp) (fun G => .row (by simp) (by rw [List.append_assoc,obj_app0]; rfl) (by decide) (by rw [List.append_assoc,obj_app0]; rfl) (.inl (by rw [List.append_assoc,obj_app0]; rfl))) (by simp)
 refine callW_some c2 (fun h => absurd h (by decide)) ?_
 simp only [go_sem]
 obtain ⟨H3,lv3,c3,i3,e3,l3,r3⟩:=take_inv i2 (by simp) (i:=0) (by simp)
 refine callW_some c3 (fun h => absurd h (by decide)) ?_
 simp only [go_sem]
 refine callW_some (takeno_inv i3 (i:=1) (by simp)) (fun _ => rfl) ?_
 have e3:Elt _ H3 E1 [97]:=e3
 have e1:=(e3.sl i3.bh).b2s
 have ec:(pfx false).c T.api_Code=true:=by decide
 have es:=(e3.sl i3.bh).s
 simp only [go_sem,e1,ec,es]
 refine callG_of (v:=I 1) (fun _ => many_inv i3) ?_
 simp only [go_sem]
 exact leave_drop (H:=[]) rfl
end
end Go.Proofs.Ytabpkmfgmjnipaa.Eng
namespace Go.Proofs.Ytabpkmfgmjnipaa.Eng
open Go Go.Proofs
set_option linter.unusedVariables false
set_option linter.unusedSimpArgs false
set_option maxRecDepth 10000
structure Dd where
 what:Int
 n:Int
 a:Int
 x:UInt8
 b:List UInt8
 f:Bool
def Dd.cells (d:Dd):List AV:=[I d.what,I d.n,I d.a,u8 d.x,vB d.b d.f]
theorem Dd.len (d:Dd):d.cells.length=5:=rfl
structure LS where
 H:AH
 lv:AV
 w:AV
 qs:List AV
 ws:List AV
 fr:Nat
 vs:List (List UInt8)
def LS.ok (s:LS):Prop:=Inv s.H.length s.H s.lv s.w s.qs s.ws s.fr s.vs s.vs∧s.vs.length≤64∧∀ v ∈ s.vs,v.length≤1000
structure LQ (Q:Ex→Env→AH→Prop) (D:AV) (i:Nat):Prop where
 nm:∀ (s:LS) (L:List (Nat × AV)),s.ok→look L 0=D→look L 3=Bl true→look L 4=.ptr 0 0→look L 5=s.w→look L 6=I i→Q .normal (look L) s.H
 ex:∀ (s:LS) (L:List (Nat × AV)),s.ok→look L 0=D→look L 3=Bl true→look L 4=.ptr 0 0→look L 5=s.w→look L 6=I i→Q (.exit 1) (look L) s.H
section
variable {B:Nat} {H:AH} {lv w D:AV} {qs ws:List AV} {fr i p:Nat} {vs:List (List UInt8)} {d:Dd} {L:List (Nat × AV)} {Q:Ex→Env→AH→Prop}
theorem Inv.up (h:Inv B H lv w qs ws fr vs vs):Inv H.length H lv w qs ws fr vs vs:=h.far h.bh (Nat.le_refl _) fun _ _ => rfl
theorem mem_erase {α:Type} {l:List α} {i:Nat} {x:α} (h:x ∈ l.eraseIdx i):x ∈ l:=(List.eraseIdx_sublist l i).subset h
set_option maxHeartbeats 2000000 in
theorem k_take (hI:Inv B H lv w qs ws fr vs vs) (hv:vs.length≤64) (hL:∀ v ∈ vs,v.length≤1000) (hp:B≤p) (hp2:p<H.length) (ho:obj H p=⟨d.cells,0,true⟩)
  (l0:look L 0=D) (l3:look L 3=Bl true) (l4:look L 4=.ptr 0 0) (l5:look L 5=w) (l6:look L 6=I i) (l7:look L 7=.ptr p 0) (l8:look L 8=Bl (decide (0≤d.n)&&decide (d.n<vs.length))) (hQ:LQ Q D i) :
  iwp (pfx false) (Called Try.prog) ic_clapperlaw20_LinkPlays_162 Q (look L) H:=by
 obtain ⟨dw,dn,da,dx,db,df⟩:=d
 simp only [Dd.cells] at ho l8
 have ec:(pfx false).c T.api_Code=true:=by decide
 simp only [ic_clapperlaw20_LinkPlays_162,go_sem,l0,l3,l4,l5,l6,l7,l8,ho]
 refine ⟨by omega,?_⟩
 by_cases hn:0≤dn∧dn<vs.length
 ·obtain ⟨k,rfl⟩:∃ k:Nat,dn=k:=⟨dn.toNat,by omega⟩
  have hk2:k<vs.length:=by omega
  obtain ⟨H',lv',c1,i1,e1,len1,fr1⟩:=take_inv hI (by omega) (i:=k) hk2
  refine callW_some c1 (fun h => absurd h (by decide)) ?_
  have t1:(decide (0≤(k:Int))&&decide ((k:Int)<vs.length))=true:=by simp; omega
  have ho':=(fr1 p hp).trans ho
  have hp3:p<H'.length:=by omega
  have x1:=(e1.sl i1.bh)
  have x2:=(i1.ew k hk2).sl i1.bh
  have wl:=i1.wl
  obtain ⟨r,rfl,r0,rB,hr⟩:=i1.wy.resolve_left (fun h => by rw [h.2] at wl; simp at wl; omega)
  have rl:r<H'.length:=by have:=i1.bh; omega
  have wk:ws.length=vs.length:=wl
  rw [wk] at l5
  have w1:IntKind.i64.wrap ((k:Int)+1)=((k+1:Nat):Int):=w64 _ (by omega) (by omega)
  have lk:(ws.take k).length=k:=by rw [List.length_take]; omega
  have e1:(ws.drop (k+1)).take (vs.length - (k+1))=ws.drop (k+1):=List.take_of_length_le (by rw [List.length_drop]; omega)
  have e2:ws.take k++ws.drop (k+1)=ws.eraseIdx k:=(List.eraseIdx_eq_take_drop_succ _ _).symm
  have e3:(ws.drop (k+1)).length=vs.length - (k+1):=by rw [List.length_drop]; omega
  have e4:k+(vs.length - (k+1))=vs.length - 1:=by omega
  have eo:∀ G,obj (H'++G) r=⟨ws,1,true⟩:=fun G => by rw [obj_old _ _ rl,hr]
  have a1:appC 1 (ws.take k) (ws.drop (k+1)) 0 k (vs.length - (k+1)) k=ws.eraseIdx k:=by rw [appC_end (by omega),e2]
  have a2:∀ m s,appL 1 0 k m s k=k+s:=fun m s => appL_end (by omega)
  have o1:=i1.wone
  have o2:(ws.take k).all AV.one=true:=by
   rw [List.all_eq_true] at o1 ⊢; exact fun x hx => o1 x (List.mem_of_mem_take hx)
  have o3:(ws.drop (k+1)).all AV.one=true:=by
   rw [List.all_eq_true] at o1 ⊢; exact fun x hx => o1 x (List.mem_of_mem_drop hx)
  simp only [go_sem,t1,l0,l3,l4,l5,l6,l7,l8,ho',x1.s,x1.b2s,x2.s,x2.b2s,hr,rl,hp3,bne_self_eq_false,w1,lk,Int.toNat_natCast,eo,e1,e3,e4,a1,a2,o2,o3]
  refine ⟨by omega,by omega,fun h => absurd h (by simp),fun _ => ⟨by omega,by omega,by omega,by omega,?_⟩⟩
  refine hQ.nm ⟨H'++[⟨ws.eraseIdx k,1,true⟩],lv',.row H'.length 0 (vs.length - 1) (vs.length - 1),qs.eraseIdx k,ws.eraseIdx k,fr+1,vs.eraseIdx k⟩ [(0,D),(3,Bl true),(4,.ptr 0 0),(5,.row H'.length 0 (vs.length - 1) (vs.length - 1)),(6,I i)] ⟨?_,?_,?_⟩ rfl rfl rfl rfl rfl
  ·have:=i1.ersw hk2
   simpa using this
  ·show (vs.eraseIdx k).length≤64
   rw [List.length_eraseIdx]; split <;> omega
  ·exact fun v hv => hL v (mem_erase hv)
 ·have t1:(decide (0≤dn)&&decide (dn<vs.length))=false:=by simp; omega
  refine callW_some (takeno_inv hI (i:=dn) (by omega)) (fun h => absurd h (by decide)) ?_
  simp only [go_sem,t1,l0,l3,l4,l5,l6,l7,l8,ho,ec]
  refine ⟨fun h => absurd h (by decide),fun _ => hQ.ex ⟨H,lv,w,qs,ws,fr,vs⟩ _ ⟨hI.up,hv,hL⟩ rfl rfl rfl rfl rfl⟩
end
end Go.Proofs.Ytabpkmfgmjnipaa.Eng
namespace Go.Proofs.Ytabpkmfgmjnipaa.Eng
open Go Go.Proofs
set_option linter.unusedVariables false
set_option linter.unusedSimpArgs false
set_option maxRecDepth 10000
section
variable {B:Nat} {H:AH} {lv w D:AV} {qs ws:List AV} {fr i p:Nat} {vs:List (List UInt8)} {d:Dd} {L:List (Nat × AV)} {Q:Ex→Env→AH→Prop}
set_option maxHeartbeats 2000000 in
theorem k_dbl (hI:Inv B H lv w qs ws fr vs vs) (hv:vs.length≤64) (hL:∀ v ∈ vs,v.length≤1000) (hp:B≤p) (hp2:p<H.length) (ho:obj H p=⟨d.cells,0,true⟩)
  (l0:look L 0=D) (l3:look L 3=Bl true) (l4:look L 4=.ptr 0 0) (l5:look L 5=w) (l6:look L 6=I i) (l7:look L 7=.ptr p 0) (l8:look L 8=Bl (decide (0≤d.n)&&decide (d.n<vs.length))) (hQ:LQ Q D i) :
  iwp (pfx false) (Called Try.prog) ic_clapperlaw20_LinkPlays_205 Q (look L) H:=by
 obtain ⟨dw,dn,da,dx,db,df⟩:=d
 simp only [Dd.cells] at ho l8
 have ec:(pfx false).c T.api_Code=true:=by decide
 have hws:=hI.wsl
 simp only [ic_clapperlaw20_LinkPlays_205,go_sem,l0,l3,l4,l5,l6,l7,l8,ho]
 refine ⟨by omega,?_⟩
 by_cases hn:0≤dn∧dn<vs.length
 ·obtain ⟨k,rfl⟩:∃ k:Nat,dn=k:=⟨dn.toNat,by omega⟩
  have hk2:k<vs.length:=by omega
  have t1:(decide (0≤(k:Int))&&decide ((k:Int)<vs.length))=true:=by simp; omega
  by_cases h64:64≤vs.length
  ·refine callW_some (dblfull_inv hI h64 hk2) (fun h => absurd h (by decide)) ?_
   simp only [go_sem,t1,l0,l3,l4,l5,l6,l7,l8,ho,ec,hws.s]
   exact ⟨fun _ => ⟨fun h => absurd h (by decide),fun _ => hQ.ex ⟨H,lv,w,qs,ws,fr,vs⟩ _ ⟨hI.up,hv,hL⟩ rfl rfl rfl rfl rfl⟩,fun h => absurd h (by omega)⟩
  ·have hlk:(vs.getD k []).length≤1000:=hL _ (getD_mem' hk2 _)
   obtain ⟨H',lv',E,fr',c1,i1,len1,fr1⟩:=double_inv hI (by omega) hk2 (by omega)
   refine callW_some c1 (fun h => absurd h (by decide)) ?_
   have ho':=(fr1 p hp hp2).trans ho
   have hp3:p<H'.length:=by omega
   have x2:=(i1.ew k hk2).sl i1.bh
   have wl:=i1.wl
   obtain ⟨r,rfl,r0,rB,hr⟩:=i1.wy.resolve_left (fun h => by rw [h.2] at wl; simp at wl; omega)
   have rl:r<H'.length:=rB
   have wk:ws.length=vs.length:=wl
   rw [wk] at l5
   have eo:∀ G,obj (H'++G) r=⟨ws,1,true⟩:=fun G => by rw [obj_old _ _ rl,hr]
   have a1:∀ s,appC 1 ws s 0 vs.length 1 vs.length=ws++s:=fun s => appC_end (by omega)
   have a2:∀ m s,appL 1 0 vs.length m s vs.length=vs.length+s:=fun m s => appL_end (by omega)
   have o1:=i1.wone
   have tw:ws.take vs.length=ws:=List.take_of_length_le (by omega)
   simp only [go_sem,t1,l0,l3,l4,l5,l6,l7,l8,ho',x2.s,hr,rl,hp3,eo,a1,a2,o1,wk,tw,bs_len,one_bs]
   refine ⟨fun h => absurd h (by omega),fun _ => ⟨by omega,by omega,by omega,by omega,by omega,?_⟩⟩
   refine hQ.nm ⟨H'++[⟨ws++[.row (H'.length+1) 0 (vs.getD k []).length (vs.getD k []).length],1,true⟩,⟨bs (vs.getD k []),1,true⟩,⟨[.row (H'.length+1) 0 (vs.getD k []).length (vs.getD k []).length],1,true⟩],lv',.row H'.length 0 (vs.length+1) (vs.length+1),qs++[E],ws++[.row (H'.length+1) 0 (vs.getD k []).length (vs.getD k []).length],fr',vs++[vs.getD k []]⟩ [(0,D),(3,Bl true),(4,.ptr 0 0),(5,.row H'.length 0 (vs.length+1) (vs.length+1)),(6,I i)] ⟨?_,?_,?_⟩ rfl rfl rfl rfl rfl
   ·have:=i1.addw (vs.getD k [])
    simpa using this
   ·show (vs++[vs.getD k []]).length≤64
    rw [List.length_append,List.length_singleton]; omega
   ·intro v hv
    rcases List.mem_append.1 hv with hv | hv
    ·exact hL v hv
    ·rw [List.mem_singleton.1 hv]; exact hlk
 ·have t1:(decide (0≤dn)&&decide (dn<vs.length))=false:=by simp; omega
  refine callW_some (dblno_inv hI (i:=dn) (by omega)) (fun h => absurd h (by decide)) ?_
  simp only [go_sem,t1,l0,l3,l4,l5,l6,l7,l8,ho,ec]
  exact ⟨fun h => absurd h (by decide),fun _ => hQ.ex ⟨H,lv,w,qs,ws,fr,vs⟩ _ ⟨hI.up,hv,hL⟩ rfl rfl rfl rfl rfl⟩
set_option maxHeartbeats 2000000 in
theorem k_flip (hI:Inv B H lv w qs ws fr vs vs) (hv:vs.length≤64) (hL:∀ v ∈ vs,v.length≤1000) (hp:B≤p) (hp2:p<H.length) (ho:obj H p=⟨d.cells,0,true⟩)
  (l0:look L 0=D) (l3:look L 3=Bl true) (l4:look L 4=.ptr 0 0) (l5:look L 5=w) (l6:look L 6=I i) (l7:look L 7=.ptr p 0) (l8:look L 8=Bl (decide (0≤d.n)&&decide (d.n<vs.length))) (hQ:LQ Q D i) :
  iwp (pfx false) (Called Try.prog) ic_clapperlaw20_LinkPlays_68 Q (look L) H:=by
 obtain ⟨dw,dn,da,dx,db,df⟩:=d
 simp only [Dd.cells] at ho l8
 have ec:(pfx false).c T.api_Code=true:=by decide
 have hws:=hI.wsl
 simp only [ic_clapperlaw20_LinkPlays_68,go_sem,l0,l3,l4,l5,l6,l7,l8,ho]
 refine ⟨by omega,by omega,by omega,?_⟩
 by_cases hn:0≤dn∧dn<vs.length
 ·obtain ⟨k,rfl⟩:∃ k:Nat,dn=k:=⟨dn.toNat,by omega⟩
  have hk2:k<vs.length:=by omega
  have t1:(decide (0≤(k:Int))&&decide ((k:Int)<vs.length))=true:=by simp; omega
  have x2:=(hI.ew k hk2).sl hI.bh
  have wl:=hI.wl
  obtain ⟨r,rfl,r0,rB,hr⟩:=hI.wy.resolve_left (fun h => by rw [h.2] at wl; simp at wl; omega)
  have rl:r<H.length:=by have:=hI.bh; omega
  have wk:ws.length=vs.length:=wl
  rw [wk] at l5
  by_cases ha:da<0∨((vs.getD k []).length:Int)≤da
  ·refine callW_some (flipat_inv hI hk2 ha) (fun h => absurd h (by decide)) ?_
   simp only [go_sem,t1,l0,l3,l4,l5,l6,l7,l8,ho,ec,x2.s,hr,rl,hp2,wk]
   have e1:(!(decide (0≤da)&&decide (da<((vs.getD k []).length:Int))))=true:=by
    simp only [Bool.not_eq_true',Bool.and_eq_false_iff,decide_eq_false_iff_not]; omega
   rw [e1]
   exact ⟨fun _ => by omega,fun _ => by omega,fun _ => ⟨fun h => absurd h (by decide),fun _ => hQ.ex ⟨H,lv,.row r 0 ws.length ws.length,qs,ws,fr,vs⟩ _ ⟨hI.up,hv,hL⟩ rfl rfl rfl (by rw [wk]; rfl) rfl⟩,fun h => by cases h⟩
  ·obtain ⟨a,rfl⟩:∃ a:Nat,da=a:=⟨da.toNat,by omega⟩
   have ha2:a<(vs.getD k []).length:=by omega
   obtain ⟨H',c1,i1,len1,fr1⟩:=flip_inv hI hk2 ha2 dx
   refine callW_some c1 (fun h => absurd h (by decide)) ?_
   have ho':=(fr1 p hp).trans ho
   have hp3:p<H'.length:=by omega
   have rl':r<H'.length:=by omega
   have hr':obj H' r=⟨ws,1,true⟩:=by
    rcases i1.wy with ⟨h,_⟩ | ⟨r',h,_,_,h4⟩
    ·cases h
    ·injection h with h
     rw [h]; exact h4
   obtain ⟨o2,g1,g2,g3,g4⟩:=(i1.ew k hk2).resolve_left (fun h => by rw [h.2] at ha2; simp at ha2)
   have o2l:o2<H'.length:=by have:=i1.bh; omega
   simp only [go_sem,t1,l0,l3,l4,l5,l6,l7,l8,ho',hp3,hr',rl',wk,g1,g4,o2l,bs_get _ _ ha2,bs_len,xor8]
   rw [set_u8]
   have e1:(!(decide (0≤(a:Int))&&decide ((a:Int)<((vs.getD k []).length:Int))))=false:=by
    simp only [Bool.not_eq_false',Bool.and_eq_true,decide_eq_true_eq]; omega
   rw [e1]
   refine ⟨fun _ => by omega,fun _ => by omega,fun h => absurd h (by decide),fun _ => ⟨by omega,by omega,by omega,by omega,by omega,by omega,by omega,by omega,?_⟩⟩
   have i2:=i1.setw (i:=k) (o:=o2) (v':=(vs.getD k []).set a ((vs.getD k []).getD a 0 ^^^ dx)) hk2 g1 (by simp)
   refine hQ.nm ⟨setO H' o2 (bs ((vs.getD k []).set a ((vs.getD k []).getD a 0 ^^^ dx))),lv,.row r 0 ws.length ws.length,qs,ws,fr,vs.set k ((vs.getD k []).set a ((vs.getD k []).getD a 0 ^^^ dx))⟩ [(0,D),(3,Bl true),(4,.ptr 0 0),(5,.row r 0 vs.length vs.length),(6,I i)] ⟨i2.up,?_,?_⟩ rfl rfl rfl (by rw [wk]; rfl) rfl
   ·show (vs.set k _).length≤64
    rw [List.length_set]; exact hv
   ·intro v hv
    rcases List.mem_or_eq_of_mem_set hv with hv | hv
    ·exact hL v hv
    ·rw [hv,List.length_set]; exact hL _ (getD_mem' hk2 _)
 ·have t1:(decide (0≤dn)&&decide (dn<vs.length))=false:=by simp; omega
  refine callW_some (flipno_inv hI (i:=dn) (by omega)) (fun h => absurd h (by decide)) ?_
  simp only [go_sem,t1,l0,l3,l4,l5,l6,l7,l8,ho,ec]
  exact ⟨fun h => absurd h (by decide),fun _ => hQ.ex ⟨H,lv,w,qs,ws,fr,vs⟩ _ ⟨hI.up,hv,hL⟩ rfl rfl rfl rfl rfl⟩
end
end Go.Proofs.Ytabpkmfgmjnipaa.Eng
namespace Go.Proofs.Ytabpkmfgmjnipaa.Eng
open Go Go.Proofs
set_option linter.unusedVariables false
set_option linter.unusedSimpArgs false
set_option maxRecDepth 10000
theorem add8 (a:UInt8):IntKind.u8.wrap ((a.toNat:Int)+1)=((a+1).toNat:Int):=by
 have h:=a.toNat_lt
 have h2:(a+1).toNat=(a.toNat+1)%256:=by rw [UInt8.toNat_add]; rfl
 rw [h2]
 simp only [IntKind.wrap,IntKind.bits,IntKind.signed]
 show ((a.toNat:Int)+1)%256=_
 omega
section
variable {B:Nat} {H:AH} {lv w D:AV} {qs ws:List AV} {fr i p o:Nat} {vs:List (List UInt8)} {d:Dd} {L:List (Nat × AV)} {Q:Ex→Env→AH→Prop}
theorem Inv.agree {H':AH} {vq vw:List (List UInt8)} (h:Inv B H lv w qs ws fr vq vw) (hB:B≤H'.length) (h0:obj H' 0=obj H 0) (h1:∀ s ∈ ids lv,obj H' s=obj H s) (h2:∀ s ∈ ids w,obj H' s=obj H s) (h3:∀ x ∈ qs,∀ s ∈ ids x,obj H' s=obj H s) (h4:∀ x ∈ ws,∀ s ∈ ids x,obj H' s=obj H s):Inv B H' lv w qs ws fr vq vw where
 b0:=h.b0
 bh:=hB
 o0:=by rw [h0,h.o0]
 lk:=by
  rcases h.lk with g1 | ⟨r,g1,g2,g3,g4⟩
  ·exact .inl g1
  ·exact .inr ⟨r,g1,g2,g3,by rw [h1 r (by rw [g1]; exact List.mem_singleton.2 rfl),g4]⟩
 wy:=by
  rcases h.wy with g1 | ⟨r,g1,g2,g3,g4⟩
  ·exact .inl g1
  ·exact .inr ⟨r,g1,g2,g3,by rw [h2 r (by rw [g1]; exact List.mem_singleton.2 rfl),g4]⟩
 lw:=h.lw
 ql:=h.ql
 wl:=h.wl
 eq:=fun i hi => (h.eq i hi).mono (Nat.le_refl _) (h3 _ (getD_mem0 (by rw [h.ql]; exact hi)))
 ew:=fun i hi => (h.ew i hi).mono (Nat.le_refl _) (h4 _ (getD_mem0 (by rw [h.wl]; exact hi)))
 sq:=h.sq
 sw:=h.sw
 dj:=h.dj
 nq:=h.nq
 nw:=h.nw
structure Free (o:Nat) (lv w:AV) (qs ws:List AV):Prop where
 z:0<o
 l:o ∉ ids lv
 w:o ∉ ids w
 q:∀ x ∈ qs,o ∉ ids x
 s:∀ x ∈ ws,o ∉ ids x
theorem Inv.free {vq vw:List (List UInt8)} (h:Inv B H lv w qs ws fr vq vw) (hf:Free o lv w qs ws) (cs:List AV):Inv B (setO H o cs) lv w qs ws fr vq vw:=by
 have hH:∀ s,s≠o→obj (setO H o cs) s=obj H s:=fun s hs => obj_setO_ne _ _ (Ne.symm hs)
 exact h.agree (by rw [setO_length]; exact h.bh) (hH 0 (by have:=hf.z; omega)) (fun s hs => hH s fun e => hf.l (e ▸ hs)) (fun s hs => hH s fun e => hf.w (e ▸ hs)) (fun x hx s hs => hH s fun e => hf.q x hx (e ▸ hs)) (fun x hx s hs => hH s fun e => hf.s x hx (e ▸ hs))
theorem k_own {c:List UInt8} (hI:Inv B H lv w qs ws fr vs vs) (hv:vs.length≤64) (hL:∀ v ∈ vs,v.length≤1000) (hp:Free o lv w qs ws) (hp2:o<H.length) (ho:obj H o=⟨bs c,1,true⟩) (hc:c.length≤1000)
  (l0:look L 0=D) (l3:look L 3=Bl true) (l4:look L 4=.ptr 0 0) (l5:look L 5=w) (l6:look L 6=I i) (l10:look L 10=.row o 0 c.length c.length) (hQ:LQ Q D i) :
  iwp (pfx false) (Called Try.prog) ic_clapperlaw20_LinkPlays_12 Q (look L) H:=by
 simp only [ic_clapperlaw20_LinkPlays_12,go_sem,l0,l3,l4,l5,l6,l10]
 refine w_loop _ (fun (s:Nat × List UInt8) => ([(0,D),(3,Bl true),(4,.ptr 0 0),(5,w),(6,I i),(10,.row o 0 c.length c.length),(12,I s.1)],setO H o (bs s.2))) (fun s => s.1≤c.length∧s.2.length=c.length) (fun s => c.length - s.1) (0,c) ⟨Nat.zero_le _,rfl⟩ ?_ ?_
 ·dsimp only
  rw [setO_self ho hp2]; rfl
 ·rintro ⟨j,e⟩ ⟨hj,he⟩
  dsimp only at hj he ⊢
  have ho':obj (setO H o (bs e)) o=⟨bs e,1,true⟩:=by rw [obj_setO _ _ hp2,ho]
  simp only [go_sem]
  refine ⟨fun hlt => ?_,fun hlt => ?_⟩
  ·have hlt:j<c.length:=by omega
   have he2:j<e.length:=by omega
   simp only [go_sem,ho',hp2,setO_length,bs_get _ _ he2,bs_len,add8,he]
   refine ⟨by omega,by omega,by omega,by omega,⟨(j+1,e.set j (e.getD j 0+1)),?_,?_,⟨hlt,by rw [List.length_set]; exact he⟩,?_⟩⟩
   ·rw [w64 _ (by omega) (by omega)]; rfl
   ·rw [set_u8,setO_setO]
   ·show c.length - (j+1)<c.length - j
    omega
  ·exact hQ.nm ⟨setO H o (bs e),lv,w,qs,ws,fr,vs⟩ _ ⟨(hI.free hp _).up,hv,hL⟩ rfl rfl rfl rfl rfl
set_option maxHeartbeats 2000000 in
theorem k_send (hI:Inv B H lv w qs ws fr vs vs) (hv:vs.length≤64) (hL:∀ v ∈ vs,v.length≤1000) (hp:B≤p) (hp2:p<H.length) (ho:obj H p=⟨d.cells,0,true⟩) (hd:d.b.length≤1000)
  (l0:look L 0=D) (l3:look L 3=Bl true) (l4:look L 4=.ptr 0 0) (l5:look L 5=w) (l6:look L 6=I i) (l7:look L 7=.ptr p 0) (hQ:LQ Q D i) :
  iwp (pfx false) (Called Try.prog) ic_clapperlaw20_LinkPlays_121 Q (look L) H:=by
 obtain ⟨dw,dn,da,dx,db,df⟩:=d
 simp only [Dd.cells] at ho hd
 have ec:(pfx false).c T.api_Code=true:=by decide
 have hws:=hI.wsl
 simp only [ic_clapperlaw20_LinkPlays_121,go_sem,l0,l3,l4,l5,l6,l7,ho,bs_len,one_bs]
 refine ⟨hp2,by omega,?_⟩
 have b0:=hI.b0
 have bh:=hI.bh
 have hI1:Inv B (H++[⟨bs db,1,true⟩]) lv w qs ws fr vs vs:=hI.far (Nat.le_refl _) (by simp; omega) fun s hs => obj_old _ _ (by omega)
 have own:obj (H++[⟨bs db,1,true⟩]) H.length=⟨bs db,1,true⟩:=by rw [obj_app0]; rfl
 have dee:obj (H++[⟨bs db,1,true⟩]) p=⟨[I dw,I dn,I da,u8 dx,vB db df],0,true⟩:=by rw [obj_old _ _ hp2,ho]
 have len:(H++[(⟨bs db,1,true⟩:AObj)]).length=H.length+1:=by simp
 have fq:∀ x ∈ qs,H.length ∉ ids x:=fun x hx h => by have:=hI.ltq x hx _ h; omega
 have fs:∀ x ∈ ws,H.length ∉ ids x:=fun x hx h => by have:=hI.ltw x hx _ h; omega
 have fl:H.length ∉ ids lv:=fun h => by have:=hI.ltl _ h; omega
 have fw:H.length ∉ ids w:=fun h => by have:=hI.ltv _ h; omega
 by_cases h64:64≤vs.length
 ·refine callW_some (full_inv hI1 h64 _) (fun h => absurd h (by decide)) ?_
  simp only [go_sem,l0,l3,l4,l5,l6,l7,dee,ec,hws.s]
  refine ⟨fun _ => ⟨fun h => absurd h (by decide),fun _ => ?_⟩,fun h => absurd h (by omega)⟩
  exact k_own hI1 hv hL ⟨by omega,fl,fw,fq,fs⟩ (by rw [len]; omega) own hd rfl rfl rfl rfl rfl rfl hQ
 ·obtain ⟨H',lv',E,fr',c1,i1,len1,fr1,nf⟩:=send_inv hI1 (by omega) (x:=.row H.length 0 db.length db.length) (v:=db) (fun G => .row (by simp) (by rw [obj_old _ _ (by simp),own]; simp) (by omega) (by rw [obj_old _ _ (by simp),own,List.drop_zero,List.take_of_length_le (by simp)]) (.inl (by rw [obj_old _ _ (by simp),own]))) (by omega)
  refine callW_some c1 (fun h => absurd h (by decide)) ?_
  rw [len] at len1 fr1 nf
  have own':=(fr1 H.length bh (by omega)).trans own
  have dee':=(fr1 p hp (by omega)).trans dee
  have hp3:p<H'.length:=by omega
  obtain ⟨nf1,nf2⟩:=nf H.length bh (by omega)
  have wl:=i1.wl
  have o1:=i1.wone
  have a1:∀ s,appC 1 ws s 0 vs.length 1 vs.length=ws++s:=fun s => appC_end (by omega)
  have a2:∀ m s,appL 1 0 vs.length m s vs.length=vs.length+s:=fun m s => appL_end (by omega)
  have tw:ws.take vs.length=ws:=List.take_of_length_le (by omega)
  have fin:∀ L',look L' 0=D→look L' 3=Bl true→look L' 4=.ptr 0 0→look L' 5=.row H'.length 0 (vs.length+1) (vs.length+1)→look L' 6=I i→look L' 10=.row H.length 0 db.length db.length→iwp (pfx false) (Called Try.prog) ic_clapperlaw20_LinkPlays_12 Q (look L') (H'++[⟨ws++[.row (H'.length+1) 0 db.length db.length],1,true⟩,⟨bs db,1,true⟩,⟨[.row (H'.length+1) 0 db.length db.length],1,true⟩]):=fun L' m0 m3 m4 m5 m6 m10 => by
   refine k_own (i1.addw db) (by simp; omega) ?_ ⟨by omega,nf1,fun h => by have:=List.mem_singleton.1 h; omega,?_,?_⟩ (by simp; omega) (by rw [obj_old _ _ (by omega)]; exact own') hd m0 m3 m4 m5 m6 m10 hQ
   ·intro v hv
    rcases List.mem_append.1 hv with hv | hv
    ·exact hL v hv
    ·rw [List.mem_singleton.1 hv]; exact hd
   ·intro x hx
    rcases List.mem_append.1 hx with hx | hx
    ·exact fq x hx
    ·rw [List.mem_singleton.1 hx]; exact nf2
   ·intro x hx
    rcases List.mem_append.1 hx with hx | hx
    ·exact fs x hx
    ·rw [List.mem_singleton.1 hx]
     exact fun h => by have:=List.mem_singleton.1 h; omega
  rcases i1.wy with ⟨e1,e2⟩ | ⟨r,e1,r0,rB,hr⟩
  ·subst e1 e2
   have v0:vs.length=0:=by simpa using wl.symm
   rw [v0] at fin
   simp only [go_sem,l0,l3,l4,l5,l6,l7,dee',hp3,bs_len,one_bs]
   exact ⟨fun h => absurd h (by decide),fun _ => ⟨by omega,by decide,fin _ rfl rfl rfl rfl rfl rfl⟩⟩
  ·have wk:ws.length=vs.length:=wl
   rw [wk] at e1
   subst e1
   have eo:∀ G,obj (H'++G) r=⟨ws,1,true⟩:=fun G => by rw [obj_old _ _ rB,hr]
   simp only [go_sem,l0,l3,l4,l5,l6,l7,dee',hr,rB,hp3,eo,a1,a2,o1,wk,tw,bs_len,one_bs]
   exact ⟨fun h => absurd h (by omega),fun _ => ⟨by omega,by omega,by omega,fin _ rfl rfl rfl rfl rfl rfl⟩⟩
end
end Go.Proofs.Ytabpkmfgmjnipaa.Eng
namespace Go.Proofs.Ytabpkmfgmjnipaa.Eng
open Go Go.Proofs
set_option linter.unusedVariables false
set_option linter.unusedSimpArgs false
set_option maxRecDepth 10000
section
variable {B:Nat} {H:AH} {lv w D:AV} {qs ws:List AV} {fr i p o:Nat} {vs:List (List UInt8)} {d:Dd} {L:List (Nat × AV)} {Q:Ex→Env→AH→Prop}
theorem k_many (s:LS) (hs:s.ok) (l0:look L 0=D) (l3:look L 3=Bl true) (l4:look L 4=.ptr 0 0) (l5:look L 5=s.w) (l6:look L 6=I i)
  (hQ:∀ L',look L' 0=D→look L' 3=Bl true→look L' 4=.ptr 0 0→look L' 5=s.w→look L' 6=I i→Q .normal (look L') s.H) :
  iwp (pfx false) (Called Try.prog) ic_clapperlaw20_LinkPlays_234 Q (look L) s.H:=by
 obtain ⟨hI,hv,hL⟩:=hs
 have hws:=hI.wsl
 simp only [ic_clapperlaw20_LinkPlays_234,go_sem,l0,l3,l4,l5,l6]
 refine callW_some (many_inv hI) (fun _ => rfl) ?_
 simp only [go_sem,l0,l3,l4,l5,l6,hws.s,bne_self_eq_false]
 exact hQ _ rfl rfl rfl rfl rfl
theorem k_fin (s:LS) (hs:s.ok) (l3:look L 3=Bl true) (l4:look L 4=.ptr 0 0) (l5:look L 5=s.w) :
  iwp (pfx false) (Called Try.prog) ic_clapperlaw20_LinkPlays_18 (retQ [.t 2] [] (Bl true) []) (look L) s.H:=by
 obtain ⟨hI,hv,hL⟩:=hs
 obtain ⟨H,lv,w,qs,ws,fr,vs⟩:=s
 dsimp only at hI hv hL l5 ⊢
 simp only [ic_clapperlaw20_LinkPlays_18,go_sem,l3,l4,l5]
 refine w_loop _ (fun (s:Nat × AH × AV × List AV × Nat) => ([(3,Bl true),(4,.ptr 0 0),(5,w),(18,I s.1)],s.2.1)) (fun s => s.1≤vs.length∧Inv H.length s.2.1 s.2.2.1 w s.2.2.2.1 ws s.2.2.2.2 (vs.drop s.1) vs) (fun s => vs.length - s.1) (0,H,lv,qs,fr) ⟨Nat.zero_le _,hI⟩ rfl ?_
 rintro ⟨j,G,lv2,q2,f2⟩ ⟨hj,hG⟩
 dsimp only at hj hG ⊢
 have hws:=hG.wsl
 simp only [go_sem,hws.s]
 refine ⟨fun hlt => ?_,fun hlt => ?_⟩
 ·have hlt:j<vs.length:=by omega
  have hl:0<(vs.drop j).length:=by rw [List.length_drop]; omega
  obtain ⟨G',lv3,c1,i1,e1,len1,fr1⟩:=take_inv hG (by rw [List.length_drop]; omega) hl
  have ev:(vs.drop j).getD 0 []=vs.getD j []:=by simp [List.getD_eq_getElem?_getD]
  rw [ev] at e1
  have x1:=e1.sl i1.bh
  have x2:=(i1.ew j hlt).sl i1.bh
  have wl:=i1.wl
  obtain ⟨r,rfl,r0,rB,hr⟩:=i1.wy.resolve_left (fun h => by rw [h.2] at wl; simp at wl; omega)
  have rl:r<G'.length:=by have:=i1.bh; omega
  have wk:ws.length=vs.length:=wl
  refine callW_some c1 (fun h => absurd h (by decide)) ?_
  simp only [go_sem,x1.s,x1.b2s,x2.s,x2.b2s,hr,rl,wk,bne_self_eq_false]
  refine ⟨by omega,by omega,fun h => absurd h (by simp),fun _ => ⟨(j+1,G',lv3,q2.eraseIdx 0,f2+1),?_,rfl,⟨hlt,?_⟩,?_⟩⟩
  ·rw [w64 _ (by omega) (by omega)]; rfl
  ·have e:(vs.drop j).eraseIdx 0=vs.drop (j+1):=by rw [List.eraseIdx_zero,List.tail_drop]
   rw [e,wk] at i1
   exact i1
  ·show vs.length - (j+1)<vs.length - j
   omega
 ·have hj:j=vs.length:=by omega
  subst hj
  rw [List.drop_length] at hG
  refine callG_of (v:=I 0) (fun _ => many_inv hG) ?_
  simp only [go_sem]
  exact leave_drop (H:=[]) rfl
theorem LQ.thn (h:LQ Q D i):LQ (thn (pfx false) (Called Try.prog) IC.done Q) D i :=
 ⟨fun s L hs a0 a3 a4 a5 a6 => by simp only [go_sem]; exact h.nm s L hs a0 a3 a4 a5 a6,fun s L hs a0 a3 a4 a5 a6 => by simp only [go_sem]; exact h.ex s L hs a0 a3 a4 a5 a6⟩
set_option maxHeartbeats 2000000 in
theorem k_deed (hI:Inv B H lv w qs ws fr vs vs) (hv:vs.length≤64) (hL:∀ v ∈ vs,v.length≤1000) (hp:B≤p) (hp2:p<H.length) (ho:obj H p=⟨d.cells,0,true⟩) (hd:d.b.length≤1000) {m:Int}
  (l0:look L 0=D) (l3:look L 3=Bl true) (l4:look L 4=.ptr 0 0) (l5:look L 5=w) (l6:look L 6=I i) (l7:look L 7=.ptr p 0) (l8:look L 8=Bl (decide (0≤d.n)&&decide (d.n<vs.length))) (l9:look L 9=I m)
  (hn:∀ (s:LS) (L':List (Nat × AV)),s.ok→look L' 0=D→look L' 3=Bl true→look L' 4=.ptr 0 0→look L' 5=s.w→look L' 6=I i→Q .normal (look L') s.H)
  (hx:∀ (s:LS) (L':List (Nat × AV)),s.ok→look L' 0=D→look L' 3=Bl true→look L' 4=.ptr 0 0→look L' 5=s.w→look L' 6=I i→Q (.exit 1) (look L') s.H) :
  iwp (pfx false) (Called Try.prog) ic_clapperlaw20_LinkPlays_67 Q (look L) H:=by
 simp only [ic_clapperlaw20_LinkPlays_67,go_sem,l0,l3,l4,l5,l6,l7,l8,l9]
 have q0:LQ (blk (pfx false) (Called Try.prog) 2 ic_clapperlaw20_LinkPlays_234 Q) D i:=⟨fun s L hs a0 a3 a4 a5 a6 => by
   simp only [go_sem]
   exact k_many s hs a0 a3 a4 a5 a6 fun L' b0 b3 b4 b5 b6 => hn s L' hs b0 b3 b4 b5 b6,fun s L hs a0 a3 a4 a5 a6 => by
   simp only [go_sem]
   exact hx s L hs a0 a3 a4 a5 a6⟩
 exact ⟨fun _ => k_send hI hv hL hp hp2 ho hd rfl rfl rfl rfl rfl rfl q0.thn,fun _ => ⟨fun _ => k_take hI hv hL hp hp2 ho rfl rfl rfl rfl rfl rfl rfl q0.thn.thn,fun _ => ⟨fun _ => k_dbl hI hv hL hp hp2 ho rfl rfl rfl rfl rfl rfl rfl q0.thn.thn.thn,fun _ => k_flip hI hv hL hp hp2 ho rfl rfl rfl rfl rfl rfl rfl q0.thn.thn.thn⟩⟩⟩
end
set_option maxHeartbeats 2000000 in
theorem t_LinkPlays (ds:List Dd) (f:Bool):Called Try.prog F.clapperlaw20_LinkPlays [.view (ds.flatMap Dd.cells) ds.length f] [] (Bl true) []:=by
 refine e_clapperlaw20_LinkPlays ?_
 simp only [ic_clapperlaw20_LinkPlays,go_sem]
 refine callW_some t_up20 (fun _ => rfl) ?_
 simp only [go_sem]
 refine callW_some (t_new []) (fun h => absurd h (by decide)) ?_
 simp only [go_sem]
 refine ⟨fun h => leave_drop (H:=[]) rfl,fun h => ?_⟩
 have hn:ds.length≤200:=by omega
 have hlen:(ds.flatMap Dd.cells).length=ds.length*5:=by
  clear h hn
  induction ds with
  | nil => rfl
  | cons a r ih => rw [List.flatMap_cons,List.length_append,ih,Dd.len,List.length_cons]; omega
 refine w_loop _ (fun (s:Nat × LS) => ([(0,.view (ds.flatMap Dd.cells) ds.length f),(3,Bl true),(4,.ptr 0 0),(5,s.2.w),(6,I s.1)],s.2.H)) (fun s => s.1≤ds.length∧s.2.ok) (fun s => ds.length - s.1) (0,⟨[⟨[nilS],0,true⟩],nilS,nilS,[],[],0,[]⟩) ⟨Nat.zero_le _,inv0 [],by simp,by simp⟩ rfl ?_
 rintro ⟨i,s⟩ ⟨hi,hs⟩
 dsimp only at hi hs ⊢
 simp only [go_sem,hlen]
 refine ⟨fun hlt => ?_,fun hlt => ?_⟩
 ·have hlt:i<ds.length:=by omega
  obtain ⟨H,lv,w,qs,ws,fr,vs⟩:=s
  obtain ⟨hI,hv,hL⟩:=hs
  dsimp only at hI hv hL ⊢
  have hws:=hI.wsl
  generalize hd:ds.getD i ⟨0,0,0,0,[],false⟩=d
  have hel:elt (ds.flatMap Dd.cells) 5 i=d.cells:=by rw [elt_flat Dd.cells 5 Dd.len ds i ⟨0,0,0,0,[],false⟩ hlt,hd]
  have ho:obj (H++[⟨d.cells,0,true⟩]) H.length=⟨d.cells,0,true⟩:=by rw [obj_app0]; rfl
  have hI1:Inv H.length (H++[⟨d.cells,0,true⟩]) lv w qs ws fr vs vs:=hI.far (Nat.le_refl _) (by simp) fun s hs => obj_old _ _ hs
  rw [Dd.cells] at ho hI1
  simp only [go_sem,hel,Dd.cells,hws.s]
  refine ⟨by omega,fun hb => leave_drop (H:=[]) rfl,fun hb => ⟨by decide,?_⟩⟩
  have hdb:d.b.length≤1000:=by omega
  refine ⟨fun _ => k_deed (d:=d) hI1 hv hL (Nat.le_refl _) (by simp) ho hdb rfl rfl rfl rfl rfl rfl rfl rfl ?_ ?_,fun _ => k_deed (d:=d) hI1 hv hL (Nat.le_refl _) (by simp) ho hdb rfl rfl rfl rfl rfl rfl rfl rfl ?_ ?_⟩
  all_goals
   intro s' L' hs' a0 a3 a4 a5 a6
   simp only [go_sem,a0,a3,a4,a5,a6]
   refine ⟨(i+1,s'),?_,rfl,⟨hlt,hs'⟩,?_⟩
   ·rw [w64 _ (by omega) (by omega)]; rfl
   ·show ds.length - (i+1)<ds.length - i
    omega
 ·exact k_fin s hs rfl rfl rfl
end Go.Proofs.Ytabpkmfgmjnipaa.Eng

