/- Layer 7: the laws SignHolds, SignTurns. -/
import Derived.Test.YtgfploghjpbcaaaMSp
import Derived.Test.YtgfploghjpbcaaaMPu
import Derived.Test.YtgfploghjpbcaaaMSo
namespace Go.Proofs.Ytgfploghjpbcaaa.Eng
open Go Go.Proofs
set_option linter.unusedVariables false
set_option linter.unusedSimpArgs false
set_option maxRecDepth 10000
theorem verB_on {x y:Nat} {f:Bool} {h:List UInt8} {r s:Nat} (ho:onRaw x y f=true):verB x y f h r s=verS (toA x y f) h r s:=by
 have on1:onP (toA x y f):=(toA_on ho).1
 have ef:(toA x y f).isFar=f:=by cases f <;> rfl
 have em:∀ t,fmul (115792089210356248762697446949407573529996955224135760342422259061068512044369:Nat) (be h%(115792089210356248762697446949407573529996955224135760342422259061068512044369:Nat)) t=fmul (115792089210356248762697446949407573529996955224135760342422259061068512044369:Nat) (be h) t:=fun t => fmul_modN _ _
 rw [verB,verS,ho,ef,em]
 simp only [on1,decide_true,Bool.true_and]
 generalize aadd (115792089210356248762697446949407573530086143415290314195533631308867097853951:Nat) (mulA (fmul (115792089210356248762697446949407573529996955224135760342422259061068512044369:Nat) (be h) (minv (115792089210356248762697446949407573529996955224135760342422259061068512044369:Nat) s)) baseA) (mulA (fmul (115792089210356248762697446949407573529996955224135760342422259061068512044369:Nat) r (minv (115792089210356248762697446949407573529996955224135760342422259061068512044369:Nat) s)) (toA x y f))=p
 have e:decide (p.x%(115792089210356248762697446949407573529996955224135760342422259061068512044369:Nat)=r)=(p.x%(115792089210356248762697446949407573529996955224135760342422259061068512044369:Nat) == r):=by
  rw [Bool.eq_iff_iff,decide_eq_true_eq,beq_iff_eq]
 rw [e]
theorem signS_holds {d:Nat} {h:List UInt8} {r s:Nat} (hd:maySc d=true) (e:signS d h=some (r,s)):verB (mulA d baseA).x (mulA d baseA).y (mulA d baseA).isFar h r s=true:=by
 rw [signS] at e
 split at e
 ·cases e
 ·rw [Option.map_eq_some_iff] at e
  obtain ⟨k,h1,h2⟩:=e
  have hg:=List.find?_some h1
  have hk:=candS_mem d (be h%(115792089210356248762697446949407573529996955224135760342422259061068512044369:Nat)) 16 100 k (List.mem_of_find?_eq_some h1)
  cases h2
  obtain ⟨o1,o2,o3,o4⟩:=on_raw (mulA_on baseP_on d)
  rw [verB_on o1,o4]
  exact sign_holds hd hk hg
theorem sgB_lo (r s:Nat) (hr:r<(18446744073709551616:Nat)^4):be ((sgB r s).take 32)=r:=by
 rw [sgB,List.take_left' (beN_length 32 r),be_beN]; exact Nat.mod_eq_of_lt (Nat.lt_of_lt_of_le hr (by decide))
theorem sgB_hi (r s:Nat) (hs:s<(18446744073709551616:Nat)^4):be ((sgB r s).drop 32)=s:=by
 rw [sgB,List.drop_left' (beN_length 32 r),be_beN]; exact Nat.mod_eq_of_lt (Nat.lt_of_lt_of_le hs (by decide))
set_option maxRecDepth 10000
theorem Str_add (a b:List UInt8):(AV.lit (.string (ByteArray.mk a.toArray++ByteArray.mk b.toArray)))=Str (a++b):=by
 have:ByteArray.mk a.toArray++ByteArray.mk b.toArray=ByteArray.mk (a++b).toArray:=by
  apply ByteArray.ext
  rw [ByteArray.data_append]
  simp
 rw [this]
theorem r_Put {H:AH} {x:AV} {l:List Fld} (hx0:Sl 2 H x (fcs l) l.length) (hl:∀ f ∈ l,Sl 1 H f.e (bs f.b) f.b.length) (hw:∀ f ∈ l,0≤f.tag∧f.tag≤255∧f.b.length≤65535) (hn:l.length≤100):Called Try.prog F.clapperref08_Put [x] H (Str (putB l)) H:=by
 refine e_clapperref08_Put ?_
 simp only [ic_clapperref08_Put,go_sem]
 refine w_loop _ (fun (i:Nat) => ([(0,x),(3,Str (putB (l.take i))),(4,I i)],H)) (fun i => i≤l.length) (fun i => l.length - i) 0 (Nat.zero_le _) rfl ?_
 intro i hi
 simp only [go_sem,hx0.s]
 refine ⟨fun hh => ?_,fun hh => ?_⟩
 ·have hlt:i<l.length:=by omega
  have hm:=getD_memP noF hlt
  have he:=hl _ hm
  obtain ⟨t1,t2,t3⟩:=hw _ hm
  have hc:(l.getD i noF).cells=[I (l.getD i noF).tag,(l.getD i noF).e]:=rfl
  have w1:IntKind.i64.wrap ((i:Int)+1)=((i+1:Nat):Int):=by rw [w64 _ (by omega) (by omega)]; omega
  obtain ⟨f1,f2⟩:=hx0.fdOk .i64 hlt (o:=0) (m:=1) (by decide)
  obtain ⟨f3,f4⟩:=hx0.fdOk .i64 hlt (o:=1) (m:=1) (by decide)
  have g0:loadV false 1 H (fldV 0 (idxaV 2 (I i) x))=I (l.getD i noF).tag:=by
   rw [hx0.fd .i64 hlt (by decide) (by decide) false,if_neg (by decide)]
   exact getD_flat Fld.cells 2 (fun f => rfl) l i 0 noF hlt (by decide)
  have g1:loadV false 1 H (fldV 1 (idxaV 2 (I i) x))=(l.getD i noF).e:=by
   rw [hx0.fd .i64 hlt (by decide) (by decide) false,if_neg (by decide)]
   exact getD_flat Fld.cells 2 (fun f => rfl) l i 1 noF hlt (by decide)
  have nx:=putB_next hlt
  have ps:(putB (l.take i)).length≤100*65538:=by
   refine Nat.le_trans (putB_le _ fun f hf => (hw f (List.mem_of_mem_take hf)).2.2) (Nat.mul_le_mul_right _ (by rw [List.length_take]; omega))
  generalize l.getD i noF=f at *
  have w0:IntKind.u8.wrap f.tag=((UInt8.ofNat f.tag.toNat).toNat:Int):=by
   have:=u8n f.tag.toNat
   rwa [Int.toNat_of_nonneg (by omega)] at this
  have w2:IntKind.u8.wrap (IntKind.i64.wrap ((f.b.length:Int).tdiv 256))=((UInt8.ofNat (f.b.length / 256)).toNat:Int):=by
   rw [← u8n,Int.tdiv_eq_ediv_of_nonneg (by omega),w64 _ (by omega) (by omega)]
   congr 1
  have w3:IntKind.u8.wrap ((f.b.length:Int).tmod 256)=((UInt8.ofNat f.b.length).toNat:Int):=by
   rw [Int.tmod_eq_emod_of_nonneg (by omega),← u8n]
   simp only [IntKind.wrap,IntKind.bits,IntKind.signed]
   simp
  have e3:AV.view [u8 (UInt8.ofNat f.tag.toNat),u8 (UInt8.ofNat (f.b.length / 256)),u8 (UInt8.ofNat f.b.length)] 3 true=vB [UInt8.ofNat f.tag.toNat,UInt8.ofNat (f.b.length / 256),UInt8.ofNat f.b.length] true:=rfl
  simp only [go_sem,hx0.idx,w0,w1,w2,w3,f1,f2,f3,f4,g0,g1,he.s,e3,b2sOk_vB,b2sV_vB,he.b2s,Str_add]
  exact ⟨⟨by omega,by omega⟩,⟨by omega,by omega⟩,by decide,by decide,by omega,⟨by omega,by omega⟩,by omega,i+1,by rw [nx]; rfl,by omega,by omega⟩
 ·obtain rfl:i=l.length:=by omega
  rw [List.take_of_length_le (Nat.le_refl _)]
  exact Leave.refl _ _ _
theorem s2b_Str (H:AH) (l:List UInt8):s2bV false H (Str l)=vB l false:=by
 show AV.view (bytesOf ⟨l.toArray⟩) (ByteArray.mk l.toArray).size false=_
 rw [bytesOf_Str,str_size]
theorem s2bH_Str (H:AH) (l:List UInt8):s2bH false H (Str l)=H:=rfl
theorem s2bOk_Str (l:List UInt8):s2bOk (Str l)=(l.length≤140737488351232):=by
 show ((ByteArray.mk l.toArray).size≤_)=_
 rw [str_size]
set_option maxRecDepth 10000
theorem putB_le':∀ (l:List Fld) (n:Nat),(∀ f ∈ l,f.b.length≤n)→(putB l).length≤l.length*(n+3)
 | [],n,_ => Nat.zero_le _
 | f::l,n,h => by
  have h1:=putB_le' l n fun g hg => h g (List.mem_cons_of_mem _ hg)
  have h2:=h f (List.mem_cons_self ..)
  show (fldB f++putB l).length≤(l.length+1)*(n+3)
  rw [List.length_append,Nat.add_mul]
  show f.b.length+1+1+1+_≤_
  omega
def sgF (B:List UInt8) (r s:Nat):List Fld:=[⟨1,B,vB B false⟩,⟨2,sgB r s,vB (sgB r s) false⟩]
def sgnd (B:List UInt8) (r s:Nat):List UInt8:=putB (sgF B r s)
theorem sgF_sl (B:List UInt8) (r s:Nat):∀ f ∈ sgF B r s,∀ G,Sl 1 G f.e (bs f.b) f.b.length:=fun f hf G => by
 simp only [sgF,List.mem_cons,List.not_mem_nil,or_false] at hf
 rcases hf with rfl | rfl <;> exact Sl.vB _ _
theorem sgF_w {B:List UInt8} {r s:Nat} (h:B.length≤65535):∀ f ∈ sgF B r s,0≤f.tag∧f.tag≤255∧f.b.length≤65535:=fun f hf => by
 simp only [sgF,List.mem_cons,List.not_mem_nil,or_false] at hf
 rcases hf with rfl | rfl
 ·exact ⟨by show (0:Int)≤1; decide,by show (1:Int)≤255; decide,h⟩
 ·exact ⟨by show (0:Int)≤2; decide,by show (2:Int)≤255; decide,by show (sgB r s).length≤_; rw [sgB_len]; decide⟩
theorem sgF_ok {B:List UInt8} {r s:Nat} (h:B.length≤65535):fldsB (sgF B r s)=true:=by
 have e0:(sgF B r s).getD 0 noF=⟨1,B,vB B false⟩:=rfl
 have e1:(sgF B r s).getD 1 noF=⟨2,sgB r s,vB (sgB r s) false⟩:=rfl
 have l2:(sgF B r s).length=2:=rfl
 have sl:=sgB_len r s
 simp only [fldsB,Bool.and_eq_true,decide_eq_true_eq]
 refine ⟨by rw [l2]; decide,fun i hi => ?_⟩
 rw [l2] at hi
 match i,hi with
 | 0,_ =>
  simp only [fldBad,e0,Bool.or_eq_false_iff,Bool.and_eq_false_iff,decide_eq_false_iff_not]
  exact ⟨⟨⟨by decide,by decide⟩,by omega⟩,.inl (by decide)⟩
 | 1,_ =>
  simp only [fldBad,e1,e0,Nat.sub_self,Bool.or_eq_false_iff,Bool.and_eq_false_iff,decide_eq_false_iff_not]
  exact ⟨⟨⟨by decide,by decide⟩,by omega⟩,.inr (by decide)⟩
theorem putV_sgF {B:List UInt8} {r s:Nat} (h:B.length≤65535):putV (sgF B r s)=.tup [vB (sgnd B r s) false,nilE]:=by
 rw [putV,if_pos (sgF_ok h)]; rfl
theorem sgnd_len {B:List UInt8} {r s:Nat}:(sgnd B r s).length=B.length+70:=by
 rw [sgnd,sgF,putB]
 simp [fldB,sgB_len]
theorem r_Signed {H:AH} {B:List UInt8} {r s:Nat} (hB:B.length≤65535):Called Try.prog F.clapperref09_Signed [Str B,.agg (sgc r s)] H (Str (sgnd B r s)) H:=by
 refine e_clapperref09_Signed ?_
 have e8:8≤(num r).length+(num s).length:=by rw [wd_length,wd_length]; decide
 simp only [ic_clapperref09_Signed,go_sem,sg_one,sg_ne,fillOk,fillv,s2b_Str,s2bH_Str,s2bOk_Str,bytesOf_Str,pure_bs,sg_take]
 refine ⟨by omega,by decide,e8,callW_some r_sbytes (fun _ => rfl) ?_⟩
 have sl:=sgB_len r s
 have ec:appC 2 [AV.lit (Value.int IntKind.i64 1),AV.view (bs B) B.length false] [AV.lit (Value.int IntKind.i64 2),AV.view (bs (sgB r s)) (sgB r s).length false] 0 1 1 2=fcs (sgF B r s):=by
  rw [appC_end (by decide)]; rfl
 have el:appL 2 0 1 1 2 2=4:=appL_end (by decide)
 simp only [go_sem,fillOk,fillv,pure_bs]
 rw [ec,el]
 have hx:Sl 2 (H++[⟨sgc r s,0,true⟩,⟨fcs (sgF B r s),2,true⟩]) (.row (H.length+1) 0 2 4) (fcs (sgF B r s)) (sgF B r s).length:=by
  have eo:obj (H++[⟨sgc r s,0,true⟩,⟨fcs (sgF B r s),2,true⟩]) (H.length+1)=⟨fcs (sgF B r s),2,true⟩:=by rw [obj_appk]; rfl
  exact .row (by simp) (by rw [eo]; rfl) (by decide) (by rw [eo]; rfl) (.inl (by rw [eo]))
 refine ⟨by decide,callW_some (r_Put hx (fun f hf => sgF_sl B r s f hf _) (sgF_w hB) (Nat.le_of_ble_eq_true rfl)) (fun _ => rfl) ?_⟩
 simp only [go_sem]
 exact leave_drop rfl
theorem nFlds_ok {ns:List Int} (h:ns.length≤64):fldsB (nFlds ns)=true:=by
 simp only [fldsB,Bool.and_eq_true,decide_eq_true_eq]
 refine ⟨by rw [nFlds_len]; exact h,fun i hi => ?_⟩
 rw [nFlds_len] at hi
 have g:=nFlds_get ns hi
 have l8:(nFld i (ns.getD i 0)).b.length=8:=beN_length _ _
 have t0:(nFld i (ns.getD i 0)).tag=(i:Int)+1:=rfl
 simp only [fldBad,g,t0,l8,Bool.or_eq_false_iff,Bool.and_eq_false_iff,decide_eq_false_iff_not]
 refine ⟨⟨⟨by omega,by omega⟩,by decide⟩,?_⟩
 by_cases h0:0<i
 ·right
  have g2:=nFlds_get ns (show i - 1<ns.length by omega)
  have t2:(nFld (i - 1) (ns.getD (i - 1) 0)).tag=((i - 1:Nat):Int)+1:=rfl
  rw [g2,t2]; omega
 ·exact .inl h0
theorem nFlds_put (ns:List Int):(putB (nFlds ns)).length≤ns.length*11:=by
 have:=putB_le' (nFlds ns) 8 fun f hf => by
  obtain ⟨i,n,rfl⟩:=nFlds_mem hf
  show (beN 8 _).length≤_
  rw [beN_length]; exact Nat.le_refl _
 rwa [nFlds_len] at this
noncomputable def issV (B:List UInt8) (d:Nat):AV :=
 if maySc d=true then (match signS d (sha B) with
  | some (r,s) => .tup [vB (sgnd B r s) false,nilE]
  | none => .tup [nilS,errA 4]) else .tup [nilS,errA 1]
noncomputable def tIssV (t:Tkt) (d:Nat):AV:=if tktB t=true then issV (putB (nFlds t.nums)) d else .tup [nilS,errA 1]
theorem t_tIssue {H:AH} {t:Tkt} {d:Nat} (hd:d<(18446744073709551616:Nat)^4):Called Try.prog F.ticket_Issue [.agg t.cells,.agg (num d)] H (tIssV t d) H:=by
 have n4:∀ a,(num a).length=4:=fun a => wd_length _ _
 have e4:[Z0,Z0,Z0,Z0]=num 0:=rfl
 have e84:Z0::Z0::Z0::Z0::num 0=sgc 0 0:=rfl
 refine e_ticket_Issue ?_
 simp only [ic_ticket_Issue,go_sem,one_wd,num_ne,num_take,n4]
 refine callW_some (t_tBody t _) (fun _ => rfl) ?_
 rw [tbodyV,tIssV]
 cases hb:tktB t
 ·simp only [go_sem]
  exact leave_drop rfl
 ·rw [if_pos rfl,if_pos rfl,putV,if_pos (nFlds_ok (by show 5≤64; decide))]
  have lB:(putB (nFlds t.nums)).length≤1000:=Nat.le_trans (nFlds_put _) (by show 5*11≤1000; decide)
  generalize putB (nFlds t.nums)=B at *
  simp only [go_sem,one_wd,num_ne,num_take,n4]
  refine callW_some ⟨rfl,fun G => t_ssum (Sl.vB B false) (by omega)⟩ (fun _ => rfl) ?_
  have hsl:=sha_len B
  rw [issV]
  generalize sha B=h at *
  simp only [go_sem]
  refine callW_some ⟨rfl,fun G => t_Sign hd hsl⟩ (fun _ => rfl) ?_
  cases hm:maySc d
  ·simp only [go_sem,e4,e84,sg_one,sg_spl,sg_take,sg_len]
   exact leave_drop rfl
  ·rw [if_pos rfl,if_pos rfl]
   cases hS:signS d h with
   | none =>
    simp only [sigV,go_sem,e4,e84,sg_one,sg_spl,sg_take,sg_len]
    exact leave_drop rfl
   | some rs =>
    obtain ⟨r,s⟩:=rs
    obtain ⟨m1,m2⟩:=sigS_lt hS
    simp only [sigV,go_sem,e4,e84,sg_one,sg_spl,sg_take,sg_len,fillOk,fillv]
    refine callW_some (t_sbytes (may_lt m1) (may_lt m2)) (fun _ => rfl) ?_
    have sl:=sgB_len r s
    simp only [go_sem,fillOk,fillv,pure_bs]
    refine ⟨by decide,callW_some (t_Put (l:=sgF B r s) (.view rfl _) (fun f hf => sgF_sl B r s f hf _) (Nat.le_of_ble_eq_true rfl)) (fun _ => rfl) ?_⟩
    rw [putV_sgF (by omega)]
    simp only [go_sem]
    exact leave_drop (by simp only [low,lowL,vB,lowL_bs])
end Go.Proofs.Ytgfploghjpbcaaa.Eng

