/- Bytes put together read back as they were, and the other way. (No program in sight.) -/
import Derived.Test.YtgfploghjpbcaaaMSq
import Derived.Test.YtgfploghjpbcaaaMPu
namespace Go.Proofs.Ytgfploghjpbcaaa.Eng
open Go
set_option linter.unusedVariables false
set_option linter.unusedSimpArgs false
set_option maxRecDepth 10000
def nrm (f:Fld):Fld:=⟨f.tag,f.b,vB f.b false⟩
theorem getF_nil0 (k:Nat):getF k []=some []:=by cases k <;> rfl
theorem fldB_len (f:Fld):(fldB f).length=3+f.b.length:=by simp [fldB]; omega
theorem getF_put:∀ (l:List Fld) (k:Nat),(∀ f ∈ l,0≤f.tag∧f.tag≤255∧f.b.length≤65535)→(putB l).length≤k→getF k (putB l)=some (l.map nrm)
 | [],k,_,_ => getF_nil0 k
 | f::l,k,hw,hk => by
  obtain ⟨t1,t2,t3⟩:=hw f (by simp)
  have e:putB (f::l)=fldB f++putB l:=rfl
  have hl:=fldB_len f
  rw [e,List.length_append] at hk
  obtain ⟨k,rfl⟩:∃ j,k=j+1:=⟨k - 1,by omega⟩
  have g0:(fldB f++putB l).getD 0 0=UInt8.ofNat f.tag.toNat:=rfl
  have g1:(fldB f++putB l).getD 1 0=UInt8.ofNat (f.b.length / 256):=rfl
  have g2:(fldB f++putB l).getD 2 0=UInt8.ofNat f.b.length:=rfl
  have d3:(fldB f++putB l).drop 3=f.b++putB l:=rfl
  have hf:flen (fldB f++putB l)=f.b.length:=by
   rw [flen,g1,g2]
   simp
   omega
  have dn:(fldB f++putB l).drop (3+f.b.length)=putB l:=by rw [← hl,List.drop_left]
  rw [e,getF,if_neg (by rw [List.length_append]; omega),hf,if_neg (by rw [List.length_append]; omega),dn,getF_put l k (fun g hg => hw g (by simp [hg])) (by omega)]
  have ef:fld1 (fldB f++putB l)=nrm f:=by
   have tk:(f.b++putB l).take f.b.length=f.b:=List.take_left' rfl
   rw [fld1,hf,d3,g0,tk,nrm]
   congr 1
   have:(UInt8.ofNat f.tag.toNat).toNat=f.tag.toNat:=by simp; omega
   rw [this]; omega
  rw [ef]; rfl
theorem put_getF:∀ (k:Nat) (b:List UInt8) (l:List Fld),getF k b=some l→putB l=b
 | 0,b,l,h => by
  rw [getF] at h
  split at h
  ·rename_i h0; cases h; exact (List.eq_nil_of_length_eq_zero h0).symm
  ·cases h
 | k+1,b,l,h => by
  rw [getF] at h
  split at h
  ·rename_i h0; cases h; exact (List.eq_nil_of_length_eq_zero h0).symm
  ·split at h
   ·cases h
   ·rename_i h1 h2
    rw [Option.map_eq_some_iff] at h
    obtain ⟨m,hm,rfl⟩:=h
    have ih:=put_getF k _ m hm
    show fldB (fld1 b)++putB m=b
    rw [ih]
    have hb:3≤b.length∧3+flen b≤b.length:=by omega
    have lb:((b.drop 3).take (flen b)).length=flen b:=by rw [List.length_take,List.length_drop]; omega
    obtain ⟨x,y,z,r,rfl⟩:∃ x y z r,b=x::y::z::r:=by
     match b,hb.1 with
     | x::y::z::r,_ => exact ⟨x,y,z,r,rfl⟩
    have hf:flen (x::y::z::r)=y.toNat*256+z.toNat:=rfl
    rw [hf] at lb hb ⊢
    have d3:(x::y::z::r).drop 3=r:=rfl
    rw [d3] at lb
    have e1:fldB (fld1 (x::y::z::r))=x::y::z::r.take (y.toNat*256+z.toNat):=by
     have q0:UInt8.ofNat ((x.toNat:Int)).toNat=x:=by simp
     have q1:UInt8.ofNat ((y.toNat*256+z.toNat) / 256)=y:=by
      have hz:z.toNat<256:=z.toNat_lt
      rw [show (y.toNat*256+z.toNat) / 256=y.toNat by omega]; simp
     have q2:UInt8.ofNat (y.toNat*256+z.toNat)=z:=by
      apply UInt8.toNat_inj.1; simp
     show UInt8.ofNat ((x.toNat:Int)).toNat::UInt8.ofNat ((r.take (flen (x::y::z::r))).length / 256)::UInt8.ofNat (r.take (flen (x::y::z::r))).length::r.take (flen (x::y::z::r))=_
     rw [hf,lb,q0,q1,q2]
    have e2:(x::y::z::r).drop (3+(y.toNat*256+z.toNat))=r.drop (y.toNat*256+z.toNat):=by
     rw [← List.drop_drop]; rfl
    rw [e1,e2]
    show x::y::z::(r.take _++r.drop _)=_
    rw [List.take_append_drop]
theorem nrm_getD (l:List Fld) (i:Nat):((l.map nrm).getD i noF).tag=(l.getD i noF).tag∧((l.map nrm).getD i noF).b=(l.getD i noF).b:=by
 rw [List.getD_eq_getElem?_getD,List.getElem?_map,List.getD_eq_getElem?_getD]
 cases l[i]? <;> exact ⟨rfl,rfl⟩
theorem fldsB_nrm (l:List Fld):fldsB (l.map nrm)=fldsB l:=by
 have e:∀ i,fldBad (l.map nrm) i=fldBad l i:=fun i => by
  simp only [fldBad,(nrm_getD l i).1,(nrm_getD l i).2,(nrm_getD l (i - 1)).1]
 simp only [fldsB,List.length_map,e]
theorem getS_put {l:List Fld} (h:fldsB l=true):getS (putB l)=some (l.map nrm):=by
 obtain ⟨h1,h2⟩:=fldsB_get h
 rw [getS,getF_put l _ (fun f hf => ?_) (Nat.le_refl _)]
 ·show (if fldsB (l.map nrm) then some (l.map nrm) else none)=_
  rw [fldsB_nrm,if_pos h]
 ·obtain ⟨i,hi,rfl⟩:=List.mem_iff_getElem.1 hf
  have:=h2 i hi
  rw [List.getD_eq_getElem?_getD,List.getElem?_eq_getElem hi] at this
  have this:1≤l[i].tag∧l[i].tag≤255∧l[i].b.length≤65535:=this
  omega
theorem put_getS {b:List UInt8} {l:List Fld} (h:getS b=some l):putB l=b:=by
 rw [getS] at h
 cases hg:getF b.length b with
 | none => rw [hg] at h; cases h
 | some m =>
  rw [hg] at h
  have h:(if fldsB m then some m else none)=some l:=h
  split at h
  ·cases h; exact put_getF _ _ _ hg
  ·cases h
/-! ### Signed ones -/
theorem parts_sgnd {B:List UInt8} {r s:Nat} (hB:B.length≤65535) (hr:r<(18446744073709551616:Nat)^4) (hs:s<(18446744073709551616:Nat)^4):partsO (sgnd B r s)=some (B,r,s):=by
 rw [partsO,sgnd,getS_put (sgF_ok hB)]
 show (if ((1:Int)=1∧(2:Int)=2)∧(sgB r s).length=64 then some (B,be ((sgB r s).take 32),be ((sgB r s).drop 32)) else none)=_
 rw [if_pos ⟨⟨rfl,rfl⟩,sgB_len r s⟩,sgB_lo r s hr,sgB_hi r s hs]
theorem sgnd_parts {b B:List UInt8} {r s:Nat} (h:partsO b=some (B,r,s)):sgnd B r s=b:=by
 rw [partsO] at h
 split at h
 ·rename_i f g hg
  split at h
  ·rename_i hc
   cases h
   obtain ⟨⟨c1,c2⟩,c3⟩:=hc
   rw [← put_getS hg]
   have e:sgB (be (g.b.take 32)) (be (g.b.drop 32))=g.b:=by
    have l1:(g.b.take 32).length=32:=by rw [List.length_take]; omega
    have l2:(g.b.drop 32).length=32:=by rw [List.length_drop]; omega
    have e1:=beN_be (g.b.take 32)
    have e2:=beN_be (g.b.drop 32)
    rw [l1] at e1
    rw [l2] at e2
    rw [sgB,e1,e2,List.take_append_drop]
   rw [sgnd,sgF,e]
   show fldB _++(fldB _++[])=fldB f++(fldB g++[])
   have f1:fldB ⟨1,f.b,vB f.b false⟩=fldB f:=by rw [fldB,fldB,c1]
   have f2:fldB ⟨2,g.b,vB g.b false⟩=fldB g:=by rw [fldB,fldB,c2]
   rw [f1,f2]
  ·cases h
 ·cases h
/-! ### Numbers -/
theorem numO_be {n:Int} (h0:0≤n) (h1:n<9223372036854775808):numO (beN 8 n.toNat)=n:=by
 rw [numO,beN_length,be_beN,Nat.mod_eq_of_lt (by omega),if_pos ⟨rfl,by omega⟩]; omega
theorem be_numO {b:List UInt8} (h:0≤numO b):beN 8 (numO b).toNat=b:=by
 rw [numO] at h ⊢
 split at h
 ·rename_i hc
  rw [if_pos hc]
  have:=beN_be b
  rw [hc.1] at this
  rw [show ((be b:Nat):Int).toNat=be b by omega]; exact this
 ·cases h
theorem putB_ext:∀ {l m:List Fld},l.length=m.length→(∀ i,i<l.length→(l.getD i noF).tag=(m.getD i noF).tag∧(l.getD i noF).b=(m.getD i noF).b)→putB l=putB m
 | [],[],_,_ => rfl
 | [],_::_,h,_ => by cases h
 | _::_,[],h,_ => by cases h
 | f::l,g::m,h,hh => by
  have h0:=hh 0 (by simp)
  have h0:f.tag=g.tag∧f.b=g.b:=h0
  show fldB f++putB l=fldB g++putB m
  rw [putB_ext (l:=l) (m:=m) (by simpa using h) (fun i hi => hh (i+1) (by simpa using hi))]
  rw [fldB,fldB,h0.1,h0.2]
theorem nums_put {ns:List Int} (h:∀ i,i<ns.length→0≤ns.getD i 0∧ns.getD i 0<9223372036854775808) (hl:ns.length≤64):numsO (putB (nFlds ns)) ns.length=some ns:=by
 have nl:=nFlds_len ns
 rw [numsO,getS_put (nFlds_ok hl)]
 have gb:∀ i,i<ns.length→numO (((nFlds ns).map nrm).getD i noF).b=ns.getD i 0∧(((nFlds ns).map nrm).getD i noF).tag=i+1:=fun i hi => by
  rw [(nrm_getD _ i).1,(nrm_getD _ i).2,nFlds_get ns hi]
  exact ⟨numO_be (h i hi).1 (h i hi).2,rfl⟩
 have e1:numsB ((nFlds ns).map nrm) ns.length=true:=by
  simp only [numsB,Bool.and_eq_true,decide_eq_true_eq,List.length_map,nl,true_and]
  intro i hi
  obtain ⟨g1,g2⟩:=gb i hi
  rw [g1]
  exact ⟨(h i hi).1,g2⟩
 have e2:((nFlds ns).map nrm).map (fun f => numO f.b)=ns:=by
  apply List.ext_getElem?
  intro i
  by_cases hi:i<ns.length
  ·have:=(gb i hi).1
   have l1:i<((nFlds ns).map nrm).length:=by rw [List.length_map,nl]; exact hi
   rw [List.getD_eq_getElem?_getD,List.getElem?_eq_getElem l1,List.getD_eq_getElem?_getD,List.getElem?_eq_getElem hi] at this
   have this:numO (((nFlds ns).map nrm)[i]).b=ns[i]:=this
   rw [List.getElem?_map,List.getElem?_eq_getElem l1,List.getElem?_eq_getElem hi]
   exact congrArg some this
  ·rw [List.getElem?_eq_none (by rw [List.length_map,List.length_map,nl]; omega),List.getElem?_eq_none (by omega)]
 show (if numsB ((nFlds ns).map nrm) ns.length then some (((nFlds ns).map nrm).map fun f => numO f.b) else none)=_
 rw [if_pos e1,e2]
theorem put_nums {B:List UInt8} {n:Nat} {ns:List Int} (h:numsO B n=some ns):putB (nFlds ns)=B:=by
 rw [numsO] at h
 cases hg:getS B with
 | none => rw [hg] at h; cases h
 | some l =>
  rw [hg] at h
  have h:(if numsB l n then some (l.map fun f => numO f.b) else none)=some ns:=h
  split at h
  ·rename_i hc
   cases h
   simp only [numsB,Bool.and_eq_true,decide_eq_true_eq] at hc
   rw [← put_getS hg]
   refine putB_ext (by rw [nFlds_len,List.length_map]) fun i hi => ?_
   rw [nFlds_len,List.length_map] at hi
   obtain ⟨c1,c2⟩:=hc.2 i hi
   have gi:(l.map fun f => numO f.b).getD i 0=numO (l.getD i noF).b:=by
    rw [List.getD_eq_getElem?_getD,List.getElem?_map,List.getElem?_eq_getElem hi,List.getD_eq_getElem?_getD,List.getElem?_eq_getElem hi]; rfl
   rw [nFlds_get _ (by rw [List.length_map]; exact hi),gi]
   exact ⟨c2.symm,be_numO c1⟩
  ·cases h
end Go.Proofs.Ytgfploghjpbcaaa.Eng
namespace Go.Proofs.Ytgfploghjpbcaaa.Eng
open Go Go.Proofs
set_option linter.unusedVariables false
set_option linter.unusedSimpArgs false
set_option maxRecDepth 10000
theorem tkt_of (t:Tkt):tktOf t.nums=t:=by cases t; rfl
theorem nums_of {l:List Int} (h:l.length=5):(tktOf l).nums=l:=by
 match l,h with
 | [a,b,c,d,e],_ => rfl
theorem tktP_len (t:Tkt):(putB (nFlds t.nums)).length≤1000:=Nat.le_trans (nFlds_put _) (by show 5*11≤1000; decide)
theorem openO_issued {t:Tkt} {r s:Nat} (h:tktB t=true) (hr:r<(18446744073709551616:Nat)^4) (hs:s<(18446744073709551616:Nat)^4):openO (sgnd (putB (nFlds t.nums)) r s)=some (t,r,s)∧partsO (sgnd (putB (nFlds t.nums)) r s)=some (putB (nFlds t.nums),r,s):=by
 have hp:=parts_sgnd (B:=putB (nFlds t.nums)) (by have:=tktP_len t; omega) hr hs
 refine ⟨?_,hp⟩
 have hn:=nums_put (ns:=t.nums) (fun i _ => tktB_nums h i) (by show 5≤64; decide)
 rw [show t.nums.length=5 from rfl] at hn
 rw [openO,hp]
 show (numsO (putB (nFlds t.nums)) 5).bind _=_
 rw [hn]
 show (if tktB (tktOf t.nums) then some (tktOf t.nums,r,s) else none)=_
 rw [tkt_of,if_pos h]
theorem openO_back {b:List UInt8} {t:Tkt} {r s:Nat} (h:openO b=some (t,r,s)):tktB t=true∧sgnd (putB (nFlds t.nums)) r s=b:=by
 rw [openO] at h
 cases hp:partsO b with
 | none => rw [hp] at h; cases h
 | some p =>
  obtain ⟨B,r',s'⟩:=p
  rw [hp] at h
  have h:((numsO B 5).bind fun l => if tktB (tktOf l) then some (tktOf l,r',s') else none)=some (t,r,s):=h
  cases hn:numsO B 5 with
  | none => rw [hn] at h; cases h
  | some l =>
   rw [hn] at h
   have h:(if tktB (tktOf l) then some (tktOf l,r',s') else none)=some (t,r,s):=h
   split at h
   ·rename_i hb
    cases h
    refine ⟨hb,?_⟩
    rw [nums_of (numsO_len hn),put_nums hn]
    exact sgnd_parts hp
   ·cases h
theorem check_issued {t:Tkt} {d r s:Nat} (ht:tktB t=true) (hd:maySc d=true) (e:signS d (sha (putB (nFlds t.nums)))=some (r,s)):checkN (sgnd (putB (nFlds t.nums)) r s) (mulA d baseA).x (mulA d baseA).y (mulA d baseA).isFar=(t,0):=by
 obtain ⟨m1,m2⟩:=sigS_lt e
 obtain ⟨o1,o2⟩:=openO_issued (r:=r) (s:=s) ht (may_lt m1) (may_lt m2)
 rw [checkN,o1,o2]
 show (bif verB _ _ _ (sha (putB (nFlds t.nums))) r s then (t,0) else (noTk,8))=_
 rw [signS_holds hd e]; rfl
theorem issV_cases (t:Tkt) (d:Nat):(∃ k:Int,(k=1∨k=4)∧tIssV t d=.tup [nilS,errA k])∨∃ S,S.length≤5000∧tIssV t d=.tup [vB S false,nilE]∧maySc d=true∧checkN S (mulA d baseA).x (mulA d baseA).y (mulA d baseA).isFar=(t,0):=by
 rw [tIssV]
 cases ht:tktB t
 ·exact .inl ⟨1,.inl rfl,rfl⟩
 ·rw [if_pos rfl,issV]
  cases hm:maySc d
  ·exact .inl ⟨1,.inl rfl,rfl⟩
  ·rw [if_pos rfl]
   cases hS:signS d (sha (putB (nFlds t.nums))) with
   | none => exact .inl ⟨4,.inr rfl,rfl⟩
   | some q =>
    obtain ⟨r,s⟩:=q
    exact .inr ⟨_,by rw [sgnd_len]; have:=tktP_len t; omega,rfl,rfl,check_issued ht hm hS⟩
theorem tk_eq (t:Tkt):aggEq (.agg t.cells) (.agg t.cells)=true:=by simp [aggEq,Tkt.cells,cellsEq,cellEq]
theorem tk_ok (t u:Tkt):aggEqOk [some .i64,some .i64,some .i64,some .i64,some .i64] (.agg t.cells) (.agg u.cells)=True:=by simp [aggEqOk,Tkt.cells,kindOf]
theorem tk_one (t:Tkt):t.cells.all AV.one=true:=rfl
theorem tk_len (t:Tkt):t.cells.length=5:=rfl
theorem tk_take (t:Tkt):t.cells.take 5=t.cells:=rfl
theorem tk_spl (t u:Tkt):splice t.cells 0 u.cells=u.cells:=splice_all rfl
def upT9:Tkt:=⟨1,1,1,0,1⟩
theorem upT9_body:∃ l:List UInt8,tbodyV upT9=.tup [vB (1::l) false,nilE]∧(1::l).length=55:=⟨(putB (nFlds upT9.nums)).tail,rfl,rfl⟩
theorem t_up09 (H:AH):Called Try.prog F.clapperlaw09_up [] H (Bl true) H:=by
 have e8:[Z0,Z0,Z0,Z0,Z0,Z0,Z0,Z0]=sgc 0 0:=rfl
 have hO:openO []=none:=rfl
 refine e_clapperlaw09_up ?_
 simp only [ic_clapperlaw09_up,go_sem]
 refine callW_some (t_Open (b:=[]) .nil (Nat.zero_le _)) (fun _ => rfl) ?_
 rw [hO]
 simp only [openV,go_sem,e8,sg_spl,sg_len,sg_one,sg_take,fillOk,fillv]
 refine callW_some (t_tBody upT9 _) (fun _ => rfl) ?_
 obtain ⟨l,e1,e2⟩:=upT9_body
 rw [e1]
 have ee:elt (u8 1::List.map u8 l) 1 0=[u8 1]:=rfl
 have tc:(T.api_Code == T.api_Code&&(2:Int) == 2&&((55:Nat):Int) == 55)=true:=by simp
 have l54:(List.map u8 l).length=54:=by rw [List.length_map]; have:=e2; simp only [List.length_cons] at this; omega
 simp only [go_sem,e2,ee,tc,l54]
 exact ⟨rfl,by decide,leave_drop rfl⟩
theorem t_TicketBack {H:AH} {t:Tkt} {d:Nat} {b:List UInt8} {g:Bool} (hd:d<(18446744073709551616:Nat)^4):Called Try.prog F.clapperlaw09_TicketBack [.agg t.cells,.agg (num d),vB b g] H (Bl true) H:=by
 have n4:∀ a,(num a).length=4:=fun a => wd_length _ _
 have e4:[Z0,Z0,Z0,Z0]=num 0:=rfl
 have e84:Z0::Z0::Z0::Z0::num 0=sgc 0 0:=rfl
 have e8:[Z0,Z0,Z0,Z0,Z0,Z0,Z0,Z0]=sgc 0 0:=rfl
 have e5:[I 0,I 0,I 0,I 0,I 0]=noTk.cells:=rfl
 have ez:[Z0,Z0,Z0,Z0,Z0,Z0,Z0,Z0,Bl false]=pcell 0 0 false:=rfl
 have ti:=fun (G:AH) => t_tIssue (H:=G) (t:=t) hd
 have hx:∀ G,Sl 1 G (vB b g) (bs b) b.length:=fun G => Sl.vB b g
 refine e_clapperlaw09_TicketBack ?_
 simp only [ic_clapperlaw09_TicketBack,go_sem,one_wd,num_ne,num_take,n4]
 refine callW_some (t_up09 _) (fun _ => rfl) ?_
 simp only [go_sem,one_wd,num_ne,num_take,n4]
 refine ⟨fun h => leave_drop rfl,fun h => ?_⟩
 have hn:b.length≤5000:=by
  have h:¬ (5000:Int)<b.length:=by simpa using h
  omega
 have to:=fun (G:AH) => t_Open (H:=G) (hx G) (show b.length≤100000 by omega)
 have tb:=fun (G:AH) (u:Tkt) => t_tBody u G
 have ob:=fun {u:Tkt} {r s:Nat} (e:openO b=some (u,r,s)) => openO_back e
 refine callW_some (ti _) (fun _ => rfl) ?_
 rcases issV_cases t d with ⟨k,hk,e⟩ | ⟨S,hS,e,hm,hc⟩
 ·rw [e]
  simp only [go_sem,one_wd,num_ne,num_take,n4]
  refine callW_some (to _) (fun _ => rfl) ?_
  cases ho:openO b with
  | none =>
   simp only [openV,go_sem,e8,e5,sg_spl,sg_len,sg_one,sg_take,tk_one,tk_len,tk_spl,tk_take]
   exact leave_drop rfl
  | some p =>
   obtain ⟨u,r,s⟩:=p
   obtain ⟨hu,hb⟩:=openO_back ho
   have tb:=fun (G:AH) => t_tBody u G
   have lB:=tktP_len u
   rw [tbodyV,if_pos hu,putV,if_pos (nFlds_ok (by show 5≤64; decide))] at tb
   have rs:=fun (G:AH) => r_Signed (H:=G) (B:=putB (nFlds u.nums)) (r:=r) (s:=s) (by omega)
   rw [hb] at rs
   generalize putB (nFlds u.nums)=B at *
   simp only [openV,go_sem,e8,e5,sg_spl,sg_len,sg_one,sg_take,tk_one,tk_len,tk_spl,tk_take]
   refine callW_some (tb _) (fun _ => rfl) ?_
   simp only [go_sem,b2sOk_vB,b2sV_vB,sg_spl,sg_len,sg_one,sg_take]
   refine callG_of (fun _ => rs _) ?_
   simp only [go_sem,beq_self_eq_true,b2sOk_vB,b2sV_vB]
   exact leave_drop rfl
 ·rw [e]
  have tp:=fun (G:AH) => t_Public (H:=G) hd
  rw [hm,if_pos rfl] at tp
  obtain ⟨v1,v2,v3,v4⟩:=on_raw (mulA_on baseP_on d)
  generalize mulA d baseA=A at *
  have tc:=fun (G:AH) => t_Check (H:=G) (f:=A.isFar) (Sl.vB S false) (show S.length≤100000 by omega) v2 v3
  rw [hc] at tc
  simp only [go_sem,one_wd,num_ne,num_take,n4]
  refine callW_some (tp _) (fun _ => rfl) ?_
  simp only [go_sem,e4,e84,e8,e5,ez,ptc,pc_take,pc_len,pc_one,pc_spl0]
  refine callW_some (tc _) (fun _ => rfl) ?_
  simp only [errO,go_sem,e4,e84,e8,e5,ez,ptc,pc_take,pc_len,pc_one,pc_spl0,tk_one,tk_len,tk_spl,tk_take,tk_ok,tk_eq]
  refine callG_of (fun _ => t_On v2 v3) ?_
  rw [v1]
  simp only [go_sem,pc_len,pc_one,pc_take]
  refine callW_some (to _) (fun _ => rfl) ?_
  cases ho:openO b with
  | none =>
   simp only [openV,go_sem,e8,e5,sg_spl,sg_len,sg_one,sg_take,tk_one,tk_len,tk_spl,tk_take]
   exact leave_drop rfl
  | some p =>
   obtain ⟨u,r,s⟩:=p
   obtain ⟨hu,hb⟩:=openO_back ho
   have tb:=fun (G:AH) => t_tBody u G
   have lB:=tktP_len u
   rw [tbodyV,if_pos hu,putV,if_pos (nFlds_ok (by show 5≤64; decide))] at tb
   have rs:=fun (G:AH) => r_Signed (H:=G) (B:=putB (nFlds u.nums)) (r:=r) (s:=s) (by omega)
   rw [hb] at rs
   generalize putB (nFlds u.nums)=B at *
   simp only [openV,go_sem,e8,e5,sg_spl,sg_len,sg_one,sg_take,tk_one,tk_len,tk_spl,tk_take]
   refine callW_some (tb _) (fun _ => rfl) ?_
   simp only [go_sem,b2sOk_vB,b2sV_vB,sg_spl,sg_len,sg_one,sg_take]
   refine callG_of (fun _ => rs _) ?_
   simp only [go_sem,beq_self_eq_true,b2sOk_vB,b2sV_vB]
   exact leave_drop rfl
end Go.Proofs.Ytgfploghjpbcaaa.Eng

