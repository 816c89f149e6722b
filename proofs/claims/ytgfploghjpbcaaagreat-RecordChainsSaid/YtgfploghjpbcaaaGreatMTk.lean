/- Layer 9: which tickets may be. -/
import Derived.Test.YtgfploghjpbcaaaGreatMCc
import Derived.Test.YtgfploghjpbcaaaGreatME6
import Derived.Test.YtgfploghjpbcaaaGreatMTl
import Derived.Test.YtgfploghjpbcaaaGreatMVf
import Derived.Test.YtgfploghjpbcaaaGreatMKy
import Derived.Test.YtgfploghjpbcaaaGreatMSh
import Derived.Test.YtgfploghjpbcaaaGreatMRf
import Derived.Test.YtgfploghjpbcaaaGreatMRs
namespace Go.Proofs.YtgfploghjpbcaaaGreat.Eng
open Go Go.Proofs
set_option linter.unusedVariables false
set_option linter.unusedSimpArgs false
set_option maxRecDepth 10000
structure Tkt where
 serial:Int
 product:Int
 zones:Int
 from_:Int
 key:Int
def Tkt.ok (t:Tkt):Prop:=ok64 t.serial∧ok64 t.product∧ok64 t.zones∧ok64 t.from_∧ok64 t.key
abbrev Tkt.cells (t:Tkt):List AV:=[I t.serial,I t.product,I t.zones,I t.from_,I t.key]
def inB (a b n:Int):Bool:=decide (a≤n)&&decide (n≤b)
set_option maxRecDepth 10000
theorem getF_mem:∀ (k:Nat) (b:List UInt8) {l:List Fld},getF k b=some l→∀ f ∈ l,f.e=vB f.b false∧f.b.length≤b.length
 | 0,b,l,h,f,hf => by
  rw [getF] at h
  split at h
  ·cases h; cases hf
  ·cases h
 | k+1,b,l,h,f,hf => by
  rw [getF] at h
  split at h
  ·cases h; cases hf
  ·split at h
   ·cases h
   ·cases hg:getF k (b.drop (3+flen b)) with
    | none => rw [hg] at h; cases h
    | some m =>
     rw [hg] at h; cases h
     rcases List.mem_cons.1 hf with rfl | hf
     ·exact ⟨rfl,by show ((b.drop 3).take _).length≤_; rw [List.length_take,List.length_drop]; omega⟩
     ·obtain ⟨h1,h2⟩:=getF_mem k _ hg f hf
      exact ⟨h1,by rw [List.length_drop] at h2; omega⟩
theorem getS_mem {b:List UInt8} {l:List Fld} (h:getS b=some l):(∀ f ∈ l,f.e=vB f.b false∧f.b.length≤b.length)∧l.length≤64:=by
 unfold getS at h
 cases hg:getF b.length b with
 | none => rw [hg] at h; cases h
 | some m =>
  rw [hg] at h
  by_cases hb:fldsB m=true
  ·have h:(if fldsB m then some m else none)=some l:=h
   rw [if_pos hb] at h
   cases h
   refine ⟨getF_mem _ _ hg,?_⟩
   simp only [fldsB,Bool.and_eq_true,decide_eq_true_eq] at hb
   exact hb.1
  ·have h:(if fldsB m then some m else none)=some l:=h
   rw [if_neg hb] at h; cases h
abbrev sgc (r s:Nat):List AV:=num r++num s
theorem sg_len (r s:Nat):(sgc r s).length=8:=by rw [List.length_append,wd_length,wd_length]
theorem sg_one (r s:Nat):(sgc r s).all AV.one=true:=by rw [List.all_append,one_wd,one_wd]; rfl
theorem sg_take (r s:Nat):(sgc r s).take 8=sgc r s:=List.take_of_length_le (by rw [sg_len]; exact Nat.le_refl _)
theorem sg_spl (a c r s:Nat):splice (sgc a c) 0 (sgc r s)=sgc r s:=splice_all (by rw [sg_len,sg_len])
theorem lowL_sg (ren:Nat→Option Nat) (H:AH) (r s:Nat):lowL ren H (sgc r s)=sgc r s:=by rw [lowL_append,lowL_wd,lowL_wd]
def partsO (b:List UInt8):Option (List UInt8 × Nat × Nat):=match getS b with
 | some [f,g] => if (f.tag=1∧g.tag=2)∧g.b.length=64 then some (f.b,be (g.b.take 32),be (g.b.drop 32)) else none
 | _ => none
theorem cutb_lo (l:List UInt8) (n:Nat):cut (bs l) 1 0 n=bs (l.take n):=by simp [cut,bs,List.map_take]
theorem cutb_hi (l:List UInt8) (n:Nat):cut (bs l) 1 n l.length=bs (l.drop n):=by
 rw [cut,Nat.mul_one,Nat.mul_one,List.take_of_length_le (by rw [List.length_drop,bs_len]; omega)]; simp [bs,List.map_drop]
theorem t_sparse {H:AH} {x:AV} {l:List UInt8} (hx:Sl 1 H x (bs l) l.length) (hn:l.length≤1000000):Called Tryz.prog F.sign_Parse [x] H (if l.length=64 then .tup [.agg (sgc (be (l.take 32)) (be (l.drop 32))),nilE] else .tup [.agg (sgc 0 0),errF]) H:=by
 refine e_sign_Parse ?_
 have hG:∀ G,Sl 1 (H++G) x (bs l) l.length:=fun G => hx.app
 have lw:=wd_length 4
 have e8:[Z0,Z0,Z0,Z0,Z0,Z0,Z0,Z0]=sgc 0 0:=rfl
 simp only [ic_sign_Parse,go_sem,hx.s]
 by_cases h:l.length=64
 ·have z:((l.length:Int) != 64)=false:=by rw [h]; rfl
  have bd1:bndOk l.length none (some (.lit (.int .i64 32))) none:=by
   refine ⟨trivial,trivial,trivial,?_,?_,?_,?_⟩ <;> simp [bnd,asI] <;> omega
  have bd2:bndOk l.length (some (.lit (.int .i64 32))) none none:=by
   refine ⟨trivial,trivial,trivial,?_,?_,?_,?_⟩ <;> simp [bnd,asI] <;> omega
  have k1:=fun G => (hG G).sl bd1
  have k2:=fun G => (hG G).sl bd2
  have c1:cut (bs l) 1 (lo0 none) (hi0 l.length (some (.lit (.int .i64 32))))=bs (l.take 32):=cutb_lo l 32
  have c2:cut (bs l) 1 (lo0 (some (.lit (.int .i64 32)))) (hi0 l.length none)=bs (l.drop 32):=cutb_hi l 32
  have n1:hi0 l.length (some (.lit (.int .i64 32))) - lo0 none=(l.take 32).length:=by rw [List.length_take]; show 32 - 0=_; omega
  have n2:hi0 l.length none - lo0 (some (.lit (.int .i64 32)))=(l.drop 32).length:=by rw [List.length_drop]; rfl
  rw [c1,n1] at k1
  rw [c2,n2] at k2
  rw [if_pos h,z]
  simp only [go_sem,hx.s]
  refine ⟨(hG _).slOk bd1,callW_some (t_lof (k1 _) (by rw [List.length_take]; omega)) (fun _ => rfl) ?_⟩
  simp only [go_sem,hx.s,lw,one_wd,num_splice]
  refine ⟨(hG _).slOk bd2,callW_some (t_lof (k2 _) (by rw [List.length_drop]; omega)) (fun _ => rfl) ?_⟩
  generalize be (l.take 32)=r
  generalize be (l.drop 32)=s
  simp only [go_sem,lw,one_wd,num_splice,num_take,fillOk,fillv]
  rw [show [AV.lit (Value.int IntKind.u64 0),AV.lit (Value.int IntKind.u64 0),AV.lit (Value.int IntKind.u64 0),AV.lit (Value.int IntKind.u64 0),AV.lit (Value.int IntKind.u64 0),AV.lit (Value.int IntKind.u64 0),AV.lit (Value.int IntKind.u64 0),AV.lit (Value.int IntKind.u64 0)]=pr 0 0 from rfl]
  simp only [pr_spl0,pr_spl4,pr_spl8,pr_len,pr_one,pr_take8]
  exact ⟨by decide,by decide,leave_drop (by simp only [low,lowL,lowL_sg])⟩
 ·have z:((l.length:Int) != 64)=true:=by simp; omega
  rw [if_neg h,z]
  simp only [go_sem,fillOk,fillv,e8,sg_spl,sg_len,sg_one,sg_take]
  exact leave_drop rfl
set_option maxRecDepth 10000
theorem partsO_some {b:List UInt8} {f g:Fld} (h:getS b=some [f,g]):partsO b=if (f.tag=1∧g.tag=2)∧g.b.length=64 then some (f.b,be (g.b.take 32),be (g.b.drop 32)) else none:=by
 rw [partsO,h]
theorem partsO_not {b:List UInt8} (h:∀ f g,getS b≠some [f,g]):partsO b=none:=by
 unfold partsO
 split
 ·rename_i f g e; exact absurd e (h f g)
 ·rfl
theorem len2 {l:List Fld} (h:l.length=2):∃ f g,l=[f,g]:=by
 match l,h with
 | [f,g],_ => exact ⟨f,g,rfl⟩
def noTk:Tkt:=⟨0,0,0,0,0⟩
set_option maxRecDepth 10000
theorem be32_lt {l:List UInt8} (h:l.length≤32):be l<(18446744073709551616:Nat)^4 :=
 Nat.lt_of_lt_of_le (be_lt l) (Nat.le_trans (Nat.pow_le_pow_right (by decide) h) (by decide +kernel))
theorem partsO_lt {b body:List UInt8} {r s:Nat} (h:partsO b=some (body,r,s)):r<(18446744073709551616:Nat)^4∧s<(18446744073709551616:Nat)^4:=by
 unfold partsO at h
 split at h
 ·split at h
  ·rename_i f g e hh
   cases h
   exact ⟨be32_lt (by rw [List.length_take]; omega),be32_lt (by rw [List.length_drop]; omega)⟩
  ·cases h
 ·cases h
def errO (n:Int):AV:=if n=0 then nilE else .lit (.iface T.api_Code (.int .i64 n))
theorem bs32_ne {l:List UInt8} (h:l.length=32):(bs l).isEmpty=false∧(bs l).length=32∧(bs l).take 32=bs l:=by
 have hb:(bs l).length=32:=by rw [bs_len,h]
 refine ⟨?_,hb,List.take_of_length_le (by omega)⟩
 cases hh:bs l with
 | nil => rw [hh] at hb; cases hb
 | cons => rfl
set_option maxRecDepth 10000
def getR (o:Option (List Fld)):AV:=match o with
 | some l => .tup [.view (fcs l) l.length false,Bl true]
 | none => .tup [nilS,Bl false]
theorem t_appv0 {H:AH} {s:AV}:appvV 1 H s (.view [] 0 true)=.view (srcC 1 H s) (srcN s) false:=by simp [appvV]
theorem r_Get {H:AH} {x:AV} {b:List UInt8} (hx:Sl 1 H x (bs b) b.length) (hn:b.length≤100000):Called Tryz.prog F.clapperref08_Get [x] H (getR (getS b)) H:=by
 refine e_clapperref08_Get ?_
 simp only [ic_clapperref08_Get,go_sem,hx.s]
 refine w_loop _ (fun (s:Nat × List Fld) => ([(0,x),(4,rA H (fcs s.2) s.2.length),(5,I s.1)],hA 2 H (fcs s.2) s.2.length))
  (fun s => s.1≤b.length∧s.2.length≤s.1∧(∀ f ∈ s.2,f.e=vB f.b false)∧getF b.length b=(getF (b.drop s.1).length (b.drop s.1)).map (s.2++·)) (fun s => b.length - s.1) (0,[]) ⟨Nat.zero_le _,Nat.le_refl _,fun f h => (by cases h),by simp⟩ rfl ?_
 rintro ⟨at_,out⟩ ⟨h1,h3,h4,h5⟩
 dsimp only at h1 h3 h4 h5
 have hX:Sl 1 (hA 2 H (fcs out) out.length) x (bs b) b.length:=hA_sl hx
 have ho:Sl 2 (hA 2 H (fcs out) out.length) (rA H (fcs out) out.length) (fcs out) out.length:=rA_sl (fcs_len out)
 have rl:(b.drop at_).length=b.length - at_:=List.length_drop
 simp only [go_sem,hx.s,hX.s,ho.s]
 refine ⟨fun hh => ?_,fun hh => ?_⟩
 ·have hlt:at_<b.length:=by omega
  have w3:IntKind.i64.wrap ((at_:Int)+3)=((at_+3:Nat):Int):=by rw [w64 _ (by omega) (by omega)]; omega
  have w1:IntKind.i64.wrap ((at_:Int)+1)=((at_+1:Nat):Int):=by rw [w64 _ (by omega) (by omega)]; omega
  have w2:IntKind.i64.wrap ((at_:Int)+2)=((at_+2:Nat):Int):=by rw [w64 _ (by omega) (by omega)]; omega
  simp only [go_sem,w1,w2,w3,hx.s,hX.s,ho.s]
  refine ⟨fun h => ?_,fun h => ?_⟩
  ·have e:getS b=none:=by rw [getS,h5,getF_none (by omega) (.inl (by omega))]; rfl
   rw [e]
   exact leave_hA (fun _ _ => rfl)
  ·have h3':at_+3≤b.length:=by omega
   have g:∀ k,k<b.length→loadOk 1 (hA 2 H (fcs out) out.length) (idxaV 1 (I k) x)=True:=fun k hk => hX.ldOk .i64 hk (Nat.le_refl 1)
   have v:∀ k,k<b.length→loadV false 1 (hA 2 H (fcs out) out.length) (idxaV 1 (I k) x)=u8 (b.getD k 0):=fun k hk => by rw [hX.ld1 .i64 hk,bs_get b k hk]
   have gd:∀ k,(b.drop at_).getD k 0=b.getD (at_+k) 0:=fun k => by rw [List.getD_eq_getElem?_getD,List.getElem?_drop,← List.getD_eq_getElem?_getD]
   have fe:flen (b.drop at_)=(b.getD (at_+1) 0).toNat*256+(b.getD (at_+2) 0).toNat:=by rw [flen,gd,gd]
   have u1:=(b.getD (at_+1) 0).toNat_lt
   have u2:=(b.getD (at_+2) 0).toNat_lt
   have u0:=(b.getD at_ 0).toNat_lt
   have c1:IntKind.i64.wrap (((b.getD (at_+1) 0).toNat:Nat):Int)=(((b.getD (at_+1) 0).toNat:Nat):Int):=w64 _ (by omega) (by omega)
   have c2:IntKind.i64.wrap (((b.getD (at_+2) 0).toNat:Nat):Int)=(((b.getD (at_+2) 0).toNat:Nat):Int):=w64 _ (by omega) (by omega)
   have c0:IntKind.i64.wrap (((b.getD at_ 0).toNat:Nat):Int)=(((b.getD at_ 0).toNat:Nat):Int):=w64 _ (by omega) (by omega)
   have c3:IntKind.i64.wrap (256*(((b.getD (at_+1) 0).toNat:Nat):Int))=((256*(b.getD (at_+1) 0).toNat:Nat):Int):=by rw [w64 _ (by omega) (by omega)]; omega
   have c4:IntKind.i64.wrap (((256*(b.getD (at_+1) 0).toNat:Nat):Int)+(((b.getD (at_+2) 0).toNat:Nat):Int))=((flen (b.drop at_):Nat):Int):=by rw [fe,w64 _ (by omega) (by omega)]; omega
   have fl2:flen (b.drop at_)<65536:=by rw [fe]; omega
   have c5:IntKind.i64.wrap (((at_+3:Nat):Int)+((flen (b.drop at_):Nat):Int))=((at_+3+flen (b.drop at_):Nat):Int):=by rw [w64 _ (by omega) (by omega)]; omega
   have ib:∀ k,k<b.length→(0:Int)≤((k:Nat):Int)∧((k:Nat):Int)<b.length:=fun k hk => ⟨by omega,by omega⟩
   simp only [go_sem,w1,w2,w3,hx.s,hX.s,ho.s,hX.idx,hx.idx,g (at_+1) (by omega),g (at_+2) (by omega),g at_ (by omega),v (at_+1) (by omega),v (at_+2) (by omega),v at_ (by omega),c0,c1,c2,c3,c4,c5]
   refine ⟨ib _ (by omega),ib _ (by omega),fun h => ?_,fun h => ?_⟩
   ·have e:getS b=none:=by rw [getS,h5,getF_none (by omega) (.inr (by omega))]; rfl
    rw [e]
    exact leave_hA (fun _ _ => rfl)
   ·have hb2:at_+3+flen (b.drop at_)≤b.length:=by omega
    have bd:bndOk b.length (some (.lit (.int .i64 ((at_+3:Nat):Int)))) (some (.lit (.int .i64 ((at_+3+flen (b.drop at_):Nat):Int)))) none:=by
     refine ⟨trivial,trivial,trivial,?_,?_,?_,?_⟩ <;> simp [bnd,asI] <;> omega
    have k1:=hX.sl bd
    have f1e:fld1 (b.drop at_)=⟨((b.getD at_ 0).toNat:Nat),((b.drop at_).drop 3).take (flen (b.drop at_)),vB (((b.drop at_).drop 3).take (flen (b.drop at_))) false⟩:=by rw [fld1,gd,Nat.add_zero]
    have e1:cut (bs b) 1 (lo0 (some (.lit (.int .i64 ((at_+3:Nat):Int))))) (hi0 b.length (some (.lit (.int .i64 ((at_+3+flen (b.drop at_):Nat):Int)))))=bs (((b.drop at_).drop 3).take (flen (b.drop at_))):=by
     show ((bs b).drop ((at_+3)*1)).take (((at_+3+flen (b.drop at_)) - (at_+3))*1)=_
     rw [Nat.add_sub_cancel_left,Nat.mul_one,Nat.mul_one,List.drop_drop]
     simp [bs,List.map_take,List.map_drop]
    have l1:(((b.drop at_).drop 3).take (flen (b.drop at_))).length=flen (b.drop at_):=by rw [List.length_take,List.length_drop,List.length_drop]; omega
    have n1:hi0 b.length (some (.lit (.int .i64 ((at_+3+flen (b.drop at_):Nat):Int)))) - lo0 (some (.lit (.int .i64 ((at_+3:Nat):Int))))=(((b.drop at_).drop 3).take (flen (b.drop at_))).length:=by
     rw [l1]; show (at_+3+flen (b.drop at_)) - (at_+3)=flen (b.drop at_); omega
    rw [e1,n1] at k1
    simp only [go_sem,hx.s,hX.s,ho.s,k1.s,pure_bs,one_bs,fillOk,fillv,t_appv0]
    have hs1:[AV.lit (.int .i64 (((b.getD at_ 0).toNat:Nat):Int)),.view (bs (((b.drop at_).drop 3).take (flen (b.drop at_)))) (((b.drop at_).drop 3).take (flen (b.drop at_))).length false]=(fld1 (b.drop at_)).cells:=by rw [f1e]; rfl
    rw [hs1]
    have gs:=getF_step (b:=b.drop at_) (by omega) (by omega)
    obtain ⟨⟨_,_,b3,b4⟩,q2,q3⟩:=build_app (sz:=2) (H:=H) (vs:=fcs out) (n:=out.length) (b:=32) (s:=.view (fld1 (b.drop at_)).cells 1 true) (cs:=(fld1 (b.drop at_)).cells) (fcs_len out) rfl rfl rfl rfl (by omega)
    rw [q2,q3,← fcs_snoc]
    have el:(out++[fld1 (b.drop at_)]).length=out.length+1:=by rw [List.length_append]; rfl
    refine ⟨ib _ (by omega),hX.slOk bd,by omega,⟨by omega,b4⟩,(at_+3+flen (b.drop at_),out++[fld1 (b.drop at_)]),?_,?_,⟨?_,?_,?_,?_⟩,?_⟩
    ·rw [el]
    ·rw [el]
    ·show at_+3+flen (b.drop at_)≤b.length; omega
    ·show (out++[fld1 (b.drop at_)]).length≤at_+3+flen (b.drop at_); rw [el]; omega
    ·intro f hf
     rcases List.mem_append.1 hf with hf | hf
     ·exact h4 f hf
     ·rw [List.mem_singleton] at hf; rw [hf]; rfl
    ·show getF b.length b=_
     rw [h5,gs,Option.map_map,List.drop_drop,show at_+(3+flen (b.drop at_))=at_+3+flen (b.drop at_) by omega]
     congr 1
     funext m
     simp
    ·show b.length - (at_+3+flen (b.drop at_))<b.length - at_
     omega
 ·have hat:at_=b.length:=by omega
  subst hat
  have hs:∀ f ∈ out,Sl 1 (hA 2 H (fcs out) out.length) f.e (bs f.b) f.b.length:=fun f hf => by rw [h4 f hf]; exact Sl.vB _ _
  refine callW_some (r_fMay ho hs (by omega)) (fun _ => rfl) ?_
  have e:getS b=if fldsB out then some out else none:=by
   rw [getS,h5,List.drop_of_length_le (Nat.le_refl _),getF_nil rfl]; simp
  rw [e]
  simp only [go_sem,ho.s]
  generalize fldsB out=fb
  cases fb
  ·simp only [go_sem]
   exact leave_hA (fun _ _ => rfl)
  ·simp only [go_sem]
   exact leave_buildT (by decide) (fcs_len out) (fcs_pure h4) (fun _ _ => rfl)
set_option maxRecDepth 10000
def partsR (o:Option (List UInt8 × Nat × Nat)):AV:=match o with
 | some (b,r,s) => .tup [vB b false,.agg (sgc r s),Bl true]
 | none => .tup [nilS,.agg (sgc 0 0),Bl false]
theorem r_Parts {H:AH} {x:AV} {b:List UInt8} (hx:Sl 1 H x (bs b) b.length) (hn:b.length≤100000):Called Tryz.prog F.clapperref09_Parts [x] H (partsR (partsO b)) H:=by
 have e8:[Z0,Z0,Z0,Z0,Z0,Z0,Z0,Z0]=sgc 0 0:=rfl
 cases hg:getS b with
 | none =>
  rw [partsO_not (fun f g h => by rw [hg] at h; cases h)]
  refine e_clapperref09_Parts ?_
  simp only [ic_clapperref09_Parts,go_sem,hx.s]
  refine callW_some (r_Get hx.app hn) (fun _ => rfl) ?_
  rw [hg]
  simp only [getR,go_sem,fillOk,fillv,e8,sg_spl,sg_len,sg_one,sg_take]
  exact leave_drop rfl
 | some l =>
  obtain ⟨hm,h64⟩:=getS_mem hg
  by_cases h2:l.length=2
  ·obtain ⟨f,g,rfl⟩:=len2 h2
   obtain ⟨hf1,hf2⟩:=hm f (by simp)
   obtain ⟨hg1,hg2⟩:=hm g (by simp)
   rw [partsO_some hg]
   have sg:∀ G,Sl 1 G g.e (bs g.b) g.b.length:=fun G => by rw [hg1]; exact Sl.vB _ _
   have sf:∀ G,Sl 1 G f.e (bs f.b) f.b.length:=fun G => by rw [hf1]; exact Sl.vB _ _
   have fc:fcs [f,g]=[I f.tag,f.e,I g.tag,g.e]:=rfl
   have e0:∀ a b c d:AV,elt [a,b,c,d] 2 0=[a,b]:=fun _ _ _ _ => rfl
   have e1:∀ a b c d:AV,elt [a,b,c,d] 2 1=[c,d]:=fun _ _ _ _ => rfl
   have z2:(((2:Nat):Int) != 2)=false:=rfl
   have y1:((1:Int) != 1)=false:=rfl
   have y2:((2:Int) != 2)=false:=rfl
   refine e_clapperref09_Parts ?_
   simp only [ic_clapperref09_Parts,go_sem,hx.s]
   refine callW_some (r_Get hx.app hn) (fun _ => rfl) ?_
   rw [hg]
   by_cases h1:f.tag=1
   ·by_cases h2:g.tag=2
    ·by_cases h64:g.b.length=64
     ·have z64:((g.b.length:Int) != 64)=false:=by rw [h64]; rfl
      rw [if_pos ⟨⟨h1,h2⟩,h64⟩]
      simp only [getR,fc,z2,y1,y2,h1,h2,z64,go_sem,e0,e1,(sf []).s,(sg []).s]
      have bd1:bndOk g.b.length none (some (.lit (.int .i64 32))) none:=by
       refine ⟨trivial,trivial,trivial,?_,?_,?_,?_⟩ <;> simp [bnd,asI] <;> omega
      have bd2:bndOk g.b.length (some (.lit (.int .i64 32))) none none:=by
       refine ⟨trivial,trivial,trivial,?_,?_,?_,?_⟩ <;> simp [bnd,asI] <;> omega
      have k1:=fun G => (sg G).sl bd1
      have k2:=fun G => (sg G).sl bd2
      have c1:cut (bs g.b) 1 (lo0 none) (hi0 g.b.length (some (.lit (.int .i64 32))))=bs (g.b.take 32):=cutb_lo g.b 32
      have c2:cut (bs g.b) 1 (lo0 (some (.lit (.int .i64 32)))) (hi0 g.b.length none)=bs (g.b.drop 32):=cutb_hi g.b 32
      have n1:hi0 g.b.length (some (.lit (.int .i64 32))) - lo0 none=(g.b.take 32).length:=by rw [List.length_take]; show 32 - 0=_; omega
      have n2:hi0 g.b.length none - lo0 (some (.lit (.int .i64 32)))=(g.b.drop 32).length:=by rw [List.length_drop]; rfl
      rw [c1,n1] at k1
      rw [c2,n2] at k2
      have so:=fun G => (sg G).slOk bd1
      have so2:=fun G => (sg G).slOk bd2
      have lw:=wd_length 4
      refine ⟨by decide,by decide,by decide,by decide,so _,callW_some (r_Of (k1 _) (by rw [List.length_take]; omega)) (fun _ => rfl) ?_⟩
      simp only [go_sem,lw,one_wd,num_splice,e0,e1,(sf []).s,(sg []).s]
      refine ⟨by decide,so2 _,callW_some (r_Of (k2 _) (by rw [List.length_drop]; omega)) (fun _ => rfl) ?_⟩
      generalize be (g.b.take 32)=r
      generalize be (g.b.drop 32)=s
      simp only [go_sem,lw,one_wd,num_splice,num_take,fillOk,fillv,e0,e1,(sf []).s,(sg []).s]
      rw [show [AV.lit (Value.int IntKind.u64 0),AV.lit (Value.int IntKind.u64 0),AV.lit (Value.int IntKind.u64 0),AV.lit (Value.int IntKind.u64 0),AV.lit (Value.int IntKind.u64 0),AV.lit (Value.int IntKind.u64 0),AV.lit (Value.int IntKind.u64 0),AV.lit (Value.int IntKind.u64 0)]=pr 0 0 from rfl]
      simp only [pr_spl0,pr_spl4,pr_spl8,pr_len,pr_one,pr_take8]
      rw [hf1]
      exact ⟨by decide,by decide,by decide,leave_drop (by simp only [low,lowL,lowL_sg]; rfl)⟩
     ·have z64:((g.b.length:Int) != 64)=true:=by rw [bne_iff_ne]; omega
      rw [if_neg (fun h => h64 h.2)]
      simp only [getR,fc,z2,y1,y2,h1,h2,z64,go_sem,e0,e1,(sf []).s,(sg []).s,fillOk,fillv,e8,sg_spl,sg_len,sg_one,sg_take]
      exact ⟨by decide,by decide,by decide,leave_drop rfl⟩
    ·have z1:(g.tag != 2)=true:=by rw [bne_iff_ne]; exact h2
     rw [if_neg (fun h => h2 h.1.2)]
     simp only [getR,fc,z2,y1,h1,z1,go_sem,e0,e1,(sf []).s,(sg []).s,fillOk,fillv,e8,sg_spl,sg_len,sg_one,sg_take]
     exact ⟨by decide,by decide,leave_drop rfl⟩
   ·have z1:(f.tag != 1)=true:=by rw [bne_iff_ne]; exact h1
    rw [if_neg (fun h => h1 h.1.1)]
    simp only [getR,fc,z2,y1,z1,go_sem,e0,e1,(sf []).s,(sg []).s,fillOk,fillv,e8,sg_spl,sg_len,sg_one,sg_take]
    exact ⟨by decide,leave_drop rfl⟩
  ·rw [partsO_not (fun f g h => by rw [hg] at h; cases h; exact h2 rfl)]
   refine e_clapperref09_Parts ?_
   simp only [ic_clapperref09_Parts,go_sem,hx.s]
   refine callW_some (r_Get hx.app hn) (fun _ => rfl) ?_
   rw [hg]
   have z1:((l.length:Int) != 2)=true:=by rw [bne_iff_ne]; omega
   simp only [getR,z1,go_sem,e8,fillOk,fillv,sg_spl,sg_len,sg_one,sg_take]
   exact leave_drop rfl
end Go.Proofs.YtgfploghjpbcaaaGreat.Eng

