/- Layer 7: the laws' head: the document's example. -/
import Derived.Test.YtgfploghjpbcaaaGreatMSo
import Derived.Test.YtgfploghjpbcaaaGreatMEx
namespace Go.Proofs.YtgfploghjpbcaaaGreat.Eng
open Go Go.Proofs
set_option linter.unusedVariables false
set_option linter.unusedSimpArgs false
set_option maxRecDepth 10000
theorem t_up07 {H:AH}:Called Tryz.prog F.clapperlaw07_up [] H (Bl true) H:=by
 have n4:∀ a,(num a).length=4:=fun a => wd_length _ _
 have sn:∀ a b,splice (num a) 0 (num b)=num b:=fun a b => splice_all (by rw [n4,n4])
 have e4:[Z0,Z0,Z0,Z0]=num 0:=rfl
 have e84:Z0::Z0::Z0::Z0::num 0=sgc 0 0:=rfl
 have ed:[AV.lit (.int .u64 8902035550577321761),AV.lit (.int .u64 5643225679381699346),AV.lit (.int .u64 7736094919201248915),AV.lit (.int .u64 14533021268895757590)]=num dEx:=rfl
 have es:[AV.lit (.int .u8 115),AV.lit (.int .u8 97),AV.lit (.int .u8 109),AV.lit (.int .u8 112),AV.lit (.int .u8 108),AV.lit (.int .u8 101)]=bs smp:=rfl
 have eset:((((num 0).set 0 (AV.lit (.int .u64 8902035550577321761))).set 1 (AV.lit (.int .u64 5643225679381699346))).set 2 (AV.lit (.int .u64 7736094919201248915))).set 3 (AV.lit (.int .u64 14533021268895757590))=num dEx:=rfl
 have tk:∀ a b c:AObj,List.take (H.length+1+1) (H++[a,b,c])=H++[a,b]:=fun a b c => by
  rw [List.take_append,List.take_of_length_le (by omega),show H.length+1+1 - H.length=2 by omega]; rfl
 have hx:∀ a G,Sl 1 (H++(a::⟨bs smp,1,true⟩::G)) (.row (H.length+1) 0 6 6) (bs smp) smp.length:=fun a G => by
  have eo:obj (H++(a::⟨bs smp,1,true⟩::G)) (H.length+1)=⟨bs smp,1,true⟩:=by rw [obj_appk]; rfl
  exact .row (by simp) (by rw [eo]; rfl) (by decide) (by rw [eo]; rfl) (.inl (by rw [eo]))
 have hd:dEx<(18446744073709551616:Nat)^4:=by decide +kernel
 have hm:=ex_may
 simp only [Bool.and_eq_true] at hm
 have hr:=may_lt hm.1.1
 have hs:=may_lt hm.1.2
 refine e_clapperlaw07_up ?_
 simp only [ic_clapperlaw07_up,go_sem,fillOk,fillv,e4]
 simp only [eset,sn,num_take,n4,one_wd]
 simp only [go_sem,tk,es]
 have hsl:=sha_len smp
 refine ⟨⟨by simp,by rw [obj_appk]; rfl,by rw [obj_appk]; rfl,by decide⟩,callW_some ⟨rfl,fun G => t_ssum (hx _ []).app (by decide)⟩ (fun _ => rfl) ?_⟩
 have ex:=ex_sign
 generalize sha smp=h at *
 simp only [go_sem,tk]
 refine callW_some ⟨rfl,fun G => t_Sign hd hsl⟩ (fun _ => rfl) ?_
 rw [if_pos hm.2,ex,sigV]
 clear ex
 have h11:H.length+1+1=H.length+2:=rfl
 simp only [go_sem,tk,h11,e4,e84,sg_one,sg_spl,sg_take,sg_len]
 refine callW_some (t_sbytes hr hs) (fun _ => rfl) ?_
 have sl:=sgB_len rEx sEx
 have hb:=ex_bytes0
 rw [show beN 32 rEx++beN 32 sEx=sgB rEx sEx from rfl] at hb
 generalize sgB rEx sEx=S at *
 have bl:(bs S).length=64:=by rw [bs_len,sl]
 simp only [Bool.and_eq_true,beq_iff_eq] at hb
 have tg:∀ i,(tn S).getD i 0=(S.getD i 0).toNat:=fun i => by
  rw [tn,List.getD_eq_getElem?_getD,List.getElem?_map,List.getD_eq_getElem?_getD]
  cases S[i]? <;> rfl
 rw [tg,tg,tg,tg] at hb
 obtain ⟨⟨⟨h0,h1⟩,h32⟩,h63⟩:=hb
 have el:∀ i v,i<64→(S.getD i 0).toNat=v→elt (bs S) 1 i=[AV.lit (.int .u8 (v:Int))]:=fun i v hi hv => by
  rw [bs,elt_map1 u8 S i (by omega) 0,← hv]
 have x0:elt (bs S) 1 0=[AV.lit (.int .u8 239)]:=el 0 239 (by decide) h0
 have x1:elt (bs S) 1 1=[AV.lit (.int .u8 212)]:=el 1 212 (by decide) h1
 have x2:elt (bs S) 1 32=[AV.lit (.int .u8 247)]:=el 32 247 (by decide) h32
 have x3:elt (bs S) 1 63=[AV.lit (.int .u8 168)]:=el 63 168 (by decide) h63
 simp only [go_sem,sl,bl,x0,x1,x2,x3]
 refine ⟨fun _ => by decide,fun _ => by decide,fun _ => by decide,fun _ => by decide,leave_drop ?_⟩
 have e:(((((64:Nat):Int) == 64&&(239:Int) == 239)&&(212:Int) == 212)&&(247:Int) == 247&&(168:Int) == 168)=true:=by decide
 exact congrArg (fun b => AV.lit (.bool b)) e
end Go.Proofs.YtgfploghjpbcaaaGreat.Eng

