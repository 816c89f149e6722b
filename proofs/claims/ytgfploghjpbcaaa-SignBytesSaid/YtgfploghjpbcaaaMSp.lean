/- Layer 7: the laws' head: the document's example. -/
import Derived.Test.YtgfploghjpbcaaaMSo
import Derived.Test.YtgfploghjpbcaaaMEx
namespace Go.Proofs.Ytgfploghjpbcaaa.Eng
open Go Go.Proofs
set_option linter.unusedVariables false
set_option linter.unusedSimpArgs false
set_option maxRecDepth 10000
theorem t_up07 {H:AH}:Called Try.prog F.clapperlaw07_up [] H (Bl true) H:=by
 have n4:∀ a,(num a).length=4:=fun a => wd_length _ _
 have sn:∀ a b,splice (num a) 0 (num b)=num b:=fun a b => splice_all (by rw [n4,n4])
 have e4:[Z0,Z0,Z0,Z0]=num 0:=rfl
 have e84:Z0::Z0::Z0::Z0::num 0=sgc 0 0:=rfl
 have ed:[AV.lit (.int .u64 8902035550577321761),AV.lit (.int .u64 5643225679381699346),AV.lit (.int .u64 7736094919201248915),AV.lit (.int .u64 14533021268895757590)]=num dEx:=rfl
 have es:[AV.lit (.int .u8 115),AV.lit (.int .u8 97),AV.lit (.int .u8 109),AV.lit (.int .u8 112),AV.lit (.int .u8 108),AV.lit (.int .u8 101)]=bs smp:=rfl
 have eset:((((num 0).set 0 (AV.lit (.int .u64 8902035550577321761))).set 1 (AV.lit (.int .u64 5643225679381699346))).set 2 (AV.lit (.int .u64 7736094919201248915))).set 3 (AV.lit (.int .u64 14533021268895757590))=num dEx:=rfl
 have tk:∀ a b c:AObj,List.take (H.length+1+1) (H++[a,b,c])=H++[a,b]:=fun a b c => by
  rw [List.take_append,List.take_of_length_le (by omega),show H.length+1+1 - H.length=2 by omega]; rfl
 have hx:∀ a G,Sl 1 (H++(a::⟨bs smp,1,true⟩::G)) (.row (H.length+1) 0 6 6) (bs smp) smp.length:=fun a G => by
  have eo:obj (H++(a::⟨bs smp,1,true⟩::G)) (H.length+1)=⟨bs smp,1,true⟩:=by rw [obj_appk]; rfl
  exact .row (by simp) (by rw [eo]; rfl) (by decide) (by rw [eo]; rfl) (.inl (by rw [eo]))
 have hd:dEx<(18446744073709551616:Nat)^4:=by decide +kernel
 have hm:=ex_may
 simp only [Bool.and_eq_true] at hm
 have hr:=may_lt hm.1.1
 have hs:=may_lt hm.1.2
 refine e_clapperlaw07_up ?_
 simp only [ic_clapperlaw07_up,go_sem,fillOk,fillv,e4]
 simp only [eset,sn,num_take,n4,one_wd]
 simp only [go_sem,tk,es]
 have hsl:=sha_len smp
 refine ⟨⟨by simp,by rw [obj_appk]; rfl,by rw [obj_appk]; rfl,by decide⟩,callW_some ⟨rfl,fun G => t_ssum (hx _ []).app (by decide)⟩ (fun _ => rfl) ?_⟩
 have ex:=ex_sign
 generalize sha smp=h at *
 simp only [go_sem,tk]
 refine callW_some ⟨rfl,fun G => t_Sign hd hsl⟩ (fun _ => rfl) ?_
 rw [if_pos hm.2,ex,sigV]
 clear ex
 have h11:H.length+1+1=H.length+2:=rfl
 simp only [go_sem,tk,h11,e4,e84,sg_one,sg_spl,sg_take,sg_len]
 refine callW_some (t_sbytes hr hs) (fun _ => rfl) ?_
 have sl:=sgB_len rEx sEx
 have hb:=ex_bytes0
 rw [show beN 32 rEx++beN 32 sEx=sgB rEx sEx from rfl] at hb
 generalize sgB rEx sEx=S at *
 have bl:(bs S).length=64:=by rw [bs_len,sl]
 simp only [Bool.and_eq_true,beq_iff_eq] at hb
 have tg:∀ i,(tn S).getD i 0=(S.getD i 0).toNat:=fun i => by
  rw [tn,List.getD_eq_getElem?_getD,List.getElem?_map,List.getD_eq_getElem?_getD]
  cases S[i]? <;> rfl
 rw [tg,tg,tg,tg] at hb
 obtain ⟨⟨⟨h0,h1⟩,h32⟩,h63⟩:=hb
 have el:∀ i v,i<64→(S.getD i 0).toNat=v→elt (bs S) 1 i=[AV.lit (.int .u8 (v:Int))]:=fun i v hi hv => by
  rw [bs,elt_map1 u8 S i (by omega) 0,← hv]
 have x0:elt (bs S) 1 0=[AV.lit (.int .u8 239)]:=el 0 239 (by decide) h0
 have x1:elt (bs S) 1 1=[AV.lit (.int .u8 212)]:=el 1 212 (by decide) h1
 have x2:elt (bs S) 1 32=[AV.lit (.int .u8 247)]:=el 32 247 (by decide) h32
 have x3:elt (bs S) 1 63=[AV.lit (.int .u8 168)]:=el 63 168 (by decide) h63
 simp only [go_sem,sl,bl,x0,x1,x2,x3]
 refine ⟨fun _ => by decide,fun _ => by decide,fun _ => by decide,fun _ => by decide,leave_drop ?_⟩
 have e:(((((64:Nat):Int) == 64&&(239:Int) == 239)&&(212:Int) == 212)&&(247:Int) == 247&&(168:Int) == 168)=true:=by decide
 exact congrArg (fun b => AV.lit (.bool b)) e
set_option maxRecDepth 10000
theorem r_partsR {H:AH} (a:Nat):Called Try.prog F.clapperref01_Parts [.agg (num a)] H (.row H.length 0 16 16) (H++[⟨pt16 16 a,1,true⟩]):=by
 have lp:∀ (ren:Nat→Option Nat) (K:AH),lowL ren K (pt16 16 a)=pt16 16 a:=fun ren K => lowL_map ren K (fun d:Nat => I ((d:Nat):Int)) (fun _ => rfl) _
 refine r_partsL a (leave_keep [1] (by simp) (by simp) ?_ ?_)
 ·simp [low,renk_at,List.idxOf?_cons]
 ·simp [lowObj,lp,obj]
def mixP (a n i:Nat):List AV:=pt16 i n++(pt16 16 a).drop i
theorem mixP_len (a n:Nat) {i:Nat} (h:i≤16):(mixP a n i).length=16:=by
 rw [mixP,List.length_append,List.length_drop,pt_len,pt_len]; omega
theorem mixP_get (a n:Nat) {i:Nat} (h:i<16):(mixP a n i).getD i .junk=I ((a / (65536:Nat)^i%(65536:Nat):Nat):Int):=by
 rw [← pt_get (k:=16) (n:=a) h,mixP,List.getD_eq_getElem?_getD,List.getElem?_append_right (by rw [pt_len]; exact Nat.le_refl _),pt_len,Nat.sub_self,List.getElem?_drop,List.getD_eq_getElem?_getD]; rfl
theorem mixP_set (a n:Nat) {i:Nat} (h:i<16):(mixP a n i).set i (I ((n / (65536:Nat)^i%(65536:Nat):Nat):Int))=mixP a n (i+1):=by
 have d:(pt16 16 a).drop i=(pt16 16 a).getD i .junk::(pt16 16 a).drop (i+1):=by
  rw [List.drop_eq_getElem_cons (by rw [pt_len]; exact h),List.getD_eq_getElem?_getD,List.getElem?_eq_getElem (by rw [pt_len]; exact h)]; rfl
 rw [mixP,mixP,d,List.set_append_right _ _ (by rw [pt_len]; exact Nat.le_refl _),pt_len,Nat.sub_self,pt_succ i n,List.append_assoc]
 rfl
theorem r_lsub {H:AH} {a b:Nat} (ha:a<(18446744073709551616:Nat)^4) (hb:b≤a):Called Try.prog F.clapperref01_Sub [.agg (num a),.agg (num b)] H (.tup [.agg (num (a - b)),Bl false]) H:=by
 have n4:∀ a,(num a).length=4:=fun a => wd_length _ _
 have sn:∀ a b,splice (num a) 0 (num b)=num b:=fun a b => splice_all (by rw [n4,n4])
 have e4:[Z0,Z0,Z0,Z0]=num 0:=rfl
 have hP:(18446744073709551616:Nat)^4=(65536:Nat)^16:=by decide
 have hb16:b<(65536:Nat)^16:=by rw [← hP]; omega
 have p0:mixP a (a+(65536:Nat)^16 - b) 0=pt16 16 a:=rfl
 have p1:mixP a (a+(65536:Nat)^16 - b) 16=pt16 16 (a - b):=by
  rw [mixP,List.drop_of_length_le (by rw [pt_len]; exact Nat.le_refl _),List.append_nil,pt16,← dig_mod 16 _ (show 0<(65536:Nat) by decide),show a+(65536:Nat)^16 - b=(a - b)+(65536:Nat)^16 by omega,Nat.add_mod_right,dig_mod 16 _ (show 0<(65536:Nat) by decide)]
 refine e_clapperref01_Sub ?_
 simp only [ic_clapperref01_Sub,go_sem,one_wd,num_ne,num_take,n4,e4]
 refine callW_some (r_partsR a) (fun h => by cases h) ?_
 simp only [go_sem,one_wd,num_ne,num_take,n4,e4]
 refine callW_some (r_parts b) (fun h => by cases h) ?_
 have hv:∀ G,Sl 1 G (.view (pt16 16 b) 16 false) (pt16 16 b) 16:=fun G => .view (by rw [pt_len]) _
 simp only [go_sem]
 rw [← p0]
 refine w_loop _ (fun (i:Nat) => ([(4,.ptr (H.length+2) 0),(6,.row (H.length+3) 0 16 16),(7,.view (pt16 16 b) 16 false),(8,I (bor (65536:Nat) a b i)),(9,I i)],H++[⟨num a,0,true⟩,⟨num b,0,true⟩,⟨num 0,0,true⟩,⟨mixP a (a+(65536:Nat)^16 - b) i,1,true⟩])) (fun i => i≤16) (fun i => 16 - i) 0 (Nat.zero_le _) ?_ ?_
 ·simp only [bor,Nat.pow_zero,Nat.mod_one,Nat.lt_irrefl,if_false]; rfl
 intro i hi
 have lm:=mixP_len a (a+(65536:Nat)^16 - b) hi
 simp only [go_sem]
 refine ⟨fun hh => ?_,fun hh => ?_⟩
 ·have hlt:i<16:=by omega
  have gm:=mixP_get a (a+(65536:Nat)^16 - b) hlt
  have d2:=bor_succ (B:=(65536:Nat)) (by decide) a b i
  obtain ⟨t,ht,d1⟩:=sub_digit (B:=(65536:Nat)) (by decide) (a:=a) hb16 hlt
  have x1:a / (65536:Nat)^i%(65536:Nat)<(65536:Nat):=Nat.mod_lt _ (by decide)
  have x2:b / (65536:Nat)^i%(65536:Nat)<(65536:Nat):=Nat.mod_lt _ (by decide)
  have w2:IntKind.i64.wrap ((i:Int)+1)=((i+1:Nat):Int):=by rw [w64 _ (by omega) (by omega)]; omega
  have c1:bor (65536:Nat) a b i≤1:=by unfold bor; split <;> omega
  have ee:elt (pt16 16 b) 1 i=[I ((b / (65536:Nat)^i%(65536:Nat):Nat):Int)]:=by
   rw [← pt_get (k:=16) (n:=b) hlt]
   simp only [elt,Nat.mul_one]
   rw [List.drop_eq_getElem_cons (by rw [pt_len]; omega),List.take_succ_cons,List.take_zero,List.getD_eq_getElem?_getD,List.getElem?_eq_getElem (by rw [pt_len]; omega)]; rfl
  have pl:(pt16 16 b).length=16:=pt_len _ _
  have w3:IntKind.i64.wrap (IntKind.i64.wrap (((a / (65536:Nat)^i%(65536:Nat):Nat):Int) - ((b / (65536:Nat)^i%(65536:Nat):Nat):Int)) - ((bor (65536:Nat) a b i:Nat):Int))=((a / (65536:Nat)^i%(65536:Nat):Nat):Int) - ((b / (65536:Nat)^i%(65536:Nat):Nat):Int) - ((bor (65536:Nat) a b i:Nat):Int):=by
   rw [w64 (((a / (65536:Nat)^i%(65536:Nat):Nat):Int) - ((b / (65536:Nat)^i%(65536:Nat):Nat):Int)) (by omega) (by omega),w64 _ (by omega) (by omega)]
  have st:=mixP_set a (a+(65536:Nat)^16 - b) hlt
  have dg:(a+(65536:Nat)^16 - b) / (65536:Nat)^i%(65536:Nat)=if a / (65536:Nat)^i%(65536:Nat)<b / (65536:Nat)^i%(65536:Nat)+bor (65536:Nat) a b i then a / (65536:Nat)^i%(65536:Nat)+(65536:Nat) - b / (65536:Nat)^i%(65536:Nat) - bor (65536:Nat) a b i else a / (65536:Nat)^i%(65536:Nat) - b / (65536:Nat)^i%(65536:Nat) - bor (65536:Nat) a b i:=by
   rw [ht]
   generalize a / (65536:Nat)^i=x at *
   generalize b / (65536:Nat)^i=y at *
   generalize bor (65536:Nat) a b i=c at *
   generalize (65536:Nat)^(16 - i - 1)=Q at *
   clear d2 st gm ee w3 lm hb16 p0 p1 hP
   split <;> omega
  simp only [go_sem,lm,gm,ee,pl,w3]
  generalize a / (65536:Nat)^i%(65536:Nat)=x at *
  generalize b / (65536:Nat)^i%(65536:Nat)=y at *
  generalize hc:bor (65536:Nat) a b i=c at *
  refine ⟨⟨by omega,by omega⟩,by omega,⟨by omega,by omega⟩,fun hn => ?_,fun hn => ?_⟩
  ·have hlt2:x<y+c:=by omega
   rw [if_pos hlt2] at d2 dg
   have w4:IntKind.i64.wrap ((x:Int) - (y:Int) - (c:Int)+65536)=((x+(65536:Nat) - y - c:Nat):Int):=by rw [w64 _ (by omega) (by omega)]; omega
   rw [w4,← dg,w2]
   exact ⟨⟨by omega,by omega⟩,by omega,i+1,by rw [d2]; rfl,by rw [st],by omega,by omega⟩
  ·have hlt2:¬ x<y+c:=by omega
   rw [if_neg hlt2] at d2 dg
   have w4:((x:Int) - (y:Int) - (c:Int))=((x - y - c:Nat):Int):=by omega
   rw [w4,← dg,w2]
   exact ⟨⟨by omega,by omega⟩,by omega,i+1,by rw [d2]; rfl,by rw [st],by omega,by omega⟩
 ·obtain rfl:i=16:=by omega
  rw [p1]
  have bz:bor (65536:Nat) a b 16=0:=by
   unfold bor; rw [Nat.mod_eq_of_lt (by omega),Nat.mod_eq_of_lt hb16,if_neg (by omega)]
  have eo:∀ G,obj (H++(⟨num a,0,true⟩::⟨num b,0,true⟩::⟨num 0,0,true⟩::⟨pt16 16 (a - b),1,true⟩::G)) (H.length+3)=⟨pt16 16 (a - b),1,true⟩:=fun G => by rw [obj_appk]; rfl
  have hx:Sl 1 (H++[⟨num a,0,true⟩,⟨num b,0,true⟩,⟨num 0,0,true⟩,⟨pt16 16 (a - b),1,true⟩]) (.row (H.length+3) 0 16 16) (pt16 16 (a - b)) 16 :=
   .row (by simp) (by rw [eo,pt_len]) (by decide) (by rw [eo,List.drop_zero]; exact List.take_of_length_le (by rw [pt_len]; decide)) (.inl (by rw [eo]))
  refine callW_some (r_Num hx (by omega)) (fun _ => rfl) ?_
  rw [bz]
  generalize a - b=z
  simp only [go_sem,one_wd,num_ne,num_take,n4,e4,sn]
  exact leave_drop (by simp only [low,lowL,lowL_wd]; rfl)
end Go.Proofs.Ytgfploghjpbcaaa.Eng

