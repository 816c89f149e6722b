/- Layer 7: whether a signature holds. -/
import Derived.Test.YtenfocjhebgoeaaGreatMPt
import Derived.Test.YtenfocjhebgoeaaGreatMCb
namespace Go.Proofs.YtenfocjhebgoeaaGreat.Eng
open Go Go.Proofs
set_option linter.unusedVariables false
set_option linter.unusedSimpArgs false
set_option maxRecDepth 10000
theorem on_raw {a:Aff} (h:onP a):onRaw a.x a.y a.isFar=true∧a.x<(18446744073709551616:Nat)^4∧a.y<(18446744073709551616:Nat)^4∧toA a.x a.y a.isFar=a:=by
 have hPP:(115792089210356248762697446949407573530086143415290314195533631308867097853951:Nat)<(18446744073709551616:Nat)^4:=mo_P.lt
 cases a with
 | far => exact ⟨rfl,by decide,by decide,rfl⟩
 | pt x y =>
  obtain ⟨h1,h2,h3⟩:=h
  have bt:∀ a b:Nat,a<b→Nat.blt a b=true:=fun a b h => by rw [Nat.blt_eq]; exact h
  refine ⟨?_,Nat.lt_trans h1 hPP,Nat.lt_trans h2 hPP,rfl⟩
  simp only [onRaw,Aff.x,Aff.y,Aff.isFar,cond_false,bt _ _ h1,bt _ _ h2,Bool.true_and]
  exact h3
theorem aadd_on {a c:Aff} (ha:onP a) (hc:onP c):onP (aadd (115792089210356248762697446949407573530086143415290314195533631308867097853951:Nat) a c):=by
 haveI:NeZero (115792089210356248762697446949407573530086143415290314195533631308867097853951:Nat):=⟨by decide⟩
 have hl:jok (115792089210356248762697446949407573530086143415290314195533631308867097853951:Nat) (lift a):=lift_ok (p:=(115792089210356248762697446949407573530086143415290314195533631308867097853951:Nat)) (b:=(41058363725152142129326129780047268409114441015993725554835256314039467401291:Nat)) (by decide) ha
 have hl':jok (115792089210356248762697446949407573530086143415290314195533631308867097853951:Nat) (lift c):=lift_ok (p:=(115792089210356248762697446949407573530086143415290314195533631308867097853951:Nat)) (b:=(41058363725152142129326129780047268409114441015993725554835256314039467401291:Nat)) (by decide) hc
 exact (rep_sum (p:=(115792089210356248762697446949407573530086143415290314195533631308867097853951:Nat)) prm_P (by decide) (b:=(41058363725152142129326129780047268409114441015993725554835256314039467401291:Nat)) (by decide) hl hl' ha hc (lift_rep _) (lift_rep _)).2
theorem t_N {H:AH}:Called Tryz.prog F.point_N [] H (.agg (num (115792089210356248762697446949407573529996955224135760342422259061068512044369:Nat))) H:=by
 refine e_point_N ?_
 simp only [ic_point_N,go_sem,fillOk,fillv]
 have e:[AV.lit (.int .u64 17562291160714782033),.lit (.int .u64 13611842547513532036),.lit (.int .u64 18446744073709551615),.lit (.int .u64 18446744069414584320)]=num (115792089210356248762697446949407573529996955224135760342422259061068512044369:Nat):=rfl
 simp only [e,num_splice,num_take,one_wd,wd_length,go_sem]
 exact leave_drop rfl
theorem t_may {H:AH} {a:Nat} (ha:a<(18446744073709551616:Nat)^4):Called Tryz.prog F.sign_may [.agg (num a)] H (Bl (maySc a)) H:=by
 have hN:(115792089210356248762697446949407573529996955224135760342422259061068512044369:Nat)<(18446744073709551616:Nat)^4:=mo_N.lt
 have e0:[Z0,Z0,Z0,Z0]=num 0:=rfl
 refine e_sign_may ?_
 simp only [ic_sign_may,go_sem,one_wd,num_ne,num_take,wd_length,fillOk,fillv,e0,agg_ok,agg_eq ha (show 0<(18446744073709551616:Nat)^4 by decide)]
 refine callG_of (fun _ => t_N) ?_
 simp only [go_sem]
 refine callG_of (fun _ => t_lcmp ha hN) ?_
 simp only [go_sem]
 refine leave_drop ?_
 have e:decide (cmpN a (115792089210356248762697446949407573529996955224135760342422259061068512044369:Nat)<0)=Nat.blt a (115792089210356248762697446949407573529996955224135760342422259061068512044369:Nat):=by
  rw [Bool.eq_iff_iff,decide_eq_true_eq,Nat.blt_eq]
  unfold cmpN; split <;> (try split) <;> omega
 simp only [low,maySc,e]
 rfl
theorem t_number {H:AH} {l:List UInt8} (hl:l.length=32):Called Tryz.prog F.sign_number [.agg (bs l)] H (.agg (num (be l))) H:=by
 have bl:(bs l).length=32:=by rw [bs_len,hl]
 refine e_sign_number ?_
 simp only [ic_sign_number,go_sem,one_bs,bl]
 have ne:(bs l).isEmpty=false:=by
  cases hh:bs l with
  | nil => rw [hh] at bl; cases bl
  | cons => rfl
 have ob:∀ G,obj (H++(⟨bs l,0,true⟩::G)) H.length=⟨bs l,0,true⟩:=fun G => by rw [obj_app0]; rfl
 have hx:∀ G,Sl 1 (H++(⟨bs l,0,true⟩::G)) (.row H.length 0 32 32) (bs l) l.length:=fun G => by
  rw [hl]
  exact .row (by simp) (by rw [ob]; exact bl.symm) (by decide) (by rw [ob,List.drop_zero,List.take_of_length_le (by show (bs l).length≤_; omega)]) (.inr (by rw [ob]))
 refine ⟨ne,by decide,callW_some (t_lof (hx _) (by omega)) (fun _ => rfl) ?_⟩
 simp only [go_sem,one_wd,num_ne,num_take,wd_length,num_splice]
 exact leave_drop rfl
noncomputable def verB (x y:Nat) (f:Bool) (h:List UInt8) (r s:Nat):Bool :=
 (((onRaw x y f&&!f)&&maySc r)&&maySc s) &&
 ((!(aadd (115792089210356248762697446949407573530086143415290314195533631308867097853951:Nat) (mulA (fmul (115792089210356248762697446949407573529996955224135760342422259061068512044369:Nat) (be h) (minv (115792089210356248762697446949407573529996955224135760342422259061068512044369:Nat) s)) baseA) (mulA (fmul (115792089210356248762697446949407573529996955224135760342422259061068512044369:Nat) r (minv (115792089210356248762697446949407573529996955224135760342422259061068512044369:Nat) s)) (toA x y f))).isFar)&&decide ((aadd (115792089210356248762697446949407573530086143415290314195533631308867097853951:Nat) (mulA (fmul (115792089210356248762697446949407573529996955224135760342422259061068512044369:Nat) (be h) (minv (115792089210356248762697446949407573529996955224135760342422259061068512044369:Nat) s)) baseA) (mulA (fmul (115792089210356248762697446949407573529996955224135760342422259061068512044369:Nat) r (minv (115792089210356248762697446949407573529996955224135760342422259061068512044369:Nat) s)) (toA x y f))).x%(115792089210356248762697446949407573529996955224135760342422259061068512044369:Nat)=r))
theorem base_on:onRaw (48439561293906451759052585252797914202762949526041747995844080717082404635286:Nat) (36134250956749795798585127919587881956611106672985015071877198253568414405109:Nat) false=true:=by decide +kernel
theorem low_lit (ren:Nat→Option Nat) (H:AH) (v:Value):low ren H (.lit v)=.lit v:=rfl
theorem t_Verify {H:AH} {x y r s:Nat} {f:Bool} {h:List UInt8} (hx:x<(18446744073709551616:Nat)^4) (hy:y<(18446744073709551616:Nat)^4) (hr:r<(18446744073709551616:Nat)^4) (hs:s<(18446744073709551616:Nat)^4) (hh:h.length=32):Called Tryz.prog F.sign_Verify [.agg (pcell x y f),.agg (bs h),.agg (num r++num s)] H (Bl (verB x y f h r s)) H:=by
 have hN:(115792089210356248762697446949407573529996955224135760342422259061068512044369:Nat)<(18446744073709551616:Nat)^4:=mo_N.lt
 have hN0:0<(115792089210356248762697446949407573529996955224135760342422259061068512044369:Nat):=by decide
 have bl:(bs h).length=32:=by rw [bs_len,hh]
 have sl:(num r++num s).length=8:=by rw [List.length_append,wd_length,wd_length]
 have s1:(num r++num s).take 4=num r:=List.take_left' (wd_length _ _)
 have s2:((num r++num s).drop 4).take 4=num s:=by rw [List.drop_left' (wd_length _ _),num_take]
 have so:(num r++num s).all AV.one=true:=by rw [List.all_append,one_wd,one_wd]; rfl
 have se:(num r++num s).isEmpty=false:=rfl
 have be':(bs h).isEmpty=false:=by
  cases hh:bs h with
  | nil => rw [hh] at bl; cases bl
  | cons => rfl
 have bt:(bs h).take 32=bs h:=List.take_of_length_le (by omega)
 generalize hS:num r++num s=S at *
 refine e_sign_Verify ?_
 simp only [ic_sign_Verify,go_sem,pc_one,pc_ne,pc_len,one_bs,bl,so,se,be']
 refine callW_some t_N (fun _ => rfl) ?_
 simp only [go_sem]
 refine callW_some (t_new mo_N) (fun h => by cases h) ?_
 simp only [go_sem,pc_one,pc_ne,pc_len,pc_take,pc_f]
 have hF:∀ G,FF (H++(⟨pcell x y f,0,true⟩::⟨bs h,0,true⟩::⟨S,0,true⟩::⟨fcells (115792089210356248762697446949407573529996955224135760342422259061068512044369:Nat),0,true⟩::G)) (H.length+3) (115792089210356248762697446949407573529996955224135760342422259061068512044369:Nat):=fun G => ⟨by simp,by simp only [go_sem]⟩
 refine callG_of (fun _ => t_On hx hy) ?_
 simp only [go_sem,pc_one,pc_ne,pc_len,pc_take,pc_f,sl,s1,s2]
 refine callG_of (fun _ => t_may hr) ?_
 simp only [go_sem,pc_one,pc_ne,pc_len,pc_take,pc_f,sl,s1,s2]
 refine callG_of (fun _ => t_may hs) ?_
 simp only [go_sem,pc_one,pc_ne,pc_len,pc_take,pc_f,sl,s1,s2]
 refine ⟨fun hb => leave_drop ?_,fun hb => ?_⟩
 ·have:(((onRaw x y f&&!f)&&maySc r)&&maySc s)=false:=by
   revert hb
   cases onRaw x y f <;> cases f <;> cases maySc r <;> cases maySc s <;> simp
  rw [verB,this]; rfl
 ·have hok:onRaw x y f=true∧f=false∧maySc r=true∧maySc s=true:=by
   revert hb
   cases onRaw x y f <;> cases f <;> cases maySc r <;> cases maySc s <;> simp
  obtain ⟨k1,k2,k3,k4⟩:=hok
  have ks:=(maySc_iff s).1 k4
  have kr:=(maySc_iff r).1 k3
  have kg:Nat.gcd (s%(115792089210356248762697446949407573529996955224135760342422259061068512044369:Nat)) (115792089210356248762697446949407573529996955224135760342422259061068512044369:Nat)=1:=by
   have:=prm_gcd (p:=(115792089210356248762697446949407573529996955224135760342422259061068512044369:Nat)) prm_N (a:=s%(115792089210356248762697446949407573529996955224135760342422259061068512044369:Nat)) (by rw [Nat.mod_mod,Nat.mod_eq_of_lt ks.2]; omega)
   exact this
  have ti:=t_inv (H:=H++[⟨pcell x y f,0,true⟩,⟨bs h,0,true⟩,⟨S,0,true⟩,⟨fcells (115792089210356248762697446949407573529996955224135760342422259061068512044369:Nat),0,true⟩]) (hF []).fd hN mo_N.gt mo_N.odd hs
  rw [if_pos kg,Nat.mod_eq_of_lt ks.2] at ti
  rw [verB,k1,k3,k4]
  refine callW_some ti (fun _ => rfl) ?_
  clear ti
  have ki:minv (115792089210356248762697446949407573529996955224135760342422259061068512044369:Nat) s<(18446744073709551616:Nat)^4:=by
   obtain ⟨y,h1,h2⟩:=prm_inv (p:=(115792089210356248762697446949407573529996955224135760342422259061068512044369:Nat)) prm_N ks.1 ks.2
   rw [minv_eq h1 h2]; exact Nat.lt_trans h1 hN
  generalize minv (115792089210356248762697446949407573529996955224135760342422259061068512044369:Nat) s=t at *
  simp only [go_sem,num_take,num_splice,one_wd,wd_length,pc_one,pc_ne,pc_len,pc_take,pc_f,sl,s1,s2,bl,bt]
  have hbe:be h<(18446744073709551616:Nat)^4:=by
   have:=be_lt h
   rw [hh] at this
   exact Nat.lt_of_lt_of_le this (by decide)
  have m1:=Nat.lt_trans (fmul_lt hN0 (be h) t) hN
  have m2:=Nat.lt_trans (fmul_lt hN0 r t) hN
  refine callW_some ⟨rfl,fun G => t_number hh⟩ (fun _ => rfl) ?_
  simp only [go_sem,num_take,num_splice,one_wd,wd_length,pc_one,pc_ne,pc_len,pc_take,pc_f,sl,s1,s2,bl,bt]
  refine callW_some ⟨rfl,fun G => t_fmul ((hF _).app) mo_N hbe ki⟩ (fun _ => rfl) ?_
  simp only [go_sem,num_take,num_splice,one_wd,wd_length,pc_one,pc_ne,pc_len,pc_take,pc_f,sl,s1,s2,bl,bt]
  refine callW_some ⟨rfl,fun G => t_base⟩ (fun _ => rfl) ?_
  simp only [go_sem,num_take,num_splice,one_wd,wd_length,pc_one,pc_ne,pc_len,pc_take,pc_f,sl,s1,s2,bl,bt]
  refine callW_some ⟨rfl,fun G => t_pmul m1 (by decide) (by decide) base_on⟩ (fun _ => rfl) ?_
  rw [show toA (48439561293906451759052585252797914202762949526041747995844080717082404635286:Nat) (36134250956749795798585127919587881956611106672985015071877198253568414405109:Nat) false=baseA from rfl]
  have on1:=(mulA_eq (k:=fmul (115792089210356248762697446949407573529996955224135760342422259061068512044369:Nat) (be h) t) (toA_on base_on).1).2
  rw [show toA (48439561293906451759052585252797914202762949526041747995844080717082404635286:Nat) (36134250956749795798585127919587881956611106672985015071877198253568414405109:Nat) false=baseA from rfl] at on1
  have on2:=(mulA_eq (k:=fmul (115792089210356248762697446949407573529996955224135760342422259061068512044369:Nat) r t) (toA_on k1).1).2
  generalize hA:mulA (fmul (115792089210356248762697446949407573529996955224135760342422259061068512044369:Nat) (be h) t) baseA=A at *
  simp only [go_sem,ptc,num_take,num_splice,one_wd,wd_length,pc_one,pc_ne,pc_len,pc_take,pc_spl,pc_f,sl,s1,s2,bl,bt]
  refine callW_some ⟨rfl,fun G => t_fmul ((hF _).app) mo_N hr ki⟩ (fun _ => rfl) ?_
  simp only [go_sem,ptc,num_take,num_splice,one_wd,wd_length,pc_one,pc_ne,pc_len,pc_take,pc_spl,pc_f,sl,s1,s2,bl,bt]
  refine callW_some ⟨rfl,fun G => t_pmul m2 hx hy k1⟩ (fun _ => rfl) ?_
  generalize hBm:mulA (fmul (115792089210356248762697446949407573529996955224135760342422259061068512044369:Nat) r t) (toA x y f)=B at *
  simp only [go_sem,ptc,num_take,num_splice,one_wd,wd_length,pc_one,pc_ne,pc_len,pc_take,pc_spl,pc_f,sl,s1,s2,bl,bt]
  obtain ⟨q1,q2,q3,q4⟩:=on_raw on1
  obtain ⟨w1,w2,w3,w4⟩:=on_raw on2
  refine callW_some (t_padd q2 q3 w2 w3 q1 w1) (fun _ => rfl) ?_
  rw [q4,w4]
  have on3:=aadd_on on1 on2
  obtain ⟨v1,v2,v3,v4⟩:=on_raw on3
  have ef:fadd (115792089210356248762697446949407573529996955224135760342422259061068512044369:Nat) (aadd (115792089210356248762697446949407573530086143415290314195533631308867097853951:Nat) A B).x 0=(aadd (115792089210356248762697446949407573530086143415290314195533631308867097853951:Nat) A B).x%(115792089210356248762697446949407573529996955224135760342422259061068512044369:Nat):=by rw [fadd,Nat.add_zero]
  generalize aadd (115792089210356248762697446949407573530086143415290314195533631308867097853951:Nat) A B=C at *
  have e0:[Z0,Z0,Z0,Z0]=num 0:=rfl
  have b1:C.x%(115792089210356248762697446949407573529996955224135760342422259061068512044369:Nat)<(18446744073709551616:Nat)^4:=Nat.lt_trans (Nat.mod_lt _ hN0) hN
  simp only [go_sem,ptc,num_take,num_splice,one_wd,wd_length,pc_one,pc_ne,pc_len,pc_take,pc_spl,pc_f,pc_x,sl,s1,s2,bl,bt,fillOk,fillv,e0]
  have tf:=fun G => t_fadd (hF G).fd hN hN0 v2 (show 0<(18446744073709551616:Nat)^4 by decide)
  rw [ef] at tf
  generalize C.x%(115792089210356248762697446949407573529996955224135760342422259061068512044369:Nat)=u at *
  generalize C.isFar=g at *
  cases g
  ·refine callG_of (fun _ => tf _) ?_
   clear tf hF
   simp only [go_sem,sl,s1,agg_ok,agg_eq b1 hr]
   refine leave_drop ?_
   rw [k2,Bool.not_false,Bool.true_and]
   generalize decide (u=r)=dd
   exact low_lit _ _ _
  ·refine callG_of (fun _ => tf _) ?_
   clear tf hF
   simp only [go_sem,sl,s1]
   refine leave_drop ?_
   exact low_lit _ _ _
end Go.Proofs.YtenfocjhebgoeaaGreat.Eng

