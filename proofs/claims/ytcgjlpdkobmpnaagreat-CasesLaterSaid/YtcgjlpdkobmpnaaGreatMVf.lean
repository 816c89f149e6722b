/- Layer 7: whether a signature holds. -/
import Derived.Test.YtcgjlpdkobmpnaaGreatMPt
import Derived.Test.YtcgjlpdkobmpnaaGreatMCb
namespace Go.Proofs.YtcgjlpdkobmpnaaGreat.Eng
open Go Go.Proofs
set_option linter.unusedVariables false
set_option linter.unusedSimpArgs false
set_option maxRecDepth 10000
theorem Zkm {a:Aff} (h:onP a):Si a.x a.y a.isFar=true∧a.x<(18446744073709551616:Nat)^4∧a.y<(18446744073709551616:Nat)^4∧toA a.x a.y a.isFar=a:=by
 have hPP:(115792089210356248762697446949407573530086143415290314195533631308867097853951:Nat)<(18446744073709551616:Nat)^4:=mo_P.lt
 cases a with
 | far => exact ⟨rfl,by decide,by decide,rfl⟩
 | pt x y =>
  obtain ⟨h1,h2,h3⟩:=h
  have bt:∀ a b:Nat,a<b→Nat.blt a b=true:=fun a b h => by rw [Nat.blt_eq]; exact h
  refine ⟨?_,Nat.lt_trans h1 hPP,Nat.lt_trans h2 hPP,rfl⟩
  simp only [Si,Aff.x,Aff.y,Aff.isFar,cond_false,bt _ _ h1,bt _ _ h2,Bool.true_and]
  exact h3
theorem Zyj {a c:Aff} (ha:onP a) (hc:onP c):onP (aadd (115792089210356248762697446949407573530086143415290314195533631308867097853951:Nat) a c):=by
 haveI:NeZero (115792089210356248762697446949407573530086143415290314195533631308867097853951:Nat):=⟨by decide⟩
 have hl:jok (115792089210356248762697446949407573530086143415290314195533631308867097853951:Nat) (lift a):=Oo (p:=(115792089210356248762697446949407573530086143415290314195533631308867097853951:Nat)) (b:=(41058363725152142129326129780047268409114441015993725554835256314039467401291:Nat)) (by decide) ha
 have hl':jok (115792089210356248762697446949407573530086143415290314195533631308867097853951:Nat) (lift c):=Oo (p:=(115792089210356248762697446949407573530086143415290314195533631308867097853951:Nat)) (b:=(41058363725152142129326129780047268409114441015993725554835256314039467401291:Nat)) (by decide) hc
 exact (Zbl (p:=(115792089210356248762697446949407573530086143415290314195533631308867097853951:Nat)) Zbq (by decide) (b:=(41058363725152142129326129780047268409114441015993725554835256314039467401291:Nat)) (by decide) hl hl' ha hc (Nt _) (Nt _)).2
theorem t_N {H:AH}:Called Tryz.prog F.point_N [] H (.agg (num (115792089210356248762697446949407573529996955224135760342422259061068512044369:Nat))) H:=by
 refine Zm3 ?_
 simp only [F7,go_sem,Zr,fillv]
 have e:[AV.lit (.int .u64 17562291160714782033),.lit (.int .u64 13611842547513532036),.lit (.int .u64 18446744073709551615),.lit (.int .u64 18446744069414584320)]=num (115792089210356248762697446949407573529996955224135760342422259061068512044369:Nat):=rfl
 simp only [e,Ze,Zf,Zg,Zb,go_sem]
 exact Zc rfl
theorem Zzu {H:AH} {a:Nat} (ha:a<(18446744073709551616:Nat)^4):Called Tryz.prog F.sign_may [.agg (num a)] H (Bl (Nn a)) H:=by
 have hN:(115792089210356248762697446949407573529996955224135760342422259061068512044369:Nat)<(18446744073709551616:Nat)^4:=mo_N.lt
 have e0:[Z0,Z0,Z0,Z0]=num 0:=rfl
 refine Zhs ?_
 simp only [I7,go_sem,Zg,Xg,Zf,Zb,Zr,fillv,e0,Zau,Zav ha (show 0<(18446744073709551616:Nat)^4 by decide)]
 refine Zq (fun _ => t_N) ?_
 simp only [go_sem]
 refine Zq (fun _ => Ff ha hN) ?_
 simp only [go_sem]
 refine Zc ?_
 have e:decide (cmpN a (115792089210356248762697446949407573529996955224135760342422259061068512044369:Nat)<0)=Nat.blt a (115792089210356248762697446949407573529996955224135760342422259061068512044369:Nat):=by
  rw [Bool.eq_iff_iff,decide_eq_true_eq,Nat.blt_eq]
  unfold cmpN; split <;> (try split) <;> omega
 simp only [low,Nn,e]
 rfl
theorem Zox {H:AH} {l:List UInt8} (hl:l.length=32):Called Tryz.prog F.sign_number [.agg (bs l)] H (.agg (num (be l))) H:=by
 have bl:(bs l).length=32:=by rw [Xa,hl]
 refine D3 ?_
 simp only [Pw,go_sem,Xy,bl]
 have ne:(bs l).isEmpty=false:=by
  cases hh:bs l with
  | nil => rw [hh] at bl; cases bl
  | cons => rfl
 have ob:∀ G,obj (H++(⟨bs l,0,true⟩::G)) H.length=⟨bs l,0,true⟩:=fun G => by rw [Yq]; rfl
 have hx:∀ G,Sl 1 (H++(⟨bs l,0,true⟩::G)) (.row H.length 0 32 32) (bs l) l.length:=fun G => by
  rw [hl]
  exact .row (by simp) (by rw [ob]; exact bl.symm) (by decide) (by rw [ob,List.drop_zero,List.take_of_length_le (by show (bs l).length≤_; omega)]) (.inr (by rw [ob]))
 refine ⟨ne,by decide,Za (Zu2 (hx _) (by omega)) (fun _ => rfl) ?_⟩
 simp only [go_sem,Zg,Xg,Zf,Zb,Ze]
 exact Zc rfl
noncomputable def verB (x y:Nat) (f:Bool) (h:List UInt8) (r s:Nat):Bool :=
 (((Si x y f&&!f)&&Nn r)&&Nn s) &&
 ((!(aadd (115792089210356248762697446949407573530086143415290314195533631308867097853951:Nat) (mulA (fmul (115792089210356248762697446949407573529996955224135760342422259061068512044369:Nat) (be h) (minv (115792089210356248762697446949407573529996955224135760342422259061068512044369:Nat) s)) Zn0) (mulA (fmul (115792089210356248762697446949407573529996955224135760342422259061068512044369:Nat) r (minv (115792089210356248762697446949407573529996955224135760342422259061068512044369:Nat) s)) (toA x y f))).isFar)&&decide ((aadd (115792089210356248762697446949407573530086143415290314195533631308867097853951:Nat) (mulA (fmul (115792089210356248762697446949407573529996955224135760342422259061068512044369:Nat) (be h) (minv (115792089210356248762697446949407573529996955224135760342422259061068512044369:Nat) s)) Zn0) (mulA (fmul (115792089210356248762697446949407573529996955224135760342422259061068512044369:Nat) r (minv (115792089210356248762697446949407573529996955224135760342422259061068512044369:Nat) s)) (toA x y f))).x%(115792089210356248762697446949407573529996955224135760342422259061068512044369:Nat)=r))
theorem Znz:Si (48439561293906451759052585252797914202762949526041747995844080717082404635286:Nat) (36134250956749795798585127919587881956611106672985015071877198253568414405109:Nat) false=true:=by decide +kernel
theorem Zk4 (ren:Nat→Option Nat) (H:AH) (v:Value):low ren H (.lit v)=.lit v:=rfl
theorem Zd5 {H:AH} {x y r s:Nat} {f:Bool} {h:List UInt8} (hx:x<(18446744073709551616:Nat)^4) (hy:y<(18446744073709551616:Nat)^4) (hr:r<(18446744073709551616:Nat)^4) (hs:s<(18446744073709551616:Nat)^4) (hh:h.length=32):Called Tryz.prog F.sign_Verify [.agg (pcell x y f),.agg (bs h),.agg (num r++num s)] H (Bl (verB x y f h r s)) H:=by
 have hN:(115792089210356248762697446949407573529996955224135760342422259061068512044369:Nat)<(18446744073709551616:Nat)^4:=mo_N.lt
 have hN0:0<(115792089210356248762697446949407573529996955224135760342422259061068512044369:Nat):=by decide
 have bl:(bs h).length=32:=by rw [Xa,hh]
 have sl:(num r++num s).length=8:=by rw [List.length_append,Zb,Zb]
 have s1:(num r++num s).take 4=num r:=List.take_left' (Zb _ _)
 have s2:((num r++num s).drop 4).take 4=num s:=by rw [List.drop_left' (Zb _ _),Zf]
 have so:(num r++num s).all AV.one=true:=by rw [List.all_append,Zg,Zg]; rfl
 have se:(num r++num s).isEmpty=false:=rfl
 have be':(bs h).isEmpty=false:=by
  cases hh:bs h with
  | nil => rw [hh] at bl; cases bl
  | cons => rfl
 have bt:(bs h).take 32=bs h:=List.take_of_length_le (by omega)
 generalize hS:num r++num s=S at *
 refine D4 ?_
 simp only [Px,go_sem,Xl,Sy,Yb,Xy,bl,so,se,be']
 refine Za t_N (fun _ => rfl) ?_
 simp only [go_sem]
 refine Za (Zzr mo_N) (fun h => by cases h) ?_
 simp only [go_sem,Xl,Sy,Yb,Yk,pc_f]
 have hF:∀ G,FF (H++(⟨pcell x y f,0,true⟩::⟨bs h,0,true⟩::⟨S,0,true⟩::⟨fcells (115792089210356248762697446949407573529996955224135760342422259061068512044369:Nat),0,true⟩::G)) (H.length+3) (115792089210356248762697446949407573529996955224135760342422259061068512044369:Nat):=fun G => ⟨by simp,by simp only [go_sem]⟩
 refine Zq (fun _ => t_On hx hy) ?_
 simp only [go_sem,Xl,Sy,Yb,Yk,pc_f,sl,s1,s2]
 refine Zq (fun _ => Zzu hr) ?_
 simp only [go_sem,Xl,Sy,Yb,Yk,pc_f,sl,s1,s2]
 refine Zq (fun _ => Zzu hs) ?_
 simp only [go_sem,Xl,Sy,Yb,Yk,pc_f,sl,s1,s2]
 refine ⟨fun hb => Zc ?_,fun hb => ?_⟩
 ·have:(((Si x y f&&!f)&&Nn r)&&Nn s)=false:=by
   revert hb
   cases Si x y f <;> cases f <;> cases Nn r <;> cases Nn s <;> simp
  rw [verB,this]; rfl
 ·have hok:Si x y f=true∧f=false∧Nn r=true∧Nn s=true:=by
   revert hb
   cases Si x y f <;> cases f <;> cases Nn r <;> cases Nn s <;> simp
  obtain ⟨k1,k2,k3,k4⟩:=hok
  have ks:=(B8 s).1 k4
  have kr:=(B8 r).1 k3
  have kg:Nat.gcd (s%(115792089210356248762697446949407573529996955224135760342422259061068512044369:Nat)) (115792089210356248762697446949407573529996955224135760342422259061068512044369:Nat)=1:=by
   have:=De (p:=(115792089210356248762697446949407573529996955224135760342422259061068512044369:Nat)) Z0x (a:=s%(115792089210356248762697446949407573529996955224135760342422259061068512044369:Nat)) (by rw [Nat.mod_mod,Nat.mod_eq_of_lt ks.2]; omega)
   exact this
  have ti:=Zz0 (H:=H++[⟨pcell x y f,0,true⟩,⟨bs h,0,true⟩,⟨S,0,true⟩,⟨fcells (115792089210356248762697446949407573529996955224135760342422259061068512044369:Nat),0,true⟩]) (hF []).fd hN mo_N.gt mo_N.odd hs
  rw [if_pos kg,Nat.mod_eq_of_lt ks.2] at ti
  rw [verB,k1,k3,k4]
  refine Za ti (fun _ => rfl) ?_
  clear ti
  have ki:minv (115792089210356248762697446949407573529996955224135760342422259061068512044369:Nat) s<(18446744073709551616:Nat)^4:=by
   obtain ⟨y,h1,h2⟩:=Zbp (p:=(115792089210356248762697446949407573529996955224135760342422259061068512044369:Nat)) Z0x ks.1 ks.2
   rw [Zb4 h1 h2]; exact Nat.lt_trans h1 hN
  generalize minv (115792089210356248762697446949407573529996955224135760342422259061068512044369:Nat) s=t at *
  simp only [go_sem,Zf,Ze,Zg,Zb,Xl,Sy,Yb,Yk,pc_f,sl,s1,s2,bl,bt]
  have hbe:be h<(18446744073709551616:Nat)^4:=by
   have:=Zii h
   rw [hh] at this
   exact Nat.lt_of_lt_of_le this (by decide)
  have m1:=Nat.lt_trans (Zh hN0 (be h) t) hN
  have m2:=Nat.lt_trans (Zh hN0 r t) hN
  refine Za ⟨rfl,fun G => Zox hh⟩ (fun _ => rfl) ?_
  simp only [go_sem,Zf,Ze,Zg,Zb,Xl,Sy,Yb,Yk,pc_f,sl,s1,s2,bl,bt]
  refine Za ⟨rfl,fun G => Zja ((hF _).app) mo_N hbe ki⟩ (fun _ => rfl) ?_
  simp only [go_sem,Zf,Ze,Zg,Zb,Xl,Sy,Yb,Yk,pc_f,sl,s1,s2,bl,bt]
  refine Za ⟨rfl,fun G => Z0g⟩ (fun _ => rfl) ?_
  simp only [go_sem,Zf,Ze,Zg,Zb,Xl,Sy,Yb,Yk,pc_f,sl,s1,s2,bl,bt]
  refine Za ⟨rfl,fun G => Zs1 m1 (by decide) (by decide) Znz⟩ (fun _ => rfl) ?_
  rw [show toA (48439561293906451759052585252797914202762949526041747995844080717082404635286:Nat) (36134250956749795798585127919587881956611106672985015071877198253568414405109:Nat) false=Zn0 from rfl]
  have on1:=(Zb2 (k:=fmul (115792089210356248762697446949407573529996955224135760342422259061068512044369:Nat) (be h) t) (C0 Znz).1).2
  rw [show toA (48439561293906451759052585252797914202762949526041747995844080717082404635286:Nat) (36134250956749795798585127919587881956611106672985015071877198253568414405109:Nat) false=Zn0 from rfl] at on1
  have on2:=(Zb2 (k:=fmul (115792089210356248762697446949407573529996955224135760342422259061068512044369:Nat) r t) (C0 k1).1).2
  generalize hA:mulA (fmul (115792089210356248762697446949407573529996955224135760342422259061068512044369:Nat) (be h) t) Zn0=A at *
  simp only [go_sem,ptc,Zf,Ze,Zg,Zb,Xl,Sy,Yb,Yk,Pu,pc_f,sl,s1,s2,bl,bt]
  refine Za ⟨rfl,fun G => Zja ((hF _).app) mo_N hr ki⟩ (fun _ => rfl) ?_
  simp only [go_sem,ptc,Zf,Ze,Zg,Zb,Xl,Sy,Yb,Yk,Pu,pc_f,sl,s1,s2,bl,bt]
  refine Za ⟨rfl,fun G => Zs1 m2 hx hy k1⟩ (fun _ => rfl) ?_
  generalize hBm:mulA (fmul (115792089210356248762697446949407573529996955224135760342422259061068512044369:Nat) r t) (toA x y f)=B at *
  simp only [go_sem,ptc,Zf,Ze,Zg,Zb,Xl,Sy,Yb,Yk,Pu,pc_f,sl,s1,s2,bl,bt]
  obtain ⟨q1,q2,q3,q4⟩:=Zkm on1
  obtain ⟨w1,w2,w3,w4⟩:=Zkm on2
  refine Za (Zzq q2 q3 w2 w3 q1 w1) (fun _ => rfl) ?_
  rw [q4,w4]
  have on3:=Zyj on1 on2
  obtain ⟨v1,v2,v3,v4⟩:=Zkm on3
  have ef:fadd (115792089210356248762697446949407573529996955224135760342422259061068512044369:Nat) (aadd (115792089210356248762697446949407573530086143415290314195533631308867097853951:Nat) A B).x 0=(aadd (115792089210356248762697446949407573530086143415290314195533631308867097853951:Nat) A B).x%(115792089210356248762697446949407573529996955224135760342422259061068512044369:Nat):=by rw [fadd,Nat.add_zero]
  generalize aadd (115792089210356248762697446949407573530086143415290314195533631308867097853951:Nat) A B=C at *
  have e0:[Z0,Z0,Z0,Z0]=num 0:=rfl
  have b1:C.x%(115792089210356248762697446949407573529996955224135760342422259061068512044369:Nat)<(18446744073709551616:Nat)^4:=Nat.lt_trans (Nat.mod_lt _ hN0) hN
  simp only [go_sem,ptc,Zf,Ze,Zg,Zb,Xl,Sy,Yb,Yk,Pu,pc_f,pc_x,sl,s1,s2,bl,bt,Zr,fillv,e0]
  have tf:=fun G => Zs9 (hF G).fd hN hN0 v2 (show 0<(18446744073709551616:Nat)^4 by decide)
  rw [ef] at tf
  generalize C.x%(115792089210356248762697446949407573529996955224135760342422259061068512044369:Nat)=u at *
  generalize C.isFar=g at *
  cases g
  ·refine Zq (fun _ => tf _) ?_
   clear tf hF
   simp only [go_sem,sl,s1,Zau,Zav b1 hr]
   refine Zc ?_
   rw [k2,Bool.not_false,Bool.true_and]
   generalize decide (u=r)=dd
   exact Zk4 _ _ _
  ·refine Zq (fun _ => tf _) ?_
   clear tf hF
   simp only [go_sem,sl,s1]
   refine Zc ?_
   exact Zk4 _ _ _
end Go.Proofs.YtcgjlpdkobmpnaaGreat.Eng

