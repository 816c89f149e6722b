/- Layer 7: whether a signature holds. -/
import Derived.Test.YtcgjlpdkobmpnaaGreatMPt
import Derived.Test.YtcgjlpdkobmpnaaGreatMCb
namespace Go.Proofs.YtcgjlpdkobmpnaaGreat.Eng
open Go Go.Proofs
set_option linter.unusedVariables false
set_option linter.unusedSimpArgs false
set_option maxRecDepth 10000
theorem Zkr {a:Aff} (h:onP a):Sm a.x a.y a.isFar=true∧a.x<(18446744073709551616:Nat)^4∧a.y<(18446744073709551616:Nat)^4∧toA a.x a.y a.isFar=a:=by
 have hPP:(115792089210356248762697446949407573530086143415290314195533631308867097853951:Nat)<(18446744073709551616:Nat)^4:=mo_P.lt
 cases a with
 | far => exact ⟨rfl,by decide,by decide,rfl⟩
 | pt x y =>
  obtain ⟨h1,h2,h3⟩:=h
  have bt:∀ a b:Nat,a<b→Nat.blt a b=true:=fun a b h => by rw [Nat.blt_eq]; exact h
  refine ⟨?_,Nat.lt_trans h1 hPP,Nat.lt_trans h2 hPP,rfl⟩
  simp only [Sm,Aff.x,Aff.y,Aff.isFar,cond_false,bt _ _ h1,bt _ _ h2,Bool.true_and]
  exact h3
theorem Zyv {a c:Aff} (ha:onP a) (hc:onP c):onP (aadd (115792089210356248762697446949407573530086143415290314195533631308867097853951:Nat) a c):=by
 haveI:NeZero (115792089210356248762697446949407573530086143415290314195533631308867097853951:Nat):=⟨by decide⟩
 have hl:jok (115792089210356248762697446949407573530086143415290314195533631308867097853951:Nat) (lift a):=Ou (p:=(115792089210356248762697446949407573530086143415290314195533631308867097853951:Nat)) (b:=(41058363725152142129326129780047268409114441015993725554835256314039467401291:Nat)) (by decide) ha
 have hl':jok (115792089210356248762697446949407573530086143415290314195533631308867097853951:Nat) (lift c):=Ou (p:=(115792089210356248762697446949407573530086143415290314195533631308867097853951:Nat)) (b:=(41058363725152142129326129780047268409114441015993725554835256314039467401291:Nat)) (by decide) hc
 exact (Zbq (p:=(115792089210356248762697446949407573530086143415290314195533631308867097853951:Nat)) Zbw (by decide) (b:=(41058363725152142129326129780047268409114441015993725554835256314039467401291:Nat)) (by decide) hl hl' ha hc (Nx _) (Nx _)).2
theorem t_N {H:AH}:Called Tryz.prog F.point_N [] H (.agg (num (115792089210356248762697446949407573529996955224135760342422259061068512044369:Nat))) H:=by
 refine Zm9 ?_
 simp only [Eg,go_sem,Zr,fillv]
 have e:[AV.lit (.int .u64 17562291160714782033),.lit (.int .u64 13611842547513532036),.lit (.int .u64 18446744073709551615),.lit (.int .u64 18446744069414584320)]=num (115792089210356248762697446949407573529996955224135760342422259061068512044369:Nat):=rfl
 simp only [e,Ze,Zf,Zg,Zb,go_sem]
 exact Zc rfl
theorem Zz6 {H:AH} {a:Nat} (ha:a<(18446744073709551616:Nat)^4):Called Tryz.prog F.sign_may [.agg (num a)] H (Bl (Ns a)) H:=by
 have hN:(115792089210356248762697446949407573529996955224135760342422259061068512044369:Nat)<(18446744073709551616:Nat)^4:=mo_N.lt
 have e0:[Z0,Z0,Z0,Z0]=num 0:=rfl
 refine Zhy ?_
 simp only [Hi,go_sem,Zg,Xf,Zf,Zb,Zr,fillv,e0,Za0,Za1 ha (show 0<(18446744073709551616:Nat)^4 by decide)]
 refine Zq (fun _ => t_N) ?_
 simp only [go_sem]
 refine Zq (fun _ => Fo ha hN) ?_
 simp only [go_sem]
 refine Zc ?_
 have e:decide (cmpN a (115792089210356248762697446949407573529996955224135760342422259061068512044369:Nat)<0)=Nat.blt a (115792089210356248762697446949407573529996955224135760342422259061068512044369:Nat):=by
  rw [Bool.eq_iff_iff,decide_eq_true_eq,Nat.blt_eq]
  unfold cmpN; split <;> (try split) <;> omega
 simp only [low,Ns,e]
 rfl
theorem Zo5 {H:AH} {l:List UInt8} (hl:l.length=32):Called Tryz.prog F.sign_number [.agg (bs l)] H (.agg (num (be l))) H:=by
 have bl:(bs l).length=32:=by rw [Y9,hl]
 refine Cd ?_
 simp only [Py,go_sem,Xx,bl]
 have ne:(bs l).isEmpty=false:=by
  cases hh:bs l with
  | nil => rw [hh] at bl; cases bl
  | cons => rfl
 have ob:∀ G,obj (H++(⟨bs l,0,true⟩::G)) H.length=⟨bs l,0,true⟩:=fun G => by rw [Ym]; rfl
 have hx:∀ G,Sl 1 (H++(⟨bs l,0,true⟩::G)) (.row H.length 0 32 32) (bs l) l.length:=fun G => by
  rw [hl]
  exact .row (by simp) (by rw [ob]; exact bl.symm) (by decide) (by rw [ob,List.drop_zero,List.take_of_length_le (by show (bs l).length≤_; omega)]) (.inr (by rw [ob]))
 refine ⟨ne,by decide,Za (Zvc (hx _) (by omega)) (fun _ => rfl) ?_⟩
 simp only [go_sem,Zg,Xf,Zf,Zb,Ze]
 exact Zc rfl
noncomputable def verB (x y:Nat) (f:Bool) (h:List UInt8) (r s:Nat):Bool :=
 (((Sm x y f&&!f)&&Ns r)&&Ns s) &&
 ((!(aadd (115792089210356248762697446949407573530086143415290314195533631308867097853951:Nat) (mulA (fmul (115792089210356248762697446949407573529996955224135760342422259061068512044369:Nat) (be h) (minv (115792089210356248762697446949407573529996955224135760342422259061068512044369:Nat) s)) Zn7) (mulA (fmul (115792089210356248762697446949407573529996955224135760342422259061068512044369:Nat) r (minv (115792089210356248762697446949407573529996955224135760342422259061068512044369:Nat) s)) (toA x y f))).isFar)&&decide ((aadd (115792089210356248762697446949407573530086143415290314195533631308867097853951:Nat) (mulA (fmul (115792089210356248762697446949407573529996955224135760342422259061068512044369:Nat) (be h) (minv (115792089210356248762697446949407573529996955224135760342422259061068512044369:Nat) s)) Zn7) (mulA (fmul (115792089210356248762697446949407573529996955224135760342422259061068512044369:Nat) r (minv (115792089210356248762697446949407573529996955224135760342422259061068512044369:Nat) s)) (toA x y f))).x%(115792089210356248762697446949407573529996955224135760342422259061068512044369:Nat)=r))
theorem Zn6:Sm (48439561293906451759052585252797914202762949526041747995844080717082404635286:Nat) (36134250956749795798585127919587881956611106672985015071877198253568414405109:Nat) false=true:=by decide +kernel
theorem Zla (ren:Nat→Option Nat) (H:AH) (v:Value):low ren H (.lit v)=.lit v:=rfl
theorem Zeb {H:AH} {x y r s:Nat} {f:Bool} {h:List UInt8} (hx:x<(18446744073709551616:Nat)^4) (hy:y<(18446744073709551616:Nat)^4) (hr:r<(18446744073709551616:Nat)^4) (hs:s<(18446744073709551616:Nat)^4) (hh:h.length=32):Called Tryz.prog F.sign_Verify [.agg (pcell x y f),.agg (bs h),.agg (num r++num s)] H (Bl (verB x y f h r s)) H:=by
 have hN:(115792089210356248762697446949407573529996955224135760342422259061068512044369:Nat)<(18446744073709551616:Nat)^4:=mo_N.lt
 have hN0:0<(115792089210356248762697446949407573529996955224135760342422259061068512044369:Nat):=by decide
 have bl:(bs h).length=32:=by rw [Y9,hh]
 have sl:(num r++num s).length=8:=by rw [List.length_append,Zb,Zb]
 have s1:(num r++num s).take 4=num r:=List.take_left' (Zb _ _)
 have s2:((num r++num s).drop 4).take 4=num s:=by rw [List.drop_left' (Zb _ _),Zf]
 have so:(num r++num s).all AV.one=true:=by rw [List.all_append,Zg,Zg]; rfl
 have se:(num r++num s).isEmpty=false:=rfl
 have be':(bs h).isEmpty=false:=by
  cases hh:bs h with
  | nil => rw [hh] at bl; cases bl
  | cons => rfl
 have bt:(bs h).take 32=bs h:=List.take_of_length_le (by omega)
 generalize hS:num r++num s=S at *
 refine Ce ?_
 simp only [Pz,go_sem,Xk,S1,Yb,Xx,bl,so,se,be']
 refine Za t_N (fun _ => rfl) ?_
 simp only [go_sem]
 refine Za (Zz3 mo_N) (fun h => by cases h) ?_
 simp only [go_sem,Xk,S1,Yb,Yk,pc_f]
 have hF:∀ G,FF (H++(⟨pcell x y f,0,true⟩::⟨bs h,0,true⟩::⟨S,0,true⟩::⟨fcells (115792089210356248762697446949407573529996955224135760342422259061068512044369:Nat),0,true⟩::G)) (H.length+3) (115792089210356248762697446949407573529996955224135760342422259061068512044369:Nat):=fun G => ⟨by simp,by simp only [go_sem]⟩
 refine Zq (fun _ => t_On hx hy) ?_
 simp only [go_sem,Xk,S1,Yb,Yk,pc_f,sl,s1,s2]
 refine Zq (fun _ => Zz6 hr) ?_
 simp only [go_sem,Xk,S1,Yb,Yk,pc_f,sl,s1,s2]
 refine Zq (fun _ => Zz6 hs) ?_
 simp only [go_sem,Xk,S1,Yb,Yk,pc_f,sl,s1,s2]
 refine ⟨fun hb => Zc ?_,fun hb => ?_⟩
 ·have:(((Sm x y f&&!f)&&Ns r)&&Ns s)=false:=by
   revert hb
   cases Sm x y f <;> cases f <;> cases Ns r <;> cases Ns s <;> simp
  rw [verB,this]; rfl
 ·have hok:Sm x y f=true∧f=false∧Ns r=true∧Ns s=true:=by
   revert hb
   cases Sm x y f <;> cases f <;> cases Ns r <;> cases Ns s <;> simp
  obtain ⟨k1,k2,k3,k4⟩:=hok
  have ks:=(Ac s).1 k4
  have kr:=(Ac r).1 k3
  have kg:Nat.gcd (s%(115792089210356248762697446949407573529996955224135760342422259061068512044369:Nat)) (115792089210356248762697446949407573529996955224135760342422259061068512044369:Nat)=1:=by
   have:=Dq (p:=(115792089210356248762697446949407573529996955224135760342422259061068512044369:Nat)) Z1a (a:=s%(115792089210356248762697446949407573529996955224135760342422259061068512044369:Nat)) (by rw [Nat.mod_mod,Nat.mod_eq_of_lt ks.2]; omega)
   exact this
  have ti:=Z0c (H:=H++[⟨pcell x y f,0,true⟩,⟨bs h,0,true⟩,⟨S,0,true⟩,⟨fcells (115792089210356248762697446949407573529996955224135760342422259061068512044369:Nat),0,true⟩]) (hF []).fd hN mo_N.gt mo_N.odd hs
  rw [if_pos kg,Nat.mod_eq_of_lt ks.2] at ti
  rw [verB,k1,k3,k4]
  refine Za ti (fun _ => rfl) ?_
  clear ti
  have ki:minv (115792089210356248762697446949407573529996955224135760342422259061068512044369:Nat) s<(18446744073709551616:Nat)^4:=by
   obtain ⟨y,h1,h2⟩:=Zbv (p:=(115792089210356248762697446949407573529996955224135760342422259061068512044369:Nat)) Z1a ks.1 ks.2
   rw [Zca h1 h2]; exact Nat.lt_trans h1 hN
  generalize minv (115792089210356248762697446949407573529996955224135760342422259061068512044369:Nat) s=t at *
  simp only [go_sem,Zf,Ze,Zg,Zb,Xk,S1,Yb,Yk,pc_f,sl,s1,s2,bl,bt]
  have hbe:be h<(18446744073709551616:Nat)^4:=by
   have:=Zio h
   rw [hh] at this
   exact Nat.lt_of_lt_of_le this (by decide)
  have m1:=Nat.lt_trans (Zh hN0 (be h) t) hN
  have m2:=Nat.lt_trans (Zh hN0 r t) hN
  refine Za ⟨rfl,fun G => Zo5 hh⟩ (fun _ => rfl) ?_
  simp only [go_sem,Zf,Ze,Zg,Zb,Xk,S1,Yb,Yk,pc_f,sl,s1,s2,bl,bt]
  refine Za ⟨rfl,fun G => Zje ((hF _).app) mo_N hbe ki⟩ (fun _ => rfl) ?_
  simp only [go_sem,Zf,Ze,Zg,Zb,Xk,S1,Yb,Yk,pc_f,sl,s1,s2,bl,bt]
  refine Za ⟨rfl,fun G => Z0s⟩ (fun _ => rfl) ?_
  simp only [go_sem,Zf,Ze,Zg,Zb,Xk,S1,Yb,Yk,pc_f,sl,s1,s2,bl,bt]
  refine Za ⟨rfl,fun G => Ztb m1 (by decide) (by decide) Zn6⟩ (fun _ => rfl) ?_
  rw [show toA (48439561293906451759052585252797914202762949526041747995844080717082404635286:Nat) (36134250956749795798585127919587881956611106672985015071877198253568414405109:Nat) false=Zn7 from rfl]
  have on1:=(Zb8 (k:=fmul (115792089210356248762697446949407573529996955224135760342422259061068512044369:Nat) (be h) t) (Ba Zn6).1).2
  rw [show toA (48439561293906451759052585252797914202762949526041747995844080717082404635286:Nat) (36134250956749795798585127919587881956611106672985015071877198253568414405109:Nat) false=Zn7 from rfl] at on1
  have on2:=(Zb8 (k:=fmul (115792089210356248762697446949407573529996955224135760342422259061068512044369:Nat) r t) (Ba k1).1).2
  generalize hA:mulA (fmul (115792089210356248762697446949407573529996955224135760342422259061068512044369:Nat) (be h) t) Zn7=A at *
  simp only [go_sem,ptc,Zf,Ze,Zg,Zb,Xk,S1,Yb,Yk,Pw,pc_f,sl,s1,s2,bl,bt]
  refine Za ⟨rfl,fun G => Zje ((hF _).app) mo_N hr ki⟩ (fun _ => rfl) ?_
  simp only [go_sem,ptc,Zf,Ze,Zg,Zb,Xk,S1,Yb,Yk,Pw,pc_f,sl,s1,s2,bl,bt]
  refine Za ⟨rfl,fun G => Ztb m2 hx hy k1⟩ (fun _ => rfl) ?_
  generalize hBm:mulA (fmul (115792089210356248762697446949407573529996955224135760342422259061068512044369:Nat) r t) (toA x y f)=B at *
  simp only [go_sem,ptc,Zf,Ze,Zg,Zb,Xk,S1,Yb,Yk,Pw,pc_f,sl,s1,s2,bl,bt]
  obtain ⟨q1,q2,q3,q4⟩:=Zkr on1
  obtain ⟨w1,w2,w3,w4⟩:=Zkr on2
  refine Za (Zz2 q2 q3 w2 w3 q1 w1) (fun _ => rfl) ?_
  rw [q4,w4]
  have on3:=Zyv on1 on2
  obtain ⟨v1,v2,v3,v4⟩:=Zkr on3
  have ef:fadd (115792089210356248762697446949407573529996955224135760342422259061068512044369:Nat) (aadd (115792089210356248762697446949407573530086143415290314195533631308867097853951:Nat) A B).x 0=(aadd (115792089210356248762697446949407573530086143415290314195533631308867097853951:Nat) A B).x%(115792089210356248762697446949407573529996955224135760342422259061068512044369:Nat):=by rw [fadd,Nat.add_zero]
  generalize aadd (115792089210356248762697446949407573530086143415290314195533631308867097853951:Nat) A B=C at *
  have e0:[Z0,Z0,Z0,Z0]=num 0:=rfl
  have b1:C.x%(115792089210356248762697446949407573529996955224135760342422259061068512044369:Nat)<(18446744073709551616:Nat)^4:=Nat.lt_trans (Nat.mod_lt _ hN0) hN
  simp only [go_sem,ptc,Zf,Ze,Zg,Zb,Xk,S1,Yb,Yk,Pw,pc_f,pc_x,sl,s1,s2,bl,bt,Zr,fillv,e0]
  have tf:=fun G => Ztj (hF G).fd hN hN0 v2 (show 0<(18446744073709551616:Nat)^4 by decide)
  rw [ef] at tf
  generalize C.x%(115792089210356248762697446949407573529996955224135760342422259061068512044369:Nat)=u at *
  generalize C.isFar=g at *
  cases g
  ·refine Zq (fun _ => tf _) ?_
   clear tf hF
   simp only [go_sem,sl,s1,Za0,Za1 b1 hr]
   refine Zc ?_
   rw [k2,Bool.not_false,Bool.true_and]
   generalize decide (u=r)=dd
   exact Zla _ _ _
  ·refine Zq (fun _ => tf _) ?_
   clear tf hF
   simp only [go_sem,sl,s1]
   refine Zc ?_
   exact Zla _ _ _
end Go.Proofs.YtcgjlpdkobmpnaaGreat.Eng

