/- Layer 7: whether a signature holds. -/
import Derived.Test.YtgfploghjpbcaaaGreatMPt
import Derived.Test.YtgfploghjpbcaaaGreatMCb
namespace Go.Proofs.YtgfploghjpbcaaaGreat.Eng
open Go Go.Proofs
set_option linter.unusedVariables false
set_option linter.unusedSimpArgs false
set_option maxRecDepth 10000
theorem on_raw {a:Aff} (h:onP a):onRaw a.x a.y a.isFar=true∧a.x<(18446744073709551616:Nat)^4∧a.y<(18446744073709551616:Nat)^4∧toA a.x a.y a.isFar=a:=by
 have hPP:(115792089210356248762697446949407573530086143415290314195533631308867097853951:Nat)<(18446744073709551616:Nat)^4:=mo_P.lt
 cases a with
 | far => exact ⟨rfl,by decide,by decide,rfl⟩
 | pt x y =>
  obtain ⟨h1,h2,h3⟩:=h
  have bt:∀ a b:Nat,a<b→Nat.blt a b=true:=fun a b h => by rw [Nat.blt_eq]; exact h
  refine ⟨?_,Nat.lt_trans h1 hPP,Nat.lt_trans h2 hPP,rfl⟩
  simp only [onRaw,Aff.x,Aff.y,Aff.isFar,cond_false,bt _ _ h1,bt _ _ h2,Bool.true_and]
  exact h3
theorem t_N {H:AH}:Called Tryz.prog F.point_N [] H (.agg (num (115792089210356248762697446949407573529996955224135760342422259061068512044369:Nat))) H:=by
 refine e_point_N ?_
 simp only [ic_point_N,go_sem,fillOk,fillv]
 have e:[AV.lit (.int .u64 17562291160714782033),.lit (.int .u64 13611842547513532036),.lit (.int .u64 18446744073709551615),.lit (.int .u64 18446744069414584320)]=num (115792089210356248762697446949407573529996955224135760342422259061068512044369:Nat):=rfl
 simp only [e,num_splice,num_take,one_wd,wd_length,go_sem]
 exact leave_drop rfl
theorem t_may {H:AH} {a:Nat} (ha:a<(18446744073709551616:Nat)^4):Called Tryz.prog F.sign_may [.agg (num a)] H (Bl (maySc a)) H:=by
 have hN:(115792089210356248762697446949407573529996955224135760342422259061068512044369:Nat)<(18446744073709551616:Nat)^4:=mo_N.lt
 have e0:[Z0,Z0,Z0,Z0]=num 0:=rfl
 refine e_sign_may ?_
 simp only [ic_sign_may,go_sem,one_wd,num_ne,num_take,wd_length,fillOk,fillv,e0,agg_ok,agg_eq ha (show 0<(18446744073709551616:Nat)^4 by decide)]
 refine callG_of (fun _ => t_N) ?_
 simp only [go_sem]
 refine callG_of (fun _ => t_lcmp ha hN) ?_
 simp only [go_sem]
 refine leave_drop ?_
 have e:decide (cmpN a (115792089210356248762697446949407573529996955224135760342422259061068512044369:Nat)<0)=Nat.blt a (115792089210356248762697446949407573529996955224135760342422259061068512044369:Nat):=by
  rw [Bool.eq_iff_iff,decide_eq_true_eq,Nat.blt_eq]
  unfold cmpN; split <;> (try split) <;> omega
 simp only [low,maySc,e]
 rfl
theorem t_number {H:AH} {l:List UInt8} (hl:l.length=32):Called Tryz.prog F.sign_number [.agg (bs l)] H (.agg (num (be l))) H:=by
 have bl:(bs l).length=32:=by rw [bs_len,hl]
 refine e_sign_number ?_
 simp only [ic_sign_number,go_sem,one_bs,bl]
 have ne:(bs l).isEmpty=false:=by
  cases hh:bs l with
  | nil => rw [hh] at bl; cases bl
  | cons => rfl
 have ob:∀ G,obj (H++(⟨bs l,0,true⟩::G)) H.length=⟨bs l,0,true⟩:=fun G => by rw [obj_app0]; rfl
 have hx:∀ G,Sl 1 (H++(⟨bs l,0,true⟩::G)) (.row H.length 0 32 32) (bs l) l.length:=fun G => by
  rw [hl]
  exact .row (by simp) (by rw [ob]; exact bl.symm) (by decide) (by rw [ob,List.drop_zero,List.take_of_length_le (by show (bs l).length≤_; omega)]) (.inr (by rw [ob]))
 refine ⟨ne,by decide,callW_some (t_lof (hx _) (by omega)) (fun _ => rfl) ?_⟩
 simp only [go_sem,one_wd,num_ne,num_take,wd_length,num_splice]
 exact leave_drop rfl
theorem base_on:onRaw (48439561293906451759052585252797914202762949526041747995844080717082404635286:Nat) (36134250956749795798585127919587881956611106672985015071877198253568414405109:Nat) false=true:=by decide +kernel
end Go.Proofs.YtgfploghjpbcaaaGreat.Eng

