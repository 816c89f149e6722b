/- Layer 7: the laws SignHolds, SignTurns. -/
import Derived.Test.YtgfploghjpbcaaaMSp
namespace Go.Proofs.Ytgfploghjpbcaaa.Eng
open Go Go.Proofs
set_option linter.unusedVariables false
set_option linter.unusedSimpArgs false
set_option maxRecDepth 10000
theorem verB_off {x y:Nat} {f:Bool} {h:List UInt8} {r s:Nat} (ho:onRaw x y f=false):verB x y f h r s=false:=by
 rw [verB,ho]; rfl
theorem verB_on {x y:Nat} {f:Bool} {h:List UInt8} {r s:Nat} (ho:onRaw x y f=true):verB x y f h r s=verS (toA x y f) h r s:=by
 have on1:onP (toA x y f):=(toA_on ho).1
 have ef:(toA x y f).isFar=f:=by cases f <;> rfl
 have em:∀ t,fmul (115792089210356248762697446949407573529996955224135760342422259061068512044369:Nat) (be h%(115792089210356248762697446949407573529996955224135760342422259061068512044369:Nat)) t=fmul (115792089210356248762697446949407573529996955224135760342422259061068512044369:Nat) (be h) t:=fun t => fmul_modN _ _
 rw [verB,verS,ho,ef,em]
 simp only [on1,decide_true,Bool.true_and]
 generalize aadd (115792089210356248762697446949407573530086143415290314195533631308867097853951:Nat) (mulA (fmul (115792089210356248762697446949407573529996955224135760342422259061068512044369:Nat) (be h) (minv (115792089210356248762697446949407573529996955224135760342422259061068512044369:Nat) s)) baseA) (mulA (fmul (115792089210356248762697446949407573529996955224135760342422259061068512044369:Nat) r (minv (115792089210356248762697446949407573529996955224135760342422259061068512044369:Nat) s)) (toA x y f))=p
 have e:decide (p.x%(115792089210356248762697446949407573529996955224135760342422259061068512044369:Nat)=r)=(p.x%(115792089210356248762697446949407573529996955224135760342422259061068512044369:Nat) == r):=by
  rw [Bool.eq_iff_iff,decide_eq_true_eq,beq_iff_eq]
 rw [e]
theorem verB_turn {x y:Nat} {f:Bool} {h:List UInt8} {r s:Nat} (hs:maySc s=true):verB x y f h r ((115792089210356248762697446949407573529996955224135760342422259061068512044369:Nat) - s)=verB x y f h r s:=by
 cases ho:onRaw x y f
 ·rw [verB_off ho,verB_off ho]
 ·rw [verB_on ho,verB_on ho]; exact sign_turns hs
theorem verB_may {x y:Nat} {f:Bool} {h:List UInt8} {r s:Nat} (hs:maySc s=false):verB x y f h r s=false:=by
 rw [verB,hs,Bool.and_false,Bool.false_and]
theorem signS_holds {d:Nat} {h:List UInt8} {r s:Nat} (hd:maySc d=true) (e:signS d h=some (r,s)):verB (mulA d baseA).x (mulA d baseA).y (mulA d baseA).isFar h r s=true:=by
 rw [signS] at e
 split at e
 ·cases e
 ·rw [Option.map_eq_some_iff] at e
  obtain ⟨k,h1,h2⟩:=e
  have hg:=List.find?_some h1
  have hk:=candS_mem d (be h%(115792089210356248762697446949407573529996955224135760342422259061068512044369:Nat)) 16 100 k (List.mem_of_find?_eq_some h1)
  cases h2
  obtain ⟨o1,o2,o3,o4⟩:=on_raw (mulA_on baseP_on d)
  rw [verB_on o1,o4]
  exact sign_holds hd hk hg
theorem sg_eq {r s r' s':Nat} (hr:r<(18446744073709551616:Nat)^4) (hs:s<(18446744073709551616:Nat)^4) (hr':r'<(18446744073709551616:Nat)^4) (hs':s'<(18446744073709551616:Nat)^4):aggEq (.agg (sgc r s)) (.agg (sgc r' s'))=(decide (r=r')&&decide (s=s')):=by
 show cellsEq _ _=_
 rw [cellsEq_append _ _ (by rw [wd_length,wd_length]),cells_wd,cells_wd,Nat.mod_eq_of_lt hr,Nat.mod_eq_of_lt hr',Nat.mod_eq_of_lt hs,Nat.mod_eq_of_lt hs']
theorem sg_ok (r s r' s':Nat):aggEqOk [some .u64,some .u64,some .u64,some .u64,some .u64,some .u64,some .u64,some .u64] (.agg (sgc r s)) (.agg (sgc r' s'))=True:=by
 simp [aggEqOk,wd,dig,kindOf]
theorem sigS_lt {d:Nat} {h:List UInt8} {r s:Nat} (e:signS d h=some (r,s)):maySc r=true∧maySc s=true:=by
 rw [signS] at e
 split at e
 ·cases e
 ·rw [Option.map_eq_some_iff] at e
  obtain ⟨k,h1,h2⟩:=e
  have:=List.find?_some h1
  rw [goodS,Bool.and_eq_true] at this
  cases h2
  exact this
theorem t_SignHolds {H:AH} {d:Nat} {h:List UInt8} (hd:d<(18446744073709551616:Nat)^4) (hh:h.length=32):Called Try.prog F.clapperlaw07_SignHolds [.agg (num d),.agg (bs h)] H (Bl true) H:=by
 obtain ⟨ne,bl,bt⟩:=bs32_ne hh
 have n4:∀ a,(num a).length=4:=fun a => wd_length _ _
 have e4:[Z0,Z0,Z0,Z0]=num 0:=rfl
 have e84:Z0::Z0::Z0::Z0::num 0=sgc 0 0:=rfl
 have ez:[Z0,Z0,Z0,Z0,Z0,Z0,Z0,Z0,Bl false]=pcell 0 0 false:=rfl
 have z4:(0:Nat)<(18446744073709551616:Nat)^4:=by decide
 have ht:=fun (G:AH) => t_Sign (H:=G) hd hh
 have hp:=fun (G:AH) => t_Public (H:=G) hd
 refine e_clapperlaw07_SignHolds ?_
 simp only [ic_clapperlaw07_SignHolds,go_sem,one_wd,num_ne,one_bs,ne]
 refine callW_some t_up07 (fun _ => rfl) ?_
 simp only [go_sem,n4,num_take,bl,bt]
 refine callW_some (hp _) (fun _ => rfl) ?_
 cases hm:maySc d
 ·rw [hm] at ht
  simp only [go_sem,n4,num_take,bl,bt,ez,pc_take,pc_len,pc_one,pc_spl0]
  refine callW_some (ht _) (fun _ => rfl) ?_
  simp only [go_sem,n4,num_take,bl,bt,ez,e4,e84,pc_take,pc_len,pc_one,pc_spl0,sg_one,sg_spl,sg_take,sg_len,fillOk,fillv,sg_ok,sg_eq z4 z4 z4 z4]
  exact leave_drop rfl
 ·rw [hm,if_pos rfl] at ht
  have hv:=fun {r s:Nat} (e:signS d h=some (r,s)) => signS_holds hm e
  have hnf:=isFar_false (base_mul_nf hm)
  obtain ⟨v1,v2,v3,v4⟩:=on_raw (mulA_on baseP_on d)
  generalize mulA d baseA=A at *
  simp only [go_sem,n4,num_take,bl,bt,ez,ptc,pc_take,pc_len,pc_one,pc_spl0]
  refine callW_some (ht _) (fun _ => rfl) ?_
  cases hS:signS d h with
  | none =>
   simp only [sigV,go_sem,n4,num_take,bl,bt,ez,e4,e84,pc_take,pc_len,pc_one,pc_spl0,sg_one,sg_spl,sg_take,sg_len,fillOk,fillv,sg_ok,sg_eq z4 z4 z4 z4]
   exact leave_drop rfl
  | some rs =>
   obtain ⟨r,s⟩:=rs
   obtain ⟨m1,m2⟩:=sigS_lt hS
   have hv:=hv hS
   simp only [sigV,go_sem,n4,num_take,bl,bt,ez,e4,e84,pc_take,pc_len,pc_one,pc_spl0,sg_one,sg_spl,sg_take,sg_len]
   refine callG_of (fun _ => t_Verify v2 v3 (may_lt m1) (may_lt m2) hh) ?_
   rw [hv]
   simp only [go_sem,pc_take,pc_len]
   refine callG_of (fun _ => t_On v2 v3) ?_
   rw [v1]
   simp only [go_sem,pc_len,pc_f,hnf]
   exact leave_drop rfl
theorem t_SignTurns {H:AH} {x y r s:Nat} {f:Bool} {h:List UInt8} (hx:x<(18446744073709551616:Nat)^4) (hy:y<(18446744073709551616:Nat)^4) (hr:r<(18446744073709551616:Nat)^4) (hs:s<(18446744073709551616:Nat)^4) (hh:h.length=32):Called Try.prog F.clapperlaw07_SignTurns [.agg (pcell x y f),.agg (bs h),.agg (sgc r s)] H (Bl true) H:=by
 obtain ⟨ne,bl,bt⟩:=bs32_ne hh
 have n4:∀ a,(num a).length=4:=fun a => wd_length _ _
 have sn:∀ a b,splice (num a) 0 (num b)=num b:=fun a b => splice_all (by rw [n4,n4])
 have e4:[Z0,Z0,Z0,Z0]=num 0:=rfl
 have e84:Z0::Z0::Z0::Z0::num 0=sgc 0 0:=rfl
 have s1:(sgc r s).take 4=num r:=List.take_left' (wd_length _ _)
 have s2:((sgc r s).drop 4).take 4=num s:=by rw [List.drop_left' (wd_length _ _),num_take]
 have hN:(115792089210356248762697446949407573529996955224135760342422259061068512044369:Nat)<(18446744073709551616:Nat)^4:=mo_N.lt
 refine e_clapperlaw07_SignTurns ?_
 simp only [ic_clapperlaw07_SignTurns,go_sem,pc_one,pc_ne,one_bs,ne,sg_one,sg_ne]
 refine callW_some t_up07 (fun _ => rfl) ?_
 simp only [go_sem,sg_len,s2]
 refine callW_some (r_may hs) (fun _ => rfl) ?_
 cases hm:maySc s
 ·simp only [go_sem,pc_len,pc_take,bl,bt,sg_len,sg_take]
  refine callG_of (fun _ => t_Verify hx hy hr hs hh) ?_
  rw [verB_may hm]
  simp only [go_sem]
  exact leave_drop rfl
 ·have ms:=(maySc_iff s).1 hm
  simp only [go_sem,pc_len,pc_take,bl,bt,sg_len,sg_take]
  refine callW_some ⟨rfl,fun G => t_N⟩ (fun _ => rfl) ?_
  simp only [go_sem,sg_len,s2]
  refine callW_some ⟨rfl,fun G => r_lsub hN (by omega)⟩ (fun _ => rfl) ?_
  have hv:=verB_turn (x:=x) (y:=y) (f:=f) (h:=h) (r:=r) hm
  have hz:(115792089210356248762697446949407573529996955224135760342422259061068512044369:Nat) - s<(18446744073709551616:Nat)^4:=by omega
  have tv:=fun (G:AH) => t_Verify (H:=G) (f:=f) hx hy hr hz hh
  rw [hv] at tv
  have tw:=fun (G:AH) => t_Verify (H:=G) (f:=f) hx hy hr hs hh
  clear hv
  generalize (115792089210356248762697446949407573529996955224135760342422259061068512044369:Nat) - s=z at *
  generalize verB x y f h r s=b at *
  simp only [go_sem,pc_len,pc_take,bl,bt,sg_len,sg_take,one_wd,num_take,n4,e4,e84,sn]
  refine callG_of (fun _ => tw _) ?_
  simp only [go_sem,pc_len,pc_take,bl,bt,sg_len,sg_take,s1,one_wd,num_take,n4,e4,e84,sn,fillOk,fillv,sg_spl0,sg_spl4]
  refine callG_of (fun _ => tv _) ?_
  simp only [go_sem]
  exact leave_drop (by cases b <;> rfl)
theorem sgB_lo (r s:Nat) (hr:r<(18446744073709551616:Nat)^4):be ((sgB r s).take 32)=r:=by
 rw [sgB,List.take_left' (beN_length 32 r),be_beN]; exact Nat.mod_eq_of_lt (Nat.lt_of_lt_of_le hr (by decide))
theorem sgB_hi (r s:Nat) (hs:s<(18446744073709551616:Nat)^4):be ((sgB r s).drop 32)=s:=by
 rw [sgB,List.drop_left' (beN_length 32 r),be_beN]; exact Nat.mod_eq_of_lt (Nat.lt_of_lt_of_le hs (by decide))
theorem t_SignBytes {H:AH} {x:AV} {r s:Nat} {l:List UInt8} (hr:r<(18446744073709551616:Nat)^4) (hs:s<(18446744073709551616:Nat)^4) (hx:∀ H,Sl 1 H x (bs l) l.length) (hn:l.length≤140737488351232):Called Try.prog F.clapperlaw07_SignBytes [.agg (sgc r s),x] H (Bl true) H:=by
 have e8:[Z0,Z0,Z0,Z0,Z0,Z0,Z0,Z0]=sgc 0 0:=rfl
 have e4:[Z0,Z0,Z0,Z0]=num 0:=rfl
 have e84:Z0::Z0::Z0::Z0::num 0=sgc 0 0:=rfl
 have z4:(0:Nat)<(18446744073709551616:Nat)^4:=by decide
 have n4:∀ a,(num a).length=4:=fun a => wd_length _ _
 refine e_clapperlaw07_SignBytes ?_
 simp only [ic_clapperlaw07_SignBytes,go_sem,sg_one,sg_ne]
 refine callW_some t_up07 (fun _ => rfl) ?_
 simp only [go_sem,sg_len,sg_take]
 refine callW_some (t_sbytes hr hs) (fun _ => rfl) ?_
 simp only [go_sem]
 refine callW_some (t_sparse (Sl.vB (sgB r s) false) (by rw [sgB_len]; decide)) (fun _ => rfl) ?_
 rw [if_pos (sgB_len r s),sgB_lo r s hr,sgB_hi r s hs]
 simp only [go_sem,e4,e84,sg_one,sg_spl,sg_take,sg_len]
 refine callW_some (t_sparse (hx _) (by omega)) (fun _ => rfl) ?_
 have tb:=fun (G:AH) => r_sbytes (H:=G) (r:=r) (s:=s)
 generalize sgB r s=S at *
 by_cases h64:l.length=64
 ·rw [if_pos h64]
  have b1:be (l.take 32)<(18446744073709551616:Nat)^4:=be32_lt (by rw [List.length_take]; omega)
  have b2:be (l.drop 32)<(18446744073709551616:Nat)^4:=be32_lt (by rw [List.length_drop]; omega)
  have s4:(sgc (be (l.take 32)) (be (l.drop 32))).length=8:=sg_len _ _
  have bd1:bndOk l.length none (some (.lit (.int .i64 32))) none:=by
   refine ⟨trivial,trivial,trivial,?_,?_,?_,?_⟩ <;> simp [bnd,asI] <;> omega
  have bd2:bndOk l.length (some (.lit (.int .i64 32))) none none:=by
   refine ⟨trivial,trivial,trivial,?_,?_,?_,?_⟩ <;> simp [bnd,asI] <;> omega
  have k1:=fun G => (hx G).sl bd1
  have k2:=fun G => (hx G).sl bd2
  have c1:cut (bs l) 1 (lo0 none) (hi0 l.length (some (.lit (.int .i64 32))))=bs (l.take 32):=cutb_lo l 32
  have c2:cut (bs l) 1 (lo0 (some (.lit (.int .i64 32)))) (hi0 l.length none)=bs (l.drop 32):=cutb_hi l 32
  have n1:hi0 l.length (some (.lit (.int .i64 32))) - lo0 none=(l.take 32).length:=by rw [List.length_take]; show 32 - 0=_; omega
  have n2:hi0 l.length none - lo0 (some (.lit (.int .i64 32)))=(l.drop 32).length:=by rw [List.length_drop]; rfl
  rw [c1,n1] at k1
  rw [c2,n2] at k2
  have lt1:(l.take 32).length≤32:=by rw [List.length_take]; omega
  have lt2:(l.drop 32).length≤32:=by rw [List.length_drop]; omega
  simp only [go_sem,e4,e84,sg_one,sg_spl,sg_take,sg_len,b2sOk_vB,b2sV_vB]
  refine callW_some (tb _) (fun _ => rfl) ?_
  simp only [go_sem,e4,e84,sg_one,sg_spl,sg_take,sg_len,b2sOk_vB,b2sV_vB,beq_self_eq_true,(hx []).s]
  have z:((l.length:Int) != 64)=false:=by rw [h64]; rfl
  simp only [go_sem,sg_ok,sg_eq hr hs hr hs,(hx []).s,z]
  refine ⟨(hx _).slOk bd1,callG_of (fun _ => r_Of (k1 _) lt1) ?_⟩
  simp only [go_sem,(hx []).s]
  refine ⟨(hx _).slOk bd2,callG_of (fun _ => r_Of (k2 _) lt2) ?_⟩
  generalize be (l.take 32)=a at *
  generalize be (l.drop 32)=c at *
  simp only [go_sem,fillOk,fillv,e4,e84,n4,one_wd,sg_spl0,sg_spl4,sg_one,sg_spl,sg_take,sg_len,sg_ok,sg_eq b1 b2 b1 b2]
  exact leave_drop rfl
 ·rw [if_neg h64]
  simp only [go_sem,e4,e84,sg_one,sg_spl,sg_take,sg_len,b2sOk_vB,b2sV_vB]
  refine callW_some (tb _) (fun _ => rfl) ?_
  have z:((l.length:Int) != 64)=true:=by simp; omega
  simp only [go_sem,e4,e84,sg_one,sg_spl,sg_take,sg_len,b2sOk_vB,b2sV_vB,beq_self_eq_true,(hx []).s,z]
  simp only [go_sem,e4,e84,sg_ok,sg_eq hr hs hr hs,(hx []).s,z,fillOk,fillv,sg_eq z4 z4 z4 z4]
  exact ⟨rfl,leave_drop rfl⟩
end Go.Proofs.Ytgfploghjpbcaaa.Eng

