/- Layer 7: the laws SignSigns, SignVerifies. -/
import Derived.Test.YtgfploghjpbcaaaGreatMSp
namespace Go.Proofs.YtgfploghjpbcaaaGreat.Eng
open Go Go.Proofs
set_option linter.unusedVariables false
set_option linter.unusedSimpArgs false
set_option maxRecDepth 10000
theorem t_SignVerifies {H:AH} {x y r s:Nat} {f:Bool} {h:List UInt8} (hx:x<(18446744073709551616:Nat)^4) (hy:y<(18446744073709551616:Nat)^4) (hr:r<(18446744073709551616:Nat)^4) (hs:s<(18446744073709551616:Nat)^4) (hh:h.length=32):Called Tryz.prog F.clapperlaw07_SignVerifies [.agg (pcell x y f),.agg (bs h),.agg (sgc r s)] H (Bl true) H:=by
 obtain ⟨ne,bl,bt⟩:=bs32_ne hh
 refine e_clapperlaw07_SignVerifies ?_
 simp only [ic_clapperlaw07_SignVerifies,go_sem,pc_one,pc_ne,one_bs,ne,sg_one,sg_ne]
 refine callW_some t_up07 (fun _ => rfl) ?_
 simp only [go_sem,pc_len,pc_take,bl,bt,sg_len,sg_take]
 refine callG_of (fun _ => t_Verify hx hy hr hs hh) ?_
 simp only [go_sem,pc_len,pc_take,bl,bt,sg_len,sg_take]
 refine callG_of (fun _ => r_Verify hx hy hr hs hh) ?_
 generalize verB x y f h r s=b
 simp only [go_sem]
 exact leave_drop (by cases b <;> rfl)
theorem sg_eq {r s r' s':Nat} (hr:r<(18446744073709551616:Nat)^4) (hs:s<(18446744073709551616:Nat)^4) (hr':r'<(18446744073709551616:Nat)^4) (hs':s'<(18446744073709551616:Nat)^4):aggEq (.agg (sgc r s)) (.agg (sgc r' s'))=(decide (r=r')&&decide (s=s')):=by
 show cellsEq _ _=_
 rw [cellsEq_append _ _ (by rw [wd_length,wd_length]),cells_wd,cells_wd,Nat.mod_eq_of_lt hr,Nat.mod_eq_of_lt hr',Nat.mod_eq_of_lt hs,Nat.mod_eq_of_lt hs']
theorem sg_ok (r s r' s':Nat):aggEqOk [some .u64,some .u64,some .u64,some .u64,some .u64,some .u64,some .u64,some .u64] (.agg (sgc r s)) (.agg (sgc r' s'))=True:=by
 simp [aggEqOk,wd,dig,kindOf]
theorem sigS_lt {d:Nat} {h:List UInt8} {r s:Nat} (e:signS d h=some (r,s)):maySc r=true∧maySc s=true:=by
 rw [signS] at e
 split at e
 ·cases e
 ·rw [Option.map_eq_some_iff] at e
  obtain ⟨k,h1,h2⟩:=e
  have:=List.find?_some h1
  rw [goodS,Bool.and_eq_true] at this
  cases h2
  exact this
theorem t_SignSigns {H:AH} {d:Nat} {h:List UInt8} (hd:d<(18446744073709551616:Nat)^4) (hh:h.length=32):Called Tryz.prog F.clapperlaw07_SignSigns [.agg (num d),.agg (bs h)] H (Bl true) H:=by
 obtain ⟨ne,bl,bt⟩:=bs32_ne hh
 have n4:∀ a,(num a).length=4:=fun a => wd_length _ _
 have sn:∀ a b,splice (num a) 0 (num b)=num b:=fun a b => splice_all (by rw [n4,n4])
 have e4:[Z0,Z0,Z0,Z0]=num 0:=rfl
 have e84:Z0::Z0::Z0::Z0::num 0=sgc 0 0:=rfl
 have ez:[Z0,Z0,Z0,Z0,Z0,Z0,Z0,Z0,Bl false]=pcell 0 0 false:=rfl
 have z4:(0:Nat)<(18446744073709551616:Nat)^4:=by decide
 have ht:=fun (G:AH) => t_Sign (H:=G) hd hh
 have hp:=fun (G:AH) => t_Public (H:=G) hd
 have hr:=fun (G:AH) => r_Sign (H:=G) hd hh
 refine e_clapperlaw07_SignSigns ?_
 simp only [ic_clapperlaw07_SignSigns,go_sem,one_wd,num_ne,one_bs,ne]
 refine callW_some t_up07 (fun _ => rfl) ?_
 simp only [go_sem,n4,num_take,bl,bt]
 refine callW_some (hp _) (fun _ => rfl) ?_
 cases hm:maySc d
 ·rw [hm] at ht
  simp only [go_sem,n4,num_take,bl,bt,ez,pc_take,pc_len,pc_one,pc_spl0]
  refine callW_some (ht _) (fun _ => rfl) ?_
  simp only [go_sem,n4,num_take,bl,bt,ez,e4,e84,pc_take,pc_len,pc_one,pc_spl0,sg_one,sg_spl,sg_take,sg_len]
  refine callW_some (r_may hd) (fun _ => rfl) ?_
  rw [hm]
  simp only [go_sem,n4,num_take,bl,bt,ez,e4,e84,pc_take,pc_len,pc_one,pc_spl0,sg_one,sg_spl,sg_take,sg_len,fillOk,fillv,pc_ok,sg_ok,pc_eq z4 z4 z4 z4,sg_eq z4 z4 z4 z4]
  exact ⟨rfl,fun _ => rfl,leave_drop rfl⟩
 ·rw [hm,if_pos rfl] at ht
  have on1:=(mulA_eq (k:=d) (toA_on base_on).1).2
  rw [show toA (48439561293906451759052585252797914202762949526041747995844080717082404635286:Nat) (36134250956749795798585127919587881956611106672985015071877198253568414405109:Nat) false=baseA from rfl] at on1
  obtain ⟨v1,v2,v3,v4⟩:=on_raw on1
  have hq:=fun (G:AH) => r_Public (H:=G) hd
  have hsl:=fun {r s:Nat} (e:signS d h=some (r,s)) => sigS_lt e
  generalize mulA d baseA=A at *
  simp only [go_sem,n4,num_take,bl,bt,ez,ptc,pc_take,pc_len,pc_one,pc_spl0]
  refine callW_some (ht _) (fun _ => rfl) ?_
  cases hS:signS d h with
  | none =>
   rw [hS] at hr
   simp only [sigV,go_sem,n4,num_take,bl,bt,ez,e4,e84,pc_take,pc_len,pc_one,pc_spl0,sg_one,sg_spl,sg_take,sg_len]
   refine callW_some (r_may hd) (fun _ => rfl) ?_
   rw [hm]
   simp only [go_sem,n4,num_take,bl,bt,ez,e4,e84,pc_take,pc_len,pc_one,pc_spl0,sg_one,sg_spl,sg_take,sg_len]
   refine callW_some (hr _) (fun _ => rfl) ?_
   simp only [sigR,go_sem,n4,num_take,bl,bt,ez,e4,e84,pc_take,pc_len,pc_one,pc_spl0,sg_one,sg_spl,sg_take,sg_len,fillOk,fillv,sg_ok,sg_eq z4 z4 z4 z4]
   exact ⟨rfl,leave_drop rfl⟩
  | some rs =>
   obtain ⟨r,s⟩:=rs
   obtain ⟨m1,m2⟩:=hsl hS
   have l1:=may_lt m1
   have l2:=may_lt m2
   rw [hS] at hr
   simp only [sigV,go_sem,n4,num_take,bl,bt,ez,e4,e84,pc_take,pc_len,pc_one,pc_spl0,sg_one,sg_spl,sg_take,sg_len]
   refine callW_some (r_may hd) (fun _ => rfl) ?_
   rw [hm]
   simp only [go_sem,n4,num_take,bl,bt,ez,e4,e84,pc_take,pc_len,pc_one,pc_spl0,sg_one,sg_spl,sg_take,sg_len]
   refine callW_some (hr _) (fun _ => rfl) ?_
   simp only [sigR,go_sem,n4,num_take,bl,bt,ez,e4,e84,pc_take,pc_len,pc_one,pc_spl0,sg_one,sg_spl,sg_take,sg_len,fillOk,fillv,sg_ok]
   refine callG_of (fun _ => hq _) ?_
   simp only [go_sem,ptc,pc_ok,pc_eq v2 v3 v2 v3]
   have e8:=sg_len r s
   rw [List.length_append] at e8
   have eb:∀ (x y:Nat) (f:Bool),((x == x&&(y == y&&f == f))&&(decide (r=r)&&decide (s=s)))=true:=fun x y f => by simp
   rw [sg_take,sg_eq l1 l2 l1 l2,eb]
   exact ⟨fun _ => by omega,fun _ => by omega,fun _ => by rw [sg_ok]; trivial,leave_drop rfl⟩
end Go.Proofs.YtgfploghjpbcaaaGreat.Eng

