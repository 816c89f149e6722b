/- Layer 7: a secret's key; a signature with a nonce: the program's walks. -/
import Derived.Test.YtgfploghjpbcaaaMMa
import Derived.Test.YtgfploghjpbcaaaMTk
import Derived.Test.YtgfploghjpbcaaaMRf
namespace Go.Proofs.Ytgfploghjpbcaaa.Eng
open Go Go.Proofs
set_option linter.unusedVariables false
set_option linter.unusedSimpArgs false
set_option maxRecDepth 10000
theorem may_lt {a:Nat} (h:maySc a=true):a<(18446744073709551616:Nat)^4:=Nat.lt_trans ((maySc_iff a).1 h).2 mo_N.lt
theorem pc_spl0 (x y:Nat) (f:Bool):splice (pcell 0 0 false) 0 (pcell x y f)=pcell x y f:=splice_all (by rw [pc_len,pc_len])
theorem t_Public {H:AH} {d:Nat} (hd:d<(18446744073709551616:Nat)^4):Called Try.prog F.sign_Public [.agg (num d)] H (if maySc d then .tup [.agg (ptc (mulA d baseA)),nilE] else .tup [.agg (pcell 0 0 false),errA 1]) H:=by
 refine e_sign_Public ?_
 simp only [ic_sign_Public,go_sem,one_wd,num_ne,num_take,wd_length,fillOk,fillv]
 refine callW_some (t_may hd) (fun _ => rfl) ?_
 have ez:[Z0,Z0,Z0,Z0,Z0,Z0,Z0,Z0,Bl false]=pcell 0 0 false:=rfl
 simp only [go_sem,one_wd,num_ne,num_take,wd_length,fillOk,fillv,ez,pc_take,pc_len,pc_one,pc_spl0]
 refine ⟨fun hb => ?_,fun hb => ?_⟩
 ·have hb:maySc d=false:=by simpa using hb
  rw [hb]
  exact leave_drop rfl
 ·have hb:maySc d=true:=by simpa using hb
  rw [if_pos hb]
  refine callW_some t_base (fun _ => rfl) ?_
  simp only [go_sem,one_wd,num_ne,num_take,wd_length,pc_take,pc_len,pc_one,pc_spl0]
  refine callW_some (t_pmul hd (by decide) (by decide) base_on) (fun _ => rfl) ?_
  rw [show toA (48439561293906451759052585252797914202762949526041747995844080717082404635286:Nat) (36134250956749795798585127919587881956611106672985015071877198253568414405109:Nat) false=baseA from rfl]
  generalize mulA d baseA=A
  simp only [go_sem,ptc,pc_take,pc_len,pc_one,pc_spl0]
  exact leave_drop rfl
theorem sg_spl0 (a c r:Nat):splice (sgc a c) 0 (num r)=sgc r c:=by
 show (num a++num c).take 0++num r++(num a++num c).drop (0+(num r).length)=_
 rw [wd_length,List.take_zero,List.nil_append,Nat.zero_add,List.drop_left' (wd_length 4 a)]
theorem sg_spl4 (a c s:Nat):splice (sgc a c) 4 (num s)=sgc a s:=by
 show (num a++num c).take 4++num s++(num a++num c).drop (4+(num s).length)=_
 rw [wd_length,List.take_left' (wd_length 4 a),List.drop_of_length_le (by rw [List.length_append,wd_length,wd_length]; decide),List.append_nil]
theorem t_with {H:AH} {p d k m:Nat} (hF:FF H p (115792089210356248762697446949407573529996955224135760342422259061068512044369:Nat)) (hd:d<(18446744073709551616:Nat)^4) (hk:maySc k=true) (hm:m<(18446744073709551616:Nat)^4):Called Try.prog F.sign_with [.ptr p 0,.agg (num d),.agg (num k),.agg (num m)] H (.tup [.agg (sgc (rOf k) (sOf d k m)),Bl (goodS d m k)]) H:=by
 have hN:(115792089210356248762697446949407573529996955224135760342422259061068512044369:Nat)<(18446744073709551616:Nat)^4:=mo_N.lt
 have hN0:0<(115792089210356248762697446949407573529996955224135760342422259061068512044369:Nat):=by decide
 have hk4:=may_lt hk
 have ks:=(maySc_iff k).1 hk
 have kg:Nat.gcd (k%(115792089210356248762697446949407573529996955224135760342422259061068512044369:Nat)) (115792089210356248762697446949407573529996955224135760342422259061068512044369:Nat)=1:=prm_gcd (p:=(115792089210356248762697446949407573529996955224135760342422259061068512044369:Nat)) prm_N (by rw [Nat.mod_mod,Nat.mod_eq_of_lt ks.2]; omega)
 have ti:=fun G => t_inv (H:=H++G) (hF.app (G:=G)).fd hN mo_N.gt mo_N.odd hk4
 rw [if_pos kg,Nat.mod_eq_of_lt ks.2] at ti
 have ki:minv (115792089210356248762697446949407573529996955224135760342422259061068512044369:Nat) k<(18446744073709551616:Nat)^4:=by
  obtain ⟨y,h1,h2⟩:=prm_inv (p:=(115792089210356248762697446949407573529996955224135760342422259061068512044369:Nat)) prm_N ks.1 ks.2
  rw [minv_eq h1 h2]; exact Nat.lt_trans h1 hN
 have ez:[Z0,Z0,Z0,Z0,Z0,Z0,Z0,Z0,Bl false]=pcell 0 0 false:=rfl
 have e8:[Z0,Z0,Z0,Z0,Z0,Z0,Z0,Z0]=sgc 0 0:=rfl
 have e4:[Z0,Z0,Z0,Z0]=num 0:=rfl
 have n4:∀ a,(num a).length=4:=fun a => wd_length _ _
 have sn:∀ a b,splice (num a) 0 (num b)=num b:=fun a b => splice_all (by rw [n4,n4])
 refine e_sign_with ?_
 simp only [ic_sign_with,go_sem,one_wd,num_ne,num_take,n4]
 have tb:=fun G => t_base (H:=H++G)
 refine callW_some ⟨rfl,fun G => t_base⟩ (fun _ => rfl) ?_
 simp only [go_sem,one_wd,num_ne,num_take,n4]
 refine callW_some ⟨rfl,fun G => t_pmul hk4 (by decide) (by decide) base_on⟩ (fun _ => rfl) ?_
 rw [show toA (48439561293906451759052585252797914202762949526041747995844080717082404635286:Nat) (36134250956749795798585127919587881956611106672985015071877198253568414405109:Nat) false=baseA from rfl]
 have on1:=(mulA_eq (k:=k) (toA_on base_on).1).2
 rw [show toA (48439561293906451759052585252797914202762949526041747995844080717082404635286:Nat) (36134250956749795798585127919587881956611106672985015071877198253568414405109:Nat) false=baseA from rfl] at on1
 have er:rOf k=(mulA k baseA).x%(115792089210356248762697446949407573529996955224135760342422259061068512044369:Nat):=rfl
 have es:sOf d k m=fmul (115792089210356248762697446949407573529996955224135760342422259061068512044369:Nat) (minv (115792089210356248762697446949407573529996955224135760342422259061068512044369:Nat) k) (fadd (115792089210356248762697446949407573529996955224135760342422259061068512044369:Nat) m (fmul (115792089210356248762697446949407573529996955224135760342422259061068512044369:Nat) (rOf k) d)):=rfl
 rw [goodS,es]
 generalize rOf k=r at *
 generalize mulA k baseA=A at *
 obtain ⟨v1,v2,v3,v4⟩:=on_raw on1
 simp only [go_sem,ptc,one_wd,num_ne,num_take,n4,ez,pc_take,pc_len,pc_one,pc_spl0,pc_x]
 have e84:Z0::Z0::Z0::Z0::num 0=sgc 0 0:=rfl
 simp only [e4,e84]
 have hF':∀ G,FF (H++G) p (115792089210356248762697446949407573529996955224135760342422259061068512044369:Nat):=fun G => hF.app
 have ef:fadd (115792089210356248762697446949407573529996955224135760342422259061068512044369:Nat) A.x 0=A.x%(115792089210356248762697446949407573529996955224135760342422259061068512044369:Nat):=by rw [fadd,Nat.add_zero]
 have tf:=fun G => t_fadd (hF' G).fd hN hN0 v2 (show 0<(18446744073709551616:Nat)^4 by decide)
 rw [ef,← er] at tf
 refine callW_some (tf _) (fun _ => rfl) ?_
 have rlt:r<(18446744073709551616:Nat)^4:=by rw [er]; exact Nat.lt_trans (Nat.mod_lt _ hN0) hN
 clear tf ef er
 simp only [go_sem,one_wd,num_ne,num_take,n4,sn,e4]
 refine callW_some (ti _) (fun _ => rfl) ?_
 clear ti
 generalize minv (115792089210356248762697446949407573529996955224135760342422259061068512044369:Nat) k=t at *
 simp only [go_sem,one_wd,num_ne,num_take,n4,sn,e4]
 refine callW_some ⟨rfl,fun G => t_fmul ((hF' _).app) mo_N rlt hd⟩ (fun _ => rfl) ?_
 have l1:fmul (115792089210356248762697446949407573529996955224135760342422259061068512044369:Nat) r d<(18446744073709551616:Nat)^4:=Nat.lt_trans (fmul_lt hN0 r d) hN
 generalize fmul (115792089210356248762697446949407573529996955224135760342422259061068512044369:Nat) r d=a at *
 simp only [go_sem,one_wd,num_ne,num_take,n4,sn,e4]
 refine callW_some ⟨rfl,fun G => t_fadd ((hF' _).app).fd hN hN0 hm l1⟩ (fun _ => rfl) ?_
 have l2:fadd (115792089210356248762697446949407573529996955224135760342422259061068512044369:Nat) m a<(18446744073709551616:Nat)^4:=Nat.lt_trans (fadd_lt hN0 m a) hN
 generalize fadd (115792089210356248762697446949407573529996955224135760342422259061068512044369:Nat) m a=c at *
 simp only [go_sem,one_wd,num_ne,num_take,n4,sn,e4]
 refine callW_some ⟨rfl,fun G => t_fmul ((hF' _).app) mo_N ki l2⟩ (fun _ => rfl) ?_
 have l3:fmul (115792089210356248762697446949407573529996955224135760342422259061068512044369:Nat) t c<(18446744073709551616:Nat)^4:=Nat.lt_trans (fmul_lt hN0 t c) hN
 generalize fmul (115792089210356248762697446949407573529996955224135760342422259061068512044369:Nat) t c=s at *
 simp only [go_sem,one_wd,num_ne,num_take,n4,sn,e4,e84,fillOk,fillv,sg_spl0,sg_spl4,sg_len]
 refine callG_of (fun _ => t_may rlt) ?_
 simp only [go_sem,num_take,n4]
 refine callG_of (fun _ => t_may l3) ?_
 simp only [go_sem,one_wd,num_ne,num_take,n4,sn,e4,e84,fillOk,fillv,sg_spl0,sg_spl4,sg_len,sg_one,sg_spl]
 rw [sg_take]
 generalize (maySc r&&maySc s)=b
 exact leave_drop (by simp only [low,lowL,lowL_sg])
set_option maxRecDepth 10000
noncomputable def sigV:Option (Nat × Nat)→AV
 | some (r,s) => .tup [.agg (sgc r s),nilE]
 | none => .tup [.agg (sgc 0 0),errA 4]
theorem signS_find (d:Nat) (h:List UInt8):signS d h=if (candS d (be h%(115792089210356248762697446949407573529996955224135760342422259061068512044369:Nat)) 16 100).length<16 then none else ((candS d (be h%(115792089210356248762697446949407573529996955224135760342422259061068512044369:Nat)) 16 100).find? (goodS d (be h))).map fun k => (rOf k,sOf d k (be h)):=by
 have e:∀ k,sOf d k (be h%(115792089210356248762697446949407573529996955224135760342422259061068512044369:Nat))=sOf d k (be h):=fun k => by
  rw [sOf,sOf]; congr 1
  rw [fadd,fadd,Nat.mod_add_mod]
 have e2:goodS d (be h%(115792089210356248762697446949407573529996955224135760342422259061068512044369:Nat))=goodS d (be h):=funext fun k => by rw [goodS,goodS,e]
 rw [signS,e2]
 simp only [e]
theorem ncs_elt (l:List Nat) {i:Nat} (h:i<l.length):elt (ncs l) 4 i=num (l.getD i 0):=elt_flat num 4 (fun a => wd_length 4 a) l i 0 h
theorem find_at {q:Nat→Bool}:∀ {l:List Nat} {i:Nat},i<l.length→(∀ j,j<i→q (l.getD j 0)=false)→q (l.getD i 0)=true→l.find? q=some (l.getD i 0)
 | [],i,hi,_,_ => by cases hi
 | a::r,0,_,_,h => by
  have h:q a=true:=h
  rw [List.find?_cons_of_pos h]; rfl
 | a::r,i+1,hi,hj,h => by
  have h0:q a=false:=hj 0 (by omega)
  rw [List.find?_cons_of_neg (by rw [h0]; decide)]
  exact find_at (l:=r) (by simpa using hi) (fun j hh => hj (j+1) (by omega)) h
theorem find_no {q:Nat→Bool}:∀ {l:List Nat},(∀ j,j<l.length→q (l.getD j 0)=false)→l.find? q=none
 | [],_ => rfl
 | a::r,hj => by
  have h0:q a=false:=hj 0 (by simp)
  rw [List.find?_cons_of_neg (by rw [h0]; decide)]
  exact find_no (l:=r) fun j hh => hj (j+1) (by simpa using hh)
theorem t_Sign {H:AH} {d:Nat} {h:List UInt8} (hd:d<(18446744073709551616:Nat)^4) (hh:h.length=32):Called Try.prog F.sign_Sign [.agg (num d),.agg (bs h)] H (if maySc d then sigV (signS d h) else .tup [.agg (sgc 0 0),errA 1]) H:=by
 have bl:(bs h).length=32:=by rw [bs_len,hh]
 have ne:(bs h).isEmpty=false:=by
  cases hh:bs h with
  | nil => rw [hh] at bl; cases bl
  | cons => rfl
 have n4:∀ a,(num a).length=4:=fun a => wd_length _ _
 have sn:∀ a b,splice (num a) 0 (num b)=num b:=fun a b => splice_all (by rw [n4,n4])
 have bt:(bs h).take 32=bs h:=List.take_of_length_le (by omega)
 have e8:[Z0,Z0,Z0,Z0,Z0,Z0,Z0,Z0]=sgc 0 0:=rfl
 have e4:[Z0,Z0,Z0,Z0]=num 0:=rfl
 have e84:Z0::Z0::Z0::Z0::num 0=sgc 0 0:=rfl
 refine e_sign_Sign ?_
 simp only [ic_sign_Sign,go_sem,one_wd,num_ne,one_bs,ne]
 refine callW_some t_N (fun _ => rfl) ?_
 simp only [go_sem]
 refine callW_some (t_new mo_N) (fun h => by cases h) ?_
 simp only [go_sem,num_take,n4]
 refine callG_of (fun _ => t_may hd) ?_
 simp only [go_sem,e4,e84,bl,bt,num_take,n4,sg_one,sg_spl,sg_take,sg_len]
 refine ⟨fun hb => ?_,fun hb => ?_⟩
 ·have hb:maySc d=false:=by simpa using hb
  rw [hb]
  exact leave_drop (by simp only [low,lowL,lowL_sg]; rfl)
 ·have hb:maySc d=true:=by simpa using hb
  rw [if_pos hb]
  refine callW_some (t_nlist (many:=16) hd hh (by decide)) (fun _ => rfl) ?_
  rw [if_pos hb,listV,signS_find]
  have cm:=candS_mem d (be h%(115792089210356248762697446949407573529996955224135760342422259061068512044369:Nat)) 16 100
  have cl:=candS_len d (be h%(115792089210356248762697446949407573529996955224135760342422259061068512044369:Nat)) 16 100
  generalize candS d (be h%(115792089210356248762697446949407573529996955224135760342422259061068512044369:Nat)) 16 100=l at *
  by_cases hl:l.length<16
  ·rw [if_pos hl,if_pos hl]
   simp only [go_sem,e4,e84,bl,bt,num_take,n4,sg_one,sg_spl,sg_take,sg_len]
   exact leave_drop (by simp only [low,lowL,lowL_sg]; rfl)
  ·rw [if_neg hl,if_neg hl]
   simp only [go_sem,e4,e84,bl,bt,num_take,n4,sg_one,sg_spl,sg_take,sg_len]
   have hv:∀ G,Sl 4 G (.view (ncs l) l.length false) (ncs l) l.length:=fun G => .view (ncs_len l) _
   have hbe:be h<(18446744073709551616:Nat)^4:=by have:=be_lt h; rw [hh] at this; exact Nat.lt_of_lt_of_le this (by decide)
   have hF:∀ G,FF (H++(⟨num d,0,true⟩::⟨bs h,0,true⟩::⟨sgc 0 0,0,true⟩::⟨fcells (115792089210356248762697446949407573529996955224135760342422259061068512044369:Nat),0,true⟩::G)) (H.length+3) (115792089210356248762697446949407573529996955224135760342422259061068512044369:Nat):=fun G => ⟨by simp,by simp only [go_sem]⟩
   refine w_loop _ (fun (s:Nat × AH) => ([(2,.ptr H.length 0),(3,.ptr (H.length+1) 0),(4,.ptr (H.length+2) 0),(6,.ptr (H.length+3) 0),(37,.view (ncs l) l.length false),(38,I l.length),(39,I s.1)],H++(⟨num d,0,true⟩::⟨bs h,0,true⟩::⟨sgc 0 0,0,true⟩::⟨fcells (115792089210356248762697446949407573529996955224135760342422259061068512044369:Nat),0,true⟩::s.2)))
    (fun s => s.1≤l.length∧∀ j,j<s.1→goodS d (be h) (l.getD j 0)=false) (fun s => l.length - s.1) (0,[]) ⟨Nat.zero_le _,fun j hj => by cases hj⟩ rfl ?_
   rintro ⟨i,G⟩ ⟨hi,hj⟩
   simp only at hi hj
   simp only [go_sem]
   refine ⟨fun hc => ?_,fun hc => ?_⟩
   ·have hlt:i<l.length:=by omega
    have hk:=cm _ (getD_mem' hlt 0)
    have hgd:goodS d (be h) (l.getD i 0)=true→l.find? (goodS d (be h))=some (l.getD i 0):=find_at hlt hj
    have hj2:goodS d (be h) (l.getD i 0)=false→∀ j,j<i+1→goodS d (be h) (l.getD j 0)=false:=fun e j hh => by
     rcases Nat.lt_succ_iff_lt_or_eq.1 hh with h1 | rfl
     ·exact hj j h1
     ·exact e
    simp only [go_sem,(hv _).idx,(hv _).ldOk _ hlt (Nat.le_refl _),(hv _).ldA _ hlt,ncs_elt l hlt,num_take,n4,sn,one_wd,bl,bt,e4]
    generalize l.getD i 0=k at *
    refine ⟨⟨by omega,by omega,ncs_len l⟩,by omega,by omega,callW_some ⟨rfl,fun G => t_number hh⟩ (fun _ => rfl) ?_⟩
    simp only [go_sem,num_take,n4,sn,one_wd,bl,bt,e4]
    refine callW_some ⟨rfl,fun G => t_with ((hF _).app) hd hk hbe⟩ (fun _ => rfl) ?_
    have l4:=fun w => IntKind.i64.wrap w
    have w1:IntKind.i64.wrap ((i:Int)+1)=((i+1:Nat):Int):=by rw [w64 _ (by omega) (by omega)]; omega
    generalize goodS d (be h) k=b at *
    simp only [go_sem,sg_one,sg_spl,sg_take,sg_len,e4,e84]
    refine ⟨fun hb => ?_,fun hb => ?_⟩
    ·rw [hgd hb]
     have es:sigV (Option.map (fun k => (rOf k,sOf d k (be h))) (some k))=.tup [.agg (sgc (rOf k) (sOf d k (be h))),nilE]:=rfl
     rw [es]
     generalize rOf k=r
     generalize sOf d k (be h)=s
     exact ⟨by omega,by omega,leave_drop (by simp only [low,lowL,lowL_sg])⟩
    ·exact ⟨(i+1,G++[⟨num k,0,true⟩,⟨sgc (rOf k) (sOf d k (be h)),0,true⟩]),by rw [w1],rfl,⟨by show i+1≤_; omega,hj2 hb⟩,by show _ - (i+1)<_; omega⟩
   ·obtain rfl:i=l.length:=by omega
    rw [find_no hj]
    exact ⟨⟨by omega,by rw [n4]; decide⟩,by omega,leave_drop rfl⟩
section
variable {sz n m b:Nat} {H:AH} {vs cs:List AV} {s:AV}
theorem build_appN (hl:vs.length=n*sz) (h1:srcOk sz (hA sz H vs n) s) (h2:srcC sz (hA sz H vs n) s=cs) (h3:srcN s=m) (h0:0<m) (hc:cs.all AV.one=true) (hb:(n+m)*b≤140737488355328) :
  appOk sz b (hA sz H vs n) (rA H vs n) s∧appV sz (hA sz H vs n) s (rA H vs n)=rA H (vs++cs) (n+m)∧appH sz (hA sz H vs n) s (rA H vs n)=hA sz H (vs++cs) (n+m):=by
 by_cases hn:n=0
 ·subst hn
  obtain rfl:vs=[]:=List.eq_nil_of_length_eq_zero (by omega)
  simp only [rA,hA,if_true] at *
  refine ⟨⟨h1,by rw [h2]; exact hc,by rw [h3]; simpa [srcN] using hb,trivial⟩,?_,?_⟩
  ·rw [appV_nil,h2,h3,if_neg (by omega),Nat.zero_add]; rfl
  ·rw [appH_nil,h2,if_neg (by omega)]; rfl
 ·simp only [rA,hA,if_neg hn,if_neg (show ¬ n+m=0 by omega)] at *
  refine ⟨⟨h1,by rw [h2]; exact hc,by rw [h3]; exact hb,by simp,by rw [obj_app0]; rfl,by rw [obj_app0]; rfl,by rw [obj_app0]; rfl,by show 0+n*sz≤vs.length; omega,.inl rfl⟩,?_,?_⟩
  ·rw [appV_row,h2,h3,appL_end (by omega),List.length_append]
  ·rw [appH_row,h2,h3,obj_app0,setO_app0]
   show H++[⟨appC sz vs cs 0 n m vs.length,sz,true⟩]=_
   rw [appC_end (by omega)]
theorem leave_row {G:AH} (hn:0<n) (hp:pureL vs=true) (hl:∀ ren K,lowL ren K vs=vs):Leave H (rA (H++G) vs n) (hA sz (H++G) vs n) (.row H.length 0 n vs.length) (H++[⟨vs,sz,true⟩]):=by
 rw [rA,hA,if_neg (by omega),if_neg (by omega),List.append_assoc]
 refine leave_keep [G.length] (by simp) (by simp) ?_ ?_
 ·simp [low,renk_at,List.idxOf?_cons]
 ·simp [lowObj,hl,obj]
end
theorem u8_wr (n:Nat):(AV.lit (.int .u8 (IntKind.u8.wrap (n:Int))))=u8 (UInt8.ofNat n):=by rw [wu8mod,u8_ofNat]
theorem byte_pair {a i:Nat}:a / (65536:Nat)^i%(65536:Nat) / 256%256=a / 256^(2*i+1)%256∧a / (65536:Nat)^i%(65536:Nat)%256=a / 256^(2*i)%256:=by
 have e:(65536:Nat)^i=256^(2*i):=by rw [Nat.pow_mul]
 rw [e,Nat.pow_succ,← Nat.div_div_eq_div_mul]
 generalize a / 256^(2*i)=n
 omega
theorem r_lbytes {H:AH} {a:Nat}:Called Try.prog F.clapperref01_Bytes [.agg (num a)] H (.row H.length 0 32 32) (H++[⟨bs (beN 32 a),1,true⟩]):=by
 refine e_clapperref01_Bytes ?_
 simp only [ic_clapperref01_Bytes,go_sem,one_wd,num_ne,num_take,wd_length]
 refine callW_some (r_parts a) (fun _ => rfl) ?_
 have pl:(pt16 16 a).length=16:=by rw [pt16,List.length_map,dig_length]
 have hv:∀ G,Sl 1 G (.view (pt16 16 a) 16 false) (pt16 16 a) 16:=fun G => .view (by rw [pl]) _
 simp only [go_sem]
 have tl:∀ j,j≤16→(bs ((beN 32 a).take (2*j))).length=2*j*1:=fun j hj => by rw [bs_len,List.length_take,beN_length]; omega
 refine w_loop _ (fun (j:Nat) => ([(3,.view (pt16 16 a) 16 false),(4,rA (H++[⟨num a,0,true⟩]) (bs ((beN 32 a).take (2*j))) (2*j)),(5,I (15 - (j:Int)))],hA 1 (H++[⟨num a,0,true⟩]) (bs ((beN 32 a).take (2*j))) (2*j))) (fun j => j≤16) (fun j => 16 - j) 0 (Nat.zero_le _) rfl ?_
 intro j hj
 have hs:=build_sl (H:=H++[⟨num a,0,true⟩]) (tl j hj)
 simp only [go_sem]
 refine ⟨fun hh => ?_,fun hh => ?_⟩
 ·have hlt:j<16:=by omega
  have ei:(15:Int) - (j:Int)=((15 - j:Nat):Int):=by omega
  have w1:IntKind.i64.wrap (((15 - j:Nat):Int) - 1)=15 - ((j+1:Nat):Int):=by rw [w64 _ (by omega) (by omega)]; omega
  have hd:a / (65536:Nat)^(15 - j)%(65536:Nat)<65536:=Nat.mod_lt _ (by decide)
  obtain ⟨b1,b2⟩:=byte_pair (a:=a) (i:=15 - j)
  have ee:elt (pt16 16 a) 1 (15 - j)=[I ((a / (65536:Nat)^(15 - j)%(65536:Nat):Nat):Int)]:=by
   rw [← pt_get (k:=16) (n:=a) (show 15 - j<16 by omega)]
   simp only [elt,Nat.mul_one]
   rw [List.drop_eq_getElem_cons (by omega),List.take_succ_cons,List.take_zero,List.getD_eq_getElem?_getD,List.getElem?_eq_getElem (by omega)]; rfl
  have q1:IntKind.i64.wrap (((a / (65536:Nat)^(15 - j)%(65536:Nat):Nat):Int).tdiv 256)=((a / (65536:Nat)^(15 - j)%(65536:Nat) / 256:Nat):Int):=by rw [Int.tdiv_eq_ediv_of_nonneg (by omega),w64 _ (by omega) (by omega)]; omega
  have q2:((a / (65536:Nat)^(15 - j)%(65536:Nat):Nat):Int).tmod 256=((a / (65536:Nat)^(15 - j)%(65536:Nat)%256:Nat):Int):=by rw [Int.tmod_eq_emod_of_nonneg (by omega)]; omega
  have e2:bs ((beN 32 a).take (2*(j+1)))=bs ((beN 32 a).take (2*j))++[u8 (UInt8.ofNat (a / (65536:Nat)^(15 - j)%(65536:Nat) / 256)),u8 (UInt8.ofNat (a / (65536:Nat)^(15 - j)%(65536:Nat)%256))]:=by
   have g:∀ i,i<32→(beN 32 a).getD i 0=UInt8.ofNat (a / 256^(31 - i)):=fun i hi => by
    rw [beN,List.getD_eq_getElem?_getD,List.getElem?_map,List.getElem?_range hi]; rfl
   rw [show 2*(j+1)=(2*j+1)+1 by omega,take_snoc (by rw [beN_length]; omega) 0,take_snoc (by rw [beN_length]; omega) 0,g _ (by omega),g _ (by omega),bs,bs,List.map_append,List.map_append,List.append_assoc]
   congr 1
   have y1:u8 (UInt8.ofNat (a / 256^(31 - 2*j)))=u8 (UInt8.ofNat (a / (65536:Nat)^(15 - j)%(65536:Nat) / 256)):=by
    rw [u8_ofNat,u8_ofNat,b1,show 31 - 2*j=2*(15 - j)+1 by omega]
   have y2:u8 (UInt8.ofNat (a / 256^(31 - (2*j+1))))=u8 (UInt8.ofNat (a / (65536:Nat)^(15 - j)%(65536:Nat)%256)):=by
    rw [u8_ofNat,u8_ofNat,Nat.mod_mod,b2,show 31 - (2*j+1)=2*(15 - j) by omega]
   simp only [List.map_cons,List.map_nil,List.singleton_append]
   rw [y1,y2]
  simp only [go_sem,ei,ee,pl,q1,q2,u8_wr,w1]
  obtain ⟨⟨_,_,c3,c4⟩,ev,eh⟩:=build_appN (H:=H++[⟨num a,0,true⟩]) (b:=1) (s:=.view [u8 (UInt8.ofNat (a / (65536:Nat)^(15 - j)%(65536:Nat) / 256)),u8 (UInt8.ofNat (a / (65536:Nat)^(15 - j)%(65536:Nat)%256))] 2 true) (cs:=[u8 (UInt8.ofNat (a / (65536:Nat)^(15 - j)%(65536:Nat) / 256)),u8 (UInt8.ofNat (a / (65536:Nat)^(15 - j)%(65536:Nat)%256))]) (m:=2) (tl j hj) rfl rfl rfl (by decide) rfl (by omega)
  rw [← e2] at ev eh
  have c3':srcN (rA (H++[⟨num a,0,true⟩]) (bs ((beN 32 a).take (2*j))) (2*j))≤140737488355326:=by rw [hs.s.2.1]; omega
  refine ⟨⟨by omega,by omega⟩,by decide,⟨by omega,by omega⟩,by decide,⟨c3',c4⟩,j+1,by rw [ev]; rfl,by rw [eh]; rfl,by omega,by omega⟩
 ·obtain rfl:j=16:=by omega
  rw [List.take_of_length_le (by rw [beN_length]; decide)]
  have:=leave_row (H:=H) (G:=[⟨num a,0,true⟩]) (sz:=1) (n:=32) (vs:=bs (beN 32 a)) (by decide) (pure_bs _) (fun ren K => lowL_bs ren K _)
  rw [bs_len,beN_length] at this
  exact this
set_option maxRecDepth 10000
theorem sigS_lt {d:Nat} {h:List UInt8} {r s:Nat} (e:signS d h=some (r,s)):maySc r=true∧maySc s=true:=by
 rw [signS] at e
 split at e
 ·cases e
 ·rw [Option.map_eq_some_iff] at e
  obtain ⟨k,h1,h2⟩:=e
  have:=List.find?_some h1
  rw [goodS,Bool.and_eq_true] at this
  cases h2
  exact this
def sgB (r s:Nat):List UInt8:=beN 32 r++beN 32 s
theorem sgB_len (r s:Nat):(sgB r s).length=64:=by rw [sgB,List.length_append,beN_length,beN_length]
theorem sgB_leave {H:AH} (r s:Nat):Leave H (.row (H.length+1) 0 64 (appL 1 0 32 32 32 32)) (H++[⟨sgc r s,0,true⟩,⟨appC 1 (bs (beN 32 r)) (bs (beN 32 s)) 0 32 32 32,1,true⟩,⟨bs (beN 32 s),1,true⟩]) (vB (sgB r s) false) H:=by
 have b1:(bs (beN 32 r)).length=32:=by rw [bs_len,beN_length]
 have b2:(bs (beN 32 s)).length=32:=by rw [bs_len,beN_length]
 have eb:bs (beN 32 r)++bs (beN 32 s)=bs (sgB r s):=by rw [sgB,bs,bs,bs,List.map_append]
 rw [appC_end (by decide),appL_end (by decide),eb]
 refine leave_drop ?_
 have b3:(bs (sgB r s)).length=64:=by rw [bs_len,sgB_len]
 have ev:vB (sgB r s) false=.view (bs (sgB r s)) 64 false:=by rw [vB,sgB_len]
 have eo:obj (H++[⟨sgc r s,0,true⟩,⟨bs (sgB r s),1,true⟩,⟨bs (beN 32 s),1,true⟩]) (H.length+1)=⟨bs (sgB r s),1,true⟩:=by rw [obj_appk]; rfl
 have et:(bs (sgB r s)).take 64=bs (sgB r s):=List.take_of_length_le (by rw [b3]; exact Nat.le_refl _)
 have en:renk H.length [] (H.length+1)=none:=renk_none_add _ _
 have h2:rowView (H++[⟨sgc r s,0,true⟩,⟨bs (sgB r s),1,true⟩,⟨bs (beN 32 s),1,true⟩]) (H.length+1) 0 64 (32+32)=.view (bs (sgB r s)) 64 false:=by
  simp only [rowView,eo,if_neg (show ¬ (1:Nat)=0 by decide),List.drop_zero,Nat.mul_one,Nat.zero_add,et]
  rw [if_pos ⟨b3.symm,by decide,pure_bs _⟩]
 simp only [low,en,h2,ev]
theorem t_sbytes {H:AH} {r s:Nat} (hr:r<(18446744073709551616:Nat)^4) (hs:s<(18446744073709551616:Nat)^4):Called Try.prog F.sign_Bytes [.agg (sgc r s)] H (vB (sgB r s) false) H:=by
 have s1:(sgc r s).take 4=num r:=List.take_left' (wd_length _ _)
 have s2:((sgc r s).drop 4).take 4=num s:=by rw [List.drop_left' (wd_length _ _),num_take]
 refine e_sign_Bytes ?_
 simp only [ic_sign_Bytes,go_sem,sg_one,sg_ne,sg_len,s1,s2]
 refine callW_some (t_lbytes hr) (fun h => by cases h) ?_
 simp only [go_sem,sg_one,sg_ne,sg_len,s1,s2]
 refine callW_some (t_lbytes hs) (fun h => by cases h) ?_
 have b1:(bs (beN 32 r)).length=32:=by rw [bs_len,beN_length]
 have b2:(bs (beN 32 s)).length=32:=by rw [bs_len,beN_length]
 have bt:(bs (beN 32 s)).take 32=bs (beN 32 s):=List.take_of_length_le (by rw [b2]; exact Nat.le_refl _)
 simp only [go_sem,b1,b2,bt,one_bs]
 exact sgB_leave r s
theorem r_sbytes {H:AH} {r s:Nat}:Called Try.prog F.clapperref07_Bytes [.agg (sgc r s)] H (vB (sgB r s) false) H:=by
 have s1:(sgc r s).take 4=num r:=List.take_left' (wd_length _ _)
 have s2:((sgc r s).drop 4).take 4=num s:=by rw [List.drop_left' (wd_length _ _),num_take]
 refine e_clapperref07_Bytes ?_
 simp only [ic_clapperref07_Bytes,go_sem,sg_one,sg_ne,sg_len,s1,s2]
 refine callW_some r_lbytes (fun h => by cases h) ?_
 simp only [go_sem,sg_one,sg_ne,sg_len,s1,s2]
 refine callW_some r_lbytes (fun h => by cases h) ?_
 have b1:(bs (beN 32 r)).length=32:=by rw [bs_len,beN_length]
 have b2:(bs (beN 32 s)).length=32:=by rw [bs_len,beN_length]
 have bt:(bs (beN 32 s)).take 32=bs (beN 32 s):=List.take_of_length_le (by rw [b2]; exact Nat.le_refl _)
 simp only [go_sem,b1,b2,bt,one_bs]
 exact sgB_leave r s
/-! ### The document's layer 4 -/
end Go.Proofs.Ytgfploghjpbcaaa.Eng

