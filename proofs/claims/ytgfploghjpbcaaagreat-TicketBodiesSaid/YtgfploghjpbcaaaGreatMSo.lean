/- Layer 7: a secret's key; a signature with a nonce: the program's walks. -/
import Derived.Test.YtgfploghjpbcaaaGreatMMa
import Derived.Test.YtgfploghjpbcaaaGreatMTk
import Derived.Test.YtgfploghjpbcaaaGreatMRf
import Derived.Test.YtgfploghjpbcaaaGreatMRs
namespace Go.Proofs.YtgfploghjpbcaaaGreat.Eng
open Go Go.Proofs
set_option linter.unusedVariables false
set_option linter.unusedSimpArgs false
set_option maxRecDepth 10000
theorem may_lt {a:Nat} (h:maySc a=true):a<(18446744073709551616:Nat)^4:=Nat.lt_trans ((maySc_iff a).1 h).2 mo_N.lt
theorem pc_spl0 (x y:Nat) (f:Bool):splice (pcell 0 0 false) 0 (pcell x y f)=pcell x y f:=splice_all (by rw [pc_len,pc_len])
theorem sg_spl0 (a c r:Nat):splice (sgc a c) 0 (num r)=sgc r c:=by
 show (num a++num c).take 0++num r++(num a++num c).drop (0+(num r).length)=_
 rw [wd_length,List.take_zero,List.nil_append,Nat.zero_add,List.drop_left' (wd_length 4 a)]
theorem sg_spl4 (a c s:Nat):splice (sgc a c) 4 (num s)=sgc a s:=by
 show (num a++num c).take 4++num s++(num a++num c).drop (4+(num s).length)=_
 rw [wd_length,List.take_left' (wd_length 4 a),List.drop_of_length_le (by rw [List.length_append,wd_length,wd_length]; decide),List.append_nil]
theorem t_with {H:AH} {p d k m:Nat} (hF:FF H p (115792089210356248762697446949407573529996955224135760342422259061068512044369:Nat)) (hd:d<(18446744073709551616:Nat)^4) (hk:maySc k=true) (hm:m<(18446744073709551616:Nat)^4):Called Tryz.prog F.sign_with [.ptr p 0,.agg (num d),.agg (num k),.agg (num m)] H (.tup [.agg (sgc (rOf k) (sOf d k m)),Bl (goodS d m k)]) H:=by
 have hN:(115792089210356248762697446949407573529996955224135760342422259061068512044369:Nat)<(18446744073709551616:Nat)^4:=mo_N.lt
 have hN0:0<(115792089210356248762697446949407573529996955224135760342422259061068512044369:Nat):=by decide
 have hk4:=may_lt hk
 have ks:=(maySc_iff k).1 hk
 have kg:Nat.gcd (k%(115792089210356248762697446949407573529996955224135760342422259061068512044369:Nat)) (115792089210356248762697446949407573529996955224135760342422259061068512044369:Nat)=1:=prm_gcd (p:=(115792089210356248762697446949407573529996955224135760342422259061068512044369:Nat)) prm_N (by rw [Nat.mod_mod,Nat.mod_eq_of_lt ks.2]; omega)
 have ti:=fun G => t_inv (H:=H++G) (hF.app (G:=G)).fd hN mo_N.gt mo_N.odd hk4
 rw [if_pos kg,Nat.mod_eq_of_lt ks.2] at ti
 have ki:minv (115792089210356248762697446949407573529996955224135760342422259061068512044369:Nat) k<(18446744073709551616:Nat)^4:=by
  obtain ⟨y,h1,h2⟩:=prm_inv (p:=(115792089210356248762697446949407573529996955224135760342422259061068512044369:Nat)) prm_N ks.1 ks.2
  rw [minv_eq h1 h2]; exact Nat.lt_trans h1 hN
 have ez:[Z0,Z0,Z0,Z0,Z0,Z0,Z0,Z0,Bl false]=pcell 0 0 false:=rfl
 have e8:[Z0,Z0,Z0,Z0,Z0,Z0,Z0,Z0]=sgc 0 0:=rfl
 have e4:[Z0,Z0,Z0,Z0]=num 0:=rfl
 have n4:∀ a,(num a).length=4:=fun a => wd_length _ _
 have sn:∀ a b,splice (num a) 0 (num b)=num b:=fun a b => splice_all (by rw [n4,n4])
 refine e_sign_with ?_
 simp only [ic_sign_with,go_sem,one_wd,num_ne,num_take,n4]
 have tb:=fun G => t_base (H:=H++G)
 refine callW_some ⟨rfl,fun G => t_base⟩ (fun _ => rfl) ?_
 simp only [go_sem,one_wd,num_ne,num_take,n4]
 refine callW_some ⟨rfl,fun G => t_pmul hk4 (by decide) (by decide) base_on⟩ (fun _ => rfl) ?_
 rw [show toA (48439561293906451759052585252797914202762949526041747995844080717082404635286:Nat) (36134250956749795798585127919587881956611106672985015071877198253568414405109:Nat) false=baseA from rfl]
 have on1:=(mulA_eq (k:=k) (toA_on base_on).1).2
 rw [show toA (48439561293906451759052585252797914202762949526041747995844080717082404635286:Nat) (36134250956749795798585127919587881956611106672985015071877198253568414405109:Nat) false=baseA from rfl] at on1
 have er:rOf k=(mulA k baseA).x%(115792089210356248762697446949407573529996955224135760342422259061068512044369:Nat):=rfl
 have es:sOf d k m=fmul (115792089210356248762697446949407573529996955224135760342422259061068512044369:Nat) (minv (115792089210356248762697446949407573529996955224135760342422259061068512044369:Nat) k) (fadd (115792089210356248762697446949407573529996955224135760342422259061068512044369:Nat) m (fmul (115792089210356248762697446949407573529996955224135760342422259061068512044369:Nat) (rOf k) d)):=rfl
 rw [goodS,es]
 generalize rOf k=r at *
 generalize mulA k baseA=A at *
 obtain ⟨v1,v2,v3,v4⟩:=on_raw on1
 simp only [go_sem,ptc,one_wd,num_ne,num_take,n4,ez,pc_take,pc_len,pc_one,pc_spl0,pc_x]
 have e84:Z0::Z0::Z0::Z0::num 0=sgc 0 0:=rfl
 simp only [e4,e84]
 have hF':∀ G,FF (H++G) p (115792089210356248762697446949407573529996955224135760342422259061068512044369:Nat):=fun G => hF.app
 have ef:fadd (115792089210356248762697446949407573529996955224135760342422259061068512044369:Nat) A.x 0=A.x%(115792089210356248762697446949407573529996955224135760342422259061068512044369:Nat):=by rw [fadd,Nat.add_zero]
 have tf:=fun G => t_fadd (hF' G).fd hN hN0 v2 (show 0<(18446744073709551616:Nat)^4 by decide)
 rw [ef,← er] at tf
 refine callW_some (tf _) (fun _ => rfl) ?_
 have rlt:r<(18446744073709551616:Nat)^4:=by rw [er]; exact Nat.lt_trans (Nat.mod_lt _ hN0) hN
 clear tf ef er
 simp only [go_sem,one_wd,num_ne,num_take,n4,sn,e4]
 refine callW_some (ti _) (fun _ => rfl) ?_
 clear ti
 generalize minv (115792089210356248762697446949407573529996955224135760342422259061068512044369:Nat) k=t at *
 simp only [go_sem,one_wd,num_ne,num_take,n4,sn,e4]
 refine callW_some ⟨rfl,fun G => t_fmul ((hF' _).app) mo_N rlt hd⟩ (fun _ => rfl) ?_
 have l1:fmul (115792089210356248762697446949407573529996955224135760342422259061068512044369:Nat) r d<(18446744073709551616:Nat)^4:=Nat.lt_trans (fmul_lt hN0 r d) hN
 generalize fmul (115792089210356248762697446949407573529996955224135760342422259061068512044369:Nat) r d=a at *
 simp only [go_sem,one_wd,num_ne,num_take,n4,sn,e4]
 refine callW_some ⟨rfl,fun G => t_fadd ((hF' _).app).fd hN hN0 hm l1⟩ (fun _ => rfl) ?_
 have l2:fadd (115792089210356248762697446949407573529996955224135760342422259061068512044369:Nat) m a<(18446744073709551616:Nat)^4:=Nat.lt_trans (fadd_lt hN0 m a) hN
 generalize fadd (115792089210356248762697446949407573529996955224135760342422259061068512044369:Nat) m a=c at *
 simp only [go_sem,one_wd,num_ne,num_take,n4,sn,e4]
 refine callW_some ⟨rfl,fun G => t_fmul ((hF' _).app) mo_N ki l2⟩ (fun _ => rfl) ?_
 have l3:fmul (115792089210356248762697446949407573529996955224135760342422259061068512044369:Nat) t c<(18446744073709551616:Nat)^4:=Nat.lt_trans (fmul_lt hN0 t c) hN
 generalize fmul (115792089210356248762697446949407573529996955224135760342422259061068512044369:Nat) t c=s at *
 simp only [go_sem,one_wd,num_ne,num_take,n4,sn,e4,e84,fillOk,fillv,sg_spl0,sg_spl4,sg_len]
 refine callG_of (fun _ => t_may rlt) ?_
 simp only [go_sem,num_take,n4]
 refine callG_of (fun _ => t_may l3) ?_
 simp only [go_sem,one_wd,num_ne,num_take,n4,sn,e4,e84,fillOk,fillv,sg_spl0,sg_spl4,sg_len,sg_one,sg_spl]
 rw [sg_take]
 generalize (maySc r&&maySc s)=b
 exact leave_drop (by simp only [low,lowL,lowL_sg])
set_option maxRecDepth 10000
noncomputable def sigV:Option (Nat × Nat)→AV
 | some (r,s) => .tup [.agg (sgc r s),nilE]
 | none => .tup [.agg (sgc 0 0),errA 4]
theorem signS_find (d:Nat) (h:List UInt8):signS d h=if (candS d (be h%(115792089210356248762697446949407573529996955224135760342422259061068512044369:Nat)) 16 100).length<16 then none else ((candS d (be h%(115792089210356248762697446949407573529996955224135760342422259061068512044369:Nat)) 16 100).find? (goodS d (be h))).map fun k => (rOf k,sOf d k (be h)):=by
 have e:∀ k,sOf d k (be h%(115792089210356248762697446949407573529996955224135760342422259061068512044369:Nat))=sOf d k (be h):=fun k => by
  rw [sOf,sOf]; congr 1
  rw [fadd,fadd,Nat.mod_add_mod]
 have e2:goodS d (be h%(115792089210356248762697446949407573529996955224135760342422259061068512044369:Nat))=goodS d (be h):=funext fun k => by rw [goodS,goodS,e]
 rw [signS,e2]
 simp only [e]
theorem ncs_elt (l:List Nat) {i:Nat} (h:i<l.length):elt (ncs l) 4 i=num (l.getD i 0):=elt_flat num 4 (fun a => wd_length 4 a) l i 0 h
theorem find_at {q:Nat→Bool}:∀ {l:List Nat} {i:Nat},i<l.length→(∀ j,j<i→q (l.getD j 0)=false)→q (l.getD i 0)=true→l.find? q=some (l.getD i 0)
 | [],i,hi,_,_ => by cases hi
 | a::r,0,_,_,h => by
  have h:q a=true:=h
  rw [List.find?_cons_of_pos h]; rfl
 | a::r,i+1,hi,hj,h => by
  have h0:q a=false:=hj 0 (by omega)
  rw [List.find?_cons_of_neg (by rw [h0]; decide)]
  exact find_at (l:=r) (by simpa using hi) (fun j hh => hj (j+1) (by omega)) h
theorem find_no {q:Nat→Bool}:∀ {l:List Nat},(∀ j,j<l.length→q (l.getD j 0)=false)→l.find? q=none
 | [],_ => rfl
 | a::r,hj => by
  have h0:q a=false:=hj 0 (by simp)
  rw [List.find?_cons_of_neg (by rw [h0]; decide)]
  exact find_no (l:=r) fun j hh => hj (j+1) (by simpa using hh)
theorem t_Sign {H:AH} {d:Nat} {h:List UInt8} (hd:d<(18446744073709551616:Nat)^4) (hh:h.length=32):Called Tryz.prog F.sign_Sign [.agg (num d),.agg (bs h)] H (if maySc d then sigV (signS d h) else .tup [.agg (sgc 0 0),errA 1]) H:=by
 have bl:(bs h).length=32:=by rw [bs_len,hh]
 have ne:(bs h).isEmpty=false:=by
  cases hh:bs h with
  | nil => rw [hh] at bl; cases bl
  | cons => rfl
 have n4:∀ a,(num a).length=4:=fun a => wd_length _ _
 have sn:∀ a b,splice (num a) 0 (num b)=num b:=fun a b => splice_all (by rw [n4,n4])
 have bt:(bs h).take 32=bs h:=List.take_of_length_le (by omega)
 have e8:[Z0,Z0,Z0,Z0,Z0,Z0,Z0,Z0]=sgc 0 0:=rfl
 have e4:[Z0,Z0,Z0,Z0]=num 0:=rfl
 have e84:Z0::Z0::Z0::Z0::num 0=sgc 0 0:=rfl
 refine e_sign_Sign ?_
 simp only [ic_sign_Sign,go_sem,one_wd,num_ne,one_bs,ne]
 refine callW_some t_N (fun _ => rfl) ?_
 simp only [go_sem]
 refine callW_some (t_new mo_N) (fun h => by cases h) ?_
 simp only [go_sem,num_take,n4]
 refine callG_of (fun _ => t_may hd) ?_
 simp only [go_sem,e4,e84,bl,bt,num_take,n4,sg_one,sg_spl,sg_take,sg_len]
 refine ⟨fun hb => ?_,fun hb => ?_⟩
 ·have hb:maySc d=false:=by simpa using hb
  rw [hb]
  exact leave_drop (by simp only [low,lowL,lowL_sg]; rfl)
 ·have hb:maySc d=true:=by simpa using hb
  rw [if_pos hb]
  refine callW_some (t_nlist (many:=16) hd hh (by decide)) (fun _ => rfl) ?_
  rw [if_pos hb,listV,signS_find]
  have cm:=candS_mem d (be h%(115792089210356248762697446949407573529996955224135760342422259061068512044369:Nat)) 16 100
  have cl:=candS_len d (be h%(115792089210356248762697446949407573529996955224135760342422259061068512044369:Nat)) 16 100
  generalize candS d (be h%(115792089210356248762697446949407573529996955224135760342422259061068512044369:Nat)) 16 100=l at *
  by_cases hl:l.length<16
  ·rw [if_pos hl,if_pos hl]
   simp only [go_sem,e4,e84,bl,bt,num_take,n4,sg_one,sg_spl,sg_take,sg_len]
   exact leave_drop (by simp only [low,lowL,lowL_sg]; rfl)
  ·rw [if_neg hl,if_neg hl]
   simp only [go_sem,e4,e84,bl,bt,num_take,n4,sg_one,sg_spl,sg_take,sg_len]
   have hv:∀ G,Sl 4 G (.view (ncs l) l.length false) (ncs l) l.length:=fun G => .view (ncs_len l) _
   have hbe:be h<(18446744073709551616:Nat)^4:=by have:=be_lt h; rw [hh] at this; exact Nat.lt_of_lt_of_le this (by decide)
   have hF:∀ G,FF (H++(⟨num d,0,true⟩::⟨bs h,0,true⟩::⟨sgc 0 0,0,true⟩::⟨fcells (115792089210356248762697446949407573529996955224135760342422259061068512044369:Nat),0,true⟩::G)) (H.length+3) (115792089210356248762697446949407573529996955224135760342422259061068512044369:Nat):=fun G => ⟨by simp,by simp only [go_sem]⟩
   refine w_loop _ (fun (s:Nat × AH) => ([(2,.ptr H.length 0),(3,.ptr (H.length+1) 0),(4,.ptr (H.length+2) 0),(6,.ptr (H.length+3) 0),(37,.view (ncs l) l.length false),(38,I l.length),(39,I s.1)],H++(⟨num d,0,true⟩::⟨bs h,0,true⟩::⟨sgc 0 0,0,true⟩::⟨fcells (115792089210356248762697446949407573529996955224135760342422259061068512044369:Nat),0,true⟩::s.2)))
    (fun s => s.1≤l.length∧∀ j,j<s.1→goodS d (be h) (l.getD j 0)=false) (fun s => l.length - s.1) (0,[]) ⟨Nat.zero_le _,fun j hj => by cases hj⟩ rfl ?_
   rintro ⟨i,G⟩ ⟨hi,hj⟩
   simp only at hi hj
   simp only [go_sem]
   refine ⟨fun hc => ?_,fun hc => ?_⟩
   ·have hlt:i<l.length:=by omega
    have hk:=cm _ (getD_mem' hlt 0)
    have hgd:goodS d (be h) (l.getD i 0)=true→l.find? (goodS d (be h))=some (l.getD i 0):=find_at hlt hj
    have hj2:goodS d (be h) (l.getD i 0)=false→∀ j,j<i+1→goodS d (be h) (l.getD j 0)=false:=fun e j hh => by
     rcases Nat.lt_succ_iff_lt_or_eq.1 hh with h1 | rfl
     ·exact hj j h1
     ·exact e
    simp only [go_sem,(hv _).idx,(hv _).ldOk _ hlt (Nat.le_refl _),(hv _).ldA _ hlt,ncs_elt l hlt,num_take,n4,sn,one_wd,bl,bt,e4]
    generalize l.getD i 0=k at *
    refine ⟨⟨by omega,by omega,ncs_len l⟩,by omega,by omega,callW_some ⟨rfl,fun G => t_number hh⟩ (fun _ => rfl) ?_⟩
    simp only [go_sem,num_take,n4,sn,one_wd,bl,bt,e4]
    refine callW_some ⟨rfl,fun G => t_with ((hF _).app) hd hk hbe⟩ (fun _ => rfl) ?_
    have l4:=fun w => IntKind.i64.wrap w
    have w1:IntKind.i64.wrap ((i:Int)+1)=((i+1:Nat):Int):=by rw [w64 _ (by omega) (by omega)]; omega
    generalize goodS d (be h) k=b at *
    simp only [go_sem,sg_one,sg_spl,sg_take,sg_len,e4,e84]
    refine ⟨fun hb => ?_,fun hb => ?_⟩
    ·rw [hgd hb]
     have es:sigV (Option.map (fun k => (rOf k,sOf d k (be h))) (some k))=.tup [.agg (sgc (rOf k) (sOf d k (be h))),nilE]:=rfl
     rw [es]
     generalize rOf k=r
     generalize sOf d k (be h)=s
     exact ⟨by omega,by omega,leave_drop (by simp only [low,lowL,lowL_sg])⟩
    ·exact ⟨(i+1,G++[⟨num k,0,true⟩,⟨sgc (rOf k) (sOf d k (be h)),0,true⟩]),by rw [w1],rfl,⟨by show i+1≤_; omega,hj2 hb⟩,by show _ - (i+1)<_; omega⟩
   ·obtain rfl:i=l.length:=by omega
    rw [find_no hj]
    exact ⟨⟨by omega,by rw [n4]; decide⟩,by omega,leave_drop rfl⟩
section
variable {sz n m b:Nat} {H:AH} {vs cs:List AV} {s:AV}
theorem build_appN (hl:vs.length=n*sz) (h1:srcOk sz (hA sz H vs n) s) (h2:srcC sz (hA sz H vs n) s=cs) (h3:srcN s=m) (h0:0<m) (hc:cs.all AV.one=true) (hb:(n+m)*b≤140737488355328) :
  appOk sz b (hA sz H vs n) (rA H vs n) s∧appV sz (hA sz H vs n) s (rA H vs n)=rA H (vs++cs) (n+m)∧appH sz (hA sz H vs n) s (rA H vs n)=hA sz H (vs++cs) (n+m):=by
 by_cases hn:n=0
 ·subst hn
  obtain rfl:vs=[]:=List.eq_nil_of_length_eq_zero (by omega)
  simp only [rA,hA,if_true] at *
  refine ⟨⟨h1,by rw [h2]; exact hc,by rw [h3]; simpa [srcN] using hb,trivial⟩,?_,?_⟩
  ·rw [appV_nil,h2,h3,if_neg (by omega),Nat.zero_add]; rfl
  ·rw [appH_nil,h2,if_neg (by omega)]; rfl
 ·simp only [rA,hA,if_neg hn,if_neg (show ¬ n+m=0 by omega)] at *
  refine ⟨⟨h1,by rw [h2]; exact hc,by rw [h3]; exact hb,by simp,by rw [obj_app0]; rfl,by rw [obj_app0]; rfl,by rw [obj_app0]; rfl,by show 0+n*sz≤vs.length; omega,.inl rfl⟩,?_,?_⟩
  ·rw [appV_row,h2,h3,appL_end (by omega),List.length_append]
  ·rw [appH_row,h2,h3,obj_app0,setO_app0]
   show H++[⟨appC sz vs cs 0 n m vs.length,sz,true⟩]=_
   rw [appC_end (by omega)]
theorem leave_row {G:AH} (hn:0<n) (hp:pureL vs=true) (hl:∀ ren K,lowL ren K vs=vs):Leave H (rA (H++G) vs n) (hA sz (H++G) vs n) (.row H.length 0 n vs.length) (H++[⟨vs,sz,true⟩]):=by
 rw [rA,hA,if_neg (by omega),if_neg (by omega),List.append_assoc]
 refine leave_keep [G.length] (by simp) (by simp) ?_ ?_
 ·simp [low,renk_at,List.idxOf?_cons]
 ·simp [lowObj,hl,obj]
end
theorem u8_wr (n:Nat):(AV.lit (.int .u8 (IntKind.u8.wrap (n:Int))))=u8 (UInt8.ofNat n):=by rw [wu8mod,u8_ofNat]
theorem byte_pair {a i:Nat}:a / (65536:Nat)^i%(65536:Nat) / 256%256=a / 256^(2*i+1)%256∧a / (65536:Nat)^i%(65536:Nat)%256=a / 256^(2*i)%256:=by
 have e:(65536:Nat)^i=256^(2*i):=by rw [Nat.pow_mul]
 rw [e,Nat.pow_succ,← Nat.div_div_eq_div_mul]
 generalize a / 256^(2*i)=n
 omega
theorem r_lbytes {H:AH} {a:Nat}:Called Tryz.prog F.clapperref01_Bytes [.agg (num a)] H (.row H.length 0 32 32) (H++[⟨bs (beN 32 a),1,true⟩]):=by
 refine e_clapperref01_Bytes ?_
 simp only [ic_clapperref01_Bytes,go_sem,one_wd,num_ne,num_take,wd_length]
 refine callW_some (r_parts a) (fun _ => rfl) ?_
 have pl:(pt16 16 a).length=16:=by rw [pt16,List.length_map,dig_length]
 have hv:∀ G,Sl 1 G (.view (pt16 16 a) 16 false) (pt16 16 a) 16:=fun G => .view (by rw [pl]) _
 simp only [go_sem]
 have tl:∀ j,j≤16→(bs ((beN 32 a).take (2*j))).length=2*j*1:=fun j hj => by rw [bs_len,List.length_take,beN_length]; omega
 refine w_loop _ (fun (j:Nat) => ([(3,.view (pt16 16 a) 16 false),(4,rA (H++[⟨num a,0,true⟩]) (bs ((beN 32 a).take (2*j))) (2*j)),(5,I (15 - (j:Int)))],hA 1 (H++[⟨num a,0,true⟩]) (bs ((beN 32 a).take (2*j))) (2*j))) (fun j => j≤16) (fun j => 16 - j) 0 (Nat.zero_le _) rfl ?_
 intro j hj
 have hs:=build_sl (H:=H++[⟨num a,0,true⟩]) (tl j hj)
 simp only [go_sem]
 refine ⟨fun hh => ?_,fun hh => ?_⟩
 ·have hlt:j<16:=by omega
  have ei:(15:Int) - (j:Int)=((15 - j:Nat):Int):=by omega
  have w1:IntKind.i64.wrap (((15 - j:Nat):Int) - 1)=15 - ((j+1:Nat):Int):=by rw [w64 _ (by omega) (by omega)]; omega
  have hd:a / (65536:Nat)^(15 - j)%(65536:Nat)<65536:=Nat.mod_lt _ (by decide)
  obtain ⟨b1,b2⟩:=byte_pair (a:=a) (i:=15 - j)
  have ee:elt (pt16 16 a) 1 (15 - j)=[I ((a / (65536:Nat)^(15 - j)%(65536:Nat):Nat):Int)]:=by
   rw [← pt_get (k:=16) (n:=a) (show 15 - j<16 by omega)]
   simp only [elt,Nat.mul_one]
   rw [List.drop_eq_getElem_cons (by omega),List.take_succ_cons,List.take_zero,List.getD_eq_getElem?_getD,List.getElem?_eq_getElem (by omega)]; rfl
  have q1:IntKind.i64.wrap (((a / (65536:Nat)^(15 - j)%(65536:Nat):Nat):Int).tdiv 256)=((a / (65536:Nat)^(15 - j)%(65536:Nat) / 256:Nat):Int):=by rw [Int.tdiv_eq_ediv_of_nonneg (by omega),w64 _ (by omega) (by omega)]; omega
  have q2:((a / (65536:Nat)^(15 - j)%(65536:Nat):Nat):Int).tmod 256=((a / (65536:Nat)^(15 - j)%(65536:Nat)%256:Nat):Int):=by rw [Int.tmod_eq_emod_of_nonneg (by omega)]; omega
  have e2:bs ((beN 32 a).take (2*(j+1)))=bs ((beN 32 a).take (2*j))++[u8 (UInt8.ofNat (a / (65536:Nat)^(15 - j)%(65536:Nat) / 256)),u8 (UInt8.ofNat (a / (65536:Nat)^(15 - j)%(65536:Nat)%256))]:=by
   have g:∀ i,i<32→(beN 32 a).getD i 0=UInt8.ofNat (a / 256^(31 - i)):=fun i hi => by
    rw [beN,List.getD_eq_getElem?_getD,List.getElem?_map,List.getElem?_range hi]; rfl
   rw [show 2*(j+1)=(2*j+1)+1 by omega,take_snoc (by rw [beN_length]; omega) 0,take_snoc (by rw [beN_length]; omega) 0,g _ (by omega),g _ (by omega),bs,bs,List.map_append,List.map_append,List.append_assoc]
   congr 1
   have y1:u8 (UInt8.ofNat (a / 256^(31 - 2*j)))=u8 (UInt8.ofNat (a / (65536:Nat)^(15 - j)%(65536:Nat) / 256)):=by
    rw [u8_ofNat,u8_ofNat,b1,show 31 - 2*j=2*(15 - j)+1 by omega]
   have y2:u8 (UInt8.ofNat (a / 256^(31 - (2*j+1))))=u8 (UInt8.ofNat (a / (65536:Nat)^(15 - j)%(65536:Nat)%256)):=by
    rw [u8_ofNat,u8_ofNat,Nat.mod_mod,b2,show 31 - (2*j+1)=2*(15 - j) by omega]
   simp only [List.map_cons,List.map_nil,List.singleton_append]
   rw [y1,y2]
  simp only [go_sem,ei,ee,pl,q1,q2,u8_wr,w1]
  obtain ⟨⟨_,_,c3,c4⟩,ev,eh⟩:=build_appN (H:=H++[⟨num a,0,true⟩]) (b:=1) (s:=.view [u8 (UInt8.ofNat (a / (65536:Nat)^(15 - j)%(65536:Nat) / 256)),u8 (UInt8.ofNat (a / (65536:Nat)^(15 - j)%(65536:Nat)%256))] 2 true) (cs:=[u8 (UInt8.ofNat (a / (65536:Nat)^(15 - j)%(65536:Nat) / 256)),u8 (UInt8.ofNat (a / (65536:Nat)^(15 - j)%(65536:Nat)%256))]) (m:=2) (tl j hj) rfl rfl rfl (by decide) rfl (by omega)
  rw [← e2] at ev eh
  have c3':srcN (rA (H++[⟨num a,0,true⟩]) (bs ((beN 32 a).take (2*j))) (2*j))≤140737488355326:=by rw [hs.s.2.1]; omega
  refine ⟨⟨by omega,by omega⟩,by decide,⟨by omega,by omega⟩,by decide,⟨c3',c4⟩,j+1,by rw [ev]; rfl,by rw [eh]; rfl,by omega,by omega⟩
 ·obtain rfl:j=16:=by omega
  rw [List.take_of_length_le (by rw [beN_length]; decide)]
  have:=leave_row (H:=H) (G:=[⟨num a,0,true⟩]) (sz:=1) (n:=32) (vs:=bs (beN 32 a)) (by decide) (pure_bs _) (fun ren K => lowL_bs ren K _)
  rw [bs_len,beN_length] at this
  exact this
set_option maxRecDepth 10000
theorem sigS_lt {d:Nat} {h:List UInt8} {r s:Nat} (e:signS d h=some (r,s)):maySc r=true∧maySc s=true:=by
 rw [signS] at e
 split at e
 ·cases e
 ·rw [Option.map_eq_some_iff] at e
  obtain ⟨k,h1,h2⟩:=e
  have:=List.find?_some h1
  rw [goodS,Bool.and_eq_true] at this
  cases h2
  exact this
def sgB (r s:Nat):List UInt8:=beN 32 r++beN 32 s
theorem sgB_len (r s:Nat):(sgB r s).length=64:=by rw [sgB,List.length_append,beN_length,beN_length]
theorem sgB_leave {H:AH} (r s:Nat):Leave H (.row (H.length+1) 0 64 (appL 1 0 32 32 32 32)) (H++[⟨sgc r s,0,true⟩,⟨appC 1 (bs (beN 32 r)) (bs (beN 32 s)) 0 32 32 32,1,true⟩,⟨bs (beN 32 s),1,true⟩]) (vB (sgB r s) false) H:=by
 have b1:(bs (beN 32 r)).length=32:=by rw [bs_len,beN_length]
 have b2:(bs (beN 32 s)).length=32:=by rw [bs_len,beN_length]
 have eb:bs (beN 32 r)++bs (beN 32 s)=bs (sgB r s):=by rw [sgB,bs,bs,bs,List.map_append]
 rw [appC_end (by decide),appL_end (by decide),eb]
 refine leave_drop ?_
 have b3:(bs (sgB r s)).length=64:=by rw [bs_len,sgB_len]
 have ev:vB (sgB r s) false=.view (bs (sgB r s)) 64 false:=by rw [vB,sgB_len]
 have eo:obj (H++[⟨sgc r s,0,true⟩,⟨bs (sgB r s),1,true⟩,⟨bs (beN 32 s),1,true⟩]) (H.length+1)=⟨bs (sgB r s),1,true⟩:=by rw [obj_appk]; rfl
 have et:(bs (sgB r s)).take 64=bs (sgB r s):=List.take_of_length_le (by rw [b3]; exact Nat.le_refl _)
 have en:renk H.length [] (H.length+1)=none:=renk_none_add _ _
 have h2:rowView (H++[⟨sgc r s,0,true⟩,⟨bs (sgB r s),1,true⟩,⟨bs (beN 32 s),1,true⟩]) (H.length+1) 0 64 (32+32)=.view (bs (sgB r s)) 64 false:=by
  simp only [rowView,eo,if_neg (show ¬ (1:Nat)=0 by decide),List.drop_zero,Nat.mul_one,Nat.zero_add,et]
  rw [if_pos ⟨b3.symm,by decide,pure_bs _⟩]
 simp only [low,en,h2,ev]
theorem t_sbytes {H:AH} {r s:Nat} (hr:r<(18446744073709551616:Nat)^4) (hs:s<(18446744073709551616:Nat)^4):Called Tryz.prog F.sign_Bytes [.agg (sgc r s)] H (vB (sgB r s) false) H:=by
 have s1:(sgc r s).take 4=num r:=List.take_left' (wd_length _ _)
 have s2:((sgc r s).drop 4).take 4=num s:=by rw [List.drop_left' (wd_length _ _),num_take]
 refine e_sign_Bytes ?_
 simp only [ic_sign_Bytes,go_sem,sg_one,sg_ne,sg_len,s1,s2]
 refine callW_some (t_lbytes hr) (fun h => by cases h) ?_
 simp only [go_sem,sg_one,sg_ne,sg_len,s1,s2]
 refine callW_some (t_lbytes hs) (fun h => by cases h) ?_
 have b1:(bs (beN 32 r)).length=32:=by rw [bs_len,beN_length]
 have b2:(bs (beN 32 s)).length=32:=by rw [bs_len,beN_length]
 have bt:(bs (beN 32 s)).take 32=bs (beN 32 s):=List.take_of_length_le (by rw [b2]; exact Nat.le_refl _)
 simp only [go_sem,b1,b2,bt,one_bs]
 exact sgB_leave r s
theorem r_sbytes {H:AH} {r s:Nat}:Called Tryz.prog F.clapperref07_Bytes [.agg (sgc r s)] H (vB (sgB r s) false) H:=by
 have s1:(sgc r s).take 4=num r:=List.take_left' (wd_length _ _)
 have s2:((sgc r s).drop 4).take 4=num s:=by rw [List.drop_left' (wd_length _ _),num_take]
 refine e_clapperref07_Bytes ?_
 simp only [ic_clapperref07_Bytes,go_sem,sg_one,sg_ne,sg_len,s1,s2]
 refine callW_some r_lbytes (fun h => by cases h) ?_
 simp only [go_sem,sg_one,sg_ne,sg_len,s1,s2]
 refine callW_some r_lbytes (fun h => by cases h) ?_
 have b1:(bs (beN 32 r)).length=32:=by rw [bs_len,beN_length]
 have b2:(bs (beN 32 s)).length=32:=by rw [bs_len,beN_length]
 have bt:(bs (beN 32 s)).take 32=bs (beN 32 s):=List.take_of_length_le (by rw [b2]; exact Nat.le_refl _)
 simp only [go_sem,b1,b2,bt,one_bs]
 exact sgB_leave r s
/-! ### The document's layer 4 -/
theorem r_block {H:AH} {x:AV} {key:List UInt8} (c:UInt8) (hx:Sl 1 H x (bs key) key.length) (hn:key.length≤64):Called Tryz.prog F.clapperref04_block [x,u8 c] H (.row H.length 0 64 64) (H++[⟨bs (kblk key c),1,true⟩]):=by
 have hz:kblk key c=(key++List.replicate (64 - key.length) 0).map (· ^^^ c):=by rw [kblk,if_neg (by omega)]
 have kl:=kblk_length key c
 refine e_clapperref04_block ?_
 simp only [ic_clapperref04_block,go_sem,hx.s]
 refine ⟨fun h => absurd h (by omega),fun _ => ?_⟩
 have tl:∀ i,i≤64→(bs ((kblk key c).take i)).length=i*1:=fun i hi => by rw [bs_len,List.length_take,kl]; omega
 refine w_loop _ (fun (i:Nat) => ([(0,x),(1,u8 c),(6,rA H (bs ((kblk key c).take i)) i),(7,I i)],hA 1 H (bs ((kblk key c).take i)) i)) (fun i => i≤64) (fun i => 64 - i) 0 (Nat.zero_le _) rfl ?_
 intro i hi
 have hs:=build_sl (H:=H) (tl i hi)
 have hx':=hx.hA (sz:=1) (vs:=bs ((kblk key c).take i)) (n:=i)
 simp only [go_sem,hx'.s]
 refine ⟨fun hh => ?_,fun hh => ?_⟩
 ·have hlt:i<64:=by omega
  have w1:IntKind.i64.wrap ((i:Int)+1)=((i+1:Nat):Int):=by rw [w64 _ (by omega) (by omega)]; omega
  have go:∀ v:UInt8,v=(key++List.replicate (64 - key.length) 0).getD i 0→bs ((kblk key c).take (i+1))=bs ((kblk key c).take i)++[u8 (v ^^^ c)]:=fun v hv => by
   rw [take_snoc (by omega) 0,bs,bs,List.map_append,List.map_singleton]
   congr 2
   rw [hz,hv,List.getD_eq_getElem?_getD,List.getElem?_map,List.getD_eq_getElem?_getD,List.getElem?_eq_getElem (by rw [List.length_append,List.length_replicate]; omega)]; rfl
  have c3':srcN (rA H (bs ((kblk key c).take i)) i)≤140737488355327:=by rw [hs.s.2.1]; omega
  have fin:∀ v:UInt8,bs ((kblk key c).take (i+1))=bs ((kblk key c).take i)++[u8 v]→_:=fun v hv => by
   have ba:=build_app (H:=H) (b:=1) (s:=.view [u8 v] 1 true) (cs:=[u8 v]) (tl i hi) rfl rfl rfl rfl (by omega)
   rw [← hv] at ba
   exact (⟨ba.1.2.2.2,ba.2.1,ba.2.2⟩:appBase 1 (hA 1 H (bs ((kblk key c).take i)) i) (.view [u8 v] 1 true) (rA H (bs ((kblk key c).take i)) i)∧appV 1 (hA 1 H (bs ((kblk key c).take i)) i) (.view [u8 v] 1 true) (rA H (bs ((kblk key c).take i)) i)=rA H (bs ((kblk key c).take (i+1))) (i+1)∧appH 1 (hA 1 H (bs ((kblk key c).take i)) i) (.view [u8 v] 1 true) (rA H (bs ((kblk key c).take i)) i)=hA 1 H (bs ((kblk key c).take (i+1))) (i+1))
  refine ⟨fun hk => ?_,fun hk => ?_⟩
  ·have hk:i<key.length:=by omega
   have gi:(bs key).getD i .junk=u8 (key.getD i 0):=by rw [bs,List.getD_eq_getElem?_getD,List.getElem?_map,List.getD_eq_getElem?_getD,List.getElem?_eq_getElem hk]; rfl
   have ek:=go (key.getD i 0) (by rw [List.getD_eq_getElem?_getD,List.getD_eq_getElem?_getD,List.getElem?_append_left hk])
   simp only [go_sem,hx'.idx,hx'.ldOk _ hk (Nat.le_refl _),hx'.ld1 _ hk,gi,xor8,w1]
   obtain ⟨c4,ev,eh⟩:=fin _ ek
   exact ⟨⟨by omega,by omega⟩,⟨c3',c4⟩,i+1,by rw [ev],eh,by omega,by omega⟩
  ·have ek:=go 0 (by rw [List.getD_eq_getElem?_getD,List.getElem?_append_right (by omega),List.getElem?_replicate]; split <;> rfl)
   have e0:bXor .u8 0 (c.toNat:Int)=((0 ^^^ c:UInt8).toNat:Int):=xor8 0 c
   rw [e0,w1]
   obtain ⟨c4,ev,eh⟩:=fin _ ek
   exact ⟨⟨c3',c4⟩,i+1,by rw [ev],eh,by omega,by omega⟩
 ·obtain rfl:i=64:=by omega
  rw [List.take_of_length_le (by omega)]
  have:=leave_row (H:=H) (G:=[]) (sz:=1) (n:=64) (vs:=bs (kblk key c)) (by decide) (pure_bs _) (fun ren K => lowL_bs ren K _)
  rw [bs_len,kl,List.append_nil] at this
  exact this
set_option maxRecDepth 10000
theorem r_macOf {H:AH} {x y:AV} {key l:List UInt8} (hx:Sl 1 H x (bs key) key.length) (hy:Sl 1 H y (bs l) l.length) (hn:key.length≤64) (hl:l.length≤100000):Called Tryz.prog F.clapperref04_Of [x,y] H (.agg (bs (hmac key l))) H:=by
 refine e_clapperref04_Of ?_
 simp only [ic_clapperref04_Of,go_sem,z32Z_eq,hx.s,hy.s]
 refine callW_some (r_block 54 hx.app hn) (fun h => by cases h) ?_
 have hy':∀ G,Sl 1 (H++G) y (bs l) l.length:=fun G => hy.app
 have k1:=kblk_length key 54
 have k2:=kblk_length key 92
 rw [hmac]
 generalize kblk key 54=a at *
 have ba:(bs a).length=64:=by rw [bs_len,k1]
 have ey:srcN y=l.length:=hy.s.2.1
 have eC:∀ (a b:List UInt8),appC 1 (bs a) (bs b) 0 a.length b.length a.length=bs (a++b):=fun a b => by rw [appC_end (by omega),bs,bs,bs,List.map_append]
 have eL:∀ n m,appL 1 0 n m m n=n+m:=fun n m => appL_end (by omega)
 have eR:∀ (G K:AH) (b:List UInt8) (id:Nat) (h:id<G.length) (ho:obj G id=⟨bs b,1,true⟩) (n:Nat) (hn:n=b.length),Sl 1 G (.row id 0 n n) (bs b) b.length:=fun G K b id h ho n hn => by
  subst hn
  exact .row h (by rw [ho,bs_len]) (by omega) (by rw [ho,List.drop_zero]; exact List.take_of_length_le (by rw [bs_len]; omega)) (.inl (by rw [ho]))
 have e64:=eC a l
 rw [k1] at e64
 simp only [go_sem,(hy' _).s,ba,one_bs,ey,z32Z_map,e64,bs_len,eL]
 refine ⟨by omega,callW_some (r_Sum (l:=a++l) (eR _ [] _ _ (by simp) (by rw [obj_appk]; rfl) _ (by rw [List.length_append,k1])) (by rw [List.length_append]; omega)) (fun _ => rfl) ?_⟩
 have sl:=sha_len (a++l)
 generalize sha (a++l)=d at *
 obtain ⟨nd,bd,td⟩:=bs32_ne sl
 have sd:=bs32_spl (show zd.length=32 from rfl) sl
 have bz:(bs zd).length=32:=rfl
 simp only [go_sem,z32Z_map,bz,nd,bd,td,sd,one_bs]
 refine callW_some (r_block 92 hx.app hn) (fun h => by cases h) ?_
 generalize kblk key 92=b at *
 have bb:(bs b).length=64:=by rw [bs_len,k2]
 have e64':=eC b d
 rw [k2,sl] at e64'
 simp only [go_sem,bb,bd,td,one_bs,eL,e64']
 refine ⟨by decide,callW_some (r_Sum (l:=b++d) (eR _ [] _ _ (by simp) (by rw [obj_appk]; rfl) _ (by rw [List.length_append,k2,sl])) (by rw [List.length_append]; omega)) (fun _ => rfl) ?_⟩
 have sl2:=sha_len (b++d)
 generalize sha (b++d)=e at *
 obtain ⟨ne,be',te⟩:=bs32_ne sl2
 have se:=bs32_spl (show zd.length=32 from rfl) sl2
 simp only [go_sem,z32Z_map,bz,ne,be',te,se,one_bs]
 exact leave_drop (by simp only [low,lowL_bs])
theorem r_code {H:AH} {x y z:AV} {K V l:List UInt8} (hx:Sl 1 H x (bs K) K.length) (hy:Sl 1 H y (bs V) V.length) (hz:Sl 1 H z (bs l) l.length) (kl:K.length=32) (vl:V.length=32) (hl:l.length≤1000):Called Tryz.prog F.clapperref06_code [x,y,z] H (vB (hmac K (V++l)) false) H:=by
 have hx':∀ G,Sl 1 (H++G) x (bs K) K.length:=fun G => hx.app
 have hy':∀ G,Sl 1 (H++G) y (bs V) V.length:=fun G => hy.app
 have hz':∀ G,Sl 1 (H++G) z (bs l) l.length:=fun G => hz.app
 have ey:srcN y=32:=by rw [hy.s.2.1,vl]
 have ez:srcN z=l.length:=hz.s.2.1
 have b1:(bs V).length=32:=by rw [bs_len,vl]
 have e1:appC 1 (bs V) (bs l) 0 32 l.length 32=bs (V++l):=by rw [appC_end (by omega),bs,bs,bs,List.map_append]
 have eL:appL 1 0 32 l.length l.length 32=32+l.length:=appL_end (by omega)
 refine e_clapperref06_code ?_
 simp only [ic_clapperref06_code,z32Z_eq]
 simp only [go_sem,(hx' _).s,(hy' _).s,(hz' _).s,hx.s,hy.s,hz.s,one_bs,ey,ez,b1,bs_len,e1,eL,vl]
 have hs:Sl 1 (H++[⟨bs (V++l),1,true⟩]) (.row H.length 0 (32+l.length) (32+l.length)) (bs (V++l)) (V++l).length:=by
  have eo:obj (H++[⟨bs (V++l),1,true⟩]) H.length=⟨bs (V++l),1,true⟩:=by rw [obj_app0]; rfl
  rw [List.length_append,vl]
  exact .row (by simp) (by rw [eo,bs_len,List.length_append,vl]) (by omega) (by rw [eo,List.drop_zero]; exact List.take_of_length_le (by rw [bs_len,List.length_append,vl]; omega)) (.inl (by rw [eo]))
 refine ⟨by omega,callW_some (r_macOf (hx' _) hs (by omega) (by rw [List.length_append]; omega)) (fun _ => rfl) ?_⟩
 have hsl:=hmac_l32 K (V++l)
 generalize hmac K (V++l)=d at hsl ⊢
 obtain ⟨nd,bd,td⟩:=bs32_ne hsl
 have sd:=bs32_spl (show zd.length=32 from rfl) hsl
 have bz:(bs zd).length=32:=rfl
 simp only [go_sem,z32Z_map,bz,nd,bd,td,sd,one_bs]
 refine ⟨by decide,leave_drop ?_⟩
 have eo:obj (H++[⟨bs (V++l),1,true⟩,⟨bs d,0,true⟩]) (H.length+1)=⟨bs d,0,true⟩:=by rw [obj_appk]; rfl
 have en:renk H.length [] (H.length+1)=none:=renk_none_add _ _
 have ev:vB d false=.view (bs d) 32 false:=by rw [vB,hsl]
 simp only [low,en,rowView,eo,if_true,List.drop_zero,Nat.mul_one,Nat.zero_add,td]
 rw [if_pos ⟨bd.symm,Nat.le_refl _,pure_bs _⟩,ev]
def candV (d m many:Nat):AV:=.view (ncs (candS d m many 100)) (candS d m many 100).length false
theorem r_List {H:AH} {d:Nat} {h:List UInt8} {many:Nat} (hd:d<(18446744073709551616:Nat)^4) (hh:h.length=32) (hm:many≤16):Called Tryz.prog F.clapperref06_List [.agg (num d),.agg (bs h),I many] H (candV d (be h%(115792089210356248762697446949407573529996955224135760342422259061068512044369:Nat)) many) H:=by
 obtain ⟨nh,bl,th⟩:=bs32_ne hh
 have hN:(115792089210356248762697446949407573529996955224135760342422259061068512044369:Nat)<(18446744073709551616:Nat)^4:=mo_N.lt
 have n4:∀ a,(num a).length=4:=fun a => wd_length _ _
 have sn:∀ a b,splice (num a) 0 (num b)=num b:=fun a b => splice_all (by rw [n4,n4])
 have en:[Z0,Z0,Z0,Z0]=num 0:=rfl
 have hx:∀ G,Sl 1 (H++(⟨num d,0,true⟩::⟨bs h,0,true⟩::G)) (.row (H.length+1) 0 32 32) (bs h) h.length:=fun G => by
  have eo:obj (H++(⟨num d,0,true⟩::⟨bs h,0,true⟩::G)) (H.length+1)=⟨bs h,0,true⟩:=by rw [obj_appk]; rfl
  rw [hh]
  exact .row (by simp) (by rw [eo]; exact bl.symm) (by decide) (by rw [eo,List.drop_zero,List.take_of_length_le (by show (bs h).length≤_; omega)]) (.inr (by rw [eo]))
 have hbe:be h<(18446744073709551616:Nat)^4:=by have:=be_lt h; rw [hh] at this; exact Nat.lt_of_lt_of_le this (by decide)
 refine e_clapperref06_List ?_
 simp only [ic_clapperref06_List,go_sem,one_wd,num_ne,one_bs,nh,bl]
 refine ⟨by decide,callW_some (r_Of (hx _) (by omega)) (fun _ => rfl) ?_⟩
 simp only [go_sem]
 refine callW_some r_N (fun _ => rfl) ?_
 simp only [go_sem]
 refine callW_some (r_In (by decide) hN hbe) (fun _ => rfl) ?_
 have hm2:be h%(115792089210356248762697446949407573529996955224135760342422259061068512044369:Nat)<(18446744073709551616:Nat)^4:=Nat.lt_trans (Nat.mod_lt _ (by decide)) hN
 generalize be h%(115792089210356248762697446949407573529996955224135760342422259061068512044369:Nat)=m at *
 simp only [go_sem,one_wd,num_ne,num_take,n4,en,sn]
 refine callW_some r_lbytes (fun h => by cases h) ?_
 simp only [go_sem,one_wd,num_ne,num_take,n4,en,sn]
 refine callW_some r_lbytes (fun h => by cases h) ?_
 have b1:∀ a,(bs (beN 32 a)).length=32:=fun a => by rw [bs_len,beN_length]
 have b2:∀ a,(bs (beN 32 a)).take 32=bs (beN 32 a):=fun a => List.take_of_length_le (by rw [b1]; exact Nat.le_refl _)
 have e1:appC 1 (bs (beN 32 d)) (bs (beN 32 m)) 0 32 32 32=bs (text d m):=by rw [appC_end (by omega),text,bs,bs,bs,List.map_append]
 have e2:appL 1 0 32 32 32 32=64:=appL_end (by omega)
 simp only [go_sem,b1,b2,one_bs,e1,e2]
 obtain ⟨H5,hH5⟩:∃ H5,H5=H++[⟨num d,0,true⟩,⟨bs h,0,true⟩,⟨num m,0,true⟩,⟨bs (text d m),1,true⟩,⟨bs (beN 32 m),1,true⟩]:=⟨_,rfl⟩
 have tlen:(text d m).length=64:=by rw [text,List.length_append,beN_length,beN_length]
 have btl:(bs (text d m)).length=64:=by rw [bs_len,tlen]
 have l5:H5.length=H.length+5:=by rw [hH5]; simp
 have drop:∀ G,∃ K,H5++G=H++K:=fun G => by rw [hH5,List.append_assoc]; exact ⟨_,rfl⟩
 have ht:∀ G,Sl 1 (H5++G) (.row (H.length+3) 0 64 64) (bs (text d m)) 64:=fun G => by
  have eo:obj (H5++G) (H.length+3)=⟨bs (text d m),1,true⟩:=by rw [obj_old _ _ (by omega),hH5,obj_appk]; rfl
  exact .row (by rw [List.length_append]; omega) (by rw [eo]; exact btl.symm) (by decide) (by rw [eo,List.drop_zero,List.take_of_length_le (by show (bs (text d m)).length≤_; omega)]) (.inl (by rw [eo]))
 rw [← hH5]
 clear hH5
 obtain ⟨xt,hxt⟩:∃ xt,xt=AV.row (H.length+3) 0 64 64:=⟨_,rfl⟩
 rw [← hxt] at ht ⊢
 clear hxt
 have av1:∀ (G:AH) (z:AV) (a:AV),appV 1 G z (.view [a] 1 true)=.view ([a]++srcC 1 G z) (1+srcN z) false:=fun _ _ _ => rfl
 have ah1:∀ (G:AH) (z:AV) (a:AV),appH 1 G z (.view [a] 1 true)=G:=fun _ _ _ => rfl
 have ab1:∀ (G:AH) (z:AV) (a:AV),appBase 1 G z (.view [a] 1 true)=(true=true∧[a].length=1*1∧(1=0∨pureL (srcC 1 G z)=true)):=fun _ _ _ => rfl
 refine w_loop _ (fun (s:Nat × AV × AV × AH) => ([(2,I many),(8,xt),(9,s.2.1),(10,s.2.2.1),(11,I s.1)],H5++s.2.2.2))
  (fun s => s.1≤32∧GR (H5++s.2.2.2) s.2.1 (bs (List.replicate s.1 0))∧GR (H5++s.2.2.2) s.2.2.1 (bs (List.replicate s.1 1))∧(∀ q,rid s.2.1=some q→H5.length≤q)∧(∀ q,rid s.2.2.1=some q→H5.length≤q)∧∀ q,rid s.2.1=some q→rid s.2.2.1≠some q)
  (fun s => 32 - s.1) (0,nilS,nilS,[]) ⟨by decide,.inl ⟨rfl,rfl⟩,.inl ⟨rfl,rfl⟩,(fun q h => by cases h),(fun q h => by cases h),(fun q h => by cases h)⟩ (by rw [List.append_nil]; rfl) ?_
 rintro ⟨i,x,y,G⟩ ⟨hi,gx,gy,rx,ry,rxy⟩
 simp only at hi gx gy rx ry rxy
 have lx:(bs (List.replicate i (0:UInt8))).length=i:=by rw [bs_len,List.length_replicate]
 have ly:(bs (List.replicate i (1:UInt8))).length=i:=by rw [bs_len,List.length_replicate]
 simp only [go_sem]
 refine ⟨fun hc => ?_,fun hc => ?_⟩
 ·have hlt:i<32:=by omega
  have w1:IntKind.i64.wrap ((i:Int)+1)=((i+1:Nat):Int):=by rw [w64 _ (by omega) (by omega)]; omega
  obtain ⟨⟨_,_,c3,c4⟩,g2,n2,f2⟩:=gx.app (b:=1) (s:=.view [u8 0] 1 true) (v:=u8 0) rfl rfl rfl rfl (by omega)
  have gy2:=gy.frame f2 (fun q h1 h2 => rxy q h2 h1)
  obtain ⟨⟨_,_,d3,d4⟩,g3,n3,f3⟩:=gy2.app (b:=1) (s:=.view [u8 1] 1 true) (v:=u8 1) rfl rfl rfl rfl (by omega)
  have s1:srcN x=i:=by rw [gx.sl.s.2.1,lx]
  have s2:srcN y=i:=by rw [gy.sl.s.2.1,ly]
  have e3:∀ b:UInt8,bs (List.replicate i b)++[u8 b]=bs (List.replicate (i+1) b):=fun b => by rw [List.replicate_succ',bs,bs,List.map_append]; rfl
  have F1:Fr H5 _ (fun i => H5.length≤i):=((Fr.app H5 G _).trans (f2.mono fun i hi h => rx i h)).trans (f3.mono fun i hi h => ry i h)
  obtain ⟨K',eK⟩:=(F1.mono (S':=fun _ => False) fun i hi h => by omega).split fun _ h => h
  have nx:∀ q,rid (appV 1 (H5++G) (.view [u8 0] 1 true) x)=some q→H5.length≤q:=fun q h => by
   rcases n2 q h with h | h
   ·exact rx q h
   ·rw [List.length_append] at h; omega
  have hl2:(H5++G).length≤(appH 1 (H5++G) (.view [u8 0] 1 true) x).length:=f2.1
  have rxy2:∀ q,rid (appV 1 (H5++G) (.view [u8 0] 1 true) x)=some q→rid y≠some q:=fun q h h' => by
   rcases n2 q h with h | h
   ·exact rxy q h h'
   ·have:=gy.lt h'; omega
  have g4:=g2.frame f3 (fun q h1 h2 => rxy2 q h1 h2)
  rw [e3] at g3 g4
  refine ⟨⟨by omega,c4⟩,⟨by omega,d4⟩,(i+1,appV 1 (H5++G) (.view [u8 0] 1 true) x,appV 1 (appH 1 (H5++G) (.view [u8 0] 1 true) x) (.view [u8 1] 1 true) y,K'),by rw [w1]; rfl,eK,⟨by show i+1≤32; omega,?_,?_,nx,fun q h => ?_,fun q h h' => ?_⟩,by show 32 - (i+1)<_; omega⟩
  ·show GR (H5++K') (appV 1 (H5++G) (.view [u8 0] 1 true) x) (bs (List.replicate (i+1) 0))
   rw [← eK]; exact g4
  ·show GR (H5++K') (appV 1 (appH 1 (H5++G) (.view [u8 0] 1 true) x) (.view [u8 1] 1 true) y) (bs (List.replicate (i+1) 1))
   rw [← eK]; exact g3
  ·rcases n3 q h with h | h
   ·exact ry q h
   ·rw [List.length_append] at hl2; omega
  ·rcases n3 q h' with h' | h'
   ·exact rxy2 q h h'
   ·have:=g2.lt h; omega
 ·obtain rfl:i=32:=by omega
  have sx:=gx.sl
  have sy:=gy.sl
  rw [bs_len] at sx sy
  have et:srcN xt=64:=(ht []).s.2.1
  have ev:∀ (G:AH) (b:UInt8) (v:Int),v=(b.toNat:Int)→Sl 1 G (.view (.lit (.int .u8 v)::bs (text d m)) 65 false) (bs (b::text d m)) (b::text d m).length:=fun G b v hv => by
   subst hv
   have:=Sl.vB (H:=G) (b::text d m) false
   rw [vB,List.length_cons,tlen] at this
   rw [List.length_cons,tlen]
   exact this
  have evl:∀ b:UInt8,(b::text d m).length≤1000:=fun b => by rw [List.length_cons,tlen]; decide
  simp only [go_sem,(ht _).s,av1,ah1,ab1,et,pure_bs,one_bs]
  refine callW_some (r_code sx sy (ev _ 0 _ rfl) (List.length_replicate ..) (List.length_replicate ..) (evl 0)) (fun _ => rfl) ?_
  obtain ⟨K1,hK1⟩:∃ K1,K1=hmac (List.replicate 32 0) (List.replicate 32 1++(0::text d m)):=⟨_,rfl⟩
  rw [← hK1]
  have k1:K1.length=32:=by rw [hK1]; exact hmac_l32 _ _
  have vk:∀ G,Sl 1 G (vB K1 false) (bs K1) K1.length:=fun G => Sl.vB _ _
  simp only [go_sem]
  refine callW_some (r_code (l:=[]) (Sl.vB K1 false) sy .nil k1 (List.length_replicate ..) (Nat.zero_le _)) (fun _ => rfl) ?_
  rw [List.append_nil]
  obtain ⟨V1,hV1⟩:∃ V1,V1=hmac K1 (List.replicate 32 1):=⟨_,rfl⟩
  rw [← hV1]
  have v1:V1.length=32:=by rw [hV1]; exact hmac_l32 _ _
  simp only [go_sem,(ht _).s,av1,ah1,ab1,et,pure_bs,one_bs]
  refine callW_some (r_code (Sl.vB K1 false) (Sl.vB V1 false) (ev _ 1 _ rfl) k1 v1 (evl 1)) (fun _ => rfl) ?_
  obtain ⟨K2,hK2⟩:∃ K2,K2=hmac K1 (V1++(1::text d m)):=⟨_,rfl⟩
  rw [← hK2]
  have k2:K2.length=32:=by rw [hK2]; exact hmac_l32 _ _
  simp only [go_sem]
  refine callW_some (r_code (l:=[]) (Sl.vB K2 false) (Sl.vB V1 false) .nil k2 v1 (Nat.zero_le _)) (fun _ => rfl) ?_
  rw [List.append_nil]
  have e0:srcS d m 0=(K2,hmac K2 V1):=by
   rw [hK2,hV1,hK1]; rfl
  have eK2:K2=(srcS d m 0).1:=by rw [e0]
  have eV2:hmac K2 V1=(srcS d m 0).2:=by rw [e0]
  rw [eV2,eK2]
  clear eV2 eK2 e0 hK1 hV1 hK2 vk
  obtain ⟨K0,hK0⟩:=drop G
  rw [hK0]
  simp only [go_sem]
  clear hK0 sx sy gx gy rx ry rxy
  have lens:=fun i => srcS_len d m i
  refine w_loop _ (fun (s:Nat × AV × AH) => ([(2,I many),(9,vB (srcS d m s.1).1 false),(10,vB (srcS d m s.1).2 false),(12,s.2.1),(13,I s.1)],H++s.2.2))
   (fun s => s.1≤100∧GRs 4 (H++s.2.2) s.2.1 (ncs (candS d m many s.1)) (candS d m many s.1).length∧∀ q,rid s.2.1=some q→H.length≤q) (fun s => 100 - s.1) (0,nilS,K0) ⟨Nat.zero_le _,.inl ⟨rfl,rfl,rfl⟩,(fun q h => by cases h)⟩ rfl ?_
  rintro ⟨i,y,G⟩ ⟨hi,hg,hq⟩
  simp only at hi hg hq
  have cle:=candS_le d m many i
  simp only [go_sem,hg.sl.s]
  have fin:∀ i y G,GRs 4 (H++G) y (ncs (candS d m many i)) (candS d m many i).length→(∀ q,rid y=some q→H.length≤q)→candS d m many i=candS d m many 100→Leave H y (H++G) (candV d m many) H:=fun i y G hg hq he => by
   rw [he] at hg
   exact leave_drop_le (hg.view (by decide) hq (ncs_pure _))
  refine ⟨fun hc => ?_,fun hc => ?_⟩
  ·rw [Bool.and_eq_true,decide_eq_true_eq,decide_eq_true_eq] at hc
   have hlt:i<100:=by omega
   have hm':¬ (candS d m many i).length=many:=by omega
   have w1:IntKind.i64.wrap ((i:Int)+1)=((i+1:Nat):Int):=by rw [w64 _ (by omega) (by omega)]; omega
   have hcs:candS d m many (i+1)=if maySc (numS d m i) then candS d m many i++[numS d m i] else candS d m many i:=by rw [candS,if_neg hm']
   have lk:=(lens i).1
   have lk3:=(lens (i+1)).1
   have e01:∀ {G:AH},Sl 1 G (.view [.lit (.int .u8 0)] 1 true) (bs [0]) [(0:UInt8)].length:=fun {G} => Sl.view rfl _
   refine callW_some (r_code (l:=[]) (Sl.vB _ false) (Sl.vB _ false) .nil lk (lens i).2 (Nat.zero_le _)) (fun _ => rfl) ?_
   rw [List.append_nil]
   obtain ⟨V2,hV2⟩:∃ V2,V2=hmac (srcS d m i).1 (srcS d m i).2:=⟨_,rfl⟩
   have eK3:hmac (srcS d m i).1 (V2++[0])=(srcS d m (i+1)).1:=by rw [hV2]; rfl
   have eV3:hmac (srcS d m (i+1)).1 V2=(srcS d m (i+1)).2:=by rw [hV2]; rfl
   have v2:V2.length=32:=by rw [hV2]; exact hmac_l32 _ _
   have eN:numS d m i=be V2:=by rw [hV2]; rfl
   rw [← hV2]
   rw [eN] at hcs
   clear eN hV2
   have nb:be V2<(18446744073709551616:Nat)^4:=by have:=be_lt V2; rw [v2] at this; exact Nat.lt_of_lt_of_le this (by decide)
   simp only [go_sem]
   refine callW_some (r_Of (Sl.vB V2 false) (by omega)) (fun _ => rfl) ?_
   generalize be V2=a at *
   simp only [go_sem,one_wd,num_ne,num_take,n4,en,sn]
   refine callW_some (r_may nb) (fun _ => rfl) ?_
   have hg3:GRs 4 (H++(G++[⟨num a,0,true⟩])) y (ncs (candS d m many i)) (candS d m many i).length:=hg.more _
   simp only [go_sem,one_wd,num_ne,num_take,n4,en,sn]
   refine ⟨fun hb => ?_,fun hb => ?_⟩
   ·rw [hb,if_pos rfl] at hcs
    obtain ⟨⟨c1,c2,c3,c4⟩,K',e1,g2,g3⟩:=hg3.step (b:=32) (s:=.view (num a) 1 true) (ws:=num a) hq (by show (num a).length=1*4; rw [n4]) rfl rfl (n4 a) (one_wd 4 a) (by omega)
    refine ⟨by have:=ncs_pure [a]; rw [ncs,List.flatMap_cons,List.flatMap_nil,List.append_nil] at this; exact this,⟨c3,c4⟩,?_⟩
    rw [e1]
    refine callW_some (r_code (l:=[0]) (Sl.vB _ false) (Sl.vB V2 false) e01 lk v2 (by decide)) (fun _ => rfl) ?_
    rw [eK3]
    simp only [go_sem]
    refine callW_some (r_code (l:=[]) (Sl.vB _ false) (Sl.vB V2 false) .nil lk3 v2 (Nat.zero_le _)) (fun _ => rfl) ?_
    rw [List.append_nil,eV3]
    simp only [go_sem,w1]
    refine ⟨(i+1,appV 4 (H++(G++[⟨num a,0,true⟩])) (AV.view (num a) 1 true) y,K'),rfl,rfl,⟨by show i+1≤_; omega,?_,g3⟩,by show _ - (i+1)<_; omega⟩
    show GRs 4 (H++K') (appV 4 (H++(G++[⟨num a,0,true⟩])) (AV.view (num a) 1 true) y) (ncs (candS d m many (i+1))) (candS d m many (i+1)).length
    rw [hcs,ncs_snoc,List.length_append]; exact g2
   ·rw [hb] at hcs
    have hcs:candS d m many (i+1)=candS d m many i:=hcs
    refine callW_some (r_code (l:=[0]) (Sl.vB _ false) (Sl.vB V2 false) e01 lk v2 (by decide)) (fun _ => rfl) ?_
    rw [eK3]
    simp only [go_sem]
    refine callW_some (r_code (l:=[]) (Sl.vB _ false) (Sl.vB V2 false) .nil lk3 v2 (Nat.zero_le _)) (fun _ => rfl) ?_
    rw [List.append_nil,eV3]
    simp only [go_sem,w1]
    refine ⟨(i+1,y,G++[⟨num a,0,true⟩]),rfl,rfl,⟨by show i+1≤_; omega,?_,hq⟩,by show _ - (i+1)<_; omega⟩
    show GRs 4 (H++(G++[⟨num a,0,true⟩])) y (ncs (candS d m many (i+1))) (candS d m many (i+1)).length
    rw [hcs]; exact hg3
  ·refine fin i y G hg hq ?_
   rw [Bool.and_eq_false_iff,decide_eq_false_iff_not,decide_eq_false_iff_not] at hc
   rcases hc with hc | hc
   ·rw [show i=100 by omega]
   ·have hm':(candS d m many i).length=many:=by omega
    have:=candS_stop d m many hm' (100 - i)
    rw [show i+(100 - i)=100 by omega] at this
    exact this.symm
set_option maxRecDepth 10000
theorem baseP:onP baseA:=by
 have:=(toA_on base_on).1
 exact this
noncomputable def sigR:Option (Nat × Nat)→AV
 | some (r,s) => .tup [.agg (sgc r s),Bl true]
 | none => .tup [.agg (sgc 0 0),Bl false]
theorem r_Sign {H:AH} {d:Nat} {h:List UInt8} (hd:d<(18446744073709551616:Nat)^4) (hh:h.length=32):Called Tryz.prog F.clapperref07_Sign [.agg (num d),.agg (bs h)] H (sigR (signS d h)) H:=by
 obtain ⟨ne,bl,bt⟩:=bs32_ne hh
 have n4:∀ a,(num a).length=4:=fun a => wd_length _ _
 have sn:∀ a b,splice (num a) 0 (num b)=num b:=fun a b => splice_all (by rw [n4,n4])
 have e4:[Z0,Z0,Z0,Z0]=num 0:=rfl
 have e84:Z0::Z0::Z0::Z0::num 0=sgc 0 0:=rfl
 have hN:(115792089210356248762697446949407573529996955224135760342422259061068512044369:Nat)<(18446744073709551616:Nat)^4:=mo_N.lt
 refine e_clapperref07_Sign ?_
 simp only [ic_clapperref07_Sign,go_sem,one_wd,num_ne,one_bs,ne]
 refine callW_some r_N (fun _ => rfl) ?_
 simp only [go_sem,one_wd,num_ne,num_take,n4,sn,e4,e84,bl,bt]
 refine callW_some (r_List (many:=16) hd hh (by decide)) (fun _ => rfl) ?_
 rw [candV,signS]
 have cm:=candS_mem d (be h%(115792089210356248762697446949407573529996955224135760342422259061068512044369:Nat)) 16 100
 have cl:=candS_len d (be h%(115792089210356248762697446949407573529996955224135760342422259061068512044369:Nat)) 16 100
 generalize candS d (be h%(115792089210356248762697446949407573529996955224135760342422259061068512044369:Nat)) 16 100=l at *
 simp only [go_sem]
 refine ⟨fun hc => ?_,fun hc => ?_⟩
 ·rw [if_pos (by omega)]
  exact ⟨by rw [n4]; decide,leave_drop rfl⟩
 ·rw [if_neg (by omega)]
  have hv:∀ G,Sl 4 G (.view (ncs l) l.length false) (ncs l) l.length:=fun G => .view (ncs_len l) _
  have hmN:be h%(115792089210356248762697446949407573529996955224135760342422259061068512044369:Nat)<(115792089210356248762697446949407573529996955224135760342422259061068512044369:Nat):=Nat.mod_lt _ (by decide)
  have tn:=fun (G:AH) => r_number (H:=G) hh
  generalize be h%(115792089210356248762697446949407573529996955224135760342422259061068512044369:Nat)=m at *
  refine w_loop _ (fun (s:Nat × AH) => ([(2,.ptr H.length 0),(3,.ptr (H.length+1) 0),(4,.ptr (H.length+2) 0),(6,.ptr (H.length+3) 0),(7,.view (ncs l) l.length false),(8,I s.1)],H++(⟨num d,0,true⟩::⟨bs h,0,true⟩::⟨sgc 0 0,0,true⟩::⟨num (115792089210356248762697446949407573529996955224135760342422259061068512044369:Nat),0,true⟩::s.2)))
   (fun s => s.1≤l.length∧∀ j,j<s.1→goodS d m (l.getD j 0)=false) (fun s => l.length - s.1) (0,[]) ⟨Nat.zero_le _,fun j hj => by cases hj⟩ rfl ?_
  rintro ⟨i,G⟩ ⟨hi,hj⟩
  simp only at hi hj
  simp only [go_sem]
  refine ⟨fun hc => ?_,fun hc => ?_⟩
  ·have hlt:i<l.length:=by omega
   have hk:=cm _ (getD_mem' hlt 0)
   have hgd:goodS d m (l.getD i 0)=true→l.find? (goodS d m)=some (l.getD i 0):=find_at hlt hj
   have hj2:goodS d m (l.getD i 0)=false→∀ j,j<i+1→goodS d m (l.getD j 0)=false:=fun e j hh => by
    rcases Nat.lt_succ_iff_lt_or_eq.1 hh with h1 | rfl
    ·exact hj j h1
    ·exact e
   have w1:IntKind.i64.wrap ((i:Int)+1)=((i+1:Nat):Int):=by rw [w64 _ (by omega) (by omega)]; omega
   simp only [go_sem,(hv _).idx,(hv _).ldOk _ hlt (Nat.le_refl _),(hv _).ldA _ hlt,ncs_elt l hlt,num_take,n4,sn,one_wd,bl,bt,e4,ncs_len]
   have hel:=ncs_elt l hlt
   generalize l.getD i 0=k at *
   have ks:=(maySc_iff k).1 hk
   refine ⟨⟨by omega,by omega⟩,callW_some ⟨rfl,fun G => r_Base⟩ (fun _ => rfl) ?_⟩
   simp only [go_sem,num_take,n4,sn,one_wd,bl,bt,e4]
   refine callW_some ⟨rfl,fun G => r_pmul (a:=baseA) (may_lt hk) baseP⟩ (fun _ => rfl) ?_
   have on1:=(mulA_eq (k:=k) (toA_on base_on).1).2
   rw [show toA (48439561293906451759052585252797914202762949526041747995844080717082404635286:Nat) (36134250956749795798585127919587881956611106672985015071877198253568414405109:Nat) false=baseA from rfl] at on1
   obtain ⟨v1,v2,v3,v4⟩:=on_raw on1
   have er:rOf k=(mulA k baseA).x%(115792089210356248762697446949407573529996955224135760342422259061068512044369:Nat):=rfl
   have es:sOf d k m=fmul (115792089210356248762697446949407573529996955224135760342422259061068512044369:Nat) (minv (115792089210356248762697446949407573529996955224135760342422259061068512044369:Nat) k) (fadd (115792089210356248762697446949407573529996955224135760342422259061068512044369:Nat) m (fmul (115792089210356248762697446949407573529996955224135760342422259061068512044369:Nat) (rOf k) d)):=rfl
   have ef:(goodS d m k=true→l.find? (goodS d m)=some k)∧goodS d m k=(maySc (rOf k)&&maySc (fmul (115792089210356248762697446949407573529996955224135760342422259061068512044369:Nat) (minv (115792089210356248762697446949407573529996955224135760342422259061068512044369:Nat) k) (fadd (115792089210356248762697446949407573529996955224135760342422259061068512044369:Nat) m (fmul (115792089210356248762697446949407573529996955224135760342422259061068512044369:Nat) (rOf k) d)))):=⟨hgd,by rw [← es]; rfl⟩
   obtain ⟨hgd,eg⟩:=ef
   have ez:[Z0,Z0,Z0,Z0,Z0,Z0,Z0,Z0,Bl false]=pcell 0 0 false:=rfl
   have ki:minv (115792089210356248762697446949407573529996955224135760342422259061068512044369:Nat) k<(115792089210356248762697446949407573529996955224135760342422259061068512044369:Nat):=by
    obtain ⟨y,h1,h2⟩:=prm_inv (p:=(115792089210356248762697446949407573529996955224135760342422259061068512044369:Nat)) prm_N ks.1 ks.2
    rw [minv_eq h1 h2]; exact h1
   have kg:Nat.gcd k (115792089210356248762697446949407573529996955224135760342422259061068512044369:Nat)=1:=prm_gcd (p:=(115792089210356248762697446949407573529996955224135760342422259061068512044369:Nat)) prm_N (by rw [Nat.mod_eq_of_lt ks.2]; omega)
   have hN0:0<(115792089210356248762697446949407573529996955224135760342422259061068512044369:Nat):=by decide
   have esg:sigR (Option.map (fun k => (rOf k,sOf d k m)) (some k))=.tup [.agg (sgc (rOf k) (fmul (115792089210356248762697446949407573529996955224135760342422259061068512044369:Nat) (minv (115792089210356248762697446949407573529996955224135760342422259061068512044369:Nat) k) (fadd (115792089210356248762697446949407573529996955224135760342422259061068512044369:Nat) m (fmul (115792089210356248762697446949407573529996955224135760342422259061068512044369:Nat) (rOf k) d)))),Bl true]:=by rw [← es]; rfl
   clear es
   generalize rOf k=r at *
   generalize mulA k baseA=A at *
   have rN:r<(115792089210356248762697446949407573529996955224135760342422259061068512044369:Nat):=by rw [er]; exact Nat.mod_lt _ hN0
   have rlt:r<(18446744073709551616:Nat)^4:=Nat.lt_trans rN hN
   simp only [go_sem,ptc,ez,pc_take,pc_len,pc_one,pc_spl0,pc_x,num_take,n4,sn,one_wd,bl,bt,e4,e84]
   refine ⟨by omega,callW_some (r_In (by decide) hN v2) (fun _ => rfl) ?_⟩
   rw [← er]
   clear er
   simp only [go_sem,num_take,n4,sn,one_wd,bl,bt,e4,e84,ncs_len,hel]
   refine ⟨⟨by omega,by omega⟩,by omega,callW_some ⟨rfl,fun G => r_Inv ks.2 hN (by decide) (by decide) kg⟩ (fun _ => rfl) ?_⟩
   generalize minv (115792089210356248762697446949407573529996955224135760342422259061068512044369:Nat) k=t at *
   simp only [go_sem,num_take,n4,sn,one_wd,bl,bt,e4,e84]
   repeat (refine And.intro (by omega) ?_)
   refine callW_some ⟨rfl,fun G => tn _⟩ (fun _ => rfl) ?_
   simp only [go_sem,num_take,n4,sn,one_wd,bl,bt,e4,e84]
   repeat (refine And.intro (by omega) ?_)
   refine callW_some ⟨rfl,fun G => r_nmul rN hd⟩ (fun _ => rfl) ?_
   have l1:=fmul_lt hN0 r d
   generalize fmul (115792089210356248762697446949407573529996955224135760342422259061068512044369:Nat) r d=a at *
   simp only [go_sem,num_take,n4,sn,one_wd,bl,bt,e4,e84]
   repeat (refine And.intro (by omega) ?_)
   refine callW_some ⟨rfl,fun G => r_Add hmN l1 hN⟩ (fun _ => rfl) ?_
   have l2:=fadd_lt hN0 m a
   generalize fadd (115792089210356248762697446949407573529996955224135760342422259061068512044369:Nat) m a=c at *
   simp only [go_sem,num_take,n4,sn,one_wd,bl,bt,e4,e84]
   repeat (refine And.intro (by omega) ?_)
   refine callW_some ⟨rfl,fun G => r_nmul ki (Nat.lt_trans l2 hN)⟩ (fun _ => rfl) ?_
   have l3:=fmul_lt hN0 t c
   generalize fmul (115792089210356248762697446949407573529996955224135760342422259061068512044369:Nat) t c=s at *
   simp only [go_sem,num_take,n4,sn,one_wd,bl,bt,e4,e84]
   repeat (refine And.intro (by omega) ?_)
   refine callW_some (r_may rlt) (fun _ => rfl) ?_
   simp only [go_sem,num_take,n4]
   repeat (refine And.intro (by omega) ?_)
   refine callW_some (r_may (Nat.lt_trans l3 hN)) (fun _ => rfl) ?_
   generalize maySc r=c1 at *
   generalize maySc s=c2 at *
   -- in stages: all at once is too much for the kernel
   simp only [w_mv,w_keep,keep_nil,keep_cons,look_cons,look_nil,er_t,em_t,er_c,em_c,ok_lit,reduceIte,Nat.reduceEqDiff,if_true,if_false,Bool.false_eq_true]
   simp only [g_mv,guard_lit,ok_lit,em_t,er_t,look_cons,w_pick,em_c,er_c,ok_may,un_lit,un_may,w_mv,w_keep,keep_nil,keep_cons,w_ite,reduceIte,Nat.reduceEqDiff,if_true,if_false,guard_lit]
   have e:∀ x y:Bool,pickv (AV.lit (.bool x)) (AV.lit (.bool y)) (AV.lit (.bool false))=AV.lit (.bool (x&&y)):=fun x y => by cases x <;> rfl
   simp only [e,ite_lit,look_cons,reduceIte,Nat.reduceEqDiff,if_true,if_false,un_lit,un_may,true_and,and_true,beq_true]
   refine ⟨by cases c1 <;> simp [pickOk,okMay,isB,AV.un,asB],fun hb => ?_,fun hb => ?_⟩
   ·simp only [go_sem,num_take,n4,sn,one_wd,bl,bt,e4,e84,fillOk,fillv,sg_spl0,sg_spl4,sg_len,sg_one,sg_spl]
    rw [hgd (by rw [eg]; exact hb),esg,sg_take]
    exact ⟨by omega,by omega,by omega,leave_drop (by simp only [low,lowL,lowL_sg])⟩
   ·simp only [go_sem]
    refine ⟨(i+1,G++[⟨pcell A.x A.y A.isFar,0,true⟩,⟨num r,0,true⟩,⟨num t,0,true⟩,⟨num s,0,true⟩]),by rw [w1],rfl,⟨by show i+1≤_; omega,hj2 (by rw [eg]; exact hb)⟩,by show _ - (i+1)<_; omega⟩
  ·obtain rfl:i=l.length:=by omega
   rw [find_no hj]
   exact ⟨⟨by omega,by rw [n4]; decide⟩,by omega,leave_drop rfl⟩
end Go.Proofs.YtgfploghjpbcaaaGreat.Eng

