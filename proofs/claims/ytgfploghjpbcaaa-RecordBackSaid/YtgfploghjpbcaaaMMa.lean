/- Layer 4: a key's block: the program's walk. -/
import Derived.Test.YtgfploghjpbcaaaMSh
import Derived.Test.YtgfploghjpbcaaaMPu
import Derived.Test.YtgfploghjpbcaaaMPt
import Derived.Test.YtgfploghjpbcaaaMVf
namespace Go.Proofs.Ytgfploghjpbcaaa.Eng
open Go Go.Proofs
set_option linter.unusedVariables false
set_option linter.unusedSimpArgs false
set_option maxRecDepth 10000
theorem xor8 (a b:UInt8):bXor .u8 (a.toNat:Int) (b.toNat:Int)=((a ^^^ b).toNat:Int):=by
 have h:∀ x:UInt8,(BitVec.ofInt 8 (x.toNat:Int)).toNat=x.toNat:=fun x => by
  have:=x.toNat_lt
  rw [BitVec.toNat_ofInt]; omega
 have h2:=(a ^^^ b).toNat_lt
 show IntKind.u8.wrap ((BitVec.ofInt 8 (a.toNat:Int) ^^^ BitVec.ofInt 8 (b.toNat:Int)).toNat:Int)=_
 rw [BitVec.toNat_xor,h,h,← UInt8.toNat_xor]
 generalize (a ^^^ b).toNat=n at h2 ⊢
 simp only [IntKind.wrap,IntKind.bits,IntKind.signed]
 show ((n:Int)%256)=n
 omega
def z64Z:List AV:=bs (List.replicate 64 0)
theorem z64_len:z64Z.length=64:=rfl
theorem z64_bs:z64Z=bs (List.replicate 64 0):=rfl
def kbi (k:List UInt8) (c:UInt8) (i:Nat):List UInt8:=(k.take i).map (· ^^^ c)++k.drop i
theorem kbi_len (k:List UInt8) (c:UInt8) (i:Nat):(kbi k c i).length=k.length:=by
 rw [kbi,List.length_append,List.length_map,List.length_take,List.length_drop]; omega
theorem kbi_get (k:List UInt8) (c:UInt8) {i:Nat} (h:i<k.length):(kbi k c i).getD i 0=k.getD i 0:=by
 rw [kbi,List.getD_eq_getElem?_getD,List.getElem?_append_right (by rw [List.length_map,List.length_take]; omega),List.length_map,List.length_take,Nat.min_eq_left (by omega),Nat.sub_self,List.getElem?_drop,List.getD_eq_getElem?_getD]; rfl
theorem kbi_set (k:List UInt8) (c:UInt8) {i:Nat} (h:i<k.length):(bs (kbi k c i)).set i (u8 (k.getD i 0 ^^^ c))=bs (kbi k c (i+1)):=by
 have l:((k.take i).map (· ^^^ c)).length=i:=by rw [List.length_map,List.length_take]; omega
 have d:k.drop i=k.getD i 0::k.drop (i+1):=by
  rw [List.drop_eq_getElem_cons h,List.getD_eq_getElem?_getD,List.getElem?_eq_getElem h]; rfl
 rw [kbi,kbi,d,take_snoc h 0,List.map_append,bs,bs,List.map_append,List.map_append,List.map_append,List.set_append_right _ _ (by rw [List.length_map,l]; exact Nat.le_refl _),List.length_map,l,Nat.sub_self,List.append_assoc]
 rfl
theorem t_macwith {H:AH} {x:AV} {key:List UInt8} (c:UInt8) (hx:Sl 1 H x (bs key) key.length) (hn:key.length≤64):Called Try.prog F.mac_with [x,u8 c] H (.row H.length 0 64 64) (H++[⟨bs (kblk key c),1,true⟩]):=by
 have hz:kblk key c=(key++List.replicate (64 - key.length) 0).map (· ^^^ c):=by rw [kblk,if_neg (by omega)]
 rw [hz]
 have kl:(key++List.replicate (64 - key.length) (0:UInt8)).length=64:=by rw [List.length_append,List.length_replicate]; omega
 refine e_mac_with ?_
 simp only [ic_mac_with,go_sem,hx.s]
 refine ⟨fun h => absurd h (by omega),fun _ => ?_⟩
 show mkslOk 1 _ _∧copyOk 1 (H++[⟨z64Z,1,true⟩]) _ x∧iwp _ _ _ _ _ (copyH 1 (H++[⟨z64Z,1,true⟩]) x _)
 have hs:Sl 1 (H++[⟨z64Z,1,true⟩]) x (bs key) key.length:=hx.app
 have ec:copyH 1 (H++[⟨z64Z,1,true⟩]) x (.row H.length 0 64 64)=H++[⟨bs (kbi (key++List.replicate (64 - key.length) 0) c 0),1,true⟩]:=by
  have e1:(bs key).take (min key.length 64*1)=bs key:=List.take_of_length_le (by rw [bs_len]; omega)
  have e2:splice z64Z 0 (bs key)=bs (key++List.replicate (64 - key.length) 0):=by
   rw [splice_eq' _ _ _ (by rw [bs_len,z64_len]; omega),z64_bs,bs_len,List.take_zero,List.nil_append,Nat.zero_add,bs,bs,bs,← List.map_drop,List.drop_replicate,← List.map_append]
  have e0:srcN x=key.length:=hs.s.2.1
  show setO (H++[⟨z64Z,1,true⟩]) H.length (splice (obj (H++[⟨z64Z,1,true⟩]) H.length).cs 0 ((srcC 1 (H++[⟨z64Z,1,true⟩]) x).take (min (srcN x) 64*1)))=_
  rw [e0,hs.s.2.2.2.1,e1,obj_app0,setO_app0,obj_cons0]
  show H++[⟨splice z64Z 0 (bs key),1,true⟩]=_
  rw [e2]; rfl
 refine ⟨by refine ⟨trivial,trivial,?_⟩; decide,⟨by rw [hs.s.2.2.1]; trivial,by rw [hs.s.2.2.2.1]; exact one_bs _,?_⟩,?_⟩
 ·exact ⟨by simp,by rw [obj_app0]; rfl,by rw [obj_app0]; rfl,by decide⟩
 rw [ec]
 generalize key++List.replicate (64 - key.length) 0=k at kl
 refine w_loop _ (fun (i:Nat) => ([(1,u8 c),(6,.row H.length 0 64 64),(19,I 64),(20,I i)],H++[⟨bs (kbi k c i),1,true⟩])) (fun i => i≤64) (fun i => 64 - i) 0 (Nat.zero_le _) rfl ?_
 intro i hi
 have bl:(bs (kbi k c i)).length=64:=by rw [bs_len,kbi_len,kl]
 simp only [go_sem]
 refine ⟨fun hh => ?_,fun hh => ?_⟩
 ·have hlt:i<64:=by omega
  have w1:IntKind.i64.wrap ((i:Int)+1)=((i+1:Nat):Int):=by rw [w64 _ (by omega) (by omega)]; omega
  have gi:(bs (kbi k c i)).getD i .junk=u8 (k.getD i 0):=by
   rw [← kbi_get k c (by omega),bs,List.getD_eq_getElem?_getD,List.getElem?_map,List.getD_eq_getElem?_getD,List.getElem?_eq_getElem (show i<(kbi k c i).length by rw [kbi_len,kl]; exact hlt)]; rfl
  simp only [go_sem,bl,gi,xor8,w1]
  refine ⟨⟨by omega,by omega⟩,by omega,⟨by omega,by omega⟩,by omega,i+1,rfl,?_,by omega,by omega⟩
  rw [← kbi_set k c (by omega)]
 ·obtain rfl:i=64:=by omega
  have:kbi k c 64=k.map (· ^^^ c):=by rw [kbi,List.take_of_length_le (by omega),List.drop_of_length_le (by omega),List.append_nil]
  rw [this]
  exact Leave.refl _ _ _
set_option maxRecDepth 10000
abbrev catB (l:List Bt):List UInt8:=l.flatMap Bt.b
theorem kblk_len {key:List UInt8} (h:key.length≤64) (c:UInt8):(kblk key c).length=64:=by
 rw [kblk,if_neg (by omega),List.length_map,List.length_append,List.length_replicate]; omega
theorem HS.app {nb:Nat} {H G:AH} {p:Nat} {l:List UInt8} (h:HS nb H p l):HS nb (H++G) p l:=by
 obtain ⟨h1,h2,r,h3,h4,h5⟩:=h
 exact ⟨by rw [List.length_append]; omega,h2,r,by rw [obj_old _ _ h1]; exact h3,h4.frame (Fr.app _ _ (fun _ => False)) fun _ _ h => h,h5⟩
theorem t_macOf {H:AH} {xk x:AV} {key:List UInt8} {l:List Bt} (hk:Sl 1 H xk (bs key) key.length) (kn:key.length≤64) (hx:Sl 1 H x (l.map Bt.e) l.length) (hl:∀ y ∈ l,Sl 1 H y.e (bs y.b) y.b.length) (hn:l.length≤1000000) (hb:(catB l).length≤1000000):Called Try.prog F.mac_Of [xk,x] H (.agg (bs (hmac key (catB l)))) H:=by
 refine e_mac_Of ?_
 have b32:(bs zd).length=32:=rfl
 simp only [ic_mac_Of,z32Z_eq]
 simp only [go_sem,z32Z_map,hx.s,hk.s]
 refine callW_some t_hnew (fun h => by cases h) ?_
 simp only [go_sem,hx.s,hk.s]
 have hn0:=hs_new (H:=H++[⟨bs zd,0,true⟩]) (nb:=H.length+1) (by simp)
 simp only [go_sem] at hn0
 refine callW_some (t_macwith 54 hk.app kn) (fun h => by cases h) ?_
 simp only [go_sem]
 generalize hW:(vw IV256++[nilS,I 0])=W at hn0 ⊢
 have k54:=kblk_len kn 54
 have hn1:HS (H.length+1) (H++[⟨bs zd,0,true⟩,⟨W,0,true⟩,⟨bs (kblk key 54),1,true⟩]) (H.length+1) []:=by
  have:=HS.app hn0 (G:=[⟨bs (kblk key 54),1,true⟩])
  rw [List.append_assoc] at this
  exact this
 have hb1:Sl 1 (H++[⟨bs zd,0,true⟩,⟨W,0,true⟩,⟨bs (kblk key 54),1,true⟩]) (.row (H.length+2) 0 64 64) (bs (kblk key 54)) (kblk key 54).length:=by
  rw [k54]
  exact .row (by simp) (by rw [obj_appk]; show 64=(bs (kblk key 54)).length; rw [bs_len,k54]) (by decide) (by rw [obj_appk]; exact List.take_of_length_le (by show (bs (kblk key 54)).length≤_; rw [bs_len,k54]; decide)) (by rw [obj_appk]; exact .inl rfl)
 obtain ⟨H1,hc,hs,fr⟩:=t_hwrite hn1 hb1 (fun h => by have:=Option.some.inj h; omega) (by rw [k54]; decide) (by simp)
 rw [List.nil_append] at hs
 obtain ⟨G,hG⟩:=Fr.keep (H:=H) (o:=⟨bs zd,0,true⟩) (Y:=[⟨W,0,true⟩,⟨bs (kblk key 54),1,true⟩]) rfl fr
 refine callW_some hc (fun h => by cases h) ?_
 subst hG
 simp only [go_sem,hx.s]
 have cat_le:∀ i,(catB (l.take i)).length≤(catB l).length:=fun i => by
  have:catB l=catB (l.take i)++catB (l.drop i):=by rw [catB,catB,catB,← List.flatMap_append,List.take_append_drop]
  rw [this,List.length_append]; omega
 refine w_loop _ (fun (s:Nat × AH) => ([(0,xk),(4,.ptr H.length 0),(5,.ptr (H.length+1) 0),(14,x),(15,I l.length),(16,I s.1)],H++(⟨bs zd,0,true⟩::s.2)))
  (fun s => s.1≤l.length∧HS (H.length+1) (H++(⟨bs zd,0,true⟩::s.2)) (H.length+1) (kblk key 54++catB (l.take s.1))) (fun s => l.length - s.1) (0,G) ⟨Nat.zero_le _,by show HS _ _ _ (kblk key 54++[]); rw [List.append_nil]; exact hs⟩ rfl ?_
 rintro ⟨i,G⟩ ⟨hi,hs⟩
 dsimp only at hi hs
 have ci:=cat_le i
 simp only [go_sem]
 refine ⟨fun hh => ?_,fun hh => ?_⟩
 ·have hlt:i<l.length:=by omega
  have he:=hl _ (getD_memP noB hlt)
  have hG:∀ K,Sl 1 (H++K) x (l.map Bt.e) l.length:=fun K => hx.app
  have ld:∀ K,loadV false 1 (H++K) (idxaV 1 (I (i:Int)) x)=(l.getD i noB).e:=fun K => by
   rw [(hG K).ld1 .i64 hlt,List.getD_eq_getElem?_getD,List.getElem?_map,List.getD_eq_getElem?_getD,List.getElem?_eq_getElem hlt]; rfl
  have lk:∀ K,loadOk 1 (H++K) (idxaV 1 (I (i:Int)) x)=True:=fun K => (hG K).ldOk .i64 hlt (Nat.le_refl _)
  have w1:IntKind.i64.wrap ((i:Int)+1)=((i+1:Nat):Int):=by rw [w64 _ (by omega) (by omega)]; omega
  have cn:catB (l.take (i+1))=catB (l.take i)++(l.getD i noB).b:=by
   rw [catB,catB,take_snoc hlt noB,List.flatMap_append]; exact congrArg _ (List.append_nil _)
  have c1:=cat_le (i+1)
  rw [cn,List.length_append] at c1
  obtain ⟨H2,hc,hs2,fr⟩:=t_hwrite hs (he.app (G:=⟨bs zd,0,true⟩::G)) (fun h => by have:=he.rid_lt h; omega) (by rw [List.length_append,k54]; omega) (by simp)
  obtain ⟨G2,hG2⟩:=Fr.keep (H:=H) (o:=⟨bs zd,0,true⟩) (Y:=G) rfl fr
  subst hG2
  simp only [hx.idx,ld,lk,true_and]
  refine ⟨⟨by omega,by omega⟩,callW_some hc (fun h => by cases h) ?_⟩
  simp only [go_sem,w1]
  refine ⟨(i+1,G2),rfl,rfl,⟨by show i+1≤_; omega,?_⟩,by show _ - (i+1)<_; omega⟩
  show HS _ _ _ (kblk key 54++catB (l.take (i+1)))
  rw [cn,← List.append_assoc]
  exact hs2
 ·obtain rfl:i=l.length:=by omega
  rw [List.take_of_length_le (Nat.le_refl _)] at hs
  refine callW_some (t_hsum hs (by rw [List.length_append,k54]; omega)) (fun _ => rfl) ?_
  rw [hmac]
  have d1l:=sha_len (kblk key 54++catB l)
  generalize sha (kblk key 54++catB l)=d1 at d1l ⊢
  obtain ⟨n1,b1,t1⟩:=bs32_ne d1l
  have s1:=bs32_spl (show zd.length=32 from rfl) d1l
  simp only [go_sem,z32Z_map,b32,b1,t1,s1,one_bs]
  have k92:=kblk_len kn 92
  have bk:(bs (kblk key 92)).length=64:=by rw [bs_len,k92]
  have hk2:Sl 1 (H++(⟨bs zd,0,true⟩::(G++[⟨bs d1,0,true⟩]))) xk (bs key) key.length:=hk.app
  have tm:=t_macwith 92 hk2 kn
  have lB:(H++((⟨bs zd,0,true⟩:AObj)::(G++[⟨bs d1,0,true⟩]))).length=H.length+(G.length+1+1):=by simp
  rw [lB,List.append_assoc] at tm
  refine callW_some tm (fun h => by cases h) ?_
  have eL:appL 1 0 64 32 32 64=96:=rfl
  have eC:appC 1 (bs (kblk key 92)) (bs d1) 0 64 32 64=bs (kblk key 92++d1):=by rw [appC_end rfl,bs,bs,bs,List.map_append]
  simp only [go_sem,b1,t1,bk,one_bs,eL,eC]
  have kd:(kblk key 92++d1).length=96:=by rw [List.length_append,k92,d1l]
  have bd:(bs (kblk key 92++d1)).length=96:=by rw [bs_len,kd]
  generalize kblk key 92++d1=w at kd bd ⊢
  have hw:Sl 1 (H++(⟨bs zd,0,true⟩::(G++[⟨bs d1,0,true⟩,⟨bs w,1,true⟩]))) (.row (H.length+(G.length+1+1)) 0 96 96) (bs w) w.length:=by
   have eo:obj (H++(⟨bs zd,0,true⟩::(G++[⟨bs d1,0,true⟩,⟨bs w,1,true⟩]))) (H.length+(G.length+1+1))=⟨bs w,1,true⟩:=by
    rw [obj_appk,obj_consk,obj_appk]; rfl
   rw [kd]
   exact .row (by simp) (by rw [eo]; exact bd.symm) (by decide) (by rw [eo]; exact List.take_of_length_le (by show (bs w).length≤_; rw [bd]; decide)) (by rw [eo]; exact .inl rfl)
  refine ⟨by decide,by omega,callW_some (t_ssum hw (by rw [kd]; decide)) (fun _ => rfl) ?_⟩
  have d2l:=sha_len w
  generalize sha w=d2 at d2l ⊢
  obtain ⟨n2,b2,t2⟩:=bs32_ne d2l
  have s2:=bs32_spl (show zd.length=32 from rfl) d2l
  simp only [go_sem,b32,b2,t2,s2,one_bs]
  exact ⟨by omega,by omega,leave_drop (by simp only [low,lowL_bs])⟩
set_option maxRecDepth 10000
theorem _root_.Go.Proofs.Ytgfploghjpbcaaa.Eng.Called.leave {P:Program} {f:FuncId} {args:List AV} {H H2 H':AH} {v2 v:AV} (h:Called P f args H v2 H2) (hl:Leave H v2 H2 v H'):Called P f args H v H' :=
 ⟨h.ok,fun φ w vals hs hr => (h.runs φ w vals hs hr).mono fun e w' ⟨y,he,φ',h1,h2,h3,h4⟩ => let ⟨φ'',g1,g2,g3⟩:=hl φ w φ' w' y hs h1 h2 h4; ⟨y,he,φ'',g1,g2,h3,g3⟩⟩
theorem t_lbytesV {H:AH} {a:Nat} (ha:a<(18446744073709551616:Nat)^4):Called Try.prog F.limb_Bytes [.agg (num a)] H (vB (beN 32 a) false) H:=by
 have h:=leave_build (H:=H) (sz:=1) (n:=32) (vs:=bs (beN 32 a)) (by decide) (by rw [bs_len,beN_length]) (pure_bs _)
 have e:vB (beN 32 a) false=.view (bs (beN 32 a)) 32 false:=by rw [vB,beN_length]
 have b:(bs (beN 32 a)).length=32:=by rw [bs_len,beN_length]
 rw [e]
 refine (t_lbytes (H:=H) ha).leave ?_
 rw [rA,hA,if_neg (by decide),if_neg (by decide),b] at h
 exact h
structure SrcV (H:AH) (p:Nat) (K V:List UInt8):Prop where
 lt:p<H.length
 o:obj H p=⟨[vB K false,vB V false],0,true⟩
 kl:K.length=32
 vl:V.length=32
theorem t_scode {H:AH} {p:Nat} {K V:List UInt8} {x:AV} {l:List Bt} (hs:SrcV H p K V) (hx:Sl 1 H x (l.map Bt.e) l.length) (hl:∀ y ∈ l,∀ H,Sl 1 H y.e (bs y.b) y.b.length) (hp:∀ y ∈ l,y.e.pure=true) (hn:l.length≤1000) (hb:(catB l).length≤100000):Called Try.prog F.nonce_source_code [.ptr p 0,x] H (vB (hmac K (V++catB l)) false) H:=by
 obtain ⟨lt,ho,kl,vl⟩:=hs
 have hk:=fun G => Sl.vB (H:=G) K false
 refine e_nonce_source_code ?_
 simp only [ic_nonce_source_code,z32Z_eq]
 simp only [go_sem,z32Z_map,hx.s,ho,fillOk,fillv]
 have bb:(catB (⟨V,vB V false⟩::l)).length≤1000000:=by
  show (V++catB l).length≤_
  rw [List.length_append]; omega
 have tm:=fun G => t_macOf (H:=H++G) (x:=.view (AV.view (bs V) V.length false::l.map Bt.e) (1+l.length) false) (l:=⟨V,vB V false⟩::l) (hk _) (by omega) (by
  have:=Sl.view (H:=H++G) (sz:=1) (cs:=AV.view (bs V) V.length false::l.map Bt.e) (n:=1+l.length) (by rw [List.length_cons,List.length_map]; omega) false
  rw [List.length_cons,Nat.add_comm l.length 1]; exact this) (fun y hy => by
  rcases List.mem_cons.1 hy with rfl | hy
  ·exact Sl.vB _ _
  ·exact hl y hy _) (by rw [List.length_cons]; omega) bb
 have pl:pureL (l.map Bt.e)=true:=pureL_all fun a ha => by
  obtain ⟨y,hy,rfl⟩:=List.mem_map.1 ha
  exact hp y hy
 have ol:(l.map Bt.e).all AV.one=true:=by
  rw [List.all_eq_true]
  intro a ha
  obtain ⟨y,hy,rfl⟩:=List.mem_map.1 ha
  exact (hl y hy []).one
 have ec:catB (⟨V,vB V false⟩::l)=V++catB l:=rfl
 rw [ec] at tm
 refine ⟨lt,lt,pure_bs _,⟨pl,ol,by omega⟩,callW_some ⟨rfl,tm⟩ (fun _ => rfl) ?_⟩
 rw [hmac] at *
 have hsl:=sha_len (kblk K 92++sha (kblk K 54++(V++catB l)))
 generalize sha (kblk K 92++sha (kblk K 54++(V++catB l)))=d at hsl ⊢
 obtain ⟨nd,bd,td⟩:=bs32_ne hsl
 have sd:=bs32_spl (show zd.length=32 from rfl) hsl
 have bz:(bs zd).length=32:=rfl
 simp only [go_sem,z32Z_map,bz,nd,bd,td,sd,one_bs]
 refine ⟨by decide,leave_drop ?_⟩
 have eo:obj (H++[⟨bs d,0,true⟩]) H.length=⟨bs d,0,true⟩:=obj_app0 ..
 have en:renk H.length [] H.length=none:=renk_none _
 have ev:vB d false=.view (bs d) 32 false:=by rw [vB,hsl]
 simp only [low,en,rowView,eo,if_true,List.drop_zero,Nat.mul_one,Nat.zero_add,td]
 rw [if_pos ⟨bd.symm,Nat.le_refl _,pure_bs _⟩,ev]
variable {P:Program} {f:FuncId} {H:AH}
def renQ (q:Nat) (id:Nat):Option Nat:=if id=q then none else some id
def frzO (H:AH) (q p i:Nat) (o:AObj):AObj:=if i=q then ⟨o.cs,o.sz,false⟩ else if i=p then ⟨lowL (renQ q) H o.cs,o.sz,o.rw⟩ else o
def frz (H:AH) (q p:Nat):AH:=H.mapIdx (frzO H q p)
theorem frz_get {q p i:Nat}:(frz H q p)[i]? = (H[i]?).map (frzO H q p i):=by rw [frz,List.getElem?_mapIdx]
theorem lowL_len (ren:Nat→Option Nat) (H:AH):∀ l:List AV,(lowL ren H l).length=l.length
 | [] => rfl
 | a::r => congrArg (·+1) (lowL_len ren H r)
theorem frzO_len {q p i:Nat} (o:AObj):(frzO H q p i o).cs.length=o.cs.length∧(frzO H q p i o).sz=o.sz∧((frzO H q p i o).rw=true→o.rw=true):=by
 unfold frzO
 split
 ·exact ⟨rfl,rfl,fun h => by cases h⟩
 ·split
  ·exact ⟨lowL_len _ _ _,rfl,id⟩
  ·exact ⟨rfl,rfl,id⟩
theorem frz_wr {φ:Nat→Option Nat} {w:World} {q p b:Nat} (h:Wr (cx φ (frz H q p) w) b):Wr (cx φ H w) b:=by
 obtain ⟨id,o,h1,h2,h3⟩:=h
 have h1:(frz H q p)[id]? = some o:=h1
 rw [frz_get] at h1
 obtain ⟨o',g1,rfl⟩:=Option.map_eq_some_iff.1 h1
 exact ⟨id,o',g1,(frzO_len o').2.2 h2,h3⟩
theorem frz_ext {φ:Nat→Option Nat} {w:World} {q p:Nat} (hp:(obj H p).rw=true):Ext (cx φ H w) (cx φ (frz H q p) w):=by
 refine ⟨Nat.le_refl _,fun _ _ _ => rfl,fun b c e fr h => ⟨c,fr,h,rfl⟩,fun i o h => ?_,fun i b h1 h2 h3 => ⟨by simpa [cx,frz] using h1,h2⟩⟩
 have h:H[i]? = some o:=h
 obtain ⟨l1,l2,l3⟩:=frzO_len (H:=H) (q:=q) (p:=p) (i:=i) o
 refine ⟨frzO H q p i o,by show (frz H q p)[i]? = _; rw [frz_get,h]; rfl,.inr ⟨l2,Nat.le_of_eq l1.symm,fun _ => l1,l3,fun hh => ?_,fun _ => rfl⟩⟩
 unfold frzO
 split
 ·cases o; simp_all
 ·split
  ·rename_i h1 h2
   subst h2
   have:obj H i=o:=by simp [obj,List.getD_eq_getElem?_getD,h]
   rw [this,hh] at hp; cases hp
  ·rfl
theorem frz_lows {φ:Nat→Option Nat} {w:World} {q p:Nat} (hs:St (cx φ H w)):Lows φ φ H (frz H q p) w (renQ q):=by
 refine ⟨hs,fun b off us hi => ⟨hi.1,fun hw => hi.2 (frz_wr hw)⟩,fun id j hj o ho => ?_,fun id hid b hlt hb hw => ?_⟩
 ·unfold renQ at hj
  split at hj
  ·cases hj
  ·cases hj
   obtain ⟨l1,l2,_⟩:=frzO_len (H:=H) (q:=q) (p:=p) (i:=id) o
   exact ⟨frzO H q p id o,by rw [frz_get,ho]; rfl,l2,l1,rfl⟩
 ·unfold renQ at hid
  split at hid
  ·rename_i h
   subst h
   obtain ⟨i2,o2,h1,h2,h3⟩:=hw
   have h1:(frz H id p)[i2]? = some o2:=h1
   rw [frz_get] at h1
   obtain ⟨o',g1,rfl⟩:=Option.map_eq_some_iff.1 h1
   have hl2:i2<H.length:=by
    rcases Nat.lt_or_ge i2 H.length with h | h
    ·exact h
    ·rw [List.getElem?_eq_none h] at g1; cases g1
   have:i2=id:=hs.inj i2 id b hl2 hlt h3 hb
   subst this
   rw [frzO,if_pos rfl] at h2
   cases h2
  ·cases hid
theorem frz_st {φ:Nat→Option Nat} {w:World} {q p:Nat} (hp:(obj H p).rw=true) (hs:St (cx φ H w)):St (cx φ (frz H q p) w):=by
 have hx:=frz_ext (φ:=φ) (w:=w) (q:=q) hp
 have hL:=frz_lows (q:=q) (p:=p) hs
 refine ⟨fun i o' h => ?_,fun i j b hi hj => hs.inj i j b (by simpa [cx,frz] using hi) (by simpa [cx,frz] using hj)⟩
 have h:(frz H q p)[i]? = some o':=h
 rw [frz_get] at h
 obtain ⟨o,g1,rfl⟩:=Option.map_eq_some_iff.1 h
 obtain ⟨l1,l2,l3⟩:=frzO_len (H:=H) (q:=q) (p:=p) (i:=i) o
 rcases hs.ok i o g1 with ⟨h1,h2⟩ | ⟨b,c,e,fr,h1,h2,h3,h4,h5⟩
 ·exact .inl ⟨h1,List.eq_nil_of_length_eq_zero (by rw [l1,h2]; rfl)⟩
 ·refine .inr ⟨b,c,e,fr,h1,h2,⟨h3.1,fun hd => h3.2 ⟨List.eq_nil_of_length_eq_zero (by rw [← l1,hd.1]; rfl),by rw [← l2]; exact hd.2⟩⟩,by rw [l1]; exact h4,?_⟩
  rw [l1]
  unfold frzO
  split
  ·exact h5.mono hx
  ·split
   ·exact lowL_R hL _ h5
   ·exact h5.mono hx
theorem _root_.Go.Proofs.Ytgfploghjpbcaaa.Eng.Called.freeze {args:List AV} {v:AV} {H':AH} {q p:Nat} (hp:(obj H p).rw=true) (h:Called P f (lowL (renQ q) H args) (frz H q p) v H'):Called P f args H v H' :=
 ⟨h.ok,fun φ w vals hs hr => (h.runs φ w vals (frz_st hp hs) (lowL_R (frz_lows hs) _ hr)).mono fun e w' ⟨y,he,φ',h1,h2,h3,h4⟩ => ⟨y,he,φ',h1,(frz_ext hp).trans h2,h3,h4⟩⟩
set_option maxRecDepth 10000
theorem hmac_l32 (k t:List UInt8):(hmac k t).length=32:=sha_len _
theorem srcV_set {H:AH} {p:Nat} {K V K' V':List UInt8} (hs:SrcV H p K V) (hk:K'.length=32) (hv:V'.length=32):SrcV (setO H p [vB K' false,vB V' false]) p K' V':=by
 obtain ⟨lt,ho,kl,vl⟩:=hs
 exact ⟨by rw [setO_length]; exact lt,by rw [obj_setO _ _ lt,ho],hk,hv⟩
theorem SrcV.app {H G:AH} {p:Nat} {K V:List UInt8} (hs:SrcV H p K V):SrcV (H++G) p K V:=by
 obtain ⟨lt,ho,kl,vl⟩:=hs
 exact ⟨by rw [List.length_append]; omega,by rw [obj_old _ _ lt]; exact ho,kl,vl⟩
theorem t_mix {H:AH} {p:Nat} {K V:List UInt8} {x:AV} {l:List Bt} (hs:SrcV H p K V) (hx:Sl 1 H x (l.map Bt.e) l.length) (hl:∀ y ∈ l,∀ H,Sl 1 H y.e (bs y.b) y.b.length) (hp:∀ y ∈ l,y.e.pure=true) (hn:l.length≤1000) (hb:(catB l).length≤100000):Called Try.prog F.nonce_source_mix [.ptr p 0,x] H (.tup []) (setO H p [vB (mixS K V (catB l)).1 false,vB (mixS K V (catB l)).2 false]):=by
 refine e_nonce_source_mix ?_
 simp only [ic_nonce_source_mix,go_sem]
 refine callW_some (t_scode hs hx hl hp hn hb) (fun _ => rfl) ?_
 obtain ⟨lt,ho,kl,vl⟩:=hs
 simp only [go_sem,ho]
 have h1:=hmac_l32 K (V++catB l)
 have hs2:=srcV_set (K':=hmac K (V++catB l)) (V':=V) ⟨lt,ho,kl,vl⟩ h1 vl
 have e1:mixS K V (catB l)=(hmac K (V++catB l),hmac (hmac K (V++catB l)) V):=rfl
 rw [e1]
 generalize hmac K (V++catB l)=K1 at h1 hs2 ⊢
 have tc:=t_scode (x:=nilS) (l:=[]) hs2 .nil (fun y hy => by cases hy) (fun y hy => by cases hy) (Nat.zero_le _) (Nat.zero_le _)
 rw [show V++catB []=V from List.append_nil V] at tc
 have h2:=hmac_l32 K1 V
 generalize hmac K1 V=V1 at tc h2 ⊢
 refine ⟨lt,callW_some tc (fun _ => rfl) ?_⟩
 have ov:obj (setO H p [vB K1 false,vB V false]) p=⟨[vB K1 false,vB V false],0,true⟩:=by rw [obj_setO _ _ lt,ho]
 have ov':obj (setO H p [AV.view (bs K1) K1.length false,vB V false]) p=⟨[vB K1 false,vB V false],0,true⟩:=ov
 simp only [go_sem,ov',ov]
 rw [setO_setO]
 exact ⟨lt,Leave.refl _ _ _⟩
theorem t_next {H:AH} {p:Nat} {K V:List UInt8} (hs:SrcV H p K V):Called Try.prog F.nonce_source_next [.ptr p 0] H (.agg (num (be (hmac K V)))) (setO H p [vB (mixS K (hmac K V) [0]).1 false,vB (mixS K (hmac K V) [0]).2 false]):=by
 refine e_nonce_source_next ?_
 simp only [ic_nonce_source_next,go_sem]
 have tc:=t_scode (x:=nilS) (l:=[]) (SrcV.app (G:=[⟨num 0,0,true⟩]) hs) .nil (fun y hy => by cases hy) (fun y hy => by cases hy) (Nat.zero_le _) (Nat.zero_le _)
 rw [show V++catB []=V from List.append_nil V] at tc
 refine callW_some tc (fun _ => rfl) ?_
 have h1:=hmac_l32 K V
 have hs1:=srcV_set (K':=K) (V':=hmac K V) hs hs.kl h1
 obtain ⟨lt,ho,kl,vl⟩:=hs
 have o0:∀ G,obj (H++G) p=⟨[vB K false,vB V false],0,true⟩:=fun G => by rw [obj_old _ _ lt]; exact ho
 have l0:∀ G:AH,p<(H++G).length:=fun G => by rw [List.length_append]; omega
 have s0:∀ G c,setO (H++G) p c=setO H p c++G:=fun G c => setO_old _ _ _ lt
 generalize hmac K V=V1 at h1 tc hs1 ⊢
 have ev:AV.view (bs V1) V1.length false=vB V1 false:=rfl
 simp only [go_sem,o0,l0,s0,ev]
 obtain ⟨H2,e2⟩:∃ H2,H2=setO H p [vB K false,vB V1 false]:=⟨_,rfl⟩
 have len:H.length=H2.length:=by rw [e2,setO_length]
 rw [← e2] at hs1 ⊢
 have o2:∀ G,obj (H2++G) p=⟨[vB K false,vB V1 false],0,true⟩:=fun G => by rw [obj_old _ _ hs1.lt]; exact hs1.o
 have l2:∀ G:AH,p<(H2++G).length:=fun G => by rw [List.length_append]; have:=hs1.lt; omega
 have s2:∀ G c,setO (H2++G) p c=setO H2 p c++G:=fun G c => setO_old _ _ _ hs1.lt
 have s3:∀ c,setO H2 p c=setO H p c:=fun c => by rw [e2,setO_setO]
 rw [len]
 simp only [go_sem,o2,l2]
 refine ⟨by omega,by omega,callW_some (t_lof (Sl.vB V1 false) (by omega)) (fun _ => rfl) ?_⟩
 have n4:(num (be V1)).length=4:=wd_length _ _
 have n40:(num 0).length=4:=wd_length _ _
 have en:[Z0,Z0,Z0,Z0]=num 0:=rfl
 have sn:splice (num 0) 0 (num (be V1))=num (be V1):=splice_all (by rw [n4,n40])
 have tn:(num (be V1)).take 4=num (be V1):=List.take_of_length_le (by omega)
 simp only [go_sem,fillOk,fillv,en,sn,n4,n40,one_wd]
 have tm:=fun G => t_mix (SrcV.app (G:=G) hs1) (x:=.view [.view [u8 0] 1 true] 1 true) (l:=[⟨[0],vB [0] true⟩]) (.view rfl _) (fun y hy H => by rw [List.mem_singleton] at hy; subst hy; exact Sl.vB _ _) (fun y hy => by rw [List.mem_singleton] at hy; subst hy; rfl) (by decide) (by decide)
 rw [show catB [⟨[0],vB [0] true⟩]=[0] from rfl] at tm
 refine callW_some (tm _) (fun h => by cases h) ?_
 rw [s2,s3]
 generalize mixS K V1 [0]=kv
 obtain ⟨K2,V2⟩:=kv
 rw [← len]
 have l3:(setO H p [vB K2 false,vB V2 false]).length=H.length:=setO_length _ _ _
 obtain ⟨H3,e3⟩:∃ H3,H3=setO H p [vB K2 false,vB V2 false]:=⟨_,rfl⟩
 have l4:H.length=H3.length:=by rw [e3,l3]
 rw [← e3,l4]
 simp only [go_sem,n4,n40,sn,tn,one_wd]
 rw [e3]
 exact leave_set lt (by rw [ho]) rfl (by simp only [low,lowL_wd])
set_option maxRecDepth 10000
theorem frz_app (H G:AH) (q p:Nat):frz (H++G) (H.length+q) (H.length+p)=H++G.mapIdx (fun i o => frzO (H++G) (H.length+q) (H.length+p) (H.length+i) o):=by
 rw [frz,List.mapIdx_append]
 congr 1
 ·apply List.ext_getElem?
  intro i
  rw [List.getElem?_mapIdx]
  cases h:H[i]? with
  | none => rfl
  | some o =>
   have hi:i<H.length:=by
    rcases Nat.lt_or_ge i H.length with h1 | h1
    ·exact h1
    ·rw [List.getElem?_eq_none h1] at h; cases h
   show some (frzO _ _ _ i o)=some o
   rw [frzO,if_neg (by omega),if_neg (by omega)]
 ·congr 1
  funext i o
  rw [Nat.add_comm i]
def one32 (i:Nat):List UInt8:=List.replicate i 1++List.replicate (32 - i) 0
theorem one32_len {i:Nat} (h:i≤32):(one32 i).length=32:=by rw [one32,List.length_append,List.length_replicate,List.length_replicate]; omega
theorem one32_set {i:Nat} (h:i<32):(bs (one32 i)).set i (u8 1)=bs (one32 (i+1)):=by
 rw [one32,one32,bs,bs,List.map_append,List.map_append,List.set_append_right _ _ (by rw [List.length_map,List.length_replicate]; exact Nat.le_refl _),List.length_map,List.length_replicate,Nat.sub_self,show 32 - i=(32 - (i+1))+1 by omega,List.replicate_succ,List.replicate_succ',List.map_append,List.append_assoc]
 rfl
def bgS (d m:Nat):Nat→List UInt8 × List UInt8
 | 0 => (List.replicate 32 0,List.replicate 32 1)
 | i+1 => mixS (bgS d m i).1 (bgS d m i).2 (UInt8.ofNat i::text d m)
theorem bgS_2 (d m:Nat):bgS d m 2=beginS d m:=rfl
def bgH (H:AH) (d m:Nat):Nat→AH
 | 0 => H++[⟨num d,0,true⟩,⟨num m,0,true⟩,⟨bs zd,1,true⟩,⟨bs (one32 32),1,true⟩,⟨[.row (H.length+2) 0 32 32,.row (H.length+3) 0 32 32],0,true⟩]
 | i+1 => H++[⟨num d,0,true⟩,⟨num m,0,true⟩,⟨bs zd,1,false⟩,⟨bs (one32 32),1,false⟩,⟨[vB (bgS d m (i+1)).1 false,vB (bgS d m (i+1)).2 false],0,true⟩]
def z32B:List AV:=bs (List.replicate 32 0)
def bgL (d m:Nat) (x:UInt8):List Bt:=[⟨[x],vB [x] true⟩,⟨beN 32 d,vB (beN 32 d) false⟩,⟨beN 32 m,vB (beN 32 m) false⟩]
theorem bgL_cat (d m:Nat) (x:UInt8):catB (bgL d m x)=x::text d m:=by
 show [x]++(beN 32 d++(beN 32 m++[]))=_
 rw [List.append_nil]; rfl
theorem bg_mix {H:AH} {p d m:Nat} {K V:List UInt8} (x:UInt8) (hs:SrcV H p K V):Called Try.prog F.nonce_source_mix [.ptr p 0,.view [vB [x] true,vB (beN 32 d) false,vB (beN 32 m) false] 3 true] H (.tup []) (setO H p [vB (mixS K V (x::text d m)).1 false,vB (mixS K V (x::text d m)).2 false]):=by
 have:=t_mix hs (x:=.view [vB [x] true,vB (beN 32 d) false,vB (beN 32 m) false] 3 true) (l:=bgL d m x) (.view rfl _) (fun y hy H => by
  simp only [bgL,List.mem_cons,List.not_mem_nil,or_false] at hy
  rcases hy with rfl | rfl | rfl <;> exact Sl.vB _ _) (fun y hy => by
  simp only [bgL,List.mem_cons,List.not_mem_nil,or_false] at hy
  rcases hy with rfl | rfl | rfl <;> exact pure_bs _) (by show 3≤1000; decide) (by rw [bgL_cat]; show (text d m).length+1≤_; rw [text,List.length_append,beN_length,beN_length]; decide)
 rw [bgL_cat] at this
 exact this
theorem bgS_len (d m i:Nat):(bgS d m i).1.length=32∧(bgS d m i).2.length=32:=by
 cases i with
 | zero => exact ⟨rfl,rfl⟩
 | succ i => exact ⟨hmac_l32 _ _,hmac_l32 _ _⟩
theorem bg_src (H:AH) (d m i:Nat):SrcV (bgH H d m (i+1)) (H.length+4) (bgS d m (i+1)).1 (bgS d m (i+1)).2 :=
 ⟨by simp [bgH],by rw [bgH,obj_appk]; rfl,(bgS_len d m _).1,(bgS_len d m _).2⟩
def bgF (H:AH) (d m:Nat):AH:=H++[⟨num d,0,true⟩,⟨num m,0,true⟩,⟨bs zd,1,false⟩,⟨bs (one32 32),1,false⟩,⟨[vB zd false,vB (one32 32) false],0,true⟩]
def bgM (H:AH) (d m:Nat):AH:=H++[⟨num d,0,true⟩,⟨num m,0,true⟩,⟨bs zd,1,false⟩,⟨bs (one32 32),1,true⟩,⟨[vB zd false,.row (H.length+3) 0 32 32],0,true⟩]
theorem bg_frz1 (H:AH) (d m:Nat):frz (bgH H d m 0) (H.length+2) (H.length+4)=bgM H d m:=by
 have o2:obj (bgH H d m 0) (H.length+2)=⟨bs zd,1,true⟩:=by rw [bgH,obj_appk]; rfl
 have r1:rowView (bgH H d m 0) (H.length+2) 0 32 32=vB zd false:=by
  rw [rowView,o2]; rfl
 have e0:lowL (renQ (H.length+2)) (bgH H d m 0) [.row (H.length+2) 0 32 32,.row (H.length+3) 0 32 32]=[vB zd false,.row (H.length+3) 0 32 32]:=by
  simp [lowL,low,renQ,r1]
 rw [bgH,frz_app,← bgH]
 simp [frzO,List.mapIdx_cons,bgM]
 exact e0
theorem bg_frz2 (H:AH) (d m:Nat):frz (bgM H d m) (H.length+3) (H.length+4)=bgF H d m:=by
 have o2:obj (bgM H d m) (H.length+3)=⟨bs (one32 32),1,true⟩:=by rw [bgM,obj_appk]; rfl
 have r1:rowView (bgM H d m) (H.length+3) 0 32 32=vB (one32 32) false:=by
  rw [rowView,o2]; rfl
 have e0:lowL (renQ (H.length+3)) (bgM H d m) [vB zd false,.row (H.length+3) 0 32 32]=[vB zd false,vB (one32 32) false]:=by
  simp [lowL,low,renQ,r1,vB]
 rw [bgM,frz_app,← bgM]
 simp [frzO,List.mapIdx_cons,bgF]
 exact e0
theorem bg_args (q p d m:Nat) (x:UInt8) (H:AH) (h:p≠q):lowL (renQ q) H [.ptr p 0,.view [vB [x] true,vB (beN 32 d) false,vB (beN 32 m) false] 3 true]=[.ptr p 0,.view [vB [x] true,vB (beN 32 d) false,vB (beN 32 m) false] 3 true]:=by
 simp [lowL,low,renQ,h]
theorem bg_first (H:AH) (d m:Nat):Called Try.prog F.nonce_source_mix [.ptr (H.length+4) 0,.view [vB [0] true,vB (beN 32 d) false,vB (beN 32 m) false] 3 true] (bgH H d m 0) (.tup []) (bgH H d m 1):=by
 have hs:SrcV (bgF H d m) (H.length+4) zd (one32 32):=⟨by simp [bgF],by rw [bgF,obj_appk]; rfl,rfl,rfl⟩
 have h:=bg_mix (d:=d) (m:=m) 0 hs
 have e:setO (bgF H d m) (H.length+4) [vB (mixS zd (one32 32) (0::text d m)).1 false,vB (mixS zd (one32 32) (0::text d m)).2 false]=bgH H d m 1:=by
  rw [bgF,setO_appk]; rfl
 rw [e,← bg_frz2,← bg_args (H.length+3) (H.length+4) d m 0 (bgM H d m) (by omega)] at h
 have h2:=Called.freeze (by rw [bgM,obj_appk]; rfl) h
 rw [← bg_frz1,← bg_args (H.length+2) (H.length+4) d m 0 (bgH H d m 0) (by omega)] at h2
 exact Called.freeze (by rw [bgH,obj_appk]; rfl) h2
theorem t_begin {H:AH} {d m:Nat} (hd:d<(18446744073709551616:Nat)^4) (hm:m<(18446744073709551616:Nat)^4):Called Try.prog F.nonce_begin [.agg (num d),.agg (num m)] H (.ptr H.length 0) (H++[⟨[vB (beginS d m).1 false,vB (beginS d m).2 false],0,true⟩]):=by
 have n4:∀ a,(num a).length=4:=fun a => wd_length _ _
 have ne:∀ n,(num n).isEmpty=false:=fun n => rfl
 have tn:∀ a,(num a).take 4=num a:=fun a => List.take_of_length_le (by rw [n4]; exact Nat.le_refl _)
 have el0:elt [u8 0,u8 1] 1 0=[u8 0]:=rfl
 have el1:elt [u8 0,u8 1] 1 1=[u8 1]:=rfl
 refine e_nonce_begin ?_
 have x1:H.length+2+1=H.length+3:=rfl
 have x2:H.length+2+2=H.length+4:=rfl
 simp only [ic_nonce_begin,go_sem,one_wd,ne,x1,x2,fillOk,fillv]
 refine ⟨by refine ⟨trivial,trivial,?_⟩; decide,by refine ⟨trivial,trivial,?_⟩; decide,?_⟩
 refine w_loop _ (fun (i:Nat) => ([(2,.ptr H.length 0),(3,.ptr (H.length+1) 0),(5,.ptr (H.length+4) 0),(17,I 32),(18,I i)],H++[⟨num d,0,true⟩,⟨num m,0,true⟩,⟨z32B,1,true⟩,⟨bs (one32 i),1,true⟩,⟨[.row (H.length+2) 0 32 32,.row (H.length+3) 0 32 32],0,true⟩])) (fun i => i≤32) (fun i => 32 - i) 0 (Nat.zero_le _) rfl ?_
 intro i hi
 have ol:=one32_len hi
 have obl:(bs (one32 i)).length=32:=by rw [bs_len,ol]
 simp only [go_sem]
 refine ⟨fun hh => ?_,fun hh => ?_⟩
 ·have hlt:i<32:=by omega
  have w1:IntKind.i64.wrap ((i:Int)+1)=((i+1:Nat):Int):=by rw [w64 _ (by omega) (by omega)]; omega
  simp only [go_sem,obl,w1]
  refine ⟨⟨by omega,by omega⟩,by omega,i+1,rfl,?_,by omega,by omega⟩
  rw [← one32_set hlt]; rfl
 ·obtain rfl:i=32:=by omega
  refine w_loop _ (fun (i:Nat) => ([(2,.ptr H.length 0),(3,.ptr (H.length+1) 0),(5,.ptr (H.length+4) 0),(28,.view [u8 0,u8 1] 2 true),(29,I 2),(30,I i)],bgH H d m i)) (fun i => i≤2) (fun i => 2 - i) 0 (Nat.zero_le _) rfl ?_
  intro i hi
  simp only [go_sem]
  refine ⟨fun hh => ?_,fun hh => ?_⟩
  ·have hlt:i<2:=by omega
   match i,hlt with
   | 0,_ =>
    simp only [bgH,go_sem,el0,n4,tn]
    refine ⟨by decide,callW_some (t_lbytesV hd) (fun h => by cases h) ?_⟩
    simp only [go_sem,n4,tn,one_wd]
    refine callW_some (t_lbytesV hm) (fun h => by cases h) ?_
    simp only [go_sem,fillOk,fillv]
    refine ⟨by rw [pure_bs,pure_bs]; rfl,callW_some (bg_first H d m) (fun h => by cases h) ?_⟩
    simp only [go_sem]
    exact ⟨1,rfl,rfl,by omega,by omega⟩
   | 1,_ =>
    simp only [bgH,go_sem,el1,n4,tn]
    refine ⟨⟨by decide,by decide⟩,callW_some (t_lbytesV hd) (fun h => by cases h) ?_⟩
    simp only [go_sem,n4,tn,one_wd]
    refine callW_some (t_lbytesV hm) (fun h => by cases h) ?_
    simp only [go_sem,fillOk,fillv]
    refine ⟨by rw [pure_bs,pure_bs]; rfl,callW_some (bg_mix (d:=d) (m:=m) 1 (bg_src H d m 0)) (fun h => by cases h) ?_⟩
    have e:setO (bgH H d m (0+1)) (H.length+4) [vB (mixS (bgS d m (0+1)).1 (bgS d m (0+1)).2 (1::text d m)).1 false,vB (mixS (bgS d m (0+1)).1 (bgS d m (0+1)).2 (1::text d m)).2 false]=bgH H d m 2:=by
     rw [bgH,setO_appk]; rfl
    simp only [go_sem]
    exact ⟨2,rfl,rfl,by omega,by omega⟩
  ·obtain rfl:i=2:=by omega
   simp only [bgH]
   refine leave_keep [4] (by decide) (by simp) ?_ ?_
   ·simp [low,renk_at,List.idxOf?_cons]
   ·simp [lowObj,lowL,low,vB,obj]
    rw [bgS_2]
    exact ⟨⟨rfl,rfl⟩,rfl,rfl⟩
def GRs (sz:Nat) (H:AH) (x:AV) (vs:List AV) (n:Nat):Prop :=
 (x=nilS∧vs=[]∧n=0)∨∃ q L cs,x=.row q 0 n L∧q<H.length∧obj H q=⟨cs,sz,true⟩∧L=cs.length∧vs.length=n*sz∧n*sz≤L∧cs.take (n*sz)=vs
section
variable {sz n:Nat} {H H':AH} {x s:AV} {vs ws:List AV} {b:Nat}
theorem GRs.frame (h:GRs sz H x vs n) {S:Nat→Prop} (hf:Fr H H' S) (hs:∀ q,rid x=some q→¬ S q):GRs sz H' x vs n:=by
 rcases h with h | ⟨q,L,cs,rfl,h1,h2,h3⟩
 ·exact .inl h
 ·exact .inr ⟨q,L,cs,rfl,Nat.lt_of_lt_of_le h1 hf.1,(hf.2 q h1 (hs q rfl)).trans h2,h3⟩
theorem GRs.sl (h:GRs sz H x vs n):Sl sz H x vs n:=by
 rcases h with ⟨rfl,rfl,rfl⟩ | ⟨q,L,cs,rfl,h1,h2,h3,h4,h5,h6⟩
 ·exact .nil
 ·exact .row h1 (by rw [h2,h3]) (by omega) (by rw [h2]; simpa using h6) (.inl (by rw [h2]))
theorem GRs.lt (h:GRs sz H x vs n) {q:Nat} (hq:rid x=some q):q<H.length:=by
 rcases h with ⟨rfl,rfl,_⟩ | ⟨q',L,cs,rfl,h1,_⟩
 ·cases hq
 ·cases hq; exact h1
theorem GRs.app (h:GRs sz H x vs n) (h1:srcOk sz H s) (h2:srcC sz H s=ws) (h3:srcN s=1) (h4:ws.length=sz) (hv:ws.all AV.one=true) (hb:(n+1)*b≤140737488355328) :
  appOk sz b H x s∧GRs sz (appH sz H s x) (appV sz H s x) (vs++ws) (n+1)∧New H x (appV sz H s x)∧Fr H (appH sz H s x) (fun i => rid x=some i):=by
 have hs:(n+1)*sz=n*sz+sz:=Nat.succ_mul n sz
 rcases h with ⟨rfl,rfl,rfl⟩ | ⟨q,L,cs,rfl,g1,g2,g3,g0,g4,g5⟩
 ·refine ⟨⟨h1,by rw [h2]; exact hv,by rw [h3]; simpa [srcN] using hb,trivial⟩,?_,?_,?_⟩
  ·rw [appV_nil,appH_nil,h2,h3]
   exact .inr ⟨H.length,ws.length,ws,rfl,by simp,by rw [obj_app0]; rfl,rfl,by rw [List.nil_append,h4]; omega,by rw [h4]; omega,List.take_of_length_le (by rw [h4]; omega)⟩
  ·intro q hq; rw [appV_nil] at hq; cases hq; exact .inr (Nat.le_refl _)
  ·rw [appH_nil]; exact Fr.app _ _ _
 ·refine ⟨⟨h1,by rw [h2]; exact hv,by rw [h3]; exact hb,g1,by rw [g2,g3],by rw [g2],by rw [g2],by omega,.inl rfl⟩,?_,?_,?_⟩
  ·rw [appV_row,appH_row,h2,h3,g2]
   refine .inr ⟨q,_,_,rfl,by rw [setO_length]; exact g1,by rw [obj_setO _ _ g1,g2],?_,by rw [List.length_append,g0,h4]; omega,?_,?_⟩
   ·simp only [appL,appC,Nat.zero_add]
    split
    ·simp [g3]
    ·simp only [List.length_append,List.length_take,List.length_drop]; omega
   ·simp only [appL,Nat.zero_add]
    split <;> omega
   ·simp only [appC,Nat.zero_add]
    split
    ·rename_i hh
     have:cs=vs:=by rw [← g5,List.take_of_length_le (by omega)]
     subst this
     rw [List.take_of_length_le (by rw [List.length_append]; omega)]
    ·rw [g5,List.take_append_of_le_length (by rw [List.length_append]; omega),List.take_of_length_le (by rw [List.length_append]; omega)]
  ·intro q' hq; rw [appV_row] at hq; exact .inl hq
  ·rw [appH_row]; exact Fr.set _ _ rfl
theorem GRs.step {K:AH} (h:GRs sz (H++K) x vs n) (hq:∀ q,rid x=some q→H.length≤q) (h1:srcOk sz (H++K) s) (h2:srcC sz (H++K) s=ws) (h3:srcN s=1) (h4:ws.length=sz) (hv:ws.all AV.one=true) (hb:(n+1)*b≤140737488355328) :
  appOk sz b (H++K) x s∧∃ K',appH sz (H++K) s x=H++K'∧GRs sz (H++K') (appV sz (H++K) s x) (vs++ws) (n+1)∧∀ q,rid (appV sz (H++K) s x)=some q→H.length≤q:=by
 obtain ⟨a1,a2,a3,a4⟩:=h.app (b:=b) h1 h2 h3 h4 hv hb
 have f1:Fr H (H++K) (fun i => rid x=some i):=Fr.app _ _ _
 have f2:Fr H (appH sz (H++K) s x) (fun _ => False):=(f1.trans a4).mono fun i hi h => by have:=hq i h; omega
 obtain ⟨K',e⟩:=f2.split fun _ h => h
 refine ⟨a1,K',e,e ▸ a2,fun q h => ?_⟩
 rcases a3 q h with h | h
 ·exact hq q h
 ·rw [List.length_append] at h; omega
theorem GRs.more {K:AH} (h:GRs sz (H++K) x vs n) (o:AObj):GRs sz (H++(K++[o])) x vs n:=by
 rw [← List.append_assoc]
 exact h.frame (Fr.app _ _ (fun _ => False)) fun _ _ h => h
theorem GRs.view {K:AH} (hz:0<sz) (h:GRs sz (H++K) x vs n) (hq:∀ q,rid x=some q→H.length≤q) (hp:pureL vs=true):Le (low (renk H.length []) (H++K) x) (.view vs n false):=by
 rcases h with ⟨rfl,rfl,rfl⟩ | ⟨q,L,cs,rfl,h1,h2,h3,h0,h4,h5⟩
 ·exact le_nil false
 ·have h6:=hq q rfl
  have e:renk H.length [] q=none:=by
   rw [renk,if_neg (by omega)]; rfl
  have e2:low (renk H.length []) (H++K) (.row q 0 n L)=.view vs n false:=by
   simp only [low,e,rowView,h2,if_neg (show ¬ sz=0 by omega),List.drop_zero,h5]
   rw [if_pos ⟨h3,by omega,hp⟩]
  rw [e2]; exact Le.refl _
end
set_option maxRecDepth 10000
theorem t_nmay {H:AH} {a:Nat} (ha:a<(18446744073709551616:Nat)^4):Called Try.prog F.nonce_may [.agg (num a)] H (Bl (maySc a)) H:=by
 have hN:(115792089210356248762697446949407573529996955224135760342422259061068512044369:Nat)<(18446744073709551616:Nat)^4:=mo_N.lt
 have e0:[Z0,Z0,Z0,Z0]=num 0:=rfl
 refine e_nonce_may ?_
 simp only [ic_nonce_may,go_sem,one_wd,num_ne,num_take,wd_length,fillOk,fillv,e0,agg_ok,agg_eq ha (show 0<(18446744073709551616:Nat)^4 by decide)]
 refine callG_of (fun _ => t_N) ?_
 simp only [go_sem]
 refine callG_of (fun _ => t_lcmp ha hN) ?_
 simp only [go_sem]
 refine leave_drop ?_
 have e:decide (cmpN a (115792089210356248762697446949407573529996955224135760342422259061068512044369:Nat)<0)=Nat.blt a (115792089210356248762697446949407573529996955224135760342422259061068512044369:Nat):=by
  rw [Bool.eq_iff_iff,decide_eq_true_eq,Nat.blt_eq]
  unfold cmpN; split <;> (try split) <;> omega
 simp only [low,maySc,e]
 rfl
theorem srcS_len (d m i:Nat):(srcS d m i).1.length=32∧(srcS d m i).2.length=32:=by
 cases i with
 | zero => exact ⟨hmac_l32 _ _,hmac_l32 _ _⟩
 | succ i => exact ⟨hmac_l32 _ _,hmac_l32 _ _⟩
abbrev ncs (l:List Nat):List AV:=l.flatMap num
def listV (d m many:Nat):AV:=if (candS d m many 100).length<many then .tup [nilS,.lit (.iface T.api_Code (.int .i64 4))] else .tup [.view (ncs (candS d m many 100)) (candS d m many 100).length false,nilE]
theorem candS_stop (d m many:Nat) {i:Nat} (h:(candS d m many i).length=many):∀ k,candS d m many (i+k)=candS d m many i
 | 0 => rfl
 | k+1 => by
  have ih:=candS_stop d m many h k
  show candS d m many (i+k+1)=_
  rw [candS,ih,if_pos h]
set_option maxRecDepth 10000
theorem ncs_len (l:List Nat):(ncs l).length=l.length*4:=by
 induction l with
 | nil => rfl
 | cons a r ih => rw [ncs,List.flatMap_cons,List.length_append,wd_length,List.length_cons]; rw [ncs] at ih; omega
theorem ncs_snoc (l:List Nat) (a:Nat):ncs (l++[a])=ncs l++num a:=by simp [ncs]
theorem ncs_pure (l:List Nat):pureL (ncs l)=true:=pureL_all fun a ha => by
 rw [ncs,List.mem_flatMap] at ha
 obtain ⟨n,_,hn⟩:=ha
 obtain ⟨i,_,rfl⟩:=List.mem_map.1 hn
 rfl
theorem t_nlist {H:AH} {d:Nat} {h:List UInt8} {many:Nat} (hd:d<(18446744073709551616:Nat)^4) (hh:h.length=32) (hm:many≤16):Called Try.prog F.nonce_List [.agg (num d),.agg (bs h),I many] H (if maySc d then listV d (be h%(115792089210356248762697446949407573529996955224135760342422259061068512044369:Nat)) many else .tup [nilS,errA 1]) H:=by
 have bl:(bs h).length=32:=by rw [bs_len,hh]
 have ne:(bs h).isEmpty=false:=by
  cases hh:bs h with
  | nil => rw [hh] at bl; cases bl
  | cons => rfl
 refine e_nonce_List ?_
 simp only [ic_nonce_List,go_sem,one_wd,num_ne,one_bs,ne]
 refine callW_some t_N (fun _ => rfl) ?_
 simp only [go_sem]
 refine callW_some (t_new mo_N) (fun h => by cases h) ?_
 simp only [go_sem,num_take,wd_length]
 refine callG_of (fun _ => t_nmay hd) ?_
 simp only [go_sem]
 have hN:(115792089210356248762697446949407573529996955224135760342422259061068512044369:Nat)<(18446744073709551616:Nat)^4:=mo_N.lt
 refine ⟨fun hb => ?_,fun hb => ?_⟩
 ·have hb:maySc d=false:=by
   cases hc:maySc d
   ·rfl
   ·rw [hc] at hb
    have h1:decide ((many:Int)<0)=false:=by rw [decide_eq_false_iff_not]; omega
    have h2:decide ((16:Int)<(many:Int))=false:=by rw [decide_eq_false_iff_not]; omega
    rw [h1,h2] at hb; cases hb
  rw [hb]
  exact leave_drop rfl
 ·have hb:maySc d=true:=by
   cases hc:maySc d
   ·rw [hc] at hb; cases hb
   ·rfl
  rw [if_pos hb,bl]
  have hx:∀ G,Sl 1 (H++(⟨num d,0,true⟩::⟨bs h,0,true⟩::G)) (.row (H.length+1) 0 32 32) (bs h) h.length:=fun G => by
   have eo:obj (H++(⟨num d,0,true⟩::⟨bs h,0,true⟩::G)) (H.length+1)=⟨bs h,0,true⟩:=by rw [obj_appk]; rfl
   rw [hh]
   exact .row (by simp) (by rw [eo]; exact bl.symm) (by decide) (by rw [eo,List.drop_zero,List.take_of_length_le (by show (bs h).length≤_; omega)]) (.inr (by rw [eo]))
  have hbe:be h<(18446744073709551616:Nat)^4:=by have:=be_lt h; rw [hh] at this; exact Nat.lt_of_lt_of_le this (by decide)
  refine ⟨by decide,callW_some (t_lof (hx _) (by omega)) (fun _ => rfl) ?_⟩
  have en:[Z0,Z0,Z0,Z0]=num 0:=rfl
  simp only [go_sem,one_wd,num_ne,num_take,wd_length,num_splice,en,fillOk,fillv]
  have n4:∀ a,(num a).length=4:=fun a => wd_length _ _
  have sn4:∀ a b,splice (num a) 0 (num b)=num b:=fun a b => splice_all (by rw [n4,n4])
  have tn:∀ a,(num a).take 4=num a:=fun a => List.take_of_length_le (by rw [n4]; exact Nat.le_refl _)
  simp only [sn4,tn,n4]
  have hF:∀ G,FF (H++(⟨num d,0,true⟩::⟨bs h,0,true⟩::⟨fcells (115792089210356248762697446949407573529996955224135760342422259061068512044369:Nat),0,true⟩::G)) (H.length+2) (115792089210356248762697446949407573529996955224135760342422259061068512044369:Nat):=fun G => ⟨by simp,by simp only [go_sem]⟩
  refine ⟨Nat.le_refl _,callW_some (t_fadd (hF _).fd hN (by decide) hbe (show 0<(18446744073709551616:Nat)^4 by decide)) (fun _ => rfl) ?_⟩
  have ef:fadd (115792089210356248762697446949407573529996955224135760342422259061068512044369:Nat) (be h) 0=be h%(115792089210356248762697446949407573529996955224135760342422259061068512044369:Nat):=by rw [fadd,Nat.add_zero]
  rw [ef]
  have hm2:be h%(115792089210356248762697446949407573529996955224135760342422259061068512044369:Nat)<(18446744073709551616:Nat)^4:=Nat.lt_trans (Nat.mod_lt _ (by decide)) hN
  generalize be h%(115792089210356248762697446949407573529996955224135760342422259061068512044369:Nat)=m at hm2 ⊢
  simp only [go_sem]
  refine callW_some (t_begin hd hm2) (fun h => by cases h) ?_
  simp only [go_sem]
  obtain ⟨S5,hS5⟩:∃ S5:Nat→AH,∀ i,S5 i=H++[⟨num d,0,true⟩,⟨bs h,0,true⟩,⟨fcells (115792089210356248762697446949407573529996955224135760342422259061068512044369:Nat),0,true⟩,⟨num (be h),0,true⟩,⟨[vB (srcS d m i).1 false,vB (srcS d m i).2 false],0,true⟩]:=⟨_,fun _ => rfl⟩
  have sl:∀ i,(S5 i).length=H.length+5:=fun i => by rw [hS5]; simp
  have so:∀ i G,SrcV (S5 i++G) (H.length+4) (srcS d m i).1 (srcS d m i).2:=fun i G => SrcV.app ⟨by rw [sl]; omega,by rw [hS5,obj_appk]; rfl,(srcS_len d m i).1,(srcS_len d m i).2⟩
  have sn:∀ i G,setO (S5 i++G) (H.length+4) [vB (srcS d m (i+1)).1 false,vB (srcS d m (i+1)).2 false]=S5 (i+1)++G:=fun i G => by
   rw [setO_old _ _ _ (by rw [sl]; omega),hS5,hS5,setO_appk]; rfl
  have sf:∀ i G,Fr (S5 i++G) (S5 (i+1)++G) (fun j => j=H.length+4):=fun i G => by rw [← sn]; exact Fr.set _ _ rfl
  have s0:H++[⟨num d,0,true⟩,⟨bs h,0,true⟩,⟨fcells (115792089210356248762697446949407573529996955224135760342422259061068512044369:Nat),0,true⟩,⟨num (be h),0,true⟩,⟨[vB (beginS d m).1 false,vB (beginS d m).2 false],0,true⟩]=S5 0++[]:=by rw [hS5,List.append_nil]; rfl
  rw [s0]
  have drop:∀ i G,∃ K,S5 i++G=H++K:=fun i G => by rw [hS5,List.append_assoc]; exact ⟨_,rfl⟩
  clear hS5 s0
  refine w_loop _ (fun (s:Nat × AV × AH) => ([(2,I many),(12,.ptr (H.length+4) 0),(13,s.2.1),(47,I s.1)],S5 s.1++s.2.2))
   (fun s => s.1≤100∧GRs 4 (S5 s.1++s.2.2) s.2.1 (ncs (candS d m many s.1)) (candS d m many s.1).length∧∀ q,rid s.2.1=some q→H.length+5≤q) (fun s => 100 - s.1) (0,nilS,[]) ⟨by decide,.inl ⟨rfl,rfl,rfl⟩,fun q h => by cases h⟩ rfl ?_
  rintro ⟨i,y,G⟩ ⟨hi,hg,hq⟩
  simp only at hi hg hq
  simp only [go_sem]
  have fin:∀ i y G,GRs 4 (S5 i++G) y (ncs (candS d m many i)) (candS d m many i).length→(∀ q,rid y=some q→H.length+5≤q)→candS d m many i=candS d m many 100 →
    (((candS d m many i).length:Int)<(many:Int)→Leave H (AV.tup [nilS,errA 4]) (S5 i++G) (listV d m many) H)∧(¬((candS d m many i).length:Int)<(many:Int)→Leave H (AV.tup [y,nilE]) (S5 i++G) (listV d m many) H):=fun i y G hg hq he => by
   obtain ⟨K,hK⟩:=drop i G
   rw [hK] at hg ⊢
   rw [he] at hg ⊢
   refine ⟨fun hh => ?_,fun hh => ?_⟩
   ·rw [listV,if_pos (by omega)]
    exact leave_drop rfl
   ·rw [listV,if_neg (by omega)]
    exact leave_drop_le (le_tups ⟨hg.view (by decide) (fun q h => by have:=hq q h; omega) (ncs_pure _),Le.refl _,trivial⟩)
  refine ⟨fun hh => ?_,fun hh => ?_⟩
  ·simp only [go_sem,hg.sl.s]
   refine ⟨fun hm' => ?_,fun hm' => ?_⟩
   ·have hm':(candS d m many i).length=many:=by have:=eq_of_beq hm'; omega
    refine fin i y G hg hq ?_
    have:=candS_stop d m many hm' (100 - i)
    rw [show i+(100 - i)=100 by omega] at this
    exact this.symm
   ·have hm':¬ (candS d m many i).length=many:=fun e => by rw [e,beq_self_eq_true] at hm'; cases hm'
    refine callW_some (v:=.agg (num (numS d m i))) (H':=S5 (i+1)++G) (by have:=t_next (so i G); rw [← sn]; exact this) (fun h => by cases h) ?_
    have nb:numS d m i<(18446744073709551616:Nat)^4:=by
     have:=be_lt (hmac (srcS d m i).1 (srcS d m i).2)
     rw [hmac_l32] at this
     exact Nat.lt_of_lt_of_le this (by decide)
    have hg2:=hg.frame (sf i G) (fun q h => by have:=hq q h; omega)
    have hcs:candS d m many (i+1)=if maySc (numS d m i) then candS d m many i++[numS d m i] else candS d m many i:=by rw [candS,if_neg hm']
    generalize numS d m i=a at nb hcs ⊢
    simp only [go_sem,num_take,wd_length,one_wd,num_splice,n4,en,sn4,tn]
    refine callW_some (t_nmay nb) (fun _ => rfl) ?_
    simp only [go_sem,n4,one_wd,tn,en,sn4]
    refine ⟨fun hc => ?_,fun hc => ?_⟩
    ·rw [hc,if_pos rfl] at hcs
     have hg3:GRs 4 (S5 (i+1)++(G++[⟨num a,0,true⟩])) y (ncs (candS d m many i)) (candS d m many i).length:=hg2.more _
     have cl:=candS_len d m many i
     obtain ⟨⟨c1,c2,c3,c4⟩,K',e1,g2,g3⟩:=hg3.step (b:=32) (s:=.view (num a) 1 true) (ws:=num a) (fun q h => by have:=hq q h; rw [sl]; omega) (by show (num a).length=1*4; rw [n4]) rfl rfl (n4 a) (one_wd 4 a) (by omega)
     refine ⟨by have:=ncs_pure [a]; rw [ncs,List.flatMap_cons,List.flatMap_nil,List.append_nil] at this; exact this,⟨c3,c4⟩,(i+1,_,K'),?_,e1,⟨by show i+1≤_; omega,?_,fun q h => by have:=g3 q h; rw [sl] at this; omega⟩,by show _ - (i+1)<_; omega⟩
     ·rw [w64 _ (by omega) (by omega)]; rfl
     ·show GRs 4 (S5 (i+1)++K') (appV 4 (S5 (i+1)++(G++[⟨num a,0,true⟩])) (AV.view (num a) 1 true) y) (ncs (candS d m many (i+1))) (candS d m many (i+1)).length
      rw [hcs,ncs_snoc,List.length_append]; exact g2
    ·rw [hc] at hcs
     have hcs:candS d m many (i+1)=candS d m many i:=hcs
     refine ⟨(i+1,y,G++[⟨num a,0,true⟩]),?_,rfl,⟨by show i+1≤_; omega,?_,hq⟩,by show _ - (i+1)<_; omega⟩
     ·rw [w64 _ (by omega) (by omega)]; rfl
     ·show GRs 4 (S5 (i+1)++(G++[⟨num a,0,true⟩])) _ (ncs (candS d m many (i+1))) _
      rw [hcs]; exact hg2.more _
  ·simp only [go_sem,hg.sl.s]
   exact fin i y G hg hq (by rw [show i=100 by omega])
end Go.Proofs.Ytgfploghjpbcaaa.Eng

