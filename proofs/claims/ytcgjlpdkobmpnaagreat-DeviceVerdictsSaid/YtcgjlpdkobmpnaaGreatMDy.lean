/- Layer 18: the signature of the head's record, worked out. (No program in sight.) -/
import Derived.Test.YtcgjlpdkobmpnaaGreatMEx
import Derived.Test.YtcgjlpdkobmpnaaGreatMPu
import Derived.Test.YtcgjlpdkobmpnaaGreatMDv
namespace Go.Proofs.YtcgjlpdkobmpnaaGreat.Eng.D
open Go
set_option linter.unusedVariables false
set_option linter.unusedSimpArgs false
set_option maxRecDepth 10000
def rU:Rec:=⟨1,0,0,1,1,1,0,2,z32,[],nilS⟩
def mU:Nat:=106235487517456613673331396140443213505212412798279448489920580071504967500520
def kU:Nat:=36045560496199898799169485449521728348159731243968440271202499353656830050654
def gU:Nat:=59317599614282737698644456522657164446988428557962416973029402782326281148356
def sU:Nat:=52042198915322385777002852457967180922741374652850167268005836633129088468620
def kiU:Nat:=65299008104964529399122334213852315779672680613069825320285889647030754111364
def ziU:Nat:=98103210427408119551929261833556708717804847616674184917742353525753096118194
def bU:List Nat:=[1,0,8,0,0,0,0,0,0,0,1,2,0,8,0,0,0,0,0,0,0,0,3,0,8,0,0,0,0,0,0,0,0,4,0,8,0,0,0,0,0,0,0,1,5,0,8,0,0,0,0,0,0,0,1,6,0,8,0,0,0,0,0,0,0,1,7,0,8,0,0,0,0,0,0,0,0,8,0,8,0,0,0,0,0,0,0,2,9,0,32,0,0,0,0,0,0,0,0,0,0,0,0,0,0,0,0,0,0,0,0,0,0,0,0,0,0,0,0,0,0,0,0,10,0,0]
theorem Z4s:tn (recP rU)=bU:=by decide +kernel
theorem mU_0:(beT (shaN bU)%(115792089210356248762697446949407573529996955224135760342422259061068512044369:Nat) == mU)=true:=by decide +kernel
theorem mU_m:be (sha (recP rU))%(115792089210356248762697446949407573529996955224135760342422259061068512044369:Nat)=mU:=by
 rw [Zss,Zkg,Z4s]; exact beq_iff_eq.1 mU_0
def uB:Bool:=Ug (tn (text 5 mU)) [] fun t => match begN t with | (k,v) => chkN 16 k v&&(beT (Lg k v) == kU)
theorem u_b:uB=true:=by decide +kernel
theorem Z4h:(∀ j,j<16→Xa (numS 5 mU j)=true)∧numS 5 mU 0=kU:=by
 have h:=u_b
 rw [uB,fG,← Z3n] at h
 dsimp only at h
 rw [Bool.and_eq_true,beq_iff_eq] at h
 have e:srcS 5 mU 0=Nd 5 mU:=rfl
 rw [← e] at h
 refine ⟨fun j hj => ?_,?_⟩
 ·have:=Zan 5 mU 16 0 h.1 j hj
  rwa [Nat.zero_add] at this
 ·have h2:=h.2
  rw [← Pr _ _ (by have:=(Zj6 5 mU 0).1; omega),← Zss] at h2
  exact h2
theorem u_x0:xB kU ziU gU=true:=by decide +kernel
theorem u_k:kU<2^256:=by decide +kernel
theorem u_r1:(gU%(115792089210356248762697446949407573529996955224135760342422259061068512044369:Nat) == gU)=true:=by decide +kernel
theorem u_r:rOf kU=gU:=by rw [rOf,Zzh u_k u_x0]; exact beq_iff_eq.1 u_r1
theorem u_i0:(kU*kiU%(115792089210356248762697446949407573529996955224135760342422259061068512044369:Nat) == 1)=true:=by decide +kernel
theorem u_i1:kiU<(115792089210356248762697446949407573529996955224135760342422259061068512044369:Nat):=by decide +kernel
theorem u_s0:(fmul (115792089210356248762697446949407573529996955224135760342422259061068512044369:Nat) kiU (fadd (115792089210356248762697446949407573529996955224135760342422259061068512044369:Nat) mU (fmul (115792089210356248762697446949407573529996955224135760342422259061068512044369:Nat) gU 5)) == sU)=true:=by decide +kernel
theorem u_s:sOf 5 kU mU=sU:=by
 rw [sOf,u_r,Kr u_i1 (beq_iff_eq.1 u_i0)]; exact beq_iff_eq.1 u_s0
theorem Z4i:(Xa gU&&Xa sU&&Xa 5)=true:=by decide +kernel
theorem Ztm:Kc 5 (sha (recP rU))=some (gU,sU):=by
 obtain ⟨h1,h2⟩:=Z4h
 have hm:=Z4i
 simp only [Bool.and_eq_true] at hm
 rw [Kc,mU_m,Zym _ _ h1,if_neg (by rw [List.length_map,List.length_range]; decide)]
 have e:(List.range 16).map (numS 5 mU)=kU::(List.range 15).map (fun i => numS 5 mU (i+1)):=by
  rw [List.range_succ_eq_map,List.map_cons,h2,List.map_map]; rfl
 rw [e,List.find?_cons_of_pos (by rw [Oo,u_r,u_s,hm.1.1,hm.1.2]; rfl)]
 rw [Option.map_some,u_r,u_s]
theorem Z1l:(recP rU).length=126:=by decide +kernel
theorem may7:Xa 7=true:=by decide +kernel
theorem may5:Xa 5=true:=by decide +kernel
end Go.Proofs.YtcgjlpdkobmpnaaGreat.Eng.D
namespace Go.Proofs.YtcgjlpdkobmpnaaGreat.Eng.D
open Go Go.Proofs
set_option linter.unusedVariables false
set_option linter.unusedSimpArgs false
set_option maxRecDepth 10000
theorem WD.upd {H:AH} {v f r:Nat} {s s':Dv} {x:AV} {B:List UInt8} {T E:Nat} {rs:List (List UInt8)} {sp:Bool} {l:List Rec} (w:WD H v f r s x B T E rs sp l) (h1:s'.d=s.d) (h2:s'.j=s.j) (h3:s'.last=s.last) (h4:s'.all=s.all):WD (setO H v s'.cells) v f r s' x B T E rs sp l:=by
 have hf:Fr H (setO H v s'.cells) (fun i => i=v):=Fr.set H _ rfl
 have hv:=w.dv.hv
 have e1:J.JR (setO H v s'.cells) s'.j f x T E rs sp:=by rw [h2]; exact w.jr.frame hf (fun h => w.vj h.symm) (fun q hq h => w.xv (h ▸ hq))
 have e2:GRs 41 (setO H v s'.cells) s'.all (rls l) l.length:=by rw [h4]; exact w.al.frame hf (fun q hq h => w.av (h ▸ hq))
 refine ⟨⟨by rw [Zk]; exact hv,by rw [Yj _ _ hv,w.dv.ov],h3 ▸ w.dv.l32⟩,w.fl.frame hf (fun h => w.vf h.symm) (fun h => w.vr h.symm),e1,e2,w.lo,?_,w.vf,w.vr,?_,?_,w.xv,w.xf,w.xr,?_,?_,?_,?_,?_,?_,w.sB,w.sE,w.sT,w.sl,w.sr⟩
 ·rw [h2]; exact w.vj
 ·rw [h2]; exact w.jf
 ·rw [h2]; exact w.jr'
 ·rw [h4]; exact w.av
 ·rw [h4,h2]; exact w.aj
 ·rw [h4]; exact w.af
 ·rw [h4]; exact w.ar
 ·rw [h4]; exact w.ax
 ·rw [h1]; exact w.hd
theorem Zga {H:AH} {v f r:Nat} {s:Dv} {x:AV} {B:List UInt8} {T E:Nat} {rs:List (List UInt8)} {sp:Bool} {l:List Rec} (w:WD H v f r s x B T E rs sp l) (hr:∀ r ∈ rs,1≤r.length∧r.length≤2000) :
  Called Tryz.prog F.device_Device_Records [.ptr v 0] H (.view (rs.map fun r => vB r false) rs.length false) H:=by
 have hlen:=Qj w.dv.l32
 have hv:=w.dv.hv
 refine Rz ?_
 simp only [X0,go_sem,w.dv.ov,hlen,hv,Zx7]
 refine Za (J.t_records w.jr hr (by have:=w.sr; omega)) (fun _ => rfl) ?_
 simp only [go_sem]
 exact Zl rfl
theorem F8 (H:AH) {n:Nat} (h1:64≤n) (h2:n≤1048576):J.FL (H++[⟨bs (List.replicate n 0),1,true⟩,⟨[.row H.length 0 n n],0,true⟩]) (H.length+1) H.length (List.replicate n 0):=by
 refine ⟨by simp,by simp,by omega,?_,?_⟩
 ·rw [Y2,List.length_replicate]; rfl
 ·rw [Z7]; rfl
theorem B2:Te []=none:=by
 unfold Te
 have:Xj []=none:=rfl
 rw [this]; rfl
theorem Zve (z m:Int):verN (Xs [] [] m) [] [] z m=2:=by
 unfold verN Xs
 rw [B2]; rfl
theorem Z41:num 5=[.lit (.int .u64 5),.lit (.int .u64 0),.lit (.int .u64 0),.lit (.int .u64 0)]:=rfl
theorem Z40:num 7=[.lit (.int .u64 7),.lit (.int .u64 0),.lit (.int .u64 0),.lit (.int .u64 0)]:=rfl
theorem Z0j (H:AH):Called Tryz.prog F.clapperlaw18_up [] H (Bl true) H:=by
 have hF:=F8 H (n:=2000) (by decide) (by decide)
 have c0:=J.t_fnew (H:=H) (n:=2000) (by decide) (by decide)
 have f0:Fr H (H++[⟨bs (List.replicate 2000 0),1,true⟩,⟨[.row H.length 0 2000 2000],0,true⟩]) (fun _ => False):=Fr.app _ _ _
 generalize (H++[⟨bs (List.replicate 2000 0),1,true⟩,⟨[.row H.length 0 2000 2000],0,true⟩])=H0 at hF c0 f0
 obtain ⟨H1,v,j,x,c1,w1,f1,k1,k2,k3⟩:=Zjr (dn:=1) (d:=5) hF (J.SINV.new (n:=2000) (by decide) (by decide)).inv (by decide) (by decide) (by decide) may5 (by rw [List.length_replicate]; decide) (by decide) (by decide)
 have nb:∀ G,Sl 1 G nilS (bs []) ([]:List UInt8).length:=fun G => .nil
 have c2:=Zjn (xb:=nilS) (b:=[]) w1 nb 0 rfl
 have c3:=Zj0 w1.dv 1 1
 rw [if_pos (by decide),if_pos (by decide)] at c3
 have w2:=w1.upd (s':={ newD 1 5 j with on:=true,stop:=1,zone:=1 }) rfl rfl rfl rfl
 have ev:(2:Int)=verN (Xs [] [] 0) [] [] 1 0:=(Zve 1 0).symm
 have w3:=w2.frame (Fr.app _ [⟨(opT []).cells,0,true⟩,⟨sgc (opR []) (opS []),0,true⟩] (fun _ => False))
 have hr:(Zbv [] nilS 0 2).ok:=by rw [Dq]; exact ⟨rfl,by decide,fun G => .nil⟩
 have er:newR { newD 1 5 j with on:=true,stop:=1,zone:=1 } ([]:List Rec).length (Zbv [] nilS 0 2)=rU:=by
  rw [Dq]
  have:(opT []).serial=0:=by unfold opT; rw [B2]; rfl
  rw [this]; rfl
 obtain ⟨m1,m2⟩:=Zbs Ztm
 have hS:(sgnd (recP rU) gU sU).length=196:=by rw [Dn,Z1l]
 obtain ⟨H4,x',all',c4,w4,f4,_,_⟩:=Zdy w3 rfl hr (a:=gU) (c:=sU) (by rw [er]; rfl) may5 (by rw [er]; exact Ztm) (Ht m1) (Ht m2)
  (by
   rw [er]
   refine ⟨rfl,?_,?_,?_⟩
   ·rw [hS]; decide
   ·rw [hS]; decide
   ·rw [hS,List.length_replicate]; decide) (by rw [er,hS]; decide) (by decide) (by decide) (by decide)
 have c5:=Zba (K:=[]) (R:=[]) (P:=[]) w2 .nil (fun _ h => (by cases h)) (by decide) .nil (by decide) .nil (fun _ h => (by cases h)) (by decide) nb (by decide) 0 rfl (by decide) rfl rfl ev c4 (z:=I 2) (.inl ⟨rfl,rfl⟩)
 have c6:=Zga w4 (by
  intro r hr'
  rw [er,List.nil_append] at hr'
  obtain rfl:=List.mem_singleton.1 hr'
  rw [hS]; decide)
 refine Jb ?_
 simp only [Vp,go_sem]
 refine Za c0 (fun h => absurd h (by decide)) ?_
 simp only [go_sem]
 rw [← Z41]
 refine Za c1 (fun h => absurd h (by decide)) ?_
 simp only [go_sem]
 refine Za c2 (fun h => absurd h (by decide)) ?_
 simp only [go_sem]
 refine Za c3 (fun h => absurd h (by decide)) ?_
 simp only [go_sem]
 refine Za c5 (fun h => absurd h (by decide)) ?_
 simp only [go_sem]
 have q3:(T.api_Code == T.api_Code&&(7:Int) == 7&&(2:Int) == 2)=true:=by decide
 rw [q3]
 refine ⟨rfl,Zs (fun _ => c6) ?_⟩
 simp only [go_sem]
 have f2:=Fr.set H1 { newD 1 5 j with on:=true,stop:=1,zone:=1 }.cells (S:=fun i => i=v) rfl
 have f3:=Fr.app (setO H1 v { newD 1 5 j with on:=true,stop:=1,zone:=1 }.cells) [⟨(opT []).cells,0,true⟩,⟨sgc (opR []) (opS []),0,true⟩] (fun _ => False)
 have l0:=f0.1
 have fa:Fr H H4 (fun _ => False):=by
  refine ⟨Nat.le_trans (Nat.le_trans f0.1 f1.1) (Nat.le_trans f2.1 (Nat.le_trans f3.1 f4.1)),fun i hi _ => ?_⟩
  have i0:i<H0.length:=Nat.lt_of_lt_of_le hi f0.1
  have i1:i<H1.length:=Nat.lt_of_lt_of_le i0 f1.1
  have i2:=Nat.lt_of_lt_of_le i1 f2.1
  have i3:=Nat.lt_of_lt_of_le i2 f3.1
  rw [f4.2 i i3 ?_,f3.2 i i2 (fun h => h),f2.2 i i1 ?_,f1.2 i i0 (fun h => h),f0.2 i hi (fun h => h)]
  ·omega
  ·rintro (h | h | h | h | h)
   ·omega
   ·have h:i=j:=h; omega
   ·omega
   ·have:=k3 i h; omega
   ·cases h
 obtain ⟨G,rfl⟩:=fa.split (fun _ => id)
 exact Zc rfl
end Go.Proofs.YtcgjlpdkobmpnaaGreat.Eng.D
namespace Go.Proofs.YtcgjlpdkobmpnaaGreat.Eng.D
open Go Go.Proofs
set_option linter.unusedVariables false
set_option linter.unusedSimpArgs false
set_option maxRecDepth 10000
def Alike (P' P:List Prd):Prop:=P'.length=P.length∧∀ i,(P'.getD i noP).id=(P.getD i noP).id∧(P'.getD i noP).mins=(P.getD i noP).mins∧(P'.getD i noP).s=(P.getD i noP).s
theorem Alike.refl (P:List Prd):Alike P P:=⟨rfl,fun _ => ⟨rfl,rfl,rfl⟩⟩
theorem Zo6 (P:List Prd):Alike (P.map clP) P:=by
 refine ⟨by simp,fun i => ?_⟩
 by_cases h:i<P.length
 ·simp [List.getD_eq_getElem?_getD,h,clP]
 ·simp [List.getD_eq_getElem?_getD,h]
theorem Alike.prdsB {P' P:List Prd} (h:Alike P' P):prdsB P'=prdsB P:=by
 have e:∀ i,Oy P' i=Oy P i:=fun i => by
  obtain ⟨a1,a2,a3⟩:=h.2 i
  obtain ⟨b1,_,_⟩:=h.2 (i - 1)
  simp only [Oy,a1,a2,a3,b1]
 simp only [Eng.prdsB,h.1,e]
theorem Alike.kOf {P' P:List Prd} (h:Alike P' P) (n:Int):kOf P' n=kOf P n:=by
 have e:P'.map Prd.id=P.map Prd.id:=by
  refine List.ext_getElem (by rw [List.length_map,List.length_map,h.1]) fun i h1 h2 => ?_
  rw [List.length_map] at h1 h2
  have:=(h.2 i).1
  rw [List.getD_eq_getElem?_getD,List.getElem?_eq_getElem h1,List.getD_eq_getElem?_getD,List.getElem?_eq_getElem h2] at this
  rw [List.getElem_map,List.getElem_map]; exact this
 have k:∀ l:List Prd,Eng.kOf l n=match (l.map Prd.id).findIdx? (fun y => y == n) with | some i => (i:Int) | none => -1:=fun l => by
  rw [List.findIdx?_map]; rfl
 rw [k,k,e]
theorem Alike.whyV {P' P:List Prd} (h:Alike P' P) (t:Tkt) (z m:Int):whyV P' t z m=whyV P t z m:=by
 have e:Za7 (pOf P' (Eng.kOf P t.product)) t m=Za7 (pOf P (Eng.kOf P t.product)) t m:=by
  unfold pOf
  split
  ·rfl
  ·obtain ⟨a1,a2,a3⟩:=h.2 (Eng.kOf P t.product).toNat
   simp only [Za7,a2,a3]
 simp only [Eng.whyV,h.kOf,e]
theorem Alike.ver {P' P:List Prd} (h:Alike P' P) (c:Tkt × Int) (R:List Rvk) (z m:Int):verN c R P' z m=verN c R P z m:=by
 simp only [verN,h.whyV]
theorem Dm {sz n:Nat} {H H':AH} {x:AV} {cs:List AV} (h:Sl sz H x cs n) {S:Nat→Prop} (hf:Fr H H' S) (hs:∀ q,rid x=some q→¬ S q):Sl sz H' x cs n:=by
 rcases h.cases with ⟨rfl,rfl,rfl⟩ | ⟨f,rfl,h1⟩ | ⟨id,off,L,rfl,h1,h2,h3,h4,h5⟩
 ·exact .nil
 ·exact .view h1 f
 ·have e:=hf.2 id h1 (hs id rfl)
  exact .row (Nat.lt_of_lt_of_le h1 hf.1) (by rw [e]; exact h2) h3 (by rw [e]; exact h4) (by rw [e]; exact h5)
structure LD (H:AH) (v:Nat) (s:Dv) (K:List Key) (R:List Rvk) (P:List Prd):Prop where
 hk:Sl 12 H s.ks (kcs K) K.length
 hr:Sl 2 H s.rv (rcs R) R.length
 hp:∃ P',Sl 7 H s.ps (pcs P') P'.length∧Alike P' P∧(∀ p ∈ P',p.ok∧p.few)
 nk:rid s.ks≠some v
 nr:rid s.rv≠some v
 np:rid s.ps≠some v
theorem LD.frame {H H':AH} {v:Nat} {s s':Dv} {K:List Key} {R:List Rvk} {P:List Prd} (h:LD H v s K R P) (hf:Fr H H' (fun i => i=v)) (h1:s'.ks=s.ks) (h2:s'.rv=s.rv) (h3:s'.ps=s.ps):LD H' v s' K R P:=by
 obtain ⟨P',a1,a2,a3⟩:=h.hp
 refine ⟨?_,?_,⟨P',?_,a2,a3⟩,?_,?_,?_⟩
 ·rw [h1]; exact Dm h.hk hf (fun q hq e => h.nk (e ▸ hq))
 ·rw [h2]; exact Dm h.hr hf (fun q hq e => h.nr (e ▸ hq))
 ·rw [h3]; exact Dm a1 hf (fun q hq e => h.np (e ▸ hq))
 ·rw [h1]; exact h.nk
 ·rw [h2]; exact h.nr
 ·rw [h3]; exact h.np
theorem Zv7 {H:AH} {v f r:Nat} {s:Dv} {x:AV} {B:List UInt8} {T E:Nat} {rs:List (List UInt8)} {sp:Bool} {l:List Rec} (w:WD H v f r s x B T E rs sp l) {xk xr xp:AV} {K:List Key} {R:List Rvk} {P:List Prd}
  (hk:∀ G,Sl 12 G xk (kcs K) K.length) (ko:∀ p ∈ K,p.ok) (kn:K.length≤1000000) (hr:∀ G,Sl 2 G xr (rcs R) R.length) (rn:R.length≤1000000) (hp:∀ G,Sl 7 G xp (pcs P) P.length) (po:∀ p ∈ P,p.ok∧p.few) (pn:P.length≤1000000)
  (hg:((Uk K&&revB R)&&prdsB P)=true) :
  ∃ H' s',Called Tryz.prog F.device_Device_Load [.ptr v 0,.agg [xk,xr,xp]] H nilE H'∧WD H' v f r s' x B T E rs sp l∧LD H' v s' K R P∧s'.on=s.on∧s'.ct=s.ct∧s'.zone=s.zone∧s'.stop=s.stop∧s'.id=s.id∧s'.j=s.j∧s'.all=s.all∧Fr H H' (fun i => i=v):=by
 have h1:=Ztx w.dv hk ko kn hr rn hp po pn
 rw [hg,if_pos rfl,if_pos rfl] at h1
 have hv:=w.dv.hv
 have wb:=w.frame (Fr.app H [⟨[.view (kcs K) K.length false,.view (rcs R) R.length false,.row (H.length+1) 0 (P.map clP).length ((P.map clP).length*7)],0,true⟩,⟨pcs (P.map clP),7,true⟩] (fun _ => False))
 have fb:Fr H (ldB H K R (P.map clP)) (fun i => i=v):=Fr.app _ _ _
 have fs:Fr (ldB H K R (P.map clP)) (ldH H v s K R P) (fun i => i=v):=Fr.set _ _ rfl
 have lk:(kcs K).length=K.length*12:=((hk []).length)
 have lr:(rcs R).length=R.length*2:=((hr []).length)
 have lp:(pcs (P.map clP)).length=P.length*7:=by
  have:∀ l:List Prd,(pcs l).length=l.length*7:=fun l => by
   induction l with
   | nil => rfl
   | cons a A ih => rw [pcs,List.flatMap_cons,List.length_append,Prd.len,List.length_cons,Nat.succ_mul,Nat.add_comm]; rw [pcs] at ih; rw [ih]
  rw [this,List.length_map]
 refine ⟨ldH H v s K R P,ldS H s K R P,h1,WD.upd wb rfl rfl rfl rfl,?_,rfl,rfl,rfl,rfl,rfl,rfl,rfl,fb.trans fs⟩
 have o1:obj (ldB H K R (P.map clP)) (H.length+1)=⟨pcs (P.map clP),7,true⟩:=by simp [ldB,obj]
 have o2:obj (ldH H v s K R P) (H.length+1)=⟨pcs (P.map clP),7,true⟩:=by
  rw [ldH,W7 _ _ (by omega),o1]
 refine ⟨.view lk false,.view lr false,⟨P.map clP,?_,Zo6 P,fun p hp' => ?_⟩,(fun h => by cases h),(fun h => by cases h),(fun h => ?_)⟩
 ·rw [List.length_map]
  refine .row (by rw [ldH,Zk,ldB]; simp) (by rw [o2,lp]) (by omega) ?_ (by rw [o2]; exact .inl rfl)
  rw [o2,List.drop_zero,← lp,List.take_length]
 ·obtain ⟨q,hq,rfl⟩:=List.mem_map.1 hp'
  exact Zur (po q hq)
 ·have:H.length+1=v:=Option.some.inj h
  omega
theorem Zjz {H:AH} {v f r:Nat} {s:Dv} {x:AV} {B:List UInt8} {T E:Nat} {rs:List (List UInt8)} {sp:Bool} {l:List Rec} (w:WD H v f r s x B T E rs sp l) {xk xr xp:AV} {K K0:List Key} {R R0:List Rvk} {P P0:List Prd}
  (hk:∀ G,Sl 12 G xk (kcs K) K.length) (ko:∀ p ∈ K,p.ok) (kn:K.length≤1000000) (hr:∀ G,Sl 2 G xr (rcs R) R.length) (rn:R.length≤1000000) (hp:∀ G,Sl 7 G xp (pcs P) P.length) (po:∀ p ∈ P,p.ok∧p.few) (pn:P.length≤1000000) (ld:LD H v s K0 R0 P0) {g:Bool}
  (hg:((Uk K&&revB R)&&prdsB P)=g) :
  ∃ H' s',Called Tryz.prog F.device_Device_Load [.ptr v 0,.agg [xk,xr,xp]] H (if g then nilE else eAV 1) H'∧WD H' v f r s' x B T E rs sp l∧LD H' v s' (if g then K else K0) (if g then R else R0) (if g then P else P0)∧s'.on=s.on∧s'.ct=s.ct∧s'.zone=s.zone∧s'.stop=s.stop∧s'.id=s.id∧s'.j=s.j∧s'.all=s.all∧Fr H H' (fun i => i=v):=by
 cases g
 ·have h1:=Ztx w.dv hk ko kn hr rn hp po pn
  rw [hg] at h1
  exact ⟨H,s,h1,w,ld,rfl,rfl,rfl,rfl,rfl,rfl,rfl,Fr.refl _ _⟩
 ·exact Zv7 w hk ko kn hr rn hp po pn hg
end Go.Proofs.YtcgjlpdkobmpnaaGreat.Eng.D
namespace Go.Proofs.YtcgjlpdkobmpnaaGreat.Eng.D
open Go Go.Proofs
set_option linter.unusedVariables false
set_option linter.unusedSimpArgs false
set_option maxRecDepth 10000
def Zef (K:List Key) (R:List Rvk) (P:List Prd):Bool:=((decide (P.length≤60)&&decide (∀ p ∈ P,p.few))&&decide ((K.length:Int)≤60))&&decide ((R.length:Int)≤300)
theorem Zjy {H:AH} {xk xr xp:AV} {K:List Key} {R:List Rvk} {P:List Prd} (hk:∀ G,Sl 12 G xk (kcs K) K.length) (hr:∀ G,Sl 2 G xr (rcs R) R.length) (hp:∀ G,Sl 7 G xp (pcs P) P.length) (po:∀ p ∈ P,p.ok) (pn:P.length≤140737488355328) :
  Called Tryz.prog F.clapperlaw18_Small [.agg [xk,xr,xp]] H (Bl (Zef K R P)) H:=by
 have ob0:∀ o G,obj (H++o::G) H.length=o:=fun o G => by simp [obj]
 have nn:∀ G:AH,(H++G).length=H.length+G.length:=fun G => List.length_append
 have o1:=(hk H).s.2.2.2.2.2.2.1
 have o2:=(hr H).s.2.2.2.2.2.2.1
 have o3:=(hp H).s.2.2.2.2.2.2.1
 refine Ou ?_
 simp only [Wj,go_sem,ob0,o1,o2,o3]
 refine Za (Z4m (hp _) po pn) (fun _ => rfl) ?_
 simp only [go_sem,ob0,nn,(hk H).s,(hr H).s]
 exact Zc rfl
theorem Zv6 {H:AH} {v f rr:Nat} {s:Dv} {x xb:AV} {B b:List UInt8} {T E:Nat} {rs:List (List UInt8)} {sp:Bool} {l:List Rec} {K:List Key} {R:List Rvk} {P:List Prd} (w:WD H v f rr s x B T E rs sp l) (ld:LD H v s K R P) (ko:∀ p ∈ K,p.ok) (kn:K.length≤1000000) (rn:R.length≤1000000) (pn:P.length≤1000000) (hct:s.ct=false)
  (hE:E+10000≤1048576) (hT:T+1≤1048575) (hl:l.length+1≤1048575) (hrs:rs.length+1≤1048575) (hb:∀ G,Sl 1 G xb (bs b) b.length) (bn:b.length≤100000) (at_:Int) :
  ∃ H5 z y,Called Tryz.prog F.device_Device_Scan [.ptr v 0,xb,I at_] H (.tup [z,y]) H5∧Fr H H5 (fun i => i=v∨i=s.j∨i=rr∨rid x=some i∨rid s.all=some i) ∧
   ((y=nilE∧z=I (verN (Xs K b at_) R P s.zone at_)∧(((Uk K&&revB R)&&prdsB P)&&plcB s.zone at_)=true)∨∃ c,y=eAV c∧z=I 0):=by
 obtain ⟨P',p1,p2,p3⟩:=ld.hp
 have pn':P'.length≤1000000:=by rw [p2.1]; exact pn
 by_cases h0:s.on=false∨500<b.length∨nowE l at_≠0
 ·obtain ⟨c,hc⟩:=Zvp w hb bn at_ h0
  exact ⟨H,_,_,hc,Fr.refl _ _,.inr ⟨c,rfl,rfl⟩⟩
 ·have hon:s.on=true:=by
   cases h:s.on
   ·exact absurd (.inl h) h0
   ·rfl
  have hlb:b.length≤500:=by
   by_cases h:500<b.length
   ·exact absurd (.inr (.inl h)) h0
   ·omega
  have hnow:nowE l at_=0:=by
   by_cases h:nowE l at_=0
   ·exact h
   ·exact absurd (.inr (.inr h)) h0
  cases hc:(((Uk K&&revB R)&&prdsB P')&&plcB s.zone at_)
  ·exact ⟨H,_,_,Zvo w ld.hk ko kn ld.hr rn p1 p3 pn' hb bn at_ hon hlb hnow hc,Fr.refl _ _,.inr ⟨1,rfl,rfl⟩⟩
  ·have fg:Fr H (Z1i H b) (fun _ => False):=Fr.app _ _ _
   have wg:=w.frame fg
   have hr:(Zbv b xb at_ (verN (Xs K b at_) R P' s.zone at_)).ok:=by rw [Dq]; exact ⟨rfl,by show b.length≤1000000; omega,hb⟩
   obtain ⟨y,H',hy,hw,hf⟩:=Zf8 wg hct hr hE hT hl hrs
   have fe:Fr H H' (fun i => i=v∨i=s.j∨i=rr∨rid x=some i∨rid s.all=some i):=(fg.mono fun _ _ h => h.elim).trans hf
   rcases hy with rfl | ⟨c,rfl⟩
   ·refine ⟨H',_,_,Zba w ld.hk ko kn ld.hr rn p1 p3 pn' hb bn at_ hon hlb hnow hc rfl hw (.inl ⟨rfl,rfl⟩),fe,.inl ⟨rfl,?_,?_⟩⟩
    ·rw [p2.ver]
    ·rw [← p2.prdsB]; exact hc
   ·exact ⟨H',_,_,Zba w ld.hk ko kn ld.hr rn p1 p3 pn' hb bn at_ hon hlb hnow hc rfl hw (.inr ⟨c,rfl,rfl⟩),fe,.inr ⟨c,rfl,rfl⟩⟩
section
variable {xk xr xp yk yr yp xb:AV} {K K2:List Key} {R R2:List Rvk} {P P2:List Prd} {b:List UInt8}
set_option maxHeartbeats 4000000 in
theorem t_DeviceVerdicts (hk:∀ G,Sl 12 G xk (kcs K) K.length) (ko:∀ p ∈ K,p.ok) (hr:∀ G,Sl 2 G xr (rcs R) R.length) (hp:∀ G,Sl 7 G xp (pcs P) P.length) (po:∀ p ∈ P,p.ok) (pn:P.length≤140737488355328)
  (hk2:∀ G,Sl 12 G yk (kcs K2) K2.length) (ko2:∀ p ∈ K2,p.ok) (hr2:∀ G,Sl 2 G yr (rcs R2) R2.length) (hp2:∀ G,Sl 7 G yp (pcs P2) P2.length) (po2:∀ p ∈ P2,p.ok) (pn2:P2.length≤140737488355328)
  (hb:∀ G,Sl 1 G xb (bs b) b.length) (stop zone at_:Int) :
  Called Tryz.prog F.clapperlaw18_DeviceVerdicts [.agg [xk,xr,xp],.agg [yk,yr,yp],xb,I stop,I zone,I at_] [] (Bl true) []:=by
 have o1:=(hk []).s.2.2.2.2.2.2.1
 have o2:=(hr []).s.2.2.2.2.2.2.1
 have o3:=(hp []).s.2.2.2.2.2.2.1
 have q1:=(hk2 []).s.2.2.2.2.2.2.1
 have q2:=(hr2 []).s.2.2.2.2.2.2.1
 have q3:=(hp2 []).s.2.2.2.2.2.2.1
 have b1:=(hb []).s.1
 have b2:=(hb []).s.2.1
 have b5:=(hb []).s.2.2.2.2.1
 have b6:=(hb []).s.2.2.2.2.2.1
 refine Up ?_
 simp only [Xc,go_sem,o1,o2,o3,q1,q2,q3]
 refine Za (Z0j _) (fun _ => rfl) ?_
 simp only [go_sem,o1,o2,o3,q1,q2,q3]
 refine Za (Zjy hk hr hp po pn) (fun _ => rfl) ?_
 simp only [go_sem,o1,o2,o3,q1,q2,q3]
 refine Za (Zjy hk2 hr2 hp2 po2 pn2) (fun _ => rfl) ?_
 simp only [go_sem,o1,o2,o3,q1,q2,q3,b1,b2,b5,b6]
 refine ⟨fun _ => Zc (H:=[]) rfl,fun hs => ?_⟩
 have hs:(Zef K R P=true∧Zef K2 R2 P2=true)∧b.length≤1000:=by
  simp only [Bool.or_eq_false_iff,Bool.not_eq_false',decide_eq_false_iff_not] at hs
  exact ⟨hs.1,by have:=hs.2; omega⟩
 obtain ⟨⟨s1,s2⟩,bn⟩:=hs
 simp only [Zef,Bool.and_eq_true,decide_eq_true_eq] at s1 s2
 obtain ⟨⟨⟨n1,n2⟩,n3⟩,n4⟩:=s1
 obtain ⟨⟨⟨m1,m2⟩,m3⟩,m4⟩:=s2
 have po':∀ p ∈ P,p.ok∧p.few:=fun p h => ⟨po p h,n2 p h⟩
 have po2':∀ p ∈ P2,p.ok∧p.few:=fun p h => ⟨po2 p h,m2 p h⟩
 obtain ⟨H0,hH0⟩:∃ H0:AH,H0=[⟨[xk,xr,xp],0,true⟩,⟨[yk,yr,yp],0,true⟩]:=⟨_,rfl⟩
 rw [← hH0]
 have l0:H0.length=2:=by rw [hH0]; rfl
 have a0:obj H0 0=⟨[xk,xr,xp],0,true⟩:=by rw [hH0]; rfl
 have a1:obj H0 1=⟨[yk,yr,yp],0,true⟩:=by rw [hH0]; rfl
 have hF:=F8 H0 (n:=4000) (by decide) (by decide)
 have c0:=J.t_fnew (H:=H0) (n:=4000) (by decide) (by decide)
 have f0:Fr H0 (H0++[⟨bs (List.replicate 4000 0),1,true⟩,⟨[.row H0.length 0 4000 4000],0,true⟩]) (fun _ => False):=Fr.app _ _ _
 have lh1:2≤(H0++[(⟨bs (List.replicate 4000 0),1,true⟩:AObj),⟨[.row H0.length 0 4000 4000],0,true⟩]).length:=by rw [List.length_append,l0]; omega
 generalize (H0++[⟨bs (List.replicate 4000 0),1,true⟩,⟨[.row H0.length 0 4000 4000],0,true⟩])=H1 at hF c0 f0 lh1
 obtain ⟨H2,v,j,x,c1,w1,f1,k1,k2,k3⟩:=Zjr (dn:=3) (d:=7) hF (J.SINV.new (n:=4000) (by decide) (by decide)).inv (by decide) (by decide) (by decide) may7 (by rw [List.length_replicate]; decide) (by decide) (by decide)
 have ld0:LD H2 v (newD 3 7 j) [] [] []:=⟨.nil,.nil,⟨[],.nil,Alike.refl _,fun _ h => (by cases h)⟩,(fun h => by cases h),(fun h => by cases h),(fun h => by cases h)⟩
 obtain ⟨g1,hg1⟩:∃ g,((Uk K&&revB R)&&prdsB P)=g:=⟨_,rfl⟩
 obtain ⟨g2,hg2⟩:∃ g,((Uk K2&&revB R2)&&prdsB P2)=g:=⟨_,rfl⟩
 obtain ⟨H3,t3,c3,w3,ld3,u1,u2,u3,u4,u5,u6,u7,f3⟩:=Zjz w1 hk ko (by omega) hr (by omega) hp po' (by omega) ld0 hg1
 obtain ⟨H4,t4,c4,w4,ld4,x1,x2,x3,x4,x5,x6,x7,f4⟩:=Zjz w3 hk2 ko2 (by omega) hr2 (by omega) hp2 po2' (by omega) ld3 hg2
 have c5:=Zj0 w4.dv stop zone
 have q0:=f0.1
 have q1':=f1.1
 have q3':=f3.1
 have q4':=f4.1
 have e0:obj H4 0=⟨[xk,xr,xp],0,true⟩:=by
  rw [f4.2 0 (by omega) (by omega),f3.2 0 (by omega) (by omega),f1.2 0 (by omega) (fun h => h),f0.2 0 (by omega) (fun h => h),a0]
 have e1:obj H4 1=⟨[yk,yr,yp],0,true⟩:=by
  rw [f4.2 1 (by omega) (by omega),f3.2 1 (by omega) (by omega),f1.2 1 (by omega) (fun h => h),f0.2 1 (by omega) (fun h => h),a1]
 -- What the device has then.
 obtain ⟨K3,hK3⟩:∃ K3,K3=if g2 then K2 else if g1 then K else []:=⟨_,rfl⟩
 obtain ⟨R3,hR3⟩:∃ R3,R3=if g2 then R2 else if g1 then R else []:=⟨_,rfl⟩
 obtain ⟨P3,hP3⟩:∃ P3,P3=if g2 then P2 else if g1 then P else []:=⟨_,rfl⟩
 rw [← hK3,← hR3,← hP3] at ld4
 have ko3:∀ p ∈ K3,p.ok:=by
  rw [hK3]; cases g2
  ·cases g1
   ·intro _ h; cases h
   ·exact ko
  ·exact ko2
 have kn3:K3.length≤60:=by
  rw [hK3]; cases g2
  ·cases g1
   ·exact Nat.zero_le _
   ·show K.length≤60; omega
  ·show K2.length≤60; omega
 have rn3:R3.length≤300:=by
  rw [hR3]; cases g2
  ·cases g1
   ·exact Nat.zero_le _
   ·show R.length≤300; omega
  ·show R2.length≤300; omega
 have po3:∀ p ∈ P3,p.ok∧p.few:=by
  rw [hP3]; cases g2
  ·cases g1
   ·intro _ h; cases h
   ·exact po'
  ·exact po2'
 have pn3:P3.length≤60:=by
  rw [hP3]; cases g2
  ·cases g1
   ·exact Nat.zero_le _
   ·exact n1
  ·exact m1
 obtain ⟨gb,hgb⟩:∃ g,(inB 0 31 stop&&inB 0 7 zone)=g:=⟨_,rfl⟩
 rw [hgb] at c5
 have key:∃ H5 H6 z y,Called Tryz.prog F.device_Device_Begin [.ptr v 0,I stop,I zone] H4 (if gb then nilE else eAV 1) H5∧Called Tryz.prog F.device_Device_Scan [.ptr v 0,xb,I at_] H5 (.tup [z,y]) H6∧2≤H6.length∧obj H6 0=⟨[xk,xr,xp],0,true⟩∧obj H6 1=⟨[yk,yr,yp],0,true⟩ ∧
   ((gb=true∧y=nilE∧z=I (verN (Xs K3 b at_) R3 P3 zone at_)∧(((Uk K3&&revB R3)&&prdsB P3)&&plcB zone at_)=true)∨∃ c,y=eAV c∧z=I 0):=by
  cases gb
  ·exact ⟨_,_,_,_,c5,Zjn w4 hb at_ (by rw [x1,u1]; rfl),by omega,e0,e1,.inr ⟨7,rfl,rfl⟩⟩
  ·have w5:=w4.upd (s':={ t4 with on:=true,stop:=stop,zone:=zone }) rfl rfl rfl rfl
   have f5:Fr H4 (setO H4 v { t4 with on:=true,stop:=stop,zone:=zone }.cells) (fun i => i=v):=Fr.set _ _ rfl
   have ld5:=ld4.frame f5 (s':={ t4 with on:=true,stop:=stop,zone:=zone }) rfl rfl rfl
   obtain ⟨H6,z,y,c6,f6,hzy⟩:=Zv6 w5 ld5 ko3 (by omega) (by omega) (by omega) (by show t4.ct=false; rw [x2,u2]; rfl) (by decide) (by decide) (by decide) (by decide) hb (by omega) at_
   have q5:=f5.1
   have q6:=f6.1
   have ej:t4.j=j:=by rw [x6,u6]; rfl
   have ea:t4.all=nilS:=by rw [x7,u7]; rfl
   have far:∀ i,i<2→¬ (i=v∨i=({ t4 with on:=true,stop:=stop,zone:=zone }:Dv).j∨i=H0.length∨rid x=some i∨rid ({ t4 with on:=true,stop:=stop,zone:=zone }:Dv).all=some i):=by
    rintro i hi (h | h | h | h | h)
    ·omega
    ·have h:i=t4.j:=h
     rw [ej] at h; omega
    ·omega
    ·have:=k3 i h; omega
    ·have h:rid t4.all=some i:=h
     rw [ea] at h; cases h
   refine ⟨_,H6,z,y,c5,c6,by omega,?_,?_,?_⟩
   ·rw [f6.2 0 (by omega) (far 0 (by omega)),f5.2 0 (by omega) (by omega),e0]
   ·rw [f6.2 1 (by omega) (far 1 (by omega)),f5.2 1 (by omega) (by omega),e1]
   ·rcases hzy with h | h
    ·exact .inl ⟨rfl,h⟩
    ·exact .inr h
 obtain ⟨H5,H6,z,y,c6,c7,l6,z0,z1,hzy⟩:=key
 have d0:0<H4.length:=by omega
 have d1:1<H4.length:=by omega
 have d2:0<H2.length:=by omega
 have d3:0<H3.length:=by omega
 have d4:1<H3.length:=by omega
 have d6:0<H6.length:=by omega
 have d7:1<H6.length:=by omega
 have y0:obj H2 0=⟨[xk,xr,xp],0,true⟩:=by
  rw [f1.2 0 (by omega) (fun h => h),f0.2 0 (by omega) (fun h => h),a0]
 have y1:obj H3 1=⟨[yk,yr,yp],0,true⟩:=by
  rw [f3.2 1 (by omega) (by omega),f1.2 1 (by omega) (fun h => h),f0.2 1 (by omega) (fun h => h),a1]
 refine Za c0 (fun h => absurd h (by decide)) ?_
 simp only [go_sem]
 rw [← Z40]
 refine Za c1 (fun h => absurd h (by decide)) ?_
 simp only [go_sem,y0,d2,o1,o2,o3]
 refine Za c3 (fun h => absurd h (by decide)) ?_
 simp only [go_sem,y1,d4,q1,q2,q3]
 refine Za c4 (fun h => absurd h (by decide)) ?_
 simp only [go_sem,b1,b2,b5,b6]
 refine Za c6 (fun h => absurd h (by decide)) ?_
 simp only [go_sem,b1,b2,b5,b6]
 refine Za c7 (fun h => absurd h (by decide)) ?_
 -- The box of the data that counts.
 have hk3:∀ G,Sl 12 G (if g2 then yk else if g1 then xk else nilS) (kcs K3) K3.length:=by
  intro G; rw [hK3]; cases g2
  ·cases g1
   ·exact .nil
   ·exact hk G
  ·exact hk2 G
 have hr3:∀ G,Sl 2 G (if g2 then yr else if g1 then xr else nilS) (rcs R3) R3.length:=by
  intro G; rw [hR3]; cases g2
  ·cases g1
   ·exact .nil
   ·exact hr G
  ·exact hr2 G
 have hp3:∀ G,Sl 7 G (if g2 then yp else if g1 then xp else nilS) (pcs P3) P3.length:=by
  intro G; rw [hP3]; cases g2
  ·cases g1
   ·exact .nil
   ·exact hp G
  ·exact hp2 G
 have tv:=fun G => I1 (hk3 G) ko3 (by omega) (hr3 G) (by omega) (hp3 G) po3 (by omega) (hb G) (by omega) zone at_
 have os:∀ cs,obj (setO H6 0 cs) 0=⟨cs,0,true⟩:=fun cs => by rw [Yj _ _ d6,z0]
 cases g1 <;> cases g2 <;> cases gb <;> (rcases hzy with ⟨h1,rfl,rfl,h4⟩ | ⟨c,rfl,rfl⟩) <;> (try (cases h1)) <;> simp only [go_sem,z0,z1,d6,d7,o1,o2,o3,q1,q2,q3,os]
 all_goals first
  | exact Zc (H:=[]) rfl
  | (simp only [h4,if_true] at tv
     refine Za (tv _) (fun _ => rfl) ?_
     simp only [go_sem,beq_self_eq_true]
     exact Zc (H:=[]) rfl)
end
end Go.Proofs.YtcgjlpdkobmpnaaGreat.Eng.D

