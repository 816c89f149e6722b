/- Layer 22: a device's chain is found. -/
import Derived.Test.YtcgjlpdkobmpnaaGreatMCd
import Derived.Test.YtcgjlpdkobmpnaaGreatME6
import Derived.Test.YtcgjlpdkobmpnaaGreatMTl
import Derived.Test.YtcgjlpdkobmpnaaGreatMIn
import Derived.Test.YtcgjlpdkobmpnaaGreatMRc
import Derived.Test.YtcgjlpdkobmpnaaGreatMKy
import Derived.Test.YtcgjlpdkobmpnaaGreatMRv
import Derived.Test.YtcgjlpdkobmpnaaGreatMRo
namespace Go.Proofs.YtcgjlpdkobmpnaaGreat.Eng
open Go Go.Proofs
set_option linter.unusedVariables false
set_option linter.unusedSimpArgs false
set_option maxRecDepth 10000
structure Chn where
 dev:Int
 s:AV
def Chn.cells (c:Chn):List AV:=[I c.dev,c.s]
def chcs (l:List Chn):List AV:=l.flatMap Chn.cells
def noC:Chn:=⟨0,nilS⟩
theorem Chn.len (c:Chn):c.cells.length=2:=rfl
def cmpI (a b:Int):Int:=if a<b then -1 else if b<a then 1 else 0
section
variable {pf:Pf} {C:Ys} {Q:Ex→Env→AH→Prop} {l:List (Nat × AV)} {H:AH} {k:IC} {d j:Nat} {w:Bool}
theorem Zxj (x:IArg) (ags:List IArg):iwp pf C (qg d j w (.callv x ags) k) Q (look l) H=Yt w (fun g => (∀ y ∈ x::ags,Yj g (em l y))∧∃ v,(g=true→cvOf pf C H v H (ags.map (er l)) (er l x))∧iwp pf C k Q (look ((d,.may g v)::l)) H) (look l j):=by
 simp only [qg,iwp,iopwp]
 simp only [Cy]; rfl
theorem Zx4 (v:AV) (H':AH) (ags:List AV) (f:FuncId) (a b:List AV):cvOf pf C H v H' ags (.fn (.func f) a b)=(C f (a++ags++b) H v H'∧(pf.v=true→H'=H)):=rfl
end
section
variable {H:AH} {x:AV} {C:List Chn}
theorem Zz4 (n:Int) (H:AH):Called Tryz.prog F.cmp_isNaN_int [I n] H (Bl false) H:=by
 refine Gj ?_
 simp only [R6,go_sem,bne_self_eq_false]
 exact Leave.refl _ _ _
theorem Z34 (a b:Int) (H:AH):Called Tryz.prog F.cmp_Compare_int [I a,I b] H (I (cmpI a b)) H:=by
 refine Kb ?_
 simp only [T6,go_sem]
 refine Za (Zz4 _ _) (fun _ => rfl) ?_
 simp only [go_sem]
 refine Za (Zz4 _ _) (fun _ => rfl) ?_
 simp only [go_sem]
 rw [cmpI]
 refine ⟨fun h => ?_,fun h => ⟨fun h2 => ?_,fun h2 => ?_⟩⟩
 ·rw [if_pos (by omega)]; exact Leave.refl _ _ _
 ·rw [if_neg (by omega),if_pos (by omega)]; exact Leave.refl _ _ _
 ·rw [if_neg (by omega),if_neg (by omega)]; exact Leave.refl _ _ _
theorem Zea (c:Chn) (d:Int) (H:AH) (h1:c.s.one=true) (h2:c.s.cells=[c.s]):Called Tryz.prog F.facts_chain_1 [.agg c.cells,I d] H (I (cmpI c.dev d)) H:=by
 refine Gi ?_
 simp only [R5,Chn.cells,go_sem,h1,h2]
 refine Za (Z34 _ _ _) (fun _ => rfl) ?_
 simp only [go_sem]
 exact Zc rfl
def plc (C:List Chn) (d:Int):Nat:=(C.takeWhile fun c => decide (c.dev<d)).length
def isCh (C:List Chn) (d:Int):Bool:=decide (plc C d<C.length)&&decide ((C.getD (plc C d) noC).dev=d)
def srtC (C:List Chn):Prop:=∀ i j,i<j→j<C.length→(C.getD i noC).dev<(C.getD j noC).dev
theorem Zty {d:Int}:∀ {C:List Chn} {i:Nat},i≤C.length→(∀ k,k<i→(C.getD k noC).dev<d)→(i<C.length→¬ (C.getD i noC).dev<d)→plc C d=i
 | [],i,h0,h1,h2 => by simp at h0; subst h0; rfl
 | c::C,0,h0,h1,h2 => by
  have:¬ c.dev<d:=h2 (by simp)
  rw [plc,List.takeWhile_cons,if_neg (by simpa using this)]; rfl
 | c::C,i+1,h0,h1,h2 => by
  have:c.dev<d:=h1 0 (by omega)
  rw [plc,List.takeWhile_cons,if_pos (by simpa using this),List.length_cons]
  have ih:=Zty (d:=d) (C:=C) (i:=i) (by simpa using h0) (fun k hk => h1 (k+1) (by omega)) (fun h => h2 (by simpa using h))
  rw [plc] at ih
  rw [ih]
theorem Zki (C:List Chn) (d:Int):plc C d≤C.length:=by
 rw [plc]; exact (List.takeWhile_sublist _).length_le
theorem Zjh (hx:∀ G,Sl 2 (H++G) x (chcs C) C.length) (hs:srtC C) (h1:∀ c ∈ C,c.s.one=true∧c.s.cells=[c.s]) (hn:C.length≤1000000) (d:Int) :
  Called Tryz.prog F.slices_BinarySearchFunc_api_Chain_api_Chain_int [x,I d,.fn (.func F.facts_chain_1) [] []] H (.tup [I (plc C d),Bl (isCh C d)]) H:=by
 have hx0:=hx []
 rw [List.append_nil] at hx0
 refine Xu ?_
 simp only [Yr,go_sem,hx0.s]
 refine Z1 _ (fun (s:Nat × Nat) => ([(0,x),(1,I d),(2,.fn (.func F.facts_chain_1) [] []),(8,I C.length),(9,I s.1),(10,I s.2)],H)) (fun s => s.1≤s.2∧s.2≤C.length∧(∀ k,k<s.1→(C.getD k noC).dev<d)∧(s.2<C.length→¬ (C.getD s.2 noC).dev<d)) (fun s => s.2 - s.1) (0,C.length) ⟨Nat.zero_le _,Nat.le_refl _,fun k hk => by omega,fun h => by omega⟩ rfl ?_
 rintro ⟨i,j⟩ ⟨a1,a2,a3,a4⟩
 dsimp only at a1 a2 a3 a4 ⊢
 simp only [go_sem,hx0.s]
 refine ⟨fun hlt => ?_,fun hlt => ?_⟩
 ·obtain ⟨m,hm⟩:∃ m,m=(i+j) / 2:=⟨_,rfl⟩
  have e1:IntKind.i64.wrap ((i:Int)+j)=((i+j:Nat):Int):=w64 _ (by omega) (by omega)
  have e2:IntKind.i64.wrap ((IntKind.u64.wrap ((i+j:Nat):Int)).fdiv (2^min 1 64))=(m:Int):=by
   have:IntKind.u64.wrap ((i+j:Nat):Int)=((i+j:Nat):Int):=by
    simp only [IntKind.wrap,IntKind.bits,IntKind.signed]
    show ((i+j:Nat):Int)%18446744073709551616=_
    omega
   rw [this,show (2:Int)^min 1 64=2 from rfl,Int.fdiv_eq_ediv_of_nonneg _ (by decide)]
   rw [w64 _ (by omega) (by omega)]
   omega
  have hmj:m<C.length:=by omega
  have hel:elt (chcs C) 2 m=(C.getD m noC).cells:=Xg Chn.cells 2 Chn.len C m noC hmj
  have hmem:C.getD m noC ∈ C:=by
   rw [List.getD_eq_getElem?_getD,List.getElem?_eq_getElem hmj]; exact List.getElem_mem hmj
  obtain ⟨o1,o2⟩:=h1 _ hmem
  simp only [e1,e2,hx0.idx,hx0.ldOk .i64 hmj (Nat.le_refl 2),hx0.ldA .i64 hmj (by decide),hel]
  refine ⟨by decide,⟨by omega,by omega⟩,trivial,Za (Zea _ d H o1 o2) (fun _ => rfl) ?_⟩
  simp only [go_sem]
  have hI:∀ k:Nat,IntKind.i64.wrap ((k:Int)+1)=((k+1:Nat):Int)∨9223372036854775807≤k:=fun k => by
   rcases Nat.lt_or_ge k 9223372036854775807 with h | h
   ·exact .inl (w64 _ (by omega) (by omega))
   ·exact .inr h
  refine ⟨fun hc => ?_,fun hc => ?_⟩
  ·have hc:(C.getD m noC).dev<d:=by
    rw [cmpI] at hc
    split at hc
    ·assumption
    ·split at hc <;> omega
   refine ⟨(m+1,j),by rw [w64 _ (by omega) (by omega)]; rfl,⟨by omega,a2,fun k hk => ?_,a4⟩,by show j - (m+1)<j - i; omega⟩
   rcases Nat.lt_or_ge k m with h | h
   ·have:=hs k m h hmj; omega
   ·have:k=m:=by omega
    subst this; exact hc
  ·have hc:¬ (C.getD m noC).dev<d:=fun hh => hc (by rw [cmpI,if_pos hh]; decide)
   exact ⟨(i,m),rfl,⟨by omega,by omega,a3,fun _ => hc⟩,by show m - i<j - i; omega⟩
 ·have hij:i=j:=by omega
  subst hij
  have ep:plc C d=i:=Zty a2 a3 a4
  simp only [Zxj,go_sem,Zx4]
  have key:i<C.length→Yc true 2 H (Z5 2 (I i) x)=.agg (C.getD i noC).cells:=fun hlt2 => by
   rw [hx0.ldA .i64 hlt2 (by decide)]
   exact congrArg _ (Xg Chn.cells 2 Chn.len C i noC hlt2)
  have hmem:i<C.length→C.getD i noC ∈ C:=fun h => by
   rw [List.getD_eq_getElem?_getD,List.getElem?_eq_getElem h]; exact List.getElem_mem h
  refine ⟨fun h => by rw [hx0.idx]; exact ⟨by omega,h⟩,fun h => by rw [hx0.ldOk .i64 (by omega) (Nat.le_refl 2)]; trivial,I (cmpI (C.getD i noC).dev d),fun h => ?_,fun _ => by simp only [go_sem],?_⟩
  ·rw [key (by omega)]
   exact Zea _ d H (h1 _ (hmem (by omega))).1 (h1 _ (hmem (by omega))).2
  ·refine Zk ?_
   rw [ep,isCh,ep]
   by_cases hlt2:i<C.length
   ·have e1:decide ((i:Int)<C.length)=true:=decide_eq_true (by omega)
    have e2:decide (i<C.length)=true:=decide_eq_true hlt2
    have hge:=a4 hlt2
    rw [e1,e2]
    show AV.tup [I i,.lit (.bool (cmpI (C.getD i noC).dev d == 0))]=_
    have e3:(cmpI (C.getD i noC).dev d == 0)=decide ((C.getD i noC).dev=d):=by
     rw [cmpI,if_neg hge]
     by_cases h2:d<(C.getD i noC).dev
     ·rw [if_pos h2,decide_eq_false (by omega)]; rfl
     ·rw [if_neg h2,decide_eq_true (by omega)]; rfl
    rw [e3,Bool.true_and]
   ·have e1:decide ((i:Int)<C.length)=false:=decide_eq_false (by omega)
    have e2:decide (i<C.length)=false:=decide_eq_false hlt2
    rw [e1,e2]; rfl
theorem Af {sz:Nat} (hz:0<sz):Leave H nilS H (.row H.length 0 0 0) (H++[⟨[],sz,true⟩]):=by
 intro φ0 w0 φ w y h1 h2 h3 h4
 obtain ⟨φ',g1,g2,g3⟩:=Jr (S:=cx φ H w) h2 (ob:=⟨[],sz,true⟩) rfl hz
 refine ⟨φ',g2,h3.trans g3,?_⟩
 have h4:y=.slice none 0 0:=h4
 subst h4
 exact ⟨none,0,rfl,Nat.le_refl _,by simp,⟨[],sz,true⟩,by show (H++[_])[H.length]? = _; simp,Nat.le_refl _,fun _ => .inl ⟨g1,rfl,hz⟩⟩
theorem Zo9 (hx:Sl 2 H x (chcs C) C.length) (h1:(chcs C).all AV.one=true) (hn:C.length≤1000000):Called Tryz.prog F.slices_Clone_api_Chain_api_Chain [x] H (.row H.length 0 C.length (C.length*2)) (H++[⟨chcs C,2,true⟩]):=by
 have hl:=hx.length
 refine Vh ?_
 simp only [Xq,go_sem]
 refine hx.nilc (fun h0 => ?_) ?_
 ·have:C=[]:=List.eq_nil_of_length_eq_zero h0
  subst this
  exact Af (by decide)
 ·simp only [go_sem,hx.s]
  refine ⟨⟨h1,by omega⟩,?_⟩
  rw [hl]
  exact Leave.refl _ _ _
end
def Vw (x:AV):Prop:=x=nilS∨∃ cs n f,x=.view cs n f
theorem Vw.s {x:AV} (h:Vw x):x.one=true∧x.cells=[x]∧x.un=x∧(∀ g,Yj g x=True)∧∀ ren H,low ren H x=x:=by
 rcases h with rfl | ⟨cs,n,f,rfl⟩
 ·exact ⟨rfl,rfl,rfl,fun _ => rfl,fun _ _ => rfl⟩
 ·exact ⟨rfl,rfl,rfl,fun _ => rfl,fun _ _ => rfl⟩
theorem Y4 {sz n:Nat} {x:AV} {cs:List AV} (h:∀ H,Sl sz H x cs n):Vw x:=by
 rcases (h []).cases with ⟨h1,_⟩ | ⟨f,h1,_⟩ | ⟨id,off,L,h1,h2,_⟩
 ·exact .inl h1
 ·exact .inr ⟨cs,n,f,h1⟩
 ·exact absurd h2 (Nat.not_lt_zero _)
def fct (dv kv rv pv sv cv:AV) (pen:Int) (ch en:AV):List AV:=[dv,kv,rv,pv,sv,cv,I pen,ch,en]
structure FV (dv kv rv pv sv cv ch en:AV):Prop where
 dv:Vw dv
 kv:Vw kv
 rv:Vw rv
 pv:Vw pv
 sv:Vw sv
 cv:Vw cv
 ch:Vw ch
 en:Vw en
section
variable {H:AH} {x:AV} {dv kv rv pv sv cv ch en:AV} {pen:Int} {C:List Chn}
theorem Zd9 (hv:FV dv kv rv pv sv cv ch en) (hx:∀ G,Sl 2 G ch (chcs C) C.length) (hs:srtC C) (h1:∀ c ∈ C,Vw c.s) (hn:C.length≤1000000) (d:Int) :
  Called Tryz.prog F.facts_chain [.agg (fct dv kv rv pv sv cv pen ch en),I d] H (.tup [I (plc C d),Bl (isCh C d)]) H:=by
 refine Cr ?_
 simp only [Oa,fct,go_sem,hv.dv.s,hv.kv.s,hv.rv.s,hv.pv.s,hv.sv.s,hv.cv.s,hv.ch.s,hv.en.s]
 refine Za (Zjh (fun G => hx _) hs (fun c hc => ⟨(h1 c hc).s.1,(h1 c hc).s.2.1⟩) hn d) (fun _ => rfl) ?_
 simp only [go_sem]
 exact Zc rfl
def recV (C:List Chn) (d:Int):AV:=if isCh C d then (C.getD (plc C d) noC).s else nilS
theorem Zv4 (h1:∀ c ∈ C,Vw c.s) (d:Int):Vw (recV C d):=by
 rw [recV]
 split
 ·rename_i h
  simp only [isCh,Bool.and_eq_true,decide_eq_true_eq] at h
  exact h1 _ (by rw [List.getD_eq_getElem?_getD,List.getElem?_eq_getElem h.1]; exact List.getElem_mem h.1)
 ·exact .inl rfl
theorem Ztg (hv:FV dv kv rv pv sv cv ch en) (hx:∀ G,Sl 2 G ch (chcs C) C.length) (hs:srtC C) (h1:∀ c ∈ C,Vw c.s) (hn:C.length≤1000000) (d:Int) :
  Called Tryz.prog F.facts_records [.agg (fct dv kv rv pv sv cv pen ch en),I d] H (recV C d) H:=by
 have hr:=Zv4 h1 d
 have rf:=fun K => Zd9 (H:=K) (pen:=pen) hv hx hs h1 hn d
 refine Gh ?_
 simp only [fct] at rf ⊢
 simp only [R4,go_sem,hv.dv.s,hv.kv.s,hv.rv.s,hv.pv.s,hv.sv.s,hv.cv.s,hv.ch.s,hv.en.s]
 refine Za (rf _) (fun _ => rfl) ?_
 simp only [go_sem]
 rw [recV] at hr ⊢
 refine ⟨fun h => ?_,fun h => ?_⟩
 ·rw [if_pos h] at hr ⊢
  simp only [isCh,Bool.and_eq_true,decide_eq_true_eq] at h
  have hx0:=hx (H++[⟨[dv,kv,rv,pv,sv,cv,I pen,ch,en],0,true⟩])
  have e1:=hx0.fdOk .i64 (o:=1) (m:=1) h.1 (by decide)
  have e2:Yc false 1 (H++[⟨[dv,kv,rv,pv,sv,cv,I pen,ch,en],0,true⟩]) (fldV 1 (Z5 2 (I (plc C d)) ch))=(C.getD (plc C d) noC).s:=by
   rw [hx0.fd .i64 (o:=1) (m:=1) h.1 (by decide) (by decide)]
   rw [if_neg (by decide)]
   exact W7 Chn.cells 2 Chn.len C (plc C d) 1 noC h.1 (by decide)
  simp only [hx0.idx,e1.1,e1.2,e2,go_sem,hr.s]
  refine ⟨⟨by omega,by omega⟩,Zc ?_⟩
  exact hr.s.2.2.2.2 _ _
 ·rw [if_neg (by rw [h]; decide)]
  exact Zc rfl
theorem Z0q {cs:List AV} {n:Nat} (hx:Sl 1 H x cs n) (hv:Vw x) (hn:n≤1000000):Called Tryz.prog F.slices_Clip_byte_byte [x] H (.view cs n true) H:=by
 have hl:=hx.length
 refine Rp ?_
 rcases hv with rfl | ⟨cs',n',f,rfl⟩
 ·have hn0:n=0:=hx.n.symm
  subst hn0
  have:cs=[]:=List.eq_nil_of_length_eq_zero (by omega)
  subst this
  simp only [X7,go_sem]
  exact Jz (Nz true)
 ·have e1:cs'=cs:=hx.c
  have e2:n'=n:=hx.n
  subst e1 e2
  simp only [X7,go_sem]
  refine ⟨⟨by omega,by omega⟩,Zk ?_⟩
  have e3:cut cs' 1 0 n'=cs':=by
   rw [cut,List.drop_zero,List.take_of_length_le (by omega)]
  simp [Xh,bnd,asI,e3]
noncomputable def lnkB (b:List UInt8):List UInt8:=match Xw b with
 | some (_,d,_,_) => d
 | none => zd
noncomputable def Jd (l:List Bt):List UInt8:=if l.length=0 then zd else lnkB (l.getD (l.length - 1) noB).b
theorem Zqr {b:List UInt8} (hn:b.length≤100000):(lnkB b).length=32:=by
 rw [lnkB]
 cases ho:Xw b with
 | none => rfl
 | some p =>
  obtain ⟨r,d,s,t⟩:=p
  exact (U1 ho hn).2.2.1
theorem Z0a {l:List Bt} (hx:∀ G,Sl 1 G x (l.map Bt.e) l.length) (hl:∀ y ∈ l,y.ok) (hn:l.length≤1000000):Called Tryz.prog F.facts_last [x] H (.agg (bs (Jd l))) H:=by
 have hv:=Y4 hx
 have e8:[Z0,Z0,Z0,Z0,Z0,Z0,Z0,Z0]=sgc 0 0:=rfl
 have no1:=Zp Zt
 have nospl:=Xj Zt Zt
 obtain ⟨n32,b32,t32⟩:=Uh (show zd.length=32 from rfl)
 have s3z:=Vr (show zd.length=32 from rfl) (show zd.length=32 from rfl)
 refine Zae ?_
 simp only [Mg,V8,Og]
 simp only [go_sem,hv.s,(hx []).lenT,(hx []).n,Z7,Xv,e8,b32,t32,s3z,Xx]
 refine ⟨fun h => ?_,fun h => ?_⟩
 ·have h0:l.length=0:=by simpa using h
  rw [Jd,if_pos h0]
  exact Zc rfl
 ·have h0:¬ l.length=0:=by simpa using h
  rw [Jd,if_neg h0]
  have w1:IntKind.i64.wrap ((l.length:Int) - 1)=((l.length - 1:Nat):Int):=by rw [w64 _ (by omega) (by omega)]; omega
  have hlt:l.length - 1<l.length:=by omega
  have ld:∀ K,Yc false 1 K (Z5 1 (I ((l.length - 1:Nat):Int)) x)=(l.getD (l.length - 1) noB).e:=fun K => by
   rw [(hx K).ld1 .i64 hlt,List.getD_eq_getElem?_getD,List.getElem?_map,List.getD_eq_getElem?_getD,List.getElem?_eq_getElem hlt]; rfl
  have lk:∀ K,Z6 1 K (Z5 1 (I ((l.length - 1:Nat):Int)) x)=True:=fun K => (hx K).ldOk .i64 hlt (Nat.le_refl _)
  have hok:=hl _ (Zl noB hlt)
  have hb:=hok.1
  simp only [w1,(hx []).idx,ld,lk,true_and]
  refine ⟨⟨by omega,by omega⟩,Za (Ie (hok.2 _) hb) (fun _ => rfl) ?_⟩
  generalize (l.getD (l.length - 1) noB).b=b at hb ⊢
  rw [lnkB]
  cases ho:Xw b with
  | none =>
   simp only [Sz,go_sem,Z7,Xv,no1.1,no1.2.1,no1.2.2.1,nospl,e8,Y1,Yv,Y2,Yd,b32,t32,s3z,Xx]
   exact Zc rfl
  | some p =>
   obtain ⟨r,d,s,t⟩:=p
   obtain ⟨hr,hrb,hd,hs,ht⟩:=U1 ho hb
   obtain ⟨nd,bd,td⟩:=Uh hd
   have sd:=Vr (show zd.length=32 from rfl) hd
   have r1:=Zp hr
   have rspl:=Xj Zt hr
   simp only [Sz,go_sem,Z7,Xv,no1.1,no1.2.1,no1.2.2.1,nospl,r1.1,r1.2.1,r1.2.2.1,rspl,e8,Y1,Yv,Y2,Yd,b32,t32,s3z,sd,Xx,bd,td]
   refine Zc ?_
   show AV.agg (lowL _ _ (bs d))=_
   rw [I9]
end
structure Chx where
 dev:Int
 l:List Bt
 s:AV
def Chx.n (c:Chx):Chn:=⟨c.dev,c.s⟩
def Chx.ok (c:Chx):Prop:=(∀ H,Sl 1 H c.s (c.l.map Bt.e) c.l.length)∧(∀ y ∈ c.l,y.ok∧y.e.pure=true∧y.e.one=true)∧c.l.length≤1000
def noX:Chx:=⟨0,[],nilS⟩
abbrev nx (C:List Chx):List Chn:=C.map Chx.n
def Xd (C:List Chx) (d:Int):List Bt:=if isCh (nx C) d then (C.getD (plc (nx C) d) noX).l else []
def Pq (C:List Chx) (d:Int) (b:List UInt8):Chx:=⟨d,Xd C d++[⟨b,vB b false⟩],.view ((Xd C d).map Bt.e++[vB b false]) ((Xd C d).length+1) false⟩
def Vi (C:List Chx) (d:Int) (b:List UInt8):List Chx:=if isCh (nx C) d then C.set (plc (nx C) d) (Pq C d b) else C.take (plc (nx C) d)++([Pq C d b]++C.drop (plc (nx C) d))
noncomputable def Gx (D:List Key) (C:List Chx) (d:Int) (b:List UInt8):Int:=match Xw b with
 | none => 2
 | some (r,h,s,t) =>
  if r.dev≠d then 2 else
  if r.seq≠(Xd C d).length∨r.prev≠Jd (Xd C d) then 7 else
  match (if Rm D then fOf D d r.min_ else none) with
  | none => 4
  | some k => if verB k.x k.y k.far h s t=false then 8 else
   if 60≤(Xd C d).length∨(isCh (nx C) d=false∧8≤C.length) then 6 else 0
def Zgs:List AV:=fct nilS nilS nilS nilS nilS nilS 0 nilS nilS
section
variable {H:AH} {x:AV} {dv kv rv pv sv cv ch en:AV} {pen:Int} {C:List Chx} {D:List Key} {b:List UInt8}
theorem Nh (h:∀ c ∈ C,c.ok) (d:Int):(∀ H,Sl 1 H (recV (nx C) d) ((Xd C d).map Bt.e) (Xd C d).length)∧(∀ y ∈ Xd C d,y.ok∧y.e.pure=true∧y.e.one=true)∧(Xd C d).length≤1000:=by
 rw [recV,Xd]
 split
 ·rename_i hc
  simp only [isCh,Bool.and_eq_true,decide_eq_true_eq,List.length_map] at hc
  have e:((nx C).getD (plc (nx C) d) noC).s=(C.getD (plc (nx C) d) noX).s:=by
   rw [List.getD_eq_getElem?_getD,List.getElem?_map,List.getD_eq_getElem?_getD,List.getElem?_eq_getElem hc.1]; rfl
  have hm:C.getD (plc (nx C) d) noX ∈ C:=by
   rw [List.getD_eq_getElem?_getD,List.getElem?_eq_getElem hc.1]; exact List.getElem_mem hc.1
  rw [e]
  exact h _ hm
 ·exact ⟨fun _ => .nil,fun y hy => (by cases hy),Nat.zero_le _⟩
theorem Zxq {l:List Key} {n m:Int} {k:Key} (h:fOf l n m=some k):k ∈ l:=by
 unfold fOf at h
 split at h
 ·cases h
 ·rename_i h0
  split at h
  ·cases h
   refine Zl W4 ?_
   have:fstA (fun k => k.id == n) l<l.length:=by
    unfold fstA
    split
    ·rename_i i hi
     have:=(List.findIdx?_eq_some_iff_getElem.1 hi).1
     omega
    ·omega
   omega
  ·cases h
def Zu2 (dv kv rv pv sv cv:AV) (pen:Int) (en:AV) (C:List Chx) (d:Int) (b:List UInt8) (e:Int):AV:=if e=0 then .tup [.agg (fct dv kv rv pv sv cv pen (.view (chcs (nx (Vi C d b))) (Vi C d b).length false) en),nilE] else .tup [.agg Zgs,.lit (.iface T.api_Code (.int .i64 e))]
theorem Uw {d e:Int} (h:e≠0):Zu2 dv kv rv pv sv cv pen en C d b e=.tup [.agg Zgs,.lit (.iface T.api_Code (.int .i64 e))]:=if_neg h
theorem Ez {d:Int}:Zu2 dv kv rv pv sv cv pen en C d b 0=.tup [.agg (fct dv kv rv pv sv cv pen (.view (chcs (nx (Vi C d b))) (Vi C d b).length false) en),nilE]:=if_pos rfl
theorem Zk9 {ren:Nat→Option Nat} {K:AH} {id n L:Nat} {cs:List AV} {w:Bool} (h0:ren id=none) (ho:obj K id=⟨cs,2,w⟩) (hL:L=cs.length) (hc:cs.length=n*2) (hp:Ye cs=true):low ren K (.row id 0 n L)=.view cs n false:=by
 simp only [low,h0,Ri,ho,if_neg (show ¬ (2:Nat)=0 by decide)]
 have e2:(cs.drop 0).take (n*2)=cs:=by rw [List.drop_zero,List.take_of_length_le (by omega)]
 rw [e2,if_pos ⟨hL,by omega,hp⟩]
theorem Pn (C:List Chx):(chcs (nx C)).length=C.length*2:=by
 induction C with
 | nil => rfl
 | cons c C ih =>
  show (c.n.cells++chcs (nx C)).length=_
  rw [List.length_append,ih,Chn.len,List.length_cons]; omega
theorem Cw (A B:List Chx):chcs (nx (A++B))=chcs (nx A)++chcs (nx B):=by
 simp [chcs,nx]
theorem Pa:∀ (C:List Chx) (i:Nat),(chcs (nx C)).take (i*2)=chcs (nx (C.take i))∧(chcs (nx C)).drop (i*2)=chcs (nx (C.drop i))
 | [],i => by simp [chcs]
 | c::C,0 => by simp [chcs]
 | c::C,i+1 => by
  obtain ⟨h1,h2⟩:=Pa C i
  have e:(i+1)*2=i*2+1+1:=by omega
  have ec:chcs (nx (c::C))=I c.dev::c.s::chcs (nx C):=rfl
  rw [e,ec,List.take_succ_cons,List.take_succ_cons,h1,List.drop_succ_cons,List.drop_succ_cons,h2]
  exact ⟨rfl,rfl⟩
theorem Zr3 {C:List Chx} {i:Nat} (h:i<C.length) (c:Chx):(chcs (nx C)).take (i*2)++I c.dev::c.s::(chcs (nx C)).drop (i*2+2)=chcs (nx (C.set i c)):=by
 have e:i*2+2=(i+1)*2:=by omega
 rw [e,(Pa C i).1,(Pa C (i+1)).2,List.set_eq_take_append_cons_drop,if_pos h,Cw]; rfl
theorem Zr4 {C:List Chx} {i:Nat} (c:Chx):(chcs (nx C)).take (i*2)++([I c.dev,c.s]++(chcs (nx C)).drop (i*2))=chcs (nx (C.take i++([c]++C.drop i))):=by
 rw [(Pa C i).1,(Pa C i).2,Cw,Cw]; rfl
theorem Zr2 {C:List Chx} (h:∀ c ∈ C,c.s.pure=true):Ye (chcs (nx C))=true:=pureL_mem.2 fun y hy => by
 obtain ⟨c,hc,hy⟩:=List.mem_flatMap.1 hy
 obtain ⟨c',hc',rfl⟩:=List.mem_map.1 hc
 rcases List.mem_cons.1 hy with rfl | hy
 ·rfl
 ·rw [List.mem_singleton.1 hy]; exact h c' hc'
theorem Chx.pur {c:Chx} (h:c.ok):c.s.pure=true:=by
 rcases (h.1 []).cases with ⟨h1,_⟩ | ⟨f,h1,_⟩ | ⟨id,off,L,h1,h2,_⟩
 ·rw [h1]; rfl
 ·rw [h1]
  exact pureL_mem.2 fun y hy => by
   obtain ⟨z,hz,rfl⟩:=List.mem_map.1 hy
   exact (h.2.1 z hz).2.1
 ·exact absurd h2 (Nat.not_lt_zero _)
theorem F2 (h:∀ c ∈ C,c.ok) (d:Int) (b:List UInt8):(Pq C d b).s.pure=true:=pureL_mem.2 fun y hy => by
 rcases List.mem_append.1 hy with hy | hy
 ·obtain ⟨z,hz,rfl⟩:=List.mem_map.1 hy
  exact ((Nh h d).2.1 z hz).2.1
 ·rw [List.mem_singleton.1 hy]; exact Wi b
theorem Fl (h:∀ c ∈ C,c.ok) (d:Int) (b:List UInt8):Ye (chcs (nx (Vi C d b)))=true:=by
 refine Zr2 fun c hc => ?_
 rw [Vi] at hc
 split at hc
 ·rcases List.mem_or_eq_of_mem_set hc with hc | rfl
  ·exact Chx.pur (h c hc)
  ·exact F2 h d b
 ·rcases List.mem_append.1 hc with hc | hc
  ·exact Chx.pur (h c (List.mem_of_mem_take hc))
  ·rcases List.mem_append.1 hc with hc | hc
   ·rw [List.mem_singleton.1 hc]; exact F2 h d b
   ·exact Chx.pur (h c (List.mem_of_mem_drop hc))
set_option maxHeartbeats 2000000 in
theorem Zvf (hv:FV dv kv rv pv sv cv ch en) (hD:∀ G,Sl 12 G dv (kcs D) D.length) (hDk:∀ p ∈ D,p.ok) (hDn:D.length≤1000000) (hx:∀ G,Sl 2 G ch (chcs (nx C)) C.length) (hs:srtC (nx C)) (hC:∀ c ∈ C,c.ok) (hn:C.length≤1000) (d:Int)
  (hb:∀ G,Sl 1 G x (bs b) b.length) (hbn:b.length≤100000) :
  Called Tryz.prog F.facts_take [.agg (fct dv kv rv pv sv cv pen ch en),I d,x] H (Zu2 dv kv rv pv sv cv pen en C d b (Gx D C d b)) H:=by
 have hxv:=Y4 hb
 have hcv:∀ c ∈ nx C,Vw c.s:=fun c hc => by
  obtain ⟨c',h1,rfl⟩:=List.mem_map.1 hc
  exact Y4 (hC c' h1).1
 have hx':∀ G,Sl 2 G ch (chcs (nx C)) (nx C).length:=fun G => by rw [List.length_map]; exact hx G
 obtain ⟨hr1,hr2,hr3⟩:=Nh hC d
 have hrv:=Y4 hr1
 have tr:=fun K => Ztg (H:=K) (pen:=pen) hv hx' hs hcv (by rw [List.length_map]; omega) d
 have tc:=fun K => Zd9 (H:=K) (pen:=pen) hv hx' hs hcv (by rw [List.length_map]; omega) d
 have tf:=fun K (m:Int) => Z0w (H:=K) (hD K) hDk hDn d m
 have e8:[Z0,Z0,Z0,Z0,Z0,Z0,Z0,Z0]=sgc 0 0:=rfl
 have no1:=Zp Zt
 have nospl:=Xj Zt Zt
 obtain ⟨n32,b32,t32⟩:=Uh (show zd.length=32 from rfl)
 have s3z:=Vr (show zd.length=32 from rfl) (show zd.length=32 from rfl)
 refine Zad ?_
 simp only [fct] at tr tc ⊢
 simp only [Mf,V8,Og,Z12]
 simp only [go_sem,hv.dv.s,hv.kv.s,hv.rv.s,hv.pv.s,hv.sv.s,hv.cv.s,hv.ch.s,hv.en.s,hxv.s]
 refine Za (Ie (hb _) hbn) (fun _ => rfl) ?_
 have gD:∀ r:Rec,r.cells.getD 0 .junk=I r.dev∧r.cells.getD 1 .junk=I r.seq∧r.cells.getD 2 .junk=I r.min_:=fun r => ⟨rfl,rfl,rfl⟩
 rw [Gx]
 cases ho:Xw b with
 | none =>
  simp only [Sz,go_sem,Z7,Xv,no1.1,no1.2.1,no1.2.2.1,nospl,e8,Y1,Yv,Y2,Yd,b32,t32,s3z,Xx,hv.dv.s,hv.kv.s,hv.rv.s,hv.pv.s,hv.sv.s,hv.cv.s,hv.ch.s,hv.en.s,hxv.s]
  refine Za (tr _) (fun _ => rfl) ?_
  simp only [go_sem]
  refine Za (tc _) (fun _ => rfl) ?_
  simp only [go_sem]
  simp only [gD,no1.1]
  refine ⟨by decide,Za (tf _ _) (fun _ => rfl) ?_⟩
  have hpt:∀ o,(ptO o).length=9∧(ptO o).all AV.one=true∧(ptO o).take 9=ptO o:=fun o => by
   cases o <;> exact ⟨Yb _ _ _,Xk _ _ _,Yk _ _ _⟩
  simp only [go_sem,hpt]
  rw [Uw (by decide)]
  exact Zc rfl
 | some p =>
  obtain ⟨r,h,s,t⟩:=p
  obtain ⟨hr,hrb,hd,hs',ht⟩:=U1 ho hbn
  have hv':=Us ho hbn
  obtain ⟨nd,bd,td⟩:=Uh hd
  have sd:=Vr (show zd.length=32 from rfl) hd
  have r1:=Zp hr
  have rspl:=Xj Zt hr
  simp only [Sz,go_sem,Z7,Xv,no1.1,no1.2.1,no1.2.2.1,nospl,r1.1,r1.2.1,r1.2.2.1,rspl,e8,Y1,Yv,Y2,Yd,b32,t32,s3z,sd,Xx,bd,td,hv.dv.s,hv.kv.s,hv.rv.s,hv.pv.s,hv.sv.s,hv.cv.s,hv.ch.s,hv.en.s,hxv.s]
  refine Za (tr _) (fun _ => rfl) ?_
  simp only [go_sem]
  refine Za (tc _) (fun _ => rfl) ?_
  simp only [go_sem,hrv.s]
  simp only [gD,r1.1]
  refine ⟨by decide,Za (tf _ _) (fun _ => rfl) ?_⟩
  have hpt:∀ o,(ptO o).length=9∧(ptO o).all AV.one=true∧(ptO o).take 9=ptO o:=fun o => by
   cases o <;> exact ⟨Yb _ _ _,Xk _ _ _,Yk _ _ _⟩
  have hps:∀ o,splice [AV.lit (Value.int IntKind.u64 0),AV.lit (Value.int IntKind.u64 0),AV.lit (Value.int IntKind.u64 0),AV.lit (Value.int IntKind.u64 0),AV.lit (Value.int IntKind.u64 0),AV.lit (Value.int IntKind.u64 0),AV.lit (Value.int IntKind.u64 0),AV.lit (Value.int IntKind.u64 0),AV.lit (Value.bool false)] 0 (ptO o)=ptO o:=fun o => by
   cases o <;> exact Pw _ _ _
  have rP:=Zpu hr
  simp only [go_sem,hpt,hps,gD,r1.1,hrv.s,(hr1 []).lenT,(hr1 []).n,rP]
  refine ⟨fun h1 => ?_,fun h1 => Zq (v:=.agg (bs (Jd (Xd C d)))) (fun _ => Z0a hr1 (fun y hy => (hr2 y hy).1) (by omega)) ?_⟩
  ·have h1:r.dev≠d:=by simpa using h1
   rw [if_pos h1,Uw (by decide)]
   exact Zc rfl
  ·have h1:r.dev=d:=by simpa using h1
   rw [if_neg (fun h => h h1)]
   have l32:(Jd (Xd C d)).length=32:=by
    rw [Jd]
    split
    ·rfl
    ·rename_i h0
     exact Zqr (hr2 _ (Zl noB (by omega))).1.1
   simp only [go_sem,Zsb]
   refine ⟨fun _ => by rw [Zsa hr.1 l32]; trivial,fun h2 => ?_,fun h2 => ⟨fun h3 => ?_,fun h3 => ⟨by rw [(hpt _).1]; decide,?_⟩⟩⟩
   ·have h2:r.seq≠(Xd C d).length∨r.prev≠Jd (Xd C d):=by
     simpa using h2
    rw [if_pos h2,Uw (by decide)]
    exact Zc rfl
   ·have h2:¬ (r.seq≠(Xd C d).length∨r.prev≠Jd (Xd C d)):=by
     simpa using h2
    rw [if_neg h2]
    cases hk:(if Rm D=true then fOf D d r.min_ else none) with
    | some k => rw [hk] at h3; cases h3
    | none =>
     dsimp only
     rw [Uw (by decide)]
     exact Zc rfl
   ·have h2:¬ (r.seq≠(Xd C d).length∨r.prev≠Jd (Xd C d)):=by
     simpa using h2
    rw [if_neg h2]
    cases hk:(if Rm D=true then fOf D d r.min_ else none) with
    | none => rw [hk] at h3; cases h3
    | some k =>
     have hkm:k ∈ D:=by
      split at hk
      ·exact Zxq hk
      ·cases hk
     obtain ⟨_,kx,ky,_⟩:=hDk k hkm
     dsimp only
     rw [(hpt (some k)).2.2]
     refine Za (Zo4 (hb _) hbn kx ky) (fun _ => rfl) ?_
     have ec:Qi b k.x k.y k.far=bif verB k.x k.y k.far h s t then (r,0) else (noRec,8):=by rw [Qi,ho]
     rw [ec]
     generalize verB k.x k.y k.far h s t=v
     cases v
     ·rw [if_pos rfl,Uw (by decide)]
      simp only [go_sem,Z7,no1.1,no1.2.1,no1.2.2.1,nospl,show errO 8=.lit (.iface T.api_Code (.int .i64 8)) from rfl]
      exact Zc rfl
     ·rw [if_neg (by decide)]
      simp only [go_sem,Z7,r1.1,r1.2.1,r1.2.2.1,rspl,errO,no1.1,hrv.s,(hr1 []).lenT,(hr1 []).n,hv.ch.s,(hx []).n,(hx []).lenT]
      have pR:Ye ((Xd C d).map Bt.e)=true:=pureL_mem.2 fun y hy => by
       obtain ⟨z,hz,rfl⟩:=List.mem_map.1 hy
       exact (hr2 z hz).2.1
      have oR:((Xd C d).map Bt.e).all AV.one=true:=by
       rw [List.all_eq_true]
       intro y hy
       obtain ⟨z,hz,rfl⟩:=List.mem_map.1 hy
       exact (hr2 z hz).2.2
      have oC:(chcs (nx C)).all AV.one=true:=by
       rw [List.all_eq_true]
       intro y hy
       obtain ⟨c,hc,hy⟩:=List.mem_flatMap.1 hy
       rcases List.mem_cons.1 hy with rfl | hy
       ·rfl
       ·rw [List.mem_singleton.1 hy]; exact (hcv c hc).s.1
      refine ⟨fun hf => ?_,fun hf => ?_⟩
      ·have hf:60≤(Xd C d).length∨(isCh (nx C) d=false∧8≤C.length):=by
        simp only [Bool.or_eq_true,decide_eq_true_eq,Bool.and_eq_true,Bool.not_eq_true'] at hf
        rcases hf with hf | ⟨hf,hg⟩
        ·exact .inl (by omega)
        ·exact .inr ⟨hf,by omega⟩
       rw [if_pos hf,Uw (by decide)]
       exact Zc rfl
      ·have hf':¬ (60≤(Xd C d).length∨(isCh (nx C) d=false∧8≤C.length)):=fun hh => by
        have:(decide (60≤((Xd C d).length:Int)) || !isCh (nx C) d&&decide (8≤(C.length:Int)))=true:=by
         simp only [Bool.or_eq_true,decide_eq_true_eq,Bool.and_eq_true,Bool.not_eq_true']
         rcases hh with hh | ⟨hh,hg⟩
         ·exact .inl (by omega)
         ·exact .inr ⟨hh,by omega⟩
        rw [this] at hf; cases hf
       rw [if_neg hf']
       refine Za (Z0q (hr1 _) hrv (by omega)) (fun _ => rfl) ?_
       simp only [go_sem]
       refine Za (E3 (hb _) (Wi b) (Xx b) (by omega)) (fun _ => rfl) ?_
       simp only [go_sem,pR,oR,List.length_map,hv.ch.s]
       have tcl:∀ K,Called Tryz.prog F.slices_Clone_api_Chain_api_Chain [ch] K (.row K.length 0 C.length (C.length*2)) (K++[⟨chcs (nx C),2,true⟩]):=fun K => by
        have:=Zo9 (H:=K) (C:=nx C) (hx' K) oC (by rw [List.length_map]; omega)
        rwa [List.length_map] at this
       have lC:(chcs (nx C)).length=C.length*2:=(hx []).length
       refine ⟨Wi b,⟨Wi b,by omega⟩,Za (tcl _) (fun h => absurd h (by decide)) ?_⟩
       simp only [go_sem,hv.dv.s,hv.kv.s,hv.rv.s,hv.pv.s,hv.sv.s,hv.cv.s,hv.en.s]
       refine ⟨fun hi => ?_,fun hi => ?_⟩
       ·have hi2:=hi
        simp only [isCh,Bool.and_eq_true,decide_eq_true_eq,List.length_map] at hi2
        simp only [go_sem,lC]
        refine ⟨⟨by omega,by omega⟩,by omega,Zc ?_⟩
        have eq:(chcs (nx C)).take (plc (nx C) d*2)++I d::AV.view ((Xd C d).map Bt.e++[vB b false]) ((Xd C d).length+1) false::(chcs (nx C)).drop (plc (nx C) d*2+2)=chcs (nx (Vi C d b)):=by
         rw [Vi,if_pos hi]
         exact Zr3 hi2.1 (Pq C d b)
        have lT:(Vi C d b).length=C.length:=by rw [Vi,if_pos hi,List.length_set]
        rw [Ez,lT]
        show AV.tup [.agg (lowL _ _ [dv,kv,rv,pv,sv,cv,I pen,_,en]),nilE]=_
        simp only [lowL,hv.dv.s,hv.kv.s,hv.rv.s,hv.pv.s,hv.sv.s,hv.cv.s,hv.en.s]
        rw [Zk9 (cs:=chcs (nx (Vi C d b))) (Ng _ 8) (by rw [Yu,eq]; rfl) (by rw [Pn,lT]) (by rw [Pn,lT]) (Fl hC d b)]
        rfl
       ·have hle:plc (nx C) d≤C.length:=by have:=Zki (nx C) d; rwa [List.length_map] at this
        refine Za (Zo6 (p:=H.length+8) (p2:=H.length+9) (cs:=chcs (nx C)) (n:=C.length) (i:=plc (nx C) d) (by simp) (by rw [Yu]; rfl) lC oC hle hn (by simp) (by rw [Yu]; rfl) (by omega) ⟨rfl,rfl⟩) (fun h => absurd h (by decide)) ?_
        simp only [go_sem,hv.dv.s,hv.kv.s,hv.rv.s,hv.pv.s,hv.sv.s,hv.cv.s,hv.en.s]
        refine Zc ?_
        have eq:(chcs (nx C)).take (plc (nx C) d*2)++I d::AV.view ((Xd C d).map Bt.e++[vB b false]) ((Xd C d).length+1) false::(chcs (nx C)).drop (plc (nx C) d*2)=chcs (nx (Vi C d b)):=by
         rw [Vi,if_neg (by rw [hi]; decide)]
         exact Zr4 (Pq C d b)
        have lT:(Vi C d b).length=C.length+1:=by
         rw [Vi,if_neg (by rw [hi]; decide),List.length_append,List.length_append,List.length_take,List.length_drop]; simp; omega
        rw [Ez,lT]
        show AV.tup [.agg (lowL _ _ [dv,kv,rv,pv,sv,cv,I pen,_,en]),nilE]=_
        simp only [lowL,hv.dv.s,hv.kv.s,hv.rv.s,hv.pv.s,hv.sv.s,hv.cv.s,hv.en.s]
        rw [Zk9 (cs:=chcs (nx (Vi C d b))) (Ng _ 8) (by rw [Yu,eq]; rfl) (by rw [Pn,lT]; omega) (by rw [Pn,lT]) (Fl hC d b)]
        rfl
end
structure Ent where
 kind:Int
 dev:Int
 seq:Int
 at_:Int
 amount:Int
 b:List UInt8
 s:AV
 up:Bool
def Ent.cells (e:Ent):List AV:=[I e.kind,I e.dev,I e.seq,I e.at_,I e.amount,e.s,Bl e.up]
def Ent.ok (e:Ent):Prop:=(∀ H,Sl 1 H e.s (bs e.b) e.b.length)∧e.b.length≤100000
def ecs (l:List Ent):List AV:=l.flatMap Ent.cells
def noEn:Ent:=⟨0,0,0,0,0,[],nilS,false⟩
theorem Ent.len (e:Ent):e.cells.length=7:=rfl
def Az (e:Ent):Bool:=((((if e.kind=1 then decide (1≤e.amount)&&decide (e.amount≤1073741824) else e.amount == 0)&&(decide (e.b.length=0) || (e.kind == 2&&decide (e.b.length≤500))))&&decide (1≤e.kind))&&decide (e.kind≤4))&&(!e.up || e.kind == 3)
noncomputable def Ua (C:List Chx) (d seq:Int):Rec × Bool:=if seq<0∨(Xd C d).length≤seq then (noRec,false) else
 match Xw ((Xd C d).getD seq.toNat noB).b with
 | none => (noRec,false)
 | some (r,_,_,_) => (r,r.kind == 2)
section
variable {H:AH} {x:AV} {dv kv rv pv sv cv ch en:AV} {pen:Int} {C:List Chx} {D:List Key} {b:List UInt8}
theorem Zvi (e:Ent) (he:e.ok):Called Tryz.prog F.facts_fair [.agg e.cells] H (Bl (Az e)) H:=by
 have hv:=Y4 he.1
 have h0:=he.1 []
 have e1:((e.b.length:Int) == 0)=decide (e.b.length=0):=by
  rw [Bool.eq_iff_iff]; simp
 have e2:decide ((e.b.length:Int)≤500)=decide (e.b.length≤500):=by
  rw [Bool.eq_iff_iff]; simp; omega
 refine Zaf ?_
 simp only [Mh,Ent.cells,go_sem,hv.s,h0.lenT,h0.n]
 refine ⟨fun h => ?_,fun h => ?_⟩
 ·have h:e.kind=1:=by simpa using h
  refine Zc ?_
  rw [Az,if_pos h,e1,e2]
  rfl
 ·have h:¬ e.kind=1:=by simpa using h
  refine Zc ?_
  rw [Az,if_neg h,e1,e2]
  rfl
theorem Zvg (hv:FV dv kv rv pv sv cv ch en) (hx:∀ G,Sl 2 G ch (chcs (nx C)) C.length) (hs:srtC (nx C)) (hC:∀ c ∈ C,c.ok) (hn:C.length≤1000) (d seq:Int) :
  Called Tryz.prog F.facts_notice [.agg (fct dv kv rv pv sv cv pen ch en),I d,I seq] H (.tup [.agg (Ua C d seq).1.cells,Bl (Ua C d seq).2]) H:=by
 have hcv:∀ c ∈ nx C,Vw c.s:=fun c hc => by
  obtain ⟨c',h1,rfl⟩:=List.mem_map.1 hc
  exact Y4 (hC c' h1).1
 have hx':∀ G,Sl 2 G ch (chcs (nx C)) (nx C).length:=fun G => by rw [List.length_map]; exact hx G
 obtain ⟨hr1,hr2,hr3⟩:=Nh hC d
 have hrv:=Y4 hr1
 have tr:=fun K => Ztg (H:=K) (pen:=pen) hv hx' hs hcv (by rw [List.length_map]; omega) d
 have e8:[Z0,Z0,Z0,Z0,Z0,Z0,Z0,Z0]=sgc 0 0:=rfl
 have no1:=Zp Zt
 have nospl:=Xj Zt Zt
 obtain ⟨n32,b32,t32⟩:=Uh (show zd.length=32 from rfl)
 have s3z:=Vr (show zd.length=32 from rfl) (show zd.length=32 from rfl)
 refine Fj ?_
 simp only [fct] at tr ⊢
 simp only [Q5,V8,Og]
 simp only [go_sem,hv.dv.s,hv.kv.s,hv.rv.s,hv.pv.s,hv.sv.s,hv.cv.s,hv.ch.s,hv.en.s,Z7,Xv,no1.1,no1.2.1,no1.2.2.1,nospl]
 refine Za (tr _) (fun _ => rfl) ?_
 simp only [go_sem,hrv.s,(hr1 []).lenT,(hr1 []).n]
 refine ⟨fun h => ?_,fun h => ?_⟩
 ·have h:seq<0∨(Xd C d).length≤seq:=by simpa using h
  have hN:Ua C d seq=(noRec,false):=if_pos h
  rw [hN]
  simp only [go_sem,Zr,fillv,Z7,Wu,no1.1,no1.2.1,no1.2.2.1,nospl]
  exact Zc rfl
 ·have h:¬ (seq<0∨(Xd C d).length≤seq):=by simpa using h
  obtain ⟨m,rfl⟩:∃ m:Nat,seq=m:=⟨seq.toNat,by omega⟩
  have hN:Ua C d m=match Xw ((Xd C d).getD m noB).b with
   | none => (noRec,false)
   | some (r,_,_,_) => (r,r.kind == 2):=by rw [Ua,if_neg h]; rfl
  rw [hN]
  have hlt:m<(Xd C d).length:=by omega
  have ld:∀ K,Yc false 1 K (Z5 1 (I (m:Int)) (recV (nx C) d))=((Xd C d).getD m noB).e:=fun K => by
   rw [(hr1 K).ld1 .i64 hlt,List.getD_eq_getElem?_getD,List.getElem?_map,List.getD_eq_getElem?_getD,List.getElem?_eq_getElem hlt]; rfl
  have lk:∀ K,Z6 1 K (Z5 1 (I (m:Int)) (recV (nx C) d))=True:=fun K => (hr1 K).ldOk .i64 hlt (Nat.le_refl _)
  have hok:=(hr2 _ (Zl noB hlt)).1
  have hb:=hok.1
  simp only [(hr1 []).idx,ld,lk,true_and]
  refine ⟨⟨by omega,by omega⟩,Za (Ie (hok.2 _) hb) (fun _ => rfl) ?_⟩
  generalize ((Xd C d).getD m noB).b=b at hb ⊢
  have g3:∀ r:Rec,r.cells.getD 3 .junk=I r.kind:=fun r => rfl
  cases ho:Xw b with
  | none =>
   simp only [Sz,go_sem,Z7,Xv,no1.1,no1.2.1,no1.2.2.1,nospl,e8,Y1,Yv,Y2,Yd,b32,t32,s3z,Xx,g3]
   exact ⟨by omega,Zc rfl⟩
  | some p =>
   obtain ⟨r,h',s,t⟩:=p
   obtain ⟨hr,hrb,hd,hs',ht⟩:=U1 ho hb
   have hvk:=Us ho hb
   obtain ⟨nd,bd,td⟩:=Uh hd
   have sd:=Vr (show zd.length=32 from rfl) hd
   have r1:=Zp hr
   have rspl:=Xj Zt hr
   simp only [Sz,go_sem,Z7,Xv,no1.1,no1.2.1,no1.2.2.1,nospl,r1.1,r1.2.1,r1.2.2.1,rspl,e8,Y1,Yv,Y2,Yd,b32,t32,s3z,sd,Xx,bd,td,g3]
   refine ⟨by omega,Zc ?_⟩
   show AV.tup [.agg (lowL _ _ r.cells),_]=_
   rw [Pi hvk]; rfl
def Dd (d q:Int) (s:Int × Bool × Bool) (x:Ent):Int × Bool × Bool:=if x.dev≠d∨x.seq≠q then s else (x.at_,(x.kind == 2 || (s.2.1&&!(x.kind == 3))),(s.2.2 || x.kind == 4))
noncomputable def Sb (C:List Chx) (E:List Ent) (e:Ent):Int × Bool × Bool:=E.foldl (Dd e.dev e.seq) ((Ua C e.dev e.seq).1.min_,false,false)
noncomputable def Sd (C:List Chx) (E:List Ent) (e:Ent):Int :=
 if Az e=false then 1 else if (Ua C e.dev e.seq).2=false then 4 else
 if e.at_<(Sb C E e).1∨1073741824<e.at_ then 9 else
 if ((Sb C E e).2.2 || (e.kind == 2&&(Sb C E e).2.1)) || (e.kind == 3&&!(Sb C E e).2.1) then 7 else
 if 100≤E.length then 6 else 0
def Ent.own (e:Ent):Ent:={ e with s:=vB e.b false }
def Zm0 (dv kv rv pv sv cv:AV) (pen:Int) (ch:AV) (E:List Ent) (e:Ent) (n:Int):AV:=if n=0 then .tup [.agg (fct dv kv rv pv sv cv pen ch (.view (ecs (E++[e.own])) (E++[e.own]).length false)),nilE] else .tup [.agg Zgs,.lit (.iface T.api_Code (.int .i64 n))]
theorem Uu {E:List Ent} {e:Ent} {n:Int} (h:n≠0):Zm0 dv kv rv pv sv cv pen ch E e n=.tup [.agg Zgs,.lit (.iface T.api_Code (.int .i64 n))]:=if_neg h
theorem A1 {E:List Ent} {e:Ent}:Zm0 dv kv rv pv sv cv pen ch E e 0=.tup [.agg (fct dv kv rv pv sv cv pen ch (.view (ecs (E++[e.own])) (E++[e.own]).length false)),nilE]:=if_pos rfl
theorem Zp9 (h:∀ c ∈ C,c.ok) (d q:Int):(Ua C d q).1.vok:=by
 have hno:noRec.vok:=⟨Zt,.inl rfl⟩
 rw [Ua]
 split
 ·exact hno
 ·rename_i h0
  have hb:=((Nh h d).2.1 _ (Zl noB (show q.toNat<(Xd C d).length by omega))).1.1
  cases ho:Xw ((Xd C d).getD q.toNat noB).b with
  | none => exact hno
  | some p =>
   obtain ⟨r,h',s,t⟩:=p
   exact Us ho hb
theorem Zvo {cs:List AV} {n:Nat} (hx:Sl 7 H x cs n) (hv:Vw x) (hn:n≤1000000):Called Tryz.prog F.slices_Clip_api_Entry_api_Entry [x] H (.view cs n true) H:=by
 have hl:=hx.length
 refine Vo ?_
 rcases hv with rfl | ⟨cs',n',f,rfl⟩
 ·have hn0:n=0:=hx.n.symm
  subst hn0
  have:cs=[]:=List.eq_nil_of_length_eq_zero (by omega)
  subst this
  simp only [Yz,go_sem]
  exact Jz (Nz true)
 ·have e1:cs'=cs:=hx.c
  have e2:n'=n:=hx.n
  subst e1 e2
  simp only [Yz,go_sem]
  refine ⟨⟨by omega,by omega⟩,Zk ?_⟩
  have e3:cut cs' 7 0 n'=cs':=by
   rw [cut,Nat.zero_mul,List.drop_zero,List.take_of_length_le (by omega)]
  simp [Xh,bnd,asI,e3]
theorem Ent.pur {e:Ent} (h:e.ok):e.s.pure=true:=by
 rcases (h.1 []).cases with ⟨h1,_⟩ | ⟨f,h1,_⟩ | ⟨id,off,L,h1,h2,_⟩
 ·rw [h1]; rfl
 ·rw [h1]; exact Wi e.b
 ·exact absurd h2 (Nat.not_lt_zero _)
theorem Zrq {E:List Ent} (h:∀ e ∈ E,e.ok):Ye (ecs E)=true:=pureL_mem.2 fun y hy => by
 obtain ⟨e,he,hy⟩:=List.mem_flatMap.1 hy
 simp only [Ent.cells,List.mem_cons,List.not_mem_nil,or_false] at hy
 rcases hy with rfl | rfl | rfl | rfl | rfl | rfl | rfl
 ·rfl
 ·rfl
 ·rfl
 ·rfl
 ·rfl
 ·exact Ent.pur (h e he)
 ·rfl
theorem Zxu (A B:List Ent):ecs (A++B)=ecs A++ecs B:=by simp [ecs]
set_option maxHeartbeats 2000000 in
theorem Zo8 (hv:FV dv kv rv pv sv cv ch en) (hx:∀ G,Sl 2 G ch (chcs (nx C)) C.length) (hs:srtC (nx C)) (hC:∀ c ∈ C,c.ok) (hn:C.length≤1000) {E:List Ent} (he:∀ G,Sl 7 G en (ecs E) E.length) (hE:∀ e ∈ E,e.ok) (hEn:E.length≤1000) (e:Ent) (hok:e.ok) :
  Called Tryz.prog F.facts_enter [.agg (fct dv kv rv pv sv cv pen ch en),.agg e.cells] H (Zm0 dv kv rv pv sv cv pen ch E e (Sd C E e)) H:=by
 have tn:=fun K => Zvg (H:=K) (pen:=pen) hv hx hs hC hn e.dev e.seq
 have tf:=fun K => Zvi (H:=K) e hok
 have ev:=Y4 hok.1
 have hNk:=Zp9 hC e.dev e.seq
 have no1:=Zp Zt
 have nospl:=Xj Zt Zt
 have n1:=Zp hNk.1
 have nspl:=Xj Zt hNk.1
 have g2:∀ r:Rec,r.cells.getD 2 .junk=I r.min_:=fun r => rfl
 refine Cq ?_
 simp only [fct,Ent.cells] at tn tf ⊢
 simp only [P9,V8,Og]
 simp only [go_sem,hv.dv.s,hv.kv.s,hv.rv.s,hv.pv.s,hv.sv.s,hv.cv.s,hv.ch.s,hv.en.s,ev.s,Z7,no1.1,no1.2.1,no1.2.2.1,nospl]
 refine Za (tn _) (fun _ => rfl) ?_
 simp only [go_sem,Z7,no1.1,n1.1,n1.2.1,n1.2.2.1,nspl]
 refine Za (tf _) (fun _ => rfl) ?_
 simp only [go_sem]
 rw [Sd]
 refine ⟨fun h => ?_,fun h => ?_⟩
 ·have h:Az e=false:=by simpa using h
  rw [if_pos h,Uu (by decide)]
  exact Zc rfl
 ·have h:¬ Az e=false:=by simpa using h
  rw [if_neg h]
  refine ⟨fun h2 => ?_,fun h2 => ?_⟩
  ·have h2:(Ua C e.dev e.seq).2=false:=by simpa using h2
   rw [if_pos h2,Uu (by decide)]
   exact Zc rfl
  ·have h2:¬ (Ua C e.dev e.seq).2=false:=by simpa using h2
   rw [if_neg h2]
   simp only [go_sem,g2,n1.1,hv.en.s,(he []).lenT,(he []).n]
   refine Z1 _ (fun (s:Nat × (Int × Bool × Bool) × AH) => ([(2,.ptr H.length 0),(3,.ptr (H.length+1) 0),(4,.ptr (H.length+2) 0),(8,I s.2.1.1),(9,Bl s.2.1.2.1),(10,Bl s.2.1.2.2),(36,en),(37,I E.length),(38,I s.1)],
    H++(⟨[dv,kv,rv,pv,sv,cv,I pen,ch,en],0,true⟩::⟨[I e.kind,I e.dev,I e.seq,I e.at_,I e.amount,e.s,Bl e.up],0,true⟩::⟨[nilS,nilS,nilS,nilS,nilS,nilS,I 0,nilS,nilS],0,true⟩::⟨(Ua C e.dev e.seq).1.cells,0,true⟩::s.2.2)))
    (fun s => s.1≤E.length∧Sb C E e=(E.drop s.1).foldl (Dd e.dev e.seq) s.2.1) (fun s => E.length - s.1) (0,((Ua C e.dev e.seq).1.min_,false,false),[]) ⟨Nat.zero_le _,rfl⟩ rfl ?_
   rintro ⟨i,⟨s1,s2,s3⟩,G⟩ ⟨hi,hS⟩
   dsimp only at hi hS
   simp only [go_sem]
   refine ⟨fun hh => ?_,fun hh => ?_⟩
   ·have hlt:i<E.length:=by omega
    have hxo:=hE _ (Zl noEn hlt)
    have xv:=Y4 hxo.1
    have dn:E.drop i=E.getD i noEn::E.drop (i+1):=Xr hlt noEn
    rw [dn,List.foldl_cons] at hS
    have hel:elt (ecs E) 7 i=(E.getD i noEn).cells:=Xg Ent.cells 7 Ent.len E i noEn hlt
    have ld:∀ K,Yc true 7 K (Z5 7 (I (i:Int)) en)=.agg (E.getD i noEn).cells:=fun K => by
     rw [(he K).ldA .i64 hlt (by decide),hel]
    have lk:∀ K,Z6 7 K (Z5 7 (I (i:Int)) en)=True:=fun K => (he K).ldOk .i64 hlt (Nat.le_refl _)
    generalize E.getD i noEn=x at *
    have w1:IntKind.i64.wrap ((i:Int)+1)=((i+1:Nat):Int):=by rw [w64 _ (by omega) (by omega)]; omega
    simp only [Ent.cells] at ld
    simp only [go_sem,(he []).idx,ld,lk,xv.s,hv.en.s]
    refine ⟨⟨by omega,by omega⟩,by omega,fun _ => by omega,fun hc => ?_,fun hc => ?_⟩
    ·have hc:x.dev≠e.dev∨x.seq≠e.seq:=by simpa using hc
     have e1:Dd e.dev e.seq (s1,s2,s3) x=(s1,s2,s3):=if_pos hc
     rw [e1] at hS
     exact ⟨(i+1,(s1,s2,s3),_),by rw [w1],rfl,⟨hlt,hS⟩,by show E.length - (i+1)<E.length - i; omega⟩
    ·have hc:¬ (x.dev≠e.dev∨x.seq≠e.seq):=by simpa using hc
     have e1:Dd e.dev e.seq (s1,s2,s3) x=(x.at_,(x.kind == 2 || (s2&&!(x.kind == 3))),(s3 || x.kind == 4)):=if_neg hc
     rw [e1] at hS
     exact ⟨(i+1,(x.at_,(x.kind == 2 || (s2&&!(x.kind == 3))),(s3 || x.kind == 4)),_),by rw [w1]; rfl,rfl,⟨hlt,hS⟩,by show E.length - (i+1)<E.length - i; omega⟩
   ·have hi2:i=E.length:=by omega
    subst hi2
    rw [List.drop_length] at hS
    have hS:Sb C E e=(s1,s2,s3):=hS
    rw [hS]
    simp only [go_sem]
    refine ⟨by omega,fun _ => by omega,fun h3 => ⟨by omega,by omega,?_⟩,fun h3 => ⟨fun _ => by omega,fun _ => by omega,fun h4 => ⟨by omega,by omega,?_⟩,fun h4 => ?_⟩⟩
    ·have h3:e.at_<s1∨1073741824<e.at_:=by simpa using h3
     rw [if_pos h3,Uu (by decide)]
     exact Zc rfl
    ·have h3:¬ (e.at_<s1∨1073741824<e.at_):=by simpa using h3
     rw [if_neg h3,if_pos h4,Uu (by decide)]
     exact Zc rfl
    ·have h3:¬ (e.at_<s1∨1073741824<e.at_):=by simpa using h3
     rw [if_neg h3,if_neg (by rw [h4]; decide)]
     simp only [hv.en.s,(he []).lenT,(he []).n,go_sem]
     have pE:=Zrq hE
     refine ⟨by omega,fun h5 => ⟨by omega,by omega,?_⟩,fun h5 => ⟨by omega,Za (E3 (hok.1 _) (Wi e.b) (Xx e.b) (by have:=hok.2; omega)) (fun _ => rfl) ?_⟩⟩
     ·rw [if_pos (by omega),Uu (by decide)]
      exact Zc rfl
     ·rw [if_neg (by omega),A1]
      simp only [go_sem,hv.en.s]
      refine ⟨by omega,by omega,Za (Zvo (he _) hv.en (by omega)) (fun _ => rfl) ?_⟩
      have lE:(ecs E).length=E.length*7:=(he []).length
      simp only [go_sem,pE,lE,hv.dv.s,hv.kv.s,hv.rv.s,hv.pv.s,hv.sv.s,hv.cv.s,hv.ch.s]
      refine ⟨by omega,Wi e.b,⟨Wi e.b,by omega⟩,by omega,by omega,by omega,by omega,Zc ?_⟩
      have eq:ecs E++[I e.kind,I e.dev,I e.seq,I e.at_,I e.amount,AV.view (bs e.b) e.b.length false,Bl e.up]=ecs (E++[e.own]):=by
       rw [Zxu]; rfl
      rw [← eq]
      show AV.tup [.agg (lowL _ _ [dv,kv,rv,pv,sv,cv,I pen,ch,_]),nilE]=_
      simp only [lowL,hv.dv.s,hv.kv.s,hv.rv.s,hv.pv.s,hv.sv.s,hv.cv.s,hv.ch.s]
      rfl
end
structure RH (dv kv rv pv sv cv:AV) (D K:List Key) (R:List Rvk) (P:List Prd) (S:List Sv) (N:List Cn):Prop where
 d:∀ G,Sl 12 G dv (kcs D) D.length
 dk:∀ p ∈ D,p.ok
 dn:D.length≤1000000
 k:∀ G,Sl 12 G kv (kcs K) K.length
 kk:∀ p ∈ K,p.ok
 kn:K.length≤1000000
 r:∀ G,Sl 2 G rv (rcs R) R.length
 rn:R.length≤1000000
 p:∀ G,Sl 7 G pv (pcs P) P.length
 pk:∀ p ∈ P,p.ok∧p.few
 pn:P.length≤1000000
 s:∀ G,Sl 5 G sv (svcs S) S.length
 sk:∀ p ∈ S,p.ok∧p.few
 c:∀ G,Sl 5 G cv (cncs N) N.length
def U0 (D K:List Key) (R:List Rvk) (P:List Prd) (S:List Sv) (N:List Cn) (pen:Int):Bool:=((((((Rm K&&revB R)&&Iv P)&&Rm D)&&decide (D.length≤8))&&netB S N)&&decide (1≤pen))&&decide (pen≤1073741824)
section
variable {H:AH} {x:AV} {dv kv rv pv sv cv ch en:AV} {pen:Int} {D K:List Key} {R:List Rvk} {P:List Prd} {S:List Sv} {N:List Cn}
theorem RH.fv (h:RH dv kv rv pv sv cv D K R P S N) (hch:Vw ch) (hen:Vw en):FV dv kv rv pv sv cv ch en:=⟨Y4 h.d,Y4 h.k,Y4 h.r,Y4 h.p,Y4 h.s,Y4 h.c,hch,hen⟩
theorem Zo7 (h:RH dv kv rv pv sv cv D K R P S N):Called Tryz.prog F.facts_Rules [.agg [dv,kv,rv,pv,sv,cv,I pen]] H (Bl (U0 D K R P S N pen)) H:=by
 have hv:=h.fv (ch:=nilS) (en:=nilS) (.inl rfl) (.inl rfl)
 have tr:=fun G => Fm (H:=G) (h.s G) (h.c G) h.sk
 simp only [net] at tr
 refine Cs ?_
 simp only [Ob,go_sem,hv.dv.s,hv.kv.s,hv.rv.s,hv.pv.s,hv.sv.s,hv.cv.s]
 refine Za (Zd5 (h.k _) h.kk h.kn) (fun _ => rfl) ?_
 simp only [go_sem,hv.dv.s,hv.kv.s,hv.rv.s,hv.pv.s,hv.sv.s,hv.cv.s]
 refine Zq (fun _ => E2 (h.r _) h.rn) ?_
 simp only [go_sem,hv.dv.s,hv.kv.s,hv.rv.s,hv.pv.s,hv.sv.s,hv.cv.s]
 refine Zq (fun _ => Ztc (h.p _) h.pk h.pn) ?_
 simp only [go_sem,hv.dv.s,hv.kv.s,hv.rv.s,hv.pv.s,hv.sv.s,hv.cv.s]
 refine Zq (fun _ => Zd5 (h.d _) h.dk h.dn) ?_
 simp only [go_sem,hv.dv.s,hv.kv.s,hv.rv.s,hv.pv.s,hv.sv.s,hv.cv.s,(h.d []).lenT,(h.d []).n]
 refine Zq (fun _ => tr _) ?_
 simp only [go_sem]
 refine Zc ?_
 have e1:decide ((D.length:Int)≤8)=decide (D.length≤8):=by
  rw [Bool.eq_iff_iff]; simp; omega
 rw [U0,e1]; rfl
end
noncomputable def Vv (D:List Key):List Chx→Int→List Bt→Option (List Chx)
 | g,d,[] => some g
 | g,d,y::r => if Gx D g d y.b=0 then Vv D (Vi g d y.b) d r else none
def badC (p:Option Int) (c:Chx):Bool:=(match p with | some q => decide (c.dev≤q) | none => false) || decide (c.l.length=0)
noncomputable def Xs (D:List Key):Option Int→List Chx→List Chx→Option (List Chx)
 | _,g,[] => some g
 | p,g,c::r => if badC p c=true then none else match Vv D g c.dev c.l with
  | none => none
  | some g' => Xs D (some c.dev) g' r
noncomputable def Xa (C:List Chx):List Ent→List Ent→Option (List Ent)
 | G,[] => some G
 | G,e::r => if Sd C G e=0 then Xa C (G++[e.own]) r else none
noncomputable def mayF (rb:Bool) (D:List Key) (C:List Chx) (E:List Ent):Bool:=((rb&&decide (C.length≤8))&&decide (E.length≤100))&&(match Xs D none [] C with
  | none => false
  | some g => (Xa g [] E).isSome)
structure GC (C:List Chx):Prop where
 s:srtC (nx C)
 k:∀ c ∈ C,c.ok
 n:C.length≤8
section
variable {H:AH} {x:AV} {dv kv rv pv sv cv ch en:AV} {pen:Int} {D K:List Key} {R:List Rvk} {P:List Prd} {S:List Sv} {N:List Cn} {C:List Chx} {E:List Ent} {b:List UInt8}
theorem B5 (C:List Chx):(nx C).length=C.length:=List.length_map _
theorem Zqa (h:∀ c ∈ C,c.ok) (d:Int) (hb:b.length≤100000) (h60:(Xd C d).length<60):(Pq C d b).ok:=by
 obtain ⟨h1,h2,h3⟩:=Nh h d
 refine ⟨fun H => ?_,fun y hy => ?_,?_⟩
 ·have e:(Pq C d b).l.map Bt.e=(Xd C d).map Bt.e++[vB b false]:=by simp [Pq]
  have el:(Pq C d b).l.length=(Xd C d).length+1:=by simp [Pq]
  rw [e,el]
  exact .view (by simp) _
 ·rcases List.mem_append.1 hy with hy | hy
  ·exact h2 y hy
  ·rw [List.mem_singleton.1 hy]
   exact ⟨⟨hb,fun H => Sl.vB _ _⟩,Wi b,rfl⟩
 ·have el:(Pq C d b).l.length=(Xd C d).length+1:=by simp [Pq]
  rw [el]; omega
theorem Zfv {d:Int} (h:Gx D C d b=0):(Xd C d).length<60∧(isCh (nx C) d=false→C.length<8):=by
 rw [Gx] at h
 split at h
 ·cases h
 ·split at h
  ·cases h
  ·split at h
   ·cases h
   ·split at h
    ·cases h
    ·split at h
     ·cases h
     ·split at h
      ·cases h
      ·rename_i hh
       refine ⟨Nat.lt_of_not_le fun h1 => hh (.inl h1),fun h1 => Nat.lt_of_not_le fun h2 => hh (.inr ⟨h1,h2⟩)⟩
theorem Z1c {X:List Chn} {d:Int}:∀ k,k<plc X d→(X.getD k noC).dev<d:=by
 induction X with
 | nil => intro k hk; cases hk
 | cons c X ih =>
  intro k hk
  rw [plc,List.takeWhile_cons] at hk
  split at hk
  ·rename_i h
   cases k with
   | zero => simpa using h
   | succ k => exact ih k (by simpa [plc] using hk)
  ·cases hk
theorem Z1d {X:List Chn} {d:Int}:plc X d<X.length→¬ (X.getD (plc X d) noC).dev<d:=by
 induction X with
 | nil => intro h; cases h
 | cons c X ih =>
  intro hk
  by_cases h:c.dev<d
  ·have e:plc (c::X) d=plc X d+1:=by
    rw [plc,List.takeWhile_cons,if_pos (by simpa using h)]; rfl
   rw [e] at hk ⊢
   exact ih (by simpa using hk)
  ·have e:plc (c::X) d=0:=by
    rw [plc,List.takeWhile_cons,if_neg (by simpa using h)]; rfl
   rw [e]; exact h
theorem srt_pair {X:List Chn}:srtC X↔X.Pairwise fun a b => a.dev<b.dev:=by
 rw [List.pairwise_iff_getElem]
 refine ⟨fun h i j hi hj hij => ?_,fun h i j hij hj => ?_⟩
 ·have:=h i j hij hj
  rwa [List.getD_eq_getElem?_getD,List.getElem?_eq_getElem hi,List.getD_eq_getElem?_getD,List.getElem?_eq_getElem hj] at this
 ·rw [List.getD_eq_getElem?_getD,List.getElem?_eq_getElem (by omega),List.getD_eq_getElem?_getD,List.getElem?_eq_getElem hj]
  exact h i j (by omega) hj hij
theorem GC.take (h:GC C) {d:Int} (hb:b.length≤100000) (h0:Gx D C d b=0):GC (Vi C d b):=by
 obtain ⟨h60,h8⟩:=Zfv h0
 have hx:=Zqa h.k d hb h60
 refine ⟨?_,fun c hc => ?_,?_⟩
 ·have hp:(C.map Chx.dev).Pairwise (·<·):=by
   have:=srt_pair.1 h.s
   rw [List.pairwise_map] at this ⊢
   exact this
  suffices hq:((Vi C d b).map Chx.dev).Pairwise (·<·) by
   refine srt_pair.2 ?_
   rw [List.pairwise_map] at hq ⊢
   exact hq
  have hle:=Zki (nx C) d
  rw [B5] at hle
  have hgd:∀ k,k<C.length→((nx C).getD k noC).dev=(C.map Chx.dev).getD k 0:=fun k hk => by
   rw [List.getD_eq_getElem?_getD,List.getElem?_map,List.getD_eq_getElem?_getD,List.getElem?_map,List.getElem?_eq_getElem hk]; rfl
  rw [Vi]
  split
  ·rename_i hi
   simp only [isCh,Bool.and_eq_true,decide_eq_true_eq,B5] at hi
   obtain ⟨hi1,hi2⟩:=hi
   rw [hgd _ hi1,List.getD_eq_getElem?_getD,List.getElem?_eq_getElem (by simpa using hi1)] at hi2
   have hi2:(C.map Chx.dev)[plc (nx C) d]'(by simpa using hi1)=d:=hi2
   rw [List.map_set,show (Pq C d b).dev=(C.map Chx.dev)[plc (nx C) d]'(by simpa using hi1) from hi2.symm,List.set_getElem_self]
   exact hp
  ·rename_i hi
   have hi:isCh (nx C) d=false:=by simpa using hi
   rw [List.map_append,List.map_append,List.map_take,List.map_drop]
   have hlt:∀ y ∈ (C.map Chx.dev).take (plc (nx C) d),y<d:=fun y hy => by
    obtain ⟨k,hk,rfl⟩:=List.getElem_of_mem hy
    have hk':k<plc (nx C) d∧k<C.length:=by simp at hk; omega
    have:=Z1c (X:=nx C) (d:=d) k hk'.1
    rw [hgd k hk'.2,List.getD_eq_getElem?_getD,List.getElem?_eq_getElem (by simpa using hk'.2)] at this
    simpa using this
   have hgt:∀ y ∈ (C.map Chx.dev).drop (plc (nx C) d),d<y:=fun y hy => by
    have hlt2:plc (nx C) d<C.length:=by
     rcases Nat.lt_or_ge (plc (nx C) d) C.length with h1 | h1
     ·exact h1
     ·rw [List.drop_of_length_le (by simpa using h1)] at hy; cases hy
    have hge:=Z1d (X:=nx C) (d:=d) (by rw [B5]; exact hlt2)
    have hne:¬ ((nx C).getD (plc (nx C) d) noC).dev=d:=fun e => by
     have:isCh (nx C) d=true:=by rw [isCh,decide_eq_true (by rw [B5]; exact hlt2),decide_eq_true e]; rfl
     rw [hi] at this; cases this
    have hfirst:d<(C.map Chx.dev)[plc (nx C) d]'(by simpa using hlt2):=by
     rw [hgd _ hlt2,List.getD_eq_getElem?_getD,List.getElem?_eq_getElem (by simpa using hlt2)] at hge hne
     have hge:¬ (C.map Chx.dev)[plc (nx C) d]'(by simpa using hlt2)<d:=hge
     have hne:¬ (C.map Chx.dev)[plc (nx C) d]'(by simpa using hlt2)=d:=hne
     omega
    rw [List.drop_eq_getElem_cons (by simpa using hlt2)] at hy
    rcases List.mem_cons.1 hy with rfl | hy
    ·exact hfirst
    ·obtain ⟨k,hk,rfl⟩:=List.getElem_of_mem hy
     rw [List.getElem_drop]
     have:=List.pairwise_iff_getElem.1 hp (plc (nx C) d) (plc (nx C) d+1+k) (by simpa using hlt2) (by simp at hk ⊢; omega) (by omega)
     omega
   refine List.pairwise_append.2 ⟨hp.sublist (List.take_sublist _ _),?_,fun a ha b' hb' => ?_⟩
   ·refine List.pairwise_append.2 ⟨List.pairwise_singleton _ _,hp.sublist (List.drop_sublist _ _),fun a ha b' hb' => ?_⟩
    have ha:a=d:=List.mem_singleton.1 ha
    rw [ha]; exact hgt b' hb'
   ·rcases List.mem_append.1 hb' with hb' | hb'
    ·have hb':b'=d:=List.mem_singleton.1 hb'
     rw [hb']; exact hlt a ha
    ·have:=hlt a ha; have:=hgt b' hb'; omega
 ·rw [Vi] at hc
  split at hc
  ·rcases List.mem_or_eq_of_mem_set hc with hc | rfl
   ·exact h.k c hc
   ·exact hx
  ·rcases List.mem_append.1 hc with hc | hc
   ·exact h.k c (List.mem_of_mem_take hc)
   ·rcases List.mem_append.1 hc with hc | hc
    ·rw [List.mem_singleton.1 hc]; exact hx
    ·exact h.k c (List.mem_of_mem_drop hc)
 ·rw [Vi]
  split
  ·rw [List.length_set]; exact h.n
  ·rename_i hi
   have:=h8 (by simpa using hi)
   have hle:=Zki (nx C) d
   rw [B5] at hle
   rw [List.length_append,List.length_append,List.length_take,List.length_drop,List.length_singleton]; omega
end
def Lk (C:List Chx) (i:Nat):Option Int:=if i=0 then none else some (C.getD (i - 1) noX).dev
section
variable {H:AH} {x:AV} {dv kv rv pv sv cv ch en:AV} {pen:Int} {D K:List Key} {R:List Rvk} {P:List Prd} {S:List Sv} {N:List Cn} {C:List Chx} {E:List Ent} {b:List UInt8}
theorem Zt5 {c:Chx} {g:List Chx} {gch f34 f35 f36:AV} {A:AObj} {G:AH} {L:List (Nat × AV)} {Q:Ex→Env→AH→Prop} (h:RH dv kv rv pv sv cv D K R P S N) (hg:GC g) (hgs:∀ G,Sl 2 G gch (chcs (nx g)) g.length) (hco:c.ok)
  (l1:look L 1=.ptr H.length 0) (l3:look L 3=.ptr (H.length+1) 0) (l5:look L 5=.ptr (H.length+(G.length+1+1)) 0) (l34:look L 34=f34) (l35:look L 35=f35) (l36:look L 36=f36)
  (hQ:∀ (g':List Chx) (gch':AV) (G':AH) (L':List (Nat × AV)),Vv D g c.dev c.l=some g'→GC g'→(∀ G,Sl 2 G gch' (chcs (nx g')) g'.length)→look L' 1=.ptr H.length 0→look L' 3=.ptr (H.length+1) 0→look L' 34=f34→look L' 35=f35→look L' 36=f36→Q .normal (look L') (H++(A::⟨[dv,kv,rv,pv,sv,cv,I pen,gch',nilS],0,true⟩::G')))
  (hR:∀ (G':AH),Vv D g c.dev c.l=none→Q .ret (look [(2,Bl false)]) (H++G')) :
  iwp (pfx false) (Called Tryz.prog) Tg Q (look L) (H++(A::⟨[dv,kv,rv,pv,sv,cv,I pen,gch,nilS],0,true⟩::(G++[⟨[I c.dev,c.s],0,true⟩]))):=by
 have hcsv:=Y4 hco.1
 have hv:=h.fv (ch:=nilS) (en:=nilS) (.inl rfl) (.inl rfl)
 simp only [Tg,go_sem,l1,l3,l5,l34,l35,l36,hcsv.s,(hco.1 []).lenT,(hco.1 []).n]
 refine Z1 _ (fun (s:Nat × List Chx × AV × AH) => ([(1,.ptr H.length 0),(3,.ptr (H.length+1) 0),(5,.ptr (H.length+(G.length+1+1)) 0),(34,f34),(35,f35),(36,f36),(62,c.s),(63,I c.l.length),(64,I s.1)],
  H++(A::⟨[dv,kv,rv,pv,sv,cv,I pen,s.2.2.1,nilS],0,true⟩::(G++(⟨[I c.dev,c.s],0,true⟩::s.2.2.2)))))
  (fun s => s.1≤c.l.length∧GC s.2.1∧(∀ G,Sl 2 G s.2.2.1 (chcs (nx s.2.1)) s.2.1.length)∧Vv D g c.dev c.l=Vv D s.2.1 c.dev (c.l.drop s.1)) (fun s => c.l.length - s.1) (0,g,gch,[]) ⟨Nat.zero_le _,hg,hgs,rfl⟩ rfl ?_
 rintro ⟨k,g',gch',G'⟩ ⟨hk,hg',hgs',hta⟩
 dsimp only at hk hg' hgs' hta
 have hgv:Vw gch':=Y4 hgs'
 simp only [go_sem]
 refine ⟨fun hh => ?_,fun hh => ?_⟩
 ·have hlt:k<c.l.length:=by omega
  have hn3:=hco.2.2
  obtain ⟨hyo,hyp,hy1⟩:=hco.2.1 _ (Zl noB hlt)
  have dn:c.l.drop k=c.l.getD k noB::c.l.drop (k+1):=Xr hlt noB
  have ld:∀ K,Yc false 1 K (Z5 1 (I (k:Int)) c.s)=(c.l.getD k noB).e:=fun K => by
   rw [(hco.1 K).ld1 .i64 hlt,List.getD_eq_getElem?_getD,List.getElem?_map,List.getD_eq_getElem?_getD,List.getElem?_eq_getElem hlt]; rfl
  have lk:∀ K,Z6 1 K (Z5 1 (I (k:Int)) c.s)=True:=fun K => (hco.1 K).ldOk .i64 hlt (Nat.le_refl _)
  rw [dn,Vv] at hta
  generalize c.l.getD k noB=y at *
  have hyv:=Y4 hyo.2
  have hw:=h.fv (ch:=gch') (en:=nilS) hgv (.inl rfl)
  have tk:=fun K => Zvf (H:=K) (pen:=pen) hw h.d h.dk h.dn hgs' hg'.s hg'.k (by have:=hg'.n; omega) c.dev hyo.2 hyo.1
  simp only [fct] at tk
  have w1:IntKind.i64.wrap ((k:Int)+1)=((k+1:Nat):Int):=by rw [w64 _ (by omega) (by omega)]; omega
  simp only [go_sem,(hco.1 []).idx,ld,lk,hyv.s]
  refine ⟨⟨by omega,by omega⟩,by omega,by omega,Za (tk _) (fun _ => rfl) ?_⟩
  by_cases he0:Gx D g' c.dev y.b=0
  ·rw [if_pos he0] at hta
   rw [he0,Ez]
   simp only [go_sem,fct,hv.dv.s,hv.kv.s,hv.rv.s,hv.pv.s,hv.sv.s,hv.cv.s]
   refine ⟨by omega,by omega,by omega,(k+1,Vi g' c.dev y.b,.view (chcs (nx (Vi g' c.dev y.b))) (Vi g' c.dev y.b).length false,_),by rw [w1],rfl,⟨hlt,hg'.take hyo.1 he0,fun G => .view (Pn _) _,hta⟩,by show c.l.length - (k+1)<c.l.length - k; omega⟩
  ·rw [if_neg he0] at hta
   rw [Uw he0]
   simp only [go_sem,Zgs,fct]
   exact ⟨by omega,hR _ hta⟩
 ·have hk2:k=c.l.length:=by omega
  subst hk2
  rw [List.drop_length,Vv] at hta
  exact hQ g' gch' _ _ hta hg' hgs' rfl rfl rfl rfl rfl
theorem Z11 {g:List Chx} {gch:AV} {G:AH} {L:List (Nat × AV)} (h:RH dv kv rv pv sv cv D K R P S N) (hg:GC g) (hgs:∀ G,Sl 2 G gch (chcs (nx g)) g.length) (hev:Vw en) (he:∀ G,Sl 7 G en (ecs E) E.length) (hE:∀ e ∈ E,e.ok) (hEn:E.length≤1000)
  (l1:look L 1=.ptr H.length 0) (l3:look L 3=.ptr (H.length+1) 0) :
  iwp (pfx false) (Called Tryz.prog) Tf (retQ [.t 2] H (Bl (Xa g [] E).isSome) H) (look L) (H++(⟨[dv,kv,rv,pv,sv,cv,I pen,ch,en],0,true⟩::⟨[dv,kv,rv,pv,sv,cv,I pen,gch,nilS],0,true⟩::G)):=by
 have hgv:=Y4 hgs
 have hv:=h.fv (ch:=gch) (en:=nilS) hgv (.inl rfl)
 simp only [Tf,go_sem,l1,l3,hev.s,(he []).lenT,(he []).n]
 refine ⟨by omega,?_⟩
 refine Z1 _ (fun (s:Nat × List Ent × AV × AH) => ([(3,.ptr (H.length+1) 0),(82,en),(83,I E.length),(84,I s.1)],
  H++(⟨[dv,kv,rv,pv,sv,cv,I pen,ch,en],0,true⟩::⟨[dv,kv,rv,pv,sv,cv,I pen,gch,s.2.2.1],0,true⟩::s.2.2.2)))
  (fun s => s.1≤E.length∧(∀ G,Sl 7 G s.2.2.1 (ecs s.2.1) s.2.1.length)∧(∀ e ∈ s.2.1,e.ok)∧s.2.1.length=s.1∧Xa g [] E=Xa g s.2.1 (E.drop s.1)) (fun s => E.length - s.1) (0,[],nilS,G) ⟨Nat.zero_le _,fun G => .nil,fun e he => (by cases he),rfl,rfl⟩ rfl ?_
 rintro ⟨k,M,gen,G'⟩ ⟨hk,hms,hmk,hml,hta⟩
 dsimp only at hk hms hmk hml hta
 have hmv:Vw gen:=Y4 hms
 rw [hta]
 simp only [go_sem]
 refine ⟨fun hh => ?_,fun hh => ?_⟩
 ·have hlt:k<E.length:=by omega
  have hyo:=hE _ (Zl noEn hlt)
  have dn:E.drop k=E.getD k noEn::E.drop (k+1):=Xr hlt noEn
  have hel:elt (ecs E) 7 k=(E.getD k noEn).cells:=Xg Ent.cells 7 Ent.len E k noEn hlt
  have ld:∀ K,Yc true 7 K (Z5 7 (I (k:Int)) en)=.agg (E.getD k noEn).cells:=fun K => by
   rw [(he K).ldA .i64 hlt (by decide),hel]
  have lk:∀ K,Z6 7 K (Z5 7 (I (k:Int)) en)=True:=fun K => (he K).ldOk .i64 hlt (Nat.le_refl _)
  rw [dn,Xa]
  generalize E.getD k noEn=y at *
  have hyv:=Y4 hyo.1
  have hw:=h.fv (ch:=gch) (en:=gen) hgv hmv
  have tk:=fun K => Zo8 (H:=K) (pen:=pen) hw hgs hg.s hg.k (by have:=hg.n; omega) hms hmk (by omega) y hyo
  simp only [fct,Ent.cells] at tk ld
  have w1:IntKind.i64.wrap ((k:Int)+1)=((k+1:Nat):Int):=by rw [w64 _ (by omega) (by omega)]; omega
  simp only [go_sem,(he []).idx,ld,lk,hyv.s]
  refine ⟨⟨by omega,by omega⟩,by omega,Za (tk _) (fun _ => rfl) ?_⟩
  by_cases he0:Sd g M y=0
  ·rw [if_pos he0,he0,A1]
   simp only [go_sem,fct,hv.dv.s,hv.kv.s,hv.rv.s,hv.pv.s,hv.sv.s,hv.cv.s,hgv.s]
   have lE:∀ X:List Ent,(ecs X).length=X.length*7:=fun X => by
    induction X with
    | nil => rfl
    | cons a X ih =>
     show (a.cells++ecs X).length=_
     rw [List.length_append,ih,Ent.len,List.length_cons]; omega
   have hyo':y.own.ok:=⟨fun G => Sl.vB _ _,hyo.2⟩
   refine ⟨by omega,(k+1,M++[y.own],.view (ecs (M++[y.own])) (M.length+1) false,_),by rw [w1],rfl,⟨hlt,fun G => by rw [List.length_append,List.length_singleton]; exact .view (by rw [lE,List.length_append,List.length_singleton]) _,fun e he => ?_,by rw [List.length_append,hml]; rfl,rfl⟩,by show E.length - (k+1)<E.length - k; omega⟩
   rcases List.mem_append.1 he with he | he
   ·exact hmk e he
   ·rw [List.mem_singleton.1 he]; exact hyo'
  ·rw [if_neg he0,Uu he0]
   simp only [go_sem,Zgs,fct]
   exact Zc rfl
 ·have hk2:k=E.length:=by omega
  subst hk2
  rw [List.drop_length,Xa]
  exact Zc rfl
set_option maxHeartbeats 4000000 in
theorem Fp (h:RH dv kv rv pv sv cv D K R P S N) (hx:∀ G,Sl 2 G ch (chcs (nx C)) C.length) (hC:∀ c ∈ C,c.ok) (hn:C.length≤1000) (he:∀ G,Sl 7 G en (ecs E) E.length) (hE:∀ e ∈ E,e.ok) (hEn:E.length≤1000) :
  Called Tryz.prog F.facts_May [.agg (fct dv kv rv pv sv cv pen ch en)] H (Bl (mayF (U0 D K R P S N pen) D C E)) H:=by
 have hcv:Vw ch:=Y4 hx
 have hev:Vw en:=Y4 he
 have hv:=h.fv hcv hev
 have tr:=fun G => Zo7 (H:=G) (pen:=pen) h
 refine Zc9 ?_
 simp only [fct]
 simp only [Kz,go_sem,hv.dv.s,hv.kv.s,hv.rv.s,hv.pv.s,hv.sv.s,hv.cv.s,hv.ch.s,hv.en.s]
 refine Za (tr _) (fun _ => rfl) ?_
 simp only [go_sem,hv.ch.s,hv.en.s,(hx []).lenT,(hx []).n,(he []).lenT,(he []).n]
 rw [mayF]
 generalize U0 D K R P S N pen=rb
 refine ⟨fun h1 => ?_,fun h1 => ?_⟩
 ·have e1:((rb&&decide (C.length≤8))&&decide (E.length≤100))=false:=by
   cases rb
   ·rfl
   ·simp only [Bool.not_true,Bool.false_or,Bool.or_eq_true,decide_eq_true_eq] at h1
    rcases h1 with h1 | h1
    ·rw [decide_eq_false (by omega)]; rfl
    ·rw [Bool.and_assoc,decide_eq_false (show ¬ E.length≤100 by omega)]; simp
  rw [e1,Bool.false_and]
  exact Zc rfl
 ·have e1:rb=true∧C.length≤8∧E.length≤100:=by
   simp only [Bool.or_eq_false_iff,Bool.not_eq_false',decide_eq_false_iff_not] at h1
   exact ⟨h1.1.1,by omega,by omega⟩
  obtain ⟨rfl,c8,e100⟩:=e1
  rw [decide_eq_true c8,decide_eq_true e100,Bool.true_and,Bool.true_and,Bool.true_and]
  simp only [go_sem,hv.dv.s,hv.kv.s,hv.rv.s,hv.pv.s,hv.sv.s,hv.cv.s,hv.ch.s,hv.en.s,(hx []).lenT,(hx []).n]
  refine Z1 _ (fun (s:Nat × List Chx × AV × AH) => ([(1,.ptr H.length 0),(3,.ptr (H.length+1) 0),(34,ch),(35,I C.length),(36,I s.1)],
   H++(⟨[dv,kv,rv,pv,sv,cv,I pen,ch,en],0,true⟩::⟨[dv,kv,rv,pv,sv,cv,I pen,s.2.2.1,nilS],0,true⟩::s.2.2.2)))
   (fun s => s.1≤C.length∧GC s.2.1∧(∀ G,Sl 2 G s.2.2.1 (chcs (nx s.2.1)) s.2.1.length)∧Xs D none [] C=Xs D (Lk C s.1) s.2.1 (C.drop s.1)) (fun s => C.length - s.1) (0,[],nilS,[]) ⟨Nat.zero_le _,⟨fun i j _ hj => (by cases hj),fun c hc => (by cases hc),Nat.zero_le _⟩,fun G => .nil,rfl⟩ rfl ?_
  rintro ⟨i,g,gch,G⟩ ⟨hi,hg,hgs,hca⟩
  dsimp only at hi hg hgs hca
  have hgv:Vw gch:=Y4 hgs
  rw [hca]
  simp only [go_sem]
  refine ⟨fun hh => ?_,fun hh => ?_⟩
  ·have hlt:i<C.length:=by omega
   have hco:=hC _ (Zl noX hlt)
   have dn:C.drop i=C.getD i noX::C.drop (i+1):=Xr hlt noX
   have hel:elt (chcs (nx C)) 2 i=(C.getD i noX).n.cells:=by
    rw [show chcs (nx C)=C.flatMap (fun c => c.n.cells) from by rw [chcs,List.flatMap_map]]
    exact Xg (fun c:Chx => c.n.cells) 2 (fun _ => rfl) C i noX hlt
   have ld:∀ K,Yc true 2 K (Z5 2 (I (i:Int)) ch)=.agg (C.getD i noX).n.cells:=fun K => by
    rw [(hx K).ldA .i64 hlt (by decide),hel]
   have lk:∀ K,Z6 2 K (Z5 2 (I (i:Int)) ch)=True:=fun K => (hx K).ldOk .i64 hlt (Nat.le_refl _)
   rw [dn]
   have hpv:0<i→∀ K,Hx (Z5 2 (I ((i - 1:Nat):Int)) ch)=True∧Z6 1 K (fldV 0 (Z5 2 (I ((i - 1:Nat):Int)) ch))=True∧Yc false 1 K (fldV 0 (Z5 2 (I ((i - 1:Nat):Int)) ch))=I (C.getD (i - 1) noX).dev:=fun h0 K => by
    have hl1:i - 1<C.length:=by omega
    have e1:=(hx K).fdOk .i64 (o:=0) (m:=1) hl1 (by decide)
    refine ⟨e1.1,e1.2,?_⟩
    rw [(hx K).fd .i64 (o:=0) (m:=1) hl1 (by decide) (by decide),if_neg (by decide)]
    rw [show chcs (nx C)=C.flatMap (fun c => c.n.cells) from by rw [chcs,List.flatMap_map]]
    exact W7 (fun c:Chx => c.n.cells) 2 (fun _ => rfl) C (i - 1) 0 noX hl1 (by decide)
   have hprev:Lk C i=if i=0 then none else some (C.getD (i - 1) noX).dev:=rfl
   generalize hcd:C.getD i noX=c at *
   have hcsv:=Y4 hco.1
   simp only [Chx.n,Chn.cells] at ld
   have fail:badC (Lk C i) c=true→Xs D (Lk C i) g (c::C.drop (i+1))=none:=fun hc => if_pos hc
   have fin:badC (Lk C i) c=false→Xs D (Lk C i) g (c::C.drop (i+1))=(match Vv D g c.dev c.l with
     | none => none
     | some g' => Xs D (some c.dev) g' (C.drop (i+1))):=fun hc => if_neg (by rw [hc]; decide)
   have pn:Lk C (i+1)=some c.dev:=by rw [Lk,if_neg (by omega),Nat.add_sub_cancel,hcd]
   have el:((c.l.length:Int) == 0)=decide (c.l.length=0):=by
    rw [Bool.eq_iff_iff]; simp
   have w1:IntKind.i64.wrap ((i:Int)+1)=((i+1:Nat):Int):=by rw [w64 _ (by omega) (by omega)]; omega
   rcases Nat.eq_zero_or_pos i with h0 | h0
   ·subst h0
    have d0:decide ((0:Int)<0)=false:=rfl
    have f0:((0:Int)<0)=False:=eq_false (by decide)
    have hp0:Lk C 0=none:=rfl
    have ld0:∀ K,Yc true 2 K (Z5 2 (I 0) ch)=.agg [I c.dev,c.s]:=fun K => ld K
    have lk0:∀ K,Z6 2 K (Z5 2 (I 0) ch)=True:=fun K => lk K
    simp only [go_sem,(hx []).idx,ld0,lk0,hcsv.s,hv.ch.s,(hco.1 []).lenT,(hco.1 []).n,d0,f0,false_implies,decide_false,cond_false,el]
    have eb:badC (Lk C 0) c=decide (c.l.length=0):=rfl
    refine ⟨by omega,fun hc => ?_,fun hc => ?_⟩
    ·rw [fail (by rw [eb]; exact decide_eq_true hc)]
     exact Zc rfl
    ·rw [fin (by rw [eb]; exact decide_eq_false hc)]
     refine Zt5 h hg hgs hco rfl rfl rfl rfl rfl rfl (fun g' gch' G' L' a0 a1 a2 m1 m3 m34 m35 m36 => ?_) (fun G' a0 => ?_)
     ·rw [a0]
      have z1:IntKind.i64.wrap ((0:Int)+1)=((1:Nat):Int):=rfl
      simp only [go_sem,m1,m3,m34,m35,m36]
      exact ⟨(1,g',gch',G'),by rfl,rfl,⟨hlt,a1,a2,by show _=Xs D (Lk C 1) g' (C.drop 1); rw [pn]⟩,by show C.length - 1<C.length; omega⟩
     ·rw [a0]
      simp only [go_sem]
      exact Zc rfl
   ·have d0:decide ((0:Int)<(i:Int))=true:=decide_eq_true (by omega)
    have wi:IntKind.i64.wrap ((i:Int) - 1)=((i - 1:Nat):Int):=by rw [w64 _ (by omega) (by omega)]; omega
    have hp0:Lk C i=some (C.getD (i - 1) noX).dev:=by rw [hprev,if_neg (by omega)]
    simp only [go_sem,(hx []).idx,ld,lk,hcsv.s,hv.ch.s,(hco.1 []).lenT,(hco.1 []).n,d0,wi,hpv h0,el]
    refine ⟨⟨by omega,by omega⟩,fun _ => by omega,fun _ => ⟨by omega,by omega⟩,fun _ => by rw [(hpv h0 H).1]; trivial,fun hc => ?_,fun hc => ?_⟩
    ·rw [fail (by rw [hp0]; exact hc)]
     exact Zc rfl
    ·rw [fin (by rw [hp0]; exact hc)]
     refine Zt5 h hg hgs hco rfl rfl rfl rfl rfl rfl (fun g' gch' G' L' a0 a1 a2 m1 m3 m34 m35 m36 => ?_) (fun G' a0 => ?_)
     ·rw [a0]
      simp only [go_sem,m1,m3,m34,m35,m36]
      exact ⟨(i+1,g',gch',G'),by rw [w1],rfl,⟨hlt,a1,a2,by show _=Xs D (Lk C (i+1)) g' (C.drop (i+1)); rw [pn]⟩,by show C.length - (i+1)<C.length - i; omega⟩
     ·rw [a0]
      simp only [go_sem]
      exact Zc rfl
  ·have hi2:i=C.length:=by omega
   subst hi2
   rw [List.drop_length,Xs]
   exact Z11 h hg hgs hev he hE hEn rfl rfl
end
section
variable {H:AH} {x:AV} {dv kv rv pv sv cv ch en:AV} {pen:Int} {D K:List Key} {R:List Rvk} {P:List Prd} {S:List Sv} {N:List Cn} {C:List Chx} {E:List Ent} {b:List UInt8}
theorem RH0:RH nilS nilS nilS nilS nilS nilS [] [] [] [] [] []:=⟨fun _ => .nil,fun _ h => (by cases h),by decide,fun _ => .nil,fun _ h => (by cases h),by decide,fun _ => .nil,by decide,fun _ => .nil,fun _ h => (by cases h),by decide,fun _ => .nil,fun _ h => (by cases h),fun _ => .nil⟩
end
end Go.Proofs.YtcgjlpdkobmpnaaGreat.Eng

