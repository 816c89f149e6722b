/- Layer 18: a device's object; begin, end, tear, now. -/
import Derived.Test.YtcgjlpdkobmpnaaGreatMCv
import Derived.Test.YtcgjlpdkobmpnaaGreatMJo
import Derived.Test.YtcgjlpdkobmpnaaGreatMGl
import Derived.Test.YtcgjlpdkobmpnaaGreatMPu
import Derived.Test.YtcgjlpdkobmpnaaGreatMFc
import Derived.Test.YtcgjlpdkobmpnaaGreatMTr
namespace Go.Proofs.YtcgjlpdkobmpnaaGreat.Eng.D
open Go Go.Proofs
set_option linter.unusedVariables false
set_option linter.unusedSimpArgs false
set_option maxRecDepth 10000
abbrev eAV (n:Int):AV:=.lit (.iface T.api_Code (.int .i64 n))
structure Dv where
 id:Int
 d:Nat
 j:Nat
 ks:AV
 rv:AV
 ps:AV
 on:Bool
 stop:Int
 zone:Int
 ct:Bool
 step:Int
 many:Int
 last:List UInt8
 all:AV
def Dv.tail (s:Dv):List AV:=[.ptr s.j 0,s.ks,s.rv,s.ps,Bl s.on,I s.stop,I s.zone,Bl s.ct,I s.step,I s.many]++(bs s.last++[s.all])
def Dv.cells (s:Dv):List AV:=I s.id::(num s.d++s.tail)
structure DvOk (s:Dv):Prop where
 l32:s.last.length=32
section
variable {s:Dv}
theorem num4 (a:Nat):(num a).length=4:=Zb _ _
theorem Qj (h:s.last.length=32):s.cells.length=48:=by simp [Dv.cells,Dv.tail,num4,h]
theorem Zx8:s.cells.getD 0 .junk=I s.id:=rfl
theorem C0 (i:Nat):s.cells.getD (5+i) .junk=s.tail.getD i .junk:=by
 rw [show 5+i=(4+i)+1 by omega]
 show (num s.d++s.tail).getD (4+i) .junk=_
 rw [List.getD_eq_getElem?_getD,List.getElem?_append_right (by rw [num4]; omega),num4,Nat.add_sub_cancel_left,List.getD_eq_getElem?_getD]
theorem Zx7:s.cells.getD 5 .junk=.ptr s.j 0:=(C0 0).trans rfl
theorem Z3c:s.cells.getD 6 .junk=s.ks:=(C0 1).trans rfl
theorem Z3b:s.cells.getD 7 .junk=s.rv:=(C0 2).trans rfl
theorem Z3a:s.cells.getD 8 .junk=s.ps:=(C0 3).trans rfl
theorem Zil:s.cells.getD 9 .junk=Bl s.on:=(C0 4).trans rfl
theorem Zny:s.cells.getD 10 .junk=I s.stop:=(C0 5).trans rfl
theorem Zaf:s.cells.getD 11 .junk=I s.zone:=(C0 6).trans rfl
theorem Zun:s.cells.getD 12 .junk=Bl s.ct:=(C0 7).trans rfl
theorem Zae (h:s.last.length=32):s.cells.getD 47 .junk=s.all:=by
 refine (C0 42).trans ?_
 have e:s.tail=([.ptr s.j 0,s.ks,s.rv,s.ps,Bl s.on,I s.stop,I s.zone,Bl s.ct,I s.step,I s.many]++bs s.last)++[s.all]:=by rw [Dv.tail,List.append_assoc]
 rw [e,List.getD_eq_getElem?_getD,List.getElem?_append_right (by simp [h])]
 simp [h]
theorem Zx9:(s.cells.drop 1).take 4=num s.d:=by
 show (num s.d++s.tail).take 4=_
 rw [List.take_left' (num4 _)]
theorem Znz (h:s.last.length=32):(s.cells.drop 15).take 32=bs s.last:=by
 have e:s.cells=(I s.id::(num s.d++[.ptr s.j 0,s.ks,s.rv,s.ps,Bl s.on,I s.stop,I s.zone,Bl s.ct,I s.step,I s.many]))++(bs s.last++[s.all]):=by simp [Dv.cells,Dv.tail]
 rw [e,List.drop_left' (by simp [num4]),List.take_left' (by simp [h])]
theorem Zx6 {c d:List AV} (a:List AV) (e:s.cells=a++(c++d)) (c':List AV) (hc:c'.length=c.length) {n m:Nat} (hn:a.length=n) (hm:n+c'.length=m):s.cells.take n++(c'++s.cells.drop m)=a++(c'++d):=by
 subst hn hm
 rw [e,List.take_left,← List.append_assoc a c d,List.drop_left' (by rw [List.length_append,hc])]
theorem Z5h (on:Bool) (stop zone:Int):s.cells.take 9++Bl on::I stop::I zone::s.cells.drop 12={ s with on:=on,stop:=stop,zone:=zone }.cells:=by
 have e:s.cells=(I s.id::(num s.d++[.ptr s.j 0,s.ks,s.rv,s.ps]))++([Bl s.on,I s.stop,I s.zone]++([Bl s.ct,I s.step,I s.many]++(bs s.last++[s.all]))):=by simp [Dv.cells,Dv.tail]
 refine (Zx6 _ e [Bl on,I stop,I zone] rfl (n:=9) (m:=12) (by simp [num4]) rfl).trans ?_
 simp [Dv.cells,Dv.tail]
theorem Z5i (a b c:AV):s.cells.take 6++a::b::c::s.cells.drop 9={ s with ks:=a,rv:=b,ps:=c }.cells:=by
 have e:s.cells=(I s.id::(num s.d++[.ptr s.j 0]))++([s.ks,s.rv,s.ps]++([Bl s.on,I s.stop,I s.zone,Bl s.ct,I s.step,I s.many]++(bs s.last++[s.all]))):=by simp [Dv.cells,Dv.tail]
 refine (Zx6 _ e [a,b,c] rfl (n:=6) (m:=9) (by simp [num4]) rfl).trans ?_
 simp [Dv.cells,Dv.tail]
theorem Z28 (h:s.last.length=32) {l:List UInt8} (hl:l.length=32):s.cells.take 15++(bs l++s.cells.drop 47)={ s with last:=l }.cells:=by
 have e:s.cells=(I s.id::(num s.d++[.ptr s.j 0,s.ks,s.rv,s.ps,Bl s.on,I s.stop,I s.zone,Bl s.ct,I s.step,I s.many]))++(bs s.last++[s.all]):=by simp [Dv.cells,Dv.tail]
 refine (Zx6 _ e (bs l) (by rw [Zt,Zt,h,hl]) (n:=15) (m:=47) (by simp [num4]) (by rw [Zt,hl])).trans ?_
 simp [Dv.cells,Dv.tail]
theorem Z27 (h:s.last.length=32) (x:AV):s.cells.set 47 x={ s with all:=x }.cells:=by
 have e:s.cells=(I s.id::(num s.d++([.ptr s.j 0,s.ks,s.rv,s.ps,Bl s.on,I s.stop,I s.zone,Bl s.ct,I s.step,I s.many]++bs s.last)))++[s.all]:=by simp [Dv.cells,Dv.tail]
 rw [e,List.set_append_right _ _ (by simp [num4,h])]
 simp [num4,h,Dv.cells,Dv.tail]
end
structure DV (H:AH) (v:Nat) (s:Dv):Prop where
 hv:v<H.length
 ov:obj H v=⟨s.cells,0,true⟩
 l32:s.last.length=32
theorem Zj0 {H:AH} {v:Nat} {s:Dv} (h:DV H v s) (stop zone:Int) :
  Called Tryz.prog F.device_Device_Begin [.ptr v 0,I stop,I zone] H (if inB 0 31 stop&&inB 0 7 zone then nilE else eAV 1) (if inB 0 31 stop&&inB 0 7 zone then setO H v { s with on:=true,stop:=stop,zone:=zone }.cells else H):=by
 have hl:=Qj h.l32
 have e:(decide (stop<0) || decide (32≤stop) || decide (zone<0) || decide (8≤zone)) = !(inB 0 31 stop&&inB 0 7 zone):=by
  rw [Bool.eq_iff_iff]
  simp only [inB,Bool.or_eq_true,Bool.not_eq_true',Bool.and_eq_false_iff,decide_eq_true_eq,decide_eq_false_iff_not]
  omega
 refine Pu ?_
 simp only [Wa,go_sem,h.ov,h.hv,hl,e]
 generalize (inB 0 31 stop&&inB 0 7 zone)=o
 cases o
 ·exact ⟨fun _ => Zl rfl,fun h => (by cases h)⟩
 ·refine ⟨fun h => (by cases h),fun _ => ?_⟩
  rw [if_pos rfl,if_pos rfl,← Z5h (s:=s) true stop zone]
  exact Leave.refl _ _ _
set_option maxRecDepth 10000
def rls (l:List Rec):List AV:=l.flatMap Rec.cells
theorem Oe {α:Type} (f:α→List AV) (k:Nat) (d:α) (hk:0<k):∀ (l:List α) (i o:Nat),(∀ a ∈ l,(f a).length=k)→i<l.length→o<k→(l.flatMap f).getD (i*k+o) .junk=(f (l.getD i d)).getD o .junk
 | [],i,o,h,hi,ho => by cases hi
 | a::l,0,o,h,hi,ho => by
  rw [List.flatMap_cons,Nat.zero_mul,Nat.zero_add,List.getD_cons_zero,List.getD_eq_getElem?_getD,List.getElem?_append_left (by rw [h a (by simp)]; exact ho),List.getD_eq_getElem?_getD]
 | a::l,i+1,o,h,hi,ho => by
  have:=Oe f k d hk l i o (fun x hx => h x (by simp [hx])) (by simpa using hi) ho
  rw [List.flatMap_cons,List.getD_cons_succ,← this,List.getD_eq_getElem?_getD,List.getElem?_append_right (by rw [h a (by simp),Nat.succ_mul]; omega),h a (by simp),List.getD_eq_getElem?_getD]
  congr 2
  rw [Nat.succ_mul]; omega
def Zug (l:List Rec):Int:=(l.getD (l.length - 1) noRec).min_
def nowE (l:List Rec) (at_:Int):Int:=if !(inB 0 1073741824 at_) then 1 else if decide (0<l.length)&&decide (at_<Zug l) then 9 else 0
theorem Zvt {H:AH} {v:Nat} {s:Dv} (h:DV H v s) {l:List Rec} (ha:Sl 41 H s.all (rls l) l.length) (hl:∀ r ∈ l,r.ok) (hn:l.length≤140737488355328) (at_:Int) :
  Called Tryz.prog F.device_Device_now [.ptr v 0,I at_] H (errO (nowE l at_)) H:=by
 have hlen:=Qj h.l32
 have g47:=Zae h.l32
 have e:(decide (at_<0) || decide (1073741824<at_)) = !(inB 0 1073741824 at_):=by
  rw [Bool.eq_iff_iff]
  simp only [inB,Bool.or_eq_true,Bool.not_eq_true',Bool.and_eq_false_iff,decide_eq_true_eq,decide_eq_false_iff_not]
  omega
 refine Nw ?_
 simp only [Wz,go_sem,h.ov,h.hv,hlen,g47,e,nowE]
 generalize inB 0 1073741824 at_=o
 cases o
 ·exact ⟨fun _ => Zl rfl,fun h => (by cases h)⟩
 ·refine ⟨fun h => (by cases h),fun _ => ?_⟩
  simp only [go_sem,h.ov,h.hv,hlen,g47,ha.s]
  rcases Nat.eq_zero_or_pos l.length with h0 | h0
  ·have z:¬ (0:Int)<(l.length:Int):=by omega
   have d1:decide ((0:Int)<(l.length:Int))=false:=decide_eq_false z
   have d2:decide (0<l.length)=false:=decide_eq_false (by omega)
   simp only [d1,d2,cond_false,Bool.false_and]
   refine ⟨fun h => absurd h z,fun h => absurd h z,fun h => absurd h z,fun h => absurd h z,fun h => (by cases h),fun _ => Zl rfl⟩
  ·have hm:l.length - 1<l.length:=by omega
   have w1:IntKind.i64.wrap ((l.length:Int) - 1)=((l.length - 1:Nat):Int):=by rw [w64 _ (by omega) (by omega)]; omega
   have f1:=ha.fdOk .i64 hm (o:=2) (m:=1) (by omega)
   have f2:Y8 false 1 H (fldV 2 (Xn 41 (.lit (.int .i64 (l.length - 1:Nat))) s.all))=I (Zug l):=by
    rw [ha.fd _ hm (by omega) (by decide),if_neg (by decide),rls,Oe _ 41 noRec (by decide) _ _ _ (fun r hr => Xm (hl r hr)) hm (by decide)]
    rfl
   have d1:decide ((0:Int)<(l.length:Int))=true:=decide_eq_true (by omega)
   have d2:decide (0<l.length)=true:=decide_eq_true h0
   simp only [w1,f1.1,f1.2,f2,ha.idx,d1,d2,cond_true,Bool.true_and,go_sem]
   refine ⟨fun _ => ⟨by omega,by omega⟩,?_⟩
   exact ⟨fun h => Zl (by rw [if_pos h]; rfl),fun h => Zl (by rw [if_neg h]; rfl)⟩
theorem Ae {H:AH} {sz:Nat} (hz:0<sz):Leave H nilS H (.row H.length 0 0 0) (H++[⟨[],sz,true⟩]):=by
 intro φ0 w0 φ w y h1 h2 h3 h4
 obtain ⟨φ',g1,g2,g3⟩:=Ii (S:=cx φ H w) h2 (ob:=⟨[],sz,true⟩) rfl hz
 refine ⟨φ',g2,h3.trans g3,?_⟩
 have h4:y=.slice none 0 0:=h4
 subst h4
 exact ⟨none,0,rfl,Nat.le_refl _,by simp,⟨[],sz,true⟩,by show (H++[_])[H.length]? = _; simp,Nat.le_refl _,fun _ => .inl ⟨g1,rfl,hz⟩⟩
section
variable {H:AH} {x:AV}
theorem Zpv {C:List Prd} (hx:Sl 7 H x (pcs C) C.length) (h1:(pcs C).all AV.one=true) (hn:C.length≤1000000):Called Tryz.prog F.slices_Clone_api_Product_api_Product [x] H (.row H.length 0 C.length (C.length*7)) (H++[⟨pcs C,7,true⟩]):=by
 have hl:=hx.length
 refine Ws ?_
 simp only [Ym,go_sem]
 refine hx.nilc (fun h0 => ?_) ?_
 ·have:C=[]:=List.eq_nil_of_length_eq_zero h0
  subst this
  exact Ae (by decide)
 ·simp only [go_sem,hx.s]
  refine ⟨⟨h1,by omega⟩,?_⟩
  rw [hl]
  exact Leave.refl _ _ _
theorem Zpw {C:List Key} (hx:Sl 12 H x (kcs C) C.length) (hp:Yg (kcs C)=true) (h1:(kcs C).all AV.one=true) (hn:C.length≤1000000):Called Tryz.prog F.slices_Clone_api_Key_api_Key [x] H (.view (kcs C) C.length false) H:=by
 have hl:=hx.length
 refine Uh ?_
 simp only [Xb,go_sem]
 refine hx.nilc (fun h0 => ?_) ?_
 ·have:C=[]:=List.eq_nil_of_length_eq_zero h0
  subst this
  exact Rt (O0 false)
 ·simp only [go_sem,hx.s]
  refine ⟨⟨h1,by omega⟩,?_⟩
  exact Zc (Vd (Vl _) (by decide) hl hp _ _ rfl)
theorem Zpu {C:List Rvk} (hx:Sl 2 H x (rcs C) C.length) (hp:Yg (rcs C)=true) (h1:(rcs C).all AV.one=true) (hn:C.length≤1000000):Called Tryz.prog F.slices_Clone_api_Revoked_api_Revoked [x] H (.view (rcs C) C.length false) H:=by
 have hl:=hx.length
 refine Wq ?_
 simp only [Yl,go_sem]
 refine hx.nilc (fun h0 => ?_) ?_
 ·have:C=[]:=List.eq_nil_of_length_eq_zero h0
  subst this
  exact Rt (O0 false)
 ·simp only [go_sem,hx.s]
  refine ⟨⟨h1,by omega⟩,?_⟩
  exact Zc (Vd (Vl _) (by decide) hl hp _ _ rfl)
end
theorem Z2d {e:AV} {l:List Int} (he:isv e l) (H:AH):Sl 1 H e (l.map I) l.length:=by
 rcases he with ⟨f,rfl⟩ | ⟨rfl,rfl⟩
 ·exact Sl.view (by simp) f
 ·exact .nil
theorem Zd8 {e:AV} {l:List Int} (he:isv e l) (hn:l.length≤1000000) (H:AH):Called Tryz.prog F.slices_Clone_int_int [e] H (vI l false) H:=by
 have hx:=Z2d he H
 have hl:=hx.length
 have hp:Yg (l.map I)=true:=P8 _ (fun _ => rfl) l
 have h1:(l.map I).all AV.one=true:=by
  rw [List.all_eq_true]
  intro a ha
  obtain ⟨n,_,rfl⟩:=List.mem_map.1 ha
  rfl
 refine Qt ?_
 simp only [X5,go_sem]
 refine hx.nilc (fun h0 => ?_) ?_
 ·have:l=[]:=List.eq_nil_of_length_eq_zero h0
  subst this
  exact Rt (O0 false)
 ·simp only [go_sem,hx.s]
  refine ⟨⟨h1,by omega⟩,?_⟩
  exact Zc (Vd (Vl _) (by decide) hl hp _ _ rfl)
set_option maxRecDepth 10000
def clP (p:Prd):Prd:={ p with e:=vI p.s.extra false,x:=vI p.s.except false }
theorem Zur {p:Prd} (h:p.ok∧p.few):(clP p).ok∧(clP p).few :=
 ⟨⟨h.1.1,h.1.2.1,h.1.2.2.1,h.1.2.2.2.1,h.1.2.2.2.2.1,.inl ⟨false,rfl⟩,.inl ⟨false,rfl⟩⟩,h.2⟩
theorem It {α:Type} (f:α→List AV):∀ l:List α,(∀ a ∈ l,(f a).all AV.one=true)→(l.flatMap f).all AV.one=true
 | [],_ => rfl
 | a::l,h => by rw [List.flatMap_cons,List.all_append,h a (by simp),It f l fun x hx => h x (by simp [hx])]; rfl
theorem Av {α:Type} (f:α→List AV):∀ l:List α,(∀ a ∈ l,Yg (f a)=true)→Yg (l.flatMap f)=true
 | [],_ => rfl
 | a::l,h => by
  have h1:=Av f l fun x hx => h x (by simp [hx])
  have h2:=h a (by simp)
  rw [List.flatMap_cons]
  exact Y7 h2 h1
theorem Zer:∀ l:List Rvk,Yg (rcs l)=true
 | [] => rfl
 | a::l => Zer l
theorem Zk7 (k n:Nat):Yg (wd k n)=true:=P8 W (fun _ => rfl) _
theorem Zrc (k:Key):Yg k.cells=true:=by
 rw [Key.cells,← List.singleton_append]
 exact Y7 rfl (Y7 (Y7 (Zk7 _ _) (Y7 (Zk7 _ _) rfl)) rfl)
theorem Zwr {p:Prd} (h:p.ok):p.cells.all AV.one=true:=by
 have e1:=(Vm h.2.2.2.2.2.1).2.2.1
 have e2:=(Vm h.2.2.2.2.2.2).2.2.1
 simp only [Prd.cells,List.all_cons,e1,e2]
 rfl
theorem Kt (k:Key):k.cells.all AV.one=true:=by
 rw [Key.cells,List.all_cons,List.all_append,pcell,List.all_append,List.all_append,Zg,Zg]; rfl
def ldB (H:AH) (K:List Key) (R:List Rvk) (P:List Prd):AH:=H++[⟨[.view (kcs K) K.length false,.view (rcs R) R.length false,.row (H.length+1) 0 P.length (P.length*7)],0,true⟩,⟨pcs P,7,true⟩]
def ldS (H:AH) (s:Dv) (K:List Key) (R:List Rvk) (P:List Prd):Dv:={ s with ks:=.view (kcs K) K.length false,rv:=.view (rcs R) R.length false,ps:=.row (H.length+1) 0 P.length (P.length*7) }
def ldH (H:AH) (v:Nat) (s:Dv) (K:List Key) (R:List Rvk) (P:List Prd):AH:=setO (ldB H K R (P.map clP)) v (ldS H s K R P).cells
theorem Zwd (A:List Prd) (p:Prd) (B:List Prd):((pcs (A++p::B)).set (A.length*7+5) (vI p.s.extra false)).set (A.length*7+6) (vI p.s.except false)=pcs (A++clP p::B):=by
 have hl:(pcs A).length=A.length*7:=by
  induction A with
  | nil => rfl
  | cons a A ih => rw [pcs,List.flatMap_cons,List.length_append,Prd.len,List.length_cons,Nat.succ_mul,Nat.add_comm]; rw [pcs] at ih; rw [ih]
 have e:pcs (A++p::B)=pcs A++(p.cells++pcs B):=by simp [pcs]
 rw [e,← hl,List.set_append_right _ _ (by omega),Nat.add_sub_cancel_left,List.set_append_right _ _ (by omega),Nat.add_sub_cancel_left]
 have e':pcs (A++clP p::B)=pcs A++((clP p).cells++pcs B):=by simp [pcs]
 rw [e']; rfl
theorem Ztx {H:AH} {v:Nat} {s:Dv} (h:DV H v s) {xk xr xp:AV} {K:List Key} {R:List Rvk} {P:List Prd}
  (hk:∀ G,Sl 12 G xk (kcs K) K.length) (ko:∀ p ∈ K,p.ok) (kn:K.length≤1000000) (hr:∀ G,Sl 2 G xr (rcs R) R.length) (rn:R.length≤1000000) (hp:∀ G,Sl 7 G xp (pcs P) P.length) (po:∀ p ∈ P,p.ok∧p.few) (pn:P.length≤1000000) :
  Called Tryz.prog F.device_Device_Load [.ptr v 0,.agg [xk,xr,xp]] H (if (Uk K&&revB R)&&prdsB P then nilE else eAV 1) (if (Uk K&&revB R)&&prdsB P then ldH H v s K R P else H):=by
 have hlen:=Qj h.l32
 have nn:∀ G:AH,(H++G).length=H.length+G.length:=fun G => List.length_append
 have ob0:∀ o G,obj (H++o::G) H.length=o:=fun o G => by simp [obj]
 have ob1:∀ o o' G,obj (H++o::o'::G) (H.length+1)=o':=fun o o' G => by simp [obj]
 refine Ot ?_
 have rk:∀ G,Called Tryz.prog F.keys_May [xk] G (Bl (Uk K)) G:=fun G => Zjv (hk G) ko kn
 have rr:∀ G,Called Tryz.prog F.revoke_May [xr] G (Bl (revB R)) G:=fun G => Zbb (hr G) rn
 have rp:∀ G,Called Tryz.prog F.fare_May [xp] G (Bl (prdsB P)) G:=fun G => Ztn (hp G) po pn
 have o1:=(hk H).s.2.2.2.2.2.2.1
 have o2:=(hr H).s.2.2.2.2.2.2.1
 have o3:=(hp H).s.2.2.2.2.2.2.1
 simp only [Wi,go_sem,ob0,o1,o2,o3]
 refine Za (rk _) (fun _ => rfl) ?_
 simp only [go_sem,ob0,(hk _).s,(hr _).s,(hp _).s,nn]
 refine Zs (fun _ => rr _) ?_
 simp only [go_sem,ob0,(hk _).s,(hr _).s,(hp _).s,nn]
 refine Zs (fun _ => rp _) ?_
 simp only [go_sem,ob0,(hk _).s,(hr _).s,(hp _).s,nn]
 have ee:(!Uk K || !revB R || !prdsB P) = !((Uk K&&revB R)&&prdsB P):=by rw [Bool.not_and,Bool.not_and]
 rw [ee]
 generalize ((Uk K&&revB R)&&prdsB P)=o
 cases o
 ·exact ⟨fun _ => Zc rfl,fun h => (by cases h)⟩
 refine ⟨fun h => (by cases h),fun _ => ?_⟩
 have kp:Yg (kcs K)=true:=Av _ K fun k _ => Zrc k
 refine Za (Zpw (hk _) kp (It _ K fun k _ => Kt k) kn) (fun _ => rfl) ?_
 simp only [go_sem,ob0,o1,o2,o3,nn]
 refine Za (Zpu (hr _) (Zer R) (It _ R fun k _ => rfl) rn) (fun _ => rfl) ?_
 simp only [go_sem,ob0,o1,o2,o3,nn]
 refine Za (Zpv (hp _) (It _ P fun k hk => Zwr (po k hk).1) pn) (fun h => absurd h (by decide)) ?_
 simp only [go_sem,ob0,o1,o2,o3,nn,List.append_assoc,List.cons_append,List.nil_append]
 let Lk:Nat→List Prd:=fun k => (P.take k).map clP++P.drop k
 let Hk:Nat→AH:=fun k => ldB H K R (Lk k)
 have hLl:∀ k,k≤P.length→(Lk k).length=P.length:=fun k hk => by simp [Lk]; omega
 have hL0:H++[⟨[.view (kcs K) K.length false,.view (rcs R) R.length false,.row (H.length+1) 0 P.length (P.length*7)],0,true⟩,⟨pcs P,7,true⟩]=Hk 0:=by
  show _=ldB H K R (Lk 0)
  simp only [Lk,List.take_zero,List.map_nil,List.nil_append,List.drop_zero]; rfl
 rw [hL0]
 have hok:∀ k,k≤P.length→∀ p ∈ Lk k,p.ok∧p.few:=fun k _ p hp => by
  rcases List.mem_append.1 hp with hp | hp
  ·obtain ⟨q,hq,rfl⟩:=List.mem_map.1 hp
   exact Zur (po q (List.mem_of_mem_take hq))
  ·exact po p (List.mem_of_mem_drop hp)
 refine Z4 _ (fun (k:Nat) => ([(0,.ptr v 0),(3,.ptr H.length 0),(38,I P.length),(39,I k)],Hk k)) (fun k => k≤P.length) (fun k => P.length - k) 0 (Nat.zero_le _) rfl ?_
 intro k hk
 have el:=hLl k hk
 have hHk:Hk k=H++[⟨[.view (kcs K) K.length false,.view (rcs R) R.length false,.row (H.length+1) 0 P.length (P.length*7)],0,true⟩,⟨pcs (Lk k),7,true⟩]:=by
  show ldB H K R (Lk k)=_
  rw [ldB,el]
 have pl:(pcs (Lk k)).length=P.length*7:=by
  have:∀ l:List Prd,(pcs l).length=l.length*7:=fun l => by
   induction l with
   | nil => rfl
   | cons a A ih => rw [pcs,List.flatMap_cons,List.length_append,Prd.len,List.length_cons,Nat.succ_mul,Nat.add_comm]; rw [pcs] at ih; rw [ih]
  rw [this,el]
 simp only [hHk,go_sem,ob0,ob1,nn]
 refine ⟨fun hh => ?_,fun hh => ?_⟩
 ·have hlt:k<P.length:=by omega
  have ep:(Lk k).getD k noP=P.getD k noP:=by
   simp only [Lk,List.getD_eq_getElem?_getD]
   rw [List.getElem?_append_right (by simp; omega)]
   simp [Nat.min_eq_left hk]
  have hp:=po (P.getD k noP) (by rw [List.getD_eq_getElem?_getD,List.getElem?_eq_getElem hlt]; exact List.getElem_mem hlt)
  have c5:(pcs (Lk k)).getD (k*7+5) .junk=(P.getD k noP).e:=by
   rw [pcs,Oe _ 7 noP (by decide) _ _ _ (fun _ _ => rfl) (by omega) (by decide),ep]; rfl
  have c6:(pcs (Lk k)).getD (k*7+6) .junk=(P.getD k noP).x:=by
   rw [pcs,Oe _ 7 noP (by decide) _ _ _ (fun _ _ => rfl) (by omega) (by decide),ep]; rfl
  simp only [go_sem,ob0,ob1,nn,pl,c5,c6]
  have r5:k*7+2+3=k*7+5:=by omega
  have r6:k*7+2+4=k*7+6:=by omega
  refine ⟨⟨by omega,by omega⟩,by omega,Za (Zd8 hp.1.2.2.2.2.2.1 (by have:=hp.2.1; omega) _) (fun _ => rfl) ?_⟩
  simp only [go_sem,ob0,ob1,nn,pl,r5,r6,c5,c6]
  refine ⟨by omega,Za (Zd8 hp.1.2.2.2.2.2.2 (by have:=hp.2.2; omega) _) (fun _ => rfl) ?_⟩
  have w2:IntKind.i64.wrap ((k:Int)+1)=((k+1:Nat):Int):=by rw [w64 _ (by omega) (by omega)]; omega
  simp only [go_sem,ob0,ob1,nn,pl,r5,r6,c5,c6,w2,List.length_set]
  have vc:∀ l:List Int,(vI l false).cells=[vI l false]:=fun _ => rfl
  have v1:∀ l:List Int,(vI l false).one=true:=fun _ => rfl
  simp only [vc,v1,Kb,List.length_set,pl,List.all_cons,List.all_nil,Bool.and_true,List.length_singleton]
  refine ⟨⟨trivial,trivial,by omega⟩,⟨trivial,trivial,trivial,by omega⟩,k+1,rfl,?_,by omega,by omega⟩
  have eA:Lk k=(P.take k).map clP++P.getD k noP::P.drop (k+1):=by
   show (P.take k).map clP++P.drop k=_
   rw [List.drop_eq_getElem_cons hlt,List.getD_eq_getElem?_getD,List.getElem?_eq_getElem hlt]; rfl
  have eB:Lk (k+1)=(P.take k).map clP++clP (P.getD k noP)::P.drop (k+1):=by
   show (P.take (k+1)).map clP++P.drop (k+1)=_
   rw [List.take_succ_eq_append_getElem hlt,List.map_append,List.append_assoc,List.getD_eq_getElem?_getD,List.getElem?_eq_getElem hlt]; rfl
  have lA:((P.take k).map clP).length=k:=by simp; omega
  have:=Zwd ((P.take k).map clP) (P.getD k noP) (P.drop (k+1))
  rw [lA,← eA,← eB] at this
  rw [this]
  show _=ldB H K R (Lk (k+1))
  rw [ldB,hLl (k+1) (by omega)]
 ·have hkn:k=P.length:=by omega
  subst hkn
  have oo:∀ G,obj (H++G) v=⟨s.cells,0,true⟩:=fun G => (Z1 _ _ h.hv).trans h.ov
  have hv:=h.hv
  simp only [oo,hlen]
  refine ⟨⟨by omega,trivial,by omega⟩,?_⟩
  have eL:Lk P.length=P.map clP:=by
   show (P.take P.length).map clP++P.drop P.length=_
   rw [List.take_length,List.drop_length,List.append_nil]
  rw [Z5i,eL,ldH,ldB,List.length_map]
  exact Leave.refl _ _ _
structure WD (H:AH) (v f r:Nat) (s:Dv) (x:AV) (B:List UInt8) (T E:Nat) (rs:List (List UInt8)) (sp:Bool) (l:List Rec):Prop where
 dv:DV H v s
 fl:J.FL H f r B
 jr:J.JR H s.j f x T E rs sp
 al:GRs 41 H s.all (rls l) l.length
 lo:∀ a ∈ l,a.ok
 vj:v≠s.j
 vf:v≠f
 vr:v≠r
 jf:s.j≠f
 jr':s.j≠r
 xv:rid x≠some v
 xf:rid x≠some f
 xr:rid x≠some r
 av:rid s.all≠some v
 aj:rid s.all≠some s.j
 af:rid s.all≠some f
 ar:rid s.all≠some r
 ax:∀ q,rid x=some q→rid s.all≠some q
 hd:s.d<(18446744073709551616:Nat)^4
 sB:B.length≤1048576
 sE:E≤1048576
 sT:T≤1048575
 sl:l.length≤1048575
 sr:rs.length≤1048575
def newR (s:Dv) (n:Nat) (r:Rec):Rec:={ r with dev:=s.id,seq:=n,stop:=s.stop,zone:=s.zone,prev:=s.last }
theorem Rr {s:Dv} {n:Nat} {r:Rec} (h:r.ok) (hl:s.last.length=32):(newR s n r).ok:=⟨hl,h.2⟩
theorem Kp {s:Dv} {n:Nat} {r:Rec} (h:r.ok) (hl:s.last.length=32):splice ((((r.cells.set 0 (I s.id)).set 1 (I n)).set 4 (I s.stop)).set 5 (I s.zone)) 8 (bs s.last)=(newR s n r).cells:=by
 obtain ⟨b1,b2,hb⟩:∃ y z t,s.last=y::z::t:=by
  match hs:s.last,hl with
  | y::z::t,_ => exact ⟨y,z,t,rfl⟩
 obtain ⟨t,hb⟩:=hb
 have e:bs s.last=.lit (.int .u8 b1.toNat)::.lit (.int .u8 b2.toNat)::bs t:=by rw [hb]; rfl
 have ll:(bs t).length+2=32:=by rw [Zt]; rw [hb] at hl; simpa using hl
 rw [e,Ka,ll,← e]
 simp only [Rec.cells,Rec.nums,newR]
 have hp:=h.1
 show [I s.id,I n,I r.min_,I r.kind,I s.stop,I s.zone,I r.serial,I r.verdict]++bs s.last++(bs r.prev++[r.e]).drop 32=_
 rw [List.drop_left' (by rw [Zt,hp]),List.append_assoc]
theorem Z29 {s:Dv} (h:s.last.length=32) {D:List UInt8} (hl:D.length=32):splice s.cells 15 (bs D)={ s with last:=D }.cells:=by
 obtain ⟨b1,b2,hb⟩:∃ y z t,D=y::z::t:=by
  match hs:D,hl with
  | y::z::t,_ => exact ⟨y,z,t,rfl⟩
 obtain ⟨t,hb⟩:=hb
 have e:bs D=.lit (.int .u8 b1.toNat)::.lit (.int .u8 b2.toNat)::bs t:=by rw [hb]; rfl
 have ll:(bs t).length+2=32:=by rw [Zt]; rw [hb] at hl; simpa using hl
 rw [e,Ka,ll,← e,List.append_assoc]
 exact Z28 h hl
theorem De {H:AH} {v f rr:Nat} {s:Dv} {x:AV} {B:List UInt8} {T E:Nat} {rs:List (List UInt8)} {sp:Bool} {l:List Rec} (w:WD H v f rr s x B T E rs sp l) (hct:s.ct=false) {r:Rec} (hr:r.ok) {c:Int}
  (hno:Bu (newR s l.length r) s.d=.tup [nilS,errA c]):Called Tryz.prog F.device_Device_write [.ptr v 0,.agg r.cells] H (eAV c) H:=by
 have hlen:=Qj w.dv.l32
 have g47:=Zae w.dv.l32
 have c15:=Znz w.dv.l32
 have hv:=w.dv.hv
 have sa:=w.al.sl.s
 have oo:∀ G,obj (H++G) v=⟨s.cells,0,true⟩:=fun G => (Z1 _ _ hv).trans w.dv.ov
 have ob0:∀ o G,obj (H++o::G) H.length=o:=fun o G => by simp [obj]
 have nn:∀ G:AH,(H++G).length=H.length+G.length:=fun G => List.length_append
 have rl:=Xm hr
 have r1:=Rm hr
 have hvn:¬ v=H.length:=by omega
 have sl:=w.sl
 have ri:r.cells.isEmpty=false:=by rw [Rec.cells,Rec.nums]; rfl
 have b1:(bs s.last).length=32:=by rw [Zt,w.dv.l32]
 have rw0:=Kp (s:=s) (n:=l.length) hr w.dv.l32
 have nl:=Xm (Rr (n:=l.length) (s:=s) hr w.dv.l32)
 have nt:(newR s l.length r).cells.take 41=(newR s l.length r).cells:=by rw [← nl,List.take_length]
 refine Wm ?_
 simp only [Y9,Vy]
 simp only [go_sem,oo,w.dv.ov,hlen,g47,sa,rl,r1,ob0,hv,nn,Zx8,Zny,Zaf,c15,Zx9,ri,b1,Yz,List.length_set,rw0,nl,nt]
 have hH:v<H.length+1:=by omega
 refine ⟨hH,fun h => absurd h (by omega),fun _ => ?_⟩
 refine ⟨hH,hH,hH,hH,hH,⟨hvn,hvn,hvn,hvn⟩,⟨hvn,hvn,hvn⟩,⟨hvn,hvn⟩,hvn,hH,Za (Dg (Rr hr w.dv.l32) w.hd) (fun _ => rfl) ?_⟩
 rw [hno]
 simp only [go_sem]
 exact Zc rfl
theorem Zmm {r:Rec} {d a c:Nat} (hb:recB r=true) (hm:Xa d=true) (hs:Kc d (sha (recP r))=some (a,c)):Bu r d=.tup [vB (sgnd (recP r) a c) false,nilE]:=by
 rw [Bu,if_pos hb,issV,if_pos hm,hs]
theorem Zpn {H:AH} {v f rr:Nat} {s:Dv} {x:AV} {B:List UInt8} {T E:Nat} {rs:List (List UInt8)} {sp:Bool} {l:List Rec} (w:WD H v f rr s x B T E rs sp l) (hct:s.ct=false) {r:Rec} (hr:r.ok) {a c:Nat}
  (hb:recB (newR s l.length r)=true) (hm:Xa s.d=true) (hs:Kc s.d (sha (recP (newR s l.length r)))=some (a,c)) (hno:¬ J.okApp B.length E sp (sgnd (recP (newR s l.length r)) a c)) :
  ∃ e,Called Tryz.prog F.device_Device_write [.ptr v 0,.agg r.cells] H (eAV e) H:=by
 have hS:(sgnd (recP (newR s l.length r)) a c).length≤50000:=by
  rw [Dn]; have:=Ik (Rr (n:=l.length) (s:=s) hr w.dv.l32) (Nj hb).2; omega
 have fb:=J.FL.frame w.fl (Fr.app H [⟨(newR s l.length r).cells,0,true⟩] (fun _ => False)) id id
 have jb:=J.JR.frame w.jr (Fr.app H [⟨(newR s l.length r).cells,0,true⟩] (fun _ => False)) id (fun _ _ => id)
 obtain ⟨e,he⟩:=J.t_appendErr (g:=false) fb jb w.sB w.sE (by omega:(sgnd (recP (newR s l.length r)) a c).length≤1048576) hno
 refine ⟨e,?_⟩
 have hlen:=Qj w.dv.l32
 have g47:=Zae w.dv.l32
 have c15:=Znz w.dv.l32
 have hv:=w.dv.hv
 have sa:=w.al.sl.s
 have oo:∀ G,obj (H++G) v=⟨s.cells,0,true⟩:=fun G => (Z1 _ _ hv).trans w.dv.ov
 have ob0:∀ o G,obj (H++o::G) H.length=o:=fun o G => by simp [obj]
 have nn:∀ G:AH,(H++G).length=H.length+G.length:=fun G => List.length_append
 have rl:=Xm hr
 have r1:=Rm hr
 have hvn:¬ v=H.length:=by omega
 have sl:=w.sl
 have ri:r.cells.isEmpty=false:=by rw [Rec.cells,Rec.nums]; rfl
 have b1:(bs s.last).length=32:=by rw [Zt,w.dv.l32]
 have rw0:=Kp (s:=s) (n:=l.length) hr w.dv.l32
 have nl:=Xm (Rr (n:=l.length) (s:=s) hr w.dv.l32)
 have nt:(newR s l.length r).cells.take 41=(newR s l.length r).cells:=by rw [← nl,List.take_length]
 refine Wm ?_
 simp only [Y9,Vy]
 simp only [go_sem,oo,w.dv.ov,hlen,g47,sa,rl,r1,ob0,hv,nn,Zx8,Zny,Zaf,c15,Zx9,ri,b1,Yz,List.length_set,rw0,nl,nt]
 have hH:v<H.length+1:=by omega
 refine ⟨hH,fun h => absurd h (by omega),fun _ => ?_⟩
 refine ⟨hH,hH,hH,hH,hH,⟨hvn,hvn,hvn,hvn⟩,⟨hvn,hvn,hvn⟩,⟨hvn,hvn⟩,hvn,hH,Za (Dg (Rr hr w.dv.l32) w.hd) (fun _ => rfl) ?_⟩
 rw [Zmm hb hm hs]
 simp only [go_sem,oo,w.dv.ov,hlen,hv,nn,Zun,Zx7,hct]
 refine ⟨hH,hH,Za he (fun h => absurd h (by decide)) ?_⟩
 simp only [go_sem]
 exact Zc rfl
theorem Zqq {r:Rec} (h:r.ok):(ownR r).ok:=by
 refine ⟨h.1,h.2.1,fun H => ?_⟩
 show Sl 1 H (if 0<r.b.length then vB r.b false else nilS) (bs r.b) r.b.length
 split
 ·exact Sl.vB _ _
 ·have:r.b=[]:=List.eq_nil_of_length_eq_zero (by omega)
  rw [this]; exact .nil
theorem Zqe (l:List Rec) (r:Rec):rls (l++[r])=rls l++r.cells:=by simp [rls]
theorem Zdy {H:AH} {v f rr:Nat} {s:Dv} {x:AV} {B:List UInt8} {T E:Nat} {rs:List (List UInt8)} {sp:Bool} {l:List Rec} (w:WD H v f rr s x B T E rs sp l) (hct:s.ct=false) {r:Rec} (hr:r.ok) {a c:Nat}
  (hb:recB (newR s l.length r)=true) (hm:Xa s.d=true) (hs:Kc s.d (sha (recP (newR s l.length r)))=some (a,c)) (ha:a<(18446744073709551616:Nat)^4) (hc:c<(18446744073709551616:Nat)^4) (hok:J.okApp B.length E sp (sgnd (recP (newR s l.length r)) a c))
  (hE:E+2+(sgnd (recP (newR s l.length r)) a c).length≤1048576) (hT:T+1≤1048575) (hl:l.length+1≤1048575) (hrs:rs.length+1≤1048575) :
  ∃ H' x' all',Called Tryz.prog F.device_Device_write [.ptr v 0,.agg r.cells] H nilE H' ∧
   WD H' v f rr { s with last:=sha (recP (newR s l.length r)),all:=all' } x' (J.appB B T E (sgnd (recP (newR s l.length r)) a c)) (T+1) (E+2+(sgnd (recP (newR s l.length r)) a c).length) (rs++[sgnd (recP (newR s l.length r)) a c]) false (l++[ownR (newR s l.length r)]) ∧
   Fr H H' (fun i => i=v∨i=s.j∨i=rr∨rid x=some i∨rid s.all=some i)∧New H x x'∧New H s.all all':=by
 have hn:=Rr (n:=l.length) (s:=s) hr w.dv.l32
 have hS:(sgnd (recP (newR s l.length r)) a c).length≤50000:=by
  rw [Dn]; have:=Ik hn (Nj hb).2; omega
 have ho:=D3 hn hb ha hc
 have hd32:(sha (recP (newR s l.length r))).length=32:=Vx _
 have hw:=Zqq hn
 have e0:=Zmm hb hm hs
 generalize hSS:sgnd (recP (newR s l.length r)) a c=S at *
 generalize hDD:sha (recP (newR s l.length r))=D at *
 have fb:=J.FL.frame w.fl (Fr.app H [⟨(newR s l.length r).cells,0,true⟩] (fun _ => False)) id id
 have jb:=J.JR.frame w.jr (Fr.app H [⟨(newR s l.length r).cells,0,true⟩] (fun _ => False)) id (fun _ _ => id)
 obtain ⟨H1,x',c1,c2,c3,c4,c5⟩:=J.t_append (g:=false) fb jb w.sB w.sE w.sT (by have:=w.sr; omega) w.jr' w.jf w.xr w.xf hok
 have hv:=w.dv.hv
 have xlt:∀ q,rid x=some q→q<H.length:=fun q hq => by
  rcases w.jr.gr with ⟨rfl,_⟩ | ⟨q',L,cs,rfl,h1,_⟩
  ·cases hq
  ·cases hq; exact h1
 have l1:H.length+1≤H1.length:=by have:=c5.1; rw [List.length_append] at this; exact this
 have o1:obj H1 v=⟨s.cells,0,true⟩:=by
  rw [c5.2 v (by rw [List.length_append]; omega) (fun h => h.elim w.vj fun h => h.elim w.vr w.xv),Z1 _ _ hv,w.dv.ov]
 have o2:obj H1 H.length=⟨(newR s l.length r).cells,0,true⟩:=by
  rw [c5.2 H.length (by rw [List.length_append]; exact Nat.lt_succ_self _) (by
   rintro (h | h | h)
   ·have:=w.jr.hj; omega
   ·have:=w.fl.hr; omega
   ·have:=xlt _ h; omega)]
  simp [obj]
 -- The heap behind the stores.
 obtain ⟨Ha,hHa⟩:∃ Ha,Ha=setO H1 H.length (ownR (newR s l.length r)).cells:=⟨_,rfl⟩
 obtain ⟨H3,hH3⟩:∃ H3,H3=setO Ha v { s with last:=D }.cells:=⟨_,rfl⟩
 have la:Ha.length=H1.length:=by rw [hHa,Zk]
 have l3:H3.length=H1.length:=by rw [hH3,Zk,la]
 have oa:obj Ha v=⟨s.cells,0,true⟩:=by rw [hHa,W7 _ _ (by omega),o1]
 have f3:Fr H1 H3 (fun i => i=H.length∨i=v):=by
  rw [hH3,hHa]; exact (Fr.set H1 _ (S:=fun i => i=H.length∨i=v) (.inl rfl)).trans (Fr.set _ _ (.inr rfl))
 have o3:obj H3 v=⟨{ s with last:=D }.cells,0,true⟩:=by
  rw [hH3,Yj _ _ (by omega),oa]
 have o4:obj H3 H.length=⟨(ownR (newR s l.length r)).cells,0,true⟩:=by
  rw [hH3,W7 _ _ (by omega),hHa,Yj _ _ (by omega),o2]
 have alt:∀ q,rid s.all=some q→q<H.length:=fun q hq => w.al.lt hq
 have g1:GRs 41 H1 s.all (rls l) l.length:=(w.al.frame (Fr.app H _ (fun _ => False)) (fun _ _ h => h)).frame c5 (by
  rintro q hq (h | h | h)
  ·subst h; exact w.aj hq
  ·subst h; exact w.ar hq
  ·exact w.ax q h hq)
 have g3:GRs 41 H3 s.all (rls l) l.length:=g1.frame f3 (by
  rintro q hq (h | h)
  ·have:=alt q hq; omega
  ·subst h; exact w.av hq)
 have ol:=Xm hw
 have o1':=Rm hw
 obtain ⟨a1,a2,a3,a4⟩:=g3.app (s:=.view (ownR (newR s l.length r)).cells 1 true) (ws:=(ownR (newR s l.length r)).cells) (b:=120) (by show _=1*41; rw [ol]) rfl rfl ol o1' (by omega)
 obtain ⟨H4,hH4⟩:∃ H4,H4=appH 41 H3 (.view (ownR (newR s l.length r)).cells 1 true) s.all:=⟨_,rfl⟩
 obtain ⟨all',hal⟩:∃ y,y=appV 41 H3 (.view (ownR (newR s l.length r)).cells 1 true) s.all:=⟨_,rfl⟩
 rw [← hH4,← hal] at a2
 rw [← hal] at a3
 rw [← hH4] at a4
 have l4:H3.length≤H4.length:=a4.1
 have o5:obj H4 v=⟨{ s with last:=D }.cells,0,true⟩:=by rw [a4.2 v (by omega) w.av,o3]
 refine ⟨setO H4 v { s with last:=D,all:=all' }.cells,x',all',?_,?_⟩
 ·have hlen:=Qj w.dv.l32
  have g47:=Zae w.dv.l32
  have c15:=Znz w.dv.l32
  have hv:=w.dv.hv
  have sa:=w.al.sl.s
  have oo:∀ G,obj (H++G) v=⟨s.cells,0,true⟩:=fun G => (Z1 _ _ hv).trans w.dv.ov
  have ob0:∀ o G,obj (H++o::G) H.length=o:=fun o G => by simp [obj]
  have nn:∀ G:AH,(H++G).length=H.length+G.length:=fun G => List.length_append
  have rl:=Xm hr
  have r1:=Rm hr
  have hvn:¬ v=H.length:=by omega
  have sl:=w.sl
  have ri:r.cells.isEmpty=false:=by rw [Rec.cells,Rec.nums]; rfl
  have b1:(bs s.last).length=32:=by rw [Zt,w.dv.l32]
  have rw0:=Kp (s:=s) (n:=l.length) hr w.dv.l32
  have nl:=Xm (Rr (n:=l.length) (s:=s) hr w.dv.l32)
  have nt:(newR s l.length r).cells.take 41=(newR s l.length r).cells:=by rw [← nl,List.take_length]
  refine Wm ?_
  simp only [Y9,Vy]
  simp only [go_sem,oo,w.dv.ov,hlen,g47,sa,rl,r1,ob0,hv,nn,Zx8,Zny,Zaf,c15,Zx9,ri,b1,Yz,List.length_set,rw0,nl,nt]
  have hH:v<H.length+1:=by omega
  refine ⟨hH,fun h => absurd h (by omega),fun _ => ?_⟩
  refine ⟨hH,hH,hH,hH,hH,⟨hvn,hvn,hvn,hvn⟩,⟨hvn,hvn,hvn⟩,⟨hvn,hvn⟩,hvn,hH,Za (Dg (Rr hr w.dv.l32) w.hd) (fun _ => rfl) ?_⟩
  rw [e0]
  simp only [go_sem,oo,w.dv.ov,hlen,hv,nn,Zun,Zx7,hct]
  refine ⟨hH,hH,Za c1 (fun h => absurd h (by decide)) ?_⟩
  simp only [go_sem]
  refine Za (Zjo (Sl.vB _ _) (by omega)) (fun _ => rfl) ?_
  rw [ho]
  have sp0:splice (newR s l.length r).cells 0 (ownR (newR s l.length r)).cells=(ownR (newR s l.length r)).cells:=Sr hn hw
  have sp1:=Z29 (D:=D) w.dv.l32 hd32
  have bd:(bs D).length=32:=by rw [Zt,hd32]
  have lv:v<H1.length:=by omega
  have lh:H.length<H1.length:=by omega
  have ot:(ownR (newR s l.length r)).cells.take 41=(ownR (newR s l.length r)).cells:=by rw [← ol,List.take_length]
  have hl2:({ s with last:=D }:Dv).cells.length=48:=Qj hd32
  have g2:({ s with last:=D }:Dv).cells.getD 47 .junk=s.all:=Zae hd32
  simp only [go_sem,Ed,o2,sp0,← hHa,la,oa,sp1,← hH3,ol,o1',bd,Yz,nl,hlen,lv,lh,l3,o3,o4,ot,hl2,g2]
  have sp2:splice (recZ.map AV.lit) 0 (ownR (newR s l.length r)).cells=(ownR (newR s l.length r)).cells:=by rw [Xv]; exact Sr Xw hw
  have op:Yg (ownR (newR s l.length r)).cells=true:=by
   rw [Rec.cells]
   refine Y7 rfl (Y7 (Y1 _) ?_)
   show Yg [if 0<r.b.length then vB r.b false else nilS]=true
   split
   ·simp only [Yg,vB,AV.pure,Y1,Bool.and_self]
   ·rfl
  have s1:=a2.sl.s
  rw [sp2,← hH4,← hal]
  have c47:=Z27 (s:={ s with last:=D }) hd32 all'
  have v4:v<H4.length:=by omega
  simp only [s1,o5]
  refine ⟨op,a1,⟨rfl,by rw [List.all_cons,s1.2.2.2.2.2.2.1]; rfl,v4,trivial,Nat.le_of_eq hl2.symm⟩,?_⟩
  rw [Kb]
  first | exact c47 ▸ Leave.refl _ _ _ | (simp only [hct] at c47 ⊢; rw [c47]; exact Leave.refl _ _ _)
 ·obtain ⟨H5,hH5⟩:∃ H5,H5=setO H4 v { s with last:=D,all:=all' }.cells:=⟨_,rfl⟩
  rw [← hH5]
  have f5:Fr H4 H5 (fun i => i=v):=hH5 ▸ Fr.set H4 _ rfl
  have v4:v<H4.length:=by omega
  have f15:Fr H1 H5 (fun i => i=H.length∨i=v∨rid s.all=some i) :=
   ((f3.mono fun i _ h => h.elim .inl fun h => .inr (.inl h)).trans (a4.mono fun i _ h => .inr (.inr h))).trans (f5.mono fun i _ h => .inr (.inl h))
  have jl:=w.jr.hj
  have fl:=w.fl.hf
  have rl2:=w.fl.hr
  have n0:(H++[(⟨(newR s l.length r).cells,0,true⟩:AObj)]).length=H.length+1:=by rw [List.length_append]; rfl
  have nx:∀ q,rid x'=some q→rid x=some q∨H.length+1≤q:=fun q hq => by
   have:=c4 q hq; rwa [n0] at this
  have na:∀ q,rid all'=some q→rid s.all=some q∨H1.length≤q:=fun q hq => by
   have:=a3 q hq; rwa [l3] at this
  have xl1:∀ q,rid x'=some q→q<H1.length:=fun q hq => by
   rcases c3.gr with ⟨rfl,_⟩ | ⟨q',L,cs,rfl,h1,_⟩
   ·cases hq
   ·cases hq; exact h1
  refine ⟨?_,?_,fun q hq => (nx q hq).imp_right fun h => by omega,fun q hq => (na q hq).imp_right fun h => by omega⟩
  case refine_2 =>
   have g1:Fr H H1 (fun i => i=s.j∨i=rr∨rid x=some i):=(Fr.app H _ _).trans c5
   have g2:Fr H1 H5 (fun i => i=H.length∨i=v∨rid s.all=some i):=f15
   refine ⟨Nat.le_trans g1.1 g2.1,fun i hi hn => ?_⟩
   rw [g2.2 i (Nat.lt_of_lt_of_le hi g1.1) (fun h => h.elim (fun h => by omega) fun h => h.elim (fun h => hn (.inl h)) fun h => hn (.inr (.inr (.inr (.inr h))))),g1.2 i hi (fun h => h.elim (fun h => hn (.inr (.inl h))) fun h => h.elim (fun h => hn (.inr (.inr (.inl h)))) fun h => hn (.inr (.inr (.inr (.inl h)))))]
  refine ⟨⟨by have:=f5.1; omega,by rw [hH5,Yj _ _ v4,o5],hd32⟩,c2.frame f15 (fun h => h.elim (fun h => by omega) fun h => h.elim (fun h => w.vf h.symm) w.af) (fun h => h.elim (fun h => by omega) fun h => h.elim (fun h => w.vr h.symm) w.ar),?_,?_,?_,w.vj,w.vf,w.vr,w.jf,w.jr',?_,?_,?_,?_,?_,?_,?_,?_,w.hd,?_,hE,hT,?_,?_⟩
  ·refine c3.frame f15 (fun h => h.elim (fun h => absurd (show s.j=H.length from h) (by omega)) fun h => h.elim (fun h => w.vj h.symm) w.aj) ?_
   rintro q hq (h | h | h)
   ·rcases nx q hq with h2 | h2
    ·have:=xlt q h2; omega
    ·omega
   ·subst h
    rcases nx q hq with h2 | h2
    ·exact w.xv h2
    ·omega
   ·rcases nx q hq with h2 | h2
    ·exact w.ax q h2 h
    ·have:=alt q h; omega
  ·rw [Zqe,List.length_append]
   refine a2.frame f5 fun q hq h => ?_
   subst h
   rcases na q hq with h2 | h2
   ·exact w.av h2
   ·omega
  ·intro a' h
   rcases List.mem_append.1 h with h | h
   ·exact w.lo a' h
   ·obtain rfl:=List.mem_singleton.1 h; exact hw
  ·intro h; rcases nx _ h with h2 | h2
   ·exact w.xv h2
   ·omega
  ·intro h; rcases nx _ h with h2 | h2
   ·exact w.xf h2
   ·omega
  ·intro h; rcases nx _ h with h2 | h2
   ·exact w.xr h2
   ·omega
  ·intro h; rcases na _ h with h2 | h2
   ·exact w.av h2
   ·omega
  ·intro h; rcases na _ h with h2 | h2
   ·exact w.aj h2
   ·have:s.j<H.length:=jl
    have h2:H1.length≤s.j:=h2
    omega
  ·intro h; rcases na _ h with h2 | h2
   ·exact w.af h2
   ·omega
  ·intro h; rcases na _ h with h2 | h2
   ·exact w.ar h2
   ·omega
  ·intro q hq h
   rcases nx q hq with h2 | h2
   ·rcases na q h with h3 | h3
    ·exact w.ax q h2 h3
    ·have:=xlt q h2; omega
   ·rcases na q h with h3 | h3
    ·have:=alt q h3; omega
    ·have:=xl1 q hq; omega
  ·rw [J.appB_length hok]; exact w.sB
  ·rw [List.length_append]; exact hl
  ·rw [List.length_append]; exact hrs
set_option maxRecDepth 10000
def devZ:List Value:=[.int .i64 0,.int .u64 0,.int .u64 0,.int .u64 0,.int .u64 0,.pointer none,.slice none 0 0,.slice none 0 0,.slice none 0 0,.bool false,.int .i64 0,.int .i64 0,.bool false,.int .i64 0,.int .i64 0,.int .u8 0,.int .u8 0,.int .u8 0,.int .u8 0,.int .u8 0,.int .u8 0,.int .u8 0,.int .u8 0,.int .u8 0,.int .u8 0,.int .u8 0,.int .u8 0,.int .u8 0,.int .u8 0,.int .u8 0,.int .u8 0,.int .u8 0,.int .u8 0,.int .u8 0,.int .u8 0,.int .u8 0,.int .u8 0,.int .u8 0,.int .u8 0,.int .u8 0,.int .u8 0,.int .u8 0,.int .u8 0,.int .u8 0,.int .u8 0,.int .u8 0,.int .u8 0,.slice none 0 0]
theorem Zyd:[.int .i64 0,.int .u64 0,.int .u64 0,.int .u64 0,.int .u64 0,.pointer none,.slice none 0 0,.slice none 0 0,.slice none 0 0,.bool false,.int .i64 0,.int .i64 0,.bool false,.int .i64 0,.int .i64 0,.int .u8 0,.int .u8 0,.int .u8 0,.int .u8 0,.int .u8 0,.int .u8 0,.int .u8 0,.int .u8 0,.int .u8 0,.int .u8 0,.int .u8 0,.int .u8 0,.int .u8 0,.int .u8 0,.int .u8 0,.int .u8 0,.int .u8 0,.int .u8 0,.int .u8 0,.int .u8 0,.int .u8 0,.int .u8 0,.int .u8 0,.int .u8 0,.int .u8 0,.int .u8 0,.int .u8 0,.int .u8 0,.int .u8 0,.int .u8 0,.int .u8 0,.int .u8 0,Value.slice none 0 0]=devZ:=rfl
def newD (id:Int) (d j:Nat):Dv:=⟨id,d,j,nilS,nilS,nilS,false,0,0,false,0,0,z32,nilS⟩
theorem Zha (id:Int) (d j:Nat):((splice ((devZ.map AV.lit).set 0 (I id)) 1 (num d)).set 5 (.ptr j 0))=(newD id d j).cells:=by
 have e:num d=(dig (18446744073709551616:Nat) 4 d).map W:=rfl
 obtain ⟨a,b,c,g,h⟩:∃ a b c g,dig (18446744073709551616:Nat) 4 d=[a,b,c,g]:=⟨_,_,_,_,rfl⟩
 rw [Dv.cells,Dv.tail,newD]
 simp only
 rw [e,h]; rfl
theorem Zjr {H:AH} {f r:Nat} {B:List UInt8} {T E:Nat} {dn:Int} {d:Nat} (hF:J.FL H f r B) (hI:J.INV B T E []) (h1:1≤dn) (h2:dn≤2147483647) (hd:d<(18446744073709551616:Nat)^4) (hm:Xa d=true) (hB:B.length≤1048576) (hE:E≤1048576) (hT:T≤1048575) :
  ∃ H' v j x,Called Tryz.prog F.device_Open [I dn,.agg (num d),.ptr f 0] H (.tup [.ptr v 0,nilE]) H'∧WD H' v f r (newD dn d j) x B T E [] false []∧Fr H H' (fun _ => False)∧H.length≤v∧H.length≤j∧(∀ q,rid x=some q→H.length≤q):=by
 have n4:(num d).length=4:=num4 d
 have o4:(num d).all AV.one=true:=Zg _ _
 have t4:(num d).take 4=num d:=by rw [← n4,List.take_length]
 have i4:(num d).isEmpty=false:=rfl
 obtain ⟨H0,hH0⟩:∃ H0,H0=H++[⟨num d,0,true⟩,⟨ptc (mulA d Wt),0,true⟩]:=⟨_,rfl⟩
 have hF0:J.FL H0 f r B:=hH0 ▸ hF.frame (Fr.app H _ (fun _ => False)) (fun h => h) (fun h => h)
 obtain ⟨H1,x,c1,c2,c3,c4⟩:=J.t_openI hF0 hI
 have ob0:∀ o G,obj (H++o::G) H.length=o:=fun o G => by simp [obj]
 have ob1:∀ o o' G,obj (H++o::o'::G) (H.length+1)=o':=fun o o' G => by simp [obj]
 have nn:∀ G:AH,(H++G).length=H.length+G.length:=fun G => List.length_append
 obtain ⟨H2,hH2⟩:∃ H2,H2=H1++[⟨(newD dn d (H0.length+2)).cells,0,true⟩]:=⟨_,rfl⟩
 have l0:H0.length=H.length+2:=by rw [hH0,nn]; rfl
 refine ⟨H2,H1.length,H0.length+2,x,?_,?_,?_,by have:=c3.1; omega,by omega,fun q hq => by have:=c4 q hq; omega⟩
 ·refine Cz ?_
  simp only [Sv,Zyd,Vy]
  simp only [go_sem,n4,o4,t4,i4,ob0,nn]
  refine Za (Zpy hd) (fun _ => rfl) ?_
  rw [if_pos hm]
  have p1:=Zwo (mulA d Wt)
  have p2:=Zwn (mulA d Wt)
  have p3:splice [.lit (.int .u64 0),.lit (.int .u64 0),.lit (.int .u64 0),.lit (.int .u64 0),.lit (.int .u64 0),.lit (.int .u64 0),.lit (.int .u64 0),.lit (.int .u64 0),.lit (.bool false)] 0 (ptc (mulA d Wt))=ptc (mulA d Wt):=Zu (by rw [p1]; rfl)
  have p4:(ptc (mulA d Wt)).take 9=ptc (mulA d Wt):=by rw [← p1,List.take_length]
  have hid:(decide (dn<1) || decide (2147483647<dn))=false:=by
   rw [Bool.or_eq_false_iff]; exact ⟨decide_eq_false (by omega),decide_eq_false (by omega)⟩
  simp only [go_sem,n4,o4,t4,i4,ob0,ob1,nn,p1,p2,p3,hid]
  rw [← hH0]
  refine Za c1 (fun h => absurd h (by decide)) ?_
  have l1:H0.length≤H1.length:=c3.1
  have q0:obj H1 H.length=⟨num d,0,true⟩:=by rw [c3.2 _ (by omega) (fun h => h),hH0,ob0]
  have q1:obj H1 (H.length+1)=⟨ptc (mulA d Wt),0,true⟩:=by rw [c3.2 _ (by omega) (fun h => h),hH0,ob1]
  have u0:H.length<H1.length:=by omega
  have u1:H.length+1<H1.length:=by omega
  simp only [go_sem,n4,o4,t4,i4,q0,q1,u0,u1]
  have nc:=Zha dn d (H0.length+2)
  simp only [Zq,fillv,go_sem,nc,n4,o4,t4]
  have dz:devZ.length=48:=rfl
  have ce:(newD dn d (H0.length+2)).cells.isEmpty=false:=rfl
  have co:(newD dn d (H0.length+2)).cells.all AV.one=true:=by
   simp only [Dv.cells,Dv.tail,newD,List.all_cons,List.all_append,o4,Yz]; rfl
  have j2:=c2.frame (Fr.app H1 [⟨(newD dn d (H0.length+2)).cells,0,true⟩] (fun _ => False)) (fun h => h) (fun _ _ h => h)
  have m1:obj (H1++[⟨(newD dn d (H0.length+2)).cells,0,true⟩]) (H.length+1)=⟨ptc (mulA d Wt),0,true⟩:=(Z1 _ _ u1).trans q1
  have u3:H.length+1<H1.length+1:=by omega
  rw [ce,co,dz]
  refine ⟨⟨by decide,by decide,by decide⟩,⟨rfl,rfl⟩,Za (J.t_records j2 (fun r hr => (by cases hr)) (by decide)) (fun _ => rfl) ?_⟩
  simp only [go_sem,n4,o4,t4,m1,u3,p4,nn,p1]
  have hq:ptc (mulA d Wt)=pcell (mulA d Wt).x (mulA d Wt).y (mulA d Wt).isFar:=rfl
  rw [hq]
  obtain ⟨y1,y2,y3,y4⟩:=B4 (Zlw R6 d)
  refine Za (Zv9 (l:=[]) (.view rfl _) (fun _ h => (by cases h)) (by decide) y2 y3) (fun _ => rfl) ?_
  simp only [go_sem,chF]
  refine ⟨fun h => absurd h (by decide),fun _ => ?_⟩
  refine Z4 _ (fun (_:Nat) => ([(11,.ptr H1.length 0),(58,.view [] 0 false),(59,I 0),(60,I 0)],H1++[⟨(newD dn d (H0.length+2)).cells,0,true⟩])) (fun k => k=0) (fun _ => 0) 0 rfl rfl ?_
  intro k hk
  simp only [go_sem]
  refine ⟨fun h => absurd h (by decide),fun _ => ?_⟩
  rw [hH2]
  exact Leave.refl _ _ _
 ·rw [hH2]
  have hfr:=hF0.frame c3 (fun h => h) (fun h => h)
  have j2:=c2.frame (Fr.app H1 [⟨(newD dn d (H0.length+2)).cells,0,true⟩] (fun _ => False)) (fun h => h) (fun _ _ h => h)
  have hf2:=hfr.frame (Fr.app H1 [⟨(newD dn d (H0.length+2)).cells,0,true⟩] (fun _ => False)) (fun h => h) (fun h => h)
  have xl:∀ q,rid x=some q→q<H1.length:=fun q hq => by
   rcases c2.gr with ⟨rfl,_⟩ | ⟨q',L,cs,rfl,h1,_⟩
   ·cases hq
   ·cases hq; exact h1
  have a1:=hF0.hf
  have a2:=hF0.hr
  have a3:=c2.hj
  have a4:=c3.1
  refine ⟨⟨by rw [List.length_append]; exact Nat.lt_succ_self _,by simp [obj],rfl⟩,hf2,j2,.inl ⟨rfl,rfl,rfl⟩,fun _ h => (by cases h),?_,?_,?_,?_,?_,?_,?_,?_,?_,?_,?_,?_,?_,hd,hB,hE,hT,by decide,by decide⟩
  ·show H1.length≠H0.length+2; omega
  ·omega
  ·omega
  ·show H0.length+2≠f; omega
  ·show H0.length+2≠r; omega
  ·intro h; have:=xl _ h; omega
  ·intro h; have:=c4 _ h; omega
  ·intro h; have:=c4 _ h; omega
  ·intro h; cases h
  ·intro h; cases h
  ·intro h; cases h
  ·intro h; cases h
  ·intro q _ h; cases h
 ·rw [hH2]
  have f0:Fr H H0 (fun _ => False):=hH0 ▸ Fr.app H _ _
  exact (f0.trans c3).trans (Fr.app _ _ _)
set_option maxRecDepth 10000
theorem WD.frame {H H':AH} {v f r:Nat} {s:Dv} {x:AV} {B:List UInt8} {T E:Nat} {rs:List (List UInt8)} {sp:Bool} {l:List Rec} (w:WD H v f r s x B T E rs sp l) (h:Fr H H' (fun _ => False)):WD H' v f r s x B T E rs sp l :=
 { w with
  dv:=⟨Nat.lt_of_lt_of_le w.dv.hv h.1,(h.2 v w.dv.hv (fun h => h)).trans w.dv.ov,w.dv.l32⟩
  fl:=w.fl.frame h (fun h => h) (fun h => h)
  jr:=w.jr.frame h (fun h => h) (fun _ _ h => h)
  al:=w.al.frame h (fun _ _ h => h) }
theorem Zf8 {H:AH} {v f rr:Nat} {s:Dv} {x:AV} {B:List UInt8} {T E:Nat} {rs:List (List UInt8)} {sp:Bool} {l:List Rec} (w:WD H v f rr s x B T E rs sp l) (hct:s.ct=false) {r:Rec} (hr:r.ok)
  (hE:E+10000≤1048576) (hT:T+1≤1048575) (hl:l.length+1≤1048575) (hrs:rs.length+1≤1048575) :
  ∃ y H',(y=nilE∨∃ c,y=eAV c)∧Called Tryz.prog F.device_Device_write [.ptr v 0,.agg r.cells] H y H'∧Fr H H' (fun i => i=v∨i=s.j∨i=rr∨rid x=some i∨rid s.all=some i):=by
 have hn:=Rr (n:=l.length) (s:=s) hr w.dv.l32
 have ee:∀ c:Int,c≠0→errO c=eAV c:=fun c h => by rw [errO,if_neg h]
 have errA':∀ c:Int,errA c=eAV c:=fun c => rfl
 cases hb:recB (newR s l.length r)
 ·exact ⟨_,H,.inr ⟨_,rfl⟩,De w hct hr (c:=1) (by rw [Bu,hb]; rfl),Fr.refl _ _⟩
 cases hm:Xa s.d
 ·exact ⟨_,H,.inr ⟨_,rfl⟩,De w hct hr (c:=1) (by rw [Bu,if_pos hb,issV,hm]; rfl),Fr.refl _ _⟩
 cases hs:Kc s.d (sha (recP (newR s l.length r))) with
 | none => exact ⟨_,H,.inr ⟨_,rfl⟩,De w hct hr (c:=4) (by rw [Bu,if_pos hb,issV,if_pos hm,hs]),Fr.refl _ _⟩
 | some q =>
  obtain ⟨a,c⟩:=q
  obtain ⟨m1,m2⟩:=Zbs hs
  by_cases hok:J.okApp B.length E sp (sgnd (recP (newR s l.length r)) a c)
  ·have hS:(sgnd (recP (newR s l.length r)) a c).length≤2000:=hok.2.2.1
   obtain ⟨H',x',all',h1,_,h2,_,_⟩:=Zdy w hct hr hb hm hs (Ht m1) (Ht m2) hok (by omega) hT hl hrs
   exact ⟨nilE,H',.inl rfl,h1,h2⟩
  ·obtain ⟨e,he⟩:=Zpn w hct hr hb hm hs hok
   exact ⟨_,H,.inr ⟨e,rfl⟩,he,Fr.refl _ _⟩
def Zbv (b:List UInt8) (xb:AV) (at_ n:Int):Rec:=⟨0,0,at_,1,0,0,(match Te b with | some (t,_,_) => t.serial | none => 0),n,z32,b,xb⟩
def opT (b:List UInt8):Tkt:=match Te b with | some (t,_,_) => t | none => noTk
def opR (b:List UInt8):Nat:=match Te b with | some (_,r,_) => r | none => 0
def opS (b:List UInt8):Nat:=match Te b with | some (_,_,r) => r | none => 0
def opE (b:List UInt8):AV:=match Te b with | some _ => nilE | none => errF
theorem Ze0 (b:List UInt8):Zgz (Te b)=.tup [.agg (opT b).cells,.agg (sgc (opR b) (opS b)),opE b]:=by
 unfold opT opR opS opE
 cases Te b with
 | none => rfl
 | some p => obtain ⟨t,r,s⟩:=p; rfl
theorem Dq (b:List UInt8) (xb:AV) (at_ n:Int):Zbv b xb at_ n=⟨0,0,at_,1,0,0,(opT b).serial,n,z32,b,xb⟩:=by
 unfold Zbv opT
 cases Te b with
 | none => rfl
 | some p => obtain ⟨t,r,s⟩:=p; rfl
def Z1i (H:AH) (b:List UInt8):AH:=H++[⟨(opT b).cells,0,true⟩,⟨sgc (opR b) (opS b),0,true⟩]
section
variable {H:AH} {v f rr:Nat} {s:Dv} {x xb:AV} {B b:List UInt8} {T E:Nat} {rs:List (List UInt8)} {sp:Bool} {l:List Rec} {K:List Key} {R:List Rvk} {P:List Prd}
theorem Zvp (w:WD H v f rr s x B T E rs sp l) (hb:∀ G,Sl 1 G xb (bs b) b.length) (bn:b.length≤100000) (at_:Int) (h:s.on=false∨500<b.length∨nowE l at_≠0) :
  ∃ c,Called Tryz.prog F.device_Device_Scan [.ptr v 0,xb,I at_] H (.tup [I 0,eAV c]) H:=by
 have hlen:=Qj w.dv.l32
 have hv:=w.dv.hv
 have ha:=Zvt w.dv w.al.sl w.lo (by have:=w.sl; omega) at_
 cases hon:s.on
 ·refine ⟨7,?_⟩
  refine Y6 ?_
  simp only [Yb,Vy]
  simp only [go_sem,w.dv.ov,hlen,hv,Zil,(hb _).s,hon]
  exact Zl rfl
 ·by_cases hl:500<b.length
  ·refine ⟨1,?_⟩
   refine Y6 ?_
   simp only [Yb,Vy]
   simp only [go_sem,w.dv.ov,hlen,hv,Zil,(hb H).s,hon]
   exact ⟨fun _ => Zl rfl,fun h => absurd (by omega) h⟩
  ·have hn:nowE l at_≠0:=by
    rcases h with h | h | h
    ·rw [hon] at h; cases h
    ·exact absurd h hl
    ·exact h
   refine ⟨nowE l at_,?_⟩
   rw [errO,if_neg hn] at ha
   refine Y6 ?_
   simp only [Yb,Vy]
   simp only [go_sem,w.dv.ov,hlen,hv,Zil,(hb H).s,hon]
   refine ⟨fun h => absurd h (by omega),fun _ => Za ha (fun _ => rfl) ?_⟩
   simp only [go_sem]
   exact Zl rfl
theorem Zjn (w:WD H v f rr s x B T E rs sp l) (hb:∀ G,Sl 1 G xb (bs b) b.length) (at_:Int) (hon:s.on=false) :
  Called Tryz.prog F.device_Device_Scan [.ptr v 0,xb,I at_] H (.tup [I 0,eAV 7]) H:=by
 have hlen:=Qj w.dv.l32
 have hv:=w.dv.hv
 refine Y6 ?_
 simp only [Yb,Vy]
 simp only [go_sem,w.dv.ov,hlen,hv,Zil,(hb _).s,hon]
 exact Zl rfl
theorem Zvo (w:WD H v f rr s x B T E rs sp l) (hk:Sl 12 H s.ks (kcs K) K.length) (ko:∀ p ∈ K,p.ok) (kn:K.length≤1000000) (hr:Sl 2 H s.rv (rcs R) R.length) (rn:R.length≤1000000) (hp:Sl 7 H s.ps (pcs P) P.length) (po:∀ p ∈ P,p.ok∧p.few) (pn:P.length≤1000000)
  (hb:∀ G,Sl 1 G xb (bs b) b.length) (bn:b.length≤100000) (at_:Int) (hon:s.on=true) (hlb:b.length≤500) (hnow:nowE l at_=0) (hc:(((Uk K&&revB R)&&prdsB P)&&plcB s.zone at_)=false) :
  Called Tryz.prog F.device_Device_Scan [.ptr v 0,xb,I at_] H (.tup [I 0,eAV 1]) H:=by
 have hlen:=Qj w.dv.l32
 have hv:=w.dv.hv
 have ha:=Zvt w.dv w.al.sl w.lo (by have:=w.sl; omega) at_
 rw [hnow] at ha
 have e0:errO 0=nilE:=rfl
 rw [e0] at ha
 have oo:∀ G,obj (H++G) v=⟨s.cells,0,true⟩:=fun G => (Z1 _ _ hv).trans w.dv.ov
 have nn:∀ G:AH,(H++G).length=H.length+G.length:=fun G => List.length_append
 have tv:=fun G => I1 (hk.app (G:=G)) ko kn hr.app rn hp.app po pn (hb _) bn s.zone at_
 rw [hc] at tv
 have hvl:v<H.length+2:=by omega
 have z8:(sgc (opR b) (opS b)).length=8:=by simp [sgc,num4]
 have y8:(sgc (opR b) (opS b)).all AV.one=true:=by rw [sgc,List.all_append,Zg,Zg]; rfl
 have w8:splice [.lit (.int .u64 0),.lit (.int .u64 0),.lit (.int .u64 0),.lit (.int .u64 0),.lit (.int .u64 0),.lit (.int .u64 0),.lit (.int .u64 0),.lit (.int .u64 0)] 0 (sgc (opR b) (opS b))=sgc (opR b) (opS b):=Zu (by rw [z8]; rfl)
 refine Y6 ?_
 simp only [Yb,Vy]
 simp only [go_sem,w.dv.ov,hlen,hv,Zil,(hb H).s,hon]
 refine ⟨fun h => absurd h (by omega),fun _ => Za ha (fun _ => rfl) ?_⟩
 simp only [go_sem,(hb H).s]
 refine Za (Zeb (hb _) bn) (fun _ => rfl) ?_
 rw [Ze0]
 simp only [go_sem,nn,oo,hlen,Z3c,Z3b,Z3a,Zaf,z8,y8,w8,hvl]
 refine Za (tv _) (fun _ => rfl) ?_
 simp only [go_sem]
 exact Zc rfl
theorem Zbu (b:List UInt8) (xb:AV) (at_ n:Int):(((((recZ.map AV.lit).set 2 (I at_)).set 3 (I 1)).set 6 (I (opT b).serial)).set 7 (I n)).set 40 xb=(Zbv b xb at_ n).cells:=by
 rw [Dq,Xv]; rfl
theorem Zba (w:WD H v f rr s x B T E rs sp l) (hk:Sl 12 H s.ks (kcs K) K.length) (ko:∀ p ∈ K,p.ok) (kn:K.length≤1000000) (hr:Sl 2 H s.rv (rcs R) R.length) (rn:R.length≤1000000) (hp:Sl 7 H s.ps (pcs P) P.length) (po:∀ p ∈ P,p.ok∧p.few) (pn:P.length≤1000000)
  (hb:∀ G,Sl 1 G xb (bs b) b.length) (bn:b.length≤100000) (at_:Int) (hon:s.on=true) (hlb:b.length≤500) (hnow:nowE l at_=0) (hc:(((Uk K&&revB R)&&prdsB P)&&plcB s.zone at_)=true) {y z:AV} {H':AH} {n:Int} (hn:n=verN (Xs K b at_) R P s.zone at_)
  (hw:Called Tryz.prog F.device_Device_write [.ptr v 0,.agg (Zbv b xb at_ n).cells] (Z1i H b) y H') (hy:(y=nilE∧z=I n)∨∃ c,y=eAV c∧z=I 0) :
  Called Tryz.prog F.device_Device_Scan [.ptr v 0,xb,I at_] H (.tup [z,y]) H':=by
 have hlen:=Qj w.dv.l32
 have hv:=w.dv.hv
 have ha:=Zvt w.dv w.al.sl w.lo (by have:=w.sl; omega) at_
 rw [hnow] at ha
 have e0:errO 0=nilE:=rfl
 rw [e0] at ha
 have oo:∀ G,obj (H++G) v=⟨s.cells,0,true⟩:=fun G => (Z1 _ _ hv).trans w.dv.ov
 have nn:∀ G:AH,(H++G).length=H.length+G.length:=fun G => List.length_append
 have tv:=fun G => I1 (hk.app (G:=G)) ko kn hr.app rn hp.app po pn (hb _) bn s.zone at_
 rw [hc] at tv
 have hvl:v<H.length+2:=by omega
 have z8:(sgc (opR b) (opS b)).length=8:=by simp [sgc,num4]
 have y8:(sgc (opR b) (opS b)).all AV.one=true:=by rw [sgc,List.all_append,Zg,Zg]; rfl
 have w8:splice [.lit (.int .u64 0),.lit (.int .u64 0),.lit (.int .u64 0),.lit (.int .u64 0),.lit (.int .u64 0),.lit (.int .u64 0),.lit (.int .u64 0),.lit (.int .u64 0)] 0 (sgc (opR b) (opS b))=sgc (opR b) (opS b):=Zu (by rw [z8]; rfl)
 refine Y6 ?_
 simp only [Yb,Vy]
 simp only [go_sem,w.dv.ov,hlen,hv,Zil,(hb H).s,hon]
 refine ⟨fun h => absurd h (by omega),fun _ => Za ha (fun _ => rfl) ?_⟩
 simp only [go_sem,(hb H).s]
 refine Za (Zeb (hb _) bn) (fun _ => rfl) ?_
 rw [Ze0]
 simp only [go_sem,nn,oo,hlen,Z3c,Z3b,Z3a,Zaf,z8,y8,w8,hvl]
 refine Za (tv _) (fun _ => rfl) ?_
 rw [← hn]
 have lz:recZ.length=41:=rfl
 have o1:=(hb H).s.2.2.2.2.2.2.1
 have o2:=(hb H).s.2.2.2.2.2.2.2
 have ob0:∀ o G,obj (H++o::G) H.length=o:=fun o G => by simp [obj]
 have sc:=Zbu b xb at_ n
 simp only [go_sem,if_true,nn,ob0,Zq,fillv,lz,o1,o2,List.length_set,List.length_map,sc]
 refine Za hw (fun h => absurd h (by decide)) ?_
 rcases hy with ⟨rfl,rfl⟩ | ⟨c,rfl,rfl⟩
 ·simp only [go_sem]
  exact Leave.refl _ _ _
 ·simp only [go_sem]
  exact Leave.refl _ _ _
end
end Go.Proofs.YtcgjlpdkobmpnaaGreat.Eng.D

