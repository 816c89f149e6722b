/- How soon one can be somewhere: plain. (No program in sight.) -/
import Derived.Test.YtcgjlpdkobmpnaaGreatMRv
import Derived.Test.YtcgjlpdkobmpnaaGreatMCd
import Derived.Test.YtcgjlpdkobmpnaaGreatMTl
namespace Go.Proofs.YtcgjlpdkobmpnaaGreat.Eng
set_option linter.unusedVariables false
set_option linter.unusedSimpArgs false
structure Rid where
 f:Nat
 d:Int
 t:Nat
 a:Int
inductive Can (U:Rid→Prop) (s:Nat) (m:Int):Nat→Int→Prop
 | here {u:Int}:m≤u→Can U s m s u
 | ride {r:Rid} {u:Int}:U r→Can U s m r.f r.d→r.a≤u→Can U s m r.t u
section
variable {U:Rid→Prop} {s:Nat} {m:Int}
theorem Can.mono {x:Nat} {u v:Int} (h:Can U s m x u) (huv:u≤v):Can U s m x v:=by
 cases h with
 | here h => exact .here (by omega)
 | ride a b c => exact .ride a b (by omega)
theorem Can.later {m':Int} (hm:m≤m') {x:Nat} {u:Int} (h:Can U s m' x u):Can U s m x u:=by
 induction h with
 | here h => exact .here (by omega)
 | ride a b c ih => exact .ride a ih c
theorem Can.more {V:Rid→Prop} (hV:∀ r,U r→V r) {x:Nat} {u:Int} (h:Can U s m x u):Can V s m x u:=by
 induction h with
 | here h => exact .here h
 | ride a b c ih => exact .ride (hV _ a) ih c
theorem Can.on {y x:Nat} {v u:Int} (h1:Can U s m y v) (h:Can U y v x u):Can U s m x u:=by
 induction h with
 | here h => exact h1.mono h
 | ride a b c ih => exact .ride a ih c
end
/-! ### One pass over the rides by their beginnings -/
def Oj (b:List Int) (r:Rid):List Int:=if b.getD r.f 0≤r.d then b.set r.t (min (b.getD r.t 0) r.a) else b
theorem Zjk (b:List Int) (r:Rid):(Oj b r).length=b.length:=by
 unfold Oj; split
 ·rw [List.length_set]
 ·rfl
theorem Ax:∀ (L:List Rid) (b:List Int),(L.foldl Oj b).length=b.length
 | [],b => rfl
 | r::L,b => by rw [List.foldl_cons,Ax L,Zjk]
def Su (s:Nat) (m till:Int):List Int:=(List.replicate 32 (till+1)).set s m
theorem Zf2 (s:Nat) (m till:Int):(Su s m till).length=32:=by rw [Su,List.length_set,List.length_replicate]
section
variable {U:Rid→Prop} {s:Nat} {m till:Int} {L:List Rid}
def Zxw (L:List Rid) (s:Nat) (m:Int) (x:Nat) (till:Int):Int:=(L.foldl Oj (Su s m till)).getD x 0
end
/-! ### Again and again,till nothing is sooner -/
section
variable {U:Rid→Prop} {s:Nat} {m till:Int}
end
structure Cn where
 svc:Int
 from_:Int
 dep:Int
 to:Int
 arr:Int
def cnB (n:Nat) (c:Cn):Bool:=decide (0≤c.svc)&&decide (c.svc<n)&&(decide (0≤c.from_)&&decide (c.from_<32))&&(decide (0≤c.to)&&decide (c.to<32))&&decide (0≤c.dep)&&decide (c.dep<1440)&&decide (c.dep<c.arr)&&decide (c.arr≤2879)
theorem cnB_iff {n:Nat} {c:Cn}:cnB n c=true↔(0≤c.svc∧c.svc<n)∧(0≤c.from_∧c.from_<32)∧(0≤c.to∧c.to<32)∧(0≤c.dep∧c.dep<1440)∧c.dep<c.arr∧c.arr≤2879:=by
 simp only [cnB,Bool.and_eq_true,decide_eq_true_eq]; omega
def Cn.rid (c:Cn) (day:Int):Rid:=⟨c.from_.toNat,1440*day+c.dep,c.to.toNat,1440*day+c.arr⟩
section
variable (rn:Int→Int→Bool)
def NU (cs:List Cn):Rid→Prop:=fun r => ∃ c ∈ cs,∃ day:Int,0≤day∧rn c.svc day=true∧r=c.rid day
def Zqw (m till:Int) (day:Int) (c:Cn):Bool:=decide (m≤1440*day+c.dep)&&decide (1440*day+c.arr≤till)&&rn c.svc day
def dayR (m till:Int) (cs:List Cn) (day:Int):List Rid:=(cs.filter (Zqw rn m till day)).map (·.rid day)
def Pt (m till:Int):Nat:=(till / 1440 - m / 1440+1).toNat
def Ts (m till:Int) (cs:List Cn):List Rid:=(List.range (Pt m till)).flatMap fun (k:Nat) => dayR rn m till cs (m / 1440+k)
end
section
variable {rn:Int→Int→Bool} {cs:List Cn} {n:Nat} {m till:Int}
theorem Z4z (hc:∀ c ∈ cs,cnB n c=true):∀ r,NU rn cs r→r.f<32∧r.t<32∧r.d<r.a:=by
 rintro r ⟨c,h1,day,h2,h3,rfl⟩
 have:=cnB_iff.1 (hc c h1)
 show c.from_.toNat<32∧c.to.toNat<32∧1440*day+c.dep<1440*day+c.arr
 omega
theorem Zqj {day:Int} (h0:0≤m):(∃ k,k<Pt m till∧day=m / 1440+(k:Nat))↔m / 1440≤day∧day≤till / 1440:=by
 unfold Pt
 constructor
 ·rintro ⟨k,hk,rfl⟩; omega
 ·rintro ⟨h1,h2⟩
  exact ⟨(day - m / 1440).toNat,by omega,by omega⟩
theorem Zgg (hc:∀ c ∈ cs,cnB n c=true) (h0:0≤m) (r:Rid):r ∈ Ts rn m till cs↔NU rn cs r∧m≤r.d∧r.a≤till:=by
 simp only [Ts,List.mem_flatMap,List.mem_range,dayR,List.mem_map,List.mem_filter,Zqw,Bool.and_eq_true,decide_eq_true_eq]
 constructor
 ·rintro ⟨k,hk,c,⟨h1,⟨h2,h3⟩,h4⟩,rfl⟩
  exact ⟨⟨c,h1,_,by omega,h4,rfl⟩,h2,h3⟩
 ·rintro ⟨⟨c,h1,day,h2,h3,rfl⟩,h4,h5⟩
  have ok:=cnB_iff.1 (hc c h1)
  have h4:m≤1440*day+c.dep:=h4
  have h5:1440*day+c.arr≤till:=h5
  obtain ⟨k,hk,e⟩:=(Zqj (till:=till) (day:=day) h0).2 ⟨by omega,by omega⟩
  subst e
  exact ⟨k,hk,c,⟨h1,⟨h4,h5⟩,h3⟩,rfl⟩
def Zxv (L:List Rid) (s:Nat) (m:Int) (x:Nat) (till:Int):Option Int:=if till<Zxw L s m x till then none else some (Zxw L s m x till)
end
/-! ### The document's passes -/
theorem Zme {α β:Type} (f:β→α→β) (z:β) (l:List α) {i:Nat} (hi:i<l.length):(l.take (i+1)).foldl f z=f ((l.take i).foldl f z) l[i]:=by
 rw [List.take_succ_eq_append_getElem hi,List.foldl_append]; rfl
section
variable {rn:Int→Int→Bool} {cs:List Cn} {n:Nat} {m till:Int}
end
end Go.Proofs.YtcgjlpdkobmpnaaGreat.Eng
namespace Go.Proofs.YtcgjlpdkobmpnaaGreat.Eng
open Go Go.Proofs
set_option linter.unusedVariables false
set_option linter.unusedSimpArgs false
set_option maxRecDepth 10000
def isvR (e:AV) (l:List Int):Prop:=(∃ f,e=vI l f)∨(e=nilS∧l=[])
theorem Zlu {e:AV} {l:List Int} (h:isvR e l):∃ f,Le e (vI l f):=by
 rcases h with ⟨f,rfl⟩ | ⟨rfl,rfl⟩
 ·exact ⟨f,.refl _⟩
 ·exact ⟨true,Nz true⟩
theorem J1 {e:AV} {l:List Int} (h:isvR e l):Ny false e=True∧srcN e=l.length∧e.one=true∧e.cells=[e]∧e.un=e∧(∀ g,Yj g e=True):=by
 rcases h with ⟨f,rfl⟩ | ⟨rfl,rfl⟩
 ·exact ⟨rfl,by simp [vI,srcN],rfl,rfl,rfl,fun _ => rfl⟩
 ·exact ⟨rfl,rfl,rfl,rfl,rfl,fun _ => rfl⟩
structure Sv where
 s:Srv
 e:AV
 x:AV
def Sv.ok (p:Sv):Prop:=ok64 p.s.week∧ok64 p.s.from_∧ok64 p.s.to∧isvR p.e p.s.extra∧isvR p.x p.s.except
def Sv.few (p:Sv):Prop:=p.s.extra.length≤300∧p.s.except.length≤300
instance instFewR (p:Sv):Decidable p.few:=inferInstanceAs (Decidable (_∧_))
def Sv.cells (p:Sv):List AV:=[I p.s.week,I p.s.from_,I p.s.to,p.e,p.x]
theorem Sv.len (p:Sv):p.cells.length=5:=rfl
theorem Sv.sok {p:Sv} (h:p.ok) (hf:p.few):p.s.ok:=⟨h.1,h.2.1,h.2.2.1,by have:=hf.1; omega,by have:=hf.2; omega⟩
theorem Zqt {a b:List AV} (h:LeL a b):Le (.agg a) (.agg b):=fun S y ⟨vs,h1,h2⟩ => ⟨vs,h1,h.rl h2⟩
theorem Sv.le {p:Sv} (h:p.ok):∃ f g,Le (.agg p.cells) (p.s.av f g):=by
 obtain ⟨f,hf⟩:=Zlu h.2.2.2.1
 obtain ⟨g,hg⟩:=Zlu h.2.2.2.2
 exact ⟨f,g,Zqt ⟨.refl _,.refl _,.refl _,hf,hg,trivial⟩⟩
theorem Z0y {p:Sv} (H:AH) (h:p.ok) (hf:p.few):Called Tryz.prog F.service_May [.agg p.cells] H (Bl (mayB p.s)) H:=by
 obtain ⟨f,g,hl⟩:=Sv.le h
 exact (Zvr p.s f g H (Sv.sok h hf)).weak ⟨hl,trivial⟩
theorem Zvt {p:Sv} (d:Int) (H:AH) (h:p.ok) (hf:p.few):Called Tryz.prog F.service_Runs [.agg p.cells,I d] H (Bl (mayB p.s&&G4 p.s d)) H:=by
 obtain ⟨f,g,hl⟩:=Sv.le h
 exact (Ztl p.s f g d H (Sv.sok h hf)).weak ⟨hl,.refl _,trivial⟩
def noSv:Sv:=⟨⟨0,0,0,[],[]⟩,nilS,nilS⟩
abbrev svcs (l:List Sv):List AV:=l.flatMap Sv.cells
def Cn.cells (c:Cn):List AV:=[I c.svc,I c.from_,I c.dep,I c.to,I c.arr]
theorem Cn.len (c:Cn):c.cells.length=5:=rfl
def Cn.ok (c:Cn):Prop:=ok64 c.svc∧ok64 c.from_∧ok64 c.dep∧ok64 c.to∧ok64 c.arr
def noCn:Cn:=⟨0,0,0,0,0⟩
abbrev cncs (l:List Cn):List AV:=l.flatMap Cn.cells
section
variable {H:AH} {x:AV} {l:List Sv}
theorem Sl.sv (h:Sl 5 H x (svcs l) l.length) {i:Nat} (hi:i<l.length):Yc true 5 H (Z5 5 (.lit (.int .i64 i)) x)=.agg (l.getD i noSv).cells:=by
 rw [h.ldA _ hi (by decide),Xg _ 5 Sv.len _ _ noSv hi]
theorem Sl.sv1 (h:Sl 5 H x (svcs l) l.length) {i:Nat} (hi:i<l.length) (o:Nat) (ho:o<5):Yc false 1 H (fldV o (Z5 5 (.lit (.int .i64 i)) x))=(l.getD i noSv).cells.getD o .junk:=by
 rw [h.fd _ hi (by omega) (by decide),if_neg (by decide),W7 _ 5 Sv.len _ _ _ noSv hi ho]
end
section
variable {H:AH} {x:AV} {l:List Cn}
theorem Sl.cn (h:Sl 5 H x (cncs l) l.length) {i:Nat} (hi:i<l.length):Yc true 5 H (Z5 5 (.lit (.int .i64 i)) x)=.agg (l.getD i noCn).cells:=by
 rw [h.ldA _ hi (by decide),Xg _ 5 Cn.len _ _ noCn hi]
theorem Sl.cn1 (h:Sl 5 H x (cncs l) l.length) {i:Nat} (hi:i<l.length) (o:Nat) (ho:o<5):Yc false 1 H (fldV o (Z5 5 (.lit (.int .i64 i)) x))=(l.getD i noCn).cells.getD o .junk:=by
 rw [h.fd _ hi (by omega) (by decide),if_neg (by decide),W7 _ 5 Cn.len _ _ _ noCn hi ho]
end
theorem Zmc {α:Type} (p:α→Bool) (l:List α):decide (0≤fstA p l)=l.any p:=by
 unfold fstA
 cases h:l.findIdx? p with
 | none =>
  rw [List.findIdx?_eq_none_iff] at h
  have:l.any p=false:=by rw [List.any_eq_false]; intro x hx; simp [h x hx]
  rw [this]; rfl
 | some i =>
  rw [List.findIdx?_eq_some_iff_getElem] at h
  obtain ⟨hi,h1,_⟩:=h
  have:l.any p=true:=by rw [List.any_eq_true]; exact ⟨_,List.getElem_mem hi,h1⟩
  rw [this]; simp
theorem Z0f {H:AH} {x:AV} {l:List Sv} (hx:Sl 5 H x (svcs l) l.length) (hn:l.length≤1000000) (g:FuncId) (a b:List AV) (p:Sv→Bool) (hg:∀ r ∈ l,Called Tryz.prog g (a++[.agg r.cells]++b) H (Bl (p r)) H) :
  Called Tryz.prog F.slices_IndexFunc_api_Service_api_Service [x,.fn (.func g) a b] H (I (fstA p l)) H:=by
 refine Wf ?_
 simp only [Y5,go_sem,hx.lenT,hx.n]
 refine Z1 _ (fun (i:Nat) => ([(0,x),(1,.fn (.func g) a b),(7,I l.length),(8,I i)],H)) (fun i => i≤l.length∧∀ j,j<i→p (l.getD j noSv)=false) (fun i => l.length - i) 0 ⟨Nat.zero_le _,fun j hj => by omega⟩ rfl ?_
 rintro i ⟨hi,hj⟩
 simp only [go_sem]
 refine ⟨fun h => ?_,fun h => ?_⟩
 ·have hlt:i<l.length:=by omega
  simp only [go_sem,hx.idx,hx.un,hx.ldOk .i64 hlt (Nat.le_refl 5),hx.sv hlt]
  refine ⟨⟨by omega,by omega⟩,Za (by simpa using hg _ (Zl noSv hlt)) (fun _ => rfl) ?_⟩
  simp only [go_sem]
  refine ⟨fun he => ?_,fun he => ?_⟩
  ·exact Zk (by rw [Q6 noSv hlt he hj])
  ·refine ⟨i+1,by rw [w64 _ (by omega) (by omega)]; rfl,⟨by omega,fun j hj' => ?_⟩,by omega⟩
   rcases Nat.lt_succ_iff_lt_or_eq.1 hj' with h1 | rfl
   ·exact hj j h1
   ·exact he
 ·exact Zk (by rw [Q7 noSv fun j hj' => hj j (by omega)])
theorem Z0t {H:AH} {x:AV} {l:List Sv} (hx:Sl 5 H x (svcs l) l.length) (hn:l.length≤1000000) (g:FuncId) (a b:List AV) (p:Sv→Bool) (hg:∀ r ∈ l,Called Tryz.prog g (a++[.agg r.cells]++b) H (Bl (p r)) H) :
  Called Tryz.prog F.slices_ContainsFunc_api_Service_api_Service [x,.fn (.func g) a b] H (Bl (l.any p)) H:=by
 refine X8 ?_
 simp only [Yw,go_sem]
 refine Za (Z0f hx hn g a b p hg) (fun _ => rfl) ?_
 simp only [go_sem]
 refine Zk ?_
 rw [Zmc]
theorem Z0i {H:AH} {x:AV} {l:List Cn} (hx:Sl 5 H x (cncs l) l.length) (hn:l.length≤1000000) (g:FuncId) (a b:List AV) (p:Cn→Bool) (hg:∀ r ∈ l,Called Tryz.prog g (a++[.agg r.cells]++b) H (Bl (p r)) H) :
  Called Tryz.prog F.slices_IndexFunc_api_Conn_api_Conn [x,.fn (.func g) a b] H (I (fstA p l)) H:=by
 refine W9 ?_
 simp only [Xi,go_sem,hx.lenT,hx.n]
 refine Z1 _ (fun (i:Nat) => ([(0,x),(1,.fn (.func g) a b),(7,I l.length),(8,I i)],H)) (fun i => i≤l.length∧∀ j,j<i→p (l.getD j noCn)=false) (fun i => l.length - i) 0 ⟨Nat.zero_le _,fun j hj => by omega⟩ rfl ?_
 rintro i ⟨hi,hj⟩
 simp only [go_sem]
 refine ⟨fun h => ?_,fun h => ?_⟩
 ·have hlt:i<l.length:=by omega
  simp only [go_sem,hx.idx,hx.un,hx.ldOk .i64 hlt (Nat.le_refl 5),hx.cn hlt]
  refine ⟨⟨by omega,by omega⟩,Za (by simpa using hg _ (Zl noCn hlt)) (fun _ => rfl) ?_⟩
  simp only [go_sem]
  refine ⟨fun he => ?_,fun he => ?_⟩
  ·exact Zk (by rw [Q6 noCn hlt he hj])
  ·refine ⟨i+1,by rw [w64 _ (by omega) (by omega)]; rfl,⟨by omega,fun j hj' => ?_⟩,by omega⟩
   rcases Nat.lt_succ_iff_lt_or_eq.1 hj' with h1 | rfl
   ·exact hj j h1
   ·exact he
 ·exact Zk (by rw [Q7 noCn fun j hj' => hj j (by omega)])
theorem Z0u {H:AH} {x:AV} {l:List Cn} (hx:Sl 5 H x (cncs l) l.length) (hn:l.length≤1000000) (g:FuncId) (a b:List AV) (p:Cn→Bool) (hg:∀ r ∈ l,Called Tryz.prog g (a++[.agg r.cells]++b) H (Bl (p r)) H) :
  Called Tryz.prog F.slices_ContainsFunc_api_Conn_api_Conn [x,.fn (.func g) a b] H (Bl (l.any p)) H:=by
 refine Wt ?_
 simp only [Xb,go_sem]
 refine Za (Z0i hx hn g a b p hg) (fun _ => rfl) ?_
 simp only [go_sem]
 refine Zk ?_
 rw [Zmc]
end Go.Proofs.YtcgjlpdkobmpnaaGreat.Eng
namespace Go.Proofs.YtcgjlpdkobmpnaaGreat.Eng
open Go Go.Proofs
set_option linter.unusedVariables false
set_option linter.unusedSimpArgs false
set_option maxRecDepth 10000
def G0 (n:Int):Bool:=decide (0≤n)&&decide (n<32)
theorem Zd2 (n:Int) (H:AH):Called Tryz.prog F.route_stop [I n] H (Bl (G0 n)) H:=by
 refine A5 ?_
 simp only [N7,go_sem]
 exact Zk rfl
def netB (S:List Sv) (C:List Cn):Bool:=decide (S.length≤16)&&decide (C.length≤100)&&(S.all fun p => mayB p.s)&&(C.all fun c => cnB S.length c)
theorem Zu8 {p:Sv} (H:AH) (h:p.ok) (hf:p.few):Called Tryz.prog F.route_May_1 [.agg p.cells] H (Bl (!mayB p.s)) H:=by
 have v1:=J1 h.2.2.2.1
 have v2:=J1 h.2.2.2.2
 refine Cj ?_
 simp only [P3,go_sem,Sv.cells,v1,v2]
 refine Za (Z0y _ h hf) (fun _ => rfl) ?_
 simp only [go_sem]
 exact Zc rfl
def net (sx cx:AV):List AV:=[sx,cx]
section
variable {H:AH} {sx cx:AV} {S:List Sv} {C:List Cn}
theorem Zi7 (c:Cn) (q:Nat) (hq:q<H.length) (ho:obj H q=⟨net sx cx,0,true⟩) (hs:Sl 5 H sx (svcs S) S.length):Called Tryz.prog F.route_May_2 [.agg c.cells,.ptr q 0] H (Bl (!cnB S.length c)) H:=by
 have e:cnB S.length c=(((((((decide (0≤c.svc)&&decide (c.svc<S.length))&&G0 c.from_)&&G0 c.to)&&decide (0≤c.dep))&&decide (c.dep<1440))&&decide (c.dep<c.arr))&&decide (c.arr≤2879)):=rfl
 refine Ci ?_
 simp only [P2,go_sem,Cn.cells,Yf _ _ hq,ho,net,hs.s]
 refine ⟨fun _ => by omega,Zq (fun _ => Zd2 _ _) ?_⟩
 simp only [go_sem]
 refine Zq (fun _ => Zd2 _ _) ?_
 simp only [go_sem]
 refine Zc ?_
 have e2:(!cnB S.length c)=(((((((decide (c.svc<0) || decide ((S.length:Int)≤c.svc)) || !G0 c.from_) || !G0 c.to) || decide (c.dep<0)) || decide (1440≤c.dep)) || decide (c.arr≤c.dep)) || decide (2879<c.arr)):=by
  rw [Bool.eq_iff_iff]
  simp only [cnB,G0,Bool.not_eq_true',Bool.and_eq_false_iff,Bool.or_eq_true,decide_eq_true_eq,decide_eq_false_iff_not]
  omega
 rw [e2]
 rfl
theorem Fm (hs:Sl 5 H sx (svcs S) S.length) (hc:Sl 5 H cx (cncs C) C.length) (hS:∀ p ∈ S,p.ok∧p.few):Called Tryz.prog F.route_May [.agg (net sx cx)] H (Bl (netB S C)) H:=by
 have hsK:∀ K,Sl 5 (H++K) sx (svcs S) S.length:=fun K => hs.app
 have hcK:∀ K,Sl 5 (H++K) cx (cncs C) C.length:=fun K => hc.app
 have a1:=fun K (hn:S.length≤1000000) => Z0t (hsK K) hn F.route_May_1 [] [] (fun p => !mayB p.s) (fun p hp => Zu8 _ (hS p hp).1 (hS p hp).2)
 have a2:=fun (hm:C.length≤1000000) => Z0u (hcK [⟨net sx cx,0,true⟩]) hm F.route_May_2 [] [.ptr H.length 0] (fun c => !cnB S.length c) (fun c _ => Zi7 c H.length (by simp) (by rw [Ym]; rfl) (hsK _))
 refine Zc0 ?_
 simp only [Kq,go_sem,net,hs.s,hc.s,hs.one,hc.one]
 refine Zq (fun h => a1 _ (by simp at h; omega)) ?_
 simp only [go_sem]
 refine Zq (fun h => a2 (by simp at h; omega)) ?_
 simp only [go_sem]
 refine Zc ?_
 have e1:(!S.any fun p => !mayB p.s)=S.all fun p => mayB p.s:=by rw [List.all_eq_not_any_not]
 have e2:(!C.any fun c => !cnB S.length c)=C.all fun c => cnB S.length c:=by rw [List.all_eq_not_any_not]
 have e3:decide ((S.length:Int)≤16)=decide (S.length≤16):=by rw [Bool.eq_iff_iff]; simp only [decide_eq_true_eq]; omega
 have e4:decide ((C.length:Int)≤100)=decide (C.length≤100):=by rw [Bool.eq_iff_iff]; simp only [decide_eq_true_eq]; omega
 rw [e1,e2,e3,e4]
 rfl
end
end Go.Proofs.YtcgjlpdkobmpnaaGreat.Eng
namespace Go.Proofs.YtcgjlpdkobmpnaaGreat.Eng
open Go Go.Proofs
set_option linter.unusedVariables false
set_option linter.unusedSimpArgs false
set_option maxRecDepth 10000
def fewN (S:List Sv) (C:List Cn):Bool:=(decide (S.length≤40)&&decide (C.length≤200))&&decide (∀ p ∈ S,p.few)
section
variable {H:AH} {sx cx:AV} {S:List Sv} {C:List Cn}
theorem Zz5 (hs:Sl 5 H sx (svcs S) S.length) (hc:Sl 5 H cx (cncs C) C.length) (hS:∀ p ∈ S,p.ok):Called Tryz.prog F.clapperref13_Few [.agg (net sx cx)] H (Bl (fewN S C)) H:=by
 have hsK:∀ K,Sl 5 (H++K) sx (svcs S) S.length:=fun K => hs.app
 refine Mw ?_
 simp only [net]
 simp only [Tj,go_sem,hs.one,hc.one,hs.s,hc.s]
 refine ⟨fun h => ?_,fun h => ?_⟩
 ·have e:fewN S C=false:=by
   rw [fewN,Bool.and_eq_false_iff,Bool.and_eq_false_iff]
   simp only [Bool.or_eq_true,decide_eq_true_eq] at h
   left
   rcases h with h | h
   ·left; simp only [decide_eq_false_iff_not]; omega
   ·right; simp only [decide_eq_false_iff_not]; omega
  rw [e]; exact Zc rfl
 ·have hlen:S.length≤40∧C.length≤200:=by
   simp only [Bool.or_eq_true,decide_eq_true_eq,not_or,Bool.or_eq_false_iff,decide_eq_false_iff_not,Bool.not_eq_true] at h
   omega
  refine Z1 _ (fun (i:Nat) => ([(1,.ptr H.length 0),(3,I i)],H++[⟨[sx,cx],0,true⟩])) (fun i => i≤S.length∧∀ j,j<i→(S.getD j noSv).few) (fun i => S.length - i) 0 ⟨Nat.zero_le _,fun j hj => by omega⟩ rfl ?_
  rintro i ⟨hi,hj⟩
  rcases Nat.lt_or_ge i S.length with hi' | hi'
  ·have sok:=hS _ (Zl noSv hi')
   have v1:=J1 sok.2.2.2.1
   have v2:=J1 sok.2.2.2.2
   have l3:∀ K,Yc false 1 (H++K) (fldV 3 (Z5 5 (.lit (.int .i64 i)) sx))=(S.getD i noSv).e:=fun K => (hsK K).sv1 hi' 3 (by decide)
   have l4:∀ K,Yc false 1 (H++K) (fldV 4 (Z5 5 (.lit (.int .i64 i)) sx))=(S.getD i noSv).x:=fun K => (hsK K).sv1 hi' 4 (by decide)
   have k3:∀ K,Z6 1 (H++K) (fldV 3 (Z5 5 (.lit (.int .i64 i)) sx))=True:=fun K => ((hsK K).fdOk .i64 hi' (o:=3) (m:=1) (by omega)).2
   have k4:∀ K,Z6 1 (H++K) (fldV 4 (Z5 5 (.lit (.int .i64 i)) sx))=True:=fun K => ((hsK K).fdOk .i64 hi' (o:=4) (m:=1) (by omega)).2
   have k0:=(hs.fdOk .i64 hi' (o:=3) (m:=1) (by omega)).1
   simp only [go_sem,hs.s,hs.idx,l3,l4,k3,k4,k0,v1,v2]
   refine ⟨fun _ => ⟨⟨by omega,by omega⟩,fun _ => ⟨by omega,by omega⟩,fun hb => ?_,fun hb => ?_⟩,fun h => absurd (by omega) h⟩
   ·have e:fewN S C=false:=by
     rw [fewN,show decide (∀ p ∈ S,p.few)=false from ?_,Bool.and_false]
     rw [decide_eq_false_iff_not]
     intro hh
     have:=hh _ (Zl noSv hi')
     simp only [Bool.or_eq_true,decide_eq_true_eq] at hb
     simp only [Sv.few] at this
     omega
    rw [e]; exact Zc rfl
   ·refine ⟨i+1,by rw [w64 _ (by omega) (by omega)]; rfl,⟨by omega,fun j hj' => ?_⟩,by omega⟩
    rcases Nat.lt_succ_iff_lt_or_eq.1 hj' with h1 | rfl
    ·exact hj j h1
    ·simp only [Bool.or_eq_false_iff,decide_eq_false_iff_not] at hb
     simp only [Sv.few]
     omega
  ·have hi':i=S.length:=by omega
   subst hi'
   simp only [go_sem,hs.s]
   refine ⟨fun h => absurd h (by omega),fun _ => ?_⟩
   have:∀ p ∈ S,p.few:=fun p hp => by
    obtain ⟨j,hj',rfl⟩:=List.mem_iff_getElem.1 hp
    have:=hj j (by omega)
    rwa [List.getD_eq_getElem?_getD,List.getElem?_eq_getElem hj'] at this
   have e:fewN S C=true:=by
    rw [fewN,decide_eq_true this,decide_eq_true hlen.1,decide_eq_true hlen.2]; rfl
   rw [e]; exact Zc rfl
end
end Go.Proofs.YtcgjlpdkobmpnaaGreat.Eng

