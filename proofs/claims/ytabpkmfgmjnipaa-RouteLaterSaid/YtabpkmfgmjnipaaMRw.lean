/- Layer 13: networks as rows; which services and connections are as asked. -/
import Derived.Test.YtabpkmfgmjnipaaMSe
import Derived.Test.YtabpkmfgmjnipaaMCa
import Derived.Test.YtabpkmfgmjnipaaMRo
import Derived.Test.YtabpkmfgmjnipaaMRt
import Derived.Test.YtabpkmfgmjnipaaMSr
import Derived.Shelf.SlSortCmp.NoneTotal
namespace Go.Proofs.Ytabpkmfgmjnipaa.Eng
open Go Go.Proofs
set_option linter.unusedVariables false
set_option linter.unusedSimpArgs false
set_option maxRecDepth 10000
def isv (e:AV) (l:List Int):Prop:=(∃ f,e=vI l f)∨(e=nilS∧l=[])
theorem isv_le {e:AV} {l:List Int} (h:isv e l):∃ f,Le e (vI l f):=by
 rcases h with ⟨f,rfl⟩ | ⟨rfl,rfl⟩
 ·exact ⟨f,.refl _⟩
 ·exact ⟨true,le_nil true⟩
theorem isv_len {e:AV} {l:List Int} (h:isv e l):lenOk false e=True∧srcN e=l.length∧e.one=true∧e.cells=[e]∧e.un=e∧(∀ g,okMay g e=True):=by
 rcases h with ⟨f,rfl⟩ | ⟨rfl,rfl⟩
 ·exact ⟨rfl,by simp [vI,srcN],rfl,rfl,rfl,fun _ => rfl⟩
 ·exact ⟨rfl,rfl,rfl,rfl,rfl,fun _ => rfl⟩
structure Sv where
 s:Srv
 e:AV
 x:AV
def Sv.ok (p:Sv):Prop:=ok64 p.s.week∧ok64 p.s.from_∧ok64 p.s.to∧isv p.e p.s.extra∧isv p.x p.s.except
def Sv.few (p:Sv):Prop:=p.s.extra.length≤300∧p.s.except.length≤300
instance (p:Sv):Decidable p.few:=inferInstanceAs (Decidable (_∧_))
def Sv.cells (p:Sv):List AV:=[I p.s.week,I p.s.from_,I p.s.to,p.e,p.x]
theorem Sv.len (p:Sv):p.cells.length=5:=rfl
theorem Sv.sok {p:Sv} (h:p.ok) (hf:p.few):p.s.ok:=⟨h.1,h.2.1,h.2.2.1,by have:=hf.1; omega,by have:=hf.2; omega⟩
theorem le_aggs {a b:List AV} (h:LeL a b):Le (.agg a) (.agg b):=fun S y ⟨vs,h1,h2⟩ => ⟨vs,h1,h.rl h2⟩
theorem Sv.le {p:Sv} (h:p.ok):∃ f g,Le (.agg p.cells) (p.s.av f g):=by
 obtain ⟨f,hf⟩:=isv_le h.2.2.2.1
 obtain ⟨g,hg⟩:=isv_le h.2.2.2.2
 exact ⟨f,g,le_aggs ⟨.refl _,.refl _,.refl _,hf,hg,trivial⟩⟩
theorem s_May {p:Sv} (H:AH) (h:p.ok) (hf:p.few):Called Try.prog F.service_May [.agg p.cells] H (Bl (mayB p.s)) H:=by
 obtain ⟨f,g,hl⟩:=Sv.le h
 exact (t_May p.s f g H (Sv.sok h hf)).weak ⟨hl,trivial⟩
theorem s_Runs {p:Sv} (d:Int) (H:AH) (h:p.ok) (hf:p.few):Called Try.prog F.service_Runs [.agg p.cells,I d] H (Bl (mayB p.s&&runsB p.s d)) H:=by
 obtain ⟨f,g,hl⟩:=Sv.le h
 exact (t_Runs p.s f g d H (Sv.sok h hf)).weak ⟨hl,.refl _,trivial⟩
def noSv:Sv:=⟨⟨0,0,0,[],[]⟩,nilS,nilS⟩
abbrev svcs (l:List Sv):List AV:=l.flatMap Sv.cells
def Cn.cells (c:Cn):List AV:=[I c.svc,I c.from_,I c.dep,I c.to,I c.arr]
theorem Cn.len (c:Cn):c.cells.length=5:=rfl
def Cn.ok (c:Cn):Prop:=ok64 c.svc∧ok64 c.from_∧ok64 c.dep∧ok64 c.to∧ok64 c.arr
def noCn:Cn:=⟨0,0,0,0,0⟩
abbrev cncs (l:List Cn):List AV:=l.flatMap Cn.cells
section
variable {H:AH} {x:AV} {l:List Sv}
theorem Sl.sv (h:Sl 5 H x (svcs l) l.length) {i:Nat} (hi:i<l.length):loadV true 5 H (idxaV 5 (.lit (.int .i64 i)) x)=.agg (l.getD i noSv).cells:=by
 rw [h.ldA _ hi (by decide),elt_flat _ 5 Sv.len _ _ noSv hi]
theorem Sl.sv1 (h:Sl 5 H x (svcs l) l.length) {i:Nat} (hi:i<l.length) (o:Nat) (ho:o<5):loadV false 1 H (fldV o (idxaV 5 (.lit (.int .i64 i)) x))=(l.getD i noSv).cells.getD o .junk:=by
 rw [h.fd _ hi (by omega) (by decide),if_neg (by decide),getD_flat _ 5 Sv.len _ _ _ noSv hi ho]
end
section
variable {H:AH} {x:AV} {l:List Cn}
theorem Sl.cn (h:Sl 5 H x (cncs l) l.length) {i:Nat} (hi:i<l.length):loadV true 5 H (idxaV 5 (.lit (.int .i64 i)) x)=.agg (l.getD i noCn).cells:=by
 rw [h.ldA _ hi (by decide),elt_flat _ 5 Cn.len _ _ noCn hi]
end
theorem fstA_ge {α:Type} (p:α→Bool) (l:List α):decide (0≤fstA p l)=l.any p:=by
 unfold fstA
 cases h:l.findIdx? p with
 | none =>
  rw [List.findIdx?_eq_none_iff] at h
  have:l.any p=false:=by rw [List.any_eq_false]; intro x hx; simp [h x hx]
  rw [this]; rfl
 | some i =>
  rw [List.findIdx?_eq_some_iff_getElem] at h
  obtain ⟨hi,h1,_⟩:=h
  have:l.any p=true:=by rw [List.any_eq_true]; exact ⟨_,List.getElem_mem hi,h1⟩
  rw [this]; simp
theorem t_idxS {H:AH} {x:AV} {l:List Sv} (hx:Sl 5 H x (svcs l) l.length) (hn:l.length≤1000000) (g:FuncId) (a b:List AV) (p:Sv→Bool) (hg:∀ r ∈ l,Called Try.prog g (a++[.agg r.cells]++b) H (Bl (p r)) H) :
  Called Try.prog F.slices_IndexFunc_api_Service_api_Service [x,.fn (.func g) a b] H (I (fstA p l)) H:=by
 refine e_slices_IndexFunc_api_Service_api_Service ?_
 simp only [ic_slices_IndexFunc_api_Service_api_Service,go_sem,hx.lenT,hx.n]
 refine w_loop _ (fun (i:Nat) => ([(0,x),(1,.fn (.func g) a b),(7,I l.length),(8,I i)],H)) (fun i => i≤l.length∧∀ j,j<i→p (l.getD j noSv)=false) (fun i => l.length - i) 0 ⟨Nat.zero_le _,fun j hj => by omega⟩ rfl ?_
 rintro i ⟨hi,hj⟩
 simp only [go_sem]
 refine ⟨fun h => ?_,fun h => ?_⟩
 ·have hlt:i<l.length:=by omega
  simp only [go_sem,hx.idx,hx.un,hx.ldOk .i64 hlt (Nat.le_refl 5),hx.sv hlt]
  refine ⟨⟨by omega,by omega⟩,callW_some (by simpa using hg _ (getD_memP noSv hlt)) (fun _ => rfl) ?_⟩
  simp only [go_sem]
  refine ⟨fun he => ?_,fun he => ?_⟩
  ·exact leave_same (by rw [fstA_some noSv hlt he hj])
  ·refine ⟨i+1,by rw [w64 _ (by omega) (by omega)]; rfl,⟨by omega,fun j hj' => ?_⟩,by omega⟩
   rcases Nat.lt_succ_iff_lt_or_eq.1 hj' with h1 | rfl
   ·exact hj j h1
   ·exact he
 ·exact leave_same (by rw [fstA_none noSv fun j hj' => hj j (by omega)])
theorem t_anyS {H:AH} {x:AV} {l:List Sv} (hx:Sl 5 H x (svcs l) l.length) (hn:l.length≤1000000) (g:FuncId) (a b:List AV) (p:Sv→Bool) (hg:∀ r ∈ l,Called Try.prog g (a++[.agg r.cells]++b) H (Bl (p r)) H) :
  Called Try.prog F.slices_ContainsFunc_api_Service_api_Service [x,.fn (.func g) a b] H (Bl (l.any p)) H:=by
 refine e_slices_ContainsFunc_api_Service_api_Service ?_
 simp only [ic_slices_ContainsFunc_api_Service_api_Service,go_sem]
 refine callW_some (t_idxS hx hn g a b p hg) (fun _ => rfl) ?_
 simp only [go_sem]
 refine leave_same ?_
 rw [fstA_ge]
theorem t_idxC {H:AH} {x:AV} {l:List Cn} (hx:Sl 5 H x (cncs l) l.length) (hn:l.length≤1000000) (g:FuncId) (a b:List AV) (p:Cn→Bool) (hg:∀ r ∈ l,Called Try.prog g (a++[.agg r.cells]++b) H (Bl (p r)) H) :
  Called Try.prog F.slices_IndexFunc_api_Conn_api_Conn [x,.fn (.func g) a b] H (I (fstA p l)) H:=by
 refine e_slices_IndexFunc_api_Conn_api_Conn ?_
 simp only [ic_slices_IndexFunc_api_Conn_api_Conn,go_sem,hx.lenT,hx.n]
 refine w_loop _ (fun (i:Nat) => ([(0,x),(1,.fn (.func g) a b),(7,I l.length),(8,I i)],H)) (fun i => i≤l.length∧∀ j,j<i→p (l.getD j noCn)=false) (fun i => l.length - i) 0 ⟨Nat.zero_le _,fun j hj => by omega⟩ rfl ?_
 rintro i ⟨hi,hj⟩
 simp only [go_sem]
 refine ⟨fun h => ?_,fun h => ?_⟩
 ·have hlt:i<l.length:=by omega
  simp only [go_sem,hx.idx,hx.un,hx.ldOk .i64 hlt (Nat.le_refl 5),hx.cn hlt]
  refine ⟨⟨by omega,by omega⟩,callW_some (by simpa using hg _ (getD_memP noCn hlt)) (fun _ => rfl) ?_⟩
  simp only [go_sem]
  refine ⟨fun he => ?_,fun he => ?_⟩
  ·exact leave_same (by rw [fstA_some noCn hlt he hj])
  ·refine ⟨i+1,by rw [w64 _ (by omega) (by omega)]; rfl,⟨by omega,fun j hj' => ?_⟩,by omega⟩
   rcases Nat.lt_succ_iff_lt_or_eq.1 hj' with h1 | rfl
   ·exact hj j h1
   ·exact he
 ·exact leave_same (by rw [fstA_none noCn fun j hj' => hj j (by omega)])
theorem t_anyC {H:AH} {x:AV} {l:List Cn} (hx:Sl 5 H x (cncs l) l.length) (hn:l.length≤1000000) (g:FuncId) (a b:List AV) (p:Cn→Bool) (hg:∀ r ∈ l,Called Try.prog g (a++[.agg r.cells]++b) H (Bl (p r)) H) :
  Called Try.prog F.slices_ContainsFunc_api_Conn_api_Conn [x,.fn (.func g) a b] H (Bl (l.any p)) H:=by
 refine e_slices_ContainsFunc_api_Conn_api_Conn ?_
 simp only [ic_slices_ContainsFunc_api_Conn_api_Conn,go_sem]
 refine callW_some (t_idxC hx hn g a b p hg) (fun _ => rfl) ?_
 simp only [go_sem]
 refine leave_same ?_
 rw [fstA_ge]
set_option maxRecDepth 10000
theorem t_sort {H:AH} {p:Nat} {l:List Rid} {ds:List AV} (hp:p<H.length) (ho:obj H p=⟨rcells l++ds,4,true⟩) (h0:0<l.length) (h62:l.length<4611686018427387904) {L:Nat} (hL:L=(rcells l++ds).length) :
  Called Try.prog F.slices_SortFunc_route_ride_route_ride [.row p 0 l.length L,.fn (.func F.route_rides_1) [] []] H (.tup []) (H.set p ⟨rcells (srtR l)++ds,4,true⟩):=by
 have eg:∀ args w,(callFunc 38 args).run Try.prog w=.ok (.enter 38 args) w:=enters_of Try.func38 (by kernel_rfl) rfl
 exact sort_called Ytabpkmfgmjnipaa.sortRide Try.isAgg67 Try.sizeOf67 38 eg (fun x y W => Ytabpkmfgmjnipaa.closure38 _ _ _ _ _ _ _ _ W) (by kernel_rfl) hp ho h0 h62 hL
def stopB (n:Int):Bool:=decide (0≤n)&&decide (n<32)
theorem t_stop (n:Int) (H:AH):Called Try.prog F.route_stop [I n] H (Bl (stopB n)) H:=by
 refine e_route_stop ?_
 simp only [ic_route_stop,go_sem]
 exact leave_same rfl
def netB (S:List Sv) (C:List Cn):Bool:=decide (S.length≤16)&&decide (C.length≤100)&&(S.all fun p => mayB p.s)&&(C.all fun c => cnB S.length c)
theorem t_odd {p:Sv} (H:AH) (h:p.ok) (hf:p.few):Called Try.prog F.route_May_1 [.agg p.cells] H (Bl (!mayB p.s)) H:=by
 have v1:=isv_len h.2.2.2.1
 have v2:=isv_len h.2.2.2.2
 refine e_route_May_1 ?_
 simp only [ic_route_May_1,go_sem,Sv.cells,v1,v2]
 refine callW_some (s_May _ h hf) (fun _ => rfl) ?_
 simp only [go_sem]
 exact leave_drop rfl
def net (sx cx:AV):List AV:=[sx,cx]
section
variable {H:AH} {sx cx:AV} {S:List Sv} {C:List Cn}
theorem t_strange (c:Cn) (q:Nat) (hq:q<H.length) (ho:obj H q=⟨net sx cx,0,true⟩) (hs:Sl 5 H sx (svcs S) S.length):Called Try.prog F.route_May_2 [.agg c.cells,.ptr q 0] H (Bl (!cnB S.length c)) H:=by
 have e:cnB S.length c=(((((((decide (0≤c.svc)&&decide (c.svc<S.length))&&stopB c.from_)&&stopB c.to)&&decide (0≤c.dep))&&decide (c.dep<1440))&&decide (c.dep<c.arr))&&decide (c.arr≤2879)):=rfl
 refine e_route_May_2 ?_
 simp only [ic_route_May_2,go_sem,Cn.cells,obj_old _ _ hq,ho,net,hs.s]
 refine ⟨fun _ => by omega,callG_of (fun _ => t_stop _ _) ?_⟩
 simp only [go_sem]
 refine callG_of (fun _ => t_stop _ _) ?_
 simp only [go_sem]
 refine leave_drop ?_
 have e2:(!cnB S.length c)=(((((((decide (c.svc<0) || decide ((S.length:Int)≤c.svc)) || !stopB c.from_) || !stopB c.to) || decide (c.dep<0)) || decide (1440≤c.dep)) || decide (c.arr≤c.dep)) || decide (2879<c.arr)):=by
  rw [Bool.eq_iff_iff]
  simp only [cnB,stopB,Bool.not_eq_true',Bool.and_eq_false_iff,Bool.or_eq_true,decide_eq_true_eq,decide_eq_false_iff_not]
  omega
 rw [e2]
 rfl
theorem t_rtMay (hs:Sl 5 H sx (svcs S) S.length) (hc:Sl 5 H cx (cncs C) C.length) (hS:∀ p ∈ S,p.ok∧p.few):Called Try.prog F.route_May [.agg (net sx cx)] H (Bl (netB S C)) H:=by
 have hsK:∀ K,Sl 5 (H++K) sx (svcs S) S.length:=fun K => hs.app
 have hcK:∀ K,Sl 5 (H++K) cx (cncs C) C.length:=fun K => hc.app
 have a1:=fun K (hn:S.length≤1000000) => t_anyS (hsK K) hn F.route_May_1 [] [] (fun p => !mayB p.s) (fun p hp => t_odd _ (hS p hp).1 (hS p hp).2)
 have a2:=fun (hm:C.length≤1000000) => t_anyC (hcK [⟨net sx cx,0,true⟩]) hm F.route_May_2 [] [.ptr H.length 0] (fun c => !cnB S.length c) (fun c _ => t_strange c H.length (by simp) (by rw [obj_app0]; rfl) (hsK _))
 refine e_route_May ?_
 simp only [ic_route_May,go_sem,net,hs.s,hc.s,hs.one,hc.one]
 refine callG_of (fun h => a1 _ (by simp at h; omega)) ?_
 simp only [go_sem]
 refine callG_of (fun h => a2 (by simp at h; omega)) ?_
 simp only [go_sem]
 refine leave_drop ?_
 have e1:(!S.any fun p => !mayB p.s)=S.all fun p => mayB p.s:=by rw [List.all_eq_not_any_not]
 have e2:(!C.any fun c => !cnB S.length c)=C.all fun c => cnB S.length c:=by rw [List.all_eq_not_any_not]
 have e3:decide ((S.length:Int)≤16)=decide (S.length≤16):=by rw [Bool.eq_iff_iff]; simp only [decide_eq_true_eq]; omega
 have e4:decide ((C.length:Int)≤100)=decide (C.length≤100):=by rw [Bool.eq_iff_iff]; simp only [decide_eq_true_eq]; omega
 rw [e1,e2,e3,e4]
 rfl
end
def rnS (S:List Sv) (svc day:Int):Bool:=runsB (S.getD svc.toNat noSv).s day
theorem netB_from {S:List Sv} {C:List Cn} (h:netB S C=true):S.length≤16∧C.length≤100∧(∀ p ∈ S,mayB p.s=true)∧∀ c ∈ C,cnB S.length c=true:=by
 simp only [netB,Bool.and_eq_true,decide_eq_true_eq,List.all_eq_true] at h
 exact ⟨h.1.1.1,h.1.1.2,h.1.2,h.2⟩
def outK (S:List Sv) (C:List Cn) (m till:Int) (k i:Nat):List Rid:=((List.range k).flatMap fun (j:Nat) => dayR (rnS S) m till C (m / 1440+j))++dayR (rnS S) m till (C.take i) (m / 1440+k)
section
variable {S:List Sv} {C:List Cn} {m till:Int}
theorem outK_next (k:Nat):outK S C m till k C.length=outK S C m till (k+1) 0:=by
 rw [outK,outK,List.take_length,List.range_succ,List.flatMap_append,List.take_zero]
 simp [dayR]
theorem outK_all:outK S C m till (daysN m till) 0=ridesL (rnS S) m till C:=by
 rw [outK,ridesL,List.take_zero]; simp [dayR]
theorem outK_succ {k i:Nat} (hi:i<C.length):outK S C m till k (i+1)=if keptB (rnS S) m till (m / 1440+k) (C.getD i noCn)=true then outK S C m till k i++[(C.getD i noCn).rid (m / 1440+k)] else outK S C m till k i:=by
 have e:C.getD i noCn=C[i]:=by rw [List.getD_eq_getElem?_getD,List.getElem?_eq_getElem hi]; rfl
 rw [outK,outK,List.take_succ_eq_append_getElem hi,e,dayR,dayR,List.filter_append,List.map_append]
 split
 ·rename_i h
  rw [List.filter_cons,if_pos h,List.append_assoc]; rfl
 ·rename_i h
  rw [List.filter_cons,if_neg h]; simp
theorem dayR_len (day:Int):(dayR (rnS S) m till C day).length≤C.length:=by
 rw [dayR,List.length_map]; exact List.length_filter_le ..
theorem outK_len {k i:Nat} (hC:C.length≤100):(outK S C m till k i).length≤k*100+100:=by
 rw [outK,List.length_append]
 have h1:(dayR (rnS S) m till (C.take i) (m / 1440+k)).length≤100:=Nat.le_trans (dayR_len _) (by rw [List.length_take]; omega)
 have h2:((List.range k).flatMap fun (j:Nat) => dayR (rnS S) m till C (m / 1440+j)).length≤k*100:=by
  induction k with
  | zero => simp
  | succ k ih =>
   rw [List.range_succ,List.flatMap_append,List.length_append]
   have:=dayR_len (S:=S) (C:=C) (m:=m) (till:=till) (m / 1440+(k:Nat))
   have ih:=ih (Nat.le_trans (dayR_len _) (by rw [List.length_take]; omega))
   simp only [List.flatMap_cons,List.flatMap_nil,List.append_nil]
   omega
 omega
end
theorem rcells_app (a b:List Rid):rcells (a++b)=rcells a++rcells b:=List.flatMap_append
theorem rcells_len (l:List Rid):(rcells l).length=l.length*4:=by rw [rcells_eq,List.length_map,encR_flat_len]
theorem rcells_pure (l:List Rid):pureL (rcells l)=true:=by rw [rcells_eq]; exact pureL_map_lit _ _
theorem rcells_one (r:Rid):rcells [r]=[I r.f,I r.d,I r.t,I r.a]:=rfl
theorem t_sort0 {H:AH} {x:AV} (hx:x=nilS∨∃ q L,x=.row q 0 0 L):Called Try.prog F.slices_SortFunc_route_ride_route_ride [x,.fn (.func F.route_rides_1) [] []] H (.tup []) H:=by
 refine ⟨by kernel_rfl,fun φ w vals hs hr => ?_⟩
 obtain ⟨vl⟩:=vals
 obtain ⟨u,t1,e1,hu,hr⟩:=hr
 obtain ⟨y,t2,e2,hy,hr⟩:=hr
 have e3:t2=[]:=hr
 subst e3; subst e2
 have e1:vl=[u,y]:=e1
 subst e1
 have e:∃ a cap,u=.slice a 0 cap:=by
  rcases hx with rfl | ⟨q,L,rfl⟩
  ·exact ⟨none,0,hu⟩
  ·obtain ⟨a,cap,h,_⟩:=hu
   exact ⟨a,cap,h⟩
 obtain ⟨a,cap,rfl⟩:=e
 exact (AnyF.slices_SortFunc_none Ytabpkmfgmjnipaa.sortRide a cap y w).mono fun e w' ⟨he,hw⟩ => ⟨_,he,by subst hw; exact post_same hs ⟨#[],rfl,rfl⟩⟩
section
variable {H:AH} {sx cx:AV} {S:List Sv} {C:List Cn}
def ridesV (S:List Sv) (C:List Cn) (m till:Int):AV:=.view (rcells (srtR (ridesL (rnS S) m till C))) (ridesL (rnS S) m till C).length false
theorem t_rides (hs:Sl 5 H sx (svcs S) S.length) (hc:Sl 5 H cx (cncs C) C.length) (hS:∀ p ∈ S,p.ok∧p.few) (hN:netB S C=true) {m till:Int} (h0:0≤m) (h1:m≤1073741824) (h2:m≤till) (h3:till≤m+4320) :
  Called Try.prog F.route_rides [.agg (net sx cx),I m,I till] H (ridesV S C m till) H:=by
 obtain ⟨n1,n2,n3,n4⟩:=netB_from hN
 have hsK:∀ K,Sl 5 (H++K) sx (svcs S) S.length:=fun K => hs.app
 have hcK:∀ K,Sl 5 (H++K) cx (cncs C) C.length:=fun K => hc.app
 have q1:IntKind.i64.wrap (m.tdiv 1440)=m / 1440+((0:Nat):Int):=by rw [Int.tdiv_eq_ediv_of_nonneg h0,w64 _ (by omega) (by omega)]; omega
 have q2:IntKind.i64.wrap (till.tdiv 1440)=till / 1440:=by rw [Int.tdiv_eq_ediv_of_nonneg (by omega),w64 _ (by omega) (by omega)]
 have dn:daysN m till≤5:=by unfold daysN; omega
 refine e_route_rides ?_
 simp only [ic_route_rides,go_sem,net,hs.s,hc.s,hs.one,hc.one,q1]
 obtain ⟨N,hNo⟩:∃ N:AObj,N=⟨[sx,cx],0,true⟩:=⟨_,rfl⟩
 rw [← hNo]
 have oN:N.cs=[sx,cx]∧N.sz=0∧N.rw=true:=by rw [hNo]; exact ⟨rfl,rfl,rfl⟩
 clear hNo
 refine ⟨by decide,?_⟩
 refine w_loop _ (fun (s:Nat × AV × AH) => ([(1,I m),(2,I till),(3,.ptr H.length 0),(7,s.2.1),(8,I (m / 1440+s.1))],H++(N::s.2.2)))
  (fun s => s.1≤daysN m till∧GRs 4 (H++(N::s.2.2)) s.2.1 (rcells (outK S C m till s.1 0)) (outK S C m till s.1 0).length∧∀ q,rid s.2.1=some q→H.length+1≤q) (fun s => daysN m till - s.1) (0,nilS,[]) ⟨Nat.zero_le _,.inl ⟨rfl,by simp [outK,dayR,rcells],by simp [outK,dayR]⟩,fun q h => by cases h⟩ rfl ?_
 rintro ⟨k,y,G⟩ ⟨hk,hg,hq⟩
 simp only at hk hg hq
 simp only [go_sem,q2]
 refine ⟨by decide,fun hh => ?_,fun hh => ?_⟩
 ·have hlt:k<daysN m till:=by unfold daysN; omega
  obtain ⟨day,hday⟩:∃ day:Int,day=m / 1440+k:=⟨_,rfl⟩
  rw [← hday]
  simp only [go_sem,oN,hc.s]
  refine ⟨by simp,?_⟩
  refine w_loop _ (fun (s:Nat × AV × AH) => ([(1,I m),(2,I till),(3,.ptr H.length 0),(7,s.2.1),(8,I day),(21,cx),(22,I C.length),(23,I s.1)],H++(N::s.2.2)))
   (fun s => s.1≤C.length∧GRs 4 (H++(N::s.2.2)) s.2.1 (rcells (outK S C m till k s.1)) (outK S C m till k s.1).length∧∀ q,rid s.2.1=some q→H.length+1≤q) (fun s => C.length - s.1) (0,y,G) ⟨Nat.zero_le _,hg,hq⟩ rfl ?_
  clear hg hq y G
  rintro ⟨i,y,G⟩ ⟨hi,hg,hq⟩
  simp only at hi hg hq
  simp only [go_sem]
  refine ⟨fun hh => ?_,fun hh => ?_⟩
  ·have hi':i<C.length:=by omega
   have ck:=cnB_iff.1 (n4 _ (getD_memP noCn hi'))
   have ld:∀ K,loadV true 5 (H++K) (idxaV 5 (.lit (.int .i64 i)) cx)=.agg (C.getD i noCn).cells:=fun K => (hcK K).cn hi'
   have lk:∀ K,loadOk 5 (H++K) (idxaV 5 (I (i:Int)) cx)=True:=fun K => (hcK K).ldOk .i64 hi' (Nat.le_refl _)
   have os:=outK_succ (S:=S) (C:=C) (m:=m) (till:=till) (k:=k) hi'
   have ol:=outK_len (S:=S) (C:=C) (m:=m) (till:=till) (k:=k) (i:=i) n2
   generalize C.getD i noCn=c at ck ld os
   obtain ⟨svc,from_,dep,to,arr⟩:=c
   simp only at ck
   obtain ⟨⟨c1,c2⟩,⟨c3,c4⟩,⟨c5,c6⟩,⟨c7,c8⟩,c9,c10⟩:=ck
   obtain ⟨v,rfl⟩:∃ v:Nat,svc=v:=⟨svc.toNat,by omega⟩
   obtain ⟨f,rfl⟩:∃ f:Nat,from_=f:=⟨from_.toNat,by omega⟩
   obtain ⟨w,rfl⟩:∃ w:Nat,to=w:=⟨to.toNat,by omega⟩
   have hv:v<S.length:=by omega
   have sok:=hS _ (getD_memP noSv hv)
   have sm:=n3 _ (getD_memP noSv hv)
   have ld2:∀ K,loadV true 5 (H++K) (idxaV 5 (.lit (.int .i64 v)) sx)=.agg (S.getD v noSv).cells:=fun K => (hsK K).sv hv
   have lk2:∀ K,loadOk 5 (H++K) (idxaV 5 (I (v:Int)) sx)=True:=fun K => (hsK K).ldOk .i64 hv (Nat.le_refl _)
   have run:=fun K => s_Runs day K sok.1 sok.2
   rw [sm,Bool.true_and] at run
   have ek:keptB (rnS S) m till (m / 1440+k) ⟨v,f,dep,w,arr⟩=((decide (m≤1440*day+dep)&&decide (1440*day+arr≤till))&&runsB (S.getD v noSv).s day):=by rw [← hday]; rfl
   have er:Cn.rid ⟨v,f,dep,w,arr⟩ (m / 1440+k)=⟨f,1440*day+dep,w,1440*day+arr⟩:=by rw [← hday]; rfl
   rw [ek,er] at os
   have w0:IntKind.i64.wrap (day*1440)=1440*day:=by rw [w64 _ (by omega) (by omega)]; omega
   have w1:IntKind.i64.wrap (1440*day+dep)=1440*day+dep:=w64 _ (by omega) (by omega)
   have w2:IntKind.i64.wrap (1440*day+arr)=1440*day+arr:=w64 _ (by omega) (by omega)
   have w3:IntKind.i64.wrap ((i:Int)+1)=((i+1:Nat):Int):=by rw [w64 _ (by omega) (by omega)]; omega
   generalize runsB (S.getD v noSv).s day=rb at run os
   simp only [go_sem,hc.idx,ld,lk,hc.un,Cn.cells,w0,w1,w2,oN]
   refine ⟨⟨by omega,by omega⟩,?_⟩
   simp only [go_sem,hs.idx,ld2,lk2,hs.un,oN]
   refine ⟨fun _ => by omega,fun _ => by omega,callG_of (fun _ => run _) ?_⟩
   have hg2:∀ o1 o2,GRs 4 (H++(N::(G++[o1,o2]))) y (rcells (outK S C m till k i)) (outK S C m till k i).length:=fun o1 o2 => by
    rw [show N::(G++[o1,o2])=((N::G)++[o1])++[o2] from by simp]
    exact (hg.more _).more _
   generalize ((decide (m≤1440*day+dep)&&decide (1440*day+arr≤till)):Bool)=kb at os ⊢
   simp only [go_sem]
   refine ⟨fun hb => ?_,fun hb => ?_⟩
   ·rw [if_pos hb] at os
    have hb32:((outK S C m till k i).length+1)*32≤140737488355328:=by have hk5:k<5:=(by omega); omega
    have st:=GRs.step (H:=H++[N]) (K:=G++[⟨[I v,I f,I dep,I w,I arr],0,true⟩,⟨[I f,I (1440*day+dep),I w,I (1440*day+arr)],0,true⟩]) (b:=32) (s:=.view [I f,I (1440*day+dep),I w,I (1440*day+arr)] 1 true) (ws:=[I f,I (1440*day+dep),I w,I (1440*day+arr)]) (by rw [List.append_assoc]; exact hg2 _ _) (fun q h => by have:=hq q h; simp; omega) (show (4:Nat)=1*4 from rfl) rfl rfl rfl rfl hb32
    simp only [List.append_assoc,List.singleton_append] at st
    obtain ⟨⟨a1,a2,a3,a4⟩,K',e1,g2,g3⟩:=st
    refine ⟨⟨a3,a4⟩,(i+1,appV 4 (H++N::(G++[⟨[I v,I f,I dep,I w,I arr],0,true⟩,⟨[I f,I (1440*day+dep),I w,I (1440*day+arr)],0,true⟩])) (.view [I f,I (1440*day+dep),I w,I (1440*day+arr)] 1 true) y,K'),?_,e1,⟨by show i+1≤_; omega,?_,fun q h => by have:=g3 q h; simpa using this⟩,by show _ - (i+1)<_; omega⟩
    ·rw [w3]
    ·show GRs 4 (H++N::K') (appV 4 _ _ y) (rcells (outK S C m till k (i+1))) (outK S C m till k (i+1)).length
     rw [os,rcells_app,List.length_append,rcells_one]; exact g2
   ·rw [if_neg (by rw [hb]; decide)] at os
    refine ⟨(i+1,y,_),?_,rfl,⟨by show i+1≤_; omega,?_,hq⟩,by show _ - (i+1)<_; omega⟩
    ·rw [w3]
    ·show GRs 4 _ y (rcells (outK S C m till k (i+1))) (outK S C m till k (i+1)).length
     rw [os]; exact hg2 _ _
  ·have hi':i=C.length:=by omega
   subst hi'
   rw [outK_next] at hg
   have w4:IntKind.i64.wrap (day+1)=m / 1440+((k+1:Nat):Int):=by rw [w64 _ (by omega) (by omega)]; omega
   exact ⟨(k+1,y,G),by rw [w4],rfl,⟨by show k+1≤_; omega,hg,hq⟩,by show _ - (k+1)<_; omega⟩
 ·have hk':k=daysN m till:=by unfold daysN at *; omega
  subst hk'
  rw [outK_all] at hg
  have ll:(ridesL (rnS S) m till C).length≤1000:=by rw [← outK_all]; have:=outK_len (S:=S) (C:=C) (m:=m) (till:=till) (k:=daysN m till) (i:=0) n2; omega
  rw [ridesV]
  generalize ridesL (rnS S) m till C=l at hg ll ⊢
  by_cases hl:l.length=0
  ·have hl:l=[]:=List.eq_nil_of_length_eq_zero hl
   subst hl
   have e0:srtR []=[]:=List.eq_nil_of_length_eq_zero (srtR_len [])
   rw [e0]
   have hv:=GRs.view (H:=H) (K:=N::G) (by decide) hg (fun q h => by have:=hq q h; omega) rfl
   refine callW_some (t_sort0 ?_) (fun h => by cases h) ?_
   ·rcases hg with ⟨rfl,_,_⟩ | ⟨q,L,cs,rfl,_⟩
    ·exact .inl rfl
    ·exact .inr ⟨q,L,rfl⟩
   ·simp only [go_sem]
    exact leave_drop_le hv
  ·rcases hg with ⟨_,_,h⟩ | ⟨q,L,cs,rfl,g1,g2,g3,g4,g5,g6⟩
   ·omega
   ·have gq:=hq q rfl
    have ec:cs=rcells l++cs.drop (l.length*4):=by rw [← g6,List.take_append_drop]
    generalize cs.drop (l.length*4)=ds at ec
    subst ec
    have ts:=t_sort (l:=l) (ds:=ds) g1 g2 (by omega) (by omega) g3
    have es:(H++N::G).set q ⟨rcells (srtR l)++ds,4,true⟩=H++((N::G).set (q - H.length) ⟨rcells (srtR l)++ds,4,true⟩):=by rw [List.set_append_right _ _ (by omega)]
    rw [es] at ts
    have sl:=srtR_len l
    have rl:=rcells_len (srtR l)
    have hv:=GRs.view (sz:=4) (n:=l.length) (x:=.row q 0 l.length L) (vs:=rcells (srtR l)) (H:=H) (K:=(N::G).set (q - H.length) ⟨rcells (srtR l)++ds,4,true⟩) (by decide) (.inr ⟨q,L,rcells (srtR l)++ds,rfl,by rw [List.length_append,List.length_set,← List.length_append]; exact g1,by
      rw [← es]
      exact obj_eq (by rw [List.getElem?_set,if_pos rfl,if_pos g1]),by rw [g3,List.length_append,List.length_append,rl,rcells_len,sl],by rw [rl,sl],by rw [g3,List.length_append,rcells_len]; omega,List.take_left' (by rw [rl,sl])⟩) (fun q' h => by cases h; omega) (rcells_pure _)
    refine callW_some ts (fun h => by cases h) ?_
    simp only [go_sem]
    exact leave_drop_le hv
end
set_option maxRecDepth 10000
def fairB (S:List Sv) (C:List Cn) (s m x till:Int):Bool:=(((((netB S C&&stopB s)&&stopB x)&&decide (0≤m))&&decide (m≤1073741824))&&decide (m≤till))&&decide (till≤m+4320)
theorem fairB_from {S:List Sv} {C:List Cn} {s m x till:Int} (h:fairB S C s m x till=true):netB S C=true∧(0≤s∧s<32)∧(0≤x∧x<32)∧0≤m∧m≤1073741824∧m≤till∧till≤m+4320:=by
 simp only [fairB,stopB,Bool.and_eq_true,decide_eq_true_eq] at h
 exact ⟨h.1.1.1.1.1.1,h.1.1.1.1.1.2,h.1.1.1.1.2,h.1.1.1.2,h.1.1.2,h.1.2,h.2⟩
def earlR (S:List Sv) (C:List Cn) (s m x till:Int):Option Int:=earlO (srtR (ridesL (rnS S) m till C)) s.toNat m x.toNat till
theorem earlR_is {S:List Sv} {C:List Cn} {s m x till:Int} (h:fairB S C s m x till=true):IsE (NU (rnS S) C) s.toNat m x.toNat till (earlR S C s m x till):=by
 obtain ⟨h1,h2,h3,h4,h5,h6,h7⟩:=fairB_from h
 exact earlO_is (netB_from h1).2.2.2 (by omega) (by omega) h4 h6 (srtR_spec _).1 (srtR_spec _).2
def earlV (S:List Sv) (C:List Cn) (s m x till:Int):AV:=if fairB S C s m x till=true then (match earlR S C s m x till with | none => .tup [I 0,Bl false,nilE] | some v => .tup [I v,Bl true,nilE]) else .tup [I 0,Bl false,.lit (.iface T.api_Code (.int .i64 1))]
def iniB (v:Int) (i:Nat):List Int:=List.replicate i v++List.replicate (32 - i) 0
theorem iniB_len (v:Int) {i:Nat} (h:i≤32):(iniB v i).length=32:=by rw [iniB,List.length_append,List.length_replicate,List.length_replicate]; omega
theorem iniB_set (v:Int) {i:Nat} (h:i<32):(iniB v i).set i v=iniB v (i+1):=by
 rw [iniB,iniB,List.set_append_right _ _ (by simp),List.length_replicate,Nat.sub_self,show 32 - i=(32 - (i+1))+1 by omega,List.replicate_succ,List.set_cons_zero,List.replicate_succ' (n:=i),List.append_assoc]; rfl
theorem Rid.len (r:Rid):r.cells.length=4:=rfl
def noRid:Rid:=⟨0,0,0,0⟩
theorem mapI_set (b:List Int) (i:Nat) (v:Int):(b.map I).set i (I v)=(b.set i v).map I:=by rw [List.map_set]
theorem mapI_get (b:List Int) (i:Nat) (h:i<b.length):(b.map I).getD i .junk=I (b.getD i 0):=by
 rw [List.getD_eq_getElem?_getD,List.getElem?_map,List.getElem?_eq_getElem h,List.getD_eq_getElem?_getD,List.getElem?_eq_getElem h]; rfl
section
variable {H:AH} {sx cx:AV} {S:List Sv} {C:List Cn}
theorem t_Earliest (hs:Sl 5 H sx (svcs S) S.length) (hc:Sl 5 H cx (cncs C) C.length) (hS:∀ p ∈ S,p.ok∧p.few) {s m x till:Int} :
  Called Try.prog F.route_Earliest [.agg (net sx cx),I s,I m,I x,I till] H (earlV S C s m x till) H:=by
 have hsK:∀ K,Sl 5 (H++K) sx (svcs S) S.length:=fun K => hs.app
 have hcK:∀ K,Sl 5 (H++K) cx (cncs C) C.length:=fun K => hc.app
 have rm:=fun K => t_rtMay (hsK K) (hcK K) hS
 refine e_route_Earliest ?_
 simp only [net] at rm ⊢
 simp only [ic_route_Earliest,go_sem,hs.one,hc.one]
 refine callW_some (rm _) (fun _ => rfl) ?_
 simp only [go_sem]
 refine callG_of (fun _ => t_stop _ _) ?_
 simp only [go_sem]
 refine callG_of (fun _ => t_stop _ _) ?_
 simp only [go_sem]
 refine ⟨fun h => ?_,fun h => ?_⟩
 ·have hf:fairB S C s m x till=false:=by
   rw [Bool.eq_false_iff]
   intro hf
   obtain ⟨h1,h2,h3,h4,h5,h6,h7⟩:=fairB_from hf
   rw [w64 (m+4320) (by omega) (by omega)] at h
   simp [h1,stopB] at h
   omega
  rw [earlV,hf]
  exact leave_drop rfl
 ·have hf:fairB S C s m x till=true:=by
   simp only [Bool.or_eq_true,not_or,Bool.not_eq_true',Bool.not_eq_false,decide_eq_true_eq,Bool.or_eq_false_iff,Bool.not_eq_true,decide_eq_false_iff_not] at h
   obtain ⟨⟨⟨⟨⟨⟨h1,h2⟩,h3⟩,h4⟩,h5⟩,h6⟩,h7⟩:=h
   rw [w64 (m+4320) (by omega) (by omega)] at h7
   simp only [fairB,Bool.and_eq_true,decide_eq_true_eq]
   simp at h1 h2 h3
   exact ⟨⟨⟨⟨⟨⟨h1,h2⟩,h3⟩,by omega⟩,by omega⟩,by omega⟩,by omega⟩
  obtain ⟨h1,h2,h3,h4,h5,h6,h7⟩:=fairB_from hf
  rw [earlV,if_pos hf]
  obtain ⟨N,hNo⟩:∃ N:AObj,N=⟨[sx,cx],0,true⟩:=⟨_,rfl⟩
  have oN:N.cs=[sx,cx]∧N.sz=0∧N.rw=true:=by rw [hNo]; exact ⟨rfl,rfl,rfl⟩
  rw [← hNo]
  clear hNo
  have wt:IntKind.i64.wrap (till+1)=till+1:=w64 _ (by omega) (by omega)
  refine w_loop _ (fun (i:Nat) => ([(1,I s),(2,I m),(3,I x),(4,I till),(5,.ptr H.length 0),(13,.ptr (H.length+1) 0),(50,I i)],H++[N,⟨(iniB (till+1) i).map I,0,true⟩])) (fun i => i≤32) (fun i => 32 - i) 0 (Nat.zero_le _) rfl ?_
  intro i hi
  simp only [go_sem]
  refine ⟨fun hh => ?_,fun hh => ?_⟩
  ·have hi':i<32:=by omega
   simp only [go_sem,wt,List.length_map,iniB_len _ hi]
   refine ⟨⟨by omega,by omega⟩,by omega,i+1,?_,?_,by omega,by omega⟩
   ·rw [w64 _ (by omega) (by omega)]; rfl
   ·rw [← iniB_set _ hi',← mapI_set]
  ·have hi':i=32:=by omega
   subst hi'
   obtain ⟨sn,rfl⟩:∃ sn:Nat,s=sn:=⟨s.toNat,by omega⟩
   obtain ⟨xn,rfl⟩:∃ xn:Nat,x=xn:=⟨x.toNat,by omega⟩
   have hsn:sn<32:=by omega
   have hxn:xn<32:=by omega
   have rr:=fun K => t_rides (H:=H++K) (hsK K) (hcK K) hS h1 h4 h5 h6 h7
   have hR:=srtR_spec (ridesL (rnS S) m till C)
   have hU:∀ r ∈ srtR (ridesL (rnS S) m till C),r.f<32∧r.t<32∧-9223372036854775808≤r.d∧True:=fun r hr => by
    have h:=(ridesL_iff (netB_from h1).2.2.2 h4 r).1 (hR.1.mem_iff.1 hr)
    have:=NU_ok (netB_from h1).2.2.2 r h.1
    exact ⟨this.1,this.2.1,by omega,trivial⟩
   rw [ridesV,← srtR_len] at rr
   have lL:(srtR (ridesL (rnS S) m till C)).length≤1000:=by
    rw [srtR_len,← outK_all]
    have:=outK_len (S:=S) (C:=C) (m:=m) (till:=till) (k:=daysN m till) (i:=0) (netB_from h1).2.1
    have:daysN m till≤5:=by unfold daysN; omega
    omega
   have er:earlR S C sn m xn till=earlO (srtR (ridesL (rnS S) m till C)) sn m xn till:=by rw [earlR]; simp only [Int.toNat_natCast]
   rw [er]
   clear er hR
   generalize srtR (ridesL (rnS S) m till C)=L at rr hU lL ⊢
   have eB:((iniB (till+1) 32).map I).set sn (I m)=(startB sn m till).map I:=by
    rw [mapI_set,iniB,startB]; simp
   simp only [net] at rr
   simp only [go_sem,List.length_map,iniB_len _ hi,Int.toNat_natCast,oN,List.take,eB]
   refine ⟨⟨by omega,by omega⟩,by omega,?_⟩
   refine callW_some (rr _) (fun h => by cases h) ?_
   have sv:∀ K,Sl 4 K (.view (rcells L) L.length false) (rcells L) L.length:=fun K => .view (rcells_len L) _
   simp only [go_sem]
   have sB:=startB_len sn m till
   refine w_loop _ (fun (z:Nat × AH) => ([(3,I xn),(4,I till),(13,.ptr (H.length+1) 0),(64,.view (rcells L) L.length false),(65,I L.length),(66,I z.1)],H++(N::⟨((L.take z.1).foldl stepB (startB sn m till)).map I,0,true⟩::z.2)))
    (fun z => z.1≤L.length) (fun z => L.length - z.1) (0,[]) (Nat.zero_le _) rfl ?_
   rintro ⟨i,G⟩ hi
   simp only at hi
   have bl:((L.take i).foldl stepB (startB sn m till)).length=32:=by rw [foldB_len,sB]
   rcases Nat.lt_or_ge i L.length with hi' | hi'
   ·have hr:=hU _ (getD_memP noRid hi')
    have ec:elt (rcells L) 4 i=[I (L.getD i noRid).f,I (L.getD i noRid).d,I (L.getD i noRid).t,I (L.getD i noRid).a]:=elt_flat Rid.cells 4 Rid.len L i noRid hi'
    have ft:(L.take (i+1)).foldl stepB (startB sn m till)=stepB ((L.take i).foldl stepB (startB sn m till)) (L.getD i noRid):=by
     rw [fold_take _ _ _ hi',List.getD_eq_getElem?_getD,List.getElem?_eq_getElem hi']; rfl
    have w3:IntKind.i64.wrap ((i:Int)+1)=((i+1:Nat):Int):=by rw [w64 _ (by omega) (by omega)]; omega
    generalize L.getD i noRid=r at hr ec ft
    generalize (L.take i).foldl stepB (startB sn m till)=b at bl ft
    have g1:=mapI_get b r.f (by omega)
    have g2:=mapI_get b r.t (by omega)
    have rl:=rcells_len L
    simp only [go_sem,ec,Int.toNat_natCast,g1,g2,List.length_map,bl,w3]
    refine ⟨fun _ => ⟨⟨by omega,by omega,by omega⟩,⟨by omega,by omega⟩,⟨by omega,by omega⟩,fun hc => ⟨⟨by omega,by omega⟩,⟨by omega,by omega⟩,⟨by omega,by omega⟩,⟨by omega,by omega⟩,(i+1,G++[⟨[I r.f,I r.d,I r.t,I r.a],0,true⟩]),rfl,?_,by show i+1≤_; omega,by show _ - (i+1)<_; omega⟩,fun hc => ⟨(i+1,G++[⟨[I r.f,I r.d,I r.t,I r.a],0,true⟩]),rfl,?_,by show i+1≤_; omega,by show _ - (i+1)<_; omega⟩⟩,fun h => absurd (by omega) h⟩
    ·show _=H++(N::⟨((L.take (i+1)).foldl stepB (startB sn m till)).map I,0,true⟩::_)
     rw [ft,stepB,if_pos hc]
     have e:min (b.getD r.t 0) r.a=if r.a<b.getD r.t 0 then r.a else b.getD r.t 0:=by split <;> omega
     rw [e,← mapI_set]
    ·show _=H++(N::⟨((L.take (i+1)).foldl stepB (startB sn m till)).map I,0,true⟩::_)
     rw [ft,stepB,if_neg hc]
   ·have hi':i=L.length:=by omega
    subst hi'
    rw [List.take_length] at bl ⊢
    rw [earlO,earlB]
    generalize L.foldl stepB (startB sn m till)=b at bl ⊢
    have g1:=mapI_get b xn (by omega)
    simp only [go_sem,Int.toNat_natCast,g1,List.length_map,bl]
    refine ⟨fun h => absurd h (by omega),fun _ => ⟨⟨by omega,by omega⟩,⟨by omega,by omega⟩,fun hc => ?_,fun hc => ⟨⟨by omega,by omega⟩,⟨by omega,by omega⟩,?_⟩⟩⟩
    ·rw [if_pos hc]; exact leave_drop rfl
    ·rw [if_neg hc]; exact leave_drop rfl
def fewN (S:List Sv) (C:List Cn):Bool:=(decide (S.length≤40)&&decide (C.length≤200))&&decide (∀ p ∈ S,p.few)
theorem t_nFew (hs:Sl 5 H sx (svcs S) S.length) (hc:Sl 5 H cx (cncs C) C.length) (hS:∀ p ∈ S,p.ok):Called Try.prog F.clapperref13_Few [.agg (net sx cx)] H (Bl (fewN S C)) H:=by
 have hsK:∀ K,Sl 5 (H++K) sx (svcs S) S.length:=fun K => hs.app
 refine e_clapperref13_Few ?_
 simp only [net]
 simp only [ic_clapperref13_Few,go_sem,hs.one,hc.one,hs.s,hc.s]
 refine ⟨fun h => ?_,fun h => ?_⟩
 ·have e:fewN S C=false:=by
   rw [fewN,Bool.and_eq_false_iff,Bool.and_eq_false_iff]
   simp only [Bool.or_eq_true,decide_eq_true_eq] at h
   left
   rcases h with h | h
   ·left; simp only [decide_eq_false_iff_not]; omega
   ·right; simp only [decide_eq_false_iff_not]; omega
  rw [e]; exact leave_drop rfl
 ·have hlen:S.length≤40∧C.length≤200:=by
   simp only [Bool.or_eq_true,decide_eq_true_eq,not_or,Bool.or_eq_false_iff,decide_eq_false_iff_not,Bool.not_eq_true] at h
   omega
  refine w_loop _ (fun (i:Nat) => ([(1,.ptr H.length 0),(3,I i)],H++[⟨[sx,cx],0,true⟩])) (fun i => i≤S.length∧∀ j,j<i→(S.getD j noSv).few) (fun i => S.length - i) 0 ⟨Nat.zero_le _,fun j hj => by omega⟩ rfl ?_
  rintro i ⟨hi,hj⟩
  rcases Nat.lt_or_ge i S.length with hi' | hi'
  ·have sok:=hS _ (getD_memP noSv hi')
   have v1:=isv_len sok.2.2.2.1
   have v2:=isv_len sok.2.2.2.2
   have l3:∀ K,loadV false 1 (H++K) (fldV 3 (idxaV 5 (.lit (.int .i64 i)) sx))=(S.getD i noSv).e:=fun K => (hsK K).sv1 hi' 3 (by decide)
   have l4:∀ K,loadV false 1 (H++K) (fldV 4 (idxaV 5 (.lit (.int .i64 i)) sx))=(S.getD i noSv).x:=fun K => (hsK K).sv1 hi' 4 (by decide)
   have k3:∀ K,loadOk 1 (H++K) (fldV 3 (idxaV 5 (.lit (.int .i64 i)) sx))=True:=fun K => ((hsK K).fdOk .i64 hi' (o:=3) (m:=1) (by omega)).2
   have k4:∀ K,loadOk 1 (H++K) (fldV 4 (idxaV 5 (.lit (.int .i64 i)) sx))=True:=fun K => ((hsK K).fdOk .i64 hi' (o:=4) (m:=1) (by omega)).2
   have k0:=(hs.fdOk .i64 hi' (o:=3) (m:=1) (by omega)).1
   simp only [go_sem,hs.s,hs.idx,l3,l4,k3,k4,k0,v1,v2]
   refine ⟨fun _ => ⟨⟨by omega,by omega⟩,fun _ => ⟨by omega,by omega⟩,fun hb => ?_,fun hb => ?_⟩,fun h => absurd (by omega) h⟩
   ·have e:fewN S C=false:=by
     rw [fewN,show decide (∀ p ∈ S,p.few)=false from ?_,Bool.and_false]
     rw [decide_eq_false_iff_not]
     intro hh
     have:=hh _ (getD_memP noSv hi')
     simp only [Bool.or_eq_true,decide_eq_true_eq] at hb
     simp only [Sv.few] at this
     omega
    rw [e]; exact leave_drop rfl
   ·refine ⟨i+1,by rw [w64 _ (by omega) (by omega)]; rfl,⟨by omega,fun j hj' => ?_⟩,by omega⟩
    rcases Nat.lt_succ_iff_lt_or_eq.1 hj' with h1 | rfl
    ·exact hj j h1
    ·simp only [Bool.or_eq_false_iff,decide_eq_false_iff_not] at hb
     simp only [Sv.few]
     omega
  ·have hi':i=S.length:=by omega
   subst hi'
   simp only [go_sem,hs.s]
   refine ⟨fun h => absurd h (by omega),fun _ => ?_⟩
   have:∀ p ∈ S,p.few:=fun p hp => by
    obtain ⟨j,hj',rfl⟩:=List.mem_iff_getElem.1 hp
    have:=hj j (by omega)
    rwa [List.getD_eq_getElem?_getD,List.getElem?_eq_getElem hj'] at this
   have e:fewN S C=true:=by
    rw [fewN,decide_eq_true this,decide_eq_true hlen.1,decide_eq_true hlen.2]; rfl
   rw [e]; exact leave_drop rfl
end
end Go.Proofs.Ytabpkmfgmjnipaa.Eng

