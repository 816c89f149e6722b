/- Layer 13, the document: which networks may be, what may be asked. -/
import Derived.Test.YtabpkmfgmjnipaaMRw
import Derived.Test.YtabpkmfgmjnipaaMRv
namespace Go.Proofs.Ytabpkmfgmjnipaa.Eng
open Go Go.Proofs
set_option linter.unusedVariables false
set_option linter.unusedSimpArgs false
set_option maxRecDepth 10000
theorem r_stop (n:Int) (H:AH):Called Try.prog F.clapperref13_stop [I n] H (Bl (stopB n)) H:=by
 refine e_clapperref13_stop ?_
 simp only [ic_clapperref13_stop,go_sem]
 exact leave_same rfl
theorem netB_eq {S:List Sv} {C:List Cn} (h1:S.length≤16) (h2:C.length≤100):netB S C=((S.all fun p => mayB p.s)&&(C.all fun c => cnB S.length c)):=by
 rw [netB,decide_eq_true h1,decide_eq_true h2]; rfl
theorem all_getD {α:Type} (p:α→Bool) (l:List α) (d:α) (h:∀ j,j<l.length→p (l.getD j d)=true):l.all p=true:=by
 rw [List.all_eq_true]
 intro x hx
 obtain ⟨j,hj,rfl⟩:=List.mem_iff_getElem.1 hx
 have:=h j hj
 rwa [List.getD_eq_getElem?_getD,List.getElem?_eq_getElem hj] at this
theorem all_not {α:Type} (p:α→Bool) (l:List α) (d:α) {j:Nat} (hj:j<l.length) (h:p (l.getD j d)=false):l.all p=false:=by
 rw [Bool.eq_false_iff]
 intro hh
 rw [List.all_eq_true] at hh
 rw [hh _ (getD_memP d hj)] at h
 cases h
section
variable {H:AH} {sx cx:AV} {S:List Sv} {C:List Cn}
theorem r_nMay (hs:Sl 5 H sx (svcs S) S.length) (hc:Sl 5 H cx (cncs C) C.length) (hS:∀ p ∈ S,p.ok∧p.few):Called Try.prog F.clapperref13_May [.agg (net sx cx)] H (Bl (netB S C)) H:=by
 have hsK:∀ K,Sl 5 (H++K) sx (svcs S) S.length:=fun K => hs.app
 have hcK:∀ K,Sl 5 (H++K) cx (cncs C) C.length:=fun K => hc.app
 refine e_clapperref13_May ?_
 simp only [net]
 simp only [ic_clapperref13_May,go_sem,hs.one,hc.one,hs.s,hc.s]
 refine ⟨fun h => ?_,fun h => ?_⟩
 ·have e:netB S C=false:=by
   rw [Bool.eq_false_iff]
   intro hn
   obtain ⟨a,b,_⟩:=netB_from hn
   simp only [Bool.or_eq_true,decide_eq_true_eq] at h
   omega
  rw [e]; exact leave_drop rfl
 ·have hl:S.length≤16∧C.length≤100:=by
   simp only [Bool.or_eq_true,decide_eq_true_eq,not_or,Bool.or_eq_false_iff,decide_eq_false_iff_not,Bool.not_eq_true] at h
   omega
  rw [netB_eq hl.1 hl.2]
  obtain ⟨N,hNo⟩:∃ N:AObj,N=⟨[sx,cx],0,true⟩:=⟨_,rfl⟩
  have oN:N.cs=[sx,cx]∧N.sz=0∧N.rw=true:=by rw [hNo]; exact ⟨rfl,rfl,rfl⟩
  rw [← hNo]
  clear hNo
  refine w_loop _ (fun (i:Nat) => ([(1,.ptr H.length 0),(3,I i)],H++[N])) (fun i => i≤S.length∧∀ j,j<i→mayB (S.getD j noSv).s=true) (fun i => S.length - i) 0 ⟨Nat.zero_le _,fun j hj => by omega⟩ rfl ?_
  rintro i ⟨hi,hj⟩
  rcases Nat.lt_or_ge i S.length with hi' | hi'
  ·have sok:=hS _ (getD_memP noSv hi')
   have v1:=isv_len sok.1.2.2.2.1
   have v2:=isv_len sok.1.2.2.2.2
   have ld:∀ K,loadV true 5 (H++K) (idxaV 5 (.lit (.int .i64 i)) sx)=.agg (S.getD i noSv).cells:=fun K => (hsK K).sv hi'
   have lk:∀ K,loadOk 5 (H++K) (idxaV 5 (I (i:Int)) sx)=True:=fun K => (hsK K).ldOk .i64 hi' (Nat.le_refl _)
   have rm:=fun K => s_rMay K sok.1 sok.2
   have nf:=fun hb:mayB (S.getD i noSv).s=false => all_not (fun (p:Sv) => mayB p.s) S noSv hi' hb
   simp only [go_sem,oN,hs.s,hs.idx,hs.un,ld,lk]
   refine ⟨fun _ => ⟨⟨by omega,by omega⟩,callW_some (rm _) (fun _ => rfl) ?_⟩,fun h => absurd (by omega) h⟩
   cases hb:mayB (S.getD i noSv).s
   ·rw [nf hb]
    simp only [go_sem]
    exact leave_drop rfl
   ·simp only [go_sem]
    refine ⟨i+1,by rw [w64 _ (by omega) (by omega)]; rfl,⟨by omega,fun j hj' => ?_⟩,by omega⟩
    rcases Nat.lt_succ_iff_lt_or_eq.1 hj' with h1 | rfl
    ·exact hj j h1
    ·exact hb
  ·have hi':i=S.length:=by omega
   subst hi'
   have a1:(S.all fun p => mayB p.s)=true:=all_getD (fun (p:Sv) => mayB p.s) S noSv hj
   rw [a1,Bool.true_and]
   simp only [go_sem,oN,hs.s]
   refine ⟨fun h => absurd h (by omega),fun _ => ?_⟩
   refine w_loop _ (fun (z:Nat × AH) => ([(1,.ptr H.length 0),(5,I z.1)],H++(N::z.2))) (fun z => z.1≤C.length∧∀ j,j<z.1→cnB S.length (C.getD j noCn)=true) (fun z => C.length - z.1) (0,[]) ⟨Nat.zero_le _,fun j hj => by omega⟩ rfl ?_
   clear hj
   rintro ⟨i,G⟩ ⟨hi,hj⟩
   simp only at hi hj
   rcases Nat.lt_or_ge i C.length with hi' | hi'
   ·have ld:∀ K,loadV true 5 (H++K) (idxaV 5 (.lit (.int .i64 i)) cx)=.agg (C.getD i noCn).cells:=fun K => (hcK K).cn hi'
    have lk:∀ K,loadOk 5 (H++K) (idxaV 5 (I (i:Int)) cx)=True:=fun K => (hcK K).ldOk .i64 hi' (Nat.le_refl _)
    have nf:=fun hb:cnB S.length (C.getD i noCn)=false => all_not (fun (c:Cn) => cnB S.length c) C noCn hi' hb
    generalize hcc:C.getD i noCn=c at ld nf
    simp only [go_sem,oN,hc.s,hc.idx,hc.un,ld,lk,Cn.cells]
    refine ⟨by omega,fun _ => ⟨by omega,⟨by omega,by omega⟩,callW_some (r_stop _ _) (fun _ => rfl) ?_⟩,fun h => absurd (by omega) h⟩
    simp only [go_sem]
    refine callW_some (r_stop _ _) (fun _ => rfl) ?_
    have ec:(!cnB S.length c)=(((((((decide (c.svc<0) || decide ((S.length:Int)≤c.svc)) || !stopB c.from_) || !stopB c.to) || decide (c.dep<0)) || decide (1439<c.dep)) || decide (c.arr≤c.dep)) || decide (2879<c.arr)):=by
     rw [Bool.eq_iff_iff]
     simp only [cnB,stopB,Bool.not_eq_true',Bool.and_eq_false_iff,Bool.or_eq_true,decide_eq_true_eq,decide_eq_false_iff_not]
     omega
    simp only [go_sem,oN,hs.s]
    simp only [← ec]
    refine ⟨fun _ => by omega,fun hb => ?_,fun hb => ?_⟩
    ·rw [nf (by simpa using hb)]
     exact leave_drop rfl
    ·refine ⟨(i+1,_),by rw [w64 _ (by omega) (by omega)]; rfl,rfl,⟨by show i+1≤_; omega,fun j hj' => ?_⟩,by show _ - (i+1)<_; omega⟩
     rcases Nat.lt_succ_iff_lt_or_eq.1 hj' with h1 | rfl
     ·exact hj j h1
     ·rw [hcc]; simpa using hb
   ·have hi':i=C.length:=by omega
    subst hi'
    have a1:(C.all fun c => cnB S.length c)=true:=all_getD (fun (c:Cn) => cnB S.length c) C noCn hj
    rw [a1]
    simp only [go_sem,oN,hc.s]
    refine ⟨by omega,fun h => absurd h (by omega),fun _ => leave_drop rfl⟩
theorem r_Fair (hs:Sl 5 H sx (svcs S) S.length) (hc:Sl 5 H cx (cncs C) C.length) (hS:∀ p ∈ S,p.ok∧p.few) {s m x till:Int} (ht:ok64 till):Called Try.prog F.clapperref13_Fair [.agg (net sx cx),I s,I m,I x,I till] H (Bl (fairB S C s m x till)) H:=by
 have hsK:∀ K,Sl 5 (H++K) sx (svcs S) S.length:=fun K => hs.app
 have hcK:∀ K,Sl 5 (H++K) cx (cncs C) C.length:=fun K => hc.app
 have rm:=fun K => r_nMay (hsK K) (hcK K) hS
 refine e_clapperref13_Fair ?_
 simp only [net] at rm ⊢
 simp only [ic_clapperref13_Fair,go_sem,hs.one,hc.one]
 refine callW_some (rm _) (fun _ => rfl) ?_
 simp only [go_sem]
 refine callW_some (r_stop _ _) (fun _ => rfl) ?_
 simp only [go_sem]
 refine callW_some (r_stop _ _) (fun _ => rfl) ?_
 simp only [go_sem]
 refine leave_drop ?_
 have e:fairB S C s m x till=((((((netB S C&&stopB s)&&stopB x)&&decide (0≤m))&&decide (m≤1073741824))&&decide (m≤till))&&decide (IntKind.i64.wrap (till - m)≤4320)):=by
  unfold ok64 at ht
  by_cases hm:0≤m∧m≤till
  ·rw [w64 (till - m) (by omega) (by omega),fairB,show decide (till≤m+4320)=decide (till - m≤4320) from by
    rw [Bool.eq_iff_iff]; simp only [decide_eq_true_eq]; omega]
  ·rw [Bool.eq_iff_iff]
   simp only [fairB,Bool.and_eq_true,decide_eq_true_eq]
   constructor
   ·rintro ⟨⟨⟨⟨_,a⟩,_⟩,b⟩,_⟩
    exact absurd ⟨a,b⟩ hm
   ·rintro ⟨⟨⟨⟨_,a⟩,_⟩,b⟩,_⟩
    exact absurd ⟨a,b⟩ hm
 rw [e]; rfl
end
set_option maxRecDepth 10000
def rearlV (o:Option Int):AV:=match o with | none => I (-1) | some v => I v
theorem relF_neg (till:Int):∀ (Q:List Rid) (z:List Int × Bool),(∀ r ∈ Q,0≤r.a)→(∀ j,j<32→z.1.getD j 0=-1∨0≤z.1.getD j 0)→∀ j,j<32→(Q.foldl (relS till) z).1.getD j 0=-1∨0≤(Q.foldl (relS till) z).1.getD j 0
 | [],z,_,h => h
 | r::Q,z,hQ,h => by
  refine relF_neg till Q _ (fun x hx => hQ x (by simp [hx])) fun j hj => ?_
  unfold relS
  split
  ·show (z.1.set r.t r.a).getD j 0=-1∨0≤(z.1.set r.t r.a).getD j 0
   rw [getD_set']
   split
   ·exact .inr (hQ r (by simp))
   ·exact h j hj
  ·exact h j hj
section
variable {H:AH} {sx cx:AV} {S:List Sv} {C:List Cn}
theorem r_Earliest (hs:Sl 5 H sx (svcs S) S.length) (hc:Sl 5 H cx (cncs C) C.length) (hS:∀ p ∈ S,p.ok∧p.few) {sn xn:Nat} {m till:Int} (hf:fairB S C sn m xn till=true) :
  Called Try.prog F.clapperref13_Earliest [.agg (net sx cx),I sn,I m,I xn,I till] H (rearlV (earlR S C sn m xn till)) H:=by
 obtain ⟨h1,h2,h3,h4,h5,h6,h7⟩:=fairB_from hf
 obtain ⟨n1,n2,n3,n4⟩:=netB_from h1
 have hsK:∀ K,Sl 5 (H++K) sx (svcs S) S.length:=fun K => hs.app
 have hcK:∀ K,Sl 5 (H++K) cx (cncs C) C.length:=fun K => hc.app
 have hsn:sn<32:=by omega
 have hxn:xn<32:=by omega
 refine e_clapperref13_Earliest ?_
 simp only [net]
 simp only [ic_clapperref13_Earliest,go_sem,hs.one,hc.one]
 obtain ⟨N,hNo⟩:∃ N:AObj,N=⟨[sx,cx],0,true⟩:=⟨_,rfl⟩
 have oN:N.cs=[sx,cx]∧N.sz=0∧N.rw=true:=by rw [hNo]; exact ⟨rfl,rfl,rfl⟩
 rw [← hNo]
 clear hNo
 refine ⟨by simp [mkslOk,isI,asI],?_⟩
 refine w_loop _ (fun (i:Nat) => ([(1,I sn),(2,I m),(3,I xn),(4,I till),(5,.ptr H.length 0),(11,.row (H.length+1) 0 32 32),(12,I i)],H++[N,⟨(iniB (-1) i).map I,1,true⟩])) (fun i => i≤32) (fun i => 32 - i) 0 (Nat.zero_le _) rfl ?_
 intro i hi
 simp only [go_sem]
 refine ⟨fun hh => ?_,fun hh => ?_⟩
 ·have hi':i<32:=by omega
  simp only [go_sem,List.length_map,iniB_len _ hi]
  refine ⟨⟨by omega,by omega⟩,by omega,i+1,?_,?_,by omega,by omega⟩
  ·rw [w64 _ (by omega) (by omega)]; rfl
  ·rw [← iniB_set _ hi',← mapI_set]
 ·have hi':i=32:=by omega
  subst hi'
  have eB:((iniB (-1) 32).map I).set sn (I m)=(startR sn m).map I:=by
   rw [mapI_set,iniB,startR]; simp
  simp only [go_sem,List.length_map,iniB_len _ hi,Int.toNat_natCast,eB]
  refine ⟨⟨by omega,by omega⟩,by omega,?_⟩
  have rs:=relInv_start (rn:=rnS S) (cs:=C) (till:=till) hsn h4 h6
  refine w_loop _ (fun (z:List Int × Bool × AH) => ([(2,I m),(3,I xn),(4,I till),(5,.ptr H.length 0),(11,.row (H.length+1) 0 32 32),(13,Bl z.2.1)],H++(N::⟨z.1.map I,1,true⟩::z.2.2)))
   (fun z => (RelInv (rnS S) C sn m till z.1∧∀ j,j<32→z.1.getD j 0=-1∨0≤z.1.getD j 0)∧(z.2.1=false→IsE (NU (rnS S) C) sn m xn till (if z.1.getD xn 0<0 then none else some (z.1.getD xn 0)))) (fun z => if z.2.1=true then relN till z.1+1 else 0) (startR sn m,true,[]) ⟨⟨rs,fun j hj => by rw [startR_get hsn hj]; split <;> omega⟩,fun h => by cases h⟩ rfl ?_
  clear rs eB hi
  rintro ⟨b,a,G⟩ ⟨⟨hi,hng⟩,ha⟩
  simp only at hi ha hng
  have bl:=hi.1.1
  cases a
  ·have ie:=IsE.uniq (ha rfl) (by have:=earlR_is hf; simpa only [Int.toNat_natCast] using this)
   have g1:=mapI_get b xn (by omega)
   simp only [go_sem,List.length_map,bl,Int.toNat_natCast,g1]
   refine ⟨⟨by omega,by omega⟩,⟨by omega,by omega⟩,?_⟩
   rw [← ie]
   have hx:=hng xn hxn
   split
   ·rw [show b.getD xn 0=-1 by omega]; exact leave_drop rfl
   ·exact leave_drop rfl
  ·have q1:IntKind.i64.wrap (m.tdiv 1440)=m / 1440+((0:Nat):Int):=by rw [Int.tdiv_eq_ediv_of_nonneg h4,w64 _ (by omega) (by omega)]; omega
   have q2:IntKind.i64.wrap (till.tdiv 1440)=till / 1440:=by rw [Int.tdiv_eq_ediv_of_nonneg (by omega),w64 _ (by omega) (by omega)]
   have dn:daysN m till≤5:=by unfold daysN; omega
   have zl:∀ k i,(((C.take i).foldl (relD (rnS S) till (m / 1440+(k:Nat))) (relK (rnS S) m till C (b,false) k)).1).length=32:=by
    have lf:∀ (l:List Cn) (day:Int) (z:List Int × Bool),z.1.length=32→(l.foldl (relD (rnS S) till day) z).1.length=32:=fun l => by
     induction l with
     | nil => intro day z h; exact h
     | cons c l ih => intro day z h; exact ih day _ (by unfold relD; split; rw [relS_len]; exact h; exact h)
    intro k i
    refine lf _ _ _ ?_
    induction k with
    | zero => exact bl
    | succ k ih => rw [relK_succ]; exact lf _ _ _ ih
   simp only [go_sem,q1]
   refine ⟨by decide,?_⟩
   refine w_loop _ (fun (z:Nat × AH) => ([(2,I m),(3,I xn),(4,I till),(5,.ptr H.length 0),(11,.row (H.length+1) 0 32 32),(13,Bl (relK (rnS S) m till C (b,false) z.1).2),(14,I (m / 1440+z.1))],H++(N::⟨(relK (rnS S) m till C (b,false) z.1).1.map I,1,true⟩::z.2)))
    (fun z => z.1≤daysN m till) (fun z => daysN m till - z.1) (0,G) (Nat.zero_le _) rfl ?_
   rintro ⟨k,G⟩ hk
   simp only at hk
   simp only [go_sem,q2]
   refine ⟨by decide,fun hh => ?_,fun hh => ?_⟩
   ·have hlt:k<daysN m till:=by unfold daysN; omega
    obtain ⟨day,hday⟩:∃ day:Int,day=m / 1440+(k:Nat):=⟨_,rfl⟩
    have d0:0≤day∧day≤800000:=by omega
    have zl:=zl k
    have ks:=relK_succ (rn:=rnS S) (m:=m) (till:=till) (cs:=C) (b,false) k
    rw [← hday] at zl ks ⊢
    generalize relK (rnS S) m till C (b,false) k=z0 at zl ks ⊢
    refine w_loop _ (fun (z:Nat × AH) => ([(2,I m),(3,I xn),(4,I till),(5,.ptr H.length 0),(11,.row (H.length+1) 0 32 32),(13,Bl ((C.take z.1).foldl (relD (rnS S) till day) z0).2),(14,I day),(15,I z.1)],H++(N::⟨((C.take z.1).foldl (relD (rnS S) till day) z0).1.map I,1,true⟩::z.2)))
     (fun z => z.1≤C.length) (fun z => C.length - z.1) (0,G) (Nat.zero_le _) rfl ?_
    clear hh
    rintro ⟨i,G⟩ hi'
    simp only at hi'
    rcases Nat.lt_or_ge i C.length with hc' | hc'
    ·have ck:=cnB_iff.1 (n4 _ (getD_memP noCn hc'))
     have ld:∀ K,loadV true 5 (H++K) (idxaV 5 (.lit (.int .i64 i)) cx)=.agg (C.getD i noCn).cells:=fun K => (hcK K).cn hc'
     have lk:∀ K,loadOk 5 (H++K) (idxaV 5 (I (i:Int)) cx)=True:=fun K => (hcK K).ldOk .i64 hc' (Nat.le_refl _)
     have ft:(C.take (i+1)).foldl (relD (rnS S) till day) z0=relD (rnS S) till day ((C.take i).foldl (relD (rnS S) till day) z0) (C.getD i noCn):=by
      rw [fold_take _ _ _ hc',List.getD_eq_getElem?_getD,List.getElem?_eq_getElem hc']; rfl
     have zl:=zl i
     generalize C.getD i noCn=c at ck ld ft
     generalize (C.take i).foldl (relD (rnS S) till day) z0=z at zl ft ⊢
     obtain ⟨b1,a1⟩:=z
     simp only at zl
     obtain ⟨svc,from_,dep,to,arr⟩:=c
     simp only at ck
     obtain ⟨⟨c1,c2⟩,⟨c3,c4⟩,⟨c5,c6⟩,⟨c7,c8⟩,c9,c10⟩:=ck
     obtain ⟨v,rfl⟩:∃ v:Nat,svc=v:=⟨svc.toNat,by omega⟩
     obtain ⟨f,rfl⟩:∃ f:Nat,from_=f:=⟨from_.toNat,by omega⟩
     obtain ⟨w,rfl⟩:∃ w:Nat,to=w:=⟨to.toNat,by omega⟩
     have hv:v<S.length:=by omega
     have sok:=hS _ (getD_memP noSv hv)
     have sm:=n3 _ (getD_memP noSv hv)
     have ld2:∀ K,loadV true 5 (H++K) (idxaV 5 (.lit (.int .i64 v)) sx)=.agg (S.getD v noSv).cells:=fun K => (hsK K).sv hv
     have lk2:∀ K,loadOk 5 (H++K) (idxaV 5 (I (v:Int)) sx)=True:=fun K => (hsK K).ldOk .i64 hv (Nat.le_refl _)
     have run:=fun K => s_rRuns day K sok.1 sok.2 sm
     have er:Cn.rid ⟨v,f,dep,w,arr⟩ day=⟨f,1440*day+dep,w,1440*day+arr⟩:=rfl
     have ek:rnS S (Cn.mk v f dep w arr).svc day=runsB (S.getD v noSv).s day:=rfl
     rw [relD,er,ek,relS] at ft
     have w0:IntKind.i64.wrap (1440*day)=1440*day:=w64 _ (by omega) (by omega)
     have w1:IntKind.i64.wrap (1440*day+dep)=1440*day+dep:=w64 _ (by omega) (by omega)
     have w2:IntKind.i64.wrap (1440*day+arr)=1440*day+arr:=w64 _ (by omega) (by omega)
     have w3:IntKind.i64.wrap ((i:Int)+1)=((i+1:Nat):Int):=by rw [w64 _ (by omega) (by omega)]; omega
     have g1:=mapI_get b1 f (by omega)
     have g2:=mapI_get b1 w (by omega)
     generalize runsB (S.getD v noSv).s day=rb at run ft
     simp only [go_sem,hc.s,hc.idx,ld,lk,hc.un,Cn.cells,oN]
     refine ⟨by omega,fun _ => ⟨by omega,⟨by omega,by omega⟩,?_⟩,fun h => absurd (by omega) h⟩
     simp only [go_sem,hs.s,hs.idx,ld2,lk2,hs.un,oN]
     refine ⟨by omega,⟨by omega,by omega⟩,callW_some (run _) (fun _ => rfl) ?_⟩
     simp only [go_sem,w0,w1,w2,w3,g1,g2,zl,List.length_map,Int.toNat_natCast,oN]
     have rc:relC till b1 ⟨f,1440*day+dep,w,1440*day+arr⟩=true↔0≤b1.getD f 0∧b1.getD f 0≤1440*day+dep∧1440*day+arr≤till∧(b1.getD w 0<0∨1440*day+arr<b1.getD w 0):=by
      simp only [relC,Bool.and_eq_true,Bool.or_eq_true,decide_eq_true_eq]; omega
     have stay:¬ (rb=true∧relC till b1 ⟨f,1440*day+dep,w,1440*day+arr⟩=true)→(C.take (i+1)).foldl (relD (rnS S) till day) z0=(b1,a1):=fun h => by
      rw [ft]
      by_cases h1:rb=true
      ·rw [if_pos h1,if_neg fun h2 => h ⟨h1,h2⟩]
      ·rw [if_neg h1]
     have go:rb=true→relC till b1 ⟨f,1440*day+dep,w,1440*day+arr⟩=true→(C.take (i+1)).foldl (relD (rnS S) till day) z0=(b1.set w (1440*day+arr),true):=fun h1 h2 => by
      rw [ft,if_pos h1,if_pos h2]
     rw [rc] at stay go
     refine ⟨fun _ => by omega,fun _ => by omega,fun _ => by omega,fun _ => by omega,fun hb => ?_,fun hb => ⟨by omega,by omega,fun _ => by omega,fun _ => by omega,fun hd => ⟨by omega,by omega,?_⟩,fun hd => ?_⟩⟩
     ·have h:=stay (by
       rintro ⟨r1,r2⟩
       simp only [r1,Bool.or_eq_true,decide_eq_true_eq,Bool.not_true,Bool.false_eq_true,false_or] at hb
       omega)
      exact ⟨(i+1,G++[⟨[I v,I f,I dep,I w,I arr],0,true⟩]),by dsimp only; rw [h],by dsimp only; rw [h],by show i+1≤_; omega,by show _ - (i+1)<_; omega⟩
     ·simp only [Bool.or_eq_false_iff,decide_eq_false_iff_not,Bool.not_eq_false'] at hb
      simp only [Bool.or_eq_true,decide_eq_true_eq] at hd
      have h:=go hb.1.1.1 ⟨by omega,by omega,by omega,by omega⟩
      exact ⟨(i+1,G++[⟨[I v,I f,I dep,I w,I arr],0,true⟩]),by dsimp only; rw [h],by dsimp only; rw [h,← mapI_set],by show i+1≤_; omega,by show _ - (i+1)<_; omega⟩
     ·have h:=stay (by
       rintro ⟨r1,r2⟩
       simp only [Bool.or_eq_false_iff,decide_eq_false_iff_not] at hd
       omega)
      exact ⟨(i+1,G++[⟨[I v,I f,I dep,I w,I arr],0,true⟩]),by dsimp only; rw [h],by dsimp only; rw [h],by show i+1≤_; omega,by show _ - (i+1)<_; omega⟩
    ·have e:i=C.length:=by omega
     subst e
     rw [List.take_length,← ks]
     have w4:IntKind.i64.wrap (day+1)=m / 1440+((k+1:Nat):Int):=by rw [w64 _ (by omega) (by omega)]; omega
     simp only [go_sem,oN,hc.s]
     refine ⟨by omega,fun h => absurd h (by omega),fun _ => ⟨(k+1,G),by rw [w4],rfl,by show k+1≤_; omega,by show _ - (k+1)<_; omega⟩⟩
   ·have hk':k=daysN m till:=by unfold daysN at *; omega
    subst hk'
    have hra:∀ r ∈ relL (rnS S) m till C,0≤r.a:=fun r hr => by
     obtain ⟨c,e1,day,e2,e3,rfl⟩:=relL_nu h4 r hr
     have:=cnB_iff.1 (n4 c e1)
     show 0≤1440*day+c.arr
     omega
    rw [relK_all]
    refine ⟨((relP till (relL (rnS S) m till C) b).1,(relP till (relL (rnS S) m till C) b).2,G),rfl,rfl,⟨⟨relInv_pass n4 hsn h4 hi,relF_neg till _ (b,false) hra hng⟩,fun ha => ?_⟩,?_⟩
    ·obtain ⟨e1,e2⟩:=relInv_done n4 hsn hxn h4 hi ha
     show IsE _ _ _ _ _ (if (relP till (relL (rnS S) m till C) b).1.getD xn 0<0 then none else some ((relP till (relL (rnS S) m till C) b).1.getD xn 0))
     rw [e1]; exact e2
    ·show (if (relP till (relL (rnS S) m till C) b).2=true then relN till (relP till (relL (rnS S) m till C) b).1+1 else 0)<relN till b+1
     split
     ·rename_i ha
      have:=relInv_less n4 h4 hi ha
      omega
     ·omega
end
section
variable {H:AH} {sx cx:AV} {S:List Sv} {C:List Cn}
theorem t_RouteEarliest (hs:∀ H,Sl 5 H sx (svcs S) S.length) (hc:∀ H,Sl 5 H cx (cncs C) C.length) (hS:∀ p ∈ S,p.ok) {s m x till:Int} (ht:ok64 till):Called Try.prog F.clapperlaw13_RouteEarliest [.agg (net sx cx),I s,I m,I x,I till] H (Bl true) H:=by
 have rf:=fun K => t_nFew (hs K) (hc K) hS
 refine e_clapperlaw13_RouteEarliest ?_
 simp only [net] at rf ⊢
 simp only [ic_clapperlaw13_RouteEarliest,go_sem,(hs []).one,(hc []).one]
 refine callW_some (t_up13 _) (fun _ => rfl) ?_
 simp only [go_sem]
 refine callW_some (rf _) (fun _ => rfl) ?_
 simp only [go_sem]
 cases hw:fewN S C
 ·simp only [go_sem]
  exact leave_drop rfl
 ·have hf:∀ p ∈ S,p.ok∧p.few:=fun p hp => ⟨hS p hp,by
   simp only [fewN,Bool.and_eq_true,decide_eq_true_eq] at hw
   exact hw.2 p hp⟩
  have re:=fun K {a b c d:Int} => t_Earliest (hs K) (hc K) hf (s:=a) (m:=b) (x:=c) (till:=d)
  have rm:=fun K => r_nMay (hs K) (hc K) hf
  have tm:=fun K => t_rtMay (hs K) (hc K) hf
  have ra:=fun K => r_Fair (hs K) (hc K) hf (s:=s) (m:=m) (x:=x) ht
  simp only [net] at re rm tm ra
  simp only [go_sem]
  refine callW_some (re _) (fun _ => rfl) ?_
  rw [earlV]
  have ea:(T.api_Code == T.api_Code&&(1:Int) == 1)=true:=by simp
  cases f1:fairB S C s m x till
  ·rw [if_neg (by decide)]
   simp only [go_sem]
   refine callW_some (rm _) (fun _ => rfl) ?_
   simp only [go_sem]
   refine callG_of (fun _ => ra _) ?_
   rw [f1]
   simp only [go_sem]
   refine callW_some (tm _) (fun _ => rfl) ?_
   simp only [go_sem,ea]
   refine ⟨fun h => ?_,fun _ => ⟨rfl,leave_drop rfl⟩⟩
   simp at h
  ·rw [if_pos rfl]
   obtain ⟨h1,h2,h3,h4,h5,h6,h7⟩:=fairB_from f1
   obtain ⟨sn,rfl⟩:∃ sn:Nat,s=sn:=⟨s.toNat,by omega⟩
   obtain ⟨xn,rfl⟩:∃ xn:Nat,x=xn:=⟨x.toNat,by omega⟩
   have rr:=fun K => r_Earliest (hs K) (hc K) hf f1
   simp only [net] at rr
   have ge:=fun v (e:earlR S C sn m xn till=some v) => earlR_ge f1 e
   cases g1:earlR S C sn m xn till with
   | none =>
    rw [g1] at rr
    simp only [go_sem]
    refine callW_some (rm _) (fun _ => rfl) ?_
    rw [h1]
    simp only [go_sem]
    refine callG_of (fun _ => ra _) ?_
    rw [f1]
    simp only [go_sem]
    refine callW_some (tm _) (fun _ => rfl) ?_
    rw [h1]
    simp only [go_sem]
    refine callW_some (rr _) (fun _ => rfl) ?_
    simp only [rearlV,go_sem,show decide ((-1:Int)<0)=true from rfl]
    exact leave_drop rfl
   | some v =>
    rw [g1] at rr
    simp only [go_sem]
    refine callW_some (rm _) (fun _ => rfl) ?_
    rw [h1]
    simp only [go_sem]
    refine callG_of (fun _ => ra _) ?_
    rw [f1]
    simp only [go_sem]
    refine callW_some (tm _) (fun _ => rfl) ?_
    rw [h1]
    simp only [go_sem]
    refine callW_some (rr _) (fun _ => rfl) ?_
    have v0:=(ge v g1).1
    have d0:decide (v<0)=false:=decide_eq_false (by omega)
    simp only [rearlV,go_sem,d0,beq_self_eq_true]
    exact leave_drop rfl
end
end Go.Proofs.Ytabpkmfgmjnipaa.Eng

