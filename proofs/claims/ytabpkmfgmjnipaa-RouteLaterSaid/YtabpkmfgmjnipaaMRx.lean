/- Layer 13: the law RouteLater: who leaves later; with a ride more. -/
import Derived.Test.YtabpkmfgmjnipaaMRv
namespace Go.Proofs.Ytabpkmfgmjnipaa.Eng
open Go Go.Proofs
set_option linter.unusedVariables false
set_option linter.unusedSimpArgs false
set_option maxRecDepth 10000
section
variable {S:List Sv} {C:List Cn}
theorem earlR_later {s m m' x till u:Int} (hm:m≤m') (h1:fairB S C s m x till=true) (h2:fairB S C s m' x till=true) (h3:earlR S C s m' x till=some u):∃ v,earlR S C s m x till=some v∧v≤u:=by
 have i1:=earlR_is h1
 have i2:=earlR_is h2
 rw [h3] at i2
 have c:=i2.2.1.later hm
 cases he:earlR S C s m x till with
 | none =>
  rw [he] at i1
  exact absurd c (i1 u i2.1)
 | some v =>
  rw [he] at i1
  exact ⟨v,rfl,i1.2.2 u c⟩
theorem earlR_ride {s m x till u:Int} {c:Cn} (h1:fairB S C s m x till=true) (h2:fairB S (C++[c]) s m x till=true) (h3:earlR S C s m x till=some u):∃ v,earlR S (C++[c]) s m x till=some v∧v≤u:=by
 have i1:=earlR_is h2
 have i2:=earlR_is h1
 rw [h3] at i2
 have cc:Can (NU (rnS S) (C++[c])) s.toNat m x.toNat u:=i2.2.1.more fun r h => by
  obtain ⟨c',e1,e2⟩:=h
  exact ⟨c',List.mem_append_left _ e1,e2⟩
 cases he:earlR S (C++[c]) s m x till with
 | none =>
  rw [he] at i1
  exact absurd cc (i1 u i2.1)
 | some v =>
  rw [he] at i1
  exact ⟨v,rfl,i1.2.2 u cc⟩
variable {H:AH} {sx cx:AV}
set_option maxHeartbeats 2000000 in
theorem t_RouteLater (hs:∀ H,Sl 5 H sx (svcs S) S.length) (hc:∀ H,Sl 5 H cx (cncs C) C.length) (hS:∀ p ∈ S,p.ok) {s m wait x till:Int} {c:Cn}:Called Try.prog F.clapperlaw13_RouteLater [.agg (net sx cx),I s,I m,I wait,I x,I till,.agg c.cells] H (Bl true) H:=by
 have rf:=fun K => t_nFew (hs K) (hc K) hS
 refine e_clapperlaw13_RouteLater ?_
 simp only [net] at rf ⊢
 simp only [ic_clapperlaw13_RouteLater,go_sem,(hs []).one,(hc []).one,Cn.cells]
 refine callW_some (t_up13 _) (fun _ => rfl) ?_
 simp only [go_sem]
 refine callW_some (rf _) (fun _ => rfl) ?_
 simp only [go_sem]
 refine ⟨fun hw => leave_drop rfl,fun hw => ?_⟩
 have hm:fewN S C=true∧0≤wait∧wait≤4320:=by
  simp only [Bool.or_eq_false_iff,Bool.not_eq_false',decide_eq_false_iff_not,Bool.or_eq_true,Bool.not_eq_true',not_or,decide_eq_true_eq,Bool.not_eq_true,Bool.not_eq_false] at hw
  exact ⟨hw.1.1,by omega,by omega⟩
 obtain ⟨hw,m0,m1⟩:=hm
 have hf:∀ p ∈ S,p.ok∧p.few:=fun p hp => ⟨hS p hp,by
  simp only [fewN,Bool.and_eq_true,decide_eq_true_eq] at hw
  exact hw.2 p hp⟩
 have re:=fun K {a b c d:Int} => t_Earliest (hs K) (hc K) hf (s:=a) (m:=b) (x:=c) (till:=d)
 simp only [net] at re
 refine callW_some (re _) (fun _ => rfl) ?_
 rw [earlV]
 cases f1:fairB S C s m x till
 ·rw [if_neg (by decide)]
  simp only [go_sem]
  refine callW_some (re _) (fun _ => rfl) ?_
  rw [earlV]
  cases f2:fairB S C s (IntKind.i64.wrap (m+wait)) x till
  ·rw [if_neg (by decide)]
   simp only [go_sem]
   exact leave_drop rfl
  ·rw [if_pos rfl]
   cases earlR S C s (IntKind.i64.wrap (m+wait)) x till <;>
   ·simp only [go_sem]
    exact leave_drop rfl
 ·rw [if_pos rfl]
  obtain ⟨a1,a2,a3,a4,a5,a6,a7⟩:=fairB_from f1
  have wm:IntKind.i64.wrap (m+wait)=m+wait:=w64 _ (by omega) (by omega)
  have nc:srcN cx=C.length:=(hc []).n
  have nl:(cncs C).length=C.length*5:=(hc []).length
  have sc:sx.cells=[sx]:=(hs []).cells
  have so:sx.one=true:=(hs []).one
  have cb:C.length≤1000:=by
   simp only [fewN,Bool.and_eq_true,decide_eq_true_eq] at hw
   omega
  have cO:(cncs C).all AV.one=true:=by
   rw [List.all_eq_true]
   intro y hy
   obtain ⟨c',_,h⟩:=List.mem_flatMap.1 hy
   exact List.all_eq_true.1 (show c'.cells.all AV.one=true from rfl) y h
  have e5:∀ n:Nat,n+2+1=n+3:=fun n => rfl
  have rm:∀ (K:AH) (cv:AV),Sl 5 K cv (cncs (C++[c])) (C++[c]).length→∀ {a b c' d:Int},Called Try.prog F.route_Earliest [.agg (net sx cv),I a,I b,I c',I d] K (earlV S (C++[c]) a b c' d) K:=fun K cv h {a b c' d} => t_Earliest (hs K) h hf (s:=a) (m:=b) (x:=c') (till:=d)
  simp only [net] at rm
  have hR:∀ o1 o2 o4:AObj,Sl 5 (H++[o1,o2,⟨cncs C++[I c.svc,I c.from_,I c.dep,I c.to,I c.arr],5,true⟩,o4]) (.row (H.length+2) 0 (C.length+1) (C.length*5+2+3)) (cncs (C++[c])) (C++[c]).length:=fun o1 o2 o4 => by
   have e:cncs (C++[c])=cncs C++[I c.svc,I c.from_,I c.dep,I c.to,I c.arr]:=by simp [cncs,Cn.cells]
   have e2:obj (H++[o1,o2,⟨cncs C++[I c.svc,I c.from_,I c.dep,I c.to,I c.arr],5,true⟩,o4]) (H.length+2)=⟨cncs C++[I c.svc,I c.from_,I c.dep,I c.to,I c.arr],5,true⟩:=by rw [obj_appk]; rfl
   rw [e,List.length_append,List.length_singleton]
   refine .row (by simp) (by rw [e2]; simp [nl]) (by omega) (by rw [e2,List.drop_zero,List.take_of_length_le (by simp [nl]; omega)]) (.inl (by rw [e2]))
  cases g1:earlR S C s m x till with
  | none =>
   have hno:∀ u,fairB S C s (m+wait) x till=true→earlR S C s (m+wait) x till≠some u:=fun u h2 h3 => by
    obtain ⟨v,e,_⟩:=earlR_later (by omega) f1 h2 h3
    rw [g1] at e; cases e
   simp only [go_sem,Option.isSome,wm]
   refine callW_some (re _) (fun _ => rfl) ?_
   rw [earlV]
   cases f2:fairB S C s (m+wait) x till
   ·rw [if_neg (by decide)]
    simp only [go_sem,(hs _).s,(hc _).s,nc,sc,so,cO,e5,nl,appC_end,appL_end]
    refine ⟨by omega,by omega,by omega,by omega,by omega,by omega,by omega,?_⟩
    refine callW_some (rm _ _ (hR _ _ _)) (fun _ => rfl) ?_
    rw [earlV]
    cases f3:fairB S (C++[c]) s m x till
    ·rw [if_neg (by decide)]
     simp only [go_sem]
     exact leave_drop rfl
    ·rw [if_pos rfl]
     cases earlR S (C++[c]) s m x till <;>
     ·simp only [go_sem]
      exact leave_drop rfl
   ·rw [if_pos rfl]
    cases g2:earlR S C s (m+wait) x till with
    | none =>
     simp only [go_sem,(hs _).s,(hc _).s,nc,sc,so,cO,e5,nl,appC_end,appL_end]
     refine ⟨by omega,by omega,by omega,by omega,by omega,by omega,by omega,?_⟩
     refine callW_some (rm _ _ (hR _ _ _)) (fun _ => rfl) ?_
     rw [earlV]
     cases f3:fairB S (C++[c]) s m x till
     ·rw [if_neg (by decide)]
      simp only [go_sem]
      exact leave_drop rfl
     ·rw [if_pos rfl]
      cases earlR S (C++[c]) s m x till <;>
      ·simp only [go_sem]
       exact leave_drop rfl
    | some u => exact absurd g2 (hno u f2)
  | some t =>
   simp only [go_sem,Option.isSome,wm]
   refine callW_some (re _) (fun _ => rfl) ?_
   rw [earlV]
   cases f2:fairB S C s (m+wait) x till
   ·rw [if_neg (by decide)]
    simp only [go_sem,(hs _).s,(hc _).s,nc,sc,so,cO,e5,nl,appC_end,appL_end]
    refine ⟨by omega,by omega,by omega,by omega,by omega,by omega,by omega,?_⟩
    refine callW_some (rm _ _ (hR _ _ _)) (fun _ => rfl) ?_
    rw [earlV]
    cases f3:fairB S (C++[c]) s m x till
    ·rw [if_neg (by decide)]
     simp only [go_sem]
     exact leave_drop rfl
    ·obtain ⟨v,ev,hv⟩:=earlR_ride f1 f3 g1
     have d2:decide (v≤t)=true:=decide_eq_true hv
     rw [if_pos rfl,ev]
     simp only [go_sem,d2]
     exact leave_drop rfl
   ·rw [if_pos rfl]
    cases g2:earlR S C s (m+wait) x till with
    | none =>
     simp only [go_sem,(hs _).s,(hc _).s,nc,sc,so,cO,e5,nl,appC_end,appL_end]
     refine ⟨by omega,by omega,by omega,by omega,by omega,by omega,by omega,?_⟩
     refine callW_some (rm _ _ (hR _ _ _)) (fun _ => rfl) ?_
     rw [earlV]
     cases f3:fairB S (C++[c]) s m x till
     ·rw [if_neg (by decide)]
      simp only [go_sem]
      exact leave_drop rfl
     ·obtain ⟨v,ev,hv⟩:=earlR_ride f1 f3 g1
      have d2:decide (v≤t)=true:=decide_eq_true hv
      rw [if_pos rfl,ev]
      simp only [go_sem,d2]
      exact leave_drop rfl
    | some u =>
     have d:decide (u<t)=false:=by
      obtain ⟨v,e,hv⟩:=earlR_later (by omega) f1 f2 g2
      rw [g1] at e
      cases e
      exact decide_eq_false (by omega)
     simp only [go_sem,(hs _).s,(hc _).s,nc,sc,so,cO,e5,nl,appC_end,appL_end,d]
     refine ⟨by omega,by omega,by omega,by omega,by omega,by omega,by omega,?_⟩
     refine callW_some (rm _ _ (hR _ _ _)) (fun _ => rfl) ?_
     rw [earlV]
     cases f3:fairB S (C++[c]) s m x till
     ·rw [if_neg (by decide)]
      simp only [go_sem]
      exact leave_drop rfl
     ·obtain ⟨v,ev,hv⟩:=earlR_ride f1 f3 g1
      have d2:decide (v≤t)=true:=decide_eq_true hv
      rw [if_pos rfl,ev]
      simp only [go_sem,d2]
      exact leave_drop rfl
end
end Go.Proofs.Ytabpkmfgmjnipaa.Eng

