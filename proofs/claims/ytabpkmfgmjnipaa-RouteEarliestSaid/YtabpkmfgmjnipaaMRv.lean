/- Layer 13: the example; the laws RouteOn, RouteBy. -/
import Derived.Test.YtabpkmfgmjnipaaMRw
namespace Go.Proofs.Ytabpkmfgmjnipaa.Eng
open Go Go.Proofs
set_option linter.unusedVariables false
set_option linter.unusedSimpArgs false
set_option maxRecDepth 10000
def upS:List Sv:=[⟨⟨127,0,9,[],[]⟩,nilS,nilS⟩]
def upC:List Cn:=[⟨0,0,10,1,20⟩,⟨0,1,20,2,30⟩]
theorem upS_ok:∀ p ∈ upS,p.ok∧p.few:=by
 intro p hp
 rw [upS,List.mem_singleton] at hp
 subst hp
 have z:∀ n:Int,0≤n→n≤1000→ok64 n:=fun n h1 h2 => by unfold ok64; omega
 exact ⟨⟨z 127 (by decide) (by decide),z 0 (by decide) (by decide),z 9 (by decide) (by decide),.inr ⟨rfl,rfl⟩,.inr ⟨rfl,rfl⟩⟩,by decide⟩
theorem up_rides:ridesL (rnS upS) 0 100 upC=[⟨0,10,1,20⟩,⟨1,20,2,30⟩]:=by rfl
theorem up_net:netB upS upC=true:=by rfl
theorem up_earl (x:Int) (hx:0≤x∧x<32):earlR upS upC 0 0 x 100=earlO [⟨0,10,1,20⟩,⟨1,20,2,30⟩] 0 0 x.toNat 100:=by
 have hf:fairB upS upC 0 0 x 100=true:=by
  simp only [fairB,stopB,Bool.and_eq_true,decide_eq_true_eq]
  exact ⟨⟨⟨⟨⟨⟨up_net,by omega⟩,by omega⟩,by omega⟩,by omega⟩,by omega⟩,by omega⟩
 refine IsE.uniq (earlR_is hf) ?_
 refine earlO_is (n:=upS.length) (netB_from up_net).2.2.2 (by decide) (by omega) (by decide) (by decide) (by rw [up_rides]) ?_
 simp
theorem up_2:earlV upS upC 0 0 2 100=.tup [I 30,Bl true,nilE]:=by
 rw [earlV,if_pos (by rfl),up_earl 2 (by decide)]; rfl
theorem up_3:earlV upS upC 0 0 3 100=.tup [I 0,Bl false,nilE]:=by
 rw [earlV,if_pos (by rfl),up_earl 3 (by decide)]; rfl
theorem t_up13 (H:AH):Called Try.prog F.clapperlaw13_up [] H (Bl true) H:=by
 have s1:∀ K,Sl 5 K (.view [I 127,I 0,I 9,nilS,nilS] 1 true) (svcs upS) upS.length:=fun K => .view rfl _
 have c1:∀ K,Sl 5 K (.view [I 0,I 0,I 10,I 1,I 20,I 0,I 1,I 20,I 2,I 30] 2 true) (cncs upC) upC.length:=fun K => .view rfl _
 have e2:=fun K => t_Earliest (H:=K) (s1 K) (c1 K) upS_ok (s:=0) (m:=0) (x:=2) (till:=100)
 have e3:=fun K => t_Earliest (H:=K) (s1 K) (c1 K) upS_ok (s:=0) (m:=0) (x:=3) (till:=100)
 rw [up_2] at e2
 rw [up_3] at e3
 simp only [net] at e2 e3
 refine e_clapperlaw13_up ?_
 simp only [ic_clapperlaw13_up,go_sem,fillOk,fillv]
 refine ⟨by decide,callW_some (e2 _) (fun _ => rfl) ?_⟩
 simp only [go_sem]
 refine callW_some (e3 _) (fun _ => rfl) ?_
 simp only [go_sem]
 exact leave_drop rfl
section
variable {H:AH} {sx cx:AV} {S:List Sv} {C:List Cn}
theorem fair_on {s m y v x till:Int} (h1:fairB S C s m y till=true) (h2:earlR S C s m y till=some v) (h3:fairB S C y v x till=true) {u:Int} (h4:earlR S C y v x till=some u):fairB S C s m x till=true∧∃ w,earlR S C s m x till=some w∧w≤u:=by
 obtain ⟨a1,a2,a3,a4,a5,a6,a7⟩:=fairB_from h1
 obtain ⟨b1,b2,b3,b4,b5,b6,b7⟩:=fairB_from h3
 have hf:fairB S C s m x till=true:=by
  simp only [fairB,stopB,Bool.and_eq_true,decide_eq_true_eq]
  exact ⟨⟨⟨⟨⟨⟨a1,a2⟩,b3⟩,a4⟩,a5⟩,a6⟩,a7⟩
 have i1:=earlR_is h1
 have i2:=earlR_is h3
 have i3:=earlR_is hf
 rw [h2] at i1
 rw [h4] at i2
 have c:=i1.2.1.on i2.2.1
 refine ⟨hf,?_⟩
 cases he:earlR S C s m x till with
 | none =>
  rw [he] at i3
  exact absurd c (i3 u i2.1)
 | some w =>
  rw [he] at i3
  exact ⟨w,rfl,i3.2.2 u c⟩
theorem t_RouteOn (hs:∀ H,Sl 5 H sx (svcs S) S.length) (hc:∀ H,Sl 5 H cx (cncs C) C.length) (hS:∀ p ∈ S,p.ok) {s m y x till:Int}:Called Try.prog F.clapperlaw13_RouteOn [.agg (net sx cx),I s,I m,I y,I x,I till] H (Bl true) H:=by
 have rf:=fun K => t_nFew (hs K) (hc K) hS
 refine e_clapperlaw13_RouteOn ?_
 simp only [net] at rf ⊢
 simp only [ic_clapperlaw13_RouteOn,go_sem,(hs []).one,(hc []).one]
 refine callW_some (t_up13 _) (fun _ => rfl) ?_
 simp only [go_sem]
 refine callW_some (rf _) (fun _ => rfl) ?_
 simp only [go_sem]
 cases hw:fewN S C
 ·simp only [go_sem]
  exact leave_drop rfl
 ·have hf:∀ p ∈ S,p.ok∧p.few:=fun p hp => ⟨hS p hp,by
   simp only [fewN,Bool.and_eq_true,decide_eq_true_eq] at hw
   exact hw.2 p hp⟩
  have re:=fun K {a b c d:Int} => t_Earliest (hs K) (hc K) hf (s:=a) (m:=b) (x:=c) (till:=d)
  simp only [net] at re
  simp only [go_sem]
  refine callW_some (re _) (fun _ => rfl) ?_
  rw [earlV]
  cases f1:fairB S C s m y till
  ·rw [if_neg (by decide)]
   simp only [go_sem]
   exact leave_drop rfl
  ·rw [if_pos rfl]
   cases g1:earlR S C s m y till with
   | none =>
    simp only [go_sem]
    exact leave_drop rfl
   | some v =>
    simp only [go_sem]
    refine callW_some (re _) (fun _ => rfl) ?_
    rw [earlV]
    cases f2:fairB S C y v x till
    ·rw [if_neg (by decide)]
     simp only [go_sem]
     exact leave_drop rfl
    ·rw [if_pos rfl]
     cases g2:earlR S C y v x till with
     | none =>
      simp only [go_sem]
      exact leave_drop rfl
     | some u =>
      obtain ⟨f3,w,g3,hwu⟩:=fair_on f1 g1 f2 g2
      simp only [go_sem]
      refine callW_some (re _) (fun _ => rfl) ?_
      rw [earlV,if_pos f3,g3]
      simp only [go_sem,decide_eq_true hwu]
      exact leave_drop rfl
end
section
variable {H:AH} {sx cx:AV} {S:List Sv} {C:List Cn}
theorem earlR_ge {s m x till v:Int} (h1:fairB S C s m x till=true) (h2:earlR S C s m x till=some v):m≤v∧v≤till:=by
 have i1:=earlR_is h1
 rw [h2] at i1
 exact ⟨i1.2.1.ge fun r h => (NU_ok (netB_from (fairB_from h1).1).2.2.2 r h).2.2,i1.1⟩
theorem earlR_more {s m x till v b:Int} (h0:till≤b) (h1:fairB S C s m x till=true) (h2:earlR S C s m x till=some v) (h3:fairB S C s m x b=true):earlR S C s m x b=some v:=by
 have i1:=earlR_is h1
 rw [h2] at i1
 exact IsE.uniq (earlR_is h3) ⟨by have:=i1.1; omega,i1.2⟩
theorem t_RouteBy (hs:∀ H,Sl 5 H sx (svcs S) S.length) (hc:∀ H,Sl 5 H cx (cncs C) C.length) (hS:∀ p ∈ S,p.ok) {s m x b more:Int}:Called Try.prog F.clapperlaw13_RouteBy [.agg (net sx cx),I s,I m,I x,I b,I more] H (Bl true) H:=by
 have rf:=fun K => t_nFew (hs K) (hc K) hS
 refine e_clapperlaw13_RouteBy ?_
 simp only [net] at rf ⊢
 simp only [ic_clapperlaw13_RouteBy,go_sem,(hs []).one,(hc []).one]
 refine callW_some (t_up13 _) (fun _ => rfl) ?_
 simp only [go_sem]
 refine callW_some (rf _) (fun _ => rfl) ?_
 simp only [go_sem]
 refine ⟨fun hw => leave_drop rfl,fun hw => ?_⟩
 have hm:fewN S C=true∧0≤more∧more≤4320:=by
  simp only [Bool.or_eq_false_iff,Bool.not_eq_false',decide_eq_false_iff_not,Bool.or_eq_true,Bool.not_eq_true',not_or,decide_eq_true_eq,Bool.not_eq_true,Bool.not_eq_false] at hw
  exact ⟨hw.1.1,by omega,by omega⟩
 obtain ⟨hw,m0,m1⟩:=hm
 have hf:∀ p ∈ S,p.ok∧p.few:=fun p hp => ⟨hS p hp,by
  simp only [fewN,Bool.and_eq_true,decide_eq_true_eq] at hw
  exact hw.2 p hp⟩
 have re:=fun K {a b c d:Int} => t_Earliest (hs K) (hc K) hf (s:=a) (m:=b) (x:=c) (till:=d)
 have rg:=fun K {a b c d:Int} => t_Feasible (hs K) (hc K) hf (s:=a) (m:=b) (x:=c) (till:=d)
 simp only [net] at re rg
 refine callW_some (rg _) (fun _ => rfl) ?_
 rw [feasV]
 have ea:(T.api_Code == T.api_Code&&(1:Int) == 1)=true:=by simp
 cases f1:fairB S C s m x b
 ·rw [if_neg (by decide)]
  simp only [go_sem]
  refine callW_some (re _) (fun _ => rfl) ?_
  rw [earlV,f1,if_neg (by decide)]
  simp only [go_sem,ea]
  exact ⟨rfl,rfl,leave_drop rfl⟩
 ·rw [if_pos rfl]
  simp only [go_sem]
  refine callW_some (re _) (fun _ => rfl) ?_
  rw [earlV,f1,if_pos rfl]
  obtain ⟨_,_,_,b1,b2,b3,b4⟩:=fairB_from f1
  have wb:IntKind.i64.wrap (b+more)=b+more:=w64 _ (by omega) (by omega)
  cases g1:earlR S C s m x b with
  | none =>
   simp only [go_sem,Option.isSome,wb]
   refine callW_some (re _) (fun _ => rfl) ?_
   rw [earlV]
   cases f2:fairB S C s m x (b+more)
   ·rw [if_neg (by decide)]
    simp only [go_sem]
    exact leave_drop rfl
   ·rw [if_pos rfl]
    cases earlR S C s m x (b+more) <;>
    ·simp only [go_sem]
     exact leave_drop rfl
  | some v =>
   obtain ⟨v1,v2⟩:=earlR_ge f1 g1
   have d1:decide (b<v)=false:=decide_eq_false (by omega)
   have d2:decide (v<m)=false:=decide_eq_false (by omega)
   simp only [go_sem,Option.isSome,wb,d1,d2]
   refine callW_some (re _) (fun _ => rfl) ?_
   rw [earlV]
   cases f2:fairB S C s m x (b+more)
   ·rw [if_neg (by decide)]
    simp only [go_sem]
    exact leave_drop rfl
   ·rw [if_pos rfl,earlR_more (by omega) f1 g1 f2]
    simp only [go_sem,beq_self_eq_true]
    exact leave_drop rfl
end
end Go.Proofs.Ytabpkmfgmjnipaa.Eng

