/- Layer 13: the example; the laws RouteOn, RouteBy. -/
import Derived.Test.YtabpkmfgmjnipaaMRw
namespace Go.Proofs.Ytabpkmfgmjnipaa.Eng
open Go Go.Proofs
set_option linter.unusedVariables false
set_option linter.unusedSimpArgs false
set_option maxRecDepth 10000
def upS:List Sv:=[⟨⟨127,0,9,[],[]⟩,nilS,nilS⟩]
def upC:List Cn:=[⟨0,0,10,1,20⟩,⟨0,1,20,2,30⟩]
theorem upS_ok:∀ p ∈ upS,p.ok∧p.few:=by
 intro p hp
 rw [upS,List.mem_singleton] at hp
 subst hp
 have z:∀ n:Int,0≤n→n≤1000→ok64 n:=fun n h1 h2 => by unfold ok64; omega
 exact ⟨⟨z 127 (by decide) (by decide),z 0 (by decide) (by decide),z 9 (by decide) (by decide),.inr ⟨rfl,rfl⟩,.inr ⟨rfl,rfl⟩⟩,by decide⟩
theorem up_rides:ridesL (rnS upS) 0 100 upC=[⟨0,10,1,20⟩,⟨1,20,2,30⟩]:=by rfl
theorem up_net:netB upS upC=true:=by rfl
theorem up_earl (x:Int) (hx:0≤x∧x<32):earlR upS upC 0 0 x 100=earlO [⟨0,10,1,20⟩,⟨1,20,2,30⟩] 0 0 x.toNat 100:=by
 have hf:fairB upS upC 0 0 x 100=true:=by
  simp only [fairB,stopB,Bool.and_eq_true,decide_eq_true_eq]
  exact ⟨⟨⟨⟨⟨⟨up_net,by omega⟩,by omega⟩,by omega⟩,by omega⟩,by omega⟩,by omega⟩
 refine IsE.uniq (earlR_is hf) ?_
 refine earlO_is (n:=upS.length) (netB_from up_net).2.2.2 (by decide) (by omega) (by decide) (by decide) (by rw [up_rides]) ?_
 simp
theorem up_2:earlV upS upC 0 0 2 100=.tup [I 30,Bl true,nilE]:=by
 rw [earlV,if_pos (by rfl),up_earl 2 (by decide)]; rfl
theorem up_3:earlV upS upC 0 0 3 100=.tup [I 0,Bl false,nilE]:=by
 rw [earlV,if_pos (by rfl),up_earl 3 (by decide)]; rfl
theorem t_up13 (H:AH):Called Try.prog F.clapperlaw13_up [] H (Bl true) H:=by
 have s1:∀ K,Sl 5 K (.view [I 127,I 0,I 9,nilS,nilS] 1 true) (svcs upS) upS.length:=fun K => .view rfl _
 have c1:∀ K,Sl 5 K (.view [I 0,I 0,I 10,I 1,I 20,I 0,I 1,I 20,I 2,I 30] 2 true) (cncs upC) upC.length:=fun K => .view rfl _
 have e2:=fun K => t_Earliest (H:=K) (s1 K) (c1 K) upS_ok (s:=0) (m:=0) (x:=2) (till:=100)
 have e3:=fun K => t_Earliest (H:=K) (s1 K) (c1 K) upS_ok (s:=0) (m:=0) (x:=3) (till:=100)
 rw [up_2] at e2
 rw [up_3] at e3
 simp only [net] at e2 e3
 refine e_clapperlaw13_up ?_
 simp only [ic_clapperlaw13_up,go_sem,fillOk,fillv]
 refine ⟨by decide,callW_some (e2 _) (fun _ => rfl) ?_⟩
 simp only [go_sem]
 refine callW_some (e3 _) (fun _ => rfl) ?_
 simp only [go_sem]
 exact leave_drop rfl
section
variable {H:AH} {sx cx:AV} {S:List Sv} {C:List Cn}
end
section
variable {H:AH} {sx cx:AV} {S:List Sv} {C:List Cn}
end
end Go.Proofs.Ytabpkmfgmjnipaa.Eng

