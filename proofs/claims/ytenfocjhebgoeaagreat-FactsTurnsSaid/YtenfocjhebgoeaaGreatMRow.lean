/- 'FactsTurns' holds for every input: records of unlike devices come in in any order, with the same facts. No condition. -/
import Derived.Test.YtenfocjhebgoeaaGreatRows
import Derived.Test.YtenfocjhebgoeaaGreatMFt
import Derived.Test.YtenfocjhebgoeaaGreatMDc
import Derived.Test.YtenfocjhebgoeaaGreatME6
namespace Go.Proofs.YtenfocjhebgoeaaGreat
open Go Go.ChangeShapes Go.WideShapes Go.ChangeAt Go.RowKit Go.Proofs.YtenfocjhebgoeaaGreat.Eng
set_option linter.unusedVariables false
set_option linter.unusedSimpArgs false
theorem Tryz.own':ownKnob Tryz.prog.godebug=none:=by kernel_rfl
theorem Tryz.laidOut':laidOutB Tryz.prog=true:=by kernel_rfl
set_option maxRecDepth 100000 in
theorem factsTurns_lifted (os:Os) (started:os.Started) (H:Type) (enc:TypeId × Value→H) :
  ReturnsInHanded {} Tryz.checked os 3 .any (Rows.factsTurnsSpec.pre6 enc Tryz.prog Tryz.f3 Rows.factsTurnsRow.domain false) (Rows.factsTurnsSpec.post enc Tryz.prog Tryz.f3 false true false false):=by
 refine returnsInHanded_of_change_sized (C:=Tryz.checked) Tryz.own' started (by kernel_rfl) Tryz.func3
  (ChangeSpec.witness6 (enc:=enc) (C:=Tryz.checked) false ⟨#[],#[.agg #[.slice none 0 0,.slice none 0 0,.slice none 0 0,.slice none 0 0,.slice none 0 0,.slice none 0 0,.int .i64 0,.slice none 0 0,.slice none 0 0],.int .i64 0,.slice none 0 0,.int .i64 0,.slice none 0 0],[]⟩ 12 (by kernel_rfl) (by kernel_rfl) (by kernel_rfl) (by kernel_rfl)) ?_
 intro W base args ds gs before hval hW hcnd hsz _
 refine law_calls' (P:=Tryz.prog) Tryz.laidOut' (by kernel_rfl) (by kernel_rfl) rfl ?_ (tb:=T.bool) (by kernel_rfl) (by kernel_rfl) ?_ hval hW hsz
 ·intro ds h
  obtain ⟨a0,r0,rfl,k0⟩:=len_cons (n:=4) h
  obtain ⟨a1,r1,rfl,k1⟩:=len_cons (n:=3) k0
  obtain ⟨a2,r2,rfl,k2⟩:=len_cons (n:=2) k1
  obtain ⟨a3,r3,rfl,k3⟩:=len_cons (n:=1) k2
  obtain ⟨a4,rfl⟩:=len1 k3
  rfl
 ·intro avss h
  rw [show Tryz.f3.params.toList=[36,3,37,3,37] by rw [Tryz.params3]] at h ⊢
  obtain ⟨x1,xs,rfl,h1,h⟩:=args_cons h
  obtain ⟨x2,xs,rfl,h2,h⟩:=args_cons h
  obtain ⟨x3,xs,rfl,h3,h⟩:=args_cons h
  obtain ⟨x4,xs,rfl,h4,h⟩:=args_cons h
  obtain ⟨x5,xs,rfl,h5,h⟩:=args_cons h
  obtain rfl:=args_nil h
  obtain ⟨D,K,R,P,S,N,C,E,dv,kv,rv,pv,sv,cv,ch,en,pen,rfl,hR,hx,hC,hen,hE⟩:=dec_facts h1.2
  obtain ⟨n2,rfl,w2⟩:=shape_int Tryz.underlying3 h2.2
  obtain ⟨a,f3,rfl,ha⟩:=dec_bs h3.2
  obtain ⟨n4,rfl,w4⟩:=shape_int Tryz.underlying3 h4.2
  obtain ⟨b,f5,rfl,hb⟩:=dec_bs h5.2
  have e3:isAggT Tryz.prog 3=false:=by simp [isAggT,Tryz.underlying3]
  have e36:isAggT Tryz.prog 36=true:=by simp [isAggT,Tryz.underlying36]
  have e37:isAggT Tryz.prog 37=false:=by simp [isAggT,Tryz.underlying37]
  simp only [argAVs,avOf,e3,e36,e37,if_true,Bool.false_eq_true,if_false,List.headD_cons]
  exact t_FactsTurns hR hx hC hen hE n2 n4 (fun G => Sl.vB a f3) (fun G => Sl.vB b f5)
theorem factsTurns_holds:Rows.FactsTurnsSaid :=
 OpenClaim.holds_of_wide 3 Tryz.f3 rfl rfl rfl rfl rfl rfl rfl ⟨rfl,rfl,rfl,rfl,rfl⟩ rfl rfl rfl rfl rfl (by kernel_rfl) Tryz.func3 (by kernel_rfl)
  (of_decide_eq_true (by kernel_rfl)) (by unfold Func.isWrapper; first | (rw [if_pos (by decide +kernel)]; kernel_rfl) | (rw [if_neg (by decide +kernel)]; exact ⟨rfl,rfl⟩))
  (fun os started H enc _ => factsTurns_lifted os started H enc)
end Go.Proofs.YtenfocjhebgoeaaGreat

