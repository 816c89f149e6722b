/- 'CasesRevoked' holds for every input: with serials more revoked no case becomes Covered. No condition. -/
import Derived.Test.YtcgjlpdkobmpnaaGreatRows
import Derived.Test.YtcgjlpdkobmpnaaGreatMCu
import Derived.Test.YtcgjlpdkobmpnaaGreatMDc
import Derived.Test.YtcgjlpdkobmpnaaGreatME6
namespace Go.Proofs.YtcgjlpdkobmpnaaGreat
open Go Go.ChangeShapes Go.WideShapes Go.ChangeAt Go.RowKit Go.Proofs.YtcgjlpdkobmpnaaGreat.Eng
set_option linter.unusedVariables false
set_option linter.unusedSimpArgs false
theorem Tryz.own':ownKnob Tryz.prog.godebug=none:=by kernel_rfl
theorem Tryz.laidOut':laidOutB Tryz.prog=true:=by kernel_rfl
set_option maxRecDepth 100000 in
theorem Oy (os:Os) (started:os.Started) (H:Type) (enc:TypeId × Value→H) :
  ReturnsInHanded {} Tryz.checked os 9 .any (Rows.casesRevokedSpec.pre6 enc Tryz.prog Tryz.f9 Rows.casesRevokedRow.domain false) (Rows.casesRevokedSpec.post enc Tryz.prog Tryz.f9 false true false false):=by
 refine returnsInHanded_of_change_sized (C:=Tryz.checked) Tryz.own' started (by kernel_rfl) Tryz.func9
  (ChangeSpec.witness6 (enc:=enc) (C:=Tryz.checked) false ⟨#[],#[.agg #[.slice none 0 0,.slice none 0 0,.slice none 0 0,.slice none 0 0,.slice none 0 0,.slice none 0 0,.int .i64 0,.slice none 0 0,.slice none 0 0],.slice none 0 0,.int .i64 0],[]⟩ 12 (by kernel_rfl) (by kernel_rfl) (by kernel_rfl) (by kernel_rfl)) ?_
 intro W base args ds gs before hval hW hcnd hsz _
 refine Zhe (P:=Tryz.prog) Tryz.laidOut' (by kernel_rfl) (by kernel_rfl) rfl ?_ (tb:=T.bool) (by kernel_rfl) (by kernel_rfl) ?_ hval hW hsz
 ·intro ds h
  obtain ⟨a0,r0,rfl,k0⟩:=Ze4 (n:=2) h
  obtain ⟨a1,r1,rfl,k1⟩:=Ze4 (n:=1) k0
  obtain ⟨a2,rfl⟩:=len1 k1
  rfl
 ·intro avss h
  rw [show Tryz.f9.params.toList=[36,23,3] by rw [Tryz.params9]] at h ⊢
  obtain ⟨x1,xs,rfl,h1,h⟩:=Gt h
  obtain ⟨x2,xs,rfl,h2,h⟩:=Gt h
  obtain ⟨x3,xs,rfl,h3,h⟩:=Gt h
  obtain rfl:=Zso h
  obtain ⟨D,K,R,P,S,N,C,E,dv,kv,rv,pv,sv,cv,ch,en,pen,rfl,hR,hx,hC,hen,hE⟩:=Znj h1.2
  obtain ⟨mo,f2,rfl⟩:=Znf h2.2
  obtain ⟨n3,rfl,w3⟩:=Ya Tryz.underlying3 h3.2
  have e3:Yq Tryz.prog 3=false:=by simp [Yq,Tryz.underlying3]
  have e23:Yq Tryz.prog 23=false:=by simp [Yq,Tryz.underlying23]
  have e36:Yq Tryz.prog 36=true:=by simp [Yq,Tryz.underlying36]
  simp only [Zaw,avOf,e3,e23,e36,if_true,Bool.false_eq_true,if_false,List.headD_cons]
  exact Gz hR hx hC hen hE (fun G => .view (V9 mo) f2) n3
set_option maxRecDepth 100000 in
set_option maxHeartbeats 40000000 in
theorem M0:joinedFacts Tryz.prog 9 Tryz.f9 Rows.casesRevokedSpec Rows.casesRevokedRow=true:=by
 unfold joinedFacts
 simp only [Bool.and_eq_true]
 repeat' (with_reducible refine And.intro ?_ ?_)
 all_goals (as_aux_lemma => kernel_rfl)
theorem casesRevoked_holds:Rows.CasesRevokedSaid :=
 OpenClaim.holds_of_wide 9 Tryz.f9 rfl rfl rfl rfl rfl rfl rfl ⟨rfl,rfl,rfl,rfl,rfl⟩ rfl rfl rfl rfl rfl (by kernel_rfl) Tryz.func9 M0
  (of_decide_eq_true (by kernel_rfl)) (by unfold Func.isWrapper; first | (rw [if_pos (by decide +kernel)]; kernel_rfl) | (rw [if_neg (by decide +kernel)]; exact ⟨rfl,rfl⟩))
  (fun os started H enc _ => Oy os started H enc)
end Go.Proofs.YtcgjlpdkobmpnaaGreat

