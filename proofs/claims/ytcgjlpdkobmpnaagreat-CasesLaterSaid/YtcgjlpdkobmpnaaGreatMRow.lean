/- 'CasesLater' holds for every input: a case's status hangs on the facts alone; its stage never falls; each notice is one case. No condition. -/
import Derived.Test.YtcgjlpdkobmpnaaGreatRows
import Derived.Test.YtcgjlpdkobmpnaaGreatMCu
import Derived.Test.YtcgjlpdkobmpnaaGreatMDc
import Derived.Test.YtcgjlpdkobmpnaaGreatME6
namespace Go.Proofs.YtcgjlpdkobmpnaaGreat
open Go Go.ChangeShapes Go.WideShapes Go.ChangeAt Go.RowKit Go.Proofs.YtcgjlpdkobmpnaaGreat.Eng
set_option linter.unusedVariables false
set_option linter.unusedSimpArgs false
theorem Tryz.own':ownKnob Tryz.prog.godebug=none:=by kernel_rfl
theorem Tryz.laidOut':laidOutB Tryz.prog=true:=by kernel_rfl
set_option maxRecDepth 100000 in
theorem L9 (os:Os) (started:os.Started) (H:Type) (enc:TypeId × Value→H) :
  ReturnsInHanded {} Tryz.checked os 8 .any (Rows.casesLaterSpec.pre6 enc Tryz.prog Tryz.f8 Rows.casesLaterRow.domain false) (Rows.casesLaterSpec.post enc Tryz.prog Tryz.f8 false true false false):=by
 refine returnsInHanded_of_change_sized (C:=Tryz.checked) Tryz.own' started (by kernel_rfl) Tryz.func8
  (ChangeSpec.witness6 (enc:=enc) (C:=Tryz.checked) false ⟨#[],#[.agg #[.slice none 0 0,.slice none 0 0,.slice none 0 0,.slice none 0 0,.slice none 0 0,.slice none 0 0,.int .i64 0,.slice none 0 0,.slice none 0 0],.int .i64 0,.int .i64 0],[]⟩ 12 (by kernel_rfl) (by kernel_rfl) (by kernel_rfl) (by kernel_rfl)) ?_
 intro W base args ds gs before hval hW hcnd hsz _
 refine Zg8 (P:=Tryz.prog) Tryz.laidOut' (by kernel_rfl) (by kernel_rfl) rfl ?_ (tb:=T.bool) (by kernel_rfl) (by kernel_rfl) ?_ hval hW hsz
 ·intro ds h
  obtain ⟨a0,r0,rfl,k0⟩:=Zez (n:=2) h
  obtain ⟨a1,r1,rfl,k1⟩:=Zez (n:=1) k0
  obtain ⟨a2,rfl⟩:=len1 k1
  rfl
 ·intro avss h
  rw [show Tryz.f8.params.toList=[36,3,3] by rw [Tryz.params8]] at h ⊢
  obtain ⟨x1,xs,rfl,h1,h⟩:=Gk h
  obtain ⟨x2,xs,rfl,h2,h⟩:=Gk h
  obtain ⟨x3,xs,rfl,h3,h⟩:=Gk h
  obtain rfl:=Zse h
  obtain ⟨D,K,R,P,S,N,C,E,dv,kv,rv,pv,sv,cv,ch,en,pen,rfl,hR,hx,hC,hen,hE⟩:=Znc h1.2
  obtain ⟨n2,rfl,w2⟩:=Z7 Tryz.underlying3 h2.2
  obtain ⟨n3,rfl,w3⟩:=Z7 Tryz.underlying3 h3.2
  have e3:Yt Tryz.prog 3=false:=by simp [Yt,Tryz.underlying3]
  have e36:Yt Tryz.prog 36=true:=by simp [Yt,Tryz.underlying36]
  simp only [Zaq,avOf,e3,e36,if_true,Bool.false_eq_true,if_false,List.headD_cons]
  exact C4 hR hx hC hen hE n2 n3
set_option maxRecDepth 100000 in
set_option maxHeartbeats 40000000 in
theorem Jj:joinedFacts Tryz.prog 8 Tryz.f8 Rows.casesLaterSpec Rows.casesLaterRow=true:=by
 unfold joinedFacts
 simp only [Bool.and_eq_true]
 repeat' (with_reducible refine And.intro ?_ ?_)
 all_goals (as_aux_lemma => kernel_rfl)
theorem casesLater_holds:Rows.CasesLaterSaid :=
 OpenClaim.holds_of_wide 8 Tryz.f8 rfl rfl rfl rfl rfl rfl rfl ⟨rfl,rfl,rfl,rfl,rfl⟩ rfl rfl rfl rfl rfl (by kernel_rfl) Tryz.func8 Jj
  (of_decide_eq_true (by kernel_rfl)) (by unfold Func.isWrapper; first | (rw [if_pos (by decide +kernel)]; kernel_rfl) | (rw [if_neg (by decide +kernel)]; exact ⟨rfl,rfl⟩))
  (fun os started H enc _ => L9 os started H enc)
end Go.Proofs.YtcgjlpdkobmpnaaGreat

