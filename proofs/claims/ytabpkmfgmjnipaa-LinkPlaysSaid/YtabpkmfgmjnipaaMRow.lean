/- 'LinkPlays' holds for every input: what anything that is done with a link comes to. No condition. -/
import Derived.Test.YtabpkmfgmjnipaaRows
import Derived.Test.YtabpkmfgmjnipaaMLk
import Derived.Test.YtabpkmfgmjnipaaMDc
import Derived.Test.YtabpkmfgmjnipaaME6
namespace Go.Proofs.Ytabpkmfgmjnipaa
open Go Go.ChangeShapes Go.WideShapes Go.ChangeAt Go.RowKit Go.Proofs.Ytabpkmfgmjnipaa.Eng
set_option linter.unusedVariables false
set_option linter.unusedSimpArgs false
theorem Try.own':ownKnob Try.prog.godebug=none:=by kernel_rfl
theorem Try.laidOut':laidOutB Try.prog=true:=by kernel_rfl
set_option maxRecDepth 100000 in
theorem linkPlays_lifted (os:Os) (started:os.Started) (H:Type) (enc:TypeId × Value→H) :
  ReturnsInHanded {} Try.checked os 3 .any (Rows.linkPlaysSpec.pre6 enc Try.prog Try.f3 Rows.linkPlaysRow.domain false) (Rows.linkPlaysSpec.post enc Try.prog Try.f3 false true false false):=by
 refine returnsInHanded_of_change_sized (C:=Try.checked) Try.own' started (by kernel_rfl) Try.func3
  (ChangeSpec.witness6 (enc:=enc) (C:=Try.checked) false ⟨#[],#[.slice none 0 0],[]⟩ 12 (by kernel_rfl) (by kernel_rfl) (by kernel_rfl) (by kernel_rfl)) ?_
 intro W base args ds gs before hval hW hcnd hsz _
 refine law_calls' (P:=Try.prog) Try.laidOut' (by kernel_rfl) (by kernel_rfl) rfl ?_ (tb:=T.bool) (by kernel_rfl) (by kernel_rfl) ?_ hval hW hsz
 ·intro ds h
  obtain ⟨a0,rfl⟩:=len1 h
  rfl
 ·intro avss h
  rw [show Try.f3.params.toList=[22] by rw [Try.params3]] at h ⊢
  obtain ⟨x1,xs,rfl,h1,h⟩:=args_cons h
  obtain rfl:=args_nil h
  obtain ⟨l,f,rfl⟩:=dec_dds h1.2
  have e22:isAggT Try.prog 22=false:=by simp [isAggT,Try.underlying22]
  simp only [argAVs,avOf,e22,if_true,Bool.false_eq_true,if_false,List.headD_cons]
  exact t_LinkPlays l f
theorem linkPlays_holds:Rows.LinkPlaysSaid :=
 OpenClaim.holds_of_wide 3 Try.f3 rfl rfl rfl rfl rfl rfl rfl ⟨rfl,rfl,rfl,rfl,rfl⟩ rfl rfl rfl rfl rfl (by kernel_rfl) Try.func3 (by kernel_rfl)
  (of_decide_eq_true (by kernel_rfl)) (by unfold Func.isWrapper; first | (rw [if_pos (by decide +kernel)]; kernel_rfl) | (rw [if_neg (by decide +kernel)]; exact ⟨rfl,rfl⟩))
  (fun os started H enc _ => linkPlays_lifted os started H enc)
end Go.Proofs.Ytabpkmfgmjnipaa

