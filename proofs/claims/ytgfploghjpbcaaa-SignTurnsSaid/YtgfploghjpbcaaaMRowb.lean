/- 'SignTurns' holds for every input: with S turned to n - S a signature holds, too, or neither does. No condition. -/
import Derived.Test.YtgfploghjpbcaaaRows
import Derived.Test.YtgfploghjpbcaaaMSq
import Derived.Test.YtgfploghjpbcaaaMDc
import Derived.Test.YtgfploghjpbcaaaME6
namespace Go.Proofs.Ytgfploghjpbcaaa
open Go Go.ChangeShapes Go.WideShapes Go.ChangeAt Go.RowKit Go.Proofs.Ytgfploghjpbcaaa.Eng
set_option linter.unusedVariables false
set_option linter.unusedSimpArgs false
theorem Try.own':ownKnob Try.prog.godebug=none:=by kernel_rfl
theorem Try.laidOut':laidOutB Try.prog=true:=by kernel_rfl
set_option maxRecDepth 100000 in
theorem signTurns_lifted (os:Os) (started:os.Started) (H:Type) (enc:TypeId × Value→H) :
  ReturnsInHanded {} Try.checked os 4 .any (Rows.signTurnsSpec.pre6 enc Try.prog Try.f4 Rows.signTurnsRow.domain false) (Rows.signTurnsSpec.post enc Try.prog Try.f4 false true false false):=by
 refine returnsInHanded_of_change_sized (C:=Try.checked) Try.own' started (by kernel_rfl) Try.func4
  (ChangeSpec.witness6 (enc:=enc) (C:=Try.checked) false ⟨#[],#[.agg #[.int .u64 0,.int .u64 0,.int .u64 0,.int .u64 0,.int .u64 0,.int .u64 0,.int .u64 0,.int .u64 0,.bool false],.agg #[.int .u8 0,.int .u8 0,.int .u8 0,.int .u8 0,.int .u8 0,.int .u8 0,.int .u8 0,.int .u8 0,.int .u8 0,.int .u8 0,.int .u8 0,.int .u8 0,.int .u8 0,.int .u8 0,.int .u8 0,.int .u8 0,.int .u8 0,.int .u8 0,.int .u8 0,.int .u8 0,.int .u8 0,.int .u8 0,.int .u8 0,.int .u8 0,.int .u8 0,.int .u8 0,.int .u8 0,.int .u8 0,.int .u8 0,.int .u8 0,.int .u8 0,.int .u8 0],.agg #[.int .u64 0,.int .u64 0,.int .u64 0,.int .u64 0,.int .u64 0,.int .u64 0,.int .u64 0,.int .u64 0]],[]⟩ 12 (by kernel_rfl) (by kernel_rfl) (by kernel_rfl) (by kernel_rfl)) ?_
 intro W base args ds gs before hval hW hcnd hsz _
 refine law_calls' (P:=Try.prog) Try.laidOut' (by kernel_rfl) (by kernel_rfl) rfl ?_ (tb:=T.bool) (by kernel_rfl) (by kernel_rfl) ?_ hval hW hsz
 ·intro ds h
  obtain ⟨a0,r0,rfl,k0⟩:=len_cons (n:=2) h
  obtain ⟨a1,r1,rfl,k1⟩:=len_cons (n:=1) k0
  obtain ⟨a2,rfl⟩:=len1 k1
  rfl
 ·intro avss h
  rw [show Try.f4.params.toList=[38,40,26] by rw [Try.params4]] at h ⊢
  obtain ⟨x1,xs,rfl,h1,h⟩:=args_cons h
  obtain ⟨x2,xs,rfl,h2,h⟩:=args_cons h
  obtain ⟨x3,xs,rfl,h3,h⟩:=args_cons h
  obtain rfl:=args_nil h
  obtain ⟨X,Y,g,rfl,hX,hY⟩:=dec_pt h1.2
  obtain ⟨l,rfl,hl⟩:=dec_dig h2.2
  obtain ⟨r,s,rfl,hr,hs⟩:=dec_sig h3.2
  have e26:isAggT Try.prog 26=true:=by simp [isAggT,Try.underlying26]
  have e38:isAggT Try.prog 38=true:=by simp [isAggT,Try.underlying38]
  have e40:isAggT Try.prog 40=true:=by simp [isAggT,Try.underlying40]
  simp only [argAVs,avOf,e26,e38,e40,if_true,Bool.false_eq_true,if_false,List.headD_cons]
  exact t_SignTurns hX hY hr hs hl
theorem signTurns_holds:Rows.SignTurnsSaid :=
 OpenClaim.holds_of_wide 4 Try.f4 rfl rfl rfl rfl rfl rfl rfl ⟨rfl,rfl,rfl,rfl,rfl⟩ rfl rfl rfl rfl rfl (by kernel_rfl) Try.func4 (by kernel_rfl)
  (of_decide_eq_true (by kernel_rfl)) (by unfold Func.isWrapper; first | (rw [if_pos (by decide +kernel)]; kernel_rfl) | (rw [if_neg (by decide +kernel)]; exact ⟨rfl,rfl⟩))
  (fun os started H enc _ => signTurns_lifted os started H enc)
end Go.Proofs.Ytgfploghjpbcaaa

