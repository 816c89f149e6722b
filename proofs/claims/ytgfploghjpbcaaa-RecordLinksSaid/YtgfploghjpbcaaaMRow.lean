/- 'RecordLinks' holds for every input: of a chain the first ones are one, and no more than these are. No condition. -/
import Derived.Test.YtgfploghjpbcaaaRows
import Derived.Test.YtgfploghjpbcaaaMRc
import Derived.Test.YtgfploghjpbcaaaMDc
import Derived.Test.YtgfploghjpbcaaaME6
namespace Go.Proofs.Ytgfploghjpbcaaa
open Go Go.ChangeShapes Go.WideShapes Go.ChangeAt Go.RowKit Go.Proofs.Ytgfploghjpbcaaa.Eng
set_option linter.unusedVariables false
set_option linter.unusedSimpArgs false
theorem Try.own':ownKnob Try.prog.godebug=none:=by kernel_rfl
theorem Try.laidOut':laidOutB Try.prog=true:=by kernel_rfl
set_option maxRecDepth 100000 in
theorem recordLinks_lifted (os:Os) (started:os.Started) (H:Type) (enc:TypeId × Value→H) :
  ReturnsInHanded {} Try.checked os 6 .any (Rows.recordLinksSpec.pre6 enc Try.prog Try.f6 Rows.recordLinksRow.domain false) (Rows.recordLinksSpec.post enc Try.prog Try.f6 false true false false):=by
 refine returnsInHanded_of_change_sized (C:=Try.checked) Try.own' started (by kernel_rfl) Try.func6
  (ChangeSpec.witness6 (enc:=enc) (C:=Try.checked) false ⟨#[],#[.slice none 0 0,.int .i64 0,.agg #[.int .u64 0,.int .u64 0,.int .u64 0,.int .u64 0,.int .u64 0,.int .u64 0,.int .u64 0,.int .u64 0,.bool false],.int .i64 0],[]⟩ 12 (by kernel_rfl) (by kernel_rfl) (by kernel_rfl) (by kernel_rfl)) ?_
 intro W base args ds gs before hval hW hcnd hsz _
 refine law_calls' (P:=Try.prog) Try.laidOut' (by kernel_rfl) (by kernel_rfl) rfl ?_ (tb:=T.bool) (by kernel_rfl) (by kernel_rfl) ?_ hval hW hsz
 ·intro ds h
  obtain ⟨a0,r0,rfl,k0⟩:=len_cons (n:=3) h
  obtain ⟨a1,r1,rfl,k1⟩:=len_cons (n:=2) k0
  obtain ⟨a2,r2,rfl,k2⟩:=len_cons (n:=1) k1
  obtain ⟨a3,rfl⟩:=len1 k2
  rfl
 ·intro avss h
  rw [show Try.f6.params.toList=[51,3,38,3] by rw [Try.params6]] at h ⊢
  obtain ⟨x1,xs,rfl,h1,h⟩:=args_cons h
  obtain ⟨x2,xs,rfl,h2,h⟩:=args_cons h
  obtain ⟨x3,xs,rfl,h3,h⟩:=args_cons h
  obtain ⟨x4,xs,rfl,h4,h⟩:=args_cons h
  obtain rfl:=args_nil h
  obtain ⟨l,f1,rfl,hl,hp⟩:=dec_bts h1.2
  obtain ⟨n2,rfl,w2⟩:=shape_int Try.underlying3 h2.2
  obtain ⟨X,Y,g,rfl,hX,hY⟩:=dec_pt h3.2
  obtain ⟨n4,rfl,w4⟩:=shape_int Try.underlying3 h4.2
  have e3:isAggT Try.prog 3=false:=by simp [isAggT,Try.underlying3]
  have e38:isAggT Try.prog 38=true:=by simp [isAggT,Try.underlying38]
  have e51:isAggT Try.prog 51=false:=by simp [isAggT,Try.underlying51]
  simp only [argAVs,avOf,e3,e38,e51,if_true,Bool.false_eq_true,if_false,List.headD_cons]
  exact t_RecordLinks hl hp hX hY
theorem recordLinks_holds:Rows.RecordLinksSaid :=
 OpenClaim.holds_of_wide 6 Try.f6 rfl rfl rfl rfl rfl rfl rfl ⟨rfl,rfl,rfl,rfl,rfl⟩ rfl rfl rfl rfl rfl (by kernel_rfl) Try.func6 (by kernel_rfl)
  (of_decide_eq_true (by kernel_rfl)) (by unfold Func.isWrapper; first | (rw [if_pos (by decide +kernel)]; kernel_rfl) | (rw [if_neg (by decide +kernel)]; exact ⟨rfl,rfl⟩))
  (fun os started H enc _ => recordLinks_lifted os started H enc)
end Go.Proofs.Ytgfploghjpbcaaa

