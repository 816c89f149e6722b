/- 'RecordOpens' holds for every input: what any bytes open as, and check as with any key, is just what the document says. No condition. -/
import Derived.Test.YtgfploghjpbcaaaGreatRows
import Derived.Test.YtgfploghjpbcaaaGreatMRq
import Derived.Test.YtgfploghjpbcaaaGreatMDc
import Derived.Test.YtgfploghjpbcaaaGreatME6
namespace Go.Proofs.YtgfploghjpbcaaaGreat
open Go Go.ChangeShapes Go.WideShapes Go.ChangeAt Go.RowKit Go.Proofs.YtgfploghjpbcaaaGreat.Eng
set_option linter.unusedVariables false
set_option linter.unusedSimpArgs false
theorem Tryz.own':ownKnob Tryz.prog.godebug=none:=by kernel_rfl
theorem Tryz.laidOut':laidOutB Tryz.prog=true:=by kernel_rfl
set_option maxRecDepth 100000 in
theorem recordOpens_lifted (os:Os) (started:os.Started) (H:Type) (enc:TypeId × Value→H) :
  ReturnsInHanded {} Tryz.checked os 8 .any (Rows.recordOpensSpec.pre6 enc Tryz.prog Tryz.f8 Rows.recordOpensRow.domain false) (Rows.recordOpensSpec.post enc Tryz.prog Tryz.f8 false true false false):=by
 refine returnsInHanded_of_change_sized (C:=Tryz.checked) Tryz.own' started (by kernel_rfl) Tryz.func8
  (ChangeSpec.witness6 (enc:=enc) (C:=Tryz.checked) false ⟨#[],#[.slice none 0 0,.agg #[.int .u64 0,.int .u64 0,.int .u64 0,.int .u64 0,.int .u64 0,.int .u64 0,.int .u64 0,.int .u64 0,.bool false]],[]⟩ 12 (by kernel_rfl) (by kernel_rfl) (by kernel_rfl) (by kernel_rfl)) ?_
 intro W base args ds gs before hval hW hcnd hsz _
 refine law_calls' (P:=Tryz.prog) Tryz.laidOut' (by kernel_rfl) (by kernel_rfl) rfl ?_ (tb:=T.bool) (by kernel_rfl) (by kernel_rfl) ?_ hval hW hsz
 ·intro ds h
  obtain ⟨a0,r0,rfl,k0⟩:=len_cons (n:=1) h
  obtain ⟨a1,rfl⟩:=len1 k0
  rfl
 ·intro avss h
  rw [show Tryz.f8.params.toList=[45,29] by rw [Tryz.params8]] at h ⊢
  obtain ⟨x1,xs,rfl,h1,h⟩:=args_cons h
  obtain ⟨x2,xs,rfl,h2,h⟩:=args_cons h
  obtain rfl:=args_nil h
  obtain ⟨b,f,rfl,hb⟩:=dec_bs h1.2
  obtain ⟨X,Y,g,rfl,hX,hY⟩:=dec_pt h2.2
  have e29:isAggT Tryz.prog 29=true:=by simp [isAggT,Tryz.underlying29]
  have e45:isAggT Tryz.prog 45=false:=by simp [isAggT,Tryz.underlying45]
  simp only [argAVs,avOf,e29,e45,if_true,Bool.false_eq_true,if_false,List.headD_cons]
  exact t_RecordOpens (Sl.vB b f) hX hY
theorem recordOpens_holds:Rows.RecordOpensSaid :=
 OpenClaim.holds_of_wide 8 Tryz.f8 rfl rfl rfl rfl rfl rfl rfl ⟨rfl,rfl,rfl,rfl,rfl⟩ rfl rfl rfl rfl rfl (by kernel_rfl) Tryz.func8 (by kernel_rfl)
  (of_decide_eq_true (by kernel_rfl)) (by unfold Func.isWrapper; first | (rw [if_pos (by decide +kernel)]; kernel_rfl) | (rw [if_neg (by decide +kernel)]; exact ⟨rfl,rfl⟩))
  (fun os started H enc _ => recordOpens_lifted os started H enc)
end Go.Proofs.YtgfploghjpbcaaaGreat

