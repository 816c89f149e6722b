/- 'SignVerifies' holds for every input: whether any signature of any digest holds for any key is just what the document says. No condition. -/
import Derived.Test.YtgfploghjpbcaaaGreatRows
import Derived.Test.YtgfploghjpbcaaaGreatMSq
import Derived.Test.YtgfploghjpbcaaaGreatMDc
import Derived.Test.YtgfploghjpbcaaaGreatME6
namespace Go.Proofs.YtgfploghjpbcaaaGreat
open Go Go.ChangeShapes Go.WideShapes Go.ChangeAt Go.RowKit Go.Proofs.YtgfploghjpbcaaaGreat.Eng
set_option linter.unusedVariables false
set_option linter.unusedSimpArgs false
theorem Tryz.own':ownKnob Tryz.prog.godebug=none:=by kernel_rfl
theorem Tryz.laidOut':laidOutB Tryz.prog=true:=by kernel_rfl
set_option maxRecDepth 100000 in
theorem signVerifies_lifted (os:Os) (started:os.Started) (H:Type) (enc:TypeId × Value→H) :
  ReturnsInHanded {} Tryz.checked os 4 .any (Rows.signVerifiesSpec.pre6 enc Tryz.prog Tryz.f4 Rows.signVerifiesRow.domain false) (Rows.signVerifiesSpec.post enc Tryz.prog Tryz.f4 false true false false):=by
 refine returnsInHanded_of_change_sized (C:=Tryz.checked) Tryz.own' started (by kernel_rfl) Tryz.func4
  (ChangeSpec.witness6 (enc:=enc) (C:=Tryz.checked) false ⟨#[],#[.agg #[.int .u64 0,.int .u64 0,.int .u64 0,.int .u64 0,.int .u64 0,.int .u64 0,.int .u64 0,.int .u64 0,.bool false],.agg #[.int .u8 0,.int .u8 0,.int .u8 0,.int .u8 0,.int .u8 0,.int .u8 0,.int .u8 0,.int .u8 0,.int .u8 0,.int .u8 0,.int .u8 0,.int .u8 0,.int .u8 0,.int .u8 0,.int .u8 0,.int .u8 0,.int .u8 0,.int .u8 0,.int .u8 0,.int .u8 0,.int .u8 0,.int .u8 0,.int .u8 0,.int .u8 0,.int .u8 0,.int .u8 0,.int .u8 0,.int .u8 0,.int .u8 0,.int .u8 0,.int .u8 0,.int .u8 0],.agg #[.int .u64 0,.int .u64 0,.int .u64 0,.int .u64 0,.int .u64 0,.int .u64 0,.int .u64 0,.int .u64 0]],[]⟩ 12 (by kernel_rfl) (by kernel_rfl) (by kernel_rfl) (by kernel_rfl)) ?_
 intro W base args ds gs before hval hW hcnd hsz _
 refine law_calls' (P:=Tryz.prog) Tryz.laidOut' (by kernel_rfl) (by kernel_rfl) rfl ?_ (tb:=T.bool) (by kernel_rfl) (by kernel_rfl) ?_ hval hW hsz
 ·intro ds h
  obtain ⟨a0,r0,rfl,k0⟩:=len_cons (n:=2) h
  obtain ⟨a1,r1,rfl,k1⟩:=len_cons (n:=1) k0
  obtain ⟨a2,rfl⟩:=len1 k1
  rfl
 ·intro avss h
  rw [show Tryz.f4.params.toList=[29,26,35] by rw [Tryz.params4]] at h ⊢
  obtain ⟨x1,xs,rfl,h1,h⟩:=args_cons h
  obtain ⟨x2,xs,rfl,h2,h⟩:=args_cons h
  obtain ⟨x3,xs,rfl,h3,h⟩:=args_cons h
  obtain rfl:=args_nil h
  obtain ⟨X,Y,g,rfl,hX,hY⟩:=dec_pt h1.2
  obtain ⟨l,rfl,hl⟩:=dec_dig h2.2
  obtain ⟨r,s,rfl,hr,hs⟩:=dec_sig h3.2
  have e26:isAggT Tryz.prog 26=true:=by simp [isAggT,Tryz.underlying26]
  have e29:isAggT Tryz.prog 29=true:=by simp [isAggT,Tryz.underlying29]
  have e35:isAggT Tryz.prog 35=true:=by simp [isAggT,Tryz.underlying35]
  simp only [argAVs,avOf,e26,e29,e35,if_true,Bool.false_eq_true,if_false,List.headD_cons]
  exact t_SignVerifies hX hY hr hs hl
theorem signVerifies_holds:Rows.SignVerifiesSaid :=
 OpenClaim.holds_of_wide 4 Tryz.f4 rfl rfl rfl rfl rfl rfl rfl ⟨rfl,rfl,rfl,rfl,rfl⟩ rfl rfl rfl rfl rfl (by kernel_rfl) Tryz.func4 (by kernel_rfl)
  (of_decide_eq_true (by kernel_rfl)) (by unfold Func.isWrapper; first | (rw [if_pos (by decide +kernel)]; kernel_rfl) | (rw [if_neg (by decide +kernel)]; exact ⟨rfl,rfl⟩))
  (fun os started H enc _ => signVerifies_lifted os started H enc)
end Go.Proofs.YtgfploghjpbcaaaGreat

