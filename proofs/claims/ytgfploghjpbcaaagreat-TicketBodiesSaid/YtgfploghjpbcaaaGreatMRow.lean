/- 'TicketBodies' holds for every input: whether any ticket may be, its body, and what any secret issues of it, are just what the document says. No condition. -/
import Derived.Test.YtgfploghjpbcaaaGreatRows
import Derived.Test.YtgfploghjpbcaaaGreatMTb
import Derived.Test.YtgfploghjpbcaaaGreatMDc
import Derived.Test.YtgfploghjpbcaaaGreatME6
namespace Go.Proofs.YtgfploghjpbcaaaGreat
open Go Go.ChangeShapes Go.WideShapes Go.ChangeAt Go.RowKit Go.Proofs.YtgfploghjpbcaaaGreat.Eng
set_option linter.unusedVariables false
set_option linter.unusedSimpArgs false
theorem Tryz.own':ownKnob Tryz.prog.godebug=none:=by kernel_rfl
theorem Tryz.laidOut':laidOutB Tryz.prog=true:=by kernel_rfl
set_option maxRecDepth 100000 in
theorem ticketBodies_lifted (os:Os) (started:os.Started) (H:Type) (enc:TypeId × Value→H) :
  ReturnsInHanded {} Tryz.checked os 9 .any (Rows.ticketBodiesSpec.pre6 enc Tryz.prog Tryz.f9 Rows.ticketBodiesRow.domain false) (Rows.ticketBodiesSpec.post enc Tryz.prog Tryz.f9 false true false false):=by
 refine returnsInHanded_of_change_sized (C:=Tryz.checked) Tryz.own' started (by kernel_rfl) Tryz.func9
  (ChangeSpec.witness6 (enc:=enc) (C:=Tryz.checked) false ⟨#[],#[.agg #[.int .i64 0,.int .i64 0,.int .i64 0,.int .i64 0,.int .i64 0],.agg #[.int .u64 0,.int .u64 0,.int .u64 0,.int .u64 0]],[]⟩ 12 (by kernel_rfl) (by kernel_rfl) (by kernel_rfl) (by kernel_rfl)) ?_
 intro W base args ds gs before hval hW hcnd hsz _
 refine law_calls' (P:=Tryz.prog) Tryz.laidOut' (by kernel_rfl) (by kernel_rfl) rfl ?_ (tb:=T.bool) (by kernel_rfl) (by kernel_rfl) ?_ hval hW hsz
 ·intro ds h
  obtain ⟨a0,r0,rfl,k0⟩:=len_cons (n:=1) h
  obtain ⟨a1,rfl⟩:=len1 k0
  rfl
 ·intro avss h
  rw [show Tryz.f9.params.toList=[47,24] by rw [Tryz.params9]] at h ⊢
  obtain ⟨x1,xs,rfl,h1,h⟩:=args_cons h
  obtain ⟨x2,xs,rfl,h2,h⟩:=args_cons h
  obtain rfl:=args_nil h
  obtain ⟨t,rfl⟩:=dec_tkt h1.2
  obtain ⟨n,rfl,hn⟩:=dec_num h2.2
  have e24:isAggT Tryz.prog 24=true:=by simp [isAggT,Tryz.underlying24]
  have e47:isAggT Tryz.prog 47=true:=by simp [isAggT,Tryz.underlying47]
  simp only [argAVs,avOf,e24,e47,if_true,Bool.false_eq_true,if_false,List.headD_cons]
  exact t_TicketBodies hn
theorem ticketBodies_holds:Rows.TicketBodiesSaid :=
 OpenClaim.holds_of_wide 9 Tryz.f9 rfl rfl rfl rfl rfl rfl rfl ⟨rfl,rfl,rfl,rfl,rfl⟩ rfl rfl rfl rfl rfl (by kernel_rfl) Tryz.func9 (by kernel_rfl)
  (of_decide_eq_true (by kernel_rfl)) (by unfold Func.isWrapper; first | (rw [if_pos (by decide +kernel)]; kernel_rfl) | (rw [if_neg (by decide +kernel)]; exact ⟨rfl,rfl⟩))
  (fun os started H enc _ => ticketBodies_lifted os started H enc)
end Go.Proofs.YtgfploghjpbcaaaGreat

