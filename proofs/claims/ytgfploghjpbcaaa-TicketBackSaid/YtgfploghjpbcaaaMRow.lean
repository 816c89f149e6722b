/- 'TicketBack' holds for every input: what was issued with a secret checks with its key, as the ticket that it was, and the key is on the curve; what opens has just those bytes. No condition. -/
import Derived.Test.YtgfploghjpbcaaaRows
import Derived.Test.YtgfploghjpbcaaaMPb
import Derived.Test.YtgfploghjpbcaaaMDc
import Derived.Test.YtgfploghjpbcaaaME6
namespace Go.Proofs.Ytgfploghjpbcaaa
open Go Go.ChangeShapes Go.WideShapes Go.ChangeAt Go.RowKit Go.Proofs.Ytgfploghjpbcaaa.Eng
set_option linter.unusedVariables false
set_option linter.unusedSimpArgs false
theorem Try.own':ownKnob Try.prog.godebug=none:=by kernel_rfl
theorem Try.laidOut':laidOutB Try.prog=true:=by kernel_rfl
set_option maxRecDepth 100000 in
theorem ticketBack_lifted (os:Os) (started:os.Started) (H:Type) (enc:TypeId × Value→H) :
  ReturnsInHanded {} Try.checked os 8 .any (Rows.ticketBackSpec.pre6 enc Try.prog Try.f8 Rows.ticketBackRow.domain false) (Rows.ticketBackSpec.post enc Try.prog Try.f8 false true false false):=by
 refine returnsInHanded_of_change_sized (C:=Try.checked) Try.own' started (by kernel_rfl) Try.func8
  (ChangeSpec.witness6 (enc:=enc) (C:=Try.checked) false ⟨#[],#[.agg #[.int .i64 0,.int .i64 0,.int .i64 0,.int .i64 0,.int .i64 0],.agg #[.int .u64 0,.int .u64 0,.int .u64 0,.int .u64 0],.slice none 0 0],[]⟩ 12 (by kernel_rfl) (by kernel_rfl) (by kernel_rfl) (by kernel_rfl)) ?_
 intro W base args ds gs before hval hW hcnd hsz _
 refine law_calls' (P:=Try.prog) Try.laidOut' (by kernel_rfl) (by kernel_rfl) rfl ?_ (tb:=T.bool) (by kernel_rfl) (by kernel_rfl) ?_ hval hW hsz
 ·intro ds h
  obtain ⟨a0,r0,rfl,k0⟩:=len_cons (n:=2) h
  obtain ⟨a1,r1,rfl,k1⟩:=len_cons (n:=1) k0
  obtain ⟨a2,rfl⟩:=len1 k1
  rfl
 ·intro avss h
  rw [show Try.f8.params.toList=[60,24,27] by rw [Try.params8]] at h ⊢
  obtain ⟨x1,xs,rfl,h1,h⟩:=args_cons h
  obtain ⟨x2,xs,rfl,h2,h⟩:=args_cons h
  obtain ⟨x3,xs,rfl,h3,h⟩:=args_cons h
  obtain rfl:=args_nil h
  obtain ⟨t,rfl⟩:=dec_tkt h1.2
  obtain ⟨n,rfl,hn⟩:=dec_num h2.2
  obtain ⟨b,f,rfl,hb⟩:=dec_bs h3.2
  have e24:isAggT Try.prog 24=true:=by simp [isAggT,Try.underlying24]
  have e27:isAggT Try.prog 27=false:=by simp [isAggT,Try.underlying27]
  have e60:isAggT Try.prog 60=true:=by simp [isAggT,Try.underlying60]
  simp only [argAVs,avOf,e24,e27,e60,if_true,Bool.false_eq_true,if_false,List.headD_cons]
  exact t_TicketBack hn
theorem ticketBack_holds:Rows.TicketBackSaid :=
 OpenClaim.holds_of_wide 8 Try.f8 rfl rfl rfl rfl rfl rfl rfl ⟨rfl,rfl,rfl,rfl,rfl⟩ rfl rfl rfl rfl rfl (by kernel_rfl) Try.func8 (by kernel_rfl)
  (of_decide_eq_true (by kernel_rfl)) (by unfold Func.isWrapper; first | (rw [if_pos (by decide +kernel)]; kernel_rfl) | (rw [if_neg (by decide +kernel)]; exact ⟨rfl,rfl⟩))
  (fun os started H enc _ => ticketBack_lifted os started H enc)
end Go.Proofs.Ytgfploghjpbcaaa

