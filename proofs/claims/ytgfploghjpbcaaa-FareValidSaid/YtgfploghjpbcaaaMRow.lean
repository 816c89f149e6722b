/- 'FareValid' holds for every input: a verdict is Valid just if the ticket checks, isn't revoked, and covers; with more serials revoked none becomes Valid. No condition. -/
import Derived.Test.YtgfploghjpbcaaaRows
import Derived.Test.YtgfploghjpbcaaaMFa
import Derived.Test.YtgfploghjpbcaaaMDc
import Derived.Test.YtgfploghjpbcaaaME6
namespace Go.Proofs.Ytgfploghjpbcaaa
open Go Go.ChangeShapes Go.WideShapes Go.ChangeAt Go.RowKit Go.Proofs.Ytgfploghjpbcaaa.Eng
set_option linter.unusedVariables false
set_option linter.unusedSimpArgs false
theorem Try.own':ownKnob Try.prog.godebug=none:=by kernel_rfl
theorem Try.laidOut':laidOutB Try.prog=true:=by kernel_rfl
set_option maxRecDepth 100000 in
theorem fareValid_lifted (os:Os) (started:os.Started) (H:Type) (enc:TypeId × Value→H) :
  ReturnsInHanded {} Try.checked os 9 .any (Rows.fareValidSpec.pre6 enc Try.prog Try.f9 Rows.fareValidRow.domain false) (Rows.fareValidSpec.post enc Try.prog Try.f9 false true false false):=by
 refine returnsInHanded_of_change_sized (C:=Try.checked) Try.own' started (by kernel_rfl) Try.func9
  (ChangeSpec.witness6 (enc:=enc) (C:=Try.checked) false ⟨#[],#[.slice none 0 0,.slice none 0 0,.slice none 0 0,.slice none 0 0,.slice none 0 0,.int .i64 0,.int .i64 0],[]⟩ 12 (by kernel_rfl) (by kernel_rfl) (by kernel_rfl) (by kernel_rfl)) ?_
 intro W base args ds gs before hval hW hcnd hsz _
 refine law_calls' (P:=Try.prog) Try.laidOut' (by kernel_rfl) (by kernel_rfl) rfl ?_ (tb:=T.bool) (by kernel_rfl) (by kernel_rfl) ?_ hval hW hsz
 ·intro ds h
  obtain ⟨a0,r0,rfl,k0⟩:=len_cons (n:=6) h
  obtain ⟨a1,r1,rfl,k1⟩:=len_cons (n:=5) k0
  obtain ⟨a2,r2,rfl,k2⟩:=len_cons (n:=4) k1
  obtain ⟨a3,r3,rfl,k3⟩:=len_cons (n:=3) k2
  obtain ⟨a4,r4,rfl,k4⟩:=len_cons (n:=2) k3
  obtain ⟨a5,r5,rfl,k5⟩:=len_cons (n:=1) k4
  obtain ⟨a6,rfl⟩:=len1 k5
  rfl
 ·intro avss h
  rw [show Try.f9.params.toList=[54,70,70,71,27,3,3] by rw [Try.params9]] at h ⊢
  obtain ⟨x1,xs,rfl,h1,h⟩:=args_cons h
  obtain ⟨x2,xs,rfl,h2,h⟩:=args_cons h
  obtain ⟨x3,xs,rfl,h3,h⟩:=args_cons h
  obtain ⟨x4,xs,rfl,h4,h⟩:=args_cons h
  obtain ⟨x5,xs,rfl,h5,h⟩:=args_cons h
  obtain ⟨x6,xs,rfl,h6,h⟩:=args_cons h
  obtain ⟨x7,xs,rfl,h7,h⟩:=args_cons h
  obtain rfl:=args_nil h
  obtain ⟨k,f1,rfl,ko,kn⟩:=dec_keys h1.2
  obtain ⟨r,f2,rfl⟩:=dec_rvs h2.2
  obtain ⟨mo,f3,rfl⟩:=dec_rvs h3.2
  obtain ⟨l,f4,rfl,lo,ln⟩:=dec_prds h4.2
  obtain ⟨b,f5,rfl,hb⟩:=dec_bs h5.2
  obtain ⟨n6,rfl,w6⟩:=shape_int Try.underlying3 h6.2
  obtain ⟨n7,rfl,w7⟩:=shape_int Try.underlying3 h7.2
  have e3:isAggT Try.prog 3=false:=by simp [isAggT,Try.underlying3]
  have e27:isAggT Try.prog 27=false:=by simp [isAggT,Try.underlying27]
  have e54:isAggT Try.prog 54=false:=by simp [isAggT,Try.underlying54]
  have e70:isAggT Try.prog 70=false:=by simp [isAggT,Try.underlying70]
  have e71:isAggT Try.prog 71=false:=by simp [isAggT,Try.underlying71]
  simp only [argAVs,avOf,e3,e27,e54,e70,e71,if_true,Bool.false_eq_true,if_false,List.headD_cons]
  exact t_FareValid (keys_sl k f1) ko (prds_sl l f4) lo ln (Sl.vB b f5) n6 n7
theorem fareValid_holds:Rows.FareValidSaid :=
 OpenClaim.holds_of_wide 9 Try.f9 rfl rfl rfl rfl rfl rfl rfl ⟨rfl,rfl,rfl,rfl,rfl⟩ rfl rfl rfl rfl rfl (by kernel_rfl) Try.func9 (by kernel_rfl)
  (of_decide_eq_true (by kernel_rfl)) (by unfold Func.isWrapper; first | (rw [if_pos (by decide +kernel)]; kernel_rfl) | (rw [if_neg (by decide +kernel)]; exact ⟨rfl,rfl⟩))
  (fun os started H enc _ => fareValid_lifted os started H enc)
end Go.Proofs.Ytgfploghjpbcaaa

