/- 'RouteLater' holds for every input: who leaves later isn't there earlier; with a ride more one isn't there later. No condition. -/
import Derived.Test.YtabpkmfgmjnipaaRows
import Derived.Test.YtabpkmfgmjnipaaMRx
import Derived.Test.YtabpkmfgmjnipaaMDc
import Derived.Test.YtabpkmfgmjnipaaME6
namespace Go.Proofs.Ytabpkmfgmjnipaa
open Go Go.ChangeShapes Go.WideShapes Go.ChangeAt Go.RowKit Go.Proofs.Ytabpkmfgmjnipaa.Eng
set_option linter.unusedVariables false
set_option linter.unusedSimpArgs false
theorem Try.own':ownKnob Try.prog.godebug=none:=by kernel_rfl
theorem Try.laidOut':laidOutB Try.prog=true:=by kernel_rfl
set_option maxRecDepth 100000 in
theorem routeLater_lifted (os:Os) (started:os.Started) (H:Type) (enc:TypeId × Value→H) :
  ReturnsInHanded {} Try.checked os 5 .any (Rows.routeLaterSpec.pre6 enc Try.prog Try.f5 Rows.routeLaterRow.domain false) (Rows.routeLaterSpec.post enc Try.prog Try.f5 false true false false):=by
 refine returnsInHanded_of_change_sized (C:=Try.checked) Try.own' started (by kernel_rfl) Try.func5
  (ChangeSpec.witness6 (enc:=enc) (C:=Try.checked) false ⟨#[],#[.agg #[.slice none 0 0,.slice none 0 0],.int .i64 0,.int .i64 0,.int .i64 0,.int .i64 0,.int .i64 0,.agg #[.int .i64 0,.int .i64 0,.int .i64 0,.int .i64 0,.int .i64 0]],[]⟩ 12 (by kernel_rfl) (by kernel_rfl) (by kernel_rfl) (by kernel_rfl)) ?_
 intro W base args ds gs before hval hW hcnd hsz _
 refine law_calls' (P:=Try.prog) Try.laidOut' (by kernel_rfl) (by kernel_rfl) rfl ?_ (tb:=T.bool) (by kernel_rfl) (by kernel_rfl) ?_ hval hW hsz
 ·intro ds h
  obtain ⟨a0,r0,rfl,k0⟩:=len_cons (n:=6) h
  obtain ⟨a1,r1,rfl,k1⟩:=len_cons (n:=5) k0
  obtain ⟨a2,r2,rfl,k2⟩:=len_cons (n:=4) k1
  obtain ⟨a3,r3,rfl,k3⟩:=len_cons (n:=3) k2
  obtain ⟨a4,r4,rfl,k4⟩:=len_cons (n:=2) k3
  obtain ⟨a5,r5,rfl,k5⟩:=len_cons (n:=1) k4
  obtain ⟨a6,rfl⟩:=len1 k5
  rfl
 ·intro avss h
  rw [show Try.f5.params.toList=[43,3,3,3,3,3,50] by rw [Try.params5]] at h ⊢
  obtain ⟨x1,xs,rfl,h1,h⟩:=args_cons h
  obtain ⟨x2,xs,rfl,h2,h⟩:=args_cons h
  obtain ⟨x3,xs,rfl,h3,h⟩:=args_cons h
  obtain ⟨x4,xs,rfl,h4,h⟩:=args_cons h
  obtain ⟨x5,xs,rfl,h5,h⟩:=args_cons h
  obtain ⟨x6,xs,rfl,h6,h⟩:=args_cons h
  obtain ⟨x7,xs,rfl,h7,h⟩:=args_cons h
  obtain rfl:=args_nil h
  obtain ⟨S,C,f,g,rfl,hS,hC⟩:=dec_net h1.2
  obtain ⟨n2,rfl,w2⟩:=shape_int Try.underlying3 h2.2
  obtain ⟨n3,rfl,w3⟩:=shape_int Try.underlying3 h3.2
  obtain ⟨n4,rfl,w4⟩:=shape_int Try.underlying3 h4.2
  obtain ⟨n5,rfl,w5⟩:=shape_int Try.underlying3 h5.2
  obtain ⟨n6,rfl,w6⟩:=shape_int Try.underlying3 h6.2
  obtain ⟨c,rfl,w7⟩:=dec_cn h7.2
  have e3:isAggT Try.prog 3=false:=by simp [isAggT,Try.underlying3]
  have e43:isAggT Try.prog 43=true:=by simp [isAggT,Try.underlying43]
  have e50:isAggT Try.prog 50=true:=by simp [isAggT,Try.underlying50]
  simp only [argAVs,avOf,e3,e43,e50,if_true,Bool.false_eq_true,if_false,List.headD_cons]
  exact t_RouteLater (svs_sl S f) (cns_sl C g) hS
theorem routeLater_holds:Rows.RouteLaterSaid :=
 OpenClaim.holds_of_wide 5 Try.f5 rfl rfl rfl rfl rfl rfl rfl ⟨rfl,rfl,rfl,rfl,rfl⟩ rfl rfl rfl rfl rfl (by kernel_rfl) Try.func5 (by kernel_rfl)
  (of_decide_eq_true (by kernel_rfl)) (by unfold Func.isWrapper; first | (rw [if_pos (by decide +kernel)]; kernel_rfl) | (rw [if_neg (by decide +kernel)]; exact ⟨rfl,rfl⟩))
  (fun os started H enc _ => routeLater_lifted os started H enc)
end Go.Proofs.Ytabpkmfgmjnipaa

