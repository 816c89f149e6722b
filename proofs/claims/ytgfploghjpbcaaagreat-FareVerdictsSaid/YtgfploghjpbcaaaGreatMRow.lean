/- 'FareVerdicts' holds for every input: the verdict on any bytes, by any keys, revoked ones, and products, is just what the document says. No condition. -/
import Derived.Test.YtgfploghjpbcaaaGreatRows
import Derived.Test.YtgfploghjpbcaaaGreatMFv
import Derived.Test.YtgfploghjpbcaaaGreatMDc
import Derived.Test.YtgfploghjpbcaaaGreatME6
namespace Go.Proofs.YtgfploghjpbcaaaGreat
open Go Go.ChangeShapes Go.WideShapes Go.ChangeAt Go.RowKit Go.Proofs.YtgfploghjpbcaaaGreat.Eng
set_option linter.unusedVariables false
set_option linter.unusedSimpArgs false
theorem Tryz.own':ownKnob Tryz.prog.godebug=none:=by kernel_rfl
theorem Tryz.laidOut':laidOutB Tryz.prog=true:=by kernel_rfl
set_option maxRecDepth 100000 in
theorem fareVerdicts_lifted (os:Os) (started:os.Started) (H:Type) (enc:TypeId × Value→H) :
  ReturnsInHanded {} Tryz.checked os 11 .any (Rows.fareVerdictsSpec.pre6 enc Tryz.prog Tryz.f11 Rows.fareVerdictsRow.domain false) (Rows.fareVerdictsSpec.post enc Tryz.prog Tryz.f11 false true false false):=by
 refine returnsInHanded_of_change_sized (C:=Tryz.checked) Tryz.own' started (by kernel_rfl) Tryz.func11
  (ChangeSpec.witness6 (enc:=enc) (C:=Tryz.checked) false ⟨#[],#[.slice none 0 0,.slice none 0 0,.slice none 0 0,.slice none 0 0,.int .i64 0,.int .i64 0],[]⟩ 12 (by kernel_rfl) (by kernel_rfl) (by kernel_rfl) (by kernel_rfl)) ?_
 intro W base args ds gs before hval hW hcnd hsz _
 refine law_calls' (P:=Tryz.prog) Tryz.laidOut' (by kernel_rfl) (by kernel_rfl) rfl ?_ (tb:=T.bool) (by kernel_rfl) (by kernel_rfl) ?_ hval hW hsz
 ·intro ds h
  obtain ⟨a0,r0,rfl,k0⟩:=len_cons (n:=5) h
  obtain ⟨a1,r1,rfl,k1⟩:=len_cons (n:=4) k0
  obtain ⟨a2,r2,rfl,k2⟩:=len_cons (n:=3) k1
  obtain ⟨a3,r3,rfl,k3⟩:=len_cons (n:=2) k2
  obtain ⟨a4,r4,rfl,k4⟩:=len_cons (n:=1) k3
  obtain ⟨a5,rfl⟩:=len1 k4
  rfl
 ·intro avss h
  rw [show Tryz.f11.params.toList=[61,86,83,45,3,3] by rw [Tryz.params11]] at h ⊢
  obtain ⟨x1,xs,rfl,h1,h⟩:=args_cons h
  obtain ⟨x2,xs,rfl,h2,h⟩:=args_cons h
  obtain ⟨x3,xs,rfl,h3,h⟩:=args_cons h
  obtain ⟨x4,xs,rfl,h4,h⟩:=args_cons h
  obtain ⟨x5,xs,rfl,h5,h⟩:=args_cons h
  obtain ⟨x6,xs,rfl,h6,h⟩:=args_cons h
  obtain rfl:=args_nil h
  obtain ⟨k,f1,rfl,ko,kn⟩:=dec_keys h1.2
  obtain ⟨r,f2,rfl⟩:=dec_rvs h2.2
  obtain ⟨l,f3,rfl,lo,ln⟩:=dec_prds h3.2
  obtain ⟨b,f4,rfl,hb⟩:=dec_bs h4.2
  obtain ⟨n5,rfl,w5⟩:=shape_int Tryz.underlying3 h5.2
  obtain ⟨n6,rfl,w6⟩:=shape_int Tryz.underlying3 h6.2
  have e3:isAggT Tryz.prog 3=false:=by simp [isAggT,Tryz.underlying3]
  have e45:isAggT Tryz.prog 45=false:=by simp [isAggT,Tryz.underlying45]
  have e61:isAggT Tryz.prog 61=false:=by simp [isAggT,Tryz.underlying61]
  have e83:isAggT Tryz.prog 83=false:=by simp [isAggT,Tryz.underlying83]
  have e86:isAggT Tryz.prog 86=false:=by simp [isAggT,Tryz.underlying86]
  simp only [argAVs,avOf,e3,e45,e61,e83,e86,if_true,Bool.false_eq_true,if_false,List.headD_cons]
  exact t_FareVerdicts (keys_sl k f1) ko (rvs_sl r f2) (prds_sl l f3) lo ln (Sl.vB b f4) n5 n6
theorem fareVerdicts_holds:Rows.FareVerdictsSaid :=
 OpenClaim.holds_of_wide 11 Tryz.f11 rfl rfl rfl rfl rfl rfl rfl ⟨rfl,rfl,rfl,rfl,rfl⟩ rfl rfl rfl rfl rfl (by kernel_rfl) Tryz.func11 (by kernel_rfl)
  (of_decide_eq_true (by kernel_rfl)) (by unfold Func.isWrapper; first | (rw [if_pos (by decide +kernel)]; kernel_rfl) | (rw [if_neg (by decide +kernel)]; exact ⟨rfl,rfl⟩))
  (fun os started H enc _ => fareVerdicts_lifted os started H enc)
end Go.Proofs.YtgfploghjpbcaaaGreat

