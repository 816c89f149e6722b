/- 'DeviceVerdicts' holds for every input: a verdict is that of layer 14 by the data that the device has then. No condition. -/
import Derived.Test.YtcgjlpdkobmpnaaGreatRows
import Derived.Test.YtcgjlpdkobmpnaaGreatMDy
import Derived.Test.YtcgjlpdkobmpnaaGreatMDc
import Derived.Test.YtcgjlpdkobmpnaaGreatME6
namespace Go.Proofs.YtcgjlpdkobmpnaaGreat
open Go Go.ChangeShapes Go.WideShapes Go.ChangeAt Go.RowKit Go.Proofs.YtcgjlpdkobmpnaaGreat.Eng
set_option linter.unusedVariables false
set_option linter.unusedSimpArgs false
theorem Tryz.own' : ownKnob Tryz.prog.godebug = none := by kernel_rfl
theorem Tryz.laidOut' : laidOutB Tryz.prog = true := by kernel_rfl
set_option maxRecDepth 100000 in
theorem Pv (os:Os) (started:os.Started) (H:Type) (enc:TypeId × Value→H) :
  ReturnsInHanded {} Tryz.checked os 6 .any (Rows.deviceVerdictsSpec.pre6 enc Tryz.prog Tryz.f6 Rows.deviceVerdictsRow.domain false) (Rows.deviceVerdictsSpec.post enc Tryz.prog Tryz.f6 false true false false):=by
 refine returnsInHanded_of_change_sized (C:=Tryz.checked) Tryz.own' started (by kernel_rfl) Tryz.func6
  (ChangeSpec.witness6 (enc:=enc) (C:=Tryz.checked) false ⟨#[],#[.agg #[.slice none 0 0,.slice none 0 0,.slice none 0 0],.agg #[.slice none 0 0,.slice none 0 0,.slice none 0 0],.slice none 0 0,.int .i64 0,.int .i64 0,.int .i64 0],[]⟩ 12 (by kernel_rfl) (by kernel_rfl) (by kernel_rfl) (by kernel_rfl)) ?_
 intro W base args ds gs before hval hW hcnd hsz _
 refine Zhn (P:=Tryz.prog) Tryz.laidOut' (by kernel_rfl) (by kernel_rfl) rfl ?_ (tb:=T.bool) (by kernel_rfl) (by kernel_rfl) ?_ hval hW hsz
 ·intro ds h
  obtain ⟨a0,r0,rfl,k0⟩:=Mw (n:=5) h
  obtain ⟨a1,r1,rfl,k1⟩:=Mw (n:=4) k0
  obtain ⟨a2,r2,rfl,k2⟩:=Mw (n:=3) k1
  obtain ⟨a3,r3,rfl,k3⟩:=Mw (n:=2) k2
  obtain ⟨a4,r4,rfl,k4⟩:=Mw (n:=1) k3
  obtain ⟨a5,rfl⟩:=len1 k4
  rfl
 ·intro avss h
  rw [show Tryz.f6.params.toList=[26,26,37,3,3,3] by rw [Tryz.params6]] at h ⊢
  obtain ⟨x1,xs,rfl,h1,h⟩:=Rj h
  obtain ⟨x2,xs,rfl,h2,h⟩:=Rj h
  obtain ⟨x3,xs,rfl,h3,h⟩:=Rj h
  obtain ⟨x4,xs,rfl,h4,h⟩:=Rj h
  obtain ⟨x5,xs,rfl,h5,h⟩:=Rj h
  obtain ⟨x6,xs,rfl,h6,h⟩:=Rj h
  obtain rfl:=Zsz h
  obtain ⟨k,r,l,f1,f2,f3,rfl,ko,lo,ln⟩:=Zfq h1.2
  obtain ⟨k2,r2,l2,g1,g2,g3,rfl,ko2,lo2,ln2⟩:=Zfq h2.2
  obtain ⟨b,f4,rfl,hb⟩:=Z3g h3.2
  obtain ⟨n4,rfl,w4⟩:=Xg Tryz.underlying3 h4.2
  obtain ⟨n5,rfl,w5⟩:=Xg Tryz.underlying3 h5.2
  obtain ⟨n6,rfl,w6⟩:=Xg Tryz.underlying3 h6.2
  have e3:Yk Tryz.prog 3=false:=by simp [Yk,Tryz.underlying3]
  have e26:Yk Tryz.prog 26=true:=by simp [Yk,Tryz.underlying26]
  have e37:Yk Tryz.prog 37=false:=by simp [Yk,Tryz.underlying37]
  simp only [Zax,avOf,e3,e26,e37,if_true,Bool.false_eq_true,if_false,List.headD_cons]
  exact D.t_DeviceVerdicts (Zfa k f1) ko (Zkq r f2) (Zeu l f3) lo ln (Zfa k2 g1) ko2 (Zkq r2 g2) (Zeu l2 g3) lo2 ln2 (fun G => Sl.vB b f4) n4 n5 n6
set_option maxRecDepth 100000 in
set_option maxHeartbeats 40000000 in
theorem Ov:joinedFacts Tryz.prog 6 Tryz.f6 Rows.deviceVerdictsSpec Rows.deviceVerdictsRow=true:=by
 unfold joinedFacts
 simp only [Bool.and_eq_true]
 repeat' (with_reducible refine And.intro ?_ ?_)
 all_goals (as_aux_lemma => kernel_rfl)
theorem deviceVerdicts_holds:Rows.DeviceVerdictsSaid :=
 OpenClaim.holds_of_wide 6 Tryz.f6 rfl rfl rfl rfl rfl rfl rfl ⟨rfl,rfl,rfl,rfl,rfl⟩ rfl rfl rfl rfl rfl (by kernel_rfl) Tryz.func6 Ov
  (of_decide_eq_true (by kernel_rfl)) (by unfold Func.isWrapper; first | (rw [if_pos (by decide +kernel)]; kernel_rfl) | (rw [if_neg (by decide +kernel)]; exact ⟨rfl,rfl⟩))
  (fun os started H enc _ => Pv os started H enc)
end Go.Proofs.YtcgjlpdkobmpnaaGreat

