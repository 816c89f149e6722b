/- 'ServiceWeeks', 'ServiceRuns', 'ServiceNext' hold for every input. -/
import Derived.Test.YtdgabfeeoplldaaRows
import Derived.Test.YtdgabfeeoplldaaSer4
namespace Go.Proofs.Ytdgabfeeoplldaa
open Go Go.ChangeShapes Go.WideShapes Go.ChangeAt Go.RowKit Go.Proofs.Ytdgabfeeoplldaa.Eng
set_option linter.unusedVariables false
theorem Try.own' : ownKnob Try.prog.godebug = none := by kernel_rfl
theorem Try.laidOut' : laidOutB Try.prog = true := by kernel_rfl
set_option maxRecDepth 100000 in
theorem serviceWeeks_lifted (os : Os) (started : os.Started) (H : Type) (enc : TypeId × Value → H) :
    ReturnsInHanded {} Try.checked os 6 .any (Rows.serviceWeeksSpec.pre6 enc Try.prog Try.f6 Rows.serviceWeeksRow.domain false) (Rows.serviceWeeksSpec.post enc Try.prog Try.f6 false true false false) := by
  refine returnsInHanded_of_change (C := Try.checked) Try.own' started (by kernel_rfl) Try.func6
    (ChangeSpec.witness6 (enc := enc) (C := Try.checked) false ⟨#[], #[.int .i64 0, .int .i64 0, .int .i64 0, .int .i64 0], []⟩ 8 (by kernel_rfl) (by kernel_rfl) (by kernel_rfl) (by kernel_rfl)) ?_
  intro W base args ds gs before hval hW hcnd _
  refine law_calls' (P := Try.prog) Try.laidOut' (by kernel_rfl) (by kernel_rfl) rfl ?_ (tb := Eng.T.bool) (by kernel_rfl) (by kernel_rfl) ?_ hval hW
  · intro ds h
    obtain ⟨a, r1, rfl, k1⟩ := len_cons (n := 3) h
    obtain ⟨b, r2, rfl, k2⟩ := len_cons k1
    obtain ⟨c, r3, rfl, k3⟩ := len_cons k2
    obtain ⟨e, rfl⟩ := len1 k3
    rfl
  · intro avss h
    rw [show Try.f6.params.toList = [3, 3, 3, 3] by rw [Try.params6]] at h ⊢
    obtain ⟨x1, xs, rfl, h1, h⟩ := args_cons h
    obtain ⟨x2, xs, rfl, h2, h⟩ := args_cons h
    obtain ⟨x3, xs, rfl, h3, h⟩ := args_cons h
    obtain ⟨x4, xs, rfl, h4, h⟩ := args_cons h
    obtain rfl := args_nil h
    obtain ⟨n1, rfl, w1⟩ := shape_int Try.underlying3 h1.2
    obtain ⟨n2, rfl, w2⟩ := shape_int Try.underlying3 h2.2
    obtain ⟨n3, rfl, w3⟩ := shape_int Try.underlying3 h3.2
    obtain ⟨n4, rfl, w4⟩ := shape_int Try.underlying3 h4.2
    have e : isAggT Try.prog 3 = false := by simp [isAggT, Try.underlying3]
    simp only [argAVs, avOf, e, Bool.false_eq_true, if_false, List.headD_cons]
    exact t_Weeks n1 n2 n3 n4 [] (ok64_of w1) (ok64_of w2) (ok64_of w3) (ok64_of w4)
theorem serviceWeeks_holds : Rows.ServiceWeeksSaid :=
  OpenClaim.holds_of_wide 6 Try.f6 rfl rfl rfl rfl rfl rfl rfl ⟨rfl, rfl, rfl, rfl, rfl⟩ rfl rfl rfl rfl rfl (by kernel_rfl) Try.func6 (by kernel_rfl)
    (of_decide_eq_true (by kernel_rfl)) (by unfold Func.isWrapper; first | (rw [if_pos (by decide +kernel)]; kernel_rfl) | (rw [if_neg (by decide +kernel)]; exact ⟨rfl, rfl⟩))
    (fun os started H enc _ => serviceWeeks_lifted os started H enc)
end Go.Proofs.Ytdgabfeeoplldaa
