/- 'FareCovers' holds for every input: products may be just as the document says, and a ticket covers a zone at a minute just as the document says. No condition. -/
import Derived.Test.YtgfploghjpbcaaaGreatRows
import Derived.Test.YtgfploghjpbcaaaGreatFc6
import Derived.Test.YtgfploghjpbcaaaGreatEngT
namespace Go.Proofs.YtgfploghjpbcaaaGreat
open Go Go.ChangeShapes Go.WideShapes Go.ChangeAt Go.RowKit Go.Proofs.YtgfploghjpbcaaaGreat.Eng
set_option linter.unusedVariables false
set_option linter.unusedSimpArgs false
theorem Tryz.own' : ownKnob Tryz.prog.godebug = none := by kernel_rfl
theorem Tryz.laidOut' : laidOutB Tryz.prog = true := by kernel_rfl
set_option maxRecDepth 100000 in
theorem fareCovers_lifted (os : Os) (started : os.Started) (H : Type) (enc : TypeId × Value → H) :
    ReturnsInHanded {} Tryz.checked os 10 .any (Rows.fareCoversSpec.pre6 enc Tryz.prog Tryz.f10 Rows.fareCoversRow.domain false) (Rows.fareCoversSpec.post enc Tryz.prog Tryz.f10 false true false false) := by
  refine returnsInHanded_of_change_sized (C := Tryz.checked) Tryz.own' started (by kernel_rfl) Tryz.func10
    (ChangeSpec.witness6 (enc := enc) (C := Tryz.checked) false ⟨#[], #[.slice none 0 0, .agg #[.int .i64 0, .int .i64 0, .int .i64 0, .int .i64 0, .int .i64 0], .int .i64 0, .int .i64 0], []⟩ 12 (by kernel_rfl) (by kernel_rfl) (by kernel_rfl) (by kernel_rfl)) ?_
  intro W base args ds gs before hval hW hcnd hsz _
  refine law_calls' (P := Tryz.prog) Tryz.laidOut' (by kernel_rfl) (by kernel_rfl) rfl ?_ (tb := T.bool) (by kernel_rfl) (by kernel_rfl) ?_ hval hW hsz
  · intro ds h
    obtain ⟨a0, r0, rfl, k0⟩ := len_cons (n := 3) h
    obtain ⟨a1, r1, rfl, k1⟩ := len_cons (n := 2) k0
    obtain ⟨a2, r2, rfl, k2⟩ := len_cons (n := 1) k1
    obtain ⟨a3, rfl⟩ := len1 k2
    rfl
  · intro avss h
    rw [show Tryz.f10.params.toList = [83, 47, 3, 3] by rw [Tryz.params10]] at h ⊢
    obtain ⟨x1, xs, rfl, h1, h⟩ := args_cons h
    obtain ⟨x2, xs, rfl, h2, h⟩ := args_cons h
    obtain ⟨x3, xs, rfl, h3, h⟩ := args_cons h
    obtain ⟨x4, xs, rfl, h4, h⟩ := args_cons h
    obtain rfl := args_nil h
    obtain ⟨l, f, rfl, hl, hn⟩ := dec_prds h1.2
    obtain ⟨t, rfl⟩ := dec_tkt h2.2
    obtain ⟨n3, rfl, w3⟩ := shape_int Tryz.underlying3 h3.2
    obtain ⟨n4, rfl, w4⟩ := shape_int Tryz.underlying3 h4.2
    have e3 : isAggT Tryz.prog 3 = false := by simp [isAggT, Tryz.underlying3]
    have e47 : isAggT Tryz.prog 47 = true := by simp [isAggT, Tryz.underlying47]
    have e83 : isAggT Tryz.prog 83 = false := by simp [isAggT, Tryz.underlying83]
    simp only [argAVs, avOf, e3, e47, e83, if_true, Bool.false_eq_true, if_false, List.headD_cons]
    exact t_FareCovers (prds_sl l f) hl hn t n3 n4
theorem fareCovers_holds : Rows.FareCoversSaid :=
  OpenClaim.holds_of_wide 10 Tryz.f10 rfl rfl rfl rfl rfl rfl rfl ⟨rfl, rfl, rfl, rfl, rfl⟩ rfl rfl rfl rfl rfl (by kernel_rfl) Tryz.func10 (by kernel_rfl)
    (of_decide_eq_true (by kernel_rfl)) (by unfold Func.isWrapper; first | (rw [if_pos (by decide +kernel)]; kernel_rfl) | (rw [if_neg (by decide +kernel)]; exact ⟨rfl, rfl⟩))
    (fun os started H enc _ => fareCovers_lifted os started H enc)
end Go.Proofs.YtgfploghjpbcaaaGreat
