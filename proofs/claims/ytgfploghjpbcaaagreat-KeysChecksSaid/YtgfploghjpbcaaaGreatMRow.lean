/- 'KeysChecks' holds for every input: what any bytes check as with any keys at any minute is just what the document says. No condition. -/
import Derived.Test.YtgfploghjpbcaaaGreatRows
import Derived.Test.YtgfploghjpbcaaaGreatMKc
import Derived.Test.YtgfploghjpbcaaaGreatMDc
import Derived.Test.YtgfploghjpbcaaaGreatME6
namespace Go.Proofs.YtgfploghjpbcaaaGreat
open Go Go.ChangeShapes Go.WideShapes Go.ChangeAt Go.RowKit Go.Proofs.YtgfploghjpbcaaaGreat.Eng
set_option linter.unusedVariables false
set_option linter.unusedSimpArgs false
theorem Tryz.own' : ownKnob Tryz.prog.godebug = none := by kernel_rfl
theorem Tryz.laidOut' : laidOutB Tryz.prog = true := by kernel_rfl
set_option maxRecDepth 100000 in
theorem keysChecks_lifted (os : Os) (started : os.Started) (H : Type) (enc : TypeId × Value → H) :
    ReturnsInHanded {} Tryz.checked os 7 .any (Rows.keysChecksSpec.pre6 enc Tryz.prog Tryz.f7 Rows.keysChecksRow.domain false) (Rows.keysChecksSpec.post enc Tryz.prog Tryz.f7 false true false false) := by
  refine returnsInHanded_of_change_sized (C := Tryz.checked) Tryz.own' started (by kernel_rfl) Tryz.func7
    (ChangeSpec.witness6 (enc := enc) (C := Tryz.checked) false ⟨#[], #[.slice none 0 0, .slice none 0 0, .int .i64 0], []⟩ 12 (by kernel_rfl) (by kernel_rfl) (by kernel_rfl) (by kernel_rfl)) ?_
  intro W base args ds gs before hval hW hcnd hsz _
  refine law_calls' (P := Tryz.prog) Tryz.laidOut' (by kernel_rfl) (by kernel_rfl) rfl ?_ (tb := T.bool) (by kernel_rfl) (by kernel_rfl) ?_ hval hW hsz
  · intro ds h
    obtain ⟨a0, r0, rfl, k0⟩ := len_cons (n := 2) h
    obtain ⟨a1, r1, rfl, k1⟩ := len_cons (n := 1) k0
    obtain ⟨a2, rfl⟩ := len1 k1
    rfl
  · intro avss h
    rw [show Tryz.f7.params.toList = [61, 45, 3] by rw [Tryz.params7]] at h ⊢
    obtain ⟨x1, xs, rfl, h1, h⟩ := args_cons h
    obtain ⟨x2, xs, rfl, h2, h⟩ := args_cons h
    obtain ⟨x3, xs, rfl, h3, h⟩ := args_cons h
    obtain rfl := args_nil h
    obtain ⟨l, f, rfl, hl, hn⟩ := dec_keys h1.2
    obtain ⟨b, fb, rfl, hb⟩ := dec_bs h2.2
    obtain ⟨n3, rfl, w3⟩ := shape_int Tryz.underlying3 h3.2
    have e3 : isAggT Tryz.prog 3 = false := by simp [isAggT, Tryz.underlying3]
    have e45 : isAggT Tryz.prog 45 = false := by simp [isAggT, Tryz.underlying45]
    have e61 : isAggT Tryz.prog 61 = false := by simp [isAggT, Tryz.underlying61]
    simp only [argAVs, avOf, e3, e45, e61, if_true, Bool.false_eq_true, if_false, List.headD_cons]
    exact t_KeysChecks (keys_sl l f) hl (Sl.vB b fb) n3
theorem keysChecks_holds : Rows.KeysChecksSaid :=
  OpenClaim.holds_of_wide 7 Tryz.f7 rfl rfl rfl rfl rfl rfl rfl ⟨rfl, rfl, rfl, rfl, rfl⟩ rfl rfl rfl rfl rfl (by kernel_rfl) Tryz.func7 (by kernel_rfl)
    (of_decide_eq_true (by kernel_rfl)) (by unfold Func.isWrapper; first | (rw [if_pos (by decide +kernel)]; kernel_rfl) | (rw [if_neg (by decide +kernel)]; exact ⟨rfl, rfl⟩))
    (fun os started H enc _ => keysChecks_lifted os started H enc)
end Go.Proofs.YtgfploghjpbcaaaGreat

