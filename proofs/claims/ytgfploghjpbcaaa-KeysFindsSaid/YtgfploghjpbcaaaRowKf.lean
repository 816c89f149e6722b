/- 'KeysFinds' holds for every input: keys may be just as the document says, and the key that counts for any Id at any minute is the document's. No condition. -/
import Derived.Test.YtgfploghjpbcaaaRows
import Derived.Test.YtgfploghjpbcaaaMKy
import Derived.Test.YtgfploghjpbcaaaEngT
namespace Go.Proofs.Ytgfploghjpbcaaa
open Go Go.ChangeShapes Go.WideShapes Go.ChangeAt Go.RowKit Go.Proofs.Ytgfploghjpbcaaa.Eng
set_option linter.unusedVariables false
set_option linter.unusedSimpArgs false
theorem Try.own' : ownKnob Try.prog.godebug = none := by kernel_rfl
theorem Try.laidOut' : laidOutB Try.prog = true := by kernel_rfl
set_option maxRecDepth 100000 in
theorem keysFinds_lifted (os : Os) (started : os.Started) (H : Type) (enc : TypeId × Value → H) :
    ReturnsInHanded {} Try.checked os 7 .any (Rows.keysFindsSpec.pre6 enc Try.prog Try.f7 Rows.keysFindsRow.domain false) (Rows.keysFindsSpec.post enc Try.prog Try.f7 false true false false) := by
  refine returnsInHanded_of_change_sized (C := Try.checked) Try.own' started (by kernel_rfl) Try.func7
    (ChangeSpec.witness6 (enc := enc) (C := Try.checked) false ⟨#[], #[.slice none 0 0, .int .i64 0, .int .i64 0], []⟩ 12 (by kernel_rfl) (by kernel_rfl) (by kernel_rfl) (by kernel_rfl)) ?_
  intro W base args ds gs before hval hW hcnd hsz _
  refine law_calls' (P := Try.prog) Try.laidOut' (by kernel_rfl) (by kernel_rfl) rfl ?_ (tb := T.bool) (by kernel_rfl) (by kernel_rfl) ?_ hval hW hsz
  · intro ds h
    obtain ⟨a0, r0, rfl, k0⟩ := len_cons (n := 2) h
    obtain ⟨a1, r1, rfl, k1⟩ := len_cons (n := 1) k0
    obtain ⟨a2, rfl⟩ := len1 k1
    rfl
  · intro avss h
    rw [show Try.f7.params.toList = [54, 3, 3] by rw [Try.params7]] at h ⊢
    obtain ⟨x1, xs, rfl, h1, h⟩ := args_cons h
    obtain ⟨x2, xs, rfl, h2, h⟩ := args_cons h
    obtain ⟨x3, xs, rfl, h3, h⟩ := args_cons h
    obtain rfl := args_nil h
    obtain ⟨l, f, rfl, hl, hn⟩ := dec_keys h1.2
    obtain ⟨n2, rfl, w2⟩ := shape_int Try.underlying3 h2.2
    obtain ⟨n3, rfl, w3⟩ := shape_int Try.underlying3 h3.2
    have e3 : isAggT Try.prog 3 = false := by simp [isAggT, Try.underlying3]
    have e54 : isAggT Try.prog 54 = false := by simp [isAggT, Try.underlying54]
    simp only [argAVs, avOf, e3, e54, if_true, Bool.false_eq_true, if_false, List.headD_cons]
    exact t_KeysFinds (keys_sl l f) hl hn n2 n3
theorem keysFinds_holds : Rows.KeysFindsSaid :=
  OpenClaim.holds_of_wide 7 Try.f7 rfl rfl rfl rfl rfl rfl rfl ⟨rfl, rfl, rfl, rfl, rfl⟩ rfl rfl rfl rfl rfl (by kernel_rfl) Try.func7 (by kernel_rfl)
    (of_decide_eq_true (by kernel_rfl)) (by unfold Func.isWrapper; first | (rw [if_pos (by decide +kernel)]; kernel_rfl) | (rw [if_neg (by decide +kernel)]; exact ⟨rfl, rfl⟩))
    (fun os started H enc _ => keysFinds_lifted os started H enc)
end Go.Proofs.Ytgfploghjpbcaaa
