/- 'JournalKeeps' holds for every input: opened again behind a write that was cut off, however, a journal has the records that were appended, and the one that was being appended just if the whole slot was written; opened twice it is as opened once. No condition. -/
import Derived.Test.YtdgabfeeoplldaaRows
import Derived.Test.YtdgabfeeoplldaaJr10
import Derived.Test.YtdgabfeeoplldaaEngT
namespace Go.Proofs.Ytdgabfeeoplldaa
open Go Go.ChangeShapes Go.WideShapes Go.ChangeAt Go.RowKit Go.Proofs.Ytdgabfeeoplldaa.Eng
set_option linter.unusedVariables false
set_option linter.unusedSimpArgs false
theorem Try.own' : ownKnob Try.prog.godebug = none := by kernel_rfl
theorem Try.laidOut' : laidOutB Try.prog = true := by kernel_rfl
set_option maxRecDepth 100000 in
theorem journalKeeps_lifted (os : Os) (started : os.Started) (H : Type) (enc : TypeId × Value → H) :
    ReturnsInHanded {} Try.checked os 8 .any (Rows.journalKeepsSpec.pre6 enc Try.prog Try.f8 Rows.journalKeepsRow.domain false) (Rows.journalKeepsSpec.post enc Try.prog Try.f8 false true false false) := by
  refine returnsInHanded_of_change_sized (C := Try.checked) Try.own' started (by kernel_rfl) Try.func8
    (ChangeSpec.witness6 (enc := enc) (C := Try.checked) false ⟨#[], #[.int .i64 0, .slice none 0 0, .slice none 0 0, .int .i64 0, .int .i64 0, .slice none 0 0], []⟩ 12 (by kernel_rfl) (by kernel_rfl) (by kernel_rfl) (by kernel_rfl)) ?_
  intro W base args ds gs before hval hW hcnd hsz _
  refine law_calls' (P := Try.prog) Try.laidOut' (by kernel_rfl) (by kernel_rfl) rfl ?_ (tb := T.bool) (by kernel_rfl) (by kernel_rfl) ?_ hval hW hsz
  · intro ds h
    obtain ⟨a0, r0, rfl, k0⟩ := len_cons (n := 5) h
    obtain ⟨a1, r1, rfl, k1⟩ := len_cons (n := 4) k0
    obtain ⟨a2, r2, rfl, k2⟩ := len_cons (n := 3) k1
    obtain ⟨a3, r3, rfl, k3⟩ := len_cons (n := 2) k2
    obtain ⟨a4, r4, rfl, k4⟩ := len_cons (n := 1) k3
    obtain ⟨a5, rfl⟩ := len1 k4
    rfl
  · intro avss h
    rw [show Try.f8.params.toList = [3, 22, 29, 3, 3, 29] by rw [Try.params8]] at h ⊢
    obtain ⟨x1, xs, rfl, h1, h⟩ := args_cons h
    obtain ⟨x2, xs, rfl, h2, h⟩ := args_cons h
    obtain ⟨x3, xs, rfl, h3, h⟩ := args_cons h
    obtain ⟨x4, xs, rfl, h4, h⟩ := args_cons h
    obtain ⟨x5, xs, rfl, h5, h⟩ := args_cons h
    obtain ⟨x6, xs, rfl, h6, h⟩ := args_cons h
    obtain rfl := args_nil h
    obtain ⟨n1, rfl, w1⟩ := shape_int Try.underlying3 h1.2
    obtain ⟨l2, f2, rfl, b2, c2⟩ := dec_byteList Try.underlying22 Try.underlying29 Try.underlying5 (by kernel_rfl) (by kernel_rfl) h2.2
    obtain ⟨l3, f3, rfl, b3⟩ := dec_bytes Try.underlying29 Try.underlying5 (by kernel_rfl) h3.2
    obtain ⟨n4, rfl, w4⟩ := shape_int Try.underlying3 h4.2
    obtain ⟨n5, rfl, w5⟩ := shape_int Try.underlying3 h5.2
    obtain ⟨l6, f6, rfl, b6⟩ := dec_bytes Try.underlying29 Try.underlying5 (by kernel_rfl) h6.2
    have e3 : isAggT Try.prog 3 = false := by simp [isAggT, Try.underlying3]
    have e22 : isAggT Try.prog 22 = false := by simp [isAggT, Try.underlying22]
    have e29 : isAggT Try.prog 29 = false := by simp [isAggT, Try.underlying29]
    simp only [argAVs, avOf, e3, e22, e29, if_true, Bool.false_eq_true, if_false, List.headD_cons]
    exact t_JournalKeeps (ok64_of w4)
theorem journalKeeps_holds : Rows.JournalKeepsSaid :=
  OpenClaim.holds_of_wide 8 Try.f8 rfl rfl rfl rfl rfl rfl rfl ⟨rfl, rfl, rfl, rfl, rfl⟩ rfl rfl rfl rfl rfl (by kernel_rfl) Try.func8 (by kernel_rfl)
    (of_decide_eq_true (by kernel_rfl)) (by unfold Func.isWrapper; first | (rw [if_pos (by decide +kernel)]; kernel_rfl) | (rw [if_neg (by decide +kernel)]; exact ⟨rfl, rfl⟩))
    (fun os started H enc _ => journalKeeps_lifted os started H enc)
end Go.Proofs.Ytdgabfeeoplldaa
