/- Small rules for working through code: integers, lists, objects, ends. -/
import Derived.Test.YtgfploghjpbcaaaEngO
import Derived.Test.YtgfploghjpbcaaaEngS
namespace Go.Proofs.Ytgfploghjpbcaaa.Eng
open Go
set_option linter.unusedVariables false
set_option linter.unusedSimpArgs false
abbrev I (n : Int) : AV := .lit (.int .i64 n)
abbrev Bl (b : Bool) : AV := .lit (.bool b)
theorem w64 (x : Int) (h1 : -9223372036854775808 ≤ x) (h2 : x ≤ 9223372036854775807) : IntKind.i64.wrap x = x := by
  rw [IntKind.wrap_i64]; omega
theorem wu8 (x : Int) (h1 : 0 ≤ x) (h2 : x ≤ 255) : IntKind.u8.wrap x = x := by
  simp only [IntKind.wrap, IntKind.bits, IntKind.signed]
  simp
  omega
theorem wu32 (x : Int) (h1 : 0 ≤ x) (h2 : x ≤ 4294967295) : IntKind.u32.wrap x = x := by
  simp only [IntKind.wrap, IntKind.bits, IntKind.signed]
  simp
  omega
theorem wu64 (x : Int) (h1 : 0 ≤ x) (h2 : x ≤ 18446744073709551615) : IntKind.u64.wrap x = x := by
  simp only [IntKind.wrap, IntKind.bits, IntKind.signed]
  simp
  omega
def ok64 (n : Int) : Prop := -9223372036854775808 ≤ n ∧ n ≤ 9223372036854775807
theorem ok64_of {n : Int} (h : (Lit.int .i64 n).wf = true) : ok64 n := by
  simp [Lit.wf, IntKind.min, IntKind.max, IntKind.signed, IntKind.bits] at h
  exact ⟨by omega, by omega⟩
/-- A slice of whole numbers. -/
def vI (l : List Int) (full : Bool) : AV := .view (l.map I) l.length full
theorem elt_I (l : List Int) (i : Nat) (h : i < l.length) : elt (l.map I) 1 i = [I (l.getD i 0)] := by
  simp only [elt, Nat.mul_one]
  rw [← List.map_drop, List.drop_eq_getElem_cons h, List.map_cons, List.take_succ_cons, List.take_zero, List.getD_eq_getElem?_getD, List.getElem?_eq_getElem h, Option.getD_some]
/-! ### Ends -/
theorem leave_same {H : AH} {v2 v : AV} (h : v2 = v) : Leave H v2 H v H := h ▸ Leave.refl _ _ _
theorem leave_drop {H G : AH} {v2 v : AV} (h : low (renk H.length []) (H ++ G) v2 = v) : Leave H v2 (H ++ G) v H := by
  have := leave_low (H := H) (H1 := H) (H1' := H) (G := G) [] List.nodup_nil (by simp) rfl rfl (fun i o' hi => .inl ⟨hi, hi⟩) v2
  rw [h] at this
  simpa using this
theorem retQ_ret {rs : List IRes} {H H2 H' : AH} {v : AV} {E : Env} : retQ rs H v H' .ret E H2 = (resOk E H2 rs ∧ Leave H (resVal (rs.map (resV E H2))) H2 v H') := rfl
end Go.Proofs.Ytgfploghjpbcaaa.Eng
