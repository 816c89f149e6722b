/- 'ServiceRuns' and 'ServiceNext' hold for every input. -/
import Derived.Test.YtdgabfeeoplldaaRowSer
namespace Go.Proofs.Ytdgabfeeoplldaa
open Go Go.ChangeShapes Go.WideShapes Go.ChangeAt Go.RowKit Go.Proofs.Ytdgabfeeoplldaa.Eng
set_option linter.unusedVariables false
set_option maxRecDepth 100000 in
theorem dec_ints {d : Nat} {x : List AV} (h : Eng.shape Try.prog (d + 2) 41 x) : ∃ l f, x = [vI l f] := by
  obtain ⟨els, full, rfl, h1, h2⟩ := shape_slice Try.underlying41 h
  obtain ⟨l, e1, e2⟩ := one_list' (f := I) (fun y hy => (h2 y hy).2) fun y hy => by
    obtain ⟨n, rfl, w⟩ := shape_int Try.underlying3 hy
    exact ⟨n, rfl⟩
  exact ⟨l, full, by rw [e1, ← e2]; rfl⟩
set_option maxRecDepth 100000 in
theorem dec_srv {d : Nat} {x : List AV} (h : Eng.shape Try.prog (d + 3) 43 x) : ∃ (s : Srv) (f g : Bool), x = s.cells f g ∧ ok64 s.week ∧ ok64 s.from_ ∧ ok64 s.to := by
  have h := shape_struct Try.underlying43 h
  obtain ⟨x1, r1, rfl, _, h1, x2, r2, rfl, _, h2, x3, r3, rfl, _, h3, x4, r4, rfl, _, h4, x5, r5, rfl, _, h5, rfl⟩ := h
  obtain ⟨n1, rfl, w1⟩ := shape_int Try.underlying3 h1
  obtain ⟨n2, rfl, w2⟩ := shape_int Try.underlying3 h2
  obtain ⟨n3, rfl, w3⟩ := shape_int Try.underlying3 h3
  obtain ⟨l4, f, rfl⟩ := dec_ints h4
  obtain ⟨l5, g, rfl⟩ := dec_ints h5
  exact ⟨⟨n1, n2, n3, l4, l5⟩, f, g, rfl, ok64_of w1, ok64_of w2, ok64_of w3⟩
theorem agg43 : isAggT Try.prog 43 = true := by simp [isAggT, Try.underlying43]
theorem agg3 : isAggT Try.prog 3 = false := by simp [isAggT, Try.underlying3]
theorem srv_split (s : Srv) (h1 : ok64 s.week) (h2 : ok64 s.from_) (h3 : ok64 s.to) : s.ok ∨ 300 < s.extra.length ∨ 300 < s.except.length := by
  by_cases h : s.extra.length ≤ 300 ∧ s.except.length ≤ 300
  · exact .inl ⟨h1, h2, h3, by omega, by omega⟩
  · exact .inr (by omega)
set_option maxRecDepth 100000 in
theorem serviceRuns_lifted (os : Os) (started : os.Started) (H : Type) (enc : TypeId × Value → H) :
    ReturnsInHanded {} Try.checked os 7 .any (Rows.serviceRunsSpec.pre6 enc Try.prog Try.f7 Rows.serviceRunsRow.domain false) (Rows.serviceRunsSpec.post enc Try.prog Try.f7 false true false false) := by
  refine returnsInHanded_of_change (C := Try.checked) Try.own' started (by kernel_rfl) Try.func7
    (ChangeSpec.witness6 (enc := enc) (C := Try.checked) false ⟨#[], #[.agg #[.int .i64 0, .int .i64 0, .int .i64 0, .slice none 0 0, .slice none 0 0], .int .i64 0, .int .i64 0], []⟩ 8 (by kernel_rfl) (by kernel_rfl) (by kernel_rfl) (by kernel_rfl)) ?_
  intro W base args ds gs before hval hW hcnd _
  refine law_calls' (P := Try.prog) Try.laidOut' (by kernel_rfl) (by kernel_rfl) rfl ?_ (tb := Eng.T.bool) (by kernel_rfl) (by kernel_rfl) ?_ hval hW
  · intro ds h
    obtain ⟨a, r1, rfl, k1⟩ := len_cons (n := 2) h
    obtain ⟨b, r2, rfl, k2⟩ := len_cons k1
    obtain ⟨c, rfl⟩ := len1 k2
    rfl
  · intro avss h
    rw [show Try.f7.params.toList = [43, 3, 3] by rw [Try.params7]] at h ⊢
    obtain ⟨x1, xs, rfl, h1, h⟩ := args_cons h
    obtain ⟨x2, xs, rfl, h2, h⟩ := args_cons h
    obtain ⟨x3, xs, rfl, h3, h⟩ := args_cons h
    obtain rfl := args_nil h
    obtain ⟨s, f, g, rfl, o1, o2, o3⟩ := dec_srv h1.2
    obtain ⟨n2, rfl, w2⟩ := shape_int Try.underlying3 h2.2
    obtain ⟨n3, rfl, w3⟩ := shape_int Try.underlying3 h3.2
    simp only [argAVs, avOf, agg3, agg43, if_true, Bool.false_eq_true, if_false, List.headD_cons]
    rcases srv_split s o1 o2 o3 with hs | hb
    · exact t_RunsLaw s f g n2 n3 [] hs (ok64_of w2) (ok64_of w3)
    · exact t_RunsBig s f g n2 n3 [] hb
set_option maxRecDepth 100000 in
theorem serviceNext_lifted (os : Os) (started : os.Started) (H : Type) (enc : TypeId × Value → H) :
    ReturnsInHanded {} Try.checked os 5 .any (Rows.serviceNextSpec.pre6 enc Try.prog Try.f5 Rows.serviceNextRow.domain false) (Rows.serviceNextSpec.post enc Try.prog Try.f5 false true false false) := by
  refine returnsInHanded_of_change (C := Try.checked) Try.own' started (by kernel_rfl) Try.func5
    (ChangeSpec.witness6 (enc := enc) (C := Try.checked) false ⟨#[], #[.agg #[.int .i64 0, .int .i64 0, .int .i64 0, .slice none 0 0, .slice none 0 0], .int .i64 0], []⟩ 8 (by kernel_rfl) (by kernel_rfl) (by kernel_rfl) (by kernel_rfl)) ?_
  intro W base args ds gs before hval hW hcnd _
  refine law_calls' (P := Try.prog) Try.laidOut' (by kernel_rfl) (by kernel_rfl) rfl ?_ (tb := Eng.T.bool) (by kernel_rfl) (by kernel_rfl) ?_ hval hW
  · intro ds h
    obtain ⟨a, r1, rfl, k1⟩ := len_cons (n := 1) h
    obtain ⟨b, rfl⟩ := len1 k1
    rfl
  · intro avss h
    rw [show Try.f5.params.toList = [43, 3] by rw [Try.params5]] at h ⊢
    obtain ⟨x1, xs, rfl, h1, h⟩ := args_cons h
    obtain ⟨x2, xs, rfl, h2, h⟩ := args_cons h
    obtain rfl := args_nil h
    obtain ⟨s, f, g, rfl, o1, o2, o3⟩ := dec_srv h1.2
    obtain ⟨n2, rfl, w2⟩ := shape_int Try.underlying3 h2.2
    simp only [argAVs, avOf, agg3, agg43, if_true, Bool.false_eq_true, if_false, List.headD_cons]
    rcases srv_split s o1 o2 o3 with hs | hb
    · exact t_NextLaw s f g n2 [] hs (ok64_of w2)
    · exact t_NextBig s f g n2 [] hb
theorem serviceRuns_holds : Rows.ServiceRunsSaid :=
  OpenClaim.holds_of_wide 7 Try.f7 rfl rfl rfl rfl rfl rfl rfl ⟨rfl, rfl, rfl, rfl, rfl⟩ rfl rfl rfl rfl rfl (by kernel_rfl) Try.func7 (by kernel_rfl)
    (of_decide_eq_true (by kernel_rfl)) (by unfold Func.isWrapper; first | (rw [if_pos (by decide +kernel)]; kernel_rfl) | (rw [if_neg (by decide +kernel)]; exact ⟨rfl, rfl⟩))
    (fun os started H enc _ => serviceRuns_lifted os started H enc)
theorem serviceNext_holds : Rows.ServiceNextSaid :=
  OpenClaim.holds_of_wide 5 Try.f5 rfl rfl rfl rfl rfl rfl rfl ⟨rfl, rfl, rfl, rfl, rfl⟩ rfl rfl rfl rfl rfl (by kernel_rfl) Try.func5 (by kernel_rfl)
    (of_decide_eq_true (by kernel_rfl)) (by unfold Func.isWrapper; first | (rw [if_pos (by decide +kernel)]; kernel_rfl) | (rw [if_neg (by decide +kernel)]; exact ⟨rfl, rfl⟩))
    (fun os started H enc _ => serviceNext_lifted os started H enc)
end Go.Proofs.Ytdgabfeeoplldaa
