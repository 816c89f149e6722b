/- Layer 14: what rows of products decode to. -/
import Derived.Test.YtgfploghjpbcaaaGreatRows
import Derived.Test.YtgfploghjpbcaaaGreatFc5
namespace Go.Proofs.YtgfploghjpbcaaaGreat
open Go Go.ChangeShapes Go.WideShapes Go.ChangeAt Go.RowKit Go.Proofs.YtgfploghjpbcaaaGreat.Eng
set_option linter.unusedVariables false
theorem map_list {α : Type} {f : α → List AV} {Q : α → Prop} : ∀ {els : List (List AV)}, (∀ y ∈ els, ∃ a, y = f a ∧ Q a) → ∃ l : List α, els = l.map f ∧ ∀ a ∈ l, Q a
  | [], _ => ⟨[], rfl, fun a h => by cases h⟩
  | y :: els, h => by
    obtain ⟨a, rfl, ha⟩ := h y (by simp)
    obtain ⟨l, rfl, hl⟩ := map_list (els := els) fun z hz => h z (by simp [hz])
    refine ⟨a :: l, rfl, fun b hb => ?_⟩
    rcases List.mem_cons.1 hb with rfl | hb
    · exact ha
    · exact hl b hb
set_option maxRecDepth 100000 in
theorem dec_ints {d : Nat} {x : List AV} (h : Eng.shape Tryz.prog (d + 2) 126 x) : ∃ l f, x = [vI l f] := by
  obtain ⟨els, full, rfl, h1, h2⟩ := shape_slice Tryz.underlying126 h
  obtain ⟨l, e1, e2⟩ := one_list' (f := I) (fun y hy => (h2 y hy).2) fun y hy => by
    obtain ⟨n, rfl, w⟩ := shape_int Tryz.underlying3 hy
    exact ⟨n, rfl⟩
  exact ⟨l, full, by rw [e1, ← e2]; rfl⟩
set_option maxRecDepth 100000 in
theorem dec_prd {d : Nat} {x : List AV} (h : Eng.shape Tryz.prog (d + 4) 154 x) : ∃ p : Prd, x = p.cells ∧ p.ok := by
  have h := shape_struct Tryz.underlying154 h
  obtain ⟨y1, s1, rfl, _, g1, y2, s2, rfl, _, g2, y3, s3, rfl, _, g3, rfl⟩ := h
  obtain ⟨i1, rfl, z1⟩ := shape_int Tryz.underlying3 g1
  obtain ⟨i2, rfl, z2⟩ := shape_int Tryz.underlying3 g2
  have h := shape_struct Tryz.underlying152 g3
  obtain ⟨x1, r1, rfl, _, h1, x2, r2, rfl, _, h2, x3, r3, rfl, _, h3, x4, r4, rfl, _, h4, x5, r5, rfl, _, h5, rfl⟩ := h
  obtain ⟨n1, rfl, w1⟩ := shape_int Tryz.underlying3 h1
  obtain ⟨n2, rfl, w2⟩ := shape_int Tryz.underlying3 h2
  obtain ⟨n3, rfl, w3⟩ := shape_int Tryz.underlying3 h3
  obtain ⟨l4, f, rfl⟩ := dec_ints h4
  obtain ⟨l5, g, rfl⟩ := dec_ints h5
  exact ⟨⟨i1, i2, ⟨n1, n2, n3, l4, l5⟩, vI l4 f, vI l5 g⟩, rfl, ok64_of z1, ok64_of z2, ok64_of w1, ok64_of w2, ok64_of w3, .inl ⟨f, rfl⟩, .inl ⟨g, rfl⟩⟩
set_option maxRecDepth 100000 in
theorem dec_prds {d : Nat} {x : List AV} (h : Eng.shape Tryz.prog (d + 5) 83 x) : ∃ (l : List Prd) (f : Bool), x = [.view (pcs l) l.length f] ∧ (∀ p ∈ l, p.ok) ∧ l.length ≤ 140737488355328 := by
  obtain ⟨els, full, rfl, h1, h2⟩ := shape_slice Tryz.underlying83 h
  obtain ⟨l, rfl, hl⟩ := map_list (f := Prd.cells) (Q := Prd.ok) fun y hy => dec_prd (h2 y hy).2
  have hb : Tryz.prog.bytesOf 154 = 88 := by kernel_rfl
  rw [hb, List.length_map] at h1
  refine ⟨l, full, by rw [List.length_map, pcs, List.flatMap_def], hl, ?_⟩
  have : reachBytes ≤ 140737488355328 := by decide
  omega
set_option maxRecDepth 100000 in
theorem dec_tkt {d : Nat} {x : List AV} (h : Eng.shape Tryz.prog (d + 2) 47 x) : ∃ t : Tkt, x = t.cells := by
  have h := shape_struct Tryz.underlying47 h
  obtain ⟨x1, r1, rfl, _, h1, x2, r2, rfl, _, h2, x3, r3, rfl, _, h3, x4, r4, rfl, _, h4, x5, r5, rfl, _, h5, rfl⟩ := h
  obtain ⟨n1, rfl, w1⟩ := shape_int Tryz.underlying3 h1
  obtain ⟨n2, rfl, w2⟩ := shape_int Tryz.underlying3 h2
  obtain ⟨n3, rfl, w3⟩ := shape_int Tryz.underlying3 h3
  obtain ⟨n4, rfl, w4⟩ := shape_int Tryz.underlying3 h4
  obtain ⟨n5, rfl, w5⟩ := shape_int Tryz.underlying3 h5
  exact ⟨⟨n1, n2, n3, n4, n5⟩, rfl⟩
theorem prds_sl (l : List Prd) (f : Bool) : Sl 7 [] (.view (pcs l) l.length f) (pcs l) l.length := by
  refine .view ?_ f
  induction l with
  | nil => rfl
  | cons a r ih => rw [pcs, List.flatMap_cons, List.length_append, ih, Prd.len, List.length_cons]; omega
end Go.Proofs.YtgfploghjpbcaaaGreat
