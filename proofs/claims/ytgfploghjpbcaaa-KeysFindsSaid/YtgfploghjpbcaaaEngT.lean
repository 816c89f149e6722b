/- What arguments read as: bytes, lists. -/
import Derived.Test.YtgfploghjpbcaaaEngR
import Derived.SizedLaws
namespace Go.Proofs.Ytgfploghjpbcaaa.Eng
open Go Go.ChangeShapes Go.WideShapes Go.ChangeAt Go.RowKit
set_option linter.unusedVariables false
set_option linter.unusedSimpArgs false
section
variable {P : Program} {d : Nat} {t e : TypeId} {x : List AV}
theorem u8_of {n : Int} (h : (Lit.int .u8 n).wf = true) : ∃ b : UInt8, n = b.toNat := by
  simp [Lit.wf, IntKind.min, IntKind.max, IntKind.signed, IntKind.bits] at h
  refine ⟨UInt8.ofNat n.toNat, ?_⟩
  simp
  omega
theorem dec_slice1 {α : Type} {f : α → AV} {Q : α → Prop} (hu : P.underlying t = some (.slice e)) (hdec : ∀ y, y.length = P.cellsOf e ∧ shape P d e y → ∃ a, y = [f a] ∧ Q a) (h : shape P (d + 1) t x) :
    ∃ (l : List α) (full : Bool), x = [.view (l.map f) l.length full] ∧ (∀ a ∈ l, Q a) ∧ l.length * P.bytesOf e ≤ reachBytes := by
  obtain ⟨els, full, rfl, h1, h2⟩ := shape_slice hu h
  have key : ∀ els : List (List AV), (∀ y ∈ els, y.length = P.cellsOf e ∧ shape P d e y) → ∃ l : List α, els.flatten = l.map f ∧ l.length = els.length ∧ ∀ a ∈ l, Q a := by
    intro els
    induction els with
    | nil => exact fun _ => ⟨[], rfl, rfl, by simp⟩
    | cons y els ih =>
      intro hh
      obtain ⟨l, g1, g2, g3⟩ := ih fun z hz => hh z (by simp [hz])
      obtain ⟨a, rfl, hq⟩ := hdec y (hh y (by simp))
      exact ⟨a :: l, by simp [g1], by simp [g2], fun b hb => by
        rcases List.mem_cons.1 hb with rfl | hb
        · exact hq
        · exact g3 b hb⟩
  obtain ⟨l, g1, g2, g3⟩ := key els h2
  exact ⟨l, full, by rw [g1, g2], g3, by rw [g2]; exact h1⟩
theorem dec_sliceN {α : Type} {f : α → List AV} {Q : α → Prop} (hu : P.underlying t = some (.slice e)) (hdec : ∀ y, y.length = P.cellsOf e ∧ shape P d e y → ∃ a, y = f a ∧ Q a) (h : shape P (d + 1) t x) :
    ∃ (l : List α) (full : Bool), x = [.view (l.flatMap f) l.length full] ∧ (∀ a ∈ l, Q a) ∧ l.length * P.bytesOf e ≤ reachBytes := by
  obtain ⟨els, full, rfl, h1, h2⟩ := shape_slice hu h
  have key : ∀ els : List (List AV), (∀ y ∈ els, y.length = P.cellsOf e ∧ shape P d e y) → ∃ l : List α, els.flatten = l.flatMap f ∧ l.length = els.length ∧ ∀ a ∈ l, Q a := by
    intro els
    induction els with
    | nil => exact fun _ => ⟨[], rfl, rfl, by simp⟩
    | cons y els ih =>
      intro hh
      obtain ⟨l, g1, g2, g3⟩ := ih fun z hz => hh z (by simp [hz])
      obtain ⟨a, rfl, hq⟩ := hdec y (hh y (by simp))
      exact ⟨a :: l, by simp [g1], by simp [g2], fun b hb => by
        rcases List.mem_cons.1 hb with rfl | hb
        · exact hq
        · exact g3 b hb⟩
  obtain ⟨l, g1, g2, g3⟩ := key els h2
  exact ⟨l, full, by rw [g1, g2], g3, by rw [g2]; exact h1⟩
theorem dec_bytes (hu : P.underlying t = some (.slice e)) (he : P.underlying e = some (.int .u8)) (hb : P.bytesOf e = 1) (h : shape P (d + 2) t x) : ∃ (l : List UInt8) (f : Bool), x = [vB l f] ∧ l.length ≤ 140737488351232 := by
  obtain ⟨l, f, h1, _, h2⟩ := dec_slice1 (f := u8) (Q := fun _ => True) hu (fun y hy => by
    obtain ⟨n, rfl, w⟩ := shape_int he hy.2
    obtain ⟨b, rfl⟩ := u8_of w
    exact ⟨b, rfl, trivial⟩) h
  exact ⟨l, f, h1, by rw [hb, Nat.mul_one] at h2; exact h2⟩
theorem dec_byteList (hu : P.underlying t = some (.slice e)) {b : TypeId} (he : P.underlying e = some (.slice b)) (hb : P.underlying b = some (.int .u8)) (h1 : P.bytesOf b = 1) (h2 : P.bytesOf e = 24) (h : shape P (d + 3) t x) :
    ∃ (l : List (List UInt8 × Bool)) (f : Bool), x = [.view (l.map fun y => vB y.1 y.2) l.length f] ∧ (∀ y ∈ l, y.1.length ≤ 140737488351232) ∧ l.length ≤ 5864062014634 := by
  obtain ⟨l, f, g1, g2, g3⟩ := dec_slice1 (f := fun y : List UInt8 × Bool => vB y.1 y.2) (Q := fun y => y.1.length ≤ 140737488351232) hu (fun y hy => by
    obtain ⟨l, f, rfl, hl⟩ := dec_bytes he hb h1 hy.2
    exact ⟨(l, f), rfl, hl⟩) h
  refine ⟨l, f, g1, g2, ?_⟩
  rw [h2] at g3
  unfold reachBytes at g3
  omega
end
end Go.Proofs.Ytgfploghjpbcaaa.Eng
