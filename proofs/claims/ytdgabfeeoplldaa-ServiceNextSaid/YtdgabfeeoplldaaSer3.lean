/- Layer 12: plain laws on the next day. -/
import Derived.Test.YtdgabfeeoplldaaSer2
namespace Go.Proofs.Ytdgabfeeoplldaa.Eng
open Go Go.Proofs
set_option linter.unusedVariables false
set_option linter.unusedSimpArgs false
set_option maxRecDepth 10000
def good (s : Srv) (d x : Int) : Prop := d ≤ x ∧ runsB s x = true
/-- What a look at one day does. -/
theorem seeF_spec {s : Srv} {d b x : Int} (h0 : 0 ≤ d) (hb : b = -1 ∨ good s d b) : (seeF s d b x = -1 ∨ good s d (seeF s d b x)) ∧ (b ≠ -1 → seeF s d b x ≠ -1 ∧ seeF s d b x ≤ b) ∧ (good s d x → seeF s d b x ≠ -1 ∧ seeF s d b x ≤ x) := by
  have hb0 : b = -1 ∨ 0 ≤ b := by rcases hb with h | h; exact .inl h; exact .inr (by have := h.1; omega)
  unfold seeF
  by_cases hx : d ≤ x ∧ (b < 0 ∨ x < b) ∧ runsB s x = true
  · rw [if_pos hx]
    exact ⟨.inr ⟨hx.1, hx.2.2⟩, fun h => ⟨by omega, by omega⟩, fun _ => ⟨by omega, by omega⟩⟩
  · rw [if_neg hx]
    refine ⟨hb, fun h => ⟨h, by omega⟩, fun h => ?_⟩
    have : ¬ (b < 0 ∨ x < b) := fun hh => hx ⟨h.1, hh, h.2⟩
    exact ⟨by omega, by omega⟩
theorem fold_spec {s : Srv} {d : Int} (h0 : 0 ≤ d) : ∀ (l : List Int) (b : Int), (b = -1 ∨ good s d b) → (l.foldl (seeF s d) b = -1 ∨ good s d (l.foldl (seeF s d) b)) ∧ (b ≠ -1 → l.foldl (seeF s d) b ≠ -1 ∧ l.foldl (seeF s d) b ≤ b) ∧ ∀ x ∈ l, good s d x → l.foldl (seeF s d) b ≠ -1 ∧ l.foldl (seeF s d) b ≤ x
  | [], b, hb => ⟨hb, fun h => ⟨h, Int.le_refl _⟩, fun x hx => by cases hx⟩
  | y :: l, b, hb => by
    obtain ⟨a1, a2, a3⟩ := seeF_spec (x := y) h0 hb
    obtain ⟨b1, b2, b3⟩ := fold_spec h0 l (seeF s d b y) a1
    rw [List.foldl_cons]
    refine ⟨b1, fun h => ?_, fun x hx hg => ?_⟩
    · obtain ⟨c1, c2⟩ := a2 h; obtain ⟨c3, c4⟩ := b2 c1; exact ⟨c3, by omega⟩
    · rcases List.mem_cons.1 hx with rfl | hx
      · obtain ⟨c1, c2⟩ := a3 hg; obtain ⟨c3, c4⟩ := b2 c1; exact ⟨c3, by omega⟩
      · exact b3 x hx hg
theorem scan_spec {s : Srv} {d : Int} (h0 : 0 ≤ d) : ∀ (n : Nat) (b x : Int), (b = -1 ∨ good s d b) → (scan s d b x n = -1 ∨ good s d (scan s d b x n)) ∧ (b ≠ -1 → scan s d b x n ≠ -1 ∧ scan s d b x n ≤ b) ∧ ∀ y, x ≤ y → y < x + n → good s d y → scan s d b x n ≠ -1 ∧ scan s d b x n ≤ y
  | 0, b, x, hb => ⟨hb, fun h => ⟨h, Int.le_refl _⟩, fun y h1 h2 => by omega⟩
  | n + 1, b, x, hb => by
    obtain ⟨a1, a2, a3⟩ := seeF_spec (x := x) h0 hb
    obtain ⟨b1, b2, b3⟩ := scan_spec h0 n (seeF s d b x) (x + 1) a1
    rw [scan]
    refine ⟨b1, fun h => ?_, fun y h1 h2 hg => ?_⟩
    · obtain ⟨c1, c2⟩ := a2 h; obtain ⟨c3, c4⟩ := b2 c1; exact ⟨c3, by omega⟩
    · by_cases hxy : y = x
      · subst hxy; obtain ⟨c1, c2⟩ := a3 hg; obtain ⟨c3, c4⟩ := b2 c1; exact ⟨c3, by omega⟩
      · exact b3 y (by omega) (by omega) hg
/-- Unlike elements of a list are no more than it has. -/
theorem pigeon (f : Nat → Int) : ∀ (n : Nat) (l : List Int), (∀ i j, i < n → j < n → f i = f j → i = j) → (∀ i, i < n → f i ∈ l) → n ≤ l.length
  | 0, l, _, _ => Nat.zero_le _
  | n + 1, l, hinj, hm => by
    have h1 := hm n (by omega)
    have h2 := pigeon f n (l.erase (f n)) (fun i j hi hj => hinj i j (by omega) (by omega)) fun i hi => by
      refine (List.mem_erase_of_ne fun h => ?_).2 (hm i (by omega))
      have := hinj i n (by omega) (by omega) h
      omega
    rw [List.length_erase_of_mem h1] at h2
    have := List.length_pos_of_mem h1
    omega
theorem nextV_spec {s : Srv} {d : Int} (hm : mayB s = true) (h0 : 0 ≤ d) : (nextV s d = -1 ∨ good s d (nextV s d)) ∧ ∀ y, good s d y → nextV s d ≠ -1 ∧ nextV s d ≤ y := by
  obtain ⟨m1, m2, m3, m4, m5, m6, m7⟩ := mayB_from hm
  obtain ⟨a1, a2, a3⟩ := fold_spec (s := s) h0 s.extra (-1) (.inl rfl)
  obtain ⟨b1, b2, b3⟩ := scan_spec (s := s) h0 (nextN s d) (s.extra.foldl (seeF s d) (-1)) (nextX s d) a1
  have hx : d ≤ nextX s d ∧ s.from_ ≤ nextX s d ∧ (nextX s d = d ∨ nextX s d = s.from_) := by unfold nextX; split <;> omega
  refine ⟨b1, fun y hy => ?_⟩
  have hin : ∀ z, nextX s d ≤ z → z < nextX s d + nextN s d → good s d z → nextV s d ≠ -1 ∧ nextV s d ≤ z := b3
  by_cases he : y ∈ s.extra
  · obtain ⟨c1, c2⟩ := a3 y he hy
    obtain ⟨c3, c4⟩ := b2 c1
    exact ⟨c3, by show scan _ _ _ _ _ ≤ _; omega⟩
  · have hr := hy.2
    simp only [runsB, he, decide_false, Bool.false_or, Bool.and_eq_true, decide_eq_true_eq] at hr
    obtain ⟨⟨⟨r1, r2⟩, r3⟩, r4⟩ := hr
    have hyx : nextX s d ≤ y := by have := hy.1; omega
    by_cases hw : y < nextX s d + nextN s d
    · exact hin y hyx hw hy
    · have hN : nextN s d = 7 * (s.except.length + 1) := by unfold nextN at *; omega
      have hex : ∃ j, j < s.except.length + 1 ∧ (nextX s d + (y - nextX s d) % 7 + 7 * (j : Int)) ∉ s.except := by
        refine Classical.byContradiction fun hno => ?_
        have := pigeon (fun j => nextX s d + (y - nextX s d) % 7 + 7 * (j : Int)) (s.except.length + 1) s.except (fun i j _ _ h => by omega) fun j hj => Classical.byContradiction fun hh => hno ⟨j, hj, hh⟩
        omega
      obtain ⟨j, hj, hne⟩ := hex
      have hc : nextX s d + (y - nextX s d) % 7 + 7 * (j : Int) < nextX s d + nextN s d := by omega
      have hg : good s d (nextX s d + (y - nextX s d) % 7 + 7 * (j : Int)) := by
        refine ⟨by omega, ?_⟩
        have hmod : (nextX s d + (y - nextX s d) % 7 + 7 * (j : Int)) % 7 = y % 7 := by omega
        have hb : bitB s.week (nextX s d + (y - nextX s d) % 7 + 7 * (j : Int)) = true := by unfold bitB at *; rw [hmod]; exact r3
        simp only [runsB, hb, Bool.or_eq_true, Bool.and_eq_true, decide_eq_true_eq, Bool.not_eq_true', decide_eq_false_iff_not]
        exact .inr ⟨⟨⟨by omega, by omega⟩, trivial⟩, hne⟩
      obtain ⟨c1, c2⟩ := hin _ (by omega) hc hg
      exact ⟨c1, by omega⟩
theorem firstDay_spec (p : Int → Bool) : ∀ (n : Nat) (d : Int), (firstDay p d n = -1 ∧ ∀ x, d ≤ x → x < d + n → p x = false) ∨ (d ≤ firstDay p d n ∧ firstDay p d n < d + n ∧ p (firstDay p d n) = true ∧ ∀ x, d ≤ x → x < firstDay p d n → p x = false)
  | 0, d => .inl ⟨rfl, fun x h1 h2 => by omega⟩
  | n + 1, d => by
    rw [firstDay]
    by_cases h : p d = true
    · rw [if_pos h]; exact .inr ⟨by omega, by omega, h, fun x h1 h2 => by omega⟩
    · rw [if_neg h]
      rcases firstDay_spec p n (d + 1) with ⟨h1, h2⟩ | ⟨h1, h2, h3, h4⟩
      · refine .inl ⟨h1, fun x g1 g2 => ?_⟩
        by_cases hx : x = d
        · subst hx; simpa using h
        · exact h2 x (by omega) (by omega)
      · refine .inr ⟨by omega, by omega, h3, fun x g1 g2 => ?_⟩
        by_cases hx : x = d
        · subst hx; simpa using h
        · exact h4 x (by omega) (by omega)
end Go.Proofs.Ytdgabfeeoplldaa.Eng
