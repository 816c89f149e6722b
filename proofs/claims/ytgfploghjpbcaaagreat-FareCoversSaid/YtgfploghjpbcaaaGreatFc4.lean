/- Layer 14: the document's answer; a verdict on nothing. -/
import Derived.Test.YtgfploghjpbcaaaGreatFc3
namespace Go.Proofs.YtgfploghjpbcaaaGreat.Eng
open Go Go.Proofs
set_option linter.unusedVariables false
set_option linter.unusedSimpArgs false
set_option maxRecDepth 10000
theorem div_halves (n : Int) (hn : 0 ≤ n) (i : Nat) : (n / 2 ^ i).tdiv 2 = n / 2 ^ (i + 1) := by
  have h2 : (1 : Int) ≤ 2 ^ i := Int.pow_pos (by decide)
  rw [Int.tdiv_eq_ediv_of_nonneg (Int.ediv_nonneg hn (by omega)), div_pow_succ]
def whyV (l : List Prd) (t : Tkt) (z m : Int) : Int :=
  if kOf l t.product < 0 then 7 else if zoneB t.zones z = false then 5 else if thenB (pOf l (kOf l t.product)) t m = false then 6 else 1
theorem t_why {H : AH} {x : AV} {l : List Prd} (hx : Sl 7 H x (pcs l) l.length) (hl : ∀ p ∈ l, p.ok ∧ p.few) (hn : l.length ≤ 1000000) (t : Tkt) (z m : Int) (hm : prdsB l = true) (ht : tktB t = true) (hp : plcB z m = true) : Called Tryz.prog F.clapperref14_why [x, .agg t.cells, I z, I m] H (I (whyV l t z m)) H := by
  refine e_clapperref14_why ?_
  obtain ⟨a1, a2, a3, a4⟩ := tktB_from ht
  obtain ⟨b1, b2, b3, b4⟩ := plcB_from hp
  have hG : ∀ K, Sl 7 (H ++ K) x (pcs l) l.length := fun K => hx.app
  simp only [ic_clapperref14_why, go_sem]
  refine w_loop _ (fun (s : Nat × Int) => ([(0, x), (2, I z), (3, I m), (5, .ptr H.length 0), (9, I s.2), (10, I s.1)], H ++ [⟨t.cells, 0, true⟩])) (fun s => s.1 ≤ l.length ∧ ((s.2 = -1 ∧ ∀ j, j < s.1 → (l.getD j noP).id ≠ t.product) ∨ ∃ j, j < l.length ∧ s.2 = ((j : Nat) : Int) ∧ (l.getD j noP).id = t.product)) (fun s => l.length - s.1) (0, -1) ⟨Nat.zero_le _, .inl ⟨rfl, fun j hj => by omega⟩⟩ rfl ?_
  rintro ⟨i, k⟩ ⟨hi, hk⟩
  dsimp only at hi hk
  simp only [go_sem, hx.lenT, hx.n]
  refine ⟨fun h => ?_, fun h => ?_⟩
  · have hlt : i < l.length := by omega
    have f0 := (hG [⟨t.cells, 0, true⟩]).fdOk .i64 hlt (o := 0) (m := 1) (by omega)
    simp only [go_sem, hx.idx, hx.un, f0, (hG _).prd1 hlt 0 (by omega), Prd.cells]
    refine ⟨⟨by omega, by omega⟩, fun he => ⟨(i + 1, (i : Int)), ?_, ⟨?_, .inr ⟨i, hlt, rfl, by simpa using he⟩⟩, ?_⟩, fun he => ⟨(i + 1, k), ?_, ⟨?_, ?_⟩, ?_⟩⟩
    · rw [w64 _ (by omega) (by omega)]; rfl
    · show i + 1 ≤ _; omega
    · show _ - (i + 1) < _ - i; omega
    · rw [w64 _ (by omega) (by omega)]; rfl
    · show i + 1 ≤ _; omega
    · rcases hk with ⟨rfl, h1⟩ | h1
      · refine .inl ⟨rfl, fun j hj => ?_⟩
        rcases Nat.lt_succ_iff_lt_or_eq.1 hj with h2 | rfl
        · exact h1 j h2
        · simpa using he
      · exact .inr h1
    · show _ - (i + 1) < _ - i; omega
  · obtain rfl : i = l.length := by omega
    have hk' : k = kOf l t.product := at_one hm hk (fst_at l t.product)
    rw [whyV, ← hk']
    clear hk'
    refine ⟨fun h1 => leave_drop ?_, fun h1 => ?_⟩
    · rw [if_pos h1]; rfl
    · obtain ⟨j, hj, rfl, _⟩ : ∃ j, j < l.length ∧ k = ((j : Nat) : Int) ∧ (l.getD j noP).id = t.product := by
        rcases hk with ⟨rfl, _⟩ | h
        · exact absurd (by decide) h1
        · exact h
      rw [if_neg h1, pOf, if_neg h1, Int.toNat_natCast]
      obtain ⟨c1, c2, c3⟩ := prdsB_from hm hj
      obtain ⟨d1, d2⟩ := hl _ (getD_memP noP hj)
      have sr := fun d H => s_rRuns d H d1 d2 c3
      have v1 := isv_len d1.2.2.2.2.2.1
      have v2 := isv_len d1.2.2.2.2.2.2
      refine w_loop _ (fun (i : Nat) => ([(0, x), (2, I z), (3, I m), (5, .ptr H.length 0), (9, I j), (11, I (t.zones / 2 ^ i)), (12, I i)], H ++ [⟨t.cells, 0, true⟩])) (fun i => (i : Int) ≤ z) (fun i => 7 - i) 0 (by simpa using b1) (by simp) ?_
      intro i hi
      have hw : 0 ≤ t.zones / 2 ^ i ∧ t.zones / 2 ^ i ≤ 255 := by
        have h2 : (1 : Int) ≤ 2 ^ i := Int.pow_pos (by decide)
        exact ⟨Int.ediv_nonneg (by omega) (by omega), Int.le_trans (Int.ediv_le_self _ (by omega)) (by omega)⟩
      simp only [go_sem]
      refine ⟨fun hlt => ⟨by decide, i + 1, ?_, by omega, by omega⟩, fun hlt => ⟨by decide, fun hb => leave_drop ?_, fun hb => ?_⟩⟩
      · have e := div_halves t.zones (by omega) i
        have e2 := Int.tdiv_eq_ediv_of_nonneg (b := 2) hw.1
        rw [w64 _ (by omega) (by omega), w64 _ (by omega) (by omega), e]; rfl
      · obtain rfl : i = z.toNat := by omega
        rw [Int.tmod_eq_emod_of_nonneg hw.1] at hb
        rw [if_pos (by simp only [zoneB]; simp at hb ⊢; omega)]; rfl
      · obtain rfl : i = z.toNat := by omega
        rw [Int.tmod_eq_emod_of_nonneg hw.1] at hb
        rw [if_neg (by simp only [zoneB]; simp at hb ⊢; omega)]
        have f2 := (hG [⟨t.cells, 0, true⟩]).fdOk .i64 hj (o := 2) (m := 5) (by omega)
        have f1 := (hG [⟨t.cells, 0, true⟩]).fdOk .i64 hj (o := 1) (m := 1) (by omega)
        simp only [go_sem, hx.idx, hx.un, hx.may, f2, (hG _).prd5 hj]
        have e1 : IntKind.i64.wrap (m.tdiv 1440) = m / 1440 := by rw [Int.tdiv_eq_ediv_of_nonneg b3, w64 _ (by omega) (by omega)]
        rw [e1]
        refine ⟨⟨by omega, by omega⟩, by decide, callW_some (sr _ _) (fun _ => rfl) ?_⟩
        simp only [go_sem, hx.idx, hx.un, hx.may, f1, (hG _).prd1 hj 1 (by omega), Prd.cells]
        rw [w64 (t.from_ + (l.getD j noP).mins) (by omega) (by omega)]
        have e3 : (decide (m < t.from_) || decide (t.from_ + (l.getD j noP).mins ≤ m) || !runsB (l.getD j noP).s (m / 1440)) = !thenB (l.getD j noP) t m := by
          simp only [thenB, Bool.not_and, ← decide_not, Int.not_le, Int.not_lt]
        rw [e3]
        refine ⟨fun _ => ⟨by omega, by omega⟩, fun h => leave_drop ?_, fun h => leave_drop ?_⟩
        · rw [if_pos (by simpa using h)]; rfl
        · rw [if_neg (by simpa using h)]; rfl
theorem t_rCovers {H : AH} {x : AV} {l : List Prd} (hx : Sl 7 H x (pcs l) l.length) (hl : ∀ p ∈ l, p.ok ∧ p.few) (hn : l.length ≤ 1000000) (t : Tkt) (z m : Int) (hm : prdsB l = true) : Called Tryz.prog F.clapperref14_Covers [x, .agg t.cells, I z, I m] H (Bl (coversB l t z m)) H := by
  refine e_clapperref14_Covers ?_
  have hG : ∀ K, Sl 7 (H ++ K) x (pcs l) l.length := fun K => hx.app
  simp only [ic_clapperref14_Covers, go_sem]
  refine callW_some (t_rtMay t _) (fun _ => rfl) ?_
  simp only [go_sem]
  refine callW_some (t_rplc _ _ _) (fun _ => rfl) ?_
  simp only [go_sem, hx.may, hx.un]
  refine callG_of (fun h => t_why (hG _) hl hn t z m hm ?_ ?_) ?_
  · simp only [Bool.and_eq_true] at h; exact h.1
  · simp only [Bool.and_eq_true] at h; exact h.2
  simp only [go_sem]
  refine leave_drop ?_
  simp only [low, coversB, hm, Bool.true_and]
  congr 3
  rw [whyV, covB]
  by_cases h : kOf l t.product < 0
  · rw [if_pos h, show decide (0 ≤ kOf l t.product) = false by simp; omega]; rfl
  · rw [if_neg h, show decide (0 ≤ kOf l t.product) = true by simp; omega]
    cases zoneB t.zones z <;> cases thenB (pOf l (kOf l t.product)) t m <;> rfl
end Go.Proofs.YtgfploghjpbcaaaGreat.Eng
