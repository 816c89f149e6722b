/- The document's layer 2: sums, differences, which is less. -/
import Derived.Test.YtgfploghjpbcaaaMNum
import Derived.Test.YtgfploghjpbcaaaCfd
import Derived.Test.YtgfploghjpbcaaaMEc
import Derived.Test.YtgfploghjpbcaaaMPt
namespace Go.Proofs.Ytgfploghjpbcaaa.Eng
open Go Go.Proofs
set_option linter.unusedVariables false
set_option linter.unusedSimpArgs false
set_option maxRecDepth 10000
theorem r_add {H : AH} {a b c : Nat} (ha : a < (18446744073709551616 : Nat)) (hb : b < (18446744073709551616 : Nat)) (hc : c ≤ 1) : Called Try.prog F.clapperref02_add [W a, W b, W c] H (.tup [W ((a + b + c) % (18446744073709551616 : Nat)), W ((a + b + c) / (18446744073709551616 : Nat))]) H := by
  refine e_clapperref02_add ?_
  have w1 : ∀ a b : Nat, IntKind.u64.wrap ((a : Int) + (b : Int)) = (((a + b) % (18446744073709551616 : Nat) : Nat) : Int) := fun a b => by rw [← Int.natCast_add, wumod]
  have t1 : ((a + b) % (18446744073709551616 : Nat) + c) % (18446744073709551616 : Nat) = (a + b + c) % (18446744073709551616 : Nat) := by omega
  simp only [ic_clapperref02_add, go_sem, w1, t1]
  refine ⟨fun h1 => ⟨fun h2 => leave_same ?_, fun h2 => leave_same ?_⟩, fun h1 => ⟨fun h2 => leave_same ?_, fun h2 => leave_same ?_⟩⟩
  · rw [show (a + b + c) / (18446744073709551616 : Nat) = 1 by omega]; rfl
  · rw [show (a + b + c) / (18446744073709551616 : Nat) = 1 by omega]; rfl
  · rw [show (a + b + c) / (18446744073709551616 : Nat) = 1 by omega]; rfl
  · rw [show (a + b + c) / (18446744073709551616 : Nat) = 0 by omega]; rfl
theorem set_part {k n a i : Nat} (hi : i < k) (v : Nat) (hv : n / (18446744073709551616 : Nat) ^ i % (18446744073709551616 : Nat) = v) : (wd i n ++ (wd k a).drop i).set i (W v) = wd (i + 1) n ++ (wd k a).drop (i + 1) := by
  have hl : i < (wd k a).length := by rw [wd_length]; exact hi
  rw [List.set_append_right _ _ (by rw [wd_length]; exact Nat.le_refl _), wd_length, Nat.sub_self, List.drop_eq_getElem_cons hl, List.set_cons_zero]
  have : wd (i + 1) n = wd i n ++ [W v] := by rw [wd, dig_succ, List.map_append, hv]; rfl
  rw [this]
  simp
theorem get_part {k n a i : Nat} (hi : i < k) : (wd i n ++ (wd k a).drop i).getD i .junk = W (a / (18446744073709551616 : Nat) ^ i % (18446744073709551616 : Nat)) := by
  rw [List.getD_eq_getElem?_getD, List.getElem?_append_right (by rw [wd_length]; exact Nat.le_refl _), wd_length, Nat.sub_self, List.getElem?_drop, Nat.add_zero, ← List.getD_eq_getElem?_getD, wd_get hi]
theorem len_part {k n a i : Nat} (hi : i ≤ k) : (wd i n ++ (wd k a).drop i).length = k := by
  rw [List.length_append, List.length_drop, wd_length, wd_length]; omega
theorem r_plus {H : AH} {a b : Nat} (ha : a < (18446744073709551616 : Nat) ^ 4) (hb : b < (18446744073709551616 : Nat) ^ 4) : Called Try.prog F.clapperref02_plus [.agg (num a), .agg (num b)] H (.tup [.agg (num (a + b)), Bl (decide ((18446744073709551616 : Nat) ^ 4 ≤ a + b))]) H := by
  refine e_clapperref02_plus ?_
  have l2 := wd_length 4 b
  simp only [ic_clapperref02_plus, go_sem, one_wd, num_ne]
  refine w_loop _ (fun (i : Nat) => ([(2, .ptr H.length 0), (3, .ptr (H.length + 1) 0), (4, .ptr (H.length + 2) 0), (6, W ((a % (18446744073709551616 : Nat) ^ i + b % (18446744073709551616 : Nat) ^ i) / (18446744073709551616 : Nat) ^ i)), (7, I i)], H ++ [⟨wd i (a + b) ++ (num a).drop i, 0, true⟩, ⟨num b, 0, true⟩, ⟨[W 0, W 0, W 0, W 0], 0, true⟩])) (fun i => i ≤ 4) (fun i => 4 - i) 0 (Nat.zero_le _) ?_ ?_
  · simp [Nat.mod_one, wd, dig]
  intro i hi
  simp only [go_sem]
  refine ⟨fun hh => ?_, fun hh => ?_⟩
  · have hi : i < 4 := by omega
    obtain ⟨d1, d2⟩ := add_digit (B := (18446744073709551616 : Nat)) (by decide) a b i
    have x1 : a / (18446744073709551616 : Nat) ^ i % (18446744073709551616 : Nat) < (18446744073709551616 : Nat) := Nat.mod_lt _ (by decide)
    have x2 : b / (18446744073709551616 : Nat) ^ i % (18446744073709551616 : Nat) < (18446744073709551616 : Nat) := Nat.mod_lt _ (by decide)
    have w2 : IntKind.i64.wrap ((i : Int) + 1) = ((i + 1 : Nat) : Int) := by rw [w64 _ (by omega) (by omega)]; omega
    have hp : 0 < (18446744073709551616 : Nat) ^ i := Nat.pow_pos (by decide)
    have c1 : (a % (18446744073709551616 : Nat) ^ i + b % (18446744073709551616 : Nat) ^ i) / (18446744073709551616 : Nat) ^ i ≤ 1 := by
      have h1 := Nat.mod_lt a hp
      have h2 := Nat.mod_lt b hp
      have : (a % (18446744073709551616 : Nat) ^ i + b % (18446744073709551616 : Nat) ^ i) / (18446744073709551616 : Nat) ^ i < 2 := by rw [Nat.div_lt_iff_lt_mul hp]; omega
      omega
    simp only [go_sem, len_part (Nat.le_of_lt hi), get_part hi, l2, wd_get hi]
    have ib : ((0 : Int) ≤ i) ∧ (i : Int) < 4 := ⟨by clear d1 d2 c1 x1 x2; omega, by clear d1 d2 c1 x1 x2; omega⟩
    have i3 : i ≤ 3 := by clear d1 d2 c1 x1 x2; omega
    have i5 : i + 1 ≤ (wd i (a + b)).length + ((num a).drop i).length := by rw [wd_length, List.length_drop, wd_length]; clear d1 d2 c1 x1 x2; omega
    refine ⟨ib, i5, ib, i3, callW_some (r_add x1 x2 c1) (fun _ => rfl) ?_⟩
    rw [← d1, ← d2]
    simp only [go_sem, len_part (Nat.le_of_lt hi), set_part hi _ rfl, w2]
    exact ⟨ib, i3, i + 1, rfl, rfl, hi, by clear d1 d2 c1 x1 x2; omega⟩
  · obtain rfl : i = 4 := by omega
    have e1 : wd 4 (a + b) ++ (num a).drop 4 = num (a + b) := by
      rw [List.drop_of_length_le (by rw [wd_length]; exact Nat.le_refl _), List.append_nil]
    have e4 : ((((a % (18446744073709551616 : Nat) ^ 4 + b % (18446744073709551616 : Nat) ^ 4) / (18446744073709551616 : Nat) ^ 4 : Nat) : Int) == 1) = decide ((18446744073709551616 : Nat) ^ 4 ≤ a + b) := by
      rw [Nat.mod_eq_of_lt ha, Nat.mod_eq_of_lt hb]
      by_cases h : (18446744073709551616 : Nat) ^ 4 ≤ a + b
      · rw [show (a + b) / (18446744073709551616 : Nat) ^ 4 = 1 by omega, decide_eq_true h]; rfl
      · rw [show (a + b) / (18446744073709551616 : Nat) ^ 4 = 0 by omega, decide_eq_false h]; rfl
    simp only [e1, e4, go_sem, num_take, one_wd, wd_length, num_spliceW, num_splice]
    exact ⟨by omega, leave_drop rfl⟩
theorem r_less {H : AH} {a b : Nat} (ha : a < (18446744073709551616 : Nat) ^ 4) (hb : b < (18446744073709551616 : Nat) ^ 4) : Called Try.prog F.clapperref02_less [.agg (num a), .agg (num b)] H (Bl (decide (a < b))) H := by
  refine e_clapperref02_less ?_
  have l1 := wd_length 4 a
  have l2 := wd_length 4 b
  simp only [ic_clapperref02_less, go_sem, one_wd, num_ne]
  refine w_loop _ (fun (k : Nat) => ([(2, .ptr H.length 0), (3, .ptr (H.length + 1) 0), (5, I (3 - (k : Int)))], H ++ [⟨num a, 0, true⟩, ⟨num b, 0, true⟩])) (fun k => k ≤ 4 ∧ a / (18446744073709551616 : Nat) ^ (4 - k) = b / (18446744073709551616 : Nat) ^ (4 - k)) (fun k => 4 - k) 0 ⟨by decide, by rw [Nat.div_eq_of_lt ha, Nat.div_eq_of_lt hb]⟩ rfl ?_
  rintro k ⟨hk, heq⟩
  simp only [go_sem]
  refine ⟨fun hh => ?_, fun hh => ?_⟩
  · obtain ⟨i, hi, hi4⟩ : ∃ i : Nat, 3 - (k : Int) = i ∧ i < 4 := ⟨3 - k, by omega, by omega⟩
    have e4 : 4 - k = i + 1 := by omega
    rw [e4] at heq
    obtain ⟨c1, c2⟩ := cmp_digit heq
    obtain ⟨c3, _⟩ := cmp_digit heq.symm
    have w2 : IntKind.i64.wrap ((i : Int) - 1) = 3 - ((k + 1 : Nat) : Int) := by rw [w64 _ (by omega) (by omega)]; omega
    simp only [hi, go_sem, l1, l2, wd_get hi4, w2]
    have q1 : ∀ x y : Nat, ((x : Int) < (y : Int)) = (x < y) := fun x y => propext Int.ofNat_lt
    have q2 : ∀ x y : Nat, (((x : Int) != (y : Int)) = true) = (x ≠ y) := fun x y => by simp only [bne_iff_ne, ne_eq, eq_iff_iff]; omega
    have q3 : ∀ x y : Nat, (((x : Int) != (y : Int)) = false) = (x = y) := fun x y => by simp only [bne_eq_false_iff_eq, eq_iff_iff]; omega
    simp only [q1, q2, q3]
    have ib : ((0 : Int) ≤ i) ∧ i < 4 := ⟨Int.natCast_nonneg _, hi4⟩
    have i3 : i ≤ 3 := Nat.le_of_lt_succ hi4
    refine ⟨ib, i3, ib, i3, fun hne => ⟨ib, i3, ib, i3, leave_drop ?_⟩, fun he => ⟨k + 1, rfl, ⟨by omega, ?_⟩, by omega⟩⟩
    · simp only [low]
      congr 2
      rcases Nat.lt_or_gt_of_ne hne with h | h
      · rw [decide_eq_true h, decide_eq_true (c1 h)]
      · rw [decide_eq_false (by omega), decide_eq_false (by have := c3 h; omega)]
    · rw [show 4 - (k + 1) = i by omega]
      exact c2 he
  · obtain rfl : k = 4 := by omega
    rw [Nat.sub_self, Nat.pow_zero, Nat.div_one, Nat.div_one] at heq
    subst heq
    refine leave_drop ?_
    simp [low]
theorem comp_digit {b : Nat} (hb : b < (18446744073709551616 : Nat) ^ 4) {i : Nat} (hi : i < 4) : ((18446744073709551616 : Nat) ^ 4 - 1 - b) / (18446744073709551616 : Nat) ^ i % (18446744073709551616 : Nat) = (18446744073709551616 : Nat) - 1 - b / (18446744073709551616 : Nat) ^ i % (18446744073709551616 : Nat) := by
  have e1 : (18446744073709551616 : Nat) ^ 4 = (18446744073709551616 : Nat) ^ i * ((18446744073709551616 : Nat) * (18446744073709551616 : Nat) ^ (3 - i)) := by rw [← Nat.pow_succ', ← Nat.pow_add]; congr 1; omega
  have hp : 0 < (18446744073709551616 : Nat) ^ i := Nat.pow_pos (by decide)
  have e2 := Nat.div_add_mod b ((18446744073709551616 : Nat) ^ i)
  have e3 := Nat.mod_lt b hp
  have e4 : b / (18446744073709551616 : Nat) ^ i < (18446744073709551616 : Nat) * (18446744073709551616 : Nat) ^ (3 - i) := by
    rw [Nat.div_lt_iff_lt_mul hp, Nat.mul_comm, ← e1]; exact hb
  rw [e1]
  generalize (18446744073709551616 : Nat) ^ i = P at *
  generalize (18446744073709551616 : Nat) ^ (3 - i) = M at *
  generalize hq : b / P = q at *
  generalize b % P = r at *
  obtain ⟨d, hd⟩ : ∃ d, (18446744073709551616 : Nat) * M = q + 1 + d := ⟨(18446744073709551616 : Nat) * M - q - 1, by omega⟩
  have e5 : P * ((18446744073709551616 : Nat) * M) - 1 - b = P * ((18446744073709551616 : Nat) * M - 1 - q) + (P - 1 - r) := by
    rw [hd, ← e2, show q + 1 + d - 1 - q = d by omega, Nat.mul_add, Nat.mul_add, Nat.mul_one]
    omega
  rw [e5, Nat.mul_add_div hp, Nat.div_eq_of_lt (show P - 1 - r < P by omega)]
  omega
theorem r_minus {H : AH} {a b : Nat} (ha : a < (18446744073709551616 : Nat) ^ 4) (hb : b < (18446744073709551616 : Nat) ^ 4) : Called Try.prog F.clapperref02_minus [.agg (num a), .agg (num b)] H (.agg (num (a + (18446744073709551616 : Nat) ^ 4 - b))) H := by
  refine e_clapperref02_minus ?_
  have l1 := wd_length 4 a
  have l2 := wd_length 4 b
  simp only [ic_clapperref02_minus, go_sem, one_wd, num_ne]
  refine w_loop _ (fun (i : Nat) => ([(2, .ptr H.length 0), (3, .ptr (H.length + 1) 0), (4, .ptr (H.length + 2) 0), (5, I i)], H ++ [⟨num a, 0, true⟩, ⟨wd i ((18446744073709551616 : Nat) ^ 4 - 1 - b) ++ (num b).drop i, 0, true⟩, ⟨[W 0, W 0, W 0, W 0], 0, true⟩])) (fun i => i ≤ 4) (fun i => 4 - i) 0 (Nat.zero_le _) ?_ ?_
  · simp [wd, dig]
  intro i hi
  simp only [go_sem]
  refine ⟨fun hh => ?_, fun hh => ?_⟩
  · have hi : i < 4 := by omega
    have x2 : b / (18446744073709551616 : Nat) ^ i % (18446744073709551616 : Nat) < (18446744073709551616 : Nat) := Nat.mod_lt _ (by decide)
    have w2 : IntKind.i64.wrap ((i : Int) + 1) = ((i + 1 : Nat) : Int) := by rw [w64 _ (by omega) (by omega)]; omega
    have w3 : IntKind.u64.wrap (18446744073709551615 - ((b / (18446744073709551616 : Nat) ^ i % (18446744073709551616 : Nat) : Nat) : Int)) = (((18446744073709551616 : Nat) - 1 - b / (18446744073709551616 : Nat) ^ i % (18446744073709551616 : Nat) : Nat) : Int) := by rw [wu64 _ (by omega) (by omega)]; omega
    have ib : ((0 : Int) ≤ i) ∧ (i : Int) < 4 := ⟨by omega, by omega⟩
    simp only [go_sem, len_part (Nat.le_of_lt hi), get_part hi, w2, w3, set_part hi _ (comp_digit hb hi)]
    have i5 : i + 1 ≤ (wd i ((18446744073709551616 : Nat) ^ 4 - 1 - b)).length + ((num b).drop i).length := by rw [wd_length, List.length_drop, wd_length]; omega
    refine ⟨ib, i5, ib, by first | omega | exact i5, i + 1, rfl, rfl, hi, by omega⟩
  · obtain rfl : i = 4 := by omega
    have hC : (18446744073709551616 : Nat) ^ 4 - 1 - b < (18446744073709551616 : Nat) ^ 4 := by omega
    have e1 : wd 4 ((18446744073709551616 : Nat) ^ 4 - 1 - b) ++ (num b).drop 4 = num ((18446744073709551616 : Nat) ^ 4 - 1 - b) := by
      rw [List.drop_of_length_le (by rw [wd_length]; exact Nat.le_refl _), List.append_nil]
    have e2 : [W 1, W 0, W 0, W 0] = num 1 := rfl
    simp only [e1, go_sem, num_take, one_wd, wd_length, num_spliceW, num_splice, l1]
    refine ⟨by rw [List.length_drop, wd_length]; decide, callW_some (r_plus ha hC) (fun _ => rfl) ?_⟩
    simp only [go_sem, num_take, one_wd, wd_length, num_spliceW, num_splice, l1, fillOk, fillv]
    rw [show [AV.lit (Value.int IntKind.u64 1), AV.lit (Value.int IntKind.u64 0), AV.lit (Value.int IntKind.u64 0), AV.lit (Value.int IntKind.u64 0)] = num 1 from rfl, ← num_mod (a + _)]
    refine callW_some (r_plus (Nat.mod_lt _ (by decide)) (by decide)) (fun _ => rfl) ?_
    have e6 : num ((a + ((18446744073709551616 : Nat) ^ 4 - 1 - b)) % (18446744073709551616 : Nat) ^ 4 + 1) = num (a + (18446744073709551616 : Nat) ^ 4 - b) := by
      rw [← num_mod (_ + 1), ← num_mod (a + (18446744073709551616 : Nat) ^ 4 - b)]
      congr 1
      omega
    rw [e6]
    simp only [go_sem, num_take, one_wd, wd_length, num_spliceW, num_splice, num_splice', l1]
    exact leave_drop rfl
theorem r_Add {H : AH} {a b m : Nat} (ha : a < m) (hb : b < m) (hm : m < (18446744073709551616 : Nat) ^ 4) : Called Try.prog F.clapperref02_Add [.agg (num a), .agg (num b), .agg (num m)] H (.agg (num (fadd m a b))) H := by
  refine e_clapperref02_Add ?_
  have lw := wd_length 4
  have ha' := Nat.lt_trans ha hm
  have hb' := Nat.lt_trans hb hm
  simp only [ic_clapperref02_Add, go_sem, one_wd, num_ne, num_take, lw]
  refine callW_some (r_plus ha' hb') (fun _ => rfl) ?_
  simp only [go_sem, one_wd, num_ne, num_take, lw, num_spliceW, num_splice, num_splice']
  have hs : num (a + b) = num ((a + b) % (18446744073709551616 : Nat) ^ 4) := (num_mod _).symm
  rw [hs]
  have hsl : (a + b) % (18446744073709551616 : Nat) ^ 4 < (18446744073709551616 : Nat) ^ 4 := Nat.mod_lt _ (by decide)
  refine callG_of (fun _ => r_less hsl hm) ?_
  simp only [go_sem, one_wd, num_ne, num_take, lw, num_spliceW, num_splice, num_splice']
  refine ⟨fun h => callW_some (r_minus hsl hm) (fun _ => rfl) ?_, fun h => ?_⟩
  · simp only [go_sem, one_wd, num_ne, num_take, lw, num_spliceW, num_splice, num_splice']
    have : num ((a + b) % (18446744073709551616 : Nat) ^ 4 + (18446744073709551616 : Nat) ^ 4 - m) = num (fadd m a b) := by
      rw [← num_mod (_ - m), ← num_mod (fadd m a b), fadd]
      simp only [Bool.or_eq_true, decide_eq_true_eq, Bool.not_eq_true', decide_eq_false_iff_not] at h
      congr 1
      have : m ≤ a + b := by omega
      rw [Nat.mod_eq_sub_mod this, Nat.mod_eq_of_lt (show a + b - m < m by omega)]
      omega
    rw [this]
    exact leave_drop rfl
  · have : num ((a + b) % (18446744073709551616 : Nat) ^ 4) = num (fadd m a b) := by
      simp only [Bool.or_eq_false_iff, decide_eq_false_iff_not, Bool.not_eq_false', decide_eq_true_eq] at h
      rw [fadd]
      congr 1
      rw [Nat.mod_eq_of_lt (show a + b < (18446744073709551616 : Nat) ^ 4 by omega), Nat.mod_eq_of_lt (show a + b < m by omega)]
    rw [this]
    exact leave_drop rfl
theorem r_Sub {H : AH} {a b m : Nat} (ha : a < m) (hb : b < m) (hm : m < (18446744073709551616 : Nat) ^ 4) : Called Try.prog F.clapperref02_Sub [.agg (num a), .agg (num b), .agg (num m)] H (.agg (num (fsub m a b))) H := by
  refine e_clapperref02_Sub ?_
  have lw := wd_length 4
  have ha' := Nat.lt_trans ha hm
  have hb' := Nat.lt_trans hb hm
  simp only [ic_clapperref02_Sub, go_sem, one_wd, num_ne, num_take, lw]
  refine callW_some (r_less ha' hb') (fun _ => rfl) ?_
  simp only [go_sem, one_wd, num_ne, num_take, lw, num_spliceW, num_splice, num_splice']
  have hs : num (a + (18446744073709551616 : Nat) ^ 4 - b) = num ((a + (18446744073709551616 : Nat) ^ 4 - b) % (18446744073709551616 : Nat) ^ 4) := (num_mod _).symm
  have hsl : (a + (18446744073709551616 : Nat) ^ 4 - b) % (18446744073709551616 : Nat) ^ 4 < (18446744073709551616 : Nat) ^ 4 := Nat.mod_lt _ (by decide)
  refine ⟨fun h => ?_, fun h => ?_⟩
  · have h : a < b := by simpa using h
    refine callW_some ⟨rfl, fun G => r_minus ha' hb'⟩ (fun _ => rfl) ?_
    simp only [go_sem, one_wd, num_ne, num_take, lw, num_spliceW, num_splice, num_splice']
    rw [hs]
    refine callW_some ⟨rfl, fun G => r_plus hsl hm⟩ (fun _ => rfl) ?_
    have : num ((a + (18446744073709551616 : Nat) ^ 4 - b) % (18446744073709551616 : Nat) ^ 4 + m) = num (fsub m a b) := by
      rw [← num_mod (_ + m), ← num_mod (fsub m a b), fsub]
      congr 1
      rw [Nat.mod_eq_of_lt (show a + (m - b) < m by omega)]
      omega
    rw [this]
    simp only [go_sem, one_wd, num_ne, num_take, lw, num_spliceW, num_splice, num_splice']
    exact leave_drop rfl
  · refine callW_some (r_minus ha' hb') (fun _ => rfl) ?_
    have : num (a + (18446744073709551616 : Nat) ^ 4 - b) = num (fsub m a b) := by
      rw [hs, fsub]
      congr 1
      have h : ¬ a < b := by simpa using h
      rw [show a + (m - b) = (a - b) + m by omega, Nat.add_mod_right, Nat.mod_eq_of_lt (show a - b < m by omega)]
      omega
    rw [this]
    simp only [go_sem, one_wd, num_ne, num_take, lw, num_spliceW, num_splice, num_splice']
    exact leave_drop rfl
theorem top_bit {w : Nat} (hw : w < (18446744073709551616 : Nat)) : (decide (9223372036854775808 ≤ (w : Int)) = decide (w / 2 ^ 63 = 1)) := by
  congr 1; apply propext; omega
/-- The product as it grows, bit by bit. -/
theorem grow (m a b i : Nat) : fadd m (fadd m (fmul m a (b / 2 ^ (i + 1))) (fmul m a (b / 2 ^ (i + 1)))) (if b / 2 ^ i % 2 = 1 then a else 0) = fmul m a (b / 2 ^ i) := by
  have e : b / 2 ^ i = 2 * (b / 2 ^ (i + 1)) + b / 2 ^ i % 2 := by rw [Nat.pow_succ, ← Nat.div_div_eq_div_mul]; omega
  generalize b / 2 ^ (i + 1) = q at *
  generalize b / 2 ^ i = y at *
  rw [e]
  have h2 : y % 2 = 0 ∨ y % 2 = 1 := by omega
  unfold fadd fmul
  have e1 : (if (2 * q + y % 2) % 2 = 1 then a else 0) = a * (y % 2) := by
    rcases h2 with h | h <;> rw [h]
    · rw [if_neg (by omega), Nat.mul_zero]
    · rw [if_pos (by omega), Nat.mul_one]
  rw [e1, ← Nat.add_mod, Nat.mod_add_mod, Nat.mul_add, ← Nat.two_mul, Nat.mul_left_comm]
theorem top_of {w j : Nat} (hj : j < 64) : (9223372036854775808 ≤ ((w * 2 ^ j % (18446744073709551616 : Nat) : Nat) : Int)) = (w / 2 ^ (63 - j) % 2 = 1) := by
  have h1 : w * 2 ^ j % (18446744073709551616 : Nat) / 2 ^ 63 = w / 2 ^ (63 - j) % 2 := by
    rw [show (18446744073709551616 : Nat) = 2 * 2 ^ 63 by decide, Nat.mod_mul_left_div_self]
    congr 1
    rw [show (2 : Nat) ^ 63 = 2 ^ (63 - j) * 2 ^ j by rw [← Nat.pow_add]; congr 1; omega, Nat.mul_div_mul_right _ _ (Nat.pow_pos (by decide))]
  apply propext
  rw [← h1]
  have := Nat.mod_lt (w * 2 ^ j) (show 0 < (18446744073709551616 : Nat) by decide)
  omega
theorem fadd0 {m a : Nat} (h : a < m) : fadd m a 0 = a := by rw [fadd, Nat.add_zero, Nat.mod_eq_of_lt h]
theorem r_Mul {H : AH} {a b m : Nat} (ha : a < m) (hb : b < (18446744073709551616 : Nat) ^ 4) (hm : m < (18446744073709551616 : Nat) ^ 4) : Called Try.prog F.clapperref02_Mul [.agg (num a), .agg (num b), .agg (num m)] H (.agg (num (fmul m a b))) H := by
  refine e_clapperref02_Mul ?_
  have lw := wd_length 4
  have ha' := Nat.lt_trans ha hm
  have h0 : 0 < m := by omega
  simp only [ic_clapperref02_Mul, go_sem, one_wd, num_ne, num_take, lw]
  refine w_loop _ (fun (k : Nat) => ([(3, .ptr H.length 0), (4, .ptr (H.length + 1) 0), (5, .ptr (H.length + 2) 0), (6, .ptr (H.length + 3) 0), (7, .ptr (H.length + 4) 0), (8, I (3 - (k : Int)))], H ++ [⟨num a, 0, true⟩, ⟨num b, 0, true⟩, ⟨num m, 0, true⟩, ⟨[W 0, W 0, W 0, W 0], 0, true⟩, ⟨num (fmul m a (b / 2 ^ (256 - 64 * k))), 0, true⟩])) (fun k => k ≤ 4) (fun k => 4 - k) 0 (Nat.zero_le _) ?_ ?_
  · have : b / 2 ^ 256 = 0 := Nat.div_eq_of_lt (by rw [show (2 : Nat) ^ 256 = (18446744073709551616 : Nat) ^ 4 by decide]; exact hb)
    simp only [Nat.mul_zero, Nat.sub_zero, this, fmul, Nat.zero_mod]; rfl
  intro k hk
  simp only [go_sem]
  refine ⟨fun hh => ?_, fun hh => ?_⟩
  · obtain ⟨i, hi, hi4⟩ : ∃ i : Nat, 3 - (k : Int) = i ∧ i < 4 := ⟨3 - k, by omega, by omega⟩
    have w2 : IntKind.i64.wrap ((i : Int) - 1) = 3 - ((k + 1 : Nat) : Int) := by rw [w64 _ (by omega) (by omega)]; omega
    simp only [hi, go_sem, lw, wd_get hi4]
    refine ⟨⟨by omega, by omega⟩, by omega, ?_⟩
    have hw : b / (18446744073709551616 : Nat) ^ i % (18446744073709551616 : Nat) < (18446744073709551616 : Nat) := Nat.mod_lt _ (by decide)
    refine w_loop _ (fun (j : Nat) => ([(3, .ptr H.length 0), (4, .ptr (H.length + 1) 0), (5, .ptr (H.length + 2) 0), (6, .ptr (H.length + 3) 0), (7, .ptr (H.length + 4) 0), (8, I i), (9, W (b / (18446744073709551616 : Nat) ^ i % (18446744073709551616 : Nat) * 2 ^ j % (18446744073709551616 : Nat))), (10, I j)], H ++ [⟨num a, 0, true⟩, ⟨num b, 0, true⟩, ⟨num m, 0, true⟩, ⟨[W 0, W 0, W 0, W 0], 0, true⟩, ⟨num (fmul m a (b / 2 ^ (64 * (i + 1) - j))), 0, true⟩])) (fun j => j ≤ 64) (fun j => 64 - j) 0 (Nat.zero_le _) ?_ ?_
    · rw [show 256 - 64 * k = 64 * (i + 1) - 0 by omega, Nat.pow_zero, Nat.mul_one, Nat.mod_mod]; rfl
    intro j hj
    simp only [go_sem]
    refine ⟨fun hh => ?_, fun hh => ?_⟩
    · have hj : j < 64 := by omega
      simp only [go_sem, one_wd, num_ne, num_take, lw]
      have hf := fmul_lt h0 a (b / 2 ^ (64 * (i + 1) - j))
      refine callW_some (r_Add hf hf hm) (fun _ => rfl) ?_
      simp only [go_sem, one_wd, num_ne, num_take, lw, num_spliceW, num_splice, num_splice']
      have tb : (9223372036854775808 ≤ ((b / (18446744073709551616 : Nat) ^ i % (18446744073709551616 : Nat) * 2 ^ j % (18446744073709551616 : Nat) : Nat) : Int)) = (b / 2 ^ (64 * (i + 1) - (j + 1)) % 2 = 1) := by
        rw [top_of hj]
        have := bit_digit b (64 * (i + 1) - (j + 1))
        rw [show (64 * (i + 1) - (j + 1)) / 64 = i by omega, show (64 * (i + 1) - (j + 1)) % 64 = 63 - j by omega] at this
        rw [this]
      have g := grow m a b (64 * (i + 1) - (j + 1))
      rw [show 64 * (i + 1) - (j + 1) + 1 = 64 * (i + 1) - j by omega] at g
      have w3 : IntKind.u64.wrap (((b / (18446744073709551616 : Nat) ^ i % (18446744073709551616 : Nat) * 2 ^ j % (18446744073709551616 : Nat) : Nat) : Int) + ((b / (18446744073709551616 : Nat) ^ i % (18446744073709551616 : Nat) * 2 ^ j % (18446744073709551616 : Nat) : Nat) : Int)) = ((b / (18446744073709551616 : Nat) ^ i % (18446744073709551616 : Nat) * 2 ^ (j + 1) % (18446744073709551616 : Nat) : Nat) : Int) := by
        rw [← Int.natCast_add, wumod, ← Nat.two_mul, Nat.mul_mod_mod, Nat.pow_succ]
        congr 2
        generalize b / (18446744073709551616 : Nat) ^ i % (18446744073709551616 : Nat) = u
        rw [Nat.mul_comm 2, Nat.mul_assoc]
      have w4 : IntKind.i64.wrap ((j : Int) + 1) = ((j + 1 : Nat) : Int) := by rw [w64 _ (by omega) (by omega)]; omega
      have fl := fadd_lt h0 (fmul m a (b / 2 ^ (64 * (i + 1) - j))) (fmul m a (b / 2 ^ (64 * (i + 1) - j)))
      simp only [tb]
      refine ⟨fun h => callW_some (r_Add fl ha hm) (fun _ => rfl) ?_, fun h => ?_⟩
      · rw [if_pos h] at g
        rw [g]
        simp only [go_sem, one_wd, num_ne, num_take, lw, num_spliceW, num_splice, num_splice', w3, w4]
        exact ⟨j + 1, rfl, rfl, hj, by omega⟩
      · rw [if_neg h, fadd0 fl] at g
        rw [g]
        simp only [go_sem, w3, w4]
        exact ⟨j + 1, rfl, rfl, hj, by omega⟩
    · obtain rfl : j = 64 := by omega
      simp only [w2]
      exact ⟨k + 1, rfl, by rw [show 64 * (i + 1) - 64 = 256 - 64 * (k + 1) by omega], by omega, by omega⟩
  · obtain rfl : k = 4 := by omega
    simp only [go_sem, one_wd, num_ne, num_take, lw, num_spliceW, num_splice, num_splice', Nat.reduceMul, Nat.sub_self, Nat.pow_zero, Nat.div_one]
    exact leave_drop rfl
end Go.Proofs.Ytgfploghjpbcaaa.Eng
/- The document's layer 1: the parts of a number; numbers compared. -/
namespace Go.Proofs.Ytgfploghjpbcaaa.Eng
open Go Go.Proofs
set_option linter.unusedVariables false
set_option linter.unusedSimpArgs false
set_option maxRecDepth 10000
abbrev pt16 (k n : Nat) : List AV := (dig (65536 : Nat) k n).map fun d => I ((d : Nat) : Int)
theorem pt_len (k n : Nat) : (pt16 k n).length = k := by simp [pt16, dig_length]
theorem one_pt (k n : Nat) : (pt16 k n).all AV.one = true := one_map (fun d : Nat => I (d : Int)) (fun _ => rfl) _
theorem pt_succ (k n : Nat) : pt16 (k + 1) n = pt16 k n ++ [I ((n / (65536 : Nat) ^ k % (65536 : Nat) : Nat) : Int)] := by
  rw [pt16, dig_succ, List.map_append]; rfl
theorem pt_get {k n i : Nat} (h : i < k) : (pt16 k n).getD i .junk = I ((n / (65536 : Nat) ^ i % (65536 : Nat) : Nat) : Int) := by
  have := dig_get (B := (65536 : Nat)) k n i h
  rw [List.getD_eq_getElem?_getD] at this ⊢
  have hl : i < (dig (65536 : Nat) k n).length := by rw [dig_length]; exact h
  rw [List.getElem?_eq_getElem hl, Option.getD_some] at this
  rw [pt16, List.getElem?_map, List.getElem?_eq_getElem hl, Option.map_some, Option.getD_some, this]
theorem part_digit (a i k : Nat) (hk : k < 4) : a / (18446744073709551616 : Nat) ^ i % (18446744073709551616 : Nat) / (65536 : Nat) ^ k % (65536 : Nat) = a / (65536 : Nat) ^ (4 * i + k) % (65536 : Nat) := by
  have e1 : (18446744073709551616 : Nat) ^ i = (65536 : Nat) ^ (4 * i) := by rw [Nat.pow_mul]
  have e2 : (18446744073709551616 : Nat) = (65536 : Nat) ^ k * (65536 : Nat) ^ (4 - k) := by rw [← Nat.pow_add, show k + (4 - k) = 4 by omega]
  have e3 : (65536 : Nat) ^ (4 - k) = (65536 : Nat) * (65536 : Nat) ^ (3 - k) := by rw [← Nat.pow_succ']; congr 1; omega
  rw [e1, Nat.pow_add, ← Nat.div_div_eq_div_mul]
  generalize a / (65536 : Nat) ^ (4 * i) = x
  conv => lhs; rw [e2]
  rw [Nat.mod_mul_right_div_self, e3, Nat.mod_mul_right_mod]
theorem r_parts {H : AH} (a : Nat) : Called Try.prog F.clapperref01_Parts [.agg (num a)] H (.view (pt16 16 a) 16 false) H := by
  refine e_clapperref01_Parts ?_
  have lw := wd_length 4 a
  simp only [ic_clapperref01_Parts, go_sem, one_wd, num_ne]
  refine w_loop _ (fun (i : Nat) => ([(1, .ptr H.length 0), (3, rA (H ++ [⟨num a, 0, true⟩]) (pt16 (4 * i) a) (4 * i)), (4, I i)], hA 1 (H ++ [⟨num a, 0, true⟩]) (pt16 (4 * i) a) (4 * i))) (fun i => i ≤ 4) (fun i => 4 - i) 0 (Nat.zero_le _) rfl ?_
  intro i hi
  have hH : H.length < (H ++ [(⟨num a, 0, true⟩ : AObj)]).length := by simp
  have oH : ∀ vs n, obj (hA 1 (H ++ [⟨num a, 0, true⟩]) vs n) H.length = ⟨num a, 0, true⟩ := fun vs n => by rw [hA_old hH, obj_app0]; rfl
  have lH : ∀ vs n, H.length < (hA 1 (H ++ [⟨num a, 0, true⟩]) vs n).length := fun vs n => Nat.lt_of_lt_of_le hH hA_len
  simp only [go_sem]
  refine ⟨fun hh => ?_, fun hh => ?_⟩
  · have hi : i < 4 := by omega
    simp only [go_sem, oH, lH, lw, wd_get hi]
    refine ⟨⟨by omega, by omega⟩, by omega, ?_⟩
    refine w_loop _ (fun (k : Nat) => ([(1, .ptr H.length 0), (3, rA (H ++ [⟨num a, 0, true⟩]) (pt16 (4 * i + k) a) (4 * i + k)), (4, I i), (5, W (a / (18446744073709551616 : Nat) ^ i % (18446744073709551616 : Nat) / (65536 : Nat) ^ k)), (6, I k)], hA 1 (H ++ [⟨num a, 0, true⟩]) (pt16 (4 * i + k) a) (4 * i + k))) (fun k => k ≤ 4) (fun k => 4 - k) 0 (Nat.zero_le _) (by rw [Nat.pow_zero, Nat.div_one]; rfl) ?_
    intro k hk
    simp only [go_sem]
    refine ⟨fun hh => ?_, fun hh => ?_⟩
    · have hk : k < 4 := by omega
      have dg := part_digit a i k hk
      have w1 : IntKind.i64.wrap (((a / (18446744073709551616 : Nat) ^ i % (18446744073709551616 : Nat) / (65536 : Nat) ^ k : Nat) : Int).tmod 65536) = ((a / (65536 : Nat) ^ (4 * i + k) % (65536 : Nat) : Nat) : Int) := by
        rw [Int.tmod_eq_emod_of_nonneg (Int.natCast_nonneg _), ← dg, w64 _ (by omega) (by omega)]; omega
      have w3 : IntKind.u64.wrap (((a / (18446744073709551616 : Nat) ^ i % (18446744073709551616 : Nat) / (65536 : Nat) ^ k : Nat) : Int).tdiv 65536) = ((a / (18446744073709551616 : Nat) ^ i % (18446744073709551616 : Nat) / (65536 : Nat) ^ (k + 1) : Nat) : Int) := by
        have hlt : a / (18446744073709551616 : Nat) ^ i % (18446744073709551616 : Nat) / (65536 : Nat) ^ k < (18446744073709551616 : Nat) := Nat.lt_of_le_of_lt (Nat.div_le_self _ _) (Nat.mod_lt _ (by decide))
        rw [Int.tdiv_eq_ediv_of_nonneg (Int.natCast_nonneg _), Nat.pow_succ, ← Nat.div_div_eq_div_mul]
        generalize a / (18446744073709551616 : Nat) ^ i % (18446744073709551616 : Nat) / (65536 : Nat) ^ k = x at *
        rw [wu64 _ (by omega) (by omega)]; omega
      have w4 : IntKind.i64.wrap ((k : Int) + 1) = ((k + 1 : Nat) : Int) := by rw [w64 _ (by omega) (by omega)]; omega
      rw [w1]
      obtain ⟨⟨_, _, b3, b4⟩, q2, q3⟩ := build_app (sz := 1) (H := H ++ [⟨num a, 0, true⟩]) (vs := pt16 (4 * i + k) a) (n := 4 * i + k) (b := 8) (s := .view [I ((a / (65536 : Nat) ^ (4 * i + k) % (65536 : Nat) : Nat) : Int)] 1 true) (cs := [I ((a / (65536 : Nat) ^ (4 * i + k) % (65536 : Nat) : Nat) : Int)]) (by rw [pt_len]; omega) rfl rfl rfl rfl (by omega)
      refine ⟨by decide, ⟨b3, b4⟩, by decide, k + 1, ?_, ?_, hk, by omega⟩
      · rw [w3, w4, q2, ← pt_succ]; rfl
      · rw [q3, ← pt_succ]; rfl
    · obtain rfl : k = 4 := by omega
      have w4 : IntKind.i64.wrap ((i : Int) + 1) = ((i + 1 : Nat) : Int) := by rw [w64 _ (by omega) (by omega)]; omega
      exact ⟨i + 1, by rw [w4]; rfl, rfl, hi, by omega⟩
  · obtain rfl : i = 4 := by omega
    refine leave_drop (G := [⟨num a, 0, true⟩, ⟨pt16 16 a, 1, true⟩]) ?_ |> fun h => by
      have e : hA 1 (H ++ [⟨num a, 0, true⟩]) (pt16 (4 * 4) a) (4 * 4) = H ++ [⟨num a, 0, true⟩, ⟨pt16 16 a, 1, true⟩] := by
        simp only [hA, List.append_assoc]; rfl
      rw [e]; exact h
    have e : H ++ [⟨num a, 0, true⟩, ⟨pt16 16 a, 1, true⟩] = (H ++ [⟨num a, 0, true⟩]) ++ [⟨pt16 16 a, 1, true⟩] := by rw [List.append_assoc]; rfl
    have e2 : rA (H ++ [(⟨num a, 0, true⟩ : AObj)]) (pt16 (4 * 4) a) (4 * 4) = .row (H ++ [(⟨num a, 0, true⟩ : AObj)]).length 0 16 16 := by
      rw [rA, if_neg (by decide), pt_len]
    rw [e2, e]
    refine low_newrow (sz := 1) (n := 16) ?_ (by decide) (by rw [pt_len]) ?_ true 16 (by rw [pt_len])
    · rw [List.length_append]; exact renk_none_add _ _
    · have : ∀ l : List Nat, pureL (l.map fun d => I ((d : Nat) : Int)) = true := fun l => by
        induction l with
        | nil => rfl
        | cons d r ih => simp only [List.map_cons, pureL, ih]; rfl
      exact this _
theorem cmp_step (a b i : Nat) : cmpN (a % (65536 : Nat) ^ (i + 1)) (b % (65536 : Nat) ^ (i + 1)) = if a / (65536 : Nat) ^ i % (65536 : Nat) < b / (65536 : Nat) ^ i % (65536 : Nat) then -1 else if b / (65536 : Nat) ^ i % (65536 : Nat) < a / (65536 : Nat) ^ i % (65536 : Nat) then 1 else cmpN (a % (65536 : Nat) ^ i) (b % (65536 : Nat) ^ i) := by
  have hp : 0 < (65536 : Nat) ^ i := Nat.pow_pos (by decide)
  have ha := Nat.mod_lt a hp
  have hb := Nat.mod_lt b hp
  rw [Nat.pow_succ, Nat.mod_mul, Nat.mod_mul]
  generalize a / (65536 : Nat) ^ i % (65536 : Nat) = x at *
  generalize b / (65536 : Nat) ^ i % (65536 : Nat) = y at *
  generalize a % (65536 : Nat) ^ i = r at *
  generalize b % (65536 : Nat) ^ i = s at *
  generalize (65536 : Nat) ^ i = P at *
  have lt : ∀ x y r s : Nat, r < P → x < y → r + P * x < s + P * y := fun x y r s hr h => by
    have := Nat.mul_le_mul_left P (show x + 1 ≤ y from h)
    rw [Nat.mul_add] at this
    omega
  split
  · rename_i h
    have := lt x y r s ha h
    rw [cmpN, if_pos this]
  · split
    · rename_i h
      have := lt y x s r hb h
      rw [cmpN, if_neg (by omega), if_pos this]
    · obtain rfl : x = y := by omega
      unfold cmpN
      simp only [Nat.add_lt_add_iff_right]
theorem r_Cmp {H : AH} {a b : Nat} (ha : a < (18446744073709551616 : Nat) ^ 4) (hb : b < (18446744073709551616 : Nat) ^ 4) : Called Try.prog F.clapperref01_Cmp [.agg (num a), .agg (num b)] H (I (cmpN a b)) H := by
  refine e_clapperref01_Cmp ?_
  have lw := wd_length 4
  simp only [ic_clapperref01_Cmp, go_sem, one_wd, num_ne, num_take, lw]
  refine callW_some (r_parts a) (fun _ => rfl) ?_
  simp only [go_sem, one_wd, num_ne, num_take, lw]
  refine callW_some (r_parts b) (fun _ => rfl) ?_
  simp only [go_sem]
  refine w_loop _ (fun (i : Nat) => ([(5, .view (pt16 16 a) 16 false), (6, .view (pt16 16 b) 16 false), (7, I (cmpN (a % (65536 : Nat) ^ i) (b % (65536 : Nat) ^ i))), (8, I i)], H ++ [⟨num a, 0, true⟩, ⟨num b, 0, true⟩])) (fun i => i ≤ 16) (fun i => 16 - i) 0 (Nat.zero_le _) (by simp [Nat.mod_one, cmpN]) ?_
  intro i hi
  simp only [go_sem]
  refine ⟨fun hh => ?_, fun hh => ?_⟩
  · have hi : i < 16 := by omega
    have el : ∀ n, elt (pt16 16 n) 1 i = [I ((n / (65536 : Nat) ^ i % (65536 : Nat) : Nat) : Int)] := fun n => by
      have := pt_get (n := n) hi
      rw [elt, Nat.mul_one, drop_cons (show i < (pt16 16 n).length by rw [pt_len]; exact hi) .junk, this]; rfl
    have w4 : IntKind.i64.wrap ((i : Int) + 1) = ((i + 1 : Nat) : Int) := by rw [w64 _ (by omega) (by omega)]; omega
    have st := cmp_step a b i
    have q1 : ∀ x y : Nat, ((x : Int) < (y : Int)) = (x < y) := fun x y => propext Int.ofNat_lt
    simp only [go_sem, el, w4, pt_len, q1]
    have ib : ((0 : Int) ≤ i) ∧ i < 16 := ⟨by omega, hi⟩
    have nx : ∀ v, v = cmpN (a % (65536 : Nat) ^ (i + 1)) (b % (65536 : Nat) ^ (i + 1)) → ∃ a' : Nat, look [(5, AV.view (pt16 16 a) 16 false), (6, AV.view (pt16 16 b) 16 false), (7, I v), (8, AV.lit (Value.int IntKind.i64 ↑(i + 1)))] = look [(5, AV.view (pt16 16 a) 16 false), (6, AV.view (pt16 16 b) 16 false), (7, I (cmpN (a % 65536 ^ a') (b % 65536 ^ a'))), (8, I ↑a')] ∧ a' ≤ 16 ∧ 16 - a' < 16 - i := fun v hv => ⟨i + 1, by rw [hv], hi, by omega⟩
    rw [st] at nx
    refine ⟨ib, ib, fun h1 => ⟨ib, ib, fun h2 => absurd h1 (by omega), fun h2 => nx _ (by rw [if_pos h1])⟩, fun h1 => ⟨ib, ib, fun h2 => nx _ (by rw [if_neg h1, if_pos h2]), fun h2 => nx _ (by rw [if_neg h1, if_neg h2])⟩⟩
  · obtain rfl : i = 16 := by omega
    refine leave_drop ?_
    rw [show (65536 : Nat) ^ 16 = (18446744073709551616 : Nat) ^ 4 by decide, Nat.mod_eq_of_lt ha, Nat.mod_eq_of_lt hb]; rfl
end Go.Proofs.Ytgfploghjpbcaaa.Eng
/- The document's layer 5: which points are on the curve. -/
namespace Go.Proofs.Ytgfploghjpbcaaa.Eng
open Go Go.Proofs
set_option linter.unusedVariables false
set_option linter.unusedSimpArgs false
set_option maxRecDepth 10000
theorem r_P {H : AH} : Called Try.prog F.clapperref05_P [] H (.agg (num (115792089210356248762697446949407573530086143415290314195533631308867097853951 : Nat))) H := by
  refine e_clapperref05_P ?_
  simp only [ic_clapperref05_P, go_sem, fillOk, fillv]
  have e : [AV.lit (.int .u64 18446744073709551615), .lit (.int .u64 4294967295), Z0, .lit (.int .u64 18446744069414584321)] = num (115792089210356248762697446949407573530086143415290314195533631308867097853951 : Nat) := rfl
  simp only [e, num_splice, num_take, one_wd, wd_length, go_sem]
  exact leave_drop rfl
theorem r_b {H : AH} : Called Try.prog F.clapperref05_b [] H (.agg (num (41058363725152142129326129780047268409114441015993725554835256314039467401291 : Nat))) H := by
  refine e_clapperref05_b ?_
  simp only [ic_clapperref05_b, go_sem, fillOk, fillv]
  have e : [AV.lit (.int .u64 4309448131093880907), .lit (.int .u64 7285987128567378166), .lit (.int .u64 12964664127075681980), .lit (.int .u64 6540974713487397863)] = num (41058363725152142129326129780047268409114441015993725554835256314039467401291 : Nat) := rfl
  simp only [e, num_splice, num_take, one_wd, wd_length, go_sem]
  exact leave_drop rfl
theorem r_mul {H : AH} {x y : Nat} (hx : x < (115792089210356248762697446949407573530086143415290314195533631308867097853951 : Nat)) (hy : y < (115792089210356248762697446949407573530086143415290314195533631308867097853951 : Nat)) : Called Try.prog F.clapperref05_mul [.agg (num x), .agg (num y)] H (.agg (num (fmul (115792089210356248762697446949407573530086143415290314195533631308867097853951 : Nat) x y))) H := by
  have hPP : (115792089210356248762697446949407573530086143415290314195533631308867097853951 : Nat) < (18446744073709551616 : Nat) ^ 4 := mo_P.lt
  refine e_clapperref05_mul ?_
  simp only [ic_clapperref05_mul, go_sem, one_wd, num_ne, num_take, wd_length]
  refine callW_some r_P (fun _ => rfl) ?_
  simp only [go_sem, one_wd, num_ne, num_take, wd_length]
  refine callW_some (r_Mul hx (Nat.lt_trans hy hPP) hPP) (fun _ => rfl) ?_
  generalize fmul (115792089210356248762697446949407573530086143415290314195533631308867097853951 : Nat) x y = z
  simp only [go_sem, one_wd, num_ne, num_take, wd_length, num_splice, num_spliceW]
  exact leave_drop rfl
theorem r_sub {H : AH} {x y : Nat} (hx : x < (115792089210356248762697446949407573530086143415290314195533631308867097853951 : Nat)) (hy : y < (115792089210356248762697446949407573530086143415290314195533631308867097853951 : Nat)) : Called Try.prog F.clapperref05_sub [.agg (num x), .agg (num y)] H (.agg (num (fsub (115792089210356248762697446949407573530086143415290314195533631308867097853951 : Nat) x y))) H := by
  have hPP : (115792089210356248762697446949407573530086143415290314195533631308867097853951 : Nat) < (18446744073709551616 : Nat) ^ 4 := mo_P.lt
  refine e_clapperref05_sub ?_
  simp only [ic_clapperref05_sub, go_sem, one_wd, num_ne, num_take, wd_length]
  refine callW_some r_P (fun _ => rfl) ?_
  simp only [go_sem, one_wd, num_ne, num_take, wd_length]
  refine callW_some (r_Sub hx hy hPP) (fun _ => rfl) ?_
  generalize fsub (115792089210356248762697446949407573530086143415290314195533631308867097853951 : Nat) x y = z
  simp only [go_sem, one_wd, num_ne, num_take, wd_length, num_splice, num_spliceW]
  exact leave_drop rfl
theorem r_On {H : AH} {x y : Nat} {f : Bool} (hx : x < (18446744073709551616 : Nat) ^ 4) (hy : y < (18446744073709551616 : Nat) ^ 4) : Called Try.prog F.clapperref05_On [.agg (pcell x y f)] H (Bl (onRaw x y f)) H := by
  refine e_clapperref05_On ?_
  have hPP : (115792089210356248762697446949407573530086143415290314195533631308867097853951 : Nat) < (18446744073709551616 : Nat) ^ 4 := mo_P.lt
  have h0 : 0 < (115792089210356248762697446949407573530086143415290314195533631308867097853951 : Nat) := by decide
  have e0 : [Z0, Z0, Z0, Z0] = num 0 := rfl
  have e3 : [AV.lit (.int .u64 3), Z0, Z0, Z0] = num 3 := rfl
  simp only [ic_clapperref05_On, go_sem, pc_one, pc_ne, pc_len, pc_f, fillOk, fillv]
  refine ⟨fun h => ?_, fun h => ?_⟩
  · subst h
    simp only [go_sem, pc_x, pc_y, pc_len, e0, agg_ok, agg_eq hx (show 0 < (18446744073709551616 : Nat) ^ 4 by decide), agg_eq hy (show 0 < (18446744073709551616 : Nat) ^ 4 by decide)]
    exact leave_drop (by simp only [low, onRaw, cond_true]; rfl)
  · subst h
    simp only [go_sem, pc_x, pc_y, pc_len]
    refine callW_some r_P (fun _ => rfl) ?_
    simp only [go_sem]
    refine callW_some (r_Cmp hx hPP) (fun _ => rfl) ?_
    simp only [go_sem, cmp_ge, pc_len, pc_y]
    refine callG_of (fun _ => r_P) ?_
    simp only [go_sem, cmp_ge, pc_len, pc_y]
    refine callG_of (fun _ => r_Cmp hy hPP) ?_
    simp only [go_sem, cmp_ge, pc_len, pc_y]
    refine ⟨fun h => ?_, fun h => ?_⟩
    · refine leave_drop ?_
      have : onRaw x y false = false := by
        simp only [onRaw, cond_false]
        rw [Bool.and_eq_false_iff, Bool.and_eq_false_iff]
        refine .inl ?_
        simp only [Bool.or_eq_true, decide_eq_true_eq] at h
        have bf : ∀ a b : Nat, b ≤ a → Nat.blt a b = false := fun a b h => by
          cases hh : Nat.blt a b
          · rfl
          · rw [Nat.blt_eq] at hh; omega
        rcases h with h | h
        · exact .inl (bf _ _ h)
        · exact .inr (bf _ _ h)
      rw [this]; rfl
    · have h : ¬ (115792089210356248762697446949407573530086143415290314195533631308867097853951 : Nat) ≤ x ∧ ¬ (115792089210356248762697446949407573530086143415290314195533631308867097853951 : Nat) ≤ y := by simpa using h
      have hx : x < (115792089210356248762697446949407573530086143415290314195533631308867097853951 : Nat) := by omega
      have hy : y < (115792089210356248762697446949407573530086143415290314195533631308867097853951 : Nat) := by omega
      have bt : ∀ a b : Nat, a < b → Nat.blt a b = true := fun a b h => by rw [Nat.blt_eq]; exact h
      simp only [go_sem, pc_x, pc_len]
      refine callW_some ⟨rfl, fun G => r_mul hx hx⟩ (fun _ => rfl) ?_
      simp only [go_sem, pc_x, pc_len]
      refine callW_some ⟨rfl, fun G => r_mul (fmul_lt h0 _ _) hx⟩ (fun _ => rfl) ?_
      simp only [go_sem, pc_x, pc_len, one_wd, wd_length, num_splice, e3]
      refine callW_some (r_mul (by decide) hx) (fun _ => rfl) ?_
      simp only [go_sem, pc_x, pc_y, pc_len, one_wd, wd_length, num_splice, e3]
      refine callW_some (r_mul hy hy) (fun _ => rfl) ?_
      simp only [go_sem, num_take, wd_length]
      refine callW_some (r_sub (fmul_lt h0 _ _) (fmul_lt h0 _ _)) (fun _ => rfl) ?_
      simp only [go_sem]
      refine callW_some r_b (fun _ => rfl) ?_
      simp only [go_sem]
      refine callW_some r_P (fun _ => rfl) ?_
      simp only [go_sem]
      refine callW_some (r_Add (fsub_lt h0 _ _) (by decide) hPP) (fun _ => rfl) ?_
      have b1 := Nat.lt_trans (fmul_lt h0 y y) hPP
      have b2 := Nat.lt_trans (fadd_lt h0 (fsub (115792089210356248762697446949407573530086143415290314195533631308867097853951 : Nat) (fmul (115792089210356248762697446949407573530086143415290314195533631308867097853951 : Nat) (fmul (115792089210356248762697446949407573530086143415290314195533631308867097853951 : Nat) x x) x) (fmul (115792089210356248762697446949407573530086143415290314195533631308867097853951 : Nat) 3 x)) (41058363725152142129326129780047268409114441015993725554835256314039467401291 : Nat)) hPP
      simp only [go_sem, wd_length, agg_ok, agg_eq b1 b2]
      refine leave_drop ?_
      simp only [onRaw, cond_false, bt _ _ hx, bt _ _ hy, Bool.true_and, onB, low]
      generalize fmul (115792089210356248762697446949407573530086143415290314195533631308867097853951 : Nat) y y = u
      generalize fadd (115792089210356248762697446949407573530086143415290314195533631308867097853951 : Nat) _ (41058363725152142129326129780047268409114441015993725554835256314039467401291 : Nat) = v
      rfl
end Go.Proofs.Ytgfploghjpbcaaa.Eng
