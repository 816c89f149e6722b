/- Layer 16: a flash, opened. -/
import Derived.Test.YtdgabfeeoplldaaJr4
namespace Go.Proofs.Ytdgabfeeoplldaa.Eng
open Go Go.Proofs
set_option linter.unusedVariables false
set_option linter.unusedSimpArgs false
set_option maxRecDepth 10000
def encs (rs : List (List UInt8)) : List UInt8 := (rs.map recB).flatten
theorem encs_cons (r : List UInt8) (rs : List (List UInt8)) : encs (r :: rs) = recB r ++ encs rs := rfl
theorem encs_append (a b : List (List UInt8)) : encs (a ++ b) = encs a ++ encs b := by simp [encs]
theorem fst_rec {r t : List UInt8} (h2 : r.length ≤ 2000) : fst (recB r ++ t) = r := by
  have h3 : (recB r ++ t).take 2 = beN 2 r.length := by
    rw [recB, List.append_assoc, List.take_append_of_le_length (by rw [beN_length]; exact Nat.le_refl _), List.take_of_length_le (by rw [beN_length]; exact Nat.le_refl _)]
  have h4 : be ((recB r ++ t).take 2) = r.length := by rw [h3, be_beN, Nat.mod_eq_of_lt (by omega)]
  have h5 := recB_length r
  rw [fst, h4, if_neg (by simp only [List.length_append]; omega), recB, List.append_assoc, List.drop_append, beN_length, List.drop_eq_nil_of_le (by rw [beN_length]; exact Nat.le_refl _)]
  simp
theorem getD_drop0 {α : Type} (l : List α) (k : Nat) (d : α) : (l.drop k).getD 0 d = l.getD k d := by simp [List.getD_eq_getElem?_getD]
theorem t_open {H : AH} {f r : Nat} {B : List UInt8} (hF : FL H f r B) (h64 : 64 ≤ B.length) (hB : B.length ≤ 1048576) {T e : Nat} {rs : List (List UInt8)} {tl : List UInt8}
    (hs : (if (rd (B.take 24) ((B.length : Int) - 48)).1 < (rd ((B.drop 24).take 24) ((B.length : Int) - 48)).1 then rd ((B.drop 24).take 24) ((B.length : Int) - 48) else rd (B.take 24) ((B.length : Int) - 48)) = ((T : Int), (e : Int)))
    (ha : (B.drop 48).take e = encs rs ++ tl) (he : 48 + e ≤ B.length) (ht : fst tl = []) (hr : ∀ r ∈ rs, 1 ≤ r.length ∧ r.length ≤ 2000) :
    ∃ H' x, Called Try.prog F.journal_Open [.ptr f 0] H (.tup [.ptr (H.length + 2) 0, nilE]) H' ∧ JR H' (H.length + 2) f x T (encs rs).length rs false ∧ Fr H H' (fun _ => False) ∧ ∀ q, rid x = some q → H.length ≤ q := by
  have k1 : (B.take 24).length = 24 := by simp; omega
  have k2 : ((B.drop 24).take 24).length = 24 := by simp; omega
  have hlen : ((B.drop 48).take e).length = e := by simp; omega
  have hrl : ∀ k, (encs (rs.drop k) ++ tl).length ≤ 1048576 := by
    intro k
    have h1 := congrArg List.length ha
    have h2 : encs rs = encs (rs.take k) ++ encs (rs.drop k) := by rw [← encs_append, List.take_append_drop]
    rw [hlen, h2] at h1
    simp only [List.length_append] at *
    omega
  obtain ⟨fv, hfv⟩ := Classical.axiomOfChoice fun k => t_first (hrl k) false
  have hfst : ∀ k, k < rs.length → fst (encs (rs.drop k) ++ tl) = rs.getD k [] := by
    intro k hk
    rw [drop_cons hk [], encs_cons, List.append_assoc, fst_rec (hr _ (getD_mem' hk _)).2]
  obtain ⟨m1, m2, hm⟩ : ∃ a b, rd (B.take 24) ((B.length : Int) - 48) = (a, b) := ⟨_, _, rfl⟩
  obtain ⟨n1, n2, hn⟩ : ∃ a b, rd ((B.drop 24).take 24) ((B.length : Int) - 48) = (a, b) := ⟨_, _, rfl⟩
  rw [hm, hn] at hs
  have c0 : cut (bs B) 1 0 24 = bs (B.take 24) := by rw [cut_bs]; rfl
  have c1 : cut (bs B) 1 24 48 = bs ((B.drop 24).take 24) := cut_bs _ _ _
  have c2 : cut (bs B) 1 48 (48 + e) = bs (encs rs ++ tl) := by rw [cut_bs, Nat.add_sub_cancel_left, ha]
  have w1 := w64 ((B.length : Int) - 48) (by omega) (by omega)
  have w2 : IntKind.i64.wrap (48 + (e : Int)) = ((48 + e : Nat) : Int) := by rw [w64 _ (by omega) (by omega)]; omega
  obtain ⟨a, b, hab⟩ : ∃ a b : AObj, (m1 < n1 → a = ⟨[I T, I e], 0, true⟩ ∧ b = ⟨[I T, I e], 0, true⟩) ∧ (¬ m1 < n1 → a = ⟨[I T, I e], 0, true⟩ ∧ b = ⟨[I n1, I n2], 0, true⟩) := by
    by_cases h : m1 < n1
    · exact ⟨_, _, fun _ => ⟨rfl, rfl⟩, fun h' => absurd h h'⟩
    · exact ⟨_, _, fun h' => absurd h' h, fun _ => ⟨rfl, rfl⟩⟩
  let vs : List AV := rs.map fun r => vB r false
  have hvl : vs.length = rs.length := by simp [vs]
  obtain ⟨X, hX⟩ : ∃ X : AH, X = H ++ [a, b, ⟨[.ptr f 0, I T, I 0, nilS, Bl false], 0, true⟩] := ⟨_, rfl⟩
  have hXl : X.length = H.length + 3 := by rw [hX]; simp
  have hj : H.length + 2 < X.length := by omega
  have hXo : obj X (H.length + 2) = ⟨[.ptr f 0, I T, I 0, nilS, Bl false], 0, true⟩ := by rw [hX, obj_appk]; rfl
  obtain ⟨P, hP⟩ : ∃ P : Nat → AH, P = fun k => setO X (H.length + 2) [.ptr f 0, I T, I ((encs (rs.take k)).length : Nat), rA X (vs.take k) k, Bl false] := ⟨_, rfl⟩
  have hPl : ∀ k, (P k).length = X.length := fun k => by rw [hP]; exact setO_length _ _ _
  have hPo : ∀ k, obj (P k) (H.length + 2) = ⟨[.ptr f 0, I T, I ((encs (rs.take k)).length : Nat), rA X (vs.take k) k, Bl false], 0, true⟩ := fun k => by rw [hP]; simp only; rw [obj_setO _ _ hj, hXo]
  have hPs : ∀ k k', setO (P k) (H.length + 2) [.ptr f 0, I T, I ((encs (rs.take k')).length : Nat), rA X (vs.take k') k', Bl false] = P k' := fun k k' => by rw [hP]; exact setO_setO _ _ _ _
  have hP0 : P 0 = X := by rw [hP]; exact setO_self hXo hj
  have hrest : ∀ k, k < rs.length → encs (rs.drop k) ++ tl = recB (rs.getD k []) ++ (encs (rs.drop (k + 1)) ++ tl) := fun k hk => by rw [drop_cons hk [], encs_cons, List.append_assoc]
  have hel : (encs rs).length + tl.length = e := by rw [← List.length_append, ← ha, hlen]
  refine ⟨hA 1 (P rs.length) vs rs.length, rA X vs rs.length, ?_, ?_, ?_, ?_⟩
  · refine e_journal_Open ?_
    simp only [ic_journal_Open, go_sem]
    refine callG_of (fun _ => t_fsize hF) ?_
    simp only [go_sem]
    refine ⟨fun h => by omega, fun _ => callW_some (t_fbytes hF hB) (fun _ => rfl) ?_⟩
    simp only [go_sem, w1, c0, c1]
    refine ⟨⟨⟨by omega, by omega⟩, by simp⟩, callW_some ⟨rfl, fun G => t_read k1 _ _⟩ (fun _ => rfl) ?_⟩
    simp only [go_sem, w1, c0, c1, hm]
    refine ⟨⟨⟨by omega, by omega, by omega⟩, by simp⟩, callW_some ⟨rfl, fun G => t_read k2 _ _⟩ (fun _ => rfl) ?_⟩
    simp only [go_sem, hm, hn]
    have ev : AV.view (bs (encs rs ++ tl)) (48 + e - 48) false = vB (encs (rs.drop 0) ++ tl) false := by
      rw [vB, List.drop_zero, List.length_append, hel, Nat.add_sub_cancel_left]
    have hEk : ∀ k, k < rs.length → (encs (rs.take (k + 1))).length = (encs (rs.take k)).length + (2 + (rs.getD k []).length) ∧ (encs (rs.take (k + 1))).length ≤ (encs rs).length := by
      intro k hk
      have h1 : encs rs = encs (rs.take (k + 1)) ++ encs (rs.drop (k + 1)) := by rw [← encs_append, List.take_append_drop]
      have h2 := congrArg List.length h1
      rw [take_snoc hk [], encs_append] at h2 ⊢
      have h3 : (encs [rs.getD k []]).length = 2 + (rs.getD k []).length := by simp [encs, recB_length]; omega
      simp only [List.length_append, h3] at h2 ⊢
      exact ⟨trivial, by omega⟩
    have hrn : ∀ k, k ≤ rs.length → k ≤ (encs (rs.take k)).length := by
      intro k
      induction k with
      | zero => exact fun _ => Nat.zero_le _
      | succ k ih => intro hk; have h1 := (hEk k hk).1; have h2 := ih (by omega); omega
    have hrn2 : rs.length ≤ (encs rs).length := by have := hrn rs.length (Nat.le_refl _); rwa [List.take_length] at this
    have hjk : ∀ k, H.length + 2 < (P k).length := fun k => by rw [hPl]; exact hj
    refine ⟨fun hc => ?_, fun hc => ?_⟩
    · simp only [hc, if_true, Prod.mk.injEq] at hs
      obtain ⟨rfl, rfl⟩ := hs
      obtain ⟨ea, eb⟩ := hab.1 hc
      rw [ea, eb] at hX
      simp only [w2, Int.toNat_natCast, c2, ev]
      rw [← hX, ← hP0]
      refine ⟨⟨⟨by omega, by omega, by omega⟩, by simp⟩, callW_some (hfv 0 _).1 (fun _ => rfl) ?_⟩
      simp only [go_sem]
      refine w_loop _ (fun (k : Nat) => ([(7, .ptr (H.length + 2) 0), (8, vB (encs (rs.drop k) ++ tl) false), (9, fv k)], hA 1 (P k) (vs.take k) k)) (fun k => k ≤ rs.length) (fun k => rs.length - k) 0 (Nat.zero_le _) rfl ?_
      intro k hk
      obtain ⟨f1, f2⟩ := hfv k (hA 1 (P k) (vs.take k) k)
      simp only [go_sem, f2.s]
      refine ⟨fun hh => ?_, fun hh => ?_⟩
      · have hk : k < rs.length := by
          refine Classical.byContradiction fun h => ?_
          obtain rfl : k = rs.length := by omega
          rw [List.drop_length] at hh
          simp [encs, ht] at hh
        have q1 : obj (hA 1 (P k) (vs.take k) k) (H.length + 2) = _ := (hA_old (hjk k)).trans (hPo k)
        have q2 : H.length + 2 < (hA 1 (P k) (vs.take k) k).length := Nat.lt_of_lt_of_le (hjk k) hA_len
        rw [hfst k hk] at f2
        have hrk := hr _ (getD_mem' hk [])
        simp only [q1, q2, go_sem]
        refine callW_some (t_cloneB f2 (by omega)) (fun _ => rfl) ?_
        obtain ⟨h1, h2, h3⟩ := build_app (H := P k) (sz := 1) (n := k) (vs := vs.take k) (by simp; omega) (s := .view [vB (rs.getD k []) false] 1 true) (cs := [vB (rs.getD k []) false]) (b := 24) rfl rfl rfl rfl (by omega)
        rw [rA_len (hPl k)] at h1 h2 h3
        simp only [go_sem] at h1
        rw [rA_len (hPl k)] at h2
        have e1 : vs.take k ++ [vB (rs.getD k []) false] = vs.take (k + 1) := by
          rw [take_snoc (by omega) .junk]; congr 2; simp [vs, List.getD_eq_getElem?_getD, hk]
        rw [e1] at h2 h3
        have hE := hEk k hk
        have sk := build_sl (sz := 1) (H := P k) (vs := vs.take k) (n := k) (by simp; omega)
        have su := build_sl (sz := 1) (H := P k) (vs := vs.take (k + 1)) (n := k + 1) (by simp; omega)
        rw [rA_len (hPl k)] at sk su
        have g1 : obj (hA 1 (P k) (vs.take (k + 1)) (k + 1)) (H.length + 2) = _ := (hA_old (hjk k)).trans (hPo k)
        have g2 : H.length + 2 < (hA 1 (P k) (vs.take (k + 1)) (k + 1)).length := Nat.lt_of_lt_of_le (hjk k) hA_len
        have g3 : ∀ c, obj (setO (hA 1 (P k) (vs.take (k + 1)) (k + 1)) (H.length + 2) c) (H.length + 2) = ⟨c, 0, true⟩ := fun c => by rw [obj_setO _ _ g2, g1]
        have g4 : setO (hA 1 (P k) (vs.take (k + 1)) (k + 1)) (H.length + 2) [.ptr f 0, I T, I ((encs (rs.take (k + 1))).length : Nat), rA X (vs.take (k + 1)) (k + 1), Bl false] = hA 1 (P (k + 1)) (vs.take (k + 1)) (k + 1) := by rw [hA_set (hjk k), hPs]
        have w3 : IntKind.i64.wrap (2 + ((rs.getD k []).length : Int)) = ((2 + (rs.getD k []).length : Nat) : Int) := by rw [w64 _ (by omega) (by omega)]; omega
        have w4 : IntKind.i64.wrap (((encs (rs.take k)).length : Int) + ((2 + (rs.getD k []).length : Nat) : Int)) = ((encs (rs.take (k + 1))).length : Int) := by rw [w64 _ (by omega) (by omega)]; omega
        have h1' := eq_true h1
        simp only [go_sem, sk.n] at h1'
        have ev2 : AV.view (cut (bs (encs (rs.drop k) ++ tl)) 1 (2 + (rs.getD k []).length) ((encs (rs.drop k)).length + tl.length)) ((encs (rs.drop k)).length + tl.length - (2 + (rs.getD k []).length)) false = vB (encs (rs.drop (k + 1)) ++ tl) false := by
          have h5 := hrest k hk
          have h6 := recB_length (rs.getD k [])
          have h7 := congrArg List.length h5
          simp only [List.length_append] at h7
          rw [cut_bs, h5, List.drop_left' (h6.trans (Nat.add_comm _ _)), List.take_of_length_le (by simp only [List.length_append]; omega), vB]
          congr 1
          simp only [List.length_append]
          omega
        have h8 := congrArg List.length (hrest k hk)
        have h9 := recB_length (rs.getD k [])
        simp only [List.length_append] at h8
        simp only [go_sem, pure_bs, q1, q2, h2, h3, sk.n, h1', su.one, su.cells, g1, g2, g3, f2.lenT, f2.n, w3, w4, setO_setO, ev2, g4, bs_len]
        refine ⟨⟨by omega, by omega⟩, callW_some (hfv (k + 1) _).1 (fun _ => rfl) ?_⟩
        simp only [go_sem]
        exact ⟨k + 1, rfl, rfl, by omega, by omega⟩
      · have hk : k = rs.length := by
          refine Classical.byContradiction fun h => ?_
          rw [hfst k (by omega)] at hh
          have := (hr _ (getD_mem' (show k < rs.length by omega) [])).1
          omega
        subst hk
        have e1 : vs.take rs.length = vs := List.take_of_length_le (by omega)
        simp only [go_sem, e1]
        exact Leave.refl _ _ _
    · rw [if_neg hc] at hs
      simp only [Prod.mk.injEq] at hs
      obtain ⟨rfl, rfl⟩ := hs
      obtain ⟨ea, eb⟩ := hab.2 hc
      rw [ea, eb] at hX
      simp only [w2, Int.toNat_natCast, c2, ev]
      rw [← hX, ← hP0]
      refine ⟨⟨⟨by omega, by omega, by omega⟩, by simp⟩, callW_some (hfv 0 _).1 (fun _ => rfl) ?_⟩
      simp only [go_sem]
      refine w_loop _ (fun (k : Nat) => ([(7, .ptr (H.length + 2) 0), (8, vB (encs (rs.drop k) ++ tl) false), (9, fv k)], hA 1 (P k) (vs.take k) k)) (fun k => k ≤ rs.length) (fun k => rs.length - k) 0 (Nat.zero_le _) rfl ?_
      intro k hk
      obtain ⟨f1, f2⟩ := hfv k (hA 1 (P k) (vs.take k) k)
      simp only [go_sem, f2.s]
      refine ⟨fun hh => ?_, fun hh => ?_⟩
      · have hk : k < rs.length := by
          refine Classical.byContradiction fun h => ?_
          obtain rfl : k = rs.length := by omega
          rw [List.drop_length] at hh
          simp [encs, ht] at hh
        have q1 : obj (hA 1 (P k) (vs.take k) k) (H.length + 2) = _ := (hA_old (hjk k)).trans (hPo k)
        have q2 : H.length + 2 < (hA 1 (P k) (vs.take k) k).length := Nat.lt_of_lt_of_le (hjk k) hA_len
        rw [hfst k hk] at f2
        have hrk := hr _ (getD_mem' hk [])
        simp only [q1, q2, go_sem]
        refine callW_some (t_cloneB f2 (by omega)) (fun _ => rfl) ?_
        obtain ⟨h1, h2, h3⟩ := build_app (H := P k) (sz := 1) (n := k) (vs := vs.take k) (by simp; omega) (s := .view [vB (rs.getD k []) false] 1 true) (cs := [vB (rs.getD k []) false]) (b := 24) rfl rfl rfl rfl (by omega)
        rw [rA_len (hPl k)] at h1 h2 h3
        simp only [go_sem] at h1
        rw [rA_len (hPl k)] at h2
        have e1 : vs.take k ++ [vB (rs.getD k []) false] = vs.take (k + 1) := by
          rw [take_snoc (by omega) .junk]; congr 2; simp [vs, List.getD_eq_getElem?_getD, hk]
        rw [e1] at h2 h3
        have hE := hEk k hk
        have sk := build_sl (sz := 1) (H := P k) (vs := vs.take k) (n := k) (by simp; omega)
        have su := build_sl (sz := 1) (H := P k) (vs := vs.take (k + 1)) (n := k + 1) (by simp; omega)
        rw [rA_len (hPl k)] at sk su
        have g1 : obj (hA 1 (P k) (vs.take (k + 1)) (k + 1)) (H.length + 2) = _ := (hA_old (hjk k)).trans (hPo k)
        have g2 : H.length + 2 < (hA 1 (P k) (vs.take (k + 1)) (k + 1)).length := Nat.lt_of_lt_of_le (hjk k) hA_len
        have g3 : ∀ c, obj (setO (hA 1 (P k) (vs.take (k + 1)) (k + 1)) (H.length + 2) c) (H.length + 2) = ⟨c, 0, true⟩ := fun c => by rw [obj_setO _ _ g2, g1]
        have g4 : setO (hA 1 (P k) (vs.take (k + 1)) (k + 1)) (H.length + 2) [.ptr f 0, I T, I ((encs (rs.take (k + 1))).length : Nat), rA X (vs.take (k + 1)) (k + 1), Bl false] = hA 1 (P (k + 1)) (vs.take (k + 1)) (k + 1) := by rw [hA_set (hjk k), hPs]
        have w3 : IntKind.i64.wrap (2 + ((rs.getD k []).length : Int)) = ((2 + (rs.getD k []).length : Nat) : Int) := by rw [w64 _ (by omega) (by omega)]; omega
        have w4 : IntKind.i64.wrap (((encs (rs.take k)).length : Int) + ((2 + (rs.getD k []).length : Nat) : Int)) = ((encs (rs.take (k + 1))).length : Int) := by rw [w64 _ (by omega) (by omega)]; omega
        have h1' := eq_true h1
        simp only [go_sem, sk.n] at h1'
        have ev2 : AV.view (cut (bs (encs (rs.drop k) ++ tl)) 1 (2 + (rs.getD k []).length) ((encs (rs.drop k)).length + tl.length)) ((encs (rs.drop k)).length + tl.length - (2 + (rs.getD k []).length)) false = vB (encs (rs.drop (k + 1)) ++ tl) false := by
          have h5 := hrest k hk
          have h6 := recB_length (rs.getD k [])
          have h7 := congrArg List.length h5
          simp only [List.length_append] at h7
          rw [cut_bs, h5, List.drop_left' (h6.trans (Nat.add_comm _ _)), List.take_of_length_le (by simp only [List.length_append]; omega), vB]
          congr 1
          simp only [List.length_append]
          omega
        have h8 := congrArg List.length (hrest k hk)
        have h9 := recB_length (rs.getD k [])
        simp only [List.length_append] at h8
        simp only [go_sem, pure_bs, q1, q2, h2, h3, sk.n, h1', su.one, su.cells, g1, g2, g3, f2.lenT, f2.n, w3, w4, setO_setO, ev2, g4, bs_len]
        refine ⟨⟨by omega, by omega⟩, callW_some (hfv (k + 1) _).1 (fun _ => rfl) ?_⟩
        simp only [go_sem]
        exact ⟨k + 1, rfl, rfl, by omega, by omega⟩
      · have hk : k = rs.length := by
          refine Classical.byContradiction fun h => ?_
          rw [hfst k (by omega)] at hh
          have := (hr _ (getD_mem' (show k < rs.length by omega) [])).1
          omega
        subst hk
        have e1 : vs.take rs.length = vs := List.take_of_length_le (by omega)
        simp only [go_sem, e1]
        exact Leave.refl _ _ _
  · have sf := build_sl (sz := 1) (H := P rs.length) (vs := vs) (n := rs.length) (by omega)
    have hfin : rs.take rs.length = rs := List.take_length
    have e1 : vs.take rs.length = vs := List.take_of_length_le (by omega)
    have hPn := hPo rs.length
    rw [hfin, e1] at hPn
    have hjl : H.length + 2 < (P rs.length).length := by rw [hPl]; exact hj
    refine ⟨Nat.lt_of_lt_of_le hjl hA_len, (hA_old hjl).trans hPn, ?_, ?_⟩
    · by_cases h0 : rs.length = 0
      · have : rs = [] := List.eq_nil_of_length_eq_zero h0
        subst this
        exact .nil
      · refine .inr ⟨X.length, vs.length, vs, ?_, ?_, ?_, rfl, ?_, ?_⟩
        · rw [rA, if_neg h0, List.length_map]
        · rw [hA, if_neg h0, List.length_append, hPl]; simp
        · rw [hA, if_neg h0, ← hPl rs.length, obj_app0]; rfl
        · rw [List.length_map]; omega
        · rw [List.length_map, e1]
    · unfold rA
      split
      · intro h; cases h
      · intro h
        have : X.length = H.length + 2 := by injection h
        omega
  · have h1 : Fr X (P rs.length) (fun i => i = H.length + 2) := by rw [hP]; exact Fr.set _ _ rfl
    have h2 : Fr H X (fun _ => False) := hX ▸ Fr.app _ _ _
    refine ⟨Nat.le_trans h2.1 (Nat.le_trans h1.1 hA_len), fun i hi _ => ?_⟩
    rw [hA_old (by rw [hPl]; omega), h1.2 i (by omega) (by omega), h2.2 i hi id]
  · intro q hq
    unfold rA at hq
    split at hq
    · cases hq
    · have : X.length = q := by injection hq
      omega
end Go.Proofs.Ytdgabfeeoplldaa.Eng
