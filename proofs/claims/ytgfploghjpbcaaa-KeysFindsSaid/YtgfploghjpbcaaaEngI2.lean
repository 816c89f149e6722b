/- Drawn regions that make objects, in any order. -/
import Derived.Test.YtgfploghjpbcaaaEngI
import Derived.Test.YtgfploghjpbcaaaEngF2
namespace Go.Proofs.Ytgfploghjpbcaaa.Eng
open Go
set_option linter.unusedVariables false
set_option linter.unusedSimpArgs false
section
variable {P : Program} {pf : Pf} {C : CallRel} {H : AH} {w : World} {base : Nat}
theorem callOf_app {ρ : IArg → AV} {H0 G : AH} {v : AV} {io : Ins} (h : callOf pf ρ (frC C) H0 v H0 io) : callOf pf ρ C (H0 ++ G) v (H0 ++ G) io := by
  cases io with
  | call f ags => exact ⟨h.1.2 G, fun _ => rfl⟩
  | callv x ags =>
    obtain ⟨h1, h2⟩ := h
    refine ⟨?_, fun _ => rfl⟩
    split at h1
    · exact h1.2 G
    · exact h1.elim
  | _ => exact h.elim
theorem e_full {o : IOp} {E : Env} {H0 G : AH} {v : AV} (hc : o.o.cls pf ≤ 1) (hg : ∀ d w, o.g = some (d, w) → ¬ guardG w false (E d)) (h : OpStep pf (frC C) o E H0 v H0) : OpStep pf C o E (H0 ++ G) v (H0 ++ G) := by
  unfold OpStep at *
  split at h
  · split at h
    · rename_i hP; rw [if_pos hP]; exact ⟨h.1, rfl⟩
    · rename_i hP
      rw [if_neg hP]
      unfold stepU at *
      split at h
      · rename_i hC; rw [if_pos hC]; exact callOf_app h
      · rename_i hC
        rw [if_neg hC]
        obtain ⟨h1, h2, _⟩ := h
        obtain ⟨g1, g2⟩ := side_app (G := G) hc h1
        exact ⟨g1, by rw [g2]; exact h2, (inext_ro hc).symm⟩
  · rename_i d w he
    obtain ⟨g, u, h1, h2, _, h4⟩ := h
    have hgt : g = true := by
      cases g with
      | true => rfl
      | false => exact absurd h1 (hg d w he)
    refine ⟨g, u, h1, h2, rfl, ?_⟩
    split at h4
    · rename_i hP; rw [if_pos hP]; exact h4
    · rename_i hP
      rw [if_neg hP]
      refine ⟨h4.1, ?_⟩
      have h5 := h4.2
      split at h5
      · rename_i hC; rw [if_pos hC]; exact fun hg => callOf_app (h5 hg)
      · rename_i hC
        rw [if_neg hC]
        obtain ⟨g1, g2⟩ := side_app (G := G) hc (h5.1 hgt)
        exact ⟨fun _ => g1, by rw [g2]; exact h5.2⟩
theorem step_realR (hC : CallOk P C) (hcmp : ∀ t, pf.c t = true → cmpT P t = true) {ops : Array Oper} {own : Nat → Bool} {o : Oper} {x : RA} {n : Nat} {S0 : Cx} {w0 : World} {E : Env} {a : Act} {v : AV} {H' : AH} (hio : iop? P own ops o = some x.o) (hd : ∀ d, x.o.d = some d → d < n) (hcl : x.o.g = none ∨ x.o.o.cls pf ≤ 1) (hx : raOk pf x)
    (hSI : SI n S0 w0 E H a w) (hst : RStep pf C base x E H v H') {K : Act → World → Prop} {Q : Exit → Act → World → Prop} (hk : ∀ a' w', SI n S0 w0 (upd E x.o.d v) H' a' w' → K a' w') :
    if Region.wanted o (yielded ops a.tmps) then o.wp P a w K Q ∨ (o.asks P a w ∧ LetsOut Q) else K (a.put o.dst undef) w := by
  unfold RStep at hst
  cases hkd : x.k with
  | l => rw [hkd] at hst; exact step_real hC hcmp hio hd hcl hSI hst hk
  | m => rw [hkd] at hst; exact step_real hC hcmp hio hd hcl hSI hst.1 hk
  | w => rw [hkd] at hst; exact step_real hC hcmp hio hd hcl hSI hst.2 hk
  | e =>
    rw [hkd] at hst
    obtain ⟨h1, rfl⟩ := hst
    have hc1 := hx.1 hkd
    have full : (∀ d w, x.o.g = some (d, w) → ¬ guardG w false (E d)) → OpStep pf C x.o E H' v H' := by
      intro hg
      have := e_full (G := H'.drop base) hc1 hg h1
      rwa [List.take_append_drop] at this
    by_cases hg : ∀ d w, x.o.g = some (d, w) → ¬ guardG w false (E d)
    · exact step_real hC hcmp hio hd hcl hSI (full hg) hk
    · simp only [Classical.not_forall, Classical.not_not] at hg
      obtain ⟨d, wt, hg1, hg2⟩ := hg
      obtain ⟨i1, i2, i3⟩ := iop_inv hio
      obtain ⟨φ, hs, hxx, hR⟩ := hSI.ex
      cases hgo : o.guard with
      | none => rw [hgo] at i3; dsimp only at i3; rw [hg1] at i3; cases i3
      | some jw =>
        obtain ⟨j, want⟩ := jw
        rw [hgo] at i3
        obtain ⟨d', hd2, i3⟩ := i3
        rw [hg1] at i3; cases i3
        rw [wanted_of hR hgo hd2 hg2]
        simp only [Bool.false_eq_true, if_false]
        unfold OpStep at h1
        rw [hg1] at h1
        obtain ⟨g, u, k1, rfl, _, _⟩ := h1
        have hgf : g = false := by
          have e1 : Region.wanted o (yielded ops a.tmps) = g := wanted_of hR hgo hd2 k1
          rw [← e1]; exact wanted_of hR hgo hd2 hg2
        subst hgf
        have := hSI.next (v := .may false u) (H' := H') (y := undef) (w' := w) hd hR hxx ⟨φ, hs, .refl _, .refl _, (fun h => by cases h), fun _ => rfl⟩
        rw [i2] at this
        exact hk _ _ (by rw [i2]; exact this)
  | a r =>
    rw [hkd] at hst
    obtain ⟨⟨h1, h2⟩, h3, h4, rfl, rfl⟩ := hst
    obtain ⟨i1, i2, i3⟩ := iop_inv hio
    obtain ⟨φ, hs, hxx, hR⟩ := hSI.ex
    have hη : (∀ f, a.eval (.func f) = .func (.func f) #[] #[]) ∧ ∀ v, a.eval (.const v) = v := ⟨fun f => rfl, fun v => rfl⟩
    have hgn : x.o.g = none := hcl.resolve_right (by have := new_cls (pf := pf) h3; omega)
    have hgo : o.guard = none := by
      cases hh : o.guard with
      | none => rfl
      | some jw => rw [hh] at i3; obtain ⟨d, _, i3⟩ := i3; rw [hgn] at i3; cases i3
    have hw : Region.wanted o (yielded ops a.tmps) = true := by unfold Region.wanted; rw [hgo]
    rw [if_pos hw]
    refine .inl ?_
    have e0 : H.take base ++ H.drop base = H := List.take_append_drop _ _
    obtain ⟨g1, g2, g3⟩ := side_new (G := H.drop base) h3 h4
    rw [e0] at g1 g2 g3
    have hdum : H[base + r]? = some dumO := by rw [← h2]; exact obj_get h1
    have hall : ∀ y, ∃ z, R (cx φ H w) (ev E y) z := by
      intro y
      cases y with
      | t n => exact ⟨_, hR n⟩
      | c v => exact ⟨v, rfl⟩
      | f g => exact ⟨.func (.func g) #[] #[], #[], #[], rfl, rfl, rfl⟩
    have hsat := new_sound (P := P) hs hcmp i1 (ev_R hR) hη hall h3 g1 hdum ⟨rfl, rfl⟩
    rw [g2, g3] at hsat
    refine upon_sat hsat fun y w' hp => ?_
    have := hSI.next hd hR hxx hp
    rw [i2] at this
    exact hk _ _ (by rw [i2]; exact this)
structure DrawR (pf : Pf) (ops : Array Oper) (l : List RA) (bl : List Nat) : Prop where
  len : l.length = ops.size
  at_ : ∀ j, j < l.length → ∃ o, ops[j]? = some o ∧ bl.getD j 0 = CheckFast.one (fun i => bl.getD i 0) o ∧ (∀ e ∈ o.after, Region.binds .any e = true → e.on < j) ∧ raOk pf (l.getD j default) ∧ (∀ i, i ≤ j → adrFix (l.getD i default) (l.getD j default) = true) ∧ ∀ i, i < j → (bl.getD j 0).testBit i = true ∨ commR pf (l.getD i default) (l.getD j default) = true
theorem drawR_of {pf : Pf} {ops : Array Oper} {l : List RA} {bl : List Nat} (hl : l.length = ops.size) (h : drawRAt pf ops l bl = true) : DrawR pf ops l bl := by
  refine ⟨hl, fun j hj => ?_⟩
  simp only [drawRAt, List.all_eq_true, List.mem_range, Bool.and_eq_true] at h
  obtain ⟨h3, ⟨h5, h6⟩, h4⟩ := h j hj
  cases ho : ops[j]? with
  | none => rw [ho] at h3; cases h3
  | some o =>
    rw [ho] at h3
    simp only [Bool.and_eq_true, beq_iff_eq, List.all_eq_true, Bool.or_eq_true, Bool.not_eq_true', decide_eq_true_eq] at h3
    refine ⟨o, rfl, h3.1, fun e he hb => ?_, ⟨fun hk => ?_, fun hk => ?_⟩, fun i hi => h6 i (by omega), fun i hi => by simpa using h4 i hi⟩
    · rcases h3.2 e (Array.mem_toList_iff.2 he) with h5 | h5
      · rw [hb] at h5; cases h5
      · exact h5
    · rw [hk] at h5; simpa using h5
    · rw [hk] at h5; exact h5
theorem any_soundR (hC : CallOk P C) (hcmp : ∀ t, pf.c t = true → cmpT P t = true) {ops : Array Oper} {own : Nat → Bool} {n : Nat} {S0 : Cx} {w0 : World} {K : Env → AH → Prop} {Q : Exit → Act → World → Prop} (hk : ∀ E H a w, SI n S0 w0 E H a w → K E H → Q .normal a w)
    {l : List RA} (hm : ops.toList.mapM (iop? P own ops) = some (l.map (·.o))) (ho : opsOk pf n (l.map (·.o))) {bl : List Nat} (hD : DrawR pf ops l bl) :
    ∀ (fuel : Nat) (listed : Array Bool) (E : Env) (H : AH) (a : Act) (w : World), listed.size = l.length → (∀ m, listed.getD m false = true → ∀ i, (bl.getD m 0).testBit i = true → listed.getD i false = true) →
      ((List.range l.length).filter fun i => !listed.getD i true).length ≤ fuel → SI n S0 w0 E H a w → absR pf C base (((List.range l.length).filter fun i => !listed.getD i true).map fun i => l.getD i default) K E H → wpAny P .any ops Q fuel listed a w := by
  have flip : ∀ (listed : Array Bool), listed.size = l.length → ∀ i, i < l.length → listed.getD i true = listed.getD i false := by
    intro listed hs i hi
    have : i < listed.size := by omega
    simp [this]
  have sub : ∀ (listed : Array Bool), ∀ i ∈ Region.ready .any ops listed, i ∈ (List.range l.length).filter fun i => !listed.getD i true := by
    intro listed i hi
    obtain ⟨h1, o, h2, _⟩ := mem_ready.1 hi
    have := (Array.getElem?_eq_some_iff.1 h2).1
    rw [List.mem_filter, List.mem_range, hD.len]
    exact ⟨this, by rw [h1]; rfl⟩
  have stuck : ∀ (listed : Array Bool), listed.size = l.length → Region.ready .any ops listed = [] → ((List.range l.length).filter fun i => !listed.getD i true) = [] := by
    intro listed hs hr
    have all : ∀ i, i < l.length → listed.getD i true = true := by
      intro i
      induction i using Nat.strongRecOn with
      | _ i ih =>
        intro hi
        by_cases hh : listed.getD i true = true
        · exact hh
        · obtain ⟨o, h1, h2, h3, h4⟩ := hD.at_ i hi
          have : i ∈ Region.ready .any ops listed := mem_ready.2 ⟨by simpa using hh, o, h1, fun e he hb => by
            have h5 := h3 e he hb
            rw [← flip listed hs _ (by omega)]
            exact ih _ h5 (by omega)⟩
          rw [hr] at this; cases this
    rw [List.filter_eq_nil_iff]
    intro i hi
    rw [List.mem_range] at hi
    rw [all i hi]; simp
  intro fuel
  induction fuel with
  | zero =>
    intro listed E H a w hs hcl hf hSI h
    have hnil : ((List.range l.length).filter fun i => !listed.getD i true) = [] := by
      cases hh : ((List.range l.length).filter fun i => !listed.getD i true) with
      | nil => rfl
      | cons x xs => rw [hh] at hf; simp at hf
    rw [hnil] at h
    refine ⟨?_, hk _ _ _ _ hSI h⟩
    cases hr : Region.ready .any ops listed with
    | nil => rfl
    | cons x xs => have := sub listed x (by rw [hr]; simp); rw [hnil] at this; cases this
  | succ fuel ih =>
    intro listed E H a w hs hcl hf hSI h
    refine ⟨fun hr => ?_, fun i hi => ?_⟩
    · rw [stuck listed hs hr] at h
      exact hk _ _ _ _ hSI h
    · have hmem := sub listed i hi
      have hsort : ((List.range l.length).filter fun i => !listed.getD i true).Pairwise (· < ·) := List.pairwise_lt_range.filter _
      have hil : i < l.length := List.mem_range.1 (List.mem_filter.1 hmem).1
      obtain ⟨pre, post, hsplit⟩ := List.append_of_mem hmem
      obtain ⟨o, o1, o2, o3, o5, o7, o4⟩ := hD.at_ i hil
      obtain ⟨r1, o', r2, r3⟩ := mem_ready.1 hi
      rw [o1] at r2; cases r2
      have hlt : ∀ x ∈ pre, x < i := by
        rw [hsplit] at hsort
        exact fun x hx => (List.pairwise_append.1 hsort).2.2 x hx i (by simp)
      have hgt : ∀ x ∈ post, i < x := by
        rw [hsplit] at hsort
        exact fun x hx => (List.pairwise_cons.1 (List.pairwise_append.1 hsort).2.1).1 x hx
      have hcom : ∀ x ∈ pre.map fun i => l.getD i default, raOk pf x ∧ commR pf x (l.getD i default) = true ∧ adrFix x x = true := by
        intro x hx
        obtain ⟨k, hk1, rfl⟩ := List.mem_map.1 hx
        have hki := hlt k hk1
        obtain ⟨_, _, _, _, q5, q6, _⟩ := hD.at_ k (by omega)
        refine ⟨q5, (o4 k hki).resolve_left fun hb => ?_, q6 k (Nat.le_refl _)⟩
        rw [o2] at hb
        obtain ⟨e, e1, e2, e3⟩ := one_bit hb
        have h5 := r3 e e1 e2
        have hk2 : listed.getD k false = true := by
          rcases e3 with rfl | e3
          · exact h5
          · exact hcl _ h5 _ e3
        have hk3 : k ∈ (List.range l.length).filter fun i => !listed.getD i true := by rw [hsplit]; simp [hk1]
        rw [List.mem_filter, List.mem_range] at hk3
        rw [flip listed hs k hk3.1, hk2] at hk3
        simp at hk3
      have hpw : (pre.map fun i => l.getD i default).Pairwise (fun x y => adrFix x y = true) := by
        rw [List.pairwise_map]
        rw [hsplit] at hsort
        refine ((List.pairwise_append.1 hsort).1).imp_of_mem fun {a b} ha hb hab => ?_
        have := hlt b hb
        obtain ⟨_, _, _, _, _, q6, _⟩ := hD.at_ b (by omega)
        exact q6 a (by omega)
      rw [hsplit, List.map_append, List.map_cons] at h
      obtain ⟨_, v, H1, s1, s2⟩ := moveFrontR o5 hcom hpw h
      obtain ⟨io, g1, g2⟩ := mapM_get hm (i := i) (o := o) (by rw [Array.getElem?_toList]; exact o1)
      have hget : (l.getD i default).o = io := by
        rw [List.getElem?_map, List.getElem?_eq_getElem hil] at g1
        rw [List.getD_eq_getElem?_getD, List.getElem?_eq_getElem hil]
        simpa using g1
      have h3 := ho io (List.mem_of_getElem? g1)
      have hrem : ((List.range l.length).filter fun j => !(listed.setIfInBounds i true).getD j true) = pre ++ post := by
        have e1 : ((List.range l.length).filter fun j => !(listed.setIfInBounds i true).getD j true) = ((List.range l.length).filter fun i => !listed.getD i true).filter (fun j => decide (j ≠ i)) := by
          rw [List.filter_filter]
          refine List.filter_congr fun j hj => ?_
          rw [List.mem_range] at hj
          by_cases hji : j = i
          · subst hji
            have : j < listed.size := by omega
            simp [this]
          · rw [getD_set_ne true (Ne.symm hji)]; simp [hji]
        rw [e1, hsplit, List.filter_append, List.filter_cons]
        simp only [ne_eq, not_true, decide_false, Bool.false_eq_true, if_false]
        congr 1
        · exact List.filter_eq_self.2 fun x hx => by have := hlt x hx; simp; omega
        · exact List.filter_eq_self.2 fun x hx => by have := hgt x hx; simp; omega
      show wpOp P ops Q i _ a w
      unfold wpOp
      rw [o1]
      refine step_realR hC hcmp (by rw [hget]; exact g2) (by rw [hget]; exact h3.1) (by rw [hget]; exact h3.2) o5 hSI s1 fun a' w' hSI' => ih _ _ H1 a' w' (by simpa using hs) ?_ ?_ hSI' (by rw [hrem, List.map_append]; exact s2)
      · intro m hm2 k hk2
        by_cases hmi : m = i
        · subst hmi
          rw [o2] at hk2
          obtain ⟨e, e1, e2, e3⟩ := one_bit hk2
          have h5 := r3 e e1 e2
          rcases e3 with rfl | e3
          · exact getD_set_true h5
          · exact getD_set_true (hcl _ h5 _ e3)
        · rw [getD_set_ne false (Ne.symm hmi)] at hm2
          exact getD_set_true (hcl m hm2 k hk2)
      · rw [hrem]
        rw [hsplit] at hf
        simp at hf ⊢
        omega
/-- The reserved places are laid. -/
theorem SI.reserve {n : Nat} {S0 : Cx} {w0 : World} {E : Env} {a : Act} (h : SI n S0 w0 E H a w) (k : Nat) : SI n S0 w0 E (H ++ List.replicate k dumO) a w := by
  obtain ⟨⟨φ, g1, g2, g3⟩, g4, g5, g6⟩ := h
  obtain ⟨φ', k1, k2⟩ := Eng.reserve g1 k
  exact ⟨⟨φ', k1, g2.trans k2, fun i => (g3 i).mono k2⟩, g4, g5, g6⟩
end
end Go.Proofs.Ytgfploghjpbcaaa.Eng
