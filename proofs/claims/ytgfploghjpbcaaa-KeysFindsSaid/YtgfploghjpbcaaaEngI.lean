/- Regions in any order; all code. -/
import Derived.Test.YtgfploghjpbcaaaEngH
namespace Go.Proofs.Ytgfploghjpbcaaa.Eng
open Go
set_option linter.unusedVariables false
set_option linter.unusedSimpArgs false
theorem one_list (look : Nat → Nat) (i : Nat) : ∀ (l : List Edge) (s : Nat), (l.foldl (fun s e => if Region.binds .any e then s ||| 2 ^ e.on ||| look e.on else s) s).testBit i = true →
    s.testBit i = true ∨ ∃ e ∈ l, Region.binds .any e = true ∧ (e.on = i ∨ (look e.on).testBit i = true)
  | [], s, h => .inl h
  | e :: l, s, h => by
    rw [List.foldl_cons] at h
    rcases one_list look i l _ h with h1 | ⟨e', h1, h2⟩
    · split at h1
      · rename_i hb
        simp only [Nat.testBit_or, Bool.or_eq_true, Nat.testBit_two_pow, decide_eq_true_eq] at h1
        rcases h1 with (h1 | h1) | h1
        · exact .inl h1
        · exact .inr ⟨e, by simp, hb, .inl h1⟩
        · exact .inr ⟨e, by simp, hb, .inr h1⟩
      · exact .inl h1
    · exact .inr ⟨e', by simp [h1], h2⟩
theorem one_bit {look : Nat → Nat} {o : Oper} {i : Nat} (h : (CheckFast.one look o).testBit i = true) : ∃ e ∈ o.after, Region.binds .any e = true ∧ (e.on = i ∨ (look e.on).testBit i = true) := by
  unfold CheckFast.one at h
  rw [← Array.foldl_toList] at h
  rcases one_list look i _ _ h with h1 | ⟨e, h1, h2⟩
  · simp at h1
  · exact ⟨e, Array.mem_toList_iff.1 h1, h2⟩
structure DrawS (pf : Pf) (ops : Array Oper) (l : List IOp) (bl : List Nat) : Prop where
  len : l.length = ops.size
  at_ : ∀ j, j < l.length → ∃ o, ops[j]? = some o ∧ bl.getD j 0 = CheckFast.one (fun i => bl.getD i 0) o ∧ (∀ e ∈ o.after, Region.binds .any e = true → e.on < j) ∧ ∀ i, i < j → (bl.getD j 0).testBit i = true ∨ commB pf (l.getD i default) (l.getD j default) = true
theorem drawS_of {pf : Pf} {ops : Array Oper} {l : List IOp} (h : drawOk pf ops l = true) : ∃ bl, DrawS pf ops l bl := by
  simp only [drawOk, Bool.and_eq_true, decide_eq_true_eq, forceL_eq] at h
  refine ⟨[].reverse ++ CheckFast.beforeL ops.toList 0 [], h.1, fun j hj => ?_⟩
  have h2 := h.2
  simp only [drawAt, List.all_eq_true, List.mem_range, Bool.and_eq_true] at h2
  obtain ⟨h3, h4⟩ := h2 j hj
  cases ho : ops[j]? with
  | none => rw [ho] at h3; cases h3
  | some o =>
    rw [ho] at h3
    simp only [Bool.and_eq_true, beq_iff_eq, List.all_eq_true, Bool.or_eq_true, Bool.not_eq_true', decide_eq_true_eq] at h3
    refine ⟨o, rfl, h3.1, fun e he hb => ?_, fun i hi => by simpa using h4 i hi⟩
    rcases h3.2 e (Array.mem_toList_iff.2 he) with h5 | h5
    · rw [hb] at h5; cases h5
    · exact h5
section
variable {P : Program} {pf : Pf} {C : CallRel}
theorem mapM_get {α β : Type} {f : α → Option β} : ∀ {os : List α} {l : List β}, os.mapM f = some l → ∀ {i : Nat} {o : α}, os[i]? = some o → ∃ b, l[i]? = some b ∧ f o = some b
  | [], l, h, i, o, ho => by simp at ho
  | x :: os, l, h, i, o, ho => by
    simp only [List.mapM_cons, Option.bind_eq_bind, Option.pure_def] at h
    have h9 := bind_some' h; clear h; obtain ⟨b, h1, h⟩ := h9
    have h9 := bind_some' h; clear h; obtain ⟨l', h2, h⟩ := h9
    cases h
    cases i with
    | zero => simp at ho; subst ho; exact ⟨b, by simp, h1⟩
    | succ i => simp at ho; obtain ⟨c, g1, g2⟩ := mapM_get h2 ho; exact ⟨c, by simpa using g1, g2⟩
theorem any_sound (hC : CallOk P C) (hcmp : ∀ t, pf.c t = true → cmpT P t = true) {ops : Array Oper} {own : Nat → Bool} {n : Nat} {S0 : Cx} {w0 : World} {K : Env → AH → Prop} {Q : Exit → Act → World → Prop} (hk : ∀ E H a w, SI n S0 w0 E H a w → K E H → Q .normal a w)
    {l : List IOp} (hm : ops.toList.mapM (iop? P own ops) = some l) (ho : opsOk pf n l) {bl : List Nat} (hD : DrawS pf ops l bl) :
    ∀ (fuel : Nat) (listed : Array Bool) (E : Env) (H : AH) (a : Act) (w : World), listed.size = l.length → (∀ m, listed.getD m false = true → ∀ i, (bl.getD m 0).testBit i = true → listed.getD i false = true) →
      ((List.range l.length).filter fun i => !listed.getD i true).length ≤ fuel → SI n S0 w0 E H a w → absL pf C (((List.range l.length).filter fun i => !listed.getD i true).map fun i => l.getD i default) K E H → wpAny P .any ops Q fuel listed a w := by
  have flip : ∀ (listed : Array Bool), listed.size = l.length → ∀ i, i < l.length → listed.getD i true = listed.getD i false := by
    intro listed hs i hi
    have : i < listed.size := by omega
    simp [this]
  have sub : ∀ (listed : Array Bool), ∀ i ∈ Region.ready .any ops listed, i ∈ (List.range l.length).filter fun i => !listed.getD i true := by
    intro listed i hi
    obtain ⟨h1, o, h2, _⟩ := mem_ready.1 hi
    have := (Array.getElem?_eq_some_iff.1 h2).1
    rw [List.mem_filter, List.mem_range, hD.len]
    exact ⟨this, by rw [h1]; rfl⟩
  have stuck : ∀ (listed : Array Bool), listed.size = l.length → Region.ready .any ops listed = [] → ((List.range l.length).filter fun i => !listed.getD i true) = [] := by
    intro listed hs hr
    have all : ∀ i, i < l.length → listed.getD i true = true := by
      intro i
      induction i using Nat.strongRecOn with
      | _ i ih =>
        intro hi
        by_cases hh : listed.getD i true = true
        · exact hh
        · obtain ⟨o, h1, h2, h3, h4⟩ := hD.at_ i hi
          have : i ∈ Region.ready .any ops listed := mem_ready.2 ⟨by simpa using hh, o, h1, fun e he hb => by
            have h5 := h3 e he hb
            rw [← flip listed hs _ (by omega)]
            exact ih _ h5 (by omega)⟩
          rw [hr] at this; cases this
    rw [List.filter_eq_nil_iff]
    intro i hi
    rw [List.mem_range] at hi
    rw [all i hi]; simp
  intro fuel
  induction fuel with
  | zero =>
    intro listed E H a w hs hcl hf hSI h
    have hnil : ((List.range l.length).filter fun i => !listed.getD i true) = [] := by
      cases hh : ((List.range l.length).filter fun i => !listed.getD i true) with
      | nil => rfl
      | cons x xs => rw [hh] at hf; simp at hf
    rw [hnil] at h
    refine ⟨?_, hk _ _ _ _ hSI h⟩
    cases hr : Region.ready .any ops listed with
    | nil => rfl
    | cons x xs => have := sub listed x (by rw [hr]; simp); rw [hnil] at this; cases this
  | succ fuel ih =>
    intro listed E H a w hs hcl hf hSI h
    refine ⟨fun hr => ?_, fun i hi => ?_⟩
    · rw [stuck listed hs hr] at h
      exact hk _ _ _ _ hSI h
    · have hmem := sub listed i hi
      have hsort : ((List.range l.length).filter fun i => !listed.getD i true).Pairwise (· < ·) := List.pairwise_lt_range.filter _
      have hil : i < l.length := List.mem_range.1 (List.mem_filter.1 hmem).1
      obtain ⟨pre, post, hsplit⟩ := List.append_of_mem hmem
      obtain ⟨o, o1, o2, o3, o4⟩ := hD.at_ i hil
      obtain ⟨r1, o', r2, r3⟩ := mem_ready.1 hi
      rw [o1] at r2; cases r2
      have hlt : ∀ x ∈ pre, x < i := by
        rw [hsplit] at hsort
        exact fun x hx => (List.pairwise_append.1 hsort).2.2 x hx i (by simp)
      have hgt : ∀ x ∈ post, i < x := by
        rw [hsplit] at hsort
        exact fun x hx => (List.pairwise_cons.1 (List.pairwise_append.1 hsort).2.1).1 x hx
      have hcom : ∀ x ∈ pre.map fun i => l.getD i default, commB pf x (l.getD i default) = true := by
        intro x hx
        obtain ⟨k, hk1, rfl⟩ := List.mem_map.1 hx
        refine (o4 k (hlt k hk1)).resolve_left fun hb => ?_
        rw [o2] at hb
        obtain ⟨e, e1, e2, e3⟩ := one_bit hb
        have h5 := r3 e e1 e2
        have hk2 : listed.getD k false = true := by
          rcases e3 with rfl | e3
          · exact h5
          · exact hcl _ h5 _ e3
        have hk3 : k ∈ (List.range l.length).filter fun i => !listed.getD i true := by rw [hsplit]; simp [hk1]
        rw [List.mem_filter, List.mem_range] at hk3
        rw [flip listed hs k hk3.1, hk2] at hk3
        simp at hk3
      rw [hsplit, List.map_append, List.map_cons] at h
      have h1 := moveFront hcom h
      obtain ⟨v, H1, s1, s2⟩ := iopwp_iff.1 h1
      obtain ⟨io, g1, g2⟩ := mapM_get hm (i := i) (o := o) (by rw [Array.getElem?_toList]; exact o1)
      have hget : l.getD i default = io := by rw [List.getD_eq_getElem?_getD, g1]; rfl
      rw [hget] at s1 s2
      have h3 := ho io (List.mem_of_getElem? g1)
      have hrem : ((List.range l.length).filter fun j => !(listed.setIfInBounds i true).getD j true) = pre ++ post := by
        have e1 : ((List.range l.length).filter fun j => !(listed.setIfInBounds i true).getD j true) = ((List.range l.length).filter fun i => !listed.getD i true).filter (fun j => decide (j ≠ i)) := by
          rw [List.filter_filter]
          refine List.filter_congr fun j hj => ?_
          rw [List.mem_range] at hj
          by_cases hji : j = i
          · subst hji
            have : j < listed.size := by omega
            simp [this]
          · rw [getD_set_ne true (Ne.symm hji)]; simp [hji]
        rw [e1, hsplit, List.filter_append, List.filter_cons]
        simp only [ne_eq, not_true, decide_false, Bool.false_eq_true, if_false]
        congr 1
        · exact List.filter_eq_self.2 fun x hx => by have := hlt x hx; simp; omega
        · exact List.filter_eq_self.2 fun x hx => by have := hgt x hx; simp; omega
      show wpOp P ops Q i _ a w
      unfold wpOp
      rw [o1]
      refine step_real hC hcmp g2 h3.1 h3.2 hSI s1 fun a' w' hSI' => ih _ _ H1 a' w' (by simpa using hs) ?_ ?_ hSI' (by rw [hrem, List.map_append]; exact s2)
      · intro m hm2 k hk2
        by_cases hmi : m = i
        · subst hmi
          rw [o2] at hk2
          obtain ⟨e, e1, e2, e3⟩ := one_bit hk2
          have h5 := r3 e e1 e2
          rcases e3 with rfl | e3
          · exact getD_set_true h5
          · exact getD_set_true (hcl _ h5 _ e3)
        · rw [getD_set_ne false (Ne.symm hmi)] at hm2
          exact getD_set_true (hcl m hm2 k hk2)
      · rw [hrem]
        rw [hsplit] at hf
        simp at hf ⊢
        omega
end
end Go.Proofs.Ytgfploghjpbcaaa.Eng
