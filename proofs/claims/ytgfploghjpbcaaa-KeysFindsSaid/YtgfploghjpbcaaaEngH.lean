/- A region does what the abstract one says, in whichever order. -/
import Derived.Test.YtgfploghjpbcaaaEngG
namespace Go.Proofs.Ytgfploghjpbcaaa.Eng
open Go
set_option linter.unusedVariables false
set_option linter.unusedSimpArgs false
section
variable {P : Program} {pf : Pf} {C : CallRel} {φ : Nat → Option Nat} {H H' : AH} {w : World} {v : AV}
theorem iop_inv {own : Nat → Bool} {ops : Array Oper} {o : Oper} {io : IOp} (h : iop? P own ops o = some io) : op? P own o = some io.o ∧ io.d = o.dst ∧ (match o.guard with | none => io.g = none | some (j, want) => ∃ d, (ops[j]?).bind (·.dst) = some d ∧ io.g = some (d, want)) := by
  unfold iop? at h
  simp only [Option.bind_eq_bind, Option.pure_def] at h
  obtain ⟨i, h1, h⟩ := bind_some' h
  split at h
  · rename_i hg; cases h; rw [hg]; exact ⟨h1, rfl, rfl⟩
  · rename_i j want hg
    have h9 := bind_some' h; clear h; obtain ⟨q, h2, h⟩ := h9
    have h9 := bind_some' h; clear h; obtain ⟨d, h3, h⟩ := h9
    cases h
    rw [hg]
    exact ⟨h1, rfl, d, by rw [h2]; exact h3, rfl⟩
theorem tmps_of_getD {ts : Array Value} {d : Nat} {b : Bool} (h : ts.getD d undef = .bool b) : ts[d]? = some (.bool b) := by
  simp only [Array.getD_eq_getD_getElem?] at h
  cases hh : ts[d]? with
  | none => rw [hh] at h; cases h
  | some x => rw [hh] at h; simpa using h
theorem wanted_of {ops : Array Oper} {o : Oper} {a : Act} {E : Env} {S : Cx} (hR : ∀ i, R S (E i) (a.tmps.getD i undef)) {j : Nat} {want : Bool} (hg : o.guard = some (j, want)) {d : Nat} (hd : (ops[j]?).bind (·.dst) = some d) {g : Bool} (hG : guardG want g (E d)) :
    Region.wanted o (yielded ops a.tmps) = g := by
  have hr := hR d
  unfold Region.wanted
  rw [hg]
  simp only [yielded, hd, Option.bind_some]
  unfold guardG at hG
  split at hG
  · rename_i b he
    rw [he] at hr
    rw [tmps_of_getD hr, hG]
    cases b <;> cases want <;> rfl
  · rename_i g' b he
    rw [he] at hr
    cases g' with
    | true =>
      rw [tmps_of_getD (hr.1 rfl), hG]
      cases b <;> cases want <;> rfl
    | false =>
      have hu := hr.2 rfl
      rw [hG]
      have : ∀ b, a.tmps[d]? ≠ some (.bool b) := by
        intro b hb
        simp only [Array.getD_eq_getD_getElem?, hb, Option.getD_some] at hu
        cases hu
      split
      · rename_i b hb; exact absurd hb (this b)
      · cases want <;> rfl
  · exact hG.elim
theorem SI.next {n : Nat} {S0 : Cx} {w0 : World} {E : Env} {a : Act} (hSI : SI n S0 w0 E H a w) {d : Option Nat} (hd : ∀ k, d = some k → k < n) (hφ : ∀ i, R (cx φ H w) (E i) (a.tmps.getD i undef)) (hx0 : Ext S0 (cx φ H w)) {y : Value} {w' : World} (h : PostV φ H w v H' y w') : SI n S0 w0 (upd E d v) H' (a.put d y) w' := by
  obtain ⟨φ', h1, h2, h3, h4⟩ := h
  refine ⟨⟨φ', h1, hx0.trans h2, put_R (fun i => (hφ i).mono h2) hSI.sz hd h4⟩, hSI.same.trans h3, by rw [put_size]; exact hSI.sz, by rw [put_df]; exact hSI.df⟩
theorem PostV.may {y : Value} {w' : World} (h : PostV φ H w v H' y w') : PostV φ H w (.may true v) H' y w' := by
  obtain ⟨φ', h1, h2, h3, h4⟩ := h
  exact ⟨φ', h1, h2, h3, fun _ => h4, fun h => by cases h⟩
theorem un_R {S : Cx} {v : AV} {y : Value} (hm : okMay true v) (hr : R S v y) : R S v.un y := by
  cases v with
  | may g u => exact hr.1 (hm rfl)
  | _ => exact hr
theorem pick_soundG (hs : St (cx φ H w)) {own : Nat → Bool} {o : Oper} {io : Ins} {u : AV} (h : op? P own o = some io) {E : Env} {η : Operand → Value} (hρ : ∀ x y, arg? x = some y → R (cx φ H w) (ev E y) (η x))
    (hok : pickS true E u io) : Sat P (PostV φ H w u H) ((execOp η o).run P w) := by
  cases io with
  | pick c a b =>
    obtain ⟨h1, rfl⟩ := hok
    exact pick_sound hs h hρ h1
  | _ => exact hok.elim
theorem step_real (hC : CallOk P C) (hcmp : ∀ t, pf.c t = true → cmpT P t = true) {ops : Array Oper} {own : Nat → Bool} {o : Oper} {io : IOp} {n : Nat} {S0 : Cx} {w0 : World} {E : Env} {a : Act} (hio : iop? P own ops o = some io) (hd : ∀ d, io.d = some d → d < n) (hcl : io.g = none ∨ io.o.cls pf ≤ 1)
    (hSI : SI n S0 w0 E H a w) (hst : OpStep pf C io E H v H') {K : Act → World → Prop} {Q : Exit → Act → World → Prop} (hk : ∀ a' w', SI n S0 w0 (upd E io.d v) H' a' w' → K a' w') :
    if Region.wanted o (yielded ops a.tmps) then o.wp P a w K Q ∨ (o.asks P a w ∧ LetsOut Q) else K (a.put o.dst undef) w := by
  obtain ⟨i1, i2, i3⟩ := iop_inv hio
  obtain ⟨φ, hs, hx, hR⟩ := hSI.ex
  have hη : (∀ f, a.eval (.func f) = .func (.func f) #[] #[]) ∧ ∀ v, a.eval (.const v) = v := ⟨fun f => rfl, fun v => rfl⟩
  have fin : ∀ y w', PostV φ H w v H' y w' → K (a.put o.dst y) w' := by
    intro y w' hp
    have := hSI.next hd hR hx hp
    rw [i2] at this
    exact hk _ _ (by rw [i2]; exact this)
  unfold OpStep at hst
  cases hg : o.guard with
  | none =>
    rw [hg] at i3
    have hw : Region.wanted o (yielded ops a.tmps) = true := by unfold Region.wanted; rw [hg]
    rw [if_pos hw]
    refine .inl ?_
    dsimp only at i3
    rw [i3] at hst
    dsimp only at hst
    split at hst
    · obtain ⟨h1, rfl⟩ := hst
      exact upon_sat (pick_soundG hs i1 (ev_R hR) h1) fin
    · exact upon_sat (stepU_sound hC hcmp hs i1 (ev_R hR) hη hst) fin
  | some jw =>
    obtain ⟨j, want⟩ := jw
    rw [hg] at i3
    obtain ⟨d, hd2, i3⟩ := i3
    rw [i3] at hst
    obtain ⟨g, u, g1, rfl, hH, g2⟩ := hst
    have hH' := hH.symm
    clear hH
    subst hH'
    have hcl' : io.o.cls pf ≤ 1 := by
      rcases hcl with h | h
      · rw [i3] at h; cases h
      · exact h
    rw [wanted_of hR hg hd2 g1]
    cases g with
    | false =>
      simp only [Bool.false_eq_true, if_false]
      exact fin _ _ ⟨φ, hs, .refl _, .refl _, (fun h => by cases h), fun _ => rfl⟩
    | true =>
      simp only [if_true]
      refine .inl ?_
      split at g2
      · exact upon_sat (pick_soundG hs i1 (ev_R hR) g2) fun y w' h => fin y w' h.may
      · classical
        obtain ⟨g3, g4⟩ := g2
        let ρ : IArg → AV := fun x => if x ∈ io.o.args then (ev E x).un else .junk
        have hρ : ∀ x y, arg? x = some y → R (cx φ H w) (ρ y) (a.eval x) := by
          intro x y hxy
          show R _ (if y ∈ io.o.args then (ev E y).un else .junk) _
          split
          · rename_i hm; exact un_R (g3 _ hm) (ev_R hR x y hxy)
          · trivial
        obtain ⟨e1, e2, e3, e4⟩ := ins_congr (pf := pf) (C := C) (cmp := pf.c) (H := H) (io := io.o) (ρ := fun x => (ev E x).un) (ρ' := ρ) (fun x hx => (if_pos hx).symm)
        have hU : stepU pf C ρ H u H io.o := by
          unfold stepU
          split at g4
          · rename_i hc; rw [if_pos hc, ← e4]; exact g4 rfl
          · rename_i hc; rw [if_neg hc, ← e1, ← e2]; exact ⟨g4.1 rfl, g4.2, (inext_ro hcl').symm⟩
        exact upon_sat (stepU_sound hC hcmp hs i1 hρ hη hU) fun y w' h => fin y w' h.may
/-- What is asked of a region's operations. -/
def opsOk (pf : Pf) (n : Nat) (l : List IOp) : Prop := ∀ io ∈ l, (∀ d, io.d = some d → d < n) ∧ (io.g = none ∨ io.o.cls pf ≤ 1)
theorem text_sound (hC : CallOk P C) (hcmp : ∀ t, pf.c t = true → cmpT P t = true) {ops : Array Oper} {own : Nat → Bool} {n : Nat} {S0 : Cx} {w0 : World} {K : Env → AH → Prop} {Q : Exit → Act → World → Prop} (hk : ∀ E H a w, SI n S0 w0 E H a w → K E H → Q .normal a w) :
    ∀ {os : List Oper} {l : List IOp} {E : Env} {H : AH} {a : Act} {w : World}, os.mapM (iop? P own ops) = some l → opsOk pf n l → SI n S0 w0 E H a w → absL pf C l K E H → wpList P ops Q os a w
  | [], l, E, H, a, w, hm, ho, hSI, h => by
    simp at hm; subst hm
    exact hk _ _ _ _ hSI h
  | o :: os, l, E, H, a, w, hm, ho, hSI, h => by
    simp only [List.mapM_cons, Option.bind_eq_bind, Option.pure_def] at hm
    have h9 := bind_some' hm; clear hm; obtain ⟨io, h1, hm⟩ := h9
    have h9 := bind_some' hm; clear hm; obtain ⟨l', h2, hm⟩ := h9
    cases hm
    obtain ⟨v, H1, s1, s2⟩ := iopwp_iff.1 h
    have h3 := ho io (by simp)
    exact step_real hC hcmp h1 h3.1 h3.2 hSI s1 fun a' w' hSI' => text_sound hC hcmp hk h2 (fun x hx => ho x (by simp [hx])) hSI' s2
end
end Go.Proofs.Ytgfploghjpbcaaa.Eng
