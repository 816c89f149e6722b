/- One operation of the abstract machine as a relation; two operations in either order. -/
import Derived.Test.YtgfploghjpbcaaaEngE
namespace Go.Proofs.Ytgfploghjpbcaaa.Eng
open Go
set_option linter.unusedVariables false
set_option linter.unusedSimpArgs false
section
variable {pf : Pf} {C : CallRel}
theorem map_congr' {α β : Type} {f g : α → β} : ∀ {l : List α}, (∀ x ∈ l, f x = g x) → l.map f = l.map g := fun h => List.map_congr_left h
theorem opt_congr {α β : Type} {f g : α → β} {o : Option α} (h : ∀ x, o = some x → f x = g x) : o.map f = o.map g := by
  cases o with
  | none => rfl
  | some x => simp [h x rfl]
theorem ins_congr {ρ ρ' : IArg → AV} {cmp : TypeId → Bool} {H : AH} : ∀ {io : Ins}, (∀ x ∈ io.args, ρ x = ρ' x) →
    (iside cmp ρ H io = iside cmp ρ' H io) ∧ (ival ρ H io = ival ρ' H io) ∧ (inext ρ H io = inext ρ' H io) ∧ (∀ v H', callOf pf ρ C H v H' io = callOf pf ρ' C H v H' io) := by
  intro io h
  cases io with
  | build z ps =>
    have e1 : (ps.map fun p => (p.1, p.2.1, ρ p.2.2)) = ps.map fun p => (p.1, p.2.1, ρ' p.2.2) := map_congr' fun p hp => by rw [h p.2.2 (List.mem_map.2 ⟨p, hp, rfl⟩)]
    have e2 : (ps.map fun p => (p.1, ρ p.2.2)) = ps.map fun p => (p.1, ρ' p.2.2) := map_congr' fun p hp => by rw [h p.2.2 (List.mem_map.2 ⟨p, hp, rfl⟩)]
    exact ⟨by simp only [iside, e1], by simp only [ival, e2], rfl, fun _ _ => rfl⟩
  | bslice own sz len z ps =>
    have e1 : (ps.map fun p => (p.1, p.2.1, ρ p.2.2)) = ps.map fun p => (p.1, p.2.1, ρ' p.2.2) := map_congr' fun p hp => by rw [h p.2.2 (List.mem_map.2 ⟨p, hp, rfl⟩)]
    have e2 : (ps.map fun p => (p.1, ρ p.2.2)) = ps.map fun p => (p.1, ρ' p.2.2) := map_congr' fun p hp => by rw [h p.2.2 (List.mem_map.2 ⟨p, hp, rfl⟩)]
    exact ⟨by simp only [iside, e1, e2], by simp only [ival, e2], by simp only [inext, e2], fun _ _ => rfl⟩
  | mkfn f a b =>
    have e1 : a.map ρ = a.map ρ' := map_congr' fun x hx => h x (List.mem_append_left _ hx)
    have e2 : b.map ρ = b.map ρ' := map_congr' fun x hx => h x (List.mem_append_right _ hx)
    exact ⟨rfl, by simp only [ival, e1, e2], rfl, fun _ _ => rfl⟩
  | slice sz arr x lo hi mx =>
    have e0 : ρ x = ρ' x := h x (by simp [Ins.args])
    have e1 : lo.map ρ = lo.map ρ' := opt_congr fun y hy => h y (by simp [Ins.args, hy])
    have e2 : hi.map ρ = hi.map ρ' := opt_congr fun y hy => h y (by simp [Ins.args, hy])
    have e3 : mx.map ρ = mx.map ρ' := opt_congr fun y hy => h y (by simp [Ins.args, hy])
    exact ⟨by simp only [iside, e0, e1, e2, e3], by simp only [ival, e0, e1, e2, e3], rfl, fun _ _ => rfl⟩
  | sslice x lo hi =>
    have e0 : ρ x = ρ' x := h x (by simp [Ins.args])
    have e1 : lo.map ρ = lo.map ρ' := opt_congr fun y hy => h y (by simp [Ins.args, hy])
    have e2 : hi.map ρ = hi.map ρ' := opt_congr fun y hy => h y (by simp [Ins.args, hy])
    exact ⟨by simp only [iside, e0, e1, e2], by simp only [ival, e0, e1, e2], rfl, fun _ _ => rfl⟩
  | call f ags =>
    have e1 : ags.map ρ = ags.map ρ' := map_congr' h
    exact ⟨rfl, rfl, rfl, fun _ _ => by simp only [callOf, e1]⟩
  | callv x ags =>
    have e0 : ρ x = ρ' x := h x (by simp [Ins.args])
    have e1 : ags.map ρ = ags.map ρ' := map_congr' fun y hy => h y (by simp [Ins.args, hy])
    exact ⟨rfl, rfl, rfl, fun _ _ => by simp only [callOf, e0, e1]⟩
  | pick c a b => exact ⟨rfl, rfl, rfl, fun _ _ => rfl⟩
  | alloc z => exact ⟨rfl, rfl, rfl, fun _ _ => rfl⟩
  | lenc n => exact ⟨rfl, rfl, rfl, fun _ _ => rfl⟩
  | dead => exact ⟨rfl, rfl, rfl, fun _ _ => rfl⟩
  | mv x | nilchk x | un _ x | conv _ x | same x | s2b _ x | b2s x | box x | load _ _ x | fld _ x | part _ _ _ x | ext x _ | mkif _ x | len _ x | cap x | clear _ _ x | mark x | isnil _ x | s2ap _ _ x =>
    have e := h x (by simp [Ins.args])
    exact ⟨by simp only [iside, e], by simp only [ival, e], by simp only [inext, e], fun _ _ => rfl⟩
  | carry _ x y c =>
    have e := h x (by simp [Ins.args])
    have e' := h y (by simp [Ins.args])
    have e'' := h c (by simp [Ins.args])
    exact ⟨by simp only [iside, e, e', e''], by simp only [ival, e, e', e''], by simp only [inext], fun _ _ => rfl⟩
  | bin _ x y | eqagg _ _ x y | eq _ _ x y | store _ x y | idxa _ _ x y | idx _ _ _ x y | sidx x y | mksl _ _ _ x y | append _ _ x y | appv _ _ x y | appz _ _ _ x y | copy _ x y | mn x y | mx x y =>
    have e := h x (by simp [Ins.args])
    have e' := h y (by simp [Ins.args])
    exact ⟨by simp only [iside, e, e'], by simp only [ival, e, e'], by simp only [inext, e, e'], fun _ _ => rfl⟩
/-- What an operation that is no call does to no object. -/
theorem inext_ro {ρ : IArg → AV} {H : AH} {io : Ins} (h : io.cls pf ≤ 1) : inext ρ H io = H := by
  cases io <;> first
    | rfl
    | (simp only [Ins.cls] at h; omega)
    | (rename_i own _ _ _ _; cases own <;> first | rfl | (simp only [Ins.cls] at h; omega))
    | (rename_i own x; cases own <;> first | (simp only [Ins.cls] at h; omega) | (simp only [inext]; cases ρ x <;> first | rfl | (rename_i v; cases v <;> rfl)))
theorem side0 {cmp : TypeId → Bool} {ρ : IArg → AV} {H H2 : AH} {io : Ins} (h : io.cls pf = 0) : iside cmp ρ H io = iside cmp ρ H2 io ∧ ival ρ H io = ival ρ H2 io := by
  cases io <;> first
    | exact ⟨rfl, rfl⟩
    | (simp only [Ins.cls] at h; omega)
    | (rename_i own _ _ _ _; cases own <;> first | exact ⟨rfl, rfl⟩ | (simp only [Ins.cls] at h; omega))
    | (rename_i own x; cases own <;> first | (simp only [Ins.cls] at h; omega) | (refine ⟨rfl, ?_⟩; simp only [ival]; cases ρ x <;> first | rfl | (rename_i v; cases v <;> rfl)))
    | (simp only [Ins.cls] at h; split at h <;> omega)
/-- The guard's bit. -/
def guardG (w : Bool) (g : Bool) : AV → Prop
  | .lit (.bool b) => g = (b == w)
  | .may g' (.lit (.bool b)) => g = (g' && (b == w))
  | _ => False
theorem guardK_iff {w : Bool} {K : Bool → Prop} {v : AV} : guardK w K v ↔ ∃ g, guardG w g v ∧ K g := by
  unfold guardK guardG
  split <;> simp
def isCall : Ins → Bool
  | .call .. | .callv .. => true
  | _ => false
def isPick : Ins → Bool
  | .pick .. => true
  | _ => false
def stepU (pf : Pf) (C : CallRel) (ρ : IArg → AV) (H : AH) (v : AV) (H' : AH) (io : Ins) : Prop :=
  if isCall io then callOf pf ρ C H v H' io else iside pf.c ρ H io ∧ v = ival ρ H io ∧ H' = inext ρ H io
def pickS (g : Bool) (E : Env) (v : AV) : Ins → Prop
  | .pick c a b => pickOk g (ev E c) (ev E a) (ev E b) ∧ v = pickv (ev E c).un (ev E a).un (ev E b).un
  | _ => False
/-- One operation. -/
def OpStep (pf : Pf) (C : CallRel) (o : IOp) (E : Env) (H : AH) (v : AV) (H' : AH) : Prop :=
  match o.g with
  | none => if isPick o.o then pickS true E v o.o ∧ H' = H else stepU pf C (ev E) H v H' o.o
  | some (d, w) => ∃ g u, guardG w g (E d) ∧ v = .may g u ∧ H' = H ∧
    if isPick o.o then pickS g E u o.o
    else (∀ x ∈ o.o.args, okMay g (ev E x)) ∧
      if isCall o.o then (g = true → callOf pf (fun x => (ev E x).un) C H u H o.o)
      else (g = true → iside pf.c (fun x => (ev E x).un) H o.o) ∧ u = ival (fun x => (ev E x).un) H o.o
theorem iopwp_iff {o : IOp} {K : Env → AH → Prop} {E : Env} {H : AH} : iopwp pf C o K E H ↔ ∃ v H', OpStep pf C o E H v H' ∧ K (upd E o.d v) H' := by
  obtain ⟨d, g, io⟩ := o
  cases g with
  | none =>
    cases io with
    | pick c a b =>
      simp only [iopwp, OpStep, isPick, if_true, pickS]
      constructor
      · rintro ⟨h1, h2⟩; exact ⟨_, _, ⟨⟨h1, rfl⟩, rfl⟩, h2⟩
      · rintro ⟨v, H', ⟨⟨h1, rfl⟩, rfl⟩, h2⟩; exact ⟨h1, h2⟩
    | call f ags => simp only [iopwp, OpStep, isPick, stepU, isCall, if_true, if_false, Bool.false_eq_true]
    | callv f ags => simp only [iopwp, OpStep, isPick, stepU, isCall, if_true, if_false, Bool.false_eq_true]
    | _ =>
      simp only [iopwp, OpStep, isPick, stepU, isCall, if_true, if_false, Bool.false_eq_true]
      constructor
      · rintro ⟨h1, h2⟩; exact ⟨_, _, ⟨h1, rfl, rfl⟩, h2⟩
      · rintro ⟨v, H', ⟨h1, rfl, rfl⟩, h2⟩; exact ⟨h1, h2⟩
  | some dw =>
    obtain ⟨j, w⟩ := dw
    cases io with
    | pick c a b =>
      simp only [iopwp, OpStep, isPick, if_true, pickS, guardK_iff]
      constructor
      · rintro ⟨g, h0, h1, h2⟩; exact ⟨_, _, ⟨g, _, h0, rfl, rfl, h1, rfl⟩, h2⟩
      · rintro ⟨v, H', ⟨g, u, h0, rfl, rfl, h1, rfl⟩, h2⟩; exact ⟨g, h0, h1, h2⟩
    | call f ags =>
      simp only [iopwp, OpStep, isPick, isCall, if_true, if_false, Bool.false_eq_true, guardK_iff, Ins.args]
      constructor
      · rintro ⟨g, h0, h1, v, h2, h3⟩; exact ⟨_, _, ⟨g, v, h0, rfl, rfl, h1, h2⟩, h3⟩
      · rintro ⟨v, H', ⟨g, u, h0, rfl, rfl, h1, h2⟩, h3⟩; exact ⟨g, h0, h1, u, h2, h3⟩
    | callv f ags =>
      simp only [iopwp, OpStep, isPick, isCall, if_true, if_false, Bool.false_eq_true, guardK_iff, Ins.args]
      constructor
      · rintro ⟨g, h0, h1, v, h2, h3⟩; exact ⟨_, _, ⟨g, v, h0, rfl, rfl, h1, h2⟩, h3⟩
      · rintro ⟨v, H', ⟨g, u, h0, rfl, rfl, h1, h2⟩, h3⟩; exact ⟨g, h0, h1, u, h2, h3⟩
    | _ =>
      simp only [iopwp, OpStep, isPick, isCall, if_true, if_false, Bool.false_eq_true, guardK_iff]
      constructor
      · rintro ⟨g, h0, h1, h2, h3⟩; exact ⟨_, _, ⟨g, _, h0, rfl, rfl, h1, h2, rfl⟩, h3⟩
      · rintro ⟨v, H', ⟨g, u, h0, rfl, rfl, h1, h2, rfl⟩, h3⟩; exact ⟨g, h0, h1, h2, h3⟩
theorem iopwp_mono' {o : IOp} {K K' : Env → AH → Prop} {E : Env} {H : AH} (h : iopwp pf C o K E H) (hk : ∀ E H, K E H → K' E H) : iopwp pf C o K' E H := by
  obtain ⟨v, H', h1, h2⟩ := iopwp_iff.1 h
  exact iopwp_iff.2 ⟨v, H', h1, hk _ _ h2⟩
theorem ev_congr {E E' : Env} {x : IArg} (h : ∀ n ∈ x.uses, E n = E' n) : ev E x = ev E' x := by
  cases x with
  | t n => exact h n (by simp [IArg.uses])
  | _ => rfl
theorem step_congr {o : IOp} {E E' : Env} {H H' : AH} {v : AV} (h : ∀ n ∈ o.uses, E n = E' n) (hs : OpStep pf C o E H v H') : OpStep pf C o E' H v H' := by
  have ha : ∀ x ∈ o.o.args, ev E x = ev E' x := fun x hx => ev_congr fun n hn => h n (List.mem_append_left _ (List.mem_flatMap.2 ⟨x, hx, hn⟩))
  have hp : ∀ g u, pickS g E u o.o → pickS g E' u o.o := by
    intro g u hh
    revert ha hh
    cases o.o <;> intro ha hh <;> first | exact hh.elim | skip
    rename_i c a b
    have e1 := ha c (by simp [Ins.args]); have e2 := ha a (by simp [Ins.args]); have e3 := ha b (by simp [Ins.args])
    simp only [pickS, e1, e2, e3] at hh ⊢
    exact hh
  unfold OpStep at hs ⊢
  split at hs
  · rename_i hg
    split at hs
    · rename_i hP; rw [if_pos hP]; exact ⟨hp _ _ hs.1, hs.2⟩
    · rename_i hP
      rw [if_neg hP]
      unfold stepU at hs ⊢
      obtain ⟨e1, e2, e3, e4⟩ := ins_congr (pf := pf) (C := C) (cmp := pf.c) (H := H) (io := o.o) (ρ := ev E) (ρ' := ev E') ha
      rw [e1, e2, e3, e4] at hs
      exact hs
  · rename_i d w hg
    have ed : E d = E' d := h d (by simp [IOp.uses, hg])
    have ha' : ∀ x ∈ o.o.args, (ev E x).un = (ev E' x).un := fun x hx => by rw [ha x hx]
    obtain ⟨e1, e2, e3, e4⟩ := ins_congr (pf := pf) (C := C) (cmp := pf.c) (H := H) (io := o.o) (ρ := fun x => (ev E x).un) (ρ' := fun x => (ev E' x).un) ha'
    obtain ⟨g, u, h1, h2, h3, h4⟩ := hs
    refine ⟨g, u, by rw [← ed]; exact h1, h2, h3, ?_⟩
    split at h4
    · rename_i hP; rw [if_pos hP]; exact hp _ _ h4
    · rename_i hP
      rw [if_neg hP]
      refine ⟨fun x hx => by rw [← ha x hx]; exact h4.1 x hx, ?_⟩
      have h5 := h4.2
      rw [e1, e2, e4] at h5
      exact h5
theorem step_ro1 {o : IOp} {E : Env} {H H' : AH} {v : AV} (hc : o.o.cls pf ≤ 1) (hs : OpStep pf C o E H v H') : H' = H := by
  unfold OpStep at hs
  split at hs
  · split at hs
    · exact hs.2
    · unfold stepU at hs
      split at hs
      · revert hs hc
        cases o.o <;> intro hc hs <;> try exact hs.elim
        · exact hs.2 (by simp only [Ins.cls] at hc; split at hc <;> first | assumption | omega)
        · exact hs.2 (by simp only [Ins.cls] at hc; split at hc <;> first | assumption | omega)
      · rw [hs.2.2]; exact inext_ro hc
  · obtain ⟨g, u, _, _, h, _⟩ := hs; exact h
theorem call_cls {io : Ins} (h : io.cls pf = 0) : isCall io = false := by
  cases io <;> first | rfl | (simp only [Ins.cls] at h; split at h <;> omega)
theorem step0 {o : IOp} {E : Env} {H H' H2 : AH} {v : AV} (hc : o.o.cls pf = 0) (hs : OpStep pf C o E H v H') : OpStep pf C o E H2 v H2 := by
  have hC := call_cls hc
  unfold OpStep at hs ⊢
  split at hs
  · split at hs
    · rename_i hP; rw [if_pos hP]; exact ⟨hs.1, rfl⟩
    · rename_i hP
      rw [if_neg hP]
      unfold stepU at hs ⊢
      rw [hC] at hs ⊢
      obtain ⟨e1, e2⟩ := side0 (pf := pf) (cmp := pf.c) (ρ := ev E) (H := H) (H2 := H2) hc
      simp only [Bool.false_eq_true, if_false] at hs ⊢
      exact ⟨by rw [← e1]; exact hs.1, by rw [← e2]; exact hs.2.1, (inext_ro (pf := pf) (by omega)).symm⟩
  · obtain ⟨g, u, h1, h2, h3, h4⟩ := hs
    refine ⟨g, u, h1, h2, rfl, ?_⟩
    split at h4
    · rename_i hP; rw [if_pos hP]; exact h4
    · rename_i hP
      rw [if_neg hP]
      rw [hC] at h4 ⊢
      obtain ⟨e1, e2⟩ := side0 (pf := pf) (cmp := pf.c) (ρ := fun x => (ev E x).un) (H := H) (H2 := H2) hc
      simp only [Bool.false_eq_true, if_false] at h4 ⊢
      exact ⟨h4.1, by rw [← e1]; exact h4.2.1, by rw [← e2]; exact h4.2.2⟩
theorem upd_comm (E : Env) {x y : Option Nat} (u v : AV) (h : ∀ d, x = some d → y ≠ some d) : upd (upd E x u) y v = upd (upd E y v) x u := by
  cases x with
  | none => cases y <;> rfl
  | some d =>
    cases y with
    | none => rfl
    | some e =>
      have hne : d ≠ e := fun he => h d rfl (he ▸ rfl)
      funext n
      simp only [upd]
      by_cases h1 : n = d <;> by_cases h2 : n = e <;> simp_all
theorem upd_same {E : Env} {x : Option Nat} {v : AV} {l : List Nat} (h : ∀ d, x = some d → d ∉ l) : ∀ n ∈ l, upd E x v n = E n := by
  intro n hn
  cases x with
  | none => rfl
  | some d =>
    have : n ≠ d := fun e => h d rfl (e ▸ hn)
    simp [upd, this]
theorem comm2 {a b : IOp} {K : Env → AH → Prop} {E : Env} {H : AH} (hc : commB pf a b = true) (h : iopwp pf C a (iopwp pf C b K) E H) : iopwp pf C b (iopwp pf C a K) E H := by
  simp only [commB, Bool.and_eq_true, Bool.or_eq_true, beq_iff_eq] at hc
  obtain ⟨⟨hcl, h1⟩, h2⟩ := hc
  have n1 : ∀ d, a.d = some d → d ∉ b.uses ∧ b.d ≠ some d := by
    intro d hd; rw [hd] at h1; simpa using h1
  have n2 : ∀ d, b.d = some d → d ∉ a.uses := by
    intro d hd; rw [hd] at h2; simpa using h2
  obtain ⟨va, Ha, s1, hk⟩ := iopwp_iff.1 h
  obtain ⟨vb, Hb, s2, hk⟩ := iopwp_iff.1 hk
  have s2' : OpStep pf C b E Ha vb Hb := step_congr (upd_same fun d hd => (n1 d hd).1) s2
  have fin : ∀ H1, OpStep pf C b E H vb H1 → OpStep pf C a E H1 va Hb → iopwp pf C b (iopwp pf C a K) E H := by
    intro H1 t1 t2
    refine iopwp_iff.2 ⟨vb, H1, t1, iopwp_iff.2 ⟨va, Hb, step_congr (fun n hn => (upd_same n2 n hn).symm) t2, ?_⟩⟩
    rw [← upd_comm E va vb fun d hd => (n1 d hd).2]; exact hk
  rcases hcl with (hcl | hcl) | ⟨ha, hb⟩
  · obtain rfl := step_ro1 (pf := pf) (by omega) s1
    exact fin Hb s2' (step0 hcl s1)
  · obtain rfl := step_ro1 (pf := pf) (by omega) s2'
    exact fin H (step0 hcl s2') s1
  · obtain rfl := step_ro1 (pf := pf) (by omega) s1
    obtain rfl := step_ro1 (pf := pf) (by omega) s2'
    exact fin _ s2' s1
def absL (pf : Pf) (C : CallRel) : List IOp → (Env → AH → Prop) → Env → AH → Prop
  | [], K => K
  | o :: r, K => iopwp pf C o (absL pf C r K)
theorem iwp_ops {k : IC} {Q : Ex → Env → AH → Prop} : ∀ l : List IOp, iwp pf C (IC.ops l k) Q = absL pf C l (iwp pf C k Q)
  | [] => rfl
  | o :: r => by funext E H; show iopwp pf C o (iwp pf C (IC.ops r k) Q) E H = _; rw [iwp_ops r]; rfl
theorem moveFront {K : Env → AH → Prop} {o : IOp} {post : List IOp} : ∀ {pre : List IOp} {E : Env} {H : AH}, (∀ x ∈ pre, commB pf x o = true) → absL pf C (pre ++ o :: post) K E H → iopwp pf C o (absL pf C (pre ++ post) K) E H
  | [], E, H, _, h => h
  | x :: pre, E, H, hc, h => comm2 (hc x (by simp)) (iopwp_mono' h fun E H h => moveFront (fun y hy => hc y (by simp [hy])) h)
end
end Go.Proofs.Ytgfploghjpbcaaa.Eng
