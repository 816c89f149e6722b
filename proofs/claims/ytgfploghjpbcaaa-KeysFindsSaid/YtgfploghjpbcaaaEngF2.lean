/- Drawn regions that make objects: one operation as a relation; two in either order. -/
import Derived.Test.YtgfploghjpbcaaaEngE2
import Derived.Test.YtgfploghjpbcaaaEngF
namespace Go.Proofs.Ytgfploghjpbcaaa.Eng
open Go
set_option linter.unusedVariables false
set_option linter.unusedSimpArgs false
section
variable {pf : Pf} {C : CallRel} {base : Nat}
def RStep (pf : Pf) (C : CallRel) (base : Nat) (x : RA) (E : Env) (H : AH) (v : AV) (H' : AH) : Prop :=
  match x.k with
  | .l => OpStep pf C x.o E H v H'
  | .m => OpStep pf C x.o E H v H' ∧ H'.take base = H.take base
  | .w => base ≤ H.length ∧ OpStep pf C x.o E H v H'
  | .e => OpStep pf (frC C) x.o E (H.take base) v (H.take base) ∧ H' = H
  | .a r => (base + r < H.length ∧ obj H (base + r) = dumO) ∧ newOk (ev E) x.o.o ∧ iside pf.c (ev E) (H.take base) x.o.o ∧ v = aval (base + r) (ev E) (H.take base) x.o.o ∧ H' = H.set (base + r) (aobj (ev E) (H.take base) x.o.o)
def raOk (pf : Pf) (x : RA) : Prop := (x.k = .e → x.o.o.cls pf ≤ 1) ∧ (x.k = .w → isAp x.o.o = true)
def rdis (x : RA) (E : Env) : Prop := ∀ a ∈ x.ds, apart (ev E a).un (ev E (adrD x.o.o)).un
theorem rwp_iff {x : RA} (hx : raOk pf x) {K : Env → AH → Prop} {E : Env} {H : AH} : rwp pf C base x K E H ↔ ∃ v H', RStep pf C base x E H v H' ∧ K (upd E x.o.d v) H' := by
  unfold rwp RStep
  cases hk : x.k with
  | l => exact iopwp_iff
  | m =>
    refine Iff.trans iopwp_iff ?_
    exact ⟨fun ⟨v, H', h1, h2, h3⟩ => ⟨v, H', ⟨h1, h2⟩, h3⟩, fun ⟨v, H', ⟨h1, h2⟩, h3⟩ => ⟨v, H', h1, h2, h3⟩⟩
  | w =>
    exact ⟨fun ⟨hb, h⟩ => by obtain ⟨v, H', h1, h2⟩ := iopwp_iff.1 h; exact ⟨v, H', ⟨hb, h1⟩, h2⟩, fun ⟨v, H', ⟨hb, h1⟩, h2⟩ => ⟨hb, iopwp_iff.2 ⟨v, H', h1, h2⟩⟩⟩
  | e =>
    refine Iff.trans (iopwp_iff (C := frC C)) ?_
    constructor
    · rintro ⟨v, H1, h1, h2⟩
      obtain rfl := step_ro1 (hx.1 hk) h1
      exact ⟨v, H, ⟨h1, rfl⟩, h2⟩
    · rintro ⟨v, H', ⟨h1, rfl⟩, h2⟩
      exact ⟨v, _, h1, h2⟩
  | a r =>
    constructor
    · rintro ⟨h1, h2, h3, h4⟩; exact ⟨_, _, ⟨h1, h2, h3, rfl, rfl⟩, h4⟩
    · rintro ⟨v, H', ⟨h1, h2, h3, rfl, rfl⟩, h4⟩; exact ⟨h1, h2, h3, h4⟩
theorem new_congr {ρ ρ' : IArg → AV} {H0 : AH} {io : Ins} (h : ∀ x ∈ io.args, ρ x = ρ' x) : newOk ρ io = newOk ρ' io ∧ (∀ id, aval id ρ H0 io = aval id ρ' H0 io) ∧ aobj ρ H0 io = aobj ρ' H0 io := by
  cases io with
  | append sz b s x =>
    have e1 := h s (by simp [Ins.args]); have e2 := h x (by simp [Ins.args])
    exact ⟨by simp only [newOk, e1], fun _ => by simp only [aval, e2], by simp only [aobj, e2]⟩
  | mksl sz b z l c =>
    have e1 := h l (by simp [Ins.args])
    exact ⟨rfl, fun _ => by simp only [aval, e1], by simp only [aobj, e1]⟩
  | box x =>
    have e1 := h x (by simp [Ins.args])
    exact ⟨rfl, fun _ => rfl, by simp only [aobj, e1]⟩
  | bslice own sz len z ps =>
    have e2 : (ps.map fun p => (p.1, ρ p.2.2)) = ps.map fun p => (p.1, ρ' p.2.2) := map_congr' fun p hp => by rw [h p.2.2 (List.mem_map.2 ⟨p, hp, rfl⟩)]
    exact ⟨rfl, fun _ => rfl, by simp only [aobj, e2]⟩
  | _ => exact ⟨rfl, fun _ => rfl, rfl⟩
theorem rstep_congr {x : RA} {E E' : Env} {H H' : AH} {v : AV} (h : ∀ n ∈ x.o.uses, E n = E' n) (hs : RStep pf C base x E H v H') : RStep pf C base x E' H v H' := by
  unfold RStep at *
  cases hk : x.k with
  | l => rw [hk] at hs; exact step_congr h hs
  | m => rw [hk] at hs; exact ⟨step_congr h hs.1, hs.2⟩
  | w => rw [hk] at hs; exact ⟨hs.1, step_congr h hs.2⟩
  | e => rw [hk] at hs; exact ⟨step_congr h hs.1, hs.2⟩
  | a r =>
    rw [hk] at hs
    have ha : ∀ y ∈ x.o.o.args, ev E y = ev E' y := fun y hy => ev_congr fun n hn => h n (List.mem_append_left _ (List.mem_flatMap.2 ⟨y, hy, hn⟩))
    obtain ⟨h1, h2, h3, h4, h5⟩ := hs
    obtain ⟨e1, e2, e3⟩ := new_congr (H0 := H.take base) ha
    obtain ⟨g1, _⟩ := ins_congr (pf := pf) (C := C) (cmp := pf.c) (H := H.take base) ha
    exact ⟨h1, by rw [← e1]; exact h2, by rw [← g1]; exact h3, by rw [← e2]; exact h4, by rw [← e3]; exact h5⟩
theorem new_cls {ρ : IArg → AV} {io : Ins} (h : newOk ρ io) : io.cls pf = 2 := by
  cases io <;> first | exact h.elim | rfl | skip
  have h : _ = true := h
  subst h; rfl
theorem r0 {x : RA} {E : Env} {H H' : AH} {v : AV} (hw : x.k ≠ .w) (hc : x.o.o.cls pf = 0) (hs : RStep pf C base x E H v H') : H' = H ∧ ∀ Hn, RStep pf C base x E Hn v Hn := by
  unfold RStep at *
  cases hk : x.k with
  | l =>
    rw [hk] at hs
    exact ⟨step_ro1 (by omega) hs, fun Hn => step0 hc hs⟩
  | m =>
    rw [hk] at hs
    exact ⟨step_ro1 (by omega) hs.1, fun Hn => ⟨step0 hc hs.1, rfl⟩⟩
  | w => exact absurd hk hw
  | e =>
    rw [hk] at hs
    exact ⟨hs.2, fun Hn => ⟨step0 hc hs.1, rfl⟩⟩
  | a r =>
    rw [hk] at hs
    have := new_cls (pf := pf) hs.2.1
    omega
theorem r1 {x : RA} {E : Env} {H H' : AH} {v : AV} (hc : x.o.o.cls pf ≤ 1) (hs : RStep pf C base x E H v H') : H' = H := by
  unfold RStep at hs
  cases hk : x.k with
  | l => rw [hk] at hs; exact step_ro1 hc hs
  | m => rw [hk] at hs; exact step_ro1 hc hs.1
  | w => rw [hk] at hs; exact step_ro1 hc hs.2
  | e => rw [hk] at hs; exact hs.2
  | a r => rw [hk] at hs; have := new_cls (pf := pf) hs.2.1; omega
theorem take_set {H : AH} {i : Nat} {o : AObj} (h : base ≤ i) : (H.set i o).take base = H.take base := by
  apply List.ext_getElem?
  intro j
  rw [List.getElem?_take, List.getElem?_take]
  split
  · rw [List.getElem?_set_ne (by omega)]
  · rfl
theorem obj_set_ne {H : AH} {i j : Nat} {o : AObj} (h : i ≠ j) : obj (H.set i o) j = obj H j := by
  simp only [obj, List.getD_eq_getElem?_getD, List.getElem?_set_ne h]
/-- What a load reads, where another object's cells were written. -/
theorem ld_same {H : AH} {id : Nat} {o : AObj} {x : AV} {k : Nat} (hx : ∀ i, (∃ off, x = .ptr i off) ∨ (∃ off L, x = .rptr i off L) → i ≠ id) : (loadOk k ((H.set id o).take base) x = loadOk k (H.take base) x ∧ ∀ agg, loadV agg k ((H.set id o).take base) x = loadV agg k (H.take base) x) ∧ (loadOk k (H.set id o) x = loadOk k H x ∧ ∀ agg, loadV agg k (H.set id o) x = loadV agg k H x) := by
  have key : ∀ i, i ≠ id → obj ((H.set id o).take base) i = obj (H.take base) i := by
    intro i hi
    simp only [obj, List.getD_eq_getElem?_getD, List.getElem?_take]
    split
    · rw [List.getElem?_set_ne (Ne.symm hi)]
    · rfl
  have hl : ((H.set id o).take base).length = (H.take base).length := by simp
  cases x with
  | ptr i off =>
    have hi := hx i (.inl ⟨off, rfl⟩)
    exact ⟨⟨by simp only [loadOk, key i hi, hl], fun agg => by simp only [loadV, key i hi]⟩, by simp only [loadOk, obj_set_ne (Ne.symm hi), List.length_set], fun agg => by simp only [loadV, obj_set_ne (Ne.symm hi)]⟩
  | rptr i off L =>
    have hi := hx i (.inr ⟨off, L, rfl⟩)
    exact ⟨⟨by simp only [loadOk, key i hi, hl], fun agg => by simp only [loadV, key i hi]⟩, by simp only [loadOk, obj_set_ne (Ne.symm hi), List.length_set], fun agg => by simp only [loadV, obj_set_ne (Ne.symm hi)]⟩
  | vptr cs => exact ⟨⟨rfl, fun _ => rfl⟩, rfl, fun _ => rfl⟩
  | _ => exact ⟨⟨rfl, fun _ => rfl⟩, rfl, fun _ => rfl⟩
/-- What a store does. -/
theorem st_eff {o : IOp} {k : Nat} {a x : IArg} (ho : o.o = .store k a x) {E : Env} {H H' : AH} {v : AV} (hs : OpStep pf C o E H v H') : H' = H ∨ ∃ id ob, H' = H.set id ob ∧ ((∃ off, ev E a = .ptr id off) ∨ ∃ off L, ev E a = .rptr id off L) := by
  unfold OpStep at hs
  split at hs
  · rw [ho] at hs
    obtain ⟨h1, _, h3⟩ := hs
    obtain ⟨_, _, h4⟩ := h1
    have h3 : H' = storeH H (ev E x) (ev E a) := h3
    rw [h3]
    clear h3
    generalize ev E a = z at *
    cases z with
    | ptr id off => exact .inr ⟨id, _, rfl, .inl ⟨off, rfl⟩⟩
    | rptr id off L => exact .inr ⟨id, _, rfl, .inr ⟨off, L, rfl⟩⟩
    | _ => exact h4.elim
  · obtain ⟨g, u, _, _, h, _⟩ := hs
    exact .inl h
/-- What a load hangs on. -/
theorem ld_dep {o : IOp} {agg : Bool} {k : Nat} {a : IArg} (ho : o.o = .load agg k a) {E : Env} {H H2 : AH} {v : AV} (hs : OpStep pf C o E H v H) (h : loadOk k H2 (ev E a).un = loadOk k H (ev E a).un ∧ ∀ agg, loadV agg k H2 (ev E a).un = loadV agg k H (ev E a).un) (h' : loadOk k H2 (ev E a) = loadOk k H (ev E a) ∧ ∀ agg, loadV agg k H2 (ev E a) = loadV agg k H (ev E a)) : OpStep pf C o E H2 v H2 := by
  obtain ⟨d, g, io⟩ := o
  dsimp only at ho
  subst ho
  cases g with
  | none =>
    obtain ⟨h1, h2, _⟩ := hs
    exact ⟨by show loadOk k H2 (ev E a); rw [h'.1]; exact h1, by show v = loadV agg k H2 (ev E a); rw [h'.2]; exact h2, rfl⟩
  | some dw =>
    obtain ⟨g, u, h1, h2, _, h3, h4, h5⟩ := hs
    exact ⟨g, u, h1, h2, rfl, h3, fun hg => by show loadOk k H2 (ev E a).un; rw [h.1]; exact h4 hg, by show u = loadV agg k H2 (ev E a).un; rw [h.2]; exact h5⟩
theorem upd_ev {E : Env} {d : Option Nat} {v : AV} {a : IArg} (h : ∀ k, d = some k → k ∉ a.uses) : ev (upd E d v) a = ev E a := ev_congr fun n hn => upd_same h n hn
theorem apart_ne {x y : AV} {i id : Nat} (h : apart x y) (hx : (∃ off, x = .ptr i off) ∨ ∃ off L, x = .rptr i off L) (hy : (∃ off, y = .ptr id off) ∨ ∃ off L, y = .rptr id off L) : i ≠ id := by
  rcases hx with ⟨_, rfl⟩ | ⟨_, _, rfl⟩ <;> rcases hy with ⟨_, rfl⟩ | ⟨_, _, rfl⟩ <;> exact h
theorem un_addr {v : AV} {id : Nat} (h : (∃ off, v = .ptr id off) ∨ ∃ off L, v = .rptr id off L) : v.un = v := by
  rcases h with ⟨_, rfl⟩ | ⟨_, _, rfl⟩ <;> rfl
theorem un_addr' {v : AV} {i : Nat} (h : (∃ off, v = .ptr i off) ∨ ∃ off L, v = .rptr i off L) : (∃ off, v.un = .ptr i off) ∨ ∃ off L, v.un = .rptr i off L := by
  rw [un_addr h]; exact h
/-- An operation that looks at objects, where other objects stand behind it. -/
theorem op_dep {o : IOp} {E : Env} {T T' : AH} {v : AV} (hcl : o.o.cls pf ≤ 1) (hnc : isCall o.o = false) (hnp : isPick o.o = false) (h : ∀ ρ, (ρ = ev E ∨ ρ = fun x => (ev E x).un) → iside pf.c ρ T' o.o = iside pf.c ρ T o.o ∧ ival ρ T' o.o = ival ρ T o.o) (hs : OpStep pf C o E T v T) : OpStep pf C o E T' v T' := by
  unfold OpStep at *
  rw [hnp] at *
  simp only [Bool.false_eq_true, if_false] at *
  split at hs
  · unfold stepU at *
    rw [hnc] at *
    simp only [Bool.false_eq_true, if_false] at *
    obtain ⟨h1, h2⟩ := h _ (.inl rfl)
    exact ⟨by rw [h1]; exact hs.1, by rw [h2]; exact hs.2.1, (inext_ro hcl).symm⟩
  · rw [hnc] at *
    simp only [Bool.false_eq_true, if_false] at *
    obtain ⟨g, u, a1, a2, _, a4, a5, a6⟩ := hs
    obtain ⟨h1, h2⟩ := h _ (.inr rfl)
    exact ⟨g, u, a1, a2, (by first | rfl | trivial), a4, fun hg => by rw [h1]; exact a5 hg, by rw [h2]; exact a6⟩
def adrOf : AV → Option Nat
  | .ptr i _ | .rptr i _ _ | .row i _ _ _ => some i
  | _ => none
theorem rd_same {T T' : AH} {id : Nat} (hl : T'.length = T.length) (key : ∀ i, i ≠ id → obj T' i = obj T i) {z : AV} (hz : adrOf z ≠ some id) :
    (∀ k, loadOk k T' z = loadOk k T z) ∧ (∀ agg k, loadV agg k T' z = loadV agg k T z) ∧ (∀ sz lo hi mx arr, sliceOk sz T' lo hi mx arr z = sliceOk sz T lo hi mx arr z) ∧ (∀ sz lo hi mx arr, sliceV sz T' lo hi mx arr z = sliceV sz T lo hi mx arr z) := by
  cases z with
  | ptr i off =>
    have e := key i (fun h => hz (by rw [h]; rfl))
    exact ⟨fun _ => by simp only [loadOk, e, hl], fun _ _ => by simp only [loadV, e], fun _ _ _ _ arr => by cases arr <;> simp only [sliceOk, hl], fun _ _ _ _ arr => by cases arr <;> simp only [sliceV, e]⟩
  | rptr i off L =>
    have e := key i (fun h => hz (by rw [h]; rfl))
    exact ⟨fun _ => by simp only [loadOk, e, hl], fun _ _ => by simp only [loadV, e], fun _ _ _ _ arr => by cases arr <;> simp only [sliceOk], fun _ _ _ _ arr => by cases arr <;> simp only [sliceV]⟩
  | row i off n L =>
    have e := key i (fun h => hz (by rw [h]; rfl))
    exact ⟨fun _ => by simp only [loadOk], fun _ _ => by simp only [loadV], fun _ _ _ _ arr => by cases arr <;> simp only [sliceOk, e, hl], fun _ _ _ _ arr => by cases arr <;> simp only [sliceV]⟩
  | lit v =>
    refine ⟨fun _ => rfl, fun _ _ => rfl, fun _ lo hi mx arr => ?_, fun _ _ _ _ arr => by cases arr <;> rfl⟩
    cases arr with
    | some m => rfl
    | none => cases v <;> first | rfl | (rename_i b n c; cases b <;> first | rfl | (cases n <;> first | rfl | (cases c <;> rfl)))
  | _ => exact ⟨fun _ => rfl, fun _ _ => rfl, fun _ _ _ _ arr => by cases arr <;> rfl, fun _ _ _ _ arr => by cases arr <;> rfl⟩
/-- What early operations look at is as it was, but one object. -/
def Keep (z : AV) (T T' : AH) : Prop := T' = T ∨ ∃ id, T'.length = T.length ∧ (∀ i, i ≠ id → obj T' i = obj T i) ∧ adrOf z ≠ some id
theorem Keep.symm {z : AV} {T T' : AH} (h : Keep z T T') : Keep z T' T := by
  rcases h with rfl | ⟨id, h1, h2, h3⟩
  · exact .inl rfl
  · exact .inr ⟨id, h1.symm, fun i hi => (h2 i hi).symm, h3⟩
theorem Keep.same {z : AV} {T T' : AH} (h : Keep z T T') :
    (∀ k, loadOk k T' z = loadOk k T z) ∧ (∀ agg k, loadV agg k T' z = loadV agg k T z) ∧ (∀ sz lo hi mx arr, sliceOk sz T' lo hi mx arr z = sliceOk sz T lo hi mx arr z) ∧ (∀ sz lo hi mx arr, sliceV sz T' lo hi mx arr z = sliceV sz T lo hi mx arr z) := by
  rcases h with rfl | ⟨id, h1, h2, h3⟩
  · exact ⟨fun _ => rfl, fun _ _ => rfl, fun _ _ _ _ _ => rfl, fun _ _ _ _ _ => rfl⟩
  · exact rd_same h1 h2 h3
theorem adr_un {z : AV} {id : Nat} (h : adrOf z.un ≠ some id) : adrOf z ≠ some id := by
  cases z <;> first | exact h | (intro hh; cases hh)
theorem Keep.un {z : AV} {T T' : AH} (h : Keep z.un T T') : Keep z T T' := by
  rcases h with rfl | ⟨id, h1, h2, h3⟩
  · exact .inl rfl
  · exact .inr ⟨id, h1, h2, adr_un h3⟩
theorem rd_keep1 {y : IOp} {E : Env} {T T' : AH} {v : AV} (hy : (isLd y.o || isSl y.o) = true) (hk : Keep (ev E (adrD y.o)).un T T') (hs : OpStep pf C y E T v T) : OpStep pf C y E T' v T' := by
  have k1 := hk.same
  have k2 := hk.un.same
  obtain ⟨d, g, io⟩ := y
  cases io <;> try (cases hy; done)
  · exact op_dep (Nat.le_refl _) rfl rfl (fun ρ hρ => by
      rcases hρ with rfl | rfl
      · exact ⟨k2.1 _, k2.2.1 _ _⟩
      · exact ⟨k1.1 _, k1.2.1 _ _⟩) hs
  · exact op_dep (Nat.le_refl _) rfl rfl (fun ρ hρ => by
      rcases hρ with rfl | rfl
      · exact ⟨congrArg (And _) (k2.2.2.1 _ _ _ _ _), k2.2.2.2 _ _ _ _ _⟩
      · exact ⟨congrArg (And _) (k1.2.2.1 _ _ _ _ _), k1.2.2.2 _ _ _ _ _⟩) hs
theorem rd_keep {y : IOp} {E : Env} {T T' : AH} {v : AV} (hy : (isLd y.o || isSl y.o) = true) (hk : Keep (ev E (adrD y.o)).un T T') : (OpStep pf C y E T v T → OpStep pf C y E T' v T') ∧ (OpStep pf C y E T' v T' → OpStep pf C y E T v T) :=
  ⟨rd_keep1 hy hk, rd_keep1 hy hk.symm⟩
theorem apart_row {z : AV} {id off n L : Nat} (h : apart (.row id off n L) z ∨ apart z (.row id off n L)) : adrOf z ≠ some id := by
  intro hh
  cases z <;> try (cases hh; done)
  all_goals
    cases hh
    rcases h with h | h <;> exact h rfl
theorem ap_keep {o : IOp} {E : Env} {H H' : AH} {v z : AV} (ho : isAp o.o = true) (hb : base ≤ H.length) (hs : OpStep pf C o E H v H') (hz : ∀ id off n L, (ev E (adrD o.o)).un = .row id off n L → adrOf z ≠ some id) : Keep z (H.take base) (H'.take base) := by
  obtain ⟨d, g, io⟩ := o
  cases io <;> try (cases ho; done)
  rename_i sz b s x
  unfold OpStep at hs
  cases g with
  | some dw => obtain ⟨_, _, _, _, rfl, _⟩ := hs; exact .inl rfl
  | none =>
    obtain ⟨_, _, h3⟩ := hs
    have h3 : H' = appH sz H (ev E x) (ev E s) := h3
    have hz : ∀ id off n L, (ev E s).un = .row id off n L → adrOf z ≠ some id := hz
    subst h3
    have app : ∀ ob : AObj, (H ++ [ob]).take base = H.take base := fun ob => List.take_append_of_le_length hb
    generalize ev E s = u at *
    cases u with
    | row id off n L =>
      refine .inr ⟨id, by simp [appH, setO], fun i hi => ?_, hz id off n L rfl⟩
      simp only [appH, setO, obj, List.getD_eq_getElem?_getD, List.getElem?_take]
      split
      · rw [List.getElem?_set_ne (Ne.symm hi)]
      · rfl
    | view cs n f =>
      refine .inl ?_
      simp only [appH]
      split
      · exact app _
      · rfl
    | _ => exact .inl (app _)
theorem comm_R {x y : RA} (hx : raOk pf x) (hy : raOk pf y) {E : Env} {H H1 H2 : AH} {vx vy : AV} (hc : commR pf x y = true) (s1 : RStep pf C base x E H vx H1) (s2 : RStep pf C base y (upd E x.o.d vx) H1 vy H2) (hd : y.ds.any (sameT (adrD x.o.o)) = true → apart (ev E (adrD x.o.o)).un (ev E (adrD y.o.o)).un) :
    ∃ Hy, RStep pf C base y E H vy Hy ∧ RStep pf C base x (upd E y.o.d vy) Hy vx H2 := by
  simp only [commR, Bool.and_eq_true, Bool.or_eq_true, beq_iff_eq] at hc
  obtain ⟨⟨hk, h1⟩, h2⟩ := hc
  have n1o : ∀ d, x.o.d = some d → d ∉ y.o.uses := by
    intro d hd; rw [hd] at h1; simp at h1; exact h1.1
  have n2 : ∀ d, y.o.d = some d → d ∉ x.uses := by
    intro d hd; rw [hd] at h2; simpa using h2
  have n2o : ∀ d, y.o.d = some d → d ∉ x.o.uses := fun d hd hh => n2 d hd (List.mem_append_left _ hh)
  have s2' : RStep pf C base y E H1 vy H2 := rstep_congr (upd_same n1o) s2
  have fin : ∀ Hy, RStep pf C base y E H vy Hy → RStep pf C base x E Hy vx H2 → ∃ Hy, RStep pf C base y E H vy Hy ∧ RStep pf C base x (upd E y.o.d vy) Hy vx H2 :=
    fun Hy t1 t2 => ⟨Hy, t1, rstep_congr (fun n hn => (upd_same n2o n hn).symm) t2⟩
  have apc : ∀ {io : Ins}, isAp io = true → io.cls pf ≠ 0 := by
    intro io h
    cases io <;> first | (cases h; done) | (intro hh; simp only [Ins.cls] at hh; omega)
  by_cases cx : x.o.o.cls pf = 0
  · obtain ⟨rfl, g⟩ := r0 (fun hw => apc (hx.2 hw) cx) cx s1
    exact fin H2 s2' (g H2)
  by_cases cy : y.o.o.cls pf = 0
  · obtain ⟨rfl, g⟩ := r0 (fun hw => apc (hy.2 hw) cy) cy s2'
    exact fin H (g H) s1
  have hk := (hk.resolve_left (by rintro (h | h); exact cx h; exact cy h))
  -- both leave the objects alone
  have both : x.o.o.cls pf ≤ 1 → y.o.o.cls pf ≤ 1 → ∃ Hy, RStep pf C base y E H vy Hy ∧ RStep pf C base x (upd E y.o.d vy) Hy vx H2 := by
    intro c1 c2
    obtain rfl := r1 c1 s1
    obtain rfl := r1 c2 s2'
    exact fin _ s2' s1
  -- a load, a store
  have mem := hd
  have ldst : isLd x.o.o = true → isSt y.o.o = true → y.k = .l → (x.k = .l ∨ x.k = .e) → y.ds.any (sameT (adrD x.o.o)) = true → ∃ Hy, RStep pf C base y E H vy Hy ∧ RStep pf C base x (upd E y.o.d vy) Hy vx H2 := by
    intro l1 l2 ky kx hm
    have hap := mem hm
    cases hxo : x.o.o <;> rw [hxo] at l1 <;> try (cases l1; done)
    rename_i agg k a
    cases hyo : y.o.o <;> rw [hyo] at l2 <;> try (cases l2; done)
    rename_i k2 b z
    rw [hxo, hyo] at hap
    have hap : apart (ev E a).un (ev E b).un := hap
    have c1 : x.o.o.cls pf ≤ 1 := by rw [hxo]; exact Nat.le_refl _
    obtain rfl := r1 c1 s1
    refine fin H2 s2' ?_
    have s2l : OpStep pf C y.o E H1 vy H2 := by unfold RStep at s2'; rw [ky] at s2'; exact s2'
    rcases st_eff hyo s2l with rfl | ⟨id, ob, rfl, hb⟩
    · exact s1
    · have hne : ∀ i, (∃ off, (ev E a).un = .ptr i off) ∨ (∃ off L, (ev E a).un = .rptr i off L) → i ≠ id := fun i hi => apart_ne hap hi (by rw [un_addr hb]; exact hb)
      have hne' : ∀ i, (∃ off, ev E a = .ptr i off) ∨ (∃ off L, ev E a = .rptr i off L) → i ≠ id := fun i hi => hne i (un_addr' hi)
      unfold RStep at *
      cases hkx : x.k with
      | l => rw [hkx] at s1; exact ld_dep hxo s1 (ld_same (base := base) hne).2 (ld_same (base := base) hne').2
      | e => rw [hkx] at s1; exact ⟨ld_dep hxo s1.1 (ld_same hne).1 (ld_same hne').1, rfl⟩
      | _ => rw [hkx] at kx; rcases kx with h | h <;> cases h
  have stld : isSt x.o.o = true → isLd y.o.o = true → x.k = .l → (y.k = .l ∨ y.k = .e) → y.ds.any (sameT (adrD x.o.o)) = true → ∃ Hy, RStep pf C base y E H vy Hy ∧ RStep pf C base x (upd E y.o.d vy) Hy vx H2 := by
    intro l1 l2 kx ky hm
    have hap := mem hm
    cases hyo : y.o.o <;> rw [hyo] at l2 <;> try (cases l2; done)
    rename_i agg k a
    cases hxo : x.o.o <;> rw [hxo] at l1 <;> try (cases l1; done)
    rename_i k2 b z
    rw [hxo, hyo] at hap
    have hap : apart (ev E b).un (ev E a).un := hap
    have c1 : y.o.o.cls pf ≤ 1 := by rw [hyo]; exact Nat.le_refl _
    obtain rfl := r1 c1 s2'
    refine fin H ?_ s1
    have s1l : OpStep pf C x.o E H vx H2 := by unfold RStep at s1; rw [kx] at s1; exact s1
    rcases st_eff hxo s1l with rfl | ⟨id, ob, rfl, hb⟩
    · exact s2'
    · have hne : ∀ i, (∃ off, (ev E a).un = .ptr i off) ∨ (∃ off L, (ev E a).un = .rptr i off L) → i ≠ id := fun i hi => (apart_ne hap (by rw [un_addr hb]; exact hb) hi).symm
      have hne' : ∀ i, (∃ off, ev E a = .ptr i off) ∨ (∃ off L, ev E a = .rptr i off L) → i ≠ id := fun i hi => hne i (un_addr' hi)
      have q : ∀ {p q : Prop} {f g : Bool → AV}, (p = q ∧ ∀ b, f b = g b) → (q = p ∧ ∀ b, g b = f b) := fun h => ⟨h.1.symm, fun b => (h.2 b).symm⟩
      unfold RStep at *
      cases hky : y.k with
      | l => rw [hky] at s2'; exact ld_dep hyo s2' (q (ld_same (base := base) hne).2) (q (ld_same (base := base) hne').2)
      | e => rw [hky] at s2'; exact ⟨ld_dep hyo s2'.1 (q (ld_same hne).1) (q (ld_same hne').1), rfl⟩
      | _ => rw [hky] at ky; rcases ky with h | h <;> cases h
  have hle : (decide (x.o.o.cls pf ≤ 1) && decide (y.o.o.cls pf ≤ 1) || (isLd x.o.o && isSt y.o.o || isSt x.o.o && isLd y.o.o) && y.ds.any (sameT (adrD x.o.o))) = true → (x.k = .l ∨ x.k = .e) → (y.k = .l ∨ y.k = .e) → ∃ Hy, RStep pf C base y E H vy Hy ∧ RStep pf C base x (upd E y.o.d vy) Hy vx H2 := by
    intro h kx ky
    simp only [Bool.or_eq_true, Bool.and_eq_true, decide_eq_true_eq] at h
    rcases h with ⟨c1, c2⟩ | ⟨⟨l1, l2⟩ | ⟨l1, l2⟩, hm⟩
    · exact both c1 c2
    · refine ldst l1 l2 (ky.resolve_right fun he => ?_) kx hm
      have := hy.1 he
      revert l2 this
      cases y.o.o <;> intro l2 this <;> first | (simp only [Ins.cls] at this; omega) | cases l2
    · refine stld l1 l2 (kx.resolve_right fun he => ?_) ky hm
      have := hx.1 he
      revert l1 this
      cases x.o.o <;> intro l1 this <;> first | (simp only [Ins.cls] at this; omega) | cases l1
  cases kx : x.k with
  | l =>
    cases ky : y.k with
    | l => rw [kx, ky] at hk; exact hle hk (.inl kx) (.inl ky)
    | e => rw [kx, ky] at hk; exact hle hk (.inl kx) (.inr ky)
    | _ => rw [kx, ky] at hk; cases hk
  | m =>
    cases ky : y.k with
    | e =>
      unfold RStep at s1 s2'
      rw [kx] at s1; rw [ky] at s2'
      obtain ⟨g1, g2⟩ := s1
      obtain ⟨g3, rfl⟩ := s2'
      refine fin H ?_ ?_
      · unfold RStep; rw [ky]; dsimp only; rw [← g2]; exact ⟨g3, rfl⟩
      · unfold RStep; rw [kx]; exact ⟨g1, g2⟩
    | _ => rw [kx, ky] at hk; cases hk
  | w =>
    cases ky : y.k with
    | e =>
      rw [kx, ky] at hk
      simp only [Bool.and_eq_true] at hk
      obtain ⟨⟨k1, k2⟩, k3⟩ := hk
      have hap := mem k3
      unfold RStep at s1 s2'
      rw [kx] at s1; rw [ky] at s2'
      obtain ⟨g0, g1⟩ := s1
      obtain ⟨g3, rfl⟩ := s2'
      refine fin H ?_ ?_
      · unfold RStep; rw [ky]; exact ⟨(rd_keep k2 (ap_keep k1 g0 g1 (fun id off n L h => apart_row (.inl (by rw [← h]; exact hap))))).2 g3, rfl⟩
      · unfold RStep; rw [kx]; exact ⟨g0, g1⟩
    | _ => rw [kx, ky] at hk; cases hk
  | e =>
    cases ky : y.k with
    | l => rw [kx, ky] at hk; exact hle hk (.inr kx) (.inl ky)
    | e => exact both (hx.1 kx) (hy.1 ky)
    | m =>
      unfold RStep at s1 s2'
      rw [kx] at s1; rw [ky] at s2'
      obtain ⟨g3, rfl⟩ := s1
      obtain ⟨g1, g2⟩ := s2'
      refine fin H2 ?_ ?_
      · unfold RStep; rw [ky]; exact ⟨g1, g2⟩
      · unfold RStep; rw [kx]; dsimp only; rw [g2]; exact ⟨g3, rfl⟩
    | w =>
      rw [kx, ky] at hk
      simp only [Bool.and_eq_true] at hk
      obtain ⟨⟨k1, k2⟩, k3⟩ := hk
      have hap := mem k3
      unfold RStep at s1 s2'
      rw [kx] at s1; rw [ky] at s2'
      obtain ⟨g3, rfl⟩ := s1
      obtain ⟨g0, g1⟩ := s2'
      refine fin H2 ?_ ?_
      · unfold RStep; rw [ky]; exact ⟨g0, g1⟩
      · unfold RStep; rw [kx]; exact ⟨(rd_keep k1 (ap_keep k2 g0 g1 (fun id off n L h => apart_row (.inr (by rw [← h]; exact hap))))).1 g3, rfl⟩
    | a r =>
      obtain rfl := r1 (hx.1 kx) s1
      refine fin H2 s2' ?_
      unfold RStep at *
      rw [kx] at s1; rw [ky] at s2'
      obtain ⟨g1, g2, g3, g4, rfl⟩ := s2'
      dsimp only at s1 ⊢
      rw [kx]
      dsimp only
      rw [take_set (by omega)]
      exact ⟨s1.1, rfl⟩
  | a r =>
    cases ky : y.k with
    | l | m | w => rw [kx, ky] at hk; cases hk
    | e =>
      obtain rfl := r1 (hy.1 ky) s2'
      refine fin H ?_ s1
      unfold RStep at *
      rw [kx] at s1; rw [ky] at s2'
      obtain ⟨g1, g2, g3, g4, rfl⟩ := s1
      dsimp only at s2' ⊢
      rw [ky]
      dsimp only
      rw [take_set (by omega)] at s2'
      exact ⟨s2'.1, rfl⟩
    | a s =>
      rw [kx, ky] at hk
      have hne : r ≠ s := by simpa using hk
      unfold RStep at s1 s2'
      rw [kx] at s1; rw [ky] at s2'
      obtain ⟨⟨a1, a2⟩, a3, a4, rfl, rfl⟩ := s1
      obtain ⟨⟨b1, b2⟩, b3, b4, rfl, rfl⟩ := s2'
      rw [take_set (by omega)] at b4
      rw [obj_set_ne (by omega)] at b2
      rw [List.length_set] at b1
      refine fin (H.set (base + s) (aobj (ev E) (H.take base) y.o.o)) ?_ ?_
      · unfold RStep
        rw [ky]
        exact ⟨⟨b1, b2⟩, b3, b4, by rw [take_set (by omega)], rfl⟩
      · unfold RStep
        rw [kx]
        refine ⟨⟨by rw [List.length_set]; exact a1, by rw [obj_set_ne (by omega)]; exact a2⟩, a3, by rw [take_set (by omega)]; exact a4, by rw [take_set (by omega)], ?_⟩
        rw [take_set (by omega), take_set (by omega), List.set_comm _ _ (by omega)]
theorem absR_cons {x : RA} (hx : raOk pf x) {r : List RA} {K : Env → AH → Prop} {E : Env} {H : AH} : absR pf C base (x :: r) K E H ↔ rdis x E ∧ ∃ v H', RStep pf C base x E H v H' ∧ absR pf C base r K (upd E x.o.d v) H' := by
  show (rdis x E ∧ rwp pf C base x (absR pf C base r K) E H) ↔ _
  rw [rwp_iff hx]
theorem rdis_congr {x : RA} {E E' : Env} (h : ∀ n ∈ x.uses, E n = E' n) (hd : rdis x E) : rdis x E' := by
  intro a ha
  have := hd a ha
  rw [ev_congr (E := E) (E' := E') (x := a) (fun n hn => h n (List.mem_append_right _ (List.mem_flatMap.2 ⟨a, ha, hn⟩)))] at this
  rw [ev_congr (E := E) (E' := E') (x := adrD x.o.o) (fun n hn => h n (List.mem_append_left _ ?_))] at this
  · exact this
  · refine List.mem_append_left _ (List.mem_flatMap.2 ⟨adrD x.o.o, ?_, hn⟩)
    revert hn
    unfold adrD adr?
    split <;> rename_i e <;> intro hh
    · rw [e]; simp [Ins.args]
    · rw [e]; simp [Ins.args]
    · rw [e]; simp [Ins.args]
    · rw [e]; simp [Ins.args]
    · cases hh
/-- The same, but for addresses in slots that are not laid yet. -/
def rdisF (D : List Nat) (x : RA) (E : Env) : Prop := ∀ a ∈ x.ds, (∀ n ∈ a.uses, n ∉ D) → apart (ev E a).un (ev E (adrD x.o.o)).un
theorem adr_uses {o : IOp} {n : Nat} (h : n ∈ (adrD o.o).uses) : n ∈ o.uses := by
  refine List.mem_append_left _ (List.mem_flatMap.2 ⟨adrD o.o, ?_, h⟩)
  revert h
  unfold adrD adr?
  split <;> rename_i e <;> intro hh
  · rw [e]; simp [Ins.args]
  · rw [e]; simp [Ins.args]
  · rw [e]; simp [Ins.args]
  · rw [e]; simp [Ins.args]
  · cases hh
theorem fix_not {x y : RA} (h : adrFix x y = true) {d : Nat} (hd : y.o.d = some d) : d ∉ (adrD x.o.o).uses := by
  unfold adrFix at h
  rw [hd] at h
  simpa using h
theorem moveFrontR {K : Env → AH → Prop} {o : RA} (ho : raOk pf o) {post : List RA} : ∀ {pre : List RA} {E : Env} {H : AH}, (∀ x ∈ pre, raOk pf x ∧ commR pf x o = true ∧ adrFix x x = true) → pre.Pairwise (fun x y => adrFix x y = true) → absR pf C base (pre ++ o :: post) K E H →
    rdisF (pre.filterMap (·.o.d)) o E ∧ ∃ v H', RStep pf C base o E H v H' ∧ absR pf C base (pre ++ post) K (upd E o.o.d v) H'
  | [], E, H, _, _, h => by
    obtain ⟨h1, h2⟩ := (absR_cons ho).1 h
    exact ⟨fun a ha _ => h1 a ha, h2⟩
  | x :: pre, E, H, hc, hp, h => by
    obtain ⟨hx, hxo, hself⟩ := hc x (by simp)
    obtain ⟨hp1, hp2⟩ := List.pairwise_cons.1 hp
    obtain ⟨d1, vx, H1, s1, h⟩ := (absR_cons hx).1 h
    obtain ⟨d2, vo, Ho, s2, h⟩ := moveFrontR ho (fun y hy => hc y (by simp [hy])) hp2 h
    have hxo' := hxo
    simp only [commR, Bool.and_eq_true] at hxo'
    obtain ⟨⟨_, k1⟩, k2⟩ := hxo'
    have n1 : ∀ d, x.o.d = some d → d ∉ o.o.uses ∧ o.o.d ≠ some d := by
      intro d hd; rw [hd] at k1; simpa using k1
    have n2 : ∀ d, o.o.d = some d → d ∉ x.uses := by
      intro d hd; rw [hd] at k2; simpa using k2
    have eo : ∀ w, ev (upd E x.o.d w) (adrD o.o.o) = ev E (adrD o.o.o) := fun w => upd_ev fun k hk hh => (n1 k hk).1 (adr_uses hh)
    obtain ⟨Hy, t1, t2⟩ := comm_R hx ho hxo s1 s2 (fun hany => by
      obtain ⟨a, ha1, ha2⟩ := List.any_eq_true.1 hany
      have : adrD x.o.o = a := by
        generalize adrD x.o.o = b at *
        unfold sameT at ha2
        split at ha2
        · rw [beq_iff_eq.1 ha2]
        · cases ha2
      subst this
      have := d2 _ ha1 (fun n hn hD => by
        obtain ⟨y, hy, hyd⟩ := List.mem_filterMap.1 hD
        exact fix_not (hp1 y hy) hyd hn)
      rwa [eo, upd_ev (fun k hk hh => fix_not hself hk hh)] at this)
    refine ⟨fun a ha hD => ?_, vo, Hy, t1, ?_⟩
    · have := d2 a ha (fun n hn hh => hD n hn (by
        rw [List.filterMap_cons]; split
        · exact hh
        · exact List.mem_cons_of_mem _ hh))
      rwa [eo, upd_ev (fun k hk hh => hD k hh (by rw [List.filterMap_cons, hk]; simp))] at this
    refine (absR_cons hx).2 ⟨rdis_congr (fun n hn => (upd_same n2 n hn).symm) d1, vx, Ho, t2, ?_⟩
    rw [← upd_comm E vx vo fun d hd => (n1 d hd).2]
    exact h
end
end Go.Proofs.Ytgfploghjpbcaaa.Eng
