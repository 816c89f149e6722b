/- Contracts at values that say less; rows read as views. -/
import Derived.Test.YtgfploghjpbcaaaEngN
namespace Go.Proofs.Ytgfploghjpbcaaa.Eng
open Go
set_option linter.unusedVariables false
set_option linter.unusedSimpArgs false
/-- What b says, a says too. -/
def Le (a b : AV) : Prop := ∀ (S : Cx) (y : Value), R S a y → R S b y
def LeL : List AV → List AV → Prop
  | [], [] => True
  | a :: r, b :: s => Le a b ∧ LeL r s
  | _, _ => False
theorem Le.refl (a : AV) : Le a a := fun _ _ h => h
theorem LeL.rl {S : Cx} : ∀ {a b : List AV} {ys : List Value}, LeL a b → RL S a ys → RL S b ys
  | [], [], ys, _, h => h
  | a :: r, b :: s, ys, hl, h => by
    obtain ⟨u, t, h1, h2, h3⟩ := h
    exact ⟨u, t, h1, hl.1 S u h2, LeL.rl hl.2 h3⟩
theorem le_nil (full : Bool) : Le (.lit (.slice none 0 0)) (.view [] 0 full) := by
  intro S y h
  cases h
  exact ⟨none, 0, rfl, Nat.le_refl _, fun _ => ⟨rfl, rfl⟩, fun _ => rfl, rfl, .inl rfl⟩
theorem le_junk (a : AV) : Le a .junk := fun _ _ _ => trivial
theorem le_full (cs : List AV) (n : Nat) (full : Bool) : Le (.view cs n full) (.view cs n false) := by
  rintro S y ⟨a, cap, h1, h2, h3, h4, h5, h6⟩
  exact ⟨a, cap, h1, h2, h3, (fun h => by cases h), h5, h6⟩
section
variable {P : Program} {f : FuncId} {H H' : AH} {v : AV}
theorem Called.weak {args args' : List AV} (h : Called P f args H v H') (hl : LeL args' args) : Called P f args' H v H' :=
  ⟨h.ok, fun φ w vals hs hr => h.runs φ w vals hs (hl.rl hr)⟩
theorem Called.less {args : List AV} {v' : AV} (h : Called P f args H v H') (hl : Le v v') : Called P f args H v' H' :=
  ⟨h.ok, fun φ w vals hs hr => (h.runs φ w vals hs hr).mono fun e w' ⟨y, he, φ', h1, h2, h3, h4⟩ => ⟨y, he, φ', h1, h2, h3, hl _ _ h4⟩⟩
mutual
def AV.flat : AV → Bool
  | .lit _ | .junk => true
  | .agg cs | .tup cs => flatL cs
  | _ => false
def flatL : List AV → Bool
  | [] => true
  | a :: r => a.flat && flatL r
end
mutual
theorem R_flat {S S' : Cx} : ∀ (v : AV) {y : Value}, v.flat = true → R S v y → R S' v y
  | .lit v, y, _, h => h
  | .junk, y, _, h => trivial
  | .agg cs, y, hf, h => by obtain ⟨vs, h1, h2⟩ := h; exact ⟨vs, h1, RL_flat cs hf h2⟩
  | .tup cs, y, hf, h => by obtain ⟨vs, h1, h2⟩ := h; exact ⟨vs, h1, RL_flat cs hf h2⟩
  | .ptr .., y, hf, h | .rptr .., y, hf, h | .vptr .., y, hf, h | .row .., y, hf, h | .view .., y, hf, h | .fn .., y, hf, h | .may .., y, hf, h | .anyb, y, hf, h => by cases hf
theorem RL_flat {S S' : Cx} : ∀ (l : List AV) {ys : List Value}, flatL l = true → RL S l ys → RL S' l ys
  | [], ys, _, h => h
  | a :: r, ys, hf, h => by
    simp only [flatL, Bool.and_eq_true] at hf
    obtain ⟨u, t, h1, h2, h3⟩ := h
    exact ⟨u, t, h1, R_flat a hf.1 h2, RL_flat r hf.2 h3⟩
end
/-- All objects' cells stay as they are. -/
def froz (H : AH) : AH := H.map fun o => ⟨o.cs, o.sz, false⟩
theorem froz_get {i : Nat} {o : AObj} (h : (froz H)[i]? = some o) : ∃ o', H[i]? = some o' ∧ o = ⟨o'.cs, o'.sz, false⟩ := by
  simp only [froz, List.getElem?_map, Option.map_eq_some_iff] at h
  obtain ⟨o', h1, h2⟩ := h
  exact ⟨o', h1, h2.symm⟩
theorem froz_get' {i : Nat} {o : AObj} (h : H[i]? = some o) : (froz H)[i]? = some ⟨o.cs, o.sz, false⟩ := by simp [froz, h]
theorem froz_wr {φ : Nat → Option Nat} {w : World} (b : Nat) : ¬ Wr (cx φ (froz H) w) b := by
  rintro ⟨id, o, h1, h2, h3⟩
  obtain ⟨o', g1, rfl⟩ := froz_get h1
  cases h2
theorem froz_ext {φ : Nat → Option Nat} {w : World} : Ext (cx φ H w) (cx φ (froz H) w) := by
  refine ⟨Nat.le_refl _, fun _ _ _ => rfl, fun b c e fr h => ⟨c, fr, h, rfl⟩, fun i o h => ⟨_, froz_get' h, .inr ⟨rfl, Nat.le_refl _, fun _ => rfl, (fun h => by cases h), fun hh => ?_, fun _ => rfl⟩⟩, fun i b h1 h2 h3 => ⟨by simpa [cx, froz] using h1, h2⟩⟩
  cases o; simp_all
theorem froz_st {φ : Nat → Option Nat} {w : World} (hs : St (cx φ H w)) : St (cx φ (froz H) w) := by
  refine ⟨fun i o h => ?_, fun i j b hi hj => hs.inj i j b (by simpa [cx, froz] using hi) (by simpa [cx, froz] using hj)⟩
  obtain ⟨o', g1, rfl⟩ := froz_get h
  rcases hs.ok i o' g1 with h1 | ⟨b, c, e, fr, h1, h2, h3, h4, h5⟩
  · exact .inl h1
  · exact .inr ⟨b, c, e, fr, h1, h2, h3, h4, h5.mono froz_ext⟩
def rv (H : AH) : AV → AV
  | .row id off n L => if id < H.length then rowView H id off n L else .junk
  | v => v
theorem rowView_R {φ : Nat → Option Nat} {w : World} (hs : St (cx φ H w)) {id off n L : Nat} {y : Value} (hr : R (cx φ H w) (.row id off n L) y) : R (cx φ (froz H) w) (rowView H id off n L) y := by
  have L0 : Lows φ φ H (froz H) w (fun _ => none) := ⟨hs, fun b off us hi => ⟨hi.1, froz_wr b⟩, (fun id j h => by cases h), fun id _ b _ _ => froz_wr b⟩
  exact low_R L0 _ hr
theorem rv_R {φ : Nat → Option Nat} {w : World} (hs : St (cx φ H w)) : ∀ {l : List AV} {ys : List Value}, RL (cx φ H w) l ys → RL (cx φ (froz H) w) (l.map (rv H)) ys
  | [], ys, h => h
  | a :: r, ys, h => by
    obtain ⟨u, t, h1, h2, h3⟩ := h
    refine ⟨u, t, h1, ?_, rv_R hs h3⟩
    cases a with
    | row id off n L =>
      simp only [rv]
      split
      · exact rowView_R hs h2
      · trivial
    | _ => exact h2.mono froz_ext
/-- A function that does nothing to objects, whose result leads nowhere, may be handed rows where its contract speaks of views. -/
theorem Called.rows {args : List AV} (hf : v.flat = true) (h : Called P f (args.map (rv H)) (froz H) v (froz H)) : Called P f args H v H := by
  refine ⟨h.ok, fun φ w vals hs hr => (h.runs φ w vals (froz_st hs) (rv_R hs hr)).mono ?_⟩
  rintro e w' ⟨y, he, φ', h1, h2, h3, h4⟩
  have hfr : ∀ b, b < w.heap.size → w'.heap[b]? = w.heap[b]? := fun b hb => h2.frame b hb (froz_wr b)
  have hx : Ext (cx φ H w) (cx φ H w') := by
    refine ⟨h2.size, fun b hb _ => hfr b hb, fun b c e fr hc => ⟨c, fr, by show w'.heap[b]? = _; rw [hfr b (heap_lt hc)]; exact hc, rfl⟩, fun i o h => ⟨o, h, .inr ⟨rfl, Nat.le_refl _, fun _ => rfl, id, fun _ => rfl, fun _ => rfl⟩⟩, fun i b hi hp hb => ⟨hi, hp⟩⟩
  refine ⟨y, he, φ, ⟨fun i o ho => ?_, hs.inj⟩, hx, h3, R_flat v hf h4⟩
  rcases hs.ok i o ho with g1 | ⟨b, c, e, fr, g1, g2, g3, g4, g5⟩
  · exact .inl g1
  · exact .inr ⟨b, c, e, fr, g1, by show w'.heap[b]? = _; rw [hfr b (heap_lt g2)]; exact g2, g3, g4, g5.mono hx⟩
end
end Go.Proofs.Ytgfploghjpbcaaa.Eng
