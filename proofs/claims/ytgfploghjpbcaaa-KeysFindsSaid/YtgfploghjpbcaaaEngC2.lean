/- A new object takes a reserved place. -/
import Derived.Test.YtgfploghjpbcaaaEngD
namespace Go.Proofs.Ytgfploghjpbcaaa.Eng
open Go
set_option linter.unusedVariables false
section
variable {φ φ1 : Nat → Option Nat} {H : AH} {w w1 : World} {ob D : AObj} {d : Nat}
/-- Where the objects lie then. -/
def movφ (φ1 : Nat → Option Nat) (n d : Nat) : Nat → Option Nat := fun i => if i = d then φ1 n else φ1 i
theorem dum_none (hs : St (cx φ H w)) (hd : H[d]? = some D) (hD : isD D) : φ d = none := by
  rcases hs.ok d D hd with ⟨g1, _⟩ | ⟨b, c, e, fr, g1, g2, g3, _⟩
  · exact g1
  · exact absurd hD g3.2
theorem mov_wr (hd : H[d]? = some D) {b : Nat} (hw : Wr (cx (movφ φ1 H.length d) (H.set d ob) w1) b) : Wr (cx φ1 (H ++ [ob]) w1) b := by
  obtain ⟨i, o, h1, h2, h3⟩ := hw
  have h1 : (H.set d ob)[i]? = some o := h1
  have h3 : movφ φ1 H.length d i = some b := h3
  have hlt := lt_of_some hd
  by_cases hi : i = d
  · subst hi
    rw [List.getElem?_set_self hlt] at h1
    cases h1
    simp only [movφ, if_true] at h3
    exact ⟨H.length, ob, (by show (H ++ [ob])[H.length]? = _; simp), h2, h3⟩
  · rw [List.getElem?_set_ne (Ne.symm hi)] at h1
    simp only [movφ, if_neg hi] at h3
    exact ⟨i, o, (by show (H ++ [ob])[i]? = _; rw [List.getElem?_append_left (lt_of_some h1)]; exact h1), h2, h3⟩
theorem mov_imm (hd : H[d]? = some D) {b off : Nat} {us : List Value} (h : Imm (cx φ1 (H ++ [ob]) w1) b off us) : Imm (cx (movφ φ1 H.length d) (H.set d ob) w1) b off us := ⟨h.1, fun hw => h.2 (mov_wr hd hw)⟩
theorem mov_get (hd : H[d]? = some D) {i : Nat} {o : AObj} (hi : H[i]? = some o) (hne : i ≠ d) : (H ++ [ob])[i]? = some o ∧ (H.set d ob)[i]? = some o ∧ movφ φ1 H.length d i = φ1 i :=
  ⟨by rw [List.getElem?_append_left (lt_of_some hi)]; exact hi, by rw [List.getElem?_set_ne (Ne.symm hne)]; exact hi, by simp [movφ, hne]⟩
mutual
/-- What was there before reads the same. -/
theorem mov_R (hd : H[d]? = some D) (hD : isD D) (hp : φ d = none) : ∀ (v : AV) {y0 y : Value}, R (cx φ H w) v y0 → R (cx φ1 (H ++ [ob]) w1) v y → R (cx (movφ φ1 H.length d) (H.set d ob) w1) v y
  | .lit v, y0, y, _, h => h
  | .ptr id off, y0, y, h0, h => by
    obtain ⟨o0, b0, a1, a2, a3, a4⟩ := h0
    have hne : id ≠ d := fun e => by
      subst e
      have a3 : φ id = some b0 := a3
      rw [hp] at a3; cases a3
    obtain ⟨g1, g2, g3⟩ := mov_get (ob := ob) (φ1 := φ1) hd a1 hne
    obtain ⟨o, b, b1, b2, b3, b4⟩ := h
    have b1 : (H ++ [ob])[id]? = some o := b1
    rw [g1] at b1; cases b1
    exact ⟨o0, b, g2, b2, by show movφ φ1 H.length d id = _; rw [g3]; exact b3, b4⟩
  | .rptr id off L, y0, y, h0, h => by
    obtain ⟨a0, _, o0, a1, a2, a3⟩ := h0
    have a1 : H[id]? = some o0 := a1
    have hne : id ≠ d := fun e => by
      subst e
      rw [hd] at a1; cases a1
      obtain ⟨b, a4, _⟩ := a3 (by have := hD.1; rw [this] at a2 ⊢; simp at a2 ⊢; exact a2)
      have a4 : φ id = some b := a4
      rw [hp] at a4; cases a4
    obtain ⟨g1, g2, g3⟩ := mov_get (ob := ob) (φ1 := φ1) hd a1 hne
    obtain ⟨a, e, o, b1, b2, b3⟩ := h
    have b1 : (H ++ [ob])[id]? = some o := b1
    rw [g1] at b1; cases b1
    refine ⟨a, e, o0, g2, b2, fun hL => ?_⟩
    obtain ⟨b, b4, b5⟩ := b3 hL
    exact ⟨b, by show movφ φ1 H.length d id = _; rw [g3]; exact b4, b5⟩
  | .vptr cs, y0, y, h0, h => by
    obtain ⟨_, _, us0, _, _, _, k0⟩ := h0
    obtain ⟨b, off, us, e, h1, h2, h3⟩ := h
    exact ⟨b, off, us, e, mov_imm hd h1, h2, mov_RL hd hD hp cs k0 h3⟩
  | .row id off n L, y0, y, h0, h => by
    obtain ⟨_, cap0, _, _, _, o0, a1, a2, a3⟩ := h0
    have a1 : H[id]? = some o0 := a1
    have hne : id ≠ d := fun e => by
      subst e
      rw [hd] at a1; cases a1
      rcases a3 (by have := hD.1; rw [this] at a2 ⊢; simp at a2 ⊢; exact a2) with ⟨_, _, a4⟩ | ⟨b, a4, _⟩
      · have := hD.2; omega
      · have a4 : φ id = some b := a4
        rw [hp] at a4; cases a4
    obtain ⟨g1, g2, g3⟩ := mov_get (ob := ob) (φ1 := φ1) hd a1 hne
    obtain ⟨a, cap, e, h1, h2, o, b1, b2, b3⟩ := h
    have b1 : (H ++ [ob])[id]? = some o := b1
    rw [g1] at b1; cases b1
    refine ⟨a, cap, e, h1, h2, o0, g2, b2, fun hL => ?_⟩
    have g3' : (cx (movφ φ1 H.length d) (H.set d ob) w1).φ id = (cx φ1 (H ++ [ob]) w1).φ id := g3
    rw [g3']
    exact b3 hL
  | .view cs n full, y0, y, h0, h => by
    obtain ⟨_, _, _, _, _, _, _, k0⟩ := h0
    obtain ⟨a, cap, h1, h2, h3, h4, h5, h6⟩ := h
    refine ⟨a, cap, h1, h2, h3, h4, h5, ?_⟩
    rcases h6 with h6 | ⟨b, off, us, k1, k2, k3⟩
    · exact .inl h6
    · rcases k0 with k0 | ⟨_, _, us0, _, _, k4⟩
      · exact .inl k0
      · exact .inr ⟨b, off, us, k1, mov_imm hd k2, mov_RL hd hD hp cs k4 k3⟩
  | .fn f first cap, y0, y, h0, h => by
    obtain ⟨fs0, cps0, _, k1, k2⟩ := h0
    obtain ⟨fs, cps, h1, h2, h3⟩ := h
    exact ⟨fs, cps, h1, mov_RL hd hD hp first k1 h2, mov_RL hd hD hp cap k2 h3⟩
  | .agg cs, y0, y, h0, h => by
    obtain ⟨vs0, _, k1⟩ := h0
    obtain ⟨vs, h1, h2⟩ := h
    exact ⟨vs, h1, mov_RL hd hD hp cs k1 h2⟩
  | .tup cs, y0, y, h0, h => by
    obtain ⟨vs0, _, k1⟩ := h0
    obtain ⟨vs, h1, h2⟩ := h
    exact ⟨vs, h1, mov_RL hd hD hp cs k1 h2⟩
  | .may g v, y0, y, h0, h => ⟨fun hg => mov_R hd hD hp v (h0.1 hg) (h.1 hg), h.2⟩
  | .anyb, y0, y, _, h => h
  | .junk, y0, y, _, _ => trivial
theorem mov_RL (hd : H[d]? = some D) (hD : isD D) (hp : φ d = none) : ∀ (l : List AV) {ys0 ys : List Value}, RL (cx φ H w) l ys0 → RL (cx φ1 (H ++ [ob]) w1) l ys → RL (cx (movφ φ1 H.length d) (H.set d ob) w1) l ys
  | [], ys0, ys, _, h => h
  | a :: r, ys0, ys, h0, h => by
    obtain ⟨u0, t0, _, k1, k2⟩ := h0
    obtain ⟨u, t, h1, h2, h3⟩ := h
    exact ⟨u, t, h1, mov_R hd hD hp a k1 h2, mov_RL hd hD hp r k2 h3⟩
end
/-- The state then. -/
theorem mov_st (hs : St (cx φ H w)) (hd : H[d]? = some D) (hD : isD D) (hob : ∃ ys0, RL (cx φ H w) ob.cs ys0) (h1 : St (cx φ1 (H ++ [ob]) w1)) (hx : Ext (cx φ H w) (cx φ1 (H ++ [ob]) w1)) :
    St (cx (movφ φ1 H.length d) (H.set d ob) w1) ∧ Ext (cx φ H w) (cx (movφ φ1 H.length d) (H.set d ob) w1) := by
  have hp := dum_none hs hd hD
  have hlt := lt_of_some hd
  refine ⟨⟨fun i o hi => ?_, fun i j b hi hj e1 e2 => ?_⟩, ⟨hx.size, fun b hb hw => hx.frame b hb hw, hx.shape, fun i o hi => ?_, fun i b hi hp2 hb => ?_⟩⟩
  · have hi : (H.set d ob)[i]? = some o := hi
    by_cases hid : i = d
    · subst hid
      rw [List.getElem?_set_self hlt] at hi
      cases hi
      obtain ⟨ys0, hy⟩ := hob
      have e : (cx (movφ φ1 H.length i) (H.set i ob) w1).φ i = φ1 H.length := by simp [cx, movφ]
      rcases h1.ok H.length ob (by show (H ++ [ob])[H.length]? = _; simp) with ⟨g1, g2⟩ | ⟨b, c, ee, fr, g1, g2, g3, g4, g5⟩
      · exact .inl ⟨by rw [e]; exact g1, g2⟩
      · exact .inr ⟨b, c, ee, fr, by rw [e]; exact g1, g2, g3, g4, mov_RL hd hD hp _ hy g5⟩
    · rw [List.getElem?_set_ne (Ne.symm hid)] at hi
      obtain ⟨k1, k2, k3⟩ := mov_get (ob := ob) (φ1 := φ1) hd hi hid
      have e : (cx (movφ φ1 H.length d) (H.set d ob) w1).φ i = φ1 i := k3
      have h0 : ∃ ys0, RL (cx φ H w) o.cs ys0 := by
        rcases hs.ok i o hi with ⟨_, g2⟩ | ⟨b, c, ee, fr, g1, g2, g3, g4, g5⟩
        · exact ⟨[], by rw [g2]; rfl⟩
        · exact ⟨_, g5⟩
      obtain ⟨ys0, hy⟩ := h0
      rcases h1.ok i o k1 with ⟨g1, g2⟩ | ⟨b, c, ee, fr, g1, g2, g3, g4, g5⟩
      · exact .inl ⟨by rw [e]; exact g1, g2⟩
      · exact .inr ⟨b, c, ee, fr, by rw [e]; exact g1, g2, g3, g4, mov_RL hd hD hp _ hy g5⟩
  · have hi : i < H.length := by simpa [cx] using hi
    have hj : j < H.length := by simpa [cx] using hj
    have e1 : movφ φ1 H.length d i = some b := e1
    have e2 : movφ φ1 H.length d j = some b := e2
    have hl : ∀ k, k < H.length → k < (cx φ1 (H ++ [ob]) w1).H.length := fun k hk => by simp [cx]; omega
    have hl2 : H.length < (cx φ1 (H ++ [ob]) w1).H.length := by simp [cx]
    simp only [movφ] at e1 e2
    by_cases hid : i = d <;> by_cases hjd : j = d
    · omega
    · rw [if_pos hid] at e1; rw [if_neg hjd] at e2
      have := h1.inj _ _ b hl2 (hl j hj) e1 e2
      omega
    · rw [if_neg hid] at e1; rw [if_pos hjd] at e2
      have := h1.inj _ _ b (hl i hi) hl2 e1 e2
      omega
    · rw [if_neg hid] at e1; rw [if_neg hjd] at e2
      exact h1.inj _ _ b (hl i hi) (hl j hj) e1 e2
  · have hi : H[i]? = some o := hi
    by_cases hid : i = d
    · subst hid
      rw [hd] at hi; cases hi
      exact ⟨ob, by show (H.set i ob)[i]? = _; rw [List.getElem?_set_self hlt], .inl ⟨hD, hp⟩⟩
    · obtain ⟨k1, k2, k3⟩ := mov_get (ob := ob) (φ1 := φ1) hd hi hid
      obtain ⟨o', g1, g2⟩ := hx.objs i o hi
      have g1 : (H ++ [ob])[i]? = some o' := g1
      rw [k1] at g1; cases g1
      refine ⟨o, k2, ?_⟩
      rcases g2 with g2 | ⟨a1, a2, a3, a4, a5, a6⟩
      · exact .inl g2
      · exact .inr ⟨a1, a2, a3, a4, a5, fun hh => k3.trans (a6 hh)⟩
  · have hi : i < H.length := by simpa [cx] using hi
    have hp2 : movφ φ1 H.length d i = some b := hp2
    have hl2 : H.length < (cx φ1 (H ++ [ob]) w1).H.length := by simp [cx]
    simp only [movφ] at hp2
    by_cases hid : i = d
    · rw [if_pos hid] at hp2
      have := (hx.fresh _ b hl2 hp2 hb).1
      simp [cx] at this
    · rw [if_neg hid] at hp2
      exact hx.fresh i b (by simp [cx]; omega) hp2 hb
/-- The new object's own value. -/
theorem mov_ptr (hd : H[d]? = some D) {y : Value} (h : R (cx φ1 (H ++ [ob]) w1) (.ptr H.length 0) y) : R (cx (movφ φ1 H.length d) (H.set d ob) w1) (.ptr d 0) y := by
  obtain ⟨o, b, h1, h2, h3, h4⟩ := h
  have h1 : (H ++ [ob])[H.length]? = some o := h1
  simp at h1; subst h1
  exact ⟨ob, b, (by show (H.set d ob)[d]? = _; rw [List.getElem?_set_self (lt_of_some hd)]), h2, (by show movφ φ1 H.length d d = _; simp only [movφ, if_true]; exact h3), h4⟩
theorem mov_row (hd : H[d]? = some D) {y : Value} {n L : Nat} (h : R (cx φ1 (H ++ [ob]) w1) (.row H.length 0 n L) y) : R (cx (movφ φ1 H.length d) (H.set d ob) w1) (.row d 0 n L) y := by
  obtain ⟨a, cap, e, h1, h2, o, h3, h4, h5⟩ := h
  have h3 : (H ++ [ob])[H.length]? = some o := h3
  simp at h3; subst h3
  refine ⟨a, cap, e, h1, h2, ob, (by show (H.set d ob)[d]? = _; rw [List.getElem?_set_self (lt_of_some hd)]), h4, fun hL => ?_⟩
  have e : (cx (movφ φ1 H.length d) (H.set d ob) w1).φ d = (cx φ1 (H ++ [ob]) w1).φ H.length := by simp [cx, movφ]
  rw [e]
  exact h5 hL
end
end Go.Proofs.Ytgfploghjpbcaaa.Eng
