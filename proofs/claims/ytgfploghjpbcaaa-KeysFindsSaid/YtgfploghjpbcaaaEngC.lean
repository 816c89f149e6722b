/- The relation between abstract and real states. -/
import Derived.Test.YtgfploghjpbcaaaEngB
namespace Go.Proofs.Ytgfploghjpbcaaa.Eng
open Go
set_option linter.unusedVariables false

/-- Where the objects lie; the objects; the memory. -/
structure Cx where
  φ : Nat → Option Nat
  H : AH
  h : Array Obj
/-- Blocks that may be written. -/
def Wr (S : Cx) (b : Nat) : Prop := ∃ id o, S.H[id]? = some o ∧ o.rw = true ∧ S.φ id = some b
/-- Cells that nobody writes. -/
def Imm (S : Cx) (b off : Nat) (us : List Value) : Prop := (∃ c e fr, S.h[b]? = some (.cells c e fr) ∧ ∀ j u, us[j]? = some u → c[off + j]? = some u) ∧ ¬ Wr S b
def blockSize (S : Cx) (b : Nat) : Nat := match S.h[b]? with | some (.cells c _ _) => c.size | _ => 0
mutual
def R (S : Cx) : AV → Value → Prop
  | .lit v, y => y = v
  | .ptr id off, y => ∃ o b, S.H[id]? = some o ∧ o.sz = 0 ∧ S.φ id = some b ∧ y = .pointer (some ⟨b, off, none⟩)
  | .rptr id off L, y => ∃ a, y = .pointer (some a) ∧ ∃ o, S.H[id]? = some o ∧ L ≤ o.cs.length ∧ (L = o.cs.length → ∃ b, S.φ id = some b ∧ a = ⟨b, off, none⟩)
  | .vptr cs, y => ∃ b off us, y = .pointer (some ⟨b, off, none⟩) ∧ Imm S b off us ∧ pureL cs = true ∧ RL S cs us
  | .row id off n L, y => ∃ a cap, y = .slice a n cap ∧ n ≤ cap ∧ (a = none → n = 0 ∧ cap = 0) ∧ ∃ o, S.H[id]? = some o ∧ L ≤ o.cs.length ∧
      (L = o.cs.length → (S.φ id = none ∧ cap = 0 ∧ 0 < o.sz) ∨ ∃ b, S.φ id = some b ∧ a ≠ none ∧ (a = some ⟨b, off, none⟩ ∨ cap = 0) ∧ (0 < o.sz → off + cap * o.sz ≤ blockSize S b ∧ L ≤ off + cap * o.sz))
  | .view cs n full, y => ∃ a cap, y = .slice a n cap ∧ n ≤ cap ∧ (a = none → n = 0 ∧ cap = 0) ∧ (full = true → cap = n) ∧ pureL cs = true ∧
      (cs = [] ∨ ∃ b off us, a = some ⟨b, off, none⟩ ∧ Imm S b off us ∧ RL S cs us)
  | .fn f first cap, y => ∃ fs cps, y = .func f fs cps ∧ RL S first fs.toList ∧ RL S cap cps.toList
  | .agg cs, y => ∃ vs, y = .agg vs ∧ RL S cs vs.toList
  | .tup vs, y => ∃ us, y = .tuple us ∧ RL S vs us.toList
  | .may g v, y => (g = true → R S v y) ∧ (g = false → y = undef)
  | .anyb, y => ∃ b, y = .bool b
  | .junk, _ => True
def RL (S : Cx) : List AV → List Value → Prop
  | [], us => us = []
  | a :: r, us => ∃ u t, us = u :: t ∧ R S a u ∧ RL S r t
end
/-- No cell is frozen. -/
def FrOk (n : Nat) (fr : Nat × Nat) : Prop := fr.1 = fr.2 ∨ n ≤ fr.1
theorem FrOk.no {n : Nat} {fr : Nat × Nat} (h : FrOk n fr) : ∀ k, k < n → ¬ (fr.1 ≤ k ∧ k < fr.2) := by
  intro k hk hh
  rcases h with h | h <;> omega
/-- An object that is not there yet. -/
def isD (o : AObj) : Prop := o.cs = [] ∧ o.sz = 0
def ObjOk (S : Cx) (id : Nat) (o : AObj) : Prop :=
  (S.φ id = none ∧ o.cs = []) ∨
  ∃ b c e fr, S.φ id = some b ∧ S.h[b]? = some (.cells c e fr) ∧ (FrOk c.size fr ∧ ¬ isD o) ∧ o.cs.length ≤ c.size ∧ RL S o.cs (c.toList.take o.cs.length)
structure St (S : Cx) : Prop where
  ok : ∀ (id : Nat) (o : AObj), S.H[id]? = some o → ObjOk S id o
  inj : ∀ i j b : Nat, i < S.H.length → j < S.H.length → S.φ i = some b → S.φ j = some b → i = j
structure Ext (S S' : Cx) : Prop where
  size : S.h.size ≤ S'.h.size
  frame : ∀ b : Nat, b < S.h.size → ¬ Wr S b → S'.h[b]? = S.h[b]?
  shape : ∀ (b : Nat) (c : Array Value) (e : TypeId) (fr : Nat × Nat), S.h[b]? = some (Obj.cells c e fr) → ∃ c' fr', S'.h[b]? = some (.cells c' e fr') ∧ c'.size = c.size
  objs : ∀ (id : Nat) (o : AObj), S.H[id]? = some o → ∃ o', S'.H[id]? = some o' ∧ ((isD o ∧ S.φ id = none) ∨ (o'.sz = o.sz ∧ o.cs.length ≤ o'.cs.length ∧ (o.sz = 0 → o'.cs.length = o.cs.length) ∧ (o'.rw = true → o.rw = true) ∧ (o.rw = false → o' = o) ∧ (o'.cs.length = o.cs.length → S'.φ id = S.φ id)))
  fresh : ∀ id b : Nat, id < S'.H.length → S'.φ id = some b → b < S.h.size → id < S.H.length ∧ S.φ id = some b

theorem Ext.refl (S : Cx) : Ext S S := ⟨Nat.le_refl _, fun _ _ _ => rfl, fun _ c _ fr h => ⟨c, fr, h, rfl⟩, fun _ o h => ⟨o, h, .inr ⟨rfl, Nat.le_refl _, fun _ => rfl, id, fun _ => rfl, fun _ => rfl⟩⟩, fun _ _ h1 h2 _ => ⟨h1, h2⟩⟩
theorem Ext.old {S S' : Cx} (h : Ext S S') {id : Nat} {o : AObj} (ho : S.H[id]? = some o) (hd : ¬ (isD o ∧ S.φ id = none)) :
    ∃ o', S'.H[id]? = some o' ∧ o'.sz = o.sz ∧ o.cs.length ≤ o'.cs.length ∧ (o.sz = 0 → o'.cs.length = o.cs.length) ∧ (o'.rw = true → o.rw = true) ∧ (o.rw = false → o' = o) ∧ (o'.cs.length = o.cs.length → S'.φ id = S.φ id) := by
  obtain ⟨o', h1, h2⟩ := h.objs id o ho
  exact ⟨o', h1, h2.resolve_left hd⟩
theorem not_d {S : Cx} {id b : Nat} {o : AObj} (h : S.φ id = some b) : ¬ (isD o ∧ S.φ id = none) := by
  rintro ⟨_, h2⟩
  rw [h] at h2; cases h2
theorem lt_of_some {α : Type} {l : List α} {i : Nat} {x : α} (h : l[i]? = some x) : i < l.length := (List.getElem?_eq_some_iff.1 h).1
theorem some_of_lt {α : Type} {l : List α} {i : Nat} (h : i < l.length) : ∃ x, l[i]? = some x := ⟨l[i], List.getElem?_eq_getElem h⟩
theorem Ext.wr {S S' : Cx} (h : Ext S S') {b : Nat} (hb : b < S.h.size) (hw : Wr S' b) : Wr S b := by
  obtain ⟨id, o', h1, h2, h3⟩ := hw
  obtain ⟨hl, hp⟩ := h.fresh id b (lt_of_some h1) h3 hb
  obtain ⟨o, ho⟩ := some_of_lt hl
  obtain ⟨o'', g1, _, _, _, g2, _, _⟩ := h.old ho (not_d hp)
  rw [h1] at g1; cases g1
  exact ⟨id, o, ho, g2 h2, hp⟩
theorem heap_lt {S : Cx} {b : Nat} {o : Obj} (h : S.h[b]? = some o) : b < S.h.size := (Array.getElem?_eq_some_iff.1 h).1
theorem Imm.mono {S S' : Cx} (h : Ext S S') {b off : Nat} {us : List Value} (hi : Imm S b off us) : Imm S' b off us := by
  obtain ⟨⟨c, e, fr, h1, h2⟩, hw⟩ := hi
  have hb := heap_lt h1
  exact ⟨⟨c, e, fr, by rw [h.frame b hb hw]; exact h1, h2⟩, fun hw' => hw (h.wr hb hw')⟩
theorem blockSize_mono {S S' : Cx} (h : Ext S S') {b : Nat} : blockSize S b ≤ blockSize S' b := by
  unfold blockSize
  split
  · rename_i c e fr hc
    obtain ⟨c', fr', h1, h2⟩ := h.shape _ _ _ _ hc
    rw [h1]; exact Nat.le_of_eq h2.symm
  · exact Nat.zero_le _
mutual
theorem R.mono {S S' : Cx} (h : Ext S S') : ∀ (v : AV) {y : Value}, R S v y → R S' v y
  | .lit v, y, hr => hr
  | .ptr id off, y, hr => by
    obtain ⟨o, b, h1, h2, h3, h4⟩ := hr
    obtain ⟨o', g1, g2, _, g3, _, _, g4⟩ := h.old h1 (not_d h3)
    exact ⟨o', b, g1, by rw [g2]; exact h2, by rw [g4 (g3 h2)]; exact h3, h4⟩
  | .rptr id off L, y, hr => by
    obtain ⟨a, h1, o, h2, h3, h4⟩ := hr
    obtain ⟨o', g1, g2, g3, _, _, _, g4⟩ := h.old h2 (fun ⟨⟨d1, _⟩, d2⟩ => by
      obtain ⟨b, d3, _⟩ := h4 (by rw [d1] at h3 ⊢; simp at h3 ⊢; exact h3)
      rw [d2] at d3; cases d3)
    refine ⟨a, h1, o', g1, Nat.le_trans h3 g3, fun hL => ?_⟩
    have e : o'.cs.length = o.cs.length := by omega
    rw [g4 e]
    exact h4 (by omega)
  | .vptr cs, y, hr => by
    obtain ⟨b, off, us, h1, h2, h3, h4⟩ := hr
    exact ⟨b, off, us, h1, h2.mono h, h3, RL.mono h cs h4⟩
  | .row id off n L, y, hr => by
    obtain ⟨a, cap, h1, h2, h2', o, h3, h4, h5⟩ := hr
    obtain ⟨o', g1, g2, g3, _, _, _, g4⟩ := h.old h3 (fun ⟨⟨d1, d0⟩, d2⟩ => by
      rcases h5 (by rw [d1] at h4 ⊢; simp at h4 ⊢; exact h4) with ⟨_, _, d3⟩ | ⟨b, d3, _⟩
      · omega
      · rw [d2] at d3; cases d3)
    refine ⟨a, cap, h1, h2, h2', o', g1, Nat.le_trans h4 g3, fun hL => ?_⟩
    have e : o'.cs.length = o.cs.length := by omega
    rw [g4 e, g2]
    rcases h5 (by omega) with h5 | ⟨b, h5, h6, h7, h8⟩
    · exact .inl h5
    · exact .inr ⟨b, h5, h6, h7, fun hz => ⟨Nat.le_trans (h8 hz).1 (blockSize_mono h), (h8 hz).2⟩⟩
  | .view cs n full, y, hr => by
    obtain ⟨a, cap, h1, h2, h3, h4, h5, h6⟩ := hr
    refine ⟨a, cap, h1, h2, h3, h4, h5, ?_⟩
    rcases h6 with h6 | ⟨b, off, us, g1, g2, g3⟩
    · exact .inl h6
    · exact .inr ⟨b, off, us, g1, g2.mono h, RL.mono h cs g3⟩
  | .fn f first cap, y, hr => by
    obtain ⟨fs, cps, h1, h2, h3⟩ := hr
    exact ⟨fs, cps, h1, RL.mono h first h2, RL.mono h cap h3⟩
  | .agg cs, y, hr => by
    obtain ⟨vs, h1, h2⟩ := hr
    exact ⟨vs, h1, RL.mono h cs h2⟩
  | .tup cs, y, hr => by
    obtain ⟨vs, h1, h2⟩ := hr
    exact ⟨vs, h1, RL.mono h cs h2⟩
  | .may g v, y, hr => ⟨fun hg => R.mono h v (hr.1 hg), hr.2⟩
  | .anyb, y, h => h
  | .junk, y, _ => trivial
theorem RL.mono {S S' : Cx} (h : Ext S S') : ∀ (l : List AV) {ys : List Value}, RL S l ys → RL S' l ys
  | [], ys, hr => hr
  | a :: r, ys, hr => by
    obtain ⟨u, t, h1, h2, h3⟩ := hr
    exact ⟨u, t, h1, R.mono h a h2, RL.mono h r h3⟩
end
theorem Ext.trans {S S' S'' : Cx} (h : Ext S S') (h' : Ext S' S'') : Ext S S'' where
  size := Nat.le_trans h.size h'.size
  frame b hb hw := by
    rw [h'.frame b (Nat.lt_of_lt_of_le hb h.size) (fun hw' => hw (h.wr hb hw')), h.frame b hb hw]
  shape b c e fr hc := by
    obtain ⟨c', fr', h1, h2⟩ := h.shape b c e fr hc
    obtain ⟨c'', fr'', h3, h4⟩ := h'.shape b c' e fr' h1
    exact ⟨c'', fr'', h3, by omega⟩
  objs id o ho := by
    obtain ⟨o', a1, a2⟩ := h.objs id o ho
    obtain ⟨o'', b1, b2⟩ := h'.objs id o' a1
    refine ⟨o'', b1, ?_⟩
    rcases a2 with a2 | ⟨a2, a3, a4, a5, a6, a7⟩
    · exact .inl a2
    rcases b2 with ⟨⟨c1, c2⟩, c3⟩ | ⟨b2, b3, b4, b5, b6, b7⟩
    · have hl : o.cs.length = 0 := by rw [c1] at a3; simpa using a3
      exact .inl ⟨⟨List.eq_nil_of_length_eq_zero hl, by rw [← a2]; exact c2⟩, by rw [← a7 (by rw [c1, hl]; rfl)]; exact c3⟩
    refine .inr ⟨by rw [b2, a2], Nat.le_trans a3 b3, fun hz => by rw [b4 (by rw [a2]; exact hz), a4 hz], fun hr => a5 (b5 hr), fun hr => ?_, fun hl => ?_⟩
    · have e := a6 hr
      subst e
      exact b6 hr
    · rw [b7 (by omega), a7 (by omega)]
  fresh id b hid hp hb := by
    obtain ⟨g1, g2⟩ := h'.fresh id b hid hp (Nat.lt_of_lt_of_le hb h.size)
    exact h.fresh id b g1 g2 hb

/-! ### Lists -/
theorem RL.length {S : Cx} : ∀ {l : List AV} {ys : List Value}, RL S l ys → ys.length = l.length
  | [], ys, h => by cases h; rfl
  | a :: r, ys, h => by obtain ⟨u, t, rfl, _, h3⟩ := h; simp [RL.length h3]
theorem RL.get {S : Cx} : ∀ {l : List AV} {ys : List Value}, RL S l ys → ∀ {i : Nat} {a : AV}, l[i]? = some a → ∃ u, ys[i]? = some u ∧ R S a u
  | [], ys, h, i, a, hi => by simp at hi
  | b :: r, ys, h, i, a, hi => by
    obtain ⟨u, t, rfl, h2, h3⟩ := h
    cases i with
    | zero => simp at hi; subst hi; exact ⟨u, by simp, h2⟩
    | succ i => simp at hi; obtain ⟨v, g1, g2⟩ := RL.get h3 hi; exact ⟨v, by simpa using g1, g2⟩
theorem RL.of {S : Cx} : ∀ {l : List AV} {ys : List Value}, ys.length = l.length → (∀ (i : Nat) (a : AV) (u : Value), l[i]? = some a → ys[i]? = some u → R S a u) → RL S l ys
  | [], ys, hl, _ => by show ys = []; simpa using hl
  | a :: r, [], hl, _ => by simp at hl
  | a :: r, y :: t, hl, h => ⟨y, t, rfl, h 0 a y (by simp) (by simp), RL.of (by simpa using hl) (fun i b u h1 h2 => h (i + 1) b u (by simpa using h1) (by simpa using h2))⟩
theorem RL.getD {S : Cx} {l : List AV} {ys : List Value} (h : RL S l ys) (i : Nat) (hi : i < l.length) (d : Value) : R S (l.getD i .junk) (ys.getD i d) := by
  obtain ⟨a, ha⟩ := some_of_lt hi
  obtain ⟨u, h1, h2⟩ := h.get ha
  rw [List.getD_eq_getElem?_getD, List.getD_eq_getElem?_getD, ha, h1]
  exact h2
theorem RL.take {S : Cx} {l : List AV} {ys : List Value} (h : RL S l ys) (n : Nat) : RL S (l.take n) (ys.take n) :=
  RL.of (by simp [h.length]) fun i a u h1 h2 => by
    rw [List.getElem?_take] at h1 h2
    split at h1
    · rename_i hi
      rw [if_pos hi] at h2
      obtain ⟨v, g1, g2⟩ := h.get h1
      rw [g1] at h2; cases h2; exact g2
    · cases h1
theorem RL.drop {S : Cx} {l : List AV} {ys : List Value} (h : RL S l ys) (n : Nat) : RL S (l.drop n) (ys.drop n) :=
  RL.of (by simp [h.length]) fun i a u h1 h2 => by
    rw [List.getElem?_drop] at h1 h2
    obtain ⟨v, g1, g2⟩ := h.get h1
    rw [g1] at h2; cases h2; exact g2
theorem RL.append {S : Cx} : ∀ {l : List AV} {ys : List Value} {l' : List AV} {ys' : List Value}, RL S l ys → RL S l' ys' → RL S (l ++ l') (ys ++ ys')
  | [], ys, l', ys', h, h' => by cases h; exact h'
  | a :: r, ys, l', ys', h, h' => by
    obtain ⟨u, t, rfl, h2, h3⟩ := h
    exact ⟨u, t ++ ys', rfl, h2, RL.append h3 h'⟩
theorem RL.map {S : Cx} {α : Type} (f : α → AV) (g : α → Value) (h : ∀ x, R S (f x) (g x)) : ∀ l : List α, RL S (l.map f) (l.map g)
  | [] => rfl
  | a :: r => ⟨_, _, rfl, h a, RL.map f g h r⟩
theorem RL.set {S : Cx} {l : List AV} {ys : List Value} (h : RL S l ys) (i : Nat) {a : AV} {u : Value} (ha : R S a u) : RL S (l.set i a) (ys.set i u) :=
  RL.of (by simp [h.length]) fun j b v h1 h2 => by
    rw [List.getElem?_set] at h1 h2
    by_cases hij : i = j
    · rw [if_pos hij] at h1 h2
      split at h1
      · split at h2
        · cases h1; cases h2; exact ha
        · cases h2
      · cases h1
    · rw [if_neg hij] at h1 h2
      obtain ⟨w, g1, g2⟩ := h.get h1
      rw [g1] at h2; cases h2; exact g2
theorem R.one {S : Cx} : ∀ {v : AV} {y : Value}, R S v y → v.one = true → y.oneCell' = true
  | .lit v, y, h, h1 => by cases h; exact h1
  | .ptr id off, y, h, _ => by obtain ⟨_, _, _, _, _, rfl⟩ := h; rfl
  | .rptr id off L, y, h, _ => by obtain ⟨_, rfl, _⟩ := h; rfl
  | .vptr cs, y, h, _ => by obtain ⟨_, _, _, rfl, _⟩ := h; rfl
  | .row .., y, h, _ => by obtain ⟨_, _, rfl, _⟩ := h; rfl
  | .view .., y, h, _ => by obtain ⟨_, _, rfl, _⟩ := h; rfl
  | .fn .., y, h, _ => by obtain ⟨_, _, rfl, _⟩ := h; rfl
  | .agg _, _, _, h | .tup _, _, _, h | .may _ _, _, _, h | .anyb, _, _, h | .junk, _, _, h => by cases h
theorem RL.one {S : Cx} {l : List AV} {ys : List Value} (h : RL S l ys) (h1 : l.all AV.one = true) : ∀ u ∈ ys, u.oneCell' = true := by
  intro u hu
  obtain ⟨i, hi⟩ := List.mem_iff_getElem?.1 hu
  have hl := h.length
  have hlt := lt_of_some hi
  obtain ⟨a, ha⟩ := some_of_lt (l := l) (i := i) (by omega)
  obtain ⟨v, g1, g2⟩ := h.get ha
  rw [hi] at g1; cases g1
  exact g2.one (List.all_eq_true.1 h1 a (List.mem_of_getElem? ha))
theorem cells_of_one {y : Value} (h : y.oneCell' = true) : y.cells = #[y] := by cases y <;> first | rfl | cases h
/-- The cells of a value. -/
theorem R.cells {S : Cx} {v : AV} {y : Value} (h : R S v y) (h1 : v.cells.all AV.one = true) : RL S v.cells y.cells.toList ∧ ∀ u ∈ y.cells.toList, u.oneCell' = true := by
  have key : RL S v.cells y.cells.toList := by
    cases v with
    | agg cs => obtain ⟨vs, rfl, h2⟩ := h; exact h2
    | _ =>
      rw [cells_of_one (R.one h (by simpa [AV.cells] using h1))]
      exact ⟨y, [], rfl, h, rfl⟩
  exact ⟨key, key.one h1⟩
/-- What is pure hangs on no object. -/
theorem RL.mem {S : Cx} {l : List AV} {ys : List Value} (h : RL S l ys) {a : AV} (ha : a ∈ l) : ∃ u, u ∈ ys ∧ R S a u := by
  obtain ⟨i, hi⟩ := List.mem_iff_getElem?.1 ha
  obtain ⟨u, h1, h2⟩ := h.get hi
  exact ⟨u, List.mem_of_getElem? h1, h2⟩

/-! ### The memory's steps -/
/-- A block more that no object has. -/
theorem step_push {S : Cx} (hs : St S) (o : Obj) : St { S with h := S.h.push o } ∧ Ext S { S with h := S.h.push o } := by
  have hx : Ext S { S with h := S.h.push o } := by
    refine ⟨by simp, fun b hb _ => by simp [Array.getElem?_push, Nat.ne_of_lt hb], fun b c e fr hc => ⟨c, fr, ?_, rfl⟩, fun _ o h => ⟨o, h, .inr ⟨rfl, Nat.le_refl _, fun _ => rfl, id, fun _ => rfl, fun _ => rfl⟩⟩, fun _ _ h1 h2 _ => ⟨h1, h2⟩⟩
    have hb := heap_lt hc
    show (S.h.push o)[b]? = _
    rw [Array.getElem?_push, if_neg (Nat.ne_of_lt hb)]; exact hc
  refine ⟨⟨fun id ob h => ?_, hs.inj⟩, hx⟩
  rcases hs.ok id ob h with h1 | ⟨b, c, e, fr, h1, h2, h3, h4, h5⟩
  · exact .inl h1
  · have hb := heap_lt h2
    refine .inr ⟨b, c, e, fr, h1, ?_, h3, h4, h5.mono hx⟩
    show (S.h.push o)[b]? = _
    rw [Array.getElem?_push, if_neg (Nat.ne_of_lt hb)]; exact h2
/-- A new object. -/
theorem step_new {S : Cx} (hs : St S) {ob : AObj} {c : Array Value} {e : TypeId} {fr : Nat × Nat} (hfr : FrOk c.size fr) (hnd : ¬ isD ob) (hl : ob.cs.length ≤ c.size) (hr : RL S ob.cs (c.toList.take ob.cs.length)) :
    ∃ φ', φ' S.H.length = some S.h.size ∧ St ⟨φ', S.H ++ [ob], S.h.push (.cells c e fr)⟩ ∧ Ext S ⟨φ', S.H ++ [ob], S.h.push (.cells c e fr)⟩ := by
  refine ⟨fun id => if id = S.H.length then some S.h.size else S.φ id, by simp, ?_⟩
  have hx : Ext S ⟨fun id => if id = S.H.length then some S.h.size else S.φ id, S.H ++ [ob], S.h.push (.cells c e fr)⟩ := by
    refine ⟨by simp, fun b hb _ => by simp [Array.getElem?_push, Nat.ne_of_lt hb], fun b c' e' fr' hc => ⟨c', fr', ?_, rfl⟩, fun id o h => ⟨o, ?_, .inr ⟨rfl, Nat.le_refl _, fun _ => rfl, fun h => h, fun _ => rfl, fun _ => ?_⟩⟩, fun id b h1 h2 h3 => ?_⟩
    · have hb := heap_lt hc
      show (S.h.push _)[b]? = _
      rw [Array.getElem?_push, if_neg (Nat.ne_of_lt hb)]; exact hc
    · show (S.H ++ [ob])[id]? = _
      rw [List.getElem?_append_left (lt_of_some h)]; exact h
    · show (if id = S.H.length then _ else _) = _
      rw [if_neg (Nat.ne_of_lt (lt_of_some h))]
    · dsimp only at h2
      by_cases hid : id = S.H.length
      · rw [if_pos hid] at h2; cases h2; omega
      · rw [if_neg hid] at h2
        simp at h1
        exact ⟨by omega, h2⟩
  refine ⟨⟨fun id o h => ?_, fun i j b hi hj h1 h2 => ?_⟩, hx⟩
  · by_cases hid : id = S.H.length
    · subst hid
      simp at h; subst h
      refine .inr ⟨S.h.size, c, e, fr, by simp, by simp, ⟨hfr, hnd⟩, hl, hr.mono hx⟩
    · have hlt : id < S.H.length := by have := lt_of_some h; simp at this; omega
      have h' : S.H[id]? = some o := by
        change (S.H ++ [ob])[id]? = _ at h
        rwa [List.getElem?_append_left hlt] at h
      rcases hs.ok id o h' with ⟨g1, g2⟩ | ⟨b, c', e', fr', g1, g2, g3, g4, g5⟩
      · exact .inl ⟨by simp [hid, g1], g2⟩
      · refine .inr ⟨b, c', e', fr', by simp [hid, g1], ?_, g3, g4, g5.mono hx⟩
        show (S.h.push _)[b]? = _
        rw [Array.getElem?_push, if_neg (Nat.ne_of_lt (heap_lt g2))]; exact g2
  · have old : ∀ i b, i < S.H.length → S.φ i = some b → b < S.h.size := by
      intro i b hi hp
      obtain ⟨o, ho⟩ := some_of_lt hi
      rcases hs.ok i o ho with ⟨g1, _⟩ | ⟨b', c', e', fr', g1, g2, _⟩
      · rw [g1] at hp; cases hp
      · rw [g1] at hp; cases hp; exact heap_lt g2
    simp at hi hj
    dsimp only at h1 h2
    by_cases hi' : i = S.H.length <;> by_cases hj' : j = S.H.length
    · omega
    · rw [if_pos hi'] at h1; rw [if_neg hj'] at h2; cases h1
      have := old j _ (by omega) h2; omega
    · rw [if_neg hi'] at h1; rw [if_pos hj'] at h2; cases h2
      have := old i _ (by omega) h1; omega
    · rw [if_neg hi'] at h1; rw [if_neg hj'] at h2
      exact hs.inj i j b (by omega) (by omega) h1 h2
theorem get_set {l : List AObj} {i j : Nat} {x y : AObj} (h : (l.set i x)[j]? = some y) : (i = j ∧ y = x ∧ i < l.length) ∨ (i ≠ j ∧ l[j]? = some y) := by
  rw [List.getElem?_set] at h
  by_cases hij : i = j
  · rw [if_pos hij] at h
    split at h
    · cases h; exact .inl ⟨hij, rfl, by assumption⟩
    · cases h
  · rw [if_neg hij] at h; exact .inr ⟨hij, h⟩
theorem St.lt {S : Cx} (hs : St S) {i b : Nat} (hi : i < S.H.length) (hp : S.φ i = some b) : b < S.h.size := by
  obtain ⟨o, ho⟩ := some_of_lt hi
  rcases hs.ok i o ho with ⟨g1, _⟩ | ⟨b', c', e', fr', g1, g2, _⟩
  · rw [g1] at hp; cases hp
  · rw [g1] at hp; cases hp; exact heap_lt g2
/-- An object's cells are written, in its block. -/
theorem step_upd {S : Cx} (hs : St S) {id b : Nat} {o : AObj} {cs' : List AV} {c c' : Array Value} {e : TypeId} {fr : Nat × Nat} {h' : Array Obj}
    (ho : S.H[id]? = some o) (hrw : o.rw = true) (hp : S.φ id = some b) (hb : S.h[b]? = some (Obj.cells c e fr)) (hsz : h'.size = S.h.size) (hoth : ∀ i : Nat, i ≠ b → h'[i]? = S.h[i]?) (hb' : h'[b]? = some (Obj.cells c' e fr)) (hc' : c'.size = c.size)
    (hlen : o.cs.length ≤ cs'.length) (hz : o.sz = 0 → cs'.length = o.cs.length) (hfit : cs'.length ≤ c'.size) (hr : RL S cs' (c'.toList.take cs'.length)) :
    St ⟨S.φ, S.H.set id ⟨cs', o.sz, o.rw⟩, h'⟩ ∧ Ext S ⟨S.φ, S.H.set id ⟨cs', o.sz, o.rw⟩, h'⟩ := by
  have hid := lt_of_some ho
  have hx : Ext S ⟨S.φ, S.H.set id ⟨cs', o.sz, o.rw⟩, h'⟩ := by
    refine ⟨Nat.le_of_eq hsz.symm, fun i hi hw => hoth i (fun h => hw ⟨id, o, ho, hrw, by rw [hp, h]⟩), fun i c1 e1 fr1 hc1 => ?_, fun j oj hj => ?_, fun i bb hi hp' _ => ⟨by simpa using hi, hp'⟩⟩
    · by_cases hi : i = b
      · subst hi; rw [hb] at hc1; cases hc1; exact ⟨c', _, hb', hc'⟩
      · exact ⟨c1, fr1, by show h'[i]? = _; rw [hoth i hi]; exact hc1, rfl⟩
    · by_cases hj' : id = j
      · subst hj'
        rw [ho] at hj; cases hj
        refine ⟨⟨cs', o.sz, o.rw⟩, by show (S.H.set id _)[id]? = _; rw [List.getElem?_set_self hid], .inr ⟨rfl, hlen, hz, fun h => h, (fun h => absurd (hrw.symm.trans h) (by decide)), fun _ => rfl⟩⟩
      · exact ⟨oj, by show (S.H.set id _)[j]? = _; rw [List.getElem?_set_ne hj']; exact hj, .inr ⟨rfl, Nat.le_refl _, fun _ => rfl, fun h => h, fun _ => rfl, fun _ => rfl⟩⟩
  refine ⟨⟨fun j oj hj => ?_, fun i j bb hi hj => hs.inj i j bb (by simpa using hi) (by simpa using hj)⟩, hx⟩
  obtain ⟨b0, c0, e0, fr0, g1, g2, g3, g4, g5⟩ : ∃ b0 c0 e0 fr0, S.φ id = some b0 ∧ S.h[b0]? = some (Obj.cells c0 e0 fr0) ∧ (FrOk c0.size fr0 ∧ ¬ isD o) ∧ o.cs.length ≤ c0.size ∧ RL S o.cs (c0.toList.take o.cs.length) := by
    rcases hs.ok id o ho with ⟨g1, _⟩ | h
    · rw [hp] at g1; cases g1
    · exact h
  rw [hp] at g1; cases g1
  rw [hb] at g2; cases g2
  rcases get_set hj with ⟨rfl, rfl, _⟩ | ⟨hne, hj'⟩
  · exact .inr ⟨b, c', e, fr, hp, hb', ⟨by rw [hc']; exact g3.1, fun ⟨d1, d2⟩ => g3.2 ⟨List.eq_nil_of_length_eq_zero (by have := hz d2; dsimp only at d1; rw [d1] at this; exact this.symm), d2⟩⟩, hfit, hr.mono hx⟩
  · rcases hs.ok j oj hj' with h1 | ⟨b1, c1, e1, fr1, h1, h2, h3, h4, h5⟩
    · exact .inl h1
    · have hne' : b1 ≠ b := fun h => hne (hs.inj id j b hid (lt_of_some hj') hp (by rw [h1, h]))
      exact .inr ⟨b1, c1, e1, fr1, h1, by show h'[b1]? = _; rw [hoth b1 hne']; exact h2, h3, h4, h5.mono hx⟩
/-- An object's cells move to a new block. -/
theorem step_move {S : Cx} (hs : St S) {id : Nat} {o : AObj} {cs' : List AV} {c' : Array Value} {e : TypeId}
    (ho : S.H[id]? = some o) (hrw : o.rw = true) (hlen : o.cs.length < cs'.length) (hz : 0 < o.sz) (hfit : cs'.length ≤ c'.size) (hr : RL S cs' (c'.toList.take cs'.length)) :
    ∃ φ', φ' id = some S.h.size ∧ St ⟨φ', S.H.set id ⟨cs', o.sz, o.rw⟩, S.h.push (.cells c' e)⟩ ∧ Ext S ⟨φ', S.H.set id ⟨cs', o.sz, o.rw⟩, S.h.push (.cells c' e)⟩ := by
  have hid := lt_of_some ho
  refine ⟨fun i => if i = id then some S.h.size else S.φ i, by simp, ?_⟩
  have hx : Ext S ⟨fun i => if i = id then some S.h.size else S.φ i, S.H.set id ⟨cs', o.sz, o.rw⟩, S.h.push (.cells c' e)⟩ := by
    refine ⟨by simp, fun i hi hw => by simp [Array.getElem?_push, Nat.ne_of_lt hi], fun i c1 e1 fr1 hc1 => ⟨c1, fr1, ?_, rfl⟩, fun j oj hj => ?_, fun i bb hi hp' hbb => ?_⟩
    · show (S.h.push _)[i]? = _
      rw [Array.getElem?_push, if_neg (Nat.ne_of_lt (heap_lt hc1))]; exact hc1
    · by_cases hj' : id = j
      · subst hj'
        rw [ho] at hj; cases hj
        refine ⟨⟨cs', o.sz, o.rw⟩, by show (S.H.set id _)[id]? = _; rw [List.getElem?_set_self hid], .inr ⟨rfl, Nat.le_of_lt hlen, (fun h => absurd h (by omega)), fun h => h, (fun h => absurd (hrw.symm.trans h) (by decide)), fun h => ?_⟩⟩
        simp at h; omega
      · refine ⟨oj, by show (S.H.set id _)[j]? = _; rw [List.getElem?_set_ne hj']; exact hj, .inr ⟨rfl, Nat.le_refl _, fun _ => rfl, fun h => h, fun _ => rfl, fun _ => ?_⟩⟩
        show (if j = id then _ else _) = _
        rw [if_neg (fun h => hj' h.symm)]
    · dsimp only at hp'
      split at hp'
      · cases hp'; omega
      · exact ⟨by simpa using hi, hp'⟩
  refine ⟨⟨fun j oj hj => ?_, fun i j bb hi hj h1 h2 => ?_⟩, hx⟩
  · rcases get_set hj with ⟨rfl, rfl, _⟩ | ⟨hne, hj'⟩
    · exact .inr ⟨S.h.size, c', e, (0, 0), by simp, by simp, ⟨.inl rfl, fun ⟨d1, d2⟩ => by dsimp only at d2; omega⟩, hfit, hr.mono hx⟩
    · have hne2 : ¬ j = id := fun h => hne h.symm
      rcases hs.ok j oj hj' with ⟨h1, h2⟩ | ⟨b1, c1, e1, fr1, h1, h2, h3, h4, h5⟩
      · exact .inl ⟨by simp [hne2, h1], h2⟩
      · refine .inr ⟨b1, c1, e1, fr1, by simp [hne2, h1], ?_, h3, h4, h5.mono hx⟩
        show (S.h.push _)[b1]? = _
        rw [Array.getElem?_push, if_neg (Nat.ne_of_lt (heap_lt h2))]; exact h2
  · simp at hi hj
    dsimp only at h1 h2
    by_cases hi' : i = id <;> by_cases hj' : j = id
    · omega
    · rw [if_pos hi'] at h1; rw [if_neg hj'] at h2; cases h1
      have := hs.lt hj h2; omega
    · rw [if_neg hi'] at h1; rw [if_pos hj'] at h2; cases h2
      have := hs.lt hi h1; omega
    · rw [if_neg hi'] at h1; rw [if_neg hj'] at h2
      exact hs.inj i j bb hi hj h1 h2
/-- A new object that is nothing yet: a nil slice. -/
theorem step_nil {S : Cx} (hs : St S) {ob : AObj} (hc : ob.cs = []) (hz : 0 < ob.sz) : ∃ φ', φ' S.H.length = none ∧ St ⟨φ', S.H ++ [ob], S.h⟩ ∧ Ext S ⟨φ', S.H ++ [ob], S.h⟩ := by
  refine ⟨fun i => if i = S.H.length then none else S.φ i, by simp, ?_⟩
  have hx : Ext S ⟨fun i => if i = S.H.length then none else S.φ i, S.H ++ [ob], S.h⟩ := by
    refine ⟨Nat.le_refl _, fun i hi hw => rfl, fun i c1 e1 fr1 hc1 => ⟨c1, fr1, hc1, rfl⟩, fun j oj hj => ⟨oj, ?_, .inr ⟨rfl, Nat.le_refl _, fun _ => rfl, fun h => h, fun _ => rfl, fun _ => ?_⟩⟩, fun i bb hi hp' hbb => ?_⟩
    · show (S.H ++ [ob])[j]? = _
      rw [List.getElem?_append_left (lt_of_some hj)]; exact hj
    · show (if j = S.H.length then _ else _) = _
      rw [if_neg (Nat.ne_of_lt (lt_of_some hj))]
    · dsimp only at hp'
      split at hp'
      · cases hp'
      · simp at hi; exact ⟨by omega, hp'⟩
  refine ⟨⟨fun j oj hj => ?_, fun i j bb hi hj h1 h2 => ?_⟩, hx⟩
  · by_cases hid : j = S.H.length
    · subst hid
      simp at hj; subst hj
      exact .inl ⟨by simp, hc⟩
    · have hlt : j < S.H.length := by have := lt_of_some hj; simp at this; omega
      have h' : S.H[j]? = some oj := by
        change (S.H ++ [ob])[j]? = _ at hj
        rwa [List.getElem?_append_left hlt] at hj
      rcases hs.ok j oj h' with ⟨g1, g2⟩ | ⟨b, c', e', fr', g1, g2, g3, g4, g5⟩
      · exact .inl ⟨by simp [g1], g2⟩
      · exact .inr ⟨b, c', e', fr', by simp [hid, g1], g2, g3, g4, g5.mono hx⟩
  · simp at hi hj
    dsimp only at h1 h2
    split at h1 <;> split at h2 <;> first
      | cases h1
      | cases h2
      | exact hs.inj i j bb (by omega) (by omega) h1 h2
/-- A block's end is marked. -/
theorem step_mark {S : Cx} (hs : St S) {id b : Nat} {o : AObj} {c : Array Value} {e : TypeId} {fr fr' : Nat × Nat} {h' : Array Obj}
    (ho : S.H[id]? = some o) (hrw : o.rw = true) (hp : S.φ id = some b) (hb : S.h[b]? = some (Obj.cells c e fr)) (hsz : h'.size = S.h.size) (hoth : ∀ i : Nat, i ≠ b → h'[i]? = S.h[i]?) (hb' : h'[b]? = some (Obj.cells c e fr')) (hfr : FrOk c.size fr') :
    St ⟨S.φ, S.H, h'⟩ ∧ Ext S ⟨S.φ, S.H, h'⟩ := by
  have hid := lt_of_some ho
  have hx : Ext S ⟨S.φ, S.H, h'⟩ := by
    refine ⟨Nat.le_of_eq hsz.symm, fun i hi hw => hoth i (fun h => hw ⟨id, o, ho, hrw, by rw [hp, h]⟩), fun i c1 e1 fr1 hc1 => ?_, fun j oj hj => ⟨oj, hj, .inr ⟨rfl, Nat.le_refl _, fun _ => rfl, fun h => h, fun _ => rfl, fun _ => rfl⟩⟩, fun i bb hi hp' _ => ⟨hi, hp'⟩⟩
    by_cases hi : i = b
    · subst hi; rw [hb] at hc1; cases hc1; exact ⟨c, fr', hb', rfl⟩
    · exact ⟨c1, fr1, by show h'[i]? = _; rw [hoth i hi]; exact hc1, rfl⟩
  refine ⟨⟨fun j oj hj => ?_, hs.inj⟩, hx⟩
  rcases hs.ok j oj hj with h1 | ⟨b1, c1, e1, fr1, h1, h2, h3, h4, h5⟩
  · exact .inl h1
  · by_cases hbb : b1 = b
    · subst hbb
      rw [hb] at h2; cases h2
      exact .inr ⟨b1, c, e, fr', h1, hb', ⟨hfr, h3.2⟩, h4, h5.mono hx⟩
    · exact .inr ⟨b1, c1, e1, fr1, h1, by show h'[b1]? = _; rw [hoth b1 hbb]; exact h2, h3, h4, h5.mono hx⟩
/-- Objects whose cells are written no more. -/
theorem step_ro {S : Cx} (hs : St S) {id : Nat} {o : AObj} (ho : S.H[id]? = some o) : St ⟨S.φ, S.H.set id ⟨o.cs, o.sz, false⟩, S.h⟩ ∧ Ext S ⟨S.φ, S.H.set id ⟨o.cs, o.sz, false⟩, S.h⟩ := by
  have hid := lt_of_some ho
  have hx : Ext S ⟨S.φ, S.H.set id ⟨o.cs, o.sz, false⟩, S.h⟩ := by
    refine ⟨Nat.le_refl _, fun _ _ _ => rfl, fun i c1 e1 fr1 hc1 => ⟨c1, fr1, hc1, rfl⟩, fun j oj hj => ?_, fun i bb hi hp' _ => ⟨by simpa using hi, hp'⟩⟩
    by_cases hj' : id = j
    · subst hj'
      rw [ho] at hj; cases hj
      refine ⟨⟨o.cs, o.sz, false⟩, by show (S.H.set id _)[id]? = _; rw [List.getElem?_set_self hid], .inr ⟨rfl, Nat.le_refl _, fun _ => rfl, (fun h => absurd h (by simp)), fun h => ?_, fun _ => rfl⟩⟩
      cases o; simp_all
    · exact ⟨oj, by show (S.H.set id _)[j]? = _; rw [List.getElem?_set_ne hj']; exact hj, .inr ⟨rfl, Nat.le_refl _, fun _ => rfl, fun h => h, fun _ => rfl, fun _ => rfl⟩⟩
  refine ⟨⟨fun j oj hj => ?_, fun i j bb hi hj => hs.inj i j bb (by simpa using hi) (by simpa using hj)⟩, hx⟩
  rcases get_set hj with ⟨rfl, rfl, _⟩ | ⟨hne, hj'⟩
  · rcases hs.ok id o ho with h1 | ⟨b1, c1, e1, fr1, h1, h2, h3, h4, h5⟩
    · exact .inl h1
    · exact .inr ⟨b1, c1, e1, fr1, h1, h2, h3, h4, h5.mono hx⟩
  · rcases hs.ok j oj hj' with h1 | ⟨b1, c1, e1, fr1, h1, h2, h3, h4, h5⟩
    · exact .inl h1
    · exact .inr ⟨b1, c1, e1, fr1, h1, h2, h3, h4, h5.mono hx⟩
end Go.Proofs.Ytgfploghjpbcaaa.Eng
