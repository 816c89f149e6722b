/- Loads, stores, variables, fields, elements. -/
import Derived.Test.YtgfploghjpbcaaaEngD2
namespace Go.Proofs.Ytgfploghjpbcaaa.Eng
open Go
set_option linter.unusedVariables false
set_option linter.unusedSimpArgs false
section
variable {P : Program} {φ : Nat → Option Nat} {H : AH} {w : World}
theorem info_of_cells {t : TypeId} (h : P.cellsOf t ≠ 0) : ∃ i, P.info? t = some i ∧ i.size = P.cellsOf t := by
  unfold Program.cellsOf at *
  cases hi : P.info? t with
  | none => rw [hi] at h; simp at h
  | some i => exact ⟨i, rfl, by simp⟩
theorem run_isAgg' {t : TypeId} (h : (P.underlying t).isNone = false) : (isAgg t).run P w = .ok (isAggT P t) w := by
  unfold isAgg isAggT
  cases hu : P.underlying t with
  | none => rw [hu] at h; cases h
  | some d => rw [Sem.run_bind, run_underlying hu]; cases d <;> rfl
theorem run_loadVar' {t : TypeId} (hc : P.cellsOf t ≠ 0) (hu : (P.underlying t).isNone = false) {b off : Nat} {us : List Value} (hr : w.rangeAt b off us) (hl : us.length = P.cellsOf t) :
    (Instr.loadAt t (.pointer (some ⟨b, off, none⟩))).run P w = .ok (if isAggT P t then .agg us.toArray else us.getD 0 undef) w := by
  obtain ⟨i, hi, hsz⟩ := info_of_cells hc
  simp only [Instr.loadAt, Instr.sureAddr, Sem.run_bind, Sem.run_pure, Result.andThen_ok, loadVar, run_isAgg' hu]
  cases hA : isAggT P t
  · obtain ⟨u, hu0⟩ := some_of_lt (l := us) (i := 0) (by omega)
    have := hr 0 u hu0
    simp only [Nat.add_zero] at this
    simp [this, List.getD_eq_getElem?_getD, hu0]
  · have hl' := run_loadCells_list (P := P) w ⟨b, off, none⟩ us (fun j v hv => by rw [addr_add]; exact hr j v hv)
    simp [sizeOf, typeInfo, hi, hsz, ← hl, hl']
theorem load_val {S : Cx} {cs : List AV} {us : List Value} (h : RL S cs us) (hn : 0 < cs.length) (agg : Bool) : R S (if agg then .agg cs else cs.getD 0 .junk) (if agg then .agg us.toArray else us.getD 0 undef) := by
  cases agg
  · exact h.getD 0 hn _
  · exact ⟨us.toArray, rfl, by simpa using h⟩
theorem load_sound (hs : St (cx φ H w)) {t : TypeId} (hc : P.cellsOf t ≠ 0) (hu : (P.underlying t).isNone = false) {x : AV} {a : Value} (hx : R (cx φ H w) x a) (hok : loadOk (P.cellsOf t) H x) :
    ∃ u, (Instr.loadAt t a).run P w = .ok u w ∧ R (cx φ H w) (loadV (isAggT P t) (P.cellsOf t) H x) u := by
  have go : ∀ {id b off : Nat}, id < H.length → φ id = some b → off + P.cellsOf t ≤ (obj H id).cs.length → a = .pointer (some ⟨b, off, none⟩) →
      ∃ u, (Instr.loadAt t a).run P w = .ok u w ∧ R (cx φ H w) (if isAggT P t then .agg (((obj H id).cs.drop off).take (P.cellsOf t)) else (obj H id).cs.getD off .junk) u := by
    rintro id b off h1 h2 h3 rfl
    obtain ⟨us, r1, r2⟩ := obj_range hs h1 h2 h3
    have hl : us.length = P.cellsOf t := by rw [r1.length, List.length_take, List.length_drop]; omega
    refine ⟨_, run_loadVar' hc hu r2 hl, ?_⟩
    have := load_val r1 (by rw [← r1.length]; omega) (isAggT P t)
    have e : (((obj H id).cs.drop off).take (P.cellsOf t)).getD 0 .junk = (obj H id).cs.getD off .junk := by
      rw [List.getD_eq_getElem?_getD, List.getD_eq_getElem?_getD, List.getElem?_take, if_pos (by omega), List.getElem?_drop, Nat.add_zero]
    rw [e] at this; exact this
  cases x with
  | ptr id off =>
    obtain ⟨o, b, h1, h2, h3, h4⟩ := hx
    exact go hok.1 h3 hok.2 h4
  | rptr id off L =>
    obtain ⟨ad, rfl, o, h1, h2, h3⟩ := hx
    obtain ⟨g1, g2, g3⟩ := hok
    have h1 : H[id]? = some o := h1
    rw [obj_eq h1] at g2
    obtain ⟨b, h4, rfl⟩ := h3 g2
    exact go g1 h4 (by rw [obj_eq h1, ← g2]; exact g3) rfl
  | vptr cs =>
    obtain ⟨b, off, us, rfl, h1, h2, h3⟩ := hx
    have hk : P.cellsOf t ≤ cs.length := hok
    have hl : (us.take (P.cellsOf t)).length = P.cellsOf t := by rw [List.length_take, h3.length]; omega
    refine ⟨_, run_loadVar' hc hu (range_take (imm_range h1 rfl) _) hl, ?_⟩
    have := load_val (h3.take (P.cellsOf t)) (by rw [List.length_take]; omega) (isAggT P t)
    have e : (cs.take (P.cellsOf t)).getD 0 .junk = cs.getD 0 .junk := by
      rw [List.getD_eq_getElem?_getD, List.getD_eq_getElem?_getD, List.getElem?_take, if_pos (by omega)]
    rw [e] at this; exact this
  | _ => exact hok.elim
/-! ### Cells written -/
def setAll (c : Array Value) : Nat → List Value → Array Value
  | _, [] => c
  | o, v :: r => setAll (c.setIfInBounds o v) (o + 1) r
theorem setAll_size : ∀ (vs : List Value) (o : Nat) (c : Array Value), (setAll c o vs).size = c.size
  | [], _, _ => rfl
  | v :: r, o, c => by rw [setAll, setAll_size r]; simp
theorem setAll_get : ∀ (vs : List Value) (o : Nat) (c : Array Value) (j : Nat), o + vs.length ≤ c.size → (setAll c o vs)[j]? = if o ≤ j ∧ j < o + vs.length then vs[j - o]? else c[j]?
  | [], o, c, j, _ => by rw [if_neg (by simp only [List.length_nil]; omega)]; rfl
  | v :: r, o, c, j, h => by
    simp only [List.length_cons] at h ⊢
    rw [setAll, setAll_get r (o + 1) _ j (by simp; omega)]
    by_cases hj : j = o
    · subst hj
      rw [if_neg (by omega), if_pos (by omega)]
      simp [show j < c.size by omega]
    · by_cases h2 : o + 1 ≤ j ∧ j < o + 1 + r.length
      · rw [if_pos h2, if_pos (by omega), show j - o = (j - (o + 1)) + 1 by omega]; simp
      · rw [if_neg h2, if_neg (by omega), Array.getElem?_setIfInBounds_ne (Ne.symm hj)]
theorem heap_setCells : ∀ (vs : List Value) (b o : Nat) (w : World) {c : Array Value} {e : TypeId} {fr : Nat × Nat}, w.heap[b]? = some (Obj.cells c e fr) →
    (w.setCells b o vs).heap[b]? = some (Obj.cells (setAll c o vs) e fr) ∧ (∀ i : Nat, i ≠ b → (w.setCells b o vs).heap[i]? = w.heap[i]?) ∧ (w.setCells b o vs).heap.size = w.heap.size ∧ Same w (w.setCells b o vs)
  | [], b, o, w, c, e, fr, h => ⟨h, fun _ _ => rfl, rfl, .refl _⟩
  | v :: r, b, o, w, c, e, fr, h => by
    have h1 : (w.setCell ⟨b, o, none⟩ v).heap[b]? = some (Obj.cells (c.setIfInBounds o v) e fr) := by
      simp [World.setCell, Array.getElem?_modify, h]
    obtain ⟨g1, g2, g3, g4⟩ := heap_setCells r b (o + 1) (w.setCell ⟨b, o, none⟩ v) h1
    refine ⟨g1, fun i hi => ?_, ?_, ?_⟩
    · rw [World.setCells, g2 i hi]
      simp [World.setCell, Array.getElem?_modify, Ne.symm hi]
    · rw [World.setCells, g3]; simp [World.setCell]
    · exact Same.trans (⟨rfl, rfl, rfl⟩ : Same w (w.setCell ⟨b, o, none⟩ v)) g4
theorem splice_get (cs new : List AV) (off : Nat) (h : off + new.length ≤ cs.length) (j : Nat) : (splice cs off new)[j]? = if off ≤ j ∧ j < off + new.length then new[j - off]? else cs[j]? := by
  unfold splice
  split
  · rename_i v
    rw [List.getElem?_set]
    simp only [List.length_cons, List.length_nil] at h ⊢
    by_cases hj : off = j
    · subst hj; rw [if_pos rfl, if_pos (by omega), if_pos (by omega)]; simp
    · rw [if_neg hj, if_neg (by omega)]
  · rw [List.append_assoc, List.getElem?_append, List.getElem?_append, List.length_take]
    by_cases h1 : j < off
    · rw [if_pos (by omega), if_neg (by omega), List.getElem?_take, if_pos h1]
    · rw [if_neg (by omega)]
      by_cases h2 : j < off + new.length
      · rw [if_pos (by omega), if_pos (by omega)]
        congr 1; omega
      · rw [if_neg (by omega), if_neg (by omega), List.getElem?_drop]
        congr 1; omega
theorem splice_len (cs new : List AV) (off : Nat) (h : off + new.length ≤ cs.length) : (splice cs off new).length = cs.length := by
  unfold splice
  split
  · simp
  · simp only [List.length_append, List.length_take, List.length_drop]; omega
/-- Cells written into an object. -/
theorem write_sound (hs : St (cx φ H w)) {id b off : Nat} {new : List AV} {vs : List Value} (hid : id < H.length) (hrw : (obj H id).rw = true) (hp : φ id = some b) (hfit : off + new.length ≤ (obj H id).cs.length) (hr : RL (cx φ H w) new vs) :
    w.there b off vs.length ∧ St (cx φ (setO H id (splice (obj H id).cs off new)) (w.setCells b off vs)) ∧ Ext (cx φ H w) (cx φ (setO H id (splice (obj H id).cs off new)) (w.setCells b off vs)) ∧ Same w (w.setCells b off vs) := by
  obtain ⟨c, e, fr, h1, h2, h3, h4⟩ := obj_cells hs hid hp
  have hl := hr.length
  obtain ⟨g1, g2, g3, g4⟩ := heap_setCells vs b off w h1
  have key := step_upd (S := cx φ H w) hs (id := id) (b := b) (o := obj H id) (cs' := splice (obj H id).cs off new) (c := c) (c' := setAll c off vs) (e := e) (fr := fr) (h' := (w.setCells b off vs).heap)
    (obj_get hid) hrw hp h1 g3 g2 g1 (setAll_size _ _ _) (by rw [splice_len _ _ _ hfit]; exact Nat.le_refl _) (fun _ => splice_len _ _ _ hfit) (by rw [splice_len _ _ _ hfit, setAll_size]; exact h3) ?_
  · exact ⟨fun j hj => ⟨by rw [cell_at h1]; simp [show off + j < c.size by omega], by
      have := h2 (off + j) (by omega)
      simp only [World.frozen?, h1]
      obtain ⟨lo, hi⟩ := fr
      simp only at this ⊢
      simp; omega⟩, key.1, key.2, g4⟩
  · rw [splice_len _ _ _ hfit]
    refine RL.of (by rw [List.length_take, Array.length_toList, setAll_size, splice_len _ _ _ hfit]; omega) fun j x u k1 k2 => ?_
    rw [splice_get _ _ _ hfit] at k1
    rw [List.getElem?_take] at k2
    split at k2
    · rw [Array.getElem?_toList, setAll_get _ _ _ _ (by omega), hl] at k2
      by_cases hj : off ≤ j ∧ j < off + new.length
      · rw [if_pos hj] at k1 k2
        obtain ⟨v, m1, m2⟩ := hr.get k1
        rw [m1] at k2; cases k2; exact m2
      · rw [if_neg hj] at k1 k2
        obtain ⟨v, m1, m2⟩ := h4.get k1
        rw [List.getElem?_take, if_pos (lt_of_some k1)] at m1
        have e1 : c[j]? = some v := by simpa using m1
        have e2 : some v = some u := e1.symm.trans k2
        cases e2; exact m2
    · cases k2
theorem run_storeVar' {t : TypeId} (hc : P.cellsOf t ≠ 0) {b off : Nat} {y : Value} (hl : y.cells.size = P.cellsOf t) (h1 : ∀ u ∈ y.cells.toList, u.oneCell' = true) (ht : w.there b off y.cells.size) :
    (Instr.storeAt t (.pointer (some ⟨b, off, none⟩)) y).run P w = .ok () (w.setCells b off y.cells.toList) := by
  obtain ⟨i, hi, hsz⟩ := info_of_cells hc
  have := run_storeCells_cells (P := P) b off y.cells.toList 0 w (fun j hj => by simpa using (ht j (by simpa using hj)).1) (fun j hj => by simpa using (ht j (by simpa using hj)).2) h1
  simp only [Nat.add_zero] at this
  simp [Instr.storeAt, Instr.sureAddr, storeVar, sizeOf, typeInfo, hi, hsz, hl, this]
theorem store_sound (hs : St (cx φ H w)) {t : TypeId} (hc : P.cellsOf t ≠ 0) {x a : AV} {y z : Value} (hx : R (cx φ H w) x y) (ha : R (cx φ H w) a z) (hok : storeOk (P.cellsOf t) H a x) :
    ∃ w', (Instr.storeAt t z y).run P w = .ok () w' ∧ PostV φ H w .junk (storeH H x a) undef w' := by
  obtain ⟨k1, k2, k3⟩ := hok
  obtain ⟨r1, r2⟩ := hx.cells k2
  have hl : y.cells.size = P.cellsOf t := by rw [← Array.length_toList, r1.length, k1]
  have go : ∀ {id b off : Nat}, id < H.length → (obj H id).rw = true → φ id = some b → off + P.cellsOf t ≤ (obj H id).cs.length → z = .pointer (some ⟨b, off, none⟩) →
      ∃ w', (Instr.storeAt t z y).run P w = .ok () w' ∧ PostV φ H w .junk (setO H id (splice (obj H id).cs off x.cells)) undef w' := by
    rintro id b off h1 h2 h3 h4 rfl
    obtain ⟨m1, m2, m3, m4⟩ := write_sound hs h1 h2 h3 (by rw [k1]; exact h4) r1
    exact ⟨_, run_storeVar' hc hl r2 (by rw [Array.length_toList] at m1; exact m1), φ, m2, m3, m4, trivial⟩
  cases a with
  | ptr id off =>
    obtain ⟨o, b, h1, h2, h3, h4⟩ := ha
    exact go k3.1 k3.2.1 h3 k3.2.2 h4
  | rptr id off L =>
    obtain ⟨ad, rfl, o, h1, h2, h3⟩ := ha
    obtain ⟨g1, g2, g3, g4⟩ := k3
    have h1 : H[id]? = some o := h1
    rw [obj_eq h1] at g3
    obtain ⟨b, h4, rfl⟩ := h3 g3
    exact go g1 g2 h4 (by rw [obj_eq h1, ← g3]; exact g4) rfl
  | _ => exact k3.elim
/-! ### New variables -/
theorem post_var (hs : St (cx φ H w)) {ob : AObj} {c : Array Value} {e : TypeId} (hz : ob.sz = 0) (hne : ob.cs ≠ []) (hr : RL (cx φ H w) ob.cs c.toList) :
    PostV φ H w (.ptr H.length 0) (H ++ [ob]) (.pointer (some ⟨w.heap.size, 0, none⟩)) (w.alloc (.cells c e)) := by
  have hl := hr.length
  rw [Array.length_toList] at hl
  refine post_new (w' := w.alloc (.cells c e)) (ob := ob) (c := c) (e := e) (fr := (0, 0)) hs ⟨rfl, rfl, rfl⟩ rfl (.inl rfl) (fun h => hne h.1) (by omega) (by rw [← hl, ← Array.length_toList, List.take_length]; exact hr) fun φ' hφ _ => ?_
  exact ⟨ob, w.heap.size, get_last, hz, hφ, rfl⟩
theorem alloc_sound (hs : St (cx φ H w)) {t : TypeId} {z : List Value} (hz : zeroT P t = some z) (hne : z.isEmpty = false) :
    ∃ u w', (Instr.alloc t true (.tuple #[])).run P w = .ok u w' ∧ PostV φ H w (.ptr H.length 0) (H ++ [⟨zlit z, 0, true⟩]) u w' := by
  unfold zeroT at hz
  cases hi : P.info? t with
  | none => rw [hi] at hz; simp at hz
  | some i =>
    rw [hi] at hz
    cases hv : i.zero with
    | none => simp [hv] at hz
    | some v =>
      simp [hv] at hz
      refine ⟨.pointer (some ⟨w.heap.size, 0, none⟩), w.alloc (.cells v.cells t), ?_, ?_⟩
      · simp [Instr.alloc, zeroValue, typeInfo, hi, hv, newVar, newRow]
      · refine post_var hs rfl (by intro h; simp [zlit] at h; rw [h] at hne; cases hne) ?_
        rw [← hz]; exact RL_lits _
theorem box_sound (hs : St (cx φ H w)) {t : TypeId} {x : AV} {y : Value} (hx : R (cx φ H w) x y) (hok : x.cells.isEmpty = false ∧ x.cells.all AV.one = true) :
    ∃ u w', (Instr.box t y).run P w = .ok u w' ∧ PostV φ H w (.ptr H.length 0) (H ++ [⟨x.cells, 0, true⟩]) u w' := by
  refine ⟨.pointer (some ⟨w.heap.size, 0, none⟩), w.alloc (.cells y.cells t), ?_, post_var hs rfl (by intro h; have h1 := hok.1; rw [show x.cells = [] from h] at h1; cases h1) (hx.cells hok.2).1⟩
  simp [Instr.box, newVar, newRow]
end
end Go.Proofs.Ytgfploghjpbcaaa.Eng
