/- Operations that make or read memory. -/
import Derived.Test.YtgfploghjpbcaaaEngD
namespace Go.Proofs.Ytgfploghjpbcaaa.Eng
open Go
set_option linter.unusedVariables false
set_option linter.unusedSimpArgs false
section
variable {P : Program} {φ : Nat → Option Nat} {H : AH} {w : World}
theorem un_sound {op : UnOp} {x : AV} {a : Value} (hx : R (cx φ H w) x a) (hok : unOk op x) : ∃ u, (Op.unary op a).run P w = .ok u w ∧ R (cx φ H w) (unv op x) u := by
  unfold unOk at hok
  split at hok
  · cases hx; subst hok; exact ⟨_, rfl, rfl⟩
  · cases hx
    rcases hok with rfl | rfl
    · exact ⟨_, rfl, rfl⟩
    · exact ⟨_, rfl, rfl⟩
  · exact hok.elim
theorem R_int {S : Cx} {x : AV} {a : Value} (hx : R S x a) (h : isI x) : ∃ k, a = .int k (asI x) := by
  cases x with
  | lit v => cases v <;> first | (cases hx; exact ⟨_, rfl⟩) | exact h.elim
  | _ => exact h.elim
theorem conv_sound {k kk : IntKind} {s d : TypeId} {x : AV} {a : Value} (hs : P.underlying s = some (.int kk)) (hd : P.underlying d = some (.int k)) (hx : R (cx φ H w) x a) (hok : isI x) :
    (convert s d a).run P w = .ok (.int k (k.wrap (asI x))) w := by
  obtain ⟨k', rfl⟩ := R_int hx hok
  simp [convert, run_underlying hs, run_underlying hd, Conv.intToInt]
theorem R_str {S : Cx} {x : AV} {a : Value} (hx : R S x a) (h : strOk x) : ∃ s, a = .string s ∧ x = .lit (.string s) := by
  cases x with
  | lit v => cases v <;> first | (cases hx; exact ⟨_, rfl, rfl⟩) | exact h.elim
  | _ => exact h.elim
theorem same_sound {s d : TypeId} {x : AV} {a : Value} (hs : P.underlying s = some .string) (hd : P.underlying d = some .string) (hx : R (cx φ H w) x a) (hok : strOk x) :
    (convert s d a).run P w = .ok a w := by
  obtain ⟨k', rfl, _⟩ := R_str hx hok
  simp [convert, run_underlying hs, run_underlying hd]
theorem post_push (hs : St (cx φ H w)) {v : AV} {y : Value} {o : Obj} {w' : World} (hw : Same w w') (hh : w'.heap = w.heap.push o) (h : ∀ φ', Ext (cx φ H w) (cx φ' H w') → φ' = φ → R (cx φ' H w') v y) : PostV φ H w v H y w' := by
  obtain ⟨h1, h2⟩ := step_push hs o
  have e : cx φ H w' = { cx φ H w with h := (cx φ H w).h.push o } := by simp [cx, hh]
  refine ⟨φ, by rw [e]; exact h1, by rw [e]; exact h2, hw, h φ (by rw [e]; exact h2) rfl⟩
theorem pureL_map_lit {α : Type} (f : α → Value) : ∀ l : List α, pureL (l.map fun x => AV.lit (f x)) = true
  | [] => rfl
  | a :: r => by simp [pureL, AV.pure, pureL_map_lit f r]
theorem RL_lits {S : Cx} : ∀ l : List Value, RL S (l.map AV.lit) l
  | [] => rfl
  | a :: r => ⟨a, r, rfl, rfl, RL_lits r⟩
/-- A block that nobody has yet is written by nobody. -/
theorem not_wr_new (hs : St (cx φ H w)) {w' : World} (hw : w.heap.size ≤ w'.heap.size) : ¬ Wr (cx φ H w') w.heap.size := by
  rintro ⟨id, o, h1, _, h3⟩
  exact absurd (hs.lt (lt_of_some h1) h3) (Nat.lt_irrefl _)
/-- A slice of a new block whose cells are told: a view. -/
theorem R_newview (hs : St (cx φ H w)) {cs : List AV} {us : List Value} {n cap : Nat} {full : Bool} {w' : World} {c : Array Value} {e : TypeId} {fr : Nat × Nat}
    (hh : w'.heap = w.heap.push (.cells c e fr)) (hp : pureL cs = true) (hr : RL (cx φ H w') cs us) (hc : ∀ (j : Nat) (u : Value), us[j]? = some u → c[j]? = some u) (hn : n ≤ cap) (hf : full = true → cap = n) :
    R (cx φ H w') (.view cs n full) (.slice (some ⟨w.heap.size, 0, none⟩) n cap) := by
  refine ⟨_, cap, rfl, hn, by simp, hf, hp, .inr ⟨w.heap.size, 0, us, rfl, ⟨⟨c, e, fr, ?_, fun j u h => by simpa using hc j u h⟩, not_wr_new hs (by rw [hh]; simp)⟩, hr⟩⟩
  show w'.heap[w.heap.size]? = _
  rw [hh]; simp
/-- A slice of a new block whose object is the last one. -/
theorem post_new (hs : St (cx φ H w)) {ob : AObj} {c : Array Value} {e : TypeId} {fr : Nat × Nat} {w' : World} (hw : Same w w') (hh : w'.heap = w.heap.push (.cells c e fr)) (hfr : FrOk c.size fr) (hnd : ¬ isD ob)
    (hl : ob.cs.length ≤ c.size) (hr : RL (cx φ H w) ob.cs (c.toList.take ob.cs.length)) {v : AV} {y : Value} (h : ∀ φ', φ' H.length = some w.heap.size → Ext (cx φ H w) (cx φ' (H ++ [ob]) w') → R (cx φ' (H ++ [ob]) w') v y) : PostV φ H w v (H ++ [ob]) y w' := by
  obtain ⟨φ', h1, h2, h3⟩ := step_new hs (c := c) (e := e) (fr := fr) hfr hnd hl hr
  have e : cx φ' (H ++ [ob]) w' = ⟨φ', (cx φ H w).H ++ [ob], (cx φ H w).h.push (.cells c e fr)⟩ := by simp [cx, hh]
  refine ⟨φ', by rw [e]; exact h2, by rw [e]; exact h3, hw, h φ' h1 (by rw [e]; exact h3)⟩
theorem get_last {H : AH} {ob : AObj} : (H ++ [ob])[H.length]? = some ob := by simp
theorem R_newrow {φ' : Nat → Option Nat} {ob : AObj} {c : Array Value} {e : TypeId} {fr : Nat × Nat} {w' : World} (hh : w'.heap = w.heap.push (.cells c e fr)) (hp : φ' H.length = some w.heap.size) {n cap L : Nat} (hL : L = ob.cs.length) (hn : n ≤ cap) (hc : cap * ob.sz ≤ c.size) (hlo : 0 < ob.sz → L ≤ cap * ob.sz) :
    R (cx φ' (H ++ [ob]) w') (.row H.length 0 n L) (.slice (some ⟨w.heap.size, 0, none⟩) n cap) := by
  refine ⟨_, cap, rfl, hn, by simp, ob, get_last, by omega, fun _ => .inr ⟨w.heap.size, hp, by simp, .inl rfl, fun hz => ⟨?_, by have := hlo hz; omega⟩⟩⟩
  have : blockSize (cx φ' (H ++ [ob]) w') w.heap.size = c.size := by
    unfold blockSize
    have : (cx φ' (H ++ [ob]) w').h[w.heap.size]? = some (.cells c e fr) := by show w'.heap[w.heap.size]? = _; rw [hh]; simp
    rw [this]
  omega
theorem bytesOf_eq (s : ByteArray) : bytesOf s = (byteCells s).map AV.lit := by simp [bytesOf, byteCells]
theorem byteCells_one (s : ByteArray) : ∀ u ∈ byteCells s, u.oneCell' = true := by
  intro u hu
  obtain ⟨_, _, rfl⟩ := List.mem_map.1 hu; rfl
theorem bytesRow_get (s : ByteArray) (cap : Nat) (j : Nat) (u : Value) (h : (byteCells s)[j]? = some u) : (bytesRow s cap)[j]? = some u := by
  have hj : j < s.data.size := by have := lt_of_some h; simpa [byteCells] using this
  unfold bytesRow
  rw [Array.getElem?_append_left (by simpa using hj)]
  simpa [byteCells] using h
theorem s2b_sound (hs : St (cx φ H w)) {own : Bool} {s d e : TypeId} {x : AV} {a : Value} (h1 : P.underlying s = some .string) (h2 : P.underlying d = some (.slice e)) (h3 : P.underlying e = some (.int .u8)) (hx : R (cx φ H w) x a) (hok : s2bOk x) :
    ∃ u w', (convert s d a).run P w = .ok u w' ∧ PostV φ H w (s2bV own H x) (s2bH own H x) u w' := by
  have hstr : strOk x := by
    cases x with
    | lit v => cases v <;> first | trivial | exact hok
    | _ => exact hok
  obtain ⟨t, rfl, rfl⟩ := R_str hx hstr
  refine ⟨_, _, run_bytes_of_string w s d e t h1 h2 h3, ?_⟩
  have hcap : t.size ≤ grownCap w t.size 0 e := by simp only [grownCap, Question.cut]; omega
  have hsz : (bytesRow t (grownCap w t.size 0 e)).size = grownCap w t.size 0 e := by
    simp only [bytesRow, Array.size_append, Array.size_map, Array.size_replicate]
    have : t.data.size = t.size := rfl
    omega
  cases own
  · refine post_push (o := .cells _ e _) hs ⟨rfl, rfl, rfl⟩ rfl fun φ' _ hφ => ?_
    subst hφ
    refine R_newview hs (us := byteCells t) rfl ?_ ?_ (bytesRow_get t _) hcap (fun h => by cases h)
    · exact pureL_map_lit _ _
    · rw [bytesOf_eq]; exact RL_lits _
  · show PostV φ H w (.row H.length 0 t.size t.size) (H ++ [⟨bytesOf t, 1, true⟩]) _ _
    refine post_new (w' := w.drew.alloc (.cells (bytesRow t (grownCap w t.size 0 e)) e ((bytesRow t (grownCap w t.size 0 e)).size, (bytesRow t (grownCap w t.size 0 e)).size + 1))) (c := bytesRow t (grownCap w t.size 0 e)) (e := e) (fr := ((bytesRow t (grownCap w t.size 0 e)).size, (bytesRow t (grownCap w t.size 0 e)).size + 1)) hs (ob := ⟨bytesOf t, 1, true⟩) ⟨rfl, rfl, rfl⟩ rfl (.inr (Nat.le_refl _)) (fun h => Nat.one_ne_zero h.2) ?_ ?_ fun φ' hφ _ => ?_
    · rw [hsz]; simpa [bytesOf] using hcap
    · rw [bytesOf_eq]
      have : (bytesRow t (grownCap w t.size 0 e)).toList.take ((byteCells t).map AV.lit).length = byteCells t := by
        apply List.ext_getElem?
        intro j
        rw [List.getElem?_take]
        by_cases hj : j < (byteCells t).length
        · obtain ⟨u, hu⟩ := some_of_lt hj
          rw [if_pos (by simpa using hj), hu]
          simpa using bytesRow_get t _ j u hu
        · rw [if_neg (by simpa using hj), List.getElem?_eq_none (by omega)]
      dsimp only
      rw [this]; exact RL_lits _
    · exact R_newrow rfl hφ (by simp [bytesOf]) hcap (by show _ * 1 ≤ _; rw [hsz]; omega) (fun _ => by show _ ≤ _ * 1; omega)
theorem isByte_lit {a : AV} (h : isByte a = true) : ∃ n, a = .lit (.int .u8 n) := by
  unfold isByte at h
  split at h
  · exact ⟨_, rfl⟩
  · cases h
theorem RL_bytes {S : Cx} : ∀ {cs : List AV} {us : List Value}, RL S cs us → cs.all isByte = true → ∃ ns : List Int, us = ns.map (Value.int .u8) ∧ cs.map toByte = ns.map fun n => UInt8.ofNat n.toNat
  | [], us, h, _ => ⟨[], by cases h; rfl, rfl⟩
  | a :: r, us, h, hb => by
    obtain ⟨u, t, rfl, h2, h3⟩ := h
    simp only [List.all_cons, Bool.and_eq_true] at hb
    obtain ⟨n, rfl⟩ := isByte_lit hb.1
    cases h2
    obtain ⟨ns, rfl, h4⟩ := RL_bytes h3 hb.2
    exact ⟨n :: ns, rfl, by simp [toByte, h4]⟩
/-- The cells behind a slice. -/
theorem obj_eq {H : AH} {id : Nat} {o : AObj} (h : H[id]? = some o) : obj H id = o := by simp [obj, List.getD_eq_getElem?_getD, h]
theorem obj_get {H : AH} {id : Nat} (h : id < H.length) : H[id]? = some (obj H id) := by
  obtain ⟨o, ho⟩ := some_of_lt h
  rw [ho, obj_eq ho]
/-- What an object's cells hold. -/
theorem obj_cells (hs : St (cx φ H w)) {id b : Nat} (hid : id < H.length) (hp : φ id = some b) : ∃ c e fr, w.heap[b]? = some (Obj.cells c e fr) ∧ (∀ k, k < c.size → ¬ (fr.1 ≤ k ∧ k < fr.2)) ∧ (obj H id).cs.length ≤ c.size ∧ RL (cx φ H w) (obj H id).cs (c.toList.take (obj H id).cs.length) := by
  rcases hs.ok id _ (obj_get hid) with ⟨g1, _⟩ | ⟨b', c, e, fr, g1, g2, g3, g4, g5⟩
  · rw [show (cx φ H w).φ = φ from rfl, hp] at g1; cases g1
  · rw [show (cx φ H w).φ = φ from rfl, hp] at g1; cases g1
    exact ⟨c, e, fr, g2, g3.1.no, g4, g5⟩
theorem cell_at {b j : Nat} {c : Array Value} {e : TypeId} {fr : Nat × Nat} (h : w.heap[b]? = some (Obj.cells c e fr)) : w.cell? ⟨b, j, none⟩ = c[j]? := by simp [World.cell?, h]
theorem addr_add (b o j : Nat) : (⟨b, o, none⟩ : Addr).add j = ⟨b, o + j, none⟩ := Addr.add_mid b o j
/-- Cells of an object, from a place on. -/
theorem obj_range (hs : St (cx φ H w)) {id b off k : Nat} (hid : id < H.length) (hp : φ id = some b) (hk : off + k ≤ (obj H id).cs.length) :
    ∃ us, RL (cx φ H w) (((obj H id).cs.drop off).take k) us ∧ w.rangeAt b off us := by
  obtain ⟨c, e, fr, h1, h2, h3, h4⟩ := obj_cells hs hid hp
  refine ⟨((c.toList.take (obj H id).cs.length).drop off).take k, (h4.drop off).take k, fun j v hj => ?_⟩
  rw [cell_at h1]
  rw [List.getElem?_take] at hj
  split at hj
  · rw [List.getElem?_drop, List.getElem?_take] at hj
    split at hj
    · simpa using hj
    · cases hj
  · cases hj
theorem imm_range {S : Cx} {b off : Nat} {us : List Value} (h : Imm S b off us) (hw : S.h = w.heap) : w.rangeAt b off us := by
  obtain ⟨⟨c, e, fr, h1, h2⟩, _⟩ := h
  intro j v hj
  rw [hw] at h1
  rw [cell_at h1]; exact h2 j v hj
theorem range_take {b off : Nat} {us : List Value} (h : w.rangeAt b off us) (n : Nat) : w.rangeAt b off (us.take n) := fun j v hj => by
  rw [List.getElem?_take] at hj
  split at hj
  · exact h j v hj
  · cases hj
theorem range_drop {b off : Nat} {us : List Value} (h : w.rangeAt b off us) (n : Nat) : w.rangeAt b (off + n) (us.drop n) := fun j v hj => by
  rw [List.getElem?_drop] at hj
  have := h (n + j) v hj
  rwa [← Nat.add_assoc] at this
theorem srcOk_lit {sz : Nat} {v : Value} (h : srcOk sz H (.lit v)) (hn : ¬ strOk (.lit v)) : v = .slice none 0 0 := by
  unfold srcOk at h
  split at h <;> simp_all [strOk]
/-- A slice's elements as the memory has them. -/
theorem src_range (hs : St (cx φ H w)) {sz : Nat} {x : AV} {a : Value} (hx : R (cx φ H w) x a) (hok : srcOk sz H x) (hns : ¬ strOk x) :
    ∃ base cap us, a = .slice base (srcN x) cap ∧ RL (cx φ H w) (srcC sz H x) us ∧ us.length = srcN x * sz ∧ (us = [] ∨ ∃ b off, base = some ⟨b, off, none⟩ ∧ w.rangeAt b off us) ∧ (base = none → srcN x = 0) := by
  cases x with
  | lit v =>
    obtain rfl := srcOk_lit hok hns
    cases hx
    exact ⟨none, 0, [], rfl, rfl, by simp [srcN], .inl rfl, fun _ => rfl⟩
  | view cs n full =>
    obtain ⟨base, cap, rfl, h2, h3, h4, h5, h6⟩ := hx
    rcases h6 with rfl | ⟨b, off, us, rfl, h7, h8⟩
    · refine ⟨base, cap, [], rfl, rfl, ?_, .inl rfl, fun h => (h3 h).1⟩
      simp only [srcOk] at hok
      simpa [srcN] using hok
    · refine ⟨_, cap, us, rfl, h8, ?_, .inr ⟨b, off, rfl, imm_range h7 rfl⟩, fun h => by cases h⟩
      rw [h8.length]; exact hok
  | row id off n L =>
    obtain ⟨base, cap, rfl, h2, h3, o, h4, h5, h6⟩ := hx
    obtain ⟨g1, g2, g3⟩ := hok
    have ho : obj H id = o := obj_eq h4
    rw [ho] at g2
    rcases h6 g2 with ⟨h7, hc0⟩ | ⟨b, h7, h8, h9, h10⟩
    · have hn : n = 0 := by omega
      subst hn
      refine ⟨base, cap, [], rfl, ?_, ?_, .inl rfl, fun _ => rfl⟩
      · simp [srcC, RL]
      · simp [srcN]
    · obtain ⟨us, r1, r2⟩ := obj_range hs (k := n * sz) g1 h7 (by rw [ho, ← g2]; exact g3)
      have hl : us.length = n * sz := by rw [r1.length, List.length_take, List.length_drop, ho, ← g2]; omega
      rcases h9 with rfl | h9
      · exact ⟨_, cap, us, rfl, r1, hl, .inr ⟨b, off, rfl, r2⟩, fun h => by cases h⟩
      · have hn : n = 0 := by omega
        subst hn
        refine ⟨_, cap, [], rfl, ?_, by simp [srcN], .inl rfl, fun h => absurd h h8⟩
        simp [srcC, RL]
  | _ => exact hok.elim
theorem b2s_sound (hs : St (cx φ H w)) {s d e : TypeId} {x : AV} {a : Value} (h1 : P.underlying s = some (.slice e)) (h2 : P.underlying e = some (.int .u8)) (h3 : P.underlying d = some .string) (hx : R (cx φ H w) x a) (hok : b2sOk H x) :
    ∃ u, (convert s d a).run P w = .ok u w ∧ R (cx φ H w) (b2sV H x) u := by
  obtain ⟨g1, g2, g3⟩ := hok
  obtain ⟨base, cap, us, rfl, r1, r2, r3, r4⟩ := src_range hs hx g2 g1
  obtain ⟨ns, rfl, e2⟩ := RL_bytes r1 g3
  rw [run_convert_bytes_string w s d e base _ cap h1 h2 h3]
  rcases r3 with r3 | ⟨b, off, rfl, r5⟩
  · have hns : ns = [] := by simpa using r3
    subst hns
    have h0 : srcN x = 0 := by simpa using r2.symm
    have hv : b2sV H x = .lit (.string .empty) := by simp [b2sV, e2]; rfl
    rw [hv, h0]
    cases base with
    | none => exact ⟨_, rfl, rfl⟩
    | some ad =>
      have hl := run_loadCells_list (P := P) w ad [] (by simp)
      rw [run_bytesToString w ad 0 cap [] (by simpa using hl)]
      exact ⟨_, rfl, rfl⟩
  · have hl := run_loadCells_list (P := P) w ⟨b, off, none⟩ (ns.map (Value.int .u8)) (fun j v hj => by rw [addr_add]; exact r5 j v hj)
    have hlen : srcN x = (ns.map (Value.int .u8)).length := by rw [r2]; omega
    rw [← hlen] at hl
    rw [run_bytesToString w _ _ cap ns hl]
    refine ⟨_, rfl, ?_⟩
    show Value.string _ = Value.string _
    congr 1
    rw [e2]
    have key : ∀ (ns : List Int) (r : ByteArray), ns.foldl (fun r n => r.push (UInt8.ofNat n.toNat)) r = ⟨r.data ++ (ns.map fun n => UInt8.ofNat n.toNat).toArray⟩ := by
      intro ns
      induction ns with
      | nil => intro r; simp
      | cons n ns ih => intro r; simp only [List.foldl_cons, ih, List.map_cons]; simp [ByteArray.push]
    have he0 : ByteArray.empty.data = #[] := rfl
    rw [key, he0]; simp
end
end Go.Proofs.Ytgfploghjpbcaaa.Eng
