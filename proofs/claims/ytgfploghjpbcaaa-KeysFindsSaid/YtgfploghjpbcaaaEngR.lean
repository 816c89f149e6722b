/- Slices, whatever they are: views or rows; bytes, texts. -/
import Derived.Test.YtgfploghjpbcaaaEngQ
namespace Go.Proofs.Ytgfploghjpbcaaa.Eng
open Go
set_option linter.unusedVariables false
set_option linter.unusedSimpArgs false
/-- A slice (no text): n elements, of sz cells each: its cells. -/
structure Sl (sz : Nat) (H : AH) (x : AV) (cs : List AV) (n : Nat) : Prop where
  ok : srcOk sz H x
  ns : ¬ strOk x
  c : srcC sz H x = cs
  n : srcN x = n
  z : ∀ id off m L, x = .row id off m L → (obj H id).sz = sz ∨ (obj H id).sz = 0
section
variable {sz n : Nat} {H G : AH} {x : AV} {cs : List AV}
theorem Sl.view (h : cs.length = n * sz) (f : Bool) : Sl sz H (.view cs n f) cs n := ⟨h, fun h => h, rfl, rfl, fun _ _ _ _ h => by cases h⟩
theorem Sl.nil : Sl sz H (.lit (.slice none 0 0)) [] 0 := ⟨trivial, fun h => h, rfl, rfl, fun _ _ _ _ h => by cases h⟩
theorem Sl.row {id off L : Nat} (h1 : id < H.length) (h2 : L = (obj H id).cs.length) (h3 : off + n * sz ≤ L) (h4 : ((obj H id).cs.drop off).take (n * sz) = cs) (h5 : (obj H id).sz = sz ∨ (obj H id).sz = 0) : Sl sz H (.row id off n L) cs n :=
  ⟨⟨h1, h2, h3⟩, fun h => h, h4, rfl, fun _ _ _ _ h => by cases h; exact h5⟩
theorem Sl.cases (h : Sl sz H x cs n) : (x = .lit (.slice none 0 0) ∧ cs = [] ∧ n = 0) ∨ (∃ f, x = .view cs n f ∧ cs.length = n * sz) ∨ ∃ id off L, x = .row id off n L ∧ id < H.length ∧ L = (obj H id).cs.length ∧ off + n * sz ≤ L ∧ ((obj H id).cs.drop off).take (n * sz) = cs ∧ ((obj H id).sz = sz ∨ (obj H id).sz = 0) := by
  obtain ⟨h1, h2, h3, h4, h5⟩ := h
  cases x with
  | lit v =>
    unfold srcOk at h1
    split at h1 <;> first | exact h1.elim | skip
    all_goals rename_i heq
    all_goals first | (cases heq; done) | skip
    · cases heq; exact absurd trivial h2
    · cases heq; exact .inl ⟨rfl, h3.symm, h4.symm⟩
  | view c m f =>
    cases h3; cases h4
    exact .inr (.inl ⟨f, rfl, h1⟩)
  | row id off m L =>
    cases h4
    exact .inr (.inr ⟨id, off, L, rfl, h1.1, h1.2.1, h1.2.2, h3, h5 _ _ _ _ rfl⟩)
  | _ => exact h1.elim
theorem Sl.length (h : Sl sz H x cs n) : cs.length = n * sz := by
  rcases h.cases with ⟨_, rfl, rfl⟩ | ⟨f, _, h⟩ | ⟨id, off, L, rfl, h1, h2, h3, h4, h5⟩
  · simp
  · exact h
  · rw [← h4, List.length_take, List.length_drop]; omega
theorem Sl.lenT (h : Sl sz H x cs n) : lenOk false x = True := by
  rcases h.cases with ⟨rfl, _⟩ | ⟨f, rfl, _⟩ | ⟨id, off, L, rfl, _⟩ <;> rfl
theorem Sl.one (h : Sl sz H x cs n) : x.one = true := by
  rcases h.cases with ⟨rfl, _⟩ | ⟨f, rfl, _⟩ | ⟨id, off, L, rfl, _⟩ <;> rfl
theorem Sl.un (h : Sl sz H x cs n) : x.un = x := by
  rcases h.cases with ⟨rfl, _⟩ | ⟨f, rfl, _⟩ | ⟨id, off, L, rfl, _⟩ <;> rfl
theorem Sl.may (h : Sl sz H x cs n) (g : Bool) : okMay g x = True := by
  rcases h.cases with ⟨rfl, _⟩ | ⟨f, rfl, _⟩ | ⟨id, off, L, rfl, _⟩ <;> rfl
theorem Sl.cells (h : Sl sz H x cs n) : x.cells = [x] := by
  rcases h.cases with ⟨rfl, _⟩ | ⟨f, rfl, _⟩ | ⟨id, off, L, rfl, _⟩ <;> rfl
theorem Sl.idx (h : Sl sz H x cs n) (k : IntKind) (i : Int) : idxaOk sz (.lit (.int k i)) none x = (0 ≤ i ∧ i < n) := by
  rcases h.cases with ⟨rfl, _, rfl⟩ | ⟨f, rfl, h1⟩ | ⟨id, off, L, rfl, _⟩
  · show False = _
    simp
  · simp [idxaOk, isI, asI, h1]
  · simp [idxaOk, isI, asI]
theorem Sl.ldOk (h : Sl sz H x cs n) (k : IntKind) {i m : Nat} (hi : i < n) (hm : m ≤ sz) : loadOk m H (idxaV sz (.lit (.int k i)) x) = True := by
  have hle : i * sz + sz ≤ n * sz := by rw [← Nat.succ_mul]; exact Nat.mul_le_mul_right _ hi
  rcases h.cases with ⟨rfl, _, rfl⟩ | ⟨f, rfl, h1⟩ | ⟨id, off, L, rfl, h1, h2, h3, h4, h5⟩
  · omega
  · simp only [idxaV, loadOk, asI, Int.toNat_natCast, elt, List.length_take, List.length_drop, eq_iff_iff, iff_true]; omega
  · simp only [idxaV, loadOk, asI, Int.toNat_natCast, eq_iff_iff, iff_true]; exact ⟨h1, h2, by omega⟩
theorem Sl.ld (h : Sl sz H x cs n) (k : IntKind) {i m : Nat} (hi : i < n) (hm : m ≤ sz) (hz : 0 < sz) (agg : Bool) : loadV agg m H (idxaV sz (.lit (.int k i)) x) = if agg then .agg ((elt cs sz i).take m) else cs.getD (i * sz) .junk := by
  have hle : i * sz + sz ≤ n * sz := by rw [← Nat.succ_mul]; exact Nat.mul_le_mul_right _ hi
  rcases h.cases with ⟨rfl, _, rfl⟩ | ⟨f, rfl, h1⟩ | ⟨id, off, L, rfl, h1, h2, h3, h4, h5⟩
  · omega
  · simp only [idxaV, loadV, asI, Int.toNat_natCast]
    cases agg
    · simp only [Bool.false_eq_true, if_false, elt, List.getD_eq_getElem?_getD, List.getElem?_take, if_pos hz, List.getElem?_drop, Nat.add_zero]
    · simp
  · simp only [idxaV, loadV, asI, Int.toNat_natCast]
    subst h4
    cases agg
    · simp only [Bool.false_eq_true, if_false, List.getD_eq_getElem?_getD, List.getElem?_take, List.getElem?_drop]
      rw [if_pos (by omega)]
    · simp only [if_true, elt, List.take_take, List.drop_take, List.drop_drop]
      congr 2
      omega
theorem Sl.ld1 (h : Sl 1 H x cs n) (k : IntKind) {i : Nat} (hi : i < n) : loadV false 1 H (idxaV 1 (.lit (.int k i)) x) = cs.getD i .junk := by
  rw [h.ld k hi (Nat.le_refl _) (by decide)]; simp
theorem Sl.ldA (h : Sl sz H x cs n) (k : IntKind) {i : Nat} (hi : i < n) (hz : 0 < sz) : loadV true sz H (idxaV sz (.lit (.int k i)) x) = .agg (elt cs sz i) := by
  rw [h.ld k hi (Nat.le_refl _) hz]
  simp [elt, List.take_take]
theorem Sl.fdOk (h : Sl sz H x cs n) (k : IntKind) {i o m : Nat} (hi : i < n) (hm : o + m ≤ sz) : fldOk (idxaV sz (.lit (.int k i)) x) = True ∧ loadOk m H (fldV o (idxaV sz (.lit (.int k i)) x)) = True := by
  have hle : i * sz + sz ≤ n * sz := by rw [← Nat.succ_mul]; exact Nat.mul_le_mul_right _ hi
  rcases h.cases with ⟨rfl, _, rfl⟩ | ⟨f, rfl, h1⟩ | ⟨id, off, L, rfl, h1, h2, h3, h4, h5⟩
  · omega
  · refine ⟨rfl, ?_⟩
    simp only [idxaV, fldV, loadOk, asI, Int.toNat_natCast, elt, List.length_take, List.length_drop, eq_iff_iff, iff_true]; omega
  · refine ⟨rfl, ?_⟩
    simp only [idxaV, fldV, loadOk, asI, Int.toNat_natCast, eq_iff_iff, iff_true]; exact ⟨h1, h2, by omega⟩
theorem Sl.fd (h : Sl sz H x cs n) (k : IntKind) {i o m : Nat} (hi : i < n) (hm : o + m ≤ sz) (h0 : 0 < m) (agg : Bool) : loadV agg m H (fldV o (idxaV sz (.lit (.int k i)) x)) = if agg then .agg ((cs.drop (i * sz + o)).take m) else cs.getD (i * sz + o) .junk := by
  have hle : i * sz + sz ≤ n * sz := by rw [← Nat.succ_mul]; exact Nat.mul_le_mul_right _ hi
  rcases h.cases with ⟨rfl, _, rfl⟩ | ⟨f, rfl, h1⟩ | ⟨id, off, L, rfl, h1, h2, h3, h4, h5⟩
  · omega
  · simp only [idxaV, fldV, loadV, asI, Int.toNat_natCast, elt, List.drop_take, List.drop_drop]
    cases agg
    · simp only [Bool.false_eq_true, if_false, List.getD_eq_getElem?_getD, List.getElem?_take, List.getElem?_drop, Nat.add_zero]
      rw [if_pos (by omega)]
    · simp only [if_true, List.take_take]
      congr 2
      omega
  · simp only [idxaV, fldV, loadV, asI, Int.toNat_natCast]
    subst h4
    cases agg
    · simp only [Bool.false_eq_true, if_false, List.getD_eq_getElem?_getD, List.getElem?_take, List.getElem?_drop]
      rw [if_pos (by omega)]
      congr 2
      omega
    · simp only [if_true, List.drop_take, List.take_take, List.drop_drop]
      rw [show off + i * sz + o = off + (i * sz + o) by omega]
      congr 2
      omega
theorem Sl.app (h : Sl sz H x cs n) : Sl sz (H ++ G) x cs n := by
  rcases h.cases with ⟨rfl, rfl, rfl⟩ | ⟨f, rfl, h1⟩ | ⟨id, off, L, rfl, h1, h2, h3, h4, h5⟩
  · exact .nil
  · exact .view h1 f
  · have e := obj_old H G h1
    exact .row (by simp; omega) (by rw [e]; exact h2) h3 (by rw [e]; exact h4) (by rw [e]; exact h5)
/-- A slice is held against nil. -/
theorem Sl.nilc (h : Sl sz H x cs n) {K1 K2 : Prop} (h1 : n = 0 → K1) (h2 : K2) : nilcOk x ∧ iteK K1 K2 (nilcV false x) := by
  rcases h.cases with ⟨rfl, rfl, rfl⟩ | ⟨f, rfl, _⟩ | ⟨id, off, L, rfl, _⟩
  · exact ⟨trivial, fun _ => h1 rfl, fun h => (by cases h)⟩
  · refine ⟨trivial, ?_⟩
    rw [nilcV_view]
    split
    · rename_i h0; exact ⟨h1 h0, h2⟩
    · exact ⟨fun h => (by cases h), fun _ => h2⟩
  · refine ⟨trivial, ?_⟩
    rw [nilcV_row]
    split
    · rename_i h0; exact ⟨h1 h0, h2⟩
    · exact ⟨fun h => (by cases h), fun _ => h2⟩
end
/-! ### Slices of slices -/
/-- The bounds of a slice expression. -/
def lo0 : Option AV → Nat
  | none => 0
  | some v => (asI v).toNat
def hi0 (n : Nat) : Option AV → Nat
  | none => n
  | some v => (asI v).toNat
section
variable {sz n : Nat} {H G : AH} {x : AV} {cs : List AV}
theorem bnd_lo (lo : Option AV) : (bnd 0 lo).toNat = lo0 lo := by cases lo <;> rfl
theorem bnd_hi (n : Nat) (hi : Option AV) : (bnd n hi).toNat = hi0 n hi := by cases hi <;> simp [bnd, hi0]
theorem Sl.slOk (h : Sl sz H x cs n) {lo hi : Option AV} (hb : bndOk n lo hi none) : sliceOk sz H lo hi none none x := by
  rcases h.cases with ⟨rfl, rfl, rfl⟩ | ⟨f, rfl, h1⟩ | ⟨id, off, L, rfl, h1, h2, h3, h4, h5⟩
  · exact hb
  · exact ⟨hb, h1⟩
  · refine ⟨h1, h2, h5, ?_⟩
    obtain ⟨b0, b1, b2, b3, b4, b5, b6⟩ := hb
    have hc : n ≤ rowCap (obj H id).sz sz n off L := by
      unfold rowCap
      split
      · exact Nat.le_refl _
      · exact Nat.le_max_left _ _
    refine ⟨b0, b1, b2, b3, b4, ?_, ?_⟩
    · show bnd n hi ≤ _
      have : bnd (n : Int) none = n := rfl
      have e : bnd ((rowCap (obj H id).sz sz n off L : Nat) : Int) none = (rowCap (obj H id).sz sz n off L : Nat) := rfl
      omega
    · exact Int.le_refl _
theorem Sl.sl (h : Sl sz H x cs n) {lo hi : Option AV} (hb : bndOk n lo hi none) : Sl sz H (sliceV sz H lo hi none none x) (cut cs sz (lo0 lo) (hi0 n hi)) (hi0 n hi - lo0 lo) := by
  obtain ⟨_, _, _, b1, b2, b3, b4⟩ := hb
  have e1 := bnd_lo lo
  have e2 := bnd_hi n hi
  have hle : lo0 lo ≤ hi0 n hi := by omega
  have hhn : hi0 n hi ≤ n := by have : bnd (n : Int) none = n := rfl; omega
  have hmul : (hi0 n hi - lo0 lo) * sz + lo0 lo * sz ≤ n * sz := by rw [← Nat.add_mul]; exact Nat.mul_le_mul_right _ (by omega)
  rcases h.cases with ⟨rfl, rfl, rfl⟩ | ⟨f, rfl, h1⟩ | ⟨id, off, L, rfl, h1, h2, h3, h4, h5⟩
  · have : hi0 0 hi - lo0 lo = 0 := by omega
    simp only [sliceV, cut, List.drop_nil, List.take_nil, this]
    exact .nil
  · simp only [sliceV, e1, e2]
    exact .view (by simp only [cut, List.length_take, List.length_drop]; omega) _
  · simp only [sliceV, e1, e2, Option.isSome_none, Bool.false_and, Bool.false_eq_true, if_false]
    refine .row h1 h2 (by omega) ?_ h5
    subst h4
    simp only [cut, List.drop_take, List.take_take, List.drop_drop]
    rw [Nat.min_eq_left (by omega)]
end
/-! ### Bytes -/
abbrev u8 (b : UInt8) : AV := .lit (.int .u8 b.toNat)
abbrev bs (l : List UInt8) : List AV := l.map u8
abbrev vB (l : List UInt8) (f : Bool) : AV := .view (bs l) l.length f
abbrev Str (l : List UInt8) : AV := .lit (.string ⟨l.toArray⟩)
theorem pure_map {α : Type} (f : α → AV) (h : ∀ a, (f a).pure = true) : ∀ l : List α, pureL (l.map f) = true
  | [] => rfl
  | a :: r => by simp only [List.map_cons, pureL, h a, pure_map f h r, Bool.and_self]
theorem pureL_all : ∀ {l : List AV}, (∀ a ∈ l, a.pure = true) → pureL l = true
  | [], _ => rfl
  | a :: r, h => by simp only [pureL, h a (by simp), pureL_all (l := r) fun b hb => h b (by simp [hb]), Bool.and_self]
theorem one_map {α : Type} (f : α → AV) (h : ∀ a, (f a).one = true) (l : List α) : (l.map f).all AV.one = true := by simp [h]
theorem pure_bs (l : List UInt8) : pureL (bs l) = true := pure_map u8 (fun _ => rfl) l
theorem one_bs (l : List UInt8) : (bs l).all AV.one = true := one_map u8 (fun _ => rfl) l
theorem bs_get (l : List UInt8) (i : Nat) (h : i < l.length) : (bs l).getD i .junk = u8 (l.getD i 0) := by
  rw [List.getD_eq_getElem?_getD, List.getElem?_map, List.getD_eq_getElem?_getD, List.getElem?_eq_getElem h]; rfl
theorem toByte_u8 (b : UInt8) : toByte (u8 b) = b := by simp [toByte]
theorem bytesOf_Str (l : List UInt8) : bytesOf ⟨l.toArray⟩ = bs l := by simp [bytesOf]
theorem Sl.b2s {l : List UInt8} {H : AH} {x : AV} (h : Sl 1 H x (bs l) l.length) : b2sOk H x = True ∧ b2sV H x = Str l := by
  refine ⟨?_, ?_⟩
  · simp only [b2sOk, h.c, eq_iff_iff, iff_true]
    refine ⟨h.ns, h.ok, ?_⟩
    simp [isByte]
  · simp only [b2sV, h.c, Str]
    congr 3
    rw [List.map_map]
    exact congrArg List.toArray ((List.map_congr_left fun b _ => toByte_u8 b).trans (List.map_id l))
theorem Sl.vB {H : AH} (l : List UInt8) (f : Bool) : Sl 1 H (vB l f) (bs l) l.length := .view (by simp) f
theorem str_size (l : List UInt8) : (ByteArray.mk l.toArray).size = l.length := by simp [ByteArray.size]
theorem str_toList (l : List UInt8) : (ByteArray.mk l.toArray).toList = l := by
  have key : ∀ (n i : Nat) (r : List UInt8), i + n = l.length → ByteArray.toList.loop ⟨l.toArray⟩ i r = r.reverse ++ l.drop i := by
    intro n
    induction n with
    | zero =>
      intro i r h
      unfold ByteArray.toList.loop
      rw [if_neg (by rw [str_size]; omega), List.drop_eq_nil_of_le (by omega), List.append_nil]
    | succ n ih =>
      intro i r h
      unfold ByteArray.toList.loop
      rw [if_pos (by rw [str_size]; omega), ih (i + 1) _ (by omega)]
      have hi : i < l.length := by omega
      rw [List.drop_eq_getElem_cons hi, List.reverse_cons, List.append_assoc]
      congr 2
      simp [ByteArray.get!, hi]
  have := key l.length 0 [] (by omega)
  simpa [ByteArray.toList] using this
/-! ### Ends with a new row -/
section
variable {sz n : Nat} {H G : AH} {x : AV} {cs : List AV}
theorem low_newrow {ren : Nat → Option Nat} (h0 : ren H.length = none) (hz : 0 < sz) (hc : cs.length = n * sz) (hp : pureL cs = true) (w : Bool) (L : Nat) (hL : L = cs.length) : low ren (H ++ [⟨cs, sz, w⟩]) (.row H.length 0 n L) = .view cs n false := by
  have e : obj (H ++ [⟨cs, sz, w⟩]) H.length = ⟨cs, sz, w⟩ := by rw [obj_app0]; rfl
  simp only [low, h0, rowView, e, if_neg (show ¬ sz = 0 by omega)]
  have e2 : (cs.drop 0).take (n * sz) = cs := by rw [List.drop_zero, List.take_of_length_le (by omega)]
  rw [e2, if_pos ⟨hL, by omega, hp⟩]
theorem renk_none (n : Nat) : renk n [] n = none := by simp [renk]
theorem renk_none_add (n k : Nat) : renk n [] (n + k) = none := by simp [renk]
end
theorem b2sOk_view (H : AH) (cs : List AV) (n : Nat) (f : Bool) : b2sOk H (.view cs n f) = (cs.length = n * 1 ∧ cs.all isByte = true) := by simp [b2sOk, strOk, srcOk, srcC]
theorem b2sOk_vB (H : AH) (l : List UInt8) (f : Bool) : b2sOk H (vB l f) = True := (Sl.vB l f).b2s.1
theorem b2sV_vB (H : AH) (l : List UInt8) (f : Bool) : b2sV H (vB l f) = Str l := (Sl.vB l f).b2s.2
theorem elt_map1 {α : Type} (f : α → AV) (l : List α) (i : Nat) (h : i < l.length) (d : α) : elt (l.map f) 1 i = [f (l.getD i d)] := by
  simp only [elt, Nat.mul_one]
  rw [← List.map_drop, List.drop_eq_getElem_cons h, List.map_cons, List.take_succ_cons, List.take_zero, List.getD_eq_getElem?_getD, List.getElem?_eq_getElem h, Option.getD_some]
theorem getD_mem' {α : Type} {l : List α} {i : Nat} (h : i < l.length) (d : α) : l.getD i d ∈ l := by
  rw [List.getD_eq_getElem?_getD, List.getElem?_eq_getElem h]; exact List.getElem_mem h
theorem take_snoc {α : Type} {l : List α} {i : Nat} (h : i < l.length) (d : α) : l.take (i + 1) = l.take i ++ [l.getD i d] := by
  rw [List.take_add_one, List.getD_eq_getElem?_getD, List.getElem?_eq_getElem h]; rfl
theorem drop_cons {α : Type} {l : List α} {i : Nat} (h : i < l.length) (d : α) : l.drop i = l.getD i d :: l.drop (i + 1) := by
  rw [List.drop_eq_getElem_cons h, List.getD_eq_getElem?_getD, List.getElem?_eq_getElem h]; rfl
/-! ### Rules -/
theorem leave_le {H : AH} {v2 v : AV} (h : Le v2 v) : Leave H v2 H v H := fun φ0 w0 φ w y _ h2 h3 h4 => ⟨φ, h2, h3, h _ _ h4⟩
/-- All new objects are forgotten, and the value may say less. -/
theorem leave_drop_le {H G : AH} {v2 v : AV} (h : Le (low (renk H.length []) (H ++ G) v2) v) : Leave H v2 (H ++ G) v H := (leave_drop rfl).trans (fun φ0 w0 φ w y _ h2 h3 h4 => ⟨φ, h2, h3, h _ _ h4⟩)
section
variable {sz n : Nat} {H G : AH} {x : AV} {cs : List AV}
theorem Sl.s (h : Sl sz H x cs n) : lenOk false x = True ∧ srcN x = n ∧ srcOk sz H x = True ∧ srcC sz H x = cs ∧ x.un = x ∧ (∀ g, okMay g x = True) ∧ x.one = true ∧ x.cells = [x] :=
  ⟨h.lenT, h.n, eq_true h.ok, h.c, h.un, h.may, h.one, h.cells⟩
theorem fillOk_nil (t : Nat) : fillOk t [] = True := rfl
theorem fillOk_cons (t o k : Nat) (v : AV) (r : List (Nat × Nat × AV)) : fillOk t ((o, k, v) :: r) = ((v.cells.length = k ∧ o + k ≤ t ∧ v.cells.all AV.one = true) ∧ fillOk t r) := rfl
theorem fillv_nil (cs : List AV) : fillv cs [] = cs := rfl
theorem fillv_cons (cs : List AV) (o : Nat) (v : AV) (r : List (Nat × AV)) : fillv cs ((o, v) :: r) = fillv (splice cs o v.cells) r := rfl
theorem appOk_eq (sz b : Nat) (H : AH) (s x : AV) : appOk sz b H s x = (srcOk sz H x ∧ (srcC sz H x).all AV.one = true ∧ (srcN s + srcN x) * b ≤ 140737488355328 ∧ appBase sz H x s) := rfl
theorem appvOk_eq (sz b : Nat) (H : AH) (s x : AV) : appvOk sz b H s x = (srcOk sz H x ∧ pureL (srcC sz H x) = true ∧ (srcC sz H x).all AV.one = true ∧ (srcN s + srcN x) * b ≤ 140737488355328 ∧ viewBase sz s) := rfl
theorem base_nil (sz : Nat) (H : AH) (x : AV) : appBase sz H x (.lit (.slice none 0 0)) = True := rfl
theorem base_v0 (sz : Nat) (H : AH) (x : AV) : appBase sz H x (.view [] 0 true) = True := by simp [appBase]
theorem base_row (sz : Nat) (H : AH) (x : AV) (id off n L : Nat) : appBase sz H x (.row id off n L) = (id < H.length ∧ L = (obj H id).cs.length ∧ (obj H id).rw = true ∧ (obj H id).sz = sz ∧ off + n * sz ≤ L ∧ (off = 0 ∨ off + (n + srcN x) * sz ≤ L)) := rfl
theorem vbase_nil (sz : Nat) : viewBase sz (.lit (.slice none 0 0)) = True := rfl
theorem vbase_view (sz : Nat) (cs : List AV) (n : Nat) (f : Bool) : viewBase sz (.view cs n f) = (f = true ∧ cs.length = n * sz) := rfl
theorem appV_nil (sz : Nat) (H : AH) (x : AV) : appV sz H x (.lit (.slice none 0 0)) = .row H.length 0 (srcN x) (srcC sz H x).length := rfl
theorem appH_nil (sz : Nat) (H : AH) (x : AV) : appH sz H x (.lit (.slice none 0 0)) = H ++ [⟨srcC sz H x, sz, true⟩] := rfl
theorem appV_v0 (sz : Nat) (H : AH) (x : AV) (f : Bool) : appV sz H x (.view [] 0 f) = .row H.length 0 (srcN x) (srcC sz H x).length := rfl
theorem appH_v0 (sz : Nat) (H : AH) (x : AV) (f : Bool) : appH sz H x (.view [] 0 f) = H ++ [⟨srcC sz H x, sz, true⟩] := rfl
theorem appV_row (sz : Nat) (H : AH) (x : AV) (id off n L : Nat) : appV sz H x (.row id off n L) = .row id off (n + srcN x) (appL sz off n (srcN x) (srcC sz H x).length L) := rfl
theorem appH_row (sz : Nat) (H : AH) (x : AV) (id off n L : Nat) : appH sz H x (.row id off n L) = setO H id (appC sz (obj H id).cs (srcC sz H x) off n (srcN x) L) := rfl
theorem appvV_nil (sz : Nat) (H : AH) (x : AV) : appvV sz H x (.lit (.slice none 0 0)) = .view (srcC sz H x) (srcN x) false := rfl
theorem appvV_view (sz : Nat) (H : AH) (x : AV) (cs : List AV) (n : Nat) (f : Bool) : appvV sz H x (.view cs n f) = .view (cs ++ srcC sz H x) (n + srcN x) false := rfl
/-- Behind all there are. -/
theorem appC_end {sz n m L : Nat} {cs src : List AV} (h : n * sz = L) : appC sz cs src 0 n m L = cs ++ src := by rw [appC, if_pos (by omega)]
theorem appL_end {sz n m s L : Nat} (h : n * sz = L) : appL sz 0 n m s L = L + s := by rw [appL, if_pos (by omega)]
theorem srcOk_view (sz : Nat) (H : AH) (cs : List AV) (n : Nat) (f : Bool) : srcOk sz H (.view cs n f) = (cs.length = n * sz) := rfl
theorem srcOk_nil (sz : Nat) (H : AH) : srcOk sz H (.lit (.slice none 0 0)) = True := rfl
theorem srcOk_row (sz : Nat) (H : AH) (id off n L : Nat) : srcOk sz H (.row id off n L) = (id < H.length ∧ L = (obj H id).cs.length ∧ off + n * sz ≤ L) := rfl
theorem srcC_view (sz : Nat) (H : AH) (cs : List AV) (n : Nat) (f : Bool) : srcC sz H (.view cs n f) = cs := rfl
theorem srcC_nil (sz : Nat) (H : AH) : srcC sz H (.lit (.slice none 0 0)) = [] := rfl
theorem srcC_row (sz : Nat) (H : AH) (id off n L : Nat) : srcC sz H (.row id off n L) = ((obj H id).cs.drop off).take (n * sz) := rfl
attribute [go_sem] fillOk_nil fillOk_cons fillv_nil fillv_cons appOk_eq appvOk_eq base_nil base_v0 base_row vbase_nil vbase_view appV_nil appH_nil appV_v0 appH_v0 appV_row appH_row appvV_nil appvV_view srcOk_view srcOk_nil srcOk_row srcC_view srcC_nil srcC_row
attribute [go_sem] Bool.bne_false Bool.bne_true Bool.true_bne Bool.false_bne str_toList str_size Bool.true_eq_false Bool.false_eq_true
attribute [go_sem] List.replicate_zero List.replicate_succ List.flatten_nil List.flatten_cons Value.oneCell' List.all_cons List.all_nil pureL AV.pure
end
section
variable {sz n : Nat} {H G : AH} {x : AV} {cs : List AV}
theorem sliceOk_row (lo hi mx : Option AV) (id off L : Nat) : sliceOk sz H lo hi mx none (.row id off n L) = (id < H.length ∧ L = (obj H id).cs.length ∧ ((obj H id).sz = sz ∨ (obj H id).sz = 0) ∧ bndR n (rowCap (obj H id).sz sz n off L) lo hi mx) := rfl
theorem bndR_eq (m c : Nat) (lo hi mx : Option AV) : bndR m c lo hi mx = (bndI lo ∧ bndI hi ∧ bndI mx ∧ 0 ≤ bnd 0 lo ∧ bnd 0 lo ≤ bnd m hi ∧ bnd m hi ≤ bnd c mx ∧ bnd c mx ≤ c) := rfl
theorem sliceOk_view (lo hi mx : Option AV) (f : Bool) : sliceOk sz H lo hi mx none (.view cs n f) = (bndOk n lo hi mx ∧ cs.length = n * sz) := rfl
theorem sliceOk_nil (lo hi mx : Option AV) : sliceOk sz H lo hi mx none (.lit (.slice none 0 0)) = bndOk 0 lo hi mx := rfl
theorem sliceOk_ptr (lo hi mx : Option AV) (m id off : Nat) : sliceOk sz H lo hi mx (some m) (.ptr id off) = (id < H.length ∧ bndOk m lo hi mx) := rfl
theorem sliceOk_vptr (lo hi mx : Option AV) (m : Nat) : sliceOk sz H lo hi mx (some m) (.vptr cs) = (bndOk m lo hi mx ∧ m * sz ≤ cs.length) := rfl
theorem sliceV_row (lo hi : Option AV) (id off L : Nat) : sliceV sz H lo hi none none (.row id off n L) = .row id (off + lo0 lo * sz) (hi0 n hi - lo0 lo) L := by
  simp only [sliceV, bnd_lo, bnd_hi, Option.isSome_none, Bool.false_and, Bool.false_eq_true, if_false]
theorem sliceV_view (lo hi : Option AV) (f : Bool) : sliceV sz H lo hi none none (.view cs n f) = .view (cut cs sz (lo0 lo) (hi0 n hi)) (hi0 n hi - lo0 lo) (f && decide (bnd n hi = n)) := by
  simp only [sliceV, bnd_lo, bnd_hi, Option.isSome_none, Bool.false_or]; rfl
theorem sliceV_nil (lo hi : Option AV) : sliceV sz H lo hi none none (.lit (.slice none 0 0)) = .lit (.slice none 0 0) := rfl
theorem natz : ((0 : Nat) : Int) = 0 := rfl
theorem sliceV_ptr (lo hi mx : Option AV) (m id off : Nat) : sliceV sz H lo hi mx (some m) (.ptr id off) = .row id (off + lo0 lo * sz) (hi0 m hi - lo0 lo) (obj H id).cs.length := by
  simp only [sliceV, bnd_lo, bnd_hi]
theorem sliceV_vptr (lo hi mx : Option AV) (m : Nat) : sliceV sz H lo hi mx (some m) (.vptr cs) = .view (cut cs sz (lo0 lo) (hi0 m hi)) (hi0 m hi - lo0 lo) false := by
  simp only [sliceV, bnd_lo, bnd_hi]
theorem lo0_some (k : IntKind) (i : Int) : lo0 (some (.lit (.int k i))) = i.toNat := rfl
theorem hi0_some (m : Nat) (k : IntKind) (i : Int) : hi0 m (some (.lit (.int k i))) = i.toNat := rfl
theorem lo0_none : lo0 none = 0 := rfl
theorem hi0_none (m : Nat) : hi0 m none = m := rfl
theorem bndOk_eq (m : Int) (lo hi mx : Option AV) : bndOk m lo hi mx = (bndI lo ∧ bndI hi ∧ bndI mx ∧ 0 ≤ bnd 0 lo ∧ bnd 0 lo ≤ bnd m hi ∧ bnd m hi ≤ bnd m mx ∧ bnd m mx ≤ m) := rfl
theorem bndI_none : bndI none = True := rfl
theorem bndI_int (k : IntKind) (i : Int) : bndI (some (.lit (.int k i))) = True := rfl
theorem bnd_none' (m : Int) : bnd m none = m := rfl
theorem bnd_int (m : Int) (k : IntKind) (i : Int) : bnd m (some (.lit (.int k i))) = i := rfl
theorem ne_none {α : Type} (x : α) : (some x ≠ none) = True := by simp
theorem eq_none' {α : Type} (x : α) : (some x = none) = False := by simp
attribute [go_sem] bndR_eq rowCap Nat.div_one Nat.sub_zero Nat.mul_one Nat.zero_mul sliceOk_row sliceOk_view sliceOk_nil sliceOk_ptr sliceOk_vptr sliceV_row sliceV_view sliceV_nil natz Int.sub_zero sliceV_ptr sliceV_vptr lo0_some hi0_some lo0_none hi0_none bndOk_eq bndI_none bndI_int bnd_none' bnd_int Option.map_some Option.map_none ne_none eq_none' or_true true_or Int.le_refl
end
end Go.Proofs.Ytgfploghjpbcaaa.Eng
