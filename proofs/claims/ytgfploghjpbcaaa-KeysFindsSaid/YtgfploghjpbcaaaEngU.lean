/- Rows that grow; what stays of the objects. -/
import Derived.Test.YtgfploghjpbcaaaEngR
namespace Go.Proofs.Ytgfploghjpbcaaa.Eng
open Go
set_option linter.unusedVariables false
set_option linter.unusedSimpArgs false
abbrev nilS : AV := .lit (.slice none 0 0)
abbrev nilE : AV := .lit .nilIface
abbrev nilP : AV := .lit (.pointer none)
/-- All objects stay, but those of S; there may be more. -/
def Fr (H H' : AH) (S : Nat → Prop) : Prop := H.length ≤ H'.length ∧ ∀ i, i < H.length → ¬ S i → obj H' i = obj H i
theorem Fr.refl (H : AH) (S : Nat → Prop) : Fr H H S := ⟨Nat.le_refl _, fun _ _ _ => rfl⟩
theorem Fr.trans {H H1 H2 : AH} {S : Nat → Prop} (h : Fr H H1 S) (h' : Fr H1 H2 S) : Fr H H2 S :=
  ⟨Nat.le_trans h.1 h'.1, fun i hi hs => (h'.2 i (Nat.lt_of_lt_of_le hi h.1) hs).trans (h.2 i hi hs)⟩
theorem Fr.mono {H H1 : AH} {S S' : Nat → Prop} (h : Fr H H1 S) (hs : ∀ i, i < H.length → S i → S' i) : Fr H H1 S' := ⟨h.1, fun i hi h' => h.2 i hi fun hh => h' (hs i hi hh)⟩
theorem Fr.set (H : AH) {p : Nat} (cs : List AV) {S : Nat → Prop} (hp : S p) : Fr H (setO H p cs) S :=
  ⟨by simp [setO_length], fun i _ h => obj_setO_ne _ _ fun e => h (e ▸ hp)⟩
theorem Fr.app (H G : AH) (S : Nat → Prop) : Fr H (H ++ G) S := ⟨by simp, fun i hi _ => obj_old _ _ hi⟩
theorem obj_some {H : AH} {i : Nat} (h : i < H.length) : H[i]? = some (obj H i) := by
  simp [obj, List.getD_eq_getElem?_getD, List.getElem?_eq_getElem h]
theorem Fr.split {H H' : AH} {S : Nat → Prop} (h : Fr H H' S) (hS : ∀ i, ¬ S i) : ∃ G, H' = H ++ G := by
  refine ⟨H'.drop H.length, ?_⟩
  have e : H'.take H.length = H := by
    apply List.ext_getElem?
    intro i
    rw [List.getElem?_take]
    split
    · rename_i hi
      rw [obj_some (Nat.lt_of_lt_of_le hi h.1), obj_some hi, h.2 i hi (hS i)]
    · rename_i hi
      rw [List.getElem?_eq_none (by omega)]
  conv => lhs; rw [← List.take_append_drop H.length H', e]
/-- A row's object. -/
def rid : AV → Option Nat
  | .row q _ _ _ => some q
  | _ => none
/-- What a row became: its object is the same, or new. -/
def New (H : AH) (x x' : AV) : Prop := ∀ q, rid x' = some q → rid x = some q ∨ H.length ≤ q
theorem New.refl (H : AH) (x : AV) : New H x x := fun _ h => .inl h
/-- A row that grows: nil, or all of a row's first elements. -/
def GR (H : AH) (x : AV) (vs : List AV) : Prop :=
  (x = nilS ∧ vs = []) ∨ ∃ q L cs, x = .row q 0 vs.length L ∧ q < H.length ∧ obj H q = ⟨cs, 1, true⟩ ∧ L = cs.length ∧ vs.length ≤ L ∧ cs.take vs.length = vs
section
variable {H H' : AH} {x : AV} {vs : List AV}
theorem GR.nil : GR H nilS [] := .inl ⟨rfl, rfl⟩
theorem GR.frame (h : GR H x vs) {S : Nat → Prop} (hf : Fr H H' S) (hs : ∀ q, rid x = some q → ¬ S q) : GR H' x vs := by
  rcases h with h | ⟨q, L, cs, rfl, h1, h2, h3⟩
  · exact .inl h
  · exact .inr ⟨q, L, cs, rfl, Nat.lt_of_lt_of_le h1 hf.1, (hf.2 q h1 (hs q rfl)).trans h2, h3⟩
theorem GR.sl (h : GR H x vs) : Sl 1 H x vs vs.length := by
  rcases h with ⟨rfl, rfl⟩ | ⟨q, L, cs, rfl, h1, h2, h3, h4, h5⟩
  · exact .nil
  · exact .row h1 (by rw [h2, h3]) (by omega) (by rw [h2]; simpa using h5) (.inl (by rw [h2]))
theorem GR.lt (h : GR H x vs) {q : Nat} (hq : rid x = some q) : q < H.length := by
  rcases h with ⟨rfl, rfl⟩ | ⟨q', L, cs, rfl, h1, _⟩
  · cases hq
  · cases hq; exact h1
/-- One more. -/
theorem GR.app (h : GR H x vs) {s v : AV} {b : Nat} (h1 : srcOk 1 H s) (h2 : srcC 1 H s = [v]) (h3 : srcN s = 1) (hv : v.one = true) (hb : (vs.length + 1) * b ≤ 140737488355328) :
    appOk 1 b H x s ∧ GR (appH 1 H s x) (appV 1 H s x) (vs ++ [v]) ∧ New H x (appV 1 H s x) ∧ Fr H (appH 1 H s x) (fun i => rid x = some i) := by
  rcases h with ⟨rfl, rfl⟩ | ⟨q, L, cs, rfl, g1, g2, g3, g4, g5⟩
  · refine ⟨⟨h1, by simp [h2, hv], by rw [h3]; simpa [srcN] using hb, trivial⟩, ?_, ?_, ?_⟩
    · rw [appV_nil, appH_nil, h2, h3]
      exact .inr ⟨H.length, 1, [v], rfl, by simp, by rw [obj_app0]; rfl, rfl, Nat.le_refl _, rfl⟩
    · intro q hq; rw [appV_nil] at hq; cases hq; exact .inr (Nat.le_refl _)
    · rw [appH_nil]; exact Fr.app _ _ _
  · refine ⟨⟨h1, by simp [h2, hv], by rw [h3]; exact hb, g1, by rw [g2, g3], by rw [g2], by rw [g2], by omega, .inl rfl⟩, ?_, ?_, ?_⟩
    · rw [appV_row, appH_row, h2, h3, g2]
      refine .inr ⟨q, _, _, by rw [List.length_append]; rfl, by rw [setO_length]; exact g1, by rw [obj_setO _ _ g1, g2], ?_, ?_, ?_⟩
      · simp only [appL, appC, Nat.zero_add, Nat.mul_one]
        split
        · simp [g3]
        · simp only [List.length_append, List.length_take, List.length_drop, List.length_cons, List.length_nil]; omega
      · simp only [appL, Nat.zero_add, Nat.mul_one, List.length_append, List.length_cons, List.length_nil]
        split <;> omega
      · simp only [appC, Nat.zero_add, Nat.mul_one, List.length_append, List.length_cons, List.length_nil]
        split
        · rename_i hh
          have : cs = vs := by rw [← g5, List.take_of_length_le (by omega)]
          subst this
          rw [List.take_of_length_le (by simp)]
        · rw [g5, List.take_append_of_le_length (by simp), List.take_of_length_le (by simp)]
    · intro q' hq; rw [appV_row] at hq; exact .inl hq
    · rw [appH_row]; exact Fr.set _ _ rfl
end
theorem bs_len (l : List UInt8) : (bs l).length = l.length := List.length_map _
theorem setO_self {H : AH} {p : Nat} {cs : List AV} {sz : Nat} {w : Bool} (h : obj H p = ⟨cs, sz, w⟩) (hp : p < H.length) : setO H p cs = H := by
  have e : (⟨cs, (obj H p).sz, (obj H p).rw⟩ : AObj) = H[p] := by
    have : obj H p = H[p] := by simp [obj, List.getD_eq_getElem?_getD, List.getElem?_eq_getElem hp]
    rw [← this, h]
  rw [setO, e, List.set_getElem_self]
/-! ### Numbers' bytes, the highest first -/
def be : List UInt8 → Nat := List.foldl (fun n b => n * 256 + b.toNat) 0
def beN (k n : Nat) : List UInt8 := (List.range k).map fun i => UInt8.ofNat (n / 256 ^ (k - 1 - i))
theorem be_foldl (l : List UInt8) (a : Nat) : l.foldl (fun n b => n * 256 + b.toNat) a = a * 256 ^ l.length + be l := by
  induction l generalizing a with
  | nil => simp [be]
  | cons b r ih =>
    show r.foldl _ (a * 256 + b.toNat) = _
    have e : be (b :: r) = r.foldl (fun n b => n * 256 + b.toNat) (0 * 256 + b.toNat) := rfl
    rw [ih, e, ih, List.length_cons, Nat.pow_succ, Nat.add_mul, Nat.zero_mul, Nat.zero_add, Nat.mul_assoc, Nat.mul_comm 256, Nat.add_assoc]
theorem be_append (a b : List UInt8) : be (a ++ b) = be a * 256 ^ b.length + be b := by
  rw [be, List.foldl_append, be_foldl]; rfl
theorem be_snoc (a : List UInt8) (b : UInt8) : be (a ++ [b]) = be a * 256 + b.toNat := by
  rw [be_append]; simp [be]
theorem be_cons (b : UInt8) (r : List UInt8) : be (b :: r) = b.toNat * 256 ^ r.length + be r := by
  have e : be (b :: r) = r.foldl (fun n b => n * 256 + b.toNat) (0 * 256 + b.toNat) := rfl
  rw [e, be_foldl, Nat.zero_mul, Nat.zero_add]
theorem be_lt : ∀ l : List UInt8, be l < 256 ^ l.length
  | [] => by simp [be]
  | b :: r => by
    rw [be_cons, List.length_cons, Nat.pow_succ]
    have h1 := be_lt r
    have h2 : b.toNat < 256 := b.toNat_lt
    generalize 256 ^ r.length = m at *
    have : b.toNat * m ≤ 255 * m := Nat.mul_le_mul_right _ (by omega)
    omega
theorem beN_length (k n : Nat) : (beN k n).length = k := by simp [beN]
theorem beN_succ (k n : Nat) : beN (k + 1) n = beN k (n / 256) ++ [UInt8.ofNat n] := by
  rw [beN, List.range_succ, List.map_append, List.map_singleton]
  congr 1
  · apply List.map_congr_left
    intro i hi
    rw [List.mem_range] at hi
    rw [show k + 1 - 1 - i = (k - 1 - i) + 1 by omega, Nat.pow_succ, Nat.mul_comm, Nat.div_div_eq_div_mul]
  · simp
theorem be_beN (k n : Nat) : be (beN k n) = n % 256 ^ k := by
  induction k generalizing n with
  | zero => simp [beN, be, Nat.mod_one]
  | succ k ih =>
    rw [beN_succ, be_snoc, ih, Nat.pow_succ, Nat.mul_comm (256 ^ k), Nat.mod_mul]
    have : (UInt8.ofNat n).toNat = n % 256 := by simp
    omega
theorem beN_be (l : List UInt8) : beN l.length (be l) = l := by
  have key : ∀ (k : Nat) (l : List UInt8), l.length = k → beN k (be l) = l := by
    intro k
    induction k with
    | zero => intro l h; rw [List.eq_nil_of_length_eq_zero h]; rfl
    | succ k ih =>
      intro l h
      obtain ⟨a, b, rfl⟩ : ∃ a b, l = a ++ [b] := ⟨l.dropLast, l.getLast (by intro e; rw [e] at h; cases h), (List.dropLast_concat_getLast _).symm⟩
      have hb : b.toNat < 256 := b.toNat_lt
      rw [beN_succ, be_snoc, show (be a * 256 + b.toNat) / 256 = be a by omega, ih a (by simpa using h)]
      congr 1
      rw [show UInt8.ofNat (be a * 256 + b.toNat) = b from ?_]
      apply UInt8.toNat_inj.1
      simp
  exact key _ l rfl
/-- Disjoint bits. -/
theorem or_byte (a b : Nat) (h : b < 256) : a * 256 ||| b = a * 256 + b := by
  have := Nat.shiftLeft_add_eq_or_of_lt (i := 8) (b := b) (by omega) a
  rw [Nat.shiftLeft_eq] at this
  exact this.symm
/-- A run, step by step. -/
theorem run_seq {α : Type} (n : Nat) (Inv : Nat → α → Prop) (Step : Nat → α → α → Prop) (a0 : α) (h0 : Inv 0 a0) (h : ∀ k a, k < n → Inv k a → ∃ a', Step k a a' ∧ Inv (k + 1) a') :
    ∃ sq : Nat → α, sq 0 = a0 ∧ (∀ k, k ≤ n → Inv k (sq k)) ∧ ∀ k, k < n → Step k (sq k) (sq (k + 1)) := by
  classical
  let nx : Nat → α → α := fun k a => if hh : k < n ∧ Inv k a then Classical.choose (h k a hh.1 hh.2) else a
  let sq : Nat → α := fun k => Nat.rec a0 (fun k a => nx k a) k
  have hi : ∀ k, k ≤ n → Inv k (sq k) := by
    intro k
    induction k with
    | zero => exact fun _ => h0
    | succ k ih =>
      intro hk
      have hh : k < n ∧ Inv k (sq k) := ⟨by omega, ih (by omega)⟩
      show Inv (k + 1) (nx k (sq k))
      simp only [nx, dif_pos hh]
      exact (Classical.choose_spec (h k (sq k) hh.1 hh.2)).2
  refine ⟨sq, rfl, hi, fun k hk => ?_⟩
  have hh : k < n ∧ Inv k (sq k) := ⟨hk, hi k (by omega)⟩
  show Step k (sq k) (nx k (sq k))
  simp only [nx, dif_pos hh]
  exact (Classical.choose_spec (h k (sq k) hh.1 hh.2)).1
/-! ### A slice built by append, from nil -/
/-- The slice, and the objects, with n elements of sz cells each. -/
def rA (H : AH) (vs : List AV) (n : Nat) : AV := if n = 0 then nilS else .row H.length 0 n vs.length
def hA (sz : Nat) (H : AH) (vs : List AV) (n : Nat) : AH := if n = 0 then H else H ++ [⟨vs, sz, true⟩]
section
variable {sz n : Nat} {H : AH} {vs : List AV}
theorem rA_zero : rA H vs 0 = nilS := rfl
theorem hA_zero : hA sz H vs 0 = H := rfl
theorem hA_len : H.length ≤ (hA sz H vs n).length := by unfold hA; split <;> simp
theorem hA_old {i : Nat} (hi : i < H.length) : obj (hA sz H vs n) i = obj H i := by
  unfold hA; split
  · rfl
  · exact obj_old _ _ hi
theorem hA_set {i : Nat} (hi : i < H.length) (c : List AV) : setO (hA sz H vs n) i c = hA sz (setO H i c) vs n := by
  unfold hA; split
  · rfl
  · exact setO_old _ _ _ hi
theorem rA_len {H' : AH} (h : H'.length = H.length) : rA H' vs n = rA H vs n := by unfold rA; rw [h]
theorem build_app (hl : vs.length = n * sz) {s : AV} {cs : List AV} {b : Nat} (h1 : srcOk sz (hA sz H vs n) s) (h2 : srcC sz (hA sz H vs n) s = cs) (h3 : srcN s = 1) (hc : cs.all AV.one = true) (hb : (n + 1) * b ≤ 140737488355328) :
    appOk sz b (hA sz H vs n) (rA H vs n) s ∧ appV sz (hA sz H vs n) s (rA H vs n) = rA H (vs ++ cs) (n + 1) ∧ appH sz (hA sz H vs n) s (rA H vs n) = hA sz H (vs ++ cs) (n + 1) := by
  by_cases h0 : n = 0
  · subst h0
    obtain rfl : vs = [] := List.eq_nil_of_length_eq_zero (by omega)
    simp only [rA, hA, if_true] at *
    refine ⟨⟨h1, by rw [h2]; exact hc, by rw [h3]; simpa [srcN] using hb, trivial⟩, ?_, ?_⟩
    · rw [appV_nil, h2, h3, if_neg (by omega)]; rfl
    · rw [appH_nil, h2, if_neg (by omega)]; rfl
  · simp only [rA, hA, if_neg h0, if_neg (show ¬ n + 1 = 0 by omega)] at *
    refine ⟨⟨h1, by rw [h2]; exact hc, by rw [h3]; exact hb, by simp, by rw [obj_app0]; rfl, by rw [obj_app0]; rfl, by rw [obj_app0]; rfl, by show 0 + n * sz ≤ vs.length; omega, .inl rfl⟩, ?_, ?_⟩
    · rw [appV_row, h2, h3, appL_end (by omega), List.length_append]
    · rw [appH_row, h2, h3, obj_app0, setO_app0]
      show H ++ [⟨appC sz vs cs 0 n 1 vs.length, sz, true⟩] = _
      rw [appC_end (by omega)]
/-- A function's end that hands out what was built. -/
theorem leave_build (hz : 0 < sz) (hl : vs.length = n * sz) (hp : pureL vs = true) : Leave H (rA H vs n) (hA sz H vs n) (.view vs n false) H := by
  unfold rA hA
  split
  · rename_i h0
    subst h0
    obtain rfl : vs = [] := List.eq_nil_of_length_eq_zero (by omega)
    exact leave_le (le_nil false)
  · exact leave_drop (low_newrow (renk_none _) hz hl hp _ _ rfl)
theorem _root_.Go.Proofs.Ytgfploghjpbcaaa.Eng.Sl.hA {sz' n' : Nat} {x : AV} {cs : List AV} (h : Sl sz' H x cs n') : Sl sz' (Eng.hA sz H vs n) x cs n' := by
  unfold Eng.hA; split
  · exact h
  · exact h.app
theorem build_sl (hl : vs.length = n * sz) : Sl sz (hA sz H vs n) (rA H vs n) vs n := by
  unfold rA hA
  split
  · rename_i h0
    subst h0
    obtain rfl : vs = [] := List.eq_nil_of_length_eq_zero (by omega)
    exact .nil
  · have e : obj (H ++ [⟨vs, sz, true⟩]) H.length = ⟨vs, sz, true⟩ := by rw [obj_app0]; rfl
    exact .row (by simp) (by rw [e]) (by show 0 + n * sz ≤ vs.length; omega) (by rw [e, List.drop_zero, List.take_of_length_le (by show vs.length ≤ _; omega)]) (.inl (by rw [e]))
end
end Go.Proofs.Ytgfploghjpbcaaa.Eng
