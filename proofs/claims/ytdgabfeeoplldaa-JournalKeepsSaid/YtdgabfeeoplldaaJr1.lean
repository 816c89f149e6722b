/- Layers 15, 16: what the functions of flash, and the inner ones of journal, come to. -/
import Derived.Test.YtdgabfeeoplldaaCjr
import Derived.Test.YtdgabfeeoplldaaEngU
namespace Go.Proofs.Ytdgabfeeoplldaa.Eng
open Go Go.Proofs
set_option linter.unusedVariables false
set_option linter.unusedSimpArgs false
set_option maxRecDepth 10000
abbrev eAV (n : Int) : AV := .lit (.iface T.api_Code (.int .i64 n))
theorem t_clone {H : AH} {x : AV} {cs : List AV} {n : Nat} (hx : Sl 1 H x cs n) (hp : pureL cs = true) (h1 : cs.all AV.one = true) (hn : n ≤ 140737488355328) : Called Try.prog F.slices_Clone_byte_byte [x] H (.view cs n false) H := by
  have hl := hx.length
  refine e_slices_Clone_byte_byte ?_
  simp only [ic_slices_Clone_byte_byte, go_sem]
  refine hx.nilc (fun h0 => ?_) ?_
  · subst h0
    have : cs = [] := List.eq_nil_of_length_eq_zero (by omega)
    subst this
    exact leave_le (le_nil false)
  · simp only [go_sem, hx.s]
    refine ⟨⟨h1, by omega⟩, ?_⟩
    exact leave_drop (low_newrow (renk_none _) (by decide) hl hp _ _ rfl)
theorem t_cloneB {H : AH} {x : AV} {l : List UInt8} (hx : Sl 1 H x (bs l) l.length) (hn : l.length ≤ 140737488355328) : Called Try.prog F.slices_Clone_byte_byte [x] H (vB l false) H :=
  t_clone hx (pure_bs _) (one_bs _) hn
/-! ### Flashes -/
/-- A flash f, of bytes B, which lie in the row r. -/
structure FL (H : AH) (f r : Nat) (B : List UInt8) : Prop where
  hf : f < H.length
  hr : r < H.length
  ne : f ≠ r
  of : obj H f = ⟨[.row r 0 B.length B.length], 0, true⟩
  or : obj H r = ⟨bs B, 1, true⟩
theorem FL.frame {H H' : AH} {f r : Nat} {B : List UInt8} (h : FL H f r B) {S : Nat → Prop} (hf : Fr H H' S) (h1 : ¬ S f) (h2 : ¬ S r) : FL H' f r B :=
  ⟨Nat.lt_of_lt_of_le h.hf hf.1, Nat.lt_of_lt_of_le h.hr hf.1, h.ne, (hf.2 f h.hf h1).trans h.of, (hf.2 r h.hr h2).trans h.or⟩
theorem FL.sl {H : AH} {f r : Nat} {B : List UInt8} (h : FL H f r B) : Sl 1 H (.row r 0 B.length B.length) (bs B) B.length :=
  .row h.hr (by rw [h.or]; simp) (by omega) (by rw [h.or]; simp [List.take_of_length_le]) (.inl (by rw [h.or]))
theorem t_fnew {H : AH} {n : Nat} (h1 : 1 ≤ n) (h2 : n ≤ 1048576) : Called Try.prog F.flash_New [I n] H (.tup [.ptr (H.length + 1) 0, nilE]) (H ++ [⟨bs (List.replicate n 0), 1, true⟩, ⟨[.row H.length 0 n n], 0, true⟩]) := by
  refine e_flash_New ?_
  simp only [ic_flash_New, go_sem, mkslOk]
  have e : (List.replicate n [AV.lit (.int .u8 0)]).flatten = bs (List.replicate n 0) := by
    rw [bs, List.map_replicate]
    induction n with
    | zero => rfl
    | succ n ih => rw [List.replicate_succ, List.flatten_cons, List.replicate_succ]; cases n with
      | zero => rfl
      | succ n => rw [ih (by omega) (by omega)]; rfl
  refine ⟨fun h => by simp at h; omega, fun _ => ⟨by omega, ?_⟩⟩
  rw [e]
  exact Leave.refl _ _ _
theorem t_fsize {H : AH} {f r : Nat} {B : List UInt8} (h : FL H f r B) : Called Try.prog F.flash_Flash_Size [.ptr f 0] H (I B.length) H := by
  refine e_flash_Flash_Size ?_
  simp only [ic_flash_Flash_Size, go_sem, h.of, h.hf]
  exact Leave.refl _ _ _
theorem t_fbytes {H : AH} {f r : Nat} {B : List UInt8} (h : FL H f r B) (hn : B.length ≤ 1048576) : Called Try.prog F.flash_Flash_Bytes [.ptr f 0] H (vB B false) H := by
  refine e_flash_Flash_Bytes ?_
  simp only [ic_flash_Flash_Bytes, go_sem, h.of, h.hf]
  refine callW_some (t_cloneB h.sl (by omega)) (fun _ => rfl) ?_
  simp only [go_sem]
  exact Leave.refl _ _ _
theorem t_fthere {H : AH} {f r : Nat} {B : List UInt8} (h : FL H f r B) (hB : B.length ≤ 1048576) {a n : Nat} (ha : a + n ≤ B.length) : Called Try.prog F.flash_Flash_there [.ptr f 0, I a, I n] H (Bl true) H := by
  refine e_flash_Flash_there ?_
  simp only [ic_flash_Flash_there, go_sem, h.of, h.hf]
  rw [w64 _ (by omega) (by omega)]
  refine leave_same ?_
  congr 2
  simp
  omega
/-- Bytes, written. -/
def wr (B : List UInt8) (a : Nat) (l : List UInt8) : List UInt8 := B.take a ++ l ++ B.drop (a + l.length)
theorem wr_length {B : List UInt8} {a : Nat} {l : List UInt8} (h : a + l.length ≤ B.length) : (wr B a l).length = B.length := by simp [wr]; omega
theorem splice_eq (cs : List AV) (a : Nat) (l : List AV) (h : a + l.length ≤ cs.length) : splice cs a l = cs.take a ++ l ++ cs.drop (a + l.length) := by
  unfold splice
  split
  · rename_i v
    simp only [List.length_cons, List.length_nil] at *
    rw [List.set_eq_take_append_cons_drop, if_pos (by omega)]
    simp
  · rfl
theorem t_ftear {H : AH} {f r : Nat} {B : List UInt8} (h : FL H f r B) (hB : B.length ≤ 1048576) {a n : Nat} {l : List UInt8} {fl : Bool} (ha : a + l.length ≤ B.length) (hn : n ≤ l.length) :
    Called Try.prog F.flash_Flash_Tear [.ptr f 0, I a, vB l fl, I n] H nilE (setO H r (bs (wr B a (l.take n)))) := by
  refine e_flash_Flash_Tear ?_
  simp only [ic_flash_Flash_Tear, go_sem]
  refine callW_some (t_fthere h hB ha) (fun _ => rfl) ?_
  simp only [go_sem, h.of, h.hf, h.or, h.hr]
  refine ⟨fun hh => by simp at hh; omega, fun _ => ⟨⟨by simp, by omega, by omega, by omega⟩, ⟨by omega, by simp⟩, ⟨?_, ?_, ?_⟩, ?_⟩⟩
  · simp only [srcOk, cut, List.length_take, List.length_drop, List.length_map]; omega
  · simp only [srcC, cut, ← List.map_drop, ← List.map_take]; exact one_bs _
  · exact ⟨h.hr, by rw [h.or]; simp, by rw [h.or], by omega⟩
  · have e : ∀ g, copyH 1 H (AV.view (cut (bs l) 1 0 n) n g) (AV.row r a (B.length - a) B.length) = setO H r (bs (wr B a (l.take n))) := by
      intro g
      simp only [copyH, h.or, copyN, srcN, srcC]
      congr 1
      rw [show min n (B.length - a) = n by omega, Nat.mul_one]
      have e2 : (cut (bs l) 1 0 n).take n = bs (l.take n) := by simp [cut, bs, List.map_take, List.take_take]
      rw [e2, splice_eq _ _ _ (by simp; omega), wr]
      simp [bs, List.map_take, List.map_drop]
    rw [e]
    exact Leave.refl _ _ _
theorem t_fwrite {H : AH} {f r : Nat} {B : List UInt8} (h : FL H f r B) (hB : B.length ≤ 1048576) {a : Nat} {l : List UInt8} {fl : Bool} (ha : a + l.length ≤ B.length) :
    Called Try.prog F.flash_Flash_Write [.ptr f 0, I a, vB l fl] H nilE (setO H r (bs (wr B a l))) := by
  refine e_flash_Flash_Write ?_
  simp only [ic_flash_Flash_Write, go_sem]
  have := t_ftear h hB (fl := fl) ha (Nat.le_refl _)
  rw [List.take_length] at this
  refine callW_some this (fun h => absurd h (by decide)) ?_
  simp only [go_sem]
  exact Leave.refl _ _ _
theorem FL.wr {H : AH} {f r : Nat} {B : List UInt8} (h : FL H f r B) {a : Nat} {l : List UInt8} (ha : a + l.length ≤ B.length) : FL (setO H r (bs (Eng.wr B a l))) f r (Eng.wr B a l) := by
  have hl := wr_length ha
  exact ⟨by rw [setO_length]; exact h.hf, by rw [setO_length]; exact h.hr, h.ne, by rw [obj_setO_ne _ _ h.ne.symm, h.of, hl], by rw [obj_setO _ _ h.hr, h.or]⟩
/-! ### Numbers -/
theorem u8sh (n k : Nat) : IntKind.u8.wrap ((n : Int).fdiv (2 ^ (8 * k))) = ((UInt8.ofNat (n / 256 ^ k)).toNat : Int) := by
  have e : (n : Int).fdiv (2 ^ (8 * k)) = ((n / 256 ^ k : Nat) : Int) := by
    rw [Int.fdiv_eq_ediv_of_nonneg _ (Int.le_of_lt (Int.pow_pos (by decide))), Int.natCast_ediv, Int.pow_mul]
    simp
  rw [e]
  simp only [IntKind.wrap, IntKind.bits, IntKind.signed]
  simp
theorem t_number {H : AH} {n : Nat} (hn : n < 9223372036854775808) : Called Try.prog F.journal_number [I n] H (vB (beN 8 n) false) H := by
  refine e_journal_number ?_
  simp only [ic_journal_number, go_sem]
  refine w_loop _ (fun (k : Nat) => ([(0, I n), (3, rA H (bs ((beN 8 n).take k)) k), (4, I (7 - (k : Int)))], hA 1 H (bs ((beN 8 n).take k)) k)) (fun k => k ≤ 8) (fun k => 8 - k) 0 (by decide) rfl ?_
  intro k hk
  simp only [go_sem]
  refine ⟨fun h => ?_, fun h => ?_⟩
  · have hk : k ≤ 7 := by omega
    have e1 : IntKind.i64.wrap (8 * (7 - (k : Int))) = ((8 * (7 - k) : Nat) : Int) := by rw [w64 _ (by omega) (by omega)]; omega
    have e2 : IntKind.u8.wrap ((n : Int).fdiv (2 ^ min (8 * (7 - k)) 64)) = ((UInt8.ofNat (n / 256 ^ (7 - k))).toNat : Int) := by rw [Nat.min_eq_left (by omega)]; exact u8sh _ _
    obtain ⟨h1, h2, h3⟩ := build_app (H := H) (sz := 1) (n := k) (vs := bs ((beN 8 n).take k)) (by simp [beN_length]; omega) (s := .view [u8 (UInt8.ofNat (n / 256 ^ (7 - k)))] 1 true) (cs := [u8 (UInt8.ofNat (n / 256 ^ (7 - k)))]) (b := 1) rfl rfl rfl rfl (by omega)
    simp only [go_sem] at h1
    simp only [e1, Int.toNat_natCast, e2, h2, h3]
    refine ⟨by omega, h1, k + 1, ?_, ?_, by omega, by omega⟩
    all_goals
      have e3 : bs ((beN 8 n).take k) ++ [u8 (UInt8.ofNat (n / 256 ^ (7 - k)))] = bs ((beN 8 n).take (k + 1)) := by
        rw [take_snoc (by rw [beN_length]; omega) 0, bs, bs, List.map_append]
        congr 1
        rw [List.map_singleton, List.getD_eq_getElem?_getD, beN, List.getElem?_map, List.getElem?_range (by omega)]
        rfl
      rw [e3]
    · rw [w64 _ (by omega) (by omega), show (7 - (k : Int) - 1) = 7 - ((k + 1 : Nat) : Int) by omega]
  · obtain rfl : k = 8 := by omega
    have := leave_build (H := H) (sz := 1) (n := 8) (vs := bs ((beN 8 n).take 8)) (by decide) (by simp [beN_length]) (pure_bs _)
    rw [List.take_of_length_le (by rw [beN_length]; exact Nat.le_refl _)] at this ⊢
    have e : (AV.view (bs (beN 8 n)) 8 false) = vB (beN 8 n) false := by rw [vB, beN_length]
    rw [e] at this
    exact this
theorem or_u64 {a b : Nat} (ha : a < 72057594037927936) (hb : b < 256) : bOr .u64 ((a * 256 : Nat) : Int) (b : Int) = ((a * 256 + b : Nat) : Int) := by
  have h1 : (BitVec.ofInt 64 ((a * 256 : Nat) : Int) ||| BitVec.ofInt 64 (b : Int)).toNat = a * 256 + b := by
    rw [BitVec.toNat_or, BitVec.toNat_ofInt, BitVec.toNat_ofInt]
    have e1 : (((a * 256 : Nat) : Int) % ((2 ^ 64 : Nat) : Int)).toNat = a * 256 := by omega
    have e2 : ((b : Int) % ((2 ^ 64 : Nat) : Int)).toNat = b := by omega
    rw [e1, e2, or_byte _ _ hb]
  show IntKind.u64.wrap ((BitVec.ofInt 64 _ ||| BitVec.ofInt 64 _).toNat : Int) = _
  rw [h1, wu64 _ (by omega) (by omega)]
/-- What 'of' tells. -/
def ofB (l : List UInt8) : Int := if be l ≥ 4611686018427387904 then -1 else be l
theorem be_take {l : List UInt8} {i : Nat} (h : i < l.length) : be (l.take (i + 1)) = be (l.take i) * 256 + (l.getD i 0).toNat := by
  rw [take_snoc h 0, be_snoc]
theorem t_of {H : AH} {x : AV} {l : List UInt8} (hx : Sl 1 H x (bs l) l.length) (hl : l.length = 8) : Called Try.prog F.journal_of [x] H (I (ofB l)) H := by
  refine e_journal_of ?_
  simp only [ic_journal_of, go_sem, hx.s]
  refine w_loop _ (fun (k : Nat) => ([(3, .lit (.int .u64 (be (l.take k)))), (6, x), (7, I l.length), (8, I k)], H)) (fun k => k ≤ 8) (fun k => 8 - k) 0 (by decide) rfl ?_
  intro k hk
  simp only [go_sem, hl]
  refine ⟨fun h => ?_, fun h => ?_⟩
  · have hk : k < 8 := by omega
    have hb : (l.getD k 0).toNat < 256 := (l.getD k 0).toNat_lt
    have hlt : be (l.take k) < 256 ^ 7 := Nat.lt_of_lt_of_le (be_lt _) (Nat.pow_le_pow_right (by decide) (by rw [List.length_take]; omega))
    simp only [hx.idx, hx.ldOk _ (show k < l.length by omega) (Nat.le_refl 1), hx.ld1 _ (show k < l.length by omega), bs_get l k (by omega), go_sem]
    have e0 : IntKind.u64.wrap (((l.getD k 0).toNat : Nat) : Int) = ((l.getD k 0).toNat : Nat) := wu64 _ (by omega) (by omega)
    have e1 : IntKind.u64.wrap (((be (l.take k) : Nat) : Int) * 2 ^ (8 : Nat)) = ((be (l.take k) * 256 : Nat) : Int) := by
      rw [wu64 _ (by omega) (by omega)]; omega
    refine ⟨⟨by omega, by omega⟩, by decide, k + 1, ?_, by omega, by omega⟩
    rw [e0, e1, or_u64 (by omega) hb, ← be_take (by omega), w64 _ (by omega) (by omega)]
    rfl
  · obtain rfl : k = 8 := by omega
    rw [List.take_of_length_le (by omega)]
    refine ⟨fun h => leave_same ?_, fun h => leave_same ?_⟩
    · rw [ofB, if_pos (by omega)]
    · rw [ofB, if_neg (by omega), w64 _ (by omega) (by omega)]
theorem cut_bs (l : List UInt8) (a b : Nat) : cut (bs l) 1 a b = bs ((l.drop a).take (b - a)) := by simp [cut, bs, List.map_take, List.map_drop]
theorem sl_cut {H : AH} {l m : List UInt8} {a b n : Nat} {g : Bool} (h : (l.drop a).take (b - a) = m) (hn : m.length = n) : Sl 1 H (.view (cut (bs l) 1 a b) n g) (bs m) m.length := by
  subst hn; rw [cut_bs, h]; exact Sl.vB _ _
/-- What a slot tells. -/
def rd (l : List UInt8) (room : Int) : Int × Int :=
  if ofB (l.take 8) < 1 ∨ ofB (l.take 8) ≠ ofB (l.drop 16) ∨ ofB ((l.drop 8).take 8) < 0 ∨ ofB ((l.drop 8).take 8) > room then (0, 0) else (ofB (l.take 8), ofB ((l.drop 8).take 8))
theorem t_read {H : AH} {l : List UInt8} (hl : l.length = 24) (g : Bool) (room : Int) : Called Try.prog F.journal_read [.view (bs l) 24 g, I room] H (.agg [I (rd l room).1, I (rd l room).2]) H := by
  have k1 : (l.take 8).length = 8 := by simp; omega
  have k2 : ((l.drop 8).take 8).length = 8 := by simp; omega
  have k3 : (l.drop 16).length = 8 := by simp; omega
  refine e_journal_read ?_
  simp only [ic_journal_read, go_sem]
  refine ⟨⟨⟨by omega, by omega⟩, by simp; omega⟩, callW_some ⟨rfl, fun G => t_of (l := l.take 8) (sl_cut (by simp) k1) k1⟩ (fun _ => rfl) ?_⟩
  simp only [go_sem]
  refine ⟨⟨⟨by omega, by omega, by omega⟩, by simp; omega⟩, callW_some ⟨rfl, fun G => t_of (l := (l.drop 8).take 8) (sl_cut (by simp) k2) k2⟩ (fun _ => rfl) ?_⟩
  simp only [go_sem]
  refine ⟨fun _ => ⟨⟨by omega, by omega⟩, by simp; omega⟩, callG_of (fun _ => t_of (l := l.drop 16) (sl_cut (l := l) (List.take_of_length_le (by rw [k3]; decide)) k3) k3) ?_⟩
  simp only [go_sem]
  refine ⟨fun hh => leave_drop ?_, fun hh => leave_drop ?_⟩
  · rw [rd, if_pos (by simp at hh; omega)]; rfl
  · rw [rd, if_neg (by simp at hh; omega)]; rfl
/-- The record that bytes begin with; none: there is none. -/
def fst (l : List UInt8) : List UInt8 :=
  if l.length < 2 ∨ be (l.take 2) > 2000 ∨ be (l.take 2) > l.length - 2 then [] else (l.drop 2).take (be (l.take 2))
theorem be_two (l : List UInt8) (h : 2 ≤ l.length) : be (l.take 2) = (l.getD 0 0).toNat * 256 + (l.getD 1 0).toNat := by
  match l, h with
  | a :: b :: r, _ => simp [be]
theorem t_first {l : List UInt8} (hl : l.length ≤ 1048576) (g : Bool) : ∃ v, ∀ H, Called Try.prog F.journal_first [vB l g] H v H ∧ Sl 1 H v (bs (fst l)) (fst l).length := by
  by_cases h2 : l.length < 2
  · refine ⟨nilS, fun H => ⟨e_journal_first ?_, by rw [fst, if_pos (.inl h2)]; exact .nil⟩⟩
    simp only [ic_journal_first, go_sem]
    refine ⟨fun _ => Leave.refl _ _ _, fun hh => by omega⟩
  · have e := be_two l (by omega)
    have h0 := (l.getD 0 0).toNat_lt
    have h1 := (l.getD 1 0).toNat_lt
    have w1 := w64 ((l.getD 0 0).toNat : Int) (by omega) (by omega)
    have w2 := w64 ((l.getD 1 0).toNat : Int) (by omega) (by omega)
    have w3 := w64 (((l.getD 0 0).toNat : Int) * 2 ^ 8) (by omega) (by omega)
    have w4 : ((l.getD 0 0).toNat : Int) * 2 ^ 8 + ((l.getD 1 0).toNat : Int) = (be (l.take 2) : Nat) := by omega
    generalize hn : be (l.take 2) = n at *
    have w5 := w64 (n : Int) (by omega) (by omega)
    have w6 : IntKind.i64.wrap (2 + (n : Int)) = ((2 + n : Nat) : Int) := by rw [w64 _ (by omega) (by omega)]; omega
    have w7 := w64 ((l.length : Int) - 2) (by omega) (by omega)
    have e1 := elt_map1 u8 l 0 (by omega) 0
    have e2 := elt_map1 u8 l 1 (by omega) 0
    by_cases hb : n > 2000 ∨ n > l.length - 2
    · refine ⟨nilS, fun H => ⟨e_journal_first ?_, by rw [fst, hn, if_pos (.inr hb)]; exact .nil⟩⟩
      simp only [ic_journal_first, go_sem, e1, e2, w1, w2, w3, w4, w5, w6, w7]
      refine ⟨fun _ => Leave.refl _ _ _, fun hh => ⟨⟨by omega, by simp⟩, by decide, ⟨by omega, by omega, by simp⟩, fun _ => Leave.refl _ _ _, fun hh => by simp at hh; omega⟩⟩
    · refine ⟨_, fun H => ⟨e_journal_first ?_, by rw [fst, hn, if_neg (by omega)]; exact sl_cut (l := l) (a := 2) (b := 2 + n) (n := 2 + n - 2) (g := g && decide (((2 + n : Nat) : Int) = l.length)) (by simp) (by simp; omega)⟩⟩
      simp only [ic_journal_first, go_sem, e1, e2, w1, w2, w3, w4, w5, w6, w7]
      refine ⟨fun hh => by omega, fun hh => ⟨⟨by omega, by simp⟩, by decide, ⟨by omega, by omega, by simp⟩, fun hh => by simp at hh; omega, fun hh => ⟨⟨by omega, by simp⟩, Leave.refl _ _ _⟩⟩⟩
end Go.Proofs.Ytdgabfeeoplldaa.Eng
