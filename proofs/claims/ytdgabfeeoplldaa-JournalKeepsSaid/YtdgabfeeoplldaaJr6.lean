/- Layer 16: what a flash's bytes say, behind appends and cuts. (No program in sight.) -/
import Derived.Test.YtdgabfeeoplldaaJr5
namespace Go.Proofs.Ytdgabfeeoplldaa.Eng
open Go Go.Proofs
set_option linter.unusedVariables false
set_option linter.unusedSimpArgs false
theorem wr_before {B l : List UInt8} {a p q : Nat} (h : p + q ≤ a) (ha : a + l.length ≤ B.length) : ((wr B a l).drop p).take q = (B.drop p).take q := by
  rw [wr, List.append_assoc, List.drop_append_of_le_length (by simp; omega), List.take_append_of_le_length (by simp; omega), List.drop_take, List.take_take, Nat.min_eq_left (by omega)]
theorem wr_at {B l : List UInt8} {a q : Nat} (ha : a + l.length ≤ B.length) (hq : q = l.length) : ((wr B a l).drop a).take q = l := by
  rw [wr, List.append_assoc, List.drop_left' (by simp; omega), hq, List.take_left]
theorem wr_after {B l : List UInt8} {a p : Nat} (ha : a + l.length ≤ B.length) (hp : a + l.length ≤ p) : (wr B a l).drop p = B.drop p := by
  have e : (B.take a ++ l).length = a + l.length := by simp; omega
  rw [wr, List.drop_append, List.drop_eq_nil_of_le (by omega), List.nil_append, List.drop_drop, e]
  congr 1
  omega
theorem wr_part {B l : List UInt8} {a m : Nat} (ha : a + m ≤ B.length) (hl : l.length ≤ m) : ((wr B a l).drop a).take m = l ++ ((B.drop a).take m).drop l.length := by
  rw [wr, List.append_assoc, List.drop_left' (by simp; omega), List.take_append, List.take_of_length_le hl, List.drop_take, List.drop_drop]
def slotOf (B : List UInt8) (k : Nat) : List UInt8 := (B.drop (k * 24)).take 24
theorem ofB_beN {n : Nat} (h : n < 4611686018427387904) : ofB (beN 8 n) = n := by
  rw [ofB, be_beN, Nat.mod_eq_of_lt (by omega), if_neg (by omega)]
theorem slotB_parts (t e : Nat) : (slotB t e).take 8 = beN 8 t ∧ ((slotB t e).drop 8).take 8 = beN 8 e ∧ (slotB t e).drop 16 = beN 8 t := by
  have h1 := beN_length 8 t
  have h2 := beN_length 8 e
  refine ⟨?_, ?_, ?_⟩
  · rw [slotB, List.take_left' h1]
  · rw [slotB, List.drop_left' h1, List.take_left' h2]
  · rw [slotB, ← List.append_assoc, List.drop_left' (by rw [List.length_append, h1, h2])]
theorem rd_slotB {t e : Nat} (ht : t < 4611686018427387904) (he : e < 4611686018427387904) (room : Int) : rd (slotB t e) room = if t < 1 ∨ (e : Int) > room then (0, 0) else ((t : Int), (e : Int)) := by
  obtain ⟨h1, h2, h3⟩ := slotB_parts t e
  rw [rd, h1, h2, h3, ofB_beN ht, ofB_beN he]
  by_cases hc : t < 1 ∨ (e : Int) > room
  · rw [if_pos hc, if_pos (by omega)]
  · rw [if_neg hc, if_neg (by omega)]
theorem rd_turn (l : List UInt8) (room : Int) : rd l room = (0, 0) ∨ (1 ≤ ofB (l.take 8) ∧ ofB (l.take 8) = ofB (l.drop 16) ∧ (rd l room).1 = ofB (l.take 8)) := by
  unfold rd
  split
  · exact .inl rfl
  · rename_i h; exact .inr ⟨by omega, by omega, rfl⟩
theorem rd_mix {T e e' n : Nat} (hT : T < 1048576) (hn : n < 24) (room : Int) : (rd ((slotB (T + 1) e).take n ++ (slotB (T - 1) e').drop n) room).1 < T ∨ (T = 0 ∧ rd ((slotB (T + 1) e).take n ++ (slotB (T - 1) e').drop n) room = (0, 0)) := by
  have l1 := slotB_length (T + 1) e
  have l2 := slotB_length (T - 1) e'
  obtain ⟨a1, a2, a3⟩ := slotB_parts (T + 1) e
  obtain ⟨b1, b2, b3⟩ := slotB_parts (T - 1) e'
  generalize hM : (slotB (T + 1) e).take n ++ (slotB (T - 1) e').drop n = M
  rcases rd_turn M room with h | ⟨h1, h2, h3⟩
  · rw [h]
    by_cases h0 : T = 0
    · exact .inr ⟨h0, rfl⟩
    · left; show (0 : Int) < T; omega
  · left
    rw [h3]
    by_cases h16 : n ≤ 16
    · have : M.drop 16 = beN 8 (T - 1) := by
        rw [← hM, List.drop_append, List.drop_eq_nil_of_le (by simp; omega), List.nil_append, List.drop_drop, List.length_take, Nat.min_eq_left (by omega), show n + (16 - n) = 16 by omega, b3]
      rw [this, ofB_beN (by omega)] at h2
      omega
    · exfalso
      have e1 : M.take 8 = beN 8 (T + 1) := by
        rw [← hM, List.take_append_of_le_length (by simp; omega), List.take_take, Nat.min_eq_left (by omega), a1]
      have e2 : M.drop 16 = (beN 8 (T + 1)).take (n - 16) ++ (beN 8 (T - 1)).drop (n - 16) := by
        rw [← hM, List.drop_append_of_le_length (by simp; omega), List.drop_take, a3, ← b3, List.drop_drop, show 16 + (n - 16) = n by omega]
      rw [e1, ofB_beN (by omega)] at h2
      rw [e2, beN_succ 7 (T - 1), List.drop_append_of_le_length (by rw [beN_length]; omega), ← List.append_assoc] at h2
      generalize (beN 8 (T + 1)).take (n - 16) ++ (beN 7 ((T - 1) / 256)).drop (n - 16) = a at h2
      rw [ofB] at h2
      have h5 := be_snoc a (UInt8.ofNat (T - 1))
      have h6 : (UInt8.ofNat (T - 1)).toNat = (T - 1) % 256 := by simp
      split at h2 <;> omega
/-- What a flash that was written says. -/
structure INV (B : List UInt8) (T E : Nat) (rs : List (List UInt8)) : Prop where
  lo : 64 ≤ B.length
  hi : B.length ≤ 1048576
  own : rd (slotOf B (T % 2)) ((B.length : Int) - 48) = ((T : Int), (E : Int))
  oth : (rd (slotOf B ((T + 1) % 2)) ((B.length : Int) - 48)).1 < T ∨ (T = 0 ∧ rd (slotOf B ((T + 1) % 2)) ((B.length : Int) - 48) = (0, 0))
  room : 48 + E ≤ B.length
  area : (B.drop 48).take E = encs rs
  recs : ∀ r ∈ rs, 1 ≤ r.length ∧ r.length ≤ 2000
theorem INV.len {B : List UInt8} {T E : Nat} {rs : List (List UInt8)} (h : INV B T E rs) : (encs rs).length = E := by
  have := h.room
  rw [← h.area]; simp; omega
/-- What is opened of it. -/
theorem INV.open' {B : List UInt8} {T E : Nat} {rs : List (List UInt8)} (h : INV B T E rs) : (if (rd (B.take 24) ((B.length : Int) - 48)).1 < (rd ((B.drop 24).take 24) ((B.length : Int) - 48)).1 then rd ((B.drop 24).take 24) ((B.length : Int) - 48) else rd (B.take 24) ((B.length : Int) - 48)) = ((T : Int), (E : Int)) := by
  have s0 : slotOf B 0 = B.take 24 := by simp [slotOf]
  have s1 : slotOf B 1 = (B.drop 24).take 24 := by simp [slotOf]
  rw [← s0, ← s1]
  have h1 := h.own
  have h2 := h.oth
  rcases Nat.mod_two_eq_zero_or_one T with hm | hm
  · rw [hm] at h1
    rw [show (T + 1) % 2 = 1 by omega] at h2
    rw [h1, if_neg]
    show ¬ (T : Int) < _
    rcases h2 with h2 | ⟨h2, h3⟩
    · omega
    · rw [h3]; show ¬ (T : Int) < 0; omega
  · rw [hm] at h1
    rw [show (T + 1) % 2 = 0 by omega] at h2
    rw [h1, if_pos]
    show _ < (T : Int)
    rcases h2 with h2 | ⟨h2, h3⟩
    · exact h2
    · omega
theorem slot_at {C s : List UInt8} {k : Nat} (hC : 48 ≤ C.length) (hk : k < 2) (hs : s.length = 24) : slotOf (wr C (k * 24) s) k = s := wr_at (by omega) hs.symm
theorem slot_other {C s : List UInt8} {k k' : Nat} (hC : 48 ≤ C.length) (hk : k < 2) (hk' : k' < 2) (hne : k' ≠ k) (hs : s.length ≤ 24) : slotOf (wr C (k * 24) s) k' = slotOf C k' := by
  unfold slotOf
  rcases (show (k' = 0 ∧ k = 1) ∨ (k' = 1 ∧ k = 0) by omega) with ⟨rfl, rfl⟩ | ⟨rfl, rfl⟩
  · exact wr_before (by omega) (by omega)
  · rw [wr_after (by omega) (by omega)]
theorem slot_area {B s : List UInt8} {E k : Nat} (hk : k < 2) (hs : 48 + E + s.length ≤ B.length) : slotOf (wr B (48 + E) s) k = slotOf B k := wr_before (by omega) hs
theorem area_app {B s t : List UInt8} {E k : Nat} (hk : k < 2) (hs : 48 + E + s.length ≤ B.length) (ht : t.length ≤ 24) : ((wr (wr B (48 + E) s) (k * 24) t).drop 48).take (E + s.length) = (B.drop 48).take E ++ s := by
  rw [wr_after (by rw [wr_length hs]; omega) (by omega), wr, List.append_assoc, List.drop_append_of_le_length (by simp; omega), List.drop_take, Nat.add_sub_cancel_left, ← List.append_assoc, List.take_left' (by simp; omega)]
theorem area_keep {B s : List UInt8} {E : Nat} (hs : 48 + E + s.length ≤ B.length) : ((wr B (48 + E) s).drop 48).take E = (B.drop 48).take E := wr_before (by omega) hs
section
variable {B : List UInt8} {T E : Nat} {rs : List (List UInt8)} {l : List UInt8}
theorem app_slots (h : INV B T E rs) (hok : okApp B.length E false l) : slotOf (appB B T E l) ((T + 1) % 2) = slotB (T + 1) (E + 2 + l.length) ∧ slotOf (appB B T E l) (T % 2) = slotOf B (T % 2) := by
  have hr := okApp_room hok
  have hl := areaB_length hok
  have h64 := h.lo
  refine ⟨slot_at (by omega) (by omega) (slotB_length _ _), ?_⟩
  rw [appB, slot_other (by omega) (by omega) (by omega) (by omega) (by rw [slotB_length]; omega), areaB, slot_area (by omega) (by rw [recB_length]; omega)]
theorem INV.append (h : INV B T E rs) (hT : T < 1048576) (hok : okApp B.length E false l) : INV (appB B T E l) (T + 1) (E + 2 + l.length) (rs ++ [l]) := by
  have hr := okApp_room hok
  have hl := appB_length (T := T) hok
  obtain ⟨s1, s2⟩ := app_slots h hok
  have h64 := h.lo
  have hhi := h.hi
  refine ⟨by omega, by omega, ?_, ?_, by omega, ?_, ?_⟩
  · rw [s1, rd_slotB (by omega) (by omega), if_neg (by omega)]
  · left
    rw [show (T + 1 + 1) % 2 = T % 2 by omega, s2, hl, h.own]
    show (T : Int) < _
    omega
  · have e := area_app (B := B) (s := recB l) (t := slotB (T + 1) (E + 2 + l.length)) (E := E) (k := (T + 1) % 2) (by omega) (by rw [recB_length]; omega) (by rw [slotB_length]; omega)
    rw [recB_length] at e
    rw [show E + 2 + l.length = E + (l.length + 2) by omega] at e ⊢
    rw [appB, areaB, show E + 2 + l.length = E + (l.length + 2) by omega, e, h.area, encs_append]
    simp [encs]
  · intro r hr
    rcases List.mem_append.1 hr with hr | hr
    · exact h.recs r hr
    · rw [List.mem_singleton] at hr; subst hr; exact ⟨hok.2.1, hok.2.2.1⟩
/-- What a flash says on which nothing was cut off. -/
structure SINV (B : List UInt8) (T E : Nat) (rs : List (List UInt8)) : Prop where
  lo : 64 ≤ B.length
  hi : B.length ≤ 1048576
  own : slotOf B (T % 2) = slotB T E
  oth : ∃ e, slotOf B ((T + 1) % 2) = slotB (T - 1) e ∧ e < 4611686018427387904
  tl : T < 1048576
  zero : T = 0 → E = 0
  room : 48 + E ≤ B.length
  area : (B.drop 48).take E = encs rs
  recs : ∀ r ∈ rs, 1 ≤ r.length ∧ r.length ≤ 2000
theorem SINV.inv (h : SINV B T E rs) : INV B T E rs := by
  have hr := h.room
  have hh := h.hi
  have ht := h.tl
  have hz := h.zero
  refine ⟨h.lo, h.hi, ?_, ?_, h.room, h.area, h.recs⟩
  · rw [h.own, rd_slotB (by omega) (by omega)]
    split
    · rename_i hc
      have h0 : T = 0 := by omega
      rw [hz h0, h0]; rfl
    · rfl
  · obtain ⟨e, he, he2⟩ := h.oth
    rw [he, rd_slotB (by omega) he2]
    split
    · by_cases h0 : T = 0
      · exact .inr ⟨h0, rfl⟩
      · left; show (0 : Int) < T; omega
    · left; show ((T - 1 : Nat) : Int) < T; omega
theorem SINV.append (h : SINV B T E rs) (hT : T + 1 < 1048576) (hok : okApp B.length E false l) : SINV (appB B T E l) (T + 1) (E + 2 + l.length) (rs ++ [l]) := by
  have hi := h.inv.append h.tl hok
  obtain ⟨s1, s2⟩ := app_slots h.inv hok
  have hr := h.room
  have hh := h.hi
  refine ⟨hi.lo, hi.hi, s1, ⟨E, ?_, by omega⟩, hT, fun h0 => by omega, hi.room, hi.area, hi.recs⟩
  rw [show (T + 1 + 1) % 2 = T % 2 by omega, s2, h.own]; rfl
theorem torn1 (h : INV B T E rs) (hok : okApp B.length E false l) {n : Nat} : INV (tornB B T E l 1 n) T E rs := by
  have hr := okApp_room hok
  have hn : 48 + E + ((recB l).take n).length ≤ B.length := by rw [List.length_take, recB_length]; omega
  have hl := wr_length hn
  have e : tornB B T E l 1 n = wr B (48 + E) ((recB l).take n) := if_pos rfl
  rw [e]
  refine ⟨by rw [hl]; exact h.lo, by rw [hl]; exact h.hi, ?_, ?_, by rw [hl]; exact h.room, ?_, h.recs⟩
  · rw [slot_area (by omega) hn, hl]; exact h.own
  · rw [slot_area (by omega) hn, hl]; exact h.oth
  · rw [area_keep hn]; exact h.area
theorem torn2 (h : SINV B T E rs) (hok : okApp B.length E false l) {n : Nat} (hn : n < 24) : INV (tornB B T E l 2 n) T E rs := by
  have hr := okApp_room hok
  have ha := areaB_length hok
  have hi := h.inv
  have h64 := h.lo
  have hs := slotB_length (T + 1) (E + 2 + l.length)
  have hrl : 48 + E + (recB l).length ≤ B.length := by rw [recB_length]; omega
  have hnl : ((slotB (T + 1) (E + 2 + l.length)).take n).length = n := by rw [List.length_take]; omega
  have hl : (wr (areaB B E l) ((T + 1) % 2 * 24) ((slotB (T + 1) (E + 2 + l.length)).take n)).length = B.length := by rw [wr_length (by omega), ha]
  have e : tornB B T E l 2 n = wr (areaB B E l) ((T + 1) % 2 * 24) ((slotB (T + 1) (E + 2 + l.length)).take n) := if_neg (by decide)
  rw [e]
  refine ⟨by omega, by rw [hl]; exact h.hi, ?_, ?_, by rw [hl]; exact h.room, ?_, h.recs⟩
  · rw [slot_other (by omega) (by omega) (by omega) (by omega) (by omega), areaB, slot_area (by omega) hrl, ← areaB, hl]; exact hi.own
  · obtain ⟨e', he, _⟩ := h.oth
    have e2 : slotOf (wr (areaB B E l) ((T + 1) % 2 * 24) ((slotB (T + 1) (E + 2 + l.length)).take n)) ((T + 1) % 2) = (slotB (T + 1) (E + 2 + l.length)).take n ++ (slotB (T - 1) e').drop n := by
      rw [slotOf, wr_part (by omega) (by omega), hnl, ← slotOf, areaB, slot_area (by omega) hrl, he]
    rw [e2]
    exact rd_mix h.tl hn _
  · have e3 := area_app (B := B) (s := recB l) (t := (slotB (T + 1) (E + 2 + l.length)).take n) (E := E) (k := (T + 1) % 2) (by omega) hrl (by omega)
    have e4 := congrArg (List.take E) e3
    rw [List.take_take, Nat.min_eq_left (by omega), List.take_append_of_le_length (by simp; omega), List.take_take, Nat.min_self] at e4
    rw [areaB, e4]; exact h.area
theorem torn24 (hok : okApp B.length E false l) : tornB B T E l 2 24 = appB B T E l := by
  rw [tornB, if_neg (by decide), List.take_of_length_le (by rw [slotB_length]; exact Nat.le_refl _)]; rfl
/-- A new flash. -/
theorem SINV.new {n : Nat} (h1 : 64 ≤ n) (h2 : n ≤ 1048576) : SINV (List.replicate n 0) 0 0 [] := by
  have e : ∀ k, k < 2 → slotOf (List.replicate n 0) k = slotB 0 0 := by
    intro k hk
    rw [slotOf, List.drop_replicate, List.take_replicate, Nat.min_eq_left (by omega)]
    rfl
  exact ⟨by simpa using h1, by simpa using h2, e 0 (by decide), ⟨0, e 1 (by decide), by decide⟩, by decide, fun _ => rfl, by simp; omega, rfl, by simp⟩
end
end Go.Proofs.Ytdgabfeeoplldaa.Eng
