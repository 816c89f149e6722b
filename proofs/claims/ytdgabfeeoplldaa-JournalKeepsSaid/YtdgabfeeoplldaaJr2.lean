/- Layer 16: a journal's writes. -/
import Derived.Test.YtdgabfeeoplldaaJr1
namespace Go.Proofs.Ytdgabfeeoplldaa.Eng
open Go Go.Proofs
set_option linter.unusedVariables false
set_option linter.unusedSimpArgs false
set_option maxRecDepth 10000
theorem t_grow {H : AH} {n : Nat} (h1 : 1 ≤ n) (h2 : n ≤ 1048576) : Called Try.prog F.slices_Grow_byte_byte [nilS, I n] H (.row H.length 0 0 n) (H ++ [⟨bs (List.replicate n 0), 1, true⟩]) := by
  have e : (List.replicate n [AV.lit (.int .u8 0)]).flatten = bs (List.replicate n 0) := by
    rw [bs, List.map_replicate, List.flatten_replicate_singleton]; rfl
  have w0 : IntKind.i64.wrap 0 = 0 := by decide
  have w1 := w64 (n : Int) (by omega) (by omega)
  refine e_slices_Grow_byte_byte ?_
  simp only [ic_slices_Grow_byte_byte, go_sem, appzOk, nilBase, w0, w1, e]
  refine ⟨fun hh => by omega, fun _ => ⟨fun _ => ⟨⟨by omega, by omega, by omega⟩, ⟨by simp, by omega⟩, Leave.refl _ _ _⟩, fun hh => by omega⟩⟩
theorem flat_take {α : Type} {ls : List (List α)} {k : Nat} (h : k < ls.length) : (ls.take (k + 1)).flatten = (ls.take k).flatten ++ ls.getD k [] := by
  rw [take_snoc h [], List.flatten_append]; simp
theorem flat_split {α : Type} (ls : List (List α)) (k : Nat) : ls.flatten = (ls.take k).flatten ++ (ls.drop k).flatten := by
  rw [← List.flatten_append, List.take_append_drop]
theorem t_concat {H : AH} {ls : List (List UInt8)} (g : Bool) (h1 : 1 ≤ ls.flatten.length) (h2 : ls.flatten.length ≤ 1048576) (h3 : ls.length ≤ 1048576) : Called Try.prog F.slices_Concat_byte_byte [.view (ls.map fun y => vB y false) ls.length g] H (vB ls.flatten false) H := by
  have hsp : ∀ k, (ls.take k).flatten.length ≤ ls.flatten.length := fun k => by rw [flat_split ls k, List.length_append]; omega
  refine e_slices_Concat_byte_byte ?_
  simp only [ic_slices_Concat_byte_byte, go_sem]
  refine w_loop _ (fun (k : Nat) => ([(0, .view (ls.map fun y => vB y false) ls.length g), (3, I ((ls.take k).flatten.length : Nat)), (9, .view (ls.map fun y => vB y false) ls.length g), (10, I ls.length), (11, I k)], H)) (fun k => k ≤ ls.length) (fun k => ls.length - k) 0 (Nat.zero_le _) rfl ?_
  intro k hk
  have hs := hsp k
  have hs1 := hsp (k + 1)
  simp only [go_sem]
  refine ⟨fun hh => ?_, fun hh => ?_⟩
  · have hk : k < ls.length := by omega
    have e1 := elt_map1 (fun y => vB y false) ls k hk []
    have e2 := flat_take hk
    rw [e2, List.length_append] at hs1
    have w1 : IntKind.i64.wrap (((ls.take k).flatten.length : Int) + ((ls.getD k []).length : Int)) = (((ls.take (k + 1)).flatten.length : Nat) : Int) := by rw [w64 _ (by omega) (by omega), e2, List.length_append]; omega
    have w2 : IntKind.i64.wrap ((k : Int) + 1) = ((k + 1 : Nat) : Int) := by rw [w64 _ (by omega) (by omega)]; omega
    simp only [go_sem, e1, w1, w2]
    refine ⟨⟨by omega, by omega, by simp⟩, fun hh => by omega, fun _ => ⟨k + 1, rfl, by omega, by omega⟩⟩
  · obtain rfl : k = ls.length := by omega
    rw [List.take_length]
    refine callW_some (t_grow h1 h2) (fun h => absurd h (by decide)) ?_
    simp only [go_sem]
    refine w_loop _ (fun (k : Nat) => ([(6, .row H.length 0 (ls.take k).flatten.length ls.flatten.length), (25, .view (ls.map fun y => vB y false) ls.length g), (26, I ls.length), (27, I k)], H ++ [⟨bs ((ls.take k).flatten ++ List.replicate (ls.flatten.length - (ls.take k).flatten.length) 0), 1, true⟩])) (fun k => k ≤ ls.length) (fun k => ls.length - k) 0 (Nat.zero_le _) rfl ?_
    intro k hk
    have hs := hsp k
    have hs1 := hsp (k + 1)
    simp only [go_sem]
    refine ⟨fun hh => ?_, fun hh => ?_⟩
    · have hk : k < ls.length := by omega
      have e1 := elt_map1 (fun y => vB y false) ls k hk []
      have e2 := flat_take hk
      rw [e2, List.length_append] at hs1
      have w2 : IntKind.i64.wrap ((k : Int) + 1) = ((k + 1 : Nat) : Int) := by rw [w64 _ (by omega) (by omega)]; omega
      have eL : appL 1 0 (ls.take k).flatten.length (ls.getD k []).length (ls.getD k []).length ls.flatten.length = ls.flatten.length := by
        rw [appL]; split <;> omega
      have eC : appC 1 (bs ((ls.take k).flatten ++ List.replicate (ls.flatten.length - (ls.take k).flatten.length) 0)) (bs (ls.getD k [])) 0 (ls.take k).flatten.length (ls.getD k []).length ls.flatten.length = bs ((ls.take (k + 1)).flatten ++ List.replicate (ls.flatten.length - (ls.take (k + 1)).flatten.length) 0) := by
        rw [e2, appC]
        split
        · rename_i h0
          have h4 : (ls.getD k []).length = 0 := by omega
          rw [List.eq_nil_of_length_eq_zero h4, List.append_nil]
          simp [bs]
        · simp only [bs, ← List.map_take, ← List.map_drop, ← List.map_append, Nat.zero_add, Nat.mul_one]
          rw [List.take_append_of_le_length (Nat.le_refl _), List.take_length, List.drop_append, List.drop_eq_nil_of_le (by omega), List.nil_append, List.drop_replicate, List.length_append]
          congr 3
          omega
      simp only [go_sem, e1, w2, eL, eC, one_bs, ← e2, List.length_map]
      refine ⟨⟨by omega, by omega⟩, ⟨by omega, by rw [List.length_replicate]; omega, by omega⟩, k + 1, ?_, rfl, by omega, by omega⟩
      rw [e2, List.length_append]
    · obtain rfl : k = ls.length := by omega
      simp only [List.take_length, Nat.sub_self, List.replicate_zero, List.append_nil]
      exact leave_drop (low_newrow (renk_none _) (by decide) (by rw [bs_len, Nat.mul_one]) (pure_bs _) _ _ (bs_len _).symm)
/-! ### Journals -/
/-- A journal j on the flash f. -/
structure JR (H : AH) (j f : Nat) (x : AV) (T E : Nat) (rs : List (List UInt8)) (sp : Bool) : Prop where
  hj : j < H.length
  oj : obj H j = ⟨[.ptr f 0, I T, I E, x, Bl sp], 0, true⟩
  gr : GR H x (rs.map fun r => vB r false)
  nx : rid x ≠ some j
theorem JR.frame {H H' : AH} {j f : Nat} {x : AV} {T E : Nat} {rs : List (List UInt8)} {sp : Bool} (h : JR H j f x T E rs sp) {S : Nat → Prop} (hf : Fr H H' S) (h1 : ¬ S j) (h2 : ∀ q, rid x = some q → ¬ S q) : JR H' j f x T E rs sp :=
  ⟨Nat.lt_of_lt_of_le h.hj hf.1, (hf.2 j h.hj h1).trans h.oj, h.gr.frame hf h2, h.nx⟩
def freeOf (N E : Nat) (sp : Bool) : Nat := if sp then 0 else min 2000 (N - 48 - E - 2)
theorem t_free {H : AH} {j f r : Nat} {x : AV} {T E : Nat} {rs : List (List UInt8)} {sp : Bool} {B : List UInt8} (hF : FL H f r B) (hJ : JR H j f x T E rs sp) (hB : B.length ≤ 1048576) (hE : E ≤ 1048576) : Called Try.prog F.journal_Journal_Free [.ptr j 0] H (I (freeOf B.length E sp)) H := by
  refine e_journal_Journal_Free ?_
  simp only [ic_journal_Journal_Free, go_sem, hJ.oj, hJ.hj]
  refine ⟨fun hh => ?_, fun hh => callW_some (t_fsize hF) (fun _ => rfl) ?_⟩
  · subst hh; exact leave_same rfl
  · subst hh
    have w1 := w64 ((B.length : Int) - 48) (by omega) (by omega)
    have w2 := w64 ((B.length : Int) - 48 - E) (by omega) (by omega)
    have w3 := w64 ((B.length : Int) - 48 - E - 2) (by omega) (by omega)
    simp only [go_sem, hJ.oj, hJ.hj, w1, w2, w3]
    refine leave_same (congrArg (fun n : Int => I n) ?_)
    simp only [freeOf, Bool.false_eq_true, if_false]
    split <;> (try split) <;> (try split) <;> omega
/-- What an append writes. -/
def recB (r : List UInt8) : List UInt8 := beN 2 r.length ++ r
def slotB (t e : Nat) : List UInt8 := beN 8 t ++ (beN 8 e ++ beN 8 t)
def okApp (N E : Nat) (sp : Bool) (r : List UInt8) : Prop := sp = false ∧ 1 ≤ r.length ∧ r.length ≤ 2000 ∧ r.length ≤ freeOf N E sp
theorem slotB_length (t e : Nat) : (slotB t e).length = 24 := by simp [slotB, beN_length]
theorem recB_length (r : List UInt8) : (recB r).length = r.length + 2 := by simp [recB, beN_length]; omega
theorem t_writes {H : AH} {j f r : Nat} {x : AV} {T E : Nat} {rs : List (List UInt8)} {sp : Bool} {B : List UInt8} (hF : FL H f r B) (hJ : JR H j f x T E rs sp) (hB : B.length ≤ 1048576) (hE : E ≤ 1048576) (hT : T ≤ 1048576) {l : List UInt8} {g : Bool} (hok : okApp B.length E sp l) :
    Called Try.prog F.journal_Journal_writes [.ptr j 0, vB l g] H (.tup [.agg [I (48 + E : Nat), vB (recB l) false, I ((T + 1) % 2 * 24 : Nat), vB (slotB (T + 1) (E + 2 + l.length)) false], nilE]) H := by
  obtain ⟨rfl, h1, h2, h3⟩ := hok
  refine e_journal_Journal_writes ?_
  have hj := hJ.hj
  have hj1 : j < H.length + 1 := by omega
  have hj2 : j < H.length + 2 := by omega
  have hj3 : j < H.length + 3 := by omega
  have w1 : IntKind.i64.wrap ((T : Int) + 1) = ((T + 1 : Nat) : Int) := by rw [w64 _ (by omega) (by omega)]; omega
  have w2 : IntKind.i64.wrap (48 + (E : Int)) = ((48 + E : Nat) : Int) := by rw [w64 _ (by omega) (by omega)]; omega
  have w3 : IntKind.u8.wrap ((l.length : Int).fdiv (2 ^ 8)) = ((UInt8.ofNat (l.length / 256)).toNat : Int) := u8sh l.length 1
  have w4 : IntKind.u8.wrap (l.length : Int) = ((UInt8.ofNat l.length).toNat : Int) := by simp only [IntKind.wrap, IntKind.bits, IntKind.signed]; simp
  have w5 : (((T + 1 : Nat) : Int).tmod 2) = (((T + 1) % 2 : Nat) : Int) := by rw [Int.tmod_eq_emod_of_nonneg (by omega)]; omega
  have w6 : IntKind.i64.wrap ((((T + 1) % 2 : Nat) : Int) * 24) = (((T + 1) % 2 * 24 : Nat) : Int) := by rw [w64 _ (by omega) (by omega)]; omega
  have w7 : IntKind.i64.wrap ((E : Int) + 2) = ((E + 2 : Nat) : Int) := by rw [w64 _ (by omega) (by omega)]; omega
  have w8 : IntKind.i64.wrap (((E + 2 : Nat) : Int) + (l.length : Int)) = ((E + 2 + l.length : Nat) : Int) := by rw [w64 _ (by omega) (by omega)]; omega
  simp only [ic_journal_Journal_writes, go_sem, hJ.oj, hJ.hj, obj_old _ _ hJ.hj, hj1]
  refine ⟨fun hh => by simp at hh; omega, fun _ => callW_some (t_free (hF.frame (Fr.app _ _ (fun _ => False)) id id) (hJ.frame (Fr.app _ _ (fun _ => False)) id (fun _ _ => id)) hB hE) (fun _ => rfl) ?_⟩
  simp only [go_sem, hJ.oj, hJ.hj, obj_old _ _ hJ.hj, hj1, w1]
  refine ⟨fun hh => by omega, fun _ => callW_some (t_number (by omega)) (fun _ => rfl) ?_⟩
  simp only [go_sem, hJ.oj, hJ.hj, obj_old _ _ hJ.hj, hj1, hj2, w1, w2, w3, w4, w5, w6, w7, w8]
  refine ⟨by decide, ⟨bs_len l, pure_bs _, one_bs _, by omega⟩, by decide, callW_some ⟨rfl, fun G => t_number (by omega)⟩ (fun _ => rfl) ?_⟩
  simp only [go_sem, pure_bs]
  have e1 : [beN 8 (T + 1), beN 8 (E + 2 + l.length), beN 8 (T + 1)].flatten = slotB (T + 1) (E + 2 + l.length) := by simp [slotB]
  have e2 : ∀ G, Called Try.prog F.slices_Concat_byte_byte [.view [vB (beN 8 (T + 1)) false, vB (beN 8 (E + 2 + l.length)) false, vB (beN 8 (T + 1)) false] 3 true] G (vB (slotB (T + 1) (E + 2 + l.length)) false) G := by
    intro G
    have := t_concat (H := G) (ls := [beN 8 (T + 1), beN 8 (E + 2 + l.length), beN 8 (T + 1)]) true (by rw [e1, slotB_length]; decide) (by rw [e1, slotB_length]; decide) (by simp)
    rw [e1] at this
    exact this
  refine callW_some ⟨rfl, fun G => e2 _⟩ (fun _ => rfl) ?_
  simp only [go_sem]
  have e3 : (AV.view (u8 (UInt8.ofNat (l.length / 256)) :: u8 (UInt8.ofNat l.length) :: bs l) (2 + l.length) false) = vB (recB l) false := by
    rw [vB, recB_length, Nat.add_comm 2]
    simp [recB, beN, List.range_succ, bs]
  exact leave_drop (by rw [e3]; rfl)
theorem t_writesErr {H : AH} {j f r : Nat} {x : AV} {T E : Nat} {rs : List (List UInt8)} {sp : Bool} {B : List UInt8} (hF : FL H f r B) (hJ : JR H j f x T E rs sp) (hB : B.length ≤ 1048576) (hE : E ≤ 1048576) {l : List UInt8} {g : Bool} (hl : l.length ≤ 1048576) (hno : ¬ okApp B.length E sp l) :
    ∃ c, Called Try.prog F.journal_Journal_writes [.ptr j 0, vB l g] H (.tup [.agg [I 0, nilS, I 0, nilS], eAV c]) H := by
  have hj := hJ.hj
  have hj1 : j < H.length + 1 := by omega
  by_cases h1 : sp = true
  · subst h1
    refine ⟨7, e_journal_Journal_writes ?_⟩
    simp only [ic_journal_Journal_writes, go_sem, hJ.oj, hJ.hj, obj_old _ _ hJ.hj, hj1]
    exact leave_drop rfl
  · obtain rfl : sp = false := by simpa using h1
    by_cases h2 : 1 ≤ l.length ∧ l.length ≤ 2000
    · refine ⟨6, e_journal_Journal_writes ?_⟩
      simp only [ic_journal_Journal_writes, go_sem, hJ.oj, hJ.hj, obj_old _ _ hJ.hj, hj1]
      refine ⟨fun hh => by simp at hh; omega, fun _ => callW_some (t_free (hF.frame (Fr.app _ _ (fun _ => False)) id id) (hJ.frame (Fr.app _ _ (fun _ => False)) id (fun _ _ => id)) hB hE) (fun _ => rfl) ?_⟩
      simp only [go_sem]
      refine ⟨fun _ => leave_drop rfl, fun hh => absurd ⟨rfl, h2.1, h2.2, by omega⟩ hno⟩
    · refine ⟨1, e_journal_Journal_writes ?_⟩
      simp only [ic_journal_Journal_writes, go_sem, hJ.oj, hJ.hj, obj_old _ _ hJ.hj, hj1]
      refine ⟨fun _ => leave_drop rfl, fun hh => by simp at hh; omega⟩
end Go.Proofs.Ytdgabfeeoplldaa.Eng
