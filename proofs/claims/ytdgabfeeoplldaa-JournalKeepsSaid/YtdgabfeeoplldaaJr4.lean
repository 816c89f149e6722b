/- Layer 16: a record refused, or cut off. -/
import Derived.Test.YtdgabfeeoplldaaJr3
namespace Go.Proofs.Ytdgabfeeoplldaa.Eng
open Go Go.Proofs
set_option linter.unusedVariables false
set_option linter.unusedSimpArgs false
set_option maxRecDepth 10000
theorem code_c : (pfx false).c T.api_Code = true := by decide
theorem t_appendErr {H : AH} {j f r : Nat} {x : AV} {T E : Nat} {rs : List (List UInt8)} {sp : Bool} {B : List UInt8} (hF : FL H f r B) (hJ : JR H j f x T E rs sp) (hB : B.length ≤ 1048576) (hE : E ≤ 1048576) {l : List UInt8} {g : Bool} (hl : l.length ≤ 1048576) (hno : ¬ okApp B.length E sp l) :
    ∃ c, Called Try.prog F.journal_Journal_Append [.ptr j 0, vB l g] H (eAV c) H := by
  obtain ⟨c, hc⟩ := t_writesErr (g := g) hF hJ hB hE hl hno
  refine ⟨c, e_journal_Journal_Append ?_⟩
  simp only [ic_journal_Journal_Append, go_sem]
  refine callW_some hc (fun _ => rfl) ?_
  simp only [go_sem, code_c]
  exact leave_drop rfl
def tornB (B : List UInt8) (T E : Nat) (l : List UInt8) (step n : Nat) : List UInt8 :=
  if step = 1 then wr B (48 + E) ((recB l).take n) else wr (areaB B E l) ((T + 1) % 2 * 24) ((slotB (T + 1) (E + 2 + l.length)).take n)
def okTear (N E : Nat) (sp : Bool) (l : List UInt8) (step n : Int) : Prop := okApp N E sp l ∧ (step = 1 ∨ step = 2) ∧ 0 ≤ n ∧ (step = 1 → n ≤ l.length + 2) ∧ (step = 2 → n ≤ 24)
theorem t_tear1 {H : AH} {j f r : Nat} {x : AV} {T E : Nat} {rs : List (List UInt8)} {sp : Bool} {B : List UInt8} (hF : FL H f r B) (hJ : JR H j f x T E rs sp) (hB : B.length ≤ 1048576) (hE : E ≤ 1048576) (hT : T ≤ 1048575)
    (hjr : j ≠ r) (hjf : j ≠ f) (hxr : rid x ≠ some r) (hxf : rid x ≠ some f) {l : List UInt8} {g : Bool} (hok : okApp B.length E sp l) {n : Nat} (hn : n ≤ l.length + 2) :
    ∃ H', Called Try.prog F.journal_Journal_Tear [.ptr j 0, vB l g, I 1, I n] H nilE H' ∧ FL H' f r (tornB B T E l 1 n) ∧ Fr H H' (fun i => i = j ∨ i = r) := by
  have hroom := okApp_room hok
  have hl2 : l.length ≤ 2000 := hok.2.2.1
  have hsp : sp = false := hok.1
  subst hsp
  have hj := hJ.hj
  have hr := hF.hr
  have hrl := recB_length l
  let o5 : AObj := ⟨[I (48 + E : Nat), vB (recB l) false, I ((T + 1) % 2 * 24 : Nat), vB (slotB (T + 1) (E + 2 + l.length)) false], 0, true⟩
  obtain ⟨H1, hH1⟩ : ∃ H1, H1 = setO H j [.ptr f 0, I T, I E, x, Bl true] := ⟨_, rfl⟩
  have hf1 : Fr H H1 (fun i => i = j) := hH1 ▸ Fr.set H _ rfl
  have hF1 : FL H1 f r B := hF.frame hf1 (fun h => hjf h.symm) (fun h => hjr h.symm)
  have hl1 : H1.length = H.length := by rw [hH1, setO_length]
  have hF2 : FL (H1 ++ [o5]) f r B := hF1.frame (Fr.app _ _ (fun _ => False)) id id
  have hwl : (wr B (48 + E) ((recB l).take n)).length = B.length := wr_length (by rw [List.length_take]; omega)
  refine ⟨setO (H1 ++ [o5]) r (bs (wr B (48 + E) ((recB l).take n))), ?_, ?_, ?_⟩
  · refine e_journal_Journal_Tear ?_
    simp only [ic_journal_Journal_Tear, go_sem]
    refine callW_some (t_writes hF hJ hB hE (by omega) hok) (fun _ => rfl) ?_
    have w0 : IntKind.i64.wrap (1 - 1) = ((0 : Nat) : Int) := by decide
    have q0 : ((1 : Int) != 1 && (1 : Int) != 2) = false := by decide
    have q1 : decide ((n : Int) < 0) = false := by simp
    have q2 : decide (((recB l).length : Int) < n) = false := by simp; omega
    have h1 := (hJ.frame (Fr.app H [o5] (fun _ => False)) id (fun _ _ => id)).oj
    simp only [o5] at h1
    have hj1 : j < H.length + 1 := by omega
    have e1 : ∀ X, setO H j [.ptr f 0, I T, I E, x, X] = setO H j [.ptr f 0, I T, I E, x, X] := fun _ => rfl
    have hF3 := hF2
    simp only [o5] at hF3
    simp only [go_sem, w0, q0, q1, q2]
    refine ⟨by decide, by decide, w_loop _ (fun (_ : Unit) => ([(0, .ptr j 0), (2, I 1), (3, I n), (9, .ptr H.length 0), (48, .row H.length 0 0 4), (49, I 0), (50, I 0)], H ++ [o5])) (fun _ => True) (fun _ => 0) () trivial rfl ?_⟩
    intro _ _
    have h2 : obj (H1 ++ [o5]) j = ⟨[.ptr f 0, I T, I E, x, Bl true], 0, true⟩ := by rw [obj_old _ _ (by omega), hH1, obj_setO _ _ hj, hJ.oj]
    have h3 : obj (H1 ++ [o5]) H.length = o5 := by rw [← hl1, obj_app0]; rfl
    simp only [go_sem, o5, h1, hj1, setO_old _ _ _ hj, ← hH1]
    refine ⟨fun h => absurd h (by decide), fun _ => ?_⟩
    simp only [o5] at h2 h3
    simp only [go_sem, w0, h2, h3, hl1]
    refine ⟨by omega, by decide, by decide, callW_some (t_ftear hF3 hB (by omega) (by omega)) (fun h => absurd h (by decide)) ?_⟩
    simp only [go_sem]
    exact Leave.refl _ _ _
  · rw [tornB, if_pos rfl]
    exact hF2.wr2 hwl
  · exact (hf1.mono fun i _ h => .inl h).trans ((Fr.app _ _ _).trans (Fr.set _ _ (.inr rfl)))
theorem t_tear2 {H : AH} {j f r : Nat} {x : AV} {T E : Nat} {rs : List (List UInt8)} {sp : Bool} {B : List UInt8} (hF : FL H f r B) (hJ : JR H j f x T E rs sp) (hB : B.length ≤ 1048576) (hE : E ≤ 1048576) (hT : T ≤ 1048575)
    (hjr : j ≠ r) (hjf : j ≠ f) (hxr : rid x ≠ some r) (hxf : rid x ≠ some f) {l : List UInt8} {g : Bool} (hok : okApp B.length E sp l) {n : Nat} (hn : n ≤ 24) :
    ∃ H', Called Try.prog F.journal_Journal_Tear [.ptr j 0, vB l g, I 2, I n] H nilE H' ∧ FL H' f r (tornB B T E l 2 n) ∧ Fr H H' (fun i => i = j ∨ i = r) := by
  have hroom := okApp_room hok
  have hl2 : l.length ≤ 2000 := hok.2.2.1
  have hsp : sp = false := hok.1
  subst hsp
  have hj := hJ.hj
  have hr := hF.hr
  have hrl := recB_length l
  have hsl := slotB_length (T + 1) (E + 2 + l.length)
  have hla := areaB_length hok
  let o5 : AObj := ⟨[I (48 + E : Nat), vB (recB l) false, I ((T + 1) % 2 * 24 : Nat), vB (slotB (T + 1) (E + 2 + l.length)) false], 0, true⟩
  let oa : AObj := ⟨[I (48 + E : Nat), vB (recB l) false], 0, true⟩
  obtain ⟨Ha, hHa⟩ : ∃ Ha, Ha = setO H r (bs (areaB B E l)) := ⟨_, rfl⟩
  have hfa : Fr H Ha (fun i => i = r) := hHa ▸ Fr.set H _ rfl
  have hFa : FL Ha f r (areaB B E l) := hHa ▸ hF.wr2 hla
  have hJa : JR Ha j f x T E rs false := hJ.frame hfa hjr (fun q hq h => hxr (h ▸ hq))
  have hll : Ha.length = H.length := by rw [hHa, setO_length]
  have hja := hJa.hj
  obtain ⟨H1, hH1⟩ : ∃ H1, H1 = setO Ha j [.ptr f 0, I T, I E, x, Bl true] := ⟨_, rfl⟩
  have hf1 : Fr Ha H1 (fun i => i = j) := hH1 ▸ Fr.set Ha _ rfl
  have hF1 : FL H1 f r (areaB B E l) := hFa.frame hf1 (fun h => hjf h.symm) (fun h => hjr h.symm)
  have hl1 : H1.length = Ha.length := by rw [hH1, setO_length]
  have hF2 : FL (H1 ++ [o5, oa]) f r (areaB B E l) := hF1.frame (Fr.app _ _ (fun _ => False)) id id
  have hwl : (wr (areaB B E l) ((T + 1) % 2 * 24) ((slotB (T + 1) (E + 2 + l.length)).take n)).length = (areaB B E l).length := wr_length (by rw [List.length_take]; omega)
  refine ⟨setO (H1 ++ [o5, oa]) r (bs (wr (areaB B E l) ((T + 1) % 2 * 24) ((slotB (T + 1) (E + 2 + l.length)).take n))), ?_, ?_, ?_⟩
  · refine e_journal_Journal_Tear ?_
    simp only [ic_journal_Journal_Tear, go_sem]
    refine callW_some (t_writes hF hJ hB hE (by omega) hok) (fun _ => rfl) ?_
    have w0 : IntKind.i64.wrap (2 - 1) = ((1 : Nat) : Int) := by decide
    have q0 : ((2 : Int) != 1 && (2 : Int) != 2) = false := by decide
    have q1 : decide ((n : Int) < 0) = false := by simp
    have q2 : decide (((slotB (T + 1) (E + 2 + l.length)).length : Int) < n) = false := by simp; omega
    simp only [go_sem, w0, hJ.oj, hj, Nat.one_mul, q0, q1, q2]
    let G : Nat → AH := fun k => match k with
      | 0 => H ++ [o5]
      | _ => Ha ++ [o5, oa]
    refine ⟨by decide, by decide, w_loop _ (fun (k : Nat) => ([(0, .ptr j 0), (2, I 2), (3, I n), (9, .ptr H.length 0), (48, .row H.length 0 1 4), (49, I 1), (50, I k)], G k)) (fun k => k ≤ 1) (fun k => 1 - k) 0 (by decide) rfl ?_⟩
    intro k hk
    have hk3 : k = 0 ∨ k = 1 := by omega
    rcases hk3 with rfl | rfl
    · have hF0 : FL (H ++ [o5, oa]) f r B := hF.frame (Fr.app _ _ (fun _ => False)) id id
      have p1 := (hJ.frame (Fr.app H [o5, oa] (fun _ => False)) id (fun _ _ => id)).oj
      simp only [o5, oa] at p1
      have hj1 : j < H.length + 2 := by omega
      simp only [go_sem, G, o5, oa, elt, Nat.reduceMul, p1, hj1]
      refine ⟨fun _ => ⟨by decide, callW_some (t_fwrite hF0 hB (by rw [recB_length]; omega)) (fun h => absurd h (by decide)) ?_⟩, fun h => absurd (by decide) h⟩
      simp only [go_sem]
      refine ⟨1, rfl, ?_, by omega, by omega⟩
      simp only [setO_old _ _ _ hr]; exact congrArg (· ++ _) hHa.symm
    · have p1 := (hJa.frame (Fr.app Ha [o5, oa] (fun _ => False)) id (fun _ _ => id)).oj
      have h2 : obj (H1 ++ [o5, oa]) j = ⟨[.ptr f 0, I T, I E, x, Bl true], 0, true⟩ := by rw [obj_old _ _ (by omega), hH1, obj_setO _ _ hja, hJa.oj]
      have h3 : obj (H1 ++ [o5, oa]) H.length = o5 := by rw [← hll, ← hl1, obj_app0]; rfl
      have hj1 : j < H.length + 2 := by omega
      have hj2 : H.length < H.length + 2 := by omega
      have hF3 := hF2
      simp only [o5, oa] at p1 h2 h3 hF3
      simp only [go_sem, G, o5, oa, p1, hll, hj1, setO_old _ _ _ hja, ← hH1]
      refine ⟨fun h => absurd h (by decide), fun _ => ?_⟩
      simp only [go_sem, w0, h2, h3, hl1, hll, hj1, hj2, Nat.one_mul]
      refine ⟨by decide, by decide, callW_some (t_ftear hF3 (by omega) (by omega) (by omega)) (fun h => absurd h (by decide)) ?_⟩
      simp only [go_sem]
      exact Leave.refl _ _ _
  · rw [tornB, if_neg (by decide)]
    exact hF2.wr2 hwl
  · exact (hfa.mono fun i _ h => .inr h).trans ((hf1.mono fun i _ h => .inl h).trans ((Fr.app _ _ _).trans (Fr.set _ _ (.inr rfl))))
theorem t_tearErr {H : AH} {j f r : Nat} {x : AV} {T E : Nat} {rs : List (List UInt8)} {sp : Bool} {B : List UInt8} (hF : FL H f r B) (hJ : JR H j f x T E rs sp) (hB : B.length ≤ 1048576) (hE : E ≤ 1048576) (hT : T ≤ 1048575) {l : List UInt8} {g : Bool} (hl : l.length ≤ 1048576) {step n : Int} (hs : ok64 step) (hno : ¬ okTear B.length E sp l step n) :
    ∃ c, Called Try.prog F.journal_Journal_Tear [.ptr j 0, vB l g, I step, I n] H (eAV c) H := by
  by_cases ho : okApp B.length E sp l
  · have hrl := recB_length l
    have hsl := slotB_length (T + 1) (E + 2 + l.length)
    refine ⟨1, e_journal_Journal_Tear ?_⟩
    simp only [ic_journal_Journal_Tear, go_sem]
    refine callW_some (t_writes hF hJ hB hE (by omega) ho) (fun _ => rfl) ?_
    by_cases h1 : step = 1
    · subst h1
      have w0 : IntKind.i64.wrap (1 - 1) = ((0 : Nat) : Int) := by decide
      have q0 : ((1 : Int) != 1 && (1 : Int) != 2) = false := by decide
      have q1 : (decide (n < 0) || decide (((recB l).length : Int) < n)) = true := by
        simp only [Bool.or_eq_true, decide_eq_true_eq]
        refine Classical.byContradiction fun hh => hno ⟨ho, .inl rfl, by omega, fun _ => by omega, fun h => absurd h (by decide)⟩
      simp only [go_sem, w0, q0, q1]
      exact ⟨fun _ => by decide, leave_drop rfl⟩
    · by_cases h2 : step = 2
      · subst h2
        have w0 : IntKind.i64.wrap (2 - 1) = ((1 : Nat) : Int) := by decide
        have q0 : ((2 : Int) != 1 && (2 : Int) != 2) = false := by decide
        have q1 : (decide (n < 0) || decide (((slotB (T + 1) (E + 2 + l.length)).length : Int) < n)) = true := by
          simp only [Bool.or_eq_true, decide_eq_true_eq]
          refine Classical.byContradiction fun hh => hno ⟨ho, .inr rfl, by omega, fun h => absurd h (by decide), fun _ => by omega⟩
        simp only [go_sem, w0, q0, q1, Nat.one_mul]
        exact ⟨fun _ => ⟨by decide, by decide⟩, leave_drop rfl⟩
      · have q0 : (step != 1 && step != 2) = true := by simp [h1, h2]
        simp only [go_sem, q0]
        exact leave_drop rfl
  · obtain ⟨c, hc⟩ := t_writesErr (g := g) hF hJ hB hE hl ho
    refine ⟨c, e_journal_Journal_Tear ?_⟩
    simp only [ic_journal_Journal_Tear, go_sem]
    refine callW_some hc (fun _ => rfl) ?_
    simp only [go_sem, code_c]
    exact leave_drop rfl
end Go.Proofs.Ytdgabfeeoplldaa.Eng
