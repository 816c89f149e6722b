/- Layer 16: a record appended. -/
import Derived.Test.YtdgabfeeoplldaaJr2
namespace Go.Proofs.Ytdgabfeeoplldaa.Eng
open Go Go.Proofs
set_option linter.unusedVariables false
set_option linter.unusedSimpArgs false
set_option maxRecDepth 10000
def areaB (B : List UInt8) (E : Nat) (l : List UInt8) : List UInt8 := wr B (48 + E) (recB l)
def appB (B : List UInt8) (T E : Nat) (l : List UInt8) : List UInt8 := wr (areaB B E l) ((T + 1) % 2 * 24) (slotB (T + 1) (E + 2 + l.length))
theorem okApp_room {N E : Nat} {sp : Bool} {l : List UInt8} (h : okApp N E sp l) : 48 + E + 2 + l.length ≤ N := by
  obtain ⟨rfl, h1, h2, h3⟩ := h
  simp only [freeOf, Bool.false_eq_true, if_false] at h3
  omega
theorem areaB_length {B : List UInt8} {E : Nat} {sp : Bool} {l : List UInt8} (h : okApp B.length E sp l) : (areaB B E l).length = B.length := wr_length (by rw [recB_length]; have := okApp_room h; omega)
theorem appB_length {B : List UInt8} {T E : Nat} {sp : Bool} {l : List UInt8} (h : okApp B.length E sp l) : (appB B T E l).length = B.length := by
  have h1 := areaB_length h
  have h2 := okApp_room h
  rw [appB, wr_length (by rw [slotB_length, h1]; omega), h1]
theorem FL.wr2 {H : AH} {f r : Nat} {B : List UInt8} (h : FL H f r B) {B' : List UInt8} (hl : B'.length = B.length) : FL (setO H r (bs B')) f r B' :=
  ⟨by rw [setO_length]; exact h.hf, by rw [setO_length]; exact h.hr, h.ne, by rw [obj_setO_ne _ _ h.ne.symm, h.of, hl], by rw [obj_setO _ _ h.hr, h.or]⟩
theorem t_append {H : AH} {j f r : Nat} {x : AV} {T E : Nat} {rs : List (List UInt8)} {sp : Bool} {B : List UInt8} (hF : FL H f r B) (hJ : JR H j f x T E rs sp) (hB : B.length ≤ 1048576) (hE : E ≤ 1048576) (hT : T ≤ 1048575) (hn : rs.length ≤ 1048576)
    (hjr : j ≠ r) (hjf : j ≠ f) (hxr : rid x ≠ some r) (hxf : rid x ≠ some f) {l : List UInt8} {g : Bool} (hok : okApp B.length E sp l) :
    ∃ H' x', Called Try.prog F.journal_Journal_Append [.ptr j 0, vB l g] H nilE H' ∧ FL H' f r (appB B T E l) ∧ JR H' j f x' (T + 1) (E + 2 + l.length) (rs ++ [l]) false ∧ New H x x' ∧ Fr H H' (fun i => i = j ∨ i = r ∨ rid x = some i) := by
  have hroom := okApp_room hok
  have hl2 : l.length ≤ 2000 := hok.2.2.1
  have hsp : sp = false := hok.1
  subst hsp
  have hj := hJ.hj
  have hf := hF.hf
  have hr := hF.hr
  have hl1 := areaB_length hok
  have hl3 := appB_length (T := T) hok
  -- The heap behind both writes.
  let ag : AV := .agg [I (48 + E : Nat), vB (recB l) false, I ((T + 1) % 2 * 24 : Nat), vB (slotB (T + 1) (E + 2 + l.length)) false]
  let o5 : AObj := ⟨[I (48 + E : Nat), vB (recB l) false, I ((T + 1) % 2 * 24 : Nat), vB (slotB (T + 1) (E + 2 + l.length)) false], 0, true⟩
  let oa : AObj := ⟨[I (48 + E : Nat), vB (recB l) false], 0, true⟩
  let ob : AObj := ⟨[I ((T + 1) % 2 * 24 : Nat), vB (slotB (T + 1) (E + 2 + l.length)) false], 0, true⟩
  obtain ⟨Ha, hHa⟩ : ∃ Ha, Ha = setO H r (bs (areaB B E l)) := ⟨_, rfl⟩
  obtain ⟨Hb, hHb⟩ : ∃ Hb, Hb = setO H r (bs (appB B T E l)) := ⟨_, rfl⟩
  have hab : setO Ha r (bs (appB B T E l)) = Hb := by rw [hHa, hHb, setO_setO]
  have hla : Ha.length = H.length := by rw [hHa, setO_length]
  have hlb : Hb.length = H.length := by rw [hHb, setO_length]
  have hFa : FL Ha f r (areaB B E l) := hHa ▸ hF.wr2 hl1
  have hFb : FL Hb f r (appB B T E l) := hHb ▸ hF.wr2 hl3
  have hfa : Fr H Ha (fun i => i = r) := hHa ▸ Fr.set H _ rfl
  have hfb : Fr H Hb (fun i => i = r) := hHb ▸ Fr.set H _ rfl
  obtain ⟨H2, hH2⟩ : ∃ H2, H2 = Hb ++ [o5, oa, ob] := ⟨_, rfl⟩
  let G : Nat → AH := fun k => match k with
    | 0 => H ++ [o5]
    | 1 => Ha ++ [o5, oa]
    | _ => H2
  have hF2 : FL H2 f r (appB B T E l) := hH2 ▸ hFb.frame (Fr.app _ _ (fun _ => False)) id id
  have hfr2 : Fr H H2 (fun i => i = r) := hH2 ▸ hfb.trans (Fr.app _ _ _)
  have hJ2 : JR H2 j f x T E rs false := hJ.frame hfr2 hjr (fun q hq h => hxr (h ▸ hq))
  have hj2 := hJ2.hj
  -- The stores, and what is appended to all.
  obtain ⟨H3, hH3⟩ : ∃ H3, H3 = setO H2 j [.ptr f 0, I (T + 1 : Nat), I (E + 2 + l.length : Nat), x, Bl false] := ⟨_, rfl⟩
  have hfr3 : Fr H2 H3 (fun i => i = j) := hH3 ▸ Fr.set _ _ rfl
  have hG3 : GR H3 x (rs.map fun r => vB r false) := hJ2.gr.frame hfr3 (fun q hq h => hJ2.nx (h ▸ hq))
  obtain ⟨a1, a2, a3, a4⟩ := hG3.app (s := .view [vB l false] 1 true) (v := vB l false) (b := 24) rfl rfl rfl rfl (by simp; omega)
  refine ⟨setO (appH 1 H3 (.view [vB l false] 1 true) x) j [.ptr f 0, I (T + 1 : Nat), I (E + 2 + l.length : Nat), appV 1 H3 (.view [vB l false] 1 true) x, Bl false], appV 1 H3 (.view [vB l false] 1 true) x, ?_, ?_, ?_, ?_, ?_⟩
  · refine e_journal_Journal_Append ?_
    simp only [ic_journal_Journal_Append, go_sem]
    refine callW_some (t_writes hF hJ hB hE (by omega) hok) (fun _ => rfl) ?_
    simp only [go_sem]
    refine w_loop _ (fun (k : Nat) => ([(0, .ptr j 0), (1, vB l g), (19, ag), (20, I k)], G k)) (fun k => k ≤ 2) (fun k => 2 - k) 0 (by decide) rfl ?_
    intro k hk
    have hk3 : k = 0 ∨ k = 1 ∨ k = 2 := by omega
    rcases hk3 with rfl | rfl | rfl
    · have hF0 : FL (H ++ [o5, oa]) f r B := hF.frame (Fr.app _ _ (fun _ => False)) id id
      have q1 := (hJ.frame (Fr.app H [o5, oa] (fun _ => False)) id (fun _ _ => id)).oj
      simp only [o5, oa] at q1
      have hj1 : j < H.length + 2 := by omega
      simp only [go_sem, ag, G, o5, oa, elt, Nat.reduceMul, q1, hj1]
      refine ⟨fun _ => ⟨by decide, callW_some (t_fwrite hF0 hB (by rw [recB_length]; omega)) (fun h => absurd h (by decide)) ?_⟩, fun h => absurd (by decide) h⟩
      simp only [go_sem]
      refine ⟨1, rfl, ?_, by omega, by omega⟩
      simp only [setO_old _ _ _ hr]; exact congrArg (· ++ _) hHa.symm
    · have hF1 : FL (Ha ++ [o5, oa, ob]) f r (areaB B E l) := hFa.frame (Fr.app _ _ (fun _ => False)) id id
      have q1 := (hJ.frame (hfa.trans (Fr.app _ [o5, oa, ob] _)) hjr (fun q hq h => hxr (h ▸ hq))).oj
      simp only [o5, oa, ob] at q1
      have hj1 : j < Ha.length + 3 := by omega
      simp only [go_sem, ag, G, o5, oa, ob, elt, Nat.reduceMul, Nat.one_mul, q1, hj1]
      refine ⟨fun _ => ⟨by decide, callW_some (t_fwrite hF1 (by omega) (by rw [slotB_length]; omega)) (fun h => absurd h (by decide)) ?_⟩, fun h => absurd (by decide) h⟩
      simp only [go_sem]
      refine ⟨2, rfl, ?_, by omega, by omega⟩
      simp only [setO_old _ _ _ (show r < Ha.length by omega)]; exact (congrArg (· ++ _) hab).trans hH2.symm
    · have q2 := hJ2.oj
      have q3 : obj H3 j = ⟨[.ptr f 0, I (T + 1 : Nat), I (E + 2 + l.length : Nat), x, Bl false], 0, true⟩ := by rw [hH3, obj_setO _ _ hj2, q2]
      have hj3 : j < H3.length := by rw [hH3, setO_length]; exact hj2
      have w1 : IntKind.i64.wrap ((T : Int) + 1) = ((T + 1 : Nat) : Int) := by rw [w64 _ (by omega) (by omega)]; omega
      have w2 : IntKind.i64.wrap (2 + (l.length : Int)) = ((2 + l.length : Nat) : Int) := by rw [w64 _ (by omega) (by omega)]; omega
      have w3 : IntKind.i64.wrap ((E : Int) + ((2 + l.length : Nat) : Int)) = ((E + 2 + l.length : Nat) : Int) := by rw [w64 _ (by omega) (by omega)]; omega
      simp only [go_sem, G, q2, hj2, obj_setO _ _ hj2, w1, w2, w3, setO_setO]
      refine ⟨fun h => absurd h (by decide), fun _ => ?_⟩
      have e3 : setO H2 j [AV.ptr f 0, AV.lit (Value.int IntKind.i64 ↑(T + 1)), AV.lit (Value.int IntKind.i64 ↑(E + 2 + l.length)), x, Bl false] = H3 := hH3.symm
      rw [e3]
      refine callW_some (t_cloneB (Sl.vB _ _) (by omega)) (fun _ => rfl) ?_
      have q4 := Nat.lt_of_lt_of_le hj3 a4.1
      have q5 := (a4.2 j hj3 hJ2.nx).trans q3
      have a5 : appOk 1 24 H3 x (AV.view [vB l false] 1 true) = True := eq_true a1
      simp only [go_sem] at a5
      simp only [go_sem, pure_bs, a5, a2.sl.one, a2.sl.cells, q4, q5]
      exact Leave.refl _ _ _
  · exact ((hF2.frame hfr3 (fun h => hjf h.symm) (fun h => hjr h.symm)).frame a4 hxf hxr).frame (Fr.set _ _ (S := fun i => i = j) rfl) (fun h => hjf h.symm) (fun h => hjr h.symm)
  · have hj3 : j < H3.length := by rw [hH3, setO_length]; exact hj2
    have hj4 := Nat.lt_of_lt_of_le hj3 a4.1
    refine ⟨by rw [setO_length]; exact hj4, ?_, ?_, ?_⟩
    · rw [obj_setO _ _ hj4, a4.2 j hj3 hJ2.nx]
      rw [hH3, obj_setO _ _ hj2, hJ2.oj]
    · have : (rs ++ [l]).map (fun r => vB r false) = rs.map (fun r => vB r false) ++ [vB l false] := by simp
      rw [this]
      exact a2.frame (Fr.set _ _ (S := fun i => i = j) rfl) (fun q hq h => by
        rcases a3 q hq with h' | h'
        · exact hJ2.nx (h ▸ h')
        · omega)
    · intro h
      rcases a3 j h with h' | h'
      · exact hJ2.nx h'
      · omega
  · intro q hq
    rcases a3 q hq with h' | h'
    · exact .inl h'
    · exact .inr (Nat.le_trans hfr2.1 (Nat.le_trans hfr3.1 h'))
  · refine (hfr2.mono fun i _ h => .inr (.inl h)).trans ((hfr3.mono fun i _ h => .inl h).trans ((a4.mono fun i _ h => .inr (.inr h)).trans (Fr.set _ _ (.inl rfl))))
end Go.Proofs.Ytdgabfeeoplldaa.Eng
