/- JournalKeeps: what the law does behind the cut. -/
import Derived.Test.YtdgabfeeoplldaaJr8
namespace Go.Proofs.Ytdgabfeeoplldaa.Eng
open Go Go.Proofs
set_option linter.unusedVariables false
set_option linter.unusedSimpArgs false
set_option maxRecDepth 10000
theorem WR.sl {H : AH} {w : AV} {rs : List (List UInt8)} (h : WR H w rs) : Sl 1 H w (rs.map Str) rs.length := by
  have := h.gr.sl; rwa [List.length_map] at this
theorem k_tail2 {H : AH} {B : List UInt8} {T E T' E' k : Nat} {x w : AV} {rs : List (List UInt8)} {sp : Bool} (hF : FL H 1 0 B) (hI : INV B T E rs) (hW : WR H w rs) (hJ : JR H k 1 x T' E' rs sp) (hn : rs.length ≤ 1000) {L : List (Nat × AV)} (l13 : look L 13 = Bl true) (l14 : look L 14 = .ptr 1 0) (l18 : look L 18 = w) (l22 : look L 22 = .ptr k 0) :
    iwp (pfx false) (Called Try.prog) ic_clapperlaw16_JournalKeeps_168 (retQ [.t 12] [] (Bl true) []) (look L) H := by
  obtain ⟨H1, x1, c1, c2, c3, _⟩ := t_openI hF hI
  have hW1 := hW.frame c3 (fun _ _ => id)
  have hJ1 := hJ.frame c3 id (fun _ _ => id)
  simp only [ic_clapperlaw16_JournalKeeps_168, go_sem, l13, l14, l18, l22]
  refine callW_some c1 (fun h => absurd h (by decide)) ?_
  simp only [l13, l14, l18, l22, go_sem]
  refine callG_of (fun _ => t_records c2 hI.recs (by omega)) ?_
  simp only [l13, l14, l18, l22, go_sem, hW1.sl.s]
  refine callG_of (fun _ => t_same hW1.sl (by omega)) ?_
  simp only [l13, l14, l18, l22, go_sem, hW1.sl.s]
  refine callG_of (fun _ => t_records hJ1 hI.recs (by omega)) ?_
  simp only [l13, l14, l18, l22, go_sem, hW1.sl.s]
  refine callG_of (fun _ => t_same hW1.sl (by omega)) ?_
  simp only [l13, l14, l18, l22, go_sem]
  exact leave_drop (H := []) (G := H1) rfl
theorem k_tail {H : AH} {B : List UInt8} {T E : Nat} {w : AV} {rs : List (List UInt8)} (hF : FL H 1 0 B) (hI : INV B T E rs) (hW : WR H w rs) (hn : rs.length ≤ 500) (hT : T ≤ 1000) (hB : B.length ≤ 4000) {l : List UInt8} {g : Bool} (hl : l.length ≤ 3000) {L : List (Nat × AV)} (l5 : look L 5 = vB l g) (l13 : look L 13 = Bl true) (l14 : look L 14 = .ptr 1 0) (l18 : look L 18 = w) :
    iwp (pfx false) (Called Try.prog) ic_clapperlaw16_JournalKeeps_122 (retQ [.t 12] [] (Bl true) []) (look L) H := by
  obtain ⟨H1, x1, c1, c2, c3, c4⟩ := t_openI hF hI
  have hF1 := hF.frame c3 id id
  have hW1 := hW.frame c3 (fun _ _ => id)
  obtain ⟨H2, x2, d1, d2, d3, d4⟩ := t_openI hF1 hI
  have hF2 := hF1.frame d3 id id
  have hW2 := hW1.frame d3 (fun _ _ => id)
  have hE := hI.room
  have hf := hF1.hf
  have hwl : ∀ q, rid w = some q → q < H1.length := fun q hq => hW1.gr.lt hq
  generalize hk : H1.length + 2 = k at *
  simp only [ic_clapperlaw16_JournalKeeps_122, go_sem, l5, l13, l14, l18]
  refine callW_some c1 (fun h => absurd h (by decide)) ?_
  simp only [l5, l13, l14, l18, go_sem]
  refine callG_of (fun _ => t_records c2 hI.recs (by omega)) ?_
  simp only [l5, l13, l14, l18, go_sem, hW1.sl.s]
  refine callG_of (fun _ => t_same hW1.sl (by omega)) ?_
  simp only [l5, l13, l14, l18, go_sem]
  refine callW_some d1 (fun h => absurd h (by decide)) ?_
  simp only [l5, l13, l14, l18, go_sem]
  refine callG_of (fun _ => t_records d2 hI.recs (by omega)) ?_
  simp only [l5, l13, l14, l18, go_sem, hW2.sl.s]
  refine callG_of (fun _ => t_same hW2.sl (by omega)) ?_
  simp only [l5, l13, l14, l18, go_sem]
  by_cases hok : okApp B.length E false l
  · obtain ⟨Hm, x', e1, e2, e3, e4, e5⟩ := t_append (g := g) hF2 d2 (by omega) (by omega) (by omega) (by omega) (by omega) (by omega) (fun hq => by have := d4 0 hq; omega) (fun hq => by have := d4 1 hq; omega) hok
    have hWm := hW2.frame e5 (fun q hq hh => by
      have := hwl q hq
      rcases hh with hh | hh | hh
      · omega
      · have := hW.lo q hq; omega
      · have := d4 q hh; omega)
    have hjm := e3.hj
    obtain ⟨a1, a2, a3, a4⟩ := hWm.app (by omega) (by omega) l
    refine callW_some e1 (fun h => absurd h (by decide)) ?_
    have a1' := eq_true a1
    simp only [go_sem] at a1'
    simp only [l5, l13, l14, l18, go_sem, b2sOk_vB, b2sV_vB, a1']
    refine k_tail2 (e2.frame a4 ?_ ?_) (hI.append (by omega) hok) a2 (e3.frame a4 ?_ ?_) (by simp; omega) rfl rfl rfl rfl
    · intro hh; have := hW.lo 1 hh; omega
    · intro hh; have := hW.lo 0 hh; omega
    · intro hh; have := hwl k hh; omega
    · intro q hq hh
      have := hwl q hh
      rcases e4 q hq with h1 | h1
      · have := d4 q h1; omega
      · have := d3.1; omega
  · obtain ⟨c, hc⟩ := t_appendErr (g := g) hF2 d2 (by omega) (by omega) (by omega) hok
    refine callW_some hc (fun h => absurd h (by decide)) ?_
    simp only [l5, l13, l14, l18, go_sem, code_c]
    exact k_tail2 hF2 hI hW2 d2 (by omega) rfl rfl rfl rfl
end Go.Proofs.Ytdgabfeeoplldaa.Eng
