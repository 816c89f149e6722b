/- JournalKeeps. -/
import Derived.Test.YtdgabfeeoplldaaJr7
namespace Go.Proofs.Ytdgabfeeoplldaa.Eng
open Go Go.Proofs
set_option linter.unusedVariables false
set_option linter.unusedSimpArgs false
set_option maxRecDepth 10000
/-- The law's state: the objects, a journal's row, the row of what is wanted, and what the flash says. -/
structure KS where
  H : AH
  x : AV
  w : AV
  B : List UInt8
  T : Nat
  E : Nat
  rs : List (List UInt8)
/-- The row of what is wanted lies apart. -/
structure WR (H : AH) (w : AV) (rs : List (List UInt8)) : Prop where
  gr : GR H w (rs.map Str)
  lo : ∀ q, rid w = some q → 2 ≤ q
theorem WR.frame {H H' : AH} {w : AV} {rs : List (List UInt8)} (h : WR H w rs) {S : Nat → Prop} (hf : Fr H H' S) (hs : ∀ q, rid w = some q → ¬ S q) : WR H' w rs := ⟨h.gr.frame hf hs, h.lo⟩
theorem WR.app {H : AH} {w : AV} {rs : List (List UInt8)} (h : WR H w rs) (h2 : 2 ≤ H.length) (hn : rs.length ≤ 1048576) (l : List UInt8) :
    appOk 1 16 H w (.view [Str l] 1 true) ∧ WR (appH 1 H (.view [Str l] 1 true) w) (appV 1 H (.view [Str l] 1 true) w) (rs ++ [l]) ∧ New H w (appV 1 H (.view [Str l] 1 true) w) ∧ Fr H (appH 1 H (.view [Str l] 1 true) w) (fun i => rid w = some i) := by
  obtain ⟨h3, h4, h5, h6⟩ := h.gr.app (s := .view [Str l] 1 true) (v := Str l) (b := 16) rfl rfl rfl rfl (by rw [List.length_map]; omega)
  refine ⟨h3, ⟨by rw [List.map_append]; exact h4, fun q hq => ?_⟩, h5, h6⟩
  rcases h5 q hq with h7 | h7
  · exact h.lo q h7
  · omega
/-- All there is while records are appended. -/
structure KI (size : Nat) (k : Nat) (s : KS) : Prop where
  fl : FL s.H 1 0 s.B
  jr : JR s.H 4 1 s.x s.T s.E s.rs false
  wr : WR s.H s.w s.rs
  sv : SINV s.B s.T s.E s.rs
  x2 : ∀ q, rid s.x = some q → 2 ≤ q
  w4 : rid s.w ≠ some 4
  wx : ∀ q, rid s.w = some q → rid s.x ≠ some q
  tk : s.T ≤ k
  nk : s.rs.length ≤ k
  sz : s.B.length = size
def kStep (l : List UInt8) (g : Bool) (s s' : KS) : Prop :=
  (∃ Hm, Called Try.prog F.journal_Journal_Append [.ptr 4 0, vB l g] s.H nilE Hm ∧ appOk 1 16 Hm s.w (.view [Str l] 1 true) ∧ s'.w = appV 1 Hm (.view [Str l] 1 true) s.w ∧ s'.H = appH 1 Hm (.view [Str l] 1 true) s.w) ∨
  (∃ c, Called Try.prog F.journal_Journal_Append [.ptr 4 0, vB l g] s.H (eAV c) s.H ∧ s' = s)
theorem k_step {size k : Nat} {s : KS} (h : KI size k s) (hk : k ≤ 100) (hs : size ≤ 4000) {l : List UInt8} (hl : l.length ≤ 3000) (g : Bool) : ∃ s', kStep l g s s' ∧ KI size (k + 1) s' := by
  have hE := h.sv.room
  have hz := h.sz
  have ht := h.tk
  have hn := h.nk
  by_cases hok : okApp s.B.length s.E false l
  · have x4 : ∀ i, i < 2 → rid s.x ≠ some i := fun i hi hq => by have := h.x2 i hq; omega
    obtain ⟨Hm, x', c1, c2, c3, c4, c5⟩ := t_append (g := g) h.fl h.jr (by omega) (by omega) (by omega) (by omega) (by decide) (by decide) (x4 0 (by decide)) (x4 1 (by decide)) hok
    have hj4 := h.jr.hj
    have hj4' := c3.hj
    have w1 := h.wr.frame c5 (fun q hq hh => by
      rcases hh with hh | hh | hh
      · exact h.w4 (hh ▸ hq)
      · have := h.wr.lo q hq; omega
      · exact h.wx q hq hh)
    obtain ⟨a1, a2, a3, a4⟩ := w1.app (by omega) (by omega) l
    have nw : ∀ q, rid s.w = some q → rid x' ≠ some q := fun q hq hh => by
      rcases c4 q hh with h1 | h1
      · exact h.wx q hq h1
      · have := h.wr.gr.lt hq; omega
    refine ⟨⟨_, x', _, appB s.B s.T s.E l, s.T + 1, s.E + 2 + l.length, s.rs ++ [l]⟩, .inl ⟨Hm, c1, a1, rfl, rfl⟩, ?_, ?_, a2, h.sv.append (by omega) hok, ?_, ?_, ?_, by show s.T + 1 ≤ k + 1; omega, by simp; omega, by show (appB s.B s.T s.E l).length = size; rw [appB_length hok]; exact hz⟩
    · exact c2.frame a4 (fun hh => by have := h.wr.lo 1 hh; omega) (fun hh => by have := h.wr.lo 0 hh; omega)
    · exact c3.frame a4 h.w4 (fun q hq hh => nw q hh hq)
    · intro q hq
      rcases c4 q hq with h1 | h1
      · exact h.x2 q h1
      · omega
    · intro hq
      rcases a3 4 hq with h1 | h1
      · exact h.w4 h1
      · omega
    · intro q hq
      rcases a3 q hq with h1 | h1
      · exact nw q h1
      · intro hh; have := c3.gr.lt hh; omega
  · obtain ⟨c, hc⟩ := t_appendErr (g := g) h.fl h.jr (by omega) (by omega) (by omega) hok
    exact ⟨s, .inr ⟨c, hc, rfl⟩, h.fl, h.jr, h.wr, h.sv, h.x2, h.w4, h.wx, by omega, by omega, h.sz⟩
end Go.Proofs.Ytdgabfeeoplldaa.Eng
