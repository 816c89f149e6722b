/- JournalKeeps: the whole law. -/
import Derived.Test.YtdgabfeeoplldaaJr9
namespace Go.Proofs.Ytdgabfeeoplldaa.Eng
open Go Go.Proofs
set_option linter.unusedVariables false
set_option linter.unusedSimpArgs false
set_option maxRecDepth 10000
theorem k_tear {size k : Nat} {s : KS} (h : KI size k s) (hk : k ≤ 100) (hs : size ≤ 4000) {r l : List UInt8} {gr g : Bool} (hr : r.length ≤ 3000) (hl : l.length ≤ 3000) {step n : Int} (ho : ok64 step) {L : List (Nat × AV)} (l2 : look L 2 = vB r gr) (l3 : look L 3 = I step) (l4 : look L 4 = I n) (l5 : look L 5 = vB l g) (l13 : look L 13 = Bl true) (l14 : look L 14 = .ptr 1 0) (l16 : look L 16 = .ptr 4 0) (l18 : look L 18 = s.w) :
    iwp (pfx false) (Called Try.prog) ic_clapperlaw16_JournalKeeps_101 (retQ [.t 12] [] (Bl true) []) (look L) s.H := by
  have hE := h.sv.room
  have hz := h.sz
  have ht := h.tk
  have hn := h.nk
  have hI := h.sv.inv
  have x4 : ∀ i, i < 2 → rid s.x ≠ some i := fun i hi hq => by have := h.x2 i hq; omega
  have wf : ∀ q, rid s.w = some q → ¬ (q = 4 ∨ q = 0) := fun q hq hh => by
    rcases hh with hh | hh
    · exact h.w4 (hh ▸ hq)
    · have := h.wr.lo q hq; omega
  simp only [ic_clapperlaw16_JournalKeeps_101, go_sem, l2, l3, l4, l5, l13, l14, l16, l18]
  by_cases hok : okTear s.B.length s.E false r step n
  · obtain ⟨h1, h2, h3, h4, h5⟩ := hok
    obtain ⟨n, rfl⟩ : ∃ m : Nat, n = m := ⟨n.toNat, by omega⟩
    have hroom := okApp_room h1
    rcases h2 with rfl | rfl
    · obtain ⟨H', c1, c2, c3⟩ := t_tear1 (g := gr) h.fl h.jr (by omega) (by omega) (by omega) (by decide) (by decide) (x4 0 (by decide)) (x4 1 (by decide)) h1 (n := n) (by have := h4 rfl; omega)
      refine callW_some c1 (fun h => absurd h (by decide)) ?_
      have q1 : ((1 : Int) == 2) = false := by decide
      simp only [go_sem, q1, l2, l3, l4, l5, l13, l14, l16, l18]
      have hi := torn1 hI h1 (n := n)
      refine k_tail c2 hi (h.wr.frame c3 wf) (by omega) (by omega) ?_ hl rfl rfl rfl rfl
      have : (tornB s.B s.T s.E r 1 n).length = s.B.length := by
        rw [tornB, if_pos rfl, wr_length (by rw [List.length_take, recB_length]; omega)]
      omega
    · have hn24 : n ≤ 24 := by have := h5 rfl; omega
      obtain ⟨H', c1, c2, c3⟩ := t_tear2 (g := gr) h.fl h.jr (by omega) (by omega) (by omega) (by decide) (by decide) (x4 0 (by decide)) (x4 1 (by decide)) h1 (n := n) hn24
      refine callW_some c1 (fun h => absurd h (by decide)) ?_
      have q1 : ((2 : Int) == 2) = true := by decide
      have hw' := h.wr.frame c3 wf
      have hlen : (tornB s.B s.T s.E r 2 n).length = s.B.length := by
        have ha := areaB_length h1
        rw [tornB, if_neg (by decide), wr_length (by rw [List.length_take, slotB_length]; omega), ha]
      by_cases hc : n = 24
      · subst hc
        have q2 : (((24 : Nat) : Int) == 24) = true := by decide
        obtain ⟨a1, a2, a3, a4⟩ := hw'.app (by have := c2.hf; have := c2.hr; omega) (by omega) r
        have a1' := eq_true a1
        simp only [go_sem] at a1'
        simp only [go_sem, q1, q2, l2, l3, l4, l5, l13, l14, l16, l18, b2sOk_vB, b2sV_vB, a1']
        have hi := hI.append h.sv.tl h1
        rw [← torn24 h1] at hi
        refine k_tail (c2.frame a4 ?_ ?_) hi a2 (by simp; omega) (by omega) (by omega) hl rfl rfl rfl rfl
        · intro hh; have := h.wr.lo 1 hh; omega
        · intro hh; have := h.wr.lo 0 hh; omega
      · have q2 : ((n : Int) == 24) = false := by simp; omega
        simp only [go_sem, q1, q2, l2, l3, l4, l5, l13, l14, l16, l18]
        exact k_tail c2 (torn2 h.sv h1 (n := n) (by omega)) hw' (by omega) (by omega) (by omega) hl rfl rfl rfl rfl
  · obtain ⟨c, hc⟩ := t_tearErr (g := gr) h.fl h.jr (by omega) (by omega) (by omega) (by omega) ho hok
    refine callW_some hc (fun h => absurd h (by decide)) ?_
    simp only [go_sem, code_c, l2, l3, l4, l5, l13, l14, l16, l18]
    exact k_tail h.fl hI h.wr (by omega) (by omega) (by omega) hl rfl rfl rfl rfl
theorem t_JournalKeeps {size step n : Int} (hs1 : ok64 step) {ds : List (List UInt8 × Bool)} {gd : Bool} {r l : List UInt8} {gr g : Bool} :
    Called Try.prog F.clapperlaw16_JournalKeeps [I size, .view (ds.map fun y => vB y.1 y.2) ds.length gd, vB r gr, I step, I n, vB l g] [] (Bl true) [] := by
  refine e_clapperlaw16_JournalKeeps ?_
  simp only [ic_clapperlaw16_JournalKeeps, go_sem]
  refine callW_some (t_up16 []) (fun _ => rfl) ?_
  simp only [go_sem]
  refine ⟨fun _ => Leave.refl _ _ _, fun hc => ?_⟩
  simp only [Bool.or_eq_false_iff, decide_eq_false_iff_not] at hc
  obtain ⟨⟨⟨⟨hc1, hc2⟩, hc3⟩, hc4⟩, hc5⟩ := hc
  obtain ⟨m, rfl⟩ : ∃ m : Nat, size = m := ⟨size.toNat, by omega⟩
  have c0 := t_fnew (H := []) (n := m) (by omega) (by omega)
  simp only [List.length_nil, List.nil_append, Nat.zero_add] at c0
  have hF : FL [⟨bs (List.replicate m 0), 1, true⟩, ⟨[.row 0 0 m m], 0, true⟩] 1 0 (List.replicate m 0) := by
    refine ⟨by simp, by simp, by decide, ?_, rfl⟩
    show _ = (⟨[.row 0 0 (List.replicate m (0 : UInt8)).length (List.replicate m (0 : UInt8)).length], 0, true⟩ : AObj)
    rw [List.length_replicate]; rfl
  have hS := SINV.new (n := m) (by omega) (by omega)
  obtain ⟨H2, x, c1, c2, c3, c4⟩ := t_openI hF hS.inv
  simp only [List.length_cons, List.length_nil, Nat.zero_add, Nat.reduceAdd] at c1 c2 c4
  have hF2 := hF.frame c3 id id
  have hK : KI m 0 ⟨H2, x, nilS, List.replicate m 0, 0, 0, []⟩ :=
    ⟨hF2, c2, ⟨GR.nil, fun q hq => by cases hq⟩, hS, c4, (fun h => by cases h), (fun q hq => by cases hq), Nat.le_refl _, Nat.le_refl _, by simp⟩
  obtain ⟨sq, s0, s1, s2⟩ := run_seq ds.length (KI m) (fun k s s' => if (ds.getD k ([], false)).1.length ≤ 3000 then kStep (ds.getD k ([], false)).1 (ds.getD k ([], false)).2 s s' else True) _ hK (fun k a hk ha => by
    by_cases hl : (ds.getD k ([], false)).1.length ≤ 3000
    · obtain ⟨s', h1, h2⟩ := k_step ha (by omega) (by omega) hl (ds.getD k ([], false)).2
      exact ⟨s', by rw [if_pos hl]; exact h1, h2⟩
    · exact ⟨a, by rw [if_neg hl]; trivial, ha.fl, ha.jr, ha.wr, ha.sv, ha.x2, ha.w4, ha.wx, by have := ha.tk; omega, by have := ha.nk; omega, ha.sz⟩)
  refine callW_some c0 (fun h => absurd h (by decide)) ?_
  simp only [go_sem]
  refine callW_some c1 (fun h => absurd h (by decide)) ?_
  simp only [go_sem]
  refine w_loop _ (fun (k : Nat) => ([(1, .view (ds.map fun y => vB y.1 y.2) ds.length gd), (2, vB r gr), (3, I step), (4, I n), (5, vB l g), (13, Bl true), (14, .ptr 1 0), (16, .ptr 4 0), (18, (sq k).w), (19, I k)], (sq k).H)) (fun k => k ≤ ds.length) (fun k => ds.length - k) 0 (Nat.zero_le _) (by rw [s0]; rfl) ?_
  intro k hk
  simp only [go_sem]
  refine ⟨fun hh => ?_, fun hh => ?_⟩
  · have hk : k < ds.length := by omega
    have hKk := s1 k (by omega)
    have hst := s2 k hk
    have e1 := elt_map1 (fun y : List UInt8 × Bool => vB y.1 y.2) ds k hk ([], false)
    have w2 : IntKind.i64.wrap ((k : Int) + 1) = ((k + 1 : Nat) : Int) := by rw [w64 _ (by omega) (by omega)]; omega
    simp only [go_sem, e1, List.length_map]
    refine ⟨⟨by omega, by omega⟩, fun h => leave_drop (H := []) (G := (sq k).H) rfl, fun h => ⟨⟨by omega, by omega⟩, ?_⟩⟩
    rw [if_pos (by omega)] at hst
    rcases hst with ⟨Hm, d1, d2, d3, d4⟩ | ⟨c, d1, d2⟩
    · refine callW_some d1 (fun h => absurd h (by decide)) ?_
      have d2' := eq_true d2
      simp only [go_sem] at d2'
      simp only [go_sem, e1, List.length_map, b2sOk_vB, b2sV_vB, d2', w2, ← d3, ← d4]
      exact ⟨⟨by omega, by omega⟩, k + 1, rfl, rfl, by omega, by omega⟩
    · refine callW_some d1 (fun h => absurd h (by decide)) ?_
      simp only [go_sem, code_c, w2]
      exact ⟨k + 1, by rw [d2], by rw [d2], by omega, by omega⟩
  · obtain rfl : k = ds.length := by omega
    exact k_tear (s1 ds.length (Nat.le_refl _)) (by omega) (by omega) (by omega) (by omega) hs1 rfl rfl rfl rfl rfl rfl rfl rfl
end Go.Proofs.Ytdgabfeeoplldaa.Eng
