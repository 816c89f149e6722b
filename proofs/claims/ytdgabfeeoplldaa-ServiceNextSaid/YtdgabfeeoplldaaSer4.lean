/- Layer 12: the laws. -/
import Derived.Test.YtdgabfeeoplldaaSer3
namespace Go.Proofs.Ytdgabfeeoplldaa.Eng
open Go Go.Proofs
set_option linter.unusedVariables false
set_option linter.unusedSimpArgs false
set_option maxRecDepth 10000
theorem le_agg {a b : List AV} (h : LeL a b) : Le (.agg a) (.agg b) := fun S y ⟨vs, h1, h2⟩ => ⟨vs, h1, h.rl h2⟩
def bare (w a b : Int) : AV := .agg [I w, I a, I b, .lit (.slice none 0 0), .lit (.slice none 0 0)]
theorem bare_le (w a b d : Int) : LeL [bare w a b, I d] [Srv.av ⟨w, a, b, [], []⟩ true true, I d] := ⟨le_agg ⟨.refl _, .refl _, .refl _, le_nil true, le_nil true, trivial⟩, .refl _, trivial⟩
theorem bare_le1 (w a b : Int) : LeL [bare w a b] [Srv.av ⟨w, a, b, [], []⟩ true true] := ⟨le_agg ⟨.refl _, .refl _, .refl _, le_nil true, le_nil true, trivial⟩, trivial⟩
theorem t_up12 (H : AH) : Called Try.prog F.clapperlaw12_up [] H (Bl true) H := by
  have hok : Srv.ok ⟨2, 0, 14, [], []⟩ := by refine ⟨⟨?_, ?_⟩, ⟨?_, ?_⟩, ⟨?_, ?_⟩, ?_, ?_⟩ <;> simp
  refine e_clapperlaw12_up ?_
  simp only [ic_clapperlaw12_up, go_sem, fillOk, fillv, AV.one, Value.oneCell', List.all_cons, List.all_nil]
  refine callW_some ((t_Next ⟨2, 0, 14, [], []⟩ true true 2 _ hok ⟨by decide, by decide⟩).weak (bare_le 2 0 14 2)) (fun _ => rfl) ?_
  rw [if_pos (by decide), show nextV ⟨2, 0, 14, [], []⟩ 2 = 8 by decide]
  simp only [go_sem]
  refine callW_some ((t_Runs ⟨2, 0, 14, [], []⟩ true true 1 _ hok).weak (bare_le 2 0 14 1)) (fun _ => rfl) ?_
  rw [show (mayB ⟨2, 0, 14, [], []⟩ && runsB ⟨2, 0, 14, [], []⟩ 1) = true by decide]
  simp only [go_sem]
  refine callG_of (fun _ => (t_Runs ⟨2, 0, 14, [], []⟩ true true 8 _ hok).weak (bare_le 2 0 14 8)) ?_
  rw [show (mayB ⟨2, 0, 14, [], []⟩ && runsB ⟨2, 0, 14, [], []⟩ 8) = true by decide]
  simp only [go_sem]
  refine callG_of (fun _ => (t_Runs ⟨2, 0, 14, [], []⟩ true true 15 _ hok).weak (bare_le 2 0 14 15)) ?_
  rw [show (mayB ⟨2, 0, 14, [], []⟩ && runsB ⟨2, 0, 14, [], []⟩ 15) = false by decide]
  simp only [go_sem]
  exact leave_drop rfl
theorem t_Weeks (w a b d : Int) (H : AH) (hw : ok64 w) (ha : ok64 a) (hb : ok64 b) (hd : ok64 d) : Called Try.prog F.clapperlaw12_ServiceWeeks [I w, I a, I b, I d] H (Bl true) H := by
  have hok : Srv.ok ⟨w, a, b, [], []⟩ := ⟨hw, ha, hb, by simp, by simp⟩
  refine e_clapperlaw12_ServiceWeeks ?_
  simp only [ic_clapperlaw12_ServiceWeeks, go_sem]
  refine callW_some (t_up12 _) (fun _ => rfl) ?_
  simp only [go_sem, fillOk, fillv, AV.one, Value.oneCell', List.all_cons, List.all_nil]
  refine callW_some ((t_May ⟨w, a, b, [], []⟩ true true _ hok).weak (bare_le1 w a b)) (fun _ => rfl) ?_
  simp only [go_sem]
  have hr := fun (x : Int) H => (t_Runs ⟨w, a, b, [], []⟩ true true x H hok).weak (bare_le w a b x)
  refine ⟨fun h => callG_of (fun _ => hr d _) ?_, fun h => ?_⟩
  · simp only [go_sem]
    refine leave_drop ?_
    rw [Bool.not_eq_true'] at h
    simp only [low, h, Bool.false_and, Bool.not_false]
  rw [Bool.not_eq_false'] at h
  obtain ⟨m1, m2, m3, m4, m5, m6, m7⟩ := mayB_from h
  dsimp only at m1 m2 m3 m4 m5
  rw [w64 (b - 8) (by omega) (by omega)]
  have hrun : ∀ x, runsB ⟨w, a, b, [], []⟩ x = (decide (a ≤ x) && decide (x < b) && bitB w x) := fun x => by simp [runsB]
  refine ⟨fun h1 => callG_of (fun _ => hr d _) ?_, fun h1 => ?_⟩
  · simp only [go_sem]
    refine leave_drop ?_
    simp only [low, h, hrun, Bool.true_and]
    congr 2
    cases decide (a ≤ d) <;> cases decide (d < b) <;> cases bitB w d <;> rfl
  · simp only [Bool.or_eq_false_iff, Bool.and_eq_false_iff, decide_eq_false_iff_not, Bool.not_eq_false, decide_eq_true_eq] at h1
    refine callG_of (fun _ => hr d _) ?_
    simp only [go_sem]
    rw [w64 (d + 7) (by omega) (by omega)]
    refine callG_of (fun _ => hr (d + 7) _) ?_
    simp only [go_sem]
    refine leave_drop ?_
    have e : bitB w (d + 7) = bitB w d := by unfold bitB; rw [show (d + 7) % 7 = d % 7 by omega]
    simp only [low, h, hrun, Bool.true_and, e]
    rw [show decide (a ≤ d) = true by simp; omega, show decide (a ≤ d + 7) = true by simp; omega, show decide (d < b) = true by simp; omega, show decide (d + 7 < b) = true by simp; omega]
    simp
theorem t_RunsLaw (s : Srv) (f g : Bool) (d m : Int) (H : AH) (hs : s.ok) (hd : ok64 d) (hm : ok64 m) : Called Try.prog F.clapperlaw12_ServiceRuns [s.av f g, I d, I m] H (Bl true) H := by
  refine e_clapperlaw12_ServiceRuns ?_
  simp only [ic_clapperlaw12_ServiceRuns, go_sem, Srv.av, Srv.cells]
  refine ⟨rfl, callW_some (t_up12 _) (fun _ => rfl) ?_⟩
  simp only [go_sem]
  refine ⟨fun h => leave_drop rfl, fun h => callW_some (t_rMay s f g _ hs) (fun _ => rfl) ?_⟩
  simp only [go_sem]
  refine callG_of (fun h => t_rRuns s f g d _ hs h) ?_
  simp only [go_sem]
  refine callW_some (t_On m _ hm) (fun _ => rfl) ?_
  by_cases hr : m < 0 ∨ 1073741824 < m
  · rw [if_pos hr]
    simp only [go_sem]
    refine callW_some (t_May s f g _ hs) (fun _ => rfl) ?_
    simp only [go_sem]
    refine callG_of (fun _ => t_Runs s f g d _ hs) ?_
    simp only [go_sem]
    refine ⟨fun h1 => ?_, fun h1 => ⟨fun h2 => ⟨rfl, by decide, leave_drop rfl⟩, fun h2 => ?_⟩⟩
    · simp at h1
    · simp only [Bool.or_eq_false_iff, decide_eq_false_iff_not] at h2; omega
  · rw [if_neg hr]
    simp only [go_sem]
    refine callW_some (t_May s f g _ hs) (fun _ => rfl) ?_
    simp only [go_sem]
    refine callG_of (fun _ => t_Runs s f g d _ hs) ?_
    simp only [go_sem]
    refine ⟨fun h1 => ?_, fun h1 => ⟨fun h2 => ?_, fun h2 => leave_drop ?_⟩⟩
    · simp at h1
    · simp only [Bool.or_eq_true, decide_eq_true_eq] at h2; omega
    · have e1 : IntKind.i64.wrap (1440 * (m / 1440)) = 1440 * (m / 1440) := w64 _ (by omega) (by omega)
      rw [e1, w64 _ (by omega) (by omega)]
      rw [show (1440 * (m / 1440) + m % 1440 == m) = true by simp; omega, show decide (0 ≤ m % 1440) = true by simp; omega, show decide (m % 1440 < 1440) = true by simp; omega]
      rfl
theorem t_NextLaw (s : Srv) (f g : Bool) (d : Int) (H : AH) (hs : s.ok) (hd : ok64 d) : Called Try.prog F.clapperlaw12_ServiceNext [s.av f g, I d] H (Bl true) H := by
  refine e_clapperlaw12_ServiceNext ?_
  simp only [ic_clapperlaw12_ServiceNext, go_sem, Srv.av, Srv.cells]
  refine ⟨rfl, callW_some (t_up12 _) (fun _ => rfl) ?_⟩
  simp only [go_sem]
  refine ⟨fun h => leave_drop rfl, fun h => callW_some (t_Next s f g d _ hs hd) (fun _ => rfl) ?_⟩
  by_cases hm : mayB s = true ∧ 0 ≤ d
  · obtain ⟨hm, h0⟩ := hm
    obtain ⟨n1, n2⟩ := nextV_spec hm h0
    obtain ⟨m1, m2, m3, m4, m5, m6, m7⟩ := mayB_from hm
    rw [if_pos ⟨hm, h0⟩]
    simp only [go_sem]
    refine callW_some (t_rMay s f g _ hs) (fun _ => rfl) ?_
    simp only [go_sem, hm]
    refine ⟨fun h1 => by omega, fun h1 => ⟨fun h2 => ?_, fun h2 => callW_some (t_rNext s f g d _ hs hm h0 (by omega)) (fun _ => rfl) ?_⟩⟩
    · have hv : nextV s d = -1 := by
        rcases n1 with n1 | n1
        · exact n1
        · exfalso
          have hr := n1.2
          simp only [runsB, Bool.or_eq_true, Bool.and_eq_true, decide_eq_true_eq] at hr
          have := n1.1
          rcases hr with hr | hr
          · simp only [mayB, daysB, Bool.and_eq_true, decide_eq_true_eq] at hm
            obtain ⟨i, g1, g2⟩ := mem_getD hr
            have := (hm.1.1.2.2 i g1).2.1
            omega
          · omega
      rw [hv]
      exact leave_drop rfl
    · simp only [go_sem]
      have hrd := firstDay_spec (runsB s) 3000 d
      generalize firstDay (runsB s) d 3000 = w at *
      refine ⟨fun hw => leave_drop ?_, fun hw => ⟨fun hv => ?_, fun hv => ?_⟩⟩
      · rcases hrd with ⟨q1, q2⟩ | ⟨q1, q2, q3, q4⟩
        · omega
        · obtain ⟨c1, c2⟩ := n2 w ⟨q1, q3⟩
          have hg : good s d (nextV s d) := n1.resolve_left c1
          have e : nextV s d = w := by
            by_cases hlt : nextV s d < w
            · have := q4 _ hg.1 hlt
              rw [hg.2] at this; cases this
            · omega
          rw [e, if_neg (by omega), decide_eq_true hw]
          simp [low]
      · have hv1 : nextV s d = -1 := by
          rcases n1 with n1 | n1
          · exact n1
          · have := n1.1; simp only [Bool.not_eq_true', decide_eq_false_iff_not] at hv; omega
        refine w_loop _ (fun (i : Nat) => ([(1, I d), (2, .ptr H.length 0), (5, Bl true), (6, I 0), (10, I i)], H ++ [⟨[I s.week, I s.from_, I s.to, vI s.extra f, vI s.except g], 0, true⟩])) (fun i => i ≤ s.extra.length) (fun i => s.extra.length - i) 0 (by simp) (by simp [hv1]) ?_
        intro i hi
        simp only [go_sem]
        refine ⟨fun hlt => ?_, fun hlt => leave_drop rfl⟩
        have hlt : i < s.extra.length := by omega
        simp only [go_sem, elt_I _ i hlt]
        refine ⟨⟨by omega, by omega⟩, fun hge => ?_, fun hge => ⟨i + 1, by rw [w64 _ (by omega) (by omega)]; rfl, by omega, by omega⟩⟩
        exact absurd hv1 (n2 _ ⟨hge, by rw [runsB, decide_eq_true (getD_mem hlt)]; rfl⟩).1
      · simp only [Bool.not_eq_false', decide_eq_true_eq] at hv
        have hg : good s d (nextV s d) := n1.resolve_left (by omega)
        have hbig : d + 3000 ≤ nextV s d := by
          rcases hrd with ⟨q1, q2⟩ | ⟨q1, q2, q3, q4⟩
          · refine Int.not_lt.1 fun hlt => ?_
            have := q2 _ hg.1 (by omega)
            rw [hg.2] at this; cases this
          · omega
        rw [if_neg (by omega)]
        refine callG_of (fun _ => t_Runs s f g (nextV s d) _ hs) ?_
        simp only [go_sem, hm, hg.2]
        refine leave_drop ?_
        rw [w64 (d + 3000) (by omega) (by omega), decide_eq_true hbig]
        rfl
  · rw [if_neg hm]
    simp only [go_sem]
    refine callW_some (t_rMay s f g _ hs) (fun _ => rfl) ?_
    simp only [go_sem]
    refine ⟨fun h1 => leave_drop rfl, fun h1 => ?_⟩
    simp only [Bool.or_eq_false_iff, Bool.not_eq_false', decide_eq_false_iff_not] at h1
    exact absurd ⟨h1.1, by omega⟩ hm
theorem t_NextBig (s : Srv) (f g : Bool) (d : Int) (H : AH) (hb : 300 < s.extra.length ∨ 300 < s.except.length) : Called Try.prog F.clapperlaw12_ServiceNext [s.av f g, I d] H (Bl true) H := by
  refine e_clapperlaw12_ServiceNext ?_
  simp only [ic_clapperlaw12_ServiceNext, go_sem, Srv.av, Srv.cells]
  refine ⟨rfl, callW_some (t_up12 _) (fun _ => rfl) ?_⟩
  simp only [go_sem]
  refine ⟨fun h => leave_drop rfl, fun h => ?_⟩
  simp only [Bool.or_eq_false_iff, decide_eq_false_iff_not] at h
  omega
theorem t_RunsBig (s : Srv) (f g : Bool) (d m : Int) (H : AH) (hb : 300 < s.extra.length ∨ 300 < s.except.length) : Called Try.prog F.clapperlaw12_ServiceRuns [s.av f g, I d, I m] H (Bl true) H := by
  refine e_clapperlaw12_ServiceRuns ?_
  simp only [ic_clapperlaw12_ServiceRuns, go_sem, Srv.av, Srv.cells]
  refine ⟨rfl, callW_some (t_up12 _) (fun _ => rfl) ?_⟩
  simp only [go_sem]
  refine ⟨fun h => leave_drop rfl, fun h => ?_⟩
  simp only [Bool.or_eq_false_iff, decide_eq_false_iff_not] at h
  omega
end Go.Proofs.Ytdgabfeeoplldaa.Eng
