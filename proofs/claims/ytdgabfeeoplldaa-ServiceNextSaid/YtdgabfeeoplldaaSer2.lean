/- Layer 12: the next day; the document's answer. -/
import Derived.Test.YtdgabfeeoplldaaSer1
namespace Go.Proofs.Ytdgabfeeoplldaa.Eng
open Go Go.Proofs
set_option linter.unusedVariables false
set_option linter.unusedSimpArgs false
set_option maxRecDepth 10000
theorem div_pow_succ (w : Int) (i : Nat) : w / 2 ^ i / 2 = w / 2 ^ (i + 1) := by
  rw [Int.pow_succ, Int.ediv_ediv_of_nonneg (by exact Int.le_of_lt (Int.pow_pos (by decide)))]
theorem t_rRuns (s : Srv) (f g : Bool) (d : Int) (H : AH) (hs : s.ok) (hm : mayB s = true) : Called Try.prog F.clapperref12_Runs [s.av f g, I d] H (Bl (runsB s d)) H := by
  obtain ⟨m1, _, _, m4, m5, _⟩ := mayB_from hm
  refine e_clapperref12_Runs ?_
  simp only [ic_clapperref12_Runs, go_sem, Srv.av, Srv.cells]
  refine ⟨rfl, callW_some (t_in s.extra f d _ hs.2.2.2.1) (fun _ => rfl) ?_⟩
  simp only [go_sem]
  refine callW_some (t_in s.except g d _ hs.2.2.2.2) (fun _ => rfl) ?_
  simp only [go_sem]
  refine ⟨fun h => leave_drop (by simp [low, runsB, h]), fun h => ⟨fun hb => leave_drop ?_, fun hb => ?_⟩⟩
  · simp only [Bool.or_eq_true, decide_eq_true_eq] at hb
    simp only [low, runsB, h, decide_false, Bool.false_or]
    rcases hb with (hb | hb) | hb
    · simp [hb]
    · rw [show decide (s.from_ ≤ d) = false by simp; omega]; rfl
    · rw [show decide (d < s.to) = false by simp; omega]; simp
  · simp only [Bool.or_eq_false_iff, decide_eq_false_iff_not] at hb
    refine w_loop _ (fun (i : Nat) => ([(1, I d), (7, I (s.week / 2 ^ i)), (8, I i)], H ++ [⟨[I s.week, I s.from_, I s.to, vI s.extra f, vI s.except g], 0, true⟩])) (fun i => (i : Int) ≤ d % 7) (fun i => 7 - i) 0 (by simp; omega) (by simp) ?_
    intro i hi
    have hw : 0 ≤ s.week / 2 ^ i ∧ s.week / 2 ^ i ≤ 128 := by
      have h2 : (1 : Int) ≤ 2 ^ i := Int.pow_pos (by decide)
      refine ⟨Int.ediv_nonneg m4 (by omega), Int.le_trans (Int.ediv_le_self _ m4) (by omega)⟩
    simp only [go_sem, Int.tmod_eq_emod_of_nonneg (show 0 ≤ d by omega)]
    refine ⟨by decide, fun hlt => ⟨by decide, i + 1, ?_, by omega, by omega⟩, fun hlt => ⟨by decide, leave_drop ?_⟩⟩
    · rw [Int.tdiv_eq_ediv_of_nonneg hw.1, w64 _ (by omega) (by omega), w64 _ (by omega) (by omega), div_pow_succ]; rfl
    · have e : i = (d % 7).toNat := by omega
      rw [Int.tmod_eq_emod_of_nonneg hw.1]
      simp only [low, runsB, h, decide_false, Bool.false_or, hb.1.1, Bool.not_false, Bool.and_true]
      rw [show decide (s.from_ ≤ d) = true by simp; omega, show decide (d < s.to) = true by simp; omega]
      subst e; rfl
/-- The first day that does, of so many. -/
def firstDay (p : Int → Bool) (d : Int) : Nat → Int
  | 0 => -1
  | n + 1 => if p d then d else firstDay p (d + 1) n
theorem t_rNext (s : Srv) (f g : Bool) (d : Int) (H : AH) (hs : s.ok) (hm : mayB s = true) (h0 : 0 ≤ d) (h1 : d ≤ 2000000) : Called Try.prog F.clapperref12_Next [s.av f g, I d] H (I (firstDay (runsB s) d 3000)) H := by
  refine e_clapperref12_Next ?_
  simp only [ic_clapperref12_Next, go_sem, Srv.av, Srv.cells]
  refine ⟨rfl, ?_⟩
  refine w_loop _ (fun (i : Nat) => ([(1, I d), (2, .ptr H.length 0), (5, I (d + i))], H ++ [⟨[I s.week, I s.from_, I s.to, vI s.extra f, vI s.except g], 0, true⟩])) (fun i => i ≤ 3000 ∧ firstDay (runsB s) d 3000 = firstDay (runsB s) (d + i) (3000 - i)) (fun i => 3000 - i) 0 (by simp) (by simp) ?_
  rintro i ⟨hi, hj⟩
  simp only [go_sem]
  rw [w64 (d + 3000) (by omega) (by omega)]
  refine ⟨fun hlt => ?_, fun hlt => leave_drop ?_⟩
  · refine callW_some (t_rRuns s f g (d + i) _ hs hm) (fun _ => rfl) ?_
    simp only [go_sem]
    have e : 3000 - i = (3000 - (i + 1)) + 1 := by omega
    refine ⟨fun hb => leave_drop ?_, fun hb => ⟨i + 1, ?_, ⟨by omega, ?_⟩, by omega⟩⟩
    · rw [hj, e, firstDay, if_pos hb]; rfl
    · rw [w64 _ (by omega) (by omega)]; simp only [Int.natCast_add, Int.add_assoc]; rfl
    · rw [hj, e, firstDay, if_neg (by simp [hb])]
      congr 1
      omega
  · have : i = 3000 := by omega
    subst this
    rw [hj]; rfl
/-- One day looked at. -/
def seeF (s : Srv) (day b d : Int) : Int := if day ≤ d ∧ (b < 0 ∨ d < b) ∧ runsB s d = true then d else b
theorem t_see (s : Srv) (f g : Bool) (day b d : Int) (pd pb ps : Nat) (H : AH) (hs : s.ok) (hm : mayB s = true) (h1 : pd < H.length) (h2 : pb < H.length) (h3 : ps < H.length)
    (o1 : obj H pd = ⟨[I day], 0, true⟩) (o2 : obj H pb = ⟨[I b], 0, true⟩) (o3 : obj H ps = ⟨s.cells f g, 0, true⟩) :
    Called Try.prog F.service_Next_1 [I d, .ptr pd 0, .ptr pb 0, .ptr ps 0] H (.tup []) (setO H pb [I (seeF s day b d)]) := by
  simp only [Srv.cells] at o3
  refine e_service_Next_1 ?_
  simp only [ic_service_Next_1, go_sem, h1, h2, h3, o1, o2, o3]
  refine callG_of (v := Bl (runsB s d)) (fun _ => t_runs s f g d _ hs hm) ?_
  simp only [go_sem]
  have e0 : ([I b] : List AV) = (obj H pb).cs := by rw [o2]
  refine ⟨fun h => ⟨⟨rfl, h2, by rw [o2], by rw [o2]; exact Nat.le_refl 1⟩, ?_⟩, fun h => ?_⟩
  · simp only [Bool.and_eq_true, Bool.or_eq_true, decide_eq_true_eq] at h
    rw [seeF, if_pos ⟨h.1.1, h.1.2, h.2⟩, o2]
    exact Leave.refl _ _ _
  · have : seeF s day b d = b := by
      rw [seeF, if_neg]
      rintro ⟨g1, g2, g3⟩
      simp [g1, g3] at h
      omega
    rw [this, e0, setO_same h2]
    exact Leave.refl _ _ _
def scan (s : Srv) (day b x : Int) : Nat → Int
  | 0 => b
  | n + 1 => scan s day (seeF s day b x) (x + 1) n
def nextX (s : Srv) (d : Int) : Int := if d < s.from_ then s.from_ else d
def nextN (s : Srv) (d : Int) : Nat := (min s.to (nextX s d + 7 * (s.except.length + 1)) - nextX s d).toNat
def nextV (s : Srv) (d : Int) : Int := scan s d (s.extra.foldl (seeF s d) (-1)) (nextX s d) (nextN s d)
def nextH (s : Srv) (f g : Bool) (H : AH) (d b : Int) : AH := H ++ [⟨[I s.week, I s.from_, I s.to, vI s.extra f, vI s.except g], 0, true⟩, ⟨[I d], 0, true⟩, ⟨[I b], 0, true⟩]
theorem t_see' (s : Srv) (f g : Bool) (d b x : Int) (H : AH) (hs : s.ok) (hm : mayB s = true) : Called Try.prog F.service_Next_1 [I x, .ptr (H.length + 1) 0, .ptr (H.length + 2) 0, .ptr H.length 0] (nextH s f g H d b) (.tup []) (nextH s f g H d (seeF s d b x)) := by
  have := t_see s f g d b x (H.length + 1) (H.length + 2) H.length (nextH s f g H d b) hs hm (by simp [nextH]) (by simp [nextH]) (by simp [nextH]) (by simp [nextH, obj_appk, obj_consk, obj_cons0]) (by simp [nextH, obj_appk, obj_consk, obj_cons0]) (by simp [nextH, obj_app0, obj_cons0, Srv.cells])
  have e : setO (nextH s f g H d b) (H.length + 2) [I (seeF s d b x)] = nextH s f g H d (seeF s d b x) := by simp only [nextH, go_sem]
  rw [e] at this
  exact this
theorem t_Next (s : Srv) (f g : Bool) (d : Int) (H : AH) (hs : s.ok) (hd : ok64 d) : Called Try.prog F.service_Next [s.av f g, I d] H (if mayB s = true ∧ 0 ≤ d then .tup [I (if nextV s d < 0 then 0 else nextV s d), Bl (decide (0 ≤ nextV s d))] else .tup [I 0, Bl false]) H := by
  refine e_service_Next ?_
  simp only [ic_service_Next, go_sem, Srv.av, Srv.cells]
  refine ⟨rfl, rfl, callW_some (t_May s f g _ hs) (fun _ => rfl) ?_⟩
  simp only [go_sem]
  refine ⟨fun h => leave_drop ?_, fun h => ⟨rfl, ?_⟩⟩
  · rw [if_neg]; rfl
    rintro ⟨h1, h2⟩
    simp [h1] at h; omega
  simp only [Bool.or_eq_false_iff, Bool.not_eq_false, decide_eq_false_iff_not, Bool.not_eq_eq_eq_not, Bool.not_false] at h
  obtain ⟨hm, h0⟩ := h
  have h0 : 0 ≤ d := by omega
  obtain ⟨m1, m2, m3, m4, m5, m6, m7⟩ := mayB_from hm
  rw [if_pos ⟨hm, h0⟩]
  refine w_loop _ (fun (a : Nat × Int) => ([(2, .ptr H.length 0), (3, .ptr (H.length + 1) 0), (6, .ptr (H.length + 2) 0), (7, .fn (.func F.service_Next_1) [] [.ptr (H.length + 1) 0, .ptr (H.length + 2) 0, .ptr H.length 0]), (21, vI s.extra f), (22, I s.extra.length), (23, I a.1)], nextH s f g H d a.2))
    (fun a => a.1 ≤ s.extra.length ∧ s.extra.foldl (seeF s d) (-1) = (s.extra.drop a.1).foldl (seeF s d) a.2) (fun a => s.extra.length - a.1) (0, -1) (by simp) (by simp [nextH]) ?_
  rintro ⟨i, b⟩ ⟨hi, hj⟩
  dsimp only at hi hj
  simp only [go_sem, nextH]
  refine ⟨fun hlt => ?_, fun hlt => ?_⟩
  · have hlt : i < s.extra.length := by omega
    simp only [go_sem, elt_I _ i hlt]
    refine ⟨⟨by omega, by omega⟩, callW_some (t_see' s f g d b (s.extra.getD i 0) H hs hm) (fun h => absurd h (by decide)) ?_⟩
    simp only [go_sem, nextH]
    refine ⟨(i + 1, seeF s d b (s.extra.getD i 0)), by rw [w64 _ (by omega) (by omega)]; rfl, rfl, ⟨by omega, ?_⟩, by omega⟩
    rw [hj, List.drop_eq_getElem_cons hlt, List.foldl_cons]
    simp [List.getD_eq_getElem?_getD, hlt]
  · have e : i = s.extra.length := by omega
    subst e
    rw [List.drop_length, List.foldl_nil] at hj
    have hx : d ≤ nextX s d ∧ s.from_ ≤ nextX s d ∧ (nextX s d = d ∨ nextX s d = s.from_) := by unfold nextX; split <;> omega
    have hn : nextN s d = (min s.to (nextX s d + 7 * (s.except.length + 1)) - nextX s d).toNat := rfl
    have hv : nextV s d = scan s d b (nextX s d) (nextN s d) := by rw [nextV, hj]
    refine w_loop _ (fun (a : Nat × Int) => ([(2, .ptr H.length 0), (6, .ptr (H.length + 2) 0), (7, .fn (.func F.service_Next_1) [] [.ptr (H.length + 1) 0, .ptr (H.length + 2) 0, .ptr H.length 0]), (10, I (nextX s d)), (11, I (nextX s d + a.1))], nextH s f g H d a.2))
      (fun a => a.1 ≤ nextN s d ∧ nextV s d = scan s d a.2 (nextX s d + a.1) (nextN s d - a.1)) (fun a => nextN s d - a.1) (0, b) ⟨Nat.zero_le _, by simp [hv]⟩ (by simp [nextH, nextX]) ?_
    rintro ⟨i, b'⟩ ⟨hi', hj'⟩
    dsimp only at hi' hj'
    simp only [go_sem, nextH]
    refine ⟨fun hlt => ?_, fun hlt => leave_drop ?_⟩
    · simp only [Bool.and_eq_true, decide_eq_true_eq] at hlt
      obtain ⟨l1, l2⟩ := hlt
      simp (disch := omega) only [w64] at l2
      have hlt : i < nextN s d := by omega
      refine callW_some (t_see' s f g d b' (nextX s d + i) H hs hm) (fun h => absurd h (by decide)) ?_
      simp only [go_sem, nextH]
      refine ⟨(i + 1, seeF s d b' (nextX s d + i)), ?_, rfl, ⟨by omega, ?_⟩, by omega⟩
      · rw [w64 _ (by omega) (by omega)]; simp only [Int.natCast_add, Int.add_assoc]; rfl
      · rw [hj', show nextN s d - i = (nextN s d - (i + 1)) + 1 by omega, scan]
        simp only [Int.natCast_add, Int.add_assoc]; rfl
    · have hlt : i = nextN s d := by
        by_cases l1 : nextX s d + i < s.to
        · rw [decide_eq_true l1, Bool.true_and, decide_eq_false_iff_not] at hlt
          simp (disch := omega) only [w64] at hlt
          omega
        · omega
      rw [hlt, Nat.sub_self, scan] at hj'
      rw [hj']; rfl
end Go.Proofs.Ytdgabfeeoplldaa.Eng
