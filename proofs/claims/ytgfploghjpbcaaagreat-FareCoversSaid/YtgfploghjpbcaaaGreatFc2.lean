/- Layer 14: products, and tickets; which may be, and what covers. -/
import Derived.Test.YtgfploghjpbcaaaGreatFc1
import Derived.Test.YtgfploghjpbcaaaGreatEngU
namespace Go.Proofs.YtgfploghjpbcaaaGreat.Eng
open Go Go.Proofs
set_option linter.unusedVariables false
set_option linter.unusedSimpArgs false
set_option maxRecDepth 10000
theorem fldV_two (a b : Nat) (x : AV) : fldV a (fldV b x) = fldV (b + a) x := by
  cases x <;> simp [fldV, Nat.add_assoc]
theorem fldOk_two (b : Nat) (x : AV) : fldOk (fldV b x) = fldOk x := by
  cases x <;> rfl
theorem elt_flat {α : Type} (f : α → List AV) (k : Nat) (hk : ∀ a, (f a).length = k) : ∀ (l : List α) (i : Nat) (d : α), i < l.length → elt (l.flatMap f) k i = f (l.getD i d)
  | [], i, d, h => absurd h (Nat.not_lt_zero _)
  | a :: l, 0, d, h => by
    show ((f a ++ l.flatMap f).drop (0 * k)).take k = f a
    rw [Nat.zero_mul, List.drop_zero, List.take_left' (hk a)]
  | a :: l, i + 1, d, h => by
    have := elt_flat f k hk l i d (Nat.lt_of_succ_lt_succ h)
    show ((f a ++ l.flatMap f).drop ((i + 1) * k)).take k = f (l.getD i d)
    rw [← this, elt, Nat.succ_mul, Nat.add_comm, ← List.drop_drop, List.drop_left' (hk a)]
theorem drop_flat {α : Type} (f : α → List AV) (k : Nat) (hk : ∀ a, (f a).length = k) (l : List α) (i o m : Nat) (d : α) (hi : i < l.length) (hm : o + m ≤ k) : ((l.flatMap f).drop (i * k + o)).take m = ((f (l.getD i d)).drop o).take m := by
  rw [← elt_flat f k hk l i d hi, elt, List.drop_take, List.drop_drop, List.take_take, Nat.min_eq_left (by omega)]
theorem getD_flat {α : Type} (f : α → List AV) (k : Nat) (hk : ∀ a, (f a).length = k) (l : List α) (i o : Nat) (d : α) (hi : i < l.length) (ho : o < k) : (l.flatMap f).getD (i * k + o) .junk = (f (l.getD i d)).getD o .junk := by
  rw [← elt_flat f k hk l i d hi, elt]
  simp only [List.getD_eq_getElem?_getD, List.getElem?_take, List.getElem?_drop, if_pos ho]
theorem getD_memP {α : Type} {l : List α} {i : Nat} (d : α) (h : i < l.length) : l.getD i d ∈ l := by
  rw [List.getD_eq_getElem?_getD, List.getElem?_eq_getElem h]; exact List.getElem_mem h
/-- Days as one cell. -/
def isv (e : AV) (l : List Int) : Prop := (∃ f, e = vI l f) ∨ (e = nilS ∧ l = [])
theorem isv_le {e : AV} {l : List Int} (h : isv e l) : ∃ f, Le e (vI l f) := by
  rcases h with ⟨f, rfl⟩ | ⟨rfl, rfl⟩
  · exact ⟨f, .refl _⟩
  · exact ⟨true, le_nil true⟩
theorem isv_len {e : AV} {l : List Int} (h : isv e l) : lenOk false e = True ∧ srcN e = l.length ∧ e.one = true ∧ e.cells = [e] ∧ e.un = e ∧ (∀ g, okMay g e = True) := by
  rcases h with ⟨f, rfl⟩ | ⟨rfl, rfl⟩
  · exact ⟨rfl, by simp [vI, srcN], rfl, rfl, rfl, fun _ => rfl⟩
  · exact ⟨rfl, rfl, rfl, rfl, rfl, fun _ => rfl⟩
/-- A product. -/
structure Prd where
  id : Int
  mins : Int
  s : Srv
  e : AV
  x : AV
def Prd.ok (p : Prd) : Prop := ok64 p.id ∧ ok64 p.mins ∧ ok64 p.s.week ∧ ok64 p.s.from_ ∧ ok64 p.s.to ∧ isv p.e p.s.extra ∧ isv p.x p.s.except
def Prd.few (p : Prd) : Prop := p.s.extra.length ≤ 300 ∧ p.s.except.length ≤ 300
instance (p : Prd) : Decidable p.few := inferInstanceAs (Decidable (_ ∧ _))
def Prd.sv (p : Prd) : List AV := [I p.s.week, I p.s.from_, I p.s.to, p.e, p.x]
def Prd.cells (p : Prd) : List AV := [I p.id, I p.mins, I p.s.week, I p.s.from_, I p.s.to, p.e, p.x]
theorem Prd.len (p : Prd) : p.cells.length = 7 := rfl
theorem Prd.sok {p : Prd} (h : p.ok) (hf : p.few) : p.s.ok := ⟨h.2.2.1, h.2.2.2.1, h.2.2.2.2.1, by have := hf.1; omega, by have := hf.2; omega⟩
theorem le_aggs {a b : List AV} (h : LeL a b) : Le (.agg a) (.agg b) := fun S y ⟨vs, h1, h2⟩ => ⟨vs, h1, h.rl h2⟩
theorem Prd.le {p : Prd} (h : p.ok) : ∃ f g, Le (.agg p.sv) (p.s.av f g) := by
  obtain ⟨f, hf⟩ := isv_le h.2.2.2.2.2.1
  obtain ⟨g, hg⟩ := isv_le h.2.2.2.2.2.2
  exact ⟨f, g, le_aggs ⟨.refl _, .refl _, .refl _, hf, hg, trivial⟩⟩
theorem s_May {p : Prd} (H : AH) (h : p.ok) (hf : p.few) : Called Tryz.prog F.service_May [.agg p.sv] H (Bl (mayB p.s)) H := by
  obtain ⟨f, g, hl⟩ := Prd.le h
  exact (t_May p.s f g H (Prd.sok h hf)).weak ⟨hl, trivial⟩
theorem s_rMay {p : Prd} (H : AH) (h : p.ok) (hf : p.few) : Called Tryz.prog F.clapperref12_May [.agg p.sv] H (Bl (mayB p.s)) H := by
  obtain ⟨f, g, hl⟩ := Prd.le h
  exact (t_rMay p.s f g H (Prd.sok h hf)).weak ⟨hl, trivial⟩
theorem s_Runs {p : Prd} (d : Int) (H : AH) (h : p.ok) (hf : p.few) : Called Tryz.prog F.service_Runs [.agg p.sv, I d] H (Bl (mayB p.s && runsB p.s d)) H := by
  obtain ⟨f, g, hl⟩ := Prd.le h
  exact (t_Runs p.s f g d H (Prd.sok h hf)).weak ⟨hl, .refl _, trivial⟩
theorem s_rRuns {p : Prd} (d : Int) (H : AH) (h : p.ok) (hf : p.few) (hm : mayB p.s = true) : Called Tryz.prog F.clapperref12_Runs [.agg p.sv, I d] H (Bl (runsB p.s d)) H := by
  obtain ⟨f, g, hl⟩ := Prd.le h
  exact (t_rRuns p.s f g d H (Prd.sok h hf) hm).weak ⟨hl, .refl _, trivial⟩
def noP : Prd := ⟨0, 0, ⟨0, 0, 0, [], []⟩, nilS, nilS⟩
abbrev pcs (l : List Prd) : List AV := l.flatMap Prd.cells
/-- Products that may be. -/
def prdBad (l : List Prd) (i : Nat) : Bool := let p := l.getD i noP
  (((decide (p.id < 1) || decide (16 < p.id)) || (decide (0 < i) && decide (p.id ≤ (l.getD (i - 1) noP).id))) || decide (p.mins < 1) || decide (1048576 < p.mins)) || !mayB p.s
def prdsB (l : List Prd) : Bool := decide (l.length ≤ 16) && decide (∀ i, i < l.length → prdBad l i = false)
theorem prdsB_bad {l : List Prd} {i : Nat} (hi : i < l.length) (h : prdBad l i = true) : prdsB l = false := by
  rw [prdsB, Bool.and_eq_false_iff]
  right
  rw [decide_eq_false_iff_not]
  exact fun hh => by have := hh i hi; rw [h] at this; cases this
theorem prdsB_ok {l : List Prd} (h : ∀ i, i < l.length → prdBad l i = false) : prdsB l = decide (l.length ≤ 16) := by
  rw [prdsB, decide_eq_true h, Bool.and_true]
section
variable {H : AH} {x : AV} {l : List Prd}
theorem Sl.prd (h : Sl 7 H x (pcs l) l.length) {i : Nat} (hi : i < l.length) : loadV true 7 H (idxaV 7 (.lit (.int .i64 i)) x) = .agg (l.getD i noP).cells := by
  rw [h.ldA _ hi (by decide), elt_flat _ 7 Prd.len _ _ noP hi]
theorem Sl.prd1 (h : Sl 7 H x (pcs l) l.length) {i : Nat} (hi : i < l.length) (o : Nat) (ho : o < 7) : loadV false 1 H (fldV o (idxaV 7 (.lit (.int .i64 i)) x)) = (l.getD i noP).cells.getD o .junk := by
  rw [h.fd _ hi (by omega) (by decide), if_neg (by decide), getD_flat _ 7 Prd.len _ _ _ noP hi ho]
theorem Sl.prd5 (h : Sl 7 H x (pcs l) l.length) {i : Nat} (hi : i < l.length) : loadV true 5 H (fldV 2 (idxaV 7 (.lit (.int .i64 i)) x)) = .agg (l.getD i noP).sv := by
  rw [h.fd _ hi (by omega) (by decide), if_pos rfl, drop_flat _ 7 Prd.len _ _ _ _ noP hi (by omega)]; rfl
end
theorem t_Few {H : AH} {x : AV} {l : List Prd} (hx : Sl 7 H x (pcs l) l.length) (hl : ∀ p ∈ l, p.ok) (hn : l.length ≤ 140737488355328) : Called Tryz.prog F.clapperref14_Few [x] H (Bl (decide (l.length ≤ 60) && decide (∀ p ∈ l, p.few))) H := by
  refine e_clapperref14_Few ?_
  simp only [ic_clapperref14_Few, go_sem]
  refine w_loop _ (fun (i : Nat) => ([(0, x), (3, I i)], H)) (fun i => i ≤ l.length ∧ ∀ j, j < i → (l.getD j noP).few) (fun i => l.length - i) 0 ⟨Nat.zero_le _, fun j hj => by omega⟩ rfl ?_
  rintro i ⟨hi, hj⟩
  simp only [go_sem, hx.lenT, hx.n]
  refine ⟨fun h => ?_, fun h => ?_⟩
  · have hlt : i < l.length := by omega
    have hp := hl _ (getD_memP noP hlt)
    have e1 := isv_len hp.2.2.2.2.2.1
    have e2 := isv_len hp.2.2.2.2.2.2
    have f1 := hx.fdOk .i64 hlt (o := 5) (m := 1) (by omega)
    have f2 := hx.fdOk .i64 hlt (o := 6) (m := 1) (by omega)
    simp only [go_sem, hx.idx, hx.un, hx.may, fldV_two, fldOk_two, Nat.reduceAdd, f1, f2, hx.prd1 hlt 5 (by omega), hx.prd1 hlt 6 (by omega), Prd.cells, e1, e2]
    refine ⟨⟨by omega, by omega⟩, fun _ => ⟨by omega, by omega⟩, fun hb => ?_, fun hb => ?_⟩
    · refine leave_same ?_
      rw [show decide (∀ p ∈ l, p.few) = false from ?_, Bool.and_false]
      rw [decide_eq_false_iff_not]
      intro hh
      have := hh _ (getD_memP noP hlt)
      simp only [Bool.or_eq_true, decide_eq_true_eq] at hb
      simp only [Prd.few] at this
      omega
    · refine ⟨i + 1, by rw [w64 _ (by omega) (by omega)]; rfl, ⟨by omega, fun j hj' => ?_⟩, by omega⟩
      rcases Nat.lt_succ_iff_lt_or_eq.1 hj' with h1 | rfl
      · exact hj j h1
      · simp only [Bool.or_eq_false_iff, decide_eq_false_iff_not] at hb
        simp only [Prd.few]
        omega
  · have : ∀ p ∈ l, p.few := fun p hp => by
      obtain ⟨j, hj', rfl⟩ := List.mem_iff_getElem.1 hp
      have := hj j (by omega)
      rwa [List.getD_eq_getElem?_getD, List.getElem?_eq_getElem hj'] at this
    refine leave_same ?_
    rw [decide_eq_true this, Bool.and_true]
    congr 2
    simp; omega
theorem prdBad_eq (l : List Prd) (i : Nat) : prdBad l i = ((((decide ((l.getD i noP).id < 1) || decide (16 < (l.getD i noP).id)) || (decide (0 < i) && decide ((l.getD i noP).id ≤ (l.getD (i - 1) noP).id))) || decide ((l.getD i noP).mins < 1) || decide (1048576 < (l.getD i noP).mins)) || !mayB (l.getD i noP).s) := rfl
theorem t_prMay {H : AH} {x : AV} {l : List Prd} (hx : Sl 7 H x (pcs l) l.length) (hl : ∀ p ∈ l, p.ok ∧ p.few) (hn : l.length ≤ 1000000) : Called Tryz.prog F.clapperref14_May [x] H (Bl (prdsB l)) H := by
  refine e_clapperref14_May ?_
  simp only [ic_clapperref14_May, go_sem]
  refine w_loop _ (fun (i : Nat) => ([(0, x), (3, I i)], H)) (fun i => i ≤ l.length ∧ ∀ j, j < i → prdBad l j = false) (fun i => l.length - i) 0 ⟨Nat.zero_le _, fun j hj => by omega⟩ rfl ?_
  rintro i ⟨hi, hj⟩
  simp only [go_sem, hx.lenT, hx.n]
  refine ⟨fun h => ?_, fun h => ?_⟩
  · have hlt : i < l.length := by omega
    obtain ⟨hp, hf⟩ := hl _ (getD_memP noP hlt)
    have f0 := hx.fdOk .i64 hlt (o := 0) (m := 1) (by omega)
    have f1 := hx.fdOk .i64 hlt (o := 1) (m := 1) (by omega)
    have f2 := hx.fdOk .i64 hlt (o := 2) (m := 5) (by omega)
    have next : prdBad l i = false → ∃ a', look [(0, x), (3, AV.lit (Value.int IntKind.i64 (IntKind.i64.wrap (↑i + 1))))] = look [(0, x), (3, I (a' : Nat))] ∧ (a' ≤ l.length ∧ ∀ j, j < a' → prdBad l j = false) ∧ l.length - a' < l.length - i := by
      intro hb
      refine ⟨i + 1, by rw [w64 _ (by omega) (by omega)]; rfl, ⟨by omega, fun j hj' => ?_⟩, by omega⟩
      rcases Nat.lt_succ_iff_lt_or_eq.1 hj' with h1 | rfl
      · exact hj j h1
      · exact hb
    simp only [go_sem, hx.idx, hx.un, hx.may, f2, hx.prd5 hlt]
    refine ⟨⟨by omega, by omega⟩, callW_some (s_rMay _ hp hf) (fun _ => rfl) ?_⟩
    have pb := prdBad_eq l i
    have ib : (0 : Int) ≤ i ∧ (i : Int) < l.length := ⟨by omega, by omega⟩
    rcases Nat.eq_zero_or_pos i with h0 | h0
    · have z0 : decide ((0 : Int) < i) = false := by simp; omega
      have z1 : decide (0 < i) = false := by simp; omega
      simp only [go_sem, hx.idx, hx.un, hx.may, f0, f1, hx.prd1 hlt 0 (by omega), hx.prd1 hlt 1 (by omega), Prd.cells, z0]
      rw [z1] at pb
      simp only [Bool.false_and, Bool.or_false] at pb
      exact ⟨ib, fun _ => ib, fun _ => ib, fun _ => ib, fun hb => leave_same (by rw [prdsB_bad hlt (pb.trans hb)]), fun hb => next (pb.trans hb)⟩
    · have e1 : IntKind.i64.wrap ((i : Int) - 1) = ((i - 1 : Nat) : Int) := by rw [w64 _ (by omega) (by omega)]; omega
      have g0 := hx.fdOk .i64 (show i - 1 < l.length by omega) (o := 0) (m := 1) (by omega)
      have z0 : decide ((0 : Int) < i) = true := by simp; omega
      have z1 : decide (0 < i) = true := by simp; omega
      simp only [go_sem, hx.idx, hx.un, hx.may, f0, f1, hx.prd1 hlt 0 (by omega), hx.prd1 hlt 1 (by omega), hx.prd1 (show i - 1 < l.length by omega) 0 (by omega), g0, Prd.cells, z0, e1]
      rw [z1] at pb
      simp only [Bool.true_and] at pb
      exact ⟨ib, fun _ => ib, fun _ => ib, fun _ => ⟨by omega, by omega⟩, fun _ => ib, fun _ => ib, fun hb => leave_same (by rw [prdsB_bad hlt (pb.trans hb)]), fun hb => next (pb.trans hb)⟩
  · exact leave_same (by rw [prdsB_ok fun j hj' => hj j (by omega)]; simp; omega)
theorem t_pMay {H : AH} {x : AV} {l : List Prd} (hx : Sl 7 H x (pcs l) l.length) (hl : ∀ p ∈ l, p.ok ∧ p.few) (hn : l.length ≤ 1000000) : Called Tryz.prog F.fare_May [x] H (Bl (prdsB l)) H := by
  refine e_fare_May ?_
  simp only [ic_fare_May, go_sem, hx.lenT, hx.n]
  refine w_loop _ (fun (s : Nat × AH) => ([(0, x), (5, x), (6, I l.length), (7, I s.1)], H ++ s.2)) (fun s => s.1 ≤ l.length ∧ ∀ j, j < s.1 → prdBad l j = false) (fun s => l.length - s.1) (0, []) ⟨Nat.zero_le _, fun j hj => by omega⟩ (by rw [List.append_nil]; rfl) ?_
  rintro ⟨i, G⟩ ⟨hi, hj⟩
  dsimp only at hi hj
  simp only [go_sem]
  refine ⟨fun h => ?_, fun h => ?_⟩
  · have hlt : i < l.length := by omega
    obtain ⟨hp, hf⟩ := hl _ (getD_memP noP hlt)
    have v1 := isv_len hp.2.2.2.2.2.1
    have v2 := isv_len hp.2.2.2.2.2.2
    have hG : Sl 7 (H ++ G) x (pcs l) l.length := hx.app
    have hK : ∀ K, Sl 7 (H ++ (G ++ K)) x (pcs l) l.length := fun K => hx.app
    have f7 := hG.ldOk .i64 hlt (Nat.le_refl 7)
    have sv := fun H => s_May H hp hf
    have next : ∀ K, prdBad l i = false → ∃ a' : Nat × AH, look [(0, x), (5, x), (6, I l.length), (7, AV.lit (Value.int IntKind.i64 (IntKind.i64.wrap (↑i + 1))))] = look [(0, x), (5, x), (6, I l.length), (7, I a'.1)] ∧ H ++ K = H ++ a'.2 ∧ (a'.1 ≤ l.length ∧ ∀ j, j < a'.1 → prdBad l j = false) ∧ l.length - a'.1 < l.length - i := by
      intro K hb
      refine ⟨(i + 1, K), by rw [w64 _ (by omega) (by omega)]; rfl, rfl, ⟨by show i + 1 ≤ _; omega, fun j hj' => ?_⟩, by show _ - (i + 1) < _; omega⟩
      rcases Nat.lt_succ_iff_lt_or_eq.1 hj' with h1 | rfl
      · exact hj j h1
      · exact hb
    have pb := prdBad_eq l i
    have ib : (0 : Int) ≤ i ∧ (i : Int) < l.length := ⟨by omega, by omega⟩
    have hP : (l.getD i noP).cells = [I (l.getD i noP).id, I (l.getD i noP).mins, I (l.getD i noP).s.week, I (l.getD i noP).s.from_, I (l.getD i noP).s.to, (l.getD i noP).e, (l.getD i noP).x] := rfl
    have hS : (l.getD i noP).sv = [I (l.getD i noP).s.week, I (l.getD i noP).s.from_, I (l.getD i noP).s.to, (l.getD i noP).e, (l.getD i noP).x] := rfl
    simp only [go_sem, hG.idx, hG.un, f7, hG.prd hlt, hP, v1, v2]
    rcases Nat.eq_zero_or_pos i with h0 | h0
    · have z0 : decide ((0 : Int) < i) = false := by simp; omega
      have z1 : decide (0 < i) = false := by simp; omega
      simp only [go_sem, z0]
      rw [z1] at pb
      simp only [Bool.false_and, Bool.or_false] at pb
      refine ⟨ib, hx.may _ ▸ trivial, callG_of (fun _ => sv _) ?_⟩
      simp only [go_sem]
      exact ⟨fun hb => leave_drop (by rw [prdsB_bad hlt (pb.trans hb)]; rfl), fun hb => next _ (pb.trans hb)⟩
    · have e1 : IntKind.i64.wrap ((i : Int) - 1) = ((i - 1 : Nat) : Int) := by rw [w64 _ (by omega) (by omega)]; omega
      have z0 : decide ((0 : Int) < i) = true := by simp; omega
      have z1 : decide (0 < i) = true := by simp; omega
      have lt1 : i - 1 < l.length := by omega
      simp only [go_sem, z0, hx.may, hx.un, e1, (hK _).idx, (hx.fdOk .i64 lt1 (o := 0) (m := 1) (by omega)).1, ((hK _).fdOk .i64 lt1 (o := 0) (m := 1) (by omega)).2, (hK _).prd1 lt1 0 (by omega), Prd.cells]
      rw [z1] at pb
      simp only [Bool.true_and] at pb
      refine ⟨ib, fun _ => ⟨by omega, by omega⟩, callG_of (fun _ => sv _) ?_⟩
      simp only [go_sem]
      exact ⟨fun hb => leave_drop (by rw [prdsB_bad hlt (pb.trans hb)]; rfl), fun hb => next _ (pb.trans hb)⟩
  · rw [hx.lenT, hx.n]
    refine ⟨trivial, leave_drop ?_⟩
    rw [prdsB_ok fun j hj' => hj j (by omega)]
    simp only [low]
    congr 2
    simp; omega
/-- The first that is as asked; -1: none is. -/
def fstA {α : Type} (p : α → Bool) (l : List α) : Int := match l.findIdx? p with | some i => i | none => -1
theorem fstA_some {α : Type} {p : α → Bool} {l : List α} {i : Nat} (d : α) (hi : i < l.length) (h : p (l.getD i d) = true) (hj : ∀ j, j < i → p (l.getD j d) = false) : fstA p l = i := by
  have : l.findIdx? p = some i := by
    rw [List.findIdx?_eq_some_iff_getElem]
    refine ⟨hi, ?_, fun j hj' => ?_⟩
    · rw [List.getD_eq_getElem?_getD, List.getElem?_eq_getElem hi] at h; exact h
    · have := hj j hj'
      rw [List.getD_eq_getElem?_getD, List.getElem?_eq_getElem (by omega)] at this
      simpa using this
  simp [fstA, this]
theorem fstA_none {α : Type} {p : α → Bool} {l : List α} (d : α) (hj : ∀ j, j < l.length → p (l.getD j d) = false) : fstA p l = -1 := by
  have : l.findIdx? p = none := by
    rw [List.findIdx?_eq_none_iff]
    intro x hx
    obtain ⟨j, hj', rfl⟩ := List.mem_iff_getElem.1 hx
    have := hj j hj'
    rwa [List.getD_eq_getElem?_getD, List.getElem?_eq_getElem hj'] at this
  simp [fstA, this]
/-- Where the product is. -/
def At (l : List Prd) (n k : Int) : Prop := (k = -1 ∧ ∀ j, j < l.length → (l.getD j noP).id ≠ n) ∨ ∃ j, j < l.length ∧ k = ((j : Nat) : Int) ∧ (l.getD j noP).id = n
theorem fst_at (l : List Prd) (n : Int) : At l n (fstA (fun p => p.id == n) l) := by
  unfold fstA
  cases h : l.findIdx? (fun p => p.id == n) with
  | none =>
    rw [List.findIdx?_eq_none_iff] at h
    refine .inl ⟨rfl, fun j hj => ?_⟩
    simpa using h _ (getD_memP noP hj)
  | some i =>
    rw [List.findIdx?_eq_some_iff_getElem] at h
    obtain ⟨hi, h1, _⟩ := h
    exact .inr ⟨i, hi, rfl, by rw [List.getD_eq_getElem?_getD, List.getElem?_eq_getElem hi]; simpa using h1⟩
theorem prds_lt {l : List Prd} (h : prdsB l = true) : ∀ j, j < l.length → ∀ i, i < j → (l.getD i noP).id < (l.getD j noP).id := by
  have hs : ∀ j, j < l.length → prdBad l j = false := by
    simp only [prdsB, Bool.and_eq_true, decide_eq_true_eq] at h; exact h.2
  intro j
  induction j with
  | zero => intro _ i hi; omega
  | succ j ih =>
    intro hj i hi
    have h1 := hs _ hj
    rw [prdBad_eq] at h1
    simp only [Bool.or_eq_false_iff, Bool.and_eq_false_iff, decide_eq_false_iff_not] at h1
    have h2 : (l.getD j noP).id < (l.getD (j + 1) noP).id := by
      have := h1.1.1.1.2
      rw [Nat.add_sub_cancel] at this
      omega
    rcases Nat.lt_succ_iff_lt_or_eq.1 hi with h3 | rfl
    · have := ih (by omega) i h3; omega
    · exact h2
theorem at_one {l : List Prd} (h : prdsB l = true) {n k k' : Int} (h1 : At l n k) (h2 : At l n k') : k = k' := by
  rcases h1 with ⟨rfl, h1⟩ | ⟨j, hj, rfl, h1⟩ <;> rcases h2 with ⟨rfl, h2⟩ | ⟨j', hj', rfl, h2⟩
  · rfl
  · exact absurd h2 (h1 _ hj')
  · exact absurd h1 (h2 _ hj)
  · rcases Nat.lt_trichotomy j j' with h3 | rfl | h3
    · have := prds_lt h _ hj' _ h3; omega
    · rfl
    · have := prds_lt h _ hj _ h3; omega
end Go.Proofs.YtgfploghjpbcaaaGreat.Eng
