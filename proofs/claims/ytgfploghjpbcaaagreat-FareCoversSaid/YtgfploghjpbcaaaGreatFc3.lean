/- Layer 14: where a product is; tickets; what covers. -/
import Derived.Test.YtgfploghjpbcaaaGreatFc2
namespace Go.Proofs.YtgfploghjpbcaaaGreat.Eng
open Go Go.Proofs
set_option linter.unusedVariables false
set_option linter.unusedSimpArgs false
set_option maxRecDepth 10000
/-- A ticket. -/
structure Tkt where
  serial : Int
  product : Int
  zones : Int
  from_ : Int
  key : Int
def Tkt.ok (t : Tkt) : Prop := ok64 t.serial ∧ ok64 t.product ∧ ok64 t.zones ∧ ok64 t.from_ ∧ ok64 t.key
abbrev Tkt.cells (t : Tkt) : List AV := [I t.serial, I t.product, I t.zones, I t.from_, I t.key]
def inB (a b n : Int) : Bool := decide (a ≤ n) && decide (n ≤ b)
def tktB (t : Tkt) : Bool := inB 1 2147483647 t.serial && inB 1 16 t.product && inB 1 255 t.zones && inB 0 1073741824 t.from_ && inB 1 2147483647 t.key
theorem t_within (n a b : Int) (H : AH) : Called Tryz.prog F.ticket_within [I n, I a, I b] H (Bl (inB a b n)) H := by
  refine e_ticket_within ?_
  simp only [ic_ticket_within, go_sem]
  exact leave_same rfl
theorem t_tMay (t : Tkt) (H : AH) : Called Tryz.prog F.ticket_May [.agg t.cells] H (Bl (tktB t)) H := by
  refine e_ticket_May ?_
  simp only [ic_ticket_May, go_sem]
  refine callW_some (t_within _ _ _ _) (fun _ => rfl) ?_
  simp only [go_sem]
  refine callG_of (fun _ => t_within _ _ _ _) ?_
  simp only [go_sem]
  refine callG_of (fun _ => t_within _ _ _ _) ?_
  simp only [go_sem]
  refine callG_of (fun _ => t_within _ _ _ _) ?_
  simp only [go_sem]
  refine callG_of (fun _ => t_within _ _ _ _) ?_
  simp only [go_sem]
  exact leave_drop rfl
theorem t_rtMay (t : Tkt) (H : AH) : Called Tryz.prog F.clapperref09_May [.agg t.cells] H (Bl (tktB t)) H := by
  refine e_clapperref09_May ?_
  simp only [ic_clapperref09_May, go_sem]
  refine leave_drop ?_
  simp only [low, tktB, inB, Bool.and_assoc]
def plcB (z m : Int) : Bool := (inB 0 7 z && decide (0 ≤ m)) && decide (m ≤ 1073741824)
theorem t_plc (z m : Int) (H : AH) : Called Tryz.prog F.fare_place [I z, I m] H (Bl (plcB z m)) H := by
  refine e_fare_place ?_
  simp only [ic_fare_place, go_sem]
  refine leave_same ?_
  rw [plcB, inB, show decide (z ≤ 7) = decide (z < 8) by simp; omega]
theorem t_rplc (z m : Int) (H : AH) : Called Tryz.prog F.clapperref14_Place [I z, I m] H (Bl (plcB z m)) H := by
  refine e_clapperref14_Place ?_
  simp only [ic_clapperref14_Place, go_sem]
  exact leave_same rfl
def zoneB (n z : Int) : Bool := (n / 2 ^ z.toNat) % 2 == 1
theorem t_zone (t : Tkt) (z : Int) (H : AH) (hz : 0 ≤ z) (hz7 : z ≤ 7) (ht : 0 ≤ t.zones) : Called Tryz.prog F.fare_in [.agg t.cells, I z] H (Bl (zoneB t.zones z)) H := by
  refine e_fare_in ?_
  simp only [ic_fare_in, go_sem]
  refine ⟨hz, leave_drop ?_⟩
  simp only [low]
  rw [show min z.toNat 64 = z.toNat by omega, and_one, Int.fdiv_eq_ediv_of_nonneg _ (by exact Int.le_of_lt (Int.pow_pos (by decide)))]; rfl
def thenB (p : Prd) (t : Tkt) (m : Int) : Bool := (decide (t.from_ ≤ m) && decide (m < t.from_ + p.mins)) && runsB p.s (m / 1440)
theorem t_then {p : Prd} (t : Tkt) (m : Int) (H : AH) (hp : p.ok) (hf : p.few) (hm : mayB p.s = true) (h0 : 0 ≤ m) (h1 : m ≤ 1073741824) (h2 : 0 ≤ t.from_) (h3 : t.from_ ≤ 1073741824) (h4 : 1 ≤ p.mins) (h5 : p.mins ≤ 1048576) : Called Tryz.prog F.fare_then [.agg p.cells, .agg t.cells, I m] H (Bl (thenB p t m)) H := by
  have v1 := isv_len hp.2.2.2.2.2.1
  have v2 := isv_len hp.2.2.2.2.2.2
  have sr := fun d H => s_Runs d H hp hf
  simp only [hm, Bool.true_and, Prd.sv] at sr
  refine e_fare_then ?_
  simp only [ic_fare_then, go_sem, Prd.cells, v1, v2]
  have e1 : IntKind.i64.wrap (m.tdiv 1440) = m / 1440 := by rw [Int.tdiv_eq_ediv_of_nonneg h0, w64 _ (by omega) (by omega)]
  rw [e1]
  refine ⟨fun _ => by decide, callG_of (fun _ => sr _ _) ?_⟩
  simp only [go_sem]
  refine leave_drop ?_
  rw [w64 (t.from_ + p.mins) (by omega) (by omega)]
  rfl
theorem t_prod1 {p : Prd} (t : Tkt) (q : Nat) (H : AH) (hp : p.ok) (hq : q < H.length) (ho : obj H q = ⟨t.cells, 0, true⟩) : Called Tryz.prog F.fare_product_1 [.agg p.cells, .ptr q 0] H (Bl (p.id == t.product)) H := by
  have v1 := isv_len hp.2.2.2.2.2.1
  have v2 := isv_len hp.2.2.2.2.2.2
  refine e_fare_product_1 ?_
  simp only [ic_fare_product_1, go_sem, Prd.cells, v1, v2, obj_old _ _ hq, ho]
  exact ⟨by omega, leave_drop rfl⟩
theorem t_idxP {H : AH} {x : AV} {l : List Prd} (hx : Sl 7 H x (pcs l) l.length) (hn : l.length ≤ 1000000) (g : FuncId) (a b : List AV) (p : Prd → Bool) (hg : ∀ r ∈ l, Called Tryz.prog g (a ++ [.agg r.cells] ++ b) H (Bl (p r)) H) :
    Called Tryz.prog F.slices_IndexFunc_api_Product_api_Product [x, .fn (.func g) a b] H (I (fstA p l)) H := by
  refine e_slices_IndexFunc_api_Product_api_Product ?_
  simp only [ic_slices_IndexFunc_api_Product_api_Product, go_sem, hx.lenT, hx.n]
  refine w_loop _ (fun (i : Nat) => ([(0, x), (1, .fn (.func g) a b), (7, I l.length), (8, I i)], H)) (fun i => i ≤ l.length ∧ ∀ j, j < i → p (l.getD j noP) = false) (fun i => l.length - i) 0 ⟨Nat.zero_le _, fun j hj => by omega⟩ rfl ?_
  rintro i ⟨hi, hj⟩
  simp only [go_sem]
  refine ⟨fun h => ?_, fun h => ?_⟩
  · have hlt : i < l.length := by omega
    simp only [go_sem, hx.idx, hx.un, hx.ldOk .i64 hlt (Nat.le_refl 7), hx.prd hlt]
    refine ⟨⟨by omega, by omega⟩, callW_some (by simpa using hg _ (getD_memP noP hlt)) (fun _ => rfl) ?_⟩
    simp only [go_sem]
    refine ⟨fun he => ?_, fun he => ?_⟩
    · exact leave_same (by rw [fstA_some noP hlt he hj])
    · refine ⟨i + 1, by rw [w64 _ (by omega) (by omega)]; rfl, ⟨by omega, fun j hj' => ?_⟩, by omega⟩
      rcases Nat.lt_succ_iff_lt_or_eq.1 hj' with h1 | rfl
      · exact hj j h1
      · exact he
  · exact leave_same (by rw [fstA_none noP fun j hj' => hj j (by omega)])
theorem isv_low {e : AV} {l : List Int} (h : isv e l) (ren : Nat → Option Nat) (H : AH) : low ren H e = e := by
  rcases h with ⟨f, rfl⟩ | ⟨rfl, _⟩
  · have : ∀ l : List Int, lowL ren H (l.map I) = l.map I := fun l => by
      induction l with
      | nil => rfl
      | cons a r ih => simp only [List.map_cons, lowL, ih]; rfl
    simp only [vI, low, this]
  · rfl
def kOf (l : List Prd) (n : Int) : Int := fstA (fun p => p.id == n) l
def pOf (l : List Prd) (k : Int) : Prd := if k < 0 then noP else l.getD k.toNat noP
theorem pOf_ok {l : List Prd} (hl : ∀ p ∈ l, p.ok ∧ p.few) {n k : Int} (h : At l n k) : (pOf l k).ok ∧ (pOf l k).few := by
  rcases h with ⟨rfl, _⟩ | ⟨j, hj, rfl, _⟩
  · rw [show pOf l (-1) = noP from rfl]
    have z : ok64 0 := ⟨by decide, by decide⟩
    exact ⟨⟨z, z, z, z, z, .inr ⟨rfl, rfl⟩, .inr ⟨rfl, rfl⟩⟩, by decide⟩
  · rw [pOf, if_neg (by omega)]; exact hl _ (getD_memP noP hj)
theorem t_product {H : AH} {x : AV} {l : List Prd} (hx : Sl 7 H x (pcs l) l.length) (hl : ∀ p ∈ l, p.ok ∧ p.few) (hn : l.length ≤ 1000000) (t : Tkt) : Called Tryz.prog F.fare_product [x, .agg t.cells] H (.tup [.agg (pOf l (kOf l t.product)).cells, Bl (decide (0 ≤ kOf l t.product))]) H := by
  refine e_fare_product ?_
  simp only [ic_fare_product, go_sem]
  have hG : ∀ K, Sl 7 (H ++ K) x (pcs l) l.length := fun K => hx.app
  have hk := fst_at l t.product
  have hpk := pOf_ok hl hk
  have hi := fun K => t_idxP (hG K) hn F.fare_product_1 [] [.ptr H.length 0] (fun p => p.id == t.product)
  rw [show fstA (fun p => p.id == t.product) l = kOf l t.product from rfl] at hk hi hpk
  generalize kOf l t.product = k at hk hi hpk ⊢
  refine callW_some (hi _ fun r hr => t_prod1 t H.length _ (hl r hr).1 (by simp) (by simp [obj_app0, obj_cons0])) (fun _ => rfl) ?_
  simp only [go_sem, fillOk, fillv, hx.un, AV.one, Value.oneCell', List.all_cons, List.all_nil]
  rcases hk with ⟨rfl, _⟩ | ⟨j, hj, rfl, _⟩
  · refine ⟨fun _ => leave_drop rfl, fun h => absurd h (by decide)⟩
  · have v1 := isv_len hpk.1.2.2.2.2.2.1
    have v2 := isv_len hpk.1.2.2.2.2.2.2
    have w1 := isv_low hpk.1.2.2.2.2.2.1
    have w2 := isv_low hpk.1.2.2.2.2.2.2
    rw [pOf, if_neg (by omega), Int.toNat_natCast] at v1 v2 w1 w2 ⊢
    simp only [go_sem, hx.idx, (hG _).ldOk .i64 hj (Nat.le_refl 7), (hG _).prd hj, Prd.cells, v1, v2]
    refine ⟨fun h => absurd h (by simp), fun h => ⟨⟨by omega, by omega⟩, leave_drop ?_⟩⟩
    simp only [low, lowL, w1, w2]
    rfl
/-- What covers. -/
def covB (l : List Prd) (t : Tkt) (z m : Int) : Bool := (decide (0 ≤ kOf l t.product) && zoneB t.zones z) && thenB (pOf l (kOf l t.product)) t m
def coversB (l : List Prd) (t : Tkt) (z m : Int) : Bool := ((prdsB l && tktB t) && plcB z m) && covB l t z m
theorem tktB_from {t : Tkt} (h : tktB t = true) : 0 ≤ t.from_ ∧ t.from_ ≤ 1073741824 ∧ 1 ≤ t.zones ∧ t.zones ≤ 255 := by
  simp only [tktB, inB, Bool.and_eq_true, decide_eq_true_eq] at h; omega
theorem plcB_from {z m : Int} (h : plcB z m = true) : 0 ≤ z ∧ z ≤ 7 ∧ 0 ≤ m ∧ m ≤ 1073741824 := by
  simp only [plcB, inB, Bool.and_eq_true, decide_eq_true_eq] at h; omega
theorem prdsB_from {l : List Prd} (h : prdsB l = true) {j : Nat} (hj : j < l.length) : 1 ≤ (l.getD j noP).mins ∧ (l.getD j noP).mins ≤ 1048576 ∧ mayB (l.getD j noP).s = true := by
  simp only [prdsB, Bool.and_eq_true, decide_eq_true_eq] at h
  have h1 := h.2 j hj
  rw [prdBad_eq] at h1
  simp only [Bool.or_eq_false_iff, Bool.and_eq_false_iff, decide_eq_false_iff_not, Bool.not_eq_false'] at h1
  exact ⟨by omega, by omega, h1.2⟩
theorem t_Covers {H : AH} {x : AV} {l : List Prd} (hx : Sl 7 H x (pcs l) l.length) (hl : ∀ p ∈ l, p.ok ∧ p.few) (hn : l.length ≤ 1000000) (t : Tkt) (z m : Int) : Called Tryz.prog F.fare_Covers [x, .agg t.cells, I z, I m] H (Bl (coversB l t z m)) H := by
  refine e_fare_Covers ?_
  have hG : ∀ K, Sl 7 (H ++ K) x (pcs l) l.length := fun K => hx.app
  simp only [ic_fare_Covers, go_sem]
  refine callW_some (t_pMay (hG _) hl hn) (fun _ => rfl) ?_
  simp only [go_sem]
  refine callG_of (fun _ => t_tMay t _) ?_
  simp only [go_sem]
  refine callG_of (fun _ => t_plc _ _ _) ?_
  simp only [go_sem]
  refine ⟨fun h => leave_drop ?_, fun h => ?_⟩
  · simp only [low, coversB]
    have : ((prdsB l && tktB t) && plcB z m) = false := by
      simp only [Bool.or_eq_true, Bool.not_eq_true'] at h
      rcases h with (h | h) | h <;> simp [h]
    rw [this, Bool.false_and]
  · have hh : prdsB l = true ∧ tktB t = true ∧ plcB z m = true := by
      simp only [Bool.or_eq_false_iff, Bool.not_eq_false'] at h
      exact ⟨h.1.1, h.1.2, h.2⟩
    obtain ⟨h1, h2, h3⟩ := hh
    obtain ⟨a1, a2, a3, a4⟩ := tktB_from h2
    obtain ⟨b1, b2, b3, b4⟩ := plcB_from h3
    refine callW_some (t_product (hG _) hl hn t) (fun _ => rfl) ?_
    rw [coversB, h1, h2, h3, Bool.true_and, Bool.true_and, Bool.true_and, covB]
    have hk : At l t.product (kOf l t.product) := fst_at l t.product
    have hpk := pOf_ok hl hk
    have v1 := isv_len hpk.1.2.2.2.2.2.1
    have v2 := isv_len hpk.1.2.2.2.2.2.2
    have tt : 0 ≤ kOf l t.product → ∀ H, Called Tryz.prog F.fare_then [.agg (pOf l (kOf l t.product)).cells, .agg t.cells, I m] H (Bl (thenB (pOf l (kOf l t.product)) t m)) H := fun h H => by
      have : 1 ≤ (pOf l (kOf l t.product)).mins ∧ (pOf l (kOf l t.product)).mins ≤ 1048576 ∧ mayB (pOf l (kOf l t.product)).s = true := by
        rcases hk with ⟨e, _⟩ | ⟨j, hj, e, _⟩
        · omega
        · rw [e, pOf, if_neg (by omega)]; exact prdsB_from h1 hj
      exact t_then t m H hpk.1 hpk.2 this.2.2 b3 b4 a1 a2 this.1 this.2.1
    generalize kOf l t.product = k at *
    generalize pOf l k = p at *
    simp only [go_sem, Prd.cells, v1, v2]
    refine callG_of (fun _ => t_zone t z _ b1 b2 (by omega)) ?_
    simp only [go_sem]
    refine callG_of (fun h => tt ?_ _) ?_
    · simp only [Bool.and_eq_true, decide_eq_true_eq] at h; exact h.1
    simp only [go_sem]
    exact leave_drop rfl
end Go.Proofs.YtgfploghjpbcaaaGreat.Eng
