/- Elements, slices' heads, what grows. -/
import Derived.Test.YtgfploghjpbcaaaEngD4
namespace Go.Proofs.Ytgfploghjpbcaaa.Eng
open Go
set_option linter.unusedVariables false
set_option linter.unusedSimpArgs false
section
variable {P : Program} {φ : Nat → Option Nat} {H : AH} {w : World}
theorem run_indexSlice {t e : TypeId} (hu : P.underlying t = some (.slice e)) (hc : P.cellsOf e ≠ 0) (a : Addr) (n cap : Nat) (k : IntKind) (i : Int) (h0 : 0 ≤ i) (h1 : i < n) :
    (Instr.indexAt t (.slice (some a) n cap) (.int k i)).run P w = .ok (.pointer (some (a.add (i.toNat * P.cellsOf e)))) w := by
  obtain ⟨it, hi, hsz⟩ := info_of_cells hc
  simp [Instr.indexAt, asIntOf, run_underlying hu, h0, h1, sizeOf, typeInfo, hi, hsz]
theorem run_indexArray {t e : TypeId} {m : Nat} (hu : P.underlying t = some (.array m e)) (hc : P.cellsOf e ≠ 0) (a : Addr) (k : IntKind) (i : Int) (h0 : 0 ≤ i) (h1 : i < m) :
    (Instr.indexAt t (.pointer (some a)) (.int k i)).run P w = .ok (.pointer (some (a.add (i.toNat * P.cellsOf e)))) w := by
  obtain ⟨it, hi, hsz⟩ := info_of_cells hc
  simp [Instr.indexAt, asIntOf, run_underlying hu, Instr.sureAddr, h0, h1, sizeOf, typeInfo, hi, hsz]
theorem elt_eq (cs : List AV) (sz i : Nat) : elt cs sz i = (cs.drop (i * sz)).take sz := rfl
theorem idxa_sound {t e : TypeId} {arr : Option Nat} (hu : match arr with | none => P.underlying t = some (.slice e) | some m => P.underlying t = some (.array m e)) (hc : P.cellsOf e ≠ 0) {x i : AV} {a b : Value} (hx : R (cx φ H w) x a) (hi : R (cx φ H w) i b) (hok : idxaOk (P.cellsOf e) i arr x) :
    ∃ u, (Instr.indexAt t a b).run P w = .ok u w ∧ R (cx φ H w) (idxaV (P.cellsOf e) i x) u := by
  have hII : isI i ∧ 0 ≤ asI i := by
    unfold idxaOk at hok
    split at hok <;> first | exact ⟨hok.1, hok.2.1⟩ | exact hok.elim
  obtain ⟨k, rfl⟩ := R_int hi hII.1
  have h0 := hII.2
  have hcast : ((asI i).toNat : Int) = asI i := Int.toNat_of_nonneg h0
  cases arr with
  | none =>
    cases x with
    | view cs n full =>
      obtain ⟨_, _, h1, h2⟩ := hok
      obtain ⟨base, cap, rfl, g1, g2, g3, g4, g5⟩ := hx
      have hlt : (asI i).toNat < n := by omega
      have hmul : (asI i).toNat * P.cellsOf e + P.cellsOf e ≤ n * P.cellsOf e := by rw [← Nat.succ_mul]; exact Nat.mul_le_mul_right _ hlt
      rcases g5 with rfl | ⟨b, off, us, rfl, g6, g7⟩
      · simp only [List.length_nil] at h2
        omega
      · refine ⟨_, run_indexSlice hu hc _ n cap k _ h0 h1, b, off + (asI i).toNat * P.cellsOf e, (us.drop ((asI i).toNat * P.cellsOf e)).take (P.cellsOf e), by rw [addr_add], g6.shift _ _, pureL_take (pureL_drop g4 _) _, (g7.drop _).take _⟩
    | row id off n L =>
      obtain ⟨_, _, h1⟩ := hok
      obtain ⟨base, cap, rfl, g1, g2, o, g3, g4, g5⟩ := hx
      obtain ⟨ad, rfl⟩ : ∃ ad, base = some ad := by
        cases base with
        | none => have := (g2 rfl).1; omega
        | some ad => exact ⟨ad, rfl⟩
      refine ⟨_, run_indexSlice hu hc _ n cap k _ h0 h1, _, rfl, o, g3, g4, fun hL => ?_⟩
      rcases g5 hL with ⟨_, h⟩ | ⟨b, h2, h3, h4, h5⟩
      · omega
      · rcases h4 with h4 | h4
        · cases h4
          exact ⟨b, h2, addr_add _ _ _⟩
        · omega
    | _ => exact hok.elim
  | some m =>
    cases x with
    | ptr id off =>
      obtain ⟨_, _, h1⟩ := hok
      obtain ⟨o, b, g1, g2, g3, rfl⟩ := hx
      exact ⟨_, run_indexArray hu hc _ k _ h0 h1, o, b, g1, g2, g3, by rw [addr_add]⟩
    | rptr id off L =>
      obtain ⟨_, _, h1⟩ := hok
      obtain ⟨ad, rfl, o, g1, g2, g3⟩ := hx
      refine ⟨_, run_indexArray hu hc _ k _ h0 h1, _, rfl, o, g1, g2, fun hL => ?_⟩
      obtain ⟨b, h2, rfl⟩ := g3 hL
      exact ⟨b, h2, addr_add _ _ _⟩
    | vptr cs =>
      obtain ⟨_, _, h1, h2⟩ := hok
      obtain ⟨b, off, us, rfl, g6, g4, g7⟩ := hx
      exact ⟨_, run_indexArray hu hc _ k _ h0 h1, b, off + (asI i).toNat * P.cellsOf e, (us.drop ((asI i).toNat * P.cellsOf e)).take (P.cellsOf e), by rw [addr_add], g6.shift _ _, pureL_take (pureL_drop g4 _) _, (g7.drop _).take _⟩
    | _ => exact hok.elim
theorem idx_sound {t e : TypeId} {m : Nat} (hu : P.underlying t = some (.array m e)) (hA : (P.underlying e).isNone = false) (hc : P.cellsOf e ≠ 0) (hsc : isAggT P e = true ∨ P.cellsOf e = 1) {x i : AV} {a b : Value} (hx : R (cx φ H w) x a) (hi : R (cx φ H w) i b) (hok : idxOk (P.cellsOf e) m i x) :
    ∃ u, (Instr.index t a b).run P w = .ok u w ∧ R (cx φ H w) (idxV (isAggT P e) (P.cellsOf e) i x) u := by
  cases x with
  | agg cs =>
    obtain ⟨h1, h2, h3, h4⟩ := hok
    obtain ⟨k, rfl⟩ := R_int hi h1
    obtain ⟨vs, rfl, r⟩ := hx
    have hlt : (asI i).toNat < m := by omega
    have hmul : (asI i).toNat * P.cellsOf e + P.cellsOf e ≤ m * P.cellsOf e := by rw [← Nat.succ_mul]; exact Nat.mul_le_mul_right _ hlt
    obtain ⟨u, g1, g2⟩ := part_sound (P := P) hA hc (off := (asI i).toNat * P.cellsOf e) r (by omega)
    obtain ⟨it, hii, hsz⟩ := info_of_cells hc
    refine ⟨u, by simp [Instr.index, asIntOf, run_underlying hu, h2, h3, sizeOf, typeInfo, hii, hsz, g1], ?_⟩
    cases hg : isAggT P e
    · have h1c : (asI i).toNat * P.cellsOf e = (asI i).toNat := by
        rcases hsc with h | h
        · rw [hg] at h; cases h
        · rw [h, Nat.mul_one]
      rw [hg, h1c] at g2
      simpa [idxV] using g2
    · rw [hg] at g2
      simpa [idxV, elt] using g2
  | _ => exact hok.elim
theorem sidx_sound {t : TypeId} (hu : P.underlying t = some .string) {x i : AV} {a b : Value} (hx : R (cx φ H w) x a) (hi : R (cx φ H w) i b) (hok : sidxOk i x) :
    ∃ u, (Instr.index t a b).run P w = .ok u w ∧ R (cx φ H w) (sidxV i x) u := by
  cases x with
  | lit v =>
    cases v <;> first | exact hok.elim | skip
    rename_i s
    obtain ⟨h1, h2, h3⟩ := hok
    obtain ⟨k, rfl⟩ := R_int hi h1
    cases hx
    have hlt : (asI i).toNat < s.size := by omega
    have hg : s[(asI i).toNat]? = some s[(asI i).toNat] := by simp [hlt]
    refine ⟨.int .u8 (s[(asI i).toNat]).toNat, by simp [Instr.index, asIntOf, run_underlying hu, h2, hg], ?_⟩
    show Value.int .u8 _ = Value.int .u8 _
    congr 2
    rw [Array.getD_eq_getD_getElem?]
    have : s.data[(asI i).toNat]? = some s[(asI i).toNat] := by
      rw [Array.getElem?_eq_getElem (show (asI i).toNat < s.data.size from hlt)]; rfl
    rw [this]; rfl
  | _ => exact hok.elim
/-! ### Slice expressions -/
def RO (S : Cx) : Option AV → Option Value → Prop
  | none, none => True
  | some v, some y => R S v y
  | _, _ => False
theorem bnd_none (d : Int) : bnd d none = d := rfl
theorem run_bound {y : Value} {k : IntKind} {i : Int} {n : Nat} {code : BoundsCode} (h0 : 0 ≤ i) (h1 : i ≤ n) : (Instr.sliceBound (.int k i) n code).run P w = .ok i.toNat w := by
  simp [Instr.sliceBound, asIntOf, h0, h1]
theorem run_bounds {b : Bool} {len cap c : Nat} {lo hi mx : Option AV} {lo' hi' mx' : Option Value} (h1 : RO (cx φ H w) lo lo') (h2 : RO (cx φ H w) hi hi') (h3 : RO (cx φ H w) mx mx') (hn : c ≤ cap) (hok : bndR len c lo hi mx) (hm : mx = none ∨ hi ≠ none) :
    ∃ m, (Instr.sliceBounds b len cap lo' hi' mx').run P w = .ok ((bnd 0 lo).toNat, (bnd len hi).toNat, m) w ∧ (mx = none → m = cap) ∧ (mx ≠ none → m = (bnd len mx).toNat) ∧ (bnd 0 lo).toNat ≤ (bnd len hi).toNat ∧ (bnd len hi).toNat ≤ m ∧ m ≤ cap := by
  obtain ⟨i1, i2, i3, g0, g1, g2, g3⟩ := hok
  have one : ∀ {o : Option AV} {o' : Option Value} {d : Int}, RO (cx φ H w) o o' → bndI o → o ≠ none → ∃ k, o' = some (.int k (bnd d o)) := by
    intro o o' d h hI hne
    cases o with
    | none => exact absurd rfl hne
    | some v =>
      cases o' with
      | none => exact h.elim
      | some y => obtain ⟨k, rfl⟩ := R_int h hI; exact ⟨k, rfl⟩
  have hlo : (lo = none ∧ lo' = none) ∨ ∃ k, lo' = some (.int k (bnd 0 lo)) := by
    cases lo with
    | none => cases lo' with
      | none => exact .inl ⟨rfl, rfl⟩
      | some y => exact h1.elim
    | some v => exact .inr (one (d := 0) h1 i1 (by simp))
  have hhi : (hi = none ∧ hi' = none) ∨ (hi ≠ none ∧ ∃ k, hi' = some (.int k (bnd len hi))) := by
    cases hi with
    | none => cases hi' with
      | none => exact .inl ⟨rfl, rfl⟩
      | some y => exact h2.elim
    | some v => exact .inr ⟨by simp, one (d := len) h2 i2 (by simp)⟩
  cases mx with
  | none =>
    cases mx' with
    | some y => exact h3.elim
    | none =>
      rw [bnd_none] at g2 g3
      refine ⟨cap, ?_, fun _ => rfl, fun h => absurd rfl h, by omega, by omega, Nat.le_refl _⟩
      rcases hhi with ⟨rfl, rfl⟩ | ⟨hne, k, rfl⟩
      · rcases hlo with ⟨rfl, rfl⟩ | ⟨k, rfl⟩
        · simp [Instr.sliceBounds, bnd_none]
        · have e := run_bound (P := P) (w := w) (y := .nilFunc) (k := k) (i := bnd 0 lo) (n := len) (code := .sliceB) g0 (by simpa [bnd_none] using g1)
          simp [Instr.sliceBounds, e, bnd_none]
      · have e1 := run_bound (P := P) (w := w) (y := .nilFunc) (k := k) (i := bnd len hi) (n := cap) (code := if b then .sliceAcap else .sliceAlen) (by omega) (by omega)
        rcases hlo with ⟨rfl, rfl⟩ | ⟨k', rfl⟩
        · simp [Instr.sliceBounds, e1, bnd_none]
        · have e := run_bound (P := P) (w := w) (y := .nilFunc) (k := k') (i := bnd 0 lo) (n := (bnd len hi).toNat) (code := .sliceB) g0 (by omega)
          simp [Instr.sliceBounds, e1, e]
  | some mv =>
    obtain ⟨km, rfl⟩ := one (d := len) h3 i3 (by simp)
    rcases hhi with ⟨rfl, _⟩ | ⟨hne, k, rfl⟩
    · rcases hm with h | h
      · cases h
      · exact absurd rfl h
    have g2 : bnd len hi ≤ bnd len (some mv) := g2
    have g3 : bnd len (some mv) ≤ c := g3
    have e0 := run_bound (P := P) (w := w) (y := .nilFunc) (k := km) (i := bnd len (some mv)) (n := cap) (code := if b then .slice3Acap else .slice3Alen) (by omega) (by omega)
    have e1 := run_bound (P := P) (w := w) (y := .nilFunc) (k := k) (i := bnd len hi) (n := (bnd len (some mv)).toNat) (code := .slice3B) (by omega) (by omega)
    refine ⟨(bnd len (some mv)).toNat, ?_, fun h => (by cases h), fun _ => rfl, by omega, by omega, by omega⟩
    rcases hlo with ⟨rfl, rfl⟩ | ⟨k', rfl⟩
    · simp [Instr.sliceBounds, e0, e1, bnd_none]
    · have e := run_bound (P := P) (w := w) (y := .nilFunc) (k := k') (i := bnd 0 lo) (n := (bnd len hi).toNat) (code := .slice3C) g0 (by omega)
      simp [Instr.sliceBounds, e0, e1, e]
theorem bndOk_cast {n : Nat} {lo hi mx : Option AV} (h : bndOk n lo hi mx) : 0 ≤ bnd 0 lo ∧ bnd 0 lo ≤ bnd n hi ∧ bnd n hi ≤ bnd n mx ∧ bnd n mx ≤ n := h.2.2.2
theorem slice_view {S : Cx} {cs : List AV} {us : List Value} {b off sz l h m : Nat} {base : Option Addr} {full : Bool} (hsz : sz ≠ 0) (hp : pureL cs = true) (hcs : h * sz ≤ cs.length) (hbase : base = some ⟨b, off, none⟩) (hI : Imm S b off us) (hr : RL S cs us) (hl : l ≤ h) (hm : h ≤ m) (hf : full = true → m = h) :
    R S (.view (cut cs sz l h) (h - l) full) (.slice (if m = l then base else base.map (·.add (l * sz))) (h - l) (m - l)) := by
  refine ⟨_, m - l, rfl, by omega, ?_, fun h' => by have := hf h'; omega, pureL_take (pureL_drop hp _) _, ?_⟩
  · subst hbase; intro h'; split at h' <;> simp at h'
  · by_cases hlh : l = h
    · left; subst hlh; simp [cut]
    · right
      refine ⟨b, off + l * sz, (us.drop (l * sz)).take ((h - l) * sz), ?_, hI.shift _ _, (hr.drop _).take _⟩
      rw [if_neg (by omega), hbase]
      simp [addr_add]
theorem slice_sound (hs : St (cx φ H w)) {t e : TypeId} {arr : Option Nat} (hu : match arr with | none => P.underlying t = some (.slice e) | some m => P.underlying t = some (.array m e)) (hc : P.cellsOf e ≠ 0) {x : AV} {a : Value} {lo hi mx : Option AV} {lo' hi' mx' : Option Value}
    (h1 : RO (cx φ H w) lo lo') (h2 : RO (cx φ H w) hi hi') (h3 : RO (cx φ H w) mx mx') (hm : mx = none ∨ hi ≠ none) (hx : R (cx φ H w) x a) (hok : sliceOk (P.cellsOf e) H lo hi mx arr x) :
    ∃ u, (Instr.sliceAt t a lo' hi' mx').run P w = .ok u w ∧ R (cx φ H w) (sliceV (P.cellsOf e) H lo hi mx arr x) u := by
  obtain ⟨it, hii, hsz⟩ := info_of_cells hc
  cases arr with
  | none =>
    have run1 : ∀ (base : Option Addr) (len cap l h m : Nat), (Instr.sliceBounds true len cap lo' hi' mx').run P w = .ok (l, h, m) w → (Instr.sliceAt t (.slice base len cap) lo' hi' mx').run P w = .ok (.slice (if m = l then base else base.map (·.add (l * P.cellsOf e))) (h - l) (m - l)) w := by
      intro base len cap l h m hb
      simp [Instr.sliceAt, Instr.slice, run_underlying hu, hb, sizeOf, typeInfo, hii, hsz]
    cases x with
    | view cs n full =>
      obtain ⟨hb, hl⟩ := hok
      obtain ⟨base, cap, rfl, g1, g2, g3, g4, g5⟩ := hx
      obtain ⟨m, r1, r2, r3, r4, r5, r6⟩ := run_bounds (b := true) h1 h2 h3 g1 hb hm
      obtain ⟨k0, k1, k2, k3⟩ := bndOk_cast hb
      refine ⟨_, run1 base n cap _ _ _ r1, ?_⟩
      have hfull : ((mx.isSome || full) && decide (bnd n hi = bnd n mx)) = true → m = (bnd n hi).toNat := by
        intro hh
        simp only [Bool.and_eq_true, Bool.or_eq_true, decide_eq_true_eq] at hh
        rcases hh with ⟨h4 | h4, h5⟩
        · rw [r3 (by intro h; subst h; cases h4), h5]
        · cases mx with
          | none => rw [r2 rfl, g3 h4, h5]; simp [bnd_none]
          | some mv => rw [r3 (by simp), h5]
      rcases g5 with rfl | ⟨b, off, us, hbase, g6, g7⟩
      · have hn : n = 0 := by
          simp only [List.length_nil] at hl
          rcases Nat.mul_eq_zero.1 hl.symm with h | h
          · exact h
          · exact absurd h hc
        subst hn
        have e1 : (bnd 0 lo).toNat = 0 := by omega
        have e2 : (bnd ((0 : Nat) : Int) hi).toNat = 0 := by omega
        refine ⟨_, m - (bnd 0 lo).toNat, rfl, by omega, ?_, (fun h => by have := hfull h; omega), (by simp [cut, pureL]), .inl (by simp [cut])⟩
        intro h
        split at h
        · have := g2 h; omega
        · cases base with
          | none => have := (g2 rfl).2; omega
          | some ad => simp at h
      · exact slice_view hc g4 (by rw [hl]; exact Nat.mul_le_mul_right _ (by omega)) hbase g6 g7 r4 r5 hfull
    | row id off n L =>
      obtain ⟨hid, hLc, hz, hb⟩ := hok
      obtain ⟨base, cap, rfl, g1, g2, o, g3, g4, g5⟩ := hx
      have g3' : H[id]? = some o := g3
      rw [obj_eq g3'] at hz hLc hb
      have hcap : rowCap o.sz (P.cellsOf e) n off L ≤ cap := by
        unfold rowCap
        split
        · exact g1
        · rename_i hosz
          have hz' : o.sz = P.cellsOf e := hz.resolve_right hosz
          refine Nat.max_le.2 ⟨g1, ?_⟩
          rcases g5 hLc with ⟨h4, _⟩ | ⟨b, _, _, _, h7⟩
          · rcases hs.ok id o g3 with ⟨_, hcs⟩ | ⟨b', _, _, _, hb', _⟩
            · rw [hLc, hcs]; simp
            · rw [h4] at hb'; cases hb'
          · have h8 := (h7 (Nat.pos_of_ne_zero hosz)).2
            rw [hz'] at h8
            exact Nat.div_le_of_le_mul (by rw [Nat.mul_comm]; exact Nat.sub_le_iff_le_add'.2 h8)
      obtain ⟨m, r1, r2, r3, r4, r5, r6⟩ := run_bounds (b := true) h1 h2 h3 hcap hb hm
      obtain ⟨_, _, _, k0, k1, k2, k3⟩ := hb
      refine ⟨_, run1 base n cap _ _ _ r1, ?_⟩
      have hnil : (if m = (bnd 0 lo).toNat then base else base.map (·.add ((bnd 0 lo).toNat * P.cellsOf e))) = none → n = 0 ∧ cap = 0 := by
        intro h
        cases base with
        | none => exact g2 rfl
        | some ad => split at h <;> simp at h
      show R _ (if (mx.isSome && decide (bnd n mx = bnd 0 lo)) = true then _ else if (mx.isSome && !decide (L ≤ off + (bnd n mx).toNat * P.cellsOf e)) = true then _ else _) _
      by_cases hcase : (mx.isSome && decide (bnd n mx = bnd 0 lo)) = true
      · rw [if_pos hcase]
        simp only [Bool.and_eq_true, decide_eq_true_eq] at hcase
        have e1 := r3 (by intro h; rw [h] at hcase; exact absurd hcase.1 (by decide))
        refine ⟨_, m - (bnd 0 lo).toNat, ?_, by omega, fun h => ⟨rfl, by have := hnil h; omega⟩, fun _ => by omega, rfl, .inl rfl⟩
        rw [show (bnd n hi).toNat - (bnd 0 lo).toNat = 0 by omega]
      rw [if_neg hcase]
      by_cases hjk : (mx.isSome && !decide (L ≤ off + (bnd n mx).toNat * P.cellsOf e)) = true
      · rw [if_pos hjk]; trivial
      rw [if_neg hjk]
      have hmx : mx = none ∨ L ≤ off + (bnd n mx).toNat * P.cellsOf e := by
        cases mx with
        | none => exact .inl rfl
        | some mv => right; simpa using hjk
      have hlow : L ≤ off + cap * P.cellsOf e → L ≤ off + m * P.cellsOf e := by
        intro h
        rcases hmx with h' | h'
        · rw [r2 h']; exact h
        · cases mx with
          | none => rw [r2 rfl]; exact h
          | some mv => rw [r3 (by simp)]; exact h'
      refine ⟨_, m - (bnd 0 lo).toNat, rfl, by omega, ?_, o, g3, g4, fun hL => ?_⟩
      · intro h
        have := hnil h; omega
      · rcases g5 hL with ⟨h4, rfl, h9⟩ | ⟨b, h4, h5, h6, h7⟩
        · left; exact ⟨h4, Nat.le_zero.1 (Nat.le_trans (Nat.sub_le _ _) r6), h9⟩
        · right
          refine ⟨b, h4, ?_, ?_, fun hp => ?_⟩
          · obtain ⟨ad, rfl⟩ : ∃ ad, base = some ad := by cases base with | none => exact absurd rfl h5
                                                                          | some ad => exact ⟨ad, rfl⟩
            split <;> simp
          · by_cases hml : m = (bnd 0 lo).toNat
            · right; omega
            · left
              rw [if_neg hml]
              rcases h6 with rfl | h6
              · simp [addr_add]
              · omega
          · rcases hz with hz | hz
            · rw [hz] at h7 ⊢
              have h8 := h7 (by omega)
              have : (bnd 0 lo).toNat * P.cellsOf e + (m - (bnd 0 lo).toNat) * P.cellsOf e = m * P.cellsOf e := by rw [← Nat.add_mul]; congr 1; omega
              have : m * P.cellsOf e ≤ cap * P.cellsOf e := Nat.mul_le_mul_right _ r6
              have := hlow h8.2
              omega
            · omega
    | lit v =>
      unfold sliceOk at hok
      split at hok <;> first | exact hok.elim | skip
      all_goals rename_i heq1 heq2
      all_goals first | (cases heq2; done) | skip
      cases heq2
      cases hx
      have hb : bndOk (0 : Nat) lo hi mx := hok
      obtain ⟨m, r1, r2, r3, r4, r5, r6⟩ := run_bounds (b := true) (len := 0) (cap := 0) h1 h2 h3 (Nat.le_refl _) hb hm
      obtain ⟨k0, k1, k2, k3⟩ := bndOk_cast hb
      refine ⟨_, run1 none 0 0 _ _ _ r1, ?_⟩
      have e1 : (bnd 0 lo).toNat = 0 := by omega
      have e2 : (bnd ((0 : Nat) : Int) hi).toNat = 0 := by omega
      have e3 : m = 0 := by omega
      rw [e1, e2, e3]
      rfl
    | _ => exact hok.elim
  | some len =>
    have run1 : ∀ (ad : Addr) (l h m : Nat), (Instr.sliceBounds false len len lo' hi' mx').run P w = .ok (l, h, m) w → (Instr.sliceAt t (.pointer (some ad)) lo' hi' mx').run P w = .ok (.slice (some (if m = l then ad else ad.add (l * P.cellsOf e))) (h - l) (m - l)) w := by
      intro ad l h m hb
      simp [Instr.sliceAt, run_underlying hu, Instr.sureAddr, hb, sizeOf, typeInfo, hii, hsz]
    cases x with
    | ptr id off =>
      obtain ⟨o, b, g1, g2, g3, rfl⟩ := hx
      obtain ⟨_, hb⟩ : id < H.length ∧ bndOk len lo hi mx := hok
      obtain ⟨m, r1, r2, r3, r4, r5, r6⟩ := run_bounds (b := false) h1 h2 h3 (Nat.le_refl _) hb hm
      have g1' : H[id]? = some o := g1
      refine ⟨_, run1 _ _ _ _ r1, _, m - (bnd 0 lo).toNat, rfl, by omega, (fun h => by cases h), o, g1, (by rw [obj_eq g1']; exact Nat.le_refl _), fun _ => .inr ⟨b, g3, by simp, ?_, fun h => absurd h (by omega)⟩⟩
      by_cases hml : m = (bnd 0 lo).toNat
      · right; omega
      · left; rw [if_neg hml, addr_add]
    | vptr cs =>
      obtain ⟨hb, hl⟩ := hok
      obtain ⟨b, off, us, rfl, g6, g4, g7⟩ := hx
      obtain ⟨m, r1, r2, r3, r4, r5, r6⟩ := run_bounds (b := false) h1 h2 h3 (Nat.le_refl _) hb hm
      obtain ⟨k0, k1, k2, k3⟩ := bndOk_cast hb
      refine ⟨_, run1 _ _ _ _ r1, ?_⟩
      have := slice_view (full := false) hc g4 (Nat.le_trans (Nat.mul_le_mul_right _ (by omega)) hl) rfl g6 g7 r4 r5 (fun h => by cases h)
      have e : (if m = (bnd 0 lo).toNat then some (⟨b, off, none⟩ : Addr) else (some (⟨b, off, none⟩ : Addr)).map (·.add ((bnd 0 lo).toNat * P.cellsOf e))) = some (if m = (bnd 0 lo).toNat then ⟨b, off, none⟩ else (⟨b, off, none⟩ : Addr).add ((bnd 0 lo).toNat * P.cellsOf e)) := by split <;> rfl
      rw [e] at this
      exact this
    | _ => exact hok.elim
theorem sslice_sound {t : TypeId} (hu : P.underlying t = some .string) {x : AV} {a : Value} {lo hi : Option AV} {lo' hi' : Option Value}
    (h1 : RO (cx φ H w) lo lo') (h2 : RO (cx φ H w) hi hi') (hx : R (cx φ H w) x a) (hok : ssliceOk lo hi x) :
    ∃ u, (Instr.sliceAt t a lo' hi' none).run P w = .ok u w ∧ R (cx φ H w) (ssliceV lo hi x) u := by
  cases x with
  | lit v =>
    cases v <;> first | exact hok.elim | skip
    rename_i s
    cases hx
    have hb : bndOk s.size lo hi none := hok
    obtain ⟨m, r1, r2, r3, r4, r5, r6⟩ := run_bounds (P := P) (b := false) (mx' := none) h1 h2 (show RO (cx φ H w) none none from trivial) (Nat.le_refl _) hb (.inl rfl)
    refine ⟨_, ?_, rfl⟩
    simp [Instr.sliceAt, Instr.slice, run_underlying hu, r1]
  | _ => exact hok.elim
end
end Go.Proofs.Ytgfploghjpbcaaa.Eng
