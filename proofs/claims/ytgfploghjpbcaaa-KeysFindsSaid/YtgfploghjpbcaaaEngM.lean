/- What an argument reads as, as a value without addresses. -/
import Derived.Test.YtgfploghjpbcaaaEngL
import Derived.ProofKit
namespace Go.Proofs.Ytgfploghjpbcaaa.Eng
open Go Go.ChangeShapes Go.WideShapes Go.ChangeAt Go.RowKit
set_option linter.unusedVariables false
set_option linter.unusedSimpArgs false
section
variable (P : Program)
/-- Types of plain data: numbers, truth values, texts; slices, arrays, structs of these. -/
def plainF (plain : TypeId → Bool) (tot : Nat) : Nat → List Field → Bool
  | o, [] => o == tot
  | o, f :: r => f.offset == o && plain f.type && plainF plain tot (o + P.cellsOf f.type) r
def plainT : Nat → TypeId → Bool
  | 0, _ => false
  | d + 1, t => match P.underlying t with
    | some .bool | some (.int _) | some .string => P.cellsOf t == 1
    | some (.slice e) => P.cellsOf t == 1 && P.cellsOf e != 0 && plainT d e
    | some (.struct fs) => plainF P (plainT d) (P.cellsOf t) 0 fs.toList
    | some (.array n e) => P.cellsOf e != 0 && P.cellsOf t == n * P.cellsOf e && plainT d e
    | _ => false
def shapeF (sh : TypeId → List AV → Prop) : List Field → List AV → Prop
  | [], avs => avs = []
  | f :: r, avs => ∃ x y, avs = x ++ y ∧ x.length = P.cellsOf f.type ∧ sh f.type x ∧ shapeF sh r y
/-- What the cells of a value of type t may be. -/
def shape : Nat → TypeId → List AV → Prop
  | 0, _, _ => False
  | d + 1, t, avs => match P.underlying t with
    | some .bool => ∃ b, avs = [.lit (.bool b)]
    | some (.int k) => ∃ n, avs = [.lit (.int k n)] ∧ (Lit.int k n).wf = true
    | some .string => ∃ s, avs = [.lit (.string s)] ∧ s.size ≤ reachBytes
    | some (.slice e) => ∃ (els : List (List AV)) (full : Bool), avs = [.view els.flatten els.length full] ∧ els.length * P.bytesOf e ≤ reachBytes ∧ ∀ x ∈ els, x.length = P.cellsOf e ∧ shape d e x
    | some (.struct fs) => shapeF P (shape d) fs.toList avs
    | some (.array n e) => ∃ els : List (List AV), avs = els.flatten ∧ els.length = n ∧ ∀ x ∈ els, x.length = P.cellsOf e ∧ shape d e x
    | _ => False
end
section
variable {P : Program} {φ : Nat → Option Nat} {w : World} {H : Type} {enc : TypeId × Value → H} {base : Nat} {sp : Nat → Bool} {held : Bool}
theorem range_mapM {β : Type} {f : Nat → Option β} : ∀ {n : Nat} {l : List β}, (List.range n).mapM f = some l → l.length = n ∧ ∀ i, i < n → l[i]? = f i := by
  intro n l h
  have key : ∀ (xs : List Nat) (l : List β), xs.mapM f = some l → l.length = xs.length ∧ ∀ (i x : Nat), xs[i]? = some x → l[i]? = f x := by
    intro xs
    induction xs with
    | nil => intro l h; simp at h; subst h; exact ⟨rfl, fun i x hx => by simp at hx⟩
    | cons x xs ih =>
      intro l h
      simp only [List.mapM_cons, Option.bind_eq_bind, Option.pure_def] at h
      have h9 := bind_some' h; clear h; obtain ⟨b, h1, h⟩ := h9
      have h9 := bind_some' h; clear h; obtain ⟨l', h2, h⟩ := h9
      cases h
      obtain ⟨g1, g2⟩ := ih l' h2
      refine ⟨by simp [g1], fun i y hy => ?_⟩
      cases i with
      | zero => simp at hy; subst hy; simp [h1]
      | succ i => simp at hy; simpa using g2 i y hy
  obtain ⟨h1, h2⟩ := key _ l h
  exact ⟨by simpa using h1, fun i hi => h2 i i (by simp [hi])⟩
theorem noWr (b : Nat) : ¬ Wr (cx φ [] w) b := by
  rintro ⟨id, o, h, _⟩
  simp [cx] at h
theorem add_add (a : Addr) (m n : Nat) : (a.add m).add n = a.add (m + n) := by
  unfold Addr.add
  by_cases hm : m = 0 <;> by_cases hn : n = 0 <;> simp [hm, hn]
  omega
theorem cells_get {a : Addr} {n : Nat} {cs : List Value} (h : w.cells? base a n = some cs) : cs.length = n ∧ ∀ j, j < n → w.cell? (a.add j) = cs[j]? := by
  unfold World.cells? at h
  split at h
  · obtain ⟨h1, h2⟩ := range_mapM h
    exact ⟨h1, fun j hj => (h2 j hj).symm⟩
  · cases h
theorem imm_of_cells {a : Addr} {us : List Value} (hne : us ≠ []) (h : ∀ m, m < us.length → w.cell? (a.add m) = us[m]?) : ∃ b off, a = ⟨b, off, none⟩ ∧ Imm (cx φ [] w) b off us := by
  obtain ⟨b, off, spot⟩ := a
  have hl : 0 < us.length := List.length_pos_iff.2 hne
  have h0 := h 0 hl
  have e0 : (⟨b, off, spot⟩ : Addr).add 0 = ⟨b, off, spot⟩ := by simp [Addr.add]
  rw [e0] at h0
  obtain ⟨u0, hu0⟩ := some_of_lt hl
  rw [hu0] at h0
  unfold World.cell? at h0
  cases hb : w.heap[b]? with
  | none => simp [hb] at h0
  | some o =>
    cases o with
    | cells c e fr =>
      simp only [hb] at h0
      have hs : spot = none := by cases spot <;> simp_all
      subst hs
      refine ⟨b, off, rfl, ⟨c, e, fr, hb, fun j u hj => ?_⟩, noWr b⟩
      have := h j (lt_of_some hj)
      rw [addr_add, cell_at hb, hj] at this
      exact this
    | _ => simp [hb] at h0
theorem weightsAll_mem {e : TypeId} {n : Nat} : ∀ {l : List (DataW H)} {d : DataW H}, d ∈ l → n ∈ DataW.weights P e d → n ∈ DataW.weightsAll P e l
  | [], d, h, _ => by cases h
  | x :: l, d, h, hn => by
    rw [DataW.weightsAll, List.mem_append]
    rcases List.mem_cons.1 h with rfl | h
    · exact .inl hn
    · exact .inr (weightsAll_mem h hn)
theorem weightsEach_mem {n : Nat} : ∀ {ts : List TypeId} {l : List (DataW H)} {i : Nat} {t : TypeId} {d : DataW H}, ts[i]? = some t → l[i]? = some d → n ∈ DataW.weights P t d → n ∈ DataW.weightsEach P ts l
  | [], l, i, t, d, h, _, _ => by simp at h
  | t0 :: ts, [], i, t, d, _, h, _ => by simp at h
  | t0 :: ts, x :: l, i, t, d, h1, h2, hn => by
    rw [DataW.weightsEach, List.mem_append]
    cases i with
    | zero => simp at h1 h2; subst h1; subst h2; exact .inl hn
    | succ i => exact .inr (weightsEach_mem (i := i) (by simpa using h1) (by simpa using h2) hn)
theorem dec_row {sh : List AV → Prop} {k : Nat} {a : Addr} {tr : List Value → Option (DataW H × List MemPlace)} {W : DataW H → Prop} (htr : ∀ cs x, tr cs = some x → W x.1 → ∃ avs, RL (cx φ [] w) avs cs ∧ pureL avs = true ∧ avs.length = k ∧ sh avs) :
    ∀ (n : Nat) (xs : List (DataW H × List MemPlace)), xs.length = n → (∀ x ∈ xs, W x.1) → (∀ i, i < n → xs[i]? = (w.cells? base (a.add (i * k)) k).bind tr) →
      ∃ (els : List (List AV)) (us : List Value), els.length = n ∧ (∀ x ∈ els, x.length = k ∧ sh x) ∧ us.length = n * k ∧ RL (cx φ [] w) els.flatten us ∧ pureL els.flatten = true ∧ ∀ m, m < n * k → w.cell? (a.add m) = us[m]?
  | 0, xs, hl, _, h => ⟨[], [], rfl, by simp, by simp, rfl, rfl, fun m hm => by simp at hm⟩
  | n + 1, xs, hl, hW, h => by
    obtain ⟨els, us, h1, h2, h3, h4, h5, h6⟩ := dec_row htr n (xs.take n) (by simp [hl]) (fun x hx => hW x (List.mem_of_mem_take hx)) fun i hi => by rw [List.getElem?_take, if_pos hi]; exact h i (by omega)
    have hn := h n (by omega)
    obtain ⟨x, hx⟩ := some_of_lt (l := xs) (i := n) (by omega)
    rw [hx] at hn
    obtain ⟨cs, g1, g2⟩ := bind_some' hn.symm
    obtain ⟨avs, r1, r2, r3, r4⟩ := htr cs x g2 (hW x (List.mem_of_getElem? hx))
    obtain ⟨c1, c2⟩ := cells_get g1
    refine ⟨els ++ [avs], us ++ cs, by simp [h1], ?_, by rw [List.length_append, h3, c1, Nat.succ_mul], by simpa using h4.append r1, by simp [pureL_append, h5, r2], fun m hm => ?_⟩
    · intro y hy
      rcases List.mem_append.1 hy with hy | hy
      · exact h2 y hy
      · simp at hy; subst hy; exact ⟨r3, r4⟩
    · by_cases hlt : m < n * k
      · rw [List.getElem?_append_left (by omega)]; exact h6 m hlt
      · rw [List.getElem?_append_right (by omega), h3]
        have := c2 (m - n * k) (by rw [Nat.succ_mul] at hm; omega)
        rw [add_add] at this
        rw [← this]
        congr 2
        omega
theorem dec_fields {tr : TypeId → List Value → Option (DataW H × List MemPlace)} {pl : TypeId → Bool} {sh : TypeId → List AV → Prop} {W : TypeId → DataW H → Prop} (htr : ∀ t cs x, pl t = true → tr t cs = some x → W t x.1 → ∃ avs, RL (cx φ [] w) avs cs ∧ pureL avs = true ∧ avs.length = P.cellsOf t ∧ sh t avs) {cs : List Value} {tot : Nat} (htot : cs.length = tot) :
    ∀ (fs : List Field) (o : Nat) (xs : List (DataW H × List MemPlace)), plainF P pl tot o fs = true → (fs.mapM fun f => tr f.type ((cs.drop f.offset).take (P.cellsOf f.type))) = some xs → (∀ (i : Nat) f x, fs[i]? = some f → xs[i]? = some x → W f.type x.1) →
      ∃ avs, RL (cx φ [] w) avs (cs.drop o) ∧ pureL avs = true ∧ shapeF P sh fs avs
  | [], o, xs, hp, h, _ => by
    simp only [plainF, beq_iff_eq] at hp
    exact ⟨[], by rw [List.drop_eq_nil_of_le (by omega)]; rfl, rfl, rfl⟩
  | f :: fs, o, xs, hp, h, hW => by
    simp only [plainF, Bool.and_eq_true, beq_iff_eq] at hp
    obtain ⟨⟨p1, p2⟩, p3⟩ := hp
    simp only [List.mapM_cons, Option.bind_eq_bind, Option.pure_def] at h
    have h9 := bind_some' h; clear h; obtain ⟨x, h1, h⟩ := h9
    have h9 := bind_some' h; clear h; obtain ⟨xs', h2, h⟩ := h9
    cases h
    obtain ⟨avs, r1, r2, r3, r4⟩ := htr _ _ _ p2 h1 (hW 0 f x rfl rfl)
    obtain ⟨bvs, s1, s2, s3⟩ := dec_fields htr htot fs _ xs' p3 h2 (fun i g y hg hy => hW (i + 1) g y (by simpa using hg) (by simpa using hy))
    refine ⟨avs ++ bvs, ?_, by simp [pureL_append, r2, s2], avs, bvs, rfl, r3, r4, s3⟩
    have hl := r1.length
    rw [p1] at r1 hl
    have e : cs.drop o = (cs.drop o).take (P.cellsOf f.type) ++ cs.drop (o + P.cellsOf f.type) := by
      rw [← List.drop_drop]; exact (List.take_append_drop _ _).symm
    rw [e]
    exact r1.append s1
theorem dec_array {tr : List Value → Option (DataW H × List MemPlace)} {sh : List AV → Prop} {k : Nat} {W : DataW H → Prop} (htr : ∀ cs x, tr cs = some x → W x.1 → ∃ avs, RL (cx φ [] w) avs cs ∧ pureL avs = true ∧ avs.length = k ∧ sh avs) {cs : List Value} :
    ∀ (n : Nat) (xs : List (DataW H × List MemPlace)), xs.length = n → (∀ x ∈ xs, W x.1) → (∀ i, i < n → xs[i]? = tr ((cs.drop (i * k)).take k)) → 
      ∃ els : List (List AV), els.length = n ∧ (∀ x ∈ els, x.length = k ∧ sh x) ∧ RL (cx φ [] w) els.flatten (cs.take (n * k)) ∧ pureL els.flatten = true
  | 0, xs, hl, _, h => ⟨[], rfl, by simp, by simp [RL], rfl⟩
  | n + 1, xs, hl, hW, h => by
    obtain ⟨els, h1, h2, h3, h4⟩ := dec_array htr n (xs.take n) (by simp [hl]) (fun x hx => hW x (List.mem_of_mem_take hx)) fun i hi => by rw [List.getElem?_take, if_pos hi]; exact h i (by omega)
    have hn := h n (by omega)
    obtain ⟨x, hx⟩ := some_of_lt (l := xs) (i := n) (by omega)
    rw [hx] at hn
    obtain ⟨avs, r1, r2, r3, r4⟩ := htr _ x hn.symm (hW x (List.mem_of_getElem? hx))
    refine ⟨els ++ [avs], by simp [h1], ?_, ?_, by simp [pureL_append, h4, r2]⟩
    · intro y hy
      rcases List.mem_append.1 hy with hy | hy
      · exact h2 y hy
      · simp at hy; subst hy; exact ⟨r3, r4⟩
    · have e : cs.take ((n + 1) * k) = cs.take (n * k) ++ (cs.drop (n * k)).take k := by rw [Nat.succ_mul, List.take_add]
      rw [e]
      simpa using h3.append r1
theorem dec : ∀ (d : Nat) (t : TypeId), plainT P d t = true → ∀ (fuel : Nat) (cs : List Value) (x : DataW H × List MemPlace), DataW.trod enc P w base sp held fuel t cs = some x → (∀ n ∈ DataW.weights P t x.1, n ≤ reachBytes) →
    ∃ avs, RL (cx φ [] w) avs cs ∧ pureL avs = true ∧ avs.length = P.cellsOf t ∧ shape P d t avs := by
  intro d
  induction d with
  | zero => intro t hp; cases hp
  | succ d ih =>
    intro t hp fuel cs x h hz
    cases fuel with
    | zero => cases h
    | succ fuel =>
      unfold plainT at hp
      unfold shape
      unfold DataW.trod at h
      cases hu : P.underlying t with
      | none => rw [hu] at hp; cases hp
      | some D =>
        rw [hu] at hp h
        cases D <;> dsimp only at hp h ⊢ <;> try (cases hp; done)
        case bool =>
          cases cs with
          | nil => cases h
          | cons c r =>
            cases r with
            | cons c' r => cases c <;> cases h
            | nil => cases c <;> first | (cases h; done) | exact ⟨[.lit (.bool _)], ⟨_, [], rfl, rfl, rfl⟩, rfl, (beq_iff_eq.1 hp).symm, _, rfl⟩
        case int k =>
          cases cs with
          | nil => cases h
          | cons c r =>
            cases r with
            | cons c' r => cases c <;> cases h
            | nil =>
              cases c <;> first | (cases h; done) | skip
              dsimp only at h
              split at h
              · rename_i hc
                obtain ⟨rfl, hw⟩ := hc
                exact ⟨[.lit (.int _ _)], ⟨_, [], rfl, rfl, rfl⟩, rfl, (beq_iff_eq.1 hp).symm, _, rfl, hw⟩
              · cases h
        case string =>
          cases cs with
          | nil => cases h
          | cons c r =>
            cases r with
            | cons c' r => cases c <;> cases h
            | nil =>
              cases c <;> first | (cases h; done) | skip
              dsimp only at h
              split at h
              · rename_i hc
                cases h
                exact ⟨[.lit (.string _)], ⟨_, [], rfl, rfl, rfl⟩, rfl, (beq_iff_eq.1 hp).symm, _, rfl, by simpa [DataW.weights] using hz⟩
              · cases h
        case slice e =>
          simp only [Bool.and_eq_true, beq_iff_eq, bne_iff_ne, ne_eq] at hp
          obtain ⟨⟨hp1, hp2⟩, hp3⟩ := hp
          cases cs with
          | nil => cases h
          | cons c r =>
            cases r with
            | cons c' r => cases c <;> first | (cases h; done) | (rename_i a l cp; cases a <;> first | (cases h; done) | (cases l <;> cases cp <;> cases h))
            | nil =>
              cases c <;> first | (cases h; done) | skip
              rename_i a len cap
              cases a with
              | none =>
                cases len with
                | zero =>
                  cases cap with
                  | zero => exact ⟨[.view [] 0 true], ⟨_, [], rfl, ⟨none, 0, rfl, Nat.le_refl _, fun _ => ⟨rfl, rfl⟩, fun _ => rfl, rfl, .inl rfl⟩, rfl⟩, rfl, hp1.symm, [], true, rfl, by simp, by simp⟩
                  | succ c => cases h
                | succ l => cases h
              | some a =>
                dsimp only at h
                split at h
                · rename_i hc
                  obtain ⟨xs, h1, h2⟩ := bind_some' h
                  obtain ⟨rest, h3, h4⟩ := Option.map_eq_some_iff.1 h2
                  clear h h2
                  subst h4
                  obtain ⟨l1, l2⟩ := range_mapM h1
                  simp only [DataW.weights, hu, List.mem_cons, List.mem_append, List.length_map] at hz
                  have hz1 := hz _ (.inl rfl)
                  have hz2 : ∀ x ∈ xs, ∀ n ∈ DataW.weights P e x.1, n ≤ reachBytes := fun x hx n hn => hz n (.inr (.inl (weightsAll_mem (List.mem_map_of_mem hx) hn)))
                  obtain ⟨els, us, r1, r2, r3, r4, r5, r6⟩ := dec_row (k := P.cellsOf e) (sh := shape P d e) (W := fun d => ∀ n ∈ DataW.weights P e d, n ≤ reachBytes) (fun cs x hx hw => ih e hp3 fuel cs x hx hw) len xs l1 hz2 l2
                  refine ⟨[.view els.flatten els.length (decide (cap = len))], ⟨_, [], rfl, ⟨some a, cap, by rw [r1], by rw [r1]; exact hc.2.1, (fun hh => by cases hh), (fun hh => by rw [r1]; simpa using hh), r5, ?_⟩, rfl⟩, by simp [pureL, AV.pure, r5], hp1.symm, ⟨els, _, rfl, by rw [r1, ← l1]; exact Nat.le_trans (Nat.mul_le_mul_right _ (Nat.le_add_right _ _)) hz1, r2⟩⟩
                  by_cases hne : us = []
                  · left
                    subst hne
                    have := r4.length
                    exact List.length_eq_zero_iff.1 (by simpa using this.symm)
                  · obtain ⟨b, off, e1, e2⟩ := imm_of_cells (φ := φ) hne (fun m hm => r6 m (by rw [← r3]; exact hm))
                    exact .inr ⟨b, off, us, by rw [e1], e2, r4⟩
                · cases h
        case struct fs =>
          split at h
          · rename_i hc
            obtain ⟨xs, h1, h2⟩ := Option.map_eq_some_iff.1 h
            subst h2
            simp only [DataW.weights, hu] at hz
            obtain ⟨avs, r1, r2, r3⟩ := dec_fields (P := P) (φ := φ) (w := w) (tr := DataW.trod enc P w base sp held fuel) (pl := plainT P d) (sh := shape P d) (W := fun t d => ∀ n ∈ DataW.weights P t d, n ≤ reachBytes) (fun t cs x hp hx hw => ih t hp fuel cs x hx hw) hc fs.toList 0 xs hp h1 (fun i f x hf hx n hn => hz n (weightsEach_mem (i := i) (by rw [List.getElem?_map, hf]; rfl) (by rw [List.getElem?_map, hx]; rfl) hn))
            rw [List.drop_zero] at r1
            exact ⟨avs, r1, r2, by rw [← r1.length, hc], r3⟩
          · cases h
        case array n e =>
          simp only [Bool.and_eq_true, beq_iff_eq, bne_iff_ne, ne_eq] at hp
          obtain ⟨⟨hp1, hp2⟩, hp3⟩ := hp
          split at h
          · rename_i hc
            obtain ⟨xs, h1, h2⟩ := Option.map_eq_some_iff.1 h
            obtain ⟨l1, l2⟩ := range_mapM h1
            subst h2
            simp only [DataW.weights, hu] at hz
            obtain ⟨els, r1, r2, r3, r4⟩ := dec_array (k := P.cellsOf e) (sh := shape P d e) (φ := φ) (w := w) (W := fun d => ∀ n ∈ DataW.weights P e d, n ≤ reachBytes) (fun cs x hx hw => ih e hp3 fuel cs x hx hw) (cs := cs) n xs l1 (fun x hx n hn => hz n (weightsAll_mem (List.mem_map_of_mem hx) hn)) l2
            rw [List.take_of_length_le (by omega)] at r3
            exact ⟨els.flatten, r3, r4, by rw [← r3.length, hc], els, rfl, r1, r2⟩
          · cases h
end
end Go.Proofs.Ytgfploghjpbcaaa.Eng
