/- Structs and arrays by value, elements, slices' heads. -/
import Derived.Test.YtgfploghjpbcaaaEngD3
namespace Go.Proofs.Ytgfploghjpbcaaa.Eng
open Go
set_option linter.unusedVariables false
set_option linter.unusedSimpArgs false
section
variable {P : Program} {φ : Nat → Option Nat} {H : AH} {w : World}
theorem foldl_zip (off : Nat) : ∀ (l : List Value) (k : Nat) (c : Array Value), (l.zipIdx k).foldl (fun cs (p : Value × Nat) => cs.setIfInBounds (off + p.2) p.1) c = setAll c (off + k) l
  | [], _, _ => rfl
  | v :: r, k, c => by
    rw [List.zipIdx_cons, List.foldl_cons, foldl_zip off r (k + 1)]
    rfl
theorem RL_setAll {S : Cx} {cs new : List AV} {c : Array Value} {vs : List Value} {off : Nat} (h : RL S cs c.toList) (hn : RL S new vs) (hfit : off + new.length ≤ cs.length) : RL S (splice cs off new) (setAll c off vs).toList := by
  have hl := h.length
  have hl2 := hn.length
  rw [Array.length_toList] at hl
  refine RL.of (by rw [Array.length_toList, setAll_size, splice_len _ _ _ hfit]; exact hl) fun j x u k1 k2 => ?_
  rw [splice_get _ _ _ hfit] at k1
  rw [Array.getElem?_toList, setAll_get _ _ _ _ (by omega), hl2] at k2
  by_cases hj : off ≤ j ∧ j < off + new.length
  · rw [if_pos hj] at k1 k2
    obtain ⟨v, m1, m2⟩ := hn.get k1
    rw [m1] at k2; cases k2; exact m2
  · rw [if_neg hj] at k1 k2
    obtain ⟨v, m1, m2⟩ := h.get k1
    have e1 : c[j]? = some v := by simpa using m1
    have e2 : some v = some u := e1.symm.trans k2
    cases e2; exact m2
theorem fill_sound {S : Cx} {place : Nat → Option (Nat × Nat)} {ρ : IArg → AV} {η : Operand → Value} (hρ : ∀ x y, arg? x = some y → R S (ρ y) (η x)) :
    ∀ (ps : List (Nat × Operand)) (qs : List (Nat × Nat × IArg)) (cs : List AV) (c : Array Value), ps.mapM (fun (p : Nat × Operand) => (do let (o, k) ← place p.1; let y ← arg? p.2; pure (o, k, y) : Option (Nat × Nat × IArg))) = some qs → RL S cs c.toList →
      fillOk cs.length (qs.map fun p => (p.1, p.2.1, ρ p.2.2)) → ∃ out, Instr.fill place c (ps.map fun p => (p.1, η p.2)) = some out ∧ RL S (fillv cs (qs.map fun p => (p.1, ρ p.2.2))) out.toList
  | [], qs, cs, c, hm, hr, hok => by
    simp at hm; subst hm
    exact ⟨c, rfl, hr⟩
  | (i, x) :: ps, qs, cs, c, hm, hr, hok => by
    simp only [List.mapM_cons, Option.bind_eq_bind, Option.pure_def] at hm
    cases hp : place i with
    | none => simp [hp] at hm
    | some ok =>
      obtain ⟨o, k⟩ := ok
      cases hy : arg? x with
      | none => simp [hp, hy] at hm
      | some y =>
        simp only [hp, hy, Option.bind_some] at hm
        cases hq : ps.mapM (fun (p : Nat × Operand) => (do let (o, k) ← place p.1; let y ← arg? p.2; pure (o, k, y) : Option (Nat × Nat × IArg))) with
        | none => simp only [Option.bind_eq_bind, Option.pure_def] at hq; rw [hq] at hm; simp at hm
        | some qs' =>
          have hq' := hq
          simp only [Option.bind_eq_bind, Option.pure_def] at hq'
          rw [hq'] at hm
          simp at hm; subst hm
          simp only [List.map_cons, fillOk] at hok
          obtain ⟨⟨h1, h2, h3⟩, h4⟩ := hok
          have hR := hρ x y hy
          obtain ⟨r1, _⟩ := hR.cells h3
          have hsz : (η x).cells.size = k := by rw [← Array.length_toList, r1.length, h1]
          have hc := hr.length
          rw [Array.length_toList] at hc
          have hfit : o + (ρ y).cells.length ≤ cs.length := by rw [h1]; exact h2
          obtain ⟨out, g1, g2⟩ := fill_sound hρ ps qs' (splice cs o (ρ y).cells) (setAll c o (η x).cells.toList) hq (RL_setAll hr r1 hfit) (by rw [splice_len _ _ _ hfit]; exact h4)
          refine ⟨out, ?_, g2⟩
          simp only [List.map_cons, Instr.fill, hp, hsz]
          rw [if_neg (by simp; omega)]
          have e : (η x).cells.zipIdx.foldl (fun cs (p : Value × Nat) => cs.setIfInBounds (o + p.2) p.1) c = setAll c o (η x).cells.toList := by
            rw [← Array.foldl_toList, Array.toList_zipIdx]
            have := foldl_zip o (η x).cells.toList 0 c
            simpa using this
          rw [← g1, ← e]
theorem zeroT_info {t : TypeId} {z : List Value} (hz : zeroT P t = some z) : ∃ i v, P.info? t = some i ∧ i.zero = some v ∧ v.cells.toList = z := by
  unfold zeroT at hz
  cases hi : P.info? t with
  | none => rw [hi] at hz; simp at hz
  | some i =>
    rw [hi] at hz
    cases hv : i.zero with
    | none => simp [hv] at hz
    | some v => simp [hv] at hz; exact ⟨i, v, rfl, hv, hz⟩
theorem run_mapM_pure {α β : Type} (f : α → Sem β) (g : α → β) (hf : ∀ x, ∀ w : World, (f x).run P w = .ok (g x) w) (l : List α) (w : World) : (l.mapM f).run P w = .ok (l.map g) w := by
  induction l with
  | nil => rfl
  | cons x r ih => simp [List.mapM_cons, hf, ih]
theorem parts_args {own : Nat → Bool} {ρ : IArg → AV} {place : Nat → Option (Nat × Nat)} {ps : Array (Nat × Operand)} {qs : List (Nat × Nat × IArg)} (h : parts? place ps = some qs) :
    ps.toList.mapM (fun (p : Nat × Operand) => (do let (o, k) ← place p.1; let y ← arg? p.2; pure (o, k, y) : Option (Nat × Nat × IArg))) = some qs := h
theorem build_sound (hs : St (cx φ H w)) {ρ : IArg → AV} {η : Operand → Value} (hρ : ∀ x y, arg? x = some y → R (cx φ H w) (ρ y) (η x)) {t : TypeId} {z : List Value} {ps : Array (Nat × Operand)} {qs : List (Nat × Nat × IArg)} (hz : zeroT P t = some z)
    (hq : (match P.underlying t with
      | some (.struct fs) => if fs.toList.all (fun f => (P.info? f.type).isSome) then parts? (fun i => (fs[i]?).map fun f => (f.offset, P.cellsOf f.type)) ps else none
      | some (.array _ e) => if P.cellsOf e = 0 then none else parts? (fun i => some (i * P.cellsOf e, P.cellsOf e)) ps
      | _ => none) = some qs) (hok : fillOk z.length (qs.map fun p => (p.1, p.2.1, ρ p.2.2))) :
    ∃ u, (Instr.build t (ps.map fun (i, x) => (i, η x))).run P w = .ok u w ∧ R (cx φ H w) (.agg (fillv (zlit z) (qs.map fun p => (p.1, ρ p.2.2)))) u := by
  obtain ⟨it, v, hi, hv, hzc⟩ := zeroT_info hz
  have hzr : RL (cx φ H w) (zlit z) v.cells.toList := by rw [hzc]; exact RL_lits _
  have hlen : (zlit z).length = z.length := by simp [zlit]
  have fin : ∀ place, parts? place ps = some qs → (∀ out, Instr.fill place v.cells (ps.toList.map fun p => (p.1, η p.2)) = some out → P.built t (ps.map fun (p : Nat × Operand) => (p.1, η p.2)).toList = some out) →
      ∃ u, (Instr.build t (ps.map fun (p : Nat × Operand) => (p.1, η p.2))).run P w = .ok u w ∧ R (cx φ H w) (.agg (fillv (zlit z) (qs.map fun p => (p.1, ρ p.2.2)))) u := by
    intro place hp hb
    obtain ⟨out, g1, g2⟩ := fill_sound hρ ps.toList qs (zlit z) v.cells hp hzr (by rw [hlen]; exact hok)
    exact ⟨_, run_build w t _ out (hb out g1), out, rfl, g2⟩
  cases hu : P.underlying t with
  | none => rw [hu] at hq; cases hq
  | some d =>
    rw [hu] at hq
    cases d <;> try (cases hq; done)
    case array n e =>
      dsimp only at hq
      split at hq
      · cases hq
      · rename_i he
        obtain ⟨ie, hie, hsz⟩ := info_of_cells he
        refine fin _ hq fun out g1 => ?_
        simp only [Program.built, hi, hu, hv, hie, hsz, Array.toList_map]
        exact g1
    case struct fs =>
      dsimp only at hq
      split at hq
      · rename_i hall
        refine fin _ hq fun out g1 => ?_
        have hm : fs.toList.mapM (fun f => (P.info? f.type).map fun i => (f.offset, i.size)) = some (fs.toList.map fun f => (f.offset, P.cellsOf f.type)) := by
          have : ∀ l : List Field, l.all (fun f => (P.info? f.type).isSome) = true → l.mapM (fun f => (P.info? f.type).map fun i => (f.offset, i.size)) = some (l.map fun f => (f.offset, P.cellsOf f.type)) := by
            intro l
            induction l with
            | nil => intro _; rfl
            | cons f r ih =>
              intro h
              simp only [List.all_cons, Bool.and_eq_true] at h
              obtain ⟨i, hi⟩ := Option.isSome_iff_exists.1 h.1
              simp [List.mapM_cons, hi, ih h.2, Program.cellsOf]
          exact this _ hall
        simp only [Program.built, hi, hu, hv, hm, Array.toList_map]
        have e : (fun (i : Nat) => (fs.toList.map fun (f : Field) => (f.offset, P.cellsOf f.type)).toArray[i]?) = fun (i : Nat) => (fs[i]?).map fun (f : Field) => (f.offset, P.cellsOf f.type) := by
          funext i; simp
        rw [e]; exact g1
      · cases hq
theorem flatten_get {α : Type} (l : List α) : ∀ (n i : Nat), (List.replicate n l).flatten[i]? = if i < n * l.length then l[i % l.length]? else none
  | 0, i => by simp
  | n + 1, i => by
    rw [List.replicate_succ, List.flatten_cons, List.getElem?_append]
    by_cases h : i < l.length
    · rw [if_pos h, if_pos (by rw [Nat.succ_mul]; omega), Nat.mod_eq_of_lt h]
    · rw [if_neg h, flatten_get l n, Nat.succ_mul]
      by_cases h2 : i - l.length < n * l.length
      · rw [if_pos h2, if_pos (by omega), ← Nat.mod_eq_sub_mod (by omega)]
      · rw [if_neg h2, if_neg (by omega)]
theorem repl_lits (n : Nat) (z : List Value) : repl n (zlit z) = (List.replicate n z).flatten.map AV.lit := by
  simp [repl, zlit, List.map_flatten]
theorem made_list (z : Array Value) (n sz : Nat) (hz : z.size = sz) : ((Array.range (n * sz)).map (z[· % z.size]!)).toList = (List.replicate n z.toList).flatten := by
  apply List.ext_getElem?
  intro i
  rw [flatten_get, Array.toList_map, Array.toList_range, List.getElem?_map]
  simp only [Array.length_toList, hz]
  by_cases h : i < n * sz
  · have hpos : 0 < sz := by
      rcases Nat.eq_zero_or_pos sz with h0 | h0
      · subst h0; simp at h
      · exact h0
    have hlt : i % sz < z.size := by rw [hz]; exact Nat.mod_lt _ hpos
    rw [if_pos h, List.getElem?_range h]
    simp [hlt]
  · rw [if_neg h, List.getElem?_eq_none (by simpa using h)]
    rfl
theorem bslice_sound (hs : St (cx φ H w)) {ρ : IArg → AV} {η : Operand → Value} (hρ : ∀ x y, arg? x = some y → R (cx φ H w) (ρ y) (η x)) {t e : TypeId} {len : Nat} {own : Bool} {z : List Value} {ps : Array (Nat × Operand)} {qs : List (Nat × Nat × IArg)}
    (hu : P.underlying t = some (.slice e)) (hz : zeroT P e = some z) (hc : ¬ (P.cellsOf e = 0 || len * P.cellsOf e > 2 ^ 24 || z.length != P.cellsOf e) = true) (hq : parts? (fun i => some (i * P.cellsOf e, P.cellsOf e)) ps = some qs)
    (hok : fillOk (len * P.cellsOf e) (qs.map fun p => (p.1, p.2.1, ρ p.2.2)) ∧ (own = false → pureL (fillv (repl len (zlit z)) (qs.map fun p => (p.1, ρ p.2.2))) = true)) :
    ∃ u w', (Instr.buildSlice t len (ps.map fun (i, x) => (i, η x))).run P w = .ok u w' ∧
      PostV φ H w (if own then .row H.length 0 len (len * P.cellsOf e) else .view (fillv (repl len (zlit z)) (qs.map fun p => (p.1, ρ p.2.2))) len true)
        (if own then H ++ [⟨fillv (repl len (zlit z)) (qs.map fun p => (p.1, ρ p.2.2)), P.cellsOf e, true⟩] else H) u w' := by
  have hc0 := hc
  obtain ⟨it, v, hi, hv, hzc⟩ := zeroT_info hz
  simp only [Bool.or_eq_true, decide_eq_true_eq, bne_iff_ne, ne_eq, not_or, gt_iff_lt, Nat.not_lt, Decidable.not_not] at hc
  obtain ⟨⟨h0, hbig⟩, hzl⟩ := hc
  obtain ⟨it', hi', hsz⟩ := info_of_cells h0
  rw [hi] at hi'; cases hi'
  have hvs : v.cells.size = P.cellsOf e := by rw [← Array.length_toList, hzc, hzl]
  have hbase : RL (cx φ H w) (repl len (zlit z)) ((Array.range (len * it.size)).map (v.cells[· % v.cells.size]!)).toList := by
    rw [made_list v.cells len it.size (by rw [hvs, hsz]), hzc, repl_lits]; exact RL_lits _
  have hlen : (repl len (zlit z)).length = len * P.cellsOf e := by simp [repl, zlit, List.length_flatten, hzl]
  obtain ⟨out, g1, g2⟩ := fill_sound (place := fun i => some (i * P.cellsOf e, P.cellsOf e)) hρ ps.toList qs _ _ hq hbase (by rw [hlen]; exact hok.1)
  have hrun : (Instr.buildSlice t len (ps.map fun (i, x) => (i, η x))).run P w = .ok (.slice (some ⟨w.heap.size, 0, none⟩) len len) (w.alloc (.cells out e)) := by
    have hsmall : ¬ len * it.size > 2 ^ 24 := by rw [hsz]; omega
    have g1' : Instr.fill (fun i => some (i * it.size, it.size)) ((Array.range (len * it.size)).map (v.cells[· % v.cells.size]!)) (ps.map fun (i, x) => (i, η x)).toList = some out := by
      rw [Array.toList_map, hsz]; rw [hsz] at g1; exact g1
    by_cases hpos : len * it.size = 0
    · have hl0 : len = 0 := by
        rcases Nat.mul_eq_zero.1 hpos with h | h
        · exact h
        · omega
      subst hl0
      rw [Nat.zero_mul] at g1'
      simp [Instr.buildSlice, run_underlying hu, sizeOf, typeInfo, zeroValue, hi, hv, newRow]
      simp at g1'
      have e0 : ∀ f : Nat → Value, (Array.range 0).map f = #[] := fun f => by apply Array.ext'; simp
      rw [e0] at g1'
      rw [e0, g1']
      rfl
    · exact run_buildSlice w t e len _ out it v hu hi hv hsmall hpos g1'
  have hol := g2.length
  refine ⟨_, _, hrun, ?_⟩
  have hfl : ∀ (ls : List (Nat × Nat × AV)) (cs : List AV), fillOk cs.length ls → (fillv cs (ls.map fun p => (p.1, p.2.2))).length = cs.length := by
    intro ls
    induction ls with
    | nil => intro cs _; rfl
    | cons p r ih =>
      obtain ⟨o, k, v⟩ := p
      intro cs h
      simp only [fillOk] at h
      have hf : o + v.cells.length ≤ cs.length := by omega
      simp only [List.map_cons, fillv]
      rw [ih _ (by rw [splice_len _ _ _ hf]; exact h.2), splice_len _ _ _ hf]
  have hlen2 : (fillv (repl len (zlit z)) (qs.map fun p => (p.1, ρ p.2.2))).length = len * P.cellsOf e := by
    have := hfl (qs.map fun p => (p.1, p.2.1, ρ p.2.2)) (repl len (zlit z)) (by rw [hlen]; exact hok.1)
    rw [List.map_map] at this
    rw [← hlen, ← this]; rfl
  cases own
  · have hp := hok.2 rfl
    refine post_push (o := .cells out e) hs ⟨rfl, rfl, rfl⟩ rfl fun φ' hx hφ => ?_
    subst hφ
    exact R_newview hs (us := out.toList) rfl hp (g2.mono hx) (fun j u h => by simpa using h) (Nat.le_refl _) (fun _ => rfl)
  · rw [hlen2] at hol
    rw [Array.length_toList] at hol
    show PostV φ H w (.row H.length 0 len (len * P.cellsOf e)) (H ++ [⟨fillv (repl len (zlit z)) (qs.map fun p => (p.1, ρ p.2.2)), P.cellsOf e, true⟩]) _ _
    refine post_new (w' := w.alloc (.cells out e)) (ob := ⟨fillv (repl len (zlit z)) (qs.map fun p => (p.1, ρ p.2.2)), P.cellsOf e, true⟩) (c := out) (e := e) (fr := (0, 0)) hs ⟨rfl, rfl, rfl⟩ rfl (.inl rfl) (fun h => by simp only [Bool.or_eq_true, decide_eq_true_eq, not_or] at hc0; exact hc0.1.1 h.2) (by dsimp only; omega) ?_ fun φ' hφ _ => ?_
    · dsimp only
      rw [hlen2, ← hol, ← Array.length_toList, List.take_length]; exact g2
    · exact R_newrow rfl hφ (by dsimp only; rw [hlen2]) (Nat.le_refl _) (by dsimp only; omega) (fun _ => Nat.le_refl _)
/-! ### Parts -/
theorem run_fieldAt {t : TypeId} {fs : Array Field} {i : Nat} {f : Field} (hu : P.underlying t = some (.struct fs)) (hf : fs[i]? = some f) (hc : P.cellsOf f.type ≠ 0) (b off : Nat) : (Instr.fieldAt t (.pointer (some ⟨b, off, none⟩)) i).run P w = .ok (.pointer (some ⟨b, off + f.offset, none⟩)) w := by
  obtain ⟨it, hi, hsz⟩ := info_of_cells hc
  have h0 : ¬ it.size = 0 := by omega
  simp [Instr.fieldAt, run_underlying hu, hf, Instr.sureAddr, fieldPlace, sizeOf, typeInfo, hi, h0, addr_add]
theorem fld_sound {t : TypeId} {fs : Array Field} {i : Nat} {f : Field} (hu : P.underlying t = some (.struct fs)) (hf : fs[i]? = some f) (hc : P.cellsOf f.type ≠ 0) {x : AV} {a : Value} (hx : R (cx φ H w) x a) (hok : fldOk x) :
    ∃ u, (Instr.fieldAt t a i).run P w = .ok u w ∧ R (cx φ H w) (fldV f.offset x) u := by
  cases x with
  | ptr id off =>
    obtain ⟨o, b, h1, h2, h3, rfl⟩ := hx
    exact ⟨_, run_fieldAt hu hf hc b off, o, b, h1, h2, h3, rfl⟩
  | rptr id off L =>
    obtain ⟨⟨b, of, sp⟩, rfl, o, h1, h2, h3⟩ := hx
    obtain ⟨it, hi, hsz⟩ := info_of_cells hc
    have h0 : ¬ it.size = 0 := by omega
    refine ⟨.pointer (some ((⟨b, of, sp⟩ : Addr).add f.offset)), by simp [Instr.fieldAt, run_underlying hu, hf, Instr.sureAddr, fieldPlace, sizeOf, typeInfo, hi, h0], _, rfl, o, h1, h2, fun hL => ?_⟩
    obtain ⟨b', h4, h5⟩ := h3 hL
    cases h5
    exact ⟨b, h4, addr_add _ _ _⟩
  | vptr cs =>
    obtain ⟨b, off, us, rfl, h1, h2, h3⟩ := hx
    refine ⟨_, run_fieldAt hu hf hc b off, b, off + f.offset, us.drop f.offset, rfl, ⟨?_, h1.2⟩, ?_, h3.drop _⟩
    · obtain ⟨c, e, fr, g1, g2⟩ := h1.1
      exact ⟨c, e, fr, g1, fun j u h => by
        rw [List.getElem?_drop] at h
        have := g2 _ _ h
        rwa [← Nat.add_assoc] at this⟩
    · have : ∀ (l : List AV) (n : Nat), pureL l = true → pureL (l.drop n) = true := by
        intro l
        induction l with
        | nil => intro n h; simpa using h
        | cons a r ih => intro n h; cases n with
          | zero => exact h
          | succ n => simp only [pureL, Bool.and_eq_true] at h; exact ih n h.2
      exact this _ _ h2
  | _ => exact hok.elim
theorem pureL_mem {l : List AV} : pureL l = true ↔ ∀ a ∈ l, a.pure = true := by
  induction l with
  | nil => simp [pureL]
  | cons a r ih => simp [pureL, ih]
theorem pureL_drop {l : List AV} (h : pureL l = true) (n : Nat) : pureL (l.drop n) = true := pureL_mem.2 fun a ha => pureL_mem.1 h a (List.mem_of_mem_drop ha)
theorem pureL_take {l : List AV} (h : pureL l = true) (n : Nat) : pureL (l.take n) = true := pureL_mem.2 fun a ha => pureL_mem.1 h a (List.mem_of_mem_take ha)
theorem pureL_append {l r : List AV} (h : pureL l = true) (h' : pureL r = true) : pureL (l ++ r) = true := pureL_mem.2 fun a ha => by
  rcases List.mem_append.1 ha with h1 | h1
  · exact pureL_mem.1 h a h1
  · exact pureL_mem.1 h' a h1
theorem Imm.shift {S : Cx} {b off : Nat} {us : List Value} (h : Imm S b off us) (n k : Nat) : Imm S b (off + n) ((us.drop n).take k) := by
  obtain ⟨⟨c, e, fr, g1, g2⟩, hw⟩ := h
  refine ⟨⟨c, e, fr, g1, fun j u h => ?_⟩, hw⟩
  rw [List.getElem?_take] at h
  split at h
  · rw [List.getElem?_drop] at h
    have := g2 _ _ h
    rwa [← Nat.add_assoc] at this
  · cases h
theorem part_sound {t : TypeId} (hA : (P.underlying t).isNone = false) (hc : P.cellsOf t ≠ 0) {off : Nat} {cs : List AV} {vs : Array Value} (h : RL (cx φ H w) cs vs.toList) (hok : off + P.cellsOf t ≤ cs.length) :
    ∃ u, (part t vs off).run P w = .ok u w ∧ R (cx φ H w) (if isAggT P t then .agg ((cs.drop off).take (P.cellsOf t)) else cs.getD off .junk) u := by
  obtain ⟨i, hi, hsz⟩ := info_of_cells hc
  have hl := h.length
  rw [Array.length_toList] at hl
  unfold part
  cases hg : isAggT P t
  · have hlt : off < vs.size := by omega
    obtain ⟨a, ha⟩ := some_of_lt (l := cs) (i := off) (by omega)
    obtain ⟨u, h1, h2⟩ := h.get ha
    have h1' : vs[off]? = some u := by simpa using h1
    refine ⟨u, by simp [run_isAgg' hA, hg, h1'], ?_⟩
    simp [List.getD_eq_getElem?_getD, ha, h2]
  · refine ⟨.agg (vs.extract off (off + P.cellsOf t)), by simp [run_isAgg' hA, hg, sizeOf, typeInfo, hi, hsz], _, rfl, ?_⟩
    rw [Array.toList_extract, List.extract_eq_take_drop]
    have := (h.drop off).take (P.cellsOf t)
    simpa using this
theorem field_sound {t : TypeId} {fs : Array Field} {i : Nat} {f : Field} (hu : P.underlying t = some (.struct fs)) (hf : fs[i]? = some f) (hA : (P.underlying f.type).isNone = false) (hc : P.cellsOf f.type ≠ 0) {x : AV} {a : Value} (hx : R (cx φ H w) x a) (hok : partOk (P.cellsOf f.type) f.offset x) :
    ∃ u, (Instr.field t a i).run P w = .ok u w ∧ R (cx φ H w) (partV (isAggT P f.type) (P.cellsOf f.type) f.offset x) u := by
  cases x with
  | agg cs =>
    obtain ⟨vs, rfl, h1⟩ := hx
    obtain ⟨u, h2, h3⟩ := part_sound (P := P) hA hc h1 hok
    exact ⟨u, by simp [Instr.field, run_underlying hu, hf, asAgg, h2], h3⟩
  | _ => exact hok.elim
theorem ext_sound {i : Nat} {x : AV} {a : Value} (hx : R (cx φ H w) x a) (hok : extOk i x) : ∃ u, (Instr.extract a i).run P w = .ok u w ∧ R (cx φ H w) (extV i x) u := by
  cases x with
  | tup cs =>
    obtain ⟨vs, rfl, h1⟩ := hx
    obtain ⟨b, hb⟩ := some_of_lt (show i < cs.length from hok)
    obtain ⟨u, h2, h3⟩ := h1.get hb
    have h2' : vs[i]? = some u := by simpa using h2
    refine ⟨u, by simp [Instr.extract, h2'], ?_⟩
    simp [extV, List.getD_eq_getElem?_getD, hb, h3]
  | _ => exact hok.elim
theorem mkif_sound {t : TypeId} (ht : ∀ m, P.underlying t ≠ some (.interface m)) (ht' : (P.underlying t).isNone = false) {x : AV} {a : Value} (hx : R (cx φ H w) x a) (hok : mkifOk x) : ∃ u, (Instr.makeInterface t a).run P w = .ok u w ∧ R (cx φ H w) (mkifV t x) u := by
  cases x with
  | lit v =>
    cases hx
    refine ⟨.iface t _, ?_, rfl⟩
    cases hu : P.underlying t with
    | none => rw [hu] at ht'; cases ht'
    | some d => cases d <;> first | (simp [Instr.makeInterface, run_underlying hu]; done) | exact absurd hu (ht _)
  | _ => exact hok.elim
end
end Go.Proofs.Ytgfploghjpbcaaa.Eng
