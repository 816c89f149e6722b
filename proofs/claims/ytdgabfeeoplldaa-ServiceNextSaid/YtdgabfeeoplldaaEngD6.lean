/- What grows: make, append, copy; len, min, max. -/
import Derived.Test.YtdgabfeeoplldaaEngD5
import Derived.Deep.Upon
namespace Go.Proofs.Ytdgabfeeoplldaa.Eng
open Go
set_option linter.unusedVariables false
set_option linter.unusedSimpArgs false
section
variable {P : Program} {φ : Nat → Option Nat} {H : AH} {w : World}
theorem mksl_sound (hs : St (cx φ H w)) {t e : TypeId} {z : List Value} (hu : P.underlying t = some (.slice e)) (hz : zeroT P e = some z) (hc : ¬ (P.cellsOf e = 0 || z.length != P.cellsOf e) = true) {l c : AV} {a b : Value} (hl : R (cx φ H w) l a) (hcc : R (cx φ H w) c b) (hok : mkslOk (P.bytesOf e) l c) :
    ∃ u w', (Instr.makeSlice t a b).run P w = .ok u w' ∧ PostV φ H w (.row H.length 0 (asI l).toNat ((asI l).toNat * P.cellsOf e)) (H ++ [⟨repl (asI l).toNat (zlit z), P.cellsOf e, true⟩]) u w' := by
  obtain ⟨it, v, hi, hv, hzc⟩ := zeroT_info hz
  simp only [Bool.or_eq_true, decide_eq_true_eq, bne_iff_ne, ne_eq, not_or, Decidable.not_not] at hc
  obtain ⟨h0, hzl⟩ := hc
  obtain ⟨it', hi', hsz⟩ := info_of_cells h0
  rw [hi] at hi'; cases hi'
  obtain ⟨i1, i2, k0, k1, k2, k3⟩ := hok
  obtain ⟨kl, rfl⟩ := R_int hl i1
  obtain ⟨kc, rfl⟩ := R_int hcc i2
  have hb : P.bytesOf e = it.bytes := by simp [Program.bytesOf, hi]
  rw [hb] at k2
  refine ⟨_, _, run_make w t e it v hu hi hv kl kc (asI l) (asI c) k0 k1 k2 k3, ?_⟩
  have hvs : v.cells.size = P.cellsOf e := by rw [← Array.length_toList, hzc, hzl]
  have hle : (asI l).toNat * P.cellsOf e ≤ (asI c).toNat * P.cellsOf e := Nat.mul_le_mul_right _ (by omega)
  have hlen : (repl (asI l).toNat (zlit z)).length = (asI l).toNat * P.cellsOf e := by simp [repl, zlit, List.length_flatten, hzl]
  have hms : (madeCells v.cells ((asI c).toNat * it.size)).size = (asI c).toNat * P.cellsOf e := by rw [size_madeCells, hsz]
  refine post_new (w' := w.alloc (.cells (madeCells v.cells ((asI c).toNat * it.size)) e)) (ob := ⟨repl (asI l).toNat (zlit z), P.cellsOf e, true⟩) (c := madeCells v.cells ((asI c).toNat * it.size)) (e := e) (fr := (0, 0)) hs ⟨rfl, rfl, rfl⟩ rfl (fun k _ h => by omega) (by dsimp only; rw [hlen, hms]; exact hle) ?_ fun φ' hφ _ => ?_
  · dsimp only
    rw [hlen, repl_lits]
    have e1 : (madeCells v.cells ((asI c).toNat * it.size)).toList = (List.replicate (asI c).toNat v.cells.toList).flatten := made_list _ _ _ (by rw [hvs, hsz])
    have e2 : (List.replicate (asI c).toNat v.cells.toList).flatten.take ((asI l).toNat * P.cellsOf e) = (List.replicate (asI l).toNat z).flatten := by
      apply List.ext_getElem?
      intro j
      rw [List.getElem?_take, flatten_get, flatten_get, hzc, hzl]
      by_cases hj : j < (asI l).toNat * P.cellsOf e
      · rw [if_pos hj, if_pos (by omega), if_pos hj]
      · rw [if_neg hj, if_neg hj]
    rw [e1, e2]; exact RL_lits _
  · exact R_newrow rfl hφ (by dsimp only; rw [hlen]) (by omega) (by dsimp only; omega)
/-- What an append takes in. -/
theorem src_sound (hs : St (cx φ H w)) {sz : Nat} {tx : TypeId} (hsz : sz ≠ 0) {x : AV} {a : Value} (hk : (∃ e', P.underlying tx = some (.slice e')) ∨ P.underlying tx = some .string) (hx : R (cx φ H w) x a) (hok : srcOk sz H x) (h1 : (srcC sz H x).all AV.one = true) :
    ∃ us, Src P sz tx a (srcN x) us w ∧ RL (cx φ H w) (srcC sz H x) us ∧ us.length = srcN x * sz := by
  by_cases hstr : strOk x
  · obtain ⟨s, rfl, rfl⟩ := R_str hx hstr
    have h1 : sz = 1 := hok
    subst h1
    refine ⟨byteCells s, ⟨hk, fun _ => rfl, firstCells_string s w, firstCells_string s w.drew, by rw [byteCells_length, Nat.mul_one]; rfl, byteCells_one s⟩, ?_, by rw [byteCells_length]; simp [srcN]⟩
    show RL _ (bytesOf s) _
    rw [bytesOf_eq]; exact RL_lits _
  · obtain ⟨base, cap, us, rfl, r1, r2, r3, r4⟩ := src_range hs hx hok hstr
    cases base with
    | none =>
      have h0 := r4 rfl
      have hus : us = [] := by rw [h0, Nat.zero_mul] at r2; exact List.eq_nil_of_length_eq_zero r2
      subst hus
      rw [h0]
      exact ⟨[], ⟨hk, fun _ => rfl, run_firstCells_none w sz 0 0 cap, run_firstCells_none w.drew sz 0 0 cap, by simp, fun _ h => by cases h⟩, r1, by simp⟩
    | some ad =>
      have hcell : ∀ (j : Nat) (u : Value), us[j]? = some u → w.cell? (ad.add j) = some u := by
        intro j u hj
        rcases r3 with rfl | ⟨b, off, hb, r5⟩
        · simp at hj
        · cases hb; rw [addr_add]; exact r5 j u hj
      exact ⟨us, ⟨hk, fun _ => rfl, run_firstCells_some w sz _ ad _ cap us r2 hcell, run_firstCells_some w.drew sz _ ad _ cap us r2 (by simpa using hcell), r2, r1.one h1⟩, r1, r2⟩
theorem setO_same {H : AH} {id : Nat} (h : id < H.length) : setO H id (obj H id).cs = H := by
  unfold setO
  have : (⟨(obj H id).cs, (obj H id).sz, (obj H id).rw⟩ : AObj) = obj H id := rfl
  rw [this]
  apply List.ext_getElem?
  intro j
  rw [List.getElem?_set]
  split
  · rename_i hj; subst hj
    rw [obj_get h]
  · rfl
/-- Growing: the cells of the new block. -/
theorem take_grow (l z : List Value) : (l ++ z).take l.length = l := by simp
theorem append_sound (hs : St (cx φ H w)) {t tx ty e : TypeId} (hu : P.underlying t = some (.slice e)) (hc : P.cellsOf e ≠ 0) {z : List Value} (hz : zeroT P e = some z) (hzl : z.length = P.cellsOf e) (hpos : P.bytesOf e ≠ 0) {s x : AV} {a b : Value} (hk : (∃ e', P.underlying tx = some (.slice e')) ∨ P.underlying tx = some .string)
    (hsR : R (cx φ H w) s a) (hxR : R (cx φ H w) x b) (hok : appOk (P.cellsOf e) (P.bytesOf e) H s x) :
    ∃ u w', (Builtin.append_ #[t, tx] ty #[a, b]).run P w = .ok u w' ∧ PostV φ H w (appV (P.cellsOf e) H x s) (appH (P.cellsOf e) H x s) u w' := by
  obtain ⟨hi1, hi2, hi3, hi4⟩ := hok
  obtain ⟨it, v, hi, hv, hzc⟩ := zeroT_info hz
  obtain ⟨it', hi', hsz⟩ := info_of_cells hc
  rw [hi] at hi'; cases hi'
  have hvs : v.cells.size = P.cellsOf e := by rw [← Array.length_toList, hzc, hzl]
  have hb : P.bytesOf e = it.bytes := by simp [Program.bytesOf, hi]
  obtain ⟨us, r1, r2, r3⟩ := src_sound (P := P) hs hc hk hxR hi1 hi2
  rw [← hsz] at r1
  have hrl := r2.length
  -- the arm that grows
  have grow : ∀ (base : Option Addr) (n cap : Nat) (olds : List Value), a = .slice base n cap → n = srcN s → cap < n + srcN x → (Builtin.firstCells it.size n (.slice base n cap)).run P w.drew = .ok olds.toArray w.drew → olds.length = n * P.cellsOf e →
      ∃ ncap c, n + srcN x ≤ ncap ∧ (Builtin.append_ #[t, tx] ty #[a, b]).run P w = .ok (.slice (some ⟨w.heap.size, 0, none⟩) (n + srcN x) ncap) (w.drew.alloc (.cells c e)) ∧ c.size = ncap * P.cellsOf e ∧ c.toList.take ((n + srcN x) * P.cellsOf e) = olds ++ us := by
    rintro base n cap olds rfl hn hcap hold hol
    have hbig : (n + srcN x) * it.bytes ≤ 140737488355328 := by rw [← hb, hn]; exact hi3
    have hle : n + srcN x ≤ (n + srcN x) * it.bytes := Nat.le_mul_of_pos_right _ (by omega)
    have hfit := growslice_fits hcap hbig
    have hrun := run_append_grow_src w t tx ty e it v hu hi hv base n cap olds hold b (srcN x) us r1 hcap (by omega) hfit
    have hge : n + srcN x ≤ grownCap w (n + srcN x) cap e := by simp only [grownCap, Question.cut]; omega
    refine ⟨_, _, hge, hrun, ?_, ?_⟩
    · have e1 : ((olds ++ us).toArray ++ Builtin.zeroCells v.cells (grownCap w (n + srcN x) cap e - (n + srcN x))).size = (n * P.cellsOf e + srcN x * P.cellsOf e) + (grownCap w (n + srcN x) cap e - (n + srcN x)) * P.cellsOf e := by
        simp [Builtin.zeroCells, hol, r3, hvs]
      rw [e1, ← Nat.add_mul, ← Nat.add_mul]; congr 1; omega
    · rw [Array.toList_append]
      have : (n + srcN x) * P.cellsOf e = (olds ++ us).length := by rw [List.length_append, hol, r3, Nat.add_mul]
      rw [this]; exact List.take_left
  have nothing : ∀ (base : Option Addr) (n cap : Nat), a = .slice base n cap → n ≤ cap → srcN x = 0 → (Builtin.append_ #[t, tx] ty #[a, b]).run P w = .ok a w := by
    rintro base n cap rfl hn h0
    have hus : us = [] := by rw [h0, Nat.zero_mul] at r3; exact List.eq_nil_of_length_eq_zero r3
    rw [hus, h0] at r1
    exact run_append_nothing w t tx ty e it hu hi base n cap hn b r1
  have src0 : srcN x = 0 → srcC (P.cellsOf e) H x = [] := by
    intro h0
    rw [h0, Nat.zero_mul] at r3
    exact List.eq_nil_of_length_eq_zero (by omega)
  have newobj : ∀ {n ncap : Nat} {c : Array Value} {cs : List AV}, n ≤ ncap → cs.length = n * P.cellsOf e → c.size = ncap * P.cellsOf e → RL (cx φ H w) cs (c.toList.take cs.length) → PostV φ H w (.row H.length 0 n cs.length) (H ++ [⟨cs, P.cellsOf e, true⟩]) (.slice (some ⟨w.heap.size, 0, none⟩) n ncap) (w.drew.alloc (.cells c e)) := by
    intro n ncap c cs h1 h2 h3 h4
    refine post_new (w' := w.drew.alloc (.cells c e)) (ob := ⟨cs, P.cellsOf e, true⟩) (c := c) (e := e) (fr := (0, 0)) hs ⟨rfl, rfl, rfl⟩ rfl (fun k _ h => by omega) ?_ h4 fun φ' hφ _ => ?_
    · dsimp only; rw [h2, h3]; exact Nat.mul_le_mul_right _ h1
    · exact R_newrow rfl hφ rfl h1 (by dsimp only; omega)
  cases s with
  | lit vv =>
    obtain rfl : vv = .slice none 0 0 := by
      unfold appBase at hi4
      split at hi4 <;> simp_all
    cases hsR
    by_cases h0 : srcN x = 0
    · refine ⟨_, _, nothing none 0 0 rfl (Nat.le_refl _) h0, ?_⟩
      obtain ⟨φ', g1, g2, g3⟩ := step_nil hs (ob := ⟨srcC (P.cellsOf e) H x, P.cellsOf e, true⟩) (src0 h0) (by dsimp only; omega)
      refine ⟨φ', g2, g3, .refl _, none, 0, by rw [h0], by omega, fun _ => ⟨h0, rfl⟩, _, get_last, Nat.le_refl _, fun _ => .inl ⟨g1, rfl⟩⟩
    · obtain ⟨ncap, c, g1, g2, g3, g4⟩ := grow none 0 0 [] rfl rfl (by omega) (run_firstCells_none _ _ _ _ _) (by simp)
      rw [Nat.zero_add] at g1 g2 g4
      refine ⟨_, _, g2, ?_⟩
      have := newobj (cs := srcC (P.cellsOf e) H x) g1 (by omega) g3 (by rw [← hrl, r3, g4, List.nil_append]; exact r2)
      exact this
  | row id off n L =>
    obtain ⟨k1, k2, k3, k4, k5, k6⟩ := hi4
    subst k5
    obtain ⟨base, cap, rfl, q1, q2, o, q3, q4, q5⟩ := hsR
    have q3' : H[id]? = some o := q3
    have ho : obj H id = o := obj_eq q3'
    have hL : L = o.cs.length := by rw [← ho]; exact k2
    by_cases h0 : srcN x = 0
    · refine ⟨_, _, nothing base n cap rfl q1 h0, ?_⟩
      have e0 := src0 h0
      show PostV φ H w (.row id 0 (n + srcN x) (L + (srcC (P.cellsOf e) H x).length)) (setO H id ((obj H id).cs ++ srcC (P.cellsOf e) H x)) _ _
      rw [h0, e0, List.append_nil, setO_same k1]
      exact post_same hs ⟨base, cap, rfl, q1, q2, o, q3, q4, q5⟩
    · have olds : ∃ ol, (Builtin.firstCells it.size n (.slice base n cap)).run P w.drew = .ok ol.toArray w.drew ∧ ol.length = n * P.cellsOf e ∧ RL (cx φ H w) o.cs ol := by
        have hnz : ∀ hn0 : n = 0, o.cs = [] := fun hn0 => List.eq_nil_of_length_eq_zero (by rw [← hL, ← k6, hn0, Nat.zero_mul])
        cases base with
        | none =>
          have hn0 := (q2 rfl).1
          exact ⟨[], run_firstCells_none _ _ _ _ _, by simp [hn0], by rw [hnz hn0]; rfl⟩
        | some ad =>
          rcases q5 hL with ⟨_, h⟩ | ⟨bb, h2, h3, h4, h5⟩
          · cases h
          · by_cases hn0 : n = 0
            · refine ⟨[], run_firstCells_some _ _ _ ad n cap [] (by simp [hn0]) (by simp), by simp [hn0], by rw [hnz hn0]; rfl⟩
            · rcases h4 with h4 | h4
              · cases h4
                obtain ⟨ul, u1, u2⟩ := obj_range hs (off := 0) (k := n * P.cellsOf e) k1 h2 (by omega)
                have hul : ul.length = n * P.cellsOf e := by rw [u1.length, List.length_take, List.length_drop]; omega
                refine ⟨ul, run_firstCells_some _ _ _ _ n cap ul (by rw [hsz]; exact hul) (fun j u hj => by rw [addr_add]; have := u2 j u hj; simpa using this), hul, ?_⟩
                rw [List.drop_zero, List.take_of_length_le (by omega), ho] at u1
                exact u1
              · omega
      obtain ⟨ol, ol1, ol2, ol3⟩ := olds
      by_cases hroom : n + srcN x ≤ cap
      · -- in place
        rcases q5 hL with ⟨_, rfl⟩ | ⟨bb, h2, h3, h4, h5⟩
        · have := (q2 rfl).2; omega
        · rcases h4 with rfl | h4
          · obtain ⟨c, e', fr, c1, c2, c3, c4⟩ := obj_cells hs k1 h2
            have hbs : blockSize (cx φ H w) bb = c.size := by
              unfold blockSize
              have : (cx φ H w).h[bb]? = some (.cells c e' fr) := c1
              rw [this]
            have h5' := h5 (by rw [← ho, k4]; omega)
            rw [hbs, ← ho, k4, Nat.zero_add] at h5'
            have hfit : n * P.cellsOf e + us.length ≤ c.size := by
              rw [r3, ← Nat.add_mul]
              exact Nat.le_trans (Nat.mul_le_mul_right _ hroom) h5'
            obtain ⟨g1, g2, g3, g4⟩ := heap_setCells us bb (n * P.cellsOf e) w c1
            have hrun := run_append_room_src (P := P) w t tx ty e it hu hi bb 0 n cap b (srcN x) us r1 hroom
              (fun j hj => by rw [cell_at c1, hsz]; simp; omega)
              (fun j hj => by
                have := c2 (0 + n * it.size + j) (by rw [hsz]; omega)
                simp only [World.frozen?, c1]
                obtain ⟨lo, hi⟩ := fr
                simp only at this ⊢
                simp; omega)
            rw [hsz, Nat.zero_add] at hrun
            refine ⟨_, _, hrun, ?_⟩
            have hcl : ((obj H id).cs ++ srcC (P.cellsOf e) H x).length = (n + srcN x) * P.cellsOf e := by rw [List.length_append, ← k2, ← k6, ← hrl, r3, Nat.add_mul]
            have key := step_upd (S := cx φ H w) hs (id := id) (b := bb) (o := obj H id) (cs' := (obj H id).cs ++ srcC (P.cellsOf e) H x) (c := c) (c' := setAll c (n * P.cellsOf e) us) (e := e') (fr := fr) (h' := (w.setCells bb (n * P.cellsOf e) us).heap)
              (obj_get k1) k3 h2 c1 g3 g2 g1 (setAll_size _ _ _) (by simp) (fun hz => absurd hz (by rw [k4]; exact hc)) (by rw [hcl, setAll_size, Nat.add_mul, ← r3]; exact hfit) ?_
            · show PostV φ H w (.row id 0 (n + srcN x) (L + (srcC (P.cellsOf e) H x).length)) (setO H id ((obj H id).cs ++ srcC (P.cellsOf e) H x)) _ _
              refine ⟨φ, key.1, key.2, g4, _, cap, rfl, hroom, (fun h => by cases h), _, (show (setO H id ((obj H id).cs ++ srcC (P.cellsOf e) H x))[id]? = some _ from by unfold setO; rw [List.getElem?_set_self k1]), by dsimp only; rw [List.length_append]; omega, fun _ => .inr ⟨bb, h2, by simp, .inl rfl, fun _ => ?_⟩⟩
              have : blockSize (cx φ (setO H id ((obj H id).cs ++ srcC (P.cellsOf e) H x)) (w.setCells bb (n * P.cellsOf e) us)) bb = c.size := by
                unfold blockSize
                have : (cx φ (setO H id ((obj H id).cs ++ srcC (P.cellsOf e) H x)) (w.setCells bb (n * P.cellsOf e) us)).h[bb]? = some (.cells (setAll c (n * P.cellsOf e) us) e' fr) := g1
                rw [this]; exact setAll_size _ _ _
              rw [this, Nat.zero_add]
              dsimp only
              rw [k4]; exact h5'
            · refine RL.of (by have hss := setAll_size us (n * P.cellsOf e) c; have hst : (setAll c (n * P.cellsOf e) us).toList.length = c.size := by rw [← hss]; exact Array.length_toList
                               rw [List.length_take, hst, hcl, Nat.add_mul, ← r3]; omega) fun j y u m1 m2 => ?_
              have hj := lt_of_some m1
              rw [List.getElem?_take, if_pos hj, Array.getElem?_toList, setAll_get _ _ _ _ (by omega)] at m2
              rw [hcl, Nat.add_mul, ← r3] at hj
              rw [List.getElem?_append, ← k2, ← k6] at m1
              by_cases hjn : j < n * P.cellsOf e
              · rw [if_pos hjn] at m1
                rw [if_neg (by omega)] at m2
                obtain ⟨vv, v1, v2⟩ := c4.get m1
                rw [List.getElem?_take, if_pos (by omega)] at v1
                have e1 : c[j]? = some vv := by simpa using v1
                have e2 : some vv = some u := e1.symm.trans m2
                cases e2; exact v2
              · rw [if_neg hjn] at m1
                rw [if_pos (by omega)] at m2
                obtain ⟨vv, v1, v2⟩ := r2.get m1
                have e2 : some vv = some u := v1.symm.trans m2
                cases e2; exact v2
          · omega
      · -- a new block
        obtain ⟨ncap, c, g1, g2, g3, g4⟩ := grow base n cap ol rfl rfl (by omega) ol1 ol2
        refine ⟨_, _, g2, ?_⟩
        have hcl : ((obj H id).cs ++ srcC (P.cellsOf e) H x).length = (n + srcN x) * P.cellsOf e := by rw [List.length_append, ← k2, ← k6, ← hrl, r3, Nat.add_mul]
        obtain ⟨φ', f1, f2, f3⟩ := step_move (S := cx φ H w) hs (id := id) (o := obj H id) (cs' := (obj H id).cs ++ srcC (P.cellsOf e) H x) (c' := c) (e := e) (obj_get k1) k3
          (by rw [List.length_append, ← hrl, r3]; have : 0 < srcN x * P.cellsOf e := Nat.mul_pos (by omega) (by omega); omega) (by rw [k4]; omega) (by rw [hcl, g3]; exact Nat.mul_le_mul_right _ g1)
          (by rw [hcl, g4, ho]; exact ol3.append r2)
        show PostV φ H w (.row id 0 (n + srcN x) (L + (srcC (P.cellsOf e) H x).length)) (setO H id ((obj H id).cs ++ srcC (P.cellsOf e) H x)) _ _
        refine ⟨φ', f2, f3, ⟨rfl, rfl, rfl⟩, _, ncap, rfl, g1, (fun h => by cases h), _, (show (setO H id ((obj H id).cs ++ srcC (P.cellsOf e) H x))[id]? = some _ from by unfold setO; rw [List.getElem?_set_self k1]), by dsimp only; rw [List.length_append]; omega, fun _ => .inr ⟨w.heap.size, f1, by simp, .inl rfl, fun _ => ?_⟩⟩
        have : blockSize (cx φ' (setO H id ((obj H id).cs ++ srcC (P.cellsOf e) H x)) (w.drew.alloc (.cells c e))) w.heap.size = c.size := by
          unfold blockSize
          have : (cx φ' (setO H id ((obj H id).cs ++ srcC (P.cellsOf e) H x)) (w.drew.alloc (.cells c e))).h[w.heap.size]? = some (.cells c e) := by
            show (w.heap.push (.cells c e))[w.heap.size]? = _
            simp
          rw [this]
        rw [this, Nat.zero_add]
        dsimp only
        rw [k4, g3]; exact Nat.le_refl _
  | view cs n full =>
    obtain ⟨k1, k2, k3⟩ := hi4
    obtain ⟨base, cap, rfl, q1, q2, q3, q4, q5⟩ := hsR
    have hcap := q3 k1
    subst hcap
    by_cases h0 : srcN x = 0
    · refine ⟨_, _, nothing base cap cap rfl (Nat.le_refl _) h0, ?_⟩
      show PostV φ H w (.view (cs ++ srcC (P.cellsOf e) H x) (cap + srcN x) false) H _ _
      rw [h0, src0 h0, List.append_nil]
      exact post_same hs ⟨base, cap, rfl, Nat.le_refl _, q2, (fun h => by cases h), q4, q5⟩
    · have olds : ∃ ol, (Builtin.firstCells it.size cap (.slice base cap cap)).run P w.drew = .ok ol.toArray w.drew ∧ ol.length = cap * P.cellsOf e ∧ RL (cx φ H w) cs ol := by
        cases base with
        | none =>
          have hn0 := (q2 rfl).1
          have : cs = [] := List.eq_nil_of_length_eq_zero (by rw [k2, hn0, Nat.zero_mul])
          exact ⟨[], run_firstCells_none _ _ _ _ _, by simp [hn0], by rw [this]; rfl⟩
        | some ad =>
          rcases q5 with rfl | ⟨bb, off, ul, u1, u2, u3⟩
          · have hn0 : cap * P.cellsOf e = 0 := by simpa using k2.symm
            exact ⟨[], run_firstCells_some _ _ _ ad cap cap [] (by rw [hsz]; simp [hn0]) (by simp), by simp [hn0], rfl⟩
          · cases u1
            have hul : ul.length = cap * P.cellsOf e := by rw [u3.length]; exact k2
            exact ⟨ul, run_firstCells_some _ _ _ _ cap cap ul (by rw [hsz]; exact hul) (fun j u hj => by rw [addr_add]; have := imm_range u2 rfl j u hj; simpa using this), hul, u3⟩
      obtain ⟨ol, ol1, ol2, ol3⟩ := olds
      obtain ⟨ncap, c, g1, g2, g3, g4⟩ := grow base cap cap ol rfl rfl (by omega) ol1 ol2
      refine ⟨_, _, g2, ?_⟩
      show PostV φ H w (.view (cs ++ srcC (P.cellsOf e) H x) (cap + srcN x) false) H _ _
      refine post_push (o := .cells c e) hs ⟨rfl, rfl, rfl⟩ rfl fun φ' hx hφ => ?_
      subst hφ
      refine R_newview hs (us := ol ++ us) rfl (pureL_append q4 k3) ((ol3.append r2).mono hx) (fun j u hj => ?_) g1 (fun h => by cases h)
      rw [← g4, List.getElem?_take] at hj
      split at hj
      · simpa using hj
      · cases hj
  | _ => exact hi4.elim
/-! ### copy -/
theorem run_firstCells_str (s : ByteArray) (n : Nat) (w : World) : (Builtin.firstCells 1 n (.string s)).run P w = .ok ((byteCells s).take n).toArray w := by
  simp [Builtin.firstCells, byteCells]
  apply Array.ext'
  simp [List.map_take, ByteArray.extract, ByteArray.copySlice]
theorem firstCells_part (hs : St (cx φ H w)) {sz n : Nat} {x : AV} {a : Value} (hx : R (cx φ H w) x a) (hok : srcOk sz H x) (h1 : (srcC sz H x).all AV.one = true) (hn : n ≤ srcN x) :
    ∃ us, (Builtin.lenOf a).run P w = .ok (srcN x) w ∧ (Builtin.firstCells sz n a).run P w = .ok us.toArray w ∧ RL (cx φ H w) ((srcC sz H x).take (n * sz)) us ∧ us.length = n * sz ∧ ∀ u ∈ us, u.oneCell' = true := by
  have hone : ((srcC sz H x).take (n * sz)).all AV.one = true := by
    rw [List.all_eq_true] at h1 ⊢
    exact fun v hv => h1 v (List.mem_of_mem_take hv)
  by_cases hstr : strOk x
  · obtain ⟨s, rfl, rfl⟩ := R_str hx hstr
    have h1 : sz = 1 := hok
    subst h1
    have hr : RL (cx φ H w) ((srcC 1 H (.lit (.string s))).take (n * 1)) ((byteCells s).take n) := by
      rw [Nat.mul_one]
      show RL _ ((bytesOf s).take n) _
      rw [bytesOf_eq]; exact (RL_lits _).take n
    refine ⟨(byteCells s).take n, rfl, run_firstCells_str s n w, hr, ?_, hr.one hone⟩
    have hn' : n ≤ s.size := hn
    rw [List.length_take, byteCells_length]; omega
  · obtain ⟨base, cap, us, rfl, r1, r2, r3, r4⟩ := src_range hs hx hok hstr
    have hle : n * sz ≤ us.length := by rw [r2]; exact Nat.mul_le_mul_right _ hn
    have hl : (us.take (n * sz)).length = n * sz := by rw [List.length_take]; omega
    refine ⟨us.take (n * sz), rfl, ?_, r1.take _, hl, (r1.take _).one hone⟩
    cases base with
    | none =>
      have h0 : n * sz = 0 := by have := r4 rfl; rw [show n = 0 by omega, Nat.zero_mul]
      rw [h0, List.take_zero]
      exact run_firstCells_none _ _ _ _ _
    | some ad =>
      refine run_firstCells_some _ _ _ ad _ _ _ hl fun j u hj => ?_
      rcases r3 with rfl | ⟨b, off, hb, r5⟩
      · simp at hj
      · cases hb; rw [addr_add]; exact range_take r5 _ j u hj
theorem copy_sound (hs : St (cx φ H w)) {dT sT ty e : TypeId} (hu : P.underlying dT = some (.slice e)) (hc : P.cellsOf e ≠ 0) {d x : AV} {a b : Value} (hd : R (cx φ H w) d a) (hx : R (cx φ H w) x b) (hok : copyOk (P.cellsOf e) H d x) :
    ∃ w', (Builtin.copy_ #[dT, sT] ty #[a, b]).run P w = .ok (goInt (copyN d x : Nat)) w' ∧ PostV φ H w (.lit (.int .i64 (copyN d x : Nat))) (copyH (P.cellsOf e) H x d) (goInt (copyN d x : Nat)) w' := by
  obtain ⟨h1, h2, h3⟩ := hok
  obtain ⟨it, hi, hsz⟩ := info_of_cells hc
  cases d with
  | row id off n L =>
    obtain ⟨k1, k2, k3, k4⟩ := h3
    obtain ⟨base, cap, rfl, q1, q2, o, q3, q4, q5⟩ := hd
    have q3' : H[id]? = some o := q3
    have ho : obj H id = o := obj_eq q3'
    have hN : copyN (.row id off n L) x = min (srcN x) n := rfl
    obtain ⟨us, r0, r1, r2, r3, r4⟩ := firstCells_part (P := P) hs (n := min (srcN x) n) hx h1 h2 (Nat.min_le_left _ _)
    have hrun : ∀ {w'}, (match base with | some a => storeCells a us | none => pure () : Sem Unit).run P w = .ok () w' → (Builtin.copy_ #[dT, sT] ty #[.slice base n cap, b]).run P w = .ok (goInt (min (srcN x) n : Nat)) w' := by
      intro w' hw
      have e : Nat.min (srcN x) n = min (srcN x) n := rfl
      cases base with
      | none =>
        cases hw
        simp [Builtin.copy_, run_underlying hu, r0, sizeOf, typeInfo, hi, hsz, e, r1]
      | some ad =>
        simp [Builtin.copy_, run_underlying hu, r0, sizeOf, typeInfo, hi, hsz, e, r1, hw]
    rw [hN]
    show ∃ w', _ ∧ PostV φ H w (.lit (.int .i64 (min (srcN x) n : Nat))) (setO H id (splice (obj H id).cs off ((srcC (P.cellsOf e) H x).take (min (srcN x) n * P.cellsOf e)))) _ _
    have empty : us = [] → setO H id (splice (obj H id).cs off ((srcC (P.cellsOf e) H x).take (min (srcN x) n * P.cellsOf e))) = H := by
      intro hus
      subst hus
      have : (srcC (P.cellsOf e) H x).take (min (srcN x) n * P.cellsOf e) = [] := by rw [← r3]; simp
      rw [this]
      have e2 : splice (obj H id).cs off [] = (obj H id).cs := by simp [splice]
      rw [e2, setO_same k1]
    rcases q5 (by rw [← ho]; exact k2) with ⟨p1, rfl⟩ | ⟨bb, p1, p2, p3, p4⟩
    · have hus : us = [] := List.eq_nil_of_length_eq_zero (by rw [r3, (q2 rfl).1]; simp)
      refine ⟨w, hrun (by rfl), ?_⟩
      rw [empty hus]
      exact post_same hs rfl
    · obtain ⟨ad, rfl⟩ : ∃ ad, base = some ad := by
        cases base with
        | none => exact absurd rfl p2
        | some ad => exact ⟨ad, rfl⟩
      by_cases hus : us = []
      · refine ⟨w, hrun (by subst hus; rfl), ?_⟩
        rw [empty hus]
        exact post_same hs rfl
      · have hn0 : 0 < n := by
          rcases Nat.eq_zero_or_pos n with h | h
          · exact absurd (List.eq_nil_of_length_eq_zero (by rw [r3, h]; simp)) hus
          · exact h
        rcases p3 with p3 | p3
        · cases p3
          have hlen : ((srcC (P.cellsOf e) H x).take (min (srcN x) n * P.cellsOf e)).length = min (srcN x) n * P.cellsOf e := by rw [← r2.length, r3]
          have hle : min (srcN x) n * P.cellsOf e ≤ n * P.cellsOf e := Nat.mul_le_mul_right _ (Nat.min_le_right _ _)
          obtain ⟨m1, m2, m3, m4⟩ := write_sound hs (off := off) k1 k3 p1 (by rw [hlen]; omega) r2
          have hst := run_storeCells_cells (P := P) bb off us 0 w (fun j hj => by simpa using (m1 j hj).1) (fun j hj => by simpa using (m1 j hj).2) r4
          exact ⟨_, hrun (by simpa using hst), φ, m2, m3, m4, rfl⟩
        · omega
  | _ => exact h3.elim
/-! ### len, min, max -/
theorem len_sound {str : Bool} {x : AV} {t : TypeId} (hu : match str with | true => P.underlying t = some .string | false => ∃ e, P.underlying t = some (.slice e)) {ty : TypeId} {a : Value} (hx : R (cx φ H w) x a) (hok : lenOk str x) : (Builtin.len_ #[t] ty #[a]).run P w = .ok (.int .i64 (srcN x)) w := by
  unfold lenOk at hok
  split at hok
  · cases hx
    simp [Builtin.len_, run_underlying hu, goInt, srcN]
  · obtain ⟨e, hu⟩ := hu
    obtain ⟨base, cap, rfl, _⟩ := hx
    simp [Builtin.len_, run_underlying hu, goInt, srcN]
  · obtain ⟨e, hu⟩ := hu
    obtain ⟨base, cap, rfl, _⟩ := hx
    simp [Builtin.len_, run_underlying hu, goInt, srcN]
  · obtain ⟨e, hu⟩ := hu
    cases hx
    simp [Builtin.len_, run_underlying hu, goInt, srcN]
  · exact hok.elim
theorem mn_sound {x y : AV} {a b : Value} (hx : R (cx φ H w) x a) (hy : R (cx φ H w) y b) (h1 : isI x) (h2 : isI y) (ts : Array TypeId) (ty : TypeId) : ∃ u, (Builtin.min_ ts ty #[a, b]).run P w = .ok u w ∧ R (cx φ H w) (mnV x y) u := by
  obtain ⟨k, rfl⟩ := R_int hx h1
  obtain ⟨k', rfl⟩ := R_int hy h2
  refine ⟨.int k (if asI y < asI x then asI y else asI x), by simp [Builtin.min_, Builtin.min2], ?_⟩
  cases x with
  | lit v => cases v <;> first | (cases hx; rfl) | exact h1.elim
  | _ => exact h1.elim
theorem mx_sound {x y : AV} {a b : Value} (hx : R (cx φ H w) x a) (hy : R (cx φ H w) y b) (h1 : isI x) (h2 : isI y) (ts : Array TypeId) (ty : TypeId) : ∃ u, (Builtin.max_ ts ty #[a, b]).run P w = .ok u w ∧ R (cx φ H w) (mxV x y) u := by
  obtain ⟨k, rfl⟩ := R_int hx h1
  obtain ⟨k', rfl⟩ := R_int hy h2
  refine ⟨.int k (if asI x < asI y then asI y else asI x), by simp [Builtin.max_, Builtin.max2], ?_⟩
  cases x with
  | lit v => cases v <;> first | (cases hx; rfl) | exact h1.elim
  | _ => exact h1.elim
end
end Go.Proofs.Ytdgabfeeoplldaa.Eng
