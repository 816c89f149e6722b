/- Operations beside further objects; operations that make an object in a reserved place. -/
import Derived.Test.YtgfploghjpbcaaaEngE
import Derived.Test.YtgfploghjpbcaaaEngC2
namespace Go.Proofs.Ytgfploghjpbcaaa.Eng
open Go
set_option linter.unusedVariables false
set_option linter.unusedSimpArgs false
section
variable {H0 G : AH} {x : AV} {sz k : Nat}
theorem obj_l {p : Nat} (h : p < H0.length) : obj (H0 ++ G) p = obj H0 p := by simp [obj, List.getD_eq_getElem?_getD, List.getElem?_append_left h]
theorem loadOk_app (h : loadOk k H0 x) : loadOk k (H0 ++ G) x ∧ ∀ agg, loadV agg k (H0 ++ G) x = loadV agg k H0 x := by
  cases x with
  | ptr id off =>
    obtain ⟨h1, h2⟩ := h
    refine ⟨⟨by simp; omega, by rw [obj_l h1]; exact h2⟩, fun agg => ?_⟩
    simp only [loadV, obj_l h1]
  | rptr id off L =>
    obtain ⟨h1, h2, h3⟩ := h
    refine ⟨⟨by simp; omega, by rw [obj_l h1]; exact h2, h3⟩, fun agg => ?_⟩
    simp only [loadV, obj_l h1]
  | vptr cs => exact ⟨h, fun _ => rfl⟩
  | _ => exact h.elim
theorem srcOk_app (h : srcOk sz H0 x) : srcOk sz (H0 ++ G) x ∧ srcC sz (H0 ++ G) x = srcC sz H0 x := by
  cases x with
  | row id off n L =>
    obtain ⟨h1, h2, h3⟩ := h
    exact ⟨⟨by simp; omega, by rw [obj_l h1]; exact h2, h3⟩, by simp only [srcC, obj_l h1]⟩
  | lit v =>
    unfold srcOk at h
    split at h <;> first | exact h.elim | skip
    all_goals first | (rename_i heq; cases heq; done) | skip
    all_goals (rename_i heq; cases heq; exact ⟨by first | exact h | trivial, rfl⟩)
  | view cs n f => exact ⟨h, rfl⟩
  | _ => exact h.elim
theorem sliceOk_app {lo hi mx : Option AV} {arr : Option Nat} (h : sliceOk sz H0 lo hi mx arr x) : sliceOk sz (H0 ++ G) lo hi mx arr x ∧ sliceV sz (H0 ++ G) lo hi mx arr x = sliceV sz H0 lo hi mx arr x := by
  cases arr with
  | none =>
    cases x with
    | row id off n L =>
      obtain ⟨h1, h2, h3, h4⟩ := h
      have e := obj_l (G := G) h1
      exact ⟨⟨by simp; omega, by rw [e]; exact h2, by rw [e]; exact h3, by rw [e]; exact h4⟩, rfl⟩
    | lit v =>
      cases v <;> first | exact h.elim | skip
      rename_i b n c
      cases b <;> first | exact h.elim | skip
      cases n <;> first | exact h.elim | skip
      cases c <;> first | exact h.elim | skip
      exact ⟨h, rfl⟩
    | view cs n f => exact ⟨h, rfl⟩
    | _ => exact h.elim
  | some m =>
    cases x with
    | ptr id off =>
      obtain ⟨h1, h2⟩ := h
      exact ⟨⟨by simp; omega, h2⟩, by simp only [sliceV, obj_l h1]⟩
    | vptr cs => exact ⟨h, rfl⟩
    | _ => exact h.elim
theorem markOk_app (h : markOk H0 x) : markOk (H0 ++ G) x := by
  cases x with
  | row id off n L =>
    obtain ⟨h1, h2, h3, h4⟩ := h
    have e := obj_l (G := G) h1
    exact ⟨by simp; omega, by rw [e]; exact h2, by rw [e]; exact h3, h4⟩
  | _ => exact h.elim
theorem side_app {pf : Pf} {cmp : TypeId → Bool} {ρ : IArg → AV} {io : Ins} (hc : io.cls pf ≤ 1) (hs : iside cmp ρ H0 io) : iside cmp ρ (H0 ++ G) io ∧ ival ρ (H0 ++ G) io = ival ρ H0 io := by
  cases io with
  | load agg k x => obtain ⟨h1, h2⟩ := loadOk_app (G := G) hs; exact ⟨h1, h2 agg⟩
  | b2s x =>
    obtain ⟨h1, h2, h3⟩ := hs
    obtain ⟨h4, h5⟩ := srcOk_app (G := G) h2
    exact ⟨⟨h1, h4, by rw [h5]; exact h3⟩, by simp only [ival, b2sV, h5]⟩
  | slice sz arr x lo hi mx =>
    obtain ⟨h1, h2⟩ := hs
    obtain ⟨h3, h4⟩ := sliceOk_app (G := G) h2
    exact ⟨⟨h1, h3⟩, by simp only [ival, h4]⟩
  | mark x => exact ⟨markOk_app hs, rfl⟩
  | appv sz b s x =>
    obtain ⟨h1, h2, h3, h4, h5⟩ := hs
    obtain ⟨g1, g2⟩ := srcOk_app (G := G) h1
    exact ⟨⟨g1, by rw [g2]; exact h2, by rw [g2]; exact h3, h4, h5⟩, by simp only [ival, appvV, g2]⟩
  | s2b own x => cases own <;> first | (simp only [Ins.cls] at hc; omega) | (refine ⟨hs, ?_⟩; simp only [ival]; cases ρ x <;> first | rfl | (rename_i v; cases v <;> rfl))
  | bslice own sz len z ps => cases own <;> first | (simp only [Ins.cls] at hc; omega) | exact ⟨hs, rfl⟩
  | call f ags => exact hs.elim
  | callv x ags => exact hs.elim
  | alloc z => exact ⟨hs, by simp only [Ins.cls] at hc; omega⟩
  | box z => exact ⟨hs, by simp only [Ins.cls] at hc; omega⟩
  | mksl => exact ⟨hs, by simp only [Ins.cls] at hc; omega⟩
  | appz => exact ⟨hs, by simp only [Ins.cls] at hc; omega⟩
  | _ => first | exact ⟨hs, rfl⟩ | (simp only [Ins.cls] at hc; omega)
theorem side_new {cmp : TypeId → Bool} {ρ : IArg → AV} {io : Ins} (hn : newOk ρ io) (hs : iside cmp ρ H0 io) : iside cmp ρ (H0 ++ G) io ∧ (∀ id, aval id ρ (H0 ++ G) io = aval id ρ H0 io) ∧ aobj ρ (H0 ++ G) io = aobj ρ H0 io := by
  cases io with
  | append sz b s x =>
    obtain ⟨h1, h2, h3, h4⟩ := hs
    obtain ⟨g1, g2⟩ := srcOk_app (G := G) h1
    refine ⟨⟨g1, by rw [g2]; exact h2, h3, ?_⟩, fun id => by simp only [aval, g2], by simp only [aobj, g2]⟩
    have hn : nilBase (ρ s) := hn
    have h4 : appBase sz H0 (ρ x) (ρ s) := h4
    show appBase sz (H0 ++ G) (ρ x) (ρ s)
    generalize ρ s = v at *
    cases v with
    | row id off n L => exact hn.elim
    | view cs n f =>
      obtain ⟨k1, k2, k3⟩ := h4
      exact ⟨k1, k2, by rw [g2]; exact k3⟩
    | lit v =>
      obtain rfl : v = .slice none 0 0 := by
        unfold nilBase at hn
        split at hn <;> simp_all
      trivial
    | _ => exact hn.elim
  | alloc z => exact ⟨hs, fun _ => rfl, rfl⟩
  | box z => exact ⟨hs, fun _ => rfl, rfl⟩
  | mksl => exact ⟨hs, fun _ => rfl, rfl⟩
  | bslice => exact ⟨hs, fun _ => rfl, rfl⟩
  | _ => exact hn.elim
end
section
variable {P : Program} {φ : Nat → Option Nat} {H : AH} {w : World}
theorem new_eq {cmp : TypeId → Bool} {ρ : IArg → AV} {io : Ins} (hn : newOk ρ io) (hs : iside cmp ρ H io) : ival ρ H io = aval H.length ρ H io ∧ inext ρ H io = H ++ [aobj ρ H io] := by
  cases io with
  | append sz b s x =>
    have hn : nilBase (ρ s) := hn
    show appV sz H (ρ x) (ρ s) = _ ∧ appH sz H (ρ x) (ρ s) = _
    generalize ρ s = v at *
    unfold nilBase at hn
    split at hn
    · exact ⟨rfl, rfl⟩
    · obtain ⟨rfl, rfl⟩ := hn; exact ⟨rfl, rfl⟩
    · exact hn.elim
  | alloc z => exact ⟨rfl, rfl⟩
  | box z => exact ⟨rfl, rfl⟩
  | mksl => exact ⟨rfl, rfl⟩
  | bslice own =>
    have hn : own = true := hn
    subst hn; exact ⟨rfl, rfl⟩
  | _ => exact hn.elim
theorem RL_ex {S : Cx} : ∀ {l : List AV}, (∀ a ∈ l, ∃ y, R S a y) → ∃ ys, RL S l ys
  | [], _ => ⟨[], rfl⟩
  | a :: r, h => by
    obtain ⟨y, hy⟩ := h a (by simp)
    obtain ⟨ys, hys⟩ := RL_ex (l := r) fun b hb => h b (by simp [hb])
    exact ⟨y :: ys, y, ys, rfl, hy, hys⟩
theorem mem_splice {cs new : List AV} {off : Nat} {a : AV} (h : a ∈ splice cs off new) : a ∈ cs ∨ a ∈ new := by
  unfold splice at h
  split at h
  · rcases List.mem_or_eq_of_mem_set h with h | h
    · exact .inl h
    · exact .inr (by simp [h])
  · rw [List.mem_append, List.mem_append] at h
    rcases h with (h | h) | h
    · exact .inl (List.mem_of_mem_take h)
    · exact .inr h
    · exact .inl (List.mem_of_mem_drop h)
theorem mem_fillv {a : AV} : ∀ {l : List (Nat × AV)} {cs : List AV}, a ∈ fillv cs l → a ∈ cs ∨ ∃ p ∈ l, a ∈ p.2.cells
  | [], cs, h => .inl h
  | (o, v) :: r, cs, h => by
    rcases mem_fillv (l := r) h with h | ⟨p, h1, h2⟩
    · rcases mem_splice h with h | h
      · exact .inl h
      · exact .inr ⟨(o, v), by simp, h⟩
    · exact .inr ⟨p, by simp [h1], h2⟩
theorem fillOk_one {t : Nat} : ∀ {l : List (Nat × Nat × AV)}, fillOk t l → ∀ p ∈ l, p.2.2.cells.all AV.one = true
  | [], _, p, h => by cases h
  | (o, k, v) :: r, h, p, hp => by
    rcases List.mem_cons.1 hp with rfl | hp
    · exact h.1.2.2
    · exact fillOk_one h.2 p hp
theorem cells_ex {S : Cx} {v : AV} (h : ∃ y, R S v y) (h1 : v.cells.all AV.one = true) : ∀ a ∈ v.cells, ∃ y, R S a y := by
  obtain ⟨y, hy⟩ := h
  intro a ha
  obtain ⟨u, _, hu⟩ := (hy.cells h1).1.mem ha
  exact ⟨u, hu⟩
theorem src_ex (hs : St (cx φ H w)) {sz : Nat} {x : AV} (hx : ∃ y, R (cx φ H w) x y) (hok : srcOk sz H x) : ∀ a ∈ srcC sz H x, ∃ y, R (cx φ H w) a y := by
  intro a ha
  obtain ⟨y, hy⟩ := hx
  cases x with
  | view cs n f =>
    obtain ⟨_, _, _, _, _, _, _, h6⟩ := hy
    rcases h6 with h6 | ⟨b, off, us, _, _, h7⟩
    · rw [show srcC sz H (.view cs n f) = cs from rfl, h6] at ha; cases ha
    · obtain ⟨u, _, hu⟩ := h7.mem ha
      exact ⟨u, hu⟩
  | row id off n L =>
    have hid := hok.1
    have ha : a ∈ (obj H id).cs := List.mem_of_mem_drop (List.mem_of_mem_take ha)
    rcases hs.ok id _ (obj_get hid) with ⟨_, g⟩ | ⟨b, c, e, fr, g1, g2, g3, g4, g5⟩
    · have g : (obj H id).cs = [] := g
      rw [g] at ha; cases ha
    · obtain ⟨u, _, hu⟩ := g5.mem ha
      exact ⟨u, hu⟩
  | lit v =>
    cases v <;> try (exact hok.elim)
    · rename_i s
      have ha : a ∈ bytesOf s := ha
      simp only [bytesOf, List.mem_map] at ha
      obtain ⟨b, _, rfl⟩ := ha
      exact ⟨_, rfl⟩
    · rename_i b n c
      have : srcC sz H (.lit (.slice b n c)) = [] := rfl
      rw [this] at ha; cases ha
  | _ => exact hok.elim
theorem aobj_ex (hs : St (cx φ H w)) {cmp : TypeId → Bool} {ρ : IArg → AV} {io : Ins} (hρ : ∀ x, ∃ y, R (cx φ H w) (ρ x) y) (hn : newOk ρ io) (hsd : iside cmp ρ H io) : ∃ ys, RL (cx φ H w) (aobj ρ H io).cs ys := by
  refine RL_ex fun a ha => ?_
  have lits : ∀ {z : List Value}, a ∈ zlit z → ∃ y, R (cx φ H w) a y := by
    intro z h
    simp only [zlit, List.mem_map] at h
    obtain ⟨v, _, rfl⟩ := h
    exact ⟨v, rfl⟩
  have reps : ∀ {z : List Value} {n : Nat}, a ∈ repl n (zlit z) → ∃ y, R (cx φ H w) a y := by
    intro z n h
    simp only [repl, List.mem_flatten] at h
    obtain ⟨l, h1, h2⟩ := h
    rw [List.eq_of_mem_replicate h1] at h2
    exact lits h2
  cases io with
  | append sz b s x => exact src_ex hs (hρ x) hsd.1 a ha
  | alloc z => exact lits ha
  | box x => exact cells_ex (hρ x) hsd.2 a ha
  | mksl => exact reps ha
  | bslice own sz len z ps =>
    rcases mem_fillv ha with h | ⟨p, h1, h2⟩
    · exact reps h
    · obtain ⟨q, hq, rfl⟩ := List.mem_map.1 h1
      exact cells_ex (hρ q.2.2) (fillOk_one hsd.1 (q.1, q.2.1, ρ q.2.2) (List.mem_map.2 ⟨q, hq, rfl⟩)) a h2
  | _ => exact hn.elim
theorem sat_mono {K K' : Value → World → Prop} {r : Result Next} (h : Sat P K r) (hk : ∀ y w', K y w' → K' y w') : Sat P K' r := by
  unfold Sat at *
  split at h
  · exact hk _ _ h
  · exact hk _ _ h
  · exact Calls.mono h fun e w'' ⟨y, he, hj⟩ => ⟨y, he, hk _ _ hj⟩
  · exact h.elim
/-- An object is made in a reserved place. -/
theorem new_sound (hs : St (cx φ H w)) {cmp : TypeId → Bool} (hcmp : ∀ t, cmp t = true → cmpT P t = true) {own : Nat → Bool} {o : Oper} {io : Ins} (h : op? P own o = some io) {ρ : IArg → AV} {η : Operand → Value} (hρ : ∀ x y, arg? x = some y → R (cx φ H w) (ρ y) (η x))
    (hη : (∀ f, η (.func f) = .func (.func f) #[] #[]) ∧ ∀ v, η (.const v) = v) (hρ2 : ∀ x, ∃ y, R (cx φ H w) (ρ x) y) (hn : newOk ρ io) (hok : iside cmp ρ H io) {d : Nat} {D : AObj} (hd : H[d]? = some D) (hD : isD D) :
    Sat P (PostV φ H w (aval d ρ H io) (H.set d (aobj ρ H io))) ((execOp η o).run P w) := by
  have h1 := op_sound (P := P) hs hcmp h hρ hη hok
  obtain ⟨e1, e2⟩ := new_eq hn hok
  rw [e1, e2] at h1
  refine sat_mono h1 ?_
  rintro y w' ⟨φ1, s1, s2, s3, s4⟩
  obtain ⟨g1, g2⟩ := mov_st hs hd hD (aobj_ex hs hρ2 hn hok) s1 s2
  refine ⟨_, g1, g2, s3, ?_⟩
  cases io with
  | append sz b s x => exact mov_row hd s4
  | alloc z => exact mov_ptr hd s4
  | box x => exact mov_ptr hd s4
  | mksl => exact mov_row hd s4
  | bslice own sz len z ps => exact mov_row hd s4
  | _ => exact hn.elim
/-- The reserved places. -/
theorem reserve (hs : St (cx φ H w)) (n : Nat) : ∃ φ', St (cx φ' (H ++ List.replicate n dumO) w) ∧ Ext (cx φ H w) (cx φ' (H ++ List.replicate n dumO) w) := by
  let φ' : Nat → Option Nat := fun i => if i < H.length then φ i else none
  have hx : Ext (cx φ H w) (cx φ' (H ++ List.replicate n dumO) w) := by
    refine ⟨Nat.le_refl _, fun _ _ _ => rfl, fun b c e fr h => ⟨c, fr, h, rfl⟩, fun i o hi => ⟨o, ?_, .inr ⟨rfl, Nat.le_refl _, fun _ => rfl, fun h => h, fun _ => rfl, fun _ => ?_⟩⟩, fun i b hi hp hb => ?_⟩
    · show (H ++ _)[i]? = _
      have hi : H[i]? = some o := hi
      rw [List.getElem?_append_left (lt_of_some hi)]; exact hi
    · have hi : H[i]? = some o := hi
      show (if i < H.length then φ i else none) = _
      rw [if_pos (lt_of_some hi)]; rfl
    · have hp : (if i < H.length then φ i else none) = some b := hp
      split at hp
      · exact ⟨by assumption, hp⟩
      · cases hp
  refine ⟨φ', ⟨fun i o hi => ?_, fun i j b hi hj h1 h2 => ?_⟩, hx⟩
  · have hi : (H ++ List.replicate n dumO)[i]? = some o := hi
    by_cases hlt : i < H.length
    · rw [List.getElem?_append_left hlt] at hi
      have e : (cx φ' (H ++ List.replicate n dumO) w).φ i = φ i := if_pos hlt
      rcases hs.ok i o hi with ⟨g1, g2⟩ | ⟨b, c, ee, fr, g1, g2, g3, g4, g5⟩
      · exact .inl ⟨by rw [e]; exact g1, g2⟩
      · exact .inr ⟨b, c, ee, fr, by rw [e]; exact g1, g2, g3, g4, g5.mono hx⟩
    · rw [List.getElem?_append_right (by omega), List.getElem?_replicate] at hi
      split at hi
      · cases hi; exact .inl ⟨if_neg hlt, rfl⟩
      · cases hi
  · have h1 : (if i < H.length then φ i else none) = some b := h1
    have h2 : (if j < H.length then φ j else none) = some b := h2
    split at h1
    · split at h2
      · exact hs.inj i j b (by assumption) (by assumption) h1 h2
      · cases h2
    · cases h1
end
end Go.Proofs.Ytgfploghjpbcaaa.Eng
