/- Functions: what a call of one comes to. -/
import Derived.Test.YtgfploghjpbcaaaEngJ
namespace Go.Proofs.Ytgfploghjpbcaaa.Eng
open Go
set_option linter.unusedVariables false
set_option linter.unusedSimpArgs false

/-! ### Results -/
inductive IRes where
  | t (n : Nat)
  | c (n : Nat) (agg : Bool) (k : Nat)
def res? (P : Program) : ResultVar → Option IRes
  | .tmp t => some (.t t)
  | .cell a t => if P.cellsOf t = 0 || (P.underlying t).isNone then none else some (.c a (isAggT P t) (P.cellsOf t))
def resOk (E : Env) (H : AH) : List IRes → Prop
  | [] => True
  | .t _ :: r => resOk E H r
  | .c n _ k :: r => loadOk k H (E n) ∧ resOk E H r
def resV (E : Env) (H : AH) : IRes → AV
  | .t n => E n
  | .c n agg k => loadV agg k H (E n)
def resVal : List AV → AV
  | [v] => v
  | vs => .tup vs
section
variable {P : Program} {C : CallRel} {φ : Nat → Option Nat} {H : AH} {w : World}
theorem res_one (hs : St (cx φ H w)) {E : Env} {tmps : Array Value} (hR : ∀ i, R (cx φ H w) (E i) (tmps.getD i undef)) {r : ResultVar} {i : IRes} (hr : res? P r = some i) (hok : resOk E H [i]) :
    ∃ y, ((match r with | .tmp t => pure (tmps.getD t undef) | .cell a t => do loadVar t (← asAddr (tmps.getD a undef)) : Sem Value)).run P w = .ok y w ∧ R (cx φ H w) (resV E H i) y := by
  cases r with
  | tmp t => cases hr; exact ⟨_, rfl, hR t⟩
  | cell a t =>
    simp only [res?] at hr
    split at hr
    · cases hr
    · rename_i hc
      cases hr
      simp only [Bool.or_eq_true, decide_eq_true_eq, not_or, Bool.not_eq_true] at hc
      have hx := hR a
      obtain ⟨u, h1, h2⟩ := load_sound (P := P) hs hc.1 hc.2 hx hok.1
      refine ⟨u, ?_, h2⟩
      have hp : ∃ ad, tmps.getD a undef = .pointer (some ad) := by
        have h3 := hok.1
        generalize E a = v at *
        cases v with
        | ptr id off => obtain ⟨_, _, _, _, _, e⟩ := hx; exact ⟨_, e⟩
        | rptr id off L => obtain ⟨_, e, _⟩ := hx; exact ⟨_, e⟩
        | vptr cs => obtain ⟨_, _, _, e, _⟩ := hx; exact ⟨_, e⟩
        | _ => exact h3.elim
      obtain ⟨ad, e⟩ := hp
      rw [e] at h1
      show (do loadVar t (← asAddr (tmps.getD a undef)) : Sem Value).run P w = _
      rw [e]
      exact h1
theorem res_list (hs : St (cx φ H w)) {E : Env} {tmps : Array Value} (hR : ∀ i, R (cx φ H w) (E i) (tmps.getD i undef)) : ∀ {rs : List ResultVar} {is : List IRes}, rs.mapM (res? P) = some is → resOk E H is →
    ∃ ys, (rs.mapM (fun r => (match r with | .tmp t => pure (tmps.getD t undef) | .cell a t => do loadVar t (← asAddr (tmps.getD a undef)) : Sem Value))).run P w = .ok ys w ∧ RL (cx φ H w) (is.map (resV E H)) ys
  | [], is, h, hok => by simp at h; subst h; exact ⟨[], rfl, rfl⟩
  | r :: rs, is, h, hok => by
    simp only [List.mapM_cons, Option.bind_eq_bind, Option.pure_def] at h
    have h9 := bind_some' h; clear h; obtain ⟨i, h1, h⟩ := h9
    have h9 := bind_some' h; clear h; obtain ⟨is', h2, h⟩ := h9
    cases h
    have ho : resOk E H [i] ∧ resOk E H is' := by
      cases i with
      | t n => exact ⟨trivial, hok⟩
      | c n agg k => exact ⟨⟨hok.1, trivial⟩, hok.2⟩
    obtain ⟨y, g1, g2⟩ := res_one (P := P) hs hR h1 ho.1
    obtain ⟨ys, g3, g4⟩ := res_list hs hR h2 ho.2
    refine ⟨y :: ys, ?_, ⟨y, ys, rfl, g2, g4⟩⟩
    rw [List.mapM_cons, Sem.run_bind, g1]
    simp only [Result.andThen_ok, Sem.run_bind, g3, Sem.run_pure]
theorem results_sound (hs : St (cx φ H w)) {E : Env} {tmps : Array Value} (hR : ∀ i, R (cx φ H w) (E i) (tmps.getD i undef)) {fn : Func} {is : List IRes} (h : fn.results.toList.mapM (res? P) = some is) (hok : resOk E H is) :
    ∃ y, (results fn tmps).run P w = .ok y w ∧ R (cx φ H w) (resVal (is.map (resV E H))) y := by
  obtain ⟨ys, h1, h2⟩ := res_list (P := P) hs hR h hok
  have hl := h2.length
  refine ⟨if h : ys.toArray.size = 1 then ys.toArray[0] else .tuple ys.toArray, ?_, ?_⟩
  · unfold results
    rw [Array.mapM_eq_mapM_toList]
    simp only [bind_map_left, Sem.run_bind]
    refine Eq.trans (congrArg (fun r => Result.andThen r _) h1) ?_
    simp only [Result.andThen_ok, Sem.run_pure]
  · generalize hvs : is.map (resV E H) = vs at *
    match vs, ys, h2, hl with
    | [], _, h2, hl => cases h2; exact ⟨#[], rfl, rfl⟩
    | [v], [y], h2, hl => obtain ⟨u, t, e, g1, g2⟩ := h2; cases e; exact g1
    | v :: v' :: vs, y :: y' :: ys, h2, hl =>
      refine ⟨(y :: y' :: ys).toArray, ?_, h2⟩
      rw [dif_neg (by simp)]
end
/-! ### What stays behind a function -/
def rowView (H2 : AH) (id off n L : Nat) : AV :=
  let o := obj H2 id
  let sz := if o.sz = 0 then 1 else o.sz
  if L = o.cs.length ∧ off + n * sz ≤ L ∧ pureL ((o.cs.drop off).take (n * sz)) = true then .view ((o.cs.drop off).take (n * sz)) n false else .junk
mutual
def low (ren : Nat → Option Nat) (H2 : AH) : AV → AV
  | .lit v => .lit v
  | .ptr id off => match ren id with | some j => .ptr j off | none => .junk
  | .rptr id off L => match ren id with | some j => .rptr j off L | none => .junk
  | .vptr cs => .vptr cs
  | .row id off n L => match ren id with | some j => .row j off n L | none => rowView H2 id off n L
  | .view cs n full => .view cs n full
  | .fn f a b => .fn f (lowL ren H2 a) (lowL ren H2 b)
  | .agg cs => .agg (lowL ren H2 cs)
  | .tup cs => .tup (lowL ren H2 cs)
  | .may g v => .may g (bif g then low ren H2 v else v)
  | .anyb => .anyb
  | .junk => .junk
def lowL (ren : Nat → Option Nat) (H2 : AH) : List AV → List AV
  | [] => []
  | a :: r => low ren H2 a :: lowL ren H2 r
end
theorem lowL_length (ren : Nat → Option Nat) (H2 : AH) : ∀ l : List AV, (lowL ren H2 l).length = l.length
  | [] => rfl
  | a :: r => by rw [lowL, List.length_cons, List.length_cons, lowL_length ren H2 r]
mutual
theorem low_id {S : Cx} {ren : Nat → Option Nat} {H2 : AH} (hren : ∀ i, i < S.H.length → ren i = some i) : ∀ (v : AV) {y : Value}, R S v y → low ren H2 v = v
  | .lit v, y, h => rfl
  | .ptr id off, y, h => by obtain ⟨o, b, h1, _⟩ := h; simp only [low, hren id (lt_of_some h1)]
  | .rptr id off L, y, h => by obtain ⟨a, _, o, h1, _⟩ := h; simp only [low, hren id (lt_of_some h1)]
  | .vptr cs, y, h => rfl
  | .row id off n L, y, h => by obtain ⟨a, cap, _, _, _, o, h1, _⟩ := h; simp only [low, hren id (lt_of_some h1)]
  | .view cs n full, y, h => rfl
  | .fn f a b, y, h => by obtain ⟨fs, cps, _, h1, h2⟩ := h; rw [low, lowL_id hren a h1, lowL_id hren b h2]
  | .agg cs, y, h => by obtain ⟨vs, _, h1⟩ := h; rw [low, lowL_id hren cs h1]
  | .tup cs, y, h => by obtain ⟨vs, _, h1⟩ := h; rw [low, lowL_id hren cs h1]
  | .may g v, y, h => by
    cases g with
    | false => rfl
    | true => simp only [low, cond_true]; rw [low_id hren v (h.1 rfl)]
  | .anyb, y, h => rfl
  | .junk, y, h => rfl
theorem lowL_id {S : Cx} {ren : Nat → Option Nat} {H2 : AH} (hren : ∀ i, i < S.H.length → ren i = some i) : ∀ (l : List AV) {ys : List Value}, RL S l ys → lowL ren H2 l = l
  | [], ys, h => rfl
  | a :: r, ys, h => by
    obtain ⟨u, t, _, h1, h2⟩ := h
    rw [lowL, low_id hren a h1, lowL_id hren r h2]
end
mutual
theorem R_pure {S S' : Cx} (hi : ∀ b off us, Imm S b off us → Imm S' b off us) : ∀ (v : AV) {y : Value}, v.pure = true → R S v y → R S' v y
  | .lit v, y, _, h => h
  | .view cs n full, y, hp, h => by
    obtain ⟨a, cap, h1, h2, h3, h4, h5, h6⟩ := h
    refine ⟨a, cap, h1, h2, h3, h4, h5, ?_⟩
    rcases h6 with h6 | ⟨b, off, us, g1, g2, g3⟩
    · exact .inl h6
    · exact .inr ⟨b, off, us, g1, hi _ _ _ g2, RL_pure hi cs h5 g3⟩
  | .fn f a b, y, hp, h => by
    simp only [AV.pure, Bool.and_eq_true] at hp
    obtain ⟨fs, cps, h1, h2, h3⟩ := h
    exact ⟨fs, cps, h1, RL_pure hi a hp.1 h2, RL_pure hi b hp.2 h3⟩
  | .agg cs, y, hp, h => by obtain ⟨vs, h1, h2⟩ := h; exact ⟨vs, h1, RL_pure hi cs hp h2⟩
  | .tup cs, y, hp, h => by obtain ⟨vs, h1, h2⟩ := h; exact ⟨vs, h1, RL_pure hi cs hp h2⟩
  | .ptr .., y, hp, h | .rptr .., y, hp, h | .vptr .., y, hp, h | .row .., y, hp, h | .may .., y, hp, h | .anyb, y, hp, h | .junk, y, hp, h => by cases hp
theorem RL_pure {S S' : Cx} (hi : ∀ b off us, Imm S b off us → Imm S' b off us) : ∀ (l : List AV) {ys : List Value}, pureL l = true → RL S l ys → RL S' l ys
  | [], ys, _, h => h
  | a :: r, ys, hp, h => by
    simp only [pureL, Bool.and_eq_true] at hp
    obtain ⟨u, t, h1, h2, h3⟩ := h
    exact ⟨u, t, h1, R_pure hi a hp.1 h2, RL_pure hi r hp.2 h3⟩
end
section
variable {φ φ' : Nat → Option Nat} {H2 H' : AH} {w : World} {ren : Nat → Option Nat}
structure Lows (φ φ' : Nat → Option Nat) (H2 H' : AH) (w : World) (ren : Nat → Option Nat) : Prop where
  st : St (cx φ H2 w)
  imm : ∀ b off us, Imm (cx φ H2 w) b off us → Imm (cx φ' H' w) b off us
  here : ∀ id j, ren id = some j → ∀ o, H2[id]? = some o → ∃ o', H'[j]? = some o' ∧ o'.sz = o.sz ∧ o'.cs.length = o.cs.length ∧ φ' j = φ id
  gone : ∀ id, ren id = none → ∀ b, id < H2.length → φ id = some b → ¬ Wr (cx φ' H' w) b
theorem blockSize_w {b : Nat} : blockSize (cx φ H2 w) b = blockSize (cx φ' H' w) b := rfl
mutual
theorem low_R (h : Lows φ φ' H2 H' w ren) : ∀ (v : AV) {y : Value}, R (cx φ H2 w) v y → R (cx φ' H' w) (low ren H2 v) y
  | .lit v, y, hr => hr
  | .ptr id off, y, hr => by
    obtain ⟨o, b, h1, h2, h3, h4⟩ := hr
    simp only [low]
    cases hj : ren id with
    | none => trivial
    | some j =>
      obtain ⟨o', g1, g2, g3, g4⟩ := h.here id j hj o h1
      exact ⟨o', b, g1, by rw [g2]; exact h2, by show φ' j = _; rw [g4]; exact h3, h4⟩
  | .rptr id off L, y, hr => by
    obtain ⟨a, h1, o, h2, h3, h4⟩ := hr
    simp only [low]
    cases hj : ren id with
    | none => trivial
    | some j =>
      obtain ⟨o', g1, g2, g3, g4⟩ := h.here id j hj o h2
      refine ⟨a, h1, o', g1, by rw [g3]; exact h3, fun hL => ?_⟩
      obtain ⟨b, h5, h6⟩ := h4 (by rw [← g3]; exact hL)
      exact ⟨b, by show φ' j = _; rw [g4]; exact h5, h6⟩
  | .vptr cs, y, hr => by
    obtain ⟨b, off, us, h1, h2, h3, h4⟩ := hr
    exact ⟨b, off, us, h1, h.imm _ _ _ h2, h3, RL_pure h.imm cs h3 h4⟩
  | .row id off n L, y, hr => by
    obtain ⟨a, cap, h1, h2, h2', o, h3, h4, h5⟩ := hr
    have h3 : H2[id]? = some o := h3
    simp only [low]
    cases hj : ren id with
    | some j =>
      obtain ⟨o', g1, g2, g3, g4⟩ := h.here id j hj o h3
      refine ⟨a, cap, h1, h2, h2', o', g1, by rw [g3]; exact h4, fun hL => ?_⟩
      have e : (cx φ' H' w).φ j = (cx φ H2 w).φ id := g4
      rw [e, g2]
      exact h5 (by rw [← g3]; exact hL)
    | none =>
      simp only [rowView, obj_eq h3]
      generalize (if o.sz = 0 then 1 else o.sz) = sz
      split
      · rename_i hc
        obtain ⟨c1, c2, c3⟩ := hc
        refine ⟨a, cap, h1, h2, h2', (fun hh => by cases hh), c3, ?_⟩
        rcases h5 c1 with ⟨h6, h7, _⟩ | ⟨b, h6, h7, h8, _⟩
        · have : n = 0 := Nat.le_zero.1 (h7 ▸ h2)
          subst this
          left; simp
        · rcases h8 with h8 | h8
          · right
            have hid := lt_of_some h3
            obtain ⟨c, e, fr, k1, k2, k3, k4⟩ := obj_cells h.st hid h6
            rw [obj_eq h3] at k3 k4
            generalize hk : n * sz = m at *
            refine ⟨b, off, ((c.toList.take o.cs.length).drop off).take m, h8, ⟨⟨c, e, fr, k1, fun j u hju => ?_⟩, h.gone id hj b hid h6⟩, RL_pure h.imm _ c3 ((k4.drop off).take m)⟩
            rw [List.getElem?_take] at hju
            split at hju
            · rw [List.getElem?_drop, List.getElem?_take] at hju
              split at hju
              · simpa using hju
              · cases hju
            · cases hju
          · have : n = 0 := by omega
            subst this
            left; simp
      · trivial
  | .view cs n full, y, hr => by
    obtain ⟨a, cap, h1, h2, h3, h4, h5, h6⟩ := hr
    refine ⟨a, cap, h1, h2, h3, h4, h5, ?_⟩
    rcases h6 with h6 | ⟨b, off, us, g1, g2, g3⟩
    · exact .inl h6
    · exact .inr ⟨b, off, us, g1, h.imm _ _ _ g2, RL_pure h.imm cs h5 g3⟩
  | .fn f a b, y, hr => by
    obtain ⟨fs, cps, h1, h2, h3⟩ := hr
    exact ⟨fs, cps, h1, lowL_R h a h2, lowL_R h b h3⟩
  | .agg cs, y, hr => by obtain ⟨vs, h1, h2⟩ := hr; exact ⟨vs, h1, lowL_R h cs h2⟩
  | .tup cs, y, hr => by obtain ⟨vs, h1, h2⟩ := hr; exact ⟨vs, h1, lowL_R h cs h2⟩
  | .may g v, y, hr => by
    cases g with
    | false => exact ⟨(fun hh => by cases hh), hr.2⟩
    | true => exact ⟨fun hh => low_R h v (hr.1 hh), fun hh => by cases hh⟩
  | .anyb, y, hr => hr
  | .junk, y, hr => trivial
theorem lowL_R (h : Lows φ φ' H2 H' w ren) : ∀ (l : List AV) {ys : List Value}, RL (cx φ H2 w) l ys → RL (cx φ' H' w) (lowL ren H2 l) ys
  | [], ys, hr => hr
  | a :: r, ys, hr => by
    obtain ⟨u, t, h1, h2, h3⟩ := hr
    exact ⟨u, t, h1, low_R h a h2, lowL_R h r h3⟩
end
end
/-- What a function's end comes to, for who called it. -/
def Leave (H : AH) (v2 : AV) (H2 : AH) (v : AV) (H' : AH) : Prop := ∀ φ0 w0 φ w y, St (cx φ0 H w0) → St (cx φ H2 w) → Ext (cx φ0 H w0) (cx φ H2 w) → R (cx φ H2 w) v2 y →
  ∃ φ', St (cx φ' H' w) ∧ Ext (cx φ0 H w0) (cx φ' H' w) ∧ R (cx φ' H' w) v y
theorem Leave.refl (H : AH) (v : AV) (H2 : AH) : Leave H v H2 v H2 := fun φ0 w0 φ w y _ h2 h3 h4 => ⟨φ, h2, h3, h4⟩
theorem Leave.trans {H : AH} {v2 v1 v : AV} {H2 H1 H' : AH} (h : Leave H v2 H2 v1 H1) (h' : Leave H v1 H1 v H') : Leave H v2 H2 v H' := fun φ0 w0 φ w y h1 h2 h3 h4 =>
  let ⟨φ', g1, g2, g3⟩ := h φ0 w0 φ w y h1 h2 h3 h4
  h' φ0 w0 φ' w y h1 g1 g2 g3
def lowObj (ren : Nat → Option Nat) (H2 : AH) (o : AObj) : AObj := ⟨lowL ren H2 o.cs, o.sz, o.rw⟩
/-- The first n objects stay; of those behind, 'ks' tells which stay, and in which order. -/
def renk (n : Nat) (ks : List Nat) (id : Nat) : Option Nat := if id < n then some id else (ks.idxOf? (id - n)).map (n + ·)
theorem idxOf_spec {ks : List Nat} {k j : Nat} (h : ks.idxOf? k = some j) : ks[j]? = some k := by
  induction ks generalizing j with
  | nil => cases h
  | cons a r ih =>
    rw [List.idxOf?_cons] at h
    split at h
    · rename_i hh; cases h; simp at hh; simp [hh]
    · cases hr : r.idxOf? k with
      | none => rw [hr] at h; cases h
      | some i => rw [hr] at h; cases h; simpa using ih hr
theorem leave_low {H H1 H1' G : AH} (ks : List Nat) (hnd : ks.Nodup) (hlt : ∀ k ∈ ks, k < G.length) (hl1 : H1.length = H.length) (hl2 : H1'.length = H.length)
    (hcl : ∀ (i : Nat) (o' : AObj), H1'[i]? = some o' → (H[i]? = some o' ∧ H1[i]? = some o') ∨ ∃ o, H1[i]? = some o ∧ o' = lowObj (renk H.length ks) (H1 ++ G) o) (v2 : AV) :
    Leave H v2 (H1 ++ G) (low (renk H.length ks) (H1 ++ G) v2) (H1' ++ ks.map fun k => lowObj (renk H.length ks) (H1 ++ G) (obj G k)) := by
  intro φ0 w0 φ w y s0 s2 hx hr
  generalize hren : renk H.length ks = ren at *
  generalize hH' : (H1' ++ ks.map fun k => lowObj ren (H1 ++ G) (obj G k)) = H' at *
  have hrs : ∀ i, i < H.length → ren i = some i := fun i hi => by rw [← hren]; simp [renk, hi]
  let src : Nat → Nat := fun i => if i < H.length then i else H.length + ks.getD (i - H.length) 0
  let φ' : Nat → Option Nat := fun i => φ (src i)
  have hlen' : H'.length = H.length + ks.length := by rw [← hH']; simp [hl2]
  have hsrc : ∀ (i : Nat) (o' : AObj), H'[i]? = some o' → src i < (H1 ++ G).length ∧ ∃ o, (H1 ++ G)[src i]? = some o ∧ o' = lowObj ren (H1 ++ G) o := by
    intro i o' hi
    rw [← hH'] at hi
    by_cases hlt' : i < H.length
    · rw [List.getElem?_append_left (by omega)] at hi
      have : ∃ o, H1[i]? = some o ∧ o' = lowObj ren (H1 ++ G) o := by
        rcases hcl i o' hi with ⟨h1, h2⟩ | h3
        · refine ⟨o', h2, ?_⟩
          rcases s0.ok i o' h1 with ⟨g1, g2⟩ | ⟨b, c, e, fr, g1, g2, g3, g4, g5⟩
          · cases o'; simp_all [lowObj, lowL]
          · have := lowL_id (H2 := H1 ++ G) hrs o'.cs g5
            cases o'; simp_all [lowObj]
        · exact h3
      obtain ⟨o, h1, h2⟩ := this
      have e : src i = i := if_pos hlt'
      rw [e]
      exact ⟨by simp; omega, o, by rw [List.getElem?_append_left (by omega)]; exact h1, h2⟩
    · rw [List.getElem?_append_right (by omega), hl2, List.getElem?_map, Option.map_eq_some_iff] at hi
      obtain ⟨k, h1, h2⟩ := hi
      have e : src i = H.length + k := by show (if _ then _ else _) = _; rw [if_neg hlt', List.getD_eq_getElem?_getD, h1]; rfl
      have hk := hlt k (List.mem_of_getElem? h1)
      rw [e]
      exact ⟨by simp; omega, obj G k, by rw [List.getElem?_append_right (by omega), hl1, Nat.add_sub_cancel_left]; exact obj_get hk, h2.symm⟩
  have hinj : ∀ i j, i < H'.length → j < H'.length → src i = src j → i = j := by
    intro i j hi hj he
    simp only [src] at he
    split at he <;> split at he
    · exact he
    · omega
    · omega
    · have e : ks.getD (i - H.length) 0 = ks.getD (j - H.length) 0 := by omega
      have hi' : i - H.length < ks.length := by omega
      have hj' : j - H.length < ks.length := by omega
      rw [List.getD_eq_getElem?_getD, List.getD_eq_getElem?_getD, List.getElem?_eq_getElem hi', List.getElem?_eq_getElem hj'] at e
      have hp := List.pairwise_iff_getElem.1 hnd
      rcases Nat.lt_trichotomy (i - H.length) (j - H.length) with hh | hh | hh
      · exact absurd e (hp _ _ hi' hj' hh)
      · omega
      · exact absurd e.symm (hp _ _ hj' hi' hh)
  have hw : ∀ b, Wr (cx φ' H' w) b → ∃ i, i < H'.length ∧ φ (src i) = some b ∧ Wr (cx φ (H1 ++ G) w) b := by
    rintro b ⟨i, o', h1, h2, h3⟩
    obtain ⟨g1, o, g2, g3⟩ := hsrc i o' h1
    exact ⟨i, lt_of_some h1, h3, src i, o, g2, by rw [g3] at h2; exact h2, h3⟩
  have L : Lows φ φ' (H1 ++ G) H' w ren := by
    refine ⟨s2, fun b off us hi => ⟨hi.1, fun hh => hi.2 (hw b hh).choose_spec.2.2⟩, fun id j hj o ho => ?_, fun id hid b hlt' hp hh => ?_⟩
    · have : src j = id ∧ j < H'.length := by
        rw [← hren] at hj
        unfold renk at hj
        split at hj
        · cases hj
          rename_i hh
          exact ⟨if_pos hh, by omega⟩
        · obtain ⟨m, h1, rfl⟩ := Option.map_eq_some_iff.1 hj
          have h2 := idxOf_spec h1
          have h3 := lt_of_some h2
          refine ⟨?_, by omega⟩
          show (if _ then _ else _) = _
          rw [if_neg (by omega), Nat.add_sub_cancel_left, List.getD_eq_getElem?_getD, h2]
          show H.length + (id - H.length) = id
          omega
      obtain ⟨o', ho'⟩ := some_of_lt this.2
      obtain ⟨g1, o2, g2, g3⟩ := hsrc j o' ho'
      rw [this.1, ho] at g2; cases g2
      exact ⟨o', ho', by rw [g3]; rfl, by rw [g3]; exact lowL_length _ _ _, by show φ (src j) = _; rw [this.1]⟩
    · obtain ⟨i, h1, h2, _⟩ := hw b hh
      obtain ⟨o', ho'⟩ := some_of_lt h1
      obtain ⟨g1, _⟩ := hsrc i o' ho'
      have e := s2.inj id (src i) b hlt' g1 hp h2
      subst e
      rw [← hren] at hid
      unfold renk at hid
      by_cases hi : i < H.length
      · have e : src i = i := if_pos hi
        rw [e, if_pos hi] at hid; cases hid
      · have e : src i = H.length + ks.getD (i - H.length) 0 := if_neg hi
        have hi' : i - H.length < ks.length := by omega
        rw [e, if_neg (by omega), Nat.add_sub_cancel_left, Option.map_eq_none_iff, List.idxOf?_eq_none_iff] at hid
        apply hid
        rw [List.getD_eq_getElem?_getD, List.getElem?_eq_getElem hi']
        exact List.getElem_mem _
  refine ⟨φ', ⟨fun i o' hi => ?_, fun i j b hi hj h1 h2 => ?_⟩, ⟨hx.size, hx.frame, hx.shape, fun i o ho => ?_, fun i b hi h1 h2 => ?_⟩, low_R L v2 hr⟩
  · obtain ⟨g1, o, g2, g3⟩ := hsrc i o' hi
    rcases s2.ok (src i) o g2 with ⟨k1, k2⟩ | ⟨b, c, e, fr, k1, k2, k3, k4, k5⟩
    · exact .inl ⟨k1, by rw [g3]; simp [lowObj, k2, lowL]⟩
    · refine .inr ⟨b, c, e, fr, k1, k2, ⟨k3.1, fun ⟨d1, d2⟩ => k3.2 ⟨List.eq_nil_of_length_eq_zero (by rw [g3] at d1; have := congrArg List.length d1; simpa [lowObj, lowL_length] using this), by rw [g3] at d2; exact d2⟩⟩, by rw [g3]; simp only [lowObj, lowL_length]; exact k4, ?_⟩
      rw [g3]; simp only [lowObj, lowL_length]
      exact lowL_R L o.cs k5
  · obtain ⟨oi, hoi⟩ := some_of_lt hi
    obtain ⟨oj, hoj⟩ := some_of_lt hj
    exact hinj i j hi hj (s2.inj _ _ b (hsrc i oi hoi).1 (hsrc j oj hoj).1 h1 h2)
  · have hi : i < H.length := lt_of_some ho
    obtain ⟨o2, k1, kk⟩ := hx.objs i o ho
    obtain ⟨o', ho'⟩ := some_of_lt (l := H') (i := i) (by omega)
    obtain ⟨g1, o3, g2, g3⟩ := hsrc i o' ho'
    have e : src i = i := if_pos hi
    rw [e] at g2
    have k1 : (H1 ++ G)[i]? = some o2 := k1
    rw [k1] at g2; cases g2
    refine ⟨o', ho', ?_⟩
    rcases kk with kk | ⟨k2, k3, k4, k5, k6, k7⟩
    · exact .inl kk
    refine .inr ⟨by rw [g3]; exact k2, by rw [g3]; simp only [lowObj, lowL_length]; exact k3, by rw [g3]; simp only [lowObj, lowL_length]; exact k4, by rw [g3]; exact k5, fun hh => ?_, fun hh => ?_⟩
    · have := k6 hh
      subst this
      rw [g3]
      rcases s0.ok i o2 ho with ⟨j1, j2⟩ | ⟨b, c, e, fr, j1, j2, j3, j4, j5⟩
      · cases o2; simp_all [lowObj, lowL]
      · have := lowL_id (H2 := H1 ++ G) hrs o2.cs j5
        cases o2; simp_all [lowObj]
    · rw [g3] at hh; simp only [lowObj, lowL_length] at hh
      have := k7 hh
      show φ (src i) = _
      rw [e]; exact this
  · obtain ⟨o', ho'⟩ := some_of_lt hi
    obtain ⟨g1, _⟩ := hsrc i o' ho'
    obtain ⟨k1, k2⟩ := hx.fresh (src i) b g1 h1 h2
    have k1 : src i < H.length := k1
    by_cases hlt' : i < H.length
    · have e : src i = i := if_pos hlt'
      rw [e] at k2
      exact ⟨hlt', k2⟩
    · have e : src i = H.length + ks.getD (i - H.length) 0 := if_neg hlt'
      omega
end Go.Proofs.Ytgfploghjpbcaaa.Eng
