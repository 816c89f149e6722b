/- One operation of a region does what the abstract one says, calls and guards too. -/
import Derived.Test.YtgfploghjpbcaaaEngE
import Derived.Test.YtgfploghjpbcaaaEngF
namespace Go.Proofs.Ytgfploghjpbcaaa.Eng
open Go
set_option linter.unusedVariables false
set_option linter.unusedSimpArgs false
/-- The calls are what is told of them. -/
def CallOk (P : Program) (C : CallRel) : Prop := ∀ f args H v H', C f args H v H' → okCall P f = true ∧ ∀ φ w vals, St (cx φ H w) → RL (cx φ H w) args vals.toList →
  Calls P f vals w (fun e w' => ∃ y, e = .returned y ∧ PostV φ H w v H' y w')
section
variable {P : Program} {pf : Pf} {C : CallRel} {φ : Nat → Option Nat} {H H' : AH} {w : World} {v : AV}
theorem callFunc_run {f : FuncId} (h : okCall P f = true) (args : Array Value) : (callFunc f args).run P w = .ok (.enter f args) w := by
  unfold okCall at h
  cases hf : P.funcs[f]? with
  | none => rw [hf] at h; cases h
  | some fn =>
    rw [hf] at h
    simp only [Bool.and_eq_true, bne_iff_ne, ne_eq] at h
    have hn : (fn.name == "runtime.NumGoroutine") = false := by simpa using h.1
    cases hb : fn.body with
    | none => rw [hb] at h; cases h.2
    | some c => simp [callFunc, hf, h.1, hb]
theorem RL_arr {S : Cx} {l : List AV} {a b : Array Value} {l' : List AV} (h : RL S l a.toList) (h' : RL S l' b.toList) : RL S (l ++ l') (a ++ b).toList := by
  rw [Array.toList_append]; exact h.append h'
theorem call_sound (hC : CallOk P C) (hs : St (cx φ H w)) {own : Nat → Bool} {o : Oper} {io : Ins} (h : op? P own o = some io) {ρ : IArg → AV} {η : Operand → Value} (hρ : ∀ x y, arg? x = some y → R (cx φ H w) (ρ y) (η x)) (hη : ∀ f, η (.func f) = .func (.func f) #[] #[])
    (hic : isCall io = true) (hok : callOf pf ρ C H v H' io) : Sat P (PostV φ H w v H') ((execOp η o).run P w) := by
  obtain ⟨dst, op, ty, pos, after, guard⟩ := o
  have go : ∀ {c : Call} {y : Value} {f : FuncId} {fs cps : Array Value} {ags : List IArg} {first cap : List AV}, (resolve η c ty).run P w = (Deferred.ofValue y (c.args.map η)).run P w → y = .func (.func f) fs cps → RL (cx φ H w) first fs.toList → RL (cx φ H w) cap cps.toList →
      c.args.toList.mapM arg? = some ags → C f (first ++ ags.map ρ ++ cap) H v H' → Sat P (PostV φ H w v H') ((execOp η ⟨dst, .call c, ty, pos, after, guard⟩).run P w) := by
    intro c y f fs cps ags first cap h1 h2 h3 h4 h5 h6
    obtain ⟨h7, h8⟩ := hC _ _ _ _ _ h6
    have hr : ((execOp η ⟨dst, .call c, ty, pos, after, guard⟩).run P w) = .ok (.enter f (fs ++ c.args.map η ++ cps)) w := by
      show (do let d ← resolve η c ty; invoke d.target d.args : Sem Next).run P w = _
      rw [Sem.run_bind, h1, h2]
      simp only [Deferred.ofValue, Sem.run_pure, Result.andThen_ok, invoke]
      exact callFunc_run h7 _
    rw [hr]
    exact h8 φ w _ hs (RL_arr (RL_arr h3 (by rw [Array.toList_map]; exact RL_args hρ h5)) h4)
  cases op with
  | call c =>
    obtain ⟨callee, args, argTypes⟩ := c
    simp only [op?, Option.bind_eq_bind, Option.pure_def] at h
    have h9 := bind_some' h
    clear h
    obtain ⟨ags, h0, h⟩ := h9
    cases callee with
    | invoke r m => cases h
    | value x =>
      have gen : ∀ x', arg? x = some x' → io = .callv x' ags → Sat P (PostV φ H w v H') ((execOp η ⟨dst, .call ⟨.value x, args, argTypes⟩, ty, pos, after, guard⟩).run P w) := by
        intro x' h1 hio
        subst hio
        have hx := hρ _ _ h1
        have hok1 := hok.1
        split at hok1
        · rename_i f a b he
          rw [he] at hx
          obtain ⟨fs, cps, e, r1, r2⟩ := hx
          exact go (c := ⟨.value x, args, argTypes⟩) (y := η x) rfl e r1 r2 h0 hok1
        · exact hok1.elim
      cases x with
      | func f =>
        dsimp only at h
        split at h
        · cases h
          exact go (c := ⟨.value (.func f), args, argTypes⟩) (y := η (.func f)) (first := []) (cap := []) rfl (hη f) rfl rfl h0 (by simpa using hok.1)
        · exfalso
          repeat' first
            | (cases h; done)
            | (cases h; simp [isCall] at hic; done)
            | (split at h)
      | tmp t => dsimp only at h; obtain ⟨x', h1, h⟩ := bind_some' h; cases h; exact gen x' h1 rfl
      | const t => dsimp only at h; obtain ⟨x', h1, h⟩ := bind_some' h; cases h; exact gen x' h1 rfl
      | global t => dsimp only at h; obtain ⟨x', h1, h⟩ := bind_some' h; cases h; exact gen x' h1 rfl
    | builtin b =>
      exfalso
      dsimp only at h
      repeat' first
        | (cases h; done)
        | (cases h; simp [isCall] at hic; done)
        | (split at h)
        | (have h9 := bind_some' h; clear h; obtain ⟨_, _, h⟩ := h9)
  | _ =>
    exfalso
    simp only [op?, Option.bind_eq_bind, Option.pure_def] at h
    repeat' first
      | (cases h; done)
      | (cases h; simp [isCall] at hic; done)
      | (have h9 := bind_some' h; clear h; obtain ⟨_, _, h⟩ := h9)
      | (split at h)
/-- Where the code stands. -/
structure SI (n : Nat) (S0 : Cx) (w0 : World) (E : Env) (H : AH) (a : Act) (w : World) : Prop where
  ex : ∃ φ, St (cx φ H w) ∧ Ext S0 (cx φ H w) ∧ (∀ i, R (cx φ H w) (E i) (a.tmps.getD i undef))
  same : Same w0 w
  sz : n ≤ a.tmps.size
  df : a.defers = []
theorem ev_R {S : Cx} {E : Env} {a : Act} (h : ∀ i, R S (E i) (a.tmps.getD i undef)) (x : Operand) (y : IArg) (hx : arg? x = some y) : R S (ev E y) (a.eval x) := by
  cases x with
  | tmp t => cases hx; exact h t
  | const c => cases hx; rfl
  | func f => cases hx; exact ⟨#[], #[], rfl, rfl, rfl⟩
  | global g => cases hx
theorem put_R {S : Cx} {E : Env} {a : Act} (h : ∀ i, R S (E i) (a.tmps.getD i undef)) {d : Option Nat} {n : Nat} (hn : n ≤ a.tmps.size) (hd : ∀ k, d = some k → k < n) {v : AV} {y : Value} (hv : R S v y) : ∀ i, R S (upd E d v i) ((a.put d y).tmps.getD i undef) := by
  intro i
  cases d with
  | none => exact h i
  | some k =>
    have hk := hd k rfl
    simp only [upd, Act.put]
    by_cases hi : i = k
    · subst hi
      have : i < a.tmps.size := by omega
      simp [this, hv]
    · simp only [hi, if_false]
      have e : (a.tmps.setIfInBounds k y).getD i undef = a.tmps.getD i undef := by
        simp only [Array.getD_eq_getD_getElem?]
        rw [Array.getElem?_setIfInBounds_ne (fun e => hi e.symm)]
      rw [e]; exact h i
theorem put_size (a : Act) (d : Option Nat) (y : Value) : (a.put d y).tmps.size = a.tmps.size := by cases d <;> simp [Act.put]
theorem put_df (a : Act) (d : Option Nat) (y : Value) : (a.put d y).defers = a.defers := by cases d <;> rfl
/-- The next operation, if this one leaves what it must. -/
theorem upon_sat {o : Oper} {a : Act} {K : Act → World → Prop} {Q : Exit → Act → World → Prop} {J : Value → World → Prop} (h : Sat P J ((execOp a.eval o).run P w)) (hk : ∀ y w', J y w' → K (a.put o.dst y) w') : o.wp P a w K Q := by
  unfold Oper.wp
  generalize (execOp a.eval o).run P w = r at *
  cases r with
  | ok n w' =>
    cases n <;> simp only [Sat] at h <;> first | exact h.elim | skip
    · exact hk _ _ h
    · exact hk _ _ h
    · exact Calls.mono h fun e w'' ⟨y, he, hj⟩ => by subst he; exact hk _ _ hj
  | halt x w' => cases x <;> exact h.elim
theorem pickv_bool (p : Bool) (a b : AV) : pickv (.lit (.bool p)) a b = bif p then a else b := by
  have key : ∀ a b : AV, (∀ x y, a = .lit (.bool x) → b = .lit (.bool y) → False) → pickv (.lit (.bool p)) a b = bif p then a else b := by
    intro a b h
    unfold pickv
    split
    · exact (h _ _ rfl rfl).elim
    · rename_i h1 _; cases h1; rfl
    · simp_all
  by_cases h : ∃ x y, a = .lit (.bool x) ∧ b = .lit (.bool y)
  · obtain ⟨x, y, rfl, rfl⟩ := h; cases p <;> rfl
  · exact key a b fun x y h1 h2 => h ⟨x, y, h1, h2⟩
theorem pick_sound (hs : St (cx φ H w)) {own : Nat → Bool} {o : Oper} {c a b : IArg} (h : op? P own o = some (.pick c a b)) {E : Env} {η : Operand → Value} (hρ : ∀ x y, arg? x = some y → R (cx φ H w) (ev E y) (η x))
    (hok : pickOk true (ev E c) (ev E a) (ev E b)) : Sat P (PostV φ H w (pickv (ev E c).un (ev E a).un (ev E b).un) H) ((execOp η o).run P w) := by
  obtain ⟨dst, op, ty, pos, after, guard⟩ := o
  cases op with
  | pick c' a' b' =>
    simp only [op?, Option.bind_eq_bind, Option.pure_def] at h
    have h9 := bind_some' h; clear h; obtain ⟨c1, h1, h⟩ := h9
    have h9 := bind_some' h; clear h; obtain ⟨a1, h2, h⟩ := h9
    have h9 := bind_some' h; clear h; obtain ⟨b1, h3, h⟩ := h9
    cases h
    have rc := hρ _ _ h1
    have ra := hρ _ _ h2
    have rb := hρ _ _ h3
    obtain ⟨o1, o2, o3, o4⟩ := hok
    have un_of : ∀ {v : AV} {y : Value}, okMay true v → R (cx φ H w) v y → R (cx φ H w) v.un y := by
      intro v y hm hr
      cases v with
      | may g u => exact hr.1 (hm rfl)
      | _ => exact hr
    have rc' := un_of o1 rc
    generalize (ev E c).un = vc at *
    cases vc with
    | lit lc =>
      cases lc with
      | bool p =>
        have e : η c' = .bool p := rc'
        have ex : (execOp η ⟨dst, .pick c' a' b', ty, pos, after, guard⟩).run P w = .ok (.value (if p then η a' else η b')) w := by
          simp [execOp, e, asBool]
        rw [ex, pickv_bool]
        refine post_same hs ?_
        cases p with
        | true => exact un_of o3 ra
        | false => exact un_of o4 rb
      | _ => cases o2
    | _ => cases o2
  | _ =>
    exfalso
    simp only [op?, Option.bind_eq_bind, Option.pure_def] at h
    repeat' first
      | (cases h; done)
      | (have h9 := bind_some' h; clear h; obtain ⟨_, _, h⟩ := h9)
      | (split at h)
theorem stepU_sound (hC : CallOk P C) (hcmp : ∀ t, pf.c t = true → cmpT P t = true) (hs : St (cx φ H w)) {own : Nat → Bool} {o : Oper} {io : Ins} (h : op? P own o = some io) {ρ : IArg → AV} {η : Operand → Value} (hρ : ∀ x y, arg? x = some y → R (cx φ H w) (ρ y) (η x)) (hη : (∀ f, η (.func f) = .func (.func f) #[] #[]) ∧ ∀ v, η (.const v) = v)
    (hok : stepU pf C ρ H v H' io) : Sat P (PostV φ H w v H') ((execOp η o).run P w) := by
  unfold stepU at hok
  split at hok
  · rename_i hc; exact call_sound hC hs h hρ hη.1 hc hok
  · obtain ⟨h1, rfl, rfl⟩ := hok
    exact op_sound hs hcmp h hρ hη h1
end
end Go.Proofs.Ytgfploghjpbcaaa.Eng
