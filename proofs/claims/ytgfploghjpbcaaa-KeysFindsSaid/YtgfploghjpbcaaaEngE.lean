/- Every operation (but calls) does what the abstract one says. -/
import Derived.Test.YtgfploghjpbcaaaEngD7
namespace Go.Proofs.Ytgfploghjpbcaaa.Eng
open Go
set_option linter.unusedVariables false
set_option linter.unusedSimpArgs false
section
variable {P : Program} {φ : Nat → Option Nat} {H : AH} {w : World}
theorem bind_some' {α β : Type} {x : Option α} {f : α → Option β} {y : β} (h : (x.bind f) = some y) : ∃ a, x = some a ∧ f a = some y := by
  cases x with
  | none => cases h
  | some a => exact ⟨a, rfl, h⟩
theorem RO_map {ρ : IArg → AV} {η : Operand → Value} (hρ : ∀ x y, arg? x = some y → R (cx φ H w) (ρ y) (η x)) {o : Option Operand} {o' : Option IArg} (h : (match o with | none => some none | some z => (arg? z).map some : Option (Option IArg)) = some o') : RO (cx φ H w) (o'.map ρ) (o.map η) := by
  cases o with
  | none => cases h; trivial
  | some z =>
    simp only [Option.map_eq_some_iff] at h
    obtain ⟨y, h1, rfl⟩ := h
    exact hρ z y h1
theorem RL_args {S : Cx} {ρ : IArg → AV} {η : Operand → Value} (hρ : ∀ x y, arg? x = some y → R S (ρ y) (η x)) : ∀ {xs : List Operand} {ys : List IArg}, xs.mapM arg? = some ys → RL S (ys.map ρ) (xs.map η)
  | [], ys, h => by simp at h; subst h; rfl
  | x :: r, ys, h => by
    simp only [List.mapM_cons, Option.bind_eq_bind, Option.pure_def] at h
    obtain ⟨y, h1, h⟩ := bind_some' h
    obtain ⟨ys', h2, h⟩ := bind_some' h
    cases h
    exact ⟨_, _, rfl, hρ x y h1, RL_args hρ h2⟩
theorem arr1 {α : Type} {a : Array α} {x : α} (h : a.toList = [x]) : a = #[x] := by
  cases a; simp at h; subst h; rfl
theorem arr2 {α : Type} {a : Array α} {x y : α} (h : a.toList = [x, y]) : a = #[x, y] := by
  cases a; simp at h; subst h; rfl
theorem mapM1 {l : List Operand} {y : IArg} (h : l.mapM arg? = some [y]) : ∃ a, l = [a] ∧ arg? a = some y := by
  cases l with
  | nil => simp at h
  | cons a r =>
    simp only [List.mapM_cons, Option.bind_eq_bind, Option.pure_def] at h
    obtain ⟨z, h1, h⟩ := bind_some' h
    obtain ⟨zs, h2, h⟩ := bind_some' h
    cases h
    cases r with
    | nil => exact ⟨a, rfl, h1⟩
    | cons b r =>
      simp only [List.mapM_cons, Option.bind_eq_bind, Option.pure_def] at h2
      obtain ⟨z, h3, h⟩ := bind_some' h2
      obtain ⟨zs, h4, h⟩ := bind_some' h
      cases h
theorem mapM2 {l : List Operand} {y z : IArg} (h : l.mapM arg? = some [y, z]) : ∃ a b, l = [a, b] ∧ arg? a = some y ∧ arg? b = some z := by
  cases l with
  | nil => simp at h
  | cons a r =>
    simp only [List.mapM_cons, Option.bind_eq_bind, Option.pure_def] at h
    obtain ⟨z1, h1, h⟩ := bind_some' h
    obtain ⟨zs, h2, h⟩ := bind_some' h
    cases h
    obtain ⟨b, rfl, h3⟩ := mapM1 h2
    exact ⟨a, b, rfl, h1, h3⟩
theorem arr3 {α : Type} {a : Array α} {x y z : α} (h : a.toList = [x, y, z]) : a = #[x, y, z] := by
  cases a; simp at h; subst h; rfl
theorem mapM3 {l : List Operand} {y z u : IArg} (h : l.mapM arg? = some [y, z, u]) : ∃ a b c, l = [a, b, c] ∧ arg? a = some y ∧ arg? b = some z ∧ arg? c = some u := by
  cases l with
  | nil => simp at h
  | cons a r =>
    simp only [List.mapM_cons, Option.bind_eq_bind, Option.pure_def] at h
    obtain ⟨z1, h1, h⟩ := bind_some' h
    obtain ⟨zs, h2, h⟩ := bind_some' h
    cases h
    obtain ⟨b, c, rfl, h3, h4⟩ := mapM2 h2
    exact ⟨a, b, c, rfl, h1, h3, h4⟩
theorem sat_blt {b : Builtin} {at_ : Array TypeId} {ty : TypeId} {cs : Array Bool} {vs vs' : Array Value} {K : Value → World → Prop} {s : Sem Value} {y : Value} {w' : World} (hb : builtin b at_ ty cs vs' = (do pure (Next.value (← s)))) (hv : vs = vs') (h : s.run P w = .ok y w') (hk : K y w') : Sat P K ((builtin b at_ ty cs vs).run P w) := by
  subst hv; rw [hb]; exact sat_v h hk
theorem op_sound (hs : St (cx φ H w)) {cmp : TypeId → Bool} (hcmp : ∀ t, cmp t = true → cmpT P t = true) {own : Nat → Bool} {o : Oper} {io : Ins} (h : op? P own o = some io) {ρ : IArg → AV} {η : Operand → Value} (hρ : ∀ x y, arg? x = some y → R (cx φ H w) (ρ y) (η x)) (hη : (∀ f, η (.func f) = .func (.func f) #[] #[]) ∧ ∀ v, η (.const v) = v) (hok : iside cmp ρ H io) :
    Sat P (PostV φ H w (ival ρ H io) (inext ρ H io)) ((execOp η o).run P w) := by
  obtain ⟨dst, op, ty, pos, after, guard⟩ := o
  cases op with
  | move x =>
    simp only [op?, Option.bind_eq_bind, Option.pure_def] at h
    obtain ⟨x', h1, h⟩ := bind_some' h
    cases h
    simp only [execOp, Sem.run_pure, Sat]
    exact post_same hs (hρ _ _ h1)
  | assign x =>
    simp only [op?, Option.bind_eq_bind, Option.pure_def] at h
    obtain ⟨x', h1, h⟩ := bind_some' h
    cases h
    simp only [execOp, Sem.run_pure, Sat]
    exact post_same hs (hρ _ _ h1)
  | pick c a b =>
    simp only [op?, Option.bind_eq_bind, Option.pure_def] at h
    obtain ⟨c', h1, h⟩ := bind_some' h
    obtain ⟨a', h2, h⟩ := bind_some' h
    obtain ⟨b', h3, h⟩ := bind_some' h
    cases h
    exact hok.elim
  | nilCheck x =>
    simp only [op?, Option.bind_eq_bind, Option.pure_def] at h
    obtain ⟨x', h1, h⟩ := bind_some' h
    cases h
    have hx := hρ _ _ h1
    simp only [iside] at hok
    simp only [execOp, ival, inext]
    generalize ρ x' = v at *
    unfold nilOk at hok
    split at hok
    · obtain ⟨_, _, _, _, _, e⟩ := hx
      have hx' := hρ _ _ h1
      rw [e]
      exact post_same hs ⟨_, _, ‹_›, ‹_›, ‹_›, rfl⟩
    · obtain ⟨a, e, hr⟩ := hx
      rw [e]
      exact post_same hs ⟨a, rfl, hr⟩
    · obtain ⟨b, off, us, e, hr⟩ := hx
      rw [e]
      exact post_same hs ⟨b, off, us, rfl, hr⟩
    · obtain ⟨fs, cps, e, hr⟩ := hx
      rw [e]
      exact post_same hs ⟨fs, cps, rfl, hr⟩
    · exact hok.elim
  | alloc t =>
    simp only [op?, Option.bind_eq_bind, Option.pure_def] at h
    obtain ⟨z, h1, h⟩ := bind_some' h
    split at h
    · cases h
    · rename_i hne
      cases h
      obtain ⟨u, w', g1, g2⟩ := alloc_sound (P := P) hs h1 (by simpa using hne)
      exact sat_v g1 g2
  | box t x =>
    simp only [op?, Option.bind_eq_bind, Option.pure_def] at h
    obtain ⟨x', h1, h⟩ := bind_some' h
    cases h
    obtain ⟨u, w', g1, g2⟩ := box_sound (P := P) (t := t) hs (hρ _ _ h1) hok
    exact sat_v g1 g2
  | build t ps =>
    simp only [op?, Option.bind_eq_bind, Option.pure_def] at h
    obtain ⟨z, h1, h⟩ := bind_some' h
    obtain ⟨qs, hq, e⟩ : ∃ qs, (match P.underlying t with
      | some (.struct fs) => if fs.toList.all (fun f => (P.info? f.type).isSome) then parts? (fun i => (fs[i]?).map fun f => (f.offset, P.cellsOf f.type)) ps else none
      | some (.array _ e) => if P.cellsOf e = 0 then none else parts? (fun i => some (i * P.cellsOf e, P.cellsOf e)) ps
      | _ => none) = some qs ∧ io = .build z qs := by
      cases hu : P.underlying t with
      | none => rw [hu] at h; cases h
      | some d =>
        rw [hu] at h
        cases d <;> try (cases h; done)
        case struct fs =>
          dsimp only at h ⊢
          split at h
          · rename_i hc
            obtain ⟨qs, h2, h⟩ := bind_some' h
            cases h
            exact ⟨qs, by rw [if_pos hc]; exact h2, rfl⟩
          · cases h
        case array n e =>
          dsimp only at h ⊢
          split at h
          · cases h
          · rename_i hc
            obtain ⟨qs, h2, h⟩ := bind_some' h
            cases h
            exact ⟨qs, by rw [if_neg hc]; exact h2, rfl⟩
    subst e
    obtain ⟨u, g1, g2⟩ := build_sound (P := P) hs hρ h1 hq hok
    exact sat_v g1 (post_same hs g2)
  | buildSlice t len ps =>
    simp only [op?, Option.bind_eq_bind, Option.pure_def] at h
    cases hu : P.underlying t with
    | none => rw [hu] at h; cases h
    | some d =>
      rw [hu] at h
      cases d <;> try (cases h; done)
      case slice e =>
        dsimp only at h
        obtain ⟨z, h1, h⟩ := bind_some' h
        split at h
        · cases h
        · rename_i hc
          obtain ⟨qs, h2, h⟩ := bind_some' h
          cases h
          obtain ⟨u, w', g1, g2⟩ := bslice_sound (P := P) hs hρ hu h1 hc h2 hok
          exact sat_v g1 g2
  | load t a =>
    simp only [op?, Option.bind_eq_bind, Option.pure_def] at h
    split at h
    · cases h
    · rename_i hc
      simp only [Bool.or_eq_true, decide_eq_true_eq, not_or, Bool.not_eq_true] at hc
      obtain ⟨x', h1, h⟩ := bind_some' h
      cases h
      obtain ⟨u, g1, g2⟩ := load_sound (P := P) hs hc.1 hc.2 (hρ _ _ h1) hok
      exact sat_v g1 (post_same hs g2)
  | store t a x =>
    simp only [op?, Option.bind_eq_bind, Option.pure_def] at h
    split at h
    · cases h
    · rename_i hc
      obtain ⟨a', h1, h⟩ := bind_some' h
      obtain ⟨x', h2, h⟩ := bind_some' h
      cases h
      obtain ⟨w', g1, g2⟩ := store_sound (P := P) hs hc (hρ _ _ h2) (hρ _ _ h1) hok
      exact sat_u g1 g2
  | binOp op t x y yt =>
    simp only [op?, Option.bind_eq_bind, Option.pure_def] at h
    obtain ⟨x', h1, h⟩ := bind_some' h
    obtain ⟨y', h2, h⟩ := bind_some' h
    split at h
    · rename_i hA
      split at h
      · cases h
      · rename_i hG
        obtain ⟨ks, h3, h⟩ := bind_some' h
        cases op <;> try (cases h; done)
        · cases h
          exact sat_v (eqagg_sound (P := P) (neq := false) (X := x) (Y := y) hA (by simpa using hG) h3 (hρ _ _ h1) (hρ _ _ h2) hok) (post_same hs rfl)
        · cases h
          exact sat_v (eqagg_sound (P := P) (neq := true) (X := x) (Y := y) hA (by simpa using hG) h3 (hρ _ _ h1) (hρ _ _ h2) hok) (post_same hs rfl)
    · cases hu : P.underlying t with
      | none => rw [hu] at h; cases h
      | some d =>
        rw [hu] at h
        have bin : io = .bin op x' y' → Sat P (PostV φ H w (ival ρ H io) (inext ρ H io)) ((execOp η ⟨dst, .binOp op t x y yt, ty, pos, after, guard⟩).run P w) := by
          rintro rfl
          obtain ⟨u, g1, g2⟩ := bin_sound (P := P) (hρ _ _ h1) (hρ _ _ h2) hok t x y
          exact sat_v g1 (post_same hs g2)
        cases d <;> try (cases h; done)
        case int k => exact bin (by cases h; rfl)
        case string => exact bin (by cases h; rfl)
        case slice e =>
          have fin : ∀ neq : Bool, y = .const (.slice none 0 0) → io = .isnil neq x' → op = (if neq then .neq else .eql) → Sat P (PostV φ H w (ival ρ H io) (inext ρ H io)) ((execOp η ⟨dst, .binOp op t x y yt, ty, pos, after, guard⟩).run P w) := by
            rintro neq rfl rfl rfl
            cases h2
            have hy : η (.const (.slice none 0 0)) = .slice none 0 0 := hη.2 _
            obtain ⟨u, g1, g2⟩ := isnil_sound (P := P) (neq := neq) (X := x) (Y := .const (.slice none 0 0)) (hρ _ _ h1) hok t hu
            rw [← hy] at g1
            exact sat_v g1 (post_same hs g2)
          cases op <;> try (cases h; done)
          · dsimp only at h
            split at h
            · exact fin false rfl (by cases h; rfl) rfl
            · cases h
          · dsimp only at h
            split at h
            · exact fin true rfl (by cases h; rfl) rfl
            · cases h
        all_goals (cases op <;> try (cases h; done))
        all_goals cases h
        · exact sat_v (eq_sound (P := P) (neq := false) hcmp h1 h2 (hρ _ _ h1) (hρ _ _ h2) hok t hu rfl) (post_same hs rfl)
        · exact sat_v (eq_sound (P := P) (neq := true) hcmp h1 h2 (hρ _ _ h1) (hρ _ _ h2) hok t hu rfl) (post_same hs rfl)
        · exact sat_v (eq_sound (P := P) (neq := false) hcmp h1 h2 (hρ _ _ h1) (hρ _ _ h2) hok t hu ⟨_, rfl⟩) (post_same hs rfl)
        · exact sat_v (eq_sound (P := P) (neq := true) hcmp h1 h2 (hρ _ _ h1) (hρ _ _ h2) hok t hu ⟨_, rfl⟩) (post_same hs rfl)
        · exact sat_v (eq_sound (P := P) (neq := false) hcmp h1 h2 (hρ _ _ h1) (hρ _ _ h2) hok t hu ⟨_, _, _, rfl⟩) (post_same hs rfl)
        · exact sat_v (eq_sound (P := P) (neq := true) hcmp h1 h2 (hρ _ _ h1) (hρ _ _ h2) hok t hu ⟨_, _, _, rfl⟩) (post_same hs rfl)
        · exact sat_v (eq_sound (P := P) (neq := false) hcmp h1 h2 (hρ _ _ h1) (hρ _ _ h2) hok t hu ⟨_, rfl⟩) (post_same hs rfl)
        · exact sat_v (eq_sound (P := P) (neq := true) hcmp h1 h2 (hρ _ _ h1) (hρ _ _ h2) hok t hu ⟨_, rfl⟩) (post_same hs rfl)
  | unOp op t x =>
    simp only [op?, Option.bind_eq_bind, Option.pure_def] at h
    obtain ⟨x', h1, h⟩ := bind_some' h
    cases h
    obtain ⟨u, g1, g2⟩ := un_sound (P := P) (hρ _ _ h1) hok
    exact sat_v g1 (post_same hs g2)
  | convert sT dT x =>
    simp only [op?, Option.bind_eq_bind, Option.pure_def] at h
    obtain ⟨x', h1, h⟩ := bind_some' h
    cases hu : P.underlying sT with
    | none => rw [hu] at h; cases h
    | some d =>
      cases hd : P.underlying dT with
      | none => rw [hu, hd] at h; cases d <;> cases h
      | some d' =>
        rw [hu, hd] at h
        cases d <;> cases d' <;> try (cases h; done)
        · cases h
          exact sat_v (conv_sound (P := P) hu hd (hρ _ _ h1) hok) (post_same hs rfl)
        · cases h
          exact sat_v (same_sound (P := P) hu hd (hρ _ _ h1) hok) (post_same hs (hρ _ _ h1))
        · rename_i e
          dsimp only at h
          cases he : P.underlying e with
          | none => rw [he] at h; cases h
          | some de =>
            rw [he] at h
            cases de <;> try (cases h; done)
            rename_i kk
            cases kk <;> try (cases h; done)
            cases h
            obtain ⟨u, w', g1, g2⟩ := s2b_sound (P := P) hs hu hd he (hρ _ _ h1) hok
            exact sat_v g1 g2
        · rename_i e
          dsimp only at h
          cases he : P.underlying e with
          | none => rw [he] at h; cases h
          | some de =>
            rw [he] at h
            cases de <;> try (cases h; done)
            rename_i kk
            cases kk <;> try (cases h; done)
            cases h
            obtain ⟨u, g1, g2⟩ := b2s_sound (P := P) hs hu he hd (hρ _ _ h1) hok
            exact sat_v g1 (post_same hs g2)
        · rename_i e e2
          dsimp only at h
          cases he : P.underlying e with
          | none => rw [he] at h; simp at h
          | some de =>
            rw [he] at h
            cases de <;> try (simp at h; done)
            rename_i kk
            cases kk <;> try (simp at h; done)
            simp only [Bool.and_true, beq_iff_eq] at h
            split at h
            · rename_i hcond
              have hio : io = .mark x' := by cases h; rfl
              subst hio
              have hx := hρ _ _ h1
              clear h h1
              subst hcond
              obtain ⟨u, w', g1, g2⟩ := mark_sound (P := P) hs hu he hx hok
              exact sat_v g1 g2
            · cases h
  | makeInterface t x =>
    simp only [op?, Option.bind_eq_bind, Option.pure_def] at h
    cases hu : P.underlying t with
    | none => rw [hu] at h; cases h
    | some d =>
      rw [hu] at h
      cases d <;> try (cases h; done)
      all_goals
        obtain ⟨x', h1, h⟩ := bind_some' h
        cases h
        obtain ⟨u, g1, g2⟩ := mkif_sound (P := P) (t := t) (fun m hm => by rw [hu] at hm; cases hm) (by rw [hu]; rfl) (hρ _ _ h1) hok
        exact sat_v g1 (post_same hs g2)
  | makeFunc f first cap =>
    simp only [op?, Option.bind_eq_bind, Option.pure_def] at h
    obtain ⟨a, h1, h⟩ := bind_some' h
    obtain ⟨b, h2, h⟩ := bind_some' h
    cases h
    refine sat_v (y := .func f (first.map η) (cap.map η)) rfl (post_same hs ⟨_, _, rfl, ?_, ?_⟩)
    · rw [Array.toList_map]; exact RL_args hρ h1
    · rw [Array.toList_map]; exact RL_args hρ h2
  | makeSlice t l c =>
    simp only [op?, Option.bind_eq_bind, Option.pure_def] at h
    cases hu : P.underlying t with
    | none => rw [hu] at h; cases h
    | some d =>
      rw [hu] at h
      cases d <;> try (cases h; done)
      case slice e =>
        dsimp only at h
        obtain ⟨z, h1, h⟩ := bind_some' h
        split at h
        · cases h
        · rename_i hc
          obtain ⟨l', h2, h⟩ := bind_some' h
          obtain ⟨c', h3, h⟩ := bind_some' h
          cases h
          obtain ⟨u, w', g1, g2⟩ := mksl_sound (P := P) hs hu h1 hc (hρ _ _ h2) (hρ _ _ h3) hok
          exact sat_v g1 g2
  | slice t x lo hi mx =>
    simp only [op?, Option.bind_eq_bind, Option.pure_def] at h
    cases hu : P.underlying t with
    | none => rw [hu] at h; cases h
    | some d =>
      rw [hu] at h
      cases d <;> try (cases h; done)
      case slice e =>
        dsimp only at h
        split at h
        · cases h
        · rename_i hc
          obtain ⟨x', h1, h⟩ := bind_some' h
          obtain ⟨lo', h2, h⟩ := bind_some' h
          obtain ⟨hi', h3, h⟩ := bind_some' h
          obtain ⟨mx', h4, h⟩ := bind_some' h
          cases h
          obtain ⟨u, g1, g2⟩ := slice_sound (P := P) (arr := none) hs hu hc (RO_map hρ h2) (RO_map hρ h3) (RO_map hρ h4) (by have := hok.1; cases mx' <;> cases hi' <;> simp_all) (hρ _ _ h1) hok.2
          exact sat_v g1 (post_same hs g2)
      case array n e =>
        dsimp only at h
        split at h
        · cases h
        · rename_i hc
          obtain ⟨x', h1, h⟩ := bind_some' h
          obtain ⟨lo', h2, h⟩ := bind_some' h
          obtain ⟨hi', h3, h⟩ := bind_some' h
          obtain ⟨mx', h4, h⟩ := bind_some' h
          cases h
          obtain ⟨u, g1, g2⟩ := slice_sound (P := P) (arr := some n) hs hu hc (RO_map hρ h2) (RO_map hρ h3) (RO_map hρ h4) (by have := hok.1; cases mx' <;> cases hi' <;> simp_all) (hρ _ _ h1) hok.2
          exact sat_v g1 (post_same hs g2)
      case string =>
        dsimp only at h
        split at h
        · cases h
        · rename_i hc
          obtain ⟨x', h1, h⟩ := bind_some' h
          obtain ⟨lo', h2, h⟩ := bind_some' h
          obtain ⟨hi', h3, h⟩ := bind_some' h
          cases h
          obtain rfl : mx = none := by cases mx <;> simp_all
          obtain ⟨u, g1, g2⟩ := sslice_sound (P := P) hu (RO_map hρ h2) (RO_map hρ h3) (hρ _ _ h1) hok
          exact sat_v g1 (post_same hs g2)
  | fieldAddr t x i =>
    simp only [op?, Option.bind_eq_bind, Option.pure_def] at h
    cases hu : P.underlying t with
    | none => rw [hu] at h; cases h
    | some d =>
      rw [hu] at h
      cases d <;> try (cases h; done)
      case struct fs =>
        dsimp only at h
        cases hf : fs[i]? with
        | none => rw [hf] at h; cases h
        | some f =>
          rw [hf] at h
          dsimp only at h
          split at h
          · cases h
          · rename_i hc
            obtain ⟨x', h1, h⟩ := bind_some' h
            cases h
            obtain ⟨u, g1, g2⟩ := fld_sound (P := P) hu hf hc (hρ _ _ h1) hok
            exact sat_v g1 (post_same hs g2)
  | field t x i =>
    simp only [op?, Option.bind_eq_bind, Option.pure_def] at h
    cases hu : P.underlying t with
    | none => rw [hu] at h; cases h
    | some d =>
      rw [hu] at h
      cases d <;> try (cases h; done)
      case struct fs =>
        dsimp only at h
        cases hf : fs[i]? with
        | none => rw [hf] at h; cases h
        | some f =>
          rw [hf] at h
          dsimp only at h
          split at h
          · cases h
          · rename_i hc
            simp only [Bool.or_eq_true, decide_eq_true_eq, not_or, Bool.not_eq_true] at hc
            obtain ⟨x', h1, h⟩ := bind_some' h
            cases h
            obtain ⟨u, g1, g2⟩ := field_sound (P := P) hu hf hc.2 hc.1 (hρ _ _ h1) hok
            exact sat_v g1 (post_same hs g2)
  | indexAddr t x i =>
    simp only [op?, Option.bind_eq_bind, Option.pure_def] at h
    cases hu : P.underlying t with
    | none => rw [hu] at h; cases h
    | some d =>
      rw [hu] at h
      cases d <;> try (cases h; done)
      case slice e =>
        dsimp only at h
        split at h
        · cases h
        · rename_i hc
          obtain ⟨x', h1, h⟩ := bind_some' h
          obtain ⟨i', h2, h⟩ := bind_some' h
          cases h
          obtain ⟨u, g1, g2⟩ := idxa_sound (P := P) (arr := none) hu hc (hρ _ _ h1) (hρ _ _ h2) hok
          exact sat_v g1 (post_same hs g2)
      case array n e =>
        dsimp only at h
        split at h
        · cases h
        · rename_i hc
          obtain ⟨x', h1, h⟩ := bind_some' h
          obtain ⟨i', h2, h⟩ := bind_some' h
          cases h
          obtain ⟨u, g1, g2⟩ := idxa_sound (P := P) (arr := some n) hu hc (hρ _ _ h1) (hρ _ _ h2) hok
          exact sat_v g1 (post_same hs g2)
  | index t x i =>
    simp only [op?, Option.bind_eq_bind, Option.pure_def] at h
    cases hu : P.underlying t with
    | none => rw [hu] at h; cases h
    | some d =>
      rw [hu] at h
      cases d <;> try (cases h; done)
      case array n e =>
        dsimp only at h
        split at h
        · cases h
        · rename_i hc
          simp only [Bool.or_eq_true, decide_eq_true_eq, not_or, Bool.not_eq_true, Bool.not_eq_true', Bool.not_eq_false] at hc
          obtain ⟨x', h1, h⟩ := bind_some' h
          obtain ⟨i', h2, h⟩ := bind_some' h
          cases h
          obtain ⟨u, g1, g2⟩ := idx_sound (P := P) hu hc.1.2 hc.1.1 (by simpa using hc.2) (hρ _ _ h1) (hρ _ _ h2) hok
          exact sat_v g1 (post_same hs g2)
      case string =>
        dsimp only at h
        obtain ⟨x', h1, h⟩ := bind_some' h
        obtain ⟨i', h2, h⟩ := bind_some' h
        cases h
        obtain ⟨u, g1, g2⟩ := sidx_sound (P := P) hu (hρ _ _ h1) (hρ _ _ h2) hok
        exact sat_v g1 (post_same hs g2)
  | extract x i =>
    simp only [op?, Option.bind_eq_bind, Option.pure_def] at h
    obtain ⟨x', h1, h⟩ := bind_some' h
    cases h
    obtain ⟨u, g1, g2⟩ := ext_sound (P := P) (hρ _ _ h1) hok
    exact sat_v g1 (post_same hs g2)
  | call c =>
    obtain ⟨callee, args, argTypes⟩ := c
    simp only [op?, Option.bind_eq_bind, Option.pure_def] at h
    have h9 := bind_some' h
    clear h
    obtain ⟨ags, h0, h⟩ := h9
    cases callee with
    | value x =>
      cases x with
      | func f =>
        dsimp only at h
        split at h
        · cases h; exact hok.elim
        · split at h
          · rename_i fn x1 y1 c1 hf
            have hcases : ∀ (sub : Bool), isExt fn (if sub then "math/bits.Sub64" else "math/bits.Add64") = true → io = .carry sub x1 y1 c1 → Sat P (PostV φ H w (ival ρ H io) (inext ρ H io)) ((execOp η ⟨dst, .call ⟨.value (.func f), args, argTypes⟩, ty, pos, after, guard⟩).run P w) := by
              intro sub he hio
              subst hio
              obtain ⟨a, b, d, ha, g1, g2, g3⟩ := mapM3 h0
              obtain rfl := arr3 ha
              obtain ⟨u, r1, r2⟩ := carry_sound (P := P) hf he (hρ _ _ g1) (hρ _ _ g2) (hρ _ _ g3) hok
              have hr : ((execOp η ⟨dst, .call ⟨.value (.func f), #[a, b, d], argTypes⟩, ty, pos, after, guard⟩).run P w) = .ok (.value u) w := by
                show (do let e ← resolve η ⟨.value (.func f), #[a, b, d], argTypes⟩ ty; invoke e.target e.args : Sem Next).run P w = _
                have e1 : (resolve η ⟨.value (.func f), #[a, b, d], argTypes⟩ ty).run P w = (Deferred.ofValue (η (.func f)) (#[a, b, d].map η)).run P w := rfl
                rw [Sem.run_bind, e1, hη.1 f]
                simp only [Deferred.ofValue, Sem.run_pure, Result.andThen_ok, invoke]
                simpa using r1
              rw [hr]
              exact post_same hs r2
            split at h
            · rename_i he; exact hcases false he (by cases h; rfl)
            · split at h
              · rename_i he; exact hcases true he (by cases h; rfl)
              · cases h
          · cases h
      | _ =>
        dsimp only at h
        obtain ⟨x', h1, h⟩ := bind_some' h
        cases h
        exact hok.elim
    | invoke r m => cases h
    | builtin b =>
      have hrun : ∀ {b : Builtin} {args : Array Operand}, (execOp η ⟨dst, .call ⟨.builtin b, args, argTypes⟩, ty, pos, after, guard⟩) = builtin b argTypes ty (args.map fun | .const _ => true | _ => false) (args.map η) := fun {b args} => rfl
      rw [hrun]
      dsimp only at h
      split at h
      · -- len
        obtain ⟨a, ha, h1⟩ := mapM1 h0
        obtain rfl := arr1 ha
        cases ht : argTypes[0]? with
        | none => rw [ht] at h; cases h
        | some t =>
          rw [ht] at h
          simp only [Option.bind_some] at h
          have hcongr : ∀ vs, Builtin.len_ argTypes ty vs = Builtin.len_ #[t] ty vs := by intro vs; unfold Builtin.len_; rw [ht]; rfl
          cases hu : P.underlying t with
          | none => rw [hu] at h; cases h
          | some d =>
            rw [hu] at h
            cases d <;> try (cases h; done)
            · cases h
              refine sat_blt (vs' := #[η a]) rfl (by simp) ?_ (post_same hs (v := .lit _) rfl)
              rw [hcongr]
              exact len_sound (str := true) hu (hρ _ _ h1) hok
            · cases h
              refine sat_blt (vs' := #[η a]) rfl (by simp) ?_ (post_same hs (v := .lit _) rfl)
              rw [hcongr]
              exact len_sound (str := false) ⟨_, hu⟩ (hρ _ _ h1) hok
            · cases h
              refine sat_blt (vs' := #[η a]) rfl (by simp) ?_ (post_same hs (v := .lit _) rfl)
              rw [hcongr]
              simp [Builtin.len_, run_underlying hu, goInt]
      · -- append
        rename_i s' x'
        obtain ⟨a, b, ha, h1, h2⟩ := mapM2 h0
        obtain rfl := arr2 ha
        cases ht : argTypes[0]? with
        | none => rw [ht] at h; cases h
        | some t =>
          cases ht2 : argTypes[1]? with
          | none =>
            rw [ht, ht2] at h
            simp only [Option.bind_some, Option.bind_none] at h
            split at h <;> first | cases h | (rename_i hh; cases hh)
          | some tx =>
            rw [ht, ht2] at h
            simp only [Option.bind_some] at h
            have hcongr : ∀ vs, Builtin.append_ argTypes ty vs = Builtin.append_ #[t, tx] ty vs := by intro vs; unfold Builtin.append_; rw [ht, ht2]; rfl
            have fin : ∀ e, P.underlying t = some (.slice e) → ((∃ e', P.underlying tx = some (.slice e')) ∨ P.underlying tx = some .string) → P.cellsOf e ≠ 0 → P.bytesOf e ≠ 0 → (zeroT P e).map List.length = some (P.cellsOf e) → (∃ mine : Bool, io = if mine then .appv (P.cellsOf e) (P.bytesOf e) s' x' else .append (P.cellsOf e) (P.bytesOf e) s' x') →
                Sat P (PostV φ H w (ival ρ H io) (inext ρ H io)) ((builtin .append argTypes ty (#[a, b].map fun | .const _ => true | _ => false) (#[a, b].map η)).run P w) := by
              intro e hu hk hc hb hz ⟨mine, hio⟩
              obtain ⟨z, hz1, hz2⟩ := Option.map_eq_some_iff.1 hz
              cases mine with
              | true =>
                rw [if_pos rfl] at hio
                subst hio
                obtain ⟨u, w', g1, g2⟩ := appv_sound (P := P) (ty := ty) hs hu hc hz1 hz2 hb hk (hρ _ _ h1) (hρ _ _ h2) hok
                refine sat_blt (vs' := #[η a, η b]) rfl (by simp) ?_ g2
                rw [hcongr]; exact g1
              | false =>
              rw [if_neg (by decide)] at hio
              subst hio
              obtain ⟨u, w', g1, g2⟩ := append_sound (P := P) (ty := ty) hs hu hc hz1 hz2 hb hk (hρ _ _ h1) (hρ _ _ h2) hok
              refine sat_blt (vs' := #[η a, η b]) rfl (by simp) ?_ g2
              rw [hcongr]; exact g1
            split at h
            · rename_i e e' hu hu2
              split at h
              · cases h
              · rename_i hc
                simp only [Bool.or_eq_true, decide_eq_true_eq, not_or, bne_iff_ne, ne_eq, Decidable.not_not] at hc
                exact fin _ hu (.inl ⟨_, hu2⟩) hc.1.1.1 hc.1.2 hc.2 ⟨_, by cases h; rfl⟩
            · rename_i e hu hu2
              split at h
              · cases h
              · rename_i hc
                simp only [Bool.or_eq_true, decide_eq_true_eq, not_or, bne_iff_ne, ne_eq, Decidable.not_not] at hc
                exact fin _ hu (.inr hu2) hc.1.1 hc.1.2 hc.2 ⟨_, by cases h; rfl⟩
            · rename_i e kk hu hu2
              obtain ⟨z, hz, h⟩ := bind_some' h
              split at h
              · cases h
              · rename_i hc
                simp only [Bool.or_eq_true, decide_eq_true_eq, not_or, bne_iff_ne, ne_eq, Decidable.not_not] at hc
                cases h
                obtain ⟨u, w', g1, g2⟩ := appz_sound (P := P) (ty := ty) hs hu hu2 hc.1.1 hz hc.2 hc.1.2 (hρ _ _ h1) (hρ _ _ h2) hok
                refine sat_blt (vs' := #[η a, η b]) rfl (by simp) ?_ g2
                rw [hcongr]; exact g1
            · cases h
      · -- copy
        obtain ⟨a, b, ha, h1, h2⟩ := mapM2 h0
        obtain rfl := arr2 ha
        cases ht : argTypes[0]? with
        | none => rw [ht] at h; cases h
        | some t =>
          rw [ht] at h
          simp only [Option.bind_some] at h
          have hcongr : ∀ vs, Builtin.copy_ argTypes ty vs = Builtin.copy_ #[t, t] ty vs := by intro vs; unfold Builtin.copy_; rw [ht]; rfl
          cases hu : P.underlying t with
          | none => rw [hu] at h; cases h
          | some d =>
            rw [hu] at h
            cases d <;> try (cases h; done)
            dsimp only at h
            split at h
            · cases h
            · rename_i hc
              cases h
              obtain ⟨w', g1, g2⟩ := copy_sound (P := P) (sT := t) (ty := ty) hs hu hc (hρ _ _ h1) (hρ _ _ h2) hok
              refine sat_blt (vs' := #[η a, η b]) rfl (by simp) ?_ g2
              rw [hcongr]; exact g1
      · -- cap
        obtain ⟨a, ha, h1⟩ := mapM1 h0
        obtain rfl := arr1 ha
        cases ht : argTypes[0]? with
        | none => rw [ht] at h; cases h
        | some t =>
          rw [ht] at h
          simp only [Option.bind_some] at h
          have hcongr : ∀ vs, Builtin.cap_ argTypes ty vs = Builtin.cap_ #[t] ty vs := by intro vs; unfold Builtin.cap_; rw [ht]; rfl
          cases hu : P.underlying t with
          | none => rw [hu] at h; cases h
          | some d =>
            rw [hu] at h
            cases d <;> try (cases h; done)
            cases h
            refine sat_blt (vs' := #[η a]) rfl (by simp) ?_ (post_same hs (v := .lit _) rfl)
            rw [hcongr]
            exact cap_sound ⟨_, hu⟩ (hρ _ _ h1) hok
      · -- clear
        obtain ⟨a, ha, h1⟩ := mapM1 h0
        obtain rfl := arr1 ha
        cases ht : argTypes[0]? with
        | none => rw [ht] at h; cases h
        | some t =>
          rw [ht] at h
          simp only [Option.bind_some] at h
          have hcongr : ∀ vs, Builtin.clear_ argTypes ty vs = Builtin.clear_ #[t] ty vs := by intro vs; unfold Builtin.clear_; rw [ht]; rfl
          cases hu : P.underlying t with
          | none => rw [hu] at h; cases h
          | some d =>
            rw [hu] at h
            cases d <;> try (cases h; done)
            dsimp only at h
            obtain ⟨z, hz, h⟩ := bind_some' h
            split at h
            · cases h
            · rename_i hc
              cases h
              obtain ⟨w', g1, g2⟩ := clear_sound (P := P) (ty := ty) hs hu hz hc (hρ _ _ h1) hok
              refine sat_blt (vs' := #[η a]) rfl (by simp) ?_ g2
              rw [hcongr]; exact g1
      · obtain ⟨a, b, ha, h1, h2⟩ := mapM2 h0
        obtain rfl := arr2 ha
        cases h
        obtain ⟨u, g1, g2⟩ := mn_sound (P := P) (hρ _ _ h1) (hρ _ _ h2) hok.1 hok.2 argTypes ty
        exact sat_blt (s := Builtin.min_ argTypes ty #[η a, η b]) rfl (by simp) g1 (post_same hs g2)
      · obtain ⟨a, b, ha, h1, h2⟩ := mapM2 h0
        obtain rfl := arr2 ha
        cases h
        obtain ⟨u, g1, g2⟩ := mx_sound (P := P) (hρ _ _ h1) (hρ _ _ h2) hok.1 hok.2 argTypes ty
        exact sat_blt (s := Builtin.max_ argTypes ty #[η a, η b]) rfl (by simp) g1 (post_same hs g2)
      · cases h
  | sliceToArrayPointer t x =>
    simp only [op?, Option.bind_eq_bind, Option.pure_def] at h
    cases hu : P.underlying t with
    | none => rw [hu] at h; cases h
    | some d =>
      rw [hu] at h
      cases d <;> try (cases h; done)
      dsimp only at h
      split at h
      · cases h
      · rename_i hc
        obtain ⟨x', h1, h⟩ := bind_some' h
        cases h
        obtain ⟨u, g1, g2⟩ := s2ap_sound (P := P) hu hc (hρ _ _ h1) hok
        exact sat_v g1 (post_same hs g2)
  | panic x =>
    simp only [op?] at h
    cases h
    exact hok.elim
  | _ => (simp only [op?] at h; cases h)
end
end Go.Proofs.Ytgfploghjpbcaaa.Eng
