/- A function's contract from its code. -/
import Derived.Test.YtgfploghjpbcaaaEngK
namespace Go.Proofs.Ytgfploghjpbcaaa.Eng
open Go
set_option linter.unusedVariables false
set_option linter.unusedSimpArgs false
def enterL : Nat → List AV → List (Nat × AV)
  | _, [] => []
  | i, a :: r => (i, a) :: enterL (i + 1) r
theorem enter_get : ∀ (args : List AV) (i n : Nat), look (enterL i args) (i + n) = args.getD n .junk
  | [], i, n => rfl
  | a :: r, i, n => by
    show (if i + n = i then a else look (enterL (i + 1) r) (i + n)) = _
    cases n with
    | zero => simp
    | succ n =>
      rw [if_neg (by omega), show i + (n + 1) = (i + 1) + n by omega, enter_get r (i + 1) n]
      simp
/-- A call of function f on these values, these objects being there, comes back with v, and with these objects. -/
structure Called (P : Program) (f : FuncId) (args : List AV) (H : AH) (v : AV) (H' : AH) : Prop where
  ok : okCall P f = true
  runs : ∀ φ w (vals : Array Value), St (cx φ H w) → RL (cx φ H w) args vals.toList → Calls P f vals w (fun e w' => ∃ y, e = .returned y ∧ PostV φ H w v H' y w')
theorem callOk_called (P : Program) : CallOk P (Called P) := fun f args H v H' h => ⟨h.ok, h.runs⟩
/-- At a function's end. -/
def retQ (rs : List IRes) (H : AH) (v : AV) (H' : AH) : Ex → Env → AH → Prop := fun e E H2 => match e with
  | .ret => resOk E H2 rs ∧ Leave H (resVal (rs.map (resV E H2))) H2 v H'
  | _ => False
section
variable {P : Program} {pf : Pf}
theorem fn_called (hm : P.follows .mixedOrders = true) (hcmp : ∀ t, pf.c t = true → cmpT P t = true) {f : FuncId} {fn : Func} (hf : P.funcs[f]? = some fn) (hok : okCall P f = true) {own : Nat → Bool} {ic : IC} (hcF : compF P pf own fn = some ic)
    {rs : List IRes} (hrs : fn.results.toList.mapM (res? P) = some rs) {args : List AV} {H : AH} {v : AV} {H' : AH} (h : iwp pf (Called P) ic (retQ rs H v H') (look (enterL 0 args)) H) : Called P f args H v H' := by
  refine ⟨hok, fun φ w vals hs hr => ?_⟩
  unfold compF at hcF
  cases hb : fn.body with
  | none => rw [hb] at hcF; cases hcF
  | some c =>
    rw [hb] at hcF
    dsimp only at hcF
    rw [Option.map_eq_some_iff] at hcF
    obtain ⟨⟨ic', lv⟩, h1, h2⟩ := hcF
    dsimp only at h2
    subst h2
    have hl := hr.length
    simp only [Array.length_toList] at hl
    have hSI : SI fn.ntmps (cx φ H w) w (look (enterL 0 args)) H { tmps := vals ++ Array.replicate (fn.ntmps - vals.size) undef, defers := [] } w := by
      refine ⟨⟨φ, hs, .refl _, fun i => ?_⟩, .refl _, by simp; omega, rfl⟩
      have e := enter_get args 0 i
      rw [Nat.zero_add] at e
      rw [e]
      by_cases hi : i < args.length
      · have h3 := hr.getD i hi undef
        have e2 : vals.toList.getD i undef = (vals ++ Array.replicate (fn.ntmps - vals.size) undef).getD i undef := by
          rw [List.getD_eq_getElem?_getD, Array.getD_eq_getD_getElem?, Array.getElem?_append_left (by omega), Array.getElem?_toList]
        rw [← e2]; exact h3
      · rw [List.getD_eq_getElem?_getD, List.getElem?_eq_none (by omega)]; trivial
    refine calls_of_wp hf hb (wp_mono (comp_sound (X := ⟨pf, own, fn.ntmps, resL fn.results⟩) (callOk_called P) hm hcmp c [] .ret (resL fn.results) ic' lv h1 _ _ _ _ _ hSI h) ?_)
    have fin : ∀ (a : Act) (w' : World) (E : Env) (H2 : AH), SI fn.ntmps (cx φ H w) w E H2 a w' → retQ rs H v H' .ret E H2 → a.defers = [] ∧ ∃ y, (results fn a.tmps).run P w' = .ok y w' ∧ ∃ y', Ending.returned y = .returned y' ∧ PostV φ H w v H' y' w' := by
      rintro a w' E H2 ⟨⟨φ2, g1, g2, g3⟩, g4, g5, g6⟩ ⟨k1, k2⟩
      obtain ⟨y, r1, r2⟩ := results_sound (P := P) g1 g3 hrs k1
      obtain ⟨φ', l1, l2, l3⟩ := k2 φ w φ2 w' y hs g1 g2 r2
      exact ⟨g6, y, r1, y, rfl, φ', l1, l2, g4, l3⟩
    rintro e a w' ⟨E, H2, s1, s2⟩
    cases e with
    | normal => exact fin a w' E H2 s1 s2
    | ret => exact fin a w' E H2 s1 s2
    | _ => exact s2.elim
end
end Go.Proofs.Ytgfploghjpbcaaa.Eng
