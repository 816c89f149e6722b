/- Each operation of the model does what the abstract one says. -/
import Derived.Test.YtgfploghjpbcaaaEngC
namespace Go.Proofs.Ytgfploghjpbcaaa.Eng
open Go
set_option linter.unusedVariables false
set_option linter.unusedSimpArgs false

def cx (φ : Nat → Option Nat) (H : AH) (w : World) : Cx := ⟨φ, H, w.heap⟩
def Same (w w' : World) : Prop := w'.os = w.os ∧ w'.tape = w.tape ∧ w'.output = w.output
theorem Same.refl (w : World) : Same w w := ⟨rfl, rfl, rfl⟩
theorem Same.trans {a b c : World} (h : Same a b) (h' : Same b c) : Same a c := ⟨h'.1.trans h.1, h'.2.1.trans h.2.1, h'.2.2.trans h.2.2⟩
/-- What an operation (or a call) must leave. -/
def PostV (φ : Nat → Option Nat) (H : AH) (w : World) (v : AV) (H' : AH) (y : Value) (w' : World) : Prop :=
  ∃ φ', St (cx φ' H' w') ∧ Ext (cx φ H w) (cx φ' H' w') ∧ Same w w' ∧ R (cx φ' H' w') v y
def Sat (P : Program) (K : Value → World → Prop) : Result Next → Prop
  | .ok (.value y) w' => K y w'
  | .ok .skip w' => K undef w'
  | .ok (.enter f args) w' => Calls P f args w' (fun e w'' => ∃ y, e = .returned y ∧ K y w'')
  | _ => False
section
variable {P : Program} {φ : Nat → Option Nat} {H : AH} {w : World}
theorem post_same (hs : St (cx φ H w)) {v : AV} {y : Value} (h : R (cx φ H w) v y) : PostV φ H w v H y w := ⟨φ, hs, .refl _, .refl _, h⟩
/-- An operation that yields a value. -/
theorem sat_v {K : Value → World → Prop} {s : Sem Value} {y : Value} {w' : World} (h : s.run P w = .ok y w') (hk : K y w') : Sat P K (Sem.run P (do pure (Next.value (← s))) w) := by
  simp only [Sem.run_bind, h, Result.andThen_ok, Sem.run_pure, Sat]; exact hk
theorem sat_u {K : Value → World → Prop} {s : Sem Unit} {w' : World} (h : s.run P w = .ok () w') (hk : K undef w') : Sat P K (Sem.run P (do s; pure Next.skip) w) := by
  simp only [Sem.run_bind, h, Result.andThen_ok, Sem.run_pure, Sat]; exact hk

theorem bin_sound {op : BinOp} {x y : AV} {a b : Value} (hx : R (cx φ H w) x a) (hy : R (cx φ H w) y b) (hok : binOk op x y) (t : TypeId) (X Y : Operand) :
    ∃ u, (do eqGuard op t X Y a b; binOp op t a b : Sem Value).run P w = .ok u w ∧ R (cx φ H w) (binv op x y) u := by
  unfold binOk at hok
  split at hok
  · rename_i k i k' j
    cases hx; cases hy
    refine ⟨ibin op k i j, ?_, rfl⟩
    cases op <;> simp only [ibinOk] at hok <;>
      simp [eqGuard, binOp, ibin, bAnd, bOr, bXor, bAndNot, hok, Op.intArith, Op.intDiv, Op.intBits, Op.intCmp, Op.shift, Int.not_lt.2]
  · rename_i s t'
    cases hx; cases hy
    refine ⟨sbin op s t', ?_, rfl⟩
    cases op <;> simp only [sbinOk] at hok <;> first
      | exact hok.elim
      | (have h' : ¬ ((9223372036854775807 : Int) < (s.size : Int) + (t'.size : Int)) := by omega
         simp [eqGuard, binOp, sbin, Op.stringOp, IntKind.max, IntKind.signed, IntKind.bits, h'])
      | simp [eqGuard, binOp, sbin, Op.stringOp]
  · exact hok.elim
/-- A type of whole numbers, values of which may be held against each other inside an interface. -/
def cmpT (P : Program) (t : TypeId) : Bool := (match P.underlying t with | some (.int _) => true | _ => false) && (match P.info? t with | some i => i.comparable | none => false)
section
variable {t : TypeId} (n : Nat)
theorem eqn_bool (h : P.underlying t = some .bool) (a b : Bool) : (Op.equalIn (n + 1) t (.bool a) (.bool b)).run P w = .ok (a == b) w := by simp [Op.equalIn, run_underlying h]
theorem eqn_int {k : IntKind} (h : P.underlying t = some (.int k)) (k' : IntKind) (a b : Int) : (Op.equalIn (n + 1) t (.int k' a) (.int k' b)).run P w = .ok (a == b) w := by simp [Op.equalIn, run_underlying h]
theorem eqn_pp {e : TypeId} (h : P.underlying t = some (.pointer e)) : (Op.equalIn (n + 1) t (.pointer none) (.pointer none)).run P w = .ok true w := by simp [Op.equalIn, run_underlying h]
theorem eqn_pa {e : TypeId} (h : P.underlying t = some (.pointer e)) (a : Addr) : (Op.equalIn (n + 1) t (.pointer none) (.pointer (some a))).run P w = .ok false w := by simp [Op.equalIn, run_underlying h]
theorem eqn_ap {e : TypeId} (h : P.underlying t = some (.pointer e)) (a : Addr) : (Op.equalIn (n + 1) t (.pointer (some a)) (.pointer none)).run P w = .ok false w := by simp [Op.equalIn, run_underlying h]
theorem eqn_sa {e : TypeId} (h : P.underlying t = some (.slice e)) (a : Option Addr) (l c : Nat) : (Op.equalIn (n + 1) t (.slice none 0 0) (.slice a l c)).run P w = .ok a.isNone w := by simp [Op.equalIn, run_underlying h]
theorem eqn_as {e : TypeId} (h : P.underlying t = some (.slice e)) (a : Option Addr) (l c : Nat) : (Op.equalIn (n + 1) t (.slice a l c) (.slice none 0 0)).run P w = .ok a.isNone w := by cases a <;> simp [Op.equalIn, run_underlying h]
theorem eqn_ff {p q : Array TypeId} {r : Bool} (h : P.underlying t = some (.func p q r)) : (Op.equalIn (n + 1) t .nilFunc .nilFunc).run P w = .ok true w := by simp [Op.equalIn, run_underlying h]
theorem eqn_fg {p q : Array TypeId} {r : Bool} (h : P.underlying t = some (.func p q r)) (f : Fn) (a b : Array Value) : (Op.equalIn (n + 1) t .nilFunc (.func f a b)).run P w = .ok false w := by simp [Op.equalIn, run_underlying h]
theorem eqn_gf {p q : Array TypeId} {r : Bool} (h : P.underlying t = some (.func p q r)) (f : Fn) (a b : Array Value) : (Op.equalIn (n + 1) t (.func f a b) .nilFunc).run P w = .ok false w := by simp [Op.equalIn, run_underlying h]
theorem eqn_nn {m : Array (String × TypeId)} (h : P.underlying t = some (.interface m)) : (Op.equalIn (n + 1) t .nilIface .nilIface).run P w = .ok true w := by simp [Op.equalIn, run_underlying h]
theorem eqn_ni {m : Array (String × TypeId)} (h : P.underlying t = some (.interface m)) (u : TypeId) (v : Value) : (Op.equalIn (n + 1) t .nilIface (.iface u v)).run P w = .ok false w := by simp [Op.equalIn, run_underlying h]
theorem eqn_in {m : Array (String × TypeId)} (h : P.underlying t = some (.interface m)) (u : TypeId) (v : Value) : (Op.equalIn (n + 1) t (.iface u v) .nilIface).run P w = .ok false w := by simp [Op.equalIn, run_underlying h]
theorem eqn_ij {m : Array (String × TypeId)} (h : P.underlying t = some (.interface m)) (u u' : TypeId) (v v' : Value) (hu : u ≠ u') : (Op.equalIn (n + 1) t (.iface u v) (.iface u' v')).run P w = .ok false w := by simp [Op.equalIn, run_underlying h, hu]
theorem eqn_ii {m : Array (String × TypeId)} (h : P.underlying t = some (.interface m)) {u : TypeId} (hu : cmpT P u = true) (k : IntKind) (a b : Int) : (Op.equalIn (n + 1 + 1) t (.iface u (.int k a)) (.iface u (.int k b))).run P w = .ok (a == b) w := by
  simp only [cmpT, Bool.and_eq_true] at hu
  obtain ⟨h4, h5⟩ := hu
  cases hk : P.underlying u with
  | none => rw [hk] at h4; cases h4
  | some dd =>
    cases hi : P.info? u with
    | none => rw [hi] at h5; cases h5
    | some ii =>
      rw [hk] at h4; rw [hi] at h5
      cases dd <;> simp at h4
      rw [Op.equalIn]
      simp [run_underlying h, typeInfo, hi, h5, eqn_int n hk]
end
theorem eq_run {neq : Bool} {t : TypeId} {X Y : Operand} {a b : Value} {r : Bool} (h1 : binOp .eql t a b = (do pure (.bool (← Op.equal t a b)))) (h2 : binOp .neq t a b = (do pure (.bool (!(← Op.equal t a b)))))
    (hG : (eqGuard (if neq then .neq else .eql) t X Y a b).run P w = .ok () w) (hE : (Op.equalIn (9998 + 1 + 1) t a b).run P w = .ok r w) :
    (do eqGuard (if neq then .neq else .eql) t X Y a b; binOp (if neq then .neq else .eql) t a b : Sem Value).run P w = .ok (.bool (r != neq)) w := by
  have hE' : (Op.equal t a b).run P w = .ok r w := hE
  rw [Sem.run_bind, hG]
  cases neq
  · simp only [Result.andThen_ok, Bool.false_eq_true, if_false, h1, Sem.run_bind, hE', Sem.run_pure]; simp
  · simp only [Result.andThen_ok, if_true, h2, Sem.run_bind, hE', Sem.run_pure]; cases r <;> rfl
theorem eq_sound {cmp : TypeId → Bool} (hcmp : ∀ t, cmp t = true → cmpT P t = true) {tk : TK} {neq : Bool} {x y : AV} {a b : Value} {X Y : Operand} {x' y' : IArg} (hX : arg? X = some x') (hY : arg? Y = some y') (hx : R (cx φ H w) x a) (hy : R (cx φ H w) y b) (hok : eqOk cmp tk (isC x' || isC y') x y) (t : TypeId) {d : TypeDesc}
    (hd : P.underlying t = some d) (htk : match tk with | .b => d = .bool | .i => ∃ m, d = .interface m | .p => ∃ e, d = .pointer e | .s => ∃ e, d = .slice e | .f => ∃ p q r, d = .func p q r) :
    (do eqGuard (if neq then .neq else .eql) t X Y a b; binOp (if neq then .neq else .eql) t a b : Sem Value).run P w = .ok (.bool (eqv tk x y != neq)) w := by
  have hC : (isC x' || isC y') = true → (∃ v, X = .const v) ∨ ∃ v, Y = .const v := by
    intro h
    cases X <;> cases Y <;> simp [arg?] at hX hY <;> subst hX <;> subst hY <;> simp_all [isC]
  have g0 : ∀ (op : BinOp) (u v : Value), (∀ m n, (u, v) ≠ (.agg m, .agg n)) → ((u, v) ≠ (.nilIface, .nilIface)) → (eqGuard op t X Y u v).run P w = .ok () w := by
    intro op u v h1 h2
    unfold eqGuard
    cases op <;> try rfl
    all_goals (cases u <;> cases v <;> first | rfl | exact absurd rfl h2 | exact absurd rfl (h1 _ _))
  unfold eqOk at hok
  split at hok
  · cases hx; cases hy; subst hok; cases htk
    exact eq_run rfl rfl (g0 _ _ _ (by simp) (by simp)) (eqn_bool _ hd _ _)
  · rename_i t1 k i u k' j
    cases hx; cases hy
    obtain ⟨rfl, h2⟩ := hok
    obtain ⟨m, rfl⟩ := htk
    by_cases htu : t1 = u
    · subst htu
      obtain ⟨rfl, h3⟩ := h2 rfl
      have := eq_run (neq := neq) (X := X) (Y := Y) rfl rfl (g0 _ _ _ (by simp) (by simp)) (eqn_ii (w := w) 9998 hd (hcmp _ h3) k i j)
      have e : eqv .i (.lit (.iface t1 (.int k i))) (.lit (.iface t1 (.int k j))) = (i == j) := by simp [eqv]
      rw [e]; exact this
    · have := eq_run (neq := neq) (X := X) (Y := Y) rfl rfl (g0 _ _ _ (by simp) (by simp)) (eqn_ij (w := w) 9999 hd t1 u (.int k i) (.int k' j) htu)
      have e : eqv .i (.lit (.iface t1 (.int k i))) (.lit (.iface u (.int k' j))) = false := by simp [eqv, htu]
      rw [e]; exact this
  · cases hx; cases hy
    obtain ⟨rfl, h2⟩ := hok
    obtain ⟨m, rfl⟩ := htk
    have h3 := hC h2
    refine eq_run rfl rfl ?_ (eqn_nn _ hd)
    rcases h3 with ⟨v, rfl⟩ | ⟨v, rfl⟩
    · cases neq <;> rfl
    · cases neq <;> cases X <;> rfl
  · cases hx; cases hy; subst hok; obtain ⟨m, rfl⟩ := htk
    exact eq_run rfl rfl (g0 _ _ _ (by simp) (by simp)) (eqn_ni _ hd _ _)
  · cases hx; cases hy; subst hok; obtain ⟨m, rfl⟩ := htk
    have e : ∀ (u : TypeId) (v : Value), eqv .i (.lit (.iface u v)) (.lit .nilIface) = false := fun u v => by cases v <;> rfl
    rw [e]
    exact eq_run rfl rfl (g0 _ _ _ (by simp) (by simp)) (eqn_in _ hd _ _)
  · cases hx; cases hy; subst hok; obtain ⟨m, rfl⟩ := htk
    exact eq_run rfl rfl (g0 _ _ _ (by simp) (by simp)) (eqn_pp _ hd)
  · obtain ⟨_, _, _, _, _, rfl⟩ := hy; cases hx; subst hok; obtain ⟨m, rfl⟩ := htk
    exact eq_run rfl rfl (g0 _ _ _ (by simp) (by simp)) (eqn_pa _ hd _)
  · obtain ⟨_, rfl, _⟩ := hy; cases hx; subst hok; obtain ⟨m, rfl⟩ := htk
    exact eq_run rfl rfl (g0 _ _ _ (by simp) (by simp)) (eqn_pa _ hd _)
  · obtain ⟨_, _, _, rfl, _⟩ := hy; cases hx; subst hok; obtain ⟨m, rfl⟩ := htk
    exact eq_run rfl rfl (g0 _ _ _ (by simp) (by simp)) (eqn_pa _ hd _)
  · obtain ⟨_, _, _, _, _, rfl⟩ := hx; cases hy; subst hok; obtain ⟨m, rfl⟩ := htk
    exact eq_run rfl rfl (g0 _ _ _ (by simp) (by simp)) (eqn_ap _ hd _)
  · obtain ⟨_, rfl, _⟩ := hx; cases hy; subst hok; obtain ⟨m, rfl⟩ := htk
    exact eq_run rfl rfl (g0 _ _ _ (by simp) (by simp)) (eqn_ap _ hd _)
  · obtain ⟨_, _, _, rfl, _⟩ := hx; cases hy; subst hok; obtain ⟨m, rfl⟩ := htk
    exact eq_run rfl rfl (g0 _ _ _ (by simp) (by simp)) (eqn_ap _ hd _)
  · cases hx; cases hy; subst hok; obtain ⟨m, rfl⟩ := htk
    exact eq_run rfl rfl (g0 _ _ _ (by simp) (by simp)) (eqn_sa _ hd _ _ _)
  · cases hx; obtain ⟨rfl, h2⟩ := hok; obtain ⟨m, rfl⟩ := htk
    obtain ⟨a, cap, rfl, _, h3, _⟩ := hy
    obtain ⟨a0, rfl⟩ : ∃ a0, a = some a0 := by cases a <;> simp_all <;> omega
    exact eq_run rfl rfl (g0 _ _ _ (by simp) (by simp)) (eqn_sa _ hd _ _ _)
  · cases hx; obtain ⟨rfl, h2⟩ := hok; obtain ⟨m, rfl⟩ := htk
    obtain ⟨a, cap, rfl, _, h3, _⟩ := hy
    obtain ⟨a0, rfl⟩ : ∃ a0, a = some a0 := by cases a <;> simp_all <;> omega
    exact eq_run rfl rfl (g0 _ _ _ (by simp) (by simp)) (eqn_sa _ hd _ _ _)
  · cases hy; obtain ⟨rfl, h2⟩ := hok; obtain ⟨m, rfl⟩ := htk
    obtain ⟨a, cap, rfl, _, h3, _⟩ := hx
    obtain ⟨a0, rfl⟩ : ∃ a0, a = some a0 := by cases a <;> simp_all <;> omega
    exact eq_run rfl rfl (g0 _ _ _ (by simp) (by simp)) (eqn_as _ hd _ _ _)
  · cases hy; obtain ⟨rfl, h2⟩ := hok; obtain ⟨m, rfl⟩ := htk
    obtain ⟨a, cap, rfl, _, h3, _⟩ := hx
    obtain ⟨a0, rfl⟩ : ∃ a0, a = some a0 := by cases a <;> simp_all <;> omega
    exact eq_run rfl rfl (g0 _ _ _ (by simp) (by simp)) (eqn_as _ hd _ _ _)
  · cases hx; cases hy; subst hok; obtain ⟨p, q, r, rfl⟩ := htk
    exact eq_run rfl rfl (g0 _ _ _ (by simp) (by simp)) (eqn_ff _ hd)
  · cases hx; subst hok; obtain ⟨p, q, r, rfl⟩ := htk; obtain ⟨fs, cps, rfl, _⟩ := hy
    exact eq_run rfl rfl (g0 _ _ _ (by simp) (by simp)) (eqn_fg _ hd _ _ _)
  · cases hy; subst hok; obtain ⟨p, q, r, rfl⟩ := htk; obtain ⟨fs, cps, rfl, _⟩ := hx
    exact eq_run rfl rfl (g0 _ _ _ (by simp) (by simp)) (eqn_gf _ hd _ _ _)
  · exact hok.elim
end
end Go.Proofs.Ytgfploghjpbcaaa.Eng
