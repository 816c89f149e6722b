/- Equality of structs and arrays of whole numbers and bools. -/
import Derived.Test.YtgfploghjpbcaaaEngD6
import Derived.Laws.StructEq
import Derived.Laws.Externs
namespace Go.Proofs.Ytgfploghjpbcaaa.Eng
open Go
set_option linter.unusedVariables false
set_option linter.unusedSimpArgs false
section
variable {P : Program} {φ : Nat → Option Nat} {H : AH} {w : World}
def vKind : Value → Option (Option IntKind)
  | .int k _ => some (some k)
  | .bool _ => some none
  | _ => none
def vEq : Value → Value → Bool
  | .int _ a, .int _ b => a == b
  | .bool a, .bool b => a == b
  | _, _ => false
def vsEq : List Value → List Value → Bool
  | [], [] => true
  | a :: r, b :: s => vEq a b && vsEq r s
  | _, _ => false
/-- A value of type t out of its cells. -/
def valOf (P : Program) (t : TypeId) (xs : List Value) : Value := if isAggT P t then .agg xs.toArray else xs.headD undef
theorem vsEq_append : ∀ {a c b d : List Value}, a.length = c.length → vsEq (a ++ b) (c ++ d) = (vsEq a c && vsEq b d)
  | [], [], b, d, _ => by simp [vsEq]
  | x :: a, y :: c, b, d, h => by simp [vsEq, vsEq_append (a := a) (c := c) (b := b) (d := d) (by simpa using h), Bool.and_assoc]
  | [], _ :: _, _, _, h => by simp at h
  | _ :: _, [], _, _, h => by simp at h
theorem run_partV {t : TypeId} (hA : (P.underlying t).isNone = false) {n : Nat} (hc : P.cellsOf t = n) (hn : 0 < n) (hagg : isAggT P t = false → n = 1) (xs : List Value) (off : Nat) (hfit : off + n ≤ xs.length) :
    (part t xs.toArray off).run P w = .ok (valOf P t ((xs.drop off).take n)) w := by
  obtain ⟨i, hi, hsz⟩ := info_of_cells (t := t) (P := P) (by omega)
  unfold part valOf
  cases hg : isAggT P t
  · have hlt : off < xs.length := by omega
    have h1 : xs.toArray[off]? = some xs[off] := by simp [hlt]
    simp only [Sem.run_bind, run_isAgg' hA, hg, Result.andThen_ok, Bool.false_eq_true, if_false, h1, Sem.run_pure]
    rw [hagg hg]
    have : (xs.drop off).take 1 = [xs[off]] := by
      rw [List.drop_eq_getElem_cons hlt]; rfl
    rw [this]; rfl
  · simp only [Sem.run_bind, run_isAgg' hA, hg, Result.andThen_ok, if_true, sizeOf, typeInfo, run_program, hi, Sem.run_pure, hsz, hc]
    congr 2
    apply Array.ext'
    rw [Array.toList_extract, List.extract_eq_take_drop]
    simp
/-- The model's loop over an array's elements. -/
def eqElems (d : Nat) (e : TypeId) (n : Nat) (xs ys : Array Value) : List Nat → Sem Bool
  | [] => pure true
  | i :: r => do
    let a ← part e xs (i * n)
    let b ← part e ys (i * n)
    let q ← Op.equalIn d e a b
    if (!q) = true then pure false else eqElems d e n xs ys r
theorem run_equalIn_array (d : Nat) {t e : TypeId} {len : Nat} (xs ys : Array Value) (ht : P.underlying t = some (.array len e)) {i : TypeInfo} (hi : P.info? e = some i) :
    (Op.equalIn (d + 1) t (.agg xs) (.agg ys)).run P w = (eqElems d e i.size xs ys (List.range len)).run P w := by
  simp only [Op.equalIn, Sem.run_bind, run_underlying ht, Result.andThen_ok, sizeOf, typeInfo, run_program, hi, Sem.run_pure, Std.Legacy.Range.forIn_eq_forIn_range', Std.Legacy.Range.size]
  rw [List.range_eq_range']
  simp only [Nat.sub_zero, Nat.add_sub_cancel, Nat.div_one, Nat.zero_add]
  generalize 0 = s
  clear ht
  induction len generalizing w s with
  | zero => simp [eqElems]
  | succ len ih =>
    simp only [List.range'_succ, List.forIn_cons, eqElems, Sem.run_bind]
    generalize (part e xs (s * i.size)).run P w = r1
    cases r1 with
    | halt x w1 => simp [Result.andThen]
    | ok a w1 =>
      simp only [Result.andThen_ok]
      generalize (part e ys (s * i.size)).run P w1 = r2
      cases r2 with
      | halt x w2 => simp [Result.andThen]
      | ok b w2 =>
        simp only [Result.andThen_ok]
        generalize (Op.equalIn d e a b).run P w2 = r3
        cases r3 with
        | halt x w3 => simp [Result.andThen]
        | ok r w3 =>
          cases r
          · simp only [Result.andThen_ok, Bool.not_false, if_true, Sem.run_pure]
          · simp only [Result.andThen_ok, Bool.not_true, Bool.false_eq_true, if_false, Sem.run_pure]
            exact ih (s + 1)
structure FlatOk (P : Program) (t : TypeId) (ks : List (Option IntKind)) : Prop where
  und : (P.underlying t).isNone = false
  len : P.cellsOf t = ks.length
  pos : 0 < ks.length
  one : isAggT P t = false → ks.length = 1
theorem addK_none (flat : TypeId → Option (List (Option IntKind))) : ∀ fs : List Field, fs.foldl (addK flat) none = none
  | [] => rfl
  | f :: r => addK_none flat r
theorem addK_some {flat : TypeId → Option (List (Option IntKind))} {acc acc' : List (Option IntKind)} {f : Field} (h : addK flat (some acc) f = some acc') : f.name ≠ "_" ∧ f.offset = acc.length ∧ ∃ kf, flat f.type = some kf ∧ acc' = acc ++ kf := by
  unfold addK at h
  dsimp only at h
  split at h
  · cases h
  · rename_i hc
    simp only [Bool.or_eq_true, decide_eq_true_eq, bne_iff_ne, ne_eq, not_or, Decidable.not_not] at hc
    cases hf : flat f.type with
    | none => rw [hf] at h; cases h
    | some kf => rw [hf] at h; cases h; exact ⟨hc.1, hc.2, kf, rfl, rfl⟩
theorem map_split {α β : Type} {f : α → β} {xs : List α} {a b : List β} (h : xs.map f = a ++ b) : (xs.take a.length).map f = a ∧ (xs.drop a.length).map f = b := by
  rw [List.map_take, List.map_drop, h]; simp
theorem flat_ok : ∀ (d : Nat) (t : TypeId) (ks : List (Option IntKind)), flatK P d t = some ks → FlatOk P t ks := by
  intro d
  induction d with
  | zero => intro t ks h; cases h
  | succ d ih =>
    intro t ks h
    unfold flatK at h
    cases hu : P.underlying t with
    | none => rw [hu] at h; cases h
    | some dd =>
      have hund : (P.underlying t).isNone = false := by rw [hu]; rfl
      rw [hu] at h
      cases dd <;> try (cases h; done)
      case bool =>
        dsimp only at h
        split at h
        · cases h; exact ⟨hund, by assumption, by simp, fun _ => rfl⟩
        · cases h
      case int k =>
        dsimp only at h
        split at h
        · cases h; exact ⟨hund, by assumption, by simp, fun _ => rfl⟩
        · cases h
      case array n e =>
        dsimp only at h
        cases hk : flatK P d e with
        | none => rw [hk] at h; cases h
        | some kk =>
          rw [hk] at h
          simp only [Option.bind_some] at h
          split at h
          · rename_i hc
            simp only [Bool.and_eq_true, decide_eq_true_eq, bne_iff_ne, ne_eq] at hc
            cases h
            have h1 := (ih e kk hk).pos
            exact ⟨hund, by rw [hc.1]; simp [List.length_flatten], (by simp only [List.length_flatten, List.map_replicate, List.sum_replicate_nat]; exact Nat.mul_pos (by omega) h1), fun hA => by simp [isAggT, hu] at hA⟩
          · cases h
      case struct fs =>
        dsimp only at h
        split at h
        · cases h
        · cases hk : fs.toList.foldl (addK (flatK P d)) (some []) with
          | none => rw [hk] at h; cases h
          | some kk =>
            rw [hk] at h
            simp only [Option.bind_some] at h
            split at h
            · rename_i hc
              simp only [Bool.and_eq_true, decide_eq_true_eq, Bool.not_eq_true', List.isEmpty_eq_false_iff] at hc
              cases h
              exact ⟨hund, hc.1, List.length_pos_iff.2 hc.2, fun hA => by simp [isAggT, hu] at hA⟩
            · cases h
theorem vKind_len {xs : List Value} {ks : List (Option IntKind)} (h : xs.map vKind = ks.map some) : xs.length = ks.length := by
  have := congrArg List.length h
  simpa using this
theorem flat_sound : ∀ (d : Nat) (t : TypeId) (ks : List (Option IntKind)), flatK P d t = some ks → ∀ D, d ≤ D → ∀ xs ys : List Value, xs.map vKind = ks.map some → ys.map vKind = ks.map some →
    (Op.equalIn D t (valOf P t xs) (valOf P t ys)).run P w = .ok (vsEq xs ys) w := by
  intro d
  induction d with
  | zero => intro t ks h; cases h
  | succ d ih =>
    intro t ks h D hD xs ys hx hy
    obtain ⟨D, rfl⟩ : ∃ D', D = D' + 1 := ⟨D - 1, by omega⟩
    have hok := flat_ok _ _ _ h
    have hxl := vKind_len hx
    have hyl := vKind_len hy
    unfold flatK at h
    cases hu : P.underlying t with
    | none => rw [hu] at h; cases h
    | some dd =>
      rw [hu] at h
      cases dd <;> try (cases h; done)
      case bool =>
        dsimp only at h
        split at h <;> cases h
        have hA : isAggT P t = false := by simp [isAggT, hu]
        cases xs with
        | nil => simp at hx
        | cons x r =>
          cases ys with
          | nil => simp at hy
          | cons y s =>
            simp only [List.map_cons, List.map_nil, List.cons.injEq, List.map_eq_nil_iff] at hx hy
            obtain ⟨hx, rfl⟩ := hx
            obtain ⟨hy, rfl⟩ := hy
            cases x <;> simp [vKind] at hx
            cases y <;> simp [vKind] at hy
            simp only [valOf, hA, Bool.false_eq_true, if_false, List.headD_cons]
            rw [eqn_bool _ hu]; simp [vsEq, vEq]
      case int k =>
        dsimp only at h
        split at h <;> cases h
        have hA : isAggT P t = false := by simp [isAggT, hu]
        cases xs with
        | nil => simp at hx
        | cons x r =>
          cases ys with
          | nil => simp at hy
          | cons y s =>
            simp only [List.map_cons, List.map_nil, List.cons.injEq, List.map_eq_nil_iff] at hx hy
            obtain ⟨hx, rfl⟩ := hx
            obtain ⟨hy, rfl⟩ := hy
            cases x <;> simp [vKind] at hx
            cases y <;> simp [vKind] at hy
            subst hx; subst hy
            simp only [valOf, hA, Bool.false_eq_true, if_false, List.headD_cons]
            rw [eqn_int _ hu]; simp [vsEq, vEq]
      case array n e =>
        have hA : isAggT P t = true := by simp [isAggT, hu]
        dsimp only at h
        cases hk : flatK P d e with
        | none => rw [hk] at h; cases h
        | some kk =>
          rw [hk] at h
          simp only [Option.bind_some] at h
          split at h <;> cases h
          have he := flat_ok _ _ _ hk
          obtain ⟨i, hi, hsz⟩ := info_of_cells (t := e) (P := P) (by rw [he.len]; have := he.pos; omega)
          simp only [valOf, hA, if_true]
          rw [run_equalIn_array D _ _ hu hi, hsz, he.len, List.range_eq_range']
          have key : ∀ (m s : Nat), s * kk.length ≤ xs.length → (xs.drop (s * kk.length)).map vKind = (List.replicate m kk).flatten.map some → (ys.drop (s * kk.length)).map vKind = (List.replicate m kk).flatten.map some → s * kk.length ≤ ys.length →
              (eqElems D e kk.length xs.toArray ys.toArray (List.range' s m)).run P w = .ok (vsEq (xs.drop (s * kk.length)) (ys.drop (s * kk.length))) w := by
            intro m
            induction m with
            | zero =>
              intro s _ h1 h2 _
              simp at h1 h2
              rw [List.drop_eq_nil_of_le (by omega), List.drop_eq_nil_of_le (by omega)]
              rfl
            | succ m ihm =>
              intro s h0 h1 h2 h3
              rw [List.replicate_succ, List.flatten_cons, List.map_append] at h1 h2
              have l1 := vKind_len (ks := kk ++ (List.replicate m kk).flatten) (by rw [h1, List.map_append])
              have l2 := vKind_len (ks := kk ++ (List.replicate m kk).flatten) (by rw [h2, List.map_append])
              simp only [List.length_drop, List.length_append] at l1 l2
              obtain ⟨a1, a2⟩ := map_split h1
              obtain ⟨b1, b2⟩ := map_split h2
              rw [List.length_map] at a1 a2 b1 b2
              rw [List.drop_drop] at a2 b2
              have e1 : s * kk.length + kk.length = (s + 1) * kk.length := by rw [Nat.succ_mul]
              rw [e1] at a2 b2
              have p1 := run_partV (P := P) (w := w) he.und he.len he.pos he.one xs (s * kk.length) (by omega)
              have p2 := run_partV (P := P) (w := w) he.und he.len he.pos he.one ys (s * kk.length) (by omega)
              have q := ih e kk hk D (by omega) _ _ a1 b1
              simp only [List.range'_succ, eqElems, Sem.run_bind, p1, p2, Result.andThen_ok, q]
              have hlen : ((xs.drop (s * kk.length)).take kk.length).length = ((ys.drop (s * kk.length)).take kk.length).length := by
                simp only [List.length_take, List.length_drop]; omega
              have hsplit : vsEq (xs.drop (s * kk.length)) (ys.drop (s * kk.length)) = (vsEq ((xs.drop (s * kk.length)).take kk.length) ((ys.drop (s * kk.length)).take kk.length) && vsEq (xs.drop ((s + 1) * kk.length)) (ys.drop ((s + 1) * kk.length))) := by
                rw [← e1, ← List.drop_drop, ← List.drop_drop, ← vsEq_append hlen, List.take_append_drop, List.take_append_drop]
              rw [hsplit]
              cases vsEq ((xs.drop (s * kk.length)).take kk.length) ((ys.drop (s * kk.length)).take kk.length)
              · rfl
              · simp only [Bool.not_true, Bool.false_eq_true, if_false, Bool.true_and]
                exact ihm (s + 1) (by omega) a2 b2 (by omega)
          have := key n 0 (by omega) (by simpa using hx) (by simpa using hy) (by omega)
          simpa using this
      case struct fs =>
        have hA : isAggT P t = true := by simp [isAggT, hu]
        dsimp only at h
        split at h
        · cases h
        rename_i hst
        cases hk : fs.toList.foldl (addK (flatK P d)) (some []) with
        | none => rw [hk] at h; cases h
        | some kk =>
          rw [hk] at h
          simp only [Option.bind_some] at h
          split at h <;> cases h
          simp only [valOf, hA, if_true]
          have hfo : P.fieldsOf t = fs := by simp [Program.fieldsOf, hu]
          rw [run_equalIn_struct w D t _ _ (by rw [hfo]; exact hu) (by simpa using hst), hfo]
          have key : ∀ (l : List Field) (acc : List (Option IntKind)), l.foldl (addK (flatK P d)) (some acc) = some ks → (∃ rest, ks = acc ++ rest) ∧
              (Op.eqFields D xs.toArray ys.toArray l).run P w = .ok (vsEq (xs.drop acc.length) (ys.drop acc.length)) w := by
            intro l
            induction l with
            | nil =>
              intro acc ha
              simp only [List.foldl_nil, Option.some.injEq] at ha
              subst ha
              refine ⟨⟨[], by simp⟩, ?_⟩
              rw [List.drop_eq_nil_of_le (by omega), List.drop_eq_nil_of_le (by omega)]
              rfl
            | cons f r ihl =>
              intro acc ha
              rw [List.foldl_cons] at ha
              cases hk1 : addK (flatK P d) (some acc) f with
              | none => rw [hk1, addK_none] at ha; cases ha
              | some acc' =>
                rw [hk1] at ha
                obtain ⟨f1, f2, kf, f3, rfl⟩ := addK_some hk1
                obtain ⟨⟨rest, hrest⟩, hrun⟩ := ihl _ ha
                refine ⟨⟨kf ++ rest, by rw [hrest, List.append_assoc]⟩, ?_⟩
                have he := flat_ok _ _ _ f3
                have hx' : (xs.drop acc.length).map vKind = kf.map some ++ rest.map some := by
                  rw [List.map_drop, hx, hrest]; simp
                have hy' : (ys.drop acc.length).map vKind = kf.map some ++ rest.map some := by
                  rw [List.map_drop, hy, hrest]; simp
                obtain ⟨a1, a2⟩ := map_split hx'
                obtain ⟨b1, b2⟩ := map_split hy'
                rw [List.length_map] at a1 a2 b1 b2
                have hle : acc.length + kf.length ≤ ks.length := by rw [hrest]; simp
                have p1 := run_partV (P := P) (w := w) he.und he.len he.pos he.one xs acc.length (by omega)
                have p2 := run_partV (P := P) (w := w) he.und he.len he.pos he.one ys acc.length (by omega)
                have q := ih f.type kf f3 D (by omega) _ _ a1 b1
                have hlen : ((xs.drop acc.length).take kf.length).length = ((ys.drop acc.length).take kf.length).length := by
                  simp only [List.length_take, List.length_drop]; omega
                have hsplit : vsEq (xs.drop acc.length) (ys.drop acc.length) = (vsEq ((xs.drop acc.length).take kf.length) ((ys.drop acc.length).take kf.length) && vsEq (xs.drop (acc ++ kf).length) (ys.drop (acc ++ kf).length)) := by
                  rw [List.length_append, ← List.drop_drop, ← List.drop_drop, ← vsEq_append hlen, List.take_append_drop, List.take_append_drop]
                rw [hsplit]
                simp only [Op.eqFields, ne_eq, f1, not_false_eq_true, if_true, f2, Sem.run_bind, p1, p2, Result.andThen_ok, q]
                cases vsEq ((xs.drop acc.length).take kf.length) ((ys.drop acc.length).take kf.length)
                · rfl
                · simp only [Bool.not_true, Bool.false_eq_true, if_false, Bool.true_and]
                  exact hrun
          have := (key fs.toList [] hk).2
          simpa using this
theorem RL_kinds {S : Cx} : ∀ {a : List AV} {vs : List Value} {ks : List (Option IntKind)}, RL S a vs → a.map kindOf = ks.map some → vs.map vKind = ks.map some
  | [], vs, ks, h, hk => by cases h; simpa using hk
  | x :: r, vs, [], h, hk => by simp at hk
  | x :: r, vs, k :: ks, h, hk => by
    obtain ⟨u, t, rfl, h2, h3⟩ := h
    simp only [List.map_cons, List.cons.injEq] at hk ⊢
    refine ⟨?_, RL_kinds h3 hk.2⟩
    have hk1 := hk.1
    cases x with
    | lit v => cases h2; cases u <;> simp [kindOf] at hk1 <;> simp [vKind, hk1]
    | _ => simp [kindOf] at hk1
theorem RL_eqs {S : Cx} : ∀ {a b : List AV} {vs us : List Value} {ks : List (Option IntKind)}, RL S a vs → RL S b us → a.map kindOf = ks.map some → b.map kindOf = ks.map some → vsEq vs us = cellsEq a b
  | [], [], vs, us, ks, h, h', _, _ => by cases h; cases h'; rfl
  | [], y :: s, _, _, [], _, _, _, hk => by simp at hk
  | [], y :: s, _, _, k :: ks, _, _, hk, _ => by simp at hk
  | x :: r, [], _, _, [], _, _, hk, _ => by simp at hk
  | x :: r, [], _, _, k :: ks, _, _, _, hk => by simp at hk
  | x :: r, y :: s, _, _, [], _, _, hk, _ => by simp at hk
  | x :: r, y :: s, vs, us, k :: ks, h, h', hk, hk' => by
    obtain ⟨u, t, rfl, h2, h3⟩ := h
    obtain ⟨u', t', rfl, h2', h3'⟩ := h'
    simp only [List.map_cons, List.cons.injEq] at hk hk'
    have e := RL_eqs h3 h3' hk.2 hk'.2
    simp only [vsEq, cellsEq, e]
    congr 1
    have k1 := hk.1
    have k2 := hk'.1
    cases x with
    | lit v =>
      cases y with
      | lit v' =>
        cases h2; cases h2'
        cases u <;> simp [kindOf] at k1 <;> cases u' <;> simp [kindOf] at k2 <;> first | rfl | (subst k1; cases k2)
      | _ => simp [kindOf] at k2
    | _ => simp [kindOf] at k1
theorem eqagg_sound {t : TypeId} (hA : isAggT P t = true) (hG : P.eqGuardType P.depth t = false) {ks : List (Option IntKind)} (hk : flatK P 20 t = some ks) {neq : Bool} {x y : AV} {a b : Value} {X Y : Operand} (hx : R (cx φ H w) x a) (hy : R (cx φ H w) y b) (hok : aggEqOk ks x y) :
    (do eqGuard (if neq then .neq else .eql) t X Y a b; binOp (if neq then .neq else .eql) t a b : Sem Value).run P w = .ok (.bool (aggEq x y != neq)) w := by
  unfold aggEqOk at hok
  split at hok
  · obtain ⟨vs, rfl, r1⟩ := hx
    obtain ⟨us, rfl, r2⟩ := hy
    have q := flat_sound (w := w) 20 t ks hk (9998 + 1 + 1) (by omega) _ _ (RL_kinds r1 hok.1) (RL_kinds r2 hok.2)
    have e1 : valOf P t vs.toList = .agg vs := by simp [valOf, hA]
    have e2 : valOf P t us.toList = .agg us := by simp [valOf, hA]
    rw [e1, e2, RL_eqs r1 r2 hok.1 hok.2] at q
    refine eq_run rfl rfl ?_ q
    cases neq <;> simp [eqGuard, hG]
  · exact hok.elim
theorem eqn_s0 (n : Nat) {t e : TypeId} (h : P.underlying t = some (.slice e)) (a b : Nat) : (Op.equalIn (n + 1) t (.slice none a b) (.slice none 0 0)).run P w = .ok true w := by simp [Op.equalIn, run_underlying h]
theorem isnil_sound {neq : Bool} {x : AV} {a : Value} (hx : R (cx φ H w) x a) (hok : nilcOk x) (t : TypeId) {e : TypeId} (hd : P.underlying t = some (.slice e)) {X Y : Operand} :
    ∃ u, (do eqGuard (if neq then .neq else .eql) t X Y a (.slice none 0 0); binOp (if neq then .neq else .eql) t a (.slice none 0 0) : Sem Value).run P w = .ok u w ∧ R (cx φ H w) (nilcV neq x) u := by
  have run : ∀ (b : Option Addr) (n c : Nat), (do eqGuard (if neq then .neq else .eql) t X Y (.slice b n c) (.slice none 0 0); binOp (if neq then .neq else .eql) t (.slice b n c) (.slice none 0 0) : Sem Value).run P w = .ok (.bool (b.isNone != neq)) w := by
    intro b n c
    refine eq_run rfl rfl (by cases neq <;> rfl) ?_
    cases b with
    | none => exact eqn_s0 _ hd _ _
    | some ad => exact eqn_as _ hd _ _ _
  cases x with
  | lit v =>
    unfold nilcOk at hok
    split at hok <;> first | exact hok.elim | skip
    all_goals first | (rename_i heq; cases heq; done) | skip
    rename_i heq
    cases heq
    cases hx
    exact ⟨_, run none 0 0, by cases neq <;> rfl⟩
  | view cs n full =>
    obtain ⟨b, cap, rfl, h1, h2, _⟩ := hx
    refine ⟨_, run b n cap, ?_⟩
    show R _ (if n = 0 then .anyb else .lit (.bool neq)) _
    split
    · exact ⟨_, rfl⟩
    · cases b with
      | none => have := (h2 rfl).1; contradiction
      | some ad => cases neq <;> rfl
  | row id off n L =>
    obtain ⟨b, cap, rfl, h1, h2, _⟩ := hx
    refine ⟨_, run b n cap, ?_⟩
    show R _ (if n = 0 then .anyb else .lit (.bool neq)) _
    split
    · exact ⟨_, rfl⟩
    · cases b with
      | none => have := (h2 rfl).1; contradiction
      | some ad => cases neq <;> rfl
  | _ => exact hok.elim
theorem s2ap_sound {x : AV} {a : Value} {n : Nat} {t e : TypeId} (hu : P.underlying t = some (.array n e)) (hc : ¬ (P.cellsOf e = 0 || n = 0) = true) (hx : R (cx φ H w) x a) (hok : s2apOk n (P.cellsOf e) x) :
    ∃ u, (Instr.arrayAt t a).run P w = .ok u w ∧ R (cx φ H w) (s2apV x) u := by
  simp only [Bool.or_eq_true, decide_eq_true_eq, not_or] at hc
  cases x with
  | view cs m full =>
    obtain ⟨h0, h9⟩ := hok
    obtain ⟨b, cap, rfl, h1, h2, h3, h4, h5⟩ := hx
    refine ⟨.pointer b, by simp [Instr.arrayAt, run_underlying hu, show ¬ m < n by omega], ?_⟩
    rcases h5 with rfl | ⟨b', off, us, rfl, g1, g2⟩
    · have : m * P.cellsOf e = 0 := by simpa using h9.symm
      rcases Nat.mul_eq_zero.1 this with h | h <;> omega
    · exact ⟨b', off, us, rfl, g1, h4, g2⟩
  | row id off m L =>
    obtain ⟨b, cap, rfl, h1, h2, o, h3, h4, h5⟩ := hx
    have h0 : n ≤ m := hok
    refine ⟨.pointer b, by simp [Instr.arrayAt, run_underlying hu, show ¬ m < n by omega], ?_⟩
    cases b with
    | none => have := (h2 rfl).1; omega
    | some ad =>
      refine ⟨ad, rfl, o, h3, h4, fun hL => ?_⟩
      rcases h5 hL with ⟨_, h⟩ | ⟨b', g1, g2, g3, g4⟩
      · clear h5; omega
      · rcases g3 with g3 | g3
        · cases g3; exact ⟨b', g1, rfl⟩
        · clear h5; omega
  | _ => exact hok.elim
theorem ext_add (fn : Func) (h : isExt fn "math/bits.Add64" = true) : Extern.findNext fn = none ∧ Extern.find fn = some add64Entry := by
  cases fn
  simp only [isExt, Bool.and_eq_true, beq_iff_eq] at h
  obtain ⟨⟨h1, rfl⟩, rfl⟩ := h
  exact ⟨by kernel_rfl, by kernel_rfl⟩
def sub64E : Array Value → Sem Value := fun args => do
  let (x, y, b) ← Extern.MathBitsCarry.three "Sub64" args
  pure (Extern.MathBitsCarry.pair ((x + Extern.MathBitsCarry.m64 - y - b) % Extern.MathBitsCarry.m64) (if x < y + b then 1 else 0))
theorem run_sub64E (x y b : Nat) (hb : b ≤ 1) (w : World) :
    (sub64E #[.int .u64 x, .int .u64 y, .int .u64 b]).run P w =
      .ok (.tuple #[.int .u64 (((x + 18446744073709551616 - y - b) % 18446744073709551616 : Nat) : Int), .int .u64 ((if x < y + b then 1 else 0 : Nat) : Int)]) w := by
  have : b = 0 ∨ b = 1 := by omega
  rcases this with rfl | rfl <;> rfl
theorem ext_sub (fn : Func) (h : isExt fn "math/bits.Sub64" = true) : Extern.findNext fn = none ∧ Extern.find fn = some sub64E := by
  cases fn
  simp only [isExt, Bool.and_eq_true, beq_iff_eq] at h
  obtain ⟨⟨h1, rfl⟩, rfl⟩ := h
  exact ⟨by kernel_rfl, by kernel_rfl⟩
theorem carry_sound {f : FuncId} {fn : Func} {sub : Bool} (hf : P.funcs[f]? = some fn) (he : isExt fn (if sub then "math/bits.Sub64" else "math/bits.Add64") = true) {x y c : AV} {a b d : Value} (hx : R (cx φ H w) x a) (hy : R (cx φ H w) y b) (hc : R (cx φ H w) c d) (hok : carryOk x y c) :
    ∃ u, (callFunc f #[a, b, d]).run P w = .ok (.value u) w ∧ R (cx φ H w) (carryV sub x y c) u := by
  unfold carryOk at hok
  split at hok
  · rename_i i j k
    cases hx; cases hy; cases hc
    obtain ⟨h1, h2, h3, h4, h5, h6⟩ := hok
    have hb : fn.body.isNone = true := by
      simp only [isExt, Bool.and_eq_true] at he
      exact he.1.1
    have hnm : (fn.name == "runtime.NumGoroutine") = false := by
      have h7 : fn.name = (if sub then "math/bits.Sub64" else "math/bits.Add64") := by
        simp only [isExt, Bool.and_eq_true, beq_iff_eq] at he
        exact he.1.2
      rw [h7]; cases sub <;> decide
    cases sub with
    | false =>
      obtain ⟨g1, g2⟩ := ext_add fn he
      refine ⟨_, by rw [run_callFunc_extern hf hnm hb g1 g2, run_add64 i j k h1 h3 h5 h6]; rfl, ?_⟩
      exact ⟨_, rfl, _, _, rfl, rfl, _, _, rfl, rfl, rfl⟩
    | true =>
      obtain ⟨g1, g2⟩ := ext_sub fn he
      obtain ⟨i, rfl⟩ := Int.eq_ofNat_of_zero_le h1
      obtain ⟨j, rfl⟩ := Int.eq_ofNat_of_zero_le h3
      obtain ⟨k, rfl⟩ := Int.eq_ofNat_of_zero_le h5
      refine ⟨_, by rw [run_callFunc_extern hf hnm hb g1 g2, run_sub64E i j k (by omega)]; rfl, ?_⟩
      refine ⟨_, rfl, _, _, rfl, ?_, _, _, rfl, ?_, rfl⟩
      · show Value.int .u64 _ = Value.int .u64 _
        congr 1
        simp only [asI]
        omega
      · show Value.int .u64 _ = Value.int .u64 _
        congr 1
        simp only [asI]
        by_cases h : i < j + k
        · have h' : (i : Int) < (j : Int) + (k : Int) := by omega
          simp [h, h']
        · have h' : ¬ (i : Int) < (j : Int) + (k : Int) := by omega
          simp [h, h']
  · exact hok.elim
end
end Go.Proofs.Ytgfploghjpbcaaa.Eng
