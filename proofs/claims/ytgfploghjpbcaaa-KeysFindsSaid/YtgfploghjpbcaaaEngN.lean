/- A law's row from a contract of the law. -/
import Derived.Test.YtgfploghjpbcaaaEngM
namespace Go.Proofs.Ytgfploghjpbcaaa.Eng
open Go Go.ChangeShapes Go.WideShapes Go.ChangeAt Go.RowKit
set_option linter.unusedVariables false
set_option linter.unusedSimpArgs false
section
variable {P : Program} {φ : Nat → Option Nat} {W : World} {H : Type} {enc : TypeId × Value → H}
def avOf (P : Program) (t : TypeId) (avs : List AV) : AV := if isAggT P t then .agg avs else avs.headD .junk
def argsShape (P : Program) : List TypeId → List (List AV) → Prop
  | [], [] => True
  | t :: ts, x :: xs => (x.length = P.cellsOf t ∧ shape P 12 t x) ∧ argsShape P ts xs
  | _, _ => False
def argAVs (P : Program) : List TypeId → List (List AV) → List AV
  | t :: ts, x :: xs => avOf P t x :: argAVs P ts xs
  | _, _ => []
theorem args_cons {t : TypeId} {ts : List TypeId} {avss : List (List AV)} (h : argsShape P (t :: ts) avss) : ∃ x xs, avss = x :: xs ∧ (x.length = P.cellsOf t ∧ shape P 12 t x) ∧ argsShape P ts xs := by
  cases avss with
  | nil => exact h.elim
  | cons x xs => exact ⟨x, xs, rfl, h.1, h.2⟩
theorem args_nil {avss : List (List AV)} (h : argsShape P [] avss) : avss = [] := by
  cases avss with
  | nil => rfl
  | cons x xs => exact h.elim
theorem shape_int {d : Nat} {t : TypeId} {k : IntKind} {x : List AV} (hu : P.underlying t = some (.int k)) (h : shape P (d + 1) t x) : ∃ n, x = [.lit (.int k n)] ∧ (Lit.int k n).wf = true := by
  unfold shape at h; rw [hu] at h; exact h
theorem shape_bool {d : Nat} {t : TypeId} {x : List AV} (hu : P.underlying t = some .bool) (h : shape P (d + 1) t x) : ∃ b, x = [.lit (.bool b)] := by
  unfold shape at h; rw [hu] at h; exact h
theorem shape_slice {d : Nat} {t e : TypeId} {x : List AV} (hu : P.underlying t = some (.slice e)) (h : shape P (d + 1) t x) : ∃ (els : List (List AV)) (full : Bool), x = [.view els.flatten els.length full] ∧ els.length * P.bytesOf e ≤ reachBytes ∧ ∀ y ∈ els, y.length = P.cellsOf e ∧ shape P d e y := by
  unfold shape at h; rw [hu] at h; exact h
theorem shape_struct {d : Nat} {t : TypeId} {fs : Array Field} {x : List AV} (hu : P.underlying t = some (.struct fs)) (h : shape P (d + 1) t x) : shapeF P (shape P d) fs.toList x := by
  unfold shape at h; rw [hu] at h; exact h
theorem shape_array {d n : Nat} {t e : TypeId} {x : List AV} (hu : P.underlying t = some (.array n e)) (h : shape P (d + 1) t x) : ∃ els : List (List AV), x = els.flatten ∧ els.length = n ∧ ∀ y ∈ els, y.length = P.cellsOf e ∧ shape P d e y := by
  unfold shape at h; rw [hu] at h; exact h
/-- A slice of what has one cell. -/
theorem one_list' {α : Type} {f : α → AV} {Q : List AV → Prop} : ∀ {els : List (List AV)}, (∀ y ∈ els, Q y) → (∀ y, Q y → ∃ a, y = [f a]) → ∃ l : List α, els.flatten = l.map f ∧ l.length = els.length
  | [], _, _ => ⟨[], rfl, rfl⟩
  | y :: els, h, hq => by
    obtain ⟨l, h1, h2⟩ := one_list' (els := els) (fun z hz => h z (by simp [hz])) hq
    obtain ⟨a, rfl⟩ := hq y (h y (by simp))
    exact ⟨a :: l, by simp [h1], by simp [h2]⟩
theorem len1 {α : Type} {l : List α} (h : l.length = 1) : ∃ a, l = [a] := List.length_eq_one_iff.1 h
theorem len_cons {α : Type} {l : List α} {n : Nat} (h : l.length = n + 1) : ∃ a r, l = a :: r ∧ r.length = n := by
  cases l with
  | nil => cases h
  | cons a r => exact ⟨a, r, rfl, by simpa using h⟩
theorem dec_arg {base : Nat} {t : TypeId} {v : Value} {d : DataW H} {ps : List MemPlace} {sp : Nat → Bool} {held : Bool} {b : Nat} (hp : plainT P 12 t = true) (h : DataW.Trod enc P W b sp held t v d ps) (ho : Value.okWide P W .any base t v) (hz : ∀ n ∈ DataW.weights P t d, n ≤ reachBytes) :
    ∃ avs, (avs.length = P.cellsOf t ∧ shape P 12 t avs) ∧ R (cx φ [] W) (avOf P t avs) v := by
  obtain ⟨fuel, h⟩ := h
  obtain ⟨avs, r1, r2, r3, r4⟩ := dec (φ := φ) 12 t hp fuel _ _ h hz
  refine ⟨avs, ⟨r3, r4⟩, ?_⟩
  have one : v.oneCell' = true → isAggT P t = false → R (cx φ [] W) (avOf P t avs) v := by
    intro h1 h2
    rw [cells_of_one h1] at r1
    cases avs with
    | nil => cases r1
    | cons a r =>
      obtain ⟨u, t', e, g1, g2⟩ := r1
      cases e
      simp only [avOf, h2, Bool.false_eq_true, if_false]
      exact g1
  have agg : (∃ cs, v = .agg cs ∧ cs.size = P.cellsOf t ∧ Row.okWide P W .any base t cs) → isAggT P t = true → R (cx φ [] W) (avOf P t avs) v := by
    rintro ⟨cs, rfl, _⟩ h2
    simp only [avOf, h2, if_true]
    exact ⟨cs, rfl, r1⟩
  unfold plainT at hp
  unfold Value.okWide at ho
  cases hu : P.underlying t with
  | none => rw [hu] at hp; cases hp
  | some D =>
    rw [hu] at hp ho
    cases D <;> dsimp only at hp ho <;> try (cases hp; done)
    case struct fs => exact agg ho (by simp [isAggT, hu])
    case array n e => exact agg ho (by simp [isAggT, hu])
    all_goals
      refine one ?_ (by simp [isAggT, hu])
      unfold Cell.okWide at ho
      rw [hu] at ho
      cases v <;> first | rfl | (simp [Cell.ok, hu] at ho; done)
theorem dec_args {base : Nat} {sp : Nat → Bool} {held : Bool} {b : Nat} : ∀ {ts : List TypeId} {vs : List Value} {ds : List (DataW H)} {ps : List MemPlace}, (∀ t ∈ ts, plainT P 12 t = true) → DataW.TrodAll enc P W b sp held ts vs ds ps →
    (∀ (j : Nat) t v, ts[j]? = some t → vs[j]? = some v → Value.okWide P W .any base t v) → (∀ n ∈ DataW.weightsEach P ts ds, n ≤ reachBytes) → ∃ avss, argsShape P ts avss ∧ RL (cx φ [] W) (argAVs P ts avss) vs
  | [], vs, ds, ps, hp, h, ho, _ => by
    obtain ⟨rfl, rfl, rfl⟩ := trodAll_nil h
    exact ⟨[], trivial, rfl⟩
  | t :: ts, vs, ds, ps, hp, h, ho, hz => by
    obtain ⟨v, vs1, d, ds1, p, q, rfl, rfl, rfl, h1, h2⟩ := trodAll_cons h
    simp only [DataW.weightsEach, List.mem_append] at hz
    obtain ⟨avs, r1, r2⟩ := dec_arg (φ := φ) (hp t (by simp)) h1 (ho 0 t v rfl rfl) (fun n hn => hz n (.inl hn))
    obtain ⟨avss, s1, s2⟩ := dec_args (fun u hu => hp u (by simp [hu])) h2 (fun j u x hj hx => ho (j + 1) u x (by simpa using hj) (by simpa using hx)) (fun n hn => hz n (.inr hn))
    exact ⟨avs :: avss, ⟨r1, s1⟩, v, vs1, rfl, r2, s2⟩
theorem trodAll_stays {W' : World} {sp' : Nat → Bool} (hl : laidOutB P = true) (hsame : ∀ k, k < W.heap.size → W'.heap[k]? = W.heap[k]?) : ∀ {ts : List TypeId} {vs : List Value} {ds : List (DataW H)} {ps : List MemPlace}, (∀ t ∈ ts, P.readableRec t = true ∧ t < P.types.size) →
    DataW.TrodAll enc P W 0 (fun _ => true) true ts vs ds ps → (∀ p ∈ ps, p.block < W.heap.size) → (∀ p ∈ ps, sp' p.block = true) → (∀ p : MemPlace, p.block < W.heap.size → W.sameAt W' p) → DataW.TrodAll enc P W' 0 sp' true ts vs ds ps
  | [], vs, ds, ps, hp, h, hlt, hs, hat => by
    obtain ⟨rfl, rfl, rfl⟩ := trodAll_nil h
    exact trodAll_mk0
  | t :: ts, vs, ds, ps, hp, h, hlt, hs, hat => by
    obtain ⟨v, vs1, d, ds1, p, q, rfl, rfl, rfl, h1, h2⟩ := trodAll_cons h
    refine ⟨p, q, WideElems.Trod_stays hl (hp t (by simp)).1 (hp t (by simp)).2 h1 (fun x hx => hat x (hlt x (by simp [hx]))) (fun x hx => hs x (by simp [hx])), ?_, rfl⟩
    exact trodAll_stays hl hsame (fun u hu => hp u (by simp [hu])) h2 (fun x hx => hlt x (by simp [hx])) (fun x hx => hs x (by simp [hx])) hat
theorem weights_pre {us : List TypeId} {gs : List (DataW H)} {n : Nat} : ∀ {ts : List TypeId} {ds : List (DataW H)}, n ∈ DataW.weightsEach P ts ds → n ∈ DataW.weightsEach P (ts ++ us) (ds ++ gs)
  | [], ds, h => by simp [DataW.weightsEach] at h
  | t :: ts, [], h => by simp [DataW.weightsEach] at h
  | t :: ts, d :: ds, h => by
    simp only [List.cons_append, DataW.weightsEach, List.mem_append] at h ⊢
    exact h.imp_right weights_pre
theorem law_calls {f : FuncId} {fn : Func} {s : ChangeSpec} {tb : TypeId} (hl : laidOutB P = true) (hpl : ∀ t ∈ fn.params.toList, plainT P 12 t = true) (hrd : ∀ t ∈ fn.params.toList, P.readableRec t = true ∧ t < P.types.size) (hv : s.vars = [])
    (hs : ∀ ds : List (DataW H), ds.length = fn.params.toList.length → s.fn H ds = { results := [.lit (.bool true)], args := ds }) (hres : fn.resultTypes = #[tb]) (htb : P.underlying tb = some .bool)
    (hc : ∀ avss : List (List AV), argsShape P fn.params.toList avss → Called P f (argAVs P fn.params.toList avss) [] (.lit (.bool true)) [])
    {base : Nat} {args : Array Value} {ds gs : List (DataW H)} {before : List MemPlace} (hval : ∀ (j : Nat) t v, fn.params[j]? = some t → args[j]? = some v → Value.okWide P W .any base t v) (hW : DataW.Whole enc P fn.params.toList s.vars false W args.toList ds gs before) (hz : ∀ n ∈ DataW.weightsEach P fn.params.toList ds, n ≤ reachBytes) :
    Calls P f args W fun e W' => ∃ v, e = .returned v ∧ s.post enc P fn false true false false W args v W' := by
  have hlt := hW.lt
  have hW' := hW
  obtain ⟨p, q, hA, hV, rfl, hfz, hnd⟩ := hW
  rw [hv] at hV
  obtain ⟨rfl, rfl⟩ := trodVars_none hV
  rw [List.append_nil] at hlt hW' hfz hnd
  obtain ⟨avss, h1, h2⟩ := dec_args (φ := fun _ => none) hpl hA (base := base) (fun j t v hj hx => hval j t v (by simpa using hj) (by simpa using hx)) hz
  have hlen : ds.length = fn.params.toList.length := by
    clear hz hval hW' hfz hnd h2 hlt hV hrd hpl hs hc h1 hres
    generalize fn.params.toList = ts at *
    generalize args.toList = vs at *
    induction ts generalizing vs ds p with
    | nil => obtain ⟨rfl, rfl, rfl⟩ := trodAll_nil hA; rfl
    | cons t ts ih =>
      obtain ⟨v, vs1, d, ds1, p, q, rfl, rfl, rfl, g1, g2⟩ := trodAll_cons hA
      simp [ih _ _ g2]
  refine ((hc avss h1).runs (fun _ => none) W args ⟨fun id o h => by simp [cx] at h, fun i j b hi => by simp [cx] at hi⟩ h2).mono ?_
  rintro e W' ⟨y, rfl, φ', g1, g2, g3, g4⟩
  cases g4
  have hframe : ∀ k, k < W.heap.size → W'.heap[k]? = W.heap[k]? := fun k hk => g2.frame k hk (noWr k)
  have hB : Below W.heap.size W W' := ⟨g3.1, g3.2.1, g3.2.2, g2.size, hframe⟩
  refine ⟨_, rfl, ds, [], p, [], p, [], hW', ?_, ?_, ?_, hB.frame _, fun h => by cases h⟩
  · rw [List.append_nil, hs ds hlen, hres]
    exact ⟨[], [], ⟨1, by simp [DataW.trod, htb, Value.resultList, Value.cells]⟩, rfl, rfl⟩
  · rw [List.append_nil, hs ds hlen]
    exact trodAll_stays hl hframe hrd hA hlt (fun x hx => by simpa using hlt x hx) fun x hx => hB.same hx
  · rw [hv, List.append_nil, hs ds hlen]; exact rfl
theorem law_calls' {f : FuncId} {fn : Func} {s : ChangeSpec} {tb : TypeId} (hl : laidOutB P = true) (hpl : fn.params.toList.all (plainT P 12) = true) (hrd : (fn.params.toList.all fun t => P.readableRec t && decide (t < P.types.size)) = true) (hv : s.vars = [])
    (hs : ∀ ds : List (DataW H), ds.length = fn.params.toList.length → s.fn H ds = { results := [.lit (.bool true)], args := ds }) (hres : fn.resultTypes = #[tb]) (htb : P.underlying tb = some .bool)
    (hc : ∀ avss : List (List AV), argsShape P fn.params.toList avss → Called P f (argAVs P fn.params.toList avss) [] (.lit (.bool true)) [])
    {base : Nat} {args : Array Value} {ds gs : List (DataW H)} {before : List MemPlace} (hval : ∀ (j : Nat) t v, fn.params[j]? = some t → args[j]? = some v → Value.okWide P W .any base t v) (hW : DataW.Whole enc P fn.params.toList s.vars false W args.toList ds gs before) {us : List TypeId} (hz : (DataW.weightsEach P (fn.params.toList ++ us) (ds ++ gs)).all (· ≤ reachBytes) = true) :
    Calls P f args W fun e W' => ∃ v, e = .returned v ∧ s.post enc P fn false true false false W args v W' :=
  law_calls hl (List.all_eq_true.1 hpl) (fun t ht => by have := List.all_eq_true.1 hrd t ht; simpa using this) hv hs hres htb hc hval hW (fun n hn => by have := List.all_eq_true.1 hz n (weights_pre hn); simpa using this)
end
end Go.Proofs.Ytgfploghjpbcaaa.Eng
