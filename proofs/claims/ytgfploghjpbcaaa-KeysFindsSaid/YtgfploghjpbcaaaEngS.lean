/- Rules by which the abstract machine's code is worked through. -/
import Derived.Test.YtgfploghjpbcaaaEngO
namespace Go.Proofs.Ytgfploghjpbcaaa.Eng
open Go
set_option linter.unusedVariables false
set_option linter.unusedSimpArgs false
set_option maxHeartbeats 40000
/-- An operand, read. -/
def er (l : List (Nat × AV)) (x : IArg) : AV := (ev (look l) x).un
def em (l : List (Nat × AV)) (x : IArg) : AV := ev (look l) x
theorem iopwp_mono {pf : Pf} {C : CallRel} {o : IOp} {K K' : Env → AH → Prop} {E : Env} {H : AH} (h : iopwp pf C o K E H) (hk : ∀ E H, K E H → K' E H) : iopwp pf C o K' E H := by
  unfold iopwp at *
  split at h <;> first
    | (exact ⟨h.1, hk _ _ h.2⟩)
    | (obtain ⟨v, H', h1, h2⟩ := h; exact ⟨v, H', h1, hk _ _ h2⟩)
    | (unfold guardK at *
       split at h <;> first
         | exact h.elim
         | exact ⟨h.1, hk _ _ h.2⟩
         | exact ⟨h.1, h.2.1, hk _ _ h.2.2⟩
         | (obtain ⟨h0, v, h1, h2⟩ := h; exact ⟨h0, v, h1, hk _ _ h2⟩))
theorem rwp_mono {pf : Pf} {C : CallRel} {base : Nat} {x : RA} {K K' : Env → AH → Prop} {E : Env} {H : AH} (h : rwp pf C base x K E H) (hk : ∀ E H, K E H → K' E H) : rwp pf C base x K' E H := by
  unfold rwp at *
  cases hx : x.k with
  | l => rw [hx] at h; exact iopwp_mono h hk
  | m => rw [hx] at h; exact iopwp_mono h fun E H hh => ⟨hh.1, hk _ _ hh.2⟩
  | w => rw [hx] at h; exact ⟨h.1, iopwp_mono h.2 hk⟩
  | e => rw [hx] at h; exact iopwp_mono (K := fun E' _ => K E' H) h fun E' _ h => hk _ _ h
  | a r => rw [hx] at h; exact ⟨h.1, h.2.1, h.2.2.1, hk _ _ h.2.2.2⟩
theorem absR_mono {pf : Pf} {C : CallRel} {base : Nat} : ∀ {l : List RA} {K K' : Env → AH → Prop} {E : Env} {H : AH}, absR pf C base l K E H → (∀ E H, K E H → K' E H) → absR pf C base l K' E H
  | [], K, K', E, H, h, hk => hk _ _ h
  | x :: r, K, K', E, H, h, hk => ⟨h.1, rwp_mono h.2 fun E H h => absR_mono h hk⟩
theorem iwp_mono {pf : Pf} {C : CallRel} {c : IC} : ∀ {Q Q' : Ex → Env → AH → Prop} {E : Env} {H : AH}, iwp pf C c Q E H → (∀ e E H, Q e E H → Q' e E H) → iwp pf C c Q' E H := by
  induction c with
  | done => exact fun h hq => hq _ _ _ h
  | op o k ih => exact fun h hq => iopwp_mono h fun E H h => ih h hq
  | keep s k ih => exact fun h hq => ih h hq
  | reg n l k ih => exact fun h hq => absR_mono h fun E H h => ih h hq
  | ite c a b k iha ihb ihk =>
    intro Q Q' E H h hq
    simp only [iwp] at *
    split at h
    · refine ⟨fun ht => iha (h.1 ht) ?_, fun ht => ihb (h.2 ht) ?_⟩ <;>
      · intro e E H h
        cases e <;> first | exact ihk h hq | exact hq _ _ _ h
    · refine ⟨iha h.1 ?_, ihb h.2 ?_⟩ <;>
      · intro e E H h
        cases e <;> first | exact ihk h hq | exact hq _ _ _ h
    · exact h
  | block id b k ihb ihk =>
    intro Q Q' E H h hq
    simp only [iwp] at *
    refine ihb h ?_
    intro e E H h
    cases e with
    | normal => exact ihk h hq
    | ret => exact hq _ _ _ h
    | exit i => dsimp only at *; split at h
                · rename_i hi; rw [if_pos hi]; exact ihk h hq
                · rename_i hi; rw [if_neg hi]; exact hq _ _ _ h
  | loop b ih =>
    intro Q Q' E H h hq
    simp only [iwp] at *
    obtain ⟨I, n, h0, hr⟩ := h
    refine ⟨I, n, h0, fun n E H hi => ih (hr n E H hi) ?_⟩
    intro e E H h
    cases e <;> first | exact h | exact hq _ _ _ h
  | exit id => exact fun h hq => hq _ _ _ h
  | ret => exact fun h hq => hq _ _ _ h
section
variable {pf : Pf} {C : CallRel} {Q : Ex → Env → AH → Prop} {l : List (Nat × AV)} {H : AH} {k : IC} {d j : Nat} {w : Bool}
theorem upd_look (v : AV) : upd (look l) (some d) v = look ((d, v) :: l) := rfl
theorem upd_none (v : AV) : upd (look l) none v = look l := rfl
theorem look_nil (n : Nat) : look [] n = .junk := rfl
theorem look_cons (k : Nat) (v : AV) (r : List (Nat × AV)) (n : Nat) : look ((k, v) :: r) n = if n = k then v else look r n := rfl
theorem er_t (n : Nat) : er l (.t n) = (look l n).un := rfl
theorem er_c (v : Value) : er l (.c v) = .lit v := rfl
theorem er_f (f : FuncId) : er l (.f f) = .fn (.func f) [] [] := rfl
theorem em_t (n : Nat) : em l (.t n) = look l n := rfl
theorem em_c (v : Value) : em l (.c v) = .lit v := rfl
theorem em_f (f : FuncId) : em l (.f f) = .fn (.func f) [] [] := rfl
theorem un_lit (v : Value) : (AV.lit v).un = .lit v := rfl
theorem un_ptr (a b : Nat) : (AV.ptr a b).un = .ptr a b := rfl
theorem un_rptr (a b c : Nat) : (AV.rptr a b c).un = .rptr a b c := rfl
theorem un_vptr (a : List AV) : (AV.vptr a).un = .vptr a := rfl
theorem un_row (a b c e : Nat) : (AV.row a b c e).un = .row a b c e := rfl
theorem un_view (a : List AV) (b : Nat) (c : Bool) : (AV.view a b c).un = .view a b c := rfl
theorem un_fn (f : Fn) (a b : List AV) : (AV.fn f a b).un = .fn f a b := rfl
theorem un_agg (a : List AV) : (AV.agg a).un = .agg a := rfl
theorem un_tup (a : List AV) : (AV.tup a).un = .tup a := rfl
theorem un_may (g : Bool) (v : AV) : (AV.may g v).un = v := rfl
theorem un_ite (c : Prop) [Decidable c] (a b : AV) : (if c then a else b).un = if c then a.un else b.un := by split <;> rfl
theorem ok_lit (g : Bool) (v : Value) : okMay g (.lit v) = True := rfl
theorem ok_ptr (g : Bool) (a b : Nat) : okMay g (.ptr a b) = True := rfl
theorem ok_rptr (g : Bool) (a b c : Nat) : okMay g (.rptr a b c) = True := rfl
theorem ok_vptr (g : Bool) (a : List AV) : okMay g (.vptr a) = True := rfl
theorem ok_row (g : Bool) (a b c e : Nat) : okMay g (.row a b c e) = True := rfl
theorem ok_view (g : Bool) (a : List AV) (b : Nat) (c : Bool) : okMay g (.view a b c) = True := rfl
theorem ok_fn (g : Bool) (f : Fn) (a b : List AV) : okMay g (.fn f a b) = True := rfl
theorem ok_agg (g : Bool) (a : List AV) : okMay g (.agg a) = True := rfl
theorem ok_tup (g : Bool) (a : List AV) : okMay g (.tup a) = True := rfl
theorem ok_junk (g : Bool) : okMay g .junk = True := rfl
theorem ok_may (g g' : Bool) (v : AV) : okMay g (.may g' v) = (g = true → g' = true) := rfl


theorem w_mv (x : IArg) : iwp pf C (q d (.mv x) k) Q (look l) H = (iwp pf C k Q (look ((d, (em l x)) :: l)) H) := by show (True ∧ _) = _; rw [true_and]; rfl
theorem g_mv (x : IArg) : iwp pf C (qg d j w (.mv x) k) Q (look l) H = guardK w (fun g => (okMay g (em l x)) ∧ iwp pf C k Q (look ((d, .may g ((er l x))) :: l)) H) (look l j) := by
  simp only [qg, iwp, iopwp, Ins.args, List.forall_mem_cons, List.not_mem_nil, false_implies, implies_true, and_true, iside, ival, imp_true_iff, true_and]; rfl
theorem w_nilchk (x : IArg) : iwp pf C (q d (.nilchk x) k) Q (look l) H = ((nilOk (em l x)) ∧ iwp pf C k Q (look ((d, (em l x)) :: l)) H) := rfl
theorem g_nilchk (x : IArg) : iwp pf C (qg d j w (.nilchk x) k) Q (look l) H = guardK w (fun g => (okMay g (em l x)) ∧ (g = true → nilOk (er l x)) ∧ iwp pf C k Q (look ((d, .may g ((er l x))) :: l)) H) (look l j) := by
  simp only [qg, iwp, iopwp, Ins.args, List.forall_mem_cons, List.not_mem_nil, false_implies, implies_true, and_true, iside, ival, imp_true_iff, true_and]; rfl
theorem w_same (x : IArg) : iwp pf C (q d (.same x) k) Q (look l) H = ((strOk (em l x)) ∧ iwp pf C k Q (look ((d, (em l x)) :: l)) H) := rfl
theorem g_same (x : IArg) : iwp pf C (qg d j w (.same x) k) Q (look l) H = guardK w (fun g => (okMay g (em l x)) ∧ (g = true → strOk (er l x)) ∧ iwp pf C k Q (look ((d, .may g ((er l x))) :: l)) H) (look l j) := by
  simp only [qg, iwp, iopwp, Ins.args, List.forall_mem_cons, List.not_mem_nil, false_implies, implies_true, and_true, iside, ival, imp_true_iff, true_and]; rfl
theorem w_bin (op : BinOp) (x y : IArg) : iwp pf C (q d (.bin op x y) k) Q (look l) H = ((binOk op (em l x) (em l y)) ∧ iwp pf C k Q (look ((d, binv op (em l x) (em l y)) :: l)) H) := rfl
theorem g_bin (op : BinOp) (x y : IArg) : iwp pf C (qg d j w (.bin op x y) k) Q (look l) H = guardK w (fun g => (okMay g (em l x) ∧ okMay g (em l y)) ∧ (g = true → binOk op (er l x) (er l y)) ∧ iwp pf C k Q (look ((d, .may g (binv op (er l x) (er l y))) :: l)) H) (look l j) := by
  simp only [qg, iwp, iopwp, Ins.args, List.forall_mem_cons, List.not_mem_nil, false_implies, implies_true, and_true, iside, ival, imp_true_iff, true_and]; rfl
theorem w_eqagg (ks : List (Option IntKind)) (neq : Bool) (x y : IArg) : iwp pf C (q d (.eqagg ks neq x y) k) Q (look l) H = ((aggEqOk ks (em l x) (em l y)) ∧ iwp pf C k Q (look ((d, AV.lit (.bool (aggEq (em l x) (em l y) != neq))) :: l)) H) := rfl
theorem g_eqagg (ks : List (Option IntKind)) (neq : Bool) (x y : IArg) : iwp pf C (qg d j w (.eqagg ks neq x y) k) Q (look l) H = guardK w (fun g => (okMay g (em l x) ∧ okMay g (em l y)) ∧ (g = true → aggEqOk ks (er l x) (er l y)) ∧ iwp pf C k Q (look ((d, .may g (AV.lit (.bool (aggEq (er l x) (er l y) != neq)))) :: l)) H) (look l j) := by
  simp only [qg, iwp, iopwp, Ins.args, List.forall_mem_cons, List.not_mem_nil, false_implies, implies_true, and_true, iside, ival, imp_true_iff, true_and]; rfl
theorem w_eq (neq : Bool) (tk : TK) (x y : IArg) : iwp pf C (q d (.eq neq tk x y) k) Q (look l) H = ((eqOk pf.c tk (isC x || isC y) (em l x) (em l y)) ∧ iwp pf C k Q (look ((d, AV.lit (.bool (eqv tk (em l x) (em l y) != neq))) :: l)) H) := rfl
theorem g_eq (neq : Bool) (tk : TK) (x y : IArg) : iwp pf C (qg d j w (.eq neq tk x y) k) Q (look l) H = guardK w (fun g => (okMay g (em l x) ∧ okMay g (em l y)) ∧ (g = true → eqOk pf.c tk (isC x || isC y) (er l x) (er l y)) ∧ iwp pf C k Q (look ((d, .may g (AV.lit (.bool (eqv tk (er l x) (er l y) != neq)))) :: l)) H) (look l j) := by
  simp only [qg, iwp, iopwp, Ins.args, List.forall_mem_cons, List.not_mem_nil, false_implies, implies_true, and_true, iside, ival, imp_true_iff, true_and]; rfl
theorem w_un (op : UnOp) (x : IArg) : iwp pf C (q d (.un op x) k) Q (look l) H = ((unOk op (em l x)) ∧ iwp pf C k Q (look ((d, unv op (em l x)) :: l)) H) := rfl
theorem g_un (op : UnOp) (x : IArg) : iwp pf C (qg d j w (.un op x) k) Q (look l) H = guardK w (fun g => (okMay g (em l x)) ∧ (g = true → unOk op (er l x)) ∧ iwp pf C k Q (look ((d, .may g (unv op (er l x))) :: l)) H) (look l j) := by
  simp only [qg, iwp, iopwp, Ins.args, List.forall_mem_cons, List.not_mem_nil, false_implies, implies_true, and_true, iside, ival, imp_true_iff, true_and]; rfl
theorem w_conv (kd : IntKind) (x : IArg) : iwp pf C (q d (.conv kd x) k) Q (look l) H = ((isI (em l x)) ∧ iwp pf C k Q (look ((d, AV.lit (.int kd (kd.wrap (asI (em l x))))) :: l)) H) := rfl
theorem g_conv (kd : IntKind) (x : IArg) : iwp pf C (qg d j w (.conv kd x) k) Q (look l) H = guardK w (fun g => (okMay g (em l x)) ∧ (g = true → isI (er l x)) ∧ iwp pf C k Q (look ((d, .may g (AV.lit (.int kd (kd.wrap (asI (er l x)))))) :: l)) H) (look l j) := by
  simp only [qg, iwp, iopwp, Ins.args, List.forall_mem_cons, List.not_mem_nil, false_implies, implies_true, and_true, iside, ival, imp_true_iff, true_and]; rfl
theorem w_s2b (own : Bool) (x : IArg) : iwp pf C (q d (.s2b own x) k) Q (look l) H = ((s2bOk (em l x)) ∧ iwp pf C k Q (look ((d, s2bV own H (em l x)) :: l)) (s2bH own H (em l x))) := rfl
theorem g_s2b (own : Bool) (x : IArg) : iwp pf C (qg d j w (.s2b own x) k) Q (look l) H = guardK w (fun g => (okMay g (em l x)) ∧ (g = true → s2bOk (er l x)) ∧ iwp pf C k Q (look ((d, .may g (s2bV own H (er l x))) :: l)) H) (look l j) := by
  simp only [qg, iwp, iopwp, Ins.args, List.forall_mem_cons, List.not_mem_nil, false_implies, implies_true, and_true, iside, ival, imp_true_iff, true_and]; rfl
theorem w_b2s (x : IArg) : iwp pf C (q d (.b2s x) k) Q (look l) H = ((b2sOk H (em l x)) ∧ iwp pf C k Q (look ((d, b2sV H (em l x)) :: l)) H) := rfl
theorem g_b2s (x : IArg) : iwp pf C (qg d j w (.b2s x) k) Q (look l) H = guardK w (fun g => (okMay g (em l x)) ∧ (g = true → b2sOk H (er l x)) ∧ iwp pf C k Q (look ((d, .may g (b2sV H (er l x))) :: l)) H) (look l j) := by
  simp only [qg, iwp, iopwp, Ins.args, List.forall_mem_cons, List.not_mem_nil, false_implies, implies_true, and_true, iside, ival, imp_true_iff, true_and]; rfl
theorem w_alloc (z : List Value) : iwp pf C (q d (.alloc z) k) Q (look l) H = (iwp pf C k Q (look ((d, AV.ptr H.length 0) :: l)) (H ++ [⟨zlit z, 0, true⟩])) := by show (True ∧ _) = _; rw [true_and]; rfl
theorem w_box (x : IArg) : iwp pf C (q d (.box x) k) Q (look l) H = (((em l x).cells.isEmpty = false ∧ (em l x).cells.all AV.one = true) ∧ iwp pf C k Q (look ((d, AV.ptr H.length 0) :: l)) (H ++ [⟨(em l x).cells, 0, true⟩])) := rfl
theorem w_build (z : List Value) (ps : List (Nat × Nat × IArg)) : iwp pf C (q d (.build z ps) k) Q (look l) H = ((fillOk z.length (ps.map fun p => (p.1, p.2.1, (em l p.2.2)))) ∧ iwp pf C k Q (look ((d, AV.agg (fillv (zlit z) (ps.map fun p => (p.1, (em l p.2.2))))) :: l)) H) := rfl
theorem g_build (z : List Value) (ps : List (Nat × Nat × IArg)) : iwp pf C (qg d j w (.build z ps) k) Q (look l) H = guardK w (fun g => (∀ y ∈ (Ins.build z ps).args, okMay g (em l y)) ∧ (g = true → fillOk z.length (ps.map fun p => (p.1, p.2.1, (er l p.2.2)))) ∧ iwp pf C k Q (look ((d, .may g (AV.agg (fillv (zlit z) (ps.map fun p => (p.1, (er l p.2.2)))))) :: l)) H) (look l j) := by
  simp only [qg, iwp, iopwp, Ins.args, List.forall_mem_cons, List.not_mem_nil, false_implies, implies_true, and_true, iside, ival, imp_true_iff, true_and]; rfl
theorem w_bslice (own : Bool) (sz len : Nat) (z : List Value) (ps : List (Nat × Nat × IArg)) : iwp pf C (q d (.bslice own sz len z ps) k) Q (look l) H = ((fillOk (len * sz) (ps.map fun p => (p.1, p.2.1, (em l p.2.2))) ∧ (own = false → pureL (fillv (repl len (zlit z)) (ps.map fun p => (p.1, (em l p.2.2)))) = true)) ∧ iwp pf C k Q (look ((d, (if own then AV.row H.length 0 len (len * sz) else .view (fillv (repl len (zlit z)) (ps.map fun p => (p.1, (em l p.2.2)))) len true)) :: l)) (if own then H ++ [⟨fillv (repl len (zlit z)) (ps.map fun p => (p.1, (em l p.2.2))), sz, true⟩] else H)) := rfl
theorem g_bslice (own : Bool) (sz len : Nat) (z : List Value) (ps : List (Nat × Nat × IArg)) : iwp pf C (qg d j w (.bslice own sz len z ps) k) Q (look l) H = guardK w (fun g => (∀ y ∈ (Ins.bslice own sz len z ps).args, okMay g (em l y)) ∧ (g = true → fillOk (len * sz) (ps.map fun p => (p.1, p.2.1, (er l p.2.2))) ∧ (own = false → pureL (fillv (repl len (zlit z)) (ps.map fun p => (p.1, (er l p.2.2)))) = true)) ∧ iwp pf C k Q (look ((d, .may g ((if own then AV.row H.length 0 len (len * sz) else .view (fillv (repl len (zlit z)) (ps.map fun p => (p.1, (er l p.2.2)))) len true))) :: l)) H) (look l j) := by
  simp only [qg, iwp, iopwp, Ins.args, List.forall_mem_cons, List.not_mem_nil, false_implies, implies_true, and_true, iside, ival, imp_true_iff, true_and]; rfl
theorem w_load (agg : Bool) (n : Nat) (x : IArg) : iwp pf C (q d (.load agg n x) k) Q (look l) H = ((loadOk n H (em l x)) ∧ iwp pf C k Q (look ((d, loadV agg n H (em l x)) :: l)) H) := rfl
theorem g_load (agg : Bool) (n : Nat) (x : IArg) : iwp pf C (qg d j w (.load agg n x) k) Q (look l) H = guardK w (fun g => (okMay g (em l x)) ∧ (g = true → loadOk n H (er l x)) ∧ iwp pf C k Q (look ((d, .may g (loadV agg n H (er l x))) :: l)) H) (look l j) := by
  simp only [qg, iwp, iopwp, Ins.args, List.forall_mem_cons, List.not_mem_nil, false_implies, implies_true, and_true, iside, ival, imp_true_iff, true_and]; rfl
theorem n_store (n : Nat) (a x : IArg) : iwp pf C (qn (.store n a x) k) Q (look l) H = ((storeOk n H (em l a) (em l x)) ∧ iwp pf C k Q (look l) (storeH H (em l x) (em l a))) := rfl
theorem w_fld (o : Nat) (x : IArg) : iwp pf C (q d (.fld o x) k) Q (look l) H = ((fldOk (em l x)) ∧ iwp pf C k Q (look ((d, fldV o (em l x)) :: l)) H) := rfl
theorem g_fld (o : Nat) (x : IArg) : iwp pf C (qg d j w (.fld o x) k) Q (look l) H = guardK w (fun g => (okMay g (em l x)) ∧ (g = true → fldOk (er l x)) ∧ iwp pf C k Q (look ((d, .may g (fldV o (er l x))) :: l)) H) (look l j) := by
  simp only [qg, iwp, iopwp, Ins.args, List.forall_mem_cons, List.not_mem_nil, false_implies, implies_true, and_true, iside, ival, imp_true_iff, true_and]; rfl
theorem w_part (agg : Bool) (n o : Nat) (x : IArg) : iwp pf C (q d (.part agg n o x) k) Q (look l) H = ((partOk n o (em l x)) ∧ iwp pf C k Q (look ((d, partV agg n o (em l x)) :: l)) H) := rfl
theorem g_part (agg : Bool) (n o : Nat) (x : IArg) : iwp pf C (qg d j w (.part agg n o x) k) Q (look l) H = guardK w (fun g => (okMay g (em l x)) ∧ (g = true → partOk n o (er l x)) ∧ iwp pf C k Q (look ((d, .may g (partV agg n o (er l x))) :: l)) H) (look l j) := by
  simp only [qg, iwp, iopwp, Ins.args, List.forall_mem_cons, List.not_mem_nil, false_implies, implies_true, and_true, iside, ival, imp_true_iff, true_and]; rfl
theorem w_idxa (sz : Nat) (arr : Option Nat) (x i : IArg) : iwp pf C (q d (.idxa sz arr x i) k) Q (look l) H = ((idxaOk sz (em l i) arr (em l x)) ∧ iwp pf C k Q (look ((d, idxaV sz (em l i) (em l x)) :: l)) H) := rfl
theorem g_idxa (sz : Nat) (arr : Option Nat) (x i : IArg) : iwp pf C (qg d j w (.idxa sz arr x i) k) Q (look l) H = guardK w (fun g => (okMay g (em l x) ∧ okMay g (em l i)) ∧ (g = true → idxaOk sz (er l i) arr (er l x)) ∧ iwp pf C k Q (look ((d, .may g (idxaV sz (er l i) (er l x))) :: l)) H) (look l j) := by
  simp only [qg, iwp, iopwp, Ins.args, List.forall_mem_cons, List.not_mem_nil, false_implies, implies_true, and_true, iside, ival, imp_true_iff, true_and]; rfl
theorem w_idx (agg : Bool) (n len : Nat) (x i : IArg) : iwp pf C (q d (.idx agg n len x i) k) Q (look l) H = ((idxOk n len (em l i) (em l x)) ∧ iwp pf C k Q (look ((d, idxV agg n (em l i) (em l x)) :: l)) H) := rfl
theorem g_idx (agg : Bool) (n len : Nat) (x i : IArg) : iwp pf C (qg d j w (.idx agg n len x i) k) Q (look l) H = guardK w (fun g => (okMay g (em l x) ∧ okMay g (em l i)) ∧ (g = true → idxOk n len (er l i) (er l x)) ∧ iwp pf C k Q (look ((d, .may g (idxV agg n (er l i) (er l x))) :: l)) H) (look l j) := by
  simp only [qg, iwp, iopwp, Ins.args, List.forall_mem_cons, List.not_mem_nil, false_implies, implies_true, and_true, iside, ival, imp_true_iff, true_and]; rfl
theorem w_sidx (x i : IArg) : iwp pf C (q d (.sidx x i) k) Q (look l) H = ((sidxOk (em l i) (em l x)) ∧ iwp pf C k Q (look ((d, sidxV (em l i) (em l x)) :: l)) H) := rfl
theorem g_sidx (x i : IArg) : iwp pf C (qg d j w (.sidx x i) k) Q (look l) H = guardK w (fun g => (okMay g (em l x) ∧ okMay g (em l i)) ∧ (g = true → sidxOk (er l i) (er l x)) ∧ iwp pf C k Q (look ((d, .may g (sidxV (er l i) (er l x))) :: l)) H) (look l j) := by
  simp only [qg, iwp, iopwp, Ins.args, List.forall_mem_cons, List.not_mem_nil, false_implies, implies_true, and_true, iside, ival, imp_true_iff, true_and]; rfl
theorem w_ext (x : IArg) (i : Nat) : iwp pf C (q d (.ext x i) k) Q (look l) H = ((extOk i (em l x)) ∧ iwp pf C k Q (look ((d, extV i (em l x)) :: l)) H) := rfl
theorem g_ext (x : IArg) (i : Nat) : iwp pf C (qg d j w (.ext x i) k) Q (look l) H = guardK w (fun g => (okMay g (em l x)) ∧ (g = true → extOk i (er l x)) ∧ iwp pf C k Q (look ((d, .may g (extV i (er l x))) :: l)) H) (look l j) := by
  simp only [qg, iwp, iopwp, Ins.args, List.forall_mem_cons, List.not_mem_nil, false_implies, implies_true, and_true, iside, ival, imp_true_iff, true_and]; rfl
theorem w_mkif (t : TypeId) (x : IArg) : iwp pf C (q d (.mkif t x) k) Q (look l) H = ((mkifOk (em l x)) ∧ iwp pf C k Q (look ((d, mkifV t (em l x)) :: l)) H) := rfl
theorem g_mkif (t : TypeId) (x : IArg) : iwp pf C (qg d j w (.mkif t x) k) Q (look l) H = guardK w (fun g => (okMay g (em l x)) ∧ (g = true → mkifOk (er l x)) ∧ iwp pf C k Q (look ((d, .may g (mkifV t (er l x))) :: l)) H) (look l j) := by
  simp only [qg, iwp, iopwp, Ins.args, List.forall_mem_cons, List.not_mem_nil, false_implies, implies_true, and_true, iside, ival, imp_true_iff, true_and]; rfl
theorem w_mkfn (f : Fn) (a b : List IArg) : iwp pf C (q d (.mkfn f a b) k) Q (look l) H = (iwp pf C k Q (look ((d, AV.fn f (a.map (em l)) (b.map (em l))) :: l)) H) := by show (True ∧ _) = _; rw [true_and]; rfl
theorem w_mksl (sz bytes : Nat) (z : List Value) (x c : IArg) : iwp pf C (q d (.mksl sz bytes z x c) k) Q (look l) H = ((mkslOk bytes (em l x) (em l c)) ∧ iwp pf C k Q (look ((d, AV.row H.length 0 (asI (em l x)).toNat ((asI (em l x)).toNat * sz)) :: l)) (H ++ [⟨repl (asI (em l x)).toNat (zlit z), sz, true⟩])) := rfl
theorem w_slice (sz : Nat) (arr : Option Nat) (x : IArg) (lo hi mx : Option IArg) : iwp pf C (q d (.slice sz arr x lo hi mx) k) Q (look l) H = (((mx = none ∨ hi ≠ none) ∧ sliceOk sz H (lo.map (em l)) (hi.map (em l)) (mx.map (em l)) arr (em l x)) ∧ iwp pf C k Q (look ((d, sliceV sz H (lo.map (em l)) (hi.map (em l)) (mx.map (em l)) arr (em l x)) :: l)) H) := rfl
theorem g_slice (sz : Nat) (arr : Option Nat) (x : IArg) (lo hi mx : Option IArg) : iwp pf C (qg d j w (.slice sz arr x lo hi mx) k) Q (look l) H = guardK w (fun g => (∀ y ∈ (Ins.slice sz arr x lo hi mx).args, okMay g (em l y)) ∧ (g = true → (mx = none ∨ hi ≠ none) ∧ sliceOk sz H (lo.map (er l)) (hi.map (er l)) (mx.map (er l)) arr (er l x)) ∧ iwp pf C k Q (look ((d, .may g (sliceV sz H (lo.map (er l)) (hi.map (er l)) (mx.map (er l)) arr (er l x))) :: l)) H) (look l j) := by
  simp only [qg, iwp, iopwp, Ins.args, List.forall_mem_cons, List.not_mem_nil, false_implies, implies_true, and_true, iside, ival, imp_true_iff, true_and, er, em, upd_look]; (have e1 : er l = fun x => (ev (look l) x).un := rfl); (try simp only [e1]); first | done | rfl
theorem w_sslice (x : IArg) (lo hi : Option IArg) : iwp pf C (q d (.sslice x lo hi) k) Q (look l) H = ((ssliceOk (lo.map (em l)) (hi.map (em l)) (em l x)) ∧ iwp pf C k Q (look ((d, ssliceV (lo.map (em l)) (hi.map (em l)) (em l x)) :: l)) H) := rfl
theorem g_sslice (x : IArg) (lo hi : Option IArg) : iwp pf C (qg d j w (.sslice x lo hi) k) Q (look l) H = guardK w (fun g => (∀ y ∈ (Ins.sslice x lo hi).args, okMay g (em l y)) ∧ (g = true → ssliceOk (lo.map (er l)) (hi.map (er l)) (er l x)) ∧ iwp pf C k Q (look ((d, .may g (ssliceV (lo.map (er l)) (hi.map (er l)) (er l x))) :: l)) H) (look l j) := by
  simp only [qg, iwp, iopwp, Ins.args, List.forall_mem_cons, List.not_mem_nil, false_implies, implies_true, and_true, iside, ival, imp_true_iff, true_and, er, em, upd_look]; (have e1 : er l = fun x => (ev (look l) x).un := rfl); (try simp only [e1]); first | done | rfl
theorem w_append (sz bytes : Nat) (s x : IArg) : iwp pf C (q d (.append sz bytes s x) k) Q (look l) H = ((appOk sz bytes H (em l s) (em l x)) ∧ iwp pf C k Q (look ((d, appV sz H (em l x) (em l s)) :: l)) (appH sz H (em l x) (em l s))) := rfl
theorem w_copy (sz : Nat) (t x : IArg) : iwp pf C (q d (.copy sz t x) k) Q (look l) H = ((copyOk sz H (em l t) (em l x)) ∧ iwp pf C k Q (look ((d, AV.lit (.int .i64 (copyN (em l t) (em l x) : Nat))) :: l)) (copyH sz H (em l x) (em l t))) := rfl
theorem n_copy (sz : Nat) (t x : IArg) : iwp pf C (qn (.copy sz t x) k) Q (look l) H = ((copyOk sz H (em l t) (em l x)) ∧ iwp pf C k Q (look l) (copyH sz H (em l x) (em l t))) := rfl
theorem w_len (str : Bool) (x : IArg) : iwp pf C (q d (.len str x) k) Q (look l) H = ((lenOk str (em l x)) ∧ iwp pf C k Q (look ((d, AV.lit (.int .i64 (srcN (em l x)))) :: l)) H) := rfl
theorem g_len (str : Bool) (x : IArg) : iwp pf C (qg d j w (.len str x) k) Q (look l) H = guardK w (fun g => (okMay g (em l x)) ∧ (g = true → lenOk str (er l x)) ∧ iwp pf C k Q (look ((d, .may g (AV.lit (.int .i64 (srcN (er l x))))) :: l)) H) (look l j) := by
  simp only [qg, iwp, iopwp, Ins.args, List.forall_mem_cons, List.not_mem_nil, false_implies, implies_true, and_true, iside, ival, imp_true_iff, true_and]; rfl
theorem w_cap (x : IArg) : iwp pf C (q d (.cap x) k) Q (look l) H = ((capOk (em l x)) ∧ iwp pf C k Q (look ((d, AV.lit (.int .i64 (srcN (em l x)))) :: l)) H) := rfl
theorem g_cap (x : IArg) : iwp pf C (qg d j w (.cap x) k) Q (look l) H = guardK w (fun g => (okMay g (em l x)) ∧ (g = true → capOk (er l x)) ∧ iwp pf C k Q (look ((d, .may g (AV.lit (.int .i64 (srcN (er l x))))) :: l)) H) (look l j) := by
  simp only [qg, iwp, iopwp, Ins.args, List.forall_mem_cons, List.not_mem_nil, false_implies, implies_true, and_true, iside, ival, imp_true_iff, true_and]; rfl
theorem w_clear (sz : Nat) (z : List Value) (x : IArg) : iwp pf C (q d (.clear sz z x) k) Q (look l) H = ((clearOk sz z H (em l x)) ∧ iwp pf C k Q (look ((d, AV.tup []) :: l)) (clearH z H (em l x))) := rfl
theorem n_clear (sz : Nat) (z : List Value) (x : IArg) : iwp pf C (qn (.clear sz z x) k) Q (look l) H = ((clearOk sz z H (em l x)) ∧ iwp pf C k Q (look l) (clearH z H (em l x))) := rfl
theorem w_mark (x : IArg) : iwp pf C (q d (.mark x) k) Q (look l) H = ((markOk H (em l x)) ∧ iwp pf C k Q (look ((d, (em l x)) :: l)) H) := rfl
theorem g_mark (x : IArg) : iwp pf C (qg d j w (.mark x) k) Q (look l) H = guardK w (fun g => (okMay g (em l x)) ∧ (g = true → markOk H (er l x)) ∧ iwp pf C k Q (look ((d, .may g ((er l x))) :: l)) H) (look l j) := by
  simp only [qg, iwp, iopwp, Ins.args, List.forall_mem_cons, List.not_mem_nil, false_implies, implies_true, and_true, iside, ival, imp_true_iff, true_and]; rfl
theorem w_appz (sz bytes : Nat) (z : List Value) (s x : IArg) : iwp pf C (q d (.appz sz bytes z s x) k) Q (look l) H = ((appzOk bytes (em l s) (em l x)) ∧ iwp pf C k Q (look ((d, AV.row H.length 0 (asI (em l x)).toNat ((asI (em l x)).toNat * sz)) :: l)) (H ++ [⟨repl (asI (em l x)).toNat (zlit z), sz, true⟩])) := rfl
theorem w_appv (sz bytes : Nat) (s x : IArg) : iwp pf C (q d (.appv sz bytes s x) k) Q (look l) H = ((appvOk sz bytes H (em l s) (em l x)) ∧ iwp pf C k Q (look ((d, appvV sz H (em l x) (em l s)) :: l)) H) := rfl
theorem g_appv (sz bytes : Nat) (s x : IArg) : iwp pf C (qg d j w (.appv sz bytes s x) k) Q (look l) H = guardK w (fun g => (okMay g (em l s) ∧ okMay g (em l x)) ∧ (g = true → appvOk sz bytes H (er l s) (er l x)) ∧ iwp pf C k Q (look ((d, .may g (appvV sz H (er l x) (er l s))) :: l)) H) (look l j) := by
  simp only [qg, iwp, iopwp, Ins.args, List.forall_mem_cons, List.not_mem_nil, false_implies, implies_true, and_true, iside, ival, imp_true_iff, true_and]; rfl
theorem w_dead  : iwp pf C (q d (.dead ) k) Q (look l) H = ((False) ∧ iwp pf C k Q (look ((d, AV.junk) :: l)) H) := rfl
theorem n_dead  : iwp pf C (qn (.dead ) k) Q (look l) H = ((False) ∧ iwp pf C k Q (look l) H) := rfl
theorem w_isnil (neq : Bool) (x : IArg) : iwp pf C (q d (.isnil neq x) k) Q (look l) H = ((nilcOk (em l x)) ∧ iwp pf C k Q (look ((d, nilcV neq (em l x)) :: l)) H) := rfl
theorem g_isnil (neq : Bool) (x : IArg) : iwp pf C (qg d j w (.isnil neq x) k) Q (look l) H = guardK w (fun g => (okMay g (em l x)) ∧ (g = true → nilcOk (er l x)) ∧ iwp pf C k Q (look ((d, .may g (nilcV neq (er l x))) :: l)) H) (look l j) := by
  simp only [qg, iwp, iopwp, Ins.args, List.forall_mem_cons, List.not_mem_nil, false_implies, implies_true, and_true, iside, ival, imp_true_iff, true_and]; rfl
theorem w_carry (sub : Bool) (x y c : IArg) : iwp pf C (q d (.carry sub x y c) k) Q (look l) H = ((carryOk (em l x) (em l y) (em l c)) ∧ iwp pf C k Q (look ((d, carryV sub (em l x) (em l y) (em l c)) :: l)) H) := rfl
theorem g_carry (sub : Bool) (x y c : IArg) : iwp pf C (qg d j w (.carry sub x y c) k) Q (look l) H = guardK w (fun g => (okMay g (em l x) ∧ okMay g (em l y) ∧ okMay g (em l c)) ∧ (g = true → carryOk (er l x) (er l y) (er l c)) ∧ iwp pf C k Q (look ((d, .may g (carryV sub (er l x) (er l y) (er l c))) :: l)) H) (look l j) := by
  simp only [qg, iwp, iopwp, Ins.args, List.forall_mem_cons, List.not_mem_nil, false_implies, implies_true, and_true, iside, ival, imp_true_iff, true_and]; rfl
theorem w_s2ap (len sz : Nat) (x : IArg) : iwp pf C (q d (.s2ap len sz x) k) Q (look l) H = ((s2apOk len sz (em l x)) ∧ iwp pf C k Q (look ((d, s2apV (em l x)) :: l)) H) := rfl
theorem g_s2ap (len sz : Nat) (x : IArg) : iwp pf C (qg d j w (.s2ap len sz x) k) Q (look l) H = guardK w (fun g => (okMay g (em l x)) ∧ (g = true → s2apOk len sz (er l x)) ∧ iwp pf C k Q (look ((d, .may g (s2apV (er l x))) :: l)) H) (look l j) := by
  simp only [qg, iwp, iopwp, Ins.args, List.forall_mem_cons, List.not_mem_nil, false_implies, implies_true, and_true, iside, ival, imp_true_iff, true_and]; rfl
theorem w_lenc (n : Nat) : iwp pf C (q d (.lenc n) k) Q (look l) H = (iwp pf C k Q (look ((d, AV.lit (.int .i64 n)) :: l)) H) := by show (True ∧ _) = _; rw [true_and]; rfl
theorem g_lenc (n : Nat) : iwp pf C (qg d j w (.lenc n) k) Q (look l) H = guardK w (fun g => iwp pf C k Q (look ((d, .may g (AV.lit (.int .i64 n))) :: l)) H) (look l j) := by
  simp only [qg, iwp, iopwp, Ins.args, List.forall_mem_cons, List.not_mem_nil, false_implies, implies_true, and_true, iside, ival, imp_true_iff, true_and]; rfl
theorem w_mn (x y : IArg) : iwp pf C (q d (.mn x y) k) Q (look l) H = ((isI (em l x) ∧ isI (em l y)) ∧ iwp pf C k Q (look ((d, mnV (em l x) (em l y)) :: l)) H) := rfl
theorem g_mn (x y : IArg) : iwp pf C (qg d j w (.mn x y) k) Q (look l) H = guardK w (fun g => (okMay g (em l x) ∧ okMay g (em l y)) ∧ (g = true → isI (er l x) ∧ isI (er l y)) ∧ iwp pf C k Q (look ((d, .may g (mnV (er l x) (er l y))) :: l)) H) (look l j) := by
  simp only [qg, iwp, iopwp, Ins.args, List.forall_mem_cons, List.not_mem_nil, false_implies, implies_true, and_true, iside, ival, imp_true_iff, true_and]; rfl
theorem w_mx (x y : IArg) : iwp pf C (q d (.mx x y) k) Q (look l) H = ((isI (em l x) ∧ isI (em l y)) ∧ iwp pf C k Q (look ((d, mxV (em l x) (em l y)) :: l)) H) := rfl
theorem g_mx (x y : IArg) : iwp pf C (qg d j w (.mx x y) k) Q (look l) H = guardK w (fun g => (okMay g (em l x) ∧ okMay g (em l y)) ∧ (g = true → isI (er l x) ∧ isI (er l y)) ∧ iwp pf C k Q (look ((d, .may g (mxV (er l x) (er l y))) :: l)) H) (look l j) := by
  simp only [qg, iwp, iopwp, Ins.args, List.forall_mem_cons, List.not_mem_nil, false_implies, implies_true, and_true, iside, ival, imp_true_iff, true_and]; rfl
theorem w_pick (c a b : IArg) : iwp pf C (q d (.pick c a b) k) Q (look l) H = (pickOk true (em l c) (em l a) (em l b) ∧ iwp pf C k Q (look ((d, pickv (er l c) (er l a) (er l b)) :: l)) H) := rfl
theorem g_pick (c a b : IArg) : iwp pf C (qg d j w (.pick c a b) k) Q (look l) H = guardK w (fun g => pickOk g (em l c) (em l a) (em l b) ∧ iwp pf C k Q (look ((d, .may g (pickv (er l c) (er l a) (er l b))) :: l)) H) (look l j) := rfl
theorem args_bslice (own : Bool) (sz len : Nat) (z : List Value) (ps : List (Nat × Nat × IArg)) : (Ins.bslice own sz len z ps).args = ps.map (·.2.2) := rfl
theorem args_build (z : List Value) (ps : List (Nat × Nat × IArg)) : (Ins.build z ps).args = ps.map (·.2.2) := rfl
theorem args_slice (sz : Nat) (arr : Option Nat) (x : IArg) (lo hi mx : Option IArg) : (Ins.slice sz arr x lo hi mx).args = x :: (lo.toList ++ (hi.toList ++ mx.toList)) := by simp [Ins.args]
theorem args_sslice (x : IArg) (lo hi : Option IArg) : (Ins.sslice x lo hi).args = x :: (lo.toList ++ hi.toList) := by simp [Ins.args]
/-- A call, ahead of what follows. -/
def callW (pf : Pf) (C : CallRel) (pu : Bool) (d : Option Nat) (f : FuncId) (args : List AV) (l : List (Nat × AV)) (k : IC) (Q : Ex → Env → AH → Prop) (H : AH) : Prop :=
  ∃ v H', C f args H v H' ∧ (pu = true → H' = H) ∧ iwp pf C k Q (look (match d with | some d => (d, v) :: l | none => l)) H'
def callG (pf : Pf) (C : CallRel) (d : Nat) (g : Bool) (f : FuncId) (args : List AV) (l : List (Nat × AV)) (k : IC) (Q : Ex → Env → AH → Prop) (H : AH) : Prop :=
  ∃ v, (g = true → C f args H v H) ∧ iwp pf C k Q (look ((d, .may g v) :: l)) H
theorem callW_some {pu : Bool} {f : FuncId} {args : List AV} {v : AV} {H' : AH} (h : C f args H v H') (hp : pu = true → H' = H) (hk : iwp pf C k Q (look ((d, v) :: l)) H') : callW pf C pu (some d) f args l k Q H := ⟨v, H', h, hp, hk⟩
theorem callW_none {pu : Bool} {f : FuncId} {args : List AV} {v : AV} {H' : AH} (h : C f args H v H') (hp : pu = true → H' = H) (hk : iwp pf C k Q (look l) H') : callW pf C pu none f args l k Q H := ⟨v, H', h, hp, hk⟩
theorem callG_of {g : Bool} {f : FuncId} {args : List AV} {v : AV} (h : g = true → C f args H v H) (hk : iwp pf C k Q (look ((d, .may g v) :: l)) H) : callG pf C d g f args l k Q H := ⟨v, h, hk⟩
theorem w_call (f : FuncId) (ags : List IArg) : iwp pf C (q d (.call f ags) k) Q (look l) H = callW pf C (pf.f f) (some d) f (ags.map (em l)) l k Q H := by
  simp only [q, iwp, iopwp, callW, callOf, and_assoc]; rfl
theorem n_call (f : FuncId) (ags : List IArg) : iwp pf C (qn (.call f ags) k) Q (look l) H = callW pf C (pf.f f) none f (ags.map (em l)) l k Q H := by
  simp only [qn, iwp, iopwp, callW, callOf, and_assoc]; rfl
theorem g_call (f : FuncId) (ags : List IArg) : iwp pf C (qg d j w (.call f ags) k) Q (look l) H = guardK w (fun g => (∀ x ∈ ags, okMay g (em l x)) ∧ callG pf C d g f (ags.map (er l)) l k Q H) (look l j) := by
  simp only [qg, iwp, iopwp, callOf, implies_true, and_true, callG]; rfl
def cvW (pf : Pf) (C : CallRel) (d : Option Nat) (ags : List AV) (l : List (Nat × AV)) (k : IC) (Q : Ex → Env → AH → Prop) (H : AH) : AV → Prop
  | .fn (.func f) a b => callW pf C pf.v d f (a ++ ags ++ b) l k Q H
  | _ => False
def cvG (pf : Pf) (C : CallRel) (d : Nat) (g : Bool) (ags : List AV) (l : List (Nat × AV)) (k : IC) (Q : Ex → Env → AH → Prop) (H : AH) : AV → Prop
  | .fn (.func f) a b => callG pf C d g f (a ++ ags ++ b) l k Q H
  | _ => False
def cvOf (pf : Pf) (C : CallRel) (H : AH) (v : AV) (H' : AH) (ags : List AV) : AV → Prop
  | .fn (.func f) a b => C f (a ++ ags ++ b) H v H' ∧ (pf.v = true → H' = H)
  | _ => False
theorem callv_eq (ρ : IArg → AV) (v : AV) (H' : AH) (x : IArg) (ags : List IArg) : callOf pf ρ C H v H' (.callv x ags) = cvOf pf C H v H' (ags.map ρ) (ρ x) := by
  simp only [callOf, cvOf]
  split <;> simp_all
theorem cvW_eq (x : AV) (ags : List AV) : (∃ v H', cvOf pf C H v H' ags x ∧ iwp pf C k Q (look ((d, v) :: l)) H') = cvW pf C (some d) ags l k Q H x := by
  unfold cvOf cvW
  split
  · simp only [callW, and_assoc]
  · rename_i hn; simp
theorem cvN_eq (x : AV) (ags : List AV) : (∃ v H', cvOf pf C H v H' ags x ∧ iwp pf C k Q (look l) H') = cvW pf C none ags l k Q H x := by
  unfold cvOf cvW
  split
  · simp only [callW, and_assoc]
  · rename_i hn; simp
theorem w_callv_iff (x : IArg) (ags : List IArg) : iwp pf C (q d (.callv x ags) k) Q (look l) H = cvW pf C (some d) (ags.map (em l)) l k Q H (em l x) := by
  rw [← cvW_eq]
  simp only [q, qn, iwp, iopwp]
  simp only [callv_eq]; rfl
theorem n_callv_iff (x : IArg) (ags : List IArg) : iwp pf C (qn (.callv x ags) k) Q (look l) H = cvW pf C none (ags.map (em l)) l k Q H (em l x) := by
  rw [← cvN_eq]
  simp only [q, qn, iwp, iopwp]
  simp only [callv_eq]; rfl
theorem guard_lit (K : Bool → Prop) (b : Bool) : guardK w K (.lit (.bool b)) = K (b == w) := rfl
theorem guard_may (K : Bool → Prop) (g b : Bool) : guardK w K (.may g (.lit (.bool b))) = K (g && (b == w)) := rfl
theorem w_keep (s : List Nat) : iwp pf C (.keep s k) Q (look l) H = iwp pf C k Q (look (keepE s (look l))) H := rfl
theorem keep_nil (E : Env) : keepE [] E = [] := rfl
theorem keep_cons (n : Nat) (s : List Nat) (E : Env) : keepE (n :: s) E = (n, E n) :: keepE s E := rfl
theorem w_done : iwp pf C .done Q (look l) H = Q .normal (look l) H := rfl
theorem w_ret : iwp pf C .ret Q (look l) H = Q .ret (look l) H := rfl
theorem w_exit (id : Nat) : iwp pf C (.exit id) Q (look l) H = Q (.exit id) (look l) H := rfl
/-- What stands behind a code. -/
def thn (pf : Pf) (C : CallRel) (k : IC) (Q : Ex → Env → AH → Prop) : Ex → Env → AH → Prop := fun e E H => match e with | .normal => iwp pf C k Q E H | e => Q e E H
def blk (pf : Pf) (C : CallRel) (id : Nat) (k : IC) (Q : Ex → Env → AH → Prop) : Ex → Env → AH → Prop := fun e E H => match e with
    | .normal => iwp pf C k Q E H
    | .exit i => if i = id then iwp pf C k Q E H else Q (.exit i) E H
    | .ret => Q .ret E H
theorem thn_normal (E : Env) : thn pf C k Q .normal E H = iwp pf C k Q E H := rfl
theorem thn_exit (id : Nat) (E : Env) : thn pf C k Q (.exit id) E H = Q (.exit id) E H := rfl
theorem thn_ret (E : Env) : thn pf C k Q .ret E H = Q .ret E H := rfl
theorem blk_normal (id : Nat) (E : Env) : blk pf C id k Q .normal E H = iwp pf C k Q E H := rfl
theorem blk_exit (id i : Nat) (E : Env) : blk pf C id k Q (.exit i) E H = if i = id then iwp pf C k Q E H else Q (.exit i) E H := rfl
theorem blk_ret (id : Nat) (E : Env) : blk pf C id k Q .ret E H = Q .ret E H := rfl
/-- A test. -/
def iteK (K1 K2 : Prop) : AV → Prop
  | .lit (.bool t) => (t = true → K1) ∧ (t = false → K2)
  | .anyb => K1 ∧ K2
  | _ => False
theorem w_ite (c : IArg) (a b : IC) : iwp pf C (.ite c a b k) Q (look l) H = iteK (iwp pf C a (thn pf C k Q) (look l) H) (iwp pf C b (thn pf C k Q) (look l) H) (em l c) := by
  simp only [iwp, iteK, em]
  cases ev (look l) c <;> rfl
theorem ite_lit (K1 K2 : Prop) (t : Bool) : iteK K1 K2 (.lit (.bool t)) = ((t = true → K1) ∧ (t = false → K2)) := rfl
theorem ite_any (K1 K2 : Prop) : iteK K1 K2 .anyb = (K1 ∧ K2) := rfl
theorem ite_true' (K1 K2 : Prop) : iteK K1 K2 (.lit (.bool true)) = K1 := by simp [iteK]
theorem ite_false' (K1 K2 : Prop) : iteK K1 K2 (.lit (.bool false)) = K2 := by simp [iteK]
theorem w_block (id : Nat) (b : IC) : iwp pf C (.block id b k) Q (look l) H = iwp pf C b (blk pf C id k Q) (look l) H := rfl
/-- A loop: a family of states, a measure. -/
theorem w_loop {α : Type} (b : IC) (st : α → List (Nat × AV) × AH) (inv : α → Prop) (μ : α → Nat) (a0 : α) (h0 : inv a0) (he : (l, H) = st a0)
    (hr : ∀ a, inv a → iwp pf C b (fun e E' H' => match e with
      | .normal => ∃ a', E' = look (st a').1 ∧ H' = (st a').2 ∧ inv a' ∧ μ a' < μ a
      | e => Q e E' H') (look (st a).1) (st a).2) : iwp pf C (.loop b) Q (look l) H := by
  refine ⟨fun n E H => ∃ a, E = look (st a).1 ∧ H = (st a).2 ∧ inv a ∧ μ a = n, μ a0, ⟨a0, by rw [← he], by rw [← he], h0, rfl⟩, ?_⟩
  rintro n E H ⟨a, rfl, rfl, hi, rfl⟩
  refine iwp_mono (hr a hi) ?_
  intro e E' H' h
  cases e with
  | normal => obtain ⟨a', h1, h2, h3, h4⟩ := h; exact ⟨μ a', h4, a', h1, h2, h3, rfl⟩
  | exit id => exact h
  | ret => exact h
/-! ### Drawn regions that make objects -/
/-- Short words. -/
def xl (d : Nat) (o : Ins) (ds : List IArg) : RA := ⟨⟨some d, none, o⟩, .l, ds⟩
def xln (o : Ins) (ds : List IArg) : RA := ⟨⟨none, none, o⟩, .l, ds⟩
def xlg (d j : Nat) (w : Bool) (o : Ins) (ds : List IArg) : RA := ⟨⟨some d, some (j, w), o⟩, .l, ds⟩
def xm (d : Nat) (o : Ins) (ds : List IArg) : RA := ⟨⟨some d, none, o⟩, .m, ds⟩
def xmn (o : Ins) (ds : List IArg) : RA := ⟨⟨none, none, o⟩, .m, ds⟩
def xw (d : Nat) (o : Ins) (ds : List IArg) : RA := ⟨⟨some d, none, o⟩, .w, ds⟩
def xe (d : Nat) (o : Ins) (ds : List IArg) : RA := ⟨⟨some d, none, o⟩, .e, ds⟩
def xeg (d j : Nat) (w : Bool) (o : Ins) (ds : List IArg) : RA := ⟨⟨some d, some (j, w), o⟩, .e, ds⟩
def xa (r d : Nat) (o : Ins) : RA := ⟨⟨some d, none, o⟩, .a r, []⟩
def dsP (l : List (Nat × AV)) (o : Ins) (ds : List IArg) : Prop := ∀ a ∈ ds, apart (er l a) (er l (adrD o))
theorem dsP_nil (o : Ins) : dsP l o [] = True := by simp [dsP]
theorem dsP_cons (o : Ins) (a : IArg) (r : List IArg) : dsP l o (a :: r) = (apart (er l a) (er l (adrD o)) ∧ dsP l o r) := by simp [dsP]
theorem adrD_load (agg : Bool) (n : Nat) (x : IArg) : adrD (.load agg n x) = x := rfl
theorem adrD_store (n : Nat) (a x : IArg) : adrD (.store n a x) = a := rfl
theorem apart_pp (i o j p : Nat) : apart (.ptr i o) (.ptr j p) = (i ≠ j) := rfl
theorem apart_pr (i o j p L : Nat) : apart (.ptr i o) (.rptr j p L) = (i ≠ j) := rfl
theorem apart_rp (i o j p L : Nat) : apart (.rptr j p L) (.ptr i o) = (j ≠ i) := rfl
theorem apart_rr (i o j p L M : Nat) : apart (.rptr i o L) (.rptr j p M) = (i ≠ j) := rfl
theorem adrD_slice (sz : Nat) (arr : Option Nat) (x : IArg) (lo hi mx : Option IArg) : adrD (.slice sz arr x lo hi mx) = x := rfl
theorem adrD_append (sz b : Nat) (s x : IArg) : adrD (.append sz b s x) = s := rfl
theorem apart_pR (i o j p n L : Nat) : apart (.ptr i o) (.row j p n L) = (i ≠ j) := rfl
theorem apart_rR (i o M j p n L : Nat) : apart (.rptr i o M) (.row j p n L) = (i ≠ j) := rfl
theorem apart_Rp (i o j p n L : Nat) : apart (.row j p n L) (.ptr i o) = (i ≠ j) := rfl
theorem apart_Rr (i o M j p n L : Nat) : apart (.row j p n L) (.rptr i o M) = (i ≠ j) := rfl
theorem apart_RR (i o M m j p n L : Nat) : apart (.row i o m M) (.row j p n L) = (i ≠ j) := rfl
theorem apart_V (cs : List AV) (n : Nat) (f : Bool) (v : AV) : apart (.view cs n f) v = True := by cases v <;> rfl
theorem apart_V' (cs : List AV) (n : Nat) (f : Bool) (v : AV) : apart v (.view cs n f) = True := by cases v <;> rfl
theorem apart_N (v : AV) : apart (.lit (.slice none 0 0)) v = True := by cases v <;> rfl
theorem apart_N' (v : AV) : apart v (.lit (.slice none 0 0)) = True := by
  cases v <;> first | rfl | skip
  rename_i v; unfold apart; split <;> first | rfl | simp_all
theorem apart_v (cs : List AV) (v : AV) : apart (.vptr cs) v = True := by cases v <;> rfl
theorem apart_v' (cs : List AV) (v : AV) : apart v (.vptr cs) = True := by cases v <;> rfl
theorem w_reg (n : Nat) (rs : List RA) : iwp pf C (.reg n rs k) Q (look l) H = absR pf C H.length rs (iwp pf C k Q) (look l) (H ++ List.replicate n dumO) := rfl
section
variable {base : Nat} {r : List RA} {K : Env → AH → Prop}
theorem R_nil : absR pf C base [] K (look l) H = K (look l) H := rfl
theorem R_l (o : Ins) (ds : List IArg) : absR pf C base (xl d o ds :: r) K (look l) H = (dsP l o ds ∧ iwp pf C (q d o .done) (fun _ => absR pf C base r K) (look l) H) := rfl
theorem R_ln (o : Ins) (ds : List IArg) : absR pf C base (xln o ds :: r) K (look l) H = (dsP l o ds ∧ iwp pf C (qn o .done) (fun _ => absR pf C base r K) (look l) H) := rfl
theorem R_lg (o : Ins) (ds : List IArg) : absR pf C base (xlg d j w o ds :: r) K (look l) H = (dsP l o ds ∧ iwp pf C (qg d j w o .done) (fun _ => absR pf C base r K) (look l) H) := rfl
theorem R_m (o : Ins) (ds : List IArg) : absR pf C base (xm d o ds :: r) K (look l) H = (dsP l o ds ∧ iwp pf C (q d o .done) (fun _ E' H' => H'.take base = H.take base ∧ absR pf C base r K E' H') (look l) H) := rfl
theorem R_mn (o : Ins) (ds : List IArg) : absR pf C base (xmn o ds :: r) K (look l) H = (dsP l o ds ∧ iwp pf C (qn o .done) (fun _ E' H' => H'.take base = H.take base ∧ absR pf C base r K E' H') (look l) H) := rfl
theorem R_w (o : Ins) (ds : List IArg) : absR pf C base (xw d o ds :: r) K (look l) H = (dsP l o ds ∧ base ≤ H.length ∧ iwp pf C (q d o .done) (fun _ => absR pf C base r K) (look l) H) := rfl
theorem R_e (o : Ins) (ds : List IArg) : absR pf C base (xe d o ds :: r) K (look l) H = (dsP l o ds ∧ iwp pf (frC C) (q d o .done) (fun _ E' _ => absR pf C base r K E' H) (look l) (H.take base)) := rfl
theorem R_eg (o : Ins) (ds : List IArg) : absR pf C base (xeg d j w o ds :: r) K (look l) H = (dsP l o ds ∧ iwp pf (frC C) (qg d j w o .done) (fun _ E' _ => absR pf C base r K E' H) (look l) (H.take base)) := rfl
theorem R_a (s : Nat) (o : Ins) : absR pf C base (xa s d o :: r) K (look l) H = ((base + s < H.length ∧ obj H (base + s) = dumO) ∧ newOk (em l) o ∧ iside pf.c (em l) (H.take base) o ∧ absR pf C base r K (look ((d, aval (base + s) (em l) (H.take base) o) :: l)) (H.set (base + s) (aobj (em l) (H.take base) o))) := by
  show ((∀ a ∈ [], _) ∧ _) = _
  simp only [List.not_mem_nil, false_implies, implies_true, true_and]
  rfl
end
theorem new_alloc (ρ : IArg → AV) (z : List Value) : newOk ρ (.alloc z) = True := rfl
theorem new_box (ρ : IArg → AV) (x : IArg) : newOk ρ (.box x) = True := rfl
theorem new_mksl (ρ : IArg → AV) (sz b : Nat) (z : List Value) (x c : IArg) : newOk ρ (.mksl sz b z x c) = True := rfl
theorem new_bslice (ρ : IArg → AV) (sz n : Nat) (z : List Value) (ps : List (Nat × Nat × IArg)) : newOk ρ (.bslice true sz n z ps) = True := by simp [newOk]
theorem new_append (ρ : IArg → AV) (sz b : Nat) (s x : IArg) : newOk ρ (.append sz b s x) = nilBase (ρ s) := rfl
theorem nb_nil : nilBase (.lit (.slice none 0 0)) = True := rfl
theorem nb_view (cs : List AV) : nilBase (.view cs 0 true) = True := by simp [nilBase]
theorem sd_alloc (cmp : TypeId → Bool) (ρ : IArg → AV) (z : List Value) : iside cmp ρ H (.alloc z) = True := rfl
theorem sd_box (cmp : TypeId → Bool) (ρ : IArg → AV) (x : IArg) : iside cmp ρ H (.box x) = ((ρ x).cells.isEmpty = false ∧ (ρ x).cells.all AV.one = true) := rfl
theorem sd_mksl (cmp : TypeId → Bool) (ρ : IArg → AV) (sz b : Nat) (z : List Value) (x c : IArg) : iside cmp ρ H (.mksl sz b z x c) = mkslOk b (ρ x) (ρ c) := rfl
theorem sd_bslice (cmp : TypeId → Bool) (ρ : IArg → AV) (sz n : Nat) (z : List Value) (ps : List (Nat × Nat × IArg)) : iside cmp ρ H (.bslice true sz n z ps) = fillOk (n * sz) (ps.map fun p => (p.1, p.2.1, ρ p.2.2)) := by simp [iside]
theorem sd_append (cmp : TypeId → Bool) (ρ : IArg → AV) (sz b : Nat) (s x : IArg) : iside cmp ρ H (.append sz b s x) = appOk sz b H (ρ s) (ρ x) := rfl
theorem av_alloc (id : Nat) (ρ : IArg → AV) (z : List Value) : aval id ρ H (.alloc z) = .ptr id 0 := rfl
theorem av_box (id : Nat) (ρ : IArg → AV) (x : IArg) : aval id ρ H (.box x) = .ptr id 0 := rfl
theorem av_mksl (id : Nat) (ρ : IArg → AV) (sz b : Nat) (z : List Value) (x c : IArg) : aval id ρ H (.mksl sz b z x c) = .row id 0 (asI (ρ x)).toNat ((asI (ρ x)).toNat * sz) := rfl
theorem av_bslice (id : Nat) (ρ : IArg → AV) (o : Bool) (sz n : Nat) (z : List Value) (ps : List (Nat × Nat × IArg)) : aval id ρ H (.bslice o sz n z ps) = .row id 0 n (n * sz) := rfl
theorem av_append (id : Nat) (ρ : IArg → AV) (sz b : Nat) (s x : IArg) : aval id ρ H (.append sz b s x) = .row id 0 (srcN (ρ x)) (srcC sz H (ρ x)).length := rfl
theorem ao_alloc (ρ : IArg → AV) (z : List Value) : aobj ρ H (.alloc z) = ⟨zlit z, 0, true⟩ := rfl
theorem ao_box (ρ : IArg → AV) (x : IArg) : aobj ρ H (.box x) = ⟨(ρ x).cells, 0, true⟩ := rfl
theorem ao_mksl (ρ : IArg → AV) (sz b : Nat) (z : List Value) (x c : IArg) : aobj ρ H (.mksl sz b z x c) = ⟨repl (asI (ρ x)).toNat (zlit z), sz, true⟩ := rfl
theorem ao_bslice (ρ : IArg → AV) (o : Bool) (sz n : Nat) (z : List Value) (ps : List (Nat × Nat × IArg)) : aobj ρ H (.bslice o sz n z ps) = ⟨fillv (repl n (zlit z)) (ps.map fun p => (p.1, ρ p.2.2)), sz, true⟩ := rfl
theorem ao_append (ρ : IArg → AV) (sz b : Nat) (s x : IArg) : aobj ρ H (.append sz b s x) = ⟨srcC sz H (ρ x), sz, true⟩ := rfl
section
variable (G : AH) (o : AObj) (n : Nat)
theorem set_app0 : (H ++ G).set H.length o = H ++ G.set 0 o := by rw [List.set_append_right _ _ (Nat.le_refl _), Nat.sub_self]
theorem set_appk : (H ++ G).set (H.length + n) o = H ++ G.set n o := by rw [List.set_append_right _ _ (Nat.le_add_right _ _), Nat.add_sub_cancel_left]
theorem take_app0 : (H ++ G).take H.length = H := List.take_left
theorem take_appk : (H ++ G).take (H.length + n) = H ++ G.take n := List.take_length_add_append n
end
end
end Go.Proofs.Ytgfploghjpbcaaa.Eng
