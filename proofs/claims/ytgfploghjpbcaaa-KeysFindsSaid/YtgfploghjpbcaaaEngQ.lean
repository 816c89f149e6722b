/- The rules, in one set. -/
import Derived.Test.YtgfploghjpbcaaaEngP
namespace Go.Proofs.Ytgfploghjpbcaaa.Eng
open Go
theorem binOk_int (op : BinOp) (k k' : IntKind) (a b : Int) : binOk op (.lit (.int k a)) (.lit (.int k' b)) = ibinOk op k k' b := rfl
theorem binOk_str (op : BinOp) (x y : ByteArray) : binOk op (.lit (.string x)) (.lit (.string y)) = sbinOk op x y := rfl
theorem binv_int (op : BinOp) (k k' : IntKind) (a b : Int) : binv op (.lit (.int k a)) (.lit (.int k' b)) = .lit (ibin op k a b) := rfl
theorem binv_str (op : BinOp) (x y : ByteArray) : binv op (.lit (.string x)) (.lit (.string y)) = .lit (sbin op x y) := rfl
theorem capOk_view (cs : List AV) (n : Nat) (f : Bool) : capOk (.view cs n f) = (f = true) := rfl
theorem capOk_nil : capOk (.lit (.slice none 0 0)) = True := rfl
theorem lenOk_str (s : ByteArray) : lenOk true (.lit (.string s)) = True := rfl
theorem lenOk_view (cs : List AV) (n : Nat) (f : Bool) : lenOk false (.view cs n f) = True := rfl
theorem lenOk_row (id off n L : Nat) : lenOk false (.row id off n L) = True := rfl
theorem lenOk_nil : lenOk false (.lit (.slice none 0 0)) = True := rfl
theorem srcN_str (s : ByteArray) : srcN (.lit (.string s)) = s.size := rfl
theorem srcN_view (cs : List AV) (n : Nat) (f : Bool) : srcN (.view cs n f) = n := rfl
theorem srcN_row (id off n L : Nat) : srcN (.row id off n L) = n := rfl
theorem srcN_nil : srcN (.lit (.slice none 0 0)) = 0 := rfl
theorem idxaOk_view (sz : Nat) (i : AV) (cs : List AV) (n : Nat) (f : Bool) : idxaOk sz i none (.view cs n f) = (isI i ∧ 0 ≤ asI i ∧ asI i < n ∧ cs.length = n * sz) := rfl
theorem idxaOk_row (sz : Nat) (i : AV) (id off n L : Nat) : idxaOk sz i none (.row id off n L) = (isI i ∧ 0 ≤ asI i ∧ asI i < n) := rfl
theorem idxaOk_ptr (sz m : Nat) (i : AV) (id off : Nat) : idxaOk sz i (some m) (.ptr id off) = (isI i ∧ 0 ≤ asI i ∧ asI i < m) := rfl
theorem idxaOk_rptr (sz m : Nat) (i : AV) (id off L : Nat) : idxaOk sz i (some m) (.rptr id off L) = (isI i ∧ 0 ≤ asI i ∧ asI i < m) := rfl
theorem idxaOk_vptr (sz m : Nat) (i : AV) (cs : List AV) : idxaOk sz i (some m) (.vptr cs) = (isI i ∧ 0 ≤ asI i ∧ asI i < m ∧ m * sz ≤ cs.length) := rfl
theorem idxaV_view (sz : Nat) (i : AV) (cs : List AV) (n : Nat) (f : Bool) : idxaV sz i (.view cs n f) = .vptr (elt cs sz (asI i).toNat) := rfl
theorem idxaV_vptr (sz : Nat) (i : AV) (cs : List AV) : idxaV sz i (.vptr cs) = .vptr (elt cs sz (asI i).toNat) := rfl
theorem idxaV_row (sz : Nat) (i : AV) (id off n L : Nat) : idxaV sz i (.row id off n L) = .rptr id (off + (asI i).toNat * sz) L := rfl
theorem idxaV_rptr (sz : Nat) (i : AV) (id off L : Nat) : idxaV sz i (.rptr id off L) = .rptr id (off + (asI i).toNat * sz) L := rfl
theorem idxaV_ptr (sz : Nat) (i : AV) (id off : Nat) : idxaV sz i (.ptr id off) = .ptr id (off + (asI i).toNat * sz) := rfl
theorem lenOk_vI (l : List Int) (f : Bool) : lenOk false (vI l f) = True := rfl
theorem srcN_vI (l : List Int) (f : Bool) : srcN (vI l f) = l.length := rfl
theorem idxaOk_vI (l : List Int) (f : Bool) (k : IntKind) (i : Int) : idxaOk 1 (.lit (.int k i)) none (vI l f) = (0 ≤ i ∧ i < l.length) := by simp [idxaOk, vI, isI, asI]
theorem idxaV_vI (l : List Int) (f : Bool) (k : IntKind) (i : Int) : idxaV 1 (.lit (.int k i)) (vI l f) = .vptr (elt (l.map I) 1 i.toNat) := rfl
theorem one_vI (l : List Int) (f : Bool) : AV.one (vI l f) = true := rfl
theorem fdiv_pow (x d : Int) (h : 0 ≤ d) : x.fdiv (2 ^ min (d.tmod 7).toNat 64) = x / 2 ^ (d % 7).toNat := by
  rw [Int.tmod_eq_emod_of_nonneg h, Int.fdiv_eq_ediv_of_nonneg _ (by exact Int.le_of_lt (Int.pow_pos (by decide)))]
  congr 2
  omega
theorem and_one (x : Int) : bAnd .i64 x 1 = x % 2 := by
  show IntKind.i64.wrap ((BitVec.ofInt 64 x &&& BitVec.ofInt 64 1).toNat : Nat) = x % 2
  have e : (BitVec.ofInt 64 x &&& BitVec.ofInt 64 1).toNat = (x % 2).toNat := by
    rw [BitVec.toNat_and, BitVec.toNat_ofInt, BitVec.toNat_ofInt]
    have : ((1 : Int) % ((2 ^ 64 : Nat) : Int)).toNat = 1 := by decide
    rw [this, Nat.and_one_is_mod]
    omega
  rw [e, w64 _ (by omega) (by omega)]
  omega
theorem cond_lit (p x y : Bool) : (bif p then AV.lit (.bool x) else AV.lit (.bool y)) = AV.lit (.bool (bif p then x else y)) := by cases p <;> rfl
section
variable (H G : AH) (a : AObj) (k : Nat) (cs : List AV)
theorem obj_app0 : obj (H ++ G) H.length = obj G 0 := by simp only [obj, List.getD_eq_getElem?_getD]; rw [List.getElem?_append_right (Nat.le_refl _), Nat.sub_self]
theorem obj_appk : obj (H ++ G) (H.length + k) = obj G k := by simp [obj, List.getD_eq_getElem?_getD, List.getElem?_append_right]
theorem obj_cons0 : obj (a :: G) 0 = a := rfl
theorem obj_consk : obj (a :: G) (k + 1) = obj G k := rfl
theorem obj_old {p : Nat} (h : p < H.length) : obj (H ++ G) p = obj H p := by simp [obj, List.getD_eq_getElem?_getD, List.getElem?_append_left h]
theorem setO_app0 : setO (H ++ G) H.length cs = H ++ setO G 0 cs := by
  simp only [setO, obj_app0]
  rw [List.set_append_right _ _ (Nat.le_refl _), Nat.sub_self]
theorem setO_appk : setO (H ++ G) (H.length + k) cs = H ++ setO G k cs := by
  simp only [setO, obj_appk]
  rw [List.set_append_right _ _ (Nat.le_add_right _ _), Nat.add_sub_cancel_left]
theorem setO_cons0 : setO (a :: G) 0 cs = ⟨cs, a.sz, a.rw⟩ :: G := rfl
theorem setO_consk : setO (a :: G) (k + 1) cs = a :: setO G k cs := rfl
theorem setO_old {p : Nat} (h : p < H.length) : setO (H ++ G) p cs = setO H p cs ++ G := by
  simp only [setO, obj_old H G h]
  rw [List.set_append_left _ _ h]
theorem setO_length (p : Nat) : (setO H p cs).length = H.length := by simp [setO]
theorem obj_setO {p : Nat} (h : p < H.length) : obj (setO H p cs) p = ⟨cs, (obj H p).sz, (obj H p).rw⟩ := by simp [obj, setO, List.getD_eq_getElem?_getD, h]
theorem obj_setO_ne {p q : Nat} (h : p ≠ q) : obj (setO H p cs) q = obj H q := by simp [obj, setO, List.getD_eq_getElem?_getD, List.getElem?_set_ne h]
theorem setO_setO (p : Nat) (cs' : List AV) : setO (setO H p cs) p cs' = setO H p cs' := by
  by_cases h : p < H.length
  · have e := obj_setO H cs h
    show (setO H p cs).set p ⟨cs', (obj (setO H p cs) p).sz, (obj (setO H p cs) p).rw⟩ = _
    rw [e]
    simp only [setO, List.set_set]
  · simp only [setO]
    rw [List.set_eq_of_length_le (l := H) (by omega)]
theorem splice_two (off : Nat) (a b : AV) (r : List AV) : splice cs off (a :: b :: r) = cs.take off ++ (a :: b :: r) ++ cs.drop (off + (r.length + 2)) := rfl
theorem splice_one (off : Nat) (v : AV) : splice cs off [v] = cs.set off v := rfl
end
section
variable (k o id off L : Nat) (H : AH) (cs : List AV) (agg : Bool) (x : AV)
theorem fldOk_ptr : fldOk (.ptr id off) = True := rfl
theorem fldOk_rptr : fldOk (.rptr id off L) = True := rfl
theorem fldOk_vptr : fldOk (.vptr cs) = True := rfl
theorem fldV_ptr : fldV o (.ptr id off) = .ptr id (off + o) := rfl
theorem fldV_rptr : fldV o (.rptr id off L) = .rptr id (off + o) L := rfl
theorem fldV_vptr : fldV o (.vptr cs) = .vptr (cs.drop o) := rfl
theorem loadOk_ptr : loadOk k H (.ptr id off) = (id < H.length ∧ off + k ≤ (obj H id).cs.length) := rfl
theorem loadOk_rptr : loadOk k H (.rptr id off L) = (id < H.length ∧ L = (obj H id).cs.length ∧ off + k ≤ L) := rfl
theorem loadOk_vptr : loadOk k H (.vptr cs) = (k ≤ cs.length) := rfl
theorem loadV_ptr : loadV agg k H (.ptr id off) = if agg then .agg (((obj H id).cs.drop off).take k) else (obj H id).cs.getD off .junk := rfl
theorem loadV_rptr : loadV agg k H (.rptr id off L) = if agg then .agg (((obj H id).cs.drop off).take k) else (obj H id).cs.getD off .junk := rfl
theorem loadV_vptr : loadV agg k H (.vptr cs) = if agg then .agg (cs.take k) else cs.getD 0 .junk := rfl
theorem storeAt_ptr : storeAt k H (.ptr id off) = (id < H.length ∧ (obj H id).rw = true ∧ off + k ≤ (obj H id).cs.length) := rfl
theorem storeAt_rptr : storeAt k H (.rptr id off L) = (id < H.length ∧ (obj H id).rw = true ∧ L = (obj H id).cs.length ∧ off + k ≤ L) := rfl
theorem storeH_ptr : storeH H x (.ptr id off) = setO H id (splice (obj H id).cs off x.cells) := rfl
theorem storeH_rptr : storeH H x (.rptr id off L) = setO H id (splice (obj H id).cs off x.cells) := rfl
theorem isI_int (kd : IntKind) (n : Int) : isI (.lit (.int kd n)) = True := rfl
theorem asI_int (kd : IntKind) (n : Int) : asI (.lit (.int kd n)) = n := rfl
theorem isB_bool (b : Bool) : isB (.lit (.bool b)) = true := rfl
theorem min8 : min 8 64 = 8 := rfl
theorem asB_bool (b : Bool) : asB (.lit (.bool b)) = b := rfl
theorem cells_lit (v : Value) : (AV.lit v).cells = [.lit v] := rfl
theorem cells_ptr : (AV.ptr id off).cells = [.ptr id off] := rfl
theorem cells_rptr : (AV.rptr id off L).cells = [.rptr id off L] := rfl
theorem cells_vptr : (AV.vptr cs).cells = [.vptr cs] := rfl
theorem cells_row (n : Nat) : (AV.row id off n L).cells = [.row id off n L] := rfl
theorem cells_view (n : Nat) (g : Bool) : (AV.view cs n g).cells = [.view cs n g] := rfl
theorem cells_fn (f : Fn) (a b : List AV) : (AV.fn f a b).cells = [.fn f a b] := rfl
theorem cells_agg : (AV.agg cs).cells = cs := rfl
theorem one_lit (v : Value) : (AV.lit v).one = v.oneCell' := rfl
theorem one_ptr : (AV.ptr id off).one = true := rfl
theorem one_rptr : (AV.rptr id off L).one = true := rfl
theorem one_vptr : (AV.vptr cs).one = true := rfl
theorem one_row (n : Nat) : (AV.row id off n L).one = true := rfl
theorem one_view (n : Nat) (g : Bool) : (AV.view cs n g).one = true := rfl
theorem one_fn (f : Fn) (a b : List AV) : (AV.fn f a b).one = true := rfl
theorem nilOk_ptr : nilOk (.ptr id off) = True := rfl
theorem nilOk_rptr : nilOk (.rptr id off L) = True := rfl
theorem nilOk_vptr : nilOk (.vptr cs) = True := rfl
end
attribute [go_sem] look_nil look_cons er_t er_c er_f em_t em_c em_f un_lit un_ptr un_rptr un_vptr un_row un_view un_fn un_agg un_tup un_may ok_lit ok_ptr ok_rptr ok_vptr ok_row ok_view ok_fn ok_agg ok_tup ok_junk ok_may w_mv g_mv w_nilchk g_nilchk w_same g_same w_bin g_bin w_eqagg g_eqagg w_eq g_eq w_un g_un w_conv g_conv w_s2b g_s2b w_b2s g_b2s w_alloc w_box w_build w_bslice g_bslice w_load g_load n_store w_fld g_fld w_part g_part w_idxa g_idxa w_idx g_idx w_sidx g_sidx w_ext g_ext w_mkif g_mkif w_mkfn w_mksl w_slice w_sslice w_append w_copy n_copy w_len g_len w_lenc g_lenc w_mn g_mn w_mx g_mx w_pick g_pick w_call n_call g_call w_callv_iff n_callv_iff guard_lit guard_may w_keep keep_nil keep_cons w_done w_ret w_exit thn_normal thn_exit thn_ret blk_normal blk_exit blk_ret w_ite ite_lit ite_true' ite_false' w_block cvW cvG
theorem nilcOk_view (cs : List AV) (n : Nat) (f : Bool) : nilcOk (.view cs n f) = True := rfl
theorem nilcOk_row (id off n L : Nat) : nilcOk (.row id off n L) = True := rfl
theorem nilcOk_nil : nilcOk (.lit (.slice none 0 0)) = True := rfl
theorem nilcV_view (neq : Bool) (cs : List AV) (n : Nat) (f : Bool) : nilcV neq (.view cs n f) = if n = 0 then .anyb else .lit (.bool neq) := rfl
theorem nilcV_row (neq : Bool) (id off n L : Nat) : nilcV neq (.row id off n L) = if n = 0 then .anyb else .lit (.bool neq) := rfl
theorem nilcV_nil (neq : Bool) : nilcV neq (.lit (.slice none 0 0)) = .lit (.bool !neq) := rfl
attribute [go_sem] w_isnil g_isnil nilcOk_view nilcOk_row nilcOk_nil nilcV_view nilcV_row nilcV_nil ite_any w_carry g_carry carryOk carryV w_s2ap g_s2ap s2apOk s2apV
attribute [go_sem] Int.reduceToNat decide_true g_slice g_sslice g_build args_bslice args_build args_slice args_sslice Option.toList_some Option.toList_none
attribute [go_sem] w_reg R_nil R_l R_ln R_lg R_m R_mn R_w R_e R_eg R_a adrD_slice adrD_append apart_pR apart_rR apart_Rp apart_Rr apart_RR apart_V apart_V' apart_N apart_N' dsP_nil dsP_cons adrD_load adrD_store apart_pp apart_pr apart_rp apart_rr apart_v apart_v' new_alloc new_box new_mksl new_bslice new_append nb_nil nb_view sd_alloc sd_box sd_mksl sd_bslice sd_append av_alloc av_box av_mksl av_bslice av_append ao_alloc ao_box ao_mksl ao_bslice ao_append set_app0 set_appk take_app0 take_appk List.replicate_zero List.replicate_succ List.length_set List.take_zero List.take_succ_cons List.isEmpty_cons
attribute [go_sem] w_mark g_mark w_appz w_appv g_appv w_dead n_dead false_and
attribute [go_sem] w_cap g_cap n_clear w_clear capOk_view capOk_nil
attribute [go_sem] enterL retQ_ret resOk resV resVal List.map_cons List.map_nil if_true if_false reduceIte Nat.reduceEqDiff Bool.false_eq_true
attribute [go_sem] nilOk_ptr nilOk_rptr nilOk_vptr fldOk_ptr fldOk_rptr fldOk_vptr fldV_ptr fldV_rptr fldV_vptr loadOk_ptr loadOk_rptr loadOk_vptr loadV_ptr loadV_rptr loadV_vptr storeAt_ptr storeAt_rptr storeH_ptr storeH_rptr lenOk_str lenOk_view lenOk_row lenOk_nil srcN_str srcN_view srcN_row srcN_nil idxaOk_view idxaOk_row idxaOk_ptr idxaOk_rptr idxaOk_vptr idxaV_view idxaV_vptr idxaV_row idxaV_rptr idxaV_ptr binOk_int binOk_str binv_int binv_str Int.toNat_natCast ibinOk ibin sbinOk sbin unOk unv min8 isI_int asI_int isB_bool asB_bool lenOk_vI srcN_vI idxaOk_vI idxaV_vI one_vI pickOk pickv_bool cond_lit ge_iff_le gt_iff_lt false_implies eqOk eqv isC partOk partV extOk extV mkifOk mkifV cells_lit cells_ptr cells_rptr cells_vptr cells_row cells_view cells_fn cells_agg one_lit one_ptr one_rptr one_vptr one_row one_view one_fn storeOk sidxOk sidxV idxOk idxV s2bOk s2bV s2bH strOk mnV mxV
attribute [go_sem] beq_true beq_false and_true true_and imp_self implies_true forall_const Bool.true_and Bool.and_true Bool.not_true Bool.not_false Bool.cond_true_left Bool.cond_false_right Bool.cond_true_right Bool.cond_false_left cond_true cond_false Bool.and_false Bool.false_and Bool.or_false Bool.false_or Bool.or_true Bool.true_or
attribute [go_sem] decide_eq_true_eq decide_eq_false_iff_not List.length_cons List.length_nil List.getD_cons_zero List.getD_cons_succ Nat.zero_add Nat.le_refl
attribute [go_sem] forall_eq forall_eq_or_imp List.mem_cons List.not_mem_nil or_false false_or
attribute [go_sem] obj_app0 obj_appk obj_cons0 obj_consk setO_app0 setO_appk setO_cons0 setO_consk setO_length splice_one splice_two List.drop_nil List.take_nil List.append_nil List.length_append List.append_assoc List.cons_append List.nil_append Nat.add_lt_add_iff_left Nat.lt_add_right_iff_pos Nat.reduceLT Nat.reduceAdd Nat.reduceLeDiff Nat.add_zero List.set_cons_zero List.set_cons_succ List.take_succ_cons List.take_zero List.drop_zero List.drop_succ_cons zlit repl
end Go.Proofs.Ytgfploghjpbcaaa.Eng
