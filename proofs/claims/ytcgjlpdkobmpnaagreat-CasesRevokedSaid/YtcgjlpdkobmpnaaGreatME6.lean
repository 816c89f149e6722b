/- Rules by which the abstract machine's code is worked through. -/
import Derived.Test.YtcgjlpdkobmpnaaGreatME5
import Derived.SizedLaws
namespace Go.Proofs.YtcgjlpdkobmpnaaGreat.Eng
open Go
set_option linter.unusedVariables false
set_option linter.unusedSimpArgs false
set_option maxHeartbeats 40000
def er (l:List (Nat × AV)) (x:IArg):AV:=(ev (look l) x).un
def em (l:List (Nat × AV)) (x:IArg):AV:=ev (look l) x
theorem Ut {pf:Pf} {C:Ys} {o:IOp} {K K':Env→AH→Prop} {E:Env} {H:AH} (h:iopwp pf C o K E H) (hk:∀ E H,K E H→K' E H):iopwp pf C o K' E H:=by
 unfold iopwp at *
 split at h <;> first
  | (exact ⟨h.1,hk _ _ h.2⟩)
  | (obtain ⟨v,H',h1,h2⟩:=h; exact ⟨v,H',h1,hk _ _ h2⟩)
  | (unfold Yt at *
     split at h <;> first
      | exact h.elim
      | exact ⟨h.1,hk _ _ h.2⟩
      | exact ⟨h.1,h.2.1,hk _ _ h.2.2⟩
      | (obtain ⟨h0,v,h1,h2⟩:=h; exact ⟨h0,v,h1,hk _ _ h2⟩))
theorem Zpq {pf:Pf} {C:Ys} {base:Nat} {x:RA} {K K':Env→AH→Prop} {E:Env} {H:AH} (h:rwp pf C base x K E H) (hk:∀ E H,K E H→K' E H):rwp pf C base x K' E H:=by
 unfold rwp at *
 cases hx:x.k with
 | l => rw [hx] at h; exact Ut h hk
 | m => rw [hx] at h; exact Ut h fun E H hh => ⟨hh.1,hk _ _ hh.2⟩
 | w => rw [hx] at h; exact ⟨h.1,h.2.1,Ut h.2.2 hk⟩
 | e => rw [hx] at h; exact Ut (K:=fun E' _ => K E' H) h fun E' _ h => hk _ _ h
 | f n => rw [hx] at h; exact Ut (K:=fun E' _ => K E' H) h fun E' _ h => hk _ _ h
 | a r => rw [hx] at h; exact ⟨h.1,h.2.1,h.2.2.1,hk _ _ h.2.2.2⟩
theorem Za3 {pf:Pf} {C:Ys} {base:Nat}:∀ {l:List RA} {K K':Env→AH→Prop} {E:Env} {H:AH},absR pf C base l K E H→(∀ E H,K E H→K' E H)→absR pf C base l K' E H
 | [],K,K',E,H,h,hk => hk _ _ h
 | x::r,K,K',E,H,h,hk => ⟨h.1,Zpq h.2 fun E H h => Za3 h hk⟩
theorem Zq0 {pf:Pf} {C:Ys} {c:IC}:∀ {Q Q':Ex→Env→AH→Prop} {E:Env} {H:AH},iwp pf C c Q E H→(∀ e E H,Q e E H→Q' e E H)→iwp pf C c Q' E H:=by
 induction c with
 | done => exact fun h hq => hq _ _ _ h
 | op o k ih => exact fun h hq => Ut h fun E H h => ih h hq
 | keep s k ih => exact fun h hq => ih h hq
 | reg n l k ih => exact fun h hq => Za3 h fun E H h => ih h hq
 | ite c a b k iha ihb ihk =>
  intro Q Q' E H h hq
  simp only [iwp] at *
  split at h
  ·refine ⟨fun ht => iha (h.1 ht) ?_,fun ht => ihb (h.2 ht) ?_⟩ <;>
   ·intro e E H h
    cases e <;> first | exact ihk h hq | exact hq _ _ _ h
  ·refine ⟨iha h.1 ?_,ihb h.2 ?_⟩ <;>
   ·intro e E H h
    cases e <;> first | exact ihk h hq | exact hq _ _ _ h
  ·exact h
 | block id b k ihb ihk =>
  intro Q Q' E H h hq
  simp only [iwp] at *
  refine ihb h ?_
  intro e E H h
  cases e with
  | normal => exact ihk h hq
  | ret => exact hq _ _ _ h
  | exit i => dsimp only at *; split at h
              ·rename_i hi; rw [if_pos hi]; exact ihk h hq
              ·rename_i hi; rw [if_neg hi]; exact hq _ _ _ h
 | loop b ih =>
  intro Q Q' E H h hq
  simp only [iwp] at *
  obtain ⟨I,n,h0,hr⟩:=h
  refine ⟨I,n,h0,fun n E H hi => ih (hr n E H hi) ?_⟩
  intro e E H h
  cases e <;> first | exact h | exact hq _ _ _ h
 | exit id => exact fun h hq => hq _ _ _ h
 | ret => exact fun h hq => hq _ _ _ h
section
variable {pf:Pf} {C:Ys} {Q:Ex→Env→AH→Prop} {l:List (Nat × AV)} {H:AH} {k:IC} {d j:Nat} {w:Bool}
theorem Zdu (v:AV):upd (look l) (some d) v=look ((d,v)::l):=rfl
theorem Zqo (n:Nat):look [] n=.junk:=rfl
theorem Zlc (k:Nat) (v:AV) (r:List (Nat × AV)) (n:Nat):look ((k,v)::r) n=if n=k then v else look r n:=rfl
theorem er_t (n:Nat):er l (.t n)=(look l n).un:=rfl
theorem er_c (v:Value):er l (.c v)=.lit v:=rfl
theorem er_f (f:FuncId):er l (.f f)=.fn (.func f) [] []:=rfl
theorem em_t (n:Nat):em l (.t n)=look l n:=rfl
theorem em_c (v:Value):em l (.c v)=.lit v:=rfl
theorem em_f (f:FuncId):em l (.f f)=.fn (.func f) [] []:=rfl
theorem Zzo (v:Value):(AV.lit v).un=.lit v:=rfl
theorem Zzm (a b:Nat):(AV.ptr a b).un=.ptr a b:=rfl
theorem Zuz (a b c:Nat):(AV.rptr a b c).un=.rptr a b c:=rfl
theorem Zux (a:List AV):(AV.vptr a).un=.vptr a:=rfl
theorem Zzl (a b c e:Nat):(AV.row a b c e).un=.row a b c e:=rfl
theorem Zuy (a:List AV) (b:Nat) (c:Bool):(AV.view a b c).un=.view a b c:=rfl
theorem Z30 (f:Fn) (a b:List AV):(AV.fn f a b).un=.fn f a b:=rfl
theorem Zzp (a:List AV):(AV.agg a).un=.agg a:=rfl
theorem Zzk (a:List AV):(AV.tup a).un=.tup a:=rfl
theorem Zzn (g:Bool) (v:AV):(AV.may g v).un=v:=rfl
theorem Z1l (g:Bool) (v:Value):Yj g (.lit v)=True:=rfl
theorem Z1j (g:Bool) (a b:Nat):Yj g (.ptr a b)=True:=rfl
theorem Zwp (g:Bool) (a b c:Nat):Yj g (.rptr a b c)=True:=rfl
theorem Zwn (g:Bool) (a:List AV):Yj g (.vptr a)=True:=rfl
theorem Z1i (g:Bool) (a b c e:Nat):Yj g (.row a b c e)=True:=rfl
theorem Zwo (g:Bool) (a:List AV) (b:Nat) (c:Bool):Yj g (.view a b c)=True:=rfl
theorem Z4g (g:Bool) (f:Fn) (a b:List AV):Yj g (.fn f a b)=True:=rfl
theorem Z1m (g:Bool) (a:List AV):Yj g (.agg a)=True:=rfl
theorem Z1h (g:Bool) (a:List AV):Yj g (.tup a)=True:=rfl
theorem Zwq (g:Bool):Yj g .junk=True:=rfl
theorem Z1k (g g':Bool) (v:AV):Yj g (.may g' v)=(g=true→g'=true):=rfl
theorem w_mv (x:IArg):iwp pf C (q d (.mv x) k) Q (look l) H=(iwp pf C k Q (look ((d,(em l x))::l)) H):=by show (True∧_)=_; rw [true_and]; rfl
theorem g_mv (x:IArg):iwp pf C (qg d j w (.mv x) k) Q (look l) H=Yt w (fun g => (Yj g (em l x))∧iwp pf C k Q (look ((d,.may g ((er l x)))::l)) H) (look l j):=by
 simp only [qg,iwp,iopwp,Ins.args,List.forall_mem_cons,List.not_mem_nil,false_implies,implies_true,and_true,iside,ival,imp_true_iff,true_and]; rfl
theorem Zou (x:IArg):iwp pf C (q d (.nilchk x) k) Q (look l) H=((Zb5 (em l x))∧iwp pf C k Q (look ((d,(em l x))::l)) H):=rfl
theorem Zrf (x:IArg):iwp pf C (qg d j w (.nilchk x) k) Q (look l) H=Yt w (fun g => (Yj g (em l x))∧(g=true→Zb5 (er l x))∧iwp pf C k Q (look ((d,.may g ((er l x)))::l)) H) (look l j):=by
 simp only [qg,iwp,iopwp,Ins.args,List.forall_mem_cons,List.not_mem_nil,false_implies,implies_true,and_true,iside,ival,imp_true_iff,true_and]; rfl
theorem Zy0 (x:IArg):iwp pf C (q d (.same x) k) Q (look l) H=((O7 (em l x))∧iwp pf C k Q (look ((d,(em l x))::l)) H):=rfl
theorem Z2b (x:IArg):iwp pf C (qg d j w (.same x) k) Q (look l) H=Yt w (fun g => (Yj g (em l x))∧(g=true→O7 (er l x))∧iwp pf C k Q (look ((d,.may g ((er l x)))::l)) H) (look l j):=by
 simp only [qg,iwp,iopwp,Ins.args,List.forall_mem_cons,List.not_mem_nil,false_implies,implies_true,and_true,iside,ival,imp_true_iff,true_and]; rfl
theorem Z3y (op:BinOp) (x y:IArg):iwp pf C (q d (.bin op x y) k) Q (look l) H=((Zdj op (em l x) (em l y))∧iwp pf C k Q (look ((d,binv op (em l x) (em l y))::l)) H):=rfl
theorem Z4s (op:BinOp) (x y:IArg):iwp pf C (qg d j w (.bin op x y) k) Q (look l) H=Yt w (fun g => (Yj g (em l x)∧Yj g (em l y))∧(g=true→Zdj op (er l x) (er l y))∧iwp pf C k Q (look ((d,.may g (binv op (er l x) (er l y)))::l)) H) (look l j):=by
 simp only [qg,iwp,iopwp,Ins.args,List.forall_mem_cons,List.not_mem_nil,false_implies,implies_true,and_true,iside,ival,imp_true_iff,true_and]; rfl
theorem Zuo (ks:List (Option IntKind)) (neq:Bool) (x y:IArg):iwp pf C (q d (.eqagg ks neq x y) k) Q (look l) H=((Uj ks (em l x) (em l y))∧iwp pf C k Q (look ((d,AV.lit (.bool (C4 (em l x) (em l y) != neq)))::l)) H):=rfl
theorem Zxh (ks:List (Option IntKind)) (neq:Bool) (x y:IArg):iwp pf C (qg d j w (.eqagg ks neq x y) k) Q (look l) H=Yt w (fun g => (Yj g (em l x)∧Yj g (em l y))∧(g=true→Uj ks (er l x) (er l y))∧iwp pf C k Q (look ((d,.may g (AV.lit (.bool (C4 (er l x) (er l y) != neq))))::l)) H) (look l j):=by
 simp only [qg,iwp,iopwp,Ins.args,List.forall_mem_cons,List.not_mem_nil,false_implies,implies_true,and_true,iside,ival,imp_true_iff,true_and]; rfl
theorem w_eq (neq:Bool) (tk:TK) (x y:IArg):iwp pf C (q d (.eq neq tk x y) k) Q (look l) H=((eqOk pf.c tk (isC x || isC y) (em l x) (em l y))∧iwp pf C k Q (look ((d,AV.lit (.bool (eqv tk (em l x) (em l y) != neq)))::l)) H):=rfl
theorem g_eq (neq:Bool) (tk:TK) (x y:IArg):iwp pf C (qg d j w (.eq neq tk x y) k) Q (look l) H=Yt w (fun g => (Yj g (em l x)∧Yj g (em l y))∧(g=true→eqOk pf.c tk (isC x || isC y) (er l x) (er l y))∧iwp pf C k Q (look ((d,.may g (AV.lit (.bool (eqv tk (er l x) (er l y) != neq))))::l)) H) (look l j):=by
 simp only [qg,iwp,iopwp,Ins.args,List.forall_mem_cons,List.not_mem_nil,false_implies,implies_true,and_true,iside,ival,imp_true_iff,true_and]; rfl
theorem w_un (op:UnOp) (x:IArg):iwp pf C (q d (.un op x) k) Q (look l) H=((unOk op (em l x))∧iwp pf C k Q (look ((d,unv op (em l x))::l)) H):=rfl
theorem g_un (op:UnOp) (x:IArg):iwp pf C (qg d j w (.un op x) k) Q (look l) H=Yt w (fun g => (Yj g (em l x))∧(g=true→unOk op (er l x))∧iwp pf C k Q (look ((d,.may g (unv op (er l x)))::l)) H) (look l j):=by
 simp only [qg,iwp,iopwp,Ins.args,List.forall_mem_cons,List.not_mem_nil,false_implies,implies_true,and_true,iside,ival,imp_true_iff,true_and]; rfl
theorem Zzg (kd:IntKind) (x:IArg):iwp pf C (q d (.conv kd x) k) Q (look l) H=((isI (em l x))∧iwp pf C k Q (look ((d,AV.lit (.int kd (kd.wrap (asI (em l x)))))::l)) H):=rfl
theorem Z2l (kd:IntKind) (x:IArg):iwp pf C (qg d j w (.conv kd x) k) Q (look l) H=Yt w (fun g => (Yj g (em l x))∧(g=true→isI (er l x))∧iwp pf C k Q (look ((d,.may g (AV.lit (.int kd (kd.wrap (asI (er l x))))))::l)) H) (look l j):=by
 simp only [qg,iwp,iopwp,Ins.args,List.forall_mem_cons,List.not_mem_nil,false_implies,implies_true,and_true,iside,ival,imp_true_iff,true_and]; rfl
theorem Z3o (own:Bool) (x:IArg):iwp pf C (q d (.s2b own x) k) Q (look l) H=((Zj2 (em l x))∧iwp pf C k Q (look ((d,s2bV own H (em l x))::l)) (s2bH own H (em l x))):=rfl
theorem Z4m (own:Bool) (x:IArg):iwp pf C (qg d j w (.s2b own x) k) Q (look l) H=Yt w (fun g => (Yj g (em l x))∧(g=true→Zj2 (er l x))∧iwp pf C k Q (look ((d,.may g (s2bV own H (er l x)))::l)) H) (look l j):=by
 simp only [qg,iwp,iopwp,Ins.args,List.forall_mem_cons,List.not_mem_nil,false_implies,implies_true,and_true,iside,ival,imp_true_iff,true_and]; rfl
theorem Z3z (x:IArg):iwp pf C (q d (.b2s x) k) Q (look l) H=((Zip H (em l x))∧iwp pf C k Q (look ((d,b2sV H (em l x))::l)) H):=rfl
theorem Z4t (x:IArg):iwp pf C (qg d j w (.b2s x) k) Q (look l) H=Yt w (fun g => (Yj g (em l x))∧(g=true→Zip H (er l x))∧iwp pf C k Q (look ((d,.may g (b2sV H (er l x)))::l)) H) (look l j):=by
 simp only [qg,iwp,iopwp,Ins.args,List.forall_mem_cons,List.not_mem_nil,false_implies,implies_true,and_true,iside,ival,imp_true_iff,true_and]; rfl
theorem Zut (z:List Value):iwp pf C (q d (.alloc z) k) Q (look l) H=(iwp pf C k Q (look ((d,AV.ptr H.length 0)::l)) (H++[⟨zlit z,0,true⟩])):=by show (True∧_)=_; rw [true_and]; rfl
theorem Z3x (x:IArg):iwp pf C (q d (.box x) k) Q (look l) H=(((em l x).cells.isEmpty=false∧(em l x).cells.all AV.one=true)∧iwp pf C k Q (look ((d,AV.ptr H.length 0)::l)) (H++[⟨(em l x).cells,0,true⟩])):=rfl
theorem Zur (z:List Value) (ps:List (Nat × Nat × IArg)):iwp pf C (q d (.build z ps) k) Q (look l) H=((Zr z.length (ps.map fun p => (p.1,p.2.1,(em l p.2.2))))∧iwp pf C k Q (look ((d,AV.agg (fillv (zlit z) (ps.map fun p => (p.1,(em l p.2.2)))))::l)) H):=rfl
theorem Zxk (z:List Value) (ps:List (Nat × Nat × IArg)):iwp pf C (qg d j w (.build z ps) k) Q (look l) H=Yt w (fun g => (∀ y ∈ (Ins.build z ps).args,Yj g (em l y))∧(g=true→Zr z.length (ps.map fun p => (p.1,p.2.1,(er l p.2.2))))∧iwp pf C k Q (look ((d,.may g (AV.agg (fillv (zlit z) (ps.map fun p => (p.1,(er l p.2.2))))))::l)) H) (look l j):=by
 simp only [qg,iwp,iopwp,Ins.args,List.forall_mem_cons,List.not_mem_nil,false_implies,implies_true,and_true,iside,ival,imp_true_iff,true_and]; rfl
theorem Zov (own:Bool) (sz len:Nat) (z:List Value) (ps:List (Nat × Nat × IArg)):iwp pf C (q d (.bslice own sz len z ps) k) Q (look l) H=((Zr (len*sz) (ps.map fun p => (p.1,p.2.1,(em l p.2.2)))∧(own=false→Ye (fillv (repl len (zlit z)) (ps.map fun p => (p.1,(em l p.2.2))))=true))∧iwp pf C k Q (look ((d,(if own then AV.row H.length 0 len (len*sz) else .view (fillv (repl len (zlit z)) (ps.map fun p => (p.1,(em l p.2.2)))) len true))::l)) (if own then H++[⟨fillv (repl len (zlit z)) (ps.map fun p => (p.1,(em l p.2.2))),sz,true⟩] else H)):=rfl
theorem Zrg (own:Bool) (sz len:Nat) (z:List Value) (ps:List (Nat × Nat × IArg)):iwp pf C (qg d j w (.bslice own sz len z ps) k) Q (look l) H=Yt w (fun g => (∀ y ∈ (Ins.bslice own sz len z ps).args,Yj g (em l y))∧(g=true→Zr (len*sz) (ps.map fun p => (p.1,p.2.1,(er l p.2.2)))∧(own=false→Ye (fillv (repl len (zlit z)) (ps.map fun p => (p.1,(er l p.2.2))))=true))∧iwp pf C k Q (look ((d,.may g ((if own then AV.row H.length 0 len (len*sz) else .view (fillv (repl len (zlit z)) (ps.map fun p => (p.1,(er l p.2.2)))) len true)))::l)) H) (look l j):=by
 simp only [qg,iwp,iopwp,Ins.args,List.forall_mem_cons,List.not_mem_nil,false_implies,implies_true,and_true,iside,ival,imp_true_iff,true_and]; rfl
theorem Zy8 (agg:Bool) (n:Nat) (x:IArg):iwp pf C (q d (.load agg n x) k) Q (look l) H=((Z6 n H (em l x))∧iwp pf C k Q (look ((d,Yc agg n H (em l x))::l)) H):=rfl
theorem Z2i (agg:Bool) (n:Nat) (x:IArg):iwp pf C (qg d j w (.load agg n x) k) Q (look l) H=Yt w (fun g => (Yj g (em l x))∧(g=true→Z6 n H (er l x))∧iwp pf C k Q (look ((d,.may g (Yc agg n H (er l x)))::l)) H) (look l j):=by
 simp only [qg,iwp,iopwp,Ins.args,List.forall_mem_cons,List.not_mem_nil,false_implies,implies_true,and_true,iside,ival,imp_true_iff,true_and]; rfl
theorem Zwx (n:Nat) (a x:IArg):iwp pf C (qn (.store n a x) k) Q (look l) H=((E6 n H (em l a) (em l x))∧iwp pf C k Q (look l) (Fq H (em l x) (em l a))):=rfl
theorem Z3u (o:Nat) (x:IArg):iwp pf C (q d (.fld o x) k) Q (look l) H=((Hx (em l x))∧iwp pf C k Q (look ((d,fldV o (em l x))::l)) H):=rfl
theorem Z4p (o:Nat) (x:IArg):iwp pf C (qg d j w (.fld o x) k) Q (look l) H=Yt w (fun g => (Yj g (em l x))∧(g=true→Hx (er l x))∧iwp pf C k Q (look ((d,.may g (fldV o (er l x)))::l)) H) (look l j):=by
 simp only [qg,iwp,iopwp,Ins.args,List.forall_mem_cons,List.not_mem_nil,false_implies,implies_true,and_true,iside,ival,imp_true_iff,true_and]; rfl
theorem Zy3 (agg:Bool) (n o:Nat) (x:IArg):iwp pf C (q d (.part agg n o x) k) Q (look l) H=((B3 n o (em l x))∧iwp pf C k Q (look ((d,Zkk agg n o (em l x))::l)) H):=rfl
theorem Z2e (agg:Bool) (n o:Nat) (x:IArg):iwp pf C (qg d j w (.part agg n o x) k) Q (look l) H=Yt w (fun g => (Yj g (em l x))∧(g=true→B3 n o (er l x))∧iwp pf C k Q (look ((d,.may g (Zkk agg n o (er l x)))::l)) H) (look l j):=by
 simp only [qg,iwp,iopwp,Ins.args,List.forall_mem_cons,List.not_mem_nil,false_implies,implies_true,and_true,iside,ival,imp_true_iff,true_and]; rfl
theorem Zzb (sz:Nat) (arr:Option Nat) (x i:IArg):iwp pf C (q d (.idxa sz arr x i) k) Q (look l) H=((Ta sz (em l i) arr (em l x))∧iwp pf C k Q (look ((d,Z5 sz (em l i) (em l x))::l)) H):=rfl
theorem Z2k (sz:Nat) (arr:Option Nat) (x i:IArg):iwp pf C (qg d j w (.idxa sz arr x i) k) Q (look l) H=Yt w (fun g => (Yj g (em l x)∧Yj g (em l i))∧(g=true→Ta sz (er l i) arr (er l x))∧iwp pf C k Q (look ((d,.may g (Z5 sz (er l i) (er l x)))::l)) H) (look l j):=by
 simp only [qg,iwp,iopwp,Ins.args,List.forall_mem_cons,List.not_mem_nil,false_implies,implies_true,and_true,iside,ival,imp_true_iff,true_and]; rfl
theorem Z3t (agg:Bool) (n len:Nat) (x i:IArg):iwp pf C (q d (.idx agg n len x i) k) Q (look l) H=((Zl4 n len (em l i) (em l x))∧iwp pf C k Q (look ((d,idxV agg n (em l i) (em l x))::l)) H):=rfl
theorem Z4o (agg:Bool) (n len:Nat) (x i:IArg):iwp pf C (qg d j w (.idx agg n len x i) k) Q (look l) H=Yt w (fun g => (Yj g (em l x)∧Yj g (em l i))∧(g=true→Zl4 n len (er l i) (er l x))∧iwp pf C k Q (look ((d,.may g (idxV agg n (er l i) (er l x)))::l)) H) (look l j):=by
 simp only [qg,iwp,iopwp,Ins.args,List.forall_mem_cons,List.not_mem_nil,false_implies,implies_true,and_true,iside,ival,imp_true_iff,true_and]; rfl
theorem Zyz (x i:IArg):iwp pf C (q d (.sidx x i) k) Q (look l) H=((Bp (em l i) (em l x))∧iwp pf C k Q (look ((d,Zjr (em l i) (em l x))::l)) H):=rfl
theorem Z2a (x i:IArg):iwp pf C (qg d j w (.sidx x i) k) Q (look l) H=Yt w (fun g => (Yj g (em l x)∧Yj g (em l i))∧(g=true→Bp (er l i) (er l x))∧iwp pf C k Q (look ((d,.may g (Zjr (er l i) (er l x)))::l)) H) (look l j):=by
 simp only [qg,iwp,iopwp,Ins.args,List.forall_mem_cons,List.not_mem_nil,false_implies,implies_true,and_true,iside,ival,imp_true_iff,true_and]; rfl
theorem Z3v (x:IArg) (i:Nat):iwp pf C (q d (.ext x i) k) Q (look l) H=((Zmt i (em l x))∧iwp pf C k Q (look ((d,extV i (em l x))::l)) H):=rfl
theorem Z4q (x:IArg) (i:Nat):iwp pf C (qg d j w (.ext x i) k) Q (look l) H=Yt w (fun g => (Yj g (em l x))∧(g=true→Zmt i (er l x))∧iwp pf C k Q (look ((d,.may g (extV i (er l x)))::l)) H) (look l j):=by
 simp only [qg,iwp,iopwp,Ins.args,List.forall_mem_cons,List.not_mem_nil,false_implies,implies_true,and_true,iside,ival,imp_true_iff,true_and]; rfl
theorem Zy5 (t:TypeId) (x:IArg):iwp pf C (q d (.mkif t x) k) Q (look l) H=((Aa (em l x))∧iwp pf C k Q (look ((d,Zk6 t (em l x))::l)) H):=rfl
theorem Z2f (t:TypeId) (x:IArg):iwp pf C (qg d j w (.mkif t x) k) Q (look l) H=Yt w (fun g => (Yj g (em l x))∧(g=true→Aa (er l x))∧iwp pf C k Q (look ((d,.may g (Zk6 t (er l x)))::l)) H) (look l j):=by
 simp only [qg,iwp,iopwp,Ins.args,List.forall_mem_cons,List.not_mem_nil,false_implies,implies_true,and_true,iside,ival,imp_true_iff,true_and]; rfl
theorem Zy6 (f:Fn) (a b:List IArg):iwp pf C (q d (.mkfn f a b) k) Q (look l) H=(iwp pf C k Q (look ((d,AV.fn f (a.map (em l)) (b.map (em l)))::l)) H):=by show (True∧_)=_; rw [true_and]; rfl
theorem Zy4 (sz bytes:Nat) (z:List Value) (x c:IArg):iwp pf C (q d (.mksl sz bytes z x c) k) Q (look l) H=((Ze2 bytes (em l x) (em l c))∧iwp pf C k Q (look ((d,AV.row H.length 0 (asI (em l x)).toNat ((asI (em l x)).toNat*sz))::l)) (H++[⟨repl (asI (em l x)).toNat (zlit z),sz,true⟩])):=rfl
theorem Zum (sz:Nat) (arr:Option Nat) (x:IArg) (lo hi mx:Option IArg):iwp pf C (q d (.slice sz arr x lo hi mx) k) Q (look l) H=(((mx=none∨hi≠none)∧X4 sz H (lo.map (em l)) (hi.map (em l)) (mx.map (em l)) arr (em l x))∧iwp pf C k Q (look ((d,Xh sz H (lo.map (em l)) (hi.map (em l)) (mx.map (em l)) arr (em l x))::l)) H):=rfl
theorem Zxf (sz:Nat) (arr:Option Nat) (x:IArg) (lo hi mx:Option IArg):iwp pf C (qg d j w (.slice sz arr x lo hi mx) k) Q (look l) H=Yt w (fun g => (∀ y ∈ (Ins.slice sz arr x lo hi mx).args,Yj g (em l y))∧(g=true→(mx=none∨hi≠none)∧X4 sz H (lo.map (er l)) (hi.map (er l)) (mx.map (er l)) arr (er l x))∧iwp pf C k Q (look ((d,.may g (Xh sz H (lo.map (er l)) (hi.map (er l)) (mx.map (er l)) arr (er l x)))::l)) H) (look l j):=by
 simp only [qg,iwp,iopwp,Ins.args,List.forall_mem_cons,List.not_mem_nil,false_implies,implies_true,and_true,iside,ival,imp_true_iff,true_and,er,em,Zdu]; (have e1:er l=fun x => (ev (look l) x).un:=rfl); (try simp only [e1]); first | done | rfl
theorem Zot (x:IArg) (lo hi:Option IArg):iwp pf C (q d (.sslice x lo hi) k) Q (look l) H=((Js (lo.map (em l)) (hi.map (em l)) (em l x))∧iwp pf C k Q (look ((d,E7 (lo.map (em l)) (hi.map (em l)) (em l x))::l)) H):=rfl
theorem Zre (x:IArg) (lo hi:Option IArg):iwp pf C (qg d j w (.sslice x lo hi) k) Q (look l) H=Yt w (fun g => (∀ y ∈ (Ins.sslice x lo hi).args,Yj g (em l y))∧(g=true→Js (lo.map (er l)) (hi.map (er l)) (er l x))∧iwp pf C k Q (look ((d,.may g (E7 (lo.map (er l)) (hi.map (er l)) (er l x)))::l)) H) (look l j):=by
 simp only [qg,iwp,iopwp,Ins.args,List.forall_mem_cons,List.not_mem_nil,false_implies,implies_true,and_true,iside,ival,imp_true_iff,true_and,er,em,Zdu]; (have e1:er l=fun x => (ev (look l) x).un:=rfl); (try simp only [e1]); first | done | rfl
theorem Zow (sz bytes:Nat) (s x:IArg):iwp pf C (q d (.append sz bytes s x) k) Q (look l) H=((Rs sz bytes H (em l s) (em l x))∧iwp pf C k Q (look ((d,appV sz H (em l x) (em l s))::l)) (appH sz H (em l x) (em l s))):=rfl
theorem Zzf (sz:Nat) (t x:IArg):iwp pf C (q d (.copy sz t x) k) Q (look l) H=((Zfj sz H (em l t) (em l x))∧iwp pf C k Q (look ((d,AV.lit (.int .i64 (Zdc (em l t) (em l x):Nat)))::l)) (Zr0 sz H (em l x) (em l t))):=rfl
theorem Z1t (sz:Nat) (t x:IArg):iwp pf C (qn (.copy sz t x) k) Q (look l) H=((Zfj sz H (em l t) (em l x))∧iwp pf C k Q (look l) (Zr0 sz H (em l x) (em l t))):=rfl
theorem Z3r (str:Bool) (x:IArg):iwp pf C (q d (.len str x) k) Q (look l) H=((Ny str (em l x))∧iwp pf C k Q (look ((d,AV.lit (.int .i64 (srcN (em l x))))::l)) H):=rfl
theorem Z4n (str:Bool) (x:IArg):iwp pf C (qg d j w (.len str x) k) Q (look l) H=Yt w (fun g => (Yj g (em l x))∧(g=true→Ny str (er l x))∧iwp pf C k Q (look ((d,.may g (AV.lit (.int .i64 (srcN (er l x)))))::l)) H) (look l j):=by
 simp only [qg,iwp,iopwp,Ins.args,List.forall_mem_cons,List.not_mem_nil,false_implies,implies_true,and_true,iside,ival,imp_true_iff,true_and]; rfl
theorem Z3w (x:IArg):iwp pf C (q d (.cap x) k) Q (look l) H=((Zdg (em l x))∧iwp pf C k Q (look ((d,AV.lit (.int .i64 (srcN (em l x))))::l)) H):=rfl
theorem Z4r (x:IArg):iwp pf C (qg d j w (.cap x) k) Q (look l) H=Yt w (fun g => (Yj g (em l x))∧(g=true→Zdg (er l x))∧iwp pf C k Q (look ((d,.may g (AV.lit (.int .i64 (srcN (er l x)))))::l)) H) (look l j):=by
 simp only [qg,iwp,iopwp,Ins.args,List.forall_mem_cons,List.not_mem_nil,false_implies,implies_true,and_true,iside,ival,imp_true_iff,true_and]; rfl
theorem Zup (sz:Nat) (z:List Value) (x:IArg):iwp pf C (q d (.clear sz z x) k) Q (look l) H=((Gr sz z H (em l x))∧iwp pf C k Q (look ((d,AV.tup [])::l)) (Zfl z H (em l x))):=rfl
theorem Zwy (sz:Nat) (z:List Value) (x:IArg):iwp pf C (qn (.clear sz z x) k) Q (look l) H=((Gr sz z H (em l x))∧iwp pf C k Q (look l) (Zfl z H (em l x))):=rfl
theorem Zy7 (x:IArg):iwp pf C (q d (.mark x) k) Q (look l) H=((F4 H (em l x))∧iwp pf C k Q (look ((d,(em l x))::l)) H):=rfl
theorem Z2h (x:IArg):iwp pf C (qg d j w (.mark x) k) Q (look l) H=Yt w (fun g => (Yj g (em l x))∧(g=true→F4 H (er l x))∧iwp pf C k Q (look ((d,.may g ((er l x)))::l)) H) (look l j):=by
 simp only [qg,iwp,iopwp,Ins.args,List.forall_mem_cons,List.not_mem_nil,false_implies,implies_true,and_true,iside,ival,imp_true_iff,true_and]; rfl
theorem Zzi (sz bytes:Nat) (z:List Value) (s x:IArg):iwp pf C (q d (.appz sz bytes z s x) k) Q (look l) H=((Zod bytes (em l s) (em l x))∧iwp pf C k Q (look ((d,AV.row H.length 0 (asI (em l x)).toNat ((asI (em l x)).toNat*sz))::l)) (H++[⟨repl (asI (em l x)).toNat (zlit z),sz,true⟩])):=rfl
theorem Zzj (sz bytes:Nat) (s x:IArg):iwp pf C (q d (.appv sz bytes s x) k) Q (look l) H=((Zay sz bytes H (em l s) (em l x))∧iwp pf C k Q (look ((d,Zax sz H (em l x) (em l s))::l)) H):=rfl
theorem Z2n (sz bytes:Nat) (s x:IArg):iwp pf C (qg d j w (.appv sz bytes s x) k) Q (look l) H=Yt w (fun g => (Yj g (em l s)∧Yj g (em l x))∧(g=true→Zay sz bytes H (er l s) (er l x))∧iwp pf C k Q (look ((d,.may g (Zax sz H (er l x) (er l s)))::l)) H) (look l j):=by
 simp only [qg,iwp,iopwp,Ins.args,List.forall_mem_cons,List.not_mem_nil,false_implies,implies_true,and_true,iside,ival,imp_true_iff,true_and]; rfl
theorem Zze :iwp pf C (q d (.dead ) k) Q (look l) H=((False)∧iwp pf C k Q (look ((d,AV.junk)::l)) H):=rfl
theorem Z1s :iwp pf C (qn (.dead ) k) Q (look l) H=((False)∧iwp pf C k Q (look l) H):=rfl
theorem Zun (neq:Bool) (x:IArg):iwp pf C (q d (.isnil neq x) k) Q (look l) H=((Np (em l x))∧iwp pf C k Q (look ((d,B8 neq (em l x))::l)) H):=rfl
theorem Zxg (neq:Bool) (x:IArg):iwp pf C (qg d j w (.isnil neq x) k) Q (look l) H=Yt w (fun g => (Yj g (em l x))∧(g=true→Np (er l x))∧iwp pf C k Q (look ((d,.may g (B8 neq (er l x)))::l)) H) (look l j):=by
 simp only [qg,iwp,iopwp,Ins.args,List.forall_mem_cons,List.not_mem_nil,false_implies,implies_true,and_true,iside,ival,imp_true_iff,true_and]; rfl
theorem Zuq (sub:Bool) (x y c:IArg):iwp pf C (q d (.carry sub x y c) k) Q (look l) H=((Ug (em l x) (em l y) (em l c))∧iwp pf C k Q (look ((d,Pb sub (em l x) (em l y) (em l c))::l)) H):=rfl
theorem Zxi (sub:Bool) (x y c:IArg):iwp pf C (qg d j w (.carry sub x y c) k) Q (look l) H=Yt w (fun g => (Yj g (em l x)∧Yj g (em l y)∧Yj g (em l c))∧(g=true→Ug (er l x) (er l y) (er l c))∧iwp pf C k Q (look ((d,.may g (Pb sub (er l x) (er l y) (er l c)))::l)) H) (look l j):=by
 simp only [qg,iwp,iopwp,Ins.args,List.forall_mem_cons,List.not_mem_nil,false_implies,implies_true,and_true,iside,ival,imp_true_iff,true_and]; rfl
theorem Zy1 (len sz:Nat) (x:IArg):iwp pf C (q d (.s2ap len sz x) k) Q (look l) H=((Bs len sz (em l x))∧iwp pf C k Q (look ((d,Zj3 (em l x))::l)) H):=rfl
theorem Z2c (len sz:Nat) (x:IArg):iwp pf C (qg d j w (.s2ap len sz x) k) Q (look l) H=Yt w (fun g => (Yj g (em l x))∧(g=true→Bs len sz (er l x))∧iwp pf C k Q (look ((d,.may g (Zj3 (er l x)))::l)) H) (look l j):=by
 simp only [qg,iwp,iopwp,Ins.args,List.forall_mem_cons,List.not_mem_nil,false_implies,implies_true,and_true,iside,ival,imp_true_iff,true_and]; rfl
theorem Zy9 (n:Nat):iwp pf C (q d (.lenc n) k) Q (look l) H=(iwp pf C k Q (look ((d,AV.lit (.int .i64 n))::l)) H):=by show (True∧_)=_; rw [true_and]; rfl
theorem Z2j (n:Nat):iwp pf C (qg d j w (.lenc n) k) Q (look l) H=Yt w (fun g => iwp pf C k Q (look ((d,.may g (AV.lit (.int .i64 n)))::l)) H) (look l j):=by
 simp only [qg,iwp,iopwp,Ins.args,List.forall_mem_cons,List.not_mem_nil,false_implies,implies_true,and_true,iside,ival,imp_true_iff,true_and]; rfl
theorem w_mn (x y:IArg):iwp pf C (q d (.mn x y) k) Q (look l) H=((isI (em l x)∧isI (em l y))∧iwp pf C k Q (look ((d,mnV (em l x) (em l y))::l)) H):=rfl
theorem g_mn (x y:IArg):iwp pf C (qg d j w (.mn x y) k) Q (look l) H=Yt w (fun g => (Yj g (em l x)∧Yj g (em l y))∧(g=true→isI (er l x)∧isI (er l y))∧iwp pf C k Q (look ((d,.may g (mnV (er l x) (er l y)))::l)) H) (look l j):=by
 simp only [qg,iwp,iopwp,Ins.args,List.forall_mem_cons,List.not_mem_nil,false_implies,implies_true,and_true,iside,ival,imp_true_iff,true_and]; rfl
theorem w_mx (x y:IArg):iwp pf C (q d (.mx x y) k) Q (look l) H=((isI (em l x)∧isI (em l y))∧iwp pf C k Q (look ((d,mxV (em l x) (em l y))::l)) H):=rfl
theorem g_mx (x y:IArg):iwp pf C (qg d j w (.mx x y) k) Q (look l) H=Yt w (fun g => (Yj g (em l x)∧Yj g (em l y))∧(g=true→isI (er l x)∧isI (er l y))∧iwp pf C k Q (look ((d,.may g (mxV (er l x) (er l y)))::l)) H) (look l j):=by
 simp only [qg,iwp,iopwp,Ins.args,List.forall_mem_cons,List.not_mem_nil,false_implies,implies_true,and_true,iside,ival,imp_true_iff,true_and]; rfl
theorem Zy2 (c a b:IArg):iwp pf C (q d (.pick c a b) k) Q (look l) H=(Iz true (em l c) (em l a) (em l b)∧iwp pf C k Q (look ((d,pickv (er l c) (er l a) (er l b))::l)) H):=rfl
theorem Z2d (c a b:IArg):iwp pf C (qg d j w (.pick c a b) k) Q (look l) H=Yt w (fun g => Iz g (em l c) (em l a) (em l b)∧iwp pf C k Q (look ((d,.may g (pickv (er l c) (er l a) (er l b)))::l)) H) (look l j):=rfl
theorem Zdl (own:Bool) (sz len:Nat) (z:List Value) (ps:List (Nat × Nat × IArg)):(Ins.bslice own sz len z ps).args=ps.map (·.2.2):=rfl
theorem Zir (z:List Value) (ps:List (Nat × Nat × IArg)):(Ins.build z ps).args=ps.map (·.2.2):=rfl
theorem Ziq (sz:Nat) (arr:Option Nat) (x:IArg) (lo hi mx:Option IArg):(Ins.slice sz arr x lo hi mx).args=x::(lo.toList++(hi.toList++mx.toList)):=by simp [Ins.args]
theorem Zdk (x:IArg) (lo hi:Option IArg):(Ins.sslice x lo hi).args=x::(lo.toList++hi.toList):=by simp [Ins.args]
def Zao (pf:Pf) (C:Ys) (pu:Bool) (d:Option Nat) (f:FuncId) (args:List AV) (l:List (Nat × AV)) (k:IC) (Q:Ex→Env→AH→Prop) (H:AH):Prop :=
 ∃ v H',C f args H v H'∧(pu=true→H'=H)∧iwp pf C k Q (look (match d with | some d => (d,v)::l | none => l)) H'
def Zr8 (pf:Pf) (C:Ys) (d:Nat) (g:Bool) (f:FuncId) (args:List AV) (l:List (Nat × AV)) (k:IC) (Q:Ex→Env→AH→Prop) (H:AH):Prop :=
 ∃ v,(g=true→C f args H v H)∧iwp pf C k Q (look ((d,.may g v)::l)) H
theorem Za {pu:Bool} {f:FuncId} {args:List AV} {v:AV} {H':AH} (h:C f args H v H') (hp:pu=true→H'=H) (hk:iwp pf C k Q (look ((d,v)::l)) H'):Zao pf C pu (some d) f args l k Q H:=⟨v,H',h,hp,hk⟩
theorem Zq {g:Bool} {f:FuncId} {args:List AV} {v:AV} (h:g=true→C f args H v H) (hk:iwp pf C k Q (look ((d,.may g v)::l)) H):Zr8 pf C d g f args l k Q H:=⟨v,h,hk⟩
theorem Zzh (f:FuncId) (ags:List IArg):iwp pf C (q d (.call f ags) k) Q (look l) H=Zao pf C (pf.f f) (some d) f (ags.map (em l)) l k Q H:=by
 simp only [q,iwp,iopwp,Zao,Vu,and_assoc]; rfl
theorem Z1u (f:FuncId) (ags:List IArg):iwp pf C (qn (.call f ags) k) Q (look l) H=Zao pf C (pf.f f) none f (ags.map (em l)) l k Q H:=by
 simp only [qn,iwp,iopwp,Zao,Vu,and_assoc]; rfl
theorem Z2m (f:FuncId) (ags:List IArg):iwp pf C (qg d j w (.call f ags) k) Q (look l) H=Yt w (fun g => (∀ x ∈ ags,Yj g (em l x))∧Zr8 pf C d g f (ags.map (er l)) l k Q H) (look l j):=by
 simp only [qg,iwp,iopwp,Vu,implies_true,and_true,Zr8]; rfl
def cvW (pf:Pf) (C:Ys) (d:Option Nat) (ags:List AV) (l:List (Nat × AV)) (k:IC) (Q:Ex→Env→AH→Prop) (H:AH):AV→Prop
 | .fn (.func f) a b => Zao pf C pf.v d f (a++ags++b) l k Q H
 | _ => False
def cvG (pf:Pf) (C:Ys) (d:Nat) (g:Bool) (ags:List AV) (l:List (Nat × AV)) (k:IC) (Q:Ex→Env→AH→Prop) (H:AH):AV→Prop
 | .fn (.func f) a b => Zr8 pf C d g f (a++ags++b) l k Q H
 | _ => False
def cvOf (pf:Pf) (C:Ys) (H:AH) (v:AV) (H':AH) (ags:List AV):AV→Prop
 | .fn (.func f) a b => C f (a++ags++b) H v H'∧(pf.v=true→H'=H)
 | _ => False
theorem Cy (ρ:IArg→AV) (v:AV) (H':AH) (x:IArg) (ags:List IArg):Vu pf ρ C H v H' (.callv x ags)=cvOf pf C H v H' (ags.map ρ) (ρ x):=by
 simp only [Vu,cvOf]
 split <;> simp_all
theorem Z26 (x:AV) (ags:List AV):(∃ v H',cvOf pf C H v H' ags x∧iwp pf C k Q (look ((d,v)::l)) H')=cvW pf C (some d) ags l k Q H x:=by
 unfold cvOf cvW
 split
 ·simp only [Zao,and_assoc]
 ·rename_i hn; simp
theorem Z27 (x:AV) (ags:List AV):(∃ v H',cvOf pf C H v H' ags x∧iwp pf C k Q (look l) H')=cvW pf C none ags l k Q H x:=by
 unfold cvOf cvW
 split
 ·simp only [Zao,and_assoc]
 ·rename_i hn; simp
theorem Za4 (x:IArg) (ags:List IArg):iwp pf C (q d (.callv x ags) k) Q (look l) H=cvW pf C (some d) (ags.map (em l)) l k Q H (em l x):=by
 rw [← Z26]
 simp only [q,qn,iwp,iopwp]
 simp only [Cy]; rfl
theorem Zb7 (x:IArg) (ags:List IArg):iwp pf C (qn (.callv x ags) k) Q (look l) H=cvW pf C none (ags.map (em l)) l k Q H (em l x):=by
 rw [← Z27]
 simp only [q,qn,iwp,iopwp]
 simp only [Cy]; rfl
theorem Zl6 (K:Bool→Prop) (b:Bool):Yt w K (.lit (.bool b))=K (b == w):=rfl
theorem Zl5 (K:Bool→Prop) (g b:Bool):Yt w K (.may g (.lit (.bool b)))=K (g&&(b == w)):=rfl
theorem Zza (s:List Nat):iwp pf C (.keep s k) Q (look l) H=iwp pf C k Q (look (G8 s (look l))) H:=rfl
theorem Zqx (E:Env):G8 [] E=[]:=rfl
theorem Zlq (n:Nat) (s:List Nat) (E:Env):G8 (n::s) E=(n,E n)::G8 s E:=rfl
theorem Zzd:iwp pf C .done Q (look l) H=Q .normal (look l) H:=rfl
theorem Z3p:iwp pf C .ret Q (look l) H=Q .ret (look l) H:=rfl
theorem Zzc (id:Nat):iwp pf C (.exit id) Q (look l) H=Q (.exit id) (look l) H:=rfl
def thn (pf:Pf) (C:Ys) (k:IC) (Q:Ex→Env→AH→Prop):Ex→Env→AH→Prop:=fun e E H => match e with | .normal => iwp pf C k Q E H | e => Q e E H
def blk (pf:Pf) (C:Ys) (id:Nat) (k:IC) (Q:Ex→Env→AH→Prop):Ex→Env→AH→Prop:=fun e E H => match e with
  | .normal => iwp pf C k Q E H
  | .exit i => if i=id then iwp pf C k Q E H else Q (.exit i) E H
  | .ret => Q .ret E H
theorem Zfu (E:Env):thn pf C k Q .normal E H=iwp pf C k Q E H:=rfl
theorem Zoz (id:Nat) (E:Env):thn pf C k Q (.exit id) E H=Q (.exit id) E H:=rfl
theorem Zu0 (E:Env):thn pf C k Q .ret E H=Q .ret E H:=rfl
theorem Zim (id:Nat) (E:Env):blk pf C id k Q .normal E H=iwp pf C k Q E H:=rfl
theorem Zsf (id i:Nat) (E:Env):blk pf C id k Q (.exit i) E H=if i=id then iwp pf C k Q E H else Q (.exit i) E H:=rfl
theorem Zyb (id:Nat) (E:Env):blk pf C id k Q .ret E H=Q .ret E H:=rfl
def iteK (K1 K2:Prop):AV→Prop
 | .lit (.bool t) => (t=true→K1)∧(t=false→K2)
 | .anyb => K1∧K2
 | _ => False
theorem Z3s (c:IArg) (a b:IC):iwp pf C (.ite c a b k) Q (look l) H=iteK (iwp pf C a (thn pf C k Q) (look l) H) (iwp pf C b (thn pf C k Q) (look l) H) (em l c):=by
 simp only [iwp,iteK,em]
 cases ev (look l) c <;> rfl
theorem Zw8 (K1 K2:Prop) (t:Bool):iteK K1 K2 (.lit (.bool t))=((t=true→K1)∧(t=false→K2)):=rfl
theorem Zw9 (K1 K2:Prop):iteK K1 K2 .anyb=(K1∧K2):=rfl
theorem Zls (K1 K2:Prop):iteK K1 K2 (.lit (.bool true))=K1:=by simp [iteK]
theorem Zhf (K1 K2:Prop):iteK K1 K2 (.lit (.bool false))=K2:=by simp [iteK]
theorem Zus (id:Nat) (b:IC):iwp pf C (.block id b k) Q (look l) H=iwp pf C b (blk pf C id k Q) (look l) H:=rfl
theorem Z1 {α:Type} (b:IC) (st:α→List (Nat × AV) × AH) (inv:α→Prop) (μ:α→Nat) (a0:α) (h0:inv a0) (he:(l,H)=st a0)
  (hr:∀ a,inv a→iwp pf C b (fun e E' H' => match e with
   | .normal => ∃ a',E'=look (st a').1∧H'=(st a').2∧inv a'∧μ a'<μ a
   | e => Q e E' H') (look (st a).1) (st a).2):iwp pf C (.loop b) Q (look l) H:=by
 refine ⟨fun n E H => ∃ a,E=look (st a).1∧H=(st a).2∧inv a∧μ a=n,μ a0,⟨a0,by rw [← he],by rw [← he],h0,rfl⟩,?_⟩
 rintro n E H ⟨a,rfl,rfl,hi,rfl⟩
 refine Zq0 (hr a hi) ?_
 intro e E' H' h
 cases e with
 | normal => obtain ⟨a',h1,h2,h3,h4⟩:=h; exact ⟨μ a',h4,a',h1,h2,h3,rfl⟩
 | exit id => exact h
 | ret => exact h
/-! ### Drawn regions that make objects -/
def xl (d:Nat) (o:Ins) (ds:List IArg):RA:=⟨⟨some d,none,o⟩,.l,ds⟩
def xln (o:Ins) (ds:List IArg):RA:=⟨⟨none,none,o⟩,.l,ds⟩
def xlg (d j:Nat) (w:Bool) (o:Ins) (ds:List IArg):RA:=⟨⟨some d,some (j,w),o⟩,.l,ds⟩
def xm (d:Nat) (o:Ins) (ds:List IArg):RA:=⟨⟨some d,none,o⟩,.m,ds⟩
def xmn (o:Ins) (ds:List IArg):RA:=⟨⟨none,none,o⟩,.m,ds⟩
def xw (d:Nat) (o:Ins) (ds:List IArg):RA:=⟨⟨some d,none,o⟩,.w,ds⟩
def xe (d:Nat) (o:Ins) (ds:List IArg):RA:=⟨⟨some d,none,o⟩,.e,ds⟩
def xeg (d j:Nat) (w:Bool) (o:Ins) (ds:List IArg):RA:=⟨⟨some d,some (j,w),o⟩,.e,ds⟩
def xf (n d:Nat) (o:Ins) (ds:List IArg):RA:=⟨⟨some d,none,o⟩,.f n,ds⟩
def xa (r d:Nat) (o:Ins):RA:=⟨⟨some d,none,o⟩,.a r,[]⟩
def dsP (l:List (Nat × AV)) (o:Ins) (ds:List IArg):Prop:=∀ a ∈ ds,apart (er l a) (er l (adrD o))
theorem Zxx (o:Ins):dsP l o []=True:=by simp [dsP]
theorem Zrv (o:Ins) (a:IArg) (r:List IArg):dsP l o (a::r)=(apart (er l a) (er l (adrD o))∧dsP l o r):=by simp [dsP]
theorem Zoo (agg:Bool) (n:Nat) (x:IArg):adrD (.load agg n x)=x:=rfl
theorem Ziw (n:Nat) (a x:IArg):adrD (.store n a x)=a:=rfl
theorem Zsw (i o j p:Nat):apart (.ptr i o) (.ptr j p)=(i≠j):=rfl
theorem Zsv (i o j p L:Nat):apart (.ptr i o) (.rptr j p L)=(i≠j):=rfl
theorem Zst (i o j p L:Nat):apart (.rptr j p L) (.ptr i o)=(j≠i):=rfl
theorem Zss (i o j p L M:Nat):apart (.rptr i o L) (.rptr j p M)=(i≠j):=rfl
theorem Zix (sz:Nat) (arr:Option Nat) (x:IArg) (lo hi mx:Option IArg):adrD (.slice sz arr x lo hi mx)=x:=rfl
theorem Zdo (sz b:Nat) (s x:IArg):adrD (.append sz b s x)=s:=rfl
theorem Zsx (i o j p n L:Nat):apart (.ptr i o) (.row j p n L)=(i≠j):=rfl
theorem Zsu (i o M j p n L:Nat):apart (.rptr i o M) (.row j p n L)=(i≠j):=rfl
theorem Zs0 (i o j p n L:Nat):apart (.row j p n L) (.ptr i o)=(i≠j):=rfl
theorem Zsz (i o M j p n L:Nat):apart (.row j p n L) (.rptr i o M)=(i≠j):=rfl
theorem Zs1 (i o M m j p n L:Nat):apart (.row i o m M) (.row j p n L)=(i≠j):=rfl
theorem Zym (cs:List AV) (n:Nat) (f:Bool) (v:AV):apart (.view cs n f) v=True:=by cases v <;> rfl
theorem Zsy (cs:List AV) (n:Nat) (f:Bool) (v:AV):apart v (.view cs n f)=True:=by cases v <;> rfl
theorem Zyn (v:AV):apart (.lit (.slice none 0 0)) v=True:=by cases v <;> rfl
theorem Zs2 (v:AV):apart v (.lit (.slice none 0 0))=True:=by
 cases v <;> first | rfl | skip
 rename_i v; unfold apart; split <;> first | rfl | simp_all
theorem Zyl (cs:List AV) (v:AV):apart (.vptr cs) v=True:=by cases v <;> rfl
theorem Zsr (cs:List AV) (v:AV):apart v (.vptr cs)=True:=by cases v <;> rfl
theorem Z3q (n:Nat) (rs:List RA):iwp pf C (.reg n rs k) Q (look l) H=absR pf C H.length rs (iwp pf C k Q) (look l) (H++List.replicate n dumO):=rfl
section
variable {base:Nat} {r:List RA} {K:Env→AH→Prop}
theorem Z4x:absR pf C base [] K (look l) H=K (look l) H:=rfl
theorem R_l (o:Ins) (ds:List IArg):absR pf C base (xl d o ds::r) K (look l) H=(dsP l o ds∧iwp pf C (q d o .done) (fun _ => absR pf C base r K) (look l) H):=rfl
theorem R_ln (o:Ins) (ds:List IArg):absR pf C base (xln o ds::r) K (look l) H=(dsP l o ds∧iwp pf C (qn o .done) (fun _ => absR pf C base r K) (look l) H):=rfl
theorem R_lg (o:Ins) (ds:List IArg):absR pf C base (xlg d j w o ds::r) K (look l) H=(dsP l o ds∧iwp pf C (qg d j w o .done) (fun _ => absR pf C base r K) (look l) H):=rfl
theorem R_m (o:Ins) (ds:List IArg):absR pf C base (xm d o ds::r) K (look l) H=(dsP l o ds∧iwp pf C (q d o .done) (fun _ E' H' => H'.take base=H.take base∧absR pf C base r K E' H') (look l) H):=rfl
theorem R_mn (o:Ins) (ds:List IArg):absR pf C base (xmn o ds::r) K (look l) H=(dsP l o ds∧iwp pf C (qn o .done) (fun _ E' H' => H'.take base=H.take base∧absR pf C base r K E' H') (look l) H):=rfl
theorem Zuk (ρ:IArg→AV) (sz b:Nat) (s x:IArg):wfar H ρ (.append sz b s x)=farV H (ρ x):=rfl
theorem Zmr (cs:List AV) (n:Nat) (f:Bool):farV H (.view cs n f)=True:=rfl
theorem Zro (v:Value):farV H (.lit v)=True:=rfl
theorem Zrn (id off n L:Nat):farV H (.row id off n L)=(obj H id≠dumO):=rfl
theorem R_w (o:Ins) (ds:List IArg):absR pf C base (xw d o ds::r) K (look l) H=(dsP l o ds∧base≤H.length∧wfar H (em l) o∧iwp pf C (q d o .done) (fun _ => absR pf C base r K) (look l) H):=rfl
theorem R_e (o:Ins) (ds:List IArg):absR pf C base (xe d o ds::r) K (look l) H=(dsP l o ds∧iwp pf (frC C) (q d o .done) (fun _ E' _ => absR pf C base r K E' H) (look l) (H.take base)):=rfl
theorem R_eg (o:Ins) (ds:List IArg):absR pf C base (xeg d j w o ds::r) K (look l) H=(dsP l o ds∧iwp pf (frC C) (qg d j w o .done) (fun _ E' _ => absR pf C base r K E' H) (look l) (H.take base)):=rfl
theorem R_f (n:Nat) (o:Ins) (ds:List IArg):absR pf C base (xf n d o ds::r) K (look l) H=(dsP l o ds∧iwp pf (frC C) (q d o .done) (fun _ E' _ => absR pf C base r K E' H) (look l) (H.take (base+n))):=rfl
theorem R_a (s:Nat) (o:Ins):absR pf C base (xa s d o::r) K (look l) H=((base+s<H.length∧obj H (base+s)=dumO)∧Qr (em l) o∧iside pf.c (em l) (H.take base) o∧absR pf C base r K (look ((d,aval (base+s) (em l) (H.take base) o)::l)) (H.set (base+s) (aobj (em l) (H.take base) o))):=by
 show ((∀ a ∈ [],_)∧_)=_
 simp only [List.not_mem_nil,false_implies,implies_true,true_and]
 rfl
end
theorem Zk3 (ρ:IArg→AV) (z:List Value):Qr ρ (.alloc z)=True:=rfl
theorem Zwu (ρ:IArg→AV) (x:IArg):Qr ρ (.box x)=True:=rfl
theorem Zqc (ρ:IArg→AV) (sz b:Nat) (z:List Value) (x c:IArg):Qr ρ (.mksl sz b z x c)=True:=rfl
theorem Zgx (ρ:IArg→AV) (sz n:Nat) (z:List Value) (ps:List (Nat × Nat × IArg)):Qr ρ (.bslice true sz n z ps)=True:=by simp [Qr]
theorem Zgy (ρ:IArg→AV) (sz b:Nat) (s x:IArg):Qr ρ (.append sz b s x)=U7 (ρ s):=rfl
theorem Z1r:U7 (.lit (.slice none 0 0))=True:=rfl
theorem Zww (cs:List AV):U7 (.view cs 0 true)=True:=by simp [U7]
theorem Zpo (cmp:TypeId→Bool) (ρ:IArg→AV) (z:List Value):iside cmp ρ H (.alloc z)=True:=rfl
theorem Z03 (cmp:TypeId→Bool) (ρ:IArg→AV) (x:IArg):iside cmp ρ H (.box x)=((ρ x).cells.isEmpty=false∧(ρ x).cells.all AV.one=true):=rfl
theorem Zvy (cmp:TypeId→Bool) (ρ:IArg→AV) (sz b:Nat) (z:List Value) (x c:IArg):iside cmp ρ H (.mksl sz b z x c)=Ze2 b (ρ x) (ρ c):=rfl
theorem Zjx (cmp:TypeId→Bool) (ρ:IArg→AV) (sz n:Nat) (z:List Value) (ps:List (Nat × Nat × IArg)):iside cmp ρ H (.bslice true sz n z ps)=Zr (n*sz) (ps.map fun p => (p.1,p.2.1,ρ p.2.2)):=by simp [iside]
theorem Zjy (cmp:TypeId→Bool) (ρ:IArg→AV) (sz b:Nat) (s x:IArg):iside cmp ρ H (.append sz b s x)=Rs sz b H (ρ s) (ρ x):=rfl
theorem Zsm (id:Nat) (ρ:IArg→AV) (z:List Value):aval id ρ H (.alloc z)=.ptr id 0:=rfl
theorem Z3d (id:Nat) (ρ:IArg→AV) (x:IArg):aval id ρ H (.box x)=.ptr id 0:=rfl
theorem Zyg (id:Nat) (ρ:IArg→AV) (sz b:Nat) (z:List Value) (x c:IArg):aval id ρ H (.mksl sz b z x c)=.row id 0 (asI (ρ x)).toNat ((asI (ρ x)).toNat*sz):=rfl
theorem Zoa (id:Nat) (ρ:IArg→AV) (o:Bool) (sz n:Nat) (z:List Value) (ps:List (Nat × Nat × IArg)):aval id ρ H (.bslice o sz n z ps)=.row id 0 n (n*sz):=rfl
theorem Zob (id:Nat) (ρ:IArg→AV) (sz b:Nat) (s x:IArg):aval id ρ H (.append sz b s x)=.row id 0 (srcN (ρ x)) (srcC sz H (ρ x)).length:=rfl
theorem Zs3 (ρ:IArg→AV) (z:List Value):aobj ρ H (.alloc z)=⟨zlit z,0,true⟩:=rfl
theorem Z3f (ρ:IArg→AV) (x:IArg):aobj ρ H (.box x)=⟨(ρ x).cells,0,true⟩:=rfl
theorem Zyp (ρ:IArg→AV) (sz b:Nat) (z:List Value) (x c:IArg):aobj ρ H (.mksl sz b z x c)=⟨repl (asI (ρ x)).toNat (zlit z),sz,true⟩:=rfl
theorem Zoi (ρ:IArg→AV) (o:Bool) (sz n:Nat) (z:List Value) (ps:List (Nat × Nat × IArg)):aobj ρ H (.bslice o sz n z ps)=⟨fillv (repl n (zlit z)) (ps.map fun p => (p.1,ρ p.2.2)),sz,true⟩:=rfl
theorem Zoj (ρ:IArg→AV) (sz b:Nat) (s x:IArg):aobj ρ H (.append sz b s x)=⟨srcC sz H (ρ x),sz,true⟩:=rfl
section
variable (G:AH) (o:AObj) (n:Nat)
theorem Zpn:(H++G).set H.length o=H++G.set 0 o:=by rw [List.set_append_right _ _ (Nat.le_refl _),Nat.sub_self]
theorem Zpm:(H++G).set (H.length+n) o=H++G.set n o:=by rw [List.set_append_right _ _ (Nat.le_add_right _ _),Nat.add_sub_cancel_left]
theorem Zi6:(H++G).take H.length=H:=List.take_left
theorem Zi5:(H++G).take (H.length+n)=H++G.take n:=List.take_length_add_append n
end
end
set_option linter.unusedSimpArgs false
abbrev I (n:Int):AV:=.lit (.int .i64 n)
abbrev Bl (b:Bool):AV:=.lit (.bool b)
theorem w64 (x:Int) (h1 : -9223372036854775808≤x) (h2:x≤9223372036854775807):IntKind.i64.wrap x=x:=by
 rw [IntKind.wrap_i64]; omega
theorem wu8 (x:Int) (h1:0≤x) (h2:x≤255):IntKind.u8.wrap x=x:=by
 simp only [IntKind.wrap,IntKind.bits,IntKind.signed]
 simp
 omega
theorem wu32 (x:Int) (h1:0≤x) (h2:x≤4294967295):IntKind.u32.wrap x=x:=by
 simp only [IntKind.wrap,IntKind.bits,IntKind.signed]
 simp
 omega
theorem wu64 (x:Int) (h1:0≤x) (h2:x≤18446744073709551615):IntKind.u64.wrap x=x:=by
 simp only [IntKind.wrap,IntKind.bits,IntKind.signed]
 simp
 omega
def ok64 (n:Int):Prop:=-9223372036854775808≤n∧n≤9223372036854775807
theorem Wy {n:Int} (h:(Lit.int .i64 n).wf=true):ok64 n:=by
 simp [Lit.wf,IntKind.min,IntKind.max,IntKind.signed,IntKind.bits] at h
 exact ⟨by omega,by omega⟩
def vI (l:List Int) (full:Bool):AV:=.view (l.map I) l.length full
theorem Zm2 (l:List Int) (i:Nat) (h:i<l.length):elt (l.map I) 1 i=[I (l.getD i 0)]:=by
 simp only [elt,Nat.mul_one]
 rw [← List.map_drop,List.drop_eq_getElem_cons h,List.map_cons,List.take_succ_cons,List.take_zero,List.getD_eq_getElem?_getD,List.getElem?_eq_getElem h,Option.getD_some]
/-! ### Ends -/
theorem Zk {H:AH} {v2 v:AV} (h:v2=v):Leave H v2 H v H:=h ▸ Leave.refl _ _ _
theorem Zc {H G:AH} {v2 v:AV} (h:low (renk H.length []) (H++G) v2=v):Leave H v2 (H++G) v H:=by
 have:=S4 (H:=H) (H1:=H) (H1':=H) (G:=G) [] List.nodup_nil (by simp) rfl rfl (fun i o' hi => .inl ⟨hi,hi⟩) v2
 rw [h] at this
 simpa using this
theorem Zpt {rs:List IRes} {H H2 H':AH} {v:AV} {E:Env}:retQ rs H v H' .ret E H2=(G5 E H2 rs∧Leave H (Zel (rs.map (resV E H2))) H2 v H'):=rfl
theorem Zn1 (op:BinOp) (k k':IntKind) (a b:Int):Zdj op (.lit (.int k a)) (.lit (.int k' b))=Zfa op k k' b:=rfl
theorem Zn0 (op:BinOp) (x y:ByteArray):Zdj op (.lit (.string x)) (.lit (.string y))=Zei op x y:=rfl
theorem Zsh (op:BinOp) (k k':IntKind) (a b:Int):binv op (.lit (.int k a)) (.lit (.int k' b))=.lit (ibin op k a b):=rfl
theorem Zsg (op:BinOp) (x y:ByteArray):binv op (.lit (.string x)) (.lit (.string y))=.lit (sbin op x y):=rfl
theorem Zij (cs:List AV) (n:Nat) (f:Bool):Zdg (.view cs n f)=(f=true):=rfl
theorem Znv:Zdg (.lit (.slice none 0 0))=True:=rfl
theorem Zle (s:ByteArray):Ny true (.lit (.string s))=True:=rfl
theorem Zhb (cs:List AV) (n:Nat) (f:Bool):Ny false (.view cs n f)=True:=rfl
theorem Zlf (id off n L:Nat):Ny false (.row id off n L)=True:=rfl
theorem Zlg:Ny false (.lit (.slice none 0 0))=True:=rfl
theorem Zpf (s:ByteArray):srcN (.lit (.string s))=s.size:=rfl
theorem Zjp (cs:List AV) (n:Nat) (f:Bool):srcN (.view cs n f)=n:=rfl
theorem Zpg (id off n L:Nat):srcN (.row id off n L)=n:=rfl
theorem Zph:srcN (.lit (.slice none 0 0))=0:=rfl
theorem Zcn (sz:Nat) (i:AV) (cs:List AV) (n:Nat) (f:Bool):Ta sz i none (.view cs n f)=(isI i∧0≤asI i∧asI i<n∧cs.length=n*sz):=rfl
theorem Zho (sz:Nat) (i:AV) (id off n L:Nat):Ta sz i none (.row id off n L)=(isI i∧0≤asI i∧asI i<n):=rfl
theorem Zhp (sz m:Nat) (i:AV) (id off:Nat):Ta sz i (some m) (.ptr id off)=(isI i∧0≤asI i∧asI i<m):=rfl
theorem Zco (sz m:Nat) (i:AV) (id off L:Nat):Ta sz i (some m) (.rptr id off L)=(isI i∧0≤asI i∧asI i<m):=rfl
theorem Zcm (sz m:Nat) (i:AV) (cs:List AV):Ta sz i (some m) (.vptr cs)=(isI i∧0≤asI i∧asI i<m∧m*sz≤cs.length):=rfl
theorem Zhm (sz:Nat) (i:AV) (cs:List AV) (n:Nat) (f:Bool):Z5 sz i (.view cs n f)=.vptr (elt cs sz (asI i).toNat):=rfl
theorem Zhl (sz:Nat) (i:AV) (cs:List AV):Z5 sz i (.vptr cs)=.vptr (elt cs sz (asI i).toNat):=rfl
theorem Zl0 (sz:Nat) (i:AV) (id off n L:Nat):Z5 sz i (.row id off n L)=.rptr id (off+(asI i).toNat*sz) L:=rfl
theorem Zhn (sz:Nat) (i:AV) (id off L:Nat):Z5 sz i (.rptr id off L)=.rptr id (off+(asI i).toNat*sz) L:=rfl
theorem Zl1 (sz:Nat) (i:AV) (id off:Nat):Z5 sz i (.ptr id off)=.ptr id (off+(asI i).toNat*sz):=rfl
theorem Zqs (l:List Int) (f:Bool):Ny false (vI l f)=True:=rfl
theorem Zvv (l:List Int) (f:Bool):srcN (vI l f)=l.length:=rfl
theorem Zl2 (l:List Int) (f:Bool) (k:IntKind) (i:Int):Ta 1 (.lit (.int k i)) none (vI l f)=(0≤i∧i<l.length):=by simp [Ta,vI,isI,asI]
theorem Zq7 (l:List Int) (f:Bool) (k:IntKind) (i:Int):Z5 1 (.lit (.int k i)) (vI l f)=.vptr (elt (l.map I) 1 i.toNat):=rfl
theorem Z1f (l:List Int) (f:Bool):AV.one (vI l f)=true:=rfl
theorem Zrl (x d:Int) (h:0≤d):x.fdiv (2^min (d.tmod 7).toNat 64)=x / 2^(d%7).toNat:=by
 rw [Int.tmod_eq_emod_of_nonneg h,Int.fdiv_eq_ediv_of_nonneg _ (by exact Int.le_of_lt (Int.pow_pos (by decide)))]
 congr 2
 omega
theorem Zol (x:Int):bAnd .i64 x 1=x%2:=by
 show IntKind.i64.wrap ((BitVec.ofInt 64 x &&& BitVec.ofInt 64 1).toNat:Nat)=x%2
 have e:(BitVec.ofInt 64 x &&& BitVec.ofInt 64 1).toNat=(x%2).toNat:=by
  rw [BitVec.toNat_and,BitVec.toNat_ofInt,BitVec.toNat_ofInt]
  have:((1:Int)%((2^64:Nat):Int)).toNat=1:=by decide
  rw [this,Nat.and_one_is_mod]
  omega
 rw [e,w64 _ (by omega) (by omega)]
 omega
theorem Zr1 (p x y:Bool):(bif p then AV.lit (.bool x) else AV.lit (.bool y))=AV.lit (.bool (bif p then x else y)):=by cases p <;> rfl
section
variable (H G:AH) (a:AObj) (k:Nat) (cs:List AV)
theorem Ym:obj (H++G) H.length=obj G 0:=by simp only [obj,List.getD_eq_getElem?_getD]; rw [List.getElem?_append_right (Nat.le_refl _),Nat.sub_self]
theorem Yu:obj (H++G) (H.length+k)=obj G k:=by simp [obj,List.getD_eq_getElem?_getD,List.getElem?_append_right]
theorem Nm:obj (a::G) 0=a:=rfl
theorem Zks:obj (a::G) (k+1)=obj G k:=rfl
theorem Yf {p:Nat} (h:p<H.length):obj (H++G) p=obj H p:=by simp [obj,List.getD_eq_getElem?_getD,List.getElem?_append_left h]
theorem O9:setO (H++G) H.length cs=H++setO G 0 cs:=by
 simp only [setO,Ym]
 rw [List.set_append_right _ _ (Nat.le_refl _),Nat.sub_self]
theorem Zjv:setO (H++G) (H.length+k) cs=H++setO G k cs:=by
 simp only [setO,Yu]
 rw [List.set_append_right _ _ (Nat.le_add_right _ _),Nat.add_sub_cancel_left]
theorem Zgb:setO (a::G) 0 cs=⟨cs,a.sz,a.rw⟩::G:=rfl
theorem Zga:setO (a::G) (k+1) cs=a::setO G k cs:=rfl
theorem Db {p:Nat} (h:p<H.length):setO (H++G) p cs=setO H p cs++G:=by
 simp only [setO,Yf H G h]
 rw [List.set_append_left _ _ h]
theorem Zu (p:Nat):(setO H p cs).length=H.length:=by simp [setO]
theorem Vm {p:Nat} (h:p<H.length):obj (setO H p cs) p=⟨cs,(obj H p).sz,(obj H p).rw⟩:=by simp [obj,setO,List.getD_eq_getElem?_getD,h]
theorem I3 {p q:Nat} (h:p≠q):obj (setO H p cs) q=obj H q:=by simp [obj,setO,List.getD_eq_getElem?_getD,List.getElem?_set_ne h]
theorem Bq (p:Nat) (cs':List AV):setO (setO H p cs) p cs'=setO H p cs':=by
 by_cases h:p<H.length
 ·have e:=Vm H cs h
  show (setO H p cs).set p ⟨cs',(obj (setO H p cs) p).sz,(obj (setO H p cs) p).rw⟩=_
  rw [e]
  simp only [setO,List.set_set]
 ·simp only [setO]
  rw [List.set_eq_of_length_le (l:=H) (by omega)]
theorem Zf4 (off:Nat) (a b:AV) (r:List AV):splice cs off (a::b::r)=cs.take off++(a::b::r)++cs.drop (off+(r.length+2)):=rfl
theorem Zf5 (off:Nat) (v:AV):splice cs off [v]=cs.set off v:=rfl
end
section
variable (k o id off L:Nat) (H:AH) (cs:List AV) (agg:Bool) (x:AV)
theorem Zmm:Hx (.ptr id off)=True:=rfl
theorem Zhu:Hx (.rptr id off L)=True:=rfl
theorem Zht:Hx (.vptr cs)=True:=rfl
theorem Zrj:fldV o (.ptr id off)=.ptr id (off+o):=rfl
theorem Zmk:fldV o (.rptr id off L)=.rptr id (off+o) L:=rfl
theorem Zmj:fldV o (.vptr cs)=.vptr (cs.drop o):=rfl
theorem Zg8:Z6 k H (.ptr id off)=(id<H.length∧off+k≤(obj H id).cs.length):=rfl
theorem Zce:Z6 k H (.rptr id off L)=(id<H.length∧L=(obj H id).cs.length∧off+k≤L):=rfl
theorem Zcd:Z6 k H (.vptr cs)=(k≤cs.length):=rfl
theorem Zld:Yc agg k H (.ptr id off)=if agg then .agg (((obj H id).cs.drop off).take k) else (obj H id).cs.getD off .junk:=rfl
theorem Zg7:Yc agg k H (.rptr id off L)=if agg then .agg (((obj H id).cs.drop off).take k) else (obj H id).cs.getD off .junk:=rfl
theorem Zg6:Yc agg k H (.vptr cs)=if agg then .agg (cs.take k) else cs.getD 0 .junk:=rfl
theorem Zbe:storeAt k H (.ptr id off)=(id<H.length∧(obj H id).rw=true∧off+k≤(obj H id).cs.length):=rfl
theorem Bf:storeAt k H (.rptr id off L)=(id<H.length∧(obj H id).rw=true∧L=(obj H id).cs.length∧off+k≤L):=rfl
theorem Zfz:Fq H x (.ptr id off)=setO H id (splice (obj H id).cs off x.cells):=rfl
theorem Zbd:Fq H x (.rptr id off L)=setO H id (splice (obj H id).cs off x.cells):=rfl
theorem Zxa (kd:IntKind) (n:Int):isI (.lit (.int kd n))=True:=rfl
theorem Zyh (kd:IntKind) (n:Int):asI (.lit (.int kd n))=n:=rfl
theorem Zq1 (b:Bool):isB (.lit (.bool b))=true:=rfl
theorem min8:min 8 64=8:=rfl
theorem Zsn (b:Bool):asB (.lit (.bool b))=b:=rfl
theorem Znp (v:Value):(AV.lit v).cells=[.lit v]:=rfl
theorem Zno:(AV.ptr id off).cells=[.ptr id off]:=rfl
theorem Zih:(AV.rptr id off L).cells=[.rptr id off L]:=rfl
theorem Zif:(AV.vptr cs).cells=[.vptr cs]:=rfl
theorem Znn (n:Nat):(AV.row id off n L).cells=[.row id off n L]:=rfl
theorem Zig (n:Nat) (g:Bool):(AV.view cs n g).cells=[.view cs n g]:=rfl
theorem Zr5 (f:Fn) (a b:List AV):(AV.fn f a b).cells=[.fn f a b]:=rfl
theorem Znr:(AV.agg cs).cells=cs:=rfl
theorem Zwm (v:Value):(AV.lit v).one=v.oneCell':=rfl
theorem Zwl:(AV.ptr id off).one=true:=rfl
theorem Zp6:(AV.rptr id off L).one=true:=rfl
theorem Zp4:(AV.vptr cs).one=true:=rfl
theorem Zwk (n:Nat):(AV.row id off n L).one=true:=rfl
theorem Zp5 (n:Nat) (g:Bool):(AV.view cs n g).one=true:=rfl
theorem Z1g (f:Fn) (a b:List AV):(AV.fn f a b).one=true:=rfl
theorem Zkz:Zb5 (.ptr id off)=True:=rfl
theorem Zgw:Zb5 (.rptr id off L)=True:=rfl
theorem Zgv:Zb5 (.vptr cs)=True:=rfl
end
attribute [go_sem] Zqo Zlc er_t er_c er_f em_t em_c em_f Zzo Zzm Zuz Zux Zzl Zuy Z30 Zzp Zzk Zzn Z1l Z1j Zwp Zwn Z1i Zwo Z4g Z1m Z1h Zwq Z1k w_mv g_mv Zou Zrf Zy0 Z2b Z3y Z4s Zuo Zxh w_eq g_eq w_un g_un Zzg Z2l Z3o Z4m Z3z Z4t Zut Z3x Zur Zov Zrg Zy8 Z2i Zwx Z3u Z4p Zy3 Z2e Zzb Z2k Z3t Z4o Zyz Z2a Z3v Z4q Zy5 Z2f Zy6 Zy4 Zum Zot Zow Zzf Z1t Z3r Z4n Zy9 Z2j w_mn g_mn w_mx g_mx Zy2 Z2d Zzh Z1u Z2m Za4 Zb7 Zl6 Zl5 Zza Zqx Zlq Zzd Z3p Zzc Zfu Zoz Zu0 Zim Zsf Zyb Z3s Zw8 Zls Zhf Zus cvW cvG
theorem Zb4 (cs:List AV) (n:Nat) (f:Bool):Np (.view cs n f)=True:=rfl
theorem Zgt (id off n L:Nat):Np (.row id off n L)=True:=rfl
theorem Zgu:Np (.lit (.slice none 0 0))=True:=rfl
theorem F1 (neq:Bool) (cs:List AV) (n:Nat) (f:Bool):B8 neq (.view cs n f)=if n=0 then .anyb else .lit (.bool neq):=rfl
theorem B7 (neq:Bool) (id off n L:Nat):B8 neq (.row id off n L)=if n=0 then .anyb else .lit (.bool neq):=rfl
theorem Zky (neq:Bool):B8 neq (.lit (.slice none 0 0))=.lit (.bool !neq):=rfl
attribute [go_sem] Zun Zxg Zb4 Zgt Zgu F1 B7 Zky Zw9 Zuq Zxi Ug Pb Zy1 Z2c Bs Zj3
attribute [go_sem] Int.reduceToNat decide_true Zxf Zre Zxk Zdl Zir Ziq Zdk Option.toList_some Option.toList_none
attribute [go_sem] Z3q Z4x R_l R_ln R_lg R_m R_mn R_w Zuk Zmr Zro Zrn R_e R_eg R_f R_a Zix Zdo Zsx Zsu Zs0 Zsz Zs1 Zym Zsy Zyn Zs2 Zxx Zrv Zoo Ziw Zsw Zsv Zst Zss Zyl Zsr Zk3 Zwu Zqc Zgx Zgy Z1r Zww Zpo Z03 Zvy Zjx Zjy Zsm Z3d Zyg Zoa Zob Zs3 Z3f Zyp Zoi Zoj Zpn Zpm Zi6 Zi5 List.replicate_zero List.replicate_succ List.length_set List.take_zero List.take_succ_cons List.isEmpty_cons
attribute [go_sem] Zy7 Z2h Zzi Zzj Z2n Zze Z1s false_and
attribute [go_sem] Z3w Z4r Zwy Zup Zij Znv
attribute [go_sem] H8 Zpt G5 resV Zel List.map_cons List.map_nil if_true if_false reduceIte Nat.reduceEqDiff Bool.false_eq_true
attribute [go_sem] Zkz Zgw Zgv Zmm Zhu Zht Zrj Zmk Zmj Zg8 Zce Zcd Zld Zg7 Zg6 Zbe Bf Zfz Zbd Zle Zhb Zlf Zlg Zpf Zjp Zpg Zph Zcn Zho Zhp Zco Zcm Zhm Zhl Zl0 Zhn Zl1 Zn1 Zn0 Zsh Zsg Int.toNat_natCast Zfa ibin Zei sbin unOk unv min8 Zxa Zyh Zq1 Zsn Zqs Zvv Zl2 Zq7 Z1f Iz Fz Zr1 ge_iff_le gt_iff_lt false_implies eqOk eqv isC B3 Zkk Zmt extV Aa Zk6 Znp Zno Zih Zif Znn Zig Zr5 Znr Zwm Zwl Zp6 Zp4 Zwk Zp5 Z1g E6 Bp Zjr Zl4 idxV Zj2 s2bV s2bH O7 mnV mxV
attribute [go_sem] beq_true beq_false and_true true_and imp_self implies_true forall_const Bool.true_and Bool.and_true Bool.not_true Bool.not_false Bool.cond_true_left Bool.cond_false_right Bool.cond_true_right Bool.cond_false_left cond_true cond_false Bool.and_false Bool.false_and Bool.or_false Bool.false_or Bool.or_true Bool.true_or
attribute [go_sem] decide_eq_true_eq decide_eq_false_iff_not List.length_cons List.length_nil List.getD_cons_zero List.getD_cons_succ Nat.zero_add Nat.le_refl
attribute [go_sem] forall_eq forall_eq_or_imp List.mem_cons List.not_mem_nil or_false false_or
attribute [go_sem] Ym Yu Nm Zks O9 Zjv Zgb Zga Zu Zf5 Zf4 List.drop_nil List.take_nil List.append_nil List.length_append List.append_assoc List.cons_append List.nil_append Nat.add_lt_add_iff_left Nat.lt_add_right_iff_pos Nat.reduceLT Nat.reduceAdd Nat.reduceLeDiff Nat.add_zero List.set_cons_zero List.set_cons_succ List.take_succ_cons List.take_zero List.drop_zero List.drop_succ_cons zlit repl
structure Sl (sz:Nat) (H:AH) (x:AV) (cs:List AV) (n:Nat):Prop where
 ok:Wz sz H x
 ns:¬ O7 x
 c:srcC sz H x=cs
 n:srcN x=n
 z:∀ id off m L,x=.row id off m L→(obj H id).sz=sz∨(obj H id).sz=0
section
variable {sz n:Nat} {H G:AH} {x:AV} {cs:List AV}
theorem Sl.view (h:cs.length=n*sz) (f:Bool):Sl sz H (.view cs n f) cs n:=⟨h,fun h => h,rfl,rfl,fun _ _ _ _ h => by cases h⟩
theorem Sl.nil:Sl sz H (.lit (.slice none 0 0)) [] 0:=⟨trivial,fun h => h,rfl,rfl,fun _ _ _ _ h => by cases h⟩
theorem Sl.row {id off L:Nat} (h1:id<H.length) (h2:L=(obj H id).cs.length) (h3:off+n*sz≤L) (h4:((obj H id).cs.drop off).take (n*sz)=cs) (h5:(obj H id).sz=sz∨(obj H id).sz=0):Sl sz H (.row id off n L) cs n :=
 ⟨⟨h1,h2,h3⟩,fun h => h,h4,rfl,fun _ _ _ _ h => by cases h; exact h5⟩
theorem Sl.cases (h:Sl sz H x cs n):(x=.lit (.slice none 0 0)∧cs=[]∧n=0)∨(∃ f,x=.view cs n f∧cs.length=n*sz)∨∃ id off L,x=.row id off n L∧id<H.length∧L=(obj H id).cs.length∧off+n*sz≤L∧((obj H id).cs.drop off).take (n*sz)=cs∧((obj H id).sz=sz∨(obj H id).sz=0):=by
 obtain ⟨h1,h2,h3,h4,h5⟩:=h
 cases x with
 | lit v =>
  unfold Wz at h1
  split at h1 <;> first | exact h1.elim | skip
  all_goals rename_i heq
  all_goals first | (cases heq; done) | skip
  ·cases heq; exact absurd trivial h2
  ·cases heq; exact .inl ⟨rfl,h3.symm,h4.symm⟩
 | view c m f =>
  cases h3; cases h4
  exact .inr (.inl ⟨f,rfl,h1⟩)
 | row id off m L =>
  cases h4
  exact .inr (.inr ⟨id,off,L,rfl,h1.1,h1.2.1,h1.2.2,h3,h5 _ _ _ _ rfl⟩)
 | _ => exact h1.elim
theorem Sl.length (h:Sl sz H x cs n):cs.length=n*sz:=by
 rcases h.cases with ⟨_,rfl,rfl⟩ | ⟨f,_,h⟩ | ⟨id,off,L,rfl,h1,h2,h3,h4,h5⟩
 ·simp
 ·exact h
 ·rw [← h4,List.length_take,List.length_drop]; omega
theorem Sl.lenT (h:Sl sz H x cs n):Ny false x=True:=by
 rcases h.cases with ⟨rfl,_⟩ | ⟨f,rfl,_⟩ | ⟨id,off,L,rfl,_⟩ <;> rfl
theorem Sl.one (h:Sl sz H x cs n):x.one=true:=by
 rcases h.cases with ⟨rfl,_⟩ | ⟨f,rfl,_⟩ | ⟨id,off,L,rfl,_⟩ <;> rfl
theorem Sl.un (h:Sl sz H x cs n):x.un=x:=by
 rcases h.cases with ⟨rfl,_⟩ | ⟨f,rfl,_⟩ | ⟨id,off,L,rfl,_⟩ <;> rfl
theorem Sl.may (h:Sl sz H x cs n) (g:Bool):Yj g x=True:=by
 rcases h.cases with ⟨rfl,_⟩ | ⟨f,rfl,_⟩ | ⟨id,off,L,rfl,_⟩ <;> rfl
theorem Sl.cells (h:Sl sz H x cs n):x.cells=[x]:=by
 rcases h.cases with ⟨rfl,_⟩ | ⟨f,rfl,_⟩ | ⟨id,off,L,rfl,_⟩ <;> rfl
theorem Sl.idx (h:Sl sz H x cs n) (k:IntKind) (i:Int):Ta sz (.lit (.int k i)) none x=(0≤i∧i<n):=by
 rcases h.cases with ⟨rfl,_,rfl⟩ | ⟨f,rfl,h1⟩ | ⟨id,off,L,rfl,_⟩
 ·show False=_
  simp
 ·simp [Ta,isI,asI,h1]
 ·simp [Ta,isI,asI]
theorem Sl.ldOk (h:Sl sz H x cs n) (k:IntKind) {i m:Nat} (hi:i<n) (hm:m≤sz):Z6 m H (Z5 sz (.lit (.int k i)) x)=True:=by
 have hle:i*sz+sz≤n*sz:=by rw [← Nat.succ_mul]; exact Nat.mul_le_mul_right _ hi
 rcases h.cases with ⟨rfl,_,rfl⟩ | ⟨f,rfl,h1⟩ | ⟨id,off,L,rfl,h1,h2,h3,h4,h5⟩
 ·omega
 ·simp only [Z5,Z6,asI,Int.toNat_natCast,elt,List.length_take,List.length_drop,eq_iff_iff,iff_true]; omega
 ·simp only [Z5,Z6,asI,Int.toNat_natCast,eq_iff_iff,iff_true]; exact ⟨h1,h2,by omega⟩
theorem Sl.ld (h:Sl sz H x cs n) (k:IntKind) {i m:Nat} (hi:i<n) (hm:m≤sz) (hz:0<sz) (agg:Bool):Yc agg m H (Z5 sz (.lit (.int k i)) x)=if agg then .agg ((elt cs sz i).take m) else cs.getD (i*sz) .junk:=by
 have hle:i*sz+sz≤n*sz:=by rw [← Nat.succ_mul]; exact Nat.mul_le_mul_right _ hi
 rcases h.cases with ⟨rfl,_,rfl⟩ | ⟨f,rfl,h1⟩ | ⟨id,off,L,rfl,h1,h2,h3,h4,h5⟩
 ·omega
 ·simp only [Z5,Yc,asI,Int.toNat_natCast]
  cases agg
  ·simp only [Bool.false_eq_true,if_false,elt,List.getD_eq_getElem?_getD,List.getElem?_take,if_pos hz,List.getElem?_drop,Nat.add_zero]
  ·simp
 ·simp only [Z5,Yc,asI,Int.toNat_natCast]
  subst h4
  cases agg
  ·simp only [Bool.false_eq_true,if_false,List.getD_eq_getElem?_getD,List.getElem?_take,List.getElem?_drop]
   rw [if_pos (by omega)]
  ·simp only [if_true,elt,List.take_take,List.drop_take,List.drop_drop]
   congr 2
   omega
theorem Sl.ld1 (h:Sl 1 H x cs n) (k:IntKind) {i:Nat} (hi:i<n):Yc false 1 H (Z5 1 (.lit (.int k i)) x)=cs.getD i .junk:=by
 rw [h.ld k hi (Nat.le_refl _) (by decide)]; simp
theorem Sl.ldA (h:Sl sz H x cs n) (k:IntKind) {i:Nat} (hi:i<n) (hz:0<sz):Yc true sz H (Z5 sz (.lit (.int k i)) x)=.agg (elt cs sz i):=by
 rw [h.ld k hi (Nat.le_refl _) hz]
 simp [elt,List.take_take]
theorem Sl.fdOk (h:Sl sz H x cs n) (k:IntKind) {i o m:Nat} (hi:i<n) (hm:o+m≤sz):Hx (Z5 sz (.lit (.int k i)) x)=True∧Z6 m H (fldV o (Z5 sz (.lit (.int k i)) x))=True:=by
 have hle:i*sz+sz≤n*sz:=by rw [← Nat.succ_mul]; exact Nat.mul_le_mul_right _ hi
 rcases h.cases with ⟨rfl,_,rfl⟩ | ⟨f,rfl,h1⟩ | ⟨id,off,L,rfl,h1,h2,h3,h4,h5⟩
 ·omega
 ·refine ⟨rfl,?_⟩
  simp only [Z5,fldV,Z6,asI,Int.toNat_natCast,elt,List.length_take,List.length_drop,eq_iff_iff,iff_true]; omega
 ·refine ⟨rfl,?_⟩
  simp only [Z5,fldV,Z6,asI,Int.toNat_natCast,eq_iff_iff,iff_true]; exact ⟨h1,h2,by omega⟩
theorem Sl.fd (h:Sl sz H x cs n) (k:IntKind) {i o m:Nat} (hi:i<n) (hm:o+m≤sz) (h0:0<m) (agg:Bool):Yc agg m H (fldV o (Z5 sz (.lit (.int k i)) x))=if agg then .agg ((cs.drop (i*sz+o)).take m) else cs.getD (i*sz+o) .junk:=by
 have hle:i*sz+sz≤n*sz:=by rw [← Nat.succ_mul]; exact Nat.mul_le_mul_right _ hi
 rcases h.cases with ⟨rfl,_,rfl⟩ | ⟨f,rfl,h1⟩ | ⟨id,off,L,rfl,h1,h2,h3,h4,h5⟩
 ·omega
 ·simp only [Z5,fldV,Yc,asI,Int.toNat_natCast,elt,List.drop_take,List.drop_drop]
  cases agg
  ·simp only [Bool.false_eq_true,if_false,List.getD_eq_getElem?_getD,List.getElem?_take,List.getElem?_drop,Nat.add_zero]
   rw [if_pos (by omega)]
  ·simp only [if_true,List.take_take]
   congr 2
   omega
 ·simp only [Z5,fldV,Yc,asI,Int.toNat_natCast]
  subst h4
  cases agg
  ·simp only [Bool.false_eq_true,if_false,List.getD_eq_getElem?_getD,List.getElem?_take,List.getElem?_drop]
   rw [if_pos (by omega)]
   congr 2
   omega
  ·simp only [if_true,List.drop_take,List.take_take,List.drop_drop]
   rw [show off+i*sz+o=off+(i*sz+o) by omega]
   congr 2
   omega
theorem Sl.app (h:Sl sz H x cs n):Sl sz (H++G) x cs n:=by
 rcases h.cases with ⟨rfl,rfl,rfl⟩ | ⟨f,rfl,h1⟩ | ⟨id,off,L,rfl,h1,h2,h3,h4,h5⟩
 ·exact .nil
 ·exact .view h1 f
 ·have e:=Yf H G h1
  exact .row (by simp; omega) (by rw [e]; exact h2) h3 (by rw [e]; exact h4) (by rw [e]; exact h5)
theorem Sl.nilc (h:Sl sz H x cs n) {K1 K2:Prop} (h1:n=0→K1) (h2:K2):Np x∧iteK K1 K2 (B8 false x):=by
 rcases h.cases with ⟨rfl,rfl,rfl⟩ | ⟨f,rfl,_⟩ | ⟨id,off,L,rfl,_⟩
 ·exact ⟨trivial,fun _ => h1 rfl,fun h => (by cases h)⟩
 ·refine ⟨trivial,?_⟩
  rw [F1]
  split
  ·rename_i h0; exact ⟨h1 h0,h2⟩
  ·exact ⟨fun h => (by cases h),fun _ => h2⟩
 ·refine ⟨trivial,?_⟩
  rw [B7]
  split
  ·rename_i h0; exact ⟨h1 h0,h2⟩
  ·exact ⟨fun h => (by cases h),fun _ => h2⟩
end
/-! ### Slices of slices -/
def lo0:Option AV→Nat
 | none => 0
 | some v => (asI v).toNat
def hi0 (n:Nat):Option AV→Nat
 | none => n
 | some v => (asI v).toNat
section
variable {sz n:Nat} {H G:AH} {x:AV} {cs:List AV}
theorem Zas (lo:Option AV):(bnd 0 lo).toNat=lo0 lo:=by cases lo <;> rfl
theorem Zat (n:Nat) (hi:Option AV):(bnd n hi).toNat=hi0 n hi:=by cases hi <;> simp [bnd,hi0]
theorem Sl.slOk (h:Sl sz H x cs n) {lo hi:Option AV} (hb:Tq n lo hi none):X4 sz H lo hi none none x:=by
 rcases h.cases with ⟨rfl,rfl,rfl⟩ | ⟨f,rfl,h1⟩ | ⟨id,off,L,rfl,h1,h2,h3,h4,h5⟩
 ·exact hb
 ·exact ⟨hb,h1⟩
 ·refine ⟨h1,h2,h5,?_⟩
  obtain ⟨b0,b1,b2,b3,b4,b5,b6⟩:=hb
  have hc:n≤Nd (obj H id).sz sz n off L:=by
   unfold Nd
   split
   ·exact Nat.le_refl _
   ·exact Nat.le_max_left _ _
  refine ⟨b0,b1,b2,b3,b4,?_,?_⟩
  ·show bnd n hi≤_
   have:bnd (n:Int) none=n:=rfl
   have e:bnd ((Nd (obj H id).sz sz n off L:Nat):Int) none=(Nd (obj H id).sz sz n off L:Nat):=rfl
   omega
  ·exact Int.le_refl _
theorem Sl.sl (h:Sl sz H x cs n) {lo hi:Option AV} (hb:Tq n lo hi none):Sl sz H (Xh sz H lo hi none none x) (cut cs sz (lo0 lo) (hi0 n hi)) (hi0 n hi - lo0 lo):=by
 obtain ⟨_,_,_,b1,b2,b3,b4⟩:=hb
 have e1:=Zas lo
 have e2:=Zat n hi
 have hle:lo0 lo≤hi0 n hi:=by omega
 have hhn:hi0 n hi≤n:=by have:bnd (n:Int) none=n:=rfl; omega
 have hmul:(hi0 n hi - lo0 lo)*sz+lo0 lo*sz≤n*sz:=by rw [← Nat.add_mul]; exact Nat.mul_le_mul_right _ (by omega)
 rcases h.cases with ⟨rfl,rfl,rfl⟩ | ⟨f,rfl,h1⟩ | ⟨id,off,L,rfl,h1,h2,h3,h4,h5⟩
 ·have:hi0 0 hi - lo0 lo=0:=by omega
  simp only [Xh,cut,List.drop_nil,List.take_nil,this]
  exact .nil
 ·simp only [Xh,e1,e2]
  exact .view (by simp only [cut,List.length_take,List.length_drop]; omega) _
 ·simp only [Xh,e1,e2,Option.isSome_none,Bool.false_and,Bool.false_eq_true,if_false]
  refine .row h1 h2 (by omega) ?_ h5
  subst h4
  simp only [cut,List.drop_take,List.take_take,List.drop_drop]
  rw [Nat.min_eq_left (by omega)]
end
/-! ### Bytes -/
abbrev u8 (b:UInt8):AV:=.lit (.int .u8 b.toNat)
abbrev bs (l:List UInt8):List AV:=l.map u8
abbrev vB (l:List UInt8) (f:Bool):AV:=.view (bs l) l.length f
abbrev Str (l:List UInt8):AV:=.lit (.string ⟨l.toArray⟩)
theorem Dp {α:Type} (f:α→AV) (h:∀ a,(f a).pure=true):∀ l:List α,Ye (l.map f)=true
 | [] => rfl
 | a::r => by simp only [List.map_cons,Ye,h a,Dp f h r,Bool.and_self]
theorem Vl:∀ {l:List AV},(∀ a ∈ l,a.pure=true)→Ye l=true
 | [],_ => rfl
 | a::r,h => by simp only [Ye,h a (by simp),Vl (l:=r) fun b hb => h b (by simp [hb]),Bool.and_self]
theorem Zb3 {α:Type} (f:α→AV) (h:∀ a,(f a).one=true) (l:List α):(l.map f).all AV.one=true:=by simp [h]
theorem Wi (l:List UInt8):Ye (bs l)=true:=Dp u8 (fun _ => rfl) l
theorem Xx (l:List UInt8):(bs l).all AV.one=true:=Zb3 u8 (fun _ => rfl) l
theorem Eu (l:List UInt8) (i:Nat) (h:i<l.length):(bs l).getD i .junk=u8 (l.getD i 0):=by
 rw [List.getD_eq_getElem?_getD,List.getElem?_map,List.getD_eq_getElem?_getD,List.getElem?_eq_getElem h]; rfl
theorem Zi3 (b:UInt8):C9 (u8 b)=b:=by simp [C9]
theorem Sl.b2s {l:List UInt8} {H:AH} {x:AV} (h:Sl 1 H x (bs l) l.length):Zip H x=True∧b2sV H x=Str l:=by
 refine ⟨?_,?_⟩
 ·simp only [Zip,h.c,eq_iff_iff,iff_true]
  refine ⟨h.ns,h.ok,?_⟩
  simp [Aj]
 ·simp only [b2sV,h.c,Str]
  congr 3
  rw [List.map_map]
  exact congrArg List.toArray ((List.map_congr_left fun b _ => Zi3 b).trans (List.map_id l))
theorem Sl.vB {H:AH} (l:List UInt8) (f:Bool):Sl 1 H (vB l f) (bs l) l.length:=.view (by simp) f
theorem E5 (l:List UInt8):(ByteArray.mk l.toArray).size=l.length:=by simp [ByteArray.size]
theorem Zfy (l:List UInt8):(ByteArray.mk l.toArray).toList=l:=by
 have key:∀ (n i:Nat) (r:List UInt8),i+n=l.length→ByteArray.toList.loop ⟨l.toArray⟩ i r=r.reverse++l.drop i:=by
  intro n
  induction n with
  | zero =>
   intro i r h
   unfold ByteArray.toList.loop
   rw [if_neg (by rw [E5]; omega),List.drop_eq_nil_of_le (by omega),List.append_nil]
  | succ n ih =>
   intro i r h
   unfold ByteArray.toList.loop
   rw [if_pos (by rw [E5]; omega),ih (i+1) _ (by omega)]
   have hi:i<l.length:=by omega
   rw [List.drop_eq_getElem_cons hi,List.reverse_cons,List.append_assoc]
   congr 2
   simp [ByteArray.get!,hi]
 have:=key l.length 0 [] (by omega)
 simpa [ByteArray.toList] using this
/-! ### Ends with a new row -/
section
variable {sz n:Nat} {H G:AH} {x:AV} {cs:List AV}
theorem F5 {ren:Nat→Option Nat} (h0:ren H.length=none) (hz:0<sz) (hc:cs.length=n*sz) (hp:Ye cs=true) (w:Bool) (L:Nat) (hL:L=cs.length):low ren (H++[⟨cs,sz,w⟩]) (.row H.length 0 n L)=.view cs n false:=by
 have e:obj (H++[⟨cs,sz,w⟩]) H.length=⟨cs,sz,w⟩:=by rw [Ym]; rfl
 simp only [low,h0,Ri,e,if_neg (show ¬ sz=0 by omega)]
 have e2:(cs.drop 0).take (n*sz)=cs:=by rw [List.drop_zero,List.take_of_length_le (by omega)]
 rw [e2,if_pos ⟨hL,by omega,hp⟩]
theorem Bu (n:Nat):renk n [] n=none:=by simp [renk]
theorem Ng (n k:Nat):renk n [] (n+k)=none:=by simp [renk]
end
theorem Cb {α:Type} (f:α→AV) (l:List α) (i:Nat) (h:i<l.length) (d:α):elt (l.map f) 1 i=[f (l.getD i d)]:=by
 simp only [elt,Nat.mul_one]
 rw [← List.map_drop,List.drop_eq_getElem_cons h,List.map_cons,List.take_succ_cons,List.take_zero,List.getD_eq_getElem?_getD,List.getElem?_eq_getElem h,Option.getD_some]
theorem Wd {α:Type} {l:List α} {i:Nat} (h:i<l.length) (d:α):l.take (i+1)=l.take i++[l.getD i d]:=by
 rw [List.take_add_one,List.getD_eq_getElem?_getD,List.getElem?_eq_getElem h]; rfl
theorem Xr {α:Type} {l:List α} {i:Nat} (h:i<l.length) (d:α):l.drop i=l.getD i d::l.drop (i+1):=by
 rw [List.drop_eq_getElem_cons h,List.getD_eq_getElem?_getD,List.getElem?_eq_getElem h]; rfl
/-! ### Rules -/
theorem Jz {H:AH} {v2 v:AV} (h:Le v2 v):Leave H v2 H v H:=fun φ0 w0 φ w y _ h2 h3 h4 => ⟨φ,h2,h3,h _ _ h4⟩
theorem Ww {H G:AH} {v2 v:AV} (h:Le (low (renk H.length []) (H++G) v2) v):Leave H v2 (H++G) v H:=(Zc rfl).trans (fun φ0 w0 φ w y _ h2 h3 h4 => ⟨φ,h2,h3,h _ _ h4⟩)
section
variable {sz n:Nat} {H G:AH} {x:AV} {cs:List AV}
theorem Sl.s (h:Sl sz H x cs n):Ny false x=True∧srcN x=n∧Wz sz H x=True∧srcC sz H x=cs∧x.un=x∧(∀ g,Yj g x=True)∧x.one=true∧x.cells=[x] :=
 ⟨h.lenT,h.n,eq_true h.ok,h.c,h.un,h.may,h.one,h.cells⟩
theorem Zhx (t:Nat):Zr t []=True:=rfl
theorem Zct (t o k:Nat) (v:AV) (r:List (Nat × Nat × AV)):Zr t ((o,k,v)::r)=((v.cells.length=k∧o+k≤t∧v.cells.all AV.one=true)∧Zr t r):=rfl
theorem Zmo (cs:List AV):fillv cs []=cs:=rfl
theorem Zhw (cs:List AV) (o:Nat) (v:AV) (r:List (Nat × AV)):fillv cs ((o,v)::r)=fillv (splice cs o v.cells) r:=rfl
theorem Zsp (sz b:Nat) (H:AH) (s x:AV):Rs sz b H s x=(Wz sz H x∧(srcC sz H x).all AV.one=true∧(srcN s+srcN x)*b≤140737488355328∧Ui sz H x s):=rfl
theorem Zof (sz b:Nat) (H:AH) (s x:AV):Zay sz b H s x=(Wz sz H x∧Ye (srcC sz H x)=true∧(srcC sz H x).all AV.one=true∧(srcN s+srcN x)*b≤140737488355328∧O0 sz s):=rfl
theorem Zsl (sz:Nat) (H:AH) (x:AV):Ui sz H x (.lit (.slice none 0 0))=True:=rfl
theorem Zyf (sz:Nat) (H:AH) (x:AV):Ui sz H x (.view [] 0 true)=True:=by simp [Ui]
theorem Zsk (sz:Nat) (H:AH) (x:AV) (id off n L:Nat):Ui sz H x (.row id off n L)=(id<H.length∧L=(obj H id).cs.length∧(obj H id).rw=true∧(obj H id).sz=sz∧off+n*sz≤L∧(off=0∨off+(n+srcN x)*sz≤L)):=rfl
theorem Zi1 (sz:Nat):O0 sz (.lit (.slice none 0 0))=True:=rfl
theorem Zft (sz:Nat) (cs:List AV) (n:Nat) (f:Bool):O0 sz (.view cs n f)=(f=true∧cs.length=n*sz):=rfl
theorem Se (sz:Nat) (H:AH) (x:AV):appV sz H x (.lit (.slice none 0 0))=.row H.length 0 (srcN x) (srcC sz H x).length:=rfl
theorem Sf (sz:Nat) (H:AH) (x:AV):appH sz H x (.lit (.slice none 0 0))=H++[⟨srcC sz H x,sz,true⟩]:=rfl
theorem Zyi (sz:Nat) (H:AH) (x:AV) (f:Bool):appV sz H x (.view [] 0 f)=.row H.length 0 (srcN x) (srcC sz H x).length:=rfl
theorem Zyk (sz:Nat) (H:AH) (x:AV) (f:Bool):appH sz H x (.view [] 0 f)=H++[⟨srcC sz H x,sz,true⟩]:=rfl
theorem Up (sz:Nat) (H:AH) (x:AV) (id off n L:Nat):appV sz H x (.row id off n L)=.row id off (n+srcN x) (appL sz off n (srcN x) (srcC sz H x).length L):=rfl
theorem Uq (sz:Nat) (H:AH) (x:AV) (id off n L:Nat):appH sz H x (.row id off n L)=setO H id (appC sz (obj H id).cs (srcC sz H x) off n (srcN x) L):=rfl
theorem Zoe (sz:Nat) (H:AH) (x:AV):Zax sz H x (.lit (.slice none 0 0))=.view (srcC sz H x) (srcN x) false:=rfl
theorem Ziu (sz:Nat) (H:AH) (x:AV) (cs:List AV) (n:Nat) (f:Bool):Zax sz H x (.view cs n f)=.view (cs++srcC sz H x) (n+srcN x) false:=rfl
theorem J8 {sz n m L:Nat} {cs src:List AV} (h:n*sz=L):appC sz cs src 0 n m L=cs++src:=by rw [appC,if_pos (by omega)]
theorem J7 {sz n m s L:Nat} (h:n*sz=L):appL sz 0 n m s L=L+s:=by rw [appL,if_pos (by omega)]
theorem Zf3 (sz:Nat) (H:AH) (cs:List AV) (n:Nat) (f:Bool):Wz sz H (.view cs n f)=(cs.length=n*sz):=rfl
theorem Zjn (sz:Nat) (H:AH):Wz sz H (.lit (.slice none 0 0))=True:=rfl
theorem Zjm (sz:Nat) (H:AH) (id off n L:Nat):Wz sz H (.row id off n L)=(id<H.length∧L=(obj H id).cs.length∧off+n*sz≤L):=rfl
theorem Zjq (sz:Nat) (H:AH) (cs:List AV) (n:Nat) (f:Bool):srcC sz H (.view cs n f)=cs:=rfl
theorem Zpi (sz:Nat) (H:AH):srcC sz H (.lit (.slice none 0 0))=[]:=rfl
theorem E9 (sz:Nat) (H:AH) (id off n L:Nat):srcC sz H (.row id off n L)=((obj H id).cs.drop off).take (n*sz):=rfl
attribute [go_sem] Zhx Zct Zmo Zhw Zsp Zof Zsl Zyf Zsk Zi1 Zft Se Sf Zyi Zyk Up Uq Zoe Ziu Zf3 Zjn Zjm Zjq Zpi E9
attribute [go_sem] Bool.bne_false Bool.bne_true Bool.true_bne Bool.false_bne Zfy E5 Bool.true_eq_false Bool.false_eq_true
attribute [go_sem] List.replicate_zero List.replicate_succ List.flatten_nil List.flatten_cons Value.oneCell' List.all_cons List.all_nil Ye AV.pure
end
section
variable {sz n:Nat} {H G:AH} {x:AV} {cs:List AV}
theorem Zbk (lo hi mx:Option AV) (id off L:Nat):X4 sz H lo hi mx none (.row id off n L)=(id<H.length∧L=(obj H id).cs.length∧((obj H id).sz=sz∨(obj H id).sz=0)∧bndR n (Nd (obj H id).sz sz n off L) lo hi mx):=rfl
theorem Zya (m c:Nat) (lo hi mx:Option AV):bndR m c lo hi mx=(bndI lo∧bndI hi∧bndI mx∧0≤bnd 0 lo∧bnd 0 lo≤bnd m hi∧bnd m hi≤bnd c mx∧bnd c mx≤c):=rfl
theorem Bo (lo hi mx:Option AV) (f:Bool):X4 sz H lo hi mx none (.view cs n f)=(Tq n lo hi mx∧cs.length=n*sz):=rfl
theorem Zbm (lo hi mx:Option AV):X4 sz H lo hi mx none (.lit (.slice none 0 0))=Tq 0 lo hi mx:=rfl
theorem Zbl (lo hi mx:Option AV) (m id off:Nat):X4 sz H lo hi mx (some m) (.ptr id off)=(id<H.length∧Tq m lo hi mx):=rfl
theorem Bn (lo hi mx:Option AV) (m:Nat):X4 sz H lo hi mx (some m) (.vptr cs)=(Tq m lo hi mx∧m*sz≤cs.length):=rfl
theorem Zf6 (lo hi:Option AV) (id off L:Nat):Xh sz H lo hi none none (.row id off n L)=.row id (off+lo0 lo*sz) (hi0 n hi - lo0 lo) L:=by
 simp only [Xh,Zas,Zat,Option.isSome_none,Bool.false_and,Bool.false_eq_true,if_false]
theorem Zbi (lo hi:Option AV) (f:Bool):Xh sz H lo hi none none (.view cs n f)=.view (cut cs sz (lo0 lo) (hi0 n hi)) (hi0 n hi - lo0 lo) (f&&decide (bnd n hi=n)):=by
 simp only [Xh,Zas,Zat,Option.isSome_none,Bool.false_or]; rfl
theorem Zf8 (lo hi:Option AV):Xh sz H lo hi none none (.lit (.slice none 0 0))=.lit (.slice none 0 0):=rfl
theorem natz:((0:Nat):Int)=0:=rfl
theorem Zf7 (lo hi mx:Option AV) (m id off:Nat):Xh sz H lo hi mx (some m) (.ptr id off)=.row id (off+lo0 lo*sz) (hi0 m hi - lo0 lo) (obj H id).cs.length:=by
 simp only [Xh,Zas,Zat]
theorem Zbh (lo hi mx:Option AV) (m:Nat):Xh sz H lo hi mx (some m) (.vptr cs)=.view (cut cs sz (lo0 lo) (hi0 m hi)) (hi0 m hi - lo0 lo) false:=by
 simp only [Xh,Zas,Zat]
theorem Zqp (k:IntKind) (i:Int):lo0 (some (.lit (.int k i)))=i.toNat:=rfl
theorem Zq9 (m:Nat) (k:IntKind) (i:Int):hi0 m (some (.lit (.int k i)))=i.toNat:=rfl
theorem Zqq:lo0 none=0:=rfl
theorem Zra (m:Nat):hi0 m none=m:=rfl
theorem Zsd (m:Int) (lo hi mx:Option AV):Tq m lo hi mx=(bndI lo∧bndI hi∧bndI mx∧0≤bnd 0 lo∧bnd 0 lo≤bnd m hi∧bnd m hi≤bnd m mx∧bnd m mx≤m):=rfl
theorem Zny:bndI none=True:=rfl
theorem Zse (k:IntKind) (i:Int):bndI (some (.lit (.int k i)))=True:=rfl
theorem Znx (m:Int):bnd m none=m:=rfl
theorem Zx9 (m:Int) (k:IntKind) (i:Int):bnd m (some (.lit (.int k i)))=i:=rfl
theorem Zwv {α:Type} (x:α):(some x≠none)=True:=by simp
theorem Zrp {α:Type} (x:α):(some x=none)=False:=by simp
attribute [go_sem] Zya Nd Nat.div_one Nat.sub_zero Nat.mul_one Nat.zero_mul Zbk Bo Zbm Zbl Bn Zf6 Zbi Zf8 natz Int.sub_zero Zf7 Zbh Zqp Zq9 Zqq Zra Zsd Zny Zse Znx Zx9 Option.map_some Option.map_none Zwv Zrp or_true true_or Int.le_refl
end
end Go.Proofs.YtcgjlpdkobmpnaaGreat.Eng
namespace Go.Proofs.YtcgjlpdkobmpnaaGreat.Eng
open Go Go.ChangeShapes Go.WideShapes Go.ChangeAt Go.RowKit
set_option linter.unusedVariables false
set_option linter.unusedSimpArgs false
section
variable {P:Program} {d:Nat} {t e:TypeId} {x:List AV}
theorem Z31 {n:Int} (h:(Lit.int .u8 n).wf=true):∃ b:UInt8,n=b.toNat:=by
 simp [Lit.wf,IntKind.min,IntKind.max,IntKind.signed,IntKind.bits] at h
 refine ⟨UInt8.ofNat n.toNat,?_⟩
 simp
 omega
theorem Ep {α:Type} {f:α→AV} {Q:α→Prop} (hu:P.underlying t=some (.slice e)) (hdec:∀ y,y.length=P.cellsOf e∧shape P d e y→∃ a,y=[f a]∧Q a) (h:shape P (d+1) t x) :
  ∃ (l:List α) (full:Bool),x=[.view (l.map f) l.length full]∧(∀ a ∈ l,Q a)∧l.length*P.bytesOf e≤reachBytes:=by
 obtain ⟨els,full,rfl,h1,h2⟩:=Wb hu h
 have key:∀ els:List (List AV),(∀ y ∈ els,y.length=P.cellsOf e∧shape P d e y)→∃ l:List α,els.flatten=l.map f∧l.length=els.length∧∀ a ∈ l,Q a:=by
  intro els
  induction els with
  | nil => exact fun _ => ⟨[],rfl,rfl,by simp⟩
  | cons y els ih =>
   intro hh
   obtain ⟨l,g1,g2,g3⟩:=ih fun z hz => hh z (by simp [hz])
   obtain ⟨a,rfl,hq⟩:=hdec y (hh y (by simp))
   exact ⟨a::l,by simp [g1],by simp [g2],fun b hb => by
    rcases List.mem_cons.1 hb with rfl | hb
    ·exact hq
    ·exact g3 b hb⟩
 obtain ⟨l,g1,g2,g3⟩:=key els h2
 exact ⟨l,full,by rw [g1,g2],g3,by rw [g2]; exact h1⟩
theorem Zai (hu:P.underlying t=some (.slice e)) (he:P.underlying e=some (.int .u8)) (hb:P.bytesOf e=1) (h:shape P (d+2) t x):∃ (l:List UInt8) (f:Bool),x=[vB l f]∧l.length≤140737488351232:=by
 obtain ⟨l,f,h1,_,h2⟩:=Ep (f:=u8) (Q:=fun _ => True) hu (fun y hy => by
  obtain ⟨n,rfl,w⟩:=Ya he hy.2
  obtain ⟨b,rfl⟩:=Z31 w
  exact ⟨b,rfl,trivial⟩) h
 exact ⟨l,f,h1,by rw [hb,Nat.mul_one] at h2; exact h2⟩
theorem Zaj (hu:P.underlying t=some (.slice e)) {b:TypeId} (he:P.underlying e=some (.slice b)) (hb:P.underlying b=some (.int .u8)) (h1:P.bytesOf b=1) (h2:P.bytesOf e=24) (h:shape P (d+3) t x) :
  ∃ (l:List (List UInt8 × Bool)) (f:Bool),x=[.view (l.map fun y => vB y.1 y.2) l.length f]∧(∀ y ∈ l,y.1.length≤140737488351232)∧l.length≤5864062014634:=by
 obtain ⟨l,f,g1,g2,g3⟩:=Ep (f:=fun y:List UInt8 × Bool => vB y.1 y.2) (Q:=fun y => y.1.length≤140737488351232) hu (fun y hy => by
  obtain ⟨l,f,rfl,hl⟩:=Zai he hb h1 hy.2
  exact ⟨(l,f),rfl,hl⟩) h
 refine ⟨l,f,g1,g2,?_⟩
 rw [h2] at g3
 unfold reachBytes at g3
 omega
end
set_option linter.unusedSimpArgs false
abbrev nilS:AV:=.lit (.slice none 0 0)
abbrev nilE:AV:=.lit .nilIface
def Fr (H H':AH) (S:Nat→Prop):Prop:=H.length≤H'.length∧∀ i,i<H.length→¬ S i→obj H' i=obj H i
theorem Fr.refl (H:AH) (S:Nat→Prop):Fr H H S:=⟨Nat.le_refl _,fun _ _ _ => rfl⟩
theorem Fr.trans {H H1 H2:AH} {S:Nat→Prop} (h:Fr H H1 S) (h':Fr H1 H2 S):Fr H H2 S :=
 ⟨Nat.le_trans h.1 h'.1,fun i hi hs => (h'.2 i (Nat.lt_of_lt_of_le hi h.1) hs).trans (h.2 i hi hs)⟩
theorem Fr.mono {H H1:AH} {S S':Nat→Prop} (h:Fr H H1 S) (hs:∀ i,i<H.length→S i→S' i):Fr H H1 S':=⟨h.1,fun i hi h' => h.2 i hi fun hh => h' (hs i hi hh)⟩
theorem Fr.set (H:AH) {p:Nat} (cs:List AV) {S:Nat→Prop} (hp:S p):Fr H (setO H p cs) S :=
 ⟨by simp [Zu],fun i _ h => I3 _ _ fun e => h (e ▸ hp)⟩
theorem Fr.app (H G:AH) (S:Nat→Prop):Fr H (H++G) S:=⟨by simp,fun i hi _ => Yf _ _ hi⟩
theorem Ze1 {H:AH} {i:Nat} (h:i<H.length):H[i]? = some (obj H i):=by
 simp [obj,List.getD_eq_getElem?_getD,List.getElem?_eq_getElem h]
theorem Fr.split {H H':AH} {S:Nat→Prop} (h:Fr H H' S) (hS:∀ i,¬ S i):∃ G,H'=H++G:=by
 refine ⟨H'.drop H.length,?_⟩
 have e:H'.take H.length=H:=by
  apply List.ext_getElem?
  intro i
  rw [List.getElem?_take]
  split
  ·rename_i hi
   rw [Ze1 (Nat.lt_of_lt_of_le hi h.1),Ze1 hi,h.2 i hi (hS i)]
  ·rename_i hi
   rw [List.getElem?_eq_none (by omega)]
 conv => lhs; rw [← List.take_append_drop H.length H',e]
def rid:AV→Option Nat
 | .row q _ _ _ => some q
 | _ => none
def New (H:AH) (x x':AV):Prop:=∀ q,rid x'=some q→rid x=some q∨H.length≤q
theorem New.refl (H:AH) (x:AV):New H x x:=fun _ h => .inl h
def GR (H:AH) (x:AV) (vs:List AV):Prop :=
 (x=nilS∧vs=[])∨∃ q L cs,x=.row q 0 vs.length L∧q<H.length∧obj H q=⟨cs,1,true⟩∧L=cs.length∧vs.length≤L∧cs.take vs.length=vs
section
variable {H H':AH} {x:AV} {vs:List AV}
theorem GR.nil:GR H nilS []:=.inl ⟨rfl,rfl⟩
theorem GR.frame (h:GR H x vs) {S:Nat→Prop} (hf:Fr H H' S) (hs:∀ q,rid x=some q→¬ S q):GR H' x vs:=by
 rcases h with h | ⟨q,L,cs,rfl,h1,h2,h3⟩
 ·exact .inl h
 ·exact .inr ⟨q,L,cs,rfl,Nat.lt_of_lt_of_le h1 hf.1,(hf.2 q h1 (hs q rfl)).trans h2,h3⟩
theorem GR.sl (h:GR H x vs):Sl 1 H x vs vs.length:=by
 rcases h with ⟨rfl,rfl⟩ | ⟨q,L,cs,rfl,h1,h2,h3,h4,h5⟩
 ·exact .nil
 ·exact .row h1 (by rw [h2,h3]) (by omega) (by rw [h2]; simpa using h5) (.inl (by rw [h2]))
theorem GR.lt (h:GR H x vs) {q:Nat} (hq:rid x=some q):q<H.length:=by
 rcases h with ⟨rfl,rfl⟩ | ⟨q',L,cs,rfl,h1,_⟩
 ·cases hq
 ·cases hq; exact h1
theorem GR.app (h:GR H x vs) {s v:AV} {b:Nat} (h1:Wz 1 H s) (h2:srcC 1 H s=[v]) (h3:srcN s=1) (hv:v.one=true) (hb:(vs.length+1)*b≤140737488355328) :
  Rs 1 b H x s∧GR (appH 1 H s x) (appV 1 H s x) (vs++[v])∧New H x (appV 1 H s x)∧Fr H (appH 1 H s x) (fun i => rid x=some i):=by
 rcases h with ⟨rfl,rfl⟩ | ⟨q,L,cs,rfl,g1,g2,g3,g4,g5⟩
 ·refine ⟨⟨h1,by simp [h2,hv],by rw [h3]; simpa [srcN] using hb,trivial⟩,?_,?_,?_⟩
  ·rw [Se,Sf,h2,h3]
   exact .inr ⟨H.length,1,[v],rfl,by simp,by rw [Ym]; rfl,rfl,Nat.le_refl _,rfl⟩
  ·intro q hq; rw [Se] at hq; cases hq; exact .inr (Nat.le_refl _)
  ·rw [Sf]; exact Fr.app _ _ _
 ·refine ⟨⟨h1,by simp [h2,hv],by rw [h3]; exact hb,g1,by rw [g2,g3],by rw [g2],by rw [g2],by omega,.inl rfl⟩,?_,?_,?_⟩
  ·rw [Up,Uq,h2,h3,g2]
   refine .inr ⟨q,_,_,by rw [List.length_append]; rfl,by rw [Zu]; exact g1,by rw [Vm _ _ g1,g2],?_,?_,?_⟩
   ·simp only [appL,appC,Nat.zero_add,Nat.mul_one]
    split
    ·simp [g3]
    ·simp only [List.length_append,List.length_take,List.length_drop,List.length_cons,List.length_nil]; omega
   ·simp only [appL,Nat.zero_add,Nat.mul_one,List.length_append,List.length_cons,List.length_nil]
    split <;> omega
   ·simp only [appC,Nat.zero_add,Nat.mul_one,List.length_append,List.length_cons,List.length_nil]
    split
    ·rename_i hh
     have:cs=vs:=by rw [← g5,List.take_of_length_le (by omega)]
     subst this
     rw [List.take_of_length_le (by simp)]
    ·rw [g5,List.take_append_of_le_length (by simp),List.take_of_length_le (by simp)]
  ·intro q' hq; rw [Up] at hq; exact .inl hq
  ·rw [Uq]; exact Fr.set _ _ rfl
end
theorem Y9 (l:List UInt8):(bs l).length=l.length:=List.length_map _
theorem Zju {H:AH} {p:Nat} {cs:List AV} {sz:Nat} {w:Bool} (h:obj H p=⟨cs,sz,w⟩) (hp:p<H.length):setO H p cs=H:=by
 have e:(⟨cs,(obj H p).sz,(obj H p).rw⟩:AObj)=H[p]:=by
  have:obj H p=H[p]:=by simp [obj,List.getD_eq_getElem?_getD,List.getElem?_eq_getElem hp]
  rw [← this,h]
 rw [setO,e,List.set_getElem_self]
/-! ### Numbers' bytes,the highest first -/
def be:List UInt8→Nat:=List.foldl (fun n b => n*256+b.toNat) 0
def beN (k n:Nat):List UInt8:=(List.range k).map fun i => UInt8.ofNat (n / 256^(k - 1 - i))
theorem Zfp (l:List UInt8) (a:Nat):l.foldl (fun n b => n*256+b.toNat) a=a*256^l.length+be l:=by
 induction l generalizing a with
 | nil => simp [be]
 | cons b r ih =>
  show r.foldl _ (a*256+b.toNat)=_
  have e:be (b::r)=r.foldl (fun n b => n*256+b.toNat) (0*256+b.toNat):=rfl
  rw [ih,e,ih,List.length_cons,Nat.pow_succ,Nat.add_mul,Nat.zero_mul,Nat.zero_add,Nat.mul_assoc,Nat.mul_comm 256,Nat.add_assoc]
theorem Zn3 (a b:List UInt8):be (a++b)=be a*256^b.length+be b:=by
 rw [be,List.foldl_append,Zfp]; rfl
theorem Zn2 (a:List UInt8) (b:UInt8):be (a++[b])=be a*256+b.toNat:=by
 rw [Zn3]; simp [be]
theorem Zye (b:UInt8) (r:List UInt8):be (b::r)=b.toNat*256^r.length+be r:=by
 have e:be (b::r)=r.foldl (fun n b => n*256+b.toNat) (0*256+b.toNat):=rfl
 rw [e,Zfp,Nat.zero_mul,Nat.zero_add]
theorem Zio:∀ l:List UInt8,be l<256^l.length
 | [] => by simp [be]
 | b::r => by
  rw [Zye,List.length_cons,Nat.pow_succ]
  have h1:=Zio r
  have h2:b.toNat<256:=b.toNat_lt
  generalize 256^r.length=m at *
  have:b.toNat*m≤255*m:=Nat.mul_le_mul_right _ (by omega)
  omega
theorem Vf (k n:Nat):(beN k n).length=k:=by simp [beN]
theorem Zsj (k n:Nat):beN (k+1) n=beN k (n / 256)++[UInt8.ofNat n]:=by
 rw [beN,List.range_succ,List.map_append,List.map_singleton]
 congr 1
 ·apply List.map_congr_left
  intro i hi
  rw [List.mem_range] at hi
  rw [show k+1 - 1 - i=(k - 1 - i)+1 by omega,Nat.pow_succ,Nat.mul_comm,Nat.div_div_eq_div_mul]
 ·simp
theorem Z3b (l:List UInt8):beN l.length (be l)=l:=by
 have key:∀ (k:Nat) (l:List UInt8),l.length=k→beN k (be l)=l:=by
  intro k
  induction k with
  | zero => intro l h; rw [List.eq_nil_of_length_eq_zero h]; rfl
  | succ k ih =>
   intro l h
   obtain ⟨a,b,rfl⟩:∃ a b,l=a++[b]:=⟨l.dropLast,l.getLast (by intro e; rw [e] at h; cases h),(List.dropLast_concat_getLast _).symm⟩
   have hb:b.toNat<256:=b.toNat_lt
   rw [Zsj,Zn2,show (be a*256+b.toNat) / 256=be a by omega,ih a (by simpa using h)]
   congr 1
   rw [show UInt8.ofNat (be a*256+b.toNat)=b from ?_]
   apply UInt8.toNat_inj.1
   simp
 exact key _ l rfl
theorem Zwj (a b:Nat) (h:b<256):a*256 ||| b=a*256+b:=by
 have:=Nat.shiftLeft_add_eq_or_of_lt (i:=8) (b:=b) (by omega) a
 rw [Nat.shiftLeft_eq] at this
 exact this.symm
/-! ### A slice built by append,from nil -/
def rA (H:AH) (vs:List AV) (n:Nat):AV:=if n=0 then nilS else .row H.length 0 n vs.length
def hA (sz:Nat) (H:AH) (vs:List AV) (n:Nat):AH:=if n=0 then H else H++[⟨vs,sz,true⟩]
section
variable {sz n:Nat} {H:AH} {vs:List AV}
theorem Zaq (hl:vs.length=n*sz) {s:AV} {cs:List AV} {b:Nat} (h1:Wz sz (hA sz H vs n) s) (h2:srcC sz (hA sz H vs n) s=cs) (h3:srcN s=1) (hc:cs.all AV.one=true) (hb:(n+1)*b≤140737488355328) :
  Rs sz b (hA sz H vs n) (rA H vs n) s∧appV sz (hA sz H vs n) s (rA H vs n)=rA H (vs++cs) (n+1)∧appH sz (hA sz H vs n) s (rA H vs n)=hA sz H (vs++cs) (n+1):=by
 by_cases h0:n=0
 ·subst h0
  obtain rfl:vs=[]:=List.eq_nil_of_length_eq_zero (by omega)
  simp only [rA,hA,if_true] at *
  refine ⟨⟨h1,by rw [h2]; exact hc,by rw [h3]; simpa [srcN] using hb,trivial⟩,?_,?_⟩
  ·rw [Se,h2,h3,if_neg (by omega)]; rfl
  ·rw [Sf,h2,if_neg (by omega)]; rfl
 ·simp only [rA,hA,if_neg h0,if_neg (show ¬ n+1=0 by omega)] at *
  refine ⟨⟨h1,by rw [h2]; exact hc,by rw [h3]; exact hb,by simp,by rw [Ym]; rfl,by rw [Ym]; rfl,by rw [Ym]; rfl,by show 0+n*sz≤vs.length; omega,.inl rfl⟩,?_,?_⟩
  ·rw [Up,h2,h3,J7 (by omega),List.length_append]
  ·rw [Uq,h2,h3,Ym,O9]
   show H++[⟨appC sz vs cs 0 n 1 vs.length,sz,true⟩]=_
   rw [J8 (by omega)]
theorem _root_.Go.Proofs.YtcgjlpdkobmpnaaGreat.Eng.Sl.hA {sz' n':Nat} {x:AV} {cs:List AV} (h:Sl sz' H x cs n'):Sl sz' (Eng.hA sz H vs n) x cs n':=by
 unfold Eng.hA; split
 ·exact h
 ·exact h.app
theorem Zr9 (hl:vs.length=n*sz):Sl sz (hA sz H vs n) (rA H vs n) vs n:=by
 unfold rA hA
 split
 ·rename_i h0
  subst h0
  obtain rfl:vs=[]:=List.eq_nil_of_length_eq_zero (by omega)
  exact .nil
 ·have e:obj (H++[⟨vs,sz,true⟩]) H.length=⟨vs,sz,true⟩:=by rw [Ym]; rfl
  exact .row (by simp) (by rw [e]) (by show 0+n*sz≤vs.length; omega) (by rw [e,List.drop_zero,List.take_of_length_le (by show vs.length≤_; omega)]) (.inl (by rw [e]))
end
end Go.Proofs.YtcgjlpdkobmpnaaGreat.Eng

