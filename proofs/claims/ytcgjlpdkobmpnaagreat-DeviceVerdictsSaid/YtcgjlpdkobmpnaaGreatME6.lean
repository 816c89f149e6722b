/- Rules by which the abstract machine's code is worked through. -/
import Derived.Test.YtcgjlpdkobmpnaaGreatME5
import Derived.SizedLaws
namespace Go.Proofs.YtcgjlpdkobmpnaaGreat.Eng
open Go
set_option linter.unusedVariables false
set_option linter.unusedSimpArgs false
set_option maxHeartbeats 40000
def er (l:List (Nat × AV)) (x:IArg):AV:=(ev (look l) x).un
def em (l:List (Nat × AV)) (x:IArg):AV:=ev (look l) x
theorem U5 {pf:Pf} {C:Yq} {o:IOp} {K K':Env→AH→Prop} {E:Env} {H:AH} (h:iopwp pf C o K E H) (hk:∀ E H,K E H→K' E H):iopwp pf C o K' E H:=by
 unfold iopwp at *
 split at h <;> first
  | (exact ⟨h.1,hk _ _ h.2⟩)
  | (obtain ⟨v,H',h1,h2⟩:=h; exact ⟨v,H',h1,hk _ _ h2⟩)
  | (unfold Yr at *
     split at h <;> first
      | exact h.elim
      | exact ⟨h.1,hk _ _ h.2⟩
      | exact ⟨h.1,h.2.1,hk _ _ h.2.2⟩
      | (obtain ⟨h0,v,h1,h2⟩:=h; exact ⟨h0,v,h1,hk _ _ h2⟩))
theorem Zqb {pf:Pf} {C:Yq} {base:Nat} {x:RA} {K K':Env→AH→Prop} {E:Env} {H:AH} (h:rwp pf C base x K E H) (hk:∀ E H,K E H→K' E H):rwp pf C base x K' E H:=by
 unfold rwp at *
 cases hx:x.k with
 | l => rw [hx] at h; exact U5 h hk
 | m => rw [hx] at h; exact U5 h fun E H hh => ⟨hh.1,hk _ _ hh.2⟩
 | w => rw [hx] at h; exact ⟨h.1,h.2.1,U5 h.2.2 hk⟩
 | e => rw [hx] at h; exact U5 (K:=fun E' _ => K E' H) h fun E' _ h => hk _ _ h
 | f n => rw [hx] at h; exact U5 (K:=fun E' _ => K E' H) h fun E' _ h => hk _ _ h
 | a r => rw [hx] at h; exact ⟨h.1,h.2.1,h.2.2.1,hk _ _ h.2.2.2⟩
theorem Za3 {pf:Pf} {C:Yq} {base:Nat}:∀ {l:List RA} {K K':Env→AH→Prop} {E:Env} {H:AH},absR pf C base l K E H→(∀ E H,K E H→K' E H)→absR pf C base l K' E H
 | [],K,K',E,H,h,hk => hk _ _ h
 | x::r,K,K',E,H,h,hk => ⟨h.1,Zqb h.2 fun E H h => Za3 h hk⟩
theorem Zrh {pf:Pf} {C:Yq} {c:IC}:∀ {Q Q':Ex→Env→AH→Prop} {E:Env} {H:AH},iwp pf C c Q E H→(∀ e E H,Q e E H→Q' e E H)→iwp pf C c Q' E H:=by
 induction c with
 | done => exact fun h hq => hq _ _ _ h
 | op o k ih => exact fun h hq => U5 h fun E H h => ih h hq
 | keep s k ih => exact fun h hq => ih h hq
 | reg n l k ih => exact fun h hq => Za3 h fun E H h => ih h hq
 | ite c a b k iha ihb ihk =>
  intro Q Q' E H h hq
  simp only [iwp] at *
  split at h
  ·refine ⟨fun ht => iha (h.1 ht) ?_,fun ht => ihb (h.2 ht) ?_⟩ <;>
   ·intro e E H h
    cases e <;> first | exact ihk h hq | exact hq _ _ _ h
  ·refine ⟨iha h.1 ?_,ihb h.2 ?_⟩ <;>
   ·intro e E H h
    cases e <;> first | exact ihk h hq | exact hq _ _ _ h
  ·exact h
 | block id b k ihb ihk =>
  intro Q Q' E H h hq
  simp only [iwp] at *
  refine ihb h ?_
  intro e E H h
  cases e with
  | normal => exact ihk h hq
  | ret => exact hq _ _ _ h
  | exit i => dsimp only at *; split at h
              ·rename_i hi; rw [if_pos hi]; exact ihk h hq
              ·rename_i hi; rw [if_neg hi]; exact hq _ _ _ h
 | loop b ih =>
  intro Q Q' E H h hq
  simp only [iwp] at *
  obtain ⟨I,n,h0,hr⟩:=h
  refine ⟨I,n,h0,fun n E H hi => ih (hr n E H hi) ?_⟩
  intro e E H h
  cases e <;> first | exact h | exact hq _ _ _ h
 | exit id => exact fun h hq => hq _ _ _ h
 | ret => exact fun h hq => hq _ _ _ h
section
variable {pf:Pf} {C:Yq} {Q:Ex→Env→AH→Prop} {l:List (Nat × AV)} {H:AH} {k:IC} {d j:Nat} {w:Bool}
theorem Zdu (v:AV):upd (look l) (some d) v=look ((d,v)::l):=rfl
theorem Zq7 (n:Nat):look [] n=.junk:=rfl
theorem Zl5 (k:Nat) (v:AV) (r:List (Nat × AV)) (n:Nat):look ((k,v)::r) n=if n=k then v else look r n:=rfl
theorem er_t (n:Nat):er l (.t n)=(look l n).un:=rfl
theorem er_c (v:Value):er l (.c v)=.lit v:=rfl
theorem er_f (f:FuncId):er l (.f f)=.fn (.func f) [] []:=rfl
theorem em_t (n:Nat):em l (.t n)=look l n:=rfl
theorem em_c (v:Value):em l (.c v)=.lit v:=rfl
theorem em_f (f:FuncId):em l (.f f)=.fn (.func f) [] []:=rfl
theorem Zz8 (v:Value):(AV.lit v).un=.lit v:=rfl
theorem Zz6 (a b:Nat):(AV.ptr a b).un=.ptr a b:=rfl
theorem Zvj (a b c:Nat):(AV.rptr a b c).un=.rptr a b c:=rfl
theorem Zvh (a:List AV):(AV.vptr a).un=.vptr a:=rfl
theorem Zz5 (a b c e:Nat):(AV.row a b c e).un=.row a b c e:=rfl
theorem Zvi (a:List AV) (b:Nat) (c:Bool):(AV.view a b c).un=.view a b c:=rfl
theorem Z4g (f:Fn) (a b:List AV):(AV.fn f a b).un=.fn f a b:=rfl
theorem Z0a (a:List AV):(AV.agg a).un=.agg a:=rfl
theorem Zz4 (a:List AV):(AV.tup a).un=.tup a:=rfl
theorem Zz7 (g:Bool) (v:AV):(AV.may g v).un=v:=rfl
theorem Z1w (g:Bool) (v:Value):Yp g (.lit v)=True:=rfl
theorem Z1u (g:Bool) (a b:Nat):Yp g (.ptr a b)=True:=rfl
theorem Zw4 (g:Bool) (a b c:Nat):Yp g (.rptr a b c)=True:=rfl
theorem Zw2 (g:Bool) (a:List AV):Yp g (.vptr a)=True:=rfl
theorem Z1t (g:Bool) (a b c e:Nat):Yp g (.row a b c e)=True:=rfl
theorem Zw3 (g:Bool) (a:List AV) (b:Nat) (c:Bool):Yp g (.view a b c)=True:=rfl
theorem Z4z (g:Bool) (f:Fn) (a b:List AV):Yp g (.fn f a b)=True:=rfl
theorem Z1x (g:Bool) (a:List AV):Yp g (.agg a)=True:=rfl
theorem Z1s (g:Bool) (a:List AV):Yp g (.tup a)=True:=rfl
theorem Zw5 (g:Bool):Yp g .junk=True:=rfl
theorem Z1v (g g':Bool) (v:AV):Yp g (.may g' v)=(g=true→g'=true):=rfl
theorem w_mv (x:IArg):iwp pf C (q d (.mv x) k) Q (look l) H=(iwp pf C k Q (look ((d,(em l x))::l)) H):=by show (True∧_)=_; rw [true_and]; rfl
theorem g_mv (x:IArg):iwp pf C (qg d j w (.mv x) k) Q (look l) H=Yr w (fun g => (Yp g (em l x))∧iwp pf C k Q (look ((d,.may g ((er l x)))::l)) H) (look l j):=by
 simp only [qg,iwp,iopwp,Ins.args,List.forall_mem_cons,List.not_mem_nil,false_implies,implies_true,and_true,iside,ival,imp_true_iff,true_and]; rfl
theorem Zph (x:IArg):iwp pf C (q d (.nilchk x) k) Q (look l) H=((Zb8 (em l x))∧iwp pf C k Q (look ((d,(em l x))::l)) H):=rfl
theorem Zrt (x:IArg):iwp pf C (qg d j w (.nilchk x) k) Q (look l) H=Yr w (fun g => (Yp g (em l x))∧(g=true→Zb8 (er l x))∧iwp pf C k Q (look ((d,.may g ((er l x)))::l)) H) (look l j):=by
 simp only [qg,iwp,iopwp,Ins.args,List.forall_mem_cons,List.not_mem_nil,false_implies,implies_true,and_true,iside,ival,imp_true_iff,true_and]; rfl
theorem Zzj (x:IArg):iwp pf C (q d (.same x) k) Q (look l) H=((Mb (em l x))∧iwp pf C k Q (look ((d,(em l x))::l)) H):=rfl
theorem Z2h (x:IArg):iwp pf C (qg d j w (.same x) k) Q (look l) H=Yr w (fun g => (Yp g (em l x))∧(g=true→Mb (er l x))∧iwp pf C k Q (look ((d,.may g ((er l x)))::l)) H) (look l j):=by
 simp only [qg,iwp,iopwp,Ins.args,List.forall_mem_cons,List.not_mem_nil,false_implies,implies_true,and_true,iside,ival,imp_true_iff,true_and]; rfl
theorem Z4e (op:BinOp) (x y:IArg):iwp pf C (q d (.bin op x y) k) Q (look l) H=((Zdf op (em l x) (em l y))∧iwp pf C k Q (look ((d,binv op (em l x) (em l y))::l)) H):=rfl
theorem Z5e (op:BinOp) (x y:IArg):iwp pf C (qg d j w (.bin op x y) k) Q (look l) H=Yr w (fun g => (Yp g (em l x)∧Yp g (em l y))∧(g=true→Zdf op (er l x) (er l y))∧iwp pf C k Q (look ((d,.may g (binv op (er l x) (er l y)))::l)) H) (look l j):=by
 simp only [qg,iwp,iopwp,Ins.args,List.forall_mem_cons,List.not_mem_nil,false_implies,implies_true,and_true,iside,ival,imp_true_iff,true_and]; rfl
theorem Zu7 (ks:List (Option IntKind)) (neq:Bool) (x y:IArg):iwp pf C (q d (.eqagg ks neq x y) k) Q (look l) H=((Us ks (em l x) (em l y))∧iwp pf C k Q (look ((d,AV.lit (.bool (C6 (em l x) (em l y) != neq)))::l)) H):=rfl
theorem Zxy (ks:List (Option IntKind)) (neq:Bool) (x y:IArg):iwp pf C (qg d j w (.eqagg ks neq x y) k) Q (look l) H=Yr w (fun g => (Yp g (em l x)∧Yp g (em l y))∧(g=true→Us ks (er l x) (er l y))∧iwp pf C k Q (look ((d,.may g (AV.lit (.bool (C6 (er l x) (er l y) != neq))))::l)) H) (look l j):=by
 simp only [qg,iwp,iopwp,Ins.args,List.forall_mem_cons,List.not_mem_nil,false_implies,implies_true,and_true,iside,ival,imp_true_iff,true_and]; rfl
theorem w_eq (neq:Bool) (tk:TK) (x y:IArg):iwp pf C (q d (.eq neq tk x y) k) Q (look l) H=((eqOk pf.c tk (isC x || isC y) (em l x) (em l y))∧iwp pf C k Q (look ((d,AV.lit (.bool (eqv tk (em l x) (em l y) != neq)))::l)) H):=rfl
theorem g_eq (neq:Bool) (tk:TK) (x y:IArg):iwp pf C (qg d j w (.eq neq tk x y) k) Q (look l) H=Yr w (fun g => (Yp g (em l x)∧Yp g (em l y))∧(g=true→eqOk pf.c tk (isC x || isC y) (er l x) (er l y))∧iwp pf C k Q (look ((d,.may g (AV.lit (.bool (eqv tk (er l x) (er l y) != neq))))::l)) H) (look l j):=by
 simp only [qg,iwp,iopwp,Ins.args,List.forall_mem_cons,List.not_mem_nil,false_implies,implies_true,and_true,iside,ival,imp_true_iff,true_and]; rfl
theorem w_un (op:UnOp) (x:IArg):iwp pf C (q d (.un op x) k) Q (look l) H=((unOk op (em l x))∧iwp pf C k Q (look ((d,unv op (em l x))::l)) H):=rfl
theorem g_un (op:UnOp) (x:IArg):iwp pf C (qg d j w (.un op x) k) Q (look l) H=Yr w (fun g => (Yp g (em l x))∧(g=true→unOk op (er l x))∧iwp pf C k Q (look ((d,.may g (unv op (er l x)))::l)) H) (look l j):=by
 simp only [qg,iwp,iopwp,Ins.args,List.forall_mem_cons,List.not_mem_nil,false_implies,implies_true,and_true,iside,ival,imp_true_iff,true_and]; rfl
theorem Zzz (kd:IntKind) (x:IArg):iwp pf C (q d (.conv kd x) k) Q (look l) H=((isI (em l x))∧iwp pf C k Q (look ((d,AV.lit (.int kd (kd.wrap (asI (em l x)))))::l)) H):=rfl
theorem Z2r (kd:IntKind) (x:IArg):iwp pf C (qg d j w (.conv kd x) k) Q (look l) H=Yr w (fun g => (Yp g (em l x))∧(g=true→isI (er l x))∧iwp pf C k Q (look ((d,.may g (AV.lit (.int kd (kd.wrap (asI (er l x))))))::l)) H) (look l j):=by
 simp only [qg,iwp,iopwp,Ins.args,List.forall_mem_cons,List.not_mem_nil,false_implies,implies_true,and_true,iside,ival,imp_true_iff,true_and]; rfl
theorem Z34 (own:Bool) (x:IArg):iwp pf C (q d (.s2b own x) k) Q (look l) H=((Zko (em l x))∧iwp pf C k Q (look ((d,s2bV own H (em l x))::l)) (s2bH own H (em l x))):=rfl
theorem Z48 (own:Bool) (x:IArg):iwp pf C (qg d j w (.s2b own x) k) Q (look l) H=Yr w (fun g => (Yp g (em l x))∧(g=true→Zko (er l x))∧iwp pf C k Q (look ((d,.may g (s2bV own H (er l x)))::l)) H) (look l j):=by
 simp only [qg,iwp,iopwp,Ins.args,List.forall_mem_cons,List.not_mem_nil,false_implies,implies_true,and_true,iside,ival,imp_true_iff,true_and]; rfl
theorem Z4f (x:IArg):iwp pf C (q d (.b2s x) k) Q (look l) H=((Zi2 H (em l x))∧iwp pf C k Q (look ((d,b2sV H (em l x))::l)) H):=rfl
theorem Z5f (x:IArg):iwp pf C (qg d j w (.b2s x) k) Q (look l) H=Yr w (fun g => (Yp g (em l x))∧(g=true→Zi2 H (er l x))∧iwp pf C k Q (look ((d,.may g (b2sV H (er l x)))::l)) H) (look l j):=by
 simp only [qg,iwp,iopwp,Ins.args,List.forall_mem_cons,List.not_mem_nil,false_implies,implies_true,and_true,iside,ival,imp_true_iff,true_and]; rfl
theorem Zvc (z:List Value):iwp pf C (q d (.alloc z) k) Q (look l) H=(iwp pf C k Q (look ((d,AV.ptr H.length 0)::l)) (H++[⟨zlit z,0,true⟩])):=by show (True∧_)=_; rw [true_and]; rfl
theorem Z4d (x:IArg):iwp pf C (q d (.box x) k) Q (look l) H=(((em l x).cells.isEmpty=false∧(em l x).cells.all AV.one=true)∧iwp pf C k Q (look ((d,AV.ptr H.length 0)::l)) (H++[⟨(em l x).cells,0,true⟩])):=rfl
theorem Zva (z:List Value) (ps:List (Nat × Nat × IArg)):iwp pf C (q d (.build z ps) k) Q (look l) H=((Zq z.length (ps.map fun p => (p.1,p.2.1,(em l p.2.2))))∧iwp pf C k Q (look ((d,AV.agg (fillv (zlit z) (ps.map fun p => (p.1,(em l p.2.2)))))::l)) H):=rfl
theorem Zx0 (z:List Value) (ps:List (Nat × Nat × IArg)):iwp pf C (qg d j w (.build z ps) k) Q (look l) H=Yr w (fun g => (∀ y ∈ (Ins.build z ps).args,Yp g (em l y))∧(g=true→Zq z.length (ps.map fun p => (p.1,p.2.1,(er l p.2.2))))∧iwp pf C k Q (look ((d,.may g (AV.agg (fillv (zlit z) (ps.map fun p => (p.1,(er l p.2.2))))))::l)) H) (look l j):=by
 simp only [qg,iwp,iopwp,Ins.args,List.forall_mem_cons,List.not_mem_nil,false_implies,implies_true,and_true,iside,ival,imp_true_iff,true_and]; rfl
theorem Zpi (own:Bool) (sz len:Nat) (z:List Value) (ps:List (Nat × Nat × IArg)):iwp pf C (q d (.bslice own sz len z ps) k) Q (look l) H=((Zq (len*sz) (ps.map fun p => (p.1,p.2.1,(em l p.2.2)))∧(own=false→Yg (fillv (repl len (zlit z)) (ps.map fun p => (p.1,(em l p.2.2))))=true))∧iwp pf C k Q (look ((d,(if own then AV.row H.length 0 len (len*sz) else .view (fillv (repl len (zlit z)) (ps.map fun p => (p.1,(em l p.2.2)))) len true))::l)) (if own then H++[⟨fillv (repl len (zlit z)) (ps.map fun p => (p.1,(em l p.2.2))),sz,true⟩] else H)):=rfl
theorem Zru (own:Bool) (sz len:Nat) (z:List Value) (ps:List (Nat × Nat × IArg)):iwp pf C (qg d j w (.bslice own sz len z ps) k) Q (look l) H=Yr w (fun g => (∀ y ∈ (Ins.bslice own sz len z ps).args,Yp g (em l y))∧(g=true→Zq (len*sz) (ps.map fun p => (p.1,p.2.1,(er l p.2.2)))∧(own=false→Yg (fillv (repl len (zlit z)) (ps.map fun p => (p.1,(er l p.2.2))))=true))∧iwp pf C k Q (look ((d,.may g ((if own then AV.row H.length 0 len (len*sz) else .view (fillv (repl len (zlit z)) (ps.map fun p => (p.1,(er l p.2.2)))) len true)))::l)) H) (look l j):=by
 simp only [qg,iwp,iopwp,Ins.args,List.forall_mem_cons,List.not_mem_nil,false_implies,implies_true,and_true,iside,ival,imp_true_iff,true_and]; rfl
theorem Zzr (agg:Bool) (n:Nat) (x:IArg):iwp pf C (q d (.load agg n x) k) Q (look l) H=((Ys n H (em l x))∧iwp pf C k Q (look ((d,Y8 agg n H (em l x))::l)) H):=rfl
theorem Z2o (agg:Bool) (n:Nat) (x:IArg):iwp pf C (qg d j w (.load agg n x) k) Q (look l) H=Yr w (fun g => (Yp g (em l x))∧(g=true→Ys n H (er l x))∧iwp pf C k Q (look ((d,.may g (Y8 agg n H (er l x)))::l)) H) (look l j):=by
 simp only [qg,iwp,iopwp,Ins.args,List.forall_mem_cons,List.not_mem_nil,false_implies,implies_true,and_true,iside,ival,imp_true_iff,true_and]; rfl
theorem Zxg (n:Nat) (a x:IArg):iwp pf C (qn (.store n a x) k) Q (look l) H=((Dj n H (em l a) (em l x))∧iwp pf C k Q (look l) (F9 H (em l x) (em l a))):=rfl
theorem Z4a (o:Nat) (x:IArg):iwp pf C (q d (.fld o x) k) Q (look l) H=((Fs (em l x))∧iwp pf C k Q (look ((d,fldV o (em l x))::l)) H):=rfl
theorem Z5b (o:Nat) (x:IArg):iwp pf C (qg d j w (.fld o x) k) Q (look l) H=Yr w (fun g => (Yp g (em l x))∧(g=true→Fs (er l x))∧iwp pf C k Q (look ((d,.may g (fldV o (er l x)))::l)) H) (look l j):=by
 simp only [qg,iwp,iopwp,Ins.args,List.forall_mem_cons,List.not_mem_nil,false_implies,implies_true,and_true,iside,ival,imp_true_iff,true_and]; rfl
theorem Zzm (agg:Bool) (n o:Nat) (x:IArg):iwp pf C (q d (.part agg n o x) k) Q (look l) H=((B1 n o (em l x))∧iwp pf C k Q (look ((d,Zla agg n o (em l x))::l)) H):=rfl
theorem Z2k (agg:Bool) (n o:Nat) (x:IArg):iwp pf C (qg d j w (.part agg n o x) k) Q (look l) H=Yr w (fun g => (Yp g (em l x))∧(g=true→B1 n o (er l x))∧iwp pf C k Q (look ((d,.may g (Zla agg n o (er l x)))::l)) H) (look l j):=by
 simp only [qg,iwp,iopwp,Ins.args,List.forall_mem_cons,List.not_mem_nil,false_implies,implies_true,and_true,iside,ival,imp_true_iff,true_and]; rfl
theorem Zzu (sz:Nat) (arr:Option Nat) (x i:IArg):iwp pf C (q d (.idxa sz arr x i) k) Q (look l) H=((Tj sz (em l i) arr (em l x))∧iwp pf C k Q (look ((d,Xn sz (em l i) (em l x))::l)) H):=rfl
theorem Z2q (sz:Nat) (arr:Option Nat) (x i:IArg):iwp pf C (qg d j w (.idxa sz arr x i) k) Q (look l) H=Yr w (fun g => (Yp g (em l x)∧Yp g (em l i))∧(g=true→Tj sz (er l i) arr (er l x))∧iwp pf C k Q (look ((d,.may g (Xn sz (er l i) (er l x)))::l)) H) (look l j):=by
 simp only [qg,iwp,iopwp,Ins.args,List.forall_mem_cons,List.not_mem_nil,false_implies,implies_true,and_true,iside,ival,imp_true_iff,true_and]; rfl
theorem Z39 (agg:Bool) (n len:Nat) (x i:IArg):iwp pf C (q d (.idx agg n len x i) k) Q (look l) H=((Zmt n len (em l i) (em l x))∧iwp pf C k Q (look ((d,idxV agg n (em l i) (em l x))::l)) H):=rfl
theorem Z5a (agg:Bool) (n len:Nat) (x i:IArg):iwp pf C (qg d j w (.idx agg n len x i) k) Q (look l) H=Yr w (fun g => (Yp g (em l x)∧Yp g (em l i))∧(g=true→Zmt n len (er l i) (er l x))∧iwp pf C k Q (look ((d,.may g (idxV agg n (er l i) (er l x)))::l)) H) (look l j):=by
 simp only [qg,iwp,iopwp,Ins.args,List.forall_mem_cons,List.not_mem_nil,false_implies,implies_true,and_true,iside,ival,imp_true_iff,true_and]; rfl
theorem Zzi (x i:IArg):iwp pf C (q d (.sidx x i) k) Q (look l) H=((Bo (em l i) (em l x))∧iwp pf C k Q (look ((d,Zkf (em l i) (em l x))::l)) H):=rfl
theorem Z2g (x i:IArg):iwp pf C (qg d j w (.sidx x i) k) Q (look l) H=Yr w (fun g => (Yp g (em l x)∧Yp g (em l i))∧(g=true→Bo (er l i) (er l x))∧iwp pf C k Q (look ((d,.may g (Zkf (er l i) (er l x)))::l)) H) (look l j):=by
 simp only [qg,iwp,iopwp,Ins.args,List.forall_mem_cons,List.not_mem_nil,false_implies,implies_true,and_true,iside,ival,imp_true_iff,true_and]; rfl
theorem Z4b (x:IArg) (i:Nat):iwp pf C (q d (.ext x i) k) Q (look l) H=((Znh i (em l x))∧iwp pf C k Q (look ((d,extV i (em l x))::l)) H):=rfl
theorem Z5c (x:IArg) (i:Nat):iwp pf C (qg d j w (.ext x i) k) Q (look l) H=Yr w (fun g => (Yp g (em l x))∧(g=true→Znh i (er l x))∧iwp pf C k Q (look ((d,.may g (extV i (er l x)))::l)) H) (look l j):=by
 simp only [qg,iwp,iopwp,Ins.args,List.forall_mem_cons,List.not_mem_nil,false_implies,implies_true,and_true,iside,ival,imp_true_iff,true_and]; rfl
theorem Zzo (t:TypeId) (x:IArg):iwp pf C (q d (.mkif t x) k) Q (look l) H=((Aa (em l x))∧iwp pf C k Q (look ((d,Zl0 t (em l x))::l)) H):=rfl
theorem Z2l (t:TypeId) (x:IArg):iwp pf C (qg d j w (.mkif t x) k) Q (look l) H=Yr w (fun g => (Yp g (em l x))∧(g=true→Aa (er l x))∧iwp pf C k Q (look ((d,.may g (Zl0 t (er l x)))::l)) H) (look l j):=by
 simp only [qg,iwp,iopwp,Ins.args,List.forall_mem_cons,List.not_mem_nil,false_implies,implies_true,and_true,iside,ival,imp_true_iff,true_and]; rfl
theorem Zzp (f:Fn) (a b:List IArg):iwp pf C (q d (.mkfn f a b) k) Q (look l) H=(iwp pf C k Q (look ((d,AV.fn f (a.map (em l)) (b.map (em l)))::l)) H):=by show (True∧_)=_; rw [true_and]; rfl
theorem Zzn (sz bytes:Nat) (z:List Value) (x c:IArg):iwp pf C (q d (.mksl sz bytes z x c) k) Q (look l) H=((Hs bytes (em l x) (em l c))∧iwp pf C k Q (look ((d,AV.row H.length 0 (asI (em l x)).toNat ((asI (em l x)).toNat*sz))::l)) (H++[⟨repl (asI (em l x)).toNat (zlit z),sz,true⟩])):=rfl
theorem Zu5 (sz:Nat) (arr:Option Nat) (x:IArg) (lo hi mx:Option IArg):iwp pf C (q d (.slice sz arr x lo hi mx) k) Q (look l) H=(((mx=none∨hi≠none)∧Xx sz H (lo.map (em l)) (hi.map (em l)) (mx.map (em l)) arr (em l x))∧iwp pf C k Q (look ((d,Xl sz H (lo.map (em l)) (hi.map (em l)) (mx.map (em l)) arr (em l x))::l)) H):=rfl
theorem Zxw (sz:Nat) (arr:Option Nat) (x:IArg) (lo hi mx:Option IArg):iwp pf C (qg d j w (.slice sz arr x lo hi mx) k) Q (look l) H=Yr w (fun g => (∀ y ∈ (Ins.slice sz arr x lo hi mx).args,Yp g (em l y))∧(g=true→(mx=none∨hi≠none)∧Xx sz H (lo.map (er l)) (hi.map (er l)) (mx.map (er l)) arr (er l x))∧iwp pf C k Q (look ((d,.may g (Xl sz H (lo.map (er l)) (hi.map (er l)) (mx.map (er l)) arr (er l x)))::l)) H) (look l j):=by
 simp only [qg,iwp,iopwp,Ins.args,List.forall_mem_cons,List.not_mem_nil,false_implies,implies_true,and_true,iside,ival,imp_true_iff,true_and,er,em,Zdu]; (have e1:er l=fun x => (ev (look l) x).un:=rfl); (try simp only [e1]); first | done | rfl
theorem Zpg (x:IArg) (lo hi:Option IArg):iwp pf C (q d (.sslice x lo hi) k) Q (look l) H=((Ij (lo.map (em l)) (hi.map (em l)) (em l x))∧iwp pf C k Q (look ((d,Dk (lo.map (em l)) (hi.map (em l)) (em l x))::l)) H):=rfl
theorem Zrs (x:IArg) (lo hi:Option IArg):iwp pf C (qg d j w (.sslice x lo hi) k) Q (look l) H=Yr w (fun g => (∀ y ∈ (Ins.sslice x lo hi).args,Yp g (em l y))∧(g=true→Ij (lo.map (er l)) (hi.map (er l)) (er l x))∧iwp pf C k Q (look ((d,.may g (Dk (lo.map (er l)) (hi.map (er l)) (er l x)))::l)) H) (look l j):=by
 simp only [qg,iwp,iopwp,Ins.args,List.forall_mem_cons,List.not_mem_nil,false_implies,implies_true,and_true,iside,ival,imp_true_iff,true_and,er,em,Zdu]; (have e1:er l=fun x => (ev (look l) x).un:=rfl); (try simp only [e1]); first | done | rfl
theorem Zpj (sz bytes:Nat) (s x:IArg):iwp pf C (q d (.append sz bytes s x) k) Q (look l) H=((Ow sz bytes H (em l s) (em l x))∧iwp pf C k Q (look ((d,appV sz H (em l x) (em l s))::l)) (appH sz H (em l x) (em l s))):=rfl
theorem Zzy (sz:Nat) (t x:IArg):iwp pf C (q d (.copy sz t x) k) Q (look l) H=((Zaj sz H (em l t) (em l x))∧iwp pf C k Q (look ((d,AV.lit (.int .i64 (Zak (em l t) (em l x):Nat)))::l)) (Zal sz H (em l x) (em l t))):=rfl
theorem Z14 (sz:Nat) (t x:IArg):iwp pf C (qn (.copy sz t x) k) Q (look l) H=((Zaj sz H (em l t) (em l x))∧iwp pf C k Q (look l) (Zal sz H (em l x) (em l t))):=rfl
theorem Z37 (str:Bool) (x:IArg):iwp pf C (q d (.len str x) k) Q (look l) H=((Ks str (em l x))∧iwp pf C k Q (look ((d,AV.lit (.int .i64 (srcN (em l x))))::l)) H):=rfl
theorem Z49 (str:Bool) (x:IArg):iwp pf C (qg d j w (.len str x) k) Q (look l) H=Yr w (fun g => (Yp g (em l x))∧(g=true→Ks str (er l x))∧iwp pf C k Q (look ((d,.may g (AV.lit (.int .i64 (srcN (er l x)))))::l)) H) (look l j):=by
 simp only [qg,iwp,iopwp,Ins.args,List.forall_mem_cons,List.not_mem_nil,false_implies,implies_true,and_true,iside,ival,imp_true_iff,true_and]; rfl
theorem Z4c (x:IArg):iwp pf C (q d (.cap x) k) Q (look l) H=((Zdc (em l x))∧iwp pf C k Q (look ((d,AV.lit (.int .i64 (srcN (em l x))))::l)) H):=rfl
theorem Z5d (x:IArg):iwp pf C (qg d j w (.cap x) k) Q (look l) H=Yr w (fun g => (Yp g (em l x))∧(g=true→Zdc (er l x))∧iwp pf C k Q (look ((d,.may g (AV.lit (.int .i64 (srcN (er l x)))))::l)) H) (look l j):=by
 simp only [qg,iwp,iopwp,Ins.args,List.forall_mem_cons,List.not_mem_nil,false_implies,implies_true,and_true,iside,ival,imp_true_iff,true_and]; rfl
theorem Zu8 (sz:Nat) (z:List Value) (x:IArg):iwp pf C (q d (.clear sz z x) k) Q (look l) H=((G9 sz z H (em l x))∧iwp pf C k Q (look ((d,AV.tup [])::l)) (Zft z H (em l x))):=rfl
theorem Zxh (sz:Nat) (z:List Value) (x:IArg):iwp pf C (qn (.clear sz z x) k) Q (look l) H=((G9 sz z H (em l x))∧iwp pf C k Q (look l) (Zft z H (em l x))):=rfl
theorem Zzq (x:IArg):iwp pf C (q d (.mark x) k) Q (look l) H=((Ej H (em l x))∧iwp pf C k Q (look ((d,(em l x))::l)) H):=rfl
theorem Z2n (x:IArg):iwp pf C (qg d j w (.mark x) k) Q (look l) H=Yr w (fun g => (Yp g (em l x))∧(g=true→Ej H (er l x))∧iwp pf C k Q (look ((d,.may g ((er l x)))::l)) H) (look l j):=by
 simp only [qg,iwp,iopwp,Ins.args,List.forall_mem_cons,List.not_mem_nil,false_implies,implies_true,and_true,iside,ival,imp_true_iff,true_and]; rfl
theorem Zz1 (sz bytes:Nat) (z:List Value) (s x:IArg):iwp pf C (q d (.appz sz bytes z s x) k) Q (look l) H=((Zf1 bytes (em l s) (em l x))∧iwp pf C k Q (look ((d,AV.row H.length 0 (asI (em l x)).toNat ((asI (em l x)).toNat*sz))::l)) (H++[⟨repl (asI (em l x)).toNat (zlit z),sz,true⟩])):=rfl
theorem Zz2 (sz bytes:Nat) (s x:IArg):iwp pf C (q d (.appv sz bytes s x) k) Q (look l) H=((Zay sz bytes H (em l s) (em l x))∧iwp pf C k Q (look ((d,Zdk sz H (em l x) (em l s))::l)) H):=rfl
theorem Z2t (sz bytes:Nat) (s x:IArg):iwp pf C (qg d j w (.appv sz bytes s x) k) Q (look l) H=Yr w (fun g => (Yp g (em l s)∧Yp g (em l x))∧(g=true→Zay sz bytes H (er l s) (er l x))∧iwp pf C k Q (look ((d,.may g (Zdk sz H (er l x) (er l s)))::l)) H) (look l j):=by
 simp only [qg,iwp,iopwp,Ins.args,List.forall_mem_cons,List.not_mem_nil,false_implies,implies_true,and_true,iside,ival,imp_true_iff,true_and]; rfl
theorem Zzx :iwp pf C (q d (.dead ) k) Q (look l) H=((False)∧iwp pf C k Q (look ((d,AV.junk)::l)) H):=rfl
theorem Z13 :iwp pf C (qn (.dead ) k) Q (look l) H=((False)∧iwp pf C k Q (look l) H):=rfl
theorem Zu6 (neq:Bool) (x:IArg):iwp pf C (q d (.isnil neq x) k) Q (look l) H=((Mq (em l x))∧iwp pf C k Q (look ((d,B7 neq (em l x))::l)) H):=rfl
theorem Zxx (neq:Bool) (x:IArg):iwp pf C (qg d j w (.isnil neq x) k) Q (look l) H=Yr w (fun g => (Yp g (em l x))∧(g=true→Mq (er l x))∧iwp pf C k Q (look ((d,.may g (B7 neq (er l x)))::l)) H) (look l j):=by
 simp only [qg,iwp,iopwp,Ins.args,List.forall_mem_cons,List.not_mem_nil,false_implies,implies_true,and_true,iside,ival,imp_true_iff,true_and]; rfl
theorem Zu9 (sub:Bool) (x y c:IArg):iwp pf C (q d (.carry sub x y c) k) Q (look l) H=((Uq (em l x) (em l y) (em l c))∧iwp pf C k Q (look ((d,Py sub (em l x) (em l y) (em l c))::l)) H):=rfl
theorem Zxz (sub:Bool) (x y c:IArg):iwp pf C (qg d j w (.carry sub x y c) k) Q (look l) H=Yr w (fun g => (Yp g (em l x)∧Yp g (em l y)∧Yp g (em l c))∧(g=true→Uq (er l x) (er l y) (er l c))∧iwp pf C k Q (look ((d,.may g (Py sub (er l x) (er l y) (er l c)))::l)) H) (look l j):=by
 simp only [qg,iwp,iopwp,Ins.args,List.forall_mem_cons,List.not_mem_nil,false_implies,implies_true,and_true,iside,ival,imp_true_iff,true_and]; rfl
theorem Zzk (len sz:Nat) (x:IArg):iwp pf C (q d (.s2ap len sz x) k) Q (look l) H=((Br len sz (em l x))∧iwp pf C k Q (look ((d,Zkp (em l x))::l)) H):=rfl
theorem Z2i (len sz:Nat) (x:IArg):iwp pf C (qg d j w (.s2ap len sz x) k) Q (look l) H=Yr w (fun g => (Yp g (em l x))∧(g=true→Br len sz (er l x))∧iwp pf C k Q (look ((d,.may g (Zkp (er l x)))::l)) H) (look l j):=by
 simp only [qg,iwp,iopwp,Ins.args,List.forall_mem_cons,List.not_mem_nil,false_implies,implies_true,and_true,iside,ival,imp_true_iff,true_and]; rfl
theorem Zzs (n:Nat):iwp pf C (q d (.lenc n) k) Q (look l) H=(iwp pf C k Q (look ((d,AV.lit (.int .i64 n))::l)) H):=by show (True∧_)=_; rw [true_and]; rfl
theorem Z2p (n:Nat):iwp pf C (qg d j w (.lenc n) k) Q (look l) H=Yr w (fun g => iwp pf C k Q (look ((d,.may g (AV.lit (.int .i64 n)))::l)) H) (look l j):=by
 simp only [qg,iwp,iopwp,Ins.args,List.forall_mem_cons,List.not_mem_nil,false_implies,implies_true,and_true,iside,ival,imp_true_iff,true_and]; rfl
theorem w_mn (x y:IArg):iwp pf C (q d (.mn x y) k) Q (look l) H=((isI (em l x)∧isI (em l y))∧iwp pf C k Q (look ((d,mnV (em l x) (em l y))::l)) H):=rfl
theorem g_mn (x y:IArg):iwp pf C (qg d j w (.mn x y) k) Q (look l) H=Yr w (fun g => (Yp g (em l x)∧Yp g (em l y))∧(g=true→isI (er l x)∧isI (er l y))∧iwp pf C k Q (look ((d,.may g (mnV (er l x) (er l y)))::l)) H) (look l j):=by
 simp only [qg,iwp,iopwp,Ins.args,List.forall_mem_cons,List.not_mem_nil,false_implies,implies_true,and_true,iside,ival,imp_true_iff,true_and]; rfl
theorem w_mx (x y:IArg):iwp pf C (q d (.mx x y) k) Q (look l) H=((isI (em l x)∧isI (em l y))∧iwp pf C k Q (look ((d,mxV (em l x) (em l y))::l)) H):=rfl
theorem g_mx (x y:IArg):iwp pf C (qg d j w (.mx x y) k) Q (look l) H=Yr w (fun g => (Yp g (em l x)∧Yp g (em l y))∧(g=true→isI (er l x)∧isI (er l y))∧iwp pf C k Q (look ((d,.may g (mxV (er l x) (er l y)))::l)) H) (look l j):=by
 simp only [qg,iwp,iopwp,Ins.args,List.forall_mem_cons,List.not_mem_nil,false_implies,implies_true,and_true,iside,ival,imp_true_iff,true_and]; rfl
theorem Zzl (c a b:IArg):iwp pf C (q d (.pick c a b) k) Q (look l) H=(Hj true (em l c) (em l a) (em l b)∧iwp pf C k Q (look ((d,pickv (er l c) (er l a) (er l b))::l)) H):=rfl
theorem Z2j (c a b:IArg):iwp pf C (qg d j w (.pick c a b) k) Q (look l) H=Yr w (fun g => Hj g (em l c) (em l a) (em l b)∧iwp pf C k Q (look ((d,.may g (pickv (er l c) (er l a) (er l b)))::l)) H) (look l j):=rfl
theorem Zdi (own:Bool) (sz len:Nat) (z:List Value) (ps:List (Nat × Nat × IArg)):(Ins.bslice own sz len z ps).args=ps.map (·.2.2):=rfl
theorem Zi4 (z:List Value) (ps:List (Nat × Nat × IArg)):(Ins.build z ps).args=ps.map (·.2.2):=rfl
theorem Zi3 (sz:Nat) (arr:Option Nat) (x:IArg) (lo hi mx:Option IArg):(Ins.slice sz arr x lo hi mx).args=x::(lo.toList++(hi.toList++mx.toList)):=by simp [Ins.args]
theorem Zdh (x:IArg) (lo hi:Option IArg):(Ins.sslice x lo hi).args=x::(lo.toList++hi.toList):=by simp [Ins.args]
def Zap (pf:Pf) (C:Yq) (pu:Bool) (d:Option Nat) (f:FuncId) (args:List AV) (l:List (Nat × AV)) (k:IC) (Q:Ex→Env→AH→Prop) (H:AH):Prop :=
 ∃ v H',C f args H v H'∧(pu=true→H'=H)∧iwp pf C k Q (look (match d with | some d => (d,v)::l | none => l)) H'
def Zsi (pf:Pf) (C:Yq) (d:Nat) (g:Bool) (f:FuncId) (args:List AV) (l:List (Nat × AV)) (k:IC) (Q:Ex→Env→AH→Prop) (H:AH):Prop :=
 ∃ v,(g=true→C f args H v H)∧iwp pf C k Q (look ((d,.may g v)::l)) H
theorem Za {pu:Bool} {f:FuncId} {args:List AV} {v:AV} {H':AH} (h:C f args H v H') (hp:pu=true→H'=H) (hk:iwp pf C k Q (look ((d,v)::l)) H'):Zap pf C pu (some d) f args l k Q H:=⟨v,H',h,hp,hk⟩
theorem Zs {g:Bool} {f:FuncId} {args:List AV} {v:AV} (h:g=true→C f args H v H) (hk:iwp pf C k Q (look ((d,.may g v)::l)) H):Zsi pf C d g f args l k Q H:=⟨v,h,hk⟩
theorem Zz0 (f:FuncId) (ags:List IArg):iwp pf C (q d (.call f ags) k) Q (look l) H=Zap pf C (pf.f f) (some d) f (ags.map (em l)) l k Q H:=by
 simp only [q,iwp,iopwp,Zap,Vu,and_assoc]; rfl
theorem Z15 (f:FuncId) (ags:List IArg):iwp pf C (qn (.call f ags) k) Q (look l) H=Zap pf C (pf.f f) none f (ags.map (em l)) l k Q H:=by
 simp only [qn,iwp,iopwp,Zap,Vu,and_assoc]; rfl
theorem Z2s (f:FuncId) (ags:List IArg):iwp pf C (qg d j w (.call f ags) k) Q (look l) H=Yr w (fun g => (∀ x ∈ ags,Yp g (em l x))∧Zsi pf C d g f (ags.map (er l)) l k Q H) (look l j):=by
 simp only [qg,iwp,iopwp,Vu,implies_true,and_true,Zsi]; rfl
def cvW (pf:Pf) (C:Yq) (d:Option Nat) (ags:List AV) (l:List (Nat × AV)) (k:IC) (Q:Ex→Env→AH→Prop) (H:AH):AV→Prop
 | .fn (.func f) a b => Zap pf C pf.v d f (a++ags++b) l k Q H
 | _ => False
def cvG (pf:Pf) (C:Yq) (d:Nat) (g:Bool) (ags:List AV) (l:List (Nat × AV)) (k:IC) (Q:Ex→Env→AH→Prop) (H:AH):AV→Prop
 | .fn (.func f) a b => Zsi pf C d g f (a++ags++b) l k Q H
 | _ => False
def cvOf (pf:Pf) (C:Yq) (H:AH) (v:AV) (H':AH) (ags:List AV):AV→Prop
 | .fn (.func f) a b => C f (a++ags++b) H v H'∧(pf.v=true→H'=H)
 | _ => False
theorem Zfy (ρ:IArg→AV) (v:AV) (H':AH) (x:IArg) (ags:List IArg):Vu pf ρ C H v H' (.callv x ags)=cvOf pf C H v H' (ags.map ρ) (ρ x):=by
 simp only [Vu,cvOf]
 split <;> simp_all
theorem Z3i (x:AV) (ags:List AV):(∃ v H',cvOf pf C H v H' ags x∧iwp pf C k Q (look ((d,v)::l)) H')=cvW pf C (some d) ags l k Q H x:=by
 unfold cvOf cvW
 split
 ·simp only [Zap,and_assoc]
 ·rename_i hn; simp
theorem Z3j (x:AV) (ags:List AV):(∃ v H',cvOf pf C H v H' ags x∧iwp pf C k Q (look l) H')=cvW pf C none ags l k Q H x:=by
 unfold cvOf cvW
 split
 ·simp only [Zap,and_assoc]
 ·rename_i hn; simp
theorem Za4 (x:IArg) (ags:List IArg):iwp pf C (q d (.callv x ags) k) Q (look l) H=cvW pf C (some d) (ags.map (em l)) l k Q H (em l x):=by
 rw [← Z3i]
 simp only [q,qn,iwp,iopwp]
 simp only [Zfy]; rfl
theorem Zca (x:IArg) (ags:List IArg):iwp pf C (qn (.callv x ags) k) Q (look l) H=cvW pf C none (ags.map (em l)) l k Q H (em l x):=by
 rw [← Z3j]
 simp only [q,qn,iwp,iopwp]
 simp only [Zfy]; rfl
theorem Zmv (K:Bool→Prop) (b:Bool):Yr w K (.lit (.bool b))=K (b == w):=rfl
theorem Zmu (K:Bool→Prop) (g b:Bool):Yr w K (.may g (.lit (.bool b)))=K (g&&(b == w)):=rfl
theorem Zzt (s:List Nat):iwp pf C (.keep s k) Q (look l) H=iwp pf C k Q (look (Fp s (look l))) H:=rfl
theorem Zrd (E:Env):Fp [] E=[]:=rfl
theorem Zmg (n:Nat) (s:List Nat) (E:Env):Fp (n::s) E=(n,E n)::Fp s E:=rfl
theorem Zzw:iwp pf C .done Q (look l) H=Q .normal (look l) H:=rfl
theorem Z35:iwp pf C .ret Q (look l) H=Q .ret (look l) H:=rfl
theorem Zzv (id:Nat):iwp pf C (.exit id) Q (look l) H=Q (.exit id) (look l) H:=rfl
def thn (pf:Pf) (C:Yq) (k:IC) (Q:Ex→Env→AH→Prop):Ex→Env→AH→Prop:=fun e E H => match e with | .normal => iwp pf C k Q E H | e => Q e E H
def blk (pf:Pf) (C:Yq) (id:Nat) (k:IC) (Q:Ex→Env→AH→Prop):Ex→Env→AH→Prop:=fun e E H => match e with
  | .normal => iwp pf C k Q E H
  | .exit i => if i=id then iwp pf C k Q E H else Q (.exit i) E H
  | .ret => Q .ret E H
theorem Zf7 (E:Env):thn pf C k Q .normal E H=iwp pf C k Q E H:=rfl
theorem Zpl (id:Nat) (E:Env):thn pf C k Q (.exit id) E H=Q (.exit id) E H:=rfl
theorem Zvl (E:Env):thn pf C k Q .ret E H=Q .ret E H:=rfl
theorem Zi0 (id:Nat) (E:Env):blk pf C id k Q .normal E H=iwp pf C k Q E H:=rfl
theorem Zso (id i:Nat) (E:Env):blk pf C id k Q (.exit i) E H=if i=id then iwp pf C k Q E H else Q (.exit i) E H:=rfl
theorem Zyp (id:Nat) (E:Env):blk pf C id k Q .ret E H=Q .ret E H:=rfl
def iteK (K1 K2:Prop):AV→Prop
 | .lit (.bool t) => (t=true→K1)∧(t=false→K2)
 | .anyb => K1∧K2
 | _ => False
theorem Z38 (c:IArg) (a b:IC):iwp pf C (.ite c a b k) Q (look l) H=iteK (iwp pf C a (thn pf C k Q) (look l) H) (iwp pf C b (thn pf C k Q) (look l) H) (em l c):=by
 simp only [iwp,iteK,em]
 cases ev (look l) c <;> rfl
theorem Zxs (K1 K2:Prop) (t:Bool):iteK K1 K2 (.lit (.bool t))=((t=true→K1)∧(t=false→K2)):=rfl
theorem Zxt (K1 K2:Prop):iteK K1 K2 .anyb=(K1∧K2):=rfl
theorem Zmk (K1 K2:Prop):iteK K1 K2 (.lit (.bool true))=K1:=by simp [iteK]
theorem Zho (K1 K2:Prop):iteK K1 K2 (.lit (.bool false))=K2:=by simp [iteK]
theorem Zvb (id:Nat) (b:IC):iwp pf C (.block id b k) Q (look l) H=iwp pf C b (blk pf C id k Q) (look l) H:=rfl
theorem Z4 {α:Type} (b:IC) (st:α→List (Nat × AV) × AH) (inv:α→Prop) (μ:α→Nat) (a0:α) (h0:inv a0) (he:(l,H)=st a0)
  (hr:∀ a,inv a→iwp pf C b (fun e E' H' => match e with
   | .normal => ∃ a',E'=look (st a').1∧H'=(st a').2∧inv a'∧μ a'<μ a
   | e => Q e E' H') (look (st a).1) (st a).2):iwp pf C (.loop b) Q (look l) H:=by
 refine ⟨fun n E H => ∃ a,E=look (st a).1∧H=(st a).2∧inv a∧μ a=n,μ a0,⟨a0,by rw [← he],by rw [← he],h0,rfl⟩,?_⟩
 rintro n E H ⟨a,rfl,rfl,hi,rfl⟩
 refine Zrh (hr a hi) ?_
 intro e E' H' h
 cases e with
 | normal => obtain ⟨a',h1,h2,h3,h4⟩:=h; exact ⟨μ a',h4,a',h1,h2,h3,rfl⟩
 | exit id => exact h
 | ret => exact h
/-! ### Drawn regions that make objects -/
def xl (d:Nat) (o:Ins) (ds:List IArg):RA:=⟨⟨some d,none,o⟩,.l,ds⟩
def xln (o:Ins) (ds:List IArg):RA:=⟨⟨none,none,o⟩,.l,ds⟩
def xlg (d j:Nat) (w:Bool) (o:Ins) (ds:List IArg):RA:=⟨⟨some d,some (j,w),o⟩,.l,ds⟩
def xm (d:Nat) (o:Ins) (ds:List IArg):RA:=⟨⟨some d,none,o⟩,.m,ds⟩
def xmn (o:Ins) (ds:List IArg):RA:=⟨⟨none,none,o⟩,.m,ds⟩
def xw (d:Nat) (o:Ins) (ds:List IArg):RA:=⟨⟨some d,none,o⟩,.w,ds⟩
def xe (d:Nat) (o:Ins) (ds:List IArg):RA:=⟨⟨some d,none,o⟩,.e,ds⟩
def xeg (d j:Nat) (w:Bool) (o:Ins) (ds:List IArg):RA:=⟨⟨some d,some (j,w),o⟩,.e,ds⟩
def xf (n d:Nat) (o:Ins) (ds:List IArg):RA:=⟨⟨some d,none,o⟩,.f n,ds⟩
def xa (r d:Nat) (o:Ins):RA:=⟨⟨some d,none,o⟩,.a r,[]⟩
def dsP (l:List (Nat × AV)) (o:Ins) (ds:List IArg):Prop:=∀ a ∈ ds,apart (er l a) (er l (adrD o))
theorem Zya (o:Ins):dsP l o []=True:=by simp [dsP]
theorem Zr7 (o:Ins) (a:IArg) (r:List IArg):dsP l o (a::r)=(apart (er l a) (er l (adrD o))∧dsP l o r):=by simp [dsP]
theorem Zo7 (agg:Bool) (n:Nat) (x:IArg):adrD (.load agg n x)=x:=rfl
theorem Zi9 (n:Nat) (a x:IArg):adrD (.store n a x)=a:=rfl
theorem Zs7 (i o j p:Nat):apart (.ptr i o) (.ptr j p)=(i≠j):=rfl
theorem Zs6 (i o j p L:Nat):apart (.ptr i o) (.rptr j p L)=(i≠j):=rfl
theorem Zs4 (i o j p L:Nat):apart (.rptr j p L) (.ptr i o)=(j≠i):=rfl
theorem Zs3 (i o j p L M:Nat):apart (.rptr i o L) (.rptr j p M)=(i≠j):=rfl
theorem Zja (sz:Nat) (arr:Option Nat) (x:IArg) (lo hi mx:Option IArg):adrD (.slice sz arr x lo hi mx)=x:=rfl
theorem Zdn (sz b:Nat) (s x:IArg):adrD (.append sz b s x)=s:=rfl
theorem Zs8 (i o j p n L:Nat):apart (.ptr i o) (.row j p n L)=(i≠j):=rfl
theorem Zs5 (i o M j p n L:Nat):apart (.rptr i o M) (.row j p n L)=(i≠j):=rfl
theorem Ztb (i o j p n L:Nat):apart (.row j p n L) (.ptr i o)=(i≠j):=rfl
theorem Zta (i o M j p n L:Nat):apart (.row j p n L) (.rptr i o M)=(i≠j):=rfl
theorem Ztc (i o M m j p n L:Nat):apart (.row i o m M) (.row j p n L)=(i≠j):=rfl
theorem Zy4 (cs:List AV) (n:Nat) (f:Bool) (v:AV):apart (.view cs n f) v=True:=by cases v <;> rfl
theorem Zs9 (cs:List AV) (n:Nat) (f:Bool) (v:AV):apart v (.view cs n f)=True:=by cases v <;> rfl
theorem Zy5 (v:AV):apart (.lit (.slice none 0 0)) v=True:=by cases v <;> rfl
theorem Ztd (v:AV):apart v (.lit (.slice none 0 0))=True:=by
 cases v <;> first | rfl | skip
 rename_i v; unfold apart; split <;> first | rfl | simp_all
theorem Zy3 (cs:List AV) (v:AV):apart (.vptr cs) v=True:=by cases v <;> rfl
theorem Zs2 (cs:List AV) (v:AV):apart v (.vptr cs)=True:=by cases v <;> rfl
theorem Z36 (n:Nat) (rs:List RA):iwp pf C (.reg n rs k) Q (look l) H=absR pf C H.length rs (iwp pf C k Q) (look l) (H++List.replicate n dumO):=rfl
section
variable {base:Nat} {r:List RA} {K:Env→AH→Prop}
theorem Z5m:absR pf C base [] K (look l) H=K (look l) H:=rfl
theorem R_l (o:Ins) (ds:List IArg):absR pf C base (xl d o ds::r) K (look l) H=(dsP l o ds∧iwp pf C (q d o .done) (fun _ => absR pf C base r K) (look l) H):=rfl
theorem R_ln (o:Ins) (ds:List IArg):absR pf C base (xln o ds::r) K (look l) H=(dsP l o ds∧iwp pf C (qn o .done) (fun _ => absR pf C base r K) (look l) H):=rfl
theorem R_lg (o:Ins) (ds:List IArg):absR pf C base (xlg d j w o ds::r) K (look l) H=(dsP l o ds∧iwp pf C (qg d j w o .done) (fun _ => absR pf C base r K) (look l) H):=rfl
theorem R_m (o:Ins) (ds:List IArg):absR pf C base (xm d o ds::r) K (look l) H=(dsP l o ds∧iwp pf C (q d o .done) (fun _ E' H' => H'.take base=H.take base∧absR pf C base r K E' H') (look l) H):=rfl
theorem R_mn (o:Ins) (ds:List IArg):absR pf C base (xmn o ds::r) K (look l) H=(dsP l o ds∧iwp pf C (qn o .done) (fun _ E' H' => H'.take base=H.take base∧absR pf C base r K E' H') (look l) H):=rfl
theorem Zu3 (ρ:IArg→AV) (sz b:Nat) (s x:IArg):wfar H ρ (.append sz b s x)=farV H (ρ x):=rfl
theorem Znf (cs:List AV) (n:Nat) (f:Bool):farV H (.view cs n f)=True:=rfl
theorem Zr2 (v:Value):farV H (.lit v)=True:=rfl
theorem Zr1 (id off n L:Nat):farV H (.row id off n L)=(obj H id≠dumO):=rfl
theorem R_w (o:Ins) (ds:List IArg):absR pf C base (xw d o ds::r) K (look l) H=(dsP l o ds∧base≤H.length∧wfar H (em l) o∧iwp pf C (q d o .done) (fun _ => absR pf C base r K) (look l) H):=rfl
theorem R_e (o:Ins) (ds:List IArg):absR pf C base (xe d o ds::r) K (look l) H=(dsP l o ds∧iwp pf (frC C) (q d o .done) (fun _ E' _ => absR pf C base r K E' H) (look l) (H.take base)):=rfl
theorem R_eg (o:Ins) (ds:List IArg):absR pf C base (xeg d j w o ds::r) K (look l) H=(dsP l o ds∧iwp pf (frC C) (qg d j w o .done) (fun _ E' _ => absR pf C base r K E' H) (look l) (H.take base)):=rfl
theorem R_f (n:Nat) (o:Ins) (ds:List IArg):absR pf C base (xf n d o ds::r) K (look l) H=(dsP l o ds∧iwp pf (frC C) (q d o .done) (fun _ E' _ => absR pf C base r K E' H) (look l) (H.take (base+n))):=rfl
theorem R_a (s:Nat) (o:Ins):absR pf C base (xa s d o::r) K (look l) H=((base+s<H.length∧obj H (base+s)=dumO)∧Q9 (em l) o∧iside pf.c (em l) (H.take base) o∧absR pf C base r K (look ((d,aval (base+s) (em l) (H.take base) o)::l)) (H.set (base+s) (aobj (em l) (H.take base) o))):=by
 show ((∀ a ∈ [],_)∧_)=_
 simp only [List.not_mem_nil,false_implies,implies_true,true_and]
 rfl
end
theorem Zls (ρ:IArg→AV) (z:List Value):Q9 ρ (.alloc z)=True:=rfl
theorem Zxa (ρ:IArg→AV) (x:IArg):Q9 ρ (.box x)=True:=rfl
theorem Zqy (ρ:IArg→AV) (sz b:Nat) (z:List Value) (x c:IArg):Q9 ρ (.mksl sz b z x c)=True:=rfl
theorem Zg8 (ρ:IArg→AV) (sz n:Nat) (z:List Value) (ps:List (Nat × Nat × IArg)):Q9 ρ (.bslice true sz n z ps)=True:=by simp [Q9]
theorem Zg9 (ρ:IArg→AV) (sz b:Nat) (s x:IArg):Q9 ρ (.append sz b s x)=Uj (ρ s):=rfl
theorem Z12:Uj (.lit (.slice none 0 0))=True:=rfl
theorem Zxd (cs:List AV):Uj (.view cs 0 true)=True:=by simp [Uj]
theorem Zp9 (cmp:TypeId→Bool) (ρ:IArg→AV) (z:List Value):iside cmp ρ H (.alloc z)=True:=rfl
theorem Z1h (cmp:TypeId→Bool) (ρ:IArg→AV) (x:IArg):iside cmp ρ H (.box x)=((ρ x).cells.isEmpty=false∧(ρ x).cells.all AV.one=true):=rfl
theorem Zwe (cmp:TypeId→Bool) (ρ:IArg→AV) (sz b:Nat) (z:List Value) (x c:IArg):iside cmp ρ H (.mksl sz b z x c)=Hs b (ρ x) (ρ c):=rfl
theorem Zkk (cmp:TypeId→Bool) (ρ:IArg→AV) (sz n:Nat) (z:List Value) (ps:List (Nat × Nat × IArg)):iside cmp ρ H (.bslice true sz n z ps)=Zq (n*sz) (ps.map fun p => (p.1,p.2.1,ρ p.2.2)):=by simp [iside]
theorem Zkl (cmp:TypeId→Bool) (ρ:IArg→AV) (sz b:Nat) (s x:IArg):iside cmp ρ H (.append sz b s x)=Ow sz b H (ρ s) (ρ x):=rfl
theorem Zsx (id:Nat) (ρ:IArg→AV) (z:List Value):aval id ρ H (.alloc z)=.ptr id 0:=rfl
theorem Z3r (id:Nat) (ρ:IArg→AV) (x:IArg):aval id ρ H (.box x)=.ptr id 0:=rfl
theorem Zyy (id:Nat) (ρ:IArg→AV) (sz b:Nat) (z:List Value) (x c:IArg):aval id ρ H (.mksl sz b z x c)=.row id 0 (asI (ρ x)).toNat ((asI (ρ x)).toNat*sz):=rfl
theorem Zot (id:Nat) (ρ:IArg→AV) (o:Bool) (sz n:Nat) (z:List Value) (ps:List (Nat × Nat × IArg)):aval id ρ H (.bslice o sz n z ps)=.row id 0 n (n*sz):=rfl
theorem Zou (id:Nat) (ρ:IArg→AV) (sz b:Nat) (s x:IArg):aval id ρ H (.append sz b s x)=.row id 0 (srcN (ρ x)) (srcC sz H (ρ x)).length:=rfl
theorem Zte (ρ:IArg→AV) (z:List Value):aobj ρ H (.alloc z)=⟨zlit z,0,true⟩:=rfl
theorem Z3t (ρ:IArg→AV) (x:IArg):aobj ρ H (.box x)=⟨(ρ x).cells,0,true⟩:=rfl
theorem Zy7 (ρ:IArg→AV) (sz b:Nat) (z:List Value) (x c:IArg):aobj ρ H (.mksl sz b z x c)=⟨repl (asI (ρ x)).toNat (zlit z),sz,true⟩:=rfl
theorem Zo0 (ρ:IArg→AV) (o:Bool) (sz n:Nat) (z:List Value) (ps:List (Nat × Nat × IArg)):aobj ρ H (.bslice o sz n z ps)=⟨fillv (repl n (zlit z)) (ps.map fun p => (p.1,ρ p.2.2)),sz,true⟩:=rfl
theorem Zo1 (ρ:IArg→AV) (sz b:Nat) (s x:IArg):aobj ρ H (.append sz b s x)=⟨srcC sz H (ρ x),sz,true⟩:=rfl
section
variable (G:AH) (o:AObj) (n:Nat)
theorem Zp8:(H++G).set H.length o=H++G.set 0 o:=by rw [List.set_append_right _ _ (Nat.le_refl _),Nat.sub_self]
theorem Zp7:(H++G).set (H.length+n) o=H++G.set n o:=by rw [List.set_append_right _ _ (Nat.le_add_right _ _),Nat.add_sub_cancel_left]
theorem Zjl:(H++G).take H.length=H:=List.take_left
theorem Zjk:(H++G).take (H.length+n)=H++G.take n:=List.take_length_add_append n
end
end
set_option linter.unusedSimpArgs false
abbrev I (n:Int):AV:=.lit (.int .i64 n)
abbrev Bl (b:Bool):AV:=.lit (.bool b)
theorem w64 (x:Int) (h1 : -9223372036854775808≤x) (h2:x≤9223372036854775807):IntKind.i64.wrap x=x:=by
 rw [IntKind.wrap_i64]; omega
theorem wu8 (x:Int) (h1:0≤x) (h2:x≤255):IntKind.u8.wrap x=x:=by
 simp only [IntKind.wrap,IntKind.bits,IntKind.signed]
 simp
 omega
theorem wu32 (x:Int) (h1:0≤x) (h2:x≤4294967295):IntKind.u32.wrap x=x:=by
 simp only [IntKind.wrap,IntKind.bits,IntKind.signed]
 simp
 omega
theorem wu64 (x:Int) (h1:0≤x) (h2:x≤18446744073709551615):IntKind.u64.wrap x=x:=by
 simp only [IntKind.wrap,IntKind.bits,IntKind.signed]
 simp
 omega
def ok64 (n:Int):Prop:=-9223372036854775808≤n∧n≤9223372036854775807
theorem Q6 {n:Int} (h:(Lit.int .i64 n).wf=true):ok64 n:=by
 simp [Lit.wf,IntKind.min,IntKind.max,IntKind.signed,IntKind.bits] at h
 exact ⟨by omega,by omega⟩
def vI (l:List Int) (full:Bool):AV:=.view (l.map I) l.length full
theorem Znn (l:List Int) (i:Nat) (h:i<l.length):elt (l.map I) 1 i=[I (l.getD i 0)]:=by
 simp only [elt,Nat.mul_one]
 rw [← List.map_drop,List.drop_eq_getElem_cons h,List.map_cons,List.take_succ_cons,List.take_zero,List.getD_eq_getElem?_getD,List.getElem?_eq_getElem h,Option.getD_some]
/-! ### Ends -/
theorem Zl {H:AH} {v2 v:AV} (h:v2=v):Leave H v2 H v H:=h ▸ Leave.refl _ _ _
theorem Zc {H G:AH} {v2 v:AV} (h:low (renk H.length []) (H++G) v2=v):Leave H v2 (H++G) v H:=by
 have:=Hw (H:=H) (H1:=H) (H1':=H) (G:=G) [] List.nodup_nil (by simp) rfl rfl (fun i o' hi => .inl ⟨hi,hi⟩) v2
 rw [h] at this
 simpa using this
theorem Zqf {rs:List IRes} {H H2 H':AH} {v:AV} {E:Env}:retQ rs H v H' .ret E H2=(Fj E H2 rs∧Leave H (Zen (rs.map (resV E H2))) H2 v H'):=rfl
theorem Zok (op:BinOp) (k k':IntKind) (a b:Int):Zdf op (.lit (.int k a)) (.lit (.int k' b))=Zfd op k k' b:=rfl
theorem Zoj (op:BinOp) (x y:ByteArray):Zdf op (.lit (.string x)) (.lit (.string y))=Zek op x y:=rfl
theorem Zsq (op:BinOp) (k k':IntKind) (a b:Int):binv op (.lit (.int k a)) (.lit (.int k' b))=.lit (ibin op k a b):=rfl
theorem Zsp (op:BinOp) (x y:ByteArray):binv op (.lit (.string x)) (.lit (.string y))=.lit (sbin op x y):=rfl
theorem Ziw (cs:List AV) (n:Nat) (f:Bool):Zdc (.view cs n f)=(f=true):=rfl
theorem Zoe:Zdc (.lit (.slice none 0 0))=True:=rfl
theorem Zl7 (s:ByteArray):Ks true (.lit (.string s))=True:=rfl
theorem Zhm (cs:List AV) (n:Nat) (f:Bool):Ks false (.view cs n f)=True:=rfl
theorem Zl8 (id off n L:Nat):Ks false (.row id off n L)=True:=rfl
theorem Zl9:Ks false (.lit (.slice none 0 0))=True:=rfl
theorem Zp1 (s:ByteArray):srcN (.lit (.string s))=s.size:=rfl
theorem Zka (cs:List AV) (n:Nat) (f:Bool):srcN (.view cs n f)=n:=rfl
theorem Zp2 (id off n L:Nat):srcN (.row id off n L)=n:=rfl
theorem Zp3:srcN (.lit (.slice none 0 0))=0:=rfl
theorem Zco (sz:Nat) (i:AV) (cs:List AV) (n:Nat) (f:Bool):Tj sz i none (.view cs n f)=(isI i∧0≤asI i∧asI i<n∧cs.length=n*sz):=rfl
theorem Zhw (sz:Nat) (i:AV) (id off n L:Nat):Tj sz i none (.row id off n L)=(isI i∧0≤asI i∧asI i<n):=rfl
theorem Zhx (sz m:Nat) (i:AV) (id off:Nat):Tj sz i (some m) (.ptr id off)=(isI i∧0≤asI i∧asI i<m):=rfl
theorem Zcp (sz m:Nat) (i:AV) (id off L:Nat):Tj sz i (some m) (.rptr id off L)=(isI i∧0≤asI i∧asI i<m):=rfl
theorem Zcn (sz m:Nat) (i:AV) (cs:List AV):Tj sz i (some m) (.vptr cs)=(isI i∧0≤asI i∧asI i<m∧m*sz≤cs.length):=rfl
theorem Zhu (sz:Nat) (i:AV) (cs:List AV) (n:Nat) (f:Bool):Xn sz i (.view cs n f)=.vptr (elt cs sz (asI i).toNat):=rfl
theorem Zht (sz:Nat) (i:AV) (cs:List AV):Xn sz i (.vptr cs)=.vptr (elt cs sz (asI i).toNat):=rfl
theorem Zmp (sz:Nat) (i:AV) (id off n L:Nat):Xn sz i (.row id off n L)=.rptr id (off+(asI i).toNat*sz) L:=rfl
theorem Zhv (sz:Nat) (i:AV) (id off L:Nat):Xn sz i (.rptr id off L)=.rptr id (off+(asI i).toNat*sz) L:=rfl
theorem Zmq (sz:Nat) (i:AV) (id off:Nat):Xn sz i (.ptr id off)=.ptr id (off+(asI i).toNat*sz):=rfl
theorem Zra (l:List Int) (f:Bool):Ks false (vI l f)=True:=rfl
theorem Zwa (l:List Int) (f:Bool):srcN (vI l f)=l.length:=rfl
theorem Zmr (l:List Int) (f:Bool) (k:IntKind) (i:Int):Tj 1 (.lit (.int k i)) none (vI l f)=(0≤i∧i<l.length):=by simp [Tj,vI,isI,asI]
theorem Zrk (l:List Int) (f:Bool) (k:IntKind) (i:Int):Xn 1 (.lit (.int k i)) (vI l f)=.vptr (elt (l.map I) 1 i.toNat):=rfl
theorem Z1q (l:List Int) (f:Bool):AV.one (vI l f)=true:=rfl
theorem Zrz (x d:Int) (h:0≤d):x.fdiv (2^min (d.tmod 7).toNat 64)=x / 2^(d%7).toNat:=by
 rw [Int.tmod_eq_emod_of_nonneg h,Int.fdiv_eq_ediv_of_nonneg _ (by exact Int.le_of_lt (Int.pow_pos (by decide)))]
 congr 2
 omega
theorem Zo3 (x:Int):bAnd .i64 x 1=x%2:=by
 show IntKind.i64.wrap ((BitVec.ofInt 64 x &&& BitVec.ofInt 64 1).toNat:Nat)=x%2
 have e:(BitVec.ofInt 64 x &&& BitVec.ofInt 64 1).toNat=(x%2).toNat:=by
  rw [BitVec.toNat_and,BitVec.toNat_ofInt,BitVec.toNat_ofInt]
  have:((1:Int)%((2^64:Nat):Int)).toNat=1:=by decide
  rw [this,Nat.and_one_is_mod]
  omega
 rw [e,w64 _ (by omega) (by omega)]
 omega
theorem Zse (p x y:Bool):(bif p then AV.lit (.bool x) else AV.lit (.bool y))=AV.lit (.bool (bif p then x else y)):=by cases p <;> rfl
section
variable (H G:AH) (a:AObj) (k:Nat) (cs:List AV)
theorem Z7:obj (H++G) H.length=obj G 0:=by simp only [obj,List.getD_eq_getElem?_getD]; rw [List.getElem?_append_right (Nat.le_refl _),Nat.sub_self]
theorem Y2:obj (H++G) (H.length+k)=obj G k:=by simp [obj,List.getD_eq_getElem?_getD,List.getElem?_append_right]
theorem Q8:obj (a::G) 0=a:=rfl
theorem B5:obj (a::G) (k+1)=obj G k:=rfl
theorem Z1 {p:Nat} (h:p<H.length):obj (H++G) p=obj H p:=by simp [obj,List.getD_eq_getElem?_getD,List.getElem?_append_left h]
theorem Qy:setO (H++G) H.length cs=H++setO G 0 cs:=by
 simp only [setO,Z7]
 rw [List.set_append_right _ _ (Nat.le_refl _),Nat.sub_self]
theorem Mc:setO (H++G) (H.length+k) cs=H++setO G k cs:=by
 simp only [setO,Y2]
 rw [List.set_append_right _ _ (Nat.le_add_right _ _),Nat.add_sub_cancel_left]
theorem Zgo:setO (a::G) 0 cs=⟨cs,a.sz,a.rw⟩::G:=rfl
theorem Zgn:setO (a::G) (k+1) cs=a::setO G k cs:=rfl
theorem U2 {p:Nat} (h:p<H.length):setO (H++G) p cs=setO H p cs++G:=by
 simp only [setO,Z1 H G h]
 rw [List.set_append_left _ _ h]
theorem Zk (p:Nat):(setO H p cs).length=H.length:=by simp [setO]
theorem Yj {p:Nat} (h:p<H.length):obj (setO H p cs) p=⟨cs,(obj H p).sz,(obj H p).rw⟩:=by simp [obj,setO,List.getD_eq_getElem?_getD,h]
theorem W7 {p q:Nat} (h:p≠q):obj (setO H p cs) q=obj H q:=by simp [obj,setO,List.getD_eq_getElem?_getD,List.getElem?_set_ne h]
theorem Vj (p:Nat) (cs':List AV):setO (setO H p cs) p cs'=setO H p cs':=by
 by_cases h:p<H.length
 ·have e:=Yj H cs h
  show (setO H p cs).set p ⟨cs',(obj (setO H p cs) p).sz,(obj (setO H p cs) p).rw⟩=_
  rw [e]
  simp only [setO,List.set_set]
 ·simp only [setO]
  rw [List.set_eq_of_length_le (l:=H) (by omega)]
theorem Ka (off:Nat) (a b:AV) (r:List AV):splice cs off (a::b::r)=cs.take off++(a::b::r)++cs.drop (off+(r.length+2)):=rfl
theorem Kb (off:Nat) (v:AV):splice cs off [v]=cs.set off v:=rfl
end
section
variable (k o id off L:Nat) (H:AH) (cs:List AV) (agg:Bool) (x:AV)
theorem Zna:Fs (.ptr id off)=True:=rfl
theorem Zh2:Fs (.rptr id off L)=True:=rfl
theorem Zh1:Fs (.vptr cs)=True:=rfl
theorem Zrw:fldV o (.ptr id off)=.ptr id (off+o):=rfl
theorem Zm8:fldV o (.rptr id off L)=.rptr id (off+o) L:=rfl
theorem Zm7:fldV o (.vptr cs)=.vptr (cs.drop o):=rfl
theorem Zhj:Ys k H (.ptr id off)=(id<H.length∧off+k≤(obj H id).cs.length):=rfl
theorem Zce:Ys k H (.rptr id off L)=(id<H.length∧L=(obj H id).cs.length∧off+k≤L):=rfl
theorem Zcd:Ys k H (.vptr cs)=(k≤cs.length):=rfl
theorem Zl6:Y8 agg k H (.ptr id off)=if agg then .agg (((obj H id).cs.drop off).take k) else (obj H id).cs.getD off .junk:=rfl
theorem Zhi:Y8 agg k H (.rptr id off L)=if agg then .agg (((obj H id).cs.drop off).take k) else (obj H id).cs.getD off .junk:=rfl
theorem Zhh:Y8 agg k H (.vptr cs)=if agg then .agg (cs.take k) else cs.getD 0 .junk:=rfl
theorem Zbj:storeAt k H (.ptr id off)=(id<H.length∧(obj H id).rw=true∧off+k≤(obj H id).cs.length):=rfl
theorem Bi:storeAt k H (.rptr id off L)=(id<H.length∧(obj H id).rw=true∧L=(obj H id).cs.length∧off+k≤L):=rfl
theorem Zgc:F9 H x (.ptr id off)=setO H id (splice (obj H id).cs off x.cells):=rfl
theorem Zbi:F9 H x (.rptr id off L)=setO H id (splice (obj H id).cs off x.cells):=rfl
theorem Zxu (kd:IntKind) (n:Int):isI (.lit (.int kd n))=True:=rfl
theorem Zyz (kd:IntKind) (n:Int):asI (.lit (.int kd n))=n:=rfl
theorem Zri (b:Bool):isB (.lit (.bool b))=true:=rfl
theorem min8:min 8 64=8:=rfl
theorem Zsy (b:Bool):asB (.lit (.bool b))=b:=rfl
theorem Zoa (v:Value):(AV.lit v).cells=[.lit v]:=rfl
theorem Zn9:(AV.ptr id off).cells=[.ptr id off]:=rfl
theorem Ziv:(AV.rptr id off L).cells=[.rptr id off L]:=rfl
theorem Zit:(AV.vptr cs).cells=[.vptr cs]:=rfl
theorem Zn8 (n:Nat):(AV.row id off n L).cells=[.row id off n L]:=rfl
theorem Ziu (n:Nat) (g:Bool):(AV.view cs n g).cells=[.view cs n g]:=rfl
theorem Zsg (f:Fn) (a b:List AV):(AV.fn f a b).cells=[.fn f a b]:=rfl
theorem Zoc:(AV.agg cs).cells=cs:=rfl
theorem Zw1 (v:Value):(AV.lit v).one=v.oneCell':=rfl
theorem Zw0:(AV.ptr id off).one=true:=rfl
theorem Zqu:(AV.rptr id off L).one=true:=rfl
theorem Zqs:(AV.vptr cs).one=true:=rfl
theorem Zwz (n:Nat):(AV.row id off n L).one=true:=rfl
theorem Zqt (n:Nat) (g:Bool):(AV.view cs n g).one=true:=rfl
theorem Z1r (f:Fn) (a b:List AV):(AV.fn f a b).one=true:=rfl
theorem Zlo:Zb8 (.ptr id off)=True:=rfl
theorem Zg6:Zb8 (.rptr id off L)=True:=rfl
theorem Zg5:Zb8 (.vptr cs)=True:=rfl
end
attribute [go_sem] Zq7 Zl5 er_t er_c er_f em_t em_c em_f Zz8 Zz6 Zvj Zvh Zz5 Zvi Z4g Z0a Zz4 Zz7 Z1w Z1u Zw4 Zw2 Z1t Zw3 Z4z Z1x Z1s Zw5 Z1v w_mv g_mv Zph Zrt Zzj Z2h Z4e Z5e Zu7 Zxy w_eq g_eq w_un g_un Zzz Z2r Z34 Z48 Z4f Z5f Zvc Z4d Zva Zpi Zru Zzr Z2o Zxg Z4a Z5b Zzm Z2k Zzu Z2q Z39 Z5a Zzi Z2g Z4b Z5c Zzo Z2l Zzp Zzn Zu5 Zpg Zpj Zzy Z14 Z37 Z49 Zzs Z2p w_mn g_mn w_mx g_mx Zzl Z2j Zz0 Z15 Z2s Za4 Zca Zmv Zmu Zzt Zrd Zmg Zzw Z35 Zzv Zf7 Zpl Zvl Zi0 Zso Zyp Z38 Zxs Zmk Zho Zvb cvW cvG
theorem Zb7 (cs:List AV) (n:Nat) (f:Bool):Mq (.view cs n f)=True:=rfl
theorem Zg3 (id off n L:Nat):Mq (.row id off n L)=True:=rfl
theorem Zg4:Mq (.lit (.slice none 0 0))=True:=rfl
theorem Eh (neq:Bool) (cs:List AV) (n:Nat) (f:Bool):B7 neq (.view cs n f)=if n=0 then .anyb else .lit (.bool neq):=rfl
theorem B6 (neq:Bool) (id off n L:Nat):B7 neq (.row id off n L)=if n=0 then .anyb else .lit (.bool neq):=rfl
theorem Zln (neq:Bool):B7 neq (.lit (.slice none 0 0))=.lit (.bool !neq):=rfl
attribute [go_sem] Zu6 Zxx Zb7 Zg3 Zg4 Eh B6 Zln Zxt Zu9 Zxz Uq Py Zzk Z2i Br Zkp
attribute [go_sem] Int.reduceToNat decide_true Zxw Zrs Zx0 Zdi Zi4 Zi3 Zdh Option.toList_some Option.toList_none
attribute [go_sem] Z36 Z5m R_l R_ln R_lg R_m R_mn R_w Zu3 Znf Zr2 Zr1 R_e R_eg R_f R_a Zja Zdn Zs8 Zs5 Ztb Zta Ztc Zy4 Zs9 Zy5 Ztd Zya Zr7 Zo7 Zi9 Zs7 Zs6 Zs4 Zs3 Zy3 Zs2 Zls Zxa Zqy Zg8 Zg9 Z12 Zxd Zp9 Z1h Zwe Zkk Zkl Zsx Z3r Zyy Zot Zou Zte Z3t Zy7 Zo0 Zo1 Zp8 Zp7 Zjl Zjk List.replicate_zero List.replicate_succ List.length_set List.take_zero List.take_succ_cons List.isEmpty_cons
attribute [go_sem] Zzq Z2n Zz1 Zz2 Z2t Zzx Z13 false_and
attribute [go_sem] Z4c Z5d Zxh Zu8 Ziw Zoe
attribute [go_sem] W2 Zqf Fj resV Zen List.map_cons List.map_nil if_true if_false reduceIte Nat.reduceEqDiff Bool.false_eq_true
attribute [go_sem] Zlo Zg6 Zg5 Zna Zh2 Zh1 Zrw Zm8 Zm7 Zhj Zce Zcd Zl6 Zhi Zhh Zbj Bi Zgc Zbi Zl7 Zhm Zl8 Zl9 Zp1 Zka Zp2 Zp3 Zco Zhw Zhx Zcp Zcn Zhu Zht Zmp Zhv Zmq Zok Zoj Zsq Zsp Int.toNat_natCast Zfd ibin Zek sbin unOk unv min8 Zxu Zyz Zri Zsy Zra Zwa Zmr Zrk Z1q Hj Ef Zse ge_iff_le gt_iff_lt false_implies eqOk eqv isC B1 Zla Znh extV Aa Zl0 Zoa Zn9 Ziv Zit Zn8 Ziu Zsg Zoc Zw1 Zw0 Zqu Zqs Zwz Zqt Z1r Dj Bo Zkf Zmt idxV Zko s2bV s2bH Mb mnV mxV
attribute [go_sem] beq_true beq_false and_true true_and imp_self implies_true forall_const Bool.true_and Bool.and_true Bool.not_true Bool.not_false Bool.cond_true_left Bool.cond_false_right Bool.cond_true_right Bool.cond_false_left cond_true cond_false Bool.and_false Bool.false_and Bool.or_false Bool.false_or Bool.or_true Bool.true_or
attribute [go_sem] decide_eq_true_eq decide_eq_false_iff_not List.length_cons List.length_nil List.getD_cons_zero List.getD_cons_succ Nat.zero_add Nat.le_refl
attribute [go_sem] forall_eq forall_eq_or_imp List.mem_cons List.not_mem_nil or_false false_or
attribute [go_sem] Z7 Y2 Q8 B5 Qy Mc Zgo Zgn Zk Kb Ka List.drop_nil List.take_nil List.append_nil List.length_append List.append_assoc List.cons_append List.nil_append Nat.add_lt_add_iff_left Nat.lt_add_right_iff_pos Nat.reduceLT Nat.reduceAdd Nat.reduceLeDiff Nat.add_zero List.set_cons_zero List.set_cons_succ List.take_succ_cons List.take_zero List.drop_zero List.drop_succ_cons zlit repl
structure Sl (sz:Nat) (H:AH) (x:AV) (cs:List AV) (n:Nat):Prop where
 ok:Wy sz H x
 ns:¬ Mb x
 c:srcC sz H x=cs
 n:srcN x=n
 z:∀ id off m L,x=.row id off m L→(obj H id).sz=sz∨(obj H id).sz=0
section
variable {sz n:Nat} {H G:AH} {x:AV} {cs:List AV}
theorem Sl.view (h:cs.length=n*sz) (f:Bool):Sl sz H (.view cs n f) cs n:=⟨h,fun h => h,rfl,rfl,fun _ _ _ _ h => by cases h⟩
theorem Sl.nil:Sl sz H (.lit (.slice none 0 0)) [] 0:=⟨trivial,fun h => h,rfl,rfl,fun _ _ _ _ h => by cases h⟩
theorem Sl.row {id off L:Nat} (h1:id<H.length) (h2:L=(obj H id).cs.length) (h3:off+n*sz≤L) (h4:((obj H id).cs.drop off).take (n*sz)=cs) (h5:(obj H id).sz=sz∨(obj H id).sz=0):Sl sz H (.row id off n L) cs n :=
 ⟨⟨h1,h2,h3⟩,fun h => h,h4,rfl,fun _ _ _ _ h => by cases h; exact h5⟩
theorem Sl.cases (h:Sl sz H x cs n):(x=.lit (.slice none 0 0)∧cs=[]∧n=0)∨(∃ f,x=.view cs n f∧cs.length=n*sz)∨∃ id off L,x=.row id off n L∧id<H.length∧L=(obj H id).cs.length∧off+n*sz≤L∧((obj H id).cs.drop off).take (n*sz)=cs∧((obj H id).sz=sz∨(obj H id).sz=0):=by
 obtain ⟨h1,h2,h3,h4,h5⟩:=h
 cases x with
 | lit v =>
  unfold Wy at h1
  split at h1 <;> first | exact h1.elim | skip
  all_goals rename_i heq
  all_goals first | (cases heq; done) | skip
  ·cases heq; exact absurd trivial h2
  ·cases heq; exact .inl ⟨rfl,h3.symm,h4.symm⟩
 | view c m f =>
  cases h3; cases h4
  exact .inr (.inl ⟨f,rfl,h1⟩)
 | row id off m L =>
  cases h4
  exact .inr (.inr ⟨id,off,L,rfl,h1.1,h1.2.1,h1.2.2,h3,h5 _ _ _ _ rfl⟩)
 | _ => exact h1.elim
theorem Sl.length (h:Sl sz H x cs n):cs.length=n*sz:=by
 rcases h.cases with ⟨_,rfl,rfl⟩ | ⟨f,_,h⟩ | ⟨id,off,L,rfl,h1,h2,h3,h4,h5⟩
 ·simp
 ·exact h
 ·rw [← h4,List.length_take,List.length_drop]; omega
theorem Sl.lenT (h:Sl sz H x cs n):Ks false x=True:=by
 rcases h.cases with ⟨rfl,_⟩ | ⟨f,rfl,_⟩ | ⟨id,off,L,rfl,_⟩ <;> rfl
theorem Sl.one (h:Sl sz H x cs n):x.one=true:=by
 rcases h.cases with ⟨rfl,_⟩ | ⟨f,rfl,_⟩ | ⟨id,off,L,rfl,_⟩ <;> rfl
theorem Sl.un (h:Sl sz H x cs n):x.un=x:=by
 rcases h.cases with ⟨rfl,_⟩ | ⟨f,rfl,_⟩ | ⟨id,off,L,rfl,_⟩ <;> rfl
theorem Sl.may (h:Sl sz H x cs n) (g:Bool):Yp g x=True:=by
 rcases h.cases with ⟨rfl,_⟩ | ⟨f,rfl,_⟩ | ⟨id,off,L,rfl,_⟩ <;> rfl
theorem Sl.cells (h:Sl sz H x cs n):x.cells=[x]:=by
 rcases h.cases with ⟨rfl,_⟩ | ⟨f,rfl,_⟩ | ⟨id,off,L,rfl,_⟩ <;> rfl
theorem Sl.idx (h:Sl sz H x cs n) (k:IntKind) (i:Int):Tj sz (.lit (.int k i)) none x=(0≤i∧i<n):=by
 rcases h.cases with ⟨rfl,_,rfl⟩ | ⟨f,rfl,h1⟩ | ⟨id,off,L,rfl,_⟩
 ·show False=_
  simp
 ·simp [Tj,isI,asI,h1]
 ·simp [Tj,isI,asI]
theorem Sl.ldOk (h:Sl sz H x cs n) (k:IntKind) {i m:Nat} (hi:i<n) (hm:m≤sz):Ys m H (Xn sz (.lit (.int k i)) x)=True:=by
 have hle:i*sz+sz≤n*sz:=by rw [← Nat.succ_mul]; exact Nat.mul_le_mul_right _ hi
 rcases h.cases with ⟨rfl,_,rfl⟩ | ⟨f,rfl,h1⟩ | ⟨id,off,L,rfl,h1,h2,h3,h4,h5⟩
 ·omega
 ·simp only [Xn,Ys,asI,Int.toNat_natCast,elt,List.length_take,List.length_drop,eq_iff_iff,iff_true]; omega
 ·simp only [Xn,Ys,asI,Int.toNat_natCast,eq_iff_iff,iff_true]; exact ⟨h1,h2,by omega⟩
theorem Sl.ld (h:Sl sz H x cs n) (k:IntKind) {i m:Nat} (hi:i<n) (hm:m≤sz) (hz:0<sz) (agg:Bool):Y8 agg m H (Xn sz (.lit (.int k i)) x)=if agg then .agg ((elt cs sz i).take m) else cs.getD (i*sz) .junk:=by
 have hle:i*sz+sz≤n*sz:=by rw [← Nat.succ_mul]; exact Nat.mul_le_mul_right _ hi
 rcases h.cases with ⟨rfl,_,rfl⟩ | ⟨f,rfl,h1⟩ | ⟨id,off,L,rfl,h1,h2,h3,h4,h5⟩
 ·omega
 ·simp only [Xn,Y8,asI,Int.toNat_natCast]
  cases agg
  ·simp only [Bool.false_eq_true,if_false,elt,List.getD_eq_getElem?_getD,List.getElem?_take,if_pos hz,List.getElem?_drop,Nat.add_zero]
  ·simp
 ·simp only [Xn,Y8,asI,Int.toNat_natCast]
  subst h4
  cases agg
  ·simp only [Bool.false_eq_true,if_false,List.getD_eq_getElem?_getD,List.getElem?_take,List.getElem?_drop]
   rw [if_pos (by omega)]
  ·simp only [if_true,elt,List.take_take,List.drop_take,List.drop_drop]
   congr 2
   omega
theorem Sl.ld1 (h:Sl 1 H x cs n) (k:IntKind) {i:Nat} (hi:i<n):Y8 false 1 H (Xn 1 (.lit (.int k i)) x)=cs.getD i .junk:=by
 rw [h.ld k hi (Nat.le_refl _) (by decide)]; simp
theorem Sl.ldA (h:Sl sz H x cs n) (k:IntKind) {i:Nat} (hi:i<n) (hz:0<sz):Y8 true sz H (Xn sz (.lit (.int k i)) x)=.agg (elt cs sz i):=by
 rw [h.ld k hi (Nat.le_refl _) hz]
 simp [elt,List.take_take]
theorem Sl.fdOk (h:Sl sz H x cs n) (k:IntKind) {i o m:Nat} (hi:i<n) (hm:o+m≤sz):Fs (Xn sz (.lit (.int k i)) x)=True∧Ys m H (fldV o (Xn sz (.lit (.int k i)) x))=True:=by
 have hle:i*sz+sz≤n*sz:=by rw [← Nat.succ_mul]; exact Nat.mul_le_mul_right _ hi
 rcases h.cases with ⟨rfl,_,rfl⟩ | ⟨f,rfl,h1⟩ | ⟨id,off,L,rfl,h1,h2,h3,h4,h5⟩
 ·omega
 ·refine ⟨rfl,?_⟩
  simp only [Xn,fldV,Ys,asI,Int.toNat_natCast,elt,List.length_take,List.length_drop,eq_iff_iff,iff_true]; omega
 ·refine ⟨rfl,?_⟩
  simp only [Xn,fldV,Ys,asI,Int.toNat_natCast,eq_iff_iff,iff_true]; exact ⟨h1,h2,by omega⟩
theorem Sl.fd (h:Sl sz H x cs n) (k:IntKind) {i o m:Nat} (hi:i<n) (hm:o+m≤sz) (h0:0<m) (agg:Bool):Y8 agg m H (fldV o (Xn sz (.lit (.int k i)) x))=if agg then .agg ((cs.drop (i*sz+o)).take m) else cs.getD (i*sz+o) .junk:=by
 have hle:i*sz+sz≤n*sz:=by rw [← Nat.succ_mul]; exact Nat.mul_le_mul_right _ hi
 rcases h.cases with ⟨rfl,_,rfl⟩ | ⟨f,rfl,h1⟩ | ⟨id,off,L,rfl,h1,h2,h3,h4,h5⟩
 ·omega
 ·simp only [Xn,fldV,Y8,asI,Int.toNat_natCast,elt,List.drop_take,List.drop_drop]
  cases agg
  ·simp only [Bool.false_eq_true,if_false,List.getD_eq_getElem?_getD,List.getElem?_take,List.getElem?_drop,Nat.add_zero]
   rw [if_pos (by omega)]
  ·simp only [if_true,List.take_take]
   congr 2
   omega
 ·simp only [Xn,fldV,Y8,asI,Int.toNat_natCast]
  subst h4
  cases agg
  ·simp only [Bool.false_eq_true,if_false,List.getD_eq_getElem?_getD,List.getElem?_take,List.getElem?_drop]
   rw [if_pos (by omega)]
   congr 2
   omega
  ·simp only [if_true,List.drop_take,List.take_take,List.drop_drop]
   rw [show off+i*sz+o=off+(i*sz+o) by omega]
   congr 2
   omega
theorem Sl.app (h:Sl sz H x cs n):Sl sz (H++G) x cs n:=by
 rcases h.cases with ⟨rfl,rfl,rfl⟩ | ⟨f,rfl,h1⟩ | ⟨id,off,L,rfl,h1,h2,h3,h4,h5⟩
 ·exact .nil
 ·exact .view h1 f
 ·have e:=Z1 H G h1
  exact .row (by simp; omega) (by rw [e]; exact h2) h3 (by rw [e]; exact h4) (by rw [e]; exact h5)
theorem Sl.nilc (h:Sl sz H x cs n) {K1 K2:Prop} (h1:n=0→K1) (h2:K2):Mq x∧iteK K1 K2 (B7 false x):=by
 rcases h.cases with ⟨rfl,rfl,rfl⟩ | ⟨f,rfl,_⟩ | ⟨id,off,L,rfl,_⟩
 ·exact ⟨trivial,fun _ => h1 rfl,fun h => (by cases h)⟩
 ·refine ⟨trivial,?_⟩
  rw [Eh]
  split
  ·rename_i h0; exact ⟨h1 h0,h2⟩
  ·exact ⟨fun h => (by cases h),fun _ => h2⟩
 ·refine ⟨trivial,?_⟩
  rw [B6]
  split
  ·rename_i h0; exact ⟨h1 h0,h2⟩
  ·exact ⟨fun h => (by cases h),fun _ => h2⟩
end
/-! ### Slices of slices -/
def lo0:Option AV→Nat
 | none => 0
 | some v => (asI v).toNat
def hi0 (n:Nat):Option AV→Nat
 | none => n
 | some v => (asI v).toNat
section
variable {sz n:Nat} {H G:AH} {x:AV} {cs:List AV}
theorem Zas (lo:Option AV):(bnd 0 lo).toNat=lo0 lo:=by cases lo <;> rfl
theorem Zat (n:Nat) (hi:Option AV):(bnd n hi).toNat=hi0 n hi:=by cases hi <;> simp [bnd,hi0]
theorem Sl.slOk (h:Sl sz H x cs n) {lo hi:Option AV} (hb:T2 n lo hi none):Xx sz H lo hi none none x:=by
 rcases h.cases with ⟨rfl,rfl,rfl⟩ | ⟨f,rfl,h1⟩ | ⟨id,off,L,rfl,h1,h2,h3,h4,h5⟩
 ·exact hb
 ·exact ⟨hb,h1⟩
 ·refine ⟨h1,h2,h5,?_⟩
  obtain ⟨b0,b1,b2,b3,b4,b5,b6⟩:=hb
  have hc:n≤Mf (obj H id).sz sz n off L:=by
   unfold Mf
   split
   ·exact Nat.le_refl _
   ·exact Nat.le_max_left _ _
  refine ⟨b0,b1,b2,b3,b4,?_,?_⟩
  ·show bnd n hi≤_
   have:bnd (n:Int) none=n:=rfl
   have e:bnd ((Mf (obj H id).sz sz n off L:Nat):Int) none=(Mf (obj H id).sz sz n off L:Nat):=rfl
   omega
  ·exact Int.le_refl _
theorem Sl.sl (h:Sl sz H x cs n) {lo hi:Option AV} (hb:T2 n lo hi none):Sl sz H (Xl sz H lo hi none none x) (cut cs sz (lo0 lo) (hi0 n hi)) (hi0 n hi - lo0 lo):=by
 obtain ⟨_,_,_,b1,b2,b3,b4⟩:=hb
 have e1:=Zas lo
 have e2:=Zat n hi
 have hle:lo0 lo≤hi0 n hi:=by omega
 have hhn:hi0 n hi≤n:=by have:bnd (n:Int) none=n:=rfl; omega
 have hmul:(hi0 n hi - lo0 lo)*sz+lo0 lo*sz≤n*sz:=by rw [← Nat.add_mul]; exact Nat.mul_le_mul_right _ (by omega)
 rcases h.cases with ⟨rfl,rfl,rfl⟩ | ⟨f,rfl,h1⟩ | ⟨id,off,L,rfl,h1,h2,h3,h4,h5⟩
 ·have:hi0 0 hi - lo0 lo=0:=by omega
  simp only [Xl,cut,List.drop_nil,List.take_nil,this]
  exact .nil
 ·simp only [Xl,e1,e2]
  exact .view (by simp only [cut,List.length_take,List.length_drop]; omega) _
 ·simp only [Xl,e1,e2,Option.isSome_none,Bool.false_and,Bool.false_eq_true,if_false]
  refine .row h1 h2 (by omega) ?_ h5
  subst h4
  simp only [cut,List.drop_take,List.take_take,List.drop_drop]
  rw [Nat.min_eq_left (by omega)]
end
/-! ### Bytes -/
abbrev u8 (b:UInt8):AV:=.lit (.int .u8 b.toNat)
abbrev bs (l:List UInt8):List AV:=l.map u8
abbrev vB (l:List UInt8) (f:Bool):AV:=.view (bs l) l.length f
abbrev Str (l:List UInt8):AV:=.lit (.string ⟨l.toArray⟩)
theorem P8 {α:Type} (f:α→AV) (h:∀ a,(f a).pure=true):∀ l:List α,Yg (l.map f)=true
 | [] => rfl
 | a::r => by simp only [List.map_cons,Yg,h a,P8 f h r,Bool.and_self]
theorem Mj:∀ {l:List AV},(∀ a ∈ l,a.pure=true)→Yg l=true
 | [],_ => rfl
 | a::r,h => by simp only [Yg,h a (by simp),Mj (l:=r) fun b hb => h b (by simp [hb]),Bool.and_self]
theorem Zb6 {α:Type} (f:α→AV) (h:∀ a,(f a).one=true) (l:List α):(l.map f).all AV.one=true:=by simp [h]
theorem Y1 (l:List UInt8):Yg (bs l)=true:=P8 u8 (fun _ => rfl) l
theorem Yz (l:List UInt8):(bs l).all AV.one=true:=Zb6 u8 (fun _ => rfl) l
theorem Fc (l:List UInt8) (i:Nat) (h:i<l.length):(bs l).getD i .junk=u8 (l.getD i 0):=by
 rw [List.getD_eq_getElem?_getD,List.getElem?_map,List.getD_eq_getElem?_getD,List.getElem?_eq_getElem h]; rfl
theorem Zjj (b:UInt8):Bc (u8 b)=b:=by simp [Bc]
theorem Sl.b2s {l:List UInt8} {H:AH} {x:AV} (h:Sl 1 H x (bs l) l.length):Zi2 H x=True∧b2sV H x=Str l:=by
 refine ⟨?_,?_⟩
 ·simp only [Zi2,h.c,eq_iff_iff,iff_true]
  refine ⟨h.ns,h.ok,?_⟩
  simp [Aj]
 ·simp only [b2sV,h.c,Str]
  congr 3
  rw [List.map_map]
  exact congrArg List.toArray ((List.map_congr_left fun b _ => Zjj b).trans (List.map_id l))
theorem Sl.vB {H:AH} (l:List UInt8) (f:Bool):Sl 1 H (vB l f) (bs l) l.length:=.view (by simp) f
theorem Di (l:List UInt8):(ByteArray.mk l.toArray).size=l.length:=by simp [ByteArray.size]
theorem Zgb (l:List UInt8):(ByteArray.mk l.toArray).toList=l:=by
 have key:∀ (n i:Nat) (r:List UInt8),i+n=l.length→ByteArray.toList.loop ⟨l.toArray⟩ i r=r.reverse++l.drop i:=by
  intro n
  induction n with
  | zero =>
   intro i r h
   unfold ByteArray.toList.loop
   rw [if_neg (by rw [Di]; omega),List.drop_eq_nil_of_le (by omega),List.append_nil]
  | succ n ih =>
   intro i r h
   unfold ByteArray.toList.loop
   rw [if_pos (by rw [Di]; omega),ih (i+1) _ (by omega)]
   have hi:i<l.length:=by omega
   rw [List.drop_eq_getElem_cons hi,List.reverse_cons,List.append_assoc]
   congr 2
   simp [ByteArray.get!,hi]
 have:=key l.length 0 [] (by omega)
 simpa [ByteArray.toList] using this
/-! ### Ends with a new row -/
section
variable {sz n:Nat} {H G:AH} {x:AV} {cs:List AV}
theorem Vd {ren:Nat→Option Nat} (h0:ren H.length=none) (hz:0<sz) (hc:cs.length=n*sz) (hp:Yg cs=true) (w:Bool) (L:Nat) (hL:L=cs.length):low ren (H++[⟨cs,sz,w⟩]) (.row H.length 0 n L)=.view cs n false:=by
 have e:obj (H++[⟨cs,sz,w⟩]) H.length=⟨cs,sz,w⟩:=by rw [Z7]; rfl
 simp only [low,h0,Vk,e,if_neg (show ¬ sz=0 by omega)]
 have e2:(cs.drop 0).take (n*sz)=cs:=by rw [List.drop_zero,List.take_of_length_le (by omega)]
 rw [e2,if_pos ⟨hL,by omega,hp⟩]
theorem Vl (n:Nat):renk n [] n=none:=by simp [renk]
theorem Dx (n k:Nat):renk n [] (n+k)=none:=by simp [renk]
end
theorem Lm {α:Type} (f:α→AV) (l:List α) (i:Nat) (h:i<l.length) (d:α):elt (l.map f) 1 i=[f (l.getD i d)]:=by
 simp only [elt,Nat.mul_one]
 rw [← List.map_drop,List.drop_eq_getElem_cons h,List.map_cons,List.take_succ_cons,List.take_zero,List.getD_eq_getElem?_getD,List.getElem?_eq_getElem h,Option.getD_some]
theorem Tt {α:Type} {l:List α} {i:Nat} (h:i<l.length) (d:α):l.getD i d ∈ l:=by
 rw [List.getD_eq_getElem?_getD,List.getElem?_eq_getElem h]; exact List.getElem_mem h
theorem Yx {α:Type} {l:List α} {i:Nat} (h:i<l.length) (d:α):l.take (i+1)=l.take i++[l.getD i d]:=by
 rw [List.take_add_one,List.getD_eq_getElem?_getD,List.getElem?_eq_getElem h]; rfl
theorem Vr {α:Type} {l:List α} {i:Nat} (h:i<l.length) (d:α):l.drop i=l.getD i d::l.drop (i+1):=by
 rw [List.drop_eq_getElem_cons h,List.getD_eq_getElem?_getD,List.getElem?_eq_getElem h]; rfl
/-! ### Rules -/
theorem Rt {H:AH} {v2 v:AV} (h:Le v2 v):Leave H v2 H v H:=fun φ0 w0 φ w y _ h2 h3 h4 => ⟨φ,h2,h3,h _ _ h4⟩
theorem U3 {H G:AH} {v2 v:AV} (h:Le (low (renk H.length []) (H++G) v2) v):Leave H v2 (H++G) v H:=(Zc rfl).trans (fun φ0 w0 φ w y _ h2 h3 h4 => ⟨φ,h2,h3,h _ _ h4⟩)
section
variable {sz n:Nat} {H G:AH} {x:AV} {cs:List AV}
theorem Sl.s (h:Sl sz H x cs n):Ks false x=True∧srcN x=n∧Wy sz H x=True∧srcC sz H x=cs∧x.un=x∧(∀ g,Yp g x=True)∧x.one=true∧x.cells=[x] :=
 ⟨h.lenT,h.n,eq_true h.ok,h.c,h.un,h.may,h.one,h.cells⟩
theorem Zh6 (t:Nat):Zq t []=True:=rfl
theorem Zcu (t o k:Nat) (v:AV) (r:List (Nat × Nat × AV)):Zq t ((o,k,v)::r)=((v.cells.length=k∧o+k≤t∧v.cells.all AV.one=true)∧Zq t r):=rfl
theorem Zne (cs:List AV):fillv cs []=cs:=rfl
theorem Zh5 (cs:List AV) (o:Nat) (v:AV) (r:List (Nat × AV)):fillv cs ((o,v)::r)=fillv (splice cs o v.cells) r:=rfl
theorem Zf2 (sz b:Nat) (H:AH) (s x:AV):Ow sz b H s x=(Wy sz H x∧(srcC sz H x).all AV.one=true∧(srcN s+srcN x)*b≤140737488355328∧Ur sz H x s):=rfl
theorem Zox (sz b:Nat) (H:AH) (s x:AV):Zay sz b H s x=(Wy sz H x∧Yg (srcC sz H x)=true∧(srcC sz H x).all AV.one=true∧(srcN s+srcN x)*b≤140737488355328∧N0 sz s):=rfl
theorem Zsw (sz:Nat) (H:AH) (x:AV):Ur sz H x (.lit (.slice none 0 0))=True:=rfl
theorem Zyx (sz:Nat) (H:AH) (x:AV):Ur sz H x (.view [] 0 true)=True:=by simp [Ur]
theorem Zsv (sz:Nat) (H:AH) (x:AV) (id off n L:Nat):Ur sz H x (.row id off n L)=(id<H.length∧L=(obj H id).cs.length∧(obj H id).rw=true∧(obj H id).sz=sz∧off+n*sz≤L∧(off=0∨off+(n+srcN x)*sz≤L)):=rfl
theorem Zjh (sz:Nat):N0 sz (.lit (.slice none 0 0))=True:=rfl
theorem Zf6 (sz:Nat) (cs:List AV) (n:Nat) (f:Bool):N0 sz (.view cs n f)=(f=true∧cs.length=n*sz):=rfl
theorem V9 (sz:Nat) (H:AH) (x:AV):appV sz H x (.lit (.slice none 0 0))=.row H.length 0 (srcN x) (srcC sz H x).length:=rfl
theorem Ub (sz:Nat) (H:AH) (x:AV):appH sz H x (.lit (.slice none 0 0))=H++[⟨srcC sz H x,sz,true⟩]:=rfl
theorem Zy0 (sz:Nat) (H:AH) (x:AV) (f:Bool):appV sz H x (.view [] 0 f)=.row H.length 0 (srcN x) (srcC sz H x).length:=rfl
theorem Zy2 (sz:Nat) (H:AH) (x:AV) (f:Bool):appH sz H x (.view [] 0 f)=H++[⟨srcC sz H x,sz,true⟩]:=rfl
theorem V8 (sz:Nat) (H:AH) (x:AV) (id off n L:Nat):appV sz H x (.row id off n L)=.row id off (n+srcN x) (appL sz off n (srcN x) (srcC sz H x).length L):=rfl
theorem Ua (sz:Nat) (H:AH) (x:AV) (id off n L:Nat):appH sz H x (.row id off n L)=setO H id (appC sz (obj H id).cs (srcC sz H x) off n (srcN x) L):=rfl
theorem Zow (sz:Nat) (H:AH) (x:AV):Zdk sz H x (.lit (.slice none 0 0))=.view (srcC sz H x) (srcN x) false:=rfl
theorem Zi7 (sz:Nat) (H:AH) (x:AV) (cs:List AV) (n:Nat) (f:Bool):Zdk sz H x (.view cs n f)=.view (cs++srcC sz H x) (n+srcN x) false:=rfl
theorem Ol {sz n m L:Nat} {cs src:List AV} (h:n*sz=L):appC sz cs src 0 n m L=cs++src:=by rw [appC,if_pos (by omega)]
theorem Lx {sz n m s L:Nat} (h:n*sz=L):appL sz 0 n m s L=L+s:=by rw [appL,if_pos (by omega)]
theorem Zgf (sz:Nat) (H:AH) (cs:List AV) (n:Nat) (f:Bool):Wy sz H (.view cs n f)=(cs.length=n*sz):=rfl
theorem Zj8 (sz:Nat) (H:AH):Wy sz H (.lit (.slice none 0 0))=True:=rfl
theorem Zj7 (sz:Nat) (H:AH) (id off n L:Nat):Wy sz H (.row id off n L)=(id<H.length∧L=(obj H id).cs.length∧off+n*sz≤L):=rfl
theorem Zkb (sz:Nat) (H:AH) (cs:List AV) (n:Nat) (f:Bool):srcC sz H (.view cs n f)=cs:=rfl
theorem Zp5 (sz:Nat) (H:AH):srcC sz H (.lit (.slice none 0 0))=[]:=rfl
theorem Zp4 (sz:Nat) (H:AH) (id off n L:Nat):srcC sz H (.row id off n L)=((obj H id).cs.drop off).take (n*sz):=rfl
attribute [go_sem] Zh6 Zcu Zne Zh5 Zf2 Zox Zsw Zyx Zsv Zjh Zf6 V9 Ub Zy0 Zy2 V8 Ua Zow Zi7 Zgf Zj8 Zj7 Zkb Zp5 Zp4
attribute [go_sem] Bool.bne_false Bool.bne_true Bool.true_bne Bool.false_bne Zgb Di Bool.true_eq_false Bool.false_eq_true
attribute [go_sem] List.replicate_zero List.replicate_succ List.flatten_nil List.flatten_cons Value.oneCell' List.all_cons List.all_nil Yg AV.pure
end
section
variable {sz n:Nat} {H G:AH} {x:AV} {cs:List AV}
theorem Zbo (lo hi mx:Option AV) (id off L:Nat):Xx sz H lo hi mx none (.row id off n L)=(id<H.length∧L=(obj H id).cs.length∧((obj H id).sz=sz∨(obj H id).sz=0)∧bndR n (Mf (obj H id).sz sz n off L) lo hi mx):=rfl
theorem Zyo (m c:Nat) (lo hi mx:Option AV):bndR m c lo hi mx=(bndI lo∧bndI hi∧bndI mx∧0≤bnd 0 lo∧bnd 0 lo≤bnd m hi∧bnd m hi≤bnd c mx∧bnd c mx≤c):=rfl
theorem Bn (lo hi mx:Option AV) (f:Bool):Xx sz H lo hi mx none (.view cs n f)=(T2 n lo hi mx∧cs.length=n*sz):=rfl
theorem Zbq (lo hi mx:Option AV):Xx sz H lo hi mx none (.lit (.slice none 0 0))=T2 0 lo hi mx:=rfl
theorem Zbp (lo hi mx:Option AV) (m id off:Nat):Xx sz H lo hi mx (some m) (.ptr id off)=(id<H.length∧T2 m lo hi mx):=rfl
theorem Bm (lo hi mx:Option AV) (m:Nat):Xx sz H lo hi mx (some m) (.vptr cs)=(T2 m lo hi mx∧m*sz≤cs.length):=rfl
theorem Zgh (lo hi:Option AV) (id off L:Nat):Xl sz H lo hi none none (.row id off n L)=.row id (off+lo0 lo*sz) (hi0 n hi - lo0 lo) L:=by
 simp only [Xl,Zas,Zat,Option.isSome_none,Bool.false_and,Bool.false_eq_true,if_false]
theorem Zbm (lo hi:Option AV) (f:Bool):Xl sz H lo hi none none (.view cs n f)=.view (cut cs sz (lo0 lo) (hi0 n hi)) (hi0 n hi - lo0 lo) (f&&decide (bnd n hi=n)):=by
 simp only [Xl,Zas,Zat,Option.isSome_none,Bool.false_or]; rfl
theorem Zgj (lo hi:Option AV):Xl sz H lo hi none none (.lit (.slice none 0 0))=.lit (.slice none 0 0):=rfl
theorem natz:((0:Nat):Int)=0:=rfl
theorem Zgi (lo hi mx:Option AV) (m id off:Nat):Xl sz H lo hi mx (some m) (.ptr id off)=.row id (off+lo0 lo*sz) (hi0 m hi - lo0 lo) (obj H id).cs.length:=by
 simp only [Xl,Zas,Zat]
theorem Zbl (lo hi mx:Option AV) (m:Nat):Xl sz H lo hi mx (some m) (.vptr cs)=.view (cut cs sz (lo0 lo) (hi0 m hi)) (hi0 m hi - lo0 lo) false:=by
 simp only [Xl,Zas,Zat]
theorem Zq8 (k:IntKind) (i:Int):lo0 (some (.lit (.int k i)))=i.toNat:=rfl
theorem Zrm (m:Nat) (k:IntKind) (i:Int):hi0 m (some (.lit (.int k i)))=i.toNat:=rfl
theorem Zq9:lo0 none=0:=rfl
theorem Zrn (m:Nat):hi0 m none=m:=rfl
theorem Zsm (m:Int) (lo hi mx:Option AV):T2 m lo hi mx=(bndI lo∧bndI hi∧bndI mx∧0≤bnd 0 lo∧bnd 0 lo≤bnd m hi∧bnd m hi≤bnd m mx∧bnd m mx≤m):=rfl
theorem Zoh:bndI none=True:=rfl
theorem Zsn (k:IntKind) (i:Int):bndI (some (.lit (.int k i)))=True:=rfl
theorem Zog (m:Int):bnd m none=m:=rfl
theorem Zyn (m:Int) (k:IntKind) (i:Int):bnd m (some (.lit (.int k i)))=i:=rfl
theorem Zxb {α:Type} (x:α):(some x≠none)=True:=by simp
theorem Zr3 {α:Type} (x:α):(some x=none)=False:=by simp
attribute [go_sem] Zyo Mf Nat.div_one Nat.sub_zero Nat.mul_one Nat.zero_mul Zbo Bn Zbq Zbp Bm Zgh Zbm Zgj natz Int.sub_zero Zgi Zbl Zq8 Zrm Zq9 Zrn Zsm Zoh Zsn Zog Zyn Option.map_some Option.map_none Zxb Zr3 or_true true_or Int.le_refl
end
end Go.Proofs.YtcgjlpdkobmpnaaGreat.Eng
namespace Go.Proofs.YtcgjlpdkobmpnaaGreat.Eng
open Go Go.ChangeShapes Go.WideShapes Go.ChangeAt Go.RowKit
set_option linter.unusedVariables false
set_option linter.unusedSimpArgs false
section
variable {P:Program} {d:Nat} {t e:TypeId} {x:List AV}
theorem Z4j {n:Int} (h:(Lit.int .u8 n).wf=true):∃ b:UInt8,n=b.toNat:=by
 simp [Lit.wf,IntKind.min,IntKind.max,IntKind.signed,IntKind.bits] at h
 refine ⟨UInt8.ofNat n.toNat,?_⟩
 simp
 omega
theorem Zim {α:Type} {f:α→AV} {Q:α→Prop} (hu:P.underlying t=some (.slice e)) (hdec:∀ y,y.length=P.cellsOf e∧shape P d e y→∃ a,y=[f a]∧Q a) (h:shape P (d+1) t x) :
  ∃ (l:List α) (full:Bool),x=[.view (l.map f) l.length full]∧(∀ a ∈ l,Q a)∧l.length*P.bytesOf e≤reachBytes:=by
 obtain ⟨els,full,rfl,h1,h2⟩:=U9 hu h
 have key:∀ els:List (List AV),(∀ y ∈ els,y.length=P.cellsOf e∧shape P d e y)→∃ l:List α,els.flatten=l.map f∧l.length=els.length∧∀ a ∈ l,Q a:=by
  intro els
  induction els with
  | nil => exact fun _ => ⟨[],rfl,rfl,by simp⟩
  | cons y els ih =>
   intro hh
   obtain ⟨l,g1,g2,g3⟩:=ih fun z hz => hh z (by simp [hz])
   obtain ⟨a,rfl,hq⟩:=hdec y (hh y (by simp))
   exact ⟨a::l,by simp [g1],by simp [g2],fun b hb => by
    rcases List.mem_cons.1 hb with rfl | hb
    ·exact hq
    ·exact g3 b hb⟩
 obtain ⟨l,g1,g2,g3⟩:=key els h2
 exact ⟨l,full,by rw [g1,g2],g3,by rw [g2]; exact h1⟩
theorem Zn5 (hu:P.underlying t=some (.slice e)) (he:P.underlying e=some (.int .u8)) (hb:P.bytesOf e=1) (h:shape P (d+2) t x):∃ (l:List UInt8) (f:Bool),x=[vB l f]∧l.length≤140737488351232:=by
 obtain ⟨l,f,h1,_,h2⟩:=Zim (f:=u8) (Q:=fun _ => True) hu (fun y hy => by
  obtain ⟨n,rfl,w⟩:=Xg he hy.2
  obtain ⟨b,rfl⟩:=Z4j w
  exact ⟨b,rfl,trivial⟩) h
 exact ⟨l,f,h1,by rw [hb,Nat.mul_one] at h2; exact h2⟩
end
set_option linter.unusedSimpArgs false
abbrev nilS:AV:=.lit (.slice none 0 0)
abbrev nilE:AV:=.lit .nilIface
def Fr (H H':AH) (S:Nat→Prop):Prop:=H.length≤H'.length∧∀ i,i<H.length→¬ S i→obj H' i=obj H i
theorem Fr.refl (H:AH) (S:Nat→Prop):Fr H H S:=⟨Nat.le_refl _,fun _ _ _ => rfl⟩
theorem Fr.trans {H H1 H2:AH} {S:Nat→Prop} (h:Fr H H1 S) (h':Fr H1 H2 S):Fr H H2 S :=
 ⟨Nat.le_trans h.1 h'.1,fun i hi hs => (h'.2 i (Nat.lt_of_lt_of_le hi h.1) hs).trans (h.2 i hi hs)⟩
theorem Fr.mono {H H1:AH} {S S':Nat→Prop} (h:Fr H H1 S) (hs:∀ i,i<H.length→S i→S' i):Fr H H1 S':=⟨h.1,fun i hi h' => h.2 i hi fun hh => h' (hs i hi hh)⟩
theorem Fr.set (H:AH) {p:Nat} (cs:List AV) {S:Nat→Prop} (hp:S p):Fr H (setO H p cs) S :=
 ⟨by simp [Zk],fun i _ h => W7 _ _ fun e => h (e ▸ hp)⟩
theorem Fr.app (H G:AH) (S:Nat→Prop):Fr H (H++G) S:=⟨by simp,fun i hi _ => Z1 _ _ hi⟩
theorem Ze4 {H:AH} {i:Nat} (h:i<H.length):H[i]? = some (obj H i):=by
 simp [obj,List.getD_eq_getElem?_getD,List.getElem?_eq_getElem h]
theorem Fr.split {H H':AH} {S:Nat→Prop} (h:Fr H H' S) (hS:∀ i,¬ S i):∃ G,H'=H++G:=by
 refine ⟨H'.drop H.length,?_⟩
 have e:H'.take H.length=H:=by
  apply List.ext_getElem?
  intro i
  rw [List.getElem?_take]
  split
  ·rename_i hi
   rw [Ze4 (Nat.lt_of_lt_of_le hi h.1),Ze4 hi,h.2 i hi (hS i)]
  ·rename_i hi
   rw [List.getElem?_eq_none (by omega)]
 conv => lhs; rw [← List.take_append_drop H.length H',e]
def rid:AV→Option Nat
 | .row q _ _ _ => some q
 | _ => none
def New (H:AH) (x x':AV):Prop:=∀ q,rid x'=some q→rid x=some q∨H.length≤q
theorem New.refl (H:AH) (x:AV):New H x x:=fun _ h => .inl h
def GR (H:AH) (x:AV) (vs:List AV):Prop :=
 (x=nilS∧vs=[])∨∃ q L cs,x=.row q 0 vs.length L∧q<H.length∧obj H q=⟨cs,1,true⟩∧L=cs.length∧vs.length≤L∧cs.take vs.length=vs
section
variable {H H':AH} {x:AV} {vs:List AV}
theorem GR.nil:GR H nilS []:=.inl ⟨rfl,rfl⟩
theorem GR.frame (h:GR H x vs) {S:Nat→Prop} (hf:Fr H H' S) (hs:∀ q,rid x=some q→¬ S q):GR H' x vs:=by
 rcases h with h | ⟨q,L,cs,rfl,h1,h2,h3⟩
 ·exact .inl h
 ·exact .inr ⟨q,L,cs,rfl,Nat.lt_of_lt_of_le h1 hf.1,(hf.2 q h1 (hs q rfl)).trans h2,h3⟩
theorem GR.sl (h:GR H x vs):Sl 1 H x vs vs.length:=by
 rcases h with ⟨rfl,rfl⟩ | ⟨q,L,cs,rfl,h1,h2,h3,h4,h5⟩
 ·exact .nil
 ·exact .row h1 (by rw [h2,h3]) (by omega) (by rw [h2]; simpa using h5) (.inl (by rw [h2]))
theorem GR.lt (h:GR H x vs) {q:Nat} (hq:rid x=some q):q<H.length:=by
 rcases h with ⟨rfl,rfl⟩ | ⟨q',L,cs,rfl,h1,_⟩
 ·cases hq
 ·cases hq; exact h1
theorem GR.app (h:GR H x vs) {s v:AV} {b:Nat} (h1:Wy 1 H s) (h2:srcC 1 H s=[v]) (h3:srcN s=1) (hv:v.one=true) (hb:(vs.length+1)*b≤140737488355328) :
  Ow 1 b H x s∧GR (appH 1 H s x) (appV 1 H s x) (vs++[v])∧New H x (appV 1 H s x)∧Fr H (appH 1 H s x) (fun i => rid x=some i):=by
 rcases h with ⟨rfl,rfl⟩ | ⟨q,L,cs,rfl,g1,g2,g3,g4,g5⟩
 ·refine ⟨⟨h1,by simp [h2,hv],by rw [h3]; simpa [srcN] using hb,trivial⟩,?_,?_,?_⟩
  ·rw [V9,Ub,h2,h3]
   exact .inr ⟨H.length,1,[v],rfl,by simp,by rw [Z7]; rfl,rfl,Nat.le_refl _,rfl⟩
  ·intro q hq; rw [V9] at hq; cases hq; exact .inr (Nat.le_refl _)
  ·rw [Ub]; exact Fr.app _ _ _
 ·refine ⟨⟨h1,by simp [h2,hv],by rw [h3]; exact hb,g1,by rw [g2,g3],by rw [g2],by rw [g2],by omega,.inl rfl⟩,?_,?_,?_⟩
  ·rw [V8,Ua,h2,h3,g2]
   refine .inr ⟨q,_,_,by rw [List.length_append]; rfl,by rw [Zk]; exact g1,by rw [Yj _ _ g1,g2],?_,?_,?_⟩
   ·simp only [appL,appC,Nat.zero_add,Nat.mul_one]
    split
    ·simp [g3]
    ·simp only [List.length_append,List.length_take,List.length_drop,List.length_cons,List.length_nil]; omega
   ·simp only [appL,Nat.zero_add,Nat.mul_one,List.length_append,List.length_cons,List.length_nil]
    split <;> omega
   ·simp only [appC,Nat.zero_add,Nat.mul_one,List.length_append,List.length_cons,List.length_nil]
    split
    ·rename_i hh
     have:cs=vs:=by rw [← g5,List.take_of_length_le (by omega)]
     subst this
     rw [List.take_of_length_le (by simp)]
    ·rw [g5,List.take_append_of_le_length (by simp),List.take_of_length_le (by simp)]
  ·intro q' hq; rw [V8] at hq; exact .inl hq
  ·rw [Ua]; exact Fr.set _ _ rfl
end
theorem Zt (l:List UInt8):(bs l).length=l.length:=List.length_map _
theorem Bp {H:AH} {p:Nat} {cs:List AV} {sz:Nat} {w:Bool} (h:obj H p=⟨cs,sz,w⟩) (hp:p<H.length):setO H p cs=H:=by
 have e:(⟨cs,(obj H p).sz,(obj H p).rw⟩:AObj)=H[p]:=by
  have:obj H p=H[p]:=by simp [obj,List.getD_eq_getElem?_getD,List.getElem?_eq_getElem hp]
  rw [← this,h]
 rw [setO,e,List.set_getElem_self]
/-! ### Numbers' bytes,the highest first -/
def be:List UInt8→Nat:=List.foldl (fun n b => n*256+b.toNat) 0
def beN (k n:Nat):List UInt8:=(List.range k).map fun i => UInt8.ofNat (n / 256^(k - 1 - i))
theorem Zfz (l:List UInt8) (a:Nat):l.foldl (fun n b => n*256+b.toNat) a=a*256^l.length+be l:=by
 induction l generalizing a with
 | nil => simp [be]
 | cons b r ih =>
  show r.foldl _ (a*256+b.toNat)=_
  have e:be (b::r)=r.foldl (fun n b => n*256+b.toNat) (0*256+b.toNat):=rfl
  rw [ih,e,ih,List.length_cons,Nat.pow_succ,Nat.add_mul,Nat.zero_mul,Nat.zero_add,Nat.mul_assoc,Nat.mul_comm 256,Nat.add_assoc]
theorem Zoo (a b:List UInt8):be (a++b)=be a*256^b.length+be b:=by
 rw [be,List.foldl_append,Zfz]; rfl
theorem C3 (a:List UInt8) (b:UInt8):be (a++[b])=be a*256+b.toNat:=by
 rw [Zoo]; simp [be]
theorem Zyu (b:UInt8) (r:List UInt8):be (b::r)=b.toNat*256^r.length+be r:=by
 have e:be (b::r)=r.foldl (fun n b => n*256+b.toNat) (0*256+b.toNat):=rfl
 rw [e,Zfz,Nat.zero_mul,Nat.zero_add]
theorem F5:∀ l:List UInt8,be l<256^l.length
 | [] => by simp [be]
 | b::r => by
  rw [Zyu,List.length_cons,Nat.pow_succ]
  have h1:=F5 r
  have h2:b.toNat<256:=b.toNat_lt
  generalize 256^r.length=m at *
  have:b.toNat*m≤255*m:=Nat.mul_le_mul_right _ (by omega)
  omega
theorem Zm (k n:Nat):(beN k n).length=k:=by simp [beN]
theorem Zf0 (k n:Nat):beN (k+1) n=beN k (n / 256)++[UInt8.ofNat n]:=by
 rw [beN,List.range_succ,List.map_append,List.map_singleton]
 congr 1
 ·apply List.map_congr_left
  intro i hi
  rw [List.mem_range] at hi
  rw [show k+1 - 1 - i=(k - 1 - i)+1 by omega,Nat.pow_succ,Nat.mul_comm,Nat.div_div_eq_div_mul]
 ·simp
theorem Zaw (k n:Nat):be (beN k n)=n%256^k:=by
 induction k generalizing n with
 | zero => simp [beN,be,Nat.mod_one]
 | succ k ih =>
  rw [Zf0,C3,ih,Nat.pow_succ,Nat.mul_comm (256^k),Nat.mod_mul]
  have:(UInt8.ofNat n).toNat=n%256:=by simp
  omega
theorem Z3p (l:List UInt8):beN l.length (be l)=l:=by
 have key:∀ (k:Nat) (l:List UInt8),l.length=k→beN k (be l)=l:=by
  intro k
  induction k with
  | zero => intro l h; rw [List.eq_nil_of_length_eq_zero h]; rfl
  | succ k ih =>
   intro l h
   obtain ⟨a,b,rfl⟩:∃ a b,l=a++[b]:=⟨l.dropLast,l.getLast (by intro e; rw [e] at h; cases h),(List.dropLast_concat_getLast _).symm⟩
   have hb:b.toNat<256:=b.toNat_lt
   rw [Zf0,C3,show (be a*256+b.toNat) / 256=be a by omega,ih a (by simpa using h)]
   congr 1
   rw [show UInt8.ofNat (be a*256+b.toNat)=b from ?_]
   apply UInt8.toNat_inj.1
   simp
 exact key _ l rfl
theorem Zlc (a b:Nat) (h:b<256):a*256 ||| b=a*256+b:=by
 have:=Nat.shiftLeft_add_eq_or_of_lt (i:=8) (b:=b) (by omega) a
 rw [Nat.shiftLeft_eq] at this
 exact this.symm
/-! ### A slice built by append,from nil -/
def rA (H:AH) (vs:List AV) (n:Nat):AV:=if n=0 then nilS else .row H.length 0 n vs.length
def hA (sz:Nat) (H:AH) (vs:List AV) (n:Nat):AH:=if n=0 then H else H++[⟨vs,sz,true⟩]
section
variable {sz n:Nat} {H:AH} {vs:List AV}
theorem E0:H.length≤(hA sz H vs n).length:=by unfold hA; split <;> simp
theorem Ez {i:Nat} (hi:i<H.length):obj (hA sz H vs n) i=obj H i:=by
 unfold hA; split
 ·rfl
 ·exact Z1 _ _ hi
theorem Zuk {i:Nat} (hi:i<H.length) (c:List AV):setO (hA sz H vs n) i c=hA sz (setO H i c) vs n:=by
 unfold hA; split
 ·rfl
 ·exact U2 _ _ _ hi
theorem Ee {H':AH} (h:H'.length=H.length):rA H' vs n=rA H vs n:=by unfold rA; rw [h]
theorem Pz (hl:vs.length=n*sz) {s:AV} {cs:List AV} {b:Nat} (h1:Wy sz (hA sz H vs n) s) (h2:srcC sz (hA sz H vs n) s=cs) (h3:srcN s=1) (hc:cs.all AV.one=true) (hb:(n+1)*b≤140737488355328) :
  Ow sz b (hA sz H vs n) (rA H vs n) s∧appV sz (hA sz H vs n) s (rA H vs n)=rA H (vs++cs) (n+1)∧appH sz (hA sz H vs n) s (rA H vs n)=hA sz H (vs++cs) (n+1):=by
 by_cases h0:n=0
 ·subst h0
  obtain rfl:vs=[]:=List.eq_nil_of_length_eq_zero (by omega)
  simp only [rA,hA,if_true] at *
  refine ⟨⟨h1,by rw [h2]; exact hc,by rw [h3]; simpa [srcN] using hb,trivial⟩,?_,?_⟩
  ·rw [V9,h2,h3,if_neg (by omega)]; rfl
  ·rw [Ub,h2,if_neg (by omega)]; rfl
 ·simp only [rA,hA,if_neg h0,if_neg (show ¬ n+1=0 by omega)] at *
  refine ⟨⟨h1,by rw [h2]; exact hc,by rw [h3]; exact hb,by simp,by rw [Z7]; rfl,by rw [Z7]; rfl,by rw [Z7]; rfl,by show 0+n*sz≤vs.length; omega,.inl rfl⟩,?_,?_⟩
  ·rw [V8,h2,h3,Lx (by omega),List.length_append]
  ·rw [Ua,h2,h3,Z7,Qy]
   show H++[⟨appC sz vs cs 0 n 1 vs.length,sz,true⟩]=_
   rw [Ol (by omega)]
theorem Ru (hz:0<sz) (hl:vs.length=n*sz) (hp:Yg vs=true):Leave H (rA H vs n) (hA sz H vs n) (.view vs n false) H:=by
 unfold rA hA
 split
 ·rename_i h0
  subst h0
  obtain rfl:vs=[]:=List.eq_nil_of_length_eq_zero (by omega)
  exact Rt (O0 false)
 ·exact Zc (Vd (Vl _) hz hl hp _ _ rfl)
theorem _root_.Go.Proofs.YtcgjlpdkobmpnaaGreat.Eng.Sl.hA {sz' n':Nat} {x:AV} {cs:List AV} (h:Sl sz' H x cs n'):Sl sz' (Eng.hA sz H vs n) x cs n':=by
 unfold Eng.hA; split
 ·exact h
 ·exact h.app
theorem Lw (hl:vs.length=n*sz):Sl sz (hA sz H vs n) (rA H vs n) vs n:=by
 unfold rA hA
 split
 ·rename_i h0
  subst h0
  obtain rfl:vs=[]:=List.eq_nil_of_length_eq_zero (by omega)
  exact .nil
 ·have e:obj (H++[⟨vs,sz,true⟩]) H.length=⟨vs,sz,true⟩:=by rw [Z7]; rfl
  exact .row (by simp) (by rw [e]) (by show 0+n*sz≤vs.length; omega) (by rw [e,List.drop_zero,List.take_of_length_le (by show vs.length≤_; omega)]) (.inl (by rw [e]))
end
end Go.Proofs.YtcgjlpdkobmpnaaGreat.Eng

