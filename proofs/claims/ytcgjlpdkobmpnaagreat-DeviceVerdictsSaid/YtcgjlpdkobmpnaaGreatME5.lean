/- One operation of a region does what the abstract one says, calls and guards too. -/
import Derived.Test.YtcgjlpdkobmpnaaGreatME4
import Derived.ProofKit
namespace Go.Proofs.YtcgjlpdkobmpnaaGreat.Eng
open Go
set_option linter.unusedVariables false
set_option linter.unusedSimpArgs false
def L4 (P:Program) (C:Yq):Prop:=∀ f args H v H',C f args H v H'→Hm P f=true∧∀ φ w vals,St (cx φ H w)→RL (cx φ H w) args vals.toList →
 Calls P f vals w (fun e w' => ∃ y,e=.returned y∧PostV φ H w v H' y w')
section
variable {P:Program} {pf:Pf} {C:Yq} {φ:Nat→Option Nat} {H H':AH} {w:World} {v:AV}
theorem Zaq {f:FuncId} (h:Hm P f=true) (args:Array Value):(callFunc f args).run P w=.ok (.enter f args) w:=by
 unfold Hm at h
 cases hf:P.funcs[f]? with
 | none => rw [hf] at h; cases h
 | some fn =>
  rw [hf] at h
  simp only [Bool.and_eq_true,bne_iff_ne,ne_eq] at h
  have hn:(fn.name == "runtime.NumGoroutine")=false:=by simpa using h.1
  cases hb:fn.body with
  | none => rw [hb] at h; cases h.2
  | some c => simp [callFunc,hf,h.1,hb]
theorem Zuy {S:Cx} {l:List AV} {a b:Array Value} {l':List AV} (h:RL S l a.toList) (h':RL S l' b.toList):RL S (l++l') (a++b).toList:=by
 rw [Array.toList_append]; exact h.append h'
theorem Zix (hC:L4 P C) (hs:St (cx φ H w)) {own:Nat→Bool} {o:Oper} {io:Ins} (h:op? P own o=some io) {ρ:IArg→AV} {η:Operand→Value} (hρ:∀ x y,arg? x=some y→R (cx φ H w) (ρ y) (η x)) (hη:∀ f,η (.func f)=.func (.func f) #[] #[])
  (hic:Sa io=true) (hok:Vu pf ρ C H v H' io):Sat P (PostV φ H w v H') ((execOp η o).run P w):=by
 obtain ⟨dst,op,ty,pos,after,guard⟩:=o
 have go:∀ {c:Call} {y:Value} {f:FuncId} {fs cps:Array Value} {ags:List IArg} {first cap:List AV},(resolve η c ty).run P w=(Deferred.ofValue y (c.args.map η)).run P w→y=.func (.func f) fs cps→RL (cx φ H w) first fs.toList→RL (cx φ H w) cap cps.toList →
   c.args.toList.mapM arg? = some ags→C f (first++ags.map ρ++cap) H v H'→Sat P (PostV φ H w v H') ((execOp η ⟨dst,.call c,ty,pos,after,guard⟩).run P w):=by
  intro c y f fs cps ags first cap h1 h2 h3 h4 h5 h6
  obtain ⟨h7,h8⟩:=hC _ _ _ _ _ h6
  have hr:((execOp η ⟨dst,.call c,ty,pos,after,guard⟩).run P w)=.ok (.enter f (fs++c.args.map η++cps)) w:=by
   show (do let d ← resolve η c ty; invoke d.target d.args:Sem Next).run P w=_
   rw [Sem.run_bind,h1,h2]
   simp only [Deferred.ofValue,Sem.run_pure,Result.andThen_ok,invoke]
   exact Zaq h7 _
  rw [hr]
  exact h8 φ w _ hs (Zuy (Zuy h3 (by rw [Array.toList_map]; exact Ba hρ h5)) h4)
 cases op with
 | call c =>
  obtain ⟨callee,args,argTypes⟩:=c
  simp only [op?,Option.bind_eq_bind,Option.pure_def] at h
  have h9:=Zf h
  clear h
  obtain ⟨ags,h0,h⟩:=h9
  cases callee with
  | invoke r m => cases h
  | value x =>
   have gen:∀ x',arg? x=some x'→io=.callv x' ags→Sat P (PostV φ H w v H') ((execOp η ⟨dst,.call ⟨.value x,args,argTypes⟩,ty,pos,after,guard⟩).run P w):=by
    intro x' h1 hio
    subst hio
    have hx:=hρ _ _ h1
    have hok1:=hok.1
    split at hok1
    ·rename_i f a b he
     rw [he] at hx
     obtain ⟨fs,cps,e,r1,r2⟩:=hx
     exact go (c:=⟨.value x,args,argTypes⟩) (y:=η x) rfl e r1 r2 h0 hok1
    ·exact hok1.elim
   cases x with
   | func f =>
    dsimp only at h
    split at h
    ·cases h
     exact go (c:=⟨.value (.func f),args,argTypes⟩) (y:=η (.func f)) (first:=[]) (cap:=[]) rfl (hη f) rfl rfl h0 (by simpa using hok.1)
    ·exfalso
     repeat' first
      | (cases h; done)
      | (cases h; simp [Sa] at hic; done)
      | (split at h)
   | tmp t => dsimp only at h; obtain ⟨x',h1,h⟩:=Zf h; cases h; exact gen x' h1 rfl
   | const t => dsimp only at h; obtain ⟨x',h1,h⟩:=Zf h; cases h; exact gen x' h1 rfl
   | global t => dsimp only at h; obtain ⟨x',h1,h⟩:=Zf h; cases h; exact gen x' h1 rfl
  | builtin b =>
   exfalso
   dsimp only at h
   repeat' first
    | (cases h; done)
    | (cases h; simp [Sa] at hic; done)
    | (split at h)
    | (have h9:=Zf h; clear h; obtain ⟨_,_,h⟩:=h9)
 | _ =>
  exfalso
  simp only [op?,Option.bind_eq_bind,Option.pure_def] at h
  repeat' first
   | (cases h; done)
   | (cases h; simp [Sa] at hic; done)
   | (have h9:=Zf h; clear h; obtain ⟨_,_,h⟩:=h9)
   | (split at h)
structure SI (n:Nat) (S0:Cx) (w0:World) (E:Env) (H:AH) (a:Act) (w:World):Prop where
 ex:∃ φ,St (cx φ H w)∧Ext S0 (cx φ H w)∧(∀ i,R (cx φ H w) (E i) (a.tmps.getD i undef))
 same:Same w0 w
 sz:n≤a.tmps.size
 df:a.defers=[]
theorem ev_R {S:Cx} {E:Env} {a:Act} (h:∀ i,R S (E i) (a.tmps.getD i undef)) (x:Operand) (y:IArg) (hx:arg? x=some y):R S (ev E y) (a.eval x):=by
 cases x with
 | tmp t => cases hx; exact h t
 | const c => cases hx; rfl
 | func f => cases hx; exact ⟨#[],#[],rfl,rfl,rfl⟩
 | global g => cases hx
theorem Z4u {S:Cx} {E:Env} {a:Act} (h:∀ i,R S (E i) (a.tmps.getD i undef)) {d:Option Nat} {n:Nat} (hn:n≤a.tmps.size) (hd:∀ k,d=some k→k<n) {v:AV} {y:Value} (hv:R S v y):∀ i,R S (upd E d v i) ((a.put d y).tmps.getD i undef):=by
 intro i
 cases d with
 | none => exact h i
 | some k =>
  have hk:=hd k rfl
  simp only [upd,Act.put]
  by_cases hi:i=k
  ·subst hi
   have:i<a.tmps.size:=by omega
   simp [this,hv]
  ·simp only [hi,if_false]
   have e:(a.tmps.setIfInBounds k y).getD i undef=a.tmps.getD i undef:=by
    simp only [Array.getD_eq_getD_getElem?]
    rw [Array.getElem?_setIfInBounds_ne (fun e => hi e.symm)]
   rw [e]; exact h i
theorem Zqk (a:Act) (d:Option Nat) (y:Value):(a.put d y).tmps.size=a.tmps.size:=by cases d <;> simp [Act.put]
theorem Z1m (a:Act) (d:Option Nat) (y:Value):(a.put d y).defers=a.defers:=by cases d <;> rfl
theorem N4 {o:Oper} {a:Act} {K:Act→World→Prop} {Q:Exit→Act→World→Prop} {J:Value→World→Prop} (h:Sat P J ((execOp a.eval o).run P w)) (hk:∀ y w',J y w'→K (a.put o.dst y) w'):o.wp P a w K Q:=by
 unfold Oper.wp
 generalize (execOp a.eval o).run P w=r at *
 cases r with
 | ok n w' =>
  cases n <;> simp only [Sat] at h <;> first | exact h.elim | skip
  ·exact hk _ _ h
  ·exact hk _ _ h
  ·exact Calls.mono h fun e w'' ⟨y,he,hj⟩ => by subst he; exact hk _ _ hj
 | halt x w' => cases x <;> exact h.elim
theorem Ef (p:Bool) (a b:AV):pickv (.lit (.bool p)) a b=bif p then a else b:=by
 have key:∀ a b:AV,(∀ x y,a=.lit (.bool x)→b=.lit (.bool y)→False)→pickv (.lit (.bool p)) a b=bif p then a else b:=by
  intro a b h
  unfold pickv
  split
  ·exact (h _ _ rfl rfl).elim
  ·rename_i h1 _; cases h1; rfl
  ·simp_all
 by_cases h:∃ x y,a=.lit (.bool x)∧b=.lit (.bool y)
 ·obtain ⟨x,y,rfl,rfl⟩:=h; cases p <;> rfl
 ·exact key a b fun x y h1 h2 => h ⟨x,y,h1,h2⟩
theorem Zgx (hs:St (cx φ H w)) {own:Nat→Bool} {o:Oper} {c a b:IArg} (h:op? P own o=some (.pick c a b)) {E:Env} {η:Operand→Value} (hρ:∀ x y,arg? x=some y→R (cx φ H w) (ev E y) (η x))
  (hok:Hj true (ev E c) (ev E a) (ev E b)):Sat P (PostV φ H w (pickv (ev E c).un (ev E a).un (ev E b).un) H) ((execOp η o).run P w):=by
 obtain ⟨dst,op,ty,pos,after,guard⟩:=o
 cases op with
 | pick c' a' b' =>
  simp only [op?,Option.bind_eq_bind,Option.pure_def] at h
  have h9:=Zf h; clear h; obtain ⟨c1,h1,h⟩:=h9
  have h9:=Zf h; clear h; obtain ⟨a1,h2,h⟩:=h9
  have h9:=Zf h; clear h; obtain ⟨b1,h3,h⟩:=h9
  cases h
  have rc:=hρ _ _ h1
  have ra:=hρ _ _ h2
  have rb:=hρ _ _ h3
  obtain ⟨o1,o2,o3,o4⟩:=hok
  have un_of:∀ {v:AV} {y:Value},Yp true v→R (cx φ H w) v y→R (cx φ H w) v.un y:=by
   intro v y hm hr
   cases v with
   | may g u => exact hr.1 (hm rfl)
   | _ => exact hr
  have rc':=un_of o1 rc
  generalize (ev E c).un=vc at *
  cases vc with
  | lit lc =>
   cases lc with
   | bool p =>
    have e:η c'=.bool p:=rc'
    have ex:(execOp η ⟨dst,.pick c' a' b',ty,pos,after,guard⟩).run P w=.ok (.value (if p then η a' else η b')) w:=by
     simp [execOp,e,asBool]
    rw [ex,Ef]
    refine Zo hs ?_
    cases p with
    | true => exact un_of o3 ra
    | false => exact un_of o4 rb
   | _ => cases o2
  | _ => cases o2
 | _ =>
  exfalso
  simp only [op?,Option.bind_eq_bind,Option.pure_def] at h
  repeat' first
   | (cases h; done)
   | (have h9:=Zf h; clear h; obtain ⟨_,_,h⟩:=h9)
   | (split at h)
theorem I2 (hC:L4 P C) (hcmp:∀ t,pf.c t=true→cmpT P t=true) (hs:St (cx φ H w)) {own:Nat→Bool} {o:Oper} {io:Ins} (h:op? P own o=some io) {ρ:IArg→AV} {η:Operand→Value} (hρ:∀ x y,arg? x=some y→R (cx φ H w) (ρ y) (η x)) (hη:(∀ f,η (.func f)=.func (.func f) #[] #[])∧∀ v,η (.const v)=v)
  (hok:L9 pf C ρ H v H' io):Sat P (PostV φ H w v H') ((execOp η o).run P w):=by
 unfold L9 at hok
 split at hok
 ·rename_i hc; exact Zix hC hs h hρ hη.1 hc hok
 ·obtain ⟨h1,rfl,rfl⟩:=hok
  exact Ze1 hs hcmp h hρ hη h1
end
section
variable {P:Program} {pf:Pf} {C:Yq} {φ:Nat→Option Nat} {H H':AH} {w:World} {v:AV}
theorem Ck {own:Nat→Bool} {ops:Array Oper} {o:Oper} {io:IOp} (h:iop? P own ops o=some io):op? P own o=some io.o∧io.d=o.dst∧(match o.guard with | none => io.g=none | some (j,want) => ∃ d,(ops[j]?).bind (·.dst)=some d∧io.g=some (d,want)):=by
 unfold iop? at h
 simp only [Option.bind_eq_bind,Option.pure_def] at h
 obtain ⟨i,h1,h⟩:=Zf h
 split at h
 ·rename_i hg; cases h; rw [hg]; exact ⟨h1,rfl,rfl⟩
 ·rename_i j want hg
  have h9:=Zf h; clear h; obtain ⟨q,h2,h⟩:=h9
  have h9:=Zf h; clear h; obtain ⟨d,h3,h⟩:=h9
  cases h
  rw [hg]
  exact ⟨h1,rfl,d,by rw [h2]; exact h3,rfl⟩
theorem Je {ts:Array Value} {d:Nat} {b:Bool} (h:ts.getD d undef=.bool b):ts[d]? = some (.bool b):=by
 simp only [Array.getD_eq_getD_getElem?] at h
 cases hh:ts[d]? with
 | none => rw [hh] at h; cases h
 | some x => rw [hh] at h; simpa using h
theorem U6 {ops:Array Oper} {o:Oper} {a:Act} {E:Env} {S:Cx} (hR:∀ i,R S (E i) (a.tmps.getD i undef)) {j:Nat} {want:Bool} (hg:o.guard=some (j,want)) {d:Nat} (hd:(ops[j]?).bind (·.dst)=some d) {g:Bool} (hG:Nc want g (E d)) :
  Region.wanted o (yielded ops a.tmps)=g:=by
 have hr:=hR d
 unfold Region.wanted
 rw [hg]
 simp only [yielded,hd,Option.bind_some]
 unfold Nc at hG
 split at hG
 ·rename_i b he
  rw [he] at hr
  rw [Je hr,hG]
  cases b <;> cases want <;> rfl
 ·rename_i g' b he
  rw [he] at hr
  cases g' with
  | true =>
   rw [Je (hr.1 rfl),hG]
   cases b <;> cases want <;> rfl
  | false =>
   have hu:=hr.2 rfl
   rw [hG]
   have:∀ b,a.tmps[d]?≠some (.bool b):=by
    intro b hb
    simp only [Array.getD_eq_getD_getElem?,hb,Option.getD_some] at hu
    cases hu
   split
   ·rename_i b hb; exact absurd hb (this b)
   ·cases want <;> rfl
 ·exact hG.elim
theorem SI.next {n:Nat} {S0:Cx} {w0:World} {E:Env} {a:Act} (hSI:SI n S0 w0 E H a w) {d:Option Nat} (hd:∀ k,d=some k→k<n) (hφ:∀ i,R (cx φ H w) (E i) (a.tmps.getD i undef)) (hx0:Ext S0 (cx φ H w)) {y:Value} {w':World} (h:PostV φ H w v H' y w'):SI n S0 w0 (upd E d v) H' (a.put d y) w':=by
 obtain ⟨φ',h1,h2,h3,h4⟩:=h
 refine ⟨⟨φ',h1,hx0.trans h2,Z4u (fun i => (hφ i).mono h2) hSI.sz hd h4⟩,hSI.same.trans h3,by rw [Zqk]; exact hSI.sz,by rw [Z1m]; exact hSI.df⟩
theorem PostV.may {y:Value} {w':World} (h:PostV φ H w v H' y w'):PostV φ H w (.may true v) H' y w':=by
 obtain ⟨φ',h1,h2,h3,h4⟩:=h
 exact ⟨φ',h1,h2,h3,fun _ => h4,fun h => by cases h⟩
theorem un_R {S:Cx} {v:AV} {y:Value} (hm:Yp true v) (hr:R S v y):R S v.un y:=by
 cases v with
 | may g u => exact hr.1 (hm rfl)
 | _ => exact hr
theorem Hi (hs:St (cx φ H w)) {own:Nat→Bool} {o:Oper} {io:Ins} {u:AV} (h:op? P own o=some io) {E:Env} {η:Operand→Value} (hρ:∀ x y,arg? x=some y→R (cx φ H w) (ev E y) (η x))
  (hok:Bz true E u io):Sat P (PostV φ H w u H) ((execOp η o).run P w):=by
 cases io with
 | pick c a b =>
  obtain ⟨h1,rfl⟩:=hok
  exact Zgx hs h hρ h1
 | _ => exact hok.elim
theorem U8 (hC:L4 P C) (hcmp:∀ t,pf.c t=true→cmpT P t=true) {ops:Array Oper} {own:Nat→Bool} {o:Oper} {io:IOp} {n:Nat} {S0:Cx} {w0:World} {E:Env} {a:Act} (hio:iop? P own ops o=some io) (hd:∀ d,io.d=some d→d<n) (hcl:io.g=none∨io.o.cls pf≤1)
  (hSI:SI n S0 w0 E H a w) (hst:Yc pf C io E H v H') {K:Act→World→Prop} {Q:Exit→Act→World→Prop} (hk:∀ a' w',SI n S0 w0 (upd E io.d v) H' a' w'→K a' w') :
  if Region.wanted o (yielded ops a.tmps) then o.wp P a w K Q∨(o.asks P a w∧LetsOut Q) else K (a.put o.dst undef) w:=by
 obtain ⟨i1,i2,i3⟩:=Ck hio
 obtain ⟨φ,hs,hx,hR⟩:=hSI.ex
 have hη:(∀ f,a.eval (.func f)=.func (.func f) #[] #[])∧∀ v,a.eval (.const v)=v:=⟨fun f => rfl,fun v => rfl⟩
 have fin:∀ y w',PostV φ H w v H' y w'→K (a.put o.dst y) w':=by
  intro y w' hp
  have:=hSI.next hd hR hx hp
  rw [i2] at this
  exact hk _ _ (by rw [i2]; exact this)
 unfold Yc at hst
 cases hg:o.guard with
 | none =>
  rw [hg] at i3
  have hw:Region.wanted o (yielded ops a.tmps)=true:=by unfold Region.wanted; rw [hg]
  rw [if_pos hw]
  refine .inl ?_
  dsimp only at i3
  rw [i3] at hst
  dsimp only at hst
  split at hst
  ·obtain ⟨h1,rfl⟩:=hst
   exact N4 (Hi hs i1 (ev_R hR) h1) fin
  ·exact N4 (I2 hC hcmp hs i1 (ev_R hR) hη hst) fin
 | some jw =>
  obtain ⟨j,want⟩:=jw
  rw [hg] at i3
  obtain ⟨d,hd2,i3⟩:=i3
  rw [i3] at hst
  obtain ⟨g,u,g1,rfl,hH,g2⟩:=hst
  have hH':=hH.symm
  clear hH
  subst hH'
  have hcl':io.o.cls pf≤1:=by
   rcases hcl with h | h
   ·rw [i3] at h; cases h
   ·exact h
  rw [U6 hR hg hd2 g1]
  cases g with
  | false =>
   simp only [Bool.false_eq_true,if_false]
   exact fin _ _ ⟨φ,hs,.refl _,.refl _,(fun h => by cases h),fun _ => rfl⟩
  | true =>
   simp only [if_true]
   refine .inl ?_
   split at g2
   ·exact N4 (Hi hs i1 (ev_R hR) g2) fun y w' h => fin y w' h.may
   ·classical
    obtain ⟨g3,g4⟩:=g2
    let ρ:IArg→AV:=fun x => if x ∈ io.o.args then (ev E x).un else .junk
    have hρ:∀ x y,arg? x=some y→R (cx φ H w) (ρ y) (a.eval x):=by
     intro x y hxy
     show R _ (if y ∈ io.o.args then (ev E y).un else .junk) _
     split
     ·rename_i hm; exact un_R (g3 _ hm) (ev_R hR x y hxy)
     ·trivial
    obtain ⟨e1,e2,e3,e4⟩:=Mx (pf:=pf) (C:=C) (cmp:=pf.c) (H:=H) (io:=io.o) (ρ:=fun x => (ev E x).un) (ρ':=ρ) (fun x hx => (if_pos hx).symm)
    have hU:L9 pf C ρ H u H io.o:=by
     unfold L9
     split at g4
     ·rename_i hc; rw [if_pos hc,← e4]; exact g4 rfl
     ·rename_i hc; rw [if_neg hc,← e1,← e2]; exact ⟨g4.1 rfl,g4.2,(My hcl').symm⟩
    exact N4 (I2 hC hcmp hs i1 hρ hη hU) fun y w' h => fin y w' h.may
def Zld (pf:Pf) (n:Nat) (l:List IOp):Prop:=∀ io ∈ l,(∀ d,io.d=some d→d<n)∧(io.g=none∨io.o.cls pf≤1)
theorem F7 (hC:L4 P C) (hcmp:∀ t,pf.c t=true→cmpT P t=true) {ops:Array Oper} {own:Nat→Bool} {n:Nat} {S0:Cx} {w0:World} {K:Env→AH→Prop} {Q:Exit→Act→World→Prop} (hk:∀ E H a w,SI n S0 w0 E H a w→K E H→Q .normal a w) :
  ∀ {os:List Oper} {l:List IOp} {E:Env} {H:AH} {a:Act} {w:World},os.mapM (iop? P own ops)=some l→Zld pf n l→SI n S0 w0 E H a w→absL pf C l K E H→wpList P ops Q os a w
 | [],l,E,H,a,w,hm,ho,hSI,h => by
  simp at hm; subst hm
  exact hk _ _ _ _ hSI h
 | o::os,l,E,H,a,w,hm,ho,hSI,h => by
  simp only [List.mapM_cons,Option.bind_eq_bind,Option.pure_def] at hm
  have h9:=Zf hm; clear hm; obtain ⟨io,h1,hm⟩:=h9
  have h9:=Zf hm; clear hm; obtain ⟨l',h2,hm⟩:=h9
  cases hm
  obtain ⟨v,H1,s1,s2⟩:=iopwp_iff.1 h
  have h3:=ho io (by simp)
  exact U8 hC hcmp h1 h3.1 h3.2 hSI s1 fun a' w' hSI' => F7 hC hcmp hk h2 (fun x hx => ho x (by simp [hx])) hSI' s2
end
set_option linter.unusedSimpArgs false
theorem Ze3 (look:Nat→Nat) (i:Nat):∀ (l:List Edge) (s:Nat),(l.foldl (fun s e => if Region.binds .any e then s ||| 2^e.on ||| look e.on else s) s).testBit i=true →
  s.testBit i=true∨∃ e ∈ l,Region.binds .any e=true∧(e.on=i∨(look e.on).testBit i=true)
 | [],s,h => .inl h
 | e::l,s,h => by
  rw [List.foldl_cons] at h
  rcases Ze3 look i l _ h with h1 | ⟨e',h1,h2⟩
  ·split at h1
   ·rename_i hb
    simp only [Nat.testBit_or,Bool.or_eq_true,Nat.testBit_two_pow,decide_eq_true_eq] at h1
    rcases h1 with (h1 | h1) | h1
    ·exact .inl h1
    ·exact .inr ⟨e,by simp,hb,.inl h1⟩
    ·exact .inr ⟨e,by simp,hb,.inr h1⟩
   ·exact .inl h1
  ·exact .inr ⟨e',by simp [h1],h2⟩
theorem D9 {look:Nat→Nat} {o:Oper} {i:Nat} (h:(CheckFast.one look o).testBit i=true):∃ e ∈ o.after,Region.binds .any e=true∧(e.on=i∨(look e.on).testBit i=true):=by
 unfold CheckFast.one at h
 rw [← Array.foldl_toList] at h
 rcases Ze3 look i _ _ h with h1 | ⟨e,h1,h2⟩
 ·simp at h1
 ·exact ⟨e,Array.mem_toList_iff.1 h1,h2⟩
structure DrawS (pf:Pf) (ops:Array Oper) (l:List IOp) (bl:List Nat):Prop where
 len:l.length=ops.size
 at_:∀ j,j<l.length→∃ o,ops[j]? = some o∧bl.getD j 0=CheckFast.one (fun i => bl.getD i 0) o∧(∀ e ∈ o.after,Region.binds .any e=true→e.on<j)∧∀ i,i<j→(bl.getD j 0).testBit i=true∨Ziq pf (l.getD i default) (l.getD j default)=true
theorem Zr8 {pf:Pf} {ops:Array Oper} {l:List IOp} (h:Zn1 pf ops l=true):∃ bl,DrawS pf ops l bl:=by
 simp only [Zn1,Bool.and_eq_true,decide_eq_true_eq,Ap] at h
 refine ⟨[].reverse++CheckFast.beforeL ops.toList 0 [],h.1,fun j hj => ?_⟩
 have h2:=h.2
 simp only [Zuo,List.all_eq_true,List.mem_range,Bool.and_eq_true] at h2
 obtain ⟨h3,h4⟩:=h2 j hj
 cases ho:ops[j]? with
 | none => rw [ho] at h3; cases h3
 | some o =>
  rw [ho] at h3
  simp only [Bool.and_eq_true,beq_iff_eq,List.all_eq_true,Bool.or_eq_true,Bool.not_eq_true',decide_eq_true_eq] at h3
  refine ⟨o,rfl,h3.1,fun e he hb => ?_,fun i hi => by simpa using h4 i hi⟩
  rcases h3.2 e (Array.mem_toList_iff.2 he) with h5 | h5
  ·rw [hb] at h5; cases h5
  ·exact h5
section
variable {P:Program} {pf:Pf} {C:Yq}
theorem Cb {α β:Type} {f:α→Option β}:∀ {os:List α} {l:List β},os.mapM f=some l→∀ {i:Nat} {o:α},os[i]? = some o→∃ b,l[i]? = some b∧f o=some b
 | [],l,h,i,o,ho => by simp at ho
 | x::os,l,h,i,o,ho => by
  simp only [List.mapM_cons,Option.bind_eq_bind,Option.pure_def] at h
  have h9:=Zf h; clear h; obtain ⟨b,h1,h⟩:=h9
  have h9:=Zf h; clear h; obtain ⟨l',h2,h⟩:=h9
  cases h
  cases i with
  | zero => simp at ho; subst ho; exact ⟨b,by simp,h1⟩
  | succ i => simp at ho; obtain ⟨c,g1,g2⟩:=Cb h2 ho; exact ⟨c,by simpa using g1,g2⟩
theorem Zo2 (hC:L4 P C) (hcmp:∀ t,pf.c t=true→cmpT P t=true) {ops:Array Oper} {own:Nat→Bool} {n:Nat} {S0:Cx} {w0:World} {K:Env→AH→Prop} {Q:Exit→Act→World→Prop} (hk:∀ E H a w,SI n S0 w0 E H a w→K E H→Q .normal a w)
  {l:List IOp} (hm:ops.toList.mapM (iop? P own ops)=some l) (ho:Zld pf n l) {bl:List Nat} (hD:DrawS pf ops l bl) :
  ∀ (fuel:Nat) (listed:Array Bool) (E:Env) (H:AH) (a:Act) (w:World),listed.size=l.length→(∀ m,listed.getD m false=true→∀ i,(bl.getD m 0).testBit i=true→listed.getD i false=true) →
   ((List.range l.length).filter fun i => !listed.getD i true).length≤fuel→SI n S0 w0 E H a w→absL pf C (((List.range l.length).filter fun i => !listed.getD i true).map fun i => l.getD i default) K E H→wpAny P .any ops Q fuel listed a w:=by
 have flip:∀ (listed:Array Bool),listed.size=l.length→∀ i,i<l.length→listed.getD i true=listed.getD i false:=by
  intro listed hs i hi
  have:i<listed.size:=by omega
  simp [this]
 have sub:∀ (listed:Array Bool),∀ i ∈ Region.ready .any ops listed,i ∈ (List.range l.length).filter fun i => !listed.getD i true:=by
  intro listed i hi
  obtain ⟨h1,o,h2,_⟩:=mem_ready.1 hi
  have:=(Array.getElem?_eq_some_iff.1 h2).1
  rw [List.mem_filter,List.mem_range,hD.len]
  exact ⟨this,by rw [h1]; rfl⟩
 have stuck:∀ (listed:Array Bool),listed.size=l.length→Region.ready .any ops listed=[]→((List.range l.length).filter fun i => !listed.getD i true)=[]:=by
  intro listed hs hr
  have all:∀ i,i<l.length→listed.getD i true=true:=by
   intro i
   induction i using Nat.strongRecOn with
   | _ i ih =>
    intro hi
    by_cases hh:listed.getD i true=true
    ·exact hh
    ·obtain ⟨o,h1,h2,h3,h4⟩:=hD.at_ i hi
     have:i ∈ Region.ready .any ops listed:=mem_ready.2 ⟨by simpa using hh,o,h1,fun e he hb => by
      have h5:=h3 e he hb
      rw [← flip listed hs _ (by omega)]
      exact ih _ h5 (by omega)⟩
     rw [hr] at this; cases this
  rw [List.filter_eq_nil_iff]
  intro i hi
  rw [List.mem_range] at hi
  rw [all i hi]; simp
 intro fuel
 induction fuel with
 | zero =>
  intro listed E H a w hs hcl hf hSI h
  have hnil:((List.range l.length).filter fun i => !listed.getD i true)=[]:=by
   cases hh:((List.range l.length).filter fun i => !listed.getD i true) with
   | nil => rfl
   | cons x xs => rw [hh] at hf; simp at hf
  rw [hnil] at h
  refine ⟨?_,hk _ _ _ _ hSI h⟩
  cases hr:Region.ready .any ops listed with
  | nil => rfl
  | cons x xs => have:=sub listed x (by rw [hr]; simp); rw [hnil] at this; cases this
 | succ fuel ih =>
  intro listed E H a w hs hcl hf hSI h
  refine ⟨fun hr => ?_,fun i hi => ?_⟩
  ·rw [stuck listed hs hr] at h
   exact hk _ _ _ _ hSI h
  ·have hmem:=sub listed i hi
   have hsort:((List.range l.length).filter fun i => !listed.getD i true).Pairwise (·<·):=List.pairwise_lt_range.filter _
   have hil:i<l.length:=List.mem_range.1 (List.mem_filter.1 hmem).1
   obtain ⟨pre,post,hsplit⟩:=List.append_of_mem hmem
   obtain ⟨o,o1,o2,o3,o4⟩:=hD.at_ i hil
   obtain ⟨r1,o',r2,r3⟩:=mem_ready.1 hi
   rw [o1] at r2; cases r2
   have hlt:∀ x ∈ pre,x<i:=by
    rw [hsplit] at hsort
    exact fun x hx => (List.pairwise_append.1 hsort).2.2 x hx i (by simp)
   have hgt:∀ x ∈ post,i<x:=by
    rw [hsplit] at hsort
    exact fun x hx => (List.pairwise_cons.1 (List.pairwise_append.1 hsort).2.1).1 x hx
   have hcom:∀ x ∈ pre.map fun i => l.getD i default,Ziq pf x (l.getD i default)=true:=by
    intro x hx
    obtain ⟨k,hk1,rfl⟩:=List.mem_map.1 hx
    refine (o4 k (hlt k hk1)).resolve_left fun hb => ?_
    rw [o2] at hb
    obtain ⟨e,e1,e2,e3⟩:=D9 hb
    have h5:=r3 e e1 e2
    have hk2:listed.getD k false=true:=by
     rcases e3 with rfl | e3
     ·exact h5
     ·exact hcl _ h5 _ e3
    have hk3:k ∈ (List.range l.length).filter fun i => !listed.getD i true:=by rw [hsplit]; simp [hk1]
    rw [List.mem_filter,List.mem_range] at hk3
    rw [flip listed hs k hk3.1,hk2] at hk3
    simp at hk3
   rw [hsplit,List.map_append,List.map_cons] at h
   have h1:=B9 hcom h
   obtain ⟨v,H1,s1,s2⟩:=iopwp_iff.1 h1
   obtain ⟨io,g1,g2⟩:=Cb hm (i:=i) (o:=o) (by rw [Array.getElem?_toList]; exact o1)
   have hget:l.getD i default=io:=by rw [List.getD_eq_getElem?_getD,g1]; rfl
   rw [hget] at s1 s2
   have h3:=ho io (List.mem_of_getElem? g1)
   have hrem:((List.range l.length).filter fun j => !(listed.setIfInBounds i true).getD j true)=pre++post:=by
    have e1:((List.range l.length).filter fun j => !(listed.setIfInBounds i true).getD j true)=((List.range l.length).filter fun i => !listed.getD i true).filter (fun j => decide (j≠i)):=by
     rw [List.filter_filter]
     refine List.filter_congr fun j hj => ?_
     rw [List.mem_range] at hj
     by_cases hji:j=i
     ·subst hji
      have:j<listed.size:=by omega
      simp [this]
     ·rw [getD_set_ne true (Ne.symm hji)]; simp [hji]
    rw [e1,hsplit,List.filter_append,List.filter_cons]
    simp only [ne_eq,not_true,decide_false,Bool.false_eq_true,if_false]
    congr 1
    ·exact List.filter_eq_self.2 fun x hx => by have:=hlt x hx; simp; omega
    ·exact List.filter_eq_self.2 fun x hx => by have:=hgt x hx; simp; omega
   show wpOp P ops Q i _ a w
   unfold wpOp
   rw [o1]
   refine U8 hC hcmp g2 h3.1 h3.2 hSI s1 fun a' w' hSI' => ih _ _ H1 a' w' (by simpa using hs) ?_ ?_ hSI' (by rw [hrem,List.map_append]; exact s2)
   ·intro m hm2 k hk2
    by_cases hmi:m=i
    ·subst hmi
     rw [o2] at hk2
     obtain ⟨e,e1,e2,e3⟩:=D9 hk2
     have h5:=r3 e e1 e2
     rcases e3 with rfl | e3
     ·exact getD_set_true h5
     ·exact getD_set_true (hcl _ h5 _ e3)
    ·rw [getD_set_ne false (Ne.symm hmi)] at hm2
     exact getD_set_true (hcl m hm2 k hk2)
   ·rw [hrem]
    rw [hsplit] at hf
    simp at hf ⊢
    omega
end
section
variable {P:Program} {pf:Pf} {C:Yq} {H:AH} {w:World} {base:Nat}
theorem E8 {ρ:IArg→AV} {H0 G:AH} {v:AV} {io:Ins} (h:Vu pf ρ (frC C) H0 v H0 io):Vu pf ρ C (H0++G) v (H0++G) io:=by
 cases io with
 | call f ags => exact ⟨h.1.2 G,fun _ => rfl⟩
 | callv x ags =>
  obtain ⟨h1,h2⟩:=h
  refine ⟨?_,fun _ => rfl⟩
  split at h1
  ·exact h1.2 G
  ·exact h1.elim
 | _ => exact h.elim
theorem Zum {o:IOp} {E:Env} {H0 G:AH} {v:AV} (hc:o.o.cls pf≤1) (hg:∀ d w,o.g=some (d,w)→¬ Nc w false (E d)) (h:Yc pf (frC C) o E H0 v H0):Yc pf C o E (H0++G) v (H0++G):=by
 unfold Yc at *
 split at h
 ·split at h
  ·rename_i hP; rw [if_pos hP]; exact ⟨h.1,rfl⟩
  ·rename_i hP
   rw [if_neg hP]
   unfold L9 at *
   split at h
   ·rename_i hC; rw [if_pos hC]; exact E8 h
   ·rename_i hC
    rw [if_neg hC]
    obtain ⟨h1,h2,_⟩:=h
    obtain ⟨g1,g2⟩:=Zeh (G:=G) hc h1
    exact ⟨g1,by rw [g2]; exact h2,(My hc).symm⟩
 ·rename_i d w he
  obtain ⟨g,u,h1,h2,_,h4⟩:=h
  have hgt:g=true:=by
   cases g with
   | true => rfl
   | false => exact absurd h1 (hg d w he)
  refine ⟨g,u,h1,h2,rfl,?_⟩
  split at h4
  ·rename_i hP; rw [if_pos hP]; exact h4
  ·rename_i hP
   rw [if_neg hP]
   refine ⟨h4.1,?_⟩
   have h5:=h4.2
   split at h5
   ·rename_i hC; rw [if_pos hC]; exact fun hg => E8 (h5 hg)
   ·rename_i hC
    rw [if_neg hC]
    obtain ⟨g1,g2⟩:=Zeh (G:=G) hc (h5.1 hgt)
    exact ⟨fun _ => g1,by rw [g2]; exact h5.2⟩
theorem Zgd (hC:L4 P C) (hcmp:∀ t,pf.c t=true→cmpT P t=true) {ops:Array Oper} {own:Nat→Bool} {o:Oper} {x:RA} {n:Nat} {S0:Cx} {w0:World} {E:Env} {a:Act} {v:AV} {H':AH} (hio:iop? P own ops o=some x.o) (hd:∀ d,x.o.d=some d→d<n) (hcl:x.o.g=none∨x.o.o.cls pf≤1) (hx:raOk pf x)
  (hSI:SI n S0 w0 E H a w) (hst:RStep pf C base x E H v H') {K:Act→World→Prop} {Q:Exit→Act→World→Prop} (hk:∀ a' w',SI n S0 w0 (upd E x.o.d v) H' a' w'→K a' w') :
  if Region.wanted o (yielded ops a.tmps) then o.wp P a w K Q∨(o.asks P a w∧LetsOut Q) else K (a.put o.dst undef) w:=by
 unfold RStep at hst
 cases hkd:x.k with
 | l => rw [hkd] at hst; exact U8 hC hcmp hio hd hcl hSI hst hk
 | m => rw [hkd] at hst; exact U8 hC hcmp hio hd hcl hSI hst.1 hk
 | w => rw [hkd] at hst; exact U8 hC hcmp hio hd hcl hSI hst.2.2 hk
 | e =>
  rw [hkd] at hst
  obtain ⟨h1,rfl⟩:=hst
  have hc1:=hx.1 hkd
  have full:(∀ d w,x.o.g=some (d,w)→¬ Nc w false (E d))→Yc pf C x.o E H' v H':=by
   intro hg
   have:=Zum (G:=H'.drop base) hc1 hg h1
   rwa [List.take_append_drop] at this
  by_cases hg:∀ d w,x.o.g=some (d,w)→¬ Nc w false (E d)
  ·exact U8 hC hcmp hio hd hcl hSI (full hg) hk
  ·simp only [Classical.not_forall,Classical.not_not] at hg
   obtain ⟨d,wt,hg1,hg2⟩:=hg
   obtain ⟨i1,i2,i3⟩:=Ck hio
   obtain ⟨φ,hs,hxx,hR⟩:=hSI.ex
   cases hgo:o.guard with
   | none => rw [hgo] at i3; dsimp only at i3; rw [hg1] at i3; cases i3
   | some jw =>
    obtain ⟨j,want⟩:=jw
    rw [hgo] at i3
    obtain ⟨d',hd2,i3⟩:=i3
    rw [hg1] at i3; cases i3
    rw [U6 hR hgo hd2 hg2]
    simp only [Bool.false_eq_true,if_false]
    unfold Yc at h1
    rw [hg1] at h1
    obtain ⟨g,u,k1,rfl,_,_⟩:=h1
    have hgf:g=false:=by
     have e1:Region.wanted o (yielded ops a.tmps)=g:=U6 hR hgo hd2 k1
     rw [← e1]; exact U6 hR hgo hd2 hg2
    subst hgf
    have:=hSI.next (v:=.may false u) (H':=H') (y:=undef) (w':=w) hd hR hxx ⟨φ,hs,.refl _,.refl _,(fun h => by cases h),fun _ => rfl⟩
    rw [i2] at this
    exact hk _ _ (by rw [i2]; exact this)
 | f nf =>
  rw [hkd] at hst
  obtain ⟨h1,rfl⟩:=hst
  have hc1:=hx.2.2 nf hkd
  have full:(∀ d w,x.o.g=some (d,w)→¬ Nc w false (E d))→Yc pf C x.o E H' v H':=by
   intro hg
   have:=Zum (G:=H'.drop (base+nf)) hc1 hg h1
   rwa [List.take_append_drop] at this
  by_cases hg:∀ d w,x.o.g=some (d,w)→¬ Nc w false (E d)
  ·exact U8 hC hcmp hio hd hcl hSI (full hg) hk
  ·simp only [Classical.not_forall,Classical.not_not] at hg
   obtain ⟨d,wt,hg1,hg2⟩:=hg
   obtain ⟨i1,i2,i3⟩:=Ck hio
   obtain ⟨φ,hs,hxx,hR⟩:=hSI.ex
   cases hgo:o.guard with
   | none => rw [hgo] at i3; dsimp only at i3; rw [hg1] at i3; cases i3
   | some jw =>
    obtain ⟨j,want⟩:=jw
    rw [hgo] at i3
    obtain ⟨d',hd2,i3⟩:=i3
    rw [hg1] at i3; cases i3
    rw [U6 hR hgo hd2 hg2]
    simp only [Bool.false_eq_true,if_false]
    unfold Yc at h1
    rw [hg1] at h1
    obtain ⟨g,u,k1,rfl,_,_⟩:=h1
    have hgf:g=false:=by
     have e1:Region.wanted o (yielded ops a.tmps)=g:=U6 hR hgo hd2 k1
     rw [← e1]; exact U6 hR hgo hd2 hg2
    subst hgf
    have:=hSI.next (v:=.may false u) (H':=H') (y:=undef) (w':=w) hd hR hxx ⟨φ,hs,.refl _,.refl _,(fun h => by cases h),fun _ => rfl⟩
    rw [i2] at this
    exact hk _ _ (by rw [i2]; exact this)
 | a r =>
  rw [hkd] at hst
  obtain ⟨⟨h1,h2⟩,h3,h4,rfl,rfl⟩:=hst
  obtain ⟨i1,i2,i3⟩:=Ck hio
  obtain ⟨φ,hs,hxx,hR⟩:=hSI.ex
  have hη:(∀ f,a.eval (.func f)=.func (.func f) #[] #[])∧∀ v,a.eval (.const v)=v:=⟨fun f => rfl,fun v => rfl⟩
  have hgn:x.o.g=none:=hcl.resolve_right (by have:=Zb9 (pf:=pf) h3; omega)
  have hgo:o.guard=none:=by
   cases hh:o.guard with
   | none => rfl
   | some jw => rw [hh] at i3; obtain ⟨d,_,i3⟩:=i3; rw [hgn] at i3; cases i3
  have hw:Region.wanted o (yielded ops a.tmps)=true:=by unfold Region.wanted; rw [hgo]
  rw [if_pos hw]
  refine .inl ?_
  have e0:H.take base++H.drop base=H:=List.take_append_drop _ _
  obtain ⟨g1,g2,g3⟩:=Zp6 (G:=H.drop base) h3 h4
  rw [e0] at g1 g2 g3
  have hdum:H[base+r]? = some dumO:=by rw [← h2]; exact Q7 h1
  have hall:∀ y,∃ z,R (cx φ H w) (ev E y) z:=by
   intro y
   cases y with
   | t n => exact ⟨_,hR n⟩
   | c v => exact ⟨v,rfl⟩
   | f g => exact ⟨.func (.func g) #[] #[],#[],#[],rfl,rfl,rfl⟩
  have hsat:=Zlq (P:=P) hs hcmp i1 (ev_R hR) hη hall h3 g1 hdum ⟨rfl,rfl⟩
  rw [g2,g3] at hsat
  refine N4 hsat fun y w' hp => ?_
  have:=hSI.next hd hR hxx hp
  rw [i2] at this
  exact hk _ _ (by rw [i2]; exact this)
structure DrawR (pf:Pf) (ops:Array Oper) (l:List RA) (bl:List Nat):Prop where
 len:l.length=ops.size
 at_:∀ j,j<l.length→∃ o,ops[j]? = some o∧bl.getD j 0=CheckFast.one (fun i => bl.getD i 0) o∧(∀ e ∈ o.after,Region.binds .any e=true→e.on<j)∧raOk pf (l.getD j default)∧(∀ i,i≤j→J4 (l.getD i default) (l.getD j default)=true)∧∀ i,i<j→(bl.getD j 0).testBit i=true∨Zc9 pf (l.getD i default) (l.getD j default)=true
theorem Zr9 {pf:Pf} {ops:Array Oper} {l:List RA} {bl:List Nat} (hl:l.length=ops.size) (h:G8 pf ops l bl=true):DrawR pf ops l bl:=by
 refine ⟨hl,fun j hj => ?_⟩
 simp only [G8,List.all_eq_true,List.mem_range,Bool.and_eq_true] at h
 obtain ⟨h3,⟨h5,h6⟩,h4⟩:=h j hj
 cases ho:ops[j]? with
 | none => rw [ho] at h3; cases h3
 | some o =>
  rw [ho] at h3
  simp only [Bool.and_eq_true,beq_iff_eq,List.all_eq_true,Bool.or_eq_true,Bool.not_eq_true',decide_eq_true_eq] at h3
  refine ⟨o,rfl,h3.1,fun e he hb => ?_,⟨fun hk => ?_,fun hk => ?_,fun n hk => ?_⟩,fun i hi => h6 i (by omega),fun i hi => by simpa using h4 i hi⟩
  ·rcases h3.2 e (Array.mem_toList_iff.2 he) with h5 | h5
   ·rw [hb] at h5; cases h5
   ·exact h5
  ·rw [hk] at h5; simpa using h5
  ·rw [hk] at h5; exact h5
  ·rw [hk] at h5; simpa using h5
theorem Zi8 (hC:L4 P C) (hcmp:∀ t,pf.c t=true→cmpT P t=true) {ops:Array Oper} {own:Nat→Bool} {n:Nat} {S0:Cx} {w0:World} {K:Env→AH→Prop} {Q:Exit→Act→World→Prop} (hk:∀ E H a w,SI n S0 w0 E H a w→K E H→Q .normal a w)
  {l:List RA} (hm:ops.toList.mapM (iop? P own ops)=some (l.map (·.o))) (ho:Zld pf n (l.map (·.o))) {bl:List Nat} (hD:DrawR pf ops l bl) :
  ∀ (fuel:Nat) (listed:Array Bool) (E:Env) (H:AH) (a:Act) (w:World),listed.size=l.length→(∀ m,listed.getD m false=true→∀ i,(bl.getD m 0).testBit i=true→listed.getD i false=true) →
   ((List.range l.length).filter fun i => !listed.getD i true).length≤fuel→SI n S0 w0 E H a w→absR pf C base (((List.range l.length).filter fun i => !listed.getD i true).map fun i => l.getD i default) K E H→wpAny P .any ops Q fuel listed a w:=by
 have flip:∀ (listed:Array Bool),listed.size=l.length→∀ i,i<l.length→listed.getD i true=listed.getD i false:=by
  intro listed hs i hi
  have:i<listed.size:=by omega
  simp [this]
 have sub:∀ (listed:Array Bool),∀ i ∈ Region.ready .any ops listed,i ∈ (List.range l.length).filter fun i => !listed.getD i true:=by
  intro listed i hi
  obtain ⟨h1,o,h2,_⟩:=mem_ready.1 hi
  have:=(Array.getElem?_eq_some_iff.1 h2).1
  rw [List.mem_filter,List.mem_range,hD.len]
  exact ⟨this,by rw [h1]; rfl⟩
 have stuck:∀ (listed:Array Bool),listed.size=l.length→Region.ready .any ops listed=[]→((List.range l.length).filter fun i => !listed.getD i true)=[]:=by
  intro listed hs hr
  have all:∀ i,i<l.length→listed.getD i true=true:=by
   intro i
   induction i using Nat.strongRecOn with
   | _ i ih =>
    intro hi
    by_cases hh:listed.getD i true=true
    ·exact hh
    ·obtain ⟨o,h1,h2,h3,h4⟩:=hD.at_ i hi
     have:i ∈ Region.ready .any ops listed:=mem_ready.2 ⟨by simpa using hh,o,h1,fun e he hb => by
      have h5:=h3 e he hb
      rw [← flip listed hs _ (by omega)]
      exact ih _ h5 (by omega)⟩
     rw [hr] at this; cases this
  rw [List.filter_eq_nil_iff]
  intro i hi
  rw [List.mem_range] at hi
  rw [all i hi]; simp
 intro fuel
 induction fuel with
 | zero =>
  intro listed E H a w hs hcl hf hSI h
  have hnil:((List.range l.length).filter fun i => !listed.getD i true)=[]:=by
   cases hh:((List.range l.length).filter fun i => !listed.getD i true) with
   | nil => rfl
   | cons x xs => rw [hh] at hf; simp at hf
  rw [hnil] at h
  refine ⟨?_,hk _ _ _ _ hSI h⟩
  cases hr:Region.ready .any ops listed with
  | nil => rfl
  | cons x xs => have:=sub listed x (by rw [hr]; simp); rw [hnil] at this; cases this
 | succ fuel ih =>
  intro listed E H a w hs hcl hf hSI h
  refine ⟨fun hr => ?_,fun i hi => ?_⟩
  ·rw [stuck listed hs hr] at h
   exact hk _ _ _ _ hSI h
  ·have hmem:=sub listed i hi
   have hsort:((List.range l.length).filter fun i => !listed.getD i true).Pairwise (·<·):=List.pairwise_lt_range.filter _
   have hil:i<l.length:=List.mem_range.1 (List.mem_filter.1 hmem).1
   obtain ⟨pre,post,hsplit⟩:=List.append_of_mem hmem
   obtain ⟨o,o1,o2,o3,o5,o7,o4⟩:=hD.at_ i hil
   obtain ⟨r1,o',r2,r3⟩:=mem_ready.1 hi
   rw [o1] at r2; cases r2
   have hlt:∀ x ∈ pre,x<i:=by
    rw [hsplit] at hsort
    exact fun x hx => (List.pairwise_append.1 hsort).2.2 x hx i (by simp)
   have hgt:∀ x ∈ post,i<x:=by
    rw [hsplit] at hsort
    exact fun x hx => (List.pairwise_cons.1 (List.pairwise_append.1 hsort).2.1).1 x hx
   have hcom:∀ x ∈ pre.map fun i => l.getD i default,raOk pf x∧Zc9 pf x (l.getD i default)=true∧J4 x x=true:=by
    intro x hx
    obtain ⟨k,hk1,rfl⟩:=List.mem_map.1 hx
    have hki:=hlt k hk1
    obtain ⟨_,_,_,_,q5,q6,_⟩:=hD.at_ k (by omega)
    refine ⟨q5,(o4 k hki).resolve_left fun hb => ?_,q6 k (Nat.le_refl _)⟩
    rw [o2] at hb
    obtain ⟨e,e1,e2,e3⟩:=D9 hb
    have h5:=r3 e e1 e2
    have hk2:listed.getD k false=true:=by
     rcases e3 with rfl | e3
     ·exact h5
     ·exact hcl _ h5 _ e3
    have hk3:k ∈ (List.range l.length).filter fun i => !listed.getD i true:=by rw [hsplit]; simp [hk1]
    rw [List.mem_filter,List.mem_range] at hk3
    rw [flip listed hs k hk3.1,hk2] at hk3
    simp at hk3
   have hpw:(pre.map fun i => l.getD i default).Pairwise (fun x y => J4 x y=true):=by
    rw [List.pairwise_map]
    rw [hsplit] at hsort
    refine ((List.pairwise_append.1 hsort).1).imp_of_mem fun {a b} ha hb hab => ?_
    have:=hlt b hb
    obtain ⟨_,_,_,_,_,q6,_⟩:=hD.at_ b (by omega)
    exact q6 a (by omega)
   rw [hsplit,List.map_append,List.map_cons] at h
   obtain ⟨_,v,H1,s1,s2⟩:=Ei o5 hcom hpw h
   obtain ⟨io,g1,g2⟩:=Cb hm (i:=i) (o:=o) (by rw [Array.getElem?_toList]; exact o1)
   have hget:(l.getD i default).o=io:=by
    rw [List.getElem?_map,List.getElem?_eq_getElem hil] at g1
    rw [List.getD_eq_getElem?_getD,List.getElem?_eq_getElem hil]
    simpa using g1
   have h3:=ho io (List.mem_of_getElem? g1)
   have hrem:((List.range l.length).filter fun j => !(listed.setIfInBounds i true).getD j true)=pre++post:=by
    have e1:((List.range l.length).filter fun j => !(listed.setIfInBounds i true).getD j true)=((List.range l.length).filter fun i => !listed.getD i true).filter (fun j => decide (j≠i)):=by
     rw [List.filter_filter]
     refine List.filter_congr fun j hj => ?_
     rw [List.mem_range] at hj
     by_cases hji:j=i
     ·subst hji
      have:j<listed.size:=by omega
      simp [this]
     ·rw [getD_set_ne true (Ne.symm hji)]; simp [hji]
    rw [e1,hsplit,List.filter_append,List.filter_cons]
    simp only [ne_eq,not_true,decide_false,Bool.false_eq_true,if_false]
    congr 1
    ·exact List.filter_eq_self.2 fun x hx => by have:=hlt x hx; simp; omega
    ·exact List.filter_eq_self.2 fun x hx => by have:=hgt x hx; simp; omega
   show wpOp P ops Q i _ a w
   unfold wpOp
   rw [o1]
   refine Zgd hC hcmp (by rw [hget]; exact g2) (by rw [hget]; exact h3.1) (by rw [hget]; exact h3.2) o5 hSI s1 fun a' w' hSI' => ih _ _ H1 a' w' (by simpa using hs) ?_ ?_ hSI' (by rw [hrem,List.map_append]; exact s2)
   ·intro m hm2 k hk2
    by_cases hmi:m=i
    ·subst hmi
     rw [o2] at hk2
     obtain ⟨e,e1,e2,e3⟩:=D9 hk2
     have h5:=r3 e e1 e2
     rcases e3 with rfl | e3
     ·exact getD_set_true h5
     ·exact getD_set_true (hcl _ h5 _ e3)
    ·rw [getD_set_ne false (Ne.symm hmi)] at hm2
     exact getD_set_true (hcl m hm2 k hk2)
   ·rw [hrem]
    rw [hsplit] at hf
    simp at hf ⊢
    omega
theorem SI.reserve {n:Nat} {S0:Cx} {w0:World} {E:Env} {a:Act} (h:SI n S0 w0 E H a w) (k:Nat):SI n S0 w0 E (H++List.replicate k dumO) a w:=by
 obtain ⟨⟨φ,g1,g2,g3⟩,g4,g5,g6⟩:=h
 obtain ⟨φ',k1,k2⟩:=Eng.reserve g1 k
 exact ⟨⟨φ',k1,g2.trans k2,fun i => (g3 i).mono k2⟩,g4,g5,g6⟩
end
section
variable {P:Program} {pf:Pf} {C:Yq}
theorem least {p:Nat→Prop} (h:∃ n,p n):∃ n,p n∧∀ m,p m→n≤m:=by
 obtain ⟨n,hn⟩:=h
 induction n using Nat.strongRecOn with
 | _ n ih =>
  by_cases hh:∃ m,m<n∧p m
  ·obtain ⟨m,h1,h2⟩:=hh; exact ih m h1 h2
  ·exact ⟨n,hn,fun m hm => Nat.le_of_not_lt fun hlt => hh ⟨m,hlt,hm⟩⟩
def PQ (n:Nat) (S0:Cx) (w0:World) (N:Env→AH→Prop) (Q:Ex→Env→AH→Prop) (e:Exit) (a:Act) (w:World):Prop:=∃ E H,SI n S0 w0 E H a w∧match e with
 | .normal => N E H
 | .exit id => Q (.exit id) E H
 | .ret => Q .ret E H
 | _ => False
theorem SI.keep {n:Nat} {S0:Cx} {w0:World} {E:Env} {H:AH} {a:Act} {w:World} (h:SI n S0 w0 E H a w) (l:List Nat):SI n S0 w0 (look (Fp l E)) H a w:=by
 obtain ⟨⟨φ,h1,h2,h3⟩,h4,h5,h6⟩:=h
 refine ⟨⟨φ,h1,h2,fun i => ?_⟩,h4,h5,h6⟩
 have:look (Fp l E) i=E i∨look (Fp l E) i=.junk:=by
  induction l with
  | nil => exact .inr rfl
  | cons x l ih =>
   show (if i=x then E x else look (Fp l E) i)=_∨(if i=x then E x else look (Fp l E) i)=_
   by_cases hx:i=x
   ·subst hx; simp
   ·simp only [hx,if_false]; exact ih
 rcases this with e | e <;> rw [e]
 ·exact h3 i
 ·trivial
theorem Zip (hC:L4 P C) (hm:P.follows .mixedOrders=true) {X:Ctx} (hcmp:∀ t,X.pf.c t=true→cmpT P t=true) {S0:Cx} {w0:World} :
  ∀ (c:Code) (ex:List (Nat × List Nat)) (k:IC) (lk:List Nat) (ic:IC) (l:List Nat),comp P X c ex (k,lk)=some (ic,l)→∀ (Q:Ex→Env→AH→Prop) (E:Env) (H:AH) (a:Act) (w:World),SI X.n S0 w0 E H a w→iwp X.pf C ic Q E H →
   c.wp P (PQ X.n S0 w0 (iwp X.pf C k Q) Q) a w:=by
 intro c
 induction c with
 | skip =>
  intro ex k lk ic l hc Q E H a w hSI h
  simp only [comp] at hc; cases hc
  exact wp_skip ⟨E,H,hSI,h⟩
 | label n =>
  intro ex k lk ic l hc Q E H a w hSI h
  simp only [comp] at hc; cases hc
  exact wp_label ⟨E,H,hSI,h⟩
 | seq x y ihx ihy =>
  intro ex k lk ic l hc Q E H a w hSI h
  simp only [comp] at hc
  obtain ⟨⟨kb,lb⟩,h1,h2⟩:=Zf hc
  refine wp_seq (wp_mono (ihx ex kb lb ic l h2 Q E H a w hSI h) fun e a' w' hq => ?_)
  obtain ⟨E',H',s1,s2⟩:=hq
  cases e with
  | normal => exact ihy ex k lk kb lb h1 Q E' H' a' w' s1 s2
  | exit id => exact ⟨E',H',s1,s2⟩
  | ret => exact ⟨E',H',s1,s2⟩
  | _ => exact s2.elim
 | exit id =>
  intro ex k lk ic l hc Q E H a w hSI h
  simp only [comp] at hc; cases hc
  exact wp_exit ⟨E,H,hSI,h⟩
 | ret =>
  intro ex k lk ic l hc Q E H a w hSI h
  simp only [comp] at hc; cases hc
  exact wp_ret ⟨E,H,hSI,h⟩
 | cond c x y ihx ihy =>
  intro ex k lk ic l hc Q E H a w hSI h
  simp only [comp,Option.bind_eq_bind] at hc
  have h9:=Zf hc; clear hc; obtain ⟨c',h1,hc⟩:=h9
  have h9:=Zf hc; clear hc; obtain ⟨⟨xa,la⟩,h2,hc⟩:=h9
  have h9:=Zf hc; clear hc; obtain ⟨⟨xb,lb⟩,h3,hc⟩:=h9
  cases hc
  simp only [iwp] at h
  obtain ⟨φ,hs,hx,hR⟩:=hSI.ex
  have hrc:=ev_R hR c c' h1
  have fin:∀ (e:Exit) (a':Act) (w':World) (N:Env→AH→Prop),(∀ E H,N E H→iwp X.pf C k Q E H)→PQ X.n S0 w0 N (fun e E H => match e with | .normal => iwp X.pf C k Q E H | e => Q e E H) e a' w'→PQ X.n S0 w0 (iwp X.pf C k Q) Q e a' w':=by
   rintro e a' w' N hN ⟨E',H',s1,s2⟩
   refine ⟨E',H',s1,?_⟩
   cases e with
   | normal => exact hN _ _ s2
   | exit id => exact s2
   | ret => exact s2
   | _ => exact s2.elim
  split at h
  ·rename_i t he
   rw [he] at hrc
   refine wp_cond_split (t:=t) hrc (fun ht => ?_) (fun ht => ?_)
   ·exact wp_mono (ihx _ _ _ _ _ h2 _ E H a w hSI (h.1 ht)) fun e a' w' hq => fin e a' w' _ (fun _ _ h => h) hq
   ·exact wp_mono (ihy _ _ _ _ _ h3 _ E H a w hSI (h.2 ht)) fun e a' w' hq => fin e a' w' _ (fun _ _ h => h) hq
  ·rename_i he
   rw [he] at hrc
   obtain ⟨t,hrc⟩:=hrc
   refine wp_cond_split (t:=t) hrc (fun ht => ?_) (fun ht => ?_)
   ·exact wp_mono (ihx _ _ _ _ _ h2 _ E H a w hSI h.1) fun e a' w' hq => fin e a' w' _ (fun _ _ h => h) hq
   ·exact wp_mono (ihy _ _ _ _ _ h3 _ E H a w hSI h.2) fun e a' w' hq => fin e a' w' _ (fun _ _ h => h) hq
  ·exact h.elim
 | block id b ih =>
  intro ex k lk ic l hc Q E H a w hSI h
  simp only [comp,Option.bind_eq_bind] at hc
  have h9:=Zf hc; clear hc; obtain ⟨⟨b',lb⟩,h2,hc⟩:=h9
  cases hc
  refine wp_block (wp_mono (ih _ _ _ _ _ h2 _ E H a w hSI h) ?_)
  rintro e a' w' ⟨E',H',s1,s2⟩
  cases e with
  | normal => exact ⟨E',H',s1,s2⟩
  | exit i =>
   simp only [Exit.inBlock]
   dsimp only at s2
   by_cases hi:i=id
   ·rw [if_pos hi] at s2; rw [if_pos hi]; exact ⟨E',H',s1,s2⟩
   ·rw [if_neg hi] at s2; rw [if_neg hi]; exact ⟨E',H',s1,s2⟩
  | ret => exact ⟨E',H',s1,s2⟩
  | _ => exact s2.elim
 | loop b ih =>
  intro ex k lk ic l hc Q E H a w hSI h
  simp only [comp,Option.bind_eq_bind] at hc
  have h9:=Zf hc; clear hc; obtain ⟨⟨_,l1⟩,h1,hc⟩:=h9
  have h9:=Zf hc; clear hc; obtain ⟨⟨_,l2⟩,h2,hc⟩:=h9
  have h9:=Zf hc; clear hc; obtain ⟨⟨_,l3⟩,h3,hc⟩:=h9
  have h9:=Zf hc; clear hc; obtain ⟨⟨b',l4⟩,h4,hc⟩:=h9
  cases hc
  simp only [iwp] at h
  obtain ⟨I,n,i0,istep⟩:=h
  classical
  let J:Nat→Act→World→Prop:=fun n a w => ∃ E H,SI X.n S0 w0 E H a w∧I n E H
  let μ:Act→World→Nat:=fun a w => if h:∃ n,J n a w then Classical.choose (least h) else 0
  have hμ:∀ {n a w},J n a w→μ a w≤n:=by
   intro n a w hj
   show (if h:∃ n,J n a w then Classical.choose (least h) else 0)≤n
   rw [dif_pos ⟨n,hj⟩]
   exact (Classical.choose_spec (least ⟨n,hj⟩)).2 n hj
  refine wp_loop (fun a w => ∃ n,J n a w) μ ⟨n,_,_,hSI.keep l3,i0⟩ ?_
  intro a1 w1 hj
  have hmin:J (μ a1 w1) a1 w1:=by
   show J (if h:∃ n,J n a1 w1 then Classical.choose (least h) else 0) a1 w1
   rw [dif_pos hj]
   exact (Classical.choose_spec (least hj)).1
  obtain ⟨E1,H1,s1,s2⟩:=hmin
  refine wp_mono (ih _ _ _ _ _ h4 _ E1 H1 a1 w1 s1 (istep _ _ _ s2)) ?_
  rintro e a' w' ⟨E',H',t1,t2⟩
  cases e with
  | normal =>
   obtain ⟨n',hlt,t3⟩:=t2
   have hj':J n' a' w':=⟨_,_,t1.keep l3,t3⟩
   exact ⟨⟨n',hj'⟩,Nat.lt_of_le_of_lt (hμ hj') hlt⟩
  | exit id => exact ⟨E',H',t1,t2⟩
  | ret => exact ⟨E',H',t1,t2⟩
  | _ => exact t2.elim
 | region id ops draw =>
  intro ex k lk ic l hc Q E H a w hSI h
  simp only [comp,Option.bind_eq_bind] at hc
  have h9:=Zf hc; clear hc; obtain ⟨os,h1,hc⟩:=h9
  split at hc
  ·rename_i hcond
   cases hc
   simp only [Bool.and_eq_true,List.all_eq_true,Bool.or_eq_true,Bool.not_eq_true',decide_eq_true_eq,Option.isNone_iff_eq_none] at hcond
   obtain ⟨⟨hc1,hc2⟩,hc3⟩:=hcond
   have hops:Zld X.pf X.n os:=fun io hio => ⟨fun d hd => by have:=hc1 io hio; rw [hd] at this; simpa using this,hc2 io hio⟩
   rw [Zmj] at h
   have hk:∀ E H a w,SI X.n S0 w0 E H a w→iwp X.pf C (.keep lk k) Q E H→PQ X.n S0 w0 (iwp X.pf C k Q) Q .normal a w:=fun E H a w hS hh => ⟨_,H,hS.keep lk,hh⟩
   cases draw with
   | false => exact wp_region_list (F7 hC hcmp hk h1 hops hSI h)
   | true =>
    obtain ⟨bl,hD⟩:=Zr8 (hc3.resolve_left (by simp))
    have hrep:∀ i,i<os.length→(Array.replicate ops.size false).getD i true=false:=by
     intro i hi
     have:i<ops.size:=by rw [← hD.len]; exact hi
     simp [this]
    have hfil:((List.range os.length).filter fun i => !(Array.replicate ops.size false).getD i true)=List.range os.length:=by
     refine List.filter_eq_self.2 fun i hi => ?_
     rw [hrep i (List.mem_range.1 hi)]; rfl
    have hmap:((List.range os.length).map fun i => os.getD i default)=os:=by
     apply List.ext_getElem?
     intro i
     simp only [List.getElem?_map]
     by_cases hi:i<os.length
     ·rw [List.getElem?_range hi]
      obtain ⟨x,hx⟩:=Yd hi
      simp [List.getD_eq_getElem?_getD,hx]
     ·rw [List.getElem?_eq_none (by simp; omega),List.getElem?_eq_none (by omega)]; rfl
    have hSI':SI X.n S0 w0 E H a { w with drawn:=w.drawn+1 }:=by
     obtain ⟨⟨φ,g1,g2,g3⟩,g4,g5,g6⟩:=hSI
     exact ⟨⟨φ,g1,g2,g3⟩,g4,g5,g6⟩
    refine wp_region_any hm (Zo2 hC hcmp hk h1 hops hD ops.size _ E H a _ (by simp [hD.len]) ?_ ?_ hSI' ?_)
    ·intro m hm2
     exfalso
     by_cases hmm:m<ops.size
     ·simp [hmm] at hm2
     ·simp [hmm] at hm2
    ·rw [hfil]; simp [hD.len]
    ·rw [hfil,hmap]; exact h
  ·rename_i hfst
   split at hc
   ·rename_i hcond
    rw [Gt] at hc
    obtain ⟨rl,hlen,hmapo,hdr,hc⟩:∃ rl:List RA,rl.length=os.length∧rl.map (·.o)=os∧G8 X.pf ops rl ([].reverse++CheckFast.beforeL ops.toList 0 [])=true∧some (IC.reg (newN os os.length) rl (.keep lk k),Hv os lk)=some (ic,l):=by
     have hm2:∀ (f:Nat→Kd) (g:Nat→List IArg),((List.range os.length).map fun j => (⟨os.getD j default,f j,g j⟩:RA)).map (·.o)=os:=fun f g => by
      simp only [List.map_map]
      apply List.ext_getElem?
      intro i
      simp only [List.getElem?_map]
      by_cases hi:i<os.length
      ·rw [List.getElem?_range hi]
       obtain ⟨x,hx⟩:=Yd hi
       simp [List.getD_eq_getElem?_getD,hx]
      ·rw [List.getElem?_eq_none (by simp; omega),List.getElem?_eq_none (by omega)]; rfl
     split at hc
     ·rename_i hdr; exact ⟨_,by simp [Zwm],hm2 _ _,hdr,hc⟩
     ·split at hc
      ·rename_i hdr; exact ⟨_,by simp [Zk3],hm2 _ _,hdr,hc⟩
      ·cases hc
    cases hc
    simp only [Bool.and_eq_true,List.all_eq_true,Bool.or_eq_true,Bool.not_eq_true',decide_eq_true_eq,Option.isNone_iff_eq_none] at hcond
    obtain ⟨⟨hc1,hc2⟩,hc3⟩:=hcond
    have hops:Zld X.pf X.n os:=fun io hio => ⟨fun d hd => by have:=hc1 io hio; rw [hd] at this; simpa using this,hc2 io hio⟩
    cases draw with
    | false =>
     refine absurd ?_ hfst
     simp only [Bool.and_eq_true,List.all_eq_true,Bool.or_eq_true,Bool.not_eq_true',decide_eq_true_eq,Option.isNone_iff_eq_none]
     exact ⟨⟨hc1,hc2⟩,.inl trivial⟩
    | true =>
     generalize hbl:[].reverse++CheckFast.beforeL ops.toList 0 []=bl at *
     have hD:=Zr9 (l:=rl) (by rw [hlen,hc3]) hdr
     have hrep:∀ i,i<rl.length→(Array.replicate ops.size false).getD i true=false:=by
      intro i hi
      have:i<ops.size:=by rw [← hD.len]; exact hi
      simp [this]
     have hfil:((List.range rl.length).filter fun i => !(Array.replicate ops.size false).getD i true)=List.range rl.length:=by
      refine List.filter_eq_self.2 fun i hi => ?_
      rw [hrep i (List.mem_range.1 hi)]; rfl
     have hmap:((List.range rl.length).map fun i => rl.getD i default)=rl:=by
      apply List.ext_getElem?
      intro i
      simp only [List.getElem?_map]
      by_cases hi:i<rl.length
      ·rw [List.getElem?_range hi]
       obtain ⟨x,hx⟩:=Yd hi
       simp [List.getD_eq_getElem?_getD,hx]
      ·rw [List.getElem?_eq_none (by simp; omega),List.getElem?_eq_none (by omega)]; rfl
     have hk:∀ E H a w,SI X.n S0 w0 E H a w→iwp X.pf C (.keep lk k) Q E H→PQ X.n S0 w0 (iwp X.pf C k Q) Q .normal a w:=fun E H a w hS hh => ⟨_,H,hS.keep lk,hh⟩
     have hSI':SI X.n S0 w0 E (H++List.replicate (newN os os.length) dumO) a { w with drawn:=w.drawn+1 }:=by
      obtain ⟨⟨φ,g1,g2,g3⟩,g4,g5,g6⟩:=hSI.reserve (newN os os.length)
      exact ⟨⟨φ,g1,g2,g3⟩,g4,g5,g6⟩
     have h:absR X.pf C H.length rl (iwp X.pf C (.keep lk k) Q) E (H++List.replicate (newN os os.length) dumO):=h
     refine wp_region_any hm (Zi8 (base:=H.length) hC hcmp hk (by rw [hmapo]; exact h1) (by rw [hmapo]; exact hops) hD ops.size _ E _ a _ (by simp [hD.len]) ?_ ?_ hSI' ?_)
     ·intro m hm2
      exfalso
      by_cases hmm:m<ops.size
      ·simp [hmm] at hm2
      ·simp [hmm] at hm2
     ·rw [hfil]; simp [hD.len]
     ·rw [hfil,hmap]; exact h
   ·cases hc
 | _ => intro ex k lk ic l hc; simp only [comp] at hc; cases hc
end
/-! ### Results -/
inductive IRes where
 | t (n:Nat)
 | c (n:Nat) (agg:Bool) (k:Nat)
def res? (P:Program):ResultVar→Option IRes
 | .tmp t => some (.t t)
 | .cell a t => if P.cellsOf t=0 || (P.underlying t).isNone then none else some (.c a (Yk P t) (P.cellsOf t))
def Fj (E:Env) (H:AH):List IRes→Prop
 | [] => True
 | .t _::r => Fj E H r
 | .c n _ k::r => Ys k H (E n)∧Fj E H r
def resV (E:Env) (H:AH):IRes→AV
 | .t n => E n
 | .c n agg k => Y8 agg k H (E n)
def Zen:List AV→AV
 | [v] => v
 | vs => .tup vs
section
variable {P:Program} {C:Yq} {φ:Nat→Option Nat} {H:AH} {w:World}
theorem Zwj (hs:St (cx φ H w)) {E:Env} {tmps:Array Value} (hR:∀ i,R (cx φ H w) (E i) (tmps.getD i undef)) {r:ResultVar} {i:IRes} (hr:res? P r=some i) (hok:Fj E H [i]) :
  ∃ y,((match r with | .tmp t => pure (tmps.getD t undef) | .cell a t => do loadVar t (← asAddr (tmps.getD a undef)):Sem Value)).run P w=.ok y w∧R (cx φ H w) (resV E H i) y:=by
 cases r with
 | tmp t => cases hr; exact ⟨_,rfl,hR t⟩
 | cell a t =>
  simp only [res?] at hr
  split at hr
  ·cases hr
  ·rename_i hc
   cases hr
   simp only [Bool.or_eq_true,decide_eq_true_eq,not_or,Bool.not_eq_true] at hc
   have hx:=hR a
   obtain ⟨u,h1,h2⟩:=Ek (P:=P) hs hc.1 hc.2 hx hok.1
   refine ⟨u,?_,h2⟩
   have hp:∃ ad,tmps.getD a undef=.pointer (some ad):=by
    have h3:=hok.1
    generalize E a=v at *
    cases v with
    | ptr id off => obtain ⟨_,_,_,_,_,e⟩:=hx; exact ⟨_,e⟩
    | rptr id off L => obtain ⟨_,e,_⟩:=hx; exact ⟨_,e⟩
    | vptr cs => obtain ⟨_,_,_,e,_⟩:=hx; exact ⟨_,e⟩
    | _ => exact h3.elim
   obtain ⟨ad,e⟩:=hp
   rw [e] at h1
   show (do loadVar t (← asAddr (tmps.getD a undef)):Sem Value).run P w=_
   rw [e]
   exact h1
theorem Zem (hs:St (cx φ H w)) {E:Env} {tmps:Array Value} (hR:∀ i,R (cx φ H w) (E i) (tmps.getD i undef)):∀ {rs:List ResultVar} {is:List IRes},rs.mapM (res? P)=some is→Fj E H is →
  ∃ ys,(rs.mapM (fun r => (match r with | .tmp t => pure (tmps.getD t undef) | .cell a t => do loadVar t (← asAddr (tmps.getD a undef)):Sem Value))).run P w=.ok ys w∧RL (cx φ H w) (is.map (resV E H)) ys
 | [],is,h,hok => by simp at h; subst h; exact ⟨[],rfl,rfl⟩
 | r::rs,is,h,hok => by
  simp only [List.mapM_cons,Option.bind_eq_bind,Option.pure_def] at h
  have h9:=Zf h; clear h; obtain ⟨i,h1,h⟩:=h9
  have h9:=Zf h; clear h; obtain ⟨is',h2,h⟩:=h9
  cases h
  have ho:Fj E H [i]∧Fj E H is':=by
   cases i with
   | t n => exact ⟨trivial,hok⟩
   | c n agg k => exact ⟨⟨hok.1,trivial⟩,hok.2⟩
  obtain ⟨y,g1,g2⟩:=Zwj (P:=P) hs hR h1 ho.1
  obtain ⟨ys,g3,g4⟩:=Zem hs hR h2 ho.2
  refine ⟨y::ys,?_,⟨y,ys,rfl,g2,g4⟩⟩
  rw [List.mapM_cons,Sem.run_bind,g1]
  simp only [Result.andThen_ok,Sem.run_bind,g3,Sem.run_pure]
theorem Du (hs:St (cx φ H w)) {E:Env} {tmps:Array Value} (hR:∀ i,R (cx φ H w) (E i) (tmps.getD i undef)) {fn:Func} {is:List IRes} (h:fn.results.toList.mapM (res? P)=some is) (hok:Fj E H is) :
  ∃ y,(results fn tmps).run P w=.ok y w∧R (cx φ H w) (Zen (is.map (resV E H))) y:=by
 obtain ⟨ys,h1,h2⟩:=Zem (P:=P) hs hR h hok
 have hl:=h2.length
 refine ⟨if h:ys.toArray.size=1 then ys.toArray[0] else .tuple ys.toArray,?_,?_⟩
 ·unfold results
  rw [Array.mapM_eq_mapM_toList]
  simp only [bind_map_left,Sem.run_bind]
  refine Eq.trans (congrArg (fun r => Result.andThen r _) h1) ?_
  simp only [Result.andThen_ok,Sem.run_pure]
 ·generalize hvs:is.map (resV E H)=vs at *
  match vs,ys,h2,hl with
  | [],_,h2,hl => cases h2; exact ⟨#[],rfl,rfl⟩
  | [v],[y],h2,hl => obtain ⟨u,t,e,g1,g2⟩:=h2; cases e; exact g1
  | v::v'::vs,y::y'::ys,h2,hl =>
   refine ⟨(y::y'::ys).toArray,?_,h2⟩
   rw [dif_neg (by simp)]
end
/-! ### What stays behind a function -/
def Vk (H2:AH) (id off n L:Nat):AV :=
 let o:=obj H2 id
 let sz:=if o.sz=0 then 1 else o.sz
 if L=o.cs.length∧off+n*sz≤L∧Yg ((o.cs.drop off).take (n*sz))=true then .view ((o.cs.drop off).take (n*sz)) n false else .junk
mutual
def low (ren:Nat→Option Nat) (H2:AH):AV→AV
 | .lit v => .lit v
 | .ptr id off => match ren id with | some j => .ptr j off | none => .junk
 | .rptr id off L => match ren id with | some j => .rptr j off L | none => .junk
 | .vptr cs => .vptr cs
 | .row id off n L => match ren id with | some j => .row j off n L | none => Vk H2 id off n L
 | .view cs n full => .view cs n full
 | .fn f a b => .fn f (lowL ren H2 a) (lowL ren H2 b)
 | .agg cs => .agg (lowL ren H2 cs)
 | .tup cs => .tup (lowL ren H2 cs)
 | .may g v => .may g (bif g then low ren H2 v else v)
 | .anyb => .anyb
 | .junk => .junk
def lowL (ren:Nat→Option Nat) (H2:AH):List AV→List AV
 | [] => []
 | a::r => low ren H2 a::lowL ren H2 r
end
theorem Wf (ren:Nat→Option Nat) (H2:AH):∀ l:List AV,(lowL ren H2 l).length=l.length
 | [] => rfl
 | a::r => by rw [lowL,List.length_cons,List.length_cons,Wf ren H2 r]
mutual
theorem Zuf {S:Cx} {ren:Nat→Option Nat} {H2:AH} (hren:∀ i,i<S.H.length→ren i=some i):∀ (v:AV) {y:Value},R S v y→low ren H2 v=v
 | .lit v,y,h => rfl
 | .ptr id off,y,h => by obtain ⟨o,b,h1,_⟩:=h; simp only [low,hren id (Zv h1)]
 | .rptr id off L,y,h => by obtain ⟨a,_,o,h1,_⟩:=h; simp only [low,hren id (Zv h1)]
 | .vptr cs,y,h => rfl
 | .row id off n L,y,h => by obtain ⟨a,cap,_,_,_,o,h1,_⟩:=h; simp only [low,hren id (Zv h1)]
 | .view cs n full,y,h => rfl
 | .fn f a b,y,h => by obtain ⟨fs,cps,_,h1,h2⟩:=h; rw [low,Nn hren a h1,Nn hren b h2]
 | .agg cs,y,h => by obtain ⟨vs,_,h1⟩:=h; rw [low,Nn hren cs h1]
 | .tup cs,y,h => by obtain ⟨vs,_,h1⟩:=h; rw [low,Nn hren cs h1]
 | .may g v,y,h => by
  cases g with
  | false => rfl
  | true => simp only [low,cond_true]; rw [Zuf hren v (h.1 rfl)]
 | .anyb,y,h => rfl
 | .junk,y,h => rfl
theorem Nn {S:Cx} {ren:Nat→Option Nat} {H2:AH} (hren:∀ i,i<S.H.length→ren i=some i):∀ (l:List AV) {ys:List Value},RL S l ys→lowL ren H2 l=l
 | [],ys,h => rfl
 | a::r,ys,h => by
  obtain ⟨u,t,_,h1,h2⟩:=h
  rw [lowL,Zuf hren a h1,Nn hren r h2]
end
mutual
theorem Z3z {S S':Cx} (hi:∀ b off us,Imm S b off us→Imm S' b off us):∀ (v:AV) {y:Value},v.pure=true→R S v y→R S' v y
 | .lit v,y,_,h => h
 | .view cs n full,y,hp,h => by
  obtain ⟨a,cap,h1,h2,h3,h4,h5,h6⟩:=h
  refine ⟨a,cap,h1,h2,h3,h4,h5,?_⟩
  rcases h6 with h6 | ⟨b,off,us,g1,g2,g3⟩
  ·exact .inl h6
  ·exact .inr ⟨b,off,us,g1,hi _ _ _ g2,R8 hi cs h5 g3⟩
 | .fn f a b,y,hp,h => by
  simp only [AV.pure,Bool.and_eq_true] at hp
  obtain ⟨fs,cps,h1,h2,h3⟩:=h
  exact ⟨fs,cps,h1,R8 hi a hp.1 h2,R8 hi b hp.2 h3⟩
 | .agg cs,y,hp,h => by obtain ⟨vs,h1,h2⟩:=h; exact ⟨vs,h1,R8 hi cs hp h2⟩
 | .tup cs,y,hp,h => by obtain ⟨vs,h1,h2⟩:=h; exact ⟨vs,h1,R8 hi cs hp h2⟩
 | .ptr ..,y,hp,h | .rptr ..,y,hp,h | .vptr ..,y,hp,h | .row ..,y,hp,h | .may ..,y,hp,h | .anyb,y,hp,h | .junk,y,hp,h => by cases hp
theorem R8 {S S':Cx} (hi:∀ b off us,Imm S b off us→Imm S' b off us):∀ (l:List AV) {ys:List Value},Yg l=true→RL S l ys→RL S' l ys
 | [],ys,_,h => h
 | a::r,ys,hp,h => by
  simp only [Yg,Bool.and_eq_true] at hp
  obtain ⟨u,t,h1,h2,h3⟩:=h
  exact ⟨u,t,h1,Z3z hi a hp.1 h2,R8 hi r hp.2 h3⟩
end
section
variable {φ φ':Nat→Option Nat} {H2 H':AH} {w:World} {ren:Nat→Option Nat}
structure Lows (φ φ':Nat→Option Nat) (H2 H':AH) (w:World) (ren:Nat→Option Nat):Prop where
 st:St (cx φ H2 w)
 imm:∀ b off us,Imm (cx φ H2 w) b off us→Imm (cx φ' H' w) b off us
 here:∀ id j,ren id=some j→∀ o,H2[id]? = some o→∃ o',H'[j]? = some o'∧o'.sz=o.sz∧o'.cs.length=o.cs.length∧φ' j=φ id
 gone:∀ id,ren id=none→∀ b,id<H2.length→φ id=some b→¬ Wr (cx φ' H' w) b
mutual
theorem Zq6 (h:Lows φ φ' H2 H' w ren):∀ (v:AV) {y:Value},R (cx φ H2 w) v y→R (cx φ' H' w) (low ren H2 v) y
 | .lit v,y,hr => hr
 | .ptr id off,y,hr => by
  obtain ⟨o,b,h1,h2,h3,h4⟩:=hr
  simp only [low]
  cases hj:ren id with
  | none => trivial
  | some j =>
   obtain ⟨o',g1,g2,g3,g4⟩:=h.here id j hj o h1
   exact ⟨o',b,g1,by rw [g2]; exact h2,by show φ' j=_; rw [g4]; exact h3,h4⟩
 | .rptr id off L,y,hr => by
  obtain ⟨a,h1,o,h2,h3,h4⟩:=hr
  simp only [low]
  cases hj:ren id with
  | none => trivial
  | some j =>
   obtain ⟨o',g1,g2,g3,g4⟩:=h.here id j hj o h2
   refine ⟨a,h1,o',g1,by rw [g3]; exact h3,fun hL => ?_⟩
   obtain ⟨b,h5,h6⟩:=h4 (by rw [← g3]; exact hL)
   exact ⟨b,by show φ' j=_; rw [g4]; exact h5,h6⟩
 | .vptr cs,y,hr => by
  obtain ⟨b,off,us,h1,h2,h3,h4⟩:=hr
  exact ⟨b,off,us,h1,h.imm _ _ _ h2,h3,R8 h.imm cs h3 h4⟩
 | .row id off n L,y,hr => by
  obtain ⟨a,cap,h1,h2,h2',o,h3,h4,h5⟩:=hr
  have h3:H2[id]? = some o:=h3
  simp only [low]
  cases hj:ren id with
  | some j =>
   obtain ⟨o',g1,g2,g3,g4⟩:=h.here id j hj o h3
   refine ⟨a,cap,h1,h2,h2',o',g1,by rw [g3]; exact h4,fun hL => ?_⟩
   have e:(cx φ' H' w).φ j=(cx φ H2 w).φ id:=g4
   rw [e,g2]
   exact h5 (by rw [← g3]; exact hL)
  | none =>
   simp only [Vk,T6 h3]
   generalize (if o.sz=0 then 1 else o.sz)=sz
   split
   ·rename_i hc
    obtain ⟨c1,c2,c3⟩:=hc
    refine ⟨a,cap,h1,h2,h2',(fun hh => by cases hh),c3,?_⟩
    rcases h5 c1 with ⟨h6,h7,_⟩ | ⟨b,h6,h7,h8,_⟩
    ·have:n=0:=Nat.le_zero.1 (h7 ▸ h2)
     subst this
     left; simp
    ·rcases h8 with h8 | h8
     ·right
      have hid:=Zv h3
      obtain ⟨c,e,fr,k1,k2,k3,k4⟩:=Mo h.st hid h6
      rw [T6 h3] at k3 k4
      generalize hk:n*sz=m at *
      refine ⟨b,off,((c.toList.take o.cs.length).drop off).take m,h8,⟨⟨c,e,fr,k1,fun j u hju => ?_⟩,h.gone id hj b hid h6⟩,R8 h.imm _ c3 ((k4.drop off).take m)⟩
      rw [List.getElem?_take] at hju
      split at hju
      ·rw [List.getElem?_drop,List.getElem?_take] at hju
       split at hju
       ·simpa using hju
       ·cases hju
      ·cases hju
     ·have:n=0:=by omega
      subst this
      left; simp
   ·trivial
 | .view cs n full,y,hr => by
  obtain ⟨a,cap,h1,h2,h3,h4,h5,h6⟩:=hr
  refine ⟨a,cap,h1,h2,h3,h4,h5,?_⟩
  rcases h6 with h6 | ⟨b,off,us,g1,g2,g3⟩
  ·exact .inl h6
  ·exact .inr ⟨b,off,us,g1,h.imm _ _ _ g2,R8 h.imm cs h5 g3⟩
 | .fn f a b,y,hr => by
  obtain ⟨fs,cps,h1,h2,h3⟩:=hr
  exact ⟨fs,cps,h1,Jj h a h2,Jj h b h3⟩
 | .agg cs,y,hr => by obtain ⟨vs,h1,h2⟩:=hr; exact ⟨vs,h1,Jj h cs h2⟩
 | .tup cs,y,hr => by obtain ⟨vs,h1,h2⟩:=hr; exact ⟨vs,h1,Jj h cs h2⟩
 | .may g v,y,hr => by
  cases g with
  | false => exact ⟨(fun hh => by cases hh),hr.2⟩
  | true => exact ⟨fun hh => Zq6 h v (hr.1 hh),fun hh => by cases hh⟩
 | .anyb,y,hr => hr
 | .junk,y,hr => trivial
theorem Jj (h:Lows φ φ' H2 H' w ren):∀ (l:List AV) {ys:List Value},RL (cx φ H2 w) l ys→RL (cx φ' H' w) (lowL ren H2 l) ys
 | [],ys,hr => hr
 | a::r,ys,hr => by
  obtain ⟨u,t,h1,h2,h3⟩:=hr
  exact ⟨u,t,h1,Zq6 h a h2,Jj h r h3⟩
end
end
def Leave (H:AH) (v2:AV) (H2:AH) (v:AV) (H':AH):Prop:=∀ φ0 w0 φ w y,St (cx φ0 H w0)→St (cx φ H2 w)→Ext (cx φ0 H w0) (cx φ H2 w)→R (cx φ H2 w) v2 y →
 ∃ φ',St (cx φ' H' w)∧Ext (cx φ0 H w0) (cx φ' H' w)∧R (cx φ' H' w) v y
theorem Leave.refl (H:AH) (v:AV) (H2:AH):Leave H v H2 v H2:=fun φ0 w0 φ w y _ h2 h3 h4 => ⟨φ,h2,h3,h4⟩
theorem Leave.trans {H:AH} {v2 v1 v:AV} {H2 H1 H':AH} (h:Leave H v2 H2 v1 H1) (h':Leave H v1 H1 v H'):Leave H v2 H2 v H':=fun φ0 w0 φ w y h1 h2 h3 h4 =>
 let ⟨φ',g1,g2,g3⟩:=h φ0 w0 φ w y h1 h2 h3 h4
 h' φ0 w0 φ' w y h1 g1 g2 g3
def Wu (ren:Nat→Option Nat) (H2:AH) (o:AObj):AObj:=⟨lowL ren H2 o.cs,o.sz,o.rw⟩
def renk (n:Nat) (ks:List Nat) (id:Nat):Option Nat:=if id<n then some id else (ks.idxOf? (id - n)).map (n+·)
theorem Zhy {ks:List Nat} {k j:Nat} (h:ks.idxOf? k=some j):ks[j]? = some k:=by
 induction ks generalizing j with
 | nil => cases h
 | cons a r ih =>
  rw [List.idxOf?_cons] at h
  split at h
  ·rename_i hh; cases h; simp at hh; simp [hh]
  ·cases hr:r.idxOf? k with
   | none => rw [hr] at h; cases h
   | some i => rw [hr] at h; cases h; simpa using ih hr
theorem Hw {H H1 H1' G:AH} (ks:List Nat) (hnd:ks.Nodup) (hlt:∀ k ∈ ks,k<G.length) (hl1:H1.length=H.length) (hl2:H1'.length=H.length)
  (hcl:∀ (i:Nat) (o':AObj),H1'[i]? = some o'→(H[i]? = some o'∧H1[i]? = some o')∨∃ o,H1[i]? = some o∧o'=Wu (renk H.length ks) (H1++G) o) (v2:AV) :
  Leave H v2 (H1++G) (low (renk H.length ks) (H1++G) v2) (H1'++ks.map fun k => Wu (renk H.length ks) (H1++G) (obj G k)):=by
 intro φ0 w0 φ w y s0 s2 hx hr
 generalize hren:renk H.length ks=ren at *
 generalize hH':(H1'++ks.map fun k => Wu ren (H1++G) (obj G k))=H' at *
 have hrs:∀ i,i<H.length→ren i=some i:=fun i hi => by rw [← hren]; simp [renk,hi]
 let src:Nat→Nat:=fun i => if i<H.length then i else H.length+ks.getD (i - H.length) 0
 let φ':Nat→Option Nat:=fun i => φ (src i)
 have hlen':H'.length=H.length+ks.length:=by rw [← hH']; simp [hl2]
 have hsrc:∀ (i:Nat) (o':AObj),H'[i]? = some o'→src i<(H1++G).length∧∃ o,(H1++G)[src i]? = some o∧o'=Wu ren (H1++G) o:=by
  intro i o' hi
  rw [← hH'] at hi
  by_cases hlt':i<H.length
  ·rw [List.getElem?_append_left (by omega)] at hi
   have:∃ o,H1[i]? = some o∧o'=Wu ren (H1++G) o:=by
    rcases hcl i o' hi with ⟨h1,h2⟩ | h3
    ·refine ⟨o',h2,?_⟩
     rcases s0.ok i o' h1 with ⟨g1,g2⟩ | ⟨b,c,e,fr,g1,g2,g3,g4,g5⟩
     ·cases o'; simp_all [Wu,lowL]
     ·have:=Nn (H2:=H1++G) hrs o'.cs g5
      cases o'; simp_all [Wu]
    ·exact h3
   obtain ⟨o,h1,h2⟩:=this
   have e:src i=i:=if_pos hlt'
   rw [e]
   exact ⟨by simp; omega,o,by rw [List.getElem?_append_left (by omega)]; exact h1,h2⟩
  ·rw [List.getElem?_append_right (by omega),hl2,List.getElem?_map,Option.map_eq_some_iff] at hi
   obtain ⟨k,h1,h2⟩:=hi
   have e:src i=H.length+k:=by show (if _ then _ else _)=_; rw [if_neg hlt',List.getD_eq_getElem?_getD,h1]; rfl
   have hk:=hlt k (List.mem_of_getElem? h1)
   rw [e]
   exact ⟨by simp; omega,obj G k,by rw [List.getElem?_append_right (by omega),hl1,Nat.add_sub_cancel_left]; exact Q7 hk,h2.symm⟩
 have hinj:∀ i j,i<H'.length→j<H'.length→src i=src j→i=j:=by
  intro i j hi hj he
  simp only [src] at he
  split at he <;> split at he
  ·exact he
  ·omega
  ·omega
  ·have e:ks.getD (i - H.length) 0=ks.getD (j - H.length) 0:=by omega
   have hi':i - H.length<ks.length:=by omega
   have hj':j - H.length<ks.length:=by omega
   rw [List.getD_eq_getElem?_getD,List.getD_eq_getElem?_getD,List.getElem?_eq_getElem hi',List.getElem?_eq_getElem hj'] at e
   have hp:=List.pairwise_iff_getElem.1 hnd
   rcases Nat.lt_trichotomy (i - H.length) (j - H.length) with hh | hh | hh
   ·exact absurd e (hp _ _ hi' hj' hh)
   ·omega
   ·exact absurd e.symm (hp _ _ hj' hi' hh)
 have hw:∀ b,Wr (cx φ' H' w) b→∃ i,i<H'.length∧φ (src i)=some b∧Wr (cx φ (H1++G) w) b:=by
  rintro b ⟨i,o',h1,h2,h3⟩
  obtain ⟨g1,o,g2,g3⟩:=hsrc i o' h1
  exact ⟨i,Zv h1,h3,src i,o,g2,by rw [g3] at h2; exact h2,h3⟩
 have L:Lows φ φ' (H1++G) H' w ren:=by
  refine ⟨s2,fun b off us hi => ⟨hi.1,fun hh => hi.2 (hw b hh).choose_spec.2.2⟩,fun id j hj o ho => ?_,fun id hid b hlt' hp hh => ?_⟩
  ·have:src j=id∧j<H'.length:=by
    rw [← hren] at hj
    unfold renk at hj
    split at hj
    ·cases hj
     rename_i hh
     exact ⟨if_pos hh,by omega⟩
    ·obtain ⟨m,h1,rfl⟩:=Option.map_eq_some_iff.1 hj
     have h2:=Zhy h1
     have h3:=Zv h2
     refine ⟨?_,by omega⟩
     show (if _ then _ else _)=_
     rw [if_neg (by omega),Nat.add_sub_cancel_left,List.getD_eq_getElem?_getD,h2]
     show H.length+(id - H.length)=id
     omega
   obtain ⟨o',ho'⟩:=Yd this.2
   obtain ⟨g1,o2,g2,g3⟩:=hsrc j o' ho'
   rw [this.1,ho] at g2; cases g2
   exact ⟨o',ho',by rw [g3]; rfl,by rw [g3]; exact Wf _ _ _,by show φ (src j)=_; rw [this.1]⟩
  ·obtain ⟨i,h1,h2,_⟩:=hw b hh
   obtain ⟨o',ho'⟩:=Yd h1
   obtain ⟨g1,_⟩:=hsrc i o' ho'
   have e:=s2.inj id (src i) b hlt' g1 hp h2
   subst e
   rw [← hren] at hid
   unfold renk at hid
   by_cases hi:i<H.length
   ·have e:src i=i:=if_pos hi
    rw [e,if_pos hi] at hid; cases hid
   ·have e:src i=H.length+ks.getD (i - H.length) 0:=if_neg hi
    have hi':i - H.length<ks.length:=by omega
    rw [e,if_neg (by omega),Nat.add_sub_cancel_left,Option.map_eq_none_iff,List.idxOf?_eq_none_iff] at hid
    apply hid
    rw [List.getD_eq_getElem?_getD,List.getElem?_eq_getElem hi']
    exact List.getElem_mem _
 refine ⟨φ',⟨fun i o' hi => ?_,fun i j b hi hj h1 h2 => ?_⟩,⟨hx.size,hx.frame,hx.shape,fun i o ho => ?_,fun i b hi h1 h2 => ?_⟩,Zq6 L v2 hr⟩
 ·obtain ⟨g1,o,g2,g3⟩:=hsrc i o' hi
  rcases s2.ok (src i) o g2 with ⟨k1,k2⟩ | ⟨b,c,e,fr,k1,k2,k3,k4,k5⟩
  ·exact .inl ⟨k1,by rw [g3]; simp [Wu,k2,lowL]⟩
  ·refine .inr ⟨b,c,e,fr,k1,k2,⟨k3.1,fun ⟨d1,d2⟩ => k3.2.1 ⟨List.eq_nil_of_length_eq_zero (by rw [g3] at d1; have:=congrArg List.length d1; simpa [Wu,Wf] using this),by rw [g3] at d2; exact d2⟩,fun hh => k3.2.2 (by rw [g3] at hh; exact hh)⟩,by rw [g3]; simp only [Wu,Wf]; exact k4,?_⟩
   rw [g3]; simp only [Wu,Wf]
   exact Jj L o.cs k5
 ·obtain ⟨oi,hoi⟩:=Yd hi
  obtain ⟨oj,hoj⟩:=Yd hj
  exact hinj i j hi hj (s2.inj _ _ b (hsrc i oi hoi).1 (hsrc j oj hoj).1 h1 h2)
 ·have hi:i<H.length:=Zv ho
  obtain ⟨o2,k1,kk⟩:=hx.objs i o ho
  obtain ⟨o',ho'⟩:=Yd (l:=H') (i:=i) (by omega)
  obtain ⟨g1,o3,g2,g3⟩:=hsrc i o' ho'
  have e:src i=i:=if_pos hi
  rw [e] at g2
  have k1:(H1++G)[i]? = some o2:=k1
  rw [k1] at g2; cases g2
  refine ⟨o',ho',?_⟩
  rcases kk with kk | ⟨k2,k3,k4,k5,k6,k7⟩
  ·exact .inl kk
  refine .inr ⟨by rw [g3]; exact k2,by rw [g3]; simp only [Wu,Wf]; exact k3,by rw [g3]; simp only [Wu,Wf]; exact k4,by rw [g3]; exact k5,fun hh => ?_,fun hh => ?_⟩
  ·have:=k6 hh
   subst this
   rw [g3]
   rcases s0.ok i o2 ho with ⟨j1,j2⟩ | ⟨b,c,e,fr,j1,j2,j3,j4,j5⟩
   ·cases o2; simp_all [Wu,lowL]
   ·have:=Nn (H2:=H1++G) hrs o2.cs j5
    cases o2; simp_all [Wu]
  ·rw [g3] at hh; simp only [Wu,Wf] at hh
   have:=k7 hh
   show φ (src i)=_
   rw [e]; exact this
 ·obtain ⟨o',ho'⟩:=Yd hi
  obtain ⟨g1,_⟩:=hsrc i o' ho'
  obtain ⟨k1,k2⟩:=hx.fresh (src i) b g1 h1 h2
  have k1:src i<H.length:=k1
  by_cases hlt':i<H.length
  ·have e:src i=i:=if_pos hlt'
   rw [e] at k2
   exact ⟨hlt',k2⟩
  ·have e:src i=H.length+ks.getD (i - H.length) 0:=if_neg hlt'
   omega
set_option linter.unusedSimpArgs false
def W2:Nat→List AV→List (Nat × AV)
 | _,[] => []
 | i,a::r => (i,a)::W2 (i+1) r
theorem Ax:∀ (args:List AV) (i n:Nat),look (W2 i args) (i+n)=args.getD n .junk
 | [],i,n => rfl
 | a::r,i,n => by
  show (if i+n=i then a else look (W2 (i+1) r) (i+n))=_
  cases n with
  | zero => simp
  | succ n =>
   rw [if_neg (by omega),show i+(n+1)=(i+1)+n by omega,Ax r (i+1) n]
   simp
structure Called (P:Program) (f:FuncId) (args:List AV) (H:AH) (v:AV) (H':AH):Prop where
 ok:Hm P f=true
 runs:∀ φ w (vals:Array Value),St (cx φ H w)→RL (cx φ H w) args vals.toList→Calls P f vals w (fun e w' => ∃ y,e=.returned y∧PostV φ H w v H' y w')
theorem C1 (P:Program):L4 P (Called P):=fun f args H v H' h => ⟨h.ok,h.runs⟩
def retQ (rs:List IRes) (H:AH) (v:AV) (H':AH):Ex→Env→AH→Prop:=fun e E H2 => match e with
 | .ret => Fj E H2 rs∧Leave H (Zen (rs.map (resV E H2))) H2 v H'
 | _ => False
section
variable {P:Program} {pf:Pf}
theorem Xp (hm:P.follows .mixedOrders=true) (hcmp:∀ t,pf.c t=true→cmpT P t=true) {f:FuncId} {fn:Func} (hf:P.funcs[f]? = some fn) (hok:Hm P f=true) {own:Nat→Bool} {ic:IC} (hcF:Px P pf own fn=some ic)
  {rs:List IRes} (hrs:fn.results.toList.mapM (res? P)=some rs) {args:List AV} {H:AH} {v:AV} {H':AH} (h:iwp pf (Called P) ic (retQ rs H v H') (look (W2 0 args)) H):Called P f args H v H':=by
 refine ⟨hok,fun φ w vals hs hr => ?_⟩
 unfold Px at hcF
 cases hb:fn.body with
 | none => rw [hb] at hcF; cases hcF
 | some c =>
  rw [hb] at hcF
  dsimp only at hcF
  rw [Option.map_eq_some_iff] at hcF
  obtain ⟨⟨ic',lv⟩,h1,h2⟩:=hcF
  dsimp only at h2
  subst h2
  have hl:=hr.length
  simp only [Array.length_toList] at hl
  have hSI:SI fn.ntmps (cx φ H w) w (look (W2 0 args)) H { tmps:=vals++Array.replicate (fn.ntmps - vals.size) undef,defers:=[] } w:=by
   refine ⟨⟨φ,hs,.refl _,fun i => ?_⟩,.refl _,by simp; omega,rfl⟩
   have e:=Ax args 0 i
   rw [Nat.zero_add] at e
   rw [e]
   by_cases hi:i<args.length
   ·have h3:=hr.getD i hi undef
    have e2:vals.toList.getD i undef=(vals++Array.replicate (fn.ntmps - vals.size) undef).getD i undef:=by
     rw [List.getD_eq_getElem?_getD,Array.getD_eq_getD_getElem?,Array.getElem?_append_left (by omega),Array.getElem?_toList]
    rw [← e2]; exact h3
   ·rw [List.getD_eq_getElem?_getD,List.getElem?_eq_none (by omega)]; trivial
  refine calls_of_wp hf hb (wp_mono (Zip (X:=⟨pf,own,fn.ntmps,resL fn.results⟩) (C1 P) hm hcmp c [] .ret (resL fn.results) ic' lv h1 _ _ _ _ _ hSI h) ?_)
  have fin:∀ (a:Act) (w':World) (E:Env) (H2:AH),SI fn.ntmps (cx φ H w) w E H2 a w'→retQ rs H v H' .ret E H2→a.defers=[]∧∃ y,(results fn a.tmps).run P w'=.ok y w'∧∃ y',Ending.returned y=.returned y'∧PostV φ H w v H' y' w':=by
   rintro a w' E H2 ⟨⟨φ2,g1,g2,g3⟩,g4,g5,g6⟩ ⟨k1,k2⟩
   obtain ⟨y,r1,r2⟩:=Du (P:=P) g1 g3 hrs k1
   obtain ⟨φ',l1,l2,l3⟩:=k2 φ w φ2 w' y hs g1 g2 r2
   exact ⟨g6,y,r1,y,rfl,φ',l1,l2,g4,l3⟩
  rintro e a w' ⟨E,H2,s1,s2⟩
  cases e with
  | normal => exact fin a w' E H2 s1 s2
  | ret => exact fin a w' E H2 s1 s2
  | _ => exact s2.elim
end
end Go.Proofs.YtcgjlpdkobmpnaaGreat.Eng
namespace Go.Proofs.YtcgjlpdkobmpnaaGreat.Eng
open Go Go.ChangeShapes Go.WideShapes Go.ChangeAt Go.RowKit
set_option linter.unusedVariables false
set_option linter.unusedSimpArgs false
section
variable (P:Program)
def Bx (plain:TypeId→Bool) (tot:Nat):Nat→List Field→Bool
 | o,[] => o == tot
 | o,f::r => f.offset == o&&plain f.type&&Bx plain tot (o+P.cellsOf f.type) r
def Q1:Nat→TypeId→Bool
 | 0,_ => false
 | d+1,t => match P.underlying t with
  | some .bool | some (.int _) | some .string => P.cellsOf t == 1
  | some (.slice e) => P.cellsOf t == 1&&P.cellsOf e != 0&&Q1 d e
  | some (.struct fs) => Bx P (Q1 d) (P.cellsOf t) 0 fs.toList
  | some (.array n e) => P.cellsOf e != 0&&P.cellsOf t == n*P.cellsOf e&&Q1 d e
  | _ => false
def Zei (sh:TypeId→List AV→Prop):List Field→List AV→Prop
 | [],avs => avs=[]
 | f::r,avs => ∃ x y,avs=x++y∧x.length=P.cellsOf f.type∧sh f.type x∧Zei sh r y
def shape:Nat→TypeId→List AV→Prop
 | 0,_,_ => False
 | d+1,t,avs => match P.underlying t with
  | some .bool => ∃ b,avs=[.lit (.bool b)]
  | some (.int k) => ∃ n,avs=[.lit (.int k n)]∧(Lit.int k n).wf=true
  | some .string => ∃ s,avs=[.lit (.string s)]∧s.size≤reachBytes
  | some (.slice e) => ∃ (els:List (List AV)) (full:Bool),avs=[.view els.flatten els.length full]∧els.length*P.bytesOf e≤reachBytes∧∀ x ∈ els,x.length=P.cellsOf e∧shape d e x
  | some (.struct fs) => Zei P (shape d) fs.toList avs
  | some (.array n e) => ∃ els:List (List AV),avs=els.flatten∧els.length=n∧∀ x ∈ els,x.length=P.cellsOf e∧shape d e x
  | _ => False
end
section
variable {P:Program} {φ:Nat→Option Nat} {w:World} {H:Type} {enc:TypeId × Value→H} {base:Nat} {sp:Nat→Bool} {held:Bool}
theorem Ki {β:Type} {f:Nat→Option β}:∀ {n:Nat} {l:List β},(List.range n).mapM f=some l→l.length=n∧∀ i,i<n→l[i]? = f i:=by
 intro n l h
 have key:∀ (xs:List Nat) (l:List β),xs.mapM f=some l→l.length=xs.length∧∀ (i x:Nat),xs[i]? = some x→l[i]? = f x:=by
  intro xs
  induction xs with
  | nil => intro l h; simp at h; subst h; exact ⟨rfl,fun i x hx => by simp at hx⟩
  | cons x xs ih =>
   intro l h
   simp only [List.mapM_cons,Option.bind_eq_bind,Option.pure_def] at h
   have h9:=Zf h; clear h; obtain ⟨b,h1,h⟩:=h9
   have h9:=Zf h; clear h; obtain ⟨l',h2,h⟩:=h9
   cases h
   obtain ⟨g1,g2⟩:=ih l' h2
   refine ⟨by simp [g1],fun i y hy => ?_⟩
   cases i with
   | zero => simp at hy; subst hy; simp [h1]
   | succ i => simp at hy; simpa using g2 i y hy
 obtain ⟨h1,h2⟩:=key _ l h
 exact ⟨by simpa using h1,fun i hi => h2 i i (by simp [hi])⟩
theorem noWr (b:Nat):¬ Wr (cx φ [] w) b:=by
 rintro ⟨id,o,h,_⟩
 simp [cx] at h
theorem Zzc (a:Addr) (m n:Nat):(a.add m).add n=a.add (m+n):=by
 unfold Addr.add
 by_cases hm:m=0 <;> by_cases hn:n=0 <;> simp [hm,hn]
 omega
theorem Zob {a:Addr} {n:Nat} {cs:List Value} (h:w.cells? base a n=some cs):cs.length=n∧∀ j,j<n→w.cell? (a.add j)=cs[j]? := by
 unfold World.cells? at h
 split at h
 ·obtain ⟨h1,h2⟩:=Ki h
  exact ⟨h1,fun j hj => (h2 j hj).symm⟩
 ·cases h
theorem Ak {a:Addr} {us:List Value} (hne:us≠[]) (h:∀ m,m<us.length→w.cell? (a.add m)=us[m]?):∃ b off,a=⟨b,off,none⟩∧Imm (cx φ [] w) b off us:=by
 obtain ⟨b,off,spot⟩:=a
 have hl:0<us.length:=List.length_pos_iff.2 hne
 have h0:=h 0 hl
 have e0:(⟨b,off,spot⟩:Addr).add 0=⟨b,off,spot⟩:=by simp [Addr.add]
 rw [e0] at h0
 obtain ⟨u0,hu0⟩:=Yd hl
 rw [hu0] at h0
 unfold World.cell? at h0
 cases hb:w.heap[b]? with
 | none => simp [hb] at h0
 | some o =>
  cases o with
  | cells c e fr =>
   simp only [hb] at h0
   have hs:spot=none:=by cases spot <;> simp_all
   subst hs
   refine ⟨b,off,rfl,⟨c,e,fr,hb,fun j u hj => ?_⟩,noWr b⟩
   have:=h j (Zv hj)
   rw [Xq,Fa hb,hj] at this
   exact this
  | _ => simp [hb] at h0
theorem So {e:TypeId} {n:Nat}:∀ {l:List (DataW H)} {d:DataW H},d ∈ l→n ∈ DataW.weights P e d→n ∈ DataW.weightsAll P e l
 | [],d,h,_ => by cases h
 | x::l,d,h,hn => by
  rw [DataW.weightsAll,List.mem_append]
  rcases List.mem_cons.1 h with rfl | h
  ·exact .inl hn
  ·exact .inr (So h hn)
theorem Qv {n:Nat}:∀ {ts:List TypeId} {l:List (DataW H)} {i:Nat} {t:TypeId} {d:DataW H},ts[i]? = some t→l[i]? = some d→n ∈ DataW.weights P t d→n ∈ DataW.weightsEach P ts l
 | [],l,i,t,d,h,_,_ => by simp at h
 | t0::ts,[],i,t,d,_,h,_ => by simp at h
 | t0::ts,x::l,i,t,d,h1,h2,hn => by
  rw [DataW.weightsEach,List.mem_append]
  cases i with
  | zero => simp at h1 h2; subst h1; subst h2; exact .inl hn
  | succ i => exact .inr (Qv (i:=i) (by simpa using h1) (by simpa using h2) hn)
theorem Zn3 {sh:List AV→Prop} {k:Nat} {a:Addr} {tr:List Value→Option (DataW H × List MemPlace)} {W:DataW H→Prop} (htr:∀ cs x,tr cs=some x→W x.1→∃ avs,RL (cx φ [] w) avs cs∧Yg avs=true∧avs.length=k∧sh avs) :
  ∀ (n:Nat) (xs:List (DataW H × List MemPlace)),xs.length=n→(∀ x ∈ xs,W x.1)→(∀ i,i<n→xs[i]? = (w.cells? base (a.add (i*k)) k).bind tr) →
   ∃ (els:List (List AV)) (us:List Value),els.length=n∧(∀ x ∈ els,x.length=k∧sh x)∧us.length=n*k∧RL (cx φ [] w) els.flatten us∧Yg els.flatten=true∧∀ m,m<n*k→w.cell? (a.add m)=us[m]?
 | 0,xs,hl,_,h => ⟨[],[],rfl,by simp,by simp,rfl,rfl,fun m hm => by simp at hm⟩
 | n+1,xs,hl,hW,h => by
  obtain ⟨els,us,h1,h2,h3,h4,h5,h6⟩:=Zn3 htr n (xs.take n) (by simp [hl]) (fun x hx => hW x (List.mem_of_mem_take hx)) fun i hi => by rw [List.getElem?_take,if_pos hi]; exact h i (by omega)
  have hn:=h n (by omega)
  obtain ⟨x,hx⟩:=Yd (l:=xs) (i:=n) (by omega)
  rw [hx] at hn
  obtain ⟨cs,g1,g2⟩:=Zf hn.symm
  obtain ⟨avs,r1,r2,r3,r4⟩:=htr cs x g2 (hW x (List.mem_of_getElem? hx))
  obtain ⟨c1,c2⟩:=Zob g1
  refine ⟨els++[avs],us++cs,by simp [h1],?_,by rw [List.length_append,h3,c1,Nat.succ_mul],by simpa using h4.append r1,by simp [Y7,h5,r2],fun m hm => ?_⟩
  ·intro y hy
   rcases List.mem_append.1 hy with hy | hy
   ·exact h2 y hy
   ·simp at hy; subst hy; exact ⟨r3,r4⟩
  ·by_cases hlt:m<n*k
   ·rw [List.getElem?_append_left (by omega)]; exact h6 m hlt
   ·rw [List.getElem?_append_right (by omega),h3]
    have:=c2 (m - n*k) (by rw [Nat.succ_mul] at hm; omega)
    rw [Zzc] at this
    rw [← this]
    congr 2
    omega
theorem E4 {tr:TypeId→List Value→Option (DataW H × List MemPlace)} {pl:TypeId→Bool} {sh:TypeId→List AV→Prop} {W:TypeId→DataW H→Prop} (htr:∀ t cs x,pl t=true→tr t cs=some x→W t x.1→∃ avs,RL (cx φ [] w) avs cs∧Yg avs=true∧avs.length=P.cellsOf t∧sh t avs) {cs:List Value} {tot:Nat} (htot:cs.length=tot) :
  ∀ (fs:List Field) (o:Nat) (xs:List (DataW H × List MemPlace)),Bx P pl tot o fs=true→(fs.mapM fun f => tr f.type ((cs.drop f.offset).take (P.cellsOf f.type)))=some xs→(∀ (i:Nat) f x,fs[i]? = some f→xs[i]? = some x→W f.type x.1) →
   ∃ avs,RL (cx φ [] w) avs (cs.drop o)∧Yg avs=true∧Zei P sh fs avs
 | [],o,xs,hp,h,_ => by
  simp only [Bx,beq_iff_eq] at hp
  exact ⟨[],by rw [List.drop_eq_nil_of_le (by omega)]; rfl,rfl,rfl⟩
 | f::fs,o,xs,hp,h,hW => by
  simp only [Bx,Bool.and_eq_true,beq_iff_eq] at hp
  obtain ⟨⟨p1,p2⟩,p3⟩:=hp
  simp only [List.mapM_cons,Option.bind_eq_bind,Option.pure_def] at h
  have h9:=Zf h; clear h; obtain ⟨x,h1,h⟩:=h9
  have h9:=Zf h; clear h; obtain ⟨xs',h2,h⟩:=h9
  cases h
  obtain ⟨avs,r1,r2,r3,r4⟩:=htr _ _ _ p2 h1 (hW 0 f x rfl rfl)
  obtain ⟨bvs,s1,s2,s3⟩:=E4 htr htot fs _ xs' p3 h2 (fun i g y hg hy => hW (i+1) g y (by simpa using hg) (by simpa using hy))
  refine ⟨avs++bvs,?_,by simp [Y7,r2,s2],avs,bvs,rfl,r3,r4,s3⟩
  have hl:=r1.length
  rw [p1] at r1 hl
  have e:cs.drop o=(cs.drop o).take (P.cellsOf f.type)++cs.drop (o+P.cellsOf f.type):=by
   rw [← List.drop_drop]; exact (List.take_append_drop _ _).symm
  rw [e]
  exact r1.append s1
theorem Zag {tr:List Value→Option (DataW H × List MemPlace)} {sh:List AV→Prop} {k:Nat} {W:DataW H→Prop} (htr:∀ cs x,tr cs=some x→W x.1→∃ avs,RL (cx φ [] w) avs cs∧Yg avs=true∧avs.length=k∧sh avs) {cs:List Value} :
  ∀ (n:Nat) (xs:List (DataW H × List MemPlace)),xs.length=n→(∀ x ∈ xs,W x.1)→(∀ i,i<n→xs[i]? = tr ((cs.drop (i*k)).take k)) → 
   ∃ els:List (List AV),els.length=n∧(∀ x ∈ els,x.length=k∧sh x)∧RL (cx φ [] w) els.flatten (cs.take (n*k))∧Yg els.flatten=true
 | 0,xs,hl,_,h => ⟨[],rfl,by simp,by simp [RL],rfl⟩
 | n+1,xs,hl,hW,h => by
  obtain ⟨els,h1,h2,h3,h4⟩:=Zag htr n (xs.take n) (by simp [hl]) (fun x hx => hW x (List.mem_of_mem_take hx)) fun i hi => by rw [List.getElem?_take,if_pos hi]; exact h i (by omega)
  have hn:=h n (by omega)
  obtain ⟨x,hx⟩:=Yd (l:=xs) (i:=n) (by omega)
  rw [hx] at hn
  obtain ⟨avs,r1,r2,r3,r4⟩:=htr _ x hn.symm (hW x (List.mem_of_getElem? hx))
  refine ⟨els++[avs],by simp [h1],?_,?_,by simp [Y7,h4,r2]⟩
  ·intro y hy
   rcases List.mem_append.1 hy with hy | hy
   ·exact h2 y hy
   ·simp at hy; subst hy; exact ⟨r3,r4⟩
  ·have e:cs.take ((n+1)*k)=cs.take (n*k)++(cs.drop (n*k)).take k:=by rw [Nat.succ_mul,List.take_add]
   rw [e]
   simpa using h3.append r1
theorem dec:∀ (d:Nat) (t:TypeId),Q1 P d t=true→∀ (fuel:Nat) (cs:List Value) (x:DataW H × List MemPlace),DataW.trod enc P w base sp held fuel t cs=some x→(∀ n ∈ DataW.weights P t x.1,n≤reachBytes) →
  ∃ avs,RL (cx φ [] w) avs cs∧Yg avs=true∧avs.length=P.cellsOf t∧shape P d t avs:=by
 intro d
 induction d with
 | zero => intro t hp; cases hp
 | succ d ih =>
  intro t hp fuel cs x h hz
  cases fuel with
  | zero => cases h
  | succ fuel =>
   unfold Q1 at hp
   unfold shape
   unfold DataW.trod at h
   cases hu:P.underlying t with
   | none => rw [hu] at hp; cases hp
   | some D =>
    rw [hu] at hp h
    cases D <;> dsimp only at hp h ⊢ <;> try (cases hp; done)
    case bool =>
     cases cs with
     | nil => cases h
     | cons c r =>
      cases r with
      | cons c' r => cases c <;> cases h
      | nil => cases c <;> first | (cases h; done) | exact ⟨[.lit (.bool _)],⟨_,[],rfl,rfl,rfl⟩,rfl,(beq_iff_eq.1 hp).symm,_,rfl⟩
    case int k =>
     cases cs with
     | nil => cases h
     | cons c r =>
      cases r with
      | cons c' r => cases c <;> cases h
      | nil =>
       cases c <;> first | (cases h; done) | skip
       dsimp only at h
       split at h
       ·rename_i hc
        obtain ⟨rfl,hw⟩:=hc
        exact ⟨[.lit (.int _ _)],⟨_,[],rfl,rfl,rfl⟩,rfl,(beq_iff_eq.1 hp).symm,_,rfl,hw⟩
       ·cases h
    case string =>
     cases cs with
     | nil => cases h
     | cons c r =>
      cases r with
      | cons c' r => cases c <;> cases h
      | nil =>
       cases c <;> first | (cases h; done) | skip
       dsimp only at h
       split at h
       ·rename_i hc
        cases h
        exact ⟨[.lit (.string _)],⟨_,[],rfl,rfl,rfl⟩,rfl,(beq_iff_eq.1 hp).symm,_,rfl,by simpa [DataW.weights] using hz⟩
       ·cases h
    case slice e =>
     simp only [Bool.and_eq_true,beq_iff_eq,bne_iff_ne,ne_eq] at hp
     obtain ⟨⟨hp1,hp2⟩,hp3⟩:=hp
     cases cs with
     | nil => cases h
     | cons c r =>
      cases r with
      | cons c' r => cases c <;> first | (cases h; done) | (rename_i a l cp; cases a <;> first | (cases h; done) | (cases l <;> cases cp <;> cases h))
      | nil =>
       cases c <;> first | (cases h; done) | skip
       rename_i a len cap
       cases a with
       | none =>
        cases len with
        | zero =>
         cases cap with
         | zero => exact ⟨[.view [] 0 true],⟨_,[],rfl,⟨none,0,rfl,Nat.le_refl _,fun _ => ⟨rfl,rfl⟩,fun _ => rfl,rfl,.inl rfl⟩,rfl⟩,rfl,hp1.symm,[],true,rfl,by simp,by simp⟩
         | succ c => cases h
        | succ l => cases h
       | some a =>
        dsimp only at h
        split at h
        ·rename_i hc
         obtain ⟨xs,h1,h2⟩:=Zf h
         obtain ⟨rest,h3,h4⟩:=Option.map_eq_some_iff.1 h2
         clear h h2
         subst h4
         obtain ⟨l1,l2⟩:=Ki h1
         simp only [DataW.weights,hu,List.mem_cons,List.mem_append,List.length_map] at hz
         have hz1:=hz _ (.inl rfl)
         have hz2:∀ x ∈ xs,∀ n ∈ DataW.weights P e x.1,n≤reachBytes:=fun x hx n hn => hz n (.inr (.inl (So (List.mem_map_of_mem hx) hn)))
         obtain ⟨els,us,r1,r2,r3,r4,r5,r6⟩:=Zn3 (k:=P.cellsOf e) (sh:=shape P d e) (W:=fun d => ∀ n ∈ DataW.weights P e d,n≤reachBytes) (fun cs x hx hw => ih e hp3 fuel cs x hx hw) len xs l1 hz2 l2
         refine ⟨[.view els.flatten els.length (decide (cap=len))],⟨_,[],rfl,⟨some a,cap,by rw [r1],by rw [r1]; exact hc.2.1,(fun hh => by cases hh),(fun hh => by rw [r1]; simpa using hh),r5,?_⟩,rfl⟩,by simp [Yg,AV.pure,r5],hp1.symm,⟨els,_,rfl,by rw [r1,← l1]; exact Nat.le_trans (Nat.mul_le_mul_right _ (Nat.le_add_right _ _)) hz1,r2⟩⟩
         by_cases hne:us=[]
         ·left
          subst hne
          have:=r4.length
          exact List.length_eq_zero_iff.1 (by simpa using this.symm)
         ·obtain ⟨b,off,e1,e2⟩:=Ak (φ:=φ) hne (fun m hm => r6 m (by rw [← r3]; exact hm))
          exact .inr ⟨b,off,us,by rw [e1],e2,r4⟩
        ·cases h
    case struct fs =>
     split at h
     ·rename_i hc
      obtain ⟨xs,h1,h2⟩:=Option.map_eq_some_iff.1 h
      subst h2
      simp only [DataW.weights,hu] at hz
      obtain ⟨avs,r1,r2,r3⟩:=E4 (P:=P) (φ:=φ) (w:=w) (tr:=DataW.trod enc P w base sp held fuel) (pl:=Q1 P d) (sh:=shape P d) (W:=fun t d => ∀ n ∈ DataW.weights P t d,n≤reachBytes) (fun t cs x hp hx hw => ih t hp fuel cs x hx hw) hc fs.toList 0 xs hp h1 (fun i f x hf hx n hn => hz n (Qv (i:=i) (by rw [List.getElem?_map,hf]; rfl) (by rw [List.getElem?_map,hx]; rfl) hn))
      rw [List.drop_zero] at r1
      exact ⟨avs,r1,r2,by rw [← r1.length,hc],r3⟩
     ·cases h
    case array n e =>
     simp only [Bool.and_eq_true,beq_iff_eq,bne_iff_ne,ne_eq] at hp
     obtain ⟨⟨hp1,hp2⟩,hp3⟩:=hp
     split at h
     ·rename_i hc
      obtain ⟨xs,h1,h2⟩:=Option.map_eq_some_iff.1 h
      obtain ⟨l1,l2⟩:=Ki h1
      subst h2
      simp only [DataW.weights,hu] at hz
      obtain ⟨els,r1,r2,r3,r4⟩:=Zag (k:=P.cellsOf e) (sh:=shape P d e) (φ:=φ) (w:=w) (W:=fun d => ∀ n ∈ DataW.weights P e d,n≤reachBytes) (fun cs x hx hw => ih e hp3 fuel cs x hx hw) (cs:=cs) n xs l1 (fun x hx n hn => hz n (So (List.mem_map_of_mem hx) hn)) l2
      rw [List.take_of_length_le (by omega)] at r3
      exact ⟨els.flatten,r3,r4,by rw [← r3.length,hc],els,rfl,r1,r2⟩
     ·cases h
end
end Go.Proofs.YtcgjlpdkobmpnaaGreat.Eng
namespace Go.Proofs.YtcgjlpdkobmpnaaGreat.Eng
open Go Go.ChangeShapes Go.WideShapes Go.ChangeAt Go.RowKit
set_option linter.unusedVariables false
set_option linter.unusedSimpArgs false
section
variable {P:Program} {φ:Nat→Option Nat} {W:World} {H:Type} {enc:TypeId × Value→H}
def avOf (P:Program) (t:TypeId) (avs:List AV):AV:=if Yk P t then .agg avs else avs.headD .junk
def Ty (P:Program):List TypeId→List (List AV)→Prop
 | [],[] => True
 | t::ts,x::xs => (x.length=P.cellsOf t∧shape P 12 t x)∧Ty P ts xs
 | _,_ => False
def Zax (P:Program):List TypeId→List (List AV)→List AV
 | t::ts,x::xs => avOf P t x::Zax P ts xs
 | _,_ => []
theorem Rj {t:TypeId} {ts:List TypeId} {avss:List (List AV)} (h:Ty P (t::ts) avss):∃ x xs,avss=x::xs∧(x.length=P.cellsOf t∧shape P 12 t x)∧Ty P ts xs:=by
 cases avss with
 | nil => exact h.elim
 | cons x xs => exact ⟨x,xs,rfl,h.1,h.2⟩
theorem Zsz {avss:List (List AV)} (h:Ty P [] avss):avss=[]:=by
 cases avss with
 | nil => rfl
 | cons x xs => exact h.elim
theorem Xg {d:Nat} {t:TypeId} {k:IntKind} {x:List AV} (hu:P.underlying t=some (.int k)) (h:shape P (d+1) t x):∃ n,x=[.lit (.int k n)]∧(Lit.int k n).wf=true:=by
 unfold shape at h; rw [hu] at h; exact h
theorem Zgm {d:Nat} {t:TypeId} {x:List AV} (hu:P.underlying t=some .bool) (h:shape P (d+1) t x):∃ b,x=[.lit (.bool b)]:=by
 unfold shape at h; rw [hu] at h; exact h
theorem U9 {d:Nat} {t e:TypeId} {x:List AV} (hu:P.underlying t=some (.slice e)) (h:shape P (d+1) t x):∃ (els:List (List AV)) (full:Bool),x=[.view els.flatten els.length full]∧els.length*P.bytesOf e≤reachBytes∧∀ y ∈ els,y.length=P.cellsOf e∧shape P d e y:=by
 unfold shape at h; rw [hu] at h; exact h
theorem Vb {d:Nat} {t:TypeId} {fs:Array Field} {x:List AV} (hu:P.underlying t=some (.struct fs)) (h:shape P (d+1) t x):Zei P (shape P d) fs.toList x:=by
 unfold shape at h; rw [hu] at h; exact h
theorem Zbt {d n:Nat} {t e:TypeId} {x:List AV} (hu:P.underlying t=some (.array n e)) (h:shape P (d+1) t x):∃ els:List (List AV),x=els.flatten∧els.length=n∧∀ y ∈ els,y.length=P.cellsOf e∧shape P d e y:=by
 unfold shape at h; rw [hu] at h; exact h
theorem B3 {α:Type} {f:α→AV} {Q:List AV→Prop}:∀ {els:List (List AV)},(∀ y ∈ els,Q y)→(∀ y,Q y→∃ a,y=[f a])→∃ l:List α,els.flatten=l.map f∧l.length=els.length
 | [],_,_ => ⟨[],rfl,rfl⟩
 | y::els,h,hq => by
  obtain ⟨l,h1,h2⟩:=B3 (els:=els) (fun z hz => h z (by simp [hz])) hq
  obtain ⟨a,rfl⟩:=hq y (h y (by simp))
  exact ⟨a::l,by simp [h1],by simp [h2]⟩
theorem len1 {α:Type} {l:List α} (h:l.length=1):∃ a,l=[a]:=List.length_eq_one_iff.1 h
theorem Mw {α:Type} {l:List α} {n:Nat} (h:l.length=n+1):∃ a r,l=a::r∧r.length=n:=by
 cases l with
 | nil => cases h
 | cons a r => exact ⟨a,r,rfl,by simpa using h⟩
theorem Zyh {base:Nat} {t:TypeId} {v:Value} {d:DataW H} {ps:List MemPlace} {sp:Nat→Bool} {held:Bool} {b:Nat} (hp:Q1 P 12 t=true) (h:DataW.Trod enc P W b sp held t v d ps) (ho:Value.okWide P W .any base t v) (hz:∀ n ∈ DataW.weights P t d,n≤reachBytes) :
  ∃ avs,(avs.length=P.cellsOf t∧shape P 12 t avs)∧R (cx φ [] W) (avOf P t avs) v:=by
 obtain ⟨fuel,h⟩:=h
 obtain ⟨avs,r1,r2,r3,r4⟩:=dec (φ:=φ) 12 t hp fuel _ _ h hz
 refine ⟨avs,⟨r3,r4⟩,?_⟩
 have one:v.oneCell'=true→Yk P t=false→R (cx φ [] W) (avOf P t avs) v:=by
  intro h1 h2
  rw [J1 h1] at r1
  cases avs with
  | nil => cases r1
  | cons a r =>
   obtain ⟨u,t',e,g1,g2⟩:=r1
   cases e
   simp only [avOf,h2,Bool.false_eq_true,if_false]
   exact g1
 have agg:(∃ cs,v=.agg cs∧cs.size=P.cellsOf t∧Row.okWide P W .any base t cs)→Yk P t=true→R (cx φ [] W) (avOf P t avs) v:=by
  rintro ⟨cs,rfl,_⟩ h2
  simp only [avOf,h2,if_true]
  exact ⟨cs,rfl,r1⟩
 unfold Q1 at hp
 unfold Value.okWide at ho
 cases hu:P.underlying t with
 | none => rw [hu] at hp; cases hp
 | some D =>
  rw [hu] at hp ho
  cases D <;> dsimp only at hp ho <;> try (cases hp; done)
  case struct fs => exact agg ho (by simp [Yk,hu])
  case array n e => exact agg ho (by simp [Yk,hu])
  all_goals
   refine one ?_ (by simp [Yk,hu])
   unfold Cell.okWide at ho
   rw [hu] at ho
   cases v <;> first | rfl | (simp [Cell.ok,hu] at ho; done)
theorem Zfr {base:Nat} {sp:Nat→Bool} {held:Bool} {b:Nat}:∀ {ts:List TypeId} {vs:List Value} {ds:List (DataW H)} {ps:List MemPlace},(∀ t ∈ ts,Q1 P 12 t=true)→DataW.TrodAll enc P W b sp held ts vs ds ps →
  (∀ (j:Nat) t v,ts[j]? = some t→vs[j]? = some v→Value.okWide P W .any base t v)→(∀ n ∈ DataW.weightsEach P ts ds,n≤reachBytes)→∃ avss,Ty P ts avss∧RL (cx φ [] W) (Zax P ts avss) vs
 | [],vs,ds,ps,hp,h,ho,_ => by
  obtain ⟨rfl,rfl,rfl⟩:=trodAll_nil h
  exact ⟨[],trivial,rfl⟩
 | t::ts,vs,ds,ps,hp,h,ho,hz => by
  obtain ⟨v,vs1,d,ds1,p,q,rfl,rfl,rfl,h1,h2⟩:=trodAll_cons h
  simp only [DataW.weightsEach,List.mem_append] at hz
  obtain ⟨avs,r1,r2⟩:=Zyh (φ:=φ) (hp t (by simp)) h1 (ho 0 t v rfl rfl) (fun n hn => hz n (.inl hn))
  obtain ⟨avss,s1,s2⟩:=Zfr (fun u hu => hp u (by simp [hu])) h2 (fun j u x hj hx => ho (j+1) u x (by simpa using hj) (by simpa using hx)) (fun n hn => hz n (.inr hn))
  exact ⟨avs::avss,⟨r1,s1⟩,v,vs1,rfl,r2,s2⟩
theorem N5 {W':World} {sp':Nat→Bool} (hl:laidOutB P=true) (hsame:∀ k,k<W.heap.size→W'.heap[k]? = W.heap[k]?):∀ {ts:List TypeId} {vs:List Value} {ds:List (DataW H)} {ps:List MemPlace},(∀ t ∈ ts,P.readableRec t=true∧t<P.types.size) →
  DataW.TrodAll enc P W 0 (fun _ => true) true ts vs ds ps→(∀ p ∈ ps,p.block<W.heap.size)→(∀ p ∈ ps,sp' p.block=true)→(∀ p:MemPlace,p.block<W.heap.size→W.sameAt W' p)→DataW.TrodAll enc P W' 0 sp' true ts vs ds ps
 | [],vs,ds,ps,hp,h,hlt,hs,hat => by
  obtain ⟨rfl,rfl,rfl⟩:=trodAll_nil h
  exact trodAll_mk0
 | t::ts,vs,ds,ps,hp,h,hlt,hs,hat => by
  obtain ⟨v,vs1,d,ds1,p,q,rfl,rfl,rfl,h1,h2⟩:=trodAll_cons h
  refine ⟨p,q,WideElems.Trod_stays hl (hp t (by simp)).1 (hp t (by simp)).2 h1 (fun x hx => hat x (hlt x (by simp [hx]))) (fun x hx => hs x (by simp [hx])),?_,rfl⟩
  exact N5 hl hsame (fun u hu => hp u (by simp [hu])) h2 (fun x hx => hlt x (by simp [hx])) (fun x hx => hs x (by simp [hx])) hat
theorem Ix {us:List TypeId} {gs:List (DataW H)} {n:Nat}:∀ {ts:List TypeId} {ds:List (DataW H)},n ∈ DataW.weightsEach P ts ds→n ∈ DataW.weightsEach P (ts++us) (ds++gs)
 | [],ds,h => by simp [DataW.weightsEach] at h
 | t::ts,[],h => by simp [DataW.weightsEach] at h
 | t::ts,d::ds,h => by
  simp only [List.cons_append,DataW.weightsEach,List.mem_append] at h ⊢
  exact h.imp_right Ix
theorem Zma {f:FuncId} {fn:Func} {s:ChangeSpec} {tb:TypeId} (hl:laidOutB P=true) (hpl:∀ t ∈ fn.params.toList,Q1 P 12 t=true) (hrd:∀ t ∈ fn.params.toList,P.readableRec t=true∧t<P.types.size) (hv:s.vars=[])
  (hs:∀ ds:List (DataW H),ds.length=fn.params.toList.length→s.fn H ds={ results:=[.lit (.bool true)],args:=ds }) (hres:fn.resultTypes=#[tb]) (htb:P.underlying tb=some .bool)
  (hc:∀ avss:List (List AV),Ty P fn.params.toList avss→Called P f (Zax P fn.params.toList avss) [] (.lit (.bool true)) [])
  {base:Nat} {args:Array Value} {ds gs:List (DataW H)} {before:List MemPlace} (hval:∀ (j:Nat) t v,fn.params[j]? = some t→args[j]? = some v→Value.okWide P W .any base t v) (hW:DataW.Whole enc P fn.params.toList s.vars false W args.toList ds gs before) (hz:∀ n ∈ DataW.weightsEach P fn.params.toList ds,n≤reachBytes) :
  Calls P f args W fun e W' => ∃ v,e=.returned v∧s.post enc P fn false true false false W args v W':=by
 have hlt:=hW.lt
 have hW':=hW
 obtain ⟨p,q,hA,hV,rfl,hfz,hnd⟩:=hW
 rw [hv] at hV
 obtain ⟨rfl,rfl⟩:=trodVars_none hV
 rw [List.append_nil] at hlt hW' hfz hnd
 obtain ⟨avss,h1,h2⟩:=Zfr (φ:=fun _ => none) hpl hA (base:=base) (fun j t v hj hx => hval j t v (by simpa using hj) (by simpa using hx)) hz
 have hlen:ds.length=fn.params.toList.length:=by
  clear hz hval hW' hfz hnd h2 hlt hV hrd hpl hs hc h1 hres
  generalize fn.params.toList=ts at *
  generalize args.toList=vs at *
  induction ts generalizing vs ds p with
  | nil => obtain ⟨rfl,rfl,rfl⟩:=trodAll_nil hA; rfl
  | cons t ts ih =>
   obtain ⟨v,vs1,d,ds1,p,q,rfl,rfl,rfl,g1,g2⟩:=trodAll_cons hA
   simp [ih _ _ g2]
 refine ((hc avss h1).runs (fun _ => none) W args ⟨fun id o h => by simp [cx] at h,fun i j b hi => by simp [cx] at hi⟩ h2).mono ?_
 rintro e W' ⟨y,rfl,φ',g1,g2,g3,g4⟩
 cases g4
 have hframe:∀ k,k<W.heap.size→W'.heap[k]? = W.heap[k]? := fun k hk => g2.frame k hk (noWr k)
 have hB:Below W.heap.size W W':=⟨g3.1,g3.2.1,g3.2.2,g2.size,hframe⟩
 refine ⟨_,rfl,ds,[],p,[],p,[],hW',?_,?_,?_,hB.frame _,fun h => by cases h⟩
 ·rw [List.append_nil,hs ds hlen,hres]
  exact ⟨[],[],⟨1,by simp [DataW.trod,htb,Value.resultList,Value.cells]⟩,rfl,rfl⟩
 ·rw [List.append_nil,hs ds hlen]
  exact N5 hl hframe hrd hA hlt (fun x hx => by simpa using hlt x hx) fun x hx => hB.same hx
 ·rw [hv,List.append_nil,hs ds hlen]; exact rfl
theorem Zhn {f:FuncId} {fn:Func} {s:ChangeSpec} {tb:TypeId} (hl:laidOutB P=true) (hpl:fn.params.toList.all (Q1 P 12)=true) (hrd:(fn.params.toList.all fun t => P.readableRec t&&decide (t<P.types.size))=true) (hv:s.vars=[])
  (hs:∀ ds:List (DataW H),ds.length=fn.params.toList.length→s.fn H ds={ results:=[.lit (.bool true)],args:=ds }) (hres:fn.resultTypes=#[tb]) (htb:P.underlying tb=some .bool)
  (hc:∀ avss:List (List AV),Ty P fn.params.toList avss→Called P f (Zax P fn.params.toList avss) [] (.lit (.bool true)) [])
  {base:Nat} {args:Array Value} {ds gs:List (DataW H)} {before:List MemPlace} (hval:∀ (j:Nat) t v,fn.params[j]? = some t→args[j]? = some v→Value.okWide P W .any base t v) (hW:DataW.Whole enc P fn.params.toList s.vars false W args.toList ds gs before) {us:List TypeId} (hz:(DataW.weightsEach P (fn.params.toList++us) (ds++gs)).all (·≤reachBytes)=true) :
  Calls P f args W fun e W' => ∃ v,e=.returned v∧s.post enc P fn false true false false W args v W' :=
 Zma hl (List.all_eq_true.1 hpl) (fun t ht => by have:=List.all_eq_true.1 hrd t ht; simpa using this) hv hs hres htb hc hval hW (fun n hn => by have:=List.all_eq_true.1 hz n (Ix hn); simpa using this)
end
def Le (a b:AV):Prop:=∀ (S:Cx) (y:Value),R S a y→R S b y
def LeL:List AV→List AV→Prop
 | [],[] => True
 | a::r,b::s => Le a b∧LeL r s
 | _,_ => False
theorem Le.refl (a:AV):Le a a:=fun _ _ h => h
theorem LeL.rl {S:Cx}:∀ {a b:List AV} {ys:List Value},LeL a b→RL S a ys→RL S b ys
 | [],[],ys,_,h => h
 | a::r,b::s,ys,hl,h => by
  obtain ⟨u,t,h1,h2,h3⟩:=h
  exact ⟨u,t,h1,hl.1 S u h2,LeL.rl hl.2 h3⟩
theorem O0 (full:Bool):Le (.lit (.slice none 0 0)) (.view [] 0 full):=by
 intro S y h
 cases h
 exact ⟨none,0,rfl,Nat.le_refl _,fun _ => ⟨rfl,rfl⟩,fun _ => rfl,rfl,.inl rfl⟩
section
variable {P:Program} {f:FuncId} {H H':AH} {v:AV}
theorem Called.weak {args args':List AV} (h:Called P f args H v H') (hl:LeL args' args):Called P f args' H v H' :=
 ⟨h.ok,fun φ w vals hs hr => h.runs φ w vals hs (hl.rl hr)⟩
theorem Called.less {args:List AV} {v':AV} (h:Called P f args H v H') (hl:Le v v'):Called P f args H v' H' :=
 ⟨h.ok,fun φ w vals hs hr => (h.runs φ w vals hs hr).mono fun e w' ⟨y,he,φ',h1,h2,h3,h4⟩ => ⟨y,he,φ',h1,h2,h3,hl _ _ h4⟩⟩
mutual
def AV.flat:AV→Bool
 | .lit _ | .junk => true
 | .agg cs | .tup cs => Zry cs
 | _ => false
def Zry:List AV→Bool
 | [] => true
 | a::r => a.flat&&Zry r
end
mutual
theorem Zuw {S S':Cx}:∀ (v:AV) {y:Value},v.flat=true→R S v y→R S' v y
 | .lit v,y,_,h => h
 | .junk,y,_,h => trivial
 | .agg cs,y,hf,h => by obtain ⟨vs,h1,h2⟩:=h; exact ⟨vs,h1,Zdq cs hf h2⟩
 | .tup cs,y,hf,h => by obtain ⟨vs,h1,h2⟩:=h; exact ⟨vs,h1,Zdq cs hf h2⟩
 | .ptr ..,y,hf,h | .rptr ..,y,hf,h | .vptr ..,y,hf,h | .row ..,y,hf,h | .view ..,y,hf,h | .fn ..,y,hf,h | .may ..,y,hf,h | .anyb,y,hf,h => by cases hf
theorem Zdq {S S':Cx}:∀ (l:List AV) {ys:List Value},Zry l=true→RL S l ys→RL S' l ys
 | [],ys,_,h => h
 | a::r,ys,hf,h => by
  simp only [Zry,Bool.and_eq_true] at hf
  obtain ⟨u,t,h1,h2,h3⟩:=h
  exact ⟨u,t,h1,Zuw a hf.1 h2,Zdq r hf.2 h3⟩
end
def froz (H:AH):AH:=H.map fun o => ⟨o.cs,o.sz,false⟩
theorem Zfi {i:Nat} {o:AObj} (h:(froz H)[i]? = some o):∃ o',H[i]? = some o'∧o=⟨o'.cs,o'.sz,false⟩:=by
 simp only [froz,List.getElem?_map,Option.map_eq_some_iff] at h
 obtain ⟨o',h1,h2⟩:=h
 exact ⟨o',h1,h2.symm⟩
theorem Zm2 {i:Nat} {o:AObj} (h:H[i]? = some o):(froz H)[i]? = some ⟨o.cs,o.sz,false⟩:=by simp [froz,h]
theorem Zcr {φ:Nat→Option Nat} {w:World} (b:Nat):¬ Wr (cx φ (froz H) w) b:=by
 rintro ⟨id,o,h1,h2,h3⟩
 obtain ⟨o',g1,rfl⟩:=Zfi h1
 cases h2
theorem Zfj {φ:Nat→Option Nat} {w:World}:Ext (cx φ H w) (cx φ (froz H) w):=by
 refine ⟨Nat.le_refl _,fun _ _ _ => rfl,fun b c e fr h => ⟨c,fr,h,rfl⟩,fun i o h => ⟨_,Zm2 h,.inr ⟨rfl,Nat.le_refl _,fun _ => rfl,(fun h => by cases h),fun hh => ?_,fun _ => rfl⟩⟩,fun i b h1 h2 h3 => ⟨by simpa [cx,froz] using h1,h2⟩⟩
 cases o; simp_all
theorem Zx2 {φ:Nat→Option Nat} {w:World} (hs:St (cx φ H w)):St (cx φ (froz H) w):=by
 refine ⟨fun i o h => ?_,fun i j b hi hj => hs.inj i j b (by simpa [cx,froz] using hi) (by simpa [cx,froz] using hj)⟩
 obtain ⟨o',g1,rfl⟩:=Zfi h
 rcases hs.ok i o' g1 with h1 | ⟨b,c,e,fr,h1,h2,h3,h4,h5⟩
 ·exact .inl h1
 ·exact .inr ⟨b,c,e,fr,h1,h2,h3,h4,h5.mono Zfj⟩
def rv (H:AH):AV→AV
 | .row id off n L => if id<H.length then Vk H id off n L else .junk
 | v => v
theorem Zkr {φ:Nat→Option Nat} {w:World} (hs:St (cx φ H w)) {id off n L:Nat} {y:Value} (hr:R (cx φ H w) (.row id off n L) y):R (cx φ (froz H) w) (Vk H id off n L) y:=by
 have L0:Lows φ φ H (froz H) w (fun _ => none):=⟨hs,fun b off us hi => ⟨hi.1,Zcr b⟩,(fun id j h => by cases h),fun id _ b _ _ => Zcr b⟩
 exact Zq6 L0 _ hr
theorem rv_R {φ:Nat→Option Nat} {w:World} (hs:St (cx φ H w)):∀ {l:List AV} {ys:List Value},RL (cx φ H w) l ys→RL (cx φ (froz H) w) (l.map (rv H)) ys
 | [],ys,h => h
 | a::r,ys,h => by
  obtain ⟨u,t,h1,h2,h3⟩:=h
  refine ⟨u,t,h1,?_,rv_R hs h3⟩
  cases a with
  | row id off n L =>
   simp only [rv]
   split
   ·exact Zkr hs h2
   ·trivial
  | _ => exact h2.mono Zfj
theorem Called.rows {args:List AV} (hf:v.flat=true) (h:Called P f (args.map (rv H)) (froz H) v (froz H)):Called P f args H v H:=by
 refine ⟨h.ok,fun φ w vals hs hr => (h.runs φ w vals (Zx2 hs) (rv_R hs hr)).mono ?_⟩
 rintro e w' ⟨y,he,φ',h1,h2,h3,h4⟩
 have hfr:∀ b,b<w.heap.size→w'.heap[b]? = w.heap[b]? := fun b hb => h2.frame b hb (Zcr b)
 have hx:Ext (cx φ H w) (cx φ H w'):=by
  refine ⟨h2.size,fun b hb _ => hfr b hb,fun b c e fr hc => ⟨c,fr,by show w'.heap[b]? = _; rw [hfr b (Un hc)]; exact hc,rfl⟩,fun i o h => ⟨o,h,.inr ⟨rfl,Nat.le_refl _,fun _ => rfl,id,fun _ => rfl,fun _ => rfl⟩⟩,fun i b hi hp hb => ⟨hi,hp⟩⟩
 refine ⟨y,he,φ,⟨fun i o ho => ?_,hs.inj⟩,hx,h3,Zuw v hf h4⟩
 rcases hs.ok i o ho with g1 | ⟨b,c,e,fr,g1,g2,g3,g4,g5⟩
 ·exact .inl g1
 ·exact .inr ⟨b,c,e,fr,g1,by show w'.heap[b]? = _; rw [hfr b (Un g2)]; exact g2,g3,g4,g5.mono hx⟩
end
end Go.Proofs.YtcgjlpdkobmpnaaGreat.Eng

