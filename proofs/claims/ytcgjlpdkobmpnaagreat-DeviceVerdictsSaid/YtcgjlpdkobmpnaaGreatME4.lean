/- Every operation (but calls) does what the abstract one says. -/
import Derived.Test.YtcgjlpdkobmpnaaGreatME3
import Derived.Test.YtcgjlpdkobmpnaaGreatME2
namespace Go.Proofs.YtcgjlpdkobmpnaaGreat.Eng
open Go
set_option linter.unusedVariables false
set_option linter.unusedSimpArgs false
section
variable {P:Program} {φ:Nat→Option Nat} {H:AH} {w:World}
theorem Zf {α β:Type} {x:Option α} {f:α→Option β} {y:β} (h:(x.bind f)=some y):∃ a,x=some a∧f a=some y:=by
 cases x with
 | none => cases h
 | some a => exact ⟨a,rfl,h⟩
theorem J5 {ρ:IArg→AV} {η:Operand→Value} (hρ:∀ x y,arg? x=some y→R (cx φ H w) (ρ y) (η x)) {o:Option Operand} {o':Option IArg} (h:(match o with | none => some none | some z => (arg? z).map some:Option (Option IArg))=some o'):RO (cx φ H w) (o'.map ρ) (o.map η):=by
 cases o with
 | none => cases h; trivial
 | some z =>
  simp only [Option.map_eq_some_iff] at h
  obtain ⟨y,h1,rfl⟩:=h
  exact hρ z y h1
theorem Ba {S:Cx} {ρ:IArg→AV} {η:Operand→Value} (hρ:∀ x y,arg? x=some y→R S (ρ y) (η x)):∀ {xs:List Operand} {ys:List IArg},xs.mapM arg? = some ys→RL S (ys.map ρ) (xs.map η)
 | [],ys,h => by simp at h; subst h; rfl
 | x::r,ys,h => by
  simp only [List.mapM_cons,Option.bind_eq_bind,Option.pure_def] at h
  obtain ⟨y,h1,h⟩:=Zf h
  obtain ⟨ys',h2,h⟩:=Zf h
  cases h
  exact ⟨_,_,rfl,hρ x y h1,Ba hρ h2⟩
theorem arr1 {α:Type} {a:Array α} {x:α} (h:a.toList=[x]):a=#[x]:=by
 cases a; simp at h; subst h; rfl
theorem arr2 {α:Type} {a:Array α} {x y:α} (h:a.toList=[x,y]):a=#[x,y]:=by
 cases a; simp at h; subst h; rfl
theorem Zq5 {l:List Operand} {y:IArg} (h:l.mapM arg? = some [y]):∃ a,l=[a]∧arg? a=some y:=by
 cases l with
 | nil => simp at h
 | cons a r =>
  simp only [List.mapM_cons,Option.bind_eq_bind,Option.pure_def] at h
  obtain ⟨z,h1,h⟩:=Zf h
  obtain ⟨zs,h2,h⟩:=Zf h
  cases h
  cases r with
  | nil => exact ⟨a,rfl,h1⟩
  | cons b r =>
   simp only [List.mapM_cons,Option.bind_eq_bind,Option.pure_def] at h2
   obtain ⟨z,h3,h⟩:=Zf h2
   obtain ⟨zs,h4,h⟩:=Zf h
   cases h
theorem Zl2 {l:List Operand} {y z:IArg} (h:l.mapM arg? = some [y,z]):∃ a b,l=[a,b]∧arg? a=some y∧arg? b=some z:=by
 cases l with
 | nil => simp at h
 | cons a r =>
  simp only [List.mapM_cons,Option.bind_eq_bind,Option.pure_def] at h
  obtain ⟨z1,h1,h⟩:=Zf h
  obtain ⟨zs,h2,h⟩:=Zf h
  cases h
  obtain ⟨b,rfl,h3⟩:=Zq5 h2
  exact ⟨a,b,rfl,h1,h3⟩
theorem arr3 {α:Type} {a:Array α} {x y z:α} (h:a.toList=[x,y,z]):a=#[x,y,z]:=by
 cases a; simp at h; subst h; rfl
theorem Z45 {l:List Operand} {y z u:IArg} (h:l.mapM arg? = some [y,z,u]):∃ a b c,l=[a,b,c]∧arg? a=some y∧arg? b=some z∧arg? c=some u:=by
 cases l with
 | nil => simp at h
 | cons a r =>
  simp only [List.mapM_cons,Option.bind_eq_bind,Option.pure_def] at h
  obtain ⟨z1,h1,h⟩:=Zf h
  obtain ⟨zs,h2,h⟩:=Zf h
  cases h
  obtain ⟨b,c,rfl,h3,h4⟩:=Zl2 h2
  exact ⟨a,b,c,rfl,h1,h3,h4⟩
theorem Ta {b:Builtin} {at_:Array TypeId} {ty:TypeId} {cs:Array Bool} {vs vs':Array Value} {K:Value→World→Prop} {s:Sem Value} {y:Value} {w':World} (hb:builtin b at_ ty cs vs'=(do pure (Next.value (← s)))) (hv:vs=vs') (h:s.run P w=.ok y w') (hk:K y w'):Sat P K ((builtin b at_ ty cs vs).run P w):=by
 subst hv; rw [hb]; exact X6 h hk
theorem Ze1 (hs:St (cx φ H w)) {cmp:TypeId→Bool} (hcmp:∀ t,cmp t=true→cmpT P t=true) {own:Nat→Bool} {o:Oper} {io:Ins} (h:op? P own o=some io) {ρ:IArg→AV} {η:Operand→Value} (hρ:∀ x y,arg? x=some y→R (cx φ H w) (ρ y) (η x)) (hη:(∀ f,η (.func f)=.func (.func f) #[] #[])∧∀ v,η (.const v)=v) (hok:iside cmp ρ H io) :
  Sat P (PostV φ H w (ival ρ H io) (inext ρ H io)) ((execOp η o).run P w):=by
 obtain ⟨dst,op,ty,pos,after,guard⟩:=o
 cases op with
 | move x =>
  simp only [op?,Option.bind_eq_bind,Option.pure_def] at h
  obtain ⟨x',h1,h⟩:=Zf h
  cases h
  simp only [execOp,Sem.run_pure,Sat]
  exact Zo hs (hρ _ _ h1)
 | assign x =>
  simp only [op?,Option.bind_eq_bind,Option.pure_def] at h
  obtain ⟨x',h1,h⟩:=Zf h
  cases h
  simp only [execOp,Sem.run_pure,Sat]
  exact Zo hs (hρ _ _ h1)
 | pick c a b =>
  simp only [op?,Option.bind_eq_bind,Option.pure_def] at h
  obtain ⟨c',h1,h⟩:=Zf h
  obtain ⟨a',h2,h⟩:=Zf h
  obtain ⟨b',h3,h⟩:=Zf h
  cases h
  exact hok.elim
 | nilCheck x =>
  simp only [op?,Option.bind_eq_bind,Option.pure_def] at h
  obtain ⟨x',h1,h⟩:=Zf h
  cases h
  have hx:=hρ _ _ h1
  simp only [iside] at hok
  simp only [execOp,ival,inext]
  generalize ρ x'=v at *
  unfold Zb8 at hok
  split at hok
  ·obtain ⟨_,_,_,_,_,e⟩:=hx
   have hx':=hρ _ _ h1
   rw [e]
   exact Zo hs ⟨_,_,‹_›,‹_›,‹_›,rfl⟩
  ·obtain ⟨a,e,hr⟩:=hx
   rw [e]
   exact Zo hs ⟨a,rfl,hr⟩
  ·obtain ⟨b,off,us,e,hr⟩:=hx
   rw [e]
   exact Zo hs ⟨b,off,us,rfl,hr⟩
  ·obtain ⟨fs,cps,e,hr⟩:=hx
   rw [e]
   exact Zo hs ⟨fs,cps,rfl,hr⟩
  ·exact hok.elim
 | alloc t =>
  simp only [op?,Option.bind_eq_bind,Option.pure_def] at h
  obtain ⟨z,h1,h⟩:=Zf h
  split at h
  ·cases h
  ·rename_i hne
   cases h
   obtain ⟨u,w',g1,g2⟩:=Zdl (P:=P) hs h1 (by simpa using hne)
   exact X6 g1 g2
 | box t x =>
  simp only [op?,Option.bind_eq_bind,Option.pure_def] at h
  obtain ⟨x',h1,h⟩:=Zf h
  cases h
  obtain ⟨u,w',g1,g2⟩:=Zof (P:=P) (t:=t) hs (hρ _ _ h1) hok
  exact X6 g1 g2
 | build t ps =>
  simp only [op?,Option.bind_eq_bind,Option.pure_def] at h
  obtain ⟨z,h1,h⟩:=Zf h
  obtain ⟨qs,hq,e⟩:∃ qs,(match P.underlying t with
   | some (.struct fs) => if fs.toList.all (fun f => (P.info? f.type).isSome) then parts? (fun i => (fs[i]?).map fun f => (f.offset,P.cellsOf f.type)) ps else none
   | some (.array _ e) => if P.cellsOf e=0 then none else parts? (fun i => some (i*P.cellsOf e,P.cellsOf e)) ps
   | _ => none)=some qs∧io=.build z qs:=by
   cases hu:P.underlying t with
   | none => rw [hu] at h; cases h
   | some d =>
    rw [hu] at h
    cases d <;> try (cases h; done)
    case struct fs =>
     dsimp only at h ⊢
     split at h
     ·rename_i hc
      obtain ⟨qs,h2,h⟩:=Zf h
      cases h
      exact ⟨qs,by rw [if_pos hc]; exact h2,rfl⟩
     ·cases h
    case array n e =>
     dsimp only at h ⊢
     split at h
     ·cases h
     ·rename_i hc
      obtain ⟨qs,h2,h⟩:=Zf h
      cases h
      exact ⟨qs,by rw [if_neg hc]; exact h2,rfl⟩
  subst e
  obtain ⟨u,g1,g2⟩:=Zdd (P:=P) hs hρ h1 hq hok
  exact X6 g1 (Zo hs g2)
 | buildSlice t len ps =>
  simp only [op?,Option.bind_eq_bind,Option.pure_def] at h
  cases hu:P.underlying t with
  | none => rw [hu] at h; cases h
  | some d =>
   rw [hu] at h
   cases d <;> try (cases h; done)
   case slice e =>
    dsimp only at h
    obtain ⟨z,h1,h⟩:=Zf h
    split at h
    ·cases h
    ·rename_i hc
     obtain ⟨qs,h2,h⟩:=Zf h
     cases h
     obtain ⟨u,w',g1,g2⟩:=Zar (P:=P) hs hρ hu h1 hc h2 hok
     exact X6 g1 g2
 | load t a =>
  simp only [op?,Option.bind_eq_bind,Option.pure_def] at h
  split at h
  ·cases h
  ·rename_i hc
   simp only [Bool.or_eq_true,decide_eq_true_eq,not_or,Bool.not_eq_true] at hc
   obtain ⟨x',h1,h⟩:=Zf h
   cases h
   obtain ⟨u,g1,g2⟩:=Ek (P:=P) hs hc.1 hc.2 (hρ _ _ h1) hok
   exact X6 g1 (Zo hs g2)
 | store t a x =>
  simp only [op?,Option.bind_eq_bind,Option.pure_def] at h
  split at h
  ·cases h
  ·rename_i hc
   obtain ⟨a',h1,h⟩:=Zf h
   obtain ⟨x',h2,h⟩:=Zf h
   cases h
   obtain ⟨w',g1,g2⟩:=Zbh (P:=P) hs hc (hρ _ _ h2) (hρ _ _ h1) hok
   exact Z4o g1 g2
 | binOp op t x y yt =>
  simp only [op?,Option.bind_eq_bind,Option.pure_def] at h
  obtain ⟨x',h1,h⟩:=Zf h
  obtain ⟨y',h2,h⟩:=Zf h
  split at h
  ·rename_i hA
   split at h
   ·cases h
   ·rename_i hG
    obtain ⟨ks,h3,h⟩:=Zf h
    cases op <;> try (cases h; done)
    ·cases h
     exact X6 (Gz (P:=P) (neq:=false) (X:=x) (Y:=y) hA (by simpa using hG) h3 (hρ _ _ h1) (hρ _ _ h2) hok) (Zo hs rfl)
    ·cases h
     exact X6 (Gz (P:=P) (neq:=true) (X:=x) (Y:=y) hA (by simpa using hG) h3 (hρ _ _ h1) (hρ _ _ h2) hok) (Zo hs rfl)
  ·cases hu:P.underlying t with
   | none => rw [hu] at h; cases h
   | some d =>
    rw [hu] at h
    have bin:io=.bin op x' y'→Sat P (PostV φ H w (ival ρ H io) (inext ρ H io)) ((execOp η ⟨dst,.binOp op t x y yt,ty,pos,after,guard⟩).run P w):=by
     rintro rfl
     obtain ⟨u,g1,g2⟩:=Zoi (P:=P) (hρ _ _ h1) (hρ _ _ h2) hok t x y
     exact X6 g1 (Zo hs g2)
    cases d <;> try (cases h; done)
    case int k => exact bin (by cases h; rfl)
    case string => exact bin (by cases h; rfl)
    case slice e =>
     have fin:∀ neq:Bool,y=.const (.slice none 0 0)→io=.isnil neq x'→op=(if neq then .neq else .eql)→Sat P (PostV φ H w (ival ρ H io) (inext ρ H io)) ((execOp η ⟨dst,.binOp op t x y yt,ty,pos,after,guard⟩).run P w):=by
      rintro neq rfl rfl rfl
      cases h2
      have hy:η (.const (.slice none 0 0))=.slice none 0 0:=hη.2 _
      obtain ⟨u,g1,g2⟩:=Zcl (P:=P) (neq:=neq) (X:=x) (Y:=.const (.slice none 0 0)) (hρ _ _ h1) hok t hu
      rw [← hy] at g1
      exact X6 g1 (Zo hs g2)
     cases op <;> try (cases h; done)
     ·dsimp only at h
      split at h
      ·exact fin false rfl (by cases h; rfl) rfl
      ·cases h
     ·dsimp only at h
      split at h
      ·exact fin true rfl (by cases h; rfl) rfl
      ·cases h
    all_goals (cases op <;> try (cases h; done))
    all_goals cases h
    ·exact X6 (Sn (P:=P) (neq:=false) hcmp h1 h2 (hρ _ _ h1) (hρ _ _ h2) hok t hu rfl) (Zo hs rfl)
    ·exact X6 (Sn (P:=P) (neq:=true) hcmp h1 h2 (hρ _ _ h1) (hρ _ _ h2) hok t hu rfl) (Zo hs rfl)
    ·exact X6 (Sn (P:=P) (neq:=false) hcmp h1 h2 (hρ _ _ h1) (hρ _ _ h2) hok t hu ⟨_,rfl⟩) (Zo hs rfl)
    ·exact X6 (Sn (P:=P) (neq:=true) hcmp h1 h2 (hρ _ _ h1) (hρ _ _ h2) hok t hu ⟨_,rfl⟩) (Zo hs rfl)
    ·exact X6 (Sn (P:=P) (neq:=false) hcmp h1 h2 (hρ _ _ h1) (hρ _ _ h2) hok t hu ⟨_,_,_,rfl⟩) (Zo hs rfl)
    ·exact X6 (Sn (P:=P) (neq:=true) hcmp h1 h2 (hρ _ _ h1) (hρ _ _ h2) hok t hu ⟨_,_,_,rfl⟩) (Zo hs rfl)
    ·exact X6 (Sn (P:=P) (neq:=false) hcmp h1 h2 (hρ _ _ h1) (hρ _ _ h2) hok t hu ⟨_,rfl⟩) (Zo hs rfl)
    ·exact X6 (Sn (P:=P) (neq:=true) hcmp h1 h2 (hρ _ _ h1) (hρ _ _ h2) hok t hu ⟨_,rfl⟩) (Zo hs rfl)
 | unOp op t x =>
  simp only [op?,Option.bind_eq_bind,Option.pure_def] at h
  obtain ⟨x',h1,h⟩:=Zf h
  cases h
  obtain ⟨u,g1,g2⟩:=Zpk (P:=P) (hρ _ _ h1) hok
  exact X6 g1 (Zo hs g2)
 | convert sT dT x =>
  simp only [op?,Option.bind_eq_bind,Option.pure_def] at h
  obtain ⟨x',h1,h⟩:=Zf h
  cases hu:P.underlying sT with
  | none => rw [hu] at h; cases h
  | some d =>
   cases hd:P.underlying dT with
   | none => rw [hu,hd] at h; cases d <;> cases h
   | some d' =>
    rw [hu,hd] at h
    cases d <;> cases d' <;> try (cases h; done)
    ·cases h
     exact X6 (Zio (P:=P) hu hd (hρ _ _ h1) hok) (Zo hs rfl)
    ·cases h
     exact X6 (Zgp (P:=P) hu hd (hρ _ _ h1) hok) (Zo hs (hρ _ _ h1))
    ·rename_i e
     dsimp only at h
     cases he:P.underlying e with
     | none => rw [he] at h; cases h
     | some de =>
      rw [he] at h
      cases de <;> try (cases h; done)
      rename_i kk
      cases kk <;> try (cases h; done)
      cases h
      obtain ⟨u,w',g1,g2⟩:=Zkn (P:=P) hs hu hd he (hρ _ _ h1) hok
      exact X6 g1 g2
    ·rename_i e
     dsimp only at h
     cases he:P.underlying e with
     | none => rw [he] at h; cases h
     | some de =>
      rw [he] at h
      cases de <;> try (cases h; done)
      rename_i kk
      cases kk <;> try (cases h; done)
      cases h
      obtain ⟨u,g1,g2⟩:=Zos (P:=P) hs hu he hd (hρ _ _ h1) hok
      exact X6 g1 (Zo hs g2)
    ·rename_i e e2
     dsimp only at h
     cases he:P.underlying e with
     | none => rw [he] at h; simp at h
     | some de =>
      rw [he] at h
      cases de <;> try (simp at h; done)
      rename_i kk
      cases kk <;> try (simp at h; done)
      simp only [Bool.and_true,beq_iff_eq] at h
      split at h
      ·rename_i hcond
       have hio:io=.mark x':=by cases h; rfl
       subst hio
       have hx:=hρ _ _ h1
       clear h h1
       subst hcond
       obtain ⟨u,w',g1,g2⟩:=Zhe (P:=P) hs hu he hx hok
       exact X6 g1 g2
      ·cases h
 | makeInterface t x =>
  simp only [op?,Option.bind_eq_bind,Option.pure_def] at h
  cases hu:P.underlying t with
  | none => rw [hu] at h; cases h
  | some d =>
   rw [hu] at h
   cases d <;> try (cases h; done)
   all_goals
    obtain ⟨x',h1,h⟩:=Zf h
    cases h
    obtain ⟨u,g1,g2⟩:=Zhc (P:=P) (t:=t) (fun m hm => by rw [hu] at hm; cases hm) (by rw [hu]; rfl) (hρ _ _ h1) hok
    exact X6 g1 (Zo hs g2)
 | makeFunc f first cap =>
  simp only [op?,Option.bind_eq_bind,Option.pure_def] at h
  obtain ⟨a,h1,h⟩:=Zf h
  obtain ⟨b,h2,h⟩:=Zf h
  cases h
  refine X6 (y:=.func f (first.map η) (cap.map η)) rfl (Zo hs ⟨_,_,rfl,?_,?_⟩)
  ·rw [Array.toList_map]; exact Ba hρ h1
  ·rw [Array.toList_map]; exact Ba hρ h2
 | makeSlice t l c =>
  simp only [op?,Option.bind_eq_bind,Option.pure_def] at h
  cases hu:P.underlying t with
  | none => rw [hu] at h; cases h
  | some d =>
   rw [hu] at h
   cases d <;> try (cases h; done)
   case slice e =>
    dsimp only at h
    obtain ⟨z,h1,h⟩:=Zf h
    split at h
    ·cases h
    ·rename_i hc
     obtain ⟨l',h2,h⟩:=Zf h
     obtain ⟨c',h3,h⟩:=Zf h
     cases h
     obtain ⟨u,w',g1,g2⟩:=Zhb (P:=P) hs hu h1 hc (hρ _ _ h2) (hρ _ _ h3) hok
     exact X6 g1 g2
 | slice t x lo hi mx =>
  simp only [op?,Option.bind_eq_bind,Option.pure_def] at h
  cases hu:P.underlying t with
  | none => rw [hu] at h; cases h
  | some d =>
   rw [hu] at h
   cases d <;> try (cases h; done)
   case slice e =>
    dsimp only at h
    split at h
    ·cases h
    ·rename_i hc
     obtain ⟨x',h1,h⟩:=Zf h
     obtain ⟨lo',h2,h⟩:=Zf h
     obtain ⟨hi',h3,h⟩:=Zf h
     obtain ⟨mx',h4,h⟩:=Zf h
     cases h
     obtain ⟨u,g1,g2⟩:=I5 (P:=P) (arr:=none) hs hu hc (J5 hρ h2) (J5 hρ h3) (J5 hρ h4) (by have:=hok.1; cases mx' <;> cases hi' <;> simp_all) (hρ _ _ h1) hok.2
     exact X6 g1 (Zo hs g2)
   case array n e =>
    dsimp only at h
    split at h
    ·cases h
    ·rename_i hc
     obtain ⟨x',h1,h⟩:=Zf h
     obtain ⟨lo',h2,h⟩:=Zf h
     obtain ⟨hi',h3,h⟩:=Zf h
     obtain ⟨mx',h4,h⟩:=Zf h
     cases h
     obtain ⟨u,g1,g2⟩:=I5 (P:=P) (arr:=some n) hs hu hc (J5 hρ h2) (J5 hρ h3) (J5 hρ h4) (by have:=hok.1; cases mx' <;> cases hi' <;> simp_all) (hρ _ _ h1) hok.2
     exact X6 g1 (Zo hs g2)
   case string =>
    dsimp only at h
    split at h
    ·cases h
    ·rename_i hc
     obtain ⟨x',h1,h⟩:=Zf h
     obtain ⟨lo',h2,h⟩:=Zf h
     obtain ⟨hi',h3,h⟩:=Zf h
     cases h
     obtain rfl:mx=none:=by cases mx <;> simp_all
     obtain ⟨u,g1,g2⟩:=Bj (P:=P) hu (J5 hρ h2) (J5 hρ h3) (hρ _ _ h1) hok
     exact X6 g1 (Zo hs g2)
 | fieldAddr t x i =>
  simp only [op?,Option.bind_eq_bind,Option.pure_def] at h
  cases hu:P.underlying t with
  | none => rw [hu] at h; cases h
  | some d =>
   rw [hu] at h
   cases d <;> try (cases h; done)
   case struct fs =>
    dsimp only at h
    cases hf:fs[i]? with
    | none => rw [hf] at h; cases h
    | some f =>
     rw [hf] at h
     dsimp only at h
     split at h
     ·cases h
     ·rename_i hc
      obtain ⟨x',h1,h⟩:=Zf h
      cases h
      obtain ⟨u,g1,g2⟩:=Zm6 (P:=P) hu hf hc (hρ _ _ h1) hok
      exact X6 g1 (Zo hs g2)
 | field t x i =>
  simp only [op?,Option.bind_eq_bind,Option.pure_def] at h
  cases hu:P.underlying t with
  | none => rw [hu] at h; cases h
  | some d =>
   rw [hu] at h
   cases d <;> try (cases h; done)
   case struct fs =>
    dsimp only at h
    cases hf:fs[i]? with
    | none => rw [hf] at h; cases h
    | some f =>
     rw [hf] at h
     dsimp only at h
     split at h
     ·cases h
     ·rename_i hc
      simp only [Bool.or_eq_true,decide_eq_true_eq,not_or,Bool.not_eq_true] at hc
      obtain ⟨x',h1,h⟩:=Zf h
      cases h
      obtain ⟨u,g1,g2⟩:=Zcv (P:=P) hu hf hc.2 hc.1 (hρ _ _ h1) hok
      exact X6 g1 (Zo hs g2)
 | indexAddr t x i =>
  simp only [op?,Option.bind_eq_bind,Option.pure_def] at h
  cases hu:P.underlying t with
  | none => rw [hu] at h; cases h
  | some d =>
   rw [hu] at h
   cases d <;> try (cases h; done)
   case slice e =>
    dsimp only at h
    split at h
    ·cases h
    ·rename_i hc
     obtain ⟨x',h1,h⟩:=Zf h
     obtain ⟨i',h2,h⟩:=Zf h
     cases h
     obtain ⟨u,g1,g2⟩:=El (P:=P) (arr:=none) hu hc (hρ _ _ h1) (hρ _ _ h2) hok
     exact X6 g1 (Zo hs g2)
   case array n e =>
    dsimp only at h
    split at h
    ·cases h
    ·rename_i hc
     obtain ⟨x',h1,h⟩:=Zf h
     obtain ⟨i',h2,h⟩:=Zf h
     cases h
     obtain ⟨u,g1,g2⟩:=El (P:=P) (arr:=some n) hu hc (hρ _ _ h1) (hρ _ _ h2) hok
     exact X6 g1 (Zo hs g2)
 | index t x i =>
  simp only [op?,Option.bind_eq_bind,Option.pure_def] at h
  cases hu:P.underlying t with
  | none => rw [hu] at h; cases h
  | some d =>
   rw [hu] at h
   cases d <;> try (cases h; done)
   case array n e =>
    dsimp only at h
    split at h
    ·cases h
    ·rename_i hc
     simp only [Bool.or_eq_true,decide_eq_true_eq,not_or,Bool.not_eq_true,Bool.not_eq_true',Bool.not_eq_false] at hc
     obtain ⟨x',h1,h⟩:=Zf h
     obtain ⟨i',h2,h⟩:=Zf h
     cases h
     obtain ⟨u,g1,g2⟩:=Zms (P:=P) hu hc.1.2 hc.1.1 (by simpa using hc.2) (hρ _ _ h1) (hρ _ _ h2) hok
     exact X6 g1 (Zo hs g2)
   case string =>
    dsimp only at h
    obtain ⟨x',h1,h⟩:=Zf h
    obtain ⟨i',h2,h⟩:=Zf h
    cases h
    obtain ⟨u,g1,g2⟩:=Zgl (P:=P) hu (hρ _ _ h1) (hρ _ _ h2) hok
    exact X6 g1 (Zo hs g2)
 | extract x i =>
  simp only [op?,Option.bind_eq_bind,Option.pure_def] at h
  obtain ⟨x',h1,h⟩:=Zf h
  cases h
  obtain ⟨u,g1,g2⟩:=Zng (P:=P) (hρ _ _ h1) hok
  exact X6 g1 (Zo hs g2)
 | call c =>
  obtain ⟨callee,args,argTypes⟩:=c
  simp only [op?,Option.bind_eq_bind,Option.pure_def] at h
  have h9:=Zf h
  clear h
  obtain ⟨ags,h0,h⟩:=h9
  cases callee with
  | value x =>
   cases x with
   | func f =>
    dsimp only at h
    split at h
    ·cases h; exact hok.elim
    ·split at h
     ·rename_i fn x1 y1 c1 hf
      have hcases:∀ (sub:Bool),Fq fn (if sub then "math/bits.Sub64" else "math/bits.Add64")=true→io=.carry sub x1 y1 c1→Sat P (PostV φ H w (ival ρ H io) (inext ρ H io)) ((execOp η ⟨dst,.call ⟨.value (.func f),args,argTypes⟩,ty,pos,after,guard⟩).run P w):=by
       intro sub he hio
       subst hio
       obtain ⟨a,b,d,ha,g1,g2,g3⟩:=Z45 h0
       obtain rfl:=arr3 ha
       obtain ⟨u,r1,r2⟩:=Zdb (P:=P) hf he (hρ _ _ g1) (hρ _ _ g2) (hρ _ _ g3) hok
       have hr:((execOp η ⟨dst,.call ⟨.value (.func f),#[a,b,d],argTypes⟩,ty,pos,after,guard⟩).run P w)=.ok (.value u) w:=by
        show (do let e ← resolve η ⟨.value (.func f),#[a,b,d],argTypes⟩ ty; invoke e.target e.args:Sem Next).run P w=_
        have e1:(resolve η ⟨.value (.func f),#[a,b,d],argTypes⟩ ty).run P w=(Deferred.ofValue (η (.func f)) (#[a,b,d].map η)).run P w:=rfl
        rw [Sem.run_bind,e1,hη.1 f]
        simp only [Deferred.ofValue,Sem.run_pure,Result.andThen_ok,invoke]
        simpa using r1
       rw [hr]
       exact Zo hs r2
      split at h
      ·rename_i he; exact hcases false he (by cases h; rfl)
      ·split at h
       ·rename_i he; exact hcases true he (by cases h; rfl)
       ·cases h
     ·cases h
   | _ =>
    dsimp only at h
    obtain ⟨x',h1,h⟩:=Zf h
    cases h
    exact hok.elim
  | invoke r m => cases h
  | builtin b =>
   have hrun:∀ {b:Builtin} {args:Array Operand},(execOp η ⟨dst,.call ⟨.builtin b,args,argTypes⟩,ty,pos,after,guard⟩)=builtin b argTypes ty (args.map fun | .const _ => true | _ => false) (args.map η):=fun {b args} => rfl
   rw [hrun]
   dsimp only at h
   split at h
   ·-- len
    obtain ⟨a,ha,h1⟩:=Zq5 h0
    obtain rfl:=arr1 ha
    cases ht:argTypes[0]? with
    | none => rw [ht] at h; cases h
    | some t =>
     rw [ht] at h
     simp only [Option.bind_some] at h
     have hcongr:∀ vs,Builtin.len_ argTypes ty vs=Builtin.len_ #[t] ty vs:=by intro vs; unfold Builtin.len_; rw [ht]; rfl
     cases hu:P.underlying t with
     | none => rw [hu] at h; cases h
     | some d =>
      rw [hu] at h
      cases d <;> try (cases h; done)
      ·cases h
       refine Ta (vs':=#[η a]) rfl (by simp) ?_ (Zo hs (v:=.lit _) rfl)
       rw [hcongr]
       exact Ac (str:=true) hu (hρ _ _ h1) hok
      ·cases h
       refine Ta (vs':=#[η a]) rfl (by simp) ?_ (Zo hs (v:=.lit _) rfl)
       rw [hcongr]
       exact Ac (str:=false) ⟨_,hu⟩ (hρ _ _ h1) hok
      ·cases h
       refine Ta (vs':=#[η a]) rfl (by simp) ?_ (Zo hs (v:=.lit _) rfl)
       rw [hcongr]
       simp [Builtin.len_,run_underlying hu,goInt]
   ·-- append
    rename_i s' x'
    obtain ⟨a,b,ha,h1,h2⟩:=Zl2 h0
    obtain rfl:=arr2 ha
    cases ht:argTypes[0]? with
    | none => rw [ht] at h; cases h
    | some t =>
     cases ht2:argTypes[1]? with
     | none =>
      rw [ht,ht2] at h
      simp only [Option.bind_some,Option.bind_none] at h
      split at h <;> first | cases h | (rename_i hh; cases hh)
     | some tx =>
      rw [ht,ht2] at h
      simp only [Option.bind_some] at h
      have hcongr:∀ vs,Builtin.append_ argTypes ty vs=Builtin.append_ #[t,tx] ty vs:=by intro vs; unfold Builtin.append_; rw [ht,ht2]; rfl
      have fin:∀ e,P.underlying t=some (.slice e)→((∃ e',P.underlying tx=some (.slice e'))∨P.underlying tx=some .string)→P.cellsOf e≠0→P.bytesOf e≠0→(S1 P e).map List.length=some (P.cellsOf e)→(∃ mine:Bool,io=if mine then .appv (P.cellsOf e) (P.bytesOf e) s' x' else .append (P.cellsOf e) (P.bytesOf e) s' x') →
        Sat P (PostV φ H w (ival ρ H io) (inext ρ H io)) ((builtin .append argTypes ty (#[a,b].map fun | .const _ => true | _ => false) (#[a,b].map η)).run P w):=by
       intro e hu hk hc hb hz ⟨mine,hio⟩
       obtain ⟨z,hz1,hz2⟩:=Option.map_eq_some_iff.1 hz
       cases mine with
       | true =>
        rw [if_pos rfl] at hio
        subst hio
        obtain ⟨u,w',g1,g2⟩:=Zi6 (P:=P) (ty:=ty) hs hu hc hz1 hz2 hb hk (hρ _ _ h1) (hρ _ _ h2) hok
        refine Ta (vs':=#[η a,η b]) rfl (by simp) ?_ g2
        rw [hcongr]; exact g1
       | false =>
       rw [if_neg (by decide)] at hio
       subst hio
       obtain ⟨u,w',g1,g2⟩:=Zaz (P:=P) (ty:=ty) hs hu hc hz1 hz2 hb hk (hρ _ _ h1) (hρ _ _ h2) hok
       refine Ta (vs':=#[η a,η b]) rfl (by simp) ?_ g2
       rw [hcongr]; exact g1
      split at h
      ·rename_i e e' hu hu2
       split at h
       ·cases h
       ·rename_i hc
        simp only [Bool.or_eq_true,decide_eq_true_eq,not_or,bne_iff_ne,ne_eq,Decidable.not_not] at hc
        exact fin _ hu (.inl ⟨_,hu2⟩) hc.1.1.1 hc.1.2 hc.2 ⟨_,by cases h; rfl⟩
      ·rename_i e hu hu2
       split at h
       ·cases h
       ·rename_i hc
        simp only [Bool.or_eq_true,decide_eq_true_eq,not_or,bne_iff_ne,ne_eq,Decidable.not_not] at hc
        exact fin _ hu (.inr hu2) hc.1.1 hc.1.2 hc.2 ⟨_,by cases h; rfl⟩
      ·rename_i e kk hu hu2
       obtain ⟨z,hz,h⟩:=Zf h
       split at h
       ·cases h
       ·rename_i hc
        simp only [Bool.or_eq_true,decide_eq_true_eq,not_or,bne_iff_ne,ne_eq,Decidable.not_not] at hc
        cases h
        obtain ⟨u,w',g1,g2⟩:=Zi5 (P:=P) (ty:=ty) hs hu hu2 hc.1.1 hz hc.2 hc.1.2 (hρ _ _ h1) (hρ _ _ h2) hok
        refine Ta (vs':=#[η a,η b]) rfl (by simp) ?_ g2
        rw [hcongr]; exact g1
      ·cases h
   ·-- copy
    obtain ⟨a,b,ha,h1,h2⟩:=Zl2 h0
    obtain rfl:=arr2 ha
    cases ht:argTypes[0]? with
    | none => rw [ht] at h; cases h
    | some t =>
     rw [ht] at h
     simp only [Option.bind_some] at h
     have hcongr:∀ vs,Builtin.copy_ argTypes ty vs=Builtin.copy_ #[t,t] ty vs:=by intro vs; unfold Builtin.copy_; rw [ht]; rfl
     cases hu:P.underlying t with
     | none => rw [hu] at h; cases h
     | some d =>
      rw [hu] at h
      cases d <;> try (cases h; done)
      dsimp only at h
      split at h
      ·cases h
      ·rename_i hc
       cases h
       obtain ⟨w',g1,g2⟩:=Zin (P:=P) (sT:=t) (ty:=ty) hs hu hc (hρ _ _ h1) (hρ _ _ h2) hok
       refine Ta (vs':=#[η a,η b]) rfl (by simp) ?_ g2
       rw [hcongr]; exact g1
   ·-- cap
    obtain ⟨a,ha,h1⟩:=Zq5 h0
    obtain rfl:=arr1 ha
    cases ht:argTypes[0]? with
    | none => rw [ht] at h; cases h
    | some t =>
     rw [ht] at h
     simp only [Option.bind_some] at h
     have hcongr:∀ vs,Builtin.cap_ argTypes ty vs=Builtin.cap_ #[t] ty vs:=by intro vs; unfold Builtin.cap_; rw [ht]; rfl
     cases hu:P.underlying t with
     | none => rw [hu] at h; cases h
     | some d =>
      rw [hu] at h
      cases d <;> try (cases h; done)
      cases h
      refine Ta (vs':=#[η a]) rfl (by simp) ?_ (Zo hs (v:=.lit _) rfl)
      rw [hcongr]
      exact Zod ⟨_,hu⟩ (hρ _ _ h1) hok
   ·-- clear
    obtain ⟨a,ha,h1⟩:=Zq5 h0
    obtain rfl:=arr1 ha
    cases ht:argTypes[0]? with
    | none => rw [ht] at h; cases h
    | some t =>
     rw [ht] at h
     simp only [Option.bind_some] at h
     have hcongr:∀ vs,Builtin.clear_ argTypes ty vs=Builtin.clear_ #[t] ty vs:=by intro vs; unfold Builtin.clear_; rw [ht]; rfl
     cases hu:P.underlying t with
     | none => rw [hu] at h; cases h
     | some d =>
      rw [hu] at h
      cases d <;> try (cases h; done)
      dsimp only at h
      obtain ⟨z,hz,h⟩:=Zf h
      split at h
      ·cases h
      ·rename_i hc
       cases h
       obtain ⟨w',g1,g2⟩:=Zda (P:=P) (ty:=ty) hs hu hz hc (hρ _ _ h1) hok
       refine Ta (vs':=#[η a]) rfl (by simp) ?_ g2
       rw [hcongr]; exact g1
   ·obtain ⟨a,b,ha,h1,h2⟩:=Zl2 h0
    obtain rfl:=arr2 ha
    cases h
    obtain ⟨u,g1,g2⟩:=Zq3 (P:=P) (hρ _ _ h1) (hρ _ _ h2) hok.1 hok.2 argTypes ty
    exact Ta (s:=Builtin.min_ argTypes ty #[η a,η b]) rfl (by simp) g1 (Zo hs g2)
   ·obtain ⟨a,b,ha,h1,h2⟩:=Zl2 h0
    obtain rfl:=arr2 ha
    cases h
    obtain ⟨u,g1,g2⟩:=Zq0 (P:=P) (hρ _ _ h1) (hρ _ _ h2) hok.1 hok.2 argTypes ty
    exact Ta (s:=Builtin.max_ argTypes ty #[η a,η b]) rfl (by simp) g1 (Zo hs g2)
   ·cases h
 | sliceToArrayPointer t x =>
  simp only [op?,Option.bind_eq_bind,Option.pure_def] at h
  cases hu:P.underlying t with
  | none => rw [hu] at h; cases h
  | some d =>
   rw [hu] at h
   cases d <;> try (cases h; done)
   dsimp only at h
   split at h
   ·cases h
   ·rename_i hc
    obtain ⟨x',h1,h⟩:=Zf h
    cases h
    obtain ⟨u,g1,g2⟩:=Zgq (P:=P) hu hc (hρ _ _ h1) hok
    exact X6 g1 (Zo hs g2)
 | panic x =>
  simp only [op?] at h
  cases h
  exact hok.elim
 | _ => (simp only [op?] at h; cases h)
end
section
variable {H0 G:AH} {x:AV} {sz k:Nat}
theorem Fm {p:Nat} (h:p<H0.length):obj (H0++G) p=obj H0 p:=by simp [obj,List.getD_eq_getElem?_getD,List.getElem?_append_left h]
theorem Zhk (h:Ys k H0 x):Ys k (H0++G) x∧∀ agg,Y8 agg k (H0++G) x=Y8 agg k H0 x:=by
 cases x with
 | ptr id off =>
  obtain ⟨h1,h2⟩:=h
  refine ⟨⟨by simp; omega,by rw [Fm h1]; exact h2⟩,fun agg => ?_⟩
  simp only [Y8,Fm h1]
 | rptr id off L =>
  obtain ⟨h1,h2,h3⟩:=h
  refine ⟨⟨by simp; omega,by rw [Fm h1]; exact h2,h3⟩,fun agg => ?_⟩
  simp only [Y8,Fm h1]
 | vptr cs => exact ⟨h,fun _ => rfl⟩
 | _ => exact h.elim
theorem I4 (h:Wy sz H0 x):Wy sz (H0++G) x∧srcC sz (H0++G) x=srcC sz H0 x:=by
 cases x with
 | row id off n L =>
  obtain ⟨h1,h2,h3⟩:=h
  exact ⟨⟨by simp; omega,by rw [Fm h1]; exact h2,h3⟩,by simp only [srcC,Fm h1]⟩
 | lit v =>
  unfold Wy at h
  split at h <;> first | exact h.elim | skip
  all_goals first | (rename_i heq; cases heq; done) | skip
  all_goals (rename_i heq; cases heq; exact ⟨by first | exact h | trivial,rfl⟩)
 | view cs n f => exact ⟨h,rfl⟩
 | _ => exact h.elim
theorem Zbr {lo hi mx:Option AV} {arr:Option Nat} (h:Xx sz H0 lo hi mx arr x):Xx sz (H0++G) lo hi mx arr x∧Xl sz (H0++G) lo hi mx arr x=Xl sz H0 lo hi mx arr x:=by
 cases arr with
 | none =>
  cases x with
  | row id off n L =>
   obtain ⟨h1,h2,h3,h4⟩:=h
   have e:=Fm (G:=G) h1
   exact ⟨⟨by simp; omega,by rw [e]; exact h2,by rw [e]; exact h3,by rw [e]; exact h4⟩,rfl⟩
  | lit v =>
   cases v <;> first | exact h.elim | skip
   rename_i b n c
   cases b <;> first | exact h.elim | skip
   cases n <;> first | exact h.elim | skip
   cases c <;> first | exact h.elim | skip
   exact ⟨h,rfl⟩
  | view cs n f => exact ⟨h,rfl⟩
  | _ => exact h.elim
 | some m =>
  cases x with
  | ptr id off =>
   obtain ⟨h1,h2⟩:=h
   exact ⟨⟨by simp; omega,h2⟩,by simp only [Xl,Fm h1]⟩
  | vptr cs => exact ⟨h,rfl⟩
  | _ => exact h.elim
theorem Zhf (h:Ej H0 x):Ej (H0++G) x:=by
 cases x with
 | row id off n L =>
  obtain ⟨h1,h2,h3,h4,h5⟩:=h
  have e:=Fm (G:=G) h1
  exact ⟨by simp; omega,by rw [e]; exact h2,by rw [e]; exact h3,h4,by rw [Fm h1]; exact h5⟩
 | _ => exact h.elim
theorem Zeh {pf:Pf} {cmp:TypeId→Bool} {ρ:IArg→AV} {io:Ins} (hc:io.cls pf≤1) (hs:iside cmp ρ H0 io):iside cmp ρ (H0++G) io∧ival ρ (H0++G) io=ival ρ H0 io:=by
 cases io with
 | load agg k x => obtain ⟨h1,h2⟩:=Zhk (G:=G) hs; exact ⟨h1,h2 agg⟩
 | b2s x =>
  obtain ⟨h1,h2,h3⟩:=hs
  obtain ⟨h4,h5⟩:=I4 (G:=G) h2
  exact ⟨⟨h1,h4,by rw [h5]; exact h3⟩,by simp only [ival,b2sV,h5]⟩
 | slice sz arr x lo hi mx =>
  obtain ⟨h1,h2⟩:=hs
  obtain ⟨h3,h4⟩:=Zbr (G:=G) h2
  exact ⟨⟨h1,h3⟩,by simp only [ival,h4]⟩
 | mark x => exact ⟨Zhf hs,rfl⟩
 | appv sz b s x =>
  obtain ⟨h1,h2,h3,h4,h5⟩:=hs
  obtain ⟨g1,g2⟩:=I4 (G:=G) h1
  exact ⟨⟨g1,by rw [g2]; exact h2,by rw [g2]; exact h3,h4,h5⟩,by simp only [ival,Zdk,g2]⟩
 | s2b own x => cases own <;> first | (simp only [Ins.cls] at hc; omega) | (refine ⟨hs,?_⟩; simp only [ival]; cases ρ x <;> first | rfl | (rename_i v; cases v <;> rfl))
 | bslice own sz len z ps => cases own <;> first | (simp only [Ins.cls] at hc; omega) | exact ⟨hs,rfl⟩
 | call f ags => exact hs.elim
 | callv x ags => exact hs.elim
 | alloc z => exact ⟨hs,by simp only [Ins.cls] at hc; omega⟩
 | box z => exact ⟨hs,by simp only [Ins.cls] at hc; omega⟩
 | mksl => exact ⟨hs,by simp only [Ins.cls] at hc; omega⟩
 | appz => exact ⟨hs,by simp only [Ins.cls] at hc; omega⟩
 | _ => first | exact ⟨hs,rfl⟩ | (simp only [Ins.cls] at hc; omega)
theorem Zp6 {cmp:TypeId→Bool} {ρ:IArg→AV} {io:Ins} (hn:Q9 ρ io) (hs:iside cmp ρ H0 io):iside cmp ρ (H0++G) io∧(∀ id,aval id ρ (H0++G) io=aval id ρ H0 io)∧aobj ρ (H0++G) io=aobj ρ H0 io:=by
 cases io with
 | append sz b s x =>
  obtain ⟨h1,h2,h3,h4⟩:=hs
  obtain ⟨g1,g2⟩:=I4 (G:=G) h1
  refine ⟨⟨g1,by rw [g2]; exact h2,h3,?_⟩,fun id => by simp only [aval,g2],by simp only [aobj,g2]⟩
  have hn:Uj (ρ s):=hn
  have h4:Ur sz H0 (ρ x) (ρ s):=h4
  show Ur sz (H0++G) (ρ x) (ρ s)
  generalize ρ s=v at *
  cases v with
  | row id off n L => exact hn.elim
  | view cs n f =>
   obtain ⟨k1,k2,k3⟩:=h4
   exact ⟨k1,k2,by rw [g2]; exact k3⟩
  | lit v =>
   obtain rfl:v=.slice none 0 0:=by
    unfold Uj at hn
    split at hn <;> simp_all
   trivial
  | _ => exact hn.elim
 | alloc z => exact ⟨hs,fun _ => rfl,rfl⟩
 | box z => exact ⟨hs,fun _ => rfl,rfl⟩
 | mksl => exact ⟨hs,fun _ => rfl,rfl⟩
 | bslice => exact ⟨hs,fun _ => rfl,rfl⟩
 | _ => exact hn.elim
end
section
variable {P:Program} {φ:Nat→Option Nat} {H:AH} {w:World}
theorem Z10 {cmp:TypeId→Bool} {ρ:IArg→AV} {io:Ins} (hn:Q9 ρ io) (hs:iside cmp ρ H io):ival ρ H io=aval H.length ρ H io∧inext ρ H io=H++[aobj ρ H io]:=by
 cases io with
 | append sz b s x =>
  have hn:Uj (ρ s):=hn
  show appV sz H (ρ x) (ρ s)=_∧appH sz H (ρ x) (ρ s)=_
  generalize ρ s=v at *
  unfold Uj at hn
  split at hn
  ·exact ⟨rfl,rfl⟩
  ·obtain ⟨rfl,rfl⟩:=hn; exact ⟨rfl,rfl⟩
  ·exact hn.elim
 | alloc z => exact ⟨rfl,rfl⟩
 | box z => exact ⟨rfl,rfl⟩
 | mksl => exact ⟨rfl,rfl⟩
 | bslice own =>
  have hn:own=true:=hn
  subst hn; exact ⟨rfl,rfl⟩
 | _ => exact hn.elim
theorem Z30 {S:Cx}:∀ {l:List AV},(∀ a ∈ l,∃ y,R S a y)→∃ ys,RL S l ys
 | [],_ => ⟨[],rfl⟩
 | a::r,h => by
  obtain ⟨y,hy⟩:=h a (by simp)
  obtain ⟨ys,hys⟩:=Z30 (l:=r) fun b hb => h b (by simp [hb])
  exact ⟨y::ys,y,ys,rfl,hy,hys⟩
theorem Zhd {cs new:List AV} {off:Nat} {a:AV} (h:a ∈ splice cs off new):a ∈ cs∨a ∈ new:=by
 unfold splice at h
 split at h
 ·rcases List.mem_or_eq_of_mem_set h with h | h
  ·exact .inl h
  ·exact .inr (by simp [h])
 ·rw [List.mem_append,List.mem_append] at h
  rcases h with (h | h) | h
  ·exact .inl (List.mem_of_mem_take h)
  ·exact .inr h
  ·exact .inl (List.mem_of_mem_drop h)
theorem Ab {a:AV}:∀ {l:List (Nat × AV)} {cs:List AV},a ∈ fillv cs l→a ∈ cs∨∃ p ∈ l,a ∈ p.2.cells
 | [],cs,h => .inl h
 | (o,v)::r,cs,h => by
  rcases Ab (l:=r) h with h | ⟨p,h1,h2⟩
  ·rcases Zhd h with h | h
   ·exact .inl h
   ·exact .inr ⟨(o,v),by simp,h⟩
  ·exact .inr ⟨p,by simp [h1],h2⟩
theorem E3 {t:Nat}:∀ {l:List (Nat × Nat × AV)},Zq t l→∀ p ∈ l,p.2.2.cells.all AV.one=true
 | [],_,p,h => by cases h
 | (o,k,v)::r,h,p,hp => by
  rcases List.mem_cons.1 hp with rfl | hp
  ·exact h.1.2.2
  ·exact E3 h.2 p hp
theorem Zfv {S:Cx} {v:AV} (h:∃ y,R S v y) (h1:v.cells.all AV.one=true):∀ a ∈ v.cells,∃ y,R S a y:=by
 obtain ⟨y,hy⟩:=h
 intro a ha
 obtain ⟨u,_,hu⟩:=(hy.cells h1).1.mem ha
 exact ⟨u,hu⟩
theorem Z1a (hs:St (cx φ H w)) {sz:Nat} {x:AV} (hx:∃ y,R (cx φ H w) x y) (hok:Wy sz H x):∀ a ∈ srcC sz H x,∃ y,R (cx φ H w) a y:=by
 intro a ha
 obtain ⟨y,hy⟩:=hx
 cases x with
 | view cs n f =>
  obtain ⟨_,_,_,_,_,_,_,h6⟩:=hy
  rcases h6 with h6 | ⟨b,off,us,_,_,h7⟩
  ·rw [show srcC sz H (.view cs n f)=cs from rfl,h6] at ha; cases ha
  ·obtain ⟨u,_,hu⟩:=h7.mem ha
   exact ⟨u,hu⟩
 | row id off n L =>
  have hid:=hok.1
  have ha:a ∈ (obj H id).cs:=List.mem_of_mem_drop (List.mem_of_mem_take ha)
  rcases hs.ok id _ (Q7 hid) with ⟨_,g⟩ | ⟨b,c,e,fr,g1,g2,g3,g4,g5⟩
  ·have g:(obj H id).cs=[]:=g
   rw [g] at ha; cases ha
  ·obtain ⟨u,_,hu⟩:=g5.mem ha
   exact ⟨u,hu⟩
 | lit v =>
  cases v <;> try (exact hok.elim)
  ·rename_i s
   have ha:a ∈ bytesOf s:=ha
   simp only [bytesOf,List.mem_map] at ha
   obtain ⟨b,_,rfl⟩:=ha
   exact ⟨_,rfl⟩
  ·rename_i b n c
   have:srcC sz H (.lit (.slice b n c))=[]:=rfl
   rw [this] at ha; cases ha
 | _ => exact hok.elim
theorem Zy6 (hs:St (cx φ H w)) {cmp:TypeId→Bool} {ρ:IArg→AV} {io:Ins} (hρ:∀ x,∃ y,R (cx φ H w) (ρ x) y) (hn:Q9 ρ io) (hsd:iside cmp ρ H io):∃ ys,RL (cx φ H w) (aobj ρ H io).cs ys:=by
 refine Z30 fun a ha => ?_
 have lits:∀ {z:List Value},a ∈ zlit z→∃ y,R (cx φ H w) a y:=by
  intro z h
  simp only [zlit,List.mem_map] at h
  obtain ⟨v,_,rfl⟩:=h
  exact ⟨v,rfl⟩
 have reps:∀ {z:List Value} {n:Nat},a ∈ repl n (zlit z)→∃ y,R (cx φ H w) a y:=by
  intro z n h
  simp only [repl,List.mem_flatten] at h
  obtain ⟨l,h1,h2⟩:=h
  rw [List.eq_of_mem_replicate h1] at h2
  exact lits h2
 cases io with
 | append sz b s x => exact Z1a hs (hρ x) hsd.1 a ha
 | alloc z => exact lits ha
 | box x => exact Zfv (hρ x) hsd.2 a ha
 | mksl => exact reps ha
 | bslice own sz len z ps =>
  rcases Ab ha with h | ⟨p,h1,h2⟩
  ·exact reps h
  ·obtain ⟨q,hq,rfl⟩:=List.mem_map.1 h1
   exact Zfv (hρ q.2.2) (E3 hsd.1 (q.1,q.2.1,ρ q.2.2) (List.mem_map.2 ⟨q,hq,rfl⟩)) a h2
 | _ => exact hn.elim
theorem Zqa {K K':Value→World→Prop} {r:Result Next} (h:Sat P K r) (hk:∀ y w',K y w'→K' y w'):Sat P K' r:=by
 unfold Sat at *
 split at h
 ·exact hk _ _ h
 ·exact hk _ _ h
 ·exact Calls.mono h fun e w'' ⟨y,he,hj⟩ => ⟨y,he,hk _ _ hj⟩
 ·exact h.elim
theorem Zlq (hs:St (cx φ H w)) {cmp:TypeId→Bool} (hcmp:∀ t,cmp t=true→cmpT P t=true) {own:Nat→Bool} {o:Oper} {io:Ins} (h:op? P own o=some io) {ρ:IArg→AV} {η:Operand→Value} (hρ:∀ x y,arg? x=some y→R (cx φ H w) (ρ y) (η x))
  (hη:(∀ f,η (.func f)=.func (.func f) #[] #[])∧∀ v,η (.const v)=v) (hρ2:∀ x,∃ y,R (cx φ H w) (ρ x) y) (hn:Q9 ρ io) (hok:iside cmp ρ H io) {d:Nat} {D:AObj} (hd:H[d]? = some D) (hD:isD D) :
  Sat P (PostV φ H w (aval d ρ H io) (H.set d (aobj ρ H io))) ((execOp η o).run P w):=by
 have h1:=Ze1 (P:=P) hs hcmp h hρ hη hok
 obtain ⟨e1,e2⟩:=Z10 hn hok
 rw [e1,e2] at h1
 refine Zqa h1 ?_
 rintro y w' ⟨φ1,s1,s2,s3,s4⟩
 obtain ⟨g1,g2⟩:=Z17 hs hd hD (Zy6 hs hρ2 hn hok) s1 s2
 refine ⟨_,g1,g2,s3,?_⟩
 cases io with
 | append sz b s x => exact Zcb hd s4
 | alloc z => exact Zly hd s4
 | box x => exact Zly hd s4
 | mksl => exact Zcb hd s4
 | bslice own sz len z ps => exact Zcb hd s4
 | _ => exact hn.elim
theorem reserve (hs:St (cx φ H w)) (n:Nat):∃ φ',St (cx φ' (H++List.replicate n dumO) w)∧Ext (cx φ H w) (cx φ' (H++List.replicate n dumO) w):=by
 let φ':Nat→Option Nat:=fun i => if i<H.length then φ i else none
 have hx:Ext (cx φ H w) (cx φ' (H++List.replicate n dumO) w):=by
  refine ⟨Nat.le_refl _,fun _ _ _ => rfl,fun b c e fr h => ⟨c,fr,h,rfl⟩,fun i o hi => ⟨o,?_,.inr ⟨rfl,Nat.le_refl _,fun _ => rfl,fun h => h,fun _ => rfl,fun _ => ?_⟩⟩,fun i b hi hp hb => ?_⟩
  ·show (H++_)[i]? = _
   have hi:H[i]? = some o:=hi
   rw [List.getElem?_append_left (Zv hi)]; exact hi
  ·have hi:H[i]? = some o:=hi
   show (if i<H.length then φ i else none)=_
   rw [if_pos (Zv hi)]; rfl
  ·have hp:(if i<H.length then φ i else none)=some b:=hp
   split at hp
   ·exact ⟨by assumption,hp⟩
   ·cases hp
 refine ⟨φ',⟨fun i o hi => ?_,fun i j b hi hj h1 h2 => ?_⟩,hx⟩
 ·have hi:(H++List.replicate n dumO)[i]? = some o:=hi
  by_cases hlt:i<H.length
  ·rw [List.getElem?_append_left hlt] at hi
   have e:(cx φ' (H++List.replicate n dumO) w).φ i=φ i:=if_pos hlt
   rcases hs.ok i o hi with ⟨g1,g2⟩ | ⟨b,c,ee,fr,g1,g2,g3,g4,g5⟩
   ·exact .inl ⟨by rw [e]; exact g1,g2⟩
   ·exact .inr ⟨b,c,ee,fr,by rw [e]; exact g1,g2,g3,g4,g5.mono hx⟩
  ·rw [List.getElem?_append_right (by omega),List.getElem?_replicate] at hi
   split at hi
   ·cases hi; exact .inl ⟨if_neg hlt,rfl⟩
   ·cases hi
 ·have h1:(if i<H.length then φ i else none)=some b:=h1
  have h2:(if j<H.length then φ j else none)=some b:=h2
  split at h1
  ·split at h2
   ·exact hs.inj i j b (by assumption) (by assumption) h1 h2
   ·cases h2
  ·cases h1
end
section
variable {pf:Pf} {C:Yq}
theorem Wp {α β:Type} {f g:α→β}:∀ {l:List α},(∀ x ∈ l,f x=g x)→l.map f=l.map g:=fun h => List.map_congr_left h
theorem Q2 {α β:Type} {f g:α→β} {o:Option α} (h:∀ x,o=some x→f x=g x):o.map f=o.map g:=by
 cases o with
 | none => rfl
 | some x => simp [h x rfl]
theorem Mx {ρ ρ':IArg→AV} {cmp:TypeId→Bool} {H:AH}:∀ {io:Ins},(∀ x ∈ io.args,ρ x=ρ' x) →
  (iside cmp ρ H io=iside cmp ρ' H io)∧(ival ρ H io=ival ρ' H io)∧(inext ρ H io=inext ρ' H io)∧(∀ v H',Vu pf ρ C H v H' io=Vu pf ρ' C H v H' io):=by
 intro io h
 cases io with
 | build z ps =>
  have e1:(ps.map fun p => (p.1,p.2.1,ρ p.2.2))=ps.map fun p => (p.1,p.2.1,ρ' p.2.2):=Wp fun p hp => by rw [h p.2.2 (List.mem_map.2 ⟨p,hp,rfl⟩)]
  have e2:(ps.map fun p => (p.1,ρ p.2.2))=ps.map fun p => (p.1,ρ' p.2.2):=Wp fun p hp => by rw [h p.2.2 (List.mem_map.2 ⟨p,hp,rfl⟩)]
  exact ⟨by simp only [iside,e1],by simp only [ival,e2],rfl,fun _ _ => rfl⟩
 | bslice own sz len z ps =>
  have e1:(ps.map fun p => (p.1,p.2.1,ρ p.2.2))=ps.map fun p => (p.1,p.2.1,ρ' p.2.2):=Wp fun p hp => by rw [h p.2.2 (List.mem_map.2 ⟨p,hp,rfl⟩)]
  have e2:(ps.map fun p => (p.1,ρ p.2.2))=ps.map fun p => (p.1,ρ' p.2.2):=Wp fun p hp => by rw [h p.2.2 (List.mem_map.2 ⟨p,hp,rfl⟩)]
  exact ⟨by simp only [iside,e1,e2],by simp only [ival,e2],by simp only [inext,e2],fun _ _ => rfl⟩
 | mkfn f a b =>
  have e1:a.map ρ=a.map ρ':=Wp fun x hx => h x (List.mem_append_left _ hx)
  have e2:b.map ρ=b.map ρ':=Wp fun x hx => h x (List.mem_append_right _ hx)
  exact ⟨rfl,by simp only [ival,e1,e2],rfl,fun _ _ => rfl⟩
 | slice sz arr x lo hi mx =>
  have e0:ρ x=ρ' x:=h x (by simp [Ins.args])
  have e1:lo.map ρ=lo.map ρ':=Q2 fun y hy => h y (by simp [Ins.args,hy])
  have e2:hi.map ρ=hi.map ρ':=Q2 fun y hy => h y (by simp [Ins.args,hy])
  have e3:mx.map ρ=mx.map ρ':=Q2 fun y hy => h y (by simp [Ins.args,hy])
  exact ⟨by simp only [iside,e0,e1,e2,e3],by simp only [ival,e0,e1,e2,e3],rfl,fun _ _ => rfl⟩
 | sslice x lo hi =>
  have e0:ρ x=ρ' x:=h x (by simp [Ins.args])
  have e1:lo.map ρ=lo.map ρ':=Q2 fun y hy => h y (by simp [Ins.args,hy])
  have e2:hi.map ρ=hi.map ρ':=Q2 fun y hy => h y (by simp [Ins.args,hy])
  exact ⟨by simp only [iside,e0,e1,e2],by simp only [ival,e0,e1,e2],rfl,fun _ _ => rfl⟩
 | call f ags =>
  have e1:ags.map ρ=ags.map ρ':=Wp h
  exact ⟨rfl,rfl,rfl,fun _ _ => by simp only [Vu,e1]⟩
 | callv x ags =>
  have e0:ρ x=ρ' x:=h x (by simp [Ins.args])
  have e1:ags.map ρ=ags.map ρ':=Wp fun y hy => h y (by simp [Ins.args,hy])
  exact ⟨rfl,rfl,rfl,fun _ _ => by simp only [Vu,e0,e1]⟩
 | pick c a b => exact ⟨rfl,rfl,rfl,fun _ _ => rfl⟩
 | alloc z => exact ⟨rfl,rfl,rfl,fun _ _ => rfl⟩
 | lenc n => exact ⟨rfl,rfl,rfl,fun _ _ => rfl⟩
 | dead => exact ⟨rfl,rfl,rfl,fun _ _ => rfl⟩
 | mv x | nilchk x | un _ x | conv _ x | same x | s2b _ x | b2s x | box x | load _ _ x | fld _ x | part _ _ _ x | ext x _ | mkif _ x | len _ x | cap x | clear _ _ x | mark x | isnil _ x | s2ap _ _ x =>
  have e:=h x (by simp [Ins.args])
  exact ⟨by simp only [iside,e],by simp only [ival,e],by simp only [inext,e],fun _ _ => rfl⟩
 | carry _ x y c =>
  have e:=h x (by simp [Ins.args])
  have e':=h y (by simp [Ins.args])
  have e'':=h c (by simp [Ins.args])
  exact ⟨by simp only [iside,e,e',e''],by simp only [ival,e,e',e''],by simp only [inext],fun _ _ => rfl⟩
 | bin _ x y | eqagg _ _ x y | eq _ _ x y | store _ x y | idxa _ _ x y | idx _ _ _ x y | sidx x y | mksl _ _ _ x y | append _ _ x y | appv _ _ x y | appz _ _ _ x y | copy _ x y | mn x y | mx x y =>
  have e:=h x (by simp [Ins.args])
  have e':=h y (by simp [Ins.args])
  exact ⟨by simp only [iside,e,e'],by simp only [ival,e,e'],by simp only [inext,e,e'],fun _ _ => rfl⟩
theorem My {ρ:IArg→AV} {H:AH} {io:Ins} (h:io.cls pf≤1):inext ρ H io=H:=by
 cases io <;> first
  | rfl
  | (simp only [Ins.cls] at h; omega)
  | (rename_i own _ _ _ _; cases own <;> first | rfl | (simp only [Ins.cls] at h; omega))
  | (rename_i own x; cases own <;> first | (simp only [Ins.cls] at h; omega) | (simp only [inext]; cases ρ x <;> first | rfl | (rename_i v; cases v <;> rfl)))
theorem Z1c {cmp:TypeId→Bool} {ρ:IArg→AV} {H H2:AH} {io:Ins} (h:io.cls pf=0):iside cmp ρ H io=iside cmp ρ H2 io∧ival ρ H io=ival ρ H2 io:=by
 cases io <;> first
  | exact ⟨rfl,rfl⟩
  | (simp only [Ins.cls] at h; omega)
  | (rename_i own _ _ _ _; cases own <;> first | exact ⟨rfl,rfl⟩ | (simp only [Ins.cls] at h; omega))
  | (rename_i own x; cases own <;> first | (simp only [Ins.cls] at h; omega) | (refine ⟨rfl,?_⟩; simp only [ival]; cases ρ x <;> first | rfl | (rename_i v; cases v <;> rfl)))
  | (simp only [Ins.cls] at h; split at h <;> omega)
def Nc (w:Bool) (g:Bool):AV→Prop
 | .lit (.bool b) => g=(b == w)
 | .may g' (.lit (.bool b)) => g=(g'&&(b == w))
 | _ => False
theorem Od {w:Bool} {K:Bool→Prop} {v:AV}:Yr w K v↔∃ g,Nc w g v∧K g:=by
 unfold Yr Nc
 split <;> simp
def Sa:Ins→Bool
 | .call .. | .callv .. => true
 | _ => false
def Pe:Ins→Bool
 | .pick .. => true
 | _ => false
def L9 (pf:Pf) (C:Yq) (ρ:IArg→AV) (H:AH) (v:AV) (H':AH) (io:Ins):Prop :=
 if Sa io then Vu pf ρ C H v H' io else iside pf.c ρ H io∧v=ival ρ H io∧H'=inext ρ H io
def Bz (g:Bool) (E:Env) (v:AV):Ins→Prop
 | .pick c a b => Hj g (ev E c) (ev E a) (ev E b)∧v=pickv (ev E c).un (ev E a).un (ev E b).un
 | _ => False
def Yc (pf:Pf) (C:Yq) (o:IOp) (E:Env) (H:AH) (v:AV) (H':AH):Prop :=
 match o.g with
 | none => if Pe o.o then Bz true E v o.o∧H'=H else L9 pf C (ev E) H v H' o.o
 | some (d,w) => ∃ g u,Nc w g (E d)∧v=.may g u∧H'=H ∧
  if Pe o.o then Bz g E u o.o
  else (∀ x ∈ o.o.args,Yp g (ev E x)) ∧
   if Sa o.o then (g=true→Vu pf (fun x => (ev E x).un) C H u H o.o)
   else (g=true→iside pf.c (fun x => (ev E x).un) H o.o)∧u=ival (fun x => (ev E x).un) H o.o
theorem iopwp_iff {o:IOp} {K:Env→AH→Prop} {E:Env} {H:AH}:iopwp pf C o K E H↔∃ v H',Yc pf C o E H v H'∧K (upd E o.d v) H':=by
 obtain ⟨d,g,io⟩:=o
 cases g with
 | none =>
  cases io with
  | pick c a b =>
   simp only [iopwp,Yc,Pe,if_true,Bz]
   constructor
   ·rintro ⟨h1,h2⟩; exact ⟨_,_,⟨⟨h1,rfl⟩,rfl⟩,h2⟩
   ·rintro ⟨v,H',⟨⟨h1,rfl⟩,rfl⟩,h2⟩; exact ⟨h1,h2⟩
  | call f ags => simp only [iopwp,Yc,Pe,L9,Sa,if_true,if_false,Bool.false_eq_true]
  | callv f ags => simp only [iopwp,Yc,Pe,L9,Sa,if_true,if_false,Bool.false_eq_true]
  | _ =>
   simp only [iopwp,Yc,Pe,L9,Sa,if_true,if_false,Bool.false_eq_true]
   constructor
   ·rintro ⟨h1,h2⟩; exact ⟨_,_,⟨h1,rfl,rfl⟩,h2⟩
   ·rintro ⟨v,H',⟨h1,rfl,rfl⟩,h2⟩; exact ⟨h1,h2⟩
 | some dw =>
  obtain ⟨j,w⟩:=dw
  cases io with
  | pick c a b =>
   simp only [iopwp,Yc,Pe,if_true,Bz,Od]
   constructor
   ·rintro ⟨g,h0,h1,h2⟩; exact ⟨_,_,⟨g,_,h0,rfl,rfl,h1,rfl⟩,h2⟩
   ·rintro ⟨v,H',⟨g,u,h0,rfl,rfl,h1,rfl⟩,h2⟩; exact ⟨g,h0,h1,h2⟩
  | call f ags =>
   simp only [iopwp,Yc,Pe,Sa,if_true,if_false,Bool.false_eq_true,Od,Ins.args]
   constructor
   ·rintro ⟨g,h0,h1,v,h2,h3⟩; exact ⟨_,_,⟨g,v,h0,rfl,rfl,h1,h2⟩,h3⟩
   ·rintro ⟨v,H',⟨g,u,h0,rfl,rfl,h1,h2⟩,h3⟩; exact ⟨g,h0,h1,u,h2,h3⟩
  | callv f ags =>
   simp only [iopwp,Yc,Pe,Sa,if_true,if_false,Bool.false_eq_true,Od,Ins.args]
   constructor
   ·rintro ⟨g,h0,h1,v,h2,h3⟩; exact ⟨_,_,⟨g,v,h0,rfl,rfl,h1,h2⟩,h3⟩
   ·rintro ⟨v,H',⟨g,u,h0,rfl,rfl,h1,h2⟩,h3⟩; exact ⟨g,h0,h1,u,h2,h3⟩
  | _ =>
   simp only [iopwp,Yc,Pe,Sa,if_true,if_false,Bool.false_eq_true,Od]
   constructor
   ·rintro ⟨g,h0,h1,h2,h3⟩; exact ⟨_,_,⟨g,_,h0,rfl,rfl,h1,h2,rfl⟩,h3⟩
   ·rintro ⟨v,H',⟨g,u,h0,rfl,rfl,h1,h2,rfl⟩,h3⟩; exact ⟨g,h0,h1,h2,h3⟩
theorem Zcm {o:IOp} {K K':Env→AH→Prop} {E:Env} {H:AH} (h:iopwp pf C o K E H) (hk:∀ E H,K E H→K' E H):iopwp pf C o K' E H:=by
 obtain ⟨v,H',h1,h2⟩:=iopwp_iff.1 h
 exact iopwp_iff.2 ⟨v,H',h1,hk _ _ h2⟩
theorem Og {E E':Env} {x:IArg} (h:∀ n ∈ x.uses,E n=E' n):ev E x=ev E' x:=by
 cases x with
 | t n => exact h n (by simp [IArg.uses])
 | _ => rfl
theorem Vw {o:IOp} {E E':Env} {H H':AH} {v:AV} (h:∀ n ∈ o.uses,E n=E' n) (hs:Yc pf C o E H v H'):Yc pf C o E' H v H':=by
 have ha:∀ x ∈ o.o.args,ev E x=ev E' x:=fun x hx => Og fun n hn => h n (List.mem_append_left _ (List.mem_flatMap.2 ⟨x,hx,hn⟩))
 have hp:∀ g u,Bz g E u o.o→Bz g E' u o.o:=by
  intro g u hh
  revert ha hh
  cases o.o <;> intro ha hh <;> first | exact hh.elim | skip
  rename_i c a b
  have e1:=ha c (by simp [Ins.args]); have e2:=ha a (by simp [Ins.args]); have e3:=ha b (by simp [Ins.args])
  simp only [Bz,e1,e2,e3] at hh ⊢
  exact hh
 unfold Yc at hs ⊢
 split at hs
 ·rename_i hg
  split at hs
  ·rename_i hP; rw [if_pos hP]; exact ⟨hp _ _ hs.1,hs.2⟩
  ·rename_i hP
   rw [if_neg hP]
   unfold L9 at hs ⊢
   obtain ⟨e1,e2,e3,e4⟩:=Mx (pf:=pf) (C:=C) (cmp:=pf.c) (H:=H) (io:=o.o) (ρ:=ev E) (ρ':=ev E') ha
   rw [e1,e2,e3,e4] at hs
   exact hs
 ·rename_i d w hg
  have ed:E d=E' d:=h d (by simp [IOp.uses,hg])
  have ha':∀ x ∈ o.o.args,(ev E x).un=(ev E' x).un:=fun x hx => by rw [ha x hx]
  obtain ⟨e1,e2,e3,e4⟩:=Mx (pf:=pf) (C:=C) (cmp:=pf.c) (H:=H) (io:=o.o) (ρ:=fun x => (ev E x).un) (ρ':=fun x => (ev E' x).un) ha'
  obtain ⟨g,u,h1,h2,h3,h4⟩:=hs
  refine ⟨g,u,by rw [← ed]; exact h1,h2,h3,?_⟩
  split at h4
  ·rename_i hP; rw [if_pos hP]; exact hp _ _ h4
  ·rename_i hP
   rw [if_neg hP]
   refine ⟨fun x hx => by rw [← ha x hx]; exact h4.1 x hx,?_⟩
   have h5:=h4.2
   rw [e1,e2,e4] at h5
   exact h5
theorem Vi {o:IOp} {E:Env} {H H':AH} {v:AV} (hc:o.o.cls pf≤1) (hs:Yc pf C o E H v H'):H'=H:=by
 unfold Yc at hs
 split at hs
 ·split at hs
  ·exact hs.2
  ·unfold L9 at hs
   split at hs
   ·revert hs hc
    cases o.o <;> intro hc hs <;> try exact hs.elim
    ·exact hs.2 (by simp only [Ins.cls] at hc; split at hc <;> first | assumption | omega)
    ·exact hs.2 (by simp only [Ins.cls] at hc; split at hc <;> first | assumption | omega)
   ·rw [hs.2.2]; exact My hc
 ·obtain ⟨g,u,_,_,h,_⟩:=hs; exact h
theorem Zsh {io:Ins} (h:io.cls pf=0):Sa io=false:=by
 cases io <;> first | rfl | (simp only [Ins.cls] at h; split at h <;> omega)
theorem Zge {o:IOp} {E:Env} {H H' H2:AH} {v:AV} (hc:o.o.cls pf=0) (hs:Yc pf C o E H v H'):Yc pf C o E H2 v H2:=by
 have hC:=Zsh hc
 unfold Yc at hs ⊢
 split at hs
 ·split at hs
  ·rename_i hP; rw [if_pos hP]; exact ⟨hs.1,rfl⟩
  ·rename_i hP
   rw [if_neg hP]
   unfold L9 at hs ⊢
   rw [hC] at hs ⊢
   obtain ⟨e1,e2⟩:=Z1c (pf:=pf) (cmp:=pf.c) (ρ:=ev E) (H:=H) (H2:=H2) hc
   simp only [Bool.false_eq_true,if_false] at hs ⊢
   exact ⟨by rw [← e1]; exact hs.1,by rw [← e2]; exact hs.2.1,(My (pf:=pf) (by omega)).symm⟩
 ·obtain ⟨g,u,h1,h2,h3,h4⟩:=hs
  refine ⟨g,u,h1,h2,rfl,?_⟩
  split at h4
  ·rename_i hP; rw [if_pos hP]; exact h4
  ·rename_i hP
   rw [if_neg hP]
   rw [hC] at h4 ⊢
   obtain ⟨e1,e2⟩:=Z1c (pf:=pf) (cmp:=pf.c) (ρ:=fun x => (ev E x).un) (H:=H) (H2:=H2) hc
   simp only [Bool.false_eq_true,if_false] at h4 ⊢
   exact ⟨h4.1,by rw [← e1]; exact h4.2.1,by rw [← e2]; exact h4.2.2⟩
theorem Zdv (E:Env) {x y:Option Nat} (u v:AV) (h:∀ d,x=some d→y≠some d):upd (upd E x u) y v=upd (upd E y v) x u:=by
 cases x with
 | none => cases y <;> rfl
 | some d =>
  cases y with
  | none => rfl
  | some e =>
   have hne:d≠e:=fun he => h d rfl (he ▸ rfl)
   funext n
   simp only [upd]
   by_cases h1:n=d <;> by_cases h2:n=e <;> simp_all
theorem P6 {E:Env} {x:Option Nat} {v:AV} {l:List Nat} (h:∀ d,x=some d→d ∉ l):∀ n ∈ l,upd E x v n=E n:=by
 intro n hn
 cases x with
 | none => rfl
 | some d =>
  have:n≠d:=fun e => h d rfl (e ▸ hn)
  simp [upd,this]
theorem Z5j {a b:IOp} {K:Env→AH→Prop} {E:Env} {H:AH} (hc:Ziq pf a b=true) (h:iopwp pf C a (iopwp pf C b K) E H):iopwp pf C b (iopwp pf C a K) E H:=by
 simp only [Ziq,Bool.and_eq_true,Bool.or_eq_true,beq_iff_eq] at hc
 obtain ⟨⟨hcl,h1⟩,h2⟩:=hc
 have n1:∀ d,a.d=some d→d ∉ b.uses∧b.d≠some d:=by
  intro d hd; rw [hd] at h1; simpa using h1
 have n2:∀ d,b.d=some d→d ∉ a.uses:=by
  intro d hd; rw [hd] at h2; simpa using h2
 obtain ⟨va,Ha,s1,hk⟩:=iopwp_iff.1 h
 obtain ⟨vb,Hb,s2,hk⟩:=iopwp_iff.1 hk
 have s2':Yc pf C b E Ha vb Hb:=Vw (P6 fun d hd => (n1 d hd).1) s2
 have fin:∀ H1,Yc pf C b E H vb H1→Yc pf C a E H1 va Hb→iopwp pf C b (iopwp pf C a K) E H:=by
  intro H1 t1 t2
  refine iopwp_iff.2 ⟨vb,H1,t1,iopwp_iff.2 ⟨va,Hb,Vw (fun n hn => (P6 n2 n hn).symm) t2,?_⟩⟩
  rw [← Zdv E va vb fun d hd => (n1 d hd).2]; exact hk
 rcases hcl with (hcl | hcl) | ⟨ha,hb⟩
 ·obtain rfl:=Vi (pf:=pf) (by omega) s1
  exact fin Hb s2' (Zge hcl s1)
 ·obtain rfl:=Vi (pf:=pf) (by omega) s2'
  exact fin H (Zge hcl s2') s1
 ·obtain rfl:=Vi (pf:=pf) (by omega) s1
  obtain rfl:=Vi (pf:=pf) (by omega) s2'
  exact fin _ s2' s1
def absL (pf:Pf) (C:Yq):List IOp→(Env→AH→Prop)→Env→AH→Prop
 | [],K => K
 | o::r,K => iopwp pf C o (absL pf C r K)
theorem Zmj {k:IC} {Q:Ex→Env→AH→Prop}:∀ l:List IOp,iwp pf C (IC.ops l k) Q=absL pf C l (iwp pf C k Q)
 | [] => rfl
 | o::r => by funext E H; show iopwp pf C o (iwp pf C (IC.ops r k) Q) E H=_; rw [Zmj r]; rfl
theorem B9 {K:Env→AH→Prop} {o:IOp} {post:List IOp}:∀ {pre:List IOp} {E:Env} {H:AH},(∀ x ∈ pre,Ziq pf x o=true)→absL pf C (pre++o::post) K E H→iopwp pf C o (absL pf C (pre++post) K) E H
 | [],E,H,_,h => h
 | x::pre,E,H,hc,h => Z5j (hc x (by simp)) (Zcm h fun E H h => B9 (fun y hy => hc y (by simp [hy])) h)
end
section
variable {pf:Pf} {C:Yq} {base:Nat}
def RStep (pf:Pf) (C:Yq) (base:Nat) (x:RA) (E:Env) (H:AH) (v:AV) (H':AH):Prop :=
 match x.k with
 | .l => Yc pf C x.o E H v H'
 | .m => Yc pf C x.o E H v H'∧H'.take base=H.take base
 | .w => base≤H.length∧wfar H (ev E) x.o.o∧Yc pf C x.o E H v H'
 | .e => Yc pf (frC C) x.o E (H.take base) v (H.take base)∧H'=H
 | .f n => Yc pf (frC C) x.o E (H.take (base+n)) v (H.take (base+n))∧H'=H
 | .a r => (base+r<H.length∧obj H (base+r)=dumO)∧Q9 (ev E) x.o.o∧iside pf.c (ev E) (H.take base) x.o.o∧v=aval (base+r) (ev E) (H.take base) x.o.o∧H'=H.set (base+r) (aobj (ev E) (H.take base) x.o.o)
def raOk (pf:Pf) (x:RA):Prop:=(x.k=.e→x.o.o.cls pf≤1)∧(x.k=.w→isAp x.o.o=true)∧∀ n,x.k=.f n→x.o.o.cls pf≤1
def rdis (x:RA) (E:Env):Prop:=∀ a ∈ x.ds,apart (ev E a).un (ev E (adrD x.o.o)).un
theorem Zwg {x:RA} (hx:raOk pf x) {K:Env→AH→Prop} {E:Env} {H:AH}:rwp pf C base x K E H↔∃ v H',RStep pf C base x E H v H'∧K (upd E x.o.d v) H':=by
 unfold rwp RStep
 cases hk:x.k with
 | l => exact iopwp_iff
 | m =>
  refine Iff.trans iopwp_iff ?_
  exact ⟨fun ⟨v,H',h1,h2,h3⟩ => ⟨v,H',⟨h1,h2⟩,h3⟩,fun ⟨v,H',⟨h1,h2⟩,h3⟩ => ⟨v,H',h1,h2,h3⟩⟩
 | w =>
  exact ⟨fun ⟨hb,hf,h⟩ => by obtain ⟨v,H',h1,h2⟩:=iopwp_iff.1 h; exact ⟨v,H',⟨hb,hf,h1⟩,h2⟩,fun ⟨v,H',⟨hb,hf,h1⟩,h2⟩ => ⟨hb,hf,iopwp_iff.2 ⟨v,H',h1,h2⟩⟩⟩
 | e =>
  refine Iff.trans (iopwp_iff (C:=frC C)) ?_
  constructor
  ·rintro ⟨v,H1,h1,h2⟩
   obtain rfl:=Vi (hx.1 hk) h1
   exact ⟨v,H,⟨h1,rfl⟩,h2⟩
  ·rintro ⟨v,H',⟨h1,rfl⟩,h2⟩
   exact ⟨v,_,h1,h2⟩
 | f n =>
  refine Iff.trans (iopwp_iff (C:=frC C)) ?_
  constructor
  ·rintro ⟨v,H1,h1,h2⟩
   obtain rfl:=Vi (hx.2.2 n hk) h1
   exact ⟨v,H,⟨h1,rfl⟩,h2⟩
  ·rintro ⟨v,H',⟨h1,rfl⟩,h2⟩
   exact ⟨v,_,h1,h2⟩
 | a r =>
  constructor
  ·rintro ⟨h1,h2,h3,h4⟩; exact ⟨_,_,⟨h1,h2,h3,rfl,rfl⟩,h4⟩
  ·rintro ⟨v,H',⟨h1,h2,h3,rfl,rfl⟩,h4⟩; exact ⟨h1,h2,h3,h4⟩
theorem Zlr {ρ ρ':IArg→AV} {H0:AH} {io:Ins} (h:∀ x ∈ io.args,ρ x=ρ' x):Q9 ρ io=Q9 ρ' io∧(∀ id,aval id ρ H0 io=aval id ρ' H0 io)∧aobj ρ H0 io=aobj ρ' H0 io:=by
 cases io with
 | append sz b s x =>
  have e1:=h s (by simp [Ins.args]); have e2:=h x (by simp [Ins.args])
  exact ⟨by simp only [Q9,e1],fun _ => by simp only [aval,e2],by simp only [aobj,e2]⟩
 | mksl sz b z l c =>
  have e1:=h l (by simp [Ins.args])
  exact ⟨rfl,fun _ => by simp only [aval,e1],by simp only [aobj,e1]⟩
 | box x =>
  have e1:=h x (by simp [Ins.args])
  exact ⟨rfl,fun _ => rfl,by simp only [aobj,e1]⟩
 | bslice own sz len z ps =>
  have e2:(ps.map fun p => (p.1,ρ p.2.2))=ps.map fun p => (p.1,ρ' p.2.2):=Wp fun p hp => by rw [h p.2.2 (List.mem_map.2 ⟨p,hp,rfl⟩)]
  exact ⟨rfl,fun _ => rfl,by simp only [aobj,e2]⟩
 | _ => exact ⟨rfl,fun _ => rfl,rfl⟩
theorem Zf5 {ρ ρ':IArg→AV} {H:AH} {io:Ins} (h:∀ x ∈ io.args,ρ x=ρ' x):wfar H ρ io=wfar H ρ' io:=by
 cases io with
 | append sz b s x => simp only [wfar,h x (by simp [Ins.args])]
 | _ => rfl
theorem I8 {x:RA} {E E':Env} {H H':AH} {v:AV} (h:∀ n ∈ x.o.uses,E n=E' n) (hs:RStep pf C base x E H v H'):RStep pf C base x E' H v H':=by
 unfold RStep at *
 cases hk:x.k with
 | l => rw [hk] at hs; exact Vw h hs
 | m => rw [hk] at hs; exact ⟨Vw h hs.1,hs.2⟩
 | w =>
  rw [hk] at hs
  have ha:∀ y ∈ x.o.o.args,ev E y=ev E' y:=fun y hy => Og fun n hn => h n (List.mem_append_left _ (List.mem_flatMap.2 ⟨y,hy,hn⟩))
  exact ⟨hs.1,by rw [← Zf5 ha]; exact hs.2.1,Vw h hs.2.2⟩
 | e => rw [hk] at hs; exact ⟨Vw h hs.1,hs.2⟩
 | f n => rw [hk] at hs; exact ⟨Vw h hs.1,hs.2⟩
 | a r =>
  rw [hk] at hs
  have ha:∀ y ∈ x.o.o.args,ev E y=ev E' y:=fun y hy => Og fun n hn => h n (List.mem_append_left _ (List.mem_flatMap.2 ⟨y,hy,hn⟩))
  obtain ⟨h1,h2,h3,h4,h5⟩:=hs
  obtain ⟨e1,e2,e3⟩:=Zlr (H0:=H.take base) ha
  obtain ⟨g1,_⟩:=Mx (pf:=pf) (C:=C) (cmp:=pf.c) (H:=H.take base) ha
  exact ⟨h1,by rw [← e1]; exact h2,by rw [← g1]; exact h3,by rw [← e2]; exact h4,by rw [← e3]; exact h5⟩
theorem Zb9 {ρ:IArg→AV} {io:Ins} (h:Q9 ρ io):io.cls pf=2:=by
 cases io <;> first | exact h.elim | rfl | skip
 have h:_=true:=h
 subst h; rfl
theorem r0 {x:RA} {E:Env} {H H':AH} {v:AV} (hw:x.k≠.w) (hc:x.o.o.cls pf=0) (hs:RStep pf C base x E H v H'):H'=H∧∀ Hn,RStep pf C base x E Hn v Hn:=by
 unfold RStep at *
 cases hk:x.k with
 | l =>
  rw [hk] at hs
  exact ⟨Vi (by omega) hs,fun Hn => Zge hc hs⟩
 | m =>
  rw [hk] at hs
  exact ⟨Vi (by omega) hs.1,fun Hn => ⟨Zge hc hs.1,rfl⟩⟩
 | w => exact absurd hk hw
 | e =>
  rw [hk] at hs
  exact ⟨hs.2,fun Hn => ⟨Zge hc hs.1,rfl⟩⟩
 | f n =>
  rw [hk] at hs
  exact ⟨hs.2,fun Hn => ⟨Zge hc hs.1,rfl⟩⟩
 | a r =>
  rw [hk] at hs
  have:=Zb9 (pf:=pf) hs.2.1
  omega
theorem r1 {x:RA} {E:Env} {H H':AH} {v:AV} (hc:x.o.o.cls pf≤1) (hs:RStep pf C base x E H v H'):H'=H:=by
 unfold RStep at hs
 cases hk:x.k with
 | l => rw [hk] at hs; exact Vi hc hs
 | m => rw [hk] at hs; exact Vi hc hs.1
 | w => rw [hk] at hs; exact Vi hc hs.2.2
 | e => rw [hk] at hs; exact hs.2
 | f n => rw [hk] at hs; exact hs.2
 | a r => rw [hk] at hs; have:=Zb9 (pf:=pf) hs.2.1; omega
theorem V5 {H:AH} {i:Nat} {o:AObj} (h:base≤i):(H.set i o).take base=H.take base:=by
 apply List.ext_getElem?
 intro j
 rw [List.getElem?_take,List.getElem?_take]
 split
 ·rw [List.getElem?_set_ne (by omega)]
 ·rfl
theorem Xy {H:AH} {i j:Nat} {o:AObj} (h:i≠j):obj (H.set i o) j=obj H j:=by
 simp only [obj,List.getD_eq_getElem?_getD,List.getElem?_set_ne h]
theorem Pd {H:AH} {id:Nat} {o:AObj} {x:AV} {k:Nat} (hx:∀ i,(∃ off,x=.ptr i off)∨(∃ off L,x=.rptr i off L)→i≠id):(Ys k ((H.set id o).take base) x=Ys k (H.take base) x∧∀ agg,Y8 agg k ((H.set id o).take base) x=Y8 agg k (H.take base) x)∧(Ys k (H.set id o) x=Ys k H x∧∀ agg,Y8 agg k (H.set id o) x=Y8 agg k H x):=by
 have key:∀ i,i≠id→obj ((H.set id o).take base) i=obj (H.take base) i:=by
  intro i hi
  simp only [obj,List.getD_eq_getElem?_getD,List.getElem?_take]
  split
  ·rw [List.getElem?_set_ne (Ne.symm hi)]
  ·rfl
 have hl:((H.set id o).take base).length=(H.take base).length:=by simp
 cases x with
 | ptr i off =>
  have hi:=hx i (.inl ⟨off,rfl⟩)
  exact ⟨⟨by simp only [Ys,key i hi,hl],fun agg => by simp only [Y8,key i hi]⟩,by simp only [Ys,Xy (Ne.symm hi),List.length_set],fun agg => by simp only [Y8,Xy (Ne.symm hi)]⟩
 | rptr i off L =>
  have hi:=hx i (.inr ⟨off,L,rfl⟩)
  exact ⟨⟨by simp only [Ys,key i hi,hl],fun agg => by simp only [Y8,key i hi]⟩,by simp only [Ys,Xy (Ne.symm hi),List.length_set],fun agg => by simp only [Y8,Xy (Ne.symm hi)]⟩
 | vptr cs => exact ⟨⟨rfl,fun _ => rfl⟩,rfl,fun _ => rfl⟩
 | _ => exact ⟨⟨rfl,fun _ => rfl⟩,rfl,fun _ => rfl⟩
theorem Ztz {o:IOp} {k:Nat} {a x:IArg} (ho:o.o=.store k a x) {E:Env} {H H':AH} {v:AV} (hs:Yc pf C o E H v H'):H'=H∨∃ id ob,H'=H.set id ob∧((∃ off,ev E a=.ptr id off)∨∃ off L,ev E a=.rptr id off L):=by
 unfold Yc at hs
 split at hs
 ·rw [ho] at hs
  obtain ⟨h1,_,h3⟩:=hs
  obtain ⟨_,_,h4⟩:=h1
  have h3:H'=F9 H (ev E x) (ev E a):=h3
  rw [h3]
  clear h3
  generalize ev E a=z at *
  cases z with
  | ptr id off => exact .inr ⟨id,_,rfl,.inl ⟨off,rfl⟩⟩
  | rptr id off L => exact .inr ⟨id,_,rfl,.inr ⟨off,L,rfl⟩⟩
  | _ => exact h4.elim
 ·obtain ⟨g,u,_,_,h,_⟩:=hs
  exact .inl h
theorem Ze9 {o:IOp} {agg:Bool} {k:Nat} {a:IArg} (ho:o.o=.load agg k a) {E:Env} {H H2:AH} {v:AV} (hs:Yc pf C o E H v H) (h:Ys k H2 (ev E a).un=Ys k H (ev E a).un∧∀ agg,Y8 agg k H2 (ev E a).un=Y8 agg k H (ev E a).un) (h':Ys k H2 (ev E a)=Ys k H (ev E a)∧∀ agg,Y8 agg k H2 (ev E a)=Y8 agg k H (ev E a)):Yc pf C o E H2 v H2:=by
 obtain ⟨d,g,io⟩:=o
 dsimp only at ho
 subst ho
 cases g with
 | none =>
  obtain ⟨h1,h2,_⟩:=hs
  exact ⟨by show Ys k H2 (ev E a); rw [h'.1]; exact h1,by show v=Y8 agg k H2 (ev E a); rw [h'.2]; exact h2,rfl⟩
 | some dw =>
  obtain ⟨g,u,h1,h2,_,h3,h4,h5⟩:=hs
  exact ⟨g,u,h1,h2,rfl,h3,fun hg => by show Ys k H2 (ev E a).un; rw [h.1]; exact h4 hg,by show u=Y8 agg k H2 (ev E a).un; rw [h.2]; exact h5⟩
theorem Zji {E:Env} {d:Option Nat} {v:AV} {a:IArg} (h:∀ k,d=some k→k ∉ a.uses):ev (upd E d v) a=ev E a:=Og fun n hn => P6 h n hn
theorem Zf3 {x y:AV} {i id:Nat} (h:apart x y) (hx:(∃ off,x=.ptr i off)∨∃ off L,x=.rptr i off L) (hy:(∃ off,y=.ptr id off)∨∃ off L,y=.rptr id off L):i≠id:=by
 rcases hx with ⟨_,rfl⟩ | ⟨_,_,rfl⟩ <;> rcases hy with ⟨_,rfl⟩ | ⟨_,_,rfl⟩ <;> exact h
theorem Za5 {v:AV} {id:Nat} (h:(∃ off,v=.ptr id off)∨∃ off L,v=.rptr id off L):v.un=v:=by
 rcases h with ⟨_,rfl⟩ | ⟨_,_,rfl⟩ <;> rfl
theorem Zdw {v:AV} {i:Nat} (h:(∃ off,v=.ptr i off)∨∃ off L,v=.rptr i off L):(∃ off,v.un=.ptr i off)∨∃ off L,v.un=.rptr i off L:=by
 rw [Za5 h]; exact h
theorem Zuc {o:IOp} {E:Env} {T T':AH} {v:AV} (hcl:o.o.cls pf≤1) (hnc:Sa o.o=false) (hnp:Pe o.o=false) (h:∀ ρ,(ρ=ev E∨ρ=fun x => (ev E x).un)→iside pf.c ρ T' o.o=iside pf.c ρ T o.o∧ival ρ T' o.o=ival ρ T o.o) (hs:Yc pf C o E T v T):Yc pf C o E T' v T':=by
 unfold Yc at *
 rw [hnp] at *
 simp only [Bool.false_eq_true,if_false] at *
 split at hs
 ·unfold L9 at *
  rw [hnc] at *
  simp only [Bool.false_eq_true,if_false] at *
  obtain ⟨h1,h2⟩:=h _ (.inl rfl)
  exact ⟨by rw [h1]; exact hs.1,by rw [h2]; exact hs.2.1,(My hcl).symm⟩
 ·rw [hnc] at *
  simp only [Bool.false_eq_true,if_false] at *
  obtain ⟨g,u,a1,a2,_,a4,a5,a6⟩:=hs
  obtain ⟨h1,h2⟩:=h _ (.inr rfl)
  exact ⟨g,u,a1,a2,(by first | rfl | trivial),a4,fun hg => by rw [h1]; exact a5 hg,by rw [h2]; exact a6⟩
def Zdm:AV→Option Nat
 | .ptr i _ | .rptr i _ _ | .row i _ _ _ => some i
 | _ => none
theorem Zwl {T T':AH} {id:Nat} (hl:T'.length=T.length) (key:∀ i,i≠id→obj T' i=obj T i) {z:AV} (hz:Zdm z≠some id) :
  (∀ k,Ys k T' z=Ys k T z)∧(∀ agg k,Y8 agg k T' z=Y8 agg k T z)∧(∀ sz lo hi mx arr,Xx sz T' lo hi mx arr z=Xx sz T lo hi mx arr z)∧(∀ sz lo hi mx arr,Xl sz T' lo hi mx arr z=Xl sz T lo hi mx arr z):=by
 cases z with
 | ptr i off =>
  have e:=key i (fun h => hz (by rw [h]; rfl))
  exact ⟨fun _ => by simp only [Ys,e,hl],fun _ _ => by simp only [Y8,e],fun _ _ _ _ arr => by cases arr <;> simp only [Xx,hl],fun _ _ _ _ arr => by cases arr <;> simp only [Xl,e]⟩
 | rptr i off L =>
  have e:=key i (fun h => hz (by rw [h]; rfl))
  exact ⟨fun _ => by simp only [Ys,e,hl],fun _ _ => by simp only [Y8,e],fun _ _ _ _ arr => by cases arr <;> simp only [Xx],fun _ _ _ _ arr => by cases arr <;> simp only [Xl]⟩
 | row i off n L =>
  have e:=key i (fun h => hz (by rw [h]; rfl))
  exact ⟨fun _ => by simp only [Ys],fun _ _ => by simp only [Y8],fun _ _ _ _ arr => by cases arr <;> simp only [Xx,e,hl],fun _ _ _ _ arr => by cases arr <;> simp only [Xl]⟩
 | lit v =>
  refine ⟨fun _ => rfl,fun _ _ => rfl,fun _ lo hi mx arr => ?_,fun _ _ _ _ arr => by cases arr <;> rfl⟩
  cases arr with
  | some m => rfl
  | none => cases v <;> first | rfl | (rename_i b n c; cases b <;> first | rfl | (cases n <;> first | rfl | (cases c <;> rfl)))
 | _ => exact ⟨fun _ => rfl,fun _ _ => rfl,fun _ _ _ _ arr => by cases arr <;> rfl,fun _ _ _ _ arr => by cases arr <;> rfl⟩
def Keep (z:AV) (T T':AH):Prop:=T'=T∨∃ id,T'.length=T.length∧(∀ i,i≠id→obj T' i=obj T i)∧Zdm z≠some id
theorem Keep.symm {z:AV} {T T':AH} (h:Keep z T T'):Keep z T' T:=by
 rcases h with rfl | ⟨id,h1,h2,h3⟩
 ·exact .inl rfl
 ·exact .inr ⟨id,h1.symm,fun i hi => (h2 i hi).symm,h3⟩
theorem Keep.same {z:AV} {T T':AH} (h:Keep z T T') :
  (∀ k,Ys k T' z=Ys k T z)∧(∀ agg k,Y8 agg k T' z=Y8 agg k T z)∧(∀ sz lo hi mx arr,Xx sz T' lo hi mx arr z=Xx sz T lo hi mx arr z)∧(∀ sz lo hi mx arr,Xl sz T' lo hi mx arr z=Xl sz T lo hi mx arr z):=by
 rcases h with rfl | ⟨id,h1,h2,h3⟩
 ·exact ⟨fun _ => rfl,fun _ _ => rfl,fun _ _ _ _ _ => rfl,fun _ _ _ _ _ => rfl⟩
 ·exact Zwl h1 h2 h3
theorem Z3w {z:AV} {id:Nat} (h:Zdm z.un≠some id):Zdm z≠some id:=by
 cases z <;> first | exact h | (intro hh; cases hh)
theorem Keep.un {z:AV} {T T':AH} (h:Keep z.un T T'):Keep z T T':=by
 rcases h with rfl | ⟨id,h1,h2,h3⟩
 ·exact .inl rfl
 ·exact .inr ⟨id,h1,h2,Z3w h3⟩
theorem Zeq {y:IOp} {E:Env} {T T':AH} {v:AV} (hy:(isLd y.o || isSl y.o)=true) (hk:Keep (ev E (adrD y.o)).un T T') (hs:Yc pf C y E T v T):Yc pf C y E T' v T':=by
 have k1:=hk.same
 have k2:=hk.un.same
 obtain ⟨d,g,io⟩:=y
 cases io <;> try (cases hy; done)
 ·exact Zuc (Nat.le_refl _) rfl rfl (fun ρ hρ => by
   rcases hρ with rfl | rfl
   ·exact ⟨k2.1 _,k2.2.1 _ _⟩
   ·exact ⟨k1.1 _,k1.2.1 _ _⟩) hs
 ·exact Zuc (Nat.le_refl _) rfl rfl (fun ρ hρ => by
   rcases hρ with rfl | rfl
   ·exact ⟨congrArg (And _) (k2.2.2.1 _ _ _ _ _),k2.2.2.2 _ _ _ _ _⟩
   ·exact ⟨congrArg (And _) (k1.2.2.1 _ _ _ _ _),k1.2.2.2 _ _ _ _ _⟩) hs
theorem Zk2 {y:IOp} {E:Env} {T T':AH} {v:AV} (hy:(isLd y.o || isSl y.o)=true) (hk:Keep (ev E (adrD y.o)).un T T'):(Yc pf C y E T v T→Yc pf C y E T' v T')∧(Yc pf C y E T' v T'→Yc pf C y E T v T) :=
 ⟨Zeq hy hk,Zeq hy hk.symm⟩
theorem Za1 {z:AV} {id off n L:Nat} (h:apart (.row id off n L) z∨apart z (.row id off n L)):Zdm z≠some id:=by
 intro hh
 cases z <;> try (cases hh; done)
 all_goals
  cases hh
  rcases h with h | h <;> exact h rfl
theorem Zoz {o:IOp} {E:Env} {H H':AH} {v z:AV} (ho:isAp o.o=true) (hb:base≤H.length) (hs:Yc pf C o E H v H') (hz:∀ id off n L,(ev E (adrD o.o)).un=.row id off n L→Zdm z≠some id):Keep z (H.take base) (H'.take base):=by
 obtain ⟨d,g,io⟩:=o
 cases io <;> try (cases ho; done)
 rename_i sz b s x
 unfold Yc at hs
 cases g with
 | some dw => obtain ⟨_,_,_,_,rfl,_⟩:=hs; exact .inl rfl
 | none =>
  obtain ⟨_,_,h3⟩:=hs
  have h3:H'=appH sz H (ev E x) (ev E s):=h3
  have hz:∀ id off n L,(ev E s).un=.row id off n L→Zdm z≠some id:=hz
  subst h3
  have app:∀ ob:AObj,(H++[ob]).take base=H.take base:=fun ob => List.take_append_of_le_length hb
  generalize ev E s=u at *
  cases u with
  | row id off n L =>
   refine .inr ⟨id,by simp [appH,setO],fun i hi => ?_,hz id off n L rfl⟩
   simp only [appH,setO,obj,List.getD_eq_getElem?_getD,List.getElem?_take]
   split
   ·rw [List.getElem?_set_ne (Ne.symm hi)]
   ·rfl
  | view cs n f =>
   refine .inl ?_
   simp only [appH]
   split
   ·exact app _
   ·rfl
  | _ => exact .inl (app _)
theorem Dl {H:AH} {i sz:Nat} {O:AObj} {X:AV} (h:∀ id off n L,X=.row id off n L→id≠i):Wy sz (H.set i O) X=Wy sz H X∧srcC sz (H.set i O) X=srcC sz H X:=by
 cases X with
 | row id off n L =>
  have hi:i≠id:=(h id off n L rfl).symm
  exact ⟨by simp only [Wy,Xy hi,List.length_set],by simp only [srcC,Xy hi]⟩
 | lit v =>
  cases v <;> first | exact ⟨rfl,rfl⟩ | (rename_i b n c; cases b <;> first | exact ⟨rfl,rfl⟩ | (cases n <;> first | exact ⟨rfl,rfl⟩ | (cases c <;> exact ⟨rfl,rfl⟩)))
 | _ => exact ⟨rfl,rfl⟩
theorem Z3s {o:IOp} (ho:apSz o.o=true) (hg:o.g=none) {E:Env} {H H1:AH} {v:AV} {i:Nat} (hi:i<H1.length) (hd:obj H1 i=dumO) (hf:wfar H (ev E) o.o) (hs:Yc pf C o E H v H1):i<H.length∧obj H i=dumO∧∀ O,wfar (H.set i O) (ev E) o.o∧Yc pf C o E (H.set i O) v (H1.set i O):=by
 obtain ⟨d,g,io⟩:=o
 dsimp only at hg
 subst hg
 cases io <;> try (cases ho; done)
 rename_i sz b s x
 have hsz:sz≠0:=by simpa [apSz] using ho
 obtain ⟨h1,h2,h3⟩:=hs
 have h1:Ow sz b H (ev E s) (ev E x):=h1
 have h2:v=appV sz H (ev E x) (ev E s):=h2
 have h3:H1=appH sz H (ev E x) (ev E s):=h3
 have hf:farV H (ev E x):=hf
 suffices h:i<H.length∧obj H i=dumO∧∀ O,farV (H.set i O) (ev E x)∧Ow sz b (H.set i O) (ev E s) (ev E x)∧v=appV sz (H.set i O) (ev E x) (ev E s)∧H1.set i O=appH sz (H.set i O) (ev E x) (ev E s) from
  ⟨h.1,h.2.1,fun O => ⟨(h.2.2 O).1,(h.2.2 O).2.1,(h.2.2 O).2.2.1,(h.2.2 O).2.2.2⟩⟩
 generalize ev E x=X at *
 generalize ev E s=Z at *
 subst h2 h3
 obtain ⟨q1,q2,q3,q4⟩:=h1
 have hnew:∀ ob:AObj,ob.sz=sz→i<(H++[ob]).length→obj (H++[ob]) i=dumO→i<H.length∧obj H i=dumO:=fun ob e1 e2 e3 => by
  rcases Nat.lt_or_ge i H.length with h | h
  ·refine ⟨h,?_⟩
   rw [← e3]; simp only [obj,List.getD_eq_getElem?_getD,List.getElem?_append_left h]
  ·have:i=H.length:=by simp at e2; omega
   subst this
   have:ob=dumO:=by rw [← e3]; simp only [obj,List.getD_eq_getElem?_getD]; rw [List.getElem?_append_right (Nat.le_refl _),Nat.sub_self]; rfl
   rw [this] at e1
   exact absurd e1.symm hsz
 have hX:obj H i=dumO→∀ id off n L,X=.row id off n L→id≠i:=fun e id off n L hx he => by
  subst hx he
  exact hf e
 have hfar:∀ O,obj H i=dumO→farV (H.set i O) X:=fun O e => by
  cases X with
  | row id off n L =>
   have:=hX e id off n L rfl
   show obj (H.set i O) id≠dumO
   rw [Xy (Ne.symm this)]; exact hf
  | _ => exact trivial
 have happ:∀ (O ob:AObj),i<H.length→(H++[ob]).set i O=H.set i O++[ob]:=fun O ob h => List.set_append_left _ _ h
 cases Z with
 | row id off n L =>
  obtain ⟨p1,p2,p3,p4,p5,p6⟩:=q4
  have hl:i<H.length:=by simpa [appH,setO] using hi
  have hne:id≠i:=fun e => by
   subst e
   have:(obj (appH sz H X (.row id off n L)) id).sz=sz:=by
    simp only [appH,setO,obj,List.getD_eq_getElem?_getD,List.getElem?_set_self p1]
    exact p4
   rw [hd] at this
   exact hsz this.symm
  have e:obj H i=dumO:=by
   rw [← hd]
   simp only [appH,setO]
   rw [Xy hne]
  refine ⟨hl,e,fun O => ?_⟩
  obtain ⟨f1,f2⟩:=Dl (sz:=sz) (O:=O) (hX e)
  have f3:obj (H.set i O) id=obj H id:=Xy (Ne.symm hne)
  refine ⟨hfar O e,⟨by rw [f1]; exact q1,by rw [f2]; exact q2,q3,?_⟩,by simp only [appV,f2],?_⟩
  ·simp only [Ur,f3,List.length_set]
   exact ⟨p1,p2,p3,p4,p5,p6⟩
  ·simp only [appH,setO,f2,f3]
   rw [List.set_comm _ _ hne]
 | view cs n f =>
  by_cases hn:n=0
  ·have hH:appH sz H X (.view cs n f)=H++[⟨srcC sz H X,sz,true⟩]:=by simp only [appH,if_pos hn]
   rw [hH] at hi hd
   obtain ⟨hl,e⟩:=hnew _ rfl hi hd
   refine ⟨hl,e,fun O => ?_⟩
   obtain ⟨f1,f2⟩:=Dl (sz:=sz) (O:=O) (hX e)
   refine ⟨hfar O e,⟨by rw [f1]; exact q1,by rw [f2]; exact q2,q3,?_⟩,by simp only [appV,f2,List.length_set],?_⟩
   ·simp only [Ur,f2]; exact q4
   ·rw [hH,happ O _ hl]; simp only [appH,if_pos hn,f2]
  ·have hH:appH sz H X (.view cs n f)=H:=by simp only [appH,if_neg hn]
   rw [hH] at hi hd
   refine ⟨hi,hd,fun O => ?_⟩
   obtain ⟨f1,f2⟩:=Dl (sz:=sz) (O:=O) (hX hd)
   refine ⟨hfar O hd,⟨by rw [f1]; exact q1,by rw [f2]; exact q2,q3,?_⟩,by simp only [appV,f2,List.length_set],?_⟩
   ·simp only [Ur,f2]; exact q4
   ·rw [hH]; simp only [appH,if_neg hn]
 | lit z =>
  have hH:appH sz H X (.lit z)=H++[⟨srcC sz H X,sz,true⟩]:=by simp only [appH]
  rw [hH] at hi hd
  obtain ⟨hl,e⟩:=hnew _ rfl hi hd
  refine ⟨hl,e,fun O => ?_⟩
  obtain ⟨f1,f2⟩:=Dl (sz:=sz) (O:=O) (hX e)
  refine ⟨hfar O e,⟨by rw [f1]; exact q1,by rw [f2]; exact q2,q3,?_⟩,by simp only [appV,f2,List.length_set],?_⟩
  ·cases z <;> first | exact q4 | (rename_i b n c; cases b <;> first | exact q4 | (cases n <;> first | exact q4 | (cases c <;> exact q4)))
  ·rw [hH,happ O _ hl]; simp only [appH,f2]
 | _ => exact q4.elim
theorem Z3k {x y:RA} (hx:raOk pf x) (hy:raOk pf y) {E:Env} {H H1 H2:AH} {vx vy:AV} (hc:Zc9 pf x y=true) (s1:RStep pf C base x E H vx H1) (s2:RStep pf C base y (upd E x.o.d vx) H1 vy H2) (hd:y.ds.any (Bq (adrD x.o.o))=true→apart (ev E (adrD x.o.o)).un (ev E (adrD y.o.o)).un) :
  ∃ Hy,RStep pf C base y E H vy Hy∧RStep pf C base x (upd E y.o.d vy) Hy vx H2:=by
 simp only [Zc9,Bool.and_eq_true,Bool.or_eq_true,beq_iff_eq] at hc
 obtain ⟨⟨hk,h1⟩,h2⟩:=hc
 have n1o:∀ d,x.o.d=some d→d ∉ y.o.uses:=by
  intro d hd; rw [hd] at h1; simp at h1; exact h1.1
 have n2:∀ d,y.o.d=some d→d ∉ x.uses:=by
  intro d hd; rw [hd] at h2; simpa using h2
 have n2o:∀ d,y.o.d=some d→d ∉ x.o.uses:=fun d hd hh => n2 d hd (List.mem_append_left _ hh)
 have s2':RStep pf C base y E H1 vy H2:=I8 (P6 n1o) s2
 have fin:∀ Hy,RStep pf C base y E H vy Hy→RStep pf C base x E Hy vx H2→∃ Hy,RStep pf C base y E H vy Hy∧RStep pf C base x (upd E y.o.d vy) Hy vx H2 :=
  fun Hy t1 t2 => ⟨Hy,t1,I8 (fun n hn => (P6 n2o n hn).symm) t2⟩
 have apc:∀ {io:Ins},isAp io=true→io.cls pf≠0:=by
  intro io h
  cases io <;> first | (cases h; done) | (intro hh; simp only [Ins.cls] at hh; omega)
 by_cases cx:x.o.o.cls pf=0
 ·obtain ⟨rfl,g⟩:=r0 (fun hw => apc (hx.2.1 hw) cx) cx s1
  exact fin H2 s2' (g H2)
 by_cases cy:y.o.o.cls pf=0
 ·obtain ⟨rfl,g⟩:=r0 (fun hw => apc (hy.2.1 hw) cy) cy s2'
  exact fin H (g H) s1
 have hk:=(hk.resolve_left (by rintro (h | h); exact cx h; exact cy h))
 -- both leave the objects alone
 have both:x.o.o.cls pf≤1→y.o.o.cls pf≤1→∃ Hy,RStep pf C base y E H vy Hy∧RStep pf C base x (upd E y.o.d vy) Hy vx H2:=by
  intro c1 c2
  obtain rfl:=r1 c1 s1
  obtain rfl:=r1 c2 s2'
  exact fin _ s2' s1
 -- a load,a store
 have mem:=hd
 have ldst:isLd x.o.o=true→isSt y.o.o=true→y.k=.l→(x.k=.l∨x.k=.e)→y.ds.any (Bq (adrD x.o.o))=true→∃ Hy,RStep pf C base y E H vy Hy∧RStep pf C base x (upd E y.o.d vy) Hy vx H2:=by
  intro l1 l2 ky kx hm
  have hap:=mem hm
  cases hxo:x.o.o <;> rw [hxo] at l1 <;> try (cases l1; done)
  rename_i agg k a
  cases hyo:y.o.o <;> rw [hyo] at l2 <;> try (cases l2; done)
  rename_i k2 b z
  rw [hxo,hyo] at hap
  have hap:apart (ev E a).un (ev E b).un:=hap
  have c1:x.o.o.cls pf≤1:=by rw [hxo]; exact Nat.le_refl _
  obtain rfl:=r1 c1 s1
  refine fin H2 s2' ?_
  have s2l:Yc pf C y.o E H1 vy H2:=by unfold RStep at s2'; rw [ky] at s2'; exact s2'
  rcases Ztz hyo s2l with rfl | ⟨id,ob,rfl,hb⟩
  ·exact s1
  ·have hne:∀ i,(∃ off,(ev E a).un=.ptr i off)∨(∃ off L,(ev E a).un=.rptr i off L)→i≠id:=fun i hi => Zf3 hap hi (by rw [Za5 hb]; exact hb)
   have hne':∀ i,(∃ off,ev E a=.ptr i off)∨(∃ off L,ev E a=.rptr i off L)→i≠id:=fun i hi => hne i (Zdw hi)
   unfold RStep at *
   cases hkx:x.k with
   | l => rw [hkx] at s1; exact Ze9 hxo s1 (Pd (base:=base) hne).2 (Pd (base:=base) hne').2
   | e => rw [hkx] at s1; exact ⟨Ze9 hxo s1.1 (Pd hne).1 (Pd hne').1,rfl⟩
   | _ => rw [hkx] at kx; rcases kx with h | h <;> cases h
 have stld:isSt x.o.o=true→isLd y.o.o=true→x.k=.l→(y.k=.l∨y.k=.e)→y.ds.any (Bq (adrD x.o.o))=true→∃ Hy,RStep pf C base y E H vy Hy∧RStep pf C base x (upd E y.o.d vy) Hy vx H2:=by
  intro l1 l2 kx ky hm
  have hap:=mem hm
  cases hyo:y.o.o <;> rw [hyo] at l2 <;> try (cases l2; done)
  rename_i agg k a
  cases hxo:x.o.o <;> rw [hxo] at l1 <;> try (cases l1; done)
  rename_i k2 b z
  rw [hxo,hyo] at hap
  have hap:apart (ev E b).un (ev E a).un:=hap
  have c1:y.o.o.cls pf≤1:=by rw [hyo]; exact Nat.le_refl _
  obtain rfl:=r1 c1 s2'
  refine fin H ?_ s1
  have s1l:Yc pf C x.o E H vx H2:=by unfold RStep at s1; rw [kx] at s1; exact s1
  rcases Ztz hxo s1l with rfl | ⟨id,ob,rfl,hb⟩
  ·exact s2'
  ·have hne:∀ i,(∃ off,(ev E a).un=.ptr i off)∨(∃ off L,(ev E a).un=.rptr i off L)→i≠id:=fun i hi => (Zf3 hap (by rw [Za5 hb]; exact hb) hi).symm
   have hne':∀ i,(∃ off,ev E a=.ptr i off)∨(∃ off L,ev E a=.rptr i off L)→i≠id:=fun i hi => hne i (Zdw hi)
   have q:∀ {p q:Prop} {f g:Bool→AV},(p=q∧∀ b,f b=g b)→(q=p∧∀ b,g b=f b):=fun h => ⟨h.1.symm,fun b => (h.2 b).symm⟩
   unfold RStep at *
   cases hky:y.k with
   | l => rw [hky] at s2'; exact Ze9 hyo s2' (q (Pd (base:=base) hne).2) (q (Pd (base:=base) hne').2)
   | e => rw [hky] at s2'; exact ⟨Ze9 hyo s2'.1 (q (Pd hne).1) (q (Pd hne').1),rfl⟩
   | _ => rw [hky] at ky; rcases ky with h | h <;> cases h
 have hle:(decide (x.o.o.cls pf≤1)&&decide (y.o.o.cls pf≤1) || (isLd x.o.o&&isSt y.o.o || isSt x.o.o&&isLd y.o.o)&&y.ds.any (Bq (adrD x.o.o)))=true→(x.k=.l∨x.k=.e)→(y.k=.l∨y.k=.e)→∃ Hy,RStep pf C base y E H vy Hy∧RStep pf C base x (upd E y.o.d vy) Hy vx H2:=by
  intro h kx ky
  simp only [Bool.or_eq_true,Bool.and_eq_true,decide_eq_true_eq] at h
  rcases h with ⟨c1,c2⟩ | ⟨⟨l1,l2⟩ | ⟨l1,l2⟩,hm⟩
  ·exact both c1 c2
  ·refine ldst l1 l2 (ky.resolve_right fun he => ?_) kx hm
   have:=hy.1 he
   revert l2 this
   cases y.o.o <;> intro l2 this <;> first | (simp only [Ins.cls] at this; omega) | cases l2
  ·refine stld l1 l2 (kx.resolve_right fun he => ?_) ky hm
   have:=hx.1 he
   revert l1 this
   cases x.o.o <;> intro l1 this <;> first | (simp only [Ins.cls] at this; omega) | cases l1
 cases kx:x.k with
 | l =>
  cases ky:y.k with
  | l => rw [kx,ky] at hk; exact hle hk (.inl kx) (.inl ky)
  | e => rw [kx,ky] at hk; exact hle hk (.inl kx) (.inr ky)
  | _ => rw [kx,ky] at hk; cases hk
 | m =>
  cases ky:y.k with
  | e =>
   unfold RStep at s1 s2'
   rw [kx] at s1; rw [ky] at s2'
   obtain ⟨g1,g2⟩:=s1
   obtain ⟨g3,rfl⟩:=s2'
   refine fin H ?_ ?_
   ·unfold RStep; rw [ky]; dsimp only; rw [← g2]; exact ⟨g3,rfl⟩
   ·unfold RStep; rw [kx]; exact ⟨g1,g2⟩
  | _ => rw [kx,ky] at hk; cases hk
 | w =>
  cases ky:y.k with
  | e =>
   rw [kx,ky] at hk
   simp only [Bool.and_eq_true] at hk
   obtain ⟨⟨k1,k2⟩,k3⟩:=hk
   have hap:=mem k3
   unfold RStep at s1 s2'
   rw [kx] at s1; rw [ky] at s2'
   obtain ⟨g0,gf,g1⟩:=s1
   obtain ⟨g3,rfl⟩:=s2'
   refine fin H ?_ ?_
   ·unfold RStep; rw [ky]; exact ⟨(Zk2 k2 (Zoz k1 g0 g1 (fun id off n L h => Za1 (.inl (by rw [← h]; exact hap))))).2 g3,rfl⟩
   ·unfold RStep; rw [kx]; exact ⟨g0,gf,g1⟩
  | a r =>
   rw [kx,ky] at hk
   simp only [Bool.and_eq_true,Option.isNone_iff_eq_none] at hk
   obtain ⟨⟨k1,k2⟩,k3⟩:=hk
   unfold RStep at s1 s2'
   rw [kx] at s1; rw [ky] at s2'
   obtain ⟨g0,gf,g1⟩:=s1
   obtain ⟨⟨a1,a2⟩,a3,a4,hv,hH⟩:=s2'
   obtain ⟨b1,b2,b3⟩:=Z3s k2 k3 a1 a2 gf g1
   obtain ⟨z,hz⟩:∃ z,y.o.o=.alloc z:=by
    cases hyo:y.o.o <;> rw [hyo] at k1 <;> first | (cases k1; done) | exact ⟨_,rfl⟩
   have e1:aval (base+r) (ev E) (H1.take base) y.o.o=aval (base+r) (ev E) (H.take base) y.o.o:=by rw [hz]; rfl
   have e2:aobj (ev E) (H1.take base) y.o.o=aobj (ev E) (H.take base) y.o.o:=by rw [hz]; rfl
   have e3:iside pf.c (ev E) (H1.take base) y.o.o=iside pf.c (ev E) (H.take base) y.o.o:=by rw [hz]; rfl
   rw [e1] at hv
   rw [e2] at hH
   rw [e3] at a4
   subst hv hH
   obtain ⟨b4,b5⟩:=b3 (aobj (ev E) (H.take base) y.o.o)
   refine fin (H.set (base+r) (aobj (ev E) (H.take base) y.o.o)) ?_ ?_
   ·unfold RStep
    rw [ky]
    exact ⟨⟨b1,b2⟩,a3,a4,rfl,rfl⟩
   ·unfold RStep
    rw [kx]
    exact ⟨by rw [List.length_set]; exact g0,b4,b5⟩
  | _ => rw [kx,ky] at hk; cases hk
 | e =>
  cases ky:y.k with
  | l => rw [kx,ky] at hk; exact hle hk (.inr kx) (.inl ky)
  | e => exact both (hx.1 kx) (hy.1 ky)
  | f n => exact both (hx.1 kx) (hy.2.2 n ky)
  | m =>
   unfold RStep at s1 s2'
   rw [kx] at s1; rw [ky] at s2'
   obtain ⟨g3,rfl⟩:=s1
   obtain ⟨g1,g2⟩:=s2'
   refine fin H2 ?_ ?_
   ·unfold RStep; rw [ky]; exact ⟨g1,g2⟩
   ·unfold RStep; rw [kx]; dsimp only; rw [g2]; exact ⟨g3,rfl⟩
  | w =>
   rw [kx,ky] at hk
   simp only [Bool.and_eq_true] at hk
   obtain ⟨⟨k1,k2⟩,k3⟩:=hk
   have hap:=mem k3
   unfold RStep at s1 s2'
   rw [kx] at s1; rw [ky] at s2'
   obtain ⟨g3,rfl⟩:=s1
   obtain ⟨g0,gf,g1⟩:=s2'
   refine fin H2 ?_ ?_
   ·unfold RStep; rw [ky]; exact ⟨g0,gf,g1⟩
   ·unfold RStep; rw [kx]; exact ⟨(Zk2 k1 (Zoz k2 g0 g1 (fun id off n L h => Za1 (.inr (by rw [← h]; exact hap))))).1 g3,rfl⟩
  | a r =>
   obtain rfl:=r1 (hx.1 kx) s1
   refine fin H2 s2' ?_
   unfold RStep at *
   rw [kx] at s1; rw [ky] at s2'
   obtain ⟨g1,g2,g3,g4,rfl⟩:=s2'
   dsimp only at s1 ⊢
   rw [kx]
   dsimp only
   rw [V5 (by omega)]
   exact ⟨s1.1,rfl⟩
 | f n =>
  cases ky:y.k with
  | l | m | w => rw [kx,ky] at hk; cases hk
  | e => exact both (hx.2.2 n kx) (hy.1 ky)
  | f m => exact both (hx.2.2 n kx) (hy.2.2 m ky)
  | a r =>
   rw [kx,ky] at hk
   have hle:n≤r:=by simpa using hk
   obtain rfl:=r1 (hx.2.2 n kx) s1
   refine fin H2 s2' ?_
   unfold RStep at *
   rw [kx] at s1; rw [ky] at s2'
   obtain ⟨g1,g2,g3,g4,rfl⟩:=s2'
   dsimp only at s1 ⊢
   rw [kx]
   dsimp only
   rw [V5 (by omega)]
   exact ⟨s1.1,rfl⟩
 | a r =>
  cases ky:y.k with
  | l | m | w => rw [kx,ky] at hk; cases hk
  | f n =>
   rw [kx,ky] at hk
   have hle:n≤r:=by simpa using hk
   obtain rfl:=r1 (hy.2.2 n ky) s2'
   refine fin H ?_ s1
   unfold RStep at *
   rw [kx] at s1; rw [ky] at s2'
   obtain ⟨g1,g2,g3,g4,rfl⟩:=s1
   dsimp only at s2' ⊢
   rw [ky]
   dsimp only
   rw [V5 (by omega)] at s2'
   exact ⟨s2'.1,rfl⟩
  | e =>
   obtain rfl:=r1 (hy.1 ky) s2'
   refine fin H ?_ s1
   unfold RStep at *
   rw [kx] at s1; rw [ky] at s2'
   obtain ⟨g1,g2,g3,g4,rfl⟩:=s1
   dsimp only at s2' ⊢
   rw [ky]
   dsimp only
   rw [V5 (by omega)] at s2'
   exact ⟨s2'.1,rfl⟩
  | a s =>
   rw [kx,ky] at hk
   have hne:r≠s:=by simpa using hk
   unfold RStep at s1 s2'
   rw [kx] at s1; rw [ky] at s2'
   obtain ⟨⟨a1,a2⟩,a3,a4,rfl,rfl⟩:=s1
   obtain ⟨⟨b1,b2⟩,b3,b4,rfl,rfl⟩:=s2'
   rw [V5 (by omega)] at b4
   rw [Xy (by omega)] at b2
   rw [List.length_set] at b1
   refine fin (H.set (base+s) (aobj (ev E) (H.take base) y.o.o)) ?_ ?_
   ·unfold RStep
    rw [ky]
    exact ⟨⟨b1,b2⟩,b3,b4,by rw [V5 (by omega)],rfl⟩
   ·unfold RStep
    rw [kx]
    refine ⟨⟨by rw [List.length_set]; exact a1,by rw [Xy (by omega)]; exact a2⟩,a3,by rw [V5 (by omega)]; exact a4,by rw [V5 (by omega)],?_⟩
    rw [V5 (by omega),V5 (by omega),List.set_comm _ _ (by omega)]
theorem Fh {x:RA} (hx:raOk pf x) {r:List RA} {K:Env→AH→Prop} {E:Env} {H:AH}:absR pf C base (x::r) K E H↔rdis x E∧∃ v H',RStep pf C base x E H v H'∧absR pf C base r K (upd E x.o.d v) H':=by
 show (rdis x E∧rwp pf C base x (absR pf C base r K) E H)↔_
 rw [Zwg hx]
theorem Zgt {x:RA} {E E':Env} (h:∀ n ∈ x.uses,E n=E' n) (hd:rdis x E):rdis x E':=by
 intro a ha
 have:=hd a ha
 rw [Og (E:=E) (E':=E') (x:=a) (fun n hn => h n (List.mem_append_right _ (List.mem_flatMap.2 ⟨a,ha,hn⟩)))] at this
 rw [Og (E:=E) (E':=E') (x:=adrD x.o.o) (fun n hn => h n (List.mem_append_left _ ?_))] at this
 ·exact this
 ·refine List.mem_append_left _ (List.mem_flatMap.2 ⟨adrD x.o.o,?_,hn⟩)
  revert hn
  unfold adrD adr?
  split <;> rename_i e <;> intro hh
  ·rw [e]; simp [Ins.args]
  ·rw [e]; simp [Ins.args]
  ·rw [e]; simp [Ins.args]
  ·rw [e]; simp [Ins.args]
  ·cases hh
def Z4r (D:List Nat) (x:RA) (E:Env):Prop:=∀ a ∈ x.ds,(∀ n ∈ a.uses,n ∉ D)→apart (ev E a).un (ev E (adrD x.o.o)).un
theorem Ztf {o:IOp} {n:Nat} (h:n ∈ (adrD o.o).uses):n ∈ o.uses:=by
 refine List.mem_append_left _ (List.mem_flatMap.2 ⟨adrD o.o,?_,h⟩)
 revert h
 unfold adrD adr?
 split <;> rename_i e <;> intro hh
 ·rw [e]; simp [Ins.args]
 ·rw [e]; simp [Ins.args]
 ·rw [e]; simp [Ins.args]
 ·rw [e]; simp [Ins.args]
 ·cases hh
theorem Znb {x y:RA} (h:J4 x y=true) {d:Nat} (hd:y.o.d=some d):d ∉ (adrD x.o.o).uses:=by
 unfold J4 at h
 rw [hd] at h
 simpa using h
theorem Ei {K:Env→AH→Prop} {o:RA} (ho:raOk pf o) {post:List RA}:∀ {pre:List RA} {E:Env} {H:AH},(∀ x ∈ pre,raOk pf x∧Zc9 pf x o=true∧J4 x x=true)→pre.Pairwise (fun x y => J4 x y=true)→absR pf C base (pre++o::post) K E H →
  Z4r (pre.filterMap (·.o.d)) o E∧∃ v H',RStep pf C base o E H v H'∧absR pf C base (pre++post) K (upd E o.o.d v) H'
 | [],E,H,_,_,h => by
  obtain ⟨h1,h2⟩:=(Fh ho).1 h
  exact ⟨fun a ha _ => h1 a ha,h2⟩
 | x::pre,E,H,hc,hp,h => by
  obtain ⟨hx,hxo,hself⟩:=hc x (by simp)
  obtain ⟨hp1,hp2⟩:=List.pairwise_cons.1 hp
  obtain ⟨d1,vx,H1,s1,h⟩:=(Fh hx).1 h
  obtain ⟨d2,vo,Ho,s2,h⟩:=Ei ho (fun y hy => hc y (by simp [hy])) hp2 h
  have hxo':=hxo
  simp only [Zc9,Bool.and_eq_true] at hxo'
  obtain ⟨⟨_,k1⟩,k2⟩:=hxo'
  have n1:∀ d,x.o.d=some d→d ∉ o.o.uses∧o.o.d≠some d:=by
   intro d hd; rw [hd] at k1; simpa using k1
  have n2:∀ d,o.o.d=some d→d ∉ x.uses:=by
   intro d hd; rw [hd] at k2; simpa using k2
  have eo:∀ w,ev (upd E x.o.d w) (adrD o.o.o)=ev E (adrD o.o.o):=fun w => Zji fun k hk hh => (n1 k hk).1 (Ztf hh)
  obtain ⟨Hy,t1,t2⟩:=Z3k hx ho hxo s1 s2 (fun hany => by
   obtain ⟨a,ha1,ha2⟩:=List.any_eq_true.1 hany
   have:adrD x.o.o=a:=by
    generalize adrD x.o.o=b at *
    unfold Bq at ha2
    split at ha2
    ·rw [beq_iff_eq.1 ha2]
    ·cases ha2
   subst this
   have:=d2 _ ha1 (fun n hn hD => by
    obtain ⟨y,hy,hyd⟩:=List.mem_filterMap.1 hD
    exact Znb (hp1 y hy) hyd hn)
   rwa [eo,Zji (fun k hk hh => Znb hself hk hh)] at this)
  refine ⟨fun a ha hD => ?_,vo,Hy,t1,?_⟩
  ·have:=d2 a ha (fun n hn hh => hD n hn (by
    rw [List.filterMap_cons]; split
    ·exact hh
    ·exact List.mem_cons_of_mem _ hh))
   rwa [eo,Zji (fun k hk hh => hD k hh (by rw [List.filterMap_cons,hk]; simp))] at this
  refine (Fh hx).2 ⟨Zgt (fun n hn => (P6 n2 n hn).symm) d1,vx,Ho,t2,?_⟩
  rw [← Zdv E vx vo fun d hd => (n1 d hd).2]
  exact h
end
end Go.Proofs.YtcgjlpdkobmpnaaGreat.Eng

