/- Layer 23, plain: cases: what they are; what time does to them. -/
import Derived.Test.YtcgjlpdkobmpnaaGreatMFy
import Derived.Test.YtcgjlpdkobmpnaaGreatMKc
import Derived.Test.YtcgjlpdkobmpnaaGreatMSo
import Derived.Test.YtcgjlpdkobmpnaaGreatMCd
namespace Go.Proofs.YtcgjlpdkobmpnaaGreat.Eng
open Go Go.Proofs
set_option linter.unusedVariables false
set_option linter.unusedSimpArgs false
set_option maxRecDepth 10000
structure Sgt where
 r:Rec
 t:Tkt
def Sgt.cells (s:Sgt):List AV:=s.r.cells++s.t.cells
noncomputable def opens:List Bt→List Rec
 | [] => []
 | y::r => match Xw y.b with
  | none => []
  | some (x,_,_,_) => x::opens r
noncomputable def kck (K:List Key) (b:List UInt8) (m:Int):Tkt × Int:=if Rm K then Rn K b m else (noTk,1)
noncomputable def see1 (K:List Key) (r:Rec):List Sgt:=if decide ((kck K r.b r.min_).2=0)&&r.kind == 1 then [⟨r,(kck K r.b r.min_).1⟩] else []
noncomputable def sees (K:List Key) (l:List Rec):List Sgt:=l.flatMap (see1 K)
noncomputable def Wn (C:List Chx):List (List Rec):=C.map fun c => opens c.l
noncomputable def viewS (K:List Key) (C:List Chx):List Sgt:=(Wn C).flatMap (sees K)
def Zon (a b:Rec):Bool:=if a.min_≠b.min_ then decide (a.min_<b.min_) else if a.dev≠b.dev then decide (a.dev<b.dev) else decide (a.seq<b.seq)
noncomputable def Zxp (S:List Sv) (N:List Cn) (a b:Rec):Bool:=Fa S N a.stop a.min_ b.stop b.min_&&(Zcy S N a.stop a.min_ b.stop b.min_).isSome
noncomputable def Eo (S:List Sv) (N:List Cn) (r:Rec) (n:Int) (s:Sgt):Bool:=((s.t.serial == n&&Zon s.r r)&&decide (r.min_ - s.r.min_≤4320))&&!Zxp S N s.r r
noncomputable def Gn (S:List Sv) (N:List Cn) (X:List Sgt) (r:Rec) (n:Int):Bool:=X.any (Eo S N r n)
noncomputable def Je (K:List Key) (R:List Rvk) (P:List Prd) (S:List Sv) (N:List Cn) (X:List Sgt) (r:Rec) (b:List UInt8):Bool :=
 ((decide ((kck K b r.min_).2=0)&&!(revB R&&D7 R (kck K b r.min_).1.serial r.min_))&&Gp P (kck K b r.min_).1 r.zone r.min_)&&!Gn S N X r (kck K b r.min_).1.serial
structure Sto where
 up:Bool
 wr:Bool
 paid:Int
 shown:List Bt
 rest:Int
def sto0:Sto:=⟨false,false,0,[],0⟩
def X1 (d q now:Int) (s:Sto × Int) (e:Ent):Sto × Int:=if e.dev≠d∨e.seq≠q then s else
 (⟨s.1.up || e.up,s.1.wr || e.kind == 4,s.1.paid+e.amount,if e.kind=2 then s.1.shown++[⟨e.b,e.s⟩] else s.1.shown,if e.kind=3 then s.1.rest+max 0 (min e.at_ now - s.2) else s.1.rest⟩,
  if e.kind=2 then e.at_ else if e.kind=3 then -1 else s.2)
def Ey (d q now:Int) (E:List Ent):Sto × Int:=E.foldl (X1 d q now) (sto0,-1)
def Zo0 (now:Int) (p:Sto × Int):Sto:=if 0≤p.2 then { p.1 with rest:=p.1.rest+max 0 (now - p.2) } else p.1
def Si (d q now:Int) (E:List Ent):Sto:=Zo0 now (Ey d q now E)
def Zhk (l:List Rec) (n:Rec):Option Rec:=if (l.length:Int)≤n.serial then none else if (l.getD n.serial.toNat noRec).kind≠1 then none else some (l.getD n.serial.toNat noRec)
noncomputable def Gq (K:List Key) (R:List Rvk) (P:List Prd) (S:List Sv) (N:List Cn) (X:List Sgt) (l:List Rec) (n:Rec) (sh:List Bt):Bool:=match Zhk l n with
 | none => false
 | some r => (⟨r.b,r.e⟩::sh).any fun y => Je K R P S N X r y.b
structure Cse where
 dev:Int
 seq:Int
 at_:Int
 status:Int
 stage:Int
 paid:Int
def Cse.cells (c:Cse):List AV:=[I c.dev,I c.seq,I c.at_,I c.status,I c.stage,I c.paid]
def C8 (l:List Rec) (n:Rec):Bool:=l.any fun r => r.kind == 3&&r.serial == n.seq
def Zbf (v:Bool) (s:Sto) (c:Bool) (pen:Int):Int:=if v then 3 else if s.up then 4 else if c then 2 else if pen≤s.paid then 5 else if s.wr then 6 else 1
def stgN (now at_ rest:Int):Int:=max 0 (min 3 ((now - at_ - rest).tdiv 20160))
section
variable (K:List Key) (R:List Rvk) (P:List Prd) (S:List Sv) (N:List Cn) (C:List Chx) (E:List Ent) (pen now:Int)
noncomputable def Zjl (p:List Rec × Rec):Int:=Zbf (C8 p.1 p.2) (Si p.2.dev p.2.seq now E) (Gq K R P S N (viewS K C) p.1 p.2 (Si p.2.dev p.2.seq now E).shown) pen
noncomputable def Zii (p:List Rec × Rec):Cse:=⟨p.2.dev,p.2.seq,p.2.min_,Zjl K R P S N C E pen now p,if Zjl K R P S N C E pen now p=1 then stgN now p.2.min_ (Si p.2.dev p.2.seq now E).rest else 0,(Si p.2.dev p.2.seq now E).paid⟩
def prs (l m:List Rec):List (List Rec × Rec):=(m.filter fun r => r.kind == 2).map fun n => (l,n)
noncomputable def pairs:List (List Rec × Rec):=(Wn C).flatMap fun l => prs l l
noncomputable def R7:List Cse:=(pairs C).map (Zii K R P S N C E pen now)
end
/-! ### Time -/
structure TI (st:Int × Bool × Bool) (s:Int) (R:Int→Int):Prop where
 at0:0≤st.1
 op:st.2.1=true→0≤s∧s≤st.1
 cl:st.2.1=false→s=-1
 lip:∀ a b,a≤b→R b - R a≤b - a
 con:∀ a b,(if st.2.1 then s else st.1)≤a→(if st.2.1 then s else st.1)≤b→R a=R b
theorem TI.step {st:Int × Bool × Bool} {F:Int→Sto × Int} {s:Int} (hF:∀ a,(F a).2=s) {d q:Int} {e:Ent} (h:TI st s fun a => (F a).1.rest) (h1:e.dev=d→e.seq=q→st.1≤e.at_) (h2:e.dev=d→e.seq=q→e.kind=2→st.2.1=false) (h3:e.dev=d→e.seq=q→e.kind=3→st.2.1=true) :
  ∃ s',(∀ a,(X1 d q a (F a) e).2=s')∧TI (Dd d q st e) s' fun a => (X1 d q a (F a) e).1.rest:=by
 by_cases hc:e.dev≠d∨e.seq≠q
 ·refine ⟨s,fun a => ?_,?_⟩
  ·rw [X1,if_pos hc]; exact hF a
  ·have e1:Dd d q st e=st:=if_pos hc
   have e2:(fun a => (X1 d q a (F a) e).1.rest)=fun a => (F a).1.rest:=by
    funext a; rw [X1,if_pos hc]
   rw [e1,e2]; exact h
 ·have hd:e.dev=d:=Decidable.not_not.1 fun x => hc (.inl x)
  have hq:e.seq=q:=Decidable.not_not.1 fun x => hc (.inr x)
  have h1:=h1 hd hq
  have h2:=h2 hd hq
  have h3:=h3 hd hq
  obtain ⟨i1,i2,i3,i4,i5⟩:=h
  have e1:Dd d q st e=(e.at_,(e.kind == 2 || (st.2.1&&!(e.kind == 3))),(st.2.2 || e.kind == 4)):=if_neg hc
  rw [e1]
  by_cases k2:e.kind=2
  ·have ho:=h2 k2
   refine ⟨e.at_,fun a => ?_,?_⟩
   ·rw [X1,if_neg hc]
    show (if e.kind=2 then e.at_ else _)=_
    rw [if_pos k2]
   ·have e2:(fun a => (X1 d q a (F a) e).1.rest)=fun a => (F a).1.rest:=by
     funext a; rw [X1,if_neg hc]
     show (if e.kind=3 then _ else (F a).1.rest)=_
     rw [if_neg (by omega)]
    rw [e2,k2]
    refine ⟨by show 0≤e.at_; omega,fun _ => ⟨by omega,Int.le_refl _⟩,fun h => (by cases h),i4,fun a b ha hb => i5 a b ?_ ?_⟩
    ·rw [ho,if_neg (by decide)]
     have ha:e.at_≤a:=ha
     omega
    ·rw [ho,if_neg (by decide)]
     have hb:e.at_≤b:=hb
     omega
  ·by_cases k3:e.kind=3
   ·have ho:=h3 k3
    obtain ⟨o1,o2⟩:=i2 ho
    refine ⟨-1,fun a => ?_,?_⟩
    ·rw [X1,if_neg hc]
     show (if e.kind=2 then e.at_ else if e.kind=3 then -1 else _)=_
     rw [if_neg k2,if_pos k3]
    ·have e2:(fun a => (X1 d q a (F a) e).1.rest)=fun a => (F a).1.rest+max 0 (min e.at_ a - s):=by
      funext a; rw [X1,if_neg hc]
      show (if e.kind=3 then (F a).1.rest+max 0 (min e.at_ a - (F a).2) else (F a).1.rest)=_
      rw [if_pos k3,hF]
     rw [e2,k3,ho]
     rw [ho,if_pos rfl] at i5
     refine ⟨by show 0≤e.at_; omega,fun h => (by cases h),fun _ => rfl,fun a b hab => ?_,fun a b ha hb => ?_⟩
     ·have j1:=i4 a b hab
      have j2:=i4 a s
      have j3:=i5 s b
      have j4:=i5 a b
      omega
     ·have ha:e.at_≤a:=ha
      have hb:e.at_≤b:=hb
      have:=i5 a b (by omega) (by omega)
      omega
   ·refine ⟨s,fun a => ?_,?_⟩
    ·rw [X1,if_neg hc]
     show (if e.kind=2 then e.at_ else if e.kind=3 then -1 else _)=_
     rw [if_neg k2,if_neg k3]; exact hF a
    ·have e2:(fun a => (X1 d q a (F a) e).1.rest)=fun a => (F a).1.rest:=by
      funext a; rw [X1,if_neg hc]
      show (if e.kind=3 then _ else (F a).1.rest)=_
      rw [if_neg k3]
     have e3:(e.kind == 2 || (st.2.1&&!(e.kind == 3)))=st.2.1:=by
      rw [beq_eq_false_iff_ne.2 k2,beq_eq_false_iff_ne.2 k3]; simp
     rw [e2,e3]
     refine ⟨by show 0≤e.at_; omega,fun h => ?_,i3,i4,fun a b ha hb => i5 a b ?_ ?_⟩
     ·have:=i2 h; exact ⟨this.1,by show s≤e.at_; omega⟩
     ·cases ho:st.2.1
      ·rw [if_neg (by decide)]
       have ha:(if st.2.1=true then s else e.at_)≤a:=ha
       rw [ho,if_neg (by decide)] at ha; omega
      ·rw [if_pos rfl]
       have ha:(if st.2.1=true then s else e.at_)≤a:=ha
       rw [ho,if_pos rfl] at ha; exact ha
     ·cases ho:st.2.1
      ·rw [if_neg (by decide)]
       have hb:(if st.2.1=true then s else e.at_)≤b:=hb
       rw [ho,if_neg (by decide)] at hb; omega
      ·rw [if_pos rfl]
       have hb:(if st.2.1=true then s else e.at_)≤b:=hb
       rw [ho,if_pos rfl] at hb; exact hb
theorem Zcw {C:List Chx} {G:List Ent} {e:Ent} (h:Sd C G e=0):Az e=true∧(Sb C G e).1≤e.at_∧e.at_≤1073741824∧(e.kind=2→(Sb C G e).2.1=false)∧(e.kind=3→(Sb C G e).2.1=true):=by
 rw [Sd] at h
 split at h
 ·cases h
 ·rename_i h1
  split at h
  ·cases h
  ·split at h
   ·cases h
   ·rename_i h2
    split at h
    ·cases h
    ·rename_i h3
     refine ⟨by simpa using h1,by omega,by omega,fun k => ?_,fun k => ?_⟩
     ·cases ho:(Sb C G e).2.1 with
      | false => rfl
      | true => exact absurd (by rw [ho,k]; simp) h3
     ·cases ho:(Sb C G e).2.1 with
      | true => rfl
      | false => exact absurd (by rw [ho,k]; simp) h3
theorem Fy {b:List UInt8} {r:Rec} {d:List UInt8} {s t:Nat} (h:Xw b=some (r,d,s,t)):recB r=true:=by
 unfold Xw at h
 cases hp:X2 b with
 | none => rw [hp] at h; cases h
 | some p =>
  rw [hp] at h
  have h:(if recB (Vk p.1) then some (Vk p.1,sha p.1,p.2.1,p.2.2) else none)=some (r,d,s,t):=h
  by_cases hb:recB (Vk p.1)=true
  ·rw [if_pos hb] at h; cases h; exact hb
  ·rw [if_neg hb] at h; cases h
theorem Qg {r:Rec} (h:recB r=true):0≤r.min_∧r.min_≤1073741824∧0≤r.serial∧r.serial≤2147483647∧0≤r.stop∧r.stop≤31:=by
 simp only [recB,inB,Bool.and_eq_true,decide_eq_true_eq] at h
 exact ⟨h.1.2.1,h.1.2.2,h.2.1,h.2.2,h.1.1.1.1.1.1.1,h.1.1.1.1.1.1.2⟩
theorem Zkw (C:List Chx) (d q:Int):0≤(Ua C d q).1.min_:=by
 rw [Ua]
 split
 ·exact Int.le_refl _
 ·cases h:Xw ((Xd C d).getD q.toNat noB).b with
  | none => exact Int.le_refl _
  | some p =>
   obtain ⟨r,h',s,t⟩:=p
   exact (Qg (Fy h)).1
theorem Bb {x y:Int} (h:x≤y):x.tdiv 20160≤y.tdiv 20160:=by
 rcases Int.le_total 0 x with hx | hx
 ·rw [Int.tdiv_eq_ediv_of_nonneg hx,Int.tdiv_eq_ediv_of_nonneg (by omega)]; omega
 ·obtain ⟨n,rfl⟩:∃ n:Nat,x=-(n:Int):=⟨(-x).toNat,by omega⟩
  rw [Int.neg_tdiv,Int.tdiv_eq_ediv_of_nonneg (by omega)]
  rcases Int.le_total 0 y with hy | hy
  ·rw [Int.tdiv_eq_ediv_of_nonneg hy]; omega
  ·obtain ⟨m,rfl⟩:∃ m:Nat,y=-(m:Int):=⟨(-y).toNat,by omega⟩
   rw [Int.neg_tdiv,Int.tdiv_eq_ediv_of_nonneg (by omega)]; omega
theorem Zj0 {d q:Int}:∀ (G:List Ent) (st:Int × Bool × Bool),0≤st.1→(∀ e ∈ G,0≤e.at_)→0≤(G.foldl (Dd d q) st).1
 | [],st,h,_ => h
 | e::G,st,h,hG => by
  rw [List.foldl_cons]
  refine Zj0 G _ ?_ fun x hx => hG x (by simp [hx])
  unfold Dd
  split
  ·exact h
  ·exact hG e (by simp)
theorem Zmz {C:List Chx}:∀ (E G M:List Ent),Xa C G E=some M→(∀ e ∈ G,0≤e.at_)→∀ e ∈ E,(0≤e.at_∧e.at_≤1073741824)∧(0≤e.amount∧e.amount≤1073741824)
 | [],G,M,h,hG,e,he => by cases he
 | x::E,G,M,h,hG,e,he => by
  rw [Xa] at h
  by_cases hx:Sd C G x=0
  ·rw [if_pos hx] at h
   obtain ⟨z0,z1,z2,_⟩:=Zcw hx
   have z3:0≤(Sb C G x).1:=Zj0 G _ (Zkw C _ _) hG
   have h0:0≤x.at_:=by omega
   rcases List.mem_cons.1 he with rfl | he
   ·refine ⟨⟨h0,z2⟩,?_⟩
    simp only [Az,Bool.and_eq_true] at z0
    have:=z0.1.1.1.1
    split at this
    ·simp only [Bool.and_eq_true,decide_eq_true_eq] at this; omega
    ·have:e.amount=0:=by simpa using this
     omega
   ·exact Zmz E _ M h (fun y hy => by
     rcases List.mem_append.1 hy with hy | hy
     ·exact hG y hy
     ·rw [List.mem_singleton.1 hy]; exact h0) e he
  ·rw [if_neg hx] at h; cases h
/-! ### Order -/
/-! ### The two laws -/
section
variable {K:List Key} {R:List Rvk} {P:List Prd} {S:List Sv} {N:List Cn} {C:List Chx} {E:List Ent} {pen:Int}
theorem Zl7 {mo:List Rvk} {X:List Sgt} {r:Rec} {b:List UInt8} (ha:revB R=true) (hm:revB (mrg R mo)=true) (h:Je K (mrg R mo) P S N X r b=true):Je K R P S N X r b=true:=by
 simp only [Je,Bool.and_eq_true,Bool.not_eq_true',decide_eq_true_eq] at h ⊢
 obtain ⟨⟨⟨h1,h2⟩,h3⟩,h4⟩:=h
 refine ⟨⟨⟨h1,?_⟩,h3⟩,h4⟩
 rw [hm,Bool.true_and] at h2
 rw [ha,Bool.true_and]
 cases hg:D7 R (kck K b r.min_).1.serial r.min_ with
 | false => rfl
 | true => rw [Zl8 hg] at h2; cases h2
theorem Zpe {mo:List Rvk} {now:Int} (ha:revB R=true) (hm:revB (mrg R mo)=true) (p:List Rec × Rec) (h:Zjl K (mrg R mo) P S N C E pen now p=2):Zjl K R P S N C E pen now p=2:=by
 rw [Zjl,Zbf] at h ⊢
 split at h
 ·cases h
 ·rename_i h1
  rw [if_neg h1]
  split at h
  ·cases h
  ·rename_i h2
   rw [if_neg h2]
   split at h
   ·rename_i h3
    rw [if_pos]
    rw [Gq] at h3 ⊢
    split at h3
    ·cases h3
    ·rw [List.any_eq_true] at h3 ⊢
     obtain ⟨y,hy,hg⟩:=h3
     exact ⟨y,hy,Zl7 ha hm hg⟩
   ·split at h
    ·cases h
    ·split at h <;> cases h
end
def rowN (cs:List AV) (n:Nat):AV:=if n=0 then nilS else .view cs n false
theorem Zbp {sz n:Nat} {cs:List AV} (h:cs.length=n*sz) (G:AH):Sl sz G (rowN cs n) cs n:=by
 unfold rowN
 split
 ·rename_i h0
  subst h0
  obtain rfl:cs=[]:=List.eq_nil_of_length_eq_zero (by omega)
  exact .nil
 ·exact .view h false
def NRow (K:AH) (lo sz:Nat) (x:AV) (vs:List AV) (n:Nat):Prop :=
 (x=nilS∧vs=[]∧n=0)∨∃ q L cs,x=.row q 0 n L∧lo≤q∧q<K.length∧obj K q=⟨cs,sz,true⟩∧L=cs.length∧vs.length=n*sz∧n*sz≤L∧0<n∧cs.take (n*sz)=vs
theorem GRs.nrow {K:AH} {lo sz n:Nat} {x:AV} {vs:List AV} (h:GRs sz K x vs n) (h0:n=0→x=nilS) (hq:∀ q,rid x=some q→lo≤q):NRow K lo sz x vs n:=by
 rcases h with ⟨h1,h2,h3⟩ | ⟨q,L,cs,rfl,h1,h2,h3,h4,h5,h6⟩
 ·exact .inl ⟨h1,h2,h3⟩
 ·refine .inr ⟨q,L,cs,rfl,hq q rfl,h1,h2,h3,h4,h5,?_,h6⟩
  rcases Nat.eq_zero_or_pos n with h | h
  ·have:=h0 h; cases this
  ·exact h
theorem Nw (ren:Nat→Option Nat) (H:AH):∀ a b:List AV,lowL ren H (a++b)=lowL ren H a++lowL ren H b
 | [],b => rfl
 | x::a,b => congrArg (low ren H x::·) (Nw ren H a b)
mutual
theorem Zqm (ren:Nat→Option Nat) (H:AH):∀ (v:AV),v.pure=true→low ren H v=v
 | .lit v,_ => rfl
 | .view cs n full,_ => rfl
 | .fn f a b,h => by
  simp only [AV.pure,Bool.and_eq_true] at h
  rw [low,S3 ren H a h.1,S3 ren H b h.2]
 | .agg cs,h => by rw [low,S3 ren H cs h]
 | .tup cs,h => by rw [low,S3 ren H cs h]
 | .ptr ..,h | .rptr ..,h | .vptr ..,h | .row ..,h | .may ..,h | .anyb,h | .junk,h => by cases h
theorem S3 (ren:Nat→Option Nat) (H:AH):∀ (l:List AV),Ye l=true→lowL ren H l=l
 | [],_ => rfl
 | a::r,h => by
  simp only [Ye,Bool.and_eq_true] at h
  rw [lowL,Zqm ren H a h.1,S3 ren H r h.2]
end
theorem Nv (ren:Nat→Option Nat) (H:AH):∀ (n:Nat) (a:List AV),lowL ren H (a.take n)=(lowL ren H a).take n
 | 0,a => by simp [lowL]
 | n+1,[] => rfl
 | n+1,x::a => congrArg (low ren H x::·) (Nv ren H n a)
section
variable {H G:AH} {fc:List AV} {x3 x2:AV} {xs Lv Sc:List AV} {m k sz:Nat}
theorem Df {ren:Nat→Option Nat} {K:AH} {q n L sz:Nat} {cs vs:List AV} (h0:ren q=none) (ho:obj K q=⟨cs,sz,true⟩) (hz:0<sz) (hL:L=cs.length) (hn:n*sz≤L) (ht:cs.take (n*sz)=vs) (hp:Ye vs=true):low ren K (.row q 0 n L)=.view vs n false:=by
 simp only [low,h0,Ri,ho,if_neg (show ¬ sz=0 by omega),List.drop_zero,ht]
 rw [if_pos ⟨hL,by omega,hp⟩]
theorem Zhc {k0:Nat} (hV:obj G k0=⟨fc++[x3,x2],0,true⟩) (hk0:k0<G.length) (hfc:∀ ren K,lowL ren K fc=fc) (hz:0<sz) (hp3:Ye Lv=true) (hp2:Ye Sc=true)
  (h3:NRow (H++G) H.length 1 x3 xs m) (h2:NRow (H++G) H.length sz x2 Sc k)
  (hne:∀ q,rid x3=some q→rid x2≠some q) (hn3:rid x3≠some (H.length+k0)) (hn2:rid x2≠some (H.length+k0)) (hm0:m=0→x2=nilS)
  (hin:∀ ren,(∀ q,H.length≤q→q≠H.length+k0→rid x3≠some q→rid x2≠some q→ren q=none)→lowL ren (H++G) xs=Lv) :
  Leave H (.ptr (H.length+k0) 0) (H++G) (.ptr H.length 0) (H++[⟨fc++[rowN Lv m,rowN Sc k],0,true⟩]):=by
 have r0:∀ (k:Nat) (ks:List Nat),renk H.length (k::ks) (H.length+k)=some H.length:=fun k ks => by
  rw [renk,if_neg (by omega),Nat.add_sub_cancel_left]; simp [List.idxOf?_cons]
 have hcl:∀ (ks:List Nat) (K:AH) (i:Nat) (o':AObj),H[i]? = some o'→(H[i]? = some o'∧H[i]? = some o')∨∃ o,H[i]? = some o∧o'=Wl (renk H.length ks) K o:=fun _ _ i o' h => .inl ⟨h,h⟩
 have last:∀ (k0:Nat) (y3 y2:AV) (G:AH),obj G k0=⟨fc++[y3,y2],0,true⟩→k0<G.length→low (renk H.length [k0]) (H++G) y3=rowN Lv m→low (renk H.length [k0]) (H++G) y2=rowN Sc k →
   Leave H (.ptr (H.length+k0) 0) (H++G) (.ptr H.length 0) (H++[⟨fc++[rowN Lv m,rowN Sc k],0,true⟩]):=fun k0 y3 y2 G hV hk0 e3 e2 => by
  have:=S4 (H:=H) (H1:=H) (H1':=H) (G:=G) [k0] (by simp) (by simp [hk0]) rfl rfl (hcl _ _) (.ptr (H.length+k0) 0)
  simp only [low,r0,List.map_cons,List.map_nil,Wl,hV] at this
  simp only [Nw,hfc,lowL,e3,e2] at this
  exact this
 rcases h3 with ⟨rfl,e1,rfl⟩ | ⟨q3,L3,c3,rfl,g1,g2,g3,g4,g5,g6,g7,g8⟩
 ·obtain rfl:=hm0 rfl
  rcases h2 with ⟨_,rfl,rfl⟩ | ⟨q2,L2,c2,h,_⟩
  ·exact last _ _ _ _ hV hk0 rfl rfl
  ·cases h
 ·rw [Nat.mul_one] at g6 g8
  have n3:∀ {ren:Nat→Option Nat} {K:AH} {q L:Nat} {c:List AV},ren q=none→obj K q=⟨c,1,true⟩→L=c.length→m≤L→c.take m=Lv→low ren K (.row q 0 m L)=rowN Lv m:=fun h0 ho hL hn ht => by
   rw [Df (sz:=1) h0 ho (by decide) hL (by omega) (by rw [Nat.mul_one]; exact ht) hp3,rowN,if_neg (by omega)]
  obtain ⟨p,rfl⟩:∃ p,q3=H.length+p:=⟨q3 - H.length,by omega⟩
  have hpk:k0≠p:=fun h => hn3 (by rw [h]; rfl)
  have oq:obj G p=⟨c3,1,true⟩:=by rw [← g3,Yu]
  have hlt:p<G.length:=by rw [List.length_append] at g2; omega
  rcases h2 with ⟨rfl,rfl,rfl⟩ | ⟨q2,L2,c2,rfl,f1,f2,f3,f4,f5,f6,f7,f8⟩
  ·have rq:renk H.length [k0,p] (H.length+p)=some (H.length+1):=by
    rw [renk,if_neg (by omega),Nat.add_sub_cancel_left]
    simp [List.idxOf?_cons,hpk]
   have rn:∀ q,H.length≤q→q≠H.length+k0→q≠H.length+p→renk H.length [k0,p] q=none:=fun q h1 h2 h3 => by
    rw [renk,if_neg (by omega)]
    have a1:¬ k0=q - H.length:=by omega
    have a2:¬ p=q - H.length:=by omega
    simp [List.idxOf?_cons,a1,a2]
   have hi:=hin (renk H.length [k0,p]) fun q h0 h1 h2 h3 => rn q h0 h1 fun h => h2 (by rw [h]; rfl)
   have st:=S4 (H:=H) (H1:=H) (H1':=H) (G:=G) [k0,p] (by simp [hpk]) (by
    intro k hk
    simp only [List.mem_cons,List.not_mem_nil,or_false] at hk
    rcases hk with rfl | rfl
    ·exact hk0
    ·exact hlt) rfl rfl (hcl _ _) (.ptr (H.length+k0) 0)
   simp only [low,r0,List.map_cons,List.map_nil,oq,Wl,hV] at st
   simp only [Nw,hfc,lowL,low,rq] at st
   refine st.trans (last 0 _ _ _ rfl (by simp) ?_ rfl)
   refine n3 (by rw [renk,if_neg (by omega),Nat.add_sub_cancel_left]; rfl) (Yu _ _ 1) (by rw [Xo]; exact g4) (by omega) ?_
   rw [← Nv,g8,hi]
  ·have hq:H.length+p≠q2:=fun h => hne _ rfl (by rw [h]; rfl)
   obtain ⟨r,rfl⟩:∃ r,q2=H.length+r:=⟨q2 - H.length,by omega⟩
   have hrk:k0≠r:=fun h => hn2 (by rw [h]; rfl)
   have hpr:p≠r:=fun h => hq (by rw [h])
   have oq2:obj G r=⟨c2,sz,true⟩:=by rw [← f3,Yu]
   have hlt2:r<G.length:=by rw [List.length_append] at f2; omega
   have rq:renk H.length [k0,p,r] (H.length+p)=some (H.length+1):=by
    rw [renk,if_neg (by omega),Nat.add_sub_cancel_left]
    simp [List.idxOf?_cons,hpk]
   have rr:renk H.length [k0,p,r] (H.length+r)=some (H.length+2):=by
    rw [renk,if_neg (by omega),Nat.add_sub_cancel_left]
    simp [List.idxOf?_cons,hpr,hrk]
   have rn:∀ q,H.length≤q→q≠H.length+k0→q≠H.length+p→q≠H.length+r→renk H.length [k0,p,r] q=none:=fun q h0 h1 h2 h3 => by
    rw [renk,if_neg (by omega)]
    have a1:¬ k0=q - H.length:=by omega
    have a2:¬ p=q - H.length:=by omega
    have a3:¬ r=q - H.length:=by omega
    simp [List.idxOf?_cons,a1,a2,a3]
   have hi:=hin (renk H.length [k0,p,r]) fun q h0 h1 h2 h3 => rn q h0 h1 (fun h => h2 (by rw [h]; rfl)) (fun h => h3 (by rw [h]; rfl))
   have st:=S4 (H:=H) (H1:=H) (H1':=H) (G:=G) [k0,p,r] (by simp [hpr,hpk,hrk]) (by
    intro k hk
    simp only [List.mem_cons,List.not_mem_nil,or_false] at hk
    rcases hk with rfl | rfl | rfl
    ·exact hk0
    ·exact hlt
    ·exact hlt2) rfl rfl (hcl _ _) (.ptr (H.length+k0) 0)
   simp only [low,r0,List.map_cons,List.map_nil,oq,oq2,Wl,hV] at st
   simp only [Nw,hfc,lowL,low,rq,rr] at st
   refine st.trans (last 0 _ _ _ rfl (by simp) ?_ ?_)
   ·refine n3 (by rw [renk,if_neg (by omega),Nat.add_sub_cancel_left]; rfl) (Yu _ _ 1) (by rw [Xo]; exact g4) (by omega) ?_
    rw [← Nv,g8]
    exact hi
   ·have e2:∀ K,lowL (renk H.length [k0,p,r]) K (c2.take (k*sz))=Sc:=fun K => by
     rw [f8]
     exact S3 _ _ _ hp2
    rw [Df (sz:=sz) (vs:=Sc) (by rw [renk,if_neg (by omega),Nat.add_sub_cancel_left]; rfl) (Yu _ _ 2) hz (by rw [Xo]; exact f4) f6 (by rw [← Nv]; exact e2 _) hp2,rowN,if_neg (by omega)]
end
set_option maxRecDepth 10000
def Sgt.ok (s:Sgt):Prop:=s.r.vok∧(0≤s.r.min_∧s.r.min_≤1073741824)
def noSg:Sgt:=⟨noRec,noTk⟩
def scs (X:List Sgt):List AV:=X.flatMap Sgt.cells
def sgtZ:List Value:=recZ++[.int .i64 0,.int .i64 0,.int .i64 0,.int .i64 0,.int .i64 0]
theorem Zjs:([.int .i64 0,.int .i64 0,.int .i64 0,.int .i64 0,.int .i64 0,.int .i64 0,.int .i64 0,.int .i64 0,.int .u8 0,.int .u8 0,.int .u8 0,.int .u8 0,.int .u8 0,.int .u8 0,.int .u8 0,.int .u8 0,.int .u8 0,.int .u8 0,.int .u8 0,.int .u8 0,.int .u8 0,.int .u8 0,.int .u8 0,.int .u8 0,.int .u8 0,.int .u8 0,.int .u8 0,.int .u8 0,.int .u8 0,.int .u8 0,.int .u8 0,.int .u8 0,.int .u8 0,.int .u8 0,.int .u8 0,.int .u8 0,.int .u8 0,.int .u8 0,.int .u8 0,.int .u8 0,.slice none 0 0,.int .i64 0,.int .i64 0,.int .i64 0,.int .i64 0,.int .i64 0]:List Value)=sgtZ:=rfl
theorem Zef:sgtZ.map AV.lit=noSg.cells:=rfl
theorem Zpk:sgtZ.length=46:=rfl
theorem Lp:noSg.ok:=⟨⟨Zt,.inl rfl⟩,by decide,by decide⟩
theorem Zem {r:Rec} (i:Nat) (h:i<8) (l:List AV):(r.cells++l).getD i .junk=r.nums.getD i .junk:=by
 rw [Rec.cells,List.append_assoc,List.getD_eq_getElem?_getD,List.getElem?_append_left (by exact h),List.getD_eq_getElem?_getD]
structure SgF (s:Sgt):Prop where
 len:s.cells.length=46
 one:s.cells.all AV.one=true
 tk:s.cells.take 46=s.cells
 r:s.cells.take 41=s.r.cells
 t:(s.cells.drop 41).take 5=s.t.cells
 g2:s.cells.getD 2 .junk=I s.r.min_
 g4:s.cells.getD 4 .junk=I s.r.stop
 g41:s.cells.getD 41 .junk=I s.t.serial
 spl:∀ u:Sgt,u.ok→splice u.cells 0 s.cells=s.cells
theorem Sj {s:Sgt} (h:s.ok):s.cells.length=46:=by
 rw [Sgt.cells,List.length_append,Xn h.1.1]; rfl
theorem sgf {s:Sgt} (h:s.ok):SgF s where
 len:=Sj h
 one:=by rw [Sgt.cells,List.all_append,Ir h.1.1]; rfl
 tk:=List.take_of_length_le (by rw [Sj h]; exact Nat.le_refl _)
 r:=List.take_left' (Xn h.1.1)
 t:=by rw [Sgt.cells,List.drop_left' (Xn h.1.1)]; rfl
 g2:=Zem 2 (by decide) _
 g4:=Zem 4 (by decide) _
 g41:=by
  rw [Sgt.cells,List.getD_eq_getElem?_getD,List.getElem?_append_right (by rw [Xn h.1.1]; exact Nat.le_refl _),Xn h.1.1]; rfl
 spl:=fun u hu => Zy (by rw [Sj h,Sj hu])
theorem Zvz {X:List Sgt} (h:∀ s ∈ X,s.ok):(scs X).length=X.length*46:=by
 induction X with
 | nil => rfl
 | cons a X ih =>
  show (a.cells++scs X).length=_
  rw [List.length_append,ih fun s hs => h s (by simp [hs]),Sj (h a (by simp)),List.length_cons]; omega
theorem Zxt {X:List Sgt} (h:∀ s ∈ X,s.ok) {i:Nat} (hi:i<X.length):elt (scs X) 46 i=(X.getD i noSg).cells:=by
 induction X generalizing i with
 | nil => cases hi
 | cons a X ih =>
  have ha:=Sj (h a (by simp))
  have e:scs (a::X)=a.cells++scs X:=rfl
  rw [e]
  cases i with
  | zero => rw [elt,Nat.zero_mul,List.drop_zero,List.take_left' ha]; rfl
  | succ i =>
   have:=ih (fun s hs => h s (by simp [hs])) (i:=i) (by simpa using hi)
   rw [elt] at this ⊢
   rw [show (i+1)*46=a.cells.length+i*46 by rw [ha]; omega,← List.drop_drop,List.drop_left]
   exact this
structure VWH (H:AH) (p:Nat) (dv kv rv pv sv cv:AV) (pen:Int) (ch en lv xv:AV):Prop where
 lt:p<H.length
 o:obj H p=⟨fct dv kv rv pv sv cv pen ch en++[lv,xv],0,true⟩
section
variable {H:AH} {p:Nat} {dv kv rv pv sv cv ch en lv xv:AV} {pen:Int} {D K:List Key} {R:List Rvk} {P:List Prd} {S:List Sv} {N:List Cn} {C:List Chx} {E:List Ent} {X:List Sgt}
theorem VWH.ob (h:VWH H p dv kv rv pv sv cv pen ch en lv xv) (G:AH):obj (H++G) p=⟨fct dv kv rv pv sv cv pen ch en++[lv,xv],0,true⟩:=by rw [Yf _ _ h.lt]; exact h.o
theorem VWH.app (h:VWH H p dv kv rv pv sv cv pen ch en lv xv) (G:AH):VWH (H++G) p dv kv rv pv sv cv pen ch en lv xv:=⟨by rw [List.length_append]; have:=h.lt; omega,h.ob G⟩
theorem Zvp {a b:Rec} (ha:a.ok) (hb:b.ok):Called Tryz.prog F.cases_ahead [.agg a.cells,.agg b.cells] H (Bl (Zon a b)) H:=by
 have a1:=Zp ha
 have b1:=Zp hb
 refine Cu ?_
 simp only [Oc,go_sem,a1.1,a1.2.1,b1.1,b1.2.1,Is,Zen,Bv,Qd]
 rw [Zon]
 refine ⟨fun h => ?_,fun h => ⟨fun h2 => ?_,fun h2 => ?_⟩⟩
 ·have h:a.min_≠b.min_:=by simpa using h
  rw [if_pos h]; exact Zc rfl
 ·have h:¬ a.min_≠b.min_:=by simpa using h
  have h2:a.dev≠b.dev:=by simpa using h2
  rw [if_neg h,if_pos h2]; exact Zc rfl
 ·have h:¬ a.min_≠b.min_:=by simpa using h
  have h2:¬ a.dev≠b.dev:=by simpa using h2
  rw [if_neg h,if_neg h2]; exact Zc rfl
theorem Zvk (hv:FV dv kv rv pv sv cv ch en) (hw:VWH H p dv kv rv pv sv cv pen ch en lv xv) (hx:∀ G,Sl 46 G xv (scs X) X.length) (hX:∀ s ∈ X,s.ok) (hXn:X.length≤100000)
  (hs:∀ G,Sl 5 G sv (svcs S) S.length) (hS:∀ p ∈ S,p.ok∧p.few) (hc:∀ G,Sl 5 G cv (cncs N) N.length) {r:Rec} (hr:r.ok) (hrb:0≤r.min_∧r.min_≤1073741824) (n:Int) :
  Called Tryz.prog F.cases_view_doubtful [.ptr p 0,.agg r.cells,I n] H (Bl (Gn S N X r n)) H:=by
 have r1:=Zp hr
 have xvw:=Y4 hx
 have o1:=hw.ob
 have hp:=hw.lt
 have no1:=sgf Lp
 simp only [fct] at o1
 refine Q8 ?_
 simp only [Vt,Zjs]
 simp only [go_sem,r1.1,r1.2.1,Is,o1,xvw.s,(hx []).lenT,(hx []).n]
 refine ⟨by omega,?_⟩
 refine Z1 _ (fun (s:Nat × AH) => ([(0,.ptr p 0),(2,I n),(4,.ptr H.length 0),(14,xv),(15,I X.length),(16,I s.1)],H++(⟨r.cells,0,true⟩::s.2))) (fun s => s.1≤X.length∧Gn S N X r n=Gn S N (X.drop s.1) r n) (fun s => X.length - s.1) (0,[]) ⟨Nat.zero_le _,rfl⟩ rfl ?_
 rintro ⟨i,G⟩ ⟨hi,hd⟩
 dsimp only at hi hd
 rw [hd]
 simp only [go_sem]
 refine ⟨fun hh => ?_,fun hh => ?_⟩
 ·have hlt:i<X.length:=by omega
  have hso:=hX _ (Zl noSg hlt)
  have dn:X.drop i=X.getD i noSg::X.drop (i+1):=Xr hlt noSg
  have ld:∀ K,Yc true 46 K (Z5 46 (I (i:Int)) xv)=.agg (X.getD i noSg).cells:=fun K => by
   rw [(hx K).ldA .i64 hlt (by decide),Zxt hX hlt]
  have lk:∀ K,Z6 46 K (Z5 46 (I (i:Int)) xv)=True:=fun K => (hx K).ldOk .i64 hlt (Nat.le_refl _)
  rw [dn]
  generalize X.getD i noSg=s at *
  have s1:=sgf hso
  have s2:=s1.spl _ Lp
  have w1:IntKind.i64.wrap ((i:Int)+1)=((i+1:Nat):Int):=by rw [w64 _ (by omega) (by omega)]; omega
  have w2:IntKind.i64.wrap (r.min_ - s.r.min_)=r.min_ - s.r.min_:=w64 _ (by have:=hso.2; omega) (by have:=hso.2; omega)
  have sn1:=(Y4 hs).s
  have cn1:=(Y4 hc).s
  have tf:=fun G => Zfw (H:=G) (s:=s.r.stop) (m:=s.r.min_) (x:=r.stop) (till:=r.min_) (hs G) (hc G) hS
  simp only [net] at tf
  simp only [go_sem,(hx []).idx,ld,lk,Zef,no1.len,no1.one,s1.len,s1.one,s2,s1.g41]
  simp only [s1.r,r1.2.2.1]
  refine ⟨⟨by omega,by omega⟩,fun _ => ⟨by omega,by omega⟩,Zq (fun _ => Zvp hso.1.1 hr) ?_⟩
  simp only [go_sem,Qd,r1.1,s1.len,s1.g2,w2]
  have e1:Gn S N (s::X.drop (i+1)) r n=(Eo S N r n s || Gn S N (X.drop (i+1)) r n):=rfl
  rw [e1]
  refine ⟨fun _ => by omega,fun hb => ?_,fun hb => ?_⟩
  ·have e2:Eo S N r n s=false:=by
    simp only [Bool.or_eq_true,bne_iff_ne,Bool.not_eq_true',decide_eq_true_eq] at hb
    rw [Eo]
    rcases hb with (hb | hb) | hb
    ·rw [beq_eq_false_iff_ne.2 hb]; rfl
    ·rw [hb,Bool.and_false]; rfl
    ·rw [decide_eq_false (by omega),Bool.and_false]; rfl
   rw [e2,Bool.false_or]
   exact ⟨(i+1,_),by rw [w1],rfl,⟨hlt,rfl⟩,by show X.length - (i+1)<X.length - i; omega⟩
  ·have e2:Eo S N r n s = !Zxp S N s.r r:=by
    simp only [Bool.or_eq_false_iff,bne_eq_false_iff_eq,Bool.not_eq_false',decide_eq_false_iff_not] at hb
    rw [Eo,hb.1.1,hb.1.2,decide_eq_true (by omega),beq_self_eq_true]; rfl
   rw [e2]
   simp only [o1,s1.g4,Ztv,go_sem]
   refine ⟨by omega,by omega,by omega,Za (tf _) (fun _ => rfl) ?_⟩
   rw [Zxp,Zxo]
   cases hf:Fa S N s.r.stop s.r.min_ r.stop r.min_
   ·rw [if_neg (by decide)]
    simp only [go_sem]
    exact Zc rfl
   ·rw [if_pos rfl]
    generalize (Zcy S N s.r.stop s.r.min_ r.stop r.min_).isSome=eb
    simp only [go_sem]
    refine ⟨fun h => ?_,fun h => ?_⟩
    ·rw [h]; exact Zc rfl
    ·rw [h]
     exact ⟨(i+1,_),by rw [w1],rfl,⟨hlt,rfl⟩,by show X.length - (i+1)<X.length - i; omega⟩
 ·have hi2:i=X.length:=by omega
  subst hi2
  rw [List.drop_length]
  exact Zc rfl
theorem Z0m (h:RH dv kv rv pv sv cv D K R P S N) (hch:Vw ch) (hen:Vw en) (hw:VWH H p dv kv rv pv sv cv pen ch en lv xv) (hx:∀ G,Sl 46 G xv (scs X) X.length) (hX:∀ s ∈ X,s.ok) (hXn:X.length≤100000)
  {r:Rec} (hr:r.ok) (hrb:0≤r.min_∧r.min_≤1073741824) {y:AV} {b:List UInt8} (hy:∀ G,Sl 1 G y (bs b) b.length) (hb:b.length≤100000) :
  Called Tryz.prog F.cases_view_good [.ptr p 0,.agg r.cells,y] H (Bl (Je K R P S N X r b)) H:=by
 have hv:=h.fv hch hen
 have r1:=Zp hr
 have o1:=hw.ob
 have hp:=hw.lt
 have yv:=Y4 hy
 have tc:=fun G => Zd6 (H:=G) (h.k G) h.kk h.kn (hy G) hb r.min_
 simp only [fct] at o1
 refine Kf ?_
 simp only [T9,e5]
 simp only [go_sem,r1.1,r1.2.1,Is,Qd,o1,hv.kv.s,hv.rv.s,hv.pv.s,yv.s]
 refine ⟨by omega,Za (tc _) (fun _ => rfl) ?_⟩
 rw [Je]
 show iwp _ _ _ (retQ _ _ (Bl (((decide ((kck K b r.min_).2=0)&&_)&&_)&&_)) _) _ _
 have ek:(if Rm K=true then Rn K b r.min_ else (noTk,1))=kck K b r.min_:=rfl
 rw [ek]
 generalize kck K b r.min_=c
 obtain ⟨t,e⟩:=c
 dsimp only
 have td:=fun G => Zvk (H:=H++G) (pen:=pen) (lv:=lv) hv (hw.app G) hx hX hXn h.s h.sk h.c hr hrb t.serial
 rcases Z2p e with ⟨rfl,en⟩ | ⟨hn0,en⟩
 ·rw [en]
  simp only [go_sem,e5,Zdy,Zdz,Zdx,M7,hv.kv.s,hv.rv.s,hv.pv.s,r1.1,Qd]
  refine Zq (fun _ => t_Is (h.r _) h.rn t.serial r.min_) ?_
  generalize (revB R&&D7 R t.serial r.min_)=bI
  simp only [go_sem,hv.pv.s,M7,r1.1,Zkd,Qd]
  refine Zq (fun _ => Zpb (h.p _) h.pk h.pn t r.zone r.min_) ?_
  generalize Gp P t r.zone r.min_=bC
  simp only [go_sem,r1.1,r1.2.2.1]
  refine Zq (fun _ => td _) ?_
  generalize Gn S N X r t.serial=bD
  simp only [go_sem]
  exact Zc rfl
 ·rw [en]
  simp only [go_sem,e5,Zdy,Zdz,Zdx,M7,hv.kv.s,hv.rv.s,hv.pv.s,r1.1,Qd]
  refine Zq (v:=Bl false) (fun h => by cases h) ?_
  simp only [go_sem,hv.pv.s,M7,r1.1,Zkd,Qd]
  refine Zq (v:=Bl false) (fun h => by cases h) ?_
  simp only [go_sem,r1.1,r1.2.2.1]
  refine Zq (v:=Bl false) (fun h => by cases h) ?_
  simp only [go_sem]
  refine Zc ?_
  rw [decide_eq_false hn0]
  rfl
end
def entB (e:Ent):Prop:=(0≤e.at_∧e.at_≤1073741824)∧(0≤e.amount∧e.amount≤1073741824)
def Sto.cells (s:Sto) (x:AV):List AV:=[Bl s.up,Bl s.wr,I s.paid,x,I s.rest]
def Sto.v (s:Sto) (x:AV):AV:=.agg (s.cells x)
def shV (l:List Bt):AV:=.view (l.map Bt.e) l.length false
section
variable {H:AH} {p:Nat} {dv kv rv pv sv cv ch en lv xv:AV} {pen:Int} {E:List Ent}
theorem Za7 {d q now:Int} (hnow:0≤now∧now≤1073741824):∀ (E:List Ent) (s:Sto × Int) (m:Nat),(∀ e ∈ E,entB e)→(0≤s.1.paid∧s.1.paid≤m*1073741824)→(0≤s.1.rest∧s.1.rest≤m*1073741825)→(-1≤s.2∧s.2≤1073741824)→s.1.shown.length≤m →
  (0≤(E.foldl (X1 d q now) s).1.paid∧(E.foldl (X1 d q now) s).1.paid≤(m+E.length)*1073741824)∧(0≤(E.foldl (X1 d q now) s).1.rest∧(E.foldl (X1 d q now) s).1.rest≤(m+E.length)*1073741825)∧(-1≤(E.foldl (X1 d q now) s).2∧(E.foldl (X1 d q now) s).2≤1073741824)∧(E.foldl (X1 d q now) s).1.shown.length≤m+E.length
 | [],s,m,hE,h1,h2,h3,h4 => by simpa using ⟨h1,h2,h3,h4⟩
 | e::E,s,m,hE,h1,h2,h3,h4 => by
  obtain ⟨⟨e1,e2⟩,e3,e4⟩:=hE e (by simp)
  have key:(0≤(X1 d q now s e).1.paid∧(X1 d q now s e).1.paid≤((m+1:Nat):Int)*1073741824)∧(0≤(X1 d q now s e).1.rest∧(X1 d q now s e).1.rest≤((m+1:Nat):Int)*1073741825)∧(-1≤(X1 d q now s e).2∧(X1 d q now s e).2≤1073741824)∧(X1 d q now s e).1.shown.length≤m+1:=by
   rw [X1]
   split
   ·refine ⟨by omega,by omega,h3,by omega⟩
   ·refine ⟨by dsimp only; omega,?_,?_,?_⟩
    ·dsimp only; split <;> omega
    ·dsimp only; split
     ·omega
     ·split <;> omega
    ·dsimp only; split
     ·simp; omega
     ·omega
  have:=Za7 (d:=d) (q:=q) hnow E (X1 d q now s e) (m+1) (fun x hx => hE x (by simp [hx])) key.1 key.2.1 key.2.2.1 key.2.2.2
  rw [List.foldl_cons,List.length_cons]
  refine ⟨?_,?_,this.2.2.1,?_⟩
  ·have h:=this.1; push_cast at h ⊢; omega
  ·have h:=this.2.1; push_cast at h ⊢; omega
  ·have h:=this.2.2.2; omega
theorem Fr.mid (H:AH) (A B B':AObj) (K L:AH):Fr (H++A::B::K) (H++A::B'::(K++L)) (fun i => i=H.length+1):=by
 refine ⟨by simp,fun i hi hs => ?_⟩
 rcases Nat.lt_or_ge i H.length with h | h
 ·rw [Yf _ _ h,Yf _ _ h]
 ·obtain ⟨k,rfl⟩:∃ k,i=H.length+k:=⟨i - H.length,by omega⟩
  rw [Yu,Yu]
  match k with
  | 0 => rfl
  | 1 => exact absurd rfl hs
  | k+2 =>
   simp only [List.length_append,List.length_cons] at hi
   show obj (K++L) k=obj K k
   exact Yf _ _ (by omega)
theorem GR.step2 {K:AH} {A B B' o:AObj} {x v:AV} {vs:List AV} {b:Nat} (h:GR (H++A::B::K) x vs) (hq:∀ q,rid x=some q→H.length+2≤q) (hv:v.one=true) (hb:(vs.length+1)*b≤140737488355328) :
  Rs 1 b (H++A::B'::(K++[o])) x (.view [v] 1 true)∧∃ K',appH 1 (H++A::B'::(K++[o])) (.view [v] 1 true) x=H++A::B'::K'∧obj K' K.length=o∧K.length<K'.length ∧
   (∀ B'',GR (H++A::B''::K') (appV 1 (H++A::B'::(K++[o])) (.view [v] 1 true) x) (vs++[v]))∧∀ q,rid (appV 1 (H++A::B'::(K++[o])) (.view [v] 1 true) x)=some q→H.length+2≤q:=by
 have hne:∀ q,rid x=some q→¬ q=H.length+1:=fun q h1 h2 => by have:=hq q h1; omega
 have h':GR (H++A::B'::(K++[o])) x vs:=h.frame (Fr.mid H A B B' K [o]) hne
 have hlt:∀ q,rid x=some q→q<H.length+2+K.length:=fun q h1 => by
  have:=h.lt h1; simp only [List.length_append,List.length_cons] at this; omega
 obtain ⟨a1,a2,a3,a4⟩:=h'.app (b:=b) (s:=.view [v] 1 true) (v:=v) rfl rfl rfl hv hb
 have hq':∀ q,rid (appV 1 (H++A::B'::(K++[o])) (.view [v] 1 true) x)=some q→H.length+2≤q:=fun q h1 => by
  rcases a3 q h1 with h2 | h2
  ·exact hq q h2
  ·simp only [List.length_append,List.length_cons] at h2; omega
 have f1:Fr (H++[A,B']) (appH 1 (H++A::B'::(K++[o])) (.view [v] 1 true) x) (fun _ => False):=by
  have f0:Fr (H++[A,B']) (H++A::B'::(K++[o])) (fun _ => False):=by
   have:=Fr.app (H++[A,B']) (K++[o]) (fun _ => False)
   rw [List.append_assoc] at this; exact this
  refine (Fr.trans (f0.mono fun _ _ h => h.elim) a4).mono fun i hi h => ?_
  have:=hq i h
  simp only [List.length_append,List.length_cons,List.length_nil] at hi
  omega
 obtain ⟨K',e⟩:=f1.split fun _ h => h
 rw [List.append_assoc] at e
 have e:appH 1 (H++A::B'::(K++[o])) (.view [v] 1 true) x=H++A::B'::K':=e
 refine ⟨a1,K',e,?_,?_,fun B'' => ?_,hq'⟩
 ·have g:=a4.2 (H.length+(K.length+2)) (by simp) (fun h => by have:=hlt _ h; omega)
  rw [e,Yu,Yu] at g
  have g:obj K' K.length=obj (K++[o]) K.length:=g
  rw [g,Ym]; rfl
 ·have g:=a4.1
  rw [e] at g
  simp only [List.length_append,List.length_cons,List.length_nil] at g
  omega
 ·rw [e] at a2
  have f:=Fr.mid H A B' B'' K' []
  rw [List.append_nil] at f
  exact a2.frame f fun q h1 h2 => by have:=hq' q h1; omega
theorem Fr.two (H:AH) (A A' B B':AObj) (K:AH):Fr (H++A::B::K) (H++A'::B'::K) (fun i => i=H.length∨i=H.length+1):=by
 refine ⟨by simp,fun i hi hs => ?_⟩
 rcases Nat.lt_or_ge i H.length with h | h
 ·rw [Yf _ _ h,Yf _ _ h]
 ·obtain ⟨k,rfl⟩:∃ k,i=H.length+k:=⟨i - H.length,by omega⟩
  rw [Yu,Yu]
  match k with
  | 0 => exact absurd (.inl rfl) hs
  | 1 => exact absurd (.inr rfl) hs
  | k+2 => rfl
theorem GR.two {K:AH} {A A' B B':AObj} {x:AV} {vs:List AV} (h:GR (H++A::B::K) x vs) (hq:∀ q,rid x=some q→H.length+2≤q):GR (H++A'::B'::K) x vs :=
 h.frame (Fr.two H A A' B B' K) fun q h1 h2 => by have:=hq q h1; omega
theorem Z10 {a b:List AV} (h:LeL a b):Le (.agg a) (.agg b):=fun S y ⟨vs,h1,h2⟩ => ⟨vs,h1,h.rl h2⟩
theorem Za6 {d q now:Int}:∀ (E:List Ent) (s:Sto × Int) (y:Bt),y ∈ (E.foldl (X1 d q now) s).1.shown→y ∈ s.1.shown∨∃ e ∈ E,y=⟨e.b,e.s⟩
 | [],s,y,h => .inl h
 | e::E,s,y,h => by
  rw [List.foldl_cons] at h
  rcases Za6 E _ y h with h | ⟨x,hx,h⟩
  ·rw [X1] at h
   split at h
   ·exact .inl h
   ·dsimp only at h
    split at h
    ·rcases List.mem_append.1 h with h | h
     ·exact .inl h
     ·exact .inr ⟨e,by simp,List.mem_singleton.1 h⟩
    ·exact .inl h
  ·exact .inr ⟨x,by simp [hx],h⟩
theorem Zd0 {d q now:Int} {E:List Ent}:(Si d q now E).shown=(Ey d q now E).1.shown:=by
 rw [Si,Zo0]; split <;> rfl
theorem GR.mid {K:AH} {A B B':AObj} {x:AV} {vs:List AV} (h:GR (H++A::B::K) x vs) (hq:∀ q,rid x=some q→H.length+2≤q) (L:AH):GR (H++A::B'::(K++L)) x vs :=
 h.frame (Fr.mid H A B B' K L) fun q h1 h2 => by have:=hq q h1; omega
set_option maxHeartbeats 1000000 in
theorem Zzv (hv:FV dv kv rv pv sv cv ch en) (hw:VWH H p dv kv rv pv sv cv pen ch en lv xv) (he:∀ G,Sl 7 G en (ecs E) E.length) (hE:∀ e ∈ E,e.ok∧entB e) (hEn:E.length≤1000) (d q now:Int) (hnow:0≤now∧now≤1073741824) :
  Called Tryz.prog F.cases_view_tell [.ptr p 0,I d,I q,I now] H ((Si d q now E).v (shV (Si d q now E).shown)) H:=by
 have o1:=hw.ob
 have hp:=hw.lt
 simp only [fct] at o1
 refine Ke ?_
 simp only [T8]
 simp only [go_sem,o1,hv.en.s,(he []).lenT,(he []).n]
 refine ⟨by omega,?_⟩
 refine Z1 _ (fun (s:Nat × (Sto × Int) × AV × AH) => ([(1,I d),(2,I q),(3,I now),(8,.ptr H.length 0),(9,.ptr (H.length+1) 0),(10,I s.2.1.2),(17,en),(18,I E.length),(19,I s.1)],
  H++(⟨[Bl false,Bl false,I 0,nilS,I 0],0,true⟩::⟨s.2.1.1.cells s.2.2.1,0,true⟩::s.2.2.2)))
  (fun s => s.1≤E.length∧s.2.1=(E.take s.1).foldl (X1 d q now) (sto0,-1)∧GR (H++(⟨[Bl false,Bl false,I 0,nilS,I 0],0,true⟩::⟨s.2.1.1.cells s.2.2.1,0,true⟩::s.2.2.2)) s.2.2.1 (s.2.1.1.shown.map Bt.e)∧∀ q,rid s.2.2.1=some q→H.length+2≤q) (fun s => E.length - s.1) (0,(sto0,-1),nilS,[]) ⟨Nat.zero_le _,rfl,.nil,fun q h => by cases h⟩ rfl ?_
 rintro ⟨i,⟨⟨up,wr,paid,shown,rest⟩,since⟩,x,G⟩ ⟨hi,hs,hg,hq⟩
 dsimp only at hi hs hg hq
 simp only [Sto.cells] at hg ⊢
 have xr:x.one=true∧x.cells=[x]∧x.un=x∧∀ g,Yj g x=True:=⟨hg.sl.one,hg.sl.cells,hg.sl.un,hg.sl.may⟩
 obtain ⟨b1,b2,b3,b4⟩:=Za7 (d:=d) (q:=q) hnow (E.take i) (sto0,-1) 0 (fun e he => (hE e (List.mem_of_mem_take he)).2) (by decide) (by decide) (by decide) (Nat.le_refl _)
 rw [← hs] at b1 b2 b3 b4
 have m2:∀ a:Int,(if 0<a then a else 0)=max 0 a:=fun a => by split <;> omega
 have hti:(E.take i).length≤1000:=by rw [List.length_take]; omega
 dsimp only at b1 b2 b3 b4
 simp only [go_sem]
 refine ⟨fun hh => ?_,fun hh => ?_⟩
 ·have hlt:i<E.length:=by omega
  obtain ⟨hyo,hyb⟩:=hE _ (Zl noEn hlt)
  have hel:elt (ecs E) 7 i=(E.getD i noEn).cells:=Xg Ent.cells 7 Ent.len E i noEn hlt
  have ld:∀ K,Yc true 7 K (Z5 7 (I (i:Int)) en)=.agg (E.getD i noEn).cells:=fun K => by
   rw [(he K).ldA .i64 hlt (by decide),hel]
  have lk:∀ K,Z6 7 K (Z5 7 (I (i:Int)) en)=True:=fun K => (he K).ldOk .i64 hlt (Nat.le_refl _)
  have hts:(E.take (i+1)).foldl (X1 d q now) (sto0,-1)=X1 d q now (⟨up,wr,paid,shown,rest⟩,since) (E.getD i noEn):=by
   rw [Wd hlt noEn,List.foldl_append,← hs]; rfl
  generalize E.getD i noEn=e at *
  have ev:=Y4 hyo.1
  obtain ⟨⟨e1,e2⟩,e3,e4⟩:=hyb
  have sl:(shown.map Bt.e).length=shown.length:=List.length_map _
  have st:=fun (B' o:AObj) => GR.step2 (B':=B') (o:=o) (b:=24) hg hq (v:=e.s) ev.s.1 (by rw [sl]; omega)
  have w1:IntKind.i64.wrap ((i:Int)+1)=((i+1:Nat):Int):=by rw [w64 _ (by omega) (by omega)]; omega
  have w2:IntKind.i64.wrap (paid+e.amount)=paid+e.amount:=w64 _ (by omega) (by omega)
  have m1:(if now<e.at_ then now else e.at_)=min e.at_ now:=by split <;> omega
  have w3:IntKind.i64.wrap (min e.at_ now - since)=min e.at_ now - since:=w64 _ (by omega) (by omega)
  have w4:IntKind.i64.wrap (rest+max 0 (min e.at_ now - since))=rest+max 0 (min e.at_ now - since):=w64 _ (by omega) (by omega)
  simp only [Ent.cells] at ld
  simp only [go_sem,(he []).idx,ld,lk,ev.s,hv.en.s,xr]
  simp only [w1,w2]
  refine ⟨⟨by omega,by omega⟩,fun hc => ?_,fun hc => ⟨by omega,by omega,by omega,by omega,by omega,by omega,fun hk => ⟨by omega,Ent.pur hyo,?_⟩,fun hk => ⟨fun hk3 => ⟨by omega,by omega,?_⟩,fun hk3 => ?_⟩⟩⟩
  ·have hc:e.dev≠d∨e.seq≠q:=by simpa using hc
   have e1:X1 d q now (⟨up,wr,paid,shown,rest⟩,since) e=(⟨up,wr,paid,shown,rest⟩,since):=if_pos hc
   rw [e1] at hts
   exact ⟨(i+1,(⟨up,wr,paid,shown,rest⟩,since),x,_),rfl,rfl,⟨hlt,hts.symm,hg.mid hq _,hq⟩,by show E.length - (i+1)<E.length - i; omega⟩
  ·have hc:¬ (e.dev≠d∨e.seq≠q):=by simpa using hc
   have hk:e.kind=2:=by simpa using hk
   have e1:X1 d q now (⟨up,wr,paid,shown,rest⟩,since) e=(⟨up || e.up,wr || e.kind == 4,paid+e.amount,shown++[⟨e.b,e.s⟩],rest⟩,e.at_):=by
    rw [X1,if_neg hc,if_pos hk,if_pos hk,if_neg (by omega)]
   rw [e1] at hts
   obtain ⟨a1,K',e2,f1,f2,f3,f4⟩:=st ⟨[Bl (up || e.up),Bl (wr || e.kind == 4),I (paid+e.amount),x,I rest],0,true⟩ ⟨[I e.kind,I e.dev,I e.seq,I e.at_,I e.amount,e.s,Bl e.up],0,true⟩
   have g1:=(f3 default).sl
   rw [e2]
   generalize appV 1 (H++⟨[Bl false,Bl false,I 0,nilS,I 0],0,true⟩::⟨[Bl (up || e.up),Bl (wr || e.kind == 4),I (paid+e.amount),x,I rest],0,true⟩::(G++[⟨[I e.kind,I e.dev,I e.seq,I e.at_,I e.amount,e.s,Bl e.up],0,true⟩])) (.view [e.s] 1 true) x=x' at *
   simp only [g1.cells,g1.one,go_sem,f1]
   refine ⟨⟨a1.2.2.1,a1.2.2.2⟩,by omega,by omega,?_⟩
   have f3:=f3 ⟨[Bl (up || e.up),Bl (wr || e.kind == 4),I (paid+e.amount),x',I rest],0,true⟩
   refine ⟨(i+1,(⟨up || e.up,wr || e.kind == 4,paid+e.amount,shown++[⟨e.b,e.s⟩],rest⟩,e.at_),x',K'),rfl,rfl,⟨hlt,hts.symm,?_,f4⟩,by show E.length - (i+1)<E.length - i; omega⟩
   show GR _ x' ((shown++[(⟨e.b,e.s⟩:Bt)]).map Bt.e)
   rw [List.map_append]; exact f3
  ·have hc:¬ (e.dev≠d∨e.seq≠q):=by simpa using hc
   have hk:¬ e.kind=2:=by simpa using hk
   have hk3:e.kind=3:=by simpa using hk3
   have e1:X1 d q now (⟨up,wr,paid,shown,rest⟩,since) e=(⟨up || e.up,wr || e.kind == 4,paid+e.amount,shown,rest+max 0 (min e.at_ now - since)⟩,-1):=by
    rw [X1,if_neg hc,if_neg hk,if_pos hk3,if_neg hk,if_pos hk3]
   rw [e1] at hts
   simp only [m1,w3,m2,w4]
   exact ⟨(i+1,(⟨up || e.up,wr || e.kind == 4,paid+e.amount,shown,rest+max 0 (min e.at_ now - since)⟩,-1),x,_),rfl,rfl,⟨hlt,hts.symm,hg.mid hq _,hq⟩,by show E.length - (i+1)<E.length - i; omega⟩
  ·have hc:¬ (e.dev≠d∨e.seq≠q):=by simpa using hc
   have hk:¬ e.kind=2:=by simpa using hk
   have hk3:¬ e.kind=3:=by simpa using hk3
   have e1:X1 d q now (⟨up,wr,paid,shown,rest⟩,since) e=(⟨up || e.up,wr || e.kind == 4,paid+e.amount,shown,rest⟩,since):=by
    rw [X1,if_neg hc,if_neg hk,if_neg hk3,if_neg hk,if_neg hk3]
   rw [e1] at hts
   exact ⟨(i+1,(⟨up || e.up,wr || e.kind == 4,paid+e.amount,shown,rest⟩,since),x,_),rfl,rfl,⟨hlt,hts.symm,hg.mid hq _,hq⟩,by show E.length - (i+1)<E.length - i; omega⟩
 ·have hi2:i=E.length:=by omega
  subst hi2
  rw [List.take_length] at hs
  have hs:((⟨up,wr,paid,shown,rest⟩:Sto),since)=Ey d q now E:=hs
  have hpu:Ye (shown.map Bt.e)=true:=Vl fun a ha => by
   obtain ⟨y,hy,rfl⟩:=List.mem_map.1 ha
   have hy:y ∈ (Ey d q now E).1.shown:=by rw [← hs]; exact hy
   rcases Za6 E _ y hy with h | ⟨e,he,rfl⟩
   ·cases h
   ·exact Ent.pur (hE e he).1
  rw [Si,Zo0,← hs]
  dsimp only
  have w5:IntKind.i64.wrap (now - since)=now - since:=w64 _ (by omega) (by omega)
  have w6:IntKind.i64.wrap (rest+max 0 (now - since))=rest+max 0 (now - since):=w64 _ (by omega) (by omega)
  have fin:∀ (r:Int) (A B:AObj),Leave H (.agg [Bl up,Bl wr,I paid,x,I r]) (H++A::B::G) ((⟨up,wr,paid,shown,r⟩:Sto).v (shV shown)) H:=fun r A B => by
   refine Ww ?_
   have h1:=GR.view (H:=H) (K:=A::B::G) (hg.two hq) (fun q h => by have:=hq q h; omega) hpu
   have e1:low (renk H.length []) (H++A::B::G) (.agg [Bl up,Bl wr,I paid,x,I r])=.agg [Bl up,Bl wr,I paid,low (renk H.length []) (H++A::B::G) x,I r]:=rfl
   rw [e1]
   rw [List.length_map] at h1
   exact Z10 ⟨.refl _,.refl _,.refl _,h1,.refl _,trivial⟩
  refine ⟨fun h0 => ⟨by omega,by omega,by omega,⟨xr.1,by omega⟩,by omega,?_⟩,fun h0 => ⟨by omega,⟨xr.1,by omega⟩,by omega,?_⟩⟩
  ·rw [if_pos h0]
   simp only [w5,m2,w6]
   exact fin _ _ _
  ·rw [if_neg h0]
   exact fin _ _ _
end
set_option maxRecDepth 10000
theorem Mp {α:Type} (f:α→List AV) (k:Nat) (d:α):∀ (l:List α) (i:Nat),(∀ a ∈ l,(f a).length=k)→i<l.length→elt (l.flatMap f) k i=f (l.getD i d)
 | [],i,h,hi => absurd hi (Nat.not_lt_zero _)
 | a::l,0,h,hi => by
  have ha:=h a (by simp)
  show ((f a++l.flatMap f).drop (0*k)).take k=f a
  rw [Nat.zero_mul,List.drop_zero,List.take_left' ha]
 | a::l,i+1,h,hi => by
  have ha:=h a (by simp)
  have:=Mp f k d l i (fun x hx => h x (by simp [hx])) (by simpa using hi)
  rw [elt] at this ⊢
  show ((f a++l.flatMap f).drop ((i+1)*k)).take k=_
  rw [show (i+1)*k=(f a).length+i*k by rw [ha,Nat.succ_mul]; omega,← List.drop_drop,List.drop_left]
  exact this
def rls (l:List Rec):List AV:=l.flatMap Rec.cells
def Dm (r:Rec):Prop:=r.vok∧recB r=true∧r.b.length≤100000
theorem Zv2 {l:List Rec} (h:∀ r ∈ l,Dm r):(rls l).length=l.length*41:=by
 induction l with
 | nil => rfl
 | cons a l ih =>
  show (a.cells++rls l).length=_
  rw [List.length_append,ih fun s hs => h s (by simp [hs]),Xn (h a (by simp)).1.1,List.length_cons]; omega
theorem Zp2 (z:AV):pickv (Bl true) (Bl true) z=Bl true:=by
 cases z with
 | lit v => cases v <;> rfl
 | _ => rfl
def Zxc (o:Option Rec):AV:=match o with
 | none => .tup [.agg noRec.cells,Bl false]
 | some r => .tup [.agg r.cells,Bl true]
theorem Zq3 {l:List Rec} {n r:Rec} (h:Zhk l n=some r) (hn:0≤n.serial):r ∈ l:=by
 rw [Zhk] at h
 split at h
 ·cases h
 ·split at h
  ·cases h
  ·cases h; exact Zl noRec (by omega)
section
variable {H:AH} {p:Nat} {dv kv rv pv sv cv ch en lv xv x:AV} {pen:Int} {D K:List Key} {R:List Rvk} {P:List Prd} {S:List Sv} {N:List Cn} {C:List Chx} {E:List Ent} {X:List Sgt} {l:List Rec} {n:Rec}
theorem Z0d (hx:∀ G,Sl 41 G x (rls l) l.length) (hl:∀ r ∈ l,Dm r) (hn:n.ok) (hs:0≤n.serial):Called Tryz.prog F.cases_inspection [x,.agg n.cells] H (Zxc (Zhk l n)) H:=by
 have n1:=Zp hn
 have no1:=Zp Zt
 have nospl:=Xj Zt Zt
 have xw:=Y4 hx
 refine My ?_
 simp only [Tl,V8]
 simp only [go_sem,n1.1,n1.2.1,Is,Zkc,xw.s,(hx []).lenT,(hx []).n]
 rw [Zhk]
 by_cases h1:(l.length:Int)≤n.serial
 ·rw [if_pos h1,decide_eq_true h1]
  simp only [go_sem,Zp2,Z7,Wu,no1.1,no1.2.1,no1.2.2.1,nospl]
  exact Zc rfl
 ·rw [if_neg h1,decide_eq_false h1]
  obtain ⟨m,hm⟩:∃ m:Nat,n.serial=m:=⟨n.serial.toNat,by omega⟩
  rw [hm] at h1 ⊢
  have hlt:m<l.length:=by omega
  have hro:=hl _ (Zl noRec hlt)
  have el:elt (rls l) 41 m=(l.getD m noRec).cells:=Mp Rec.cells 41 noRec l m (fun r hr => Xn (hl r hr).1.1) hlt
  have fd:=fun K => (hx K).fd .i64 hlt (o:=3) (m:=1) (by decide) (by decide) false
  have fk:=fun K => (hx K).fdOk .i64 hlt (o:=3) (m:=1) (by decide)
  have e3:(rls l).getD (m*41+3) .junk=I (l.getD m noRec).kind:=by
   have:=congrArg (fun y => y.getD 3 .junk) el
   simp only [elt,List.getD_eq_getElem?_getD,List.getElem?_take,List.getElem?_drop] at this
   rw [if_pos (by decide)] at this
   rw [List.getD_eq_getElem?_getD]; exact this
  have ld:∀ K,Yc true 41 K (Z5 41 (I (m:Int)) x)=.agg (l.getD m noRec).cells:=fun K => by
   rw [(hx K).ldA .i64 hlt (by decide),el]
  have lk:∀ K,Z6 41 K (Z5 41 (I (m:Int)) x)=True:=fun K => (hx K).ldOk .i64 hlt (Nat.le_refl _)
  simp only [Int.toNat_natCast,go_sem,(hx []).idx,fd,fk,e3,ld,lk]
  have rr:=(hro.1.1)
  generalize l.getD m noRec=r at *
  have q1:=Zp rr
  have rspl:=Xj Zt rr
  simp only [Z7,Wu,no1.1,no1.2.1,no1.2.2.1,nospl,rspl,q1.1,q1.2.1,q1.2.2.1]
  refine ⟨⟨by omega,by omega⟩,(fk []).1 ▸ trivial,fun hk => ⟨⟨trivial,trivial,by omega⟩,by omega,?_⟩,fun hk => ⟨⟨by omega,by omega⟩,⟨trivial,trivial,by omega⟩,by omega,?_⟩⟩
  ·have hk:r.kind≠1:=by simpa using hk
   rw [if_pos hk]; exact Zc rfl
  ·have hk:¬ r.kind≠1:=by simpa using hk
   rw [if_neg hk]
   refine Zc ?_
   show AV.tup [.agg (lowL _ _ r.cells),_]=_
   rw [Pi hro.1]; rfl
def btOk (y:Bt):Prop:=y.ok∧y.e.pure=true∧y.e.one=true
theorem Zjf (h:RH dv kv rv pv sv cv D K R P S N) (hch:Vw ch) (hen:Vw en) (hw:VWH H p dv kv rv pv sv cv pen ch en lv xv) (hX:∀ G,Sl 46 G xv (scs X) X.length) (hXo:∀ s ∈ X,s.ok) (hXn:X.length≤100000)
  (hx:∀ G,Sl 41 G x (rls l) l.length) (hl:∀ r ∈ l,Dm r) (hn:n.ok) (hs:0≤n.serial) {y:AV} {sh:List Bt} (hy:∀ G,Sl 1 G y (sh.map Bt.e) sh.length) (hsh:∀ z ∈ sh,btOk z) (hshn:sh.length≤1000) :
  Called Tryz.prog F.cases_view_covered [.ptr p 0,x,.agg n.cells,y] H (Bl (Gq K R P S N X l n sh)) H:=by
 have n1:=Zp hn
 have no1:=Zp Zt
 have xw:=Y4 hx
 have yw:=Y4 hy
 have ys:=fun G => (hy G).s
 have hp:=hw.lt
 refine Ps ?_
 simp only [V7,V8]
 simp only [go_sem,n1.1,n1.2.1,n1.2.2.1,Is,xw.s,yw.s]
 refine Za (Z0d hx hl hn hs) (fun _ => rfl) ?_
 rw [Gq]
 cases hi:Zhk l n with
 | none =>
  simp only [Zxc,go_sem,Z7,Wu,no1.1,no1.2.1,no1.2.2.1,Xj Zt Zt]
  exact Zc rfl
 | some r =>
  obtain ⟨hrv,hrb,hr5⟩:=hl r (Zq3 hi hs)
  have hr:=hrv.1
  have q1:=Zp hr
  have rspl:=Xj Zt hr
  have rm:=Qg hrb
  have rp:r.e.pure=true:=by
   rcases hrv.2 with e | ⟨f,e⟩
   ·rw [e]; rfl
   ·rw [e]; exact Wi _
  have rs:=Y4 hr.2.2
  have hshp:Ye (sh.map Bt.e)=true:=Vl fun a ha => by
   obtain ⟨z,hz,rfl⟩:=List.mem_map.1 ha
   exact (hsh z hz).2.1
  have hsho:(sh.map Bt.e).all AV.one=true:=by
   rw [List.all_eq_true]; intro a ha
   obtain ⟨z,hz,rfl⟩:=List.mem_map.1 ha
   exact (hsh z hz).2.2
  simp only [Zxc,go_sem,Z7,Wu,no1.1,no1.2.1,no1.2.2.1,q1.1,q1.2.1,rspl,Dl hr,rs.s,rp,Zr,fillv,yw.s,ys,hshp,hsho,Zax,(hy []).n]
  have al:(r.e::sh.map Bt.e).length=(1+sh.length)*1:=by rw [List.length_cons,List.length_map]; omega
  have hall:∀ z ∈ (⟨r.b,r.e⟩::sh:List Bt),btOk z:=fun z hz => by
   rcases List.mem_cons.1 hz with rfl | hz
   ·exact ⟨⟨hr5,hr.2.2⟩,rp,rs.s.1⟩
   ·exact hsh z hz
  have am:r.e::sh.map Bt.e=(⟨r.b,r.e⟩::sh:List Bt).map Bt.e:=rfl
  have an:1+sh.length=(⟨r.b,r.e⟩::sh:List Bt).length:=by rw [List.length_cons]; omega
  rw [am,an]
  have Yn:(⟨r.b,r.e⟩::sh:List Bt).length≤1001:=by rw [List.length_cons]; omega
  generalize (⟨r.b,r.e⟩::sh:List Bt)=Y at *
  have vs:∀ G,Sl 1 G (.view (Y.map Bt.e) Y.length false) (Y.map Bt.e) Y.length:=fun G => .view (by simp) _
  refine ⟨by omega,?_⟩
  refine Z1 _ (fun (i:Nat) => ([(0,.ptr p 0),(9,.ptr (H.length+1) 0),(25,.view (Y.map Bt.e) Y.length false),(26,I Y.length),(27,I i)],H++[⟨n.cells,0,true⟩,⟨r.cells,0,true⟩])) (fun i => i≤Y.length∧(Y.any fun y => Je K R P S N X r y.b)=(Y.drop i).any fun y => Je K R P S N X r y.b) (fun i => Y.length - i) 0 ⟨Nat.zero_le _,rfl⟩ rfl ?_
  rintro i ⟨hiY,hd⟩
  rw [hd]
  simp only [go_sem]
  refine ⟨fun hh => ?_,fun hh => ?_⟩
  ·have hlt:i<Y.length:=by omega
   have dn:Y.drop i=Y.getD i noB::Y.drop (i+1):=Xr hlt noB
   have el:elt (Y.map Bt.e) 1 i=[(Y.getD i noB).e]:=Cb Bt.e Y i hlt noB
   obtain ⟨⟨hb5,hbs⟩,hbp,hb1⟩:=hall _ (Zl noB hlt)
   rw [dn]
   generalize Y.getD i noB=z at *
   have zv:=Y4 hbs
   have w1:IntKind.i64.wrap ((i:Int)+1)=((i+1:Nat):Int):=by rw [w64 _ (by omega) (by omega)]; omega
   have tg:=fun G => Z0m (H:=H++G) (pen:=pen) (lv:=lv) h hch hen (hw.app G) hX hXo hXn hr ⟨rm.1,rm.2.1⟩ hbs hb5
   simp only [go_sem,el,zv.s,q1.1,q1.2.2.1,List.length_map]
   refine ⟨⟨by omega,by omega⟩,Za (tg _) (fun _ => rfl) ?_⟩
   have ea:((z::Y.drop (i+1)).any fun y => Je K R P S N X r y.b)=(Je K R P S N X r z.b || (Y.drop (i+1)).any fun y => Je K R P S N X r y.b):=rfl
   rw [ea]
   generalize Je K R P S N X r z.b=g
   simp only [go_sem]
   refine ⟨fun hg => ?_,fun hg => ?_⟩
   ·rw [hg]; exact Zc rfl
   ·rw [hg]
    exact ⟨i+1,by rw [w1],⟨hlt,rfl⟩,by omega⟩
  ·have hi2:i=Y.length:=by omega
   subst hi2
   rw [List.drop_length]
   exact Zc rfl
end
section
variable {H:AH} {p:Nat} {dv kv rv pv sv cv ch en lv xv x:AV} {pen now:Int} {D K:List Key} {R:List Rvk} {P:List Prd} {S:List Sv} {N:List Cn} {C:List Chx} {E:List Ent} {l:List Rec} {n:Rec}
theorem Zo1 {d q:Int} (hnow:0≤now∧now≤1073741824) (hE:∀ e ∈ E,entB e) (hEn:E.length≤1000):(0≤(Si d q now E).rest∧(Si d q now E).rest≤1100000000000)∧(Si d q now E).shown.length≤1000:=by
 obtain ⟨h1,h2,h3,h4⟩:=Za7 (d:=d) (q:=q) hnow E (sto0,-1) 0 hE (by decide) (by decide) (by decide) (Nat.le_refl _)
 have h2:0≤(Ey d q now E).1.rest∧(Ey d q now E).1.rest≤((0:Nat)+E.length)*1073741825:=h2
 have h3 : -1≤(Ey d q now E).2∧(Ey d q now E).2≤1073741824:=h3
 have h4:(Ey d q now E).1.shown.length≤0+E.length:=h4
 rw [Zd0]
 refine ⟨?_,by omega⟩
 rw [Si,Zo0]
 split
 ·dsimp only; omega
 ·omega
set_option maxHeartbeats 2000000 in
theorem Z0r (h:RH dv kv rv pv sv cv D K R P S N) (hch:Vw ch) (hw:VWH H p dv kv rv pv sv cv pen ch en lv xv) (hX:∀ G,Sl 46 G xv (scs (viewS K C)) (viewS K C).length) (hXo:∀ s ∈ viewS K C,s.ok) (hXn:(viewS K C).length≤100000)
  (he:∀ G,Sl 7 G en (ecs E) E.length) (hE:∀ e ∈ E,e.ok∧entB e) (hEn:E.length≤1000) (hnow:0≤now∧now≤1073741824)
  (hx:∀ G,Sl 41 G x (rls l) l.length) (hl:∀ r ∈ l,Dm r) (hln:l.length≤100000) (hn:Dm n) :
  Called Tryz.prog F.cases_view_one [.ptr p 0,x,.agg n.cells,I now] H (.agg (Zii K R P S N C E pen now (l,n)).cells) H:=by
 have n1:=Zp hn.1.1
 have nb:=Qg hn.2.1
 have hen:=Y4 he
 have hv:=h.fv hch hen
 have xw:=Y4 hx
 have hp:=hw.lt
 have o1:=hw.ob
 simp only [fct] at o1
 have tt:=fun G => Zzv (H:=H++G) (pen:=pen) (lv:=lv) hv (hw.app G) he hE hEn n.dev n.seq now hnow
 refine Jn ?_
 simp only [Re,V8]
 simp only [go_sem,n1.1,n1.2.1,n1.2.2.1,Is,Zen,Bv,xw.s]
 refine Za (tt _) (fun _ => rfl) ?_
 have bd:=Zo1 (d:=n.dev) (q:=n.seq) hnow (fun e he => (hE e he).2) hEn
 have hsh:∀ z ∈ (Si n.dev n.seq now E).shown,btOk z:=fun z hz => by
  rw [Zd0] at hz
  rcases Za6 E _ z hz with hz | ⟨e,he,rfl⟩
  ·cases hz
  ·have eo:=(hE e he).1
   exact ⟨⟨eo.2,eo.1⟩,Ent.pur eo,(Y4 eo.1).s.1⟩
 have ec:Zii K R P S N C E pen now (l,n)=⟨n.dev,n.seq,n.min_,Zbf (C8 l n) (Si n.dev n.seq now E) (Gq K R P S N (viewS K C) l n (Si n.dev n.seq now E).shown) pen,if Zbf (C8 l n) (Si n.dev n.seq now E) (Gq K R P S N (viewS K C) l n (Si n.dev n.seq now E).shown) pen=1 then stgN now n.min_ (Si n.dev n.seq now E).rest else 0,(Si n.dev n.seq now E).paid⟩:=rfl
 rw [ec]
 clear ec
 generalize Si n.dev n.seq now E=st at *
 obtain ⟨up,wr,paid,shown,rest⟩:=st
 dsimp only at bd hsh ⊢
 have shs:∀ G,Sl 1 G (shV shown) (shown.map Bt.e) shown.length:=fun G => .view (by simp) _
 have tcv:=fun G => Zjf (H:=H++G) (pen:=pen) (lv:=lv) h hch hen (hw.app G) hX hXo hXn hx hl hn.1.1 nb.2.2.1 shs hsh bd.2
 generalize Gq K R P S N (viewS K C) l n shown=cb at *
 have shw:=(Y4 shs).s
 generalize shV shown=sx at *
 simp only [Sto.v,Sto.cells,go_sem,shw,n1.1,n1.2.1,n1.2.2.1,Zen,Bv,Qd,xw.s,(hx []).lenT,(hx []).n,Zr,fillv]
 refine Z1 _ (fun (s:Nat × Bool × AH) => ([(0,.ptr p 0),(1,x),(3,I now),(6,.ptr H.length 0),(8,.ptr (H.length+1) 0),(9,.ptr (H.length+2) 0),(10,.ptr (H.length+3) 0),(11,Bl s.2.1),(30,x),(31,I l.length),(32,I s.1)],
  H++(⟨n.cells,0,true⟩::⟨[I 0,I 0,I 0,I 0,I 0,I 0],0,true⟩::⟨[Bl up,Bl wr,I paid,sx,I rest],0,true⟩::⟨[I n.dev,I n.seq,I n.min_,I 1,I 0,I paid],0,true⟩::s.2.2)))
  (fun s => s.1≤l.length∧C8 l n=(s.2.1 || C8 (l.drop s.1) n)) (fun s => l.length - s.1) (0,false,[]) ⟨Nat.zero_le _,rfl⟩ rfl ?_
 rintro ⟨i,b,G⟩ ⟨hi,hb⟩
 dsimp only at hi hb
 rw [hb]
 clear hb
 simp only [go_sem]
 refine ⟨fun hh => ?_,fun hh => ?_⟩
 ·have hlt:i<l.length:=by omega
  have hro:=(hl _ (Zl noRec hlt)).1.1
  have el:elt (rls l) 41 i=(l.getD i noRec).cells:=Mp Rec.cells 41 noRec l i (fun r hr => Xn (hl r hr).1.1) hlt
  have ld:∀ K,Yc true 41 K (Z5 41 (I (i:Int)) x)=.agg (l.getD i noRec).cells:=fun K => by
   rw [(hx K).ldA .i64 hlt (by decide),el]
  have lk:∀ K,Z6 41 K (Z5 41 (I (i:Int)) x)=True:=fun K => (hx K).ldOk .i64 hlt (Nat.le_refl _)
  have dn:l.drop i=l.getD i noRec::l.drop (i+1):=Xr hlt noRec
  rw [dn]
  generalize l.getD i noRec=r at *
  have q1:=Zp hro
  have rspl:=Xj Zt hro
  have no1:=Zp Zt
  have w1:IntKind.i64.wrap ((i:Int)+1)=((i+1:Nat):Int):=by rw [w64 _ (by omega) (by omega)]; omega
  simp only [go_sem,(hx []).idx,ld,lk,Z7,Wu,no1.1,no1.2.1,no1.2.2.1,q1.1,q1.2.1,q1.2.2.1,rspl,Bv,Fw,Zkc,n1.1]
  have ev:C8 (r::l.drop (i+1)) n=(r.kind == 3&&r.serial == n.seq || C8 (l.drop (i+1)) n):=rfl
  rw [ev]
  refine ⟨⟨by omega,by omega⟩,fun _ => by omega,(i+1,b || (r.kind == 3&&r.serial == n.seq),_),by rw [w1],rfl,⟨hlt,by rw [Bool.or_assoc]⟩,by show l.length - (i+1)<l.length - i; omega⟩
 ·have hi2:i=l.length:=by omega
  subst hi2
  rw [List.drop_length,show C8 [] n=false from rfl,Bool.or_false]
  refine ⟨fun e1 => ⟨by omega,by omega,by omega,by omega,?_⟩,fun e1 => ⟨by omega,fun e2 => ⟨by omega,by omega,by omega,by omega,?_⟩,fun e2 => ?_⟩⟩
  ·subst e1
   exact Zc rfl
  ·subst e1 e2
   exact Zc rfl
  ·subst e1 e2
   rw [n1.2.2.1]
   refine ⟨by omega,by omega,Za (tcv _) (fun _ => rfl) ?_⟩
   simp only [go_sem,o1]
   refine ⟨fun e3 => ⟨by omega,by omega,by omega,by omega,?_⟩,fun e3 => ⟨by omega,by omega,fun e4 => ⟨by omega,by omega,by omega,by omega,?_⟩,fun e4 => ⟨by omega,fun e5 => ⟨by omega,by omega,by omega,by omega,?_⟩,fun e5 => ?_⟩⟩⟩
   ·subst e3
    exact Zc rfl
   ·subst e3
    have es:Zbf false ⟨false,wr,paid,shown,rest⟩ false pen=5:=by
     show (if pen≤paid then (5:Int) else _)=5
     rw [if_pos e4]
    rw [es]
    exact Zc rfl
   ·subst e3 e5
    have es:Zbf false ⟨false,true,paid,shown,rest⟩ false pen=6:=by
     show (if pen≤paid then (5:Int) else 6)=6
     rw [if_neg e4]
    rw [es]
    exact Zc rfl
   ·subst e3 e5
    have es:Zbf false ⟨false,false,paid,shown,rest⟩ false pen=1:=by
     show (if pen≤paid then (5:Int) else 1)=1
     rw [if_neg e4]
    rw [es]
    have v1:IntKind.i64.wrap (now - n.min_)=now - n.min_:=w64 _ (by omega) (by omega)
    have v2:IntKind.i64.wrap (now - n.min_ - rest)=now - n.min_ - rest:=w64 _ (by omega) (by omega)
    have v3:IntKind.i64.wrap ((now - n.min_ - rest).tdiv 20160)=(now - n.min_ - rest).tdiv 20160:=by
     have h1:=Bb (x:=-2000000000000) (y:=now - n.min_ - rest) (by omega)
     have h2:=Bb (x:=now - n.min_ - rest) (y:=2000000000000) (by omega)
     have h3:(-2000000000000:Int).tdiv 20160=-99206349:=by decide
     have h4:(2000000000000:Int).tdiv 20160=99206349:=by decide
     exact w64 _ (by omega) (by omega)
    have v4:∀ a:Int,(if 0<(if a<3 then a else 3) then (if a<3 then a else 3) else 0)=max 0 (min 3 a):=fun a => by split <;> split <;> omega
    simp only [Qd,n1.1,go_sem,v1,v2,v3,v4]
    refine ⟨by omega,by omega,by decide,by omega,by omega,by omega,by omega,Zc ?_⟩
    rfl
end
end Go.Proofs.YtcgjlpdkobmpnaaGreat.Eng

