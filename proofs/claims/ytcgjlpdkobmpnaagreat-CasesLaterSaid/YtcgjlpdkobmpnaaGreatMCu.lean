/- Layer 22: the law FactsMore: facts with a record more, or an entry more, may be. -/
import Derived.Test.YtcgjlpdkobmpnaaGreatMFy
import Derived.Test.YtcgjlpdkobmpnaaGreatMCt
namespace Go.Proofs.YtcgjlpdkobmpnaaGreat.Eng
open Go Go.Proofs
set_option linter.unusedVariables false
set_option linter.unusedSimpArgs false
set_option maxRecDepth 10000
section
variable {H:AH} {x:AV} {dv kv rv pv sv cv ch en:AV} {pen:Int} {D K:List Key} {R:List Rvk} {P:List Prd} {S:List Sv} {N:List Cn} {C:List Chx} {E:List Ent} {b:List UInt8}
theorem Zmk {fr:Bool} (h:fewF fr C E=true) (hC:∀ c ∈ C,c.wk) (hE:∀ e ∈ E,e.wk):fr=true∧C.length≤20∧E.length≤120∧(∀ c ∈ C,c.ok)∧(∀ e ∈ E,e.ok):=by
 simp only [fewF,Bool.and_eq_true,decide_eq_true_eq] at h
 obtain ⟨⟨⟨⟨⟨h1,h2⟩,h3⟩,h4⟩,h5⟩,h6⟩:=h
 refine ⟨h1,h2,h3,fun c hc => ⟨(hC c hc).1,fun y hy => ?_,?_⟩,fun e he => ⟨hE e he,?_⟩⟩
 ·obtain ⟨a1,a2,a3⟩:=(hC c hc).2.1 y hy
  exact ⟨⟨by have:=h4 c hc y hy; omega,a1⟩,a2,a3⟩
 ·have:c.l.length≤sumL C:=by
   clear h1 h2 h3 h4 h5 h6 hE hC
   induction C with
   | nil => cases hc
   | cons a C ih =>
    have e:sumL (a::C)=a.l.length+sumL C:=by simp [sumL]
    rcases List.mem_cons.1 hc with rfl | hc
    ·omega
    ·have:=ih hc; omega
  omega
 ·have:=h5 e he; omega
end
set_option maxRecDepth 10000
def noCs:Cse:=⟨0,0,0,0,0,0⟩
theorem Zc8 {l:List Cse} {i:Nat} (h:i<l.length):elt (ccs l) 6 i=[I (l.getD i noCs).dev,I (l.getD i noCs).seq,I (l.getD i noCs).at_,I (l.getD i noCs).status,I (l.getD i noCs).stage,I (l.getD i noCs).paid]:=Xh Cse.cells 6 (fun _ => rfl) l i noCs h
section
variable {H:AH} {dv kv rv pv sv cv ch en:AV} {pen now:Int} {D K:List Key} {R:List Rvk} {P:List Prd} {S:List Sv} {N:List Cn} {C:List Chx} {E:List Ent}
theorem may1:mayF (R8 [] [] [] [] [] [] 1) [] [] []=true:=by
 have r1:R8 [] [] [] [] [] [] 1=true:=by decide
 rw [r1]; rfl
theorem Zjc (d q:Int):Called Tryz.prog F.cases_Doubtful [.agg (fct nilS nilS nilS nilS nilS nilS 1 nilS nilS),I d,I q] H (.tup [Bl false,.lit (.iface T.api_Code (.int .i64 4))]) H:=by
 have tm:=fun G => Fg (H:=G) (pen:=1) (C:=[]) (E:=[]) (ch:=nilS) (en:=nilS) RH0 (fun _ => .nil) (fun _ h => by cases h) (by decide) (fun _ => .nil) (fun _ h => by cases h) (by decide)
 have tl:=fun G => Zs4 (H:=G) (pen:=1) (K:=[]) (C:=[]) (ch:=nilS) (en:=nilS) RH0 (fun _ => .nil) (fun _ h => by cases h) (by decide) (.inl rfl)
 rw [may1] at tm
 refine Ji ?_
 simp only [fct] at tm tl ⊢
 simp only [Re,go_sem]
 refine Za (tm _) (fun _ => rfl) ?_
 simp only [go_sem]
 refine Za (tl _) (fun h => by cases h) ?_
 have oV:∃ X,Zg0 nilS nilS nilS nilS nilS nilS 1 nilS nilS [] []=⟨[nilS,nilS,nilS,nilS,nilS,nilS,I 1,nilS,nilS,X,nilS],0,true⟩:=⟨_,rfl⟩
 obtain ⟨X,oV⟩:=oV
 rw [oV]
 simp only [go_sem]
 refine Z4 _ (fun (s:Unit) => ([(1,I d),(2,I q),(8,.ptr (H.length+1) 0),(20,nilS),(21,I 0),(22,I 0)],H++[⟨[nilS,nilS,nilS,nilS,nilS,nilS,I 1,nilS,nilS],0,true⟩,⟨[nilS,nilS,nilS,nilS,nilS,nilS,I 1,nilS,nilS,X,nilS],0,true⟩])) (fun _ => True) (fun _ => 0) () trivial rfl ?_
 intro _ _
 simp only [go_sem]
 refine ⟨fun h => absurd h (by decide),fun _ => Zc rfl⟩
theorem Zzh:Called Tryz.prog F.clapperlaw23_up [] H (Bl true) H:=by
 have l1:=fun G => Es (H:=G) (pen:=1) (C:=[]) (E:=[]) (ch:=nilS) (en:=nilS) RH0 (fun _ => .nil) (fun _ h => by cases h) (by decide) (fun _ => .nil) (fun _ h => by cases h) (by decide) 0
 have l0:=fun G => Es (H:=G) (pen:=0) (C:=[]) (E:=[]) (ch:=nilS) (en:=nilS) RH0 (fun _ => .nil) (fun _ h => by cases h) (by decide) (fun _ => .nil) (fun _ h => by cases h) (by decide) 0
 have b1:I4 [] [] [] [] [] [] [] [] 1 0=true:=by rw [I4,may1]; rfl
 have b0:I4 [] [] [] [] [] [] [] [] 0 0=false:=by
  have r0:R8 [] [] [] [] [] [] 0=false:=by decide
  rw [I4,r0]; rfl
 rw [Zk8,b1,if_pos rfl] at l1
 rw [Zk8,b0,if_neg (by decide)] at l0
 have ec:Vv [] [] [] [] [] [] [] 1 0=[]:=rfl
 rw [ec] at l1
 have td:=fun G => Zjc (H:=G) 1 0
 have cc:(pfx false).c T.api_Code=true:=by decide
 refine L6 ?_
 simp only [fct] at l1 l0 td
 simp only [T7,go_sem,Zr,fillv]
 refine Za (l1 _) (fun _ => rfl) ?_
 simp only [go_sem,Zr,fillv]
 refine Za (l0 _) (fun _ => rfl) ?_
 simp only [go_sem,Zr,fillv]
 refine Za (td _) (fun _ => rfl) ?_
 simp only [go_sem,cc]
 exact Zp (by simp)
structure Later (l m:List Cse):Prop where
 len:m.length=l.length
 eq:∀ i,i<l.length→(m.getD i noCs).dev=(l.getD i noCs).dev∧(m.getD i noCs).seq=(l.getD i noCs).seq∧(m.getD i noCs).at_=(l.getD i noCs).at_∧(m.getD i noCs).status=(l.getD i noCs).status∧(m.getD i noCs).paid=(l.getD i noCs).paid∧(l.getD i noCs).stage≤(m.getD i noCs).stage
 srt:∀ i,0<i→i<l.length→(l.getD (i - 1) noCs).dev<(l.getD i noCs).dev∨(l.getD (i - 1) noCs).dev=(l.getD i noCs).dev∧(l.getD (i - 1) noCs).seq<(l.getD i noCs).seq
theorem Mh {f:List Rec × Rec→Cse} {l:List (List Rec × Rec)} {i:Nat} (h:i<l.length):(l.map f).getD i noCs=f (l.getD i ([],noRec)):=by
 rw [List.getD_eq_getElem?_getD,List.getD_eq_getElem?_getD,List.getElem?_map,List.getElem?_eq_getElem h]; rfl
theorem Zqj {a b:Int} (hg:Zq0 D (cts C)) (he:(Ym C [] E).isSome=true) (hab:a≤b):Later (Vv K R P S N C E pen a) (Vv K R P S N C E pen b):=by
 obtain ⟨h1,_⟩:=Bx hg
 refine ⟨by simp [Vv],fun i hi => ?_,fun i h0 hi => ?_⟩
 ·have hi:i<(pairs C).length:=by simpa [Vv] using hi
  rw [Vv,Vv,Mh hi,Mh hi]
  obtain ⟨g1,g2,g3⟩:=Zic (K:=K) (R:=R) (P:=P) (S:=S) (N:=N) (C:=C) (E:=E) (pen:=pen) he hab ((pairs C).getD i ([],noRec))
  exact ⟨rfl,rfl,rfl,g1.symm,g2.symm,g3⟩
 ·have hi:i<(pairs C).length:=by simpa [Vv] using hi
  rw [Vv,Mh hi,Mh (by omega)]
  have:=List.pairwise_iff_getElem.1 h1 (i - 1) i (by omega) hi (by omega)
  rw [List.getD_eq_getElem?_getD,List.getD_eq_getElem?_getD,List.getElem?_eq_getElem hi,List.getElem?_eq_getElem (show i - 1<(pairs C).length by omega)]
  exact this
theorem C4 (h:RW dv kv rv pv sv cv D K R P S N) (hx:∀ G,Sl 2 G ch (chcs (nx C)) C.length) (hC:∀ c ∈ C,c.wk) (he:∀ G,Sl 7 G en (ecs E) E.length) (hE:∀ e ∈ E,e.wk) (a b:Int) :
  Called Tryz.prog F.clapperlaw23_CasesLater [.agg (fct dv kv rv pv sv cv pen ch en),I a,I b] H (Bl true) H:=by
 have hv:=h.fv (Y9 hx) (Y9 he)
 have tf:=fun G => Z0d (H:=G) (pen:=pen) h hx hC he hE
 have cc:(pfx false).c T.api_Code=true:=by decide
 refine Sn ?_
 simp only [fct] at tf ⊢
 simp only [Wy,go_sem,hv.dv.s,hv.kv.s,hv.rv.s,hv.pv.s,hv.sv.s,hv.cv.s,hv.ch.s,hv.en.s]
 refine Za Zzh (fun _ => rfl) ?_
 simp only [go_sem,hv.dv.s,hv.kv.s,hv.rv.s,hv.pv.s,hv.sv.s,hv.cv.s,hv.ch.s,hv.en.s]
 refine Za (tf _) (fun _ => rfl) ?_
 simp only [go_sem]
 refine ⟨fun h1 => Zc rfl,fun h1 => ?_⟩
 have h2:fewF (fewR D K R P S N) C E=true∧a≤b:=by
  simp only [Bool.or_eq_false_iff,Bool.not_eq_false',decide_eq_false_iff_not] at h1
  exact ⟨h1.1,by omega⟩
 obtain ⟨hf,hab⟩:=h2
 obtain ⟨hfr,c20,e120,hC,hE⟩:=Zmk hf hC hE
 have hR:=h.rh hfr
 have la:=fun G => Es (H:=G) (pen:=pen) hR hx hC (by omega) he hE (by omega) a
 have lb:=fun G => Es (H:=G) (pen:=pen) hR hx hC (by omega) he hE (by omega) b
 clear h1 hf
 simp only [fct] at la lb
 try simp only [go_sem,hv.dv.s,hv.kv.s,hv.rv.s,hv.pv.s,hv.sv.s,hv.cv.s,hv.ch.s,hv.en.s]
 refine Za (la _) (fun _ => rfl) ?_
 rw [Zk8] at lb ⊢
 cases ha:I4 D K R P S N C E pen a
 ·rw [if_neg (by decide)]
  simp only [go_sem,hv.dv.s,hv.kv.s,hv.rv.s,hv.pv.s,hv.sv.s,hv.cv.s,hv.ch.s,hv.en.s]
  refine Za (lb _) (fun _ => rfl) ?_
  cases hb:I4 D K R P S N C E pen b
  ·rw [if_neg (by decide)]
   simp only [go_sem]
   exact Zc rfl
  ·rw [if_pos rfl]
   generalize Vv K R P S N C E pen b=m
   simp only [go_sem]
   exact Zc rfl
 ·rw [if_pos rfl]
  have hm:mayF (R8 D K R P S N pen) D C E=true:=by
   simp only [I4,Bool.and_eq_true] at ha; exact ha.1.1
  obtain ⟨_,_,_,hg,hent⟩:=mayF_iff.1 hm
  have hl:=Zqj (K:=K) (R:=R) (P:=P) (S:=S) (N:=N) (pen:=pen) hg hent hab
  have hln:(Vv K R P S N C E pen a).length≤1000000:=by
   rw [Vv,List.length_map]
   have:∀ Ls:List (List Rec),(∀ l ∈ Ls,l.length≤1000)→(Ls.flatMap fun l => prs l l).length≤Ls.length*1000:=fun Ls => by
    induction Ls with
    | nil => intro _; exact Nat.zero_le _
    | cons L Ls ih =>
     intro hh
     have h1:=ih fun x hx => hh x (by simp [hx])
     have h2:=hh L (by simp)
     have h3:=Zbo L L
     rw [List.flatMap_cons,List.length_append,List.length_cons]; omega
   have h4:=this (Wm C) fun L hL => by
    obtain ⟨c,hc,rfl⟩:=List.mem_map.1 hL
    have:=Nh c.l
    have:=(hC c hc).2.2
    omega
   rw [show (Wm C).length=C.length from List.length_map _] at h4
   exact Nat.le_trans h4 (by omega)
  generalize Vv K R P S N C E pen a=l at *
  simp only [go_sem,hv.dv.s,hv.kv.s,hv.rv.s,hv.pv.s,hv.sv.s,hv.cv.s,hv.ch.s,hv.en.s]
  refine Za (lb _) (fun _ => rfl) ?_
  cases hb:I4 D K R P S N C E pen b
  ·rw [if_neg (by decide)]
   simp only [go_sem]
   exact Zc rfl
  ·rw [if_pos rfl]
   generalize Vv K R P S N C E pen b=m at *
   simp only [go_sem,hl.len,bne_self_eq_false]
   refine Z4 _ (fun (s:Nat × AH) => ([(7,Bl true),(9,.view (ccs l) l.length false),(11,.view (ccs m) l.length false),(13,I s.1)],H++(⟨[dv,kv,rv,pv,sv,cv,I pen,ch,en],0,true⟩::s.2))) (fun s => s.1≤l.length) (fun s => l.length - s.1) (0,[]) (Nat.zero_le _) rfl ?_
   rintro ⟨i,G⟩ hi
   try dsimp only at hi
   simp only [go_sem]
   refine ⟨fun hh => ?_,fun hh => Zc rfl⟩
   have hlt:i<l.length:=by omega
   have e1:=Zc8 hlt
   have e2:=Zc8 (l:=m) (i:=i) (by rw [hl.len]; exact hlt)
   obtain ⟨q1,q2,q3,q4,q5,q6⟩:=hl.eq i hlt
   rw [q1,q2,q3,q4,q5] at e2
   have e3:=Zc8 (l:=l) (i:=i - 1) (by omega)
   have hs:=hl.srt i
   have l1:=Znl l
   have l2:=Znl m
   rw [hl.len] at l2
   have w1:IntKind.i64.wrap ((i:Int)+1)=((i+1:Nat):Int):=by rw [w64 _ (by omega) (by omega)]; omega
   have w2:IntKind.i64.wrap ((i:Int) - 1)=(i:Int) - 1:=w64 _ (by omega) (by omega)
   have w3:((i:Int) - 1).toNat=i - 1:=by omega
   generalize l.getD i noCs=x at *
   generalize m.getD i noCs=y at *
   generalize l.getD (i - 1) noCs=z at *
   simp only [go_sem,e1,e2,e3,l1,l2,w2,w3,bne_self_eq_false,Bool.or_false,Bool.false_or]
   have hz:(decide (0<(i:Int))&&(decide (x.dev<z.dev) || z.dev == x.dev&&decide (x.seq≤z.seq)))=false:=by
    rcases Nat.eq_zero_or_pos i with h0 | h0
    ·rw [decide_eq_false (by omega)]; rfl
    ·rcases hs h0 hlt with h1 | ⟨h1,h2⟩
     ·rw [decide_eq_false (show ¬ x.dev<z.dev by omega),beq_eq_false_iff_ne.2 (by omega)]; simp
     ·rw [decide_eq_false (show ¬ x.dev<z.dev by omega),decide_eq_false (show ¬ x.seq≤z.seq by omega)]; simp
   refine ⟨⟨by omega,by omega⟩,⟨by omega,by omega⟩,fun h1 => by omega,fun _ => ⟨fun _ => ⟨by omega,by omega⟩,fun h1 => ?_,fun h1 => ?_,fun h1 => ?_,fun _ => ?_⟩⟩
   ·simp only [Bool.and_eq_true,decide_eq_true_eq] at h1
    have:=h1.1; exact ⟨by omega,by omega⟩
   ·simp only [Bool.and_eq_true,decide_eq_true_eq] at h1
    have:=h1.1.1; exact ⟨by omega,by omega⟩
   ·rw [hz] at h1; cases h1
   ·exact ⟨(i+1,_),by rw [w1],rfl,hlt,by show l.length - (i+1)<l.length - i; omega⟩
end
section
variable {H:AH} {dv kv rv pv sv cv ch en x:AV} {pen now:Int} {D K:List Key} {R mo:List Rvk} {P:List Prd} {S:List Sv} {N:List Cn} {C:List Chx} {E:List Ent}
theorem RH.gone (h:RH dv kv rv pv sv cv D K R P S N) {M:List Rvk} (hM:M.length≤1000000):RH dv kv (.view (rcs M) M.length false) pv sv cv D K M P S N :=
 ⟨h.d,h.dk,h.dn,h.k,h.kk,h.kn,fun G => .view (Zj9 M) _,hM,h.p,h.pk,h.pn,h.s,h.sk,h.c⟩
end
end Go.Proofs.YtcgjlpdkobmpnaaGreat.Eng

