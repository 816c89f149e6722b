/- Layer 22: the law FactsMore: facts with a record more, or an entry more, may be. -/
import Derived.Test.YtcgjlpdkobmpnaaGreatMFy
import Derived.Test.YtcgjlpdkobmpnaaGreatMCt
namespace Go.Proofs.YtcgjlpdkobmpnaaGreat.Eng
open Go Go.Proofs
set_option linter.unusedVariables false
set_option linter.unusedSimpArgs false
set_option maxRecDepth 10000
section
variable {H:AH} {x:AV} {dv kv rv pv sv cv ch en:AV} {pen:Int} {D K:List Key} {R:List Rvk} {P:List Prd} {S:List Sv} {N:List Cn} {C:List Chx} {E:List Ent} {b:List UInt8}
theorem Zmq {fr:Bool} (h:fewF fr C E=true) (hC:∀ c ∈ C,c.wk) (hE:∀ e ∈ E,e.wk):fr=true∧C.length≤20∧E.length≤120∧(∀ c ∈ C,c.ok)∧(∀ e ∈ E,e.ok):=by
 simp only [fewF,Bool.and_eq_true,decide_eq_true_eq] at h
 obtain ⟨⟨⟨⟨⟨h1,h2⟩,h3⟩,h4⟩,h5⟩,h6⟩:=h
 refine ⟨h1,h2,h3,fun c hc => ⟨(hC c hc).1,fun y hy => ?_,?_⟩,fun e he => ⟨hE e he,?_⟩⟩
 ·obtain ⟨a1,a2,a3⟩:=(hC c hc).2.1 y hy
  exact ⟨⟨by have:=h4 c hc y hy; omega,a1⟩,a2,a3⟩
 ·have:c.l.length≤sumL C:=by
   clear h1 h2 h3 h4 h5 h6 hE hC
   induction C with
   | nil => cases hc
   | cons a C ih =>
    have e:sumL (a::C)=a.l.length+sumL C:=by simp [sumL]
    rcases List.mem_cons.1 hc with rfl | hc
    ·omega
    ·have:=ih hc; omega
  omega
 ·have:=h5 e he; omega
end
set_option maxRecDepth 10000
def noCs:Cse:=⟨0,0,0,0,0,0⟩
theorem Znt {l:List Cse} {i:Nat} (h:i<l.length):elt (ccs l) 6 i=[I (l.getD i noCs).dev,I (l.getD i noCs).seq,I (l.getD i noCs).at_,I (l.getD i noCs).status,I (l.getD i noCs).stage,I (l.getD i noCs).paid]:=Xg Cse.cells 6 (fun _ => rfl) l i noCs h
section
variable {H:AH} {dv kv rv pv sv cv ch en:AV} {pen now:Int} {D K:List Key} {R:List Rvk} {P:List Prd} {S:List Sv} {N:List Cn} {C:List Chx} {E:List Ent}
theorem may1:mayF (U0 [] [] [] [] [] [] 1) [] [] []=true:=by
 have r1:U0 [] [] [] [] [] [] 1=true:=by decide
 rw [r1]; rfl
theorem Zjg (d q:Int):Called Tryz.prog F.cases_Doubtful [.agg (fct nilS nilS nilS nilS nilS nilS 1 nilS nilS),I d,I q] H (.tup [Bl false,.lit (.iface T.api_Code (.int .i64 4))]) H:=by
 have tm:=fun G => Fp (H:=G) (pen:=1) (C:=[]) (E:=[]) (ch:=nilS) (en:=nilS) RH0 (fun _ => .nil) (fun _ h => by cases h) (by decide) (fun _ => .nil) (fun _ h => by cases h) (by decide)
 have tl:=fun G => Zte (H:=G) (pen:=1) (K:=[]) (C:=[]) (ch:=nilS) (en:=nilS) RH0 (fun _ => .nil) (fun _ h => by cases h) (by decide) (.inl rfl)
 rw [may1] at tm
 refine Jo ?_
 simp only [fct] at tm tl ⊢
 simp only [Rf,go_sem]
 refine Za (tm _) (fun _ => rfl) ?_
 simp only [go_sem]
 refine Za (tl _) (fun h => by cases h) ?_
 have oV:∃ X,Zg5 nilS nilS nilS nilS nilS nilS 1 nilS nilS [] []=⟨[nilS,nilS,nilS,nilS,nilS,nilS,I 1,nilS,nilS,X,nilS],0,true⟩:=⟨_,rfl⟩
 obtain ⟨X,oV⟩:=oV
 rw [oV]
 simp only [go_sem]
 refine Z1 _ (fun (s:Unit) => ([(1,I d),(2,I q),(8,.ptr (H.length+1) 0),(20,nilS),(21,I 0),(22,I 0)],H++[⟨[nilS,nilS,nilS,nilS,nilS,nilS,I 1,nilS,nilS],0,true⟩,⟨[nilS,nilS,nilS,nilS,nilS,nilS,I 1,nilS,nilS,X,nilS],0,true⟩])) (fun _ => True) (fun _ => 0) () trivial rfl ?_
 intro _ _
 simp only [go_sem]
 refine ⟨fun h => absurd h (by decide),fun _ => Zc rfl⟩
theorem Zzt:Called Tryz.prog F.clapperlaw23_up [] H (Bl true) H:=by
 have l1:=fun G => E4 (H:=G) (pen:=1) (C:=[]) (E:=[]) (ch:=nilS) (en:=nilS) RH0 (fun _ => .nil) (fun _ h => by cases h) (by decide) (fun _ => .nil) (fun _ h => by cases h) (by decide) 0
 have l0:=fun G => E4 (H:=G) (pen:=0) (C:=[]) (E:=[]) (ch:=nilS) (en:=nilS) RH0 (fun _ => .nil) (fun _ h => by cases h) (by decide) (fun _ => .nil) (fun _ h => by cases h) (by decide) 0
 have b1:He [] [] [] [] [] [] [] [] 1 0=true:=by rw [He,may1]; rfl
 have b0:He [] [] [] [] [] [] [] [] 0 0=false:=by
  have r0:U0 [] [] [] [] [] [] 0=false:=by decide
  rw [He,r0]; rfl
 rw [Zha,b1,if_pos rfl] at l1
 rw [Zha,b0,if_neg (by decide)] at l0
 have ec:R7 [] [] [] [] [] [] [] 1 0=[]:=rfl
 rw [ec] at l1
 have td:=fun G => Zjg (H:=G) 1 0
 have cc:(pfx false).c T.api_Code=true:=by decide
 refine Kc ?_
 simp only [fct] at l1 l0 td
 simp only [T7,go_sem,Zr,fillv]
 refine Za (l1 _) (fun _ => rfl) ?_
 simp only [go_sem,Zr,fillv]
 refine Za (l0 _) (fun _ => rfl) ?_
 simp only [go_sem,Zr,fillv]
 refine Za (td _) (fun _ => rfl) ?_
 simp only [go_sem,cc]
 exact Zk (by simp)
structure Later (l m:List Cse):Prop where
 len:m.length=l.length
 eq:∀ i,i<l.length→(m.getD i noCs).dev=(l.getD i noCs).dev∧(m.getD i noCs).seq=(l.getD i noCs).seq∧(m.getD i noCs).at_=(l.getD i noCs).at_∧(m.getD i noCs).status=(l.getD i noCs).status∧(m.getD i noCs).paid=(l.getD i noCs).paid∧(l.getD i noCs).stage≤(m.getD i noCs).stage
 srt:∀ i,0<i→i<l.length→(l.getD (i - 1) noCs).dev<(l.getD i noCs).dev∨(l.getD (i - 1) noCs).dev=(l.getD i noCs).dev∧(l.getD (i - 1) noCs).seq<(l.getD i noCs).seq
theorem Aq {f:List Rec × Rec→Cse} {l:List (List Rec × Rec)} {i:Nat} (h:i<l.length):(l.map f).getD i noCs=f (l.getD i ([],noRec)):=by
 rw [List.getD_eq_getElem?_getD,List.getD_eq_getElem?_getD,List.getElem?_map,List.getElem?_eq_getElem h]; rfl
end
section
variable {H:AH} {dv kv rv pv sv cv ch en x:AV} {pen now:Int} {D K:List Key} {R mo:List Rvk} {P:List Prd} {S:List Sv} {N:List Cn} {C:List Chx} {E:List Ent}
theorem Zpa {rv x:AV} {a b:List Rvk} (ha:∀ G,Sl 2 G rv (rcs a) a.length) (hb:∀ G,Sl 2 G x (rcs b) b.length) (an:a.length≤1000000) (bn:b.length≤1000000):Called Tryz.prog F.revoke_Merge [rv,x] H (mrgV a b) H:=by
 have key:∀ {y:AV} {l:List Rvk},(∀ G,Sl 2 G y (rcs l) l.length)→∃ f,Le y (.view (rcs l) l.length f):=fun {y l} h => by
  rcases (h []).cases with ⟨h1,h2,h3⟩ | ⟨f,h1,_⟩ | ⟨id,off,L,h1,h2,_⟩
  ·rw [h1,h2,h3]; exact ⟨false,Nz false⟩
  ·exact ⟨f,h1 ▸ .refl _⟩
  ·exact absurd h2 (Nat.not_lt_zero _)
 obtain ⟨f,h1⟩:=key ha
 obtain ⟨g,h2⟩:=key hb
 exact (Zvq (H:=H) (ga:=f) (gb:=g) an bn).weak ⟨h1,h2,trivial⟩
theorem Zkl (hC:∀ c ∈ C,c.ok) (h8:C.length≤20):(pairs C).length≤1000000:=by
 have:∀ Ls:List (List Rec),(∀ l ∈ Ls,l.length≤1000)→(Ls.flatMap fun l => prs l l).length≤Ls.length*1000:=fun Ls => by
  induction Ls with
  | nil => intro _; exact Nat.zero_le _
  | cons L Ls ih =>
   intro hh
   have h1:=ih fun x hx => hh x (by simp [hx])
   have h2:=hh L (by simp)
   have h3:=Zbu L L
   rw [List.flatMap_cons,List.length_append,List.length_cons]; omega
 have h4:=this (Wn C) fun L hL => by
  obtain ⟨c,hc,rfl⟩:=List.mem_map.1 hL
  have:=Nl c.l
  have:=(hC c hc).2.2
  omega
 rw [show (Wn C).length=C.length from List.length_map _] at h4
 exact Nat.le_trans h4 (by omega)
theorem RH.gone (h:RH dv kv rv pv sv cv D K R P S N) {M:List Rvk} (hM:M.length≤1000000):RH dv kv (.view (rcs M) M.length false) pv sv cv D K M P S N :=
 ⟨h.d,h.dk,h.dn,h.k,h.kk,h.kn,fun G => .view (V9 M) _,hM,h.p,h.pk,h.pn,h.s,h.sk,h.c⟩
theorem Zgf (h:U0 D K R P S N pen=true) {M:List Rvk} (hM:revB M=true):U0 D K M P S N pen=true:=by
 simp only [U0,Bool.and_eq_true] at h ⊢
 obtain ⟨⟨⟨⟨⟨⟨⟨a,b⟩,c⟩,d⟩,e⟩,f⟩,g⟩,i⟩:=h
 exact ⟨⟨⟨⟨⟨⟨⟨a,hM⟩,c⟩,d⟩,e⟩,f⟩,g⟩,i⟩
theorem Gz (h:RW dv kv rv pv sv cv D K R P S N) (hx:∀ G,Sl 2 G ch (chcs (nx C)) C.length) (hC:∀ c ∈ C,c.wk) (he:∀ G,Sl 7 G en (ecs E) E.length) (hE:∀ e ∈ E,e.wk) (hmo:∀ G,Sl 2 G x (rcs mo) mo.length) (now:Int) :
  Called Tryz.prog F.clapperlaw23_CasesRevoked [.agg (fct dv kv rv pv sv cv pen ch en),x,I now] H (Bl true) H:=by
 have hv:=h.fv (Y4 hx) (Y4 he)
 have hxv:=Y4 hmo
 have tf:=fun G => Z0p (H:=G) (pen:=pen) h hx hC he hE
 have cc:(pfx false).c T.api_Code=true:=by decide
 refine Tm ?_
 simp only [fct] at tf ⊢
 simp only [Wm,go_sem,hv.dv.s,hv.kv.s,hv.rv.s,hv.pv.s,hv.sv.s,hv.cv.s,hv.ch.s,hv.en.s,hxv.s]
 refine Za Zzt (fun _ => rfl) ?_
 simp only [go_sem,hv.dv.s,hv.kv.s,hv.rv.s,hv.pv.s,hv.sv.s,hv.cv.s,hv.ch.s,hv.en.s,hxv.s]
 refine Za (tf _) (fun _ => rfl) ?_
 simp only [go_sem,hxv.s,(hmo []).lenT,(hmo []).n]
 refine ⟨fun h1 => Zc rfl,fun h1 => ?_⟩
 have h2:fewF (fewR D K R P S N) C E=true∧mo.length≤300:=by
  simp only [Bool.or_eq_false_iff,Bool.not_eq_false',decide_eq_false_iff_not] at h1
  exact ⟨h1.1,by omega⟩
 obtain ⟨hf,hm3⟩:=h2
 obtain ⟨hfr,c20,e120,hC,hE⟩:=Zmq hf hC hE
 have hR:=h.rh hfr
 have la:=fun G => E4 (H:=G) (pen:=pen) hR hx hC (by omega) he hE (by omega) now
 have tm:=fun G => Zpa (H:=G) hR.r hmo hR.rn (by omega)
 clear h1 hf
 simp only [fct] at la
 try simp only [go_sem,hv.dv.s,hv.kv.s,hv.rv.s,hv.pv.s,hv.sv.s,hv.cv.s,hv.ch.s,hv.en.s]
 refine Za (la _) (fun _ => rfl) ?_
 rw [Zha]
 cases ha:He D K R P S N C E pen now
 ·rw [if_neg (by decide)]
  simp only [go_sem,hv.dv.s,hv.kv.s,hv.rv.s,hv.pv.s,hv.sv.s,hv.cv.s,hv.ch.s,hv.en.s,hxv.s]
  refine Za (tm _) (fun _ => rfl) ?_
  rw [mrgV]
  split
  ·split
   ·simp only [go_sem]; exact Zc rfl
   ·simp only [errA,go_sem]; exact Zc rfl
  ·simp only [errA,go_sem]; exact Zc rfl
 ·rw [if_pos rfl]
  have hm:mayF (U0 D K R P S N pen) D C E=true:=by
   simp only [He,Bool.and_eq_true] at ha; exact ha.1.1
  obtain ⟨hru,c8,e1,hg,hent⟩:=mayF_iff.1 hm
  have hrv:revB R=true:=by
   simp only [U0,Bool.and_eq_true] at hru; exact hru.1.1.1.1.1.1.2
  have ed:∀ M:List Rvk,R7 K M P S N C E pen now=(pairs C).map (Zii K M P S N C E pen now):=fun _ => rfl
  simp only [go_sem,hv.dv.s,hv.kv.s,hv.rv.s,hv.pv.s,hv.sv.s,hv.cv.s,hv.ch.s,hv.en.s,hxv.s]
  refine Za (tm _) (fun _ => rfl) ?_
  rw [mrgV]
  by_cases h1:revB R=true∧revB mo=true
  ·rw [if_pos h1]
   by_cases h2:(mrg R mo).length≤200
   ·rw [if_pos h2]
    have hM:=Zps h1.1 h1.2 h2
    have hgB:He D K (mrg R mo) P S N C E pen now=true:=by
     have:=mayF_iff.2 ⟨Zgf (pen:=pen) hru hM,c8,e1,hg,hent⟩
     simp only [He,Bool.and_eq_true] at ha ⊢
     exact ⟨⟨this,ha.1.2⟩,ha.2⟩
    have lb:=fun G => E4 (H:=G) (pen:=pen) (hR.gone (M:=mrg R mo) (by omega)) hx hC (by omega) he hE (by omega) now
    rw [Zha,hgB,if_pos rfl] at lb
    simp only [fct] at lb
    have sM:∀ G,Sl 2 G (.view (rcs (mrg R mo)) (mrg R mo).length false) (rcs (mrg R mo)) (mrg R mo).length:=fun G => .view (V9 _) _
    have rm:=fun G => Zv8 (sM G) (by omega)
    rw [hM] at rm
    have hst:∀ i,i<(pairs C).length→((R7 K (mrg R mo) P S N C E pen now).getD i noCs).status=2→((R7 K R P S N C E pen now).getD i noCs).status=2:=fun i hi => by
     rw [ed,ed,Aq hi,Aq hi]
     exact Zpe h1.1 hM _
    have n1:(R7 K R P S N C E pen now).length=(pairs C).length:=List.length_map _
    have n2:(R7 K (mrg R mo) P S N C E pen now).length=(pairs C).length:=List.length_map _
    generalize R7 K R P S N C E pen now=l at *
    generalize R7 K (mrg R mo) P S N C E pen now=m at *
    generalize rcs (mrg R mo)=rc at *
    generalize (mrg R mo).length=rn at *
    simp only [go_sem]
    refine Za (rm _) (fun _ => rfl) ?_
    simp only [go_sem,hv.dv.s,hv.kv.s,hv.rv.s,hv.pv.s,hv.sv.s,hv.cv.s,hv.ch.s,hv.en.s]
    refine Za (lb _) (fun _ => rfl) ?_
    simp only [go_sem,n1,n2,bne_self_eq_false]
    have pl:=Zkl hC c20
    refine Z1 _ (fun (i:Nat) => ([(7,Bl true),(9,.view (ccs l) (pairs C).length false),(14,.view (ccs m) (pairs C).length false),(16,I i)],H++[⟨[dv,kv,.view rc rn false,pv,sv,cv,I pen,ch,en],0,true⟩])) (fun i => i≤(pairs C).length) (fun i => (pairs C).length - i) 0 (Nat.zero_le _) rfl ?_
    intro i hi
    simp only [go_sem]
    refine ⟨fun hh => ?_,fun hh => Zc rfl⟩
    have hlt:i<(pairs C).length:=by omega
    have e1:=Znt (l:=l) (i:=i) (by omega)
    have e2:=Znt (l:=m) (i:=i) (by omega)
    have hst:=hst i hlt
    have l1:=Zns l
    have l2:=Zns m
    rw [n1] at l1
    rw [n2] at l2
    have w1:IntKind.i64.wrap ((i:Int)+1)=((i+1:Nat):Int):=by rw [w64 _ (by omega) (by omega)]; omega
    generalize l.getD i noCs=y at *
    generalize m.getD i noCs=z at *
    simp only [go_sem,e1,e2,l1,l2]
    refine ⟨⟨by omega,by omega⟩,fun _ => ⟨by omega,by omega⟩,fun h3 => ?_,fun _ => ⟨i+1,by rw [w1],hlt,by omega⟩⟩
    simp only [Bool.and_eq_true,beq_iff_eq,bne_iff_ne] at h3
    exact absurd (hst h3.1) h3.2
   ·rw [if_neg h2]
    simp only [errA,go_sem]; exact Zc rfl
  ·rw [if_neg h1]
   simp only [errA,go_sem]; exact Zc rfl
end
end Go.Proofs.YtcgjlpdkobmpnaaGreat.Eng

