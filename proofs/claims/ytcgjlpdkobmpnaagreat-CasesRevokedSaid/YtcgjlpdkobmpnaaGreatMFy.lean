/- Layer 22, the document: small facts. -/
import Derived.Test.YtcgjlpdkobmpnaaGreatMFx
import Derived.Test.YtcgjlpdkobmpnaaGreatMRo
namespace Go.Proofs.YtcgjlpdkobmpnaaGreat.Eng
open Go Go.Proofs
set_option linter.unusedVariables false
set_option linter.unusedSimpArgs false
set_option maxRecDepth 10000
structure RW (dv kv rv pv sv cv:AV) (D K:List Key) (R:List Rvk) (P:List Prd) (S:List Sv) (N:List Cn):Prop where
 d:∀ G,Sl 12 G dv (kcs D) D.length
 dk:∀ p ∈ D,p.ok
 k:∀ G,Sl 12 G kv (kcs K) K.length
 kk:∀ p ∈ K,p.ok
 r:∀ G,Sl 2 G rv (rcs R) R.length
 p:∀ G,Sl 7 G pv (pcs P) P.length
 pk:∀ p ∈ P,p.ok
 pn:P.length≤140737488355328
 s:∀ G,Sl 5 G sv (svcs S) S.length
 sk:∀ p ∈ S,p.ok
 c:∀ G,Sl 5 G cv (cncs N) N.length
def Chx.wk (c:Chx):Prop:=(∀ H,Sl 1 H c.s (c.l.map Bt.e) c.l.length)∧(∀ y ∈ c.l,(∀ H,Sl 1 H y.e (bs y.b) y.b.length)∧y.e.pure=true∧y.e.one=true)∧c.l.length≤140737488355328
def Ent.wk (e:Ent):Prop:=∀ H,Sl 1 H e.s (bs e.b) e.b.length
def fewR (D K:List Key) (R:List Rvk) (P:List Prd) (S:List Sv) (N:List Cn):Bool:=(((fewN S N&&(decide (P.length≤60)&&decide (∀ p ∈ P,p.few)))&&decide (D.length≤40))&&decide (K.length≤40))&&decide (R.length≤300)
def sumL (C:List Chx):Nat:=(C.map fun c => c.l.length).sum
def fewF (fr:Bool) (C:List Chx) (E:List Ent):Bool:=((((fr&&decide (C.length≤20))&&decide (E.length≤120))&&decide (∀ c ∈ C,∀ y ∈ c.l,y.b.length≤3000))&&decide (∀ e ∈ E,e.b.length≤2000))&&decide (sumL C≤12)
section
variable {H:AH} {x:AV} {dv kv rv pv sv cv ch en:AV} {pen:Int} {D K:List Key} {R:List Rvk} {P:List Prd} {S:List Sv} {N:List Cn} {C:List Chx} {E:List Ent} {b:List UInt8}
theorem RW.fv (h:RW dv kv rv pv sv cv D K R P S N) (hch:Vw ch) (hen:Vw en):FV dv kv rv pv sv cv ch en:=⟨Y4 h.d,Y4 h.k,Y4 h.r,Y4 h.p,Y4 h.s,Y4 h.c,hch,hen⟩
theorem RW.rh (h:RW dv kv rv pv sv cv D K R P S N) (hf:fewR D K R P S N=true):RH dv kv rv pv sv cv D K R P S N:=by
 simp only [fewR,fewN,Bool.and_eq_true,decide_eq_true_eq] at hf
 obtain ⟨⟨⟨⟨⟨⟨h1,h2⟩,h3⟩,h4,h5⟩,h6⟩,h7⟩,h8⟩:=hf
 exact ⟨h.d,h.dk,by omega,h.k,h.kk,by omega,h.r,by omega,h.p,fun p hp => ⟨h.pk p hp,h5 p hp⟩,by omega,h.s,fun p hp => ⟨h.sk p hp,h3 p hp⟩,h.c⟩
theorem Zvj (h:RW dv kv rv pv sv cv D K R P S N):Called Tryz.prog F.clapperref22_FewRules [.agg [dv,kv,rv,pv,sv,cv,I pen]] H (Bl (fewR D K R P S N)) H:=by
 have hv:=h.fv (ch:=nilS) (en:=nilS) (.inl rfl) (.inl rfl)
 have tr:=fun G => Zz5 (H:=G) (h.s G) (h.c G) h.sk
 simp only [net] at tr
 refine Rq ?_
 simp only [Ve,go_sem,hv.dv.s,hv.kv.s,hv.rv.s,hv.pv.s,hv.sv.s,hv.cv.s]
 refine Za (tr _) (fun _ => rfl) ?_
 simp only [go_sem,hv.dv.s,hv.kv.s,hv.rv.s,hv.pv.s,hv.sv.s,hv.cv.s]
 refine Za (Z35 (h.p _) h.pk h.pn) (fun _ => rfl) ?_
 simp only [go_sem,hv.dv.s,hv.kv.s,hv.rv.s,hv.pv.s,hv.sv.s,hv.cv.s,(h.d []).lenT,(h.d []).n,(h.k []).lenT,(h.k []).n,(h.r []).lenT,(h.r []).n]
 refine Zc ?_
 have e1:decide ((D.length:Int)≤40)=decide (D.length≤40):=by rw [Bool.eq_iff_iff]; simp; omega
 have e2:decide ((K.length:Int)≤40)=decide (K.length≤40):=by rw [Bool.eq_iff_iff]; simp; omega
 have e3:decide ((R.length:Int)≤300)=decide (R.length≤300):=by rw [Bool.eq_iff_iff]; simp; omega
 rw [fewR,e1,e2,e3]; rfl
end
section
variable {H:AH} {x:AV} {dv kv rv pv sv cv ch en:AV} {pen:Int} {D K:List Key} {R:List Rvk} {P:List Prd} {S:List Sv} {N:List Cn} {C:List Chx} {E:List Ent} {b:List UInt8}
theorem Be {i:Nat} (h:i<C.length):sumL (C.take (i+1))=sumL (C.take i)+(C.getD i noX).l.length:=by
 rw [List.take_succ_eq_append_getElem h,sumL,List.map_append,List.sum_append,List.getD_eq_getElem?_getD,List.getElem?_eq_getElem h]
 simp [sumL]
theorem Zvu {B:Nat} (h:∀ c ∈ C,c.l.length≤B):sumL C≤C.length*B:=by
 induction C with
 | nil => simp [sumL]
 | cons c C ih =>
  have:=ih fun c hc => h c (by simp [hc])
  have:=h c (by simp)
  have e:sumL (c::C)=c.l.length+sumL C:=by simp [sumL]
  rw [e,List.length_cons,Nat.add_mul]; omega
theorem Ent.wfd (hx:Sl 7 H x (ecs E) E.length) {i:Nat} (h:i<E.length):Yc false 1 H (fldV 5 (Z5 7 (I (i:Int)) x))=(E.getD i noEn).s:=by
 rw [hx.fd .i64 (o:=5) (m:=1) h (by decide) (by decide),if_neg (by decide)]
 exact W7 Ent.cells 7 Ent.len E i 5 noEn h (by decide)
theorem Z3a (hx:Sl 2 H x (chcs (nx C)) C.length) {i:Nat} (h:i<C.length):Yc false 1 H (fldV 1 (Z5 2 (I (i:Int)) x))=(C.getD i noX).s:=by
 rw [hx.fd .i64 (o:=1) (m:=1) h (by decide) (by decide),if_neg (by decide)]
 rw [show chcs (nx C)=C.flatMap (fun c => c.n.cells) from by rw [chcs,List.flatMap_map]]
 exact W7 (fun c:Chx => c.n.cells) 2 (fun _ => rfl) C i 1 noX h (by decide)
theorem Z0p (h:RW dv kv rv pv sv cv D K R P S N) (hx:∀ G,Sl 2 G ch (chcs (nx C)) C.length) (hC:∀ c ∈ C,c.wk) (he:∀ G,Sl 7 G en (ecs E) E.length) (hE:∀ e ∈ E,e.wk) :
  Called Tryz.prog F.clapperref22_Few [.agg (fct dv kv rv pv sv cv pen ch en)] H (Bl (fewF (fewR D K R P S N) C E)) H:=by
 have hcv:Vw ch:=Y4 hx
 have hev:Vw en:=Y4 he
 have hv:=h.fv hcv hev
 have tr:=fun G => Zvj (H:=G) (pen:=pen) h
 refine Mu ?_
 simp only [fct]
 simp only [Th,go_sem,hv.dv.s,hv.kv.s,hv.rv.s,hv.pv.s,hv.sv.s,hv.cv.s,hv.ch.s,hv.en.s]
 refine Za (tr _) (fun _ => rfl) ?_
 simp only [go_sem,hv.ch.s,hv.en.s,(hx []).lenT,(hx []).n,(he []).lenT,(he []).n]
 generalize fewR D K R P S N=rb
 refine ⟨fun h1 => ?_,fun h1 => ?_⟩
 ·have e1:((rb&&decide (C.length≤20))&&decide (E.length≤120))=false:=by
   cases rb
   ·rfl
   ·simp only [Bool.not_true,Bool.false_or,Bool.or_eq_true,decide_eq_true_eq] at h1
    rcases h1 with h1 | h1
    ·rw [decide_eq_false (by omega)]; rfl
    ·rw [Bool.and_assoc,decide_eq_false (show ¬ E.length≤120 by omega)]; simp
  rw [fewF,e1,Bool.false_and,Bool.false_and,Bool.false_and]
  exact Zc rfl
 ·have e1:rb=true∧C.length≤20∧E.length≤120:=by
   simp only [Bool.or_eq_false_iff,Bool.not_eq_false',decide_eq_false_iff_not] at h1
   exact ⟨h1.1.1,by omega,by omega⟩
  obtain ⟨rfl,c20,e120⟩:=e1
  have hsum:∀ i,sumL (C.take i)≤2814749767106560:=fun i => by
   have h1:=Zvu (C:=C.take i) (B:=140737488355328) fun c hc => (hC c (List.mem_of_mem_take hc)).2.2
   have h2:(C.take i).length≤20:=by rw [List.length_take]; omega
   omega
  rw [fewF,decide_eq_true c20,decide_eq_true e120,Bool.true_and,Bool.true_and]
  clear h1
  refine Z1 _ (fun (i:Nat) => ([(1,.ptr H.length 0),(4,I (sumL (C.take i))),(5,I i)],H++[⟨[dv,kv,rv,pv,sv,cv,I pen,ch,en],0,true⟩])) (fun i => i≤C.length∧∀ c ∈ C.take i,∀ y ∈ c.l,y.b.length≤3000) (fun i => C.length - i) 0 ⟨Nat.zero_le _,fun c hc => (by rw [List.take_zero] at hc; cases hc)⟩ rfl ?_
  rintro i ⟨hi,hj⟩
  try dsimp only at hi hj
  simp only [go_sem,hv.ch.s,(hx []).lenT,(hx []).n]
  refine ⟨fun hh => ?_,fun hh => ?_⟩
  ·have hlt:i<C.length:=by omega
   have hco:=hC _ (Zl noX hlt)
   have hs:=hsum (i+1)
   rw [Be hlt] at hs
   have hmem:=Zl noX hlt
   have ld:∀ K,Yc false 1 K (fldV 1 (Z5 2 (I (i:Int)) ch))=(C.getD i noX).s:=fun K => Z3a (hx K) hlt
   have fk:=fun K => (hx K).fdOk .i64 (o:=1) (m:=1) hlt (by decide)
   have hts:=Be hlt
   have htk:C.take (i+1)=C.take i++[C.getD i noX]:=by
    rw [List.take_succ_eq_append_getElem hlt,List.getD_eq_getElem?_getD,List.getElem?_eq_getElem hlt]; rfl
   generalize C.getD i noX=c at *
   have hcsv:=Y4 hco.1
   have w1:IntKind.i64.wrap ((sumL (C.take i):Int)+(c.l.length:Int))=((sumL (C.take (i+1)):Nat):Int):=by
    rw [w64 _ (by omega) (by omega),hts]; omega
   simp only [go_sem,(hx []).idx,ld,(fk []).1,fun K => (fk K).2,hcsv.s,(hco.1 []).lenT,(hco.1 []).n,w1]
   refine ⟨⟨by omega,by omega⟩,?_⟩
   refine Z1 _ (fun (k:Nat) => ([(1,.ptr H.length 0),(4,I (sumL (C.take (i+1)))),(5,I i),(6,I k)],H++[⟨[dv,kv,rv,pv,sv,cv,I pen,ch,en],0,true⟩])) (fun k => k≤c.l.length∧∀ y ∈ c.l.take k,y.b.length≤3000) (fun k => c.l.length - k) 0 ⟨Nat.zero_le _,fun c hc => (by rw [List.take_zero] at hc; cases hc)⟩ rfl ?_
   rintro k ⟨hk,hy⟩
   try dsimp only at hk hy
   simp only [go_sem,(hx []).idx,ld,(fk []).1,fun K => (fk K).2,hcsv.s,(hco.1 []).lenT,(hco.1 []).n]
   refine ⟨⟨by omega,by omega⟩,fun hh2 => ?_,fun hh2 => ?_⟩
   ·have hlt2:k<c.l.length:=by omega
    obtain ⟨hyo,hyp,hy1⟩:=hco.2.1 _ (Zl noB hlt2)
    have ld2:∀ K,Yc false 1 K (Z5 1 (I (k:Int)) c.s)=(c.l.getD k noB).e:=fun K => by
     rw [(hco.1 K).ld1 .i64 hlt2,List.getD_eq_getElem?_getD,List.getElem?_map,List.getD_eq_getElem?_getD,List.getElem?_eq_getElem hlt2]; rfl
    have lk2:∀ K,Z6 1 K (Z5 1 (I (k:Int)) c.s)=True:=fun K => (hco.1 K).ldOk .i64 hlt2 (Nat.le_refl _)
    have hn3:=hco.2.2
    have htk2:c.l.take (k+1)=c.l.take k++[c.l.getD k noB]:=by
     rw [List.take_succ_eq_append_getElem hlt2,List.getD_eq_getElem?_getD,List.getElem?_eq_getElem hlt2]; rfl
    have hm2:=Zl noB hlt2
    generalize c.l.getD k noB=y at *
    have hyv:=Y4 hyo
    simp only [go_sem,(hco.1 []).idx,ld2,lk2,hyv.s,(hyo []).lenT,(hyo []).n]
    refine ⟨⟨by omega,by omega⟩,⟨by omega,by omega⟩,fun hb => ?_,fun hb => ?_⟩
    ·have:decide (∀ c ∈ C,∀ y ∈ c.l,y.b.length≤3000)=false:=decide_eq_false fun hh => by
      have:=hh c hmem y hm2; omega
     rw [this,Bool.false_and,Bool.false_and]
     exact Zc rfl
    ·refine ⟨k+1,by rw [w64 _ (by omega) (by omega)]; rfl,⟨by omega,?_⟩,by omega⟩
     rw [htk2]
     intro z hz
     rcases List.mem_append.1 hz with hz | hz
     ·exact hy z hz
     ·rw [List.mem_singleton.1 hz]; omega
   ·have hk':k=c.l.length:=by omega
    subst hk'
    rw [List.take_length] at hy
    refine ⟨i+1,by rw [w64 _ (by omega) (by omega)]; rfl,⟨by omega,?_⟩,by omega⟩
    rw [htk]
    intro z hz
    rcases List.mem_append.1 hz with hz | hz
    ·exact hj z hz
    ·rw [List.mem_singleton.1 hz]; exact hy
  ·have hi':i=C.length:=by omega
   subst hi'
   rw [List.take_length] at hj
   rw [decide_eq_true hj,Bool.true_and,List.take_length]
   have hs:=hsum C.length
   rw [List.take_length] at hs
   refine Z1 _ (fun (i:Nat) => ([(1,.ptr H.length 0),(4,I (sumL C)),(7,I i)],H++[⟨[dv,kv,rv,pv,sv,cv,I pen,ch,en],0,true⟩])) (fun i => i≤E.length∧∀ e ∈ E.take i,e.b.length≤2000) (fun i => E.length - i) 0 ⟨Nat.zero_le _,fun c hc => (by rw [List.take_zero] at hc; cases hc)⟩ rfl ?_
   clear hi hh
   rintro i ⟨hi,hj⟩
   try dsimp only at hi hj
   simp only [go_sem,hv.en.s,(he []).lenT,(he []).n]
   refine ⟨fun hh => ?_,fun hh => ?_⟩
   ·have hlt:i<E.length:=by omega
    have heo:=hE _ (Zl noEn hlt)
    have hmem:=Zl noEn hlt
    have ld:∀ K,Yc false 1 K (fldV 5 (Z5 7 (I (i:Int)) en))=(E.getD i noEn).s:=fun K => Ent.wfd (he K) hlt
    have fk:=fun K => (he K).fdOk .i64 (o:=5) (m:=1) hlt (by decide)
    have htk:E.take (i+1)=E.take i++[E.getD i noEn]:=by
     rw [List.take_succ_eq_append_getElem hlt,List.getD_eq_getElem?_getD,List.getElem?_eq_getElem hlt]; rfl
    generalize E.getD i noEn=e at *
    have hesv:=Y4 heo
    simp only [go_sem,(he []).idx,ld,(fk []).1,fun K => (fk K).2,hesv.s,(heo []).lenT,(heo []).n]
    refine ⟨⟨by omega,by omega⟩,fun hb => ?_,fun hb => ?_⟩
    ·have:decide (∀ e ∈ E,e.b.length≤2000)=false:=decide_eq_false fun hh => by
      have:=hh e hmem; omega
     rw [this,Bool.false_and]
     exact Zc rfl
    ·refine ⟨i+1,by rw [w64 _ (by omega) (by omega)]; rfl,⟨by omega,?_⟩,by omega⟩
     rw [htk]
     intro z hz
     rcases List.mem_append.1 hz with hz | hz
     ·exact hj z hz
     ·rw [List.mem_singleton.1 hz]; omega
   ·have hi':i=E.length:=by omega
    subst hi'
    rw [List.take_length] at hj
    rw [decide_eq_true hj,Bool.true_and]
    have e1:decide (((sumL C:Nat):Int)≤12)=decide (sumL C≤12):=by rw [Bool.eq_iff_iff]; simp; omega
    rw [← e1]
    exact Zc rfl
end
abbrev Ct:=Int × List (List UInt8)
def Chx.ct (c:Chx):Ct:=(c.dev,c.l.map Bt.b)
abbrev cts (C:List Chx):List Ct:=C.map Chx.ct
def isK:List Ct→Int→Bool
 | [],d => false
 | c::r,d => if c.1<d then isK r d else decide (c.1=d)
def rcK:List Ct→Int→List (List UInt8)
 | [],d => []
 | c::r,d => if c.1<d then rcK r d else if c.1=d then c.2 else []
def putK:List Ct→Int→List (List UInt8)→List Ct
 | [],d,v => [(d,v)]
 | c::r,d,v => if c.1<d then c::putK r d v else if c.1=d then (d,v)::r else (d,v)::c::r
noncomputable def Zqu (l:List (List UInt8)):List UInt8:=if l.length=0 then zd else lnkB (l.getD (l.length - 1) [])
noncomputable def Zo2 (D:List Key) (l:List (List UInt8)) (d:Int) (b:List UInt8):Int:=match Xw b with
 | none => 2
 | some (r,h,s,t) =>
  if r.dev≠d then 2 else
  if r.seq≠l.length∨r.prev≠Zqu l then 7 else
  match (if Rm D then fOf D d r.min_ else none) with
  | none => 4
  | some k => if verB k.x k.y k.far h s t=false then 8 else
   if 60≤l.length then 6 else 0
noncomputable def Z1n (l:List (List UInt8)) (seq:Int):Rec × Bool:=if seq<0∨l.length≤seq then (noRec,false) else
 match Xw (l.getD seq.toNat []) with
 | none => (noRec,false)
 | some (r,_,_,_) => (r,r.kind == 2)
theorem Du (c:Chx) (C:List Chx) (d:Int):plc (nx (c::C)) d=if c.dev<d then plc (nx C) d+1 else 0:=by
 show (List.takeWhile _ (c.n::nx C)).length=_
 rw [List.takeWhile_cons]
 by_cases h:c.dev<d
 ·rw [if_pos h,if_pos (show decide (c.n.dev<d)=true from decide_eq_true h)]; rfl
 ·rw [if_neg h,if_neg (show ¬ decide (c.n.dev<d)=true from fun h2 => h (of_decide_eq_true h2))]; rfl
theorem Hh (c:Chx) (C:List Chx) (d:Int):isCh (nx (c::C)) d=if c.dev<d then isCh (nx C) d else decide (c.dev=d):=by
 rw [isCh,Du]
 by_cases h:c.dev<d
 ·rw [if_pos h,if_pos h,isCh]
  have e1:decide (plc (nx C) d+1<(nx (c::C)).length)=decide (plc (nx C) d<(nx C).length):=by
   rw [Bool.eq_iff_iff]; simp
  have e2:(nx (c::C)).getD (plc (nx C) d+1) noC=(nx C).getD (plc (nx C) d) noC:=rfl
  rw [e1,e2]
 ·rw [if_neg h,if_neg h]
  have e1:decide (0<(nx (c::C)).length)=true:=by simp
  rw [e1,Bool.true_and]; rfl
theorem Z15 (C:List Chx) (d:Int):isCh (nx C) d=isK (cts C) d:=by
 induction C with
 | nil => rfl
 | cons c C ih => rw [Hh,ih]; rfl
theorem Zgh (c:Chx) (C:List Chx) (d:Int):Xd (c::C) d=if c.dev<d then Xd C d else if c.dev=d then c.l else []:=by
 rw [Xd,Hh,Du]
 by_cases h:c.dev<d
 ·rw [if_pos h,if_pos h,if_pos h,Xd]; rfl
 ·rw [if_neg h,if_neg h,if_neg h]
  by_cases h2:c.dev=d
  ·rw [if_pos (by simpa using h2),if_pos h2]; rfl
  ·rw [if_neg (by simpa using h2),if_neg h2]
theorem Dj (C:List Chx) (d:Int):(Xd C d).map Bt.b=rcK (cts C) d:=by
 induction C with
 | nil => rfl
 | cons c C ih =>
  rw [Zgh]
  show _=(if c.dev<d then rcK (cts C) d else if c.dev=d then c.l.map Bt.b else [])
  split
  ·exact ih
  ·split
   ·rfl
   ·rfl
theorem Iq (C:List Chx) (d:Int):(Xd C d).length=(rcK (cts C) d).length:=by rw [← Dj,List.length_map]
theorem Zqb (C:List Chx) (d:Int) (b:List UInt8):(Pq C d b).ct=(d,rcK (cts C) d++[b]):=by
 show (d,((Xd C d)++[_]).map Bt.b)=_
 rw [List.map_append,Dj]; rfl
theorem Z08 (X:Chx):∀ (C:List Chx) (d:Int),X.dev=d→cts (if isCh (nx C) d then C.set (plc (nx C) d) X else C.take (plc (nx C) d)++([X]++C.drop (plc (nx C) d)))=putK (cts C) d (X.l.map Bt.b)
 | [],d,h => by subst h; rfl
 | c::C,d,h => by
  have ih:=Z08 X C d h
  rw [Hh,Du]
  show _=(if c.dev<d then c.ct::putK (cts C) d (X.l.map Bt.b) else if c.dev=d then (d,X.l.map Bt.b)::cts C else (d,X.l.map Bt.b)::c.ct::cts C)
  by_cases h1:c.dev<d
  ·rw [if_pos h1,if_pos h1,if_pos h1,← ih]
   split
   ·rfl
   ·rfl
  ·rw [if_neg h1,if_neg h1,if_neg h1]
   by_cases h2:c.dev=d
   ·rw [if_pos (by simpa using h2),if_pos h2]; subst h; rfl
   ·rw [if_neg (by simpa using h2),if_neg h2]; subst h; rfl
theorem Zu4 (C:List Chx) (d:Int) (b:List UInt8):cts (Vi C d b)=putK (cts C) d (rcK (cts C) d++[b]):=by
 have:=Z08 (Pq C d b) C d rfl
 have e:(Pq C d b).l.map Bt.b=rcK (cts C) d++[b]:=congrArg Prod.snd (Zqb C d b)
 rw [e] at this
 exact this
theorem Zw4 (l:List Bt):Jd l=Zqu (l.map Bt.b):=by
 rw [Jd,Zqu,List.length_map]
 split
 ·rfl
 ·rename_i h
  have hlt:l.length - 1<l.length:=by omega
  rw [List.getD_eq_getElem?_getD,List.getD_eq_getElem?_getD,List.getElem?_map,List.getElem?_eq_getElem hlt]; rfl
theorem Zkx (C:List Chx) (d q:Int):Ua C d q=Z1n (rcK (cts C) d) q:=by
 rw [Ua,Z1n,Iq]
 split
 ·rfl
 ·rename_i h
  have hlt:q.toNat<(Xd C d).length:=by rw [Iq]; omega
  rw [← Dj,List.getD_eq_getElem?_getD,List.getD_eq_getElem?_getD,List.getElem?_map,List.getElem?_eq_getElem hlt]; rfl
theorem Zu3 (D:List Key) (C:List Chx) (d:Int) (b:List UInt8):Gx D C d b=0↔Zo2 D (rcK (cts C) d) d b=0∧(isK (cts C) d=false→C.length<8):=by
 rw [Gx,Zo2,Zw4,Dj,Iq,Z15]
 cases Xw b with
 | none => simp
 | some p =>
  obtain ⟨r,h,s,t⟩:=p
  dsimp only
  have no:∀ n:Int,n≠0→(n=0↔n=0∧(isK (cts C) d=false→C.length<8)):=fun n hn => ⟨fun h => absurd h hn,fun h => absurd h.1 hn⟩
  by_cases h1:r.dev≠d
  ·rw [if_pos h1,if_pos h1]; exact no _ (by decide)
  ·rw [if_neg h1,if_neg h1]
   by_cases h2:r.seq≠(rcK (cts C) d).length∨r.prev≠Zqu (rcK (cts C) d)
   ·rw [if_pos h2,if_pos h2]; exact no _ (by decide)
   ·rw [if_neg h2,if_neg h2]
    cases (if Rm D=true then fOf D d r.min_ else none) with
    | none => exact no 4 (by decide)
    | some k =>
     dsimp only
     by_cases h3:verB k.x k.y k.far h s t=false
     ·rw [if_pos h3,if_pos h3]; exact no _ (by decide)
     ·rw [if_neg h3,if_neg h3]
      by_cases h4:60≤(rcK (cts C) d).length
      ·rw [if_pos h4,if_pos (.inl h4)]; exact no _ (by decide)
      ·rw [if_neg h4]
       by_cases h5:isK (cts C) d=false∧8≤C.length
       ·rw [if_pos (.inr h5)]
        exact ⟨fun h => absurd h (by decide),fun h => by have:=h.2 h5.1; omega⟩
       ·rw [if_neg (fun h => h.elim h4 h5)]
        exact ⟨fun _ => ⟨rfl,fun h => Nat.lt_of_not_le fun h6 => h5 ⟨h,h6⟩⟩,fun _ => rfl⟩
/-! ### Contents alone -/
section
variable {X:List Ct} {d e:Int} {v w:List (List UInt8)}
theorem Zlv:∀ (X:List Ct) (d e:Int) (v:List (List UInt8)),isK (putK X d v) e=if e=d then true else isK X e
 | [],d,e,v => by
  show (if d<e then false else decide (d=e))=(if e=d then true else false)
  by_cases h:e=d
  ·subst h; simp
  ·rw [if_neg h]; split
   ·rfl
   ·exact decide_eq_false fun h2 => h h2.symm
 | c::r,d,e,v => by
  have ih:=Zlv r d e v
  rw [putK]
  split
  ·rename_i h1
   rw [isK,ih,isK]
   by_cases h:e=d
   ·subst h; rw [if_pos h1,if_pos rfl,if_pos rfl]
   ·rw [if_neg h,if_neg h]
  ·split
   ·rename_i h1 h2
    rw [isK,isK]
    subst h2
    by_cases h:e=c.1
    ·subst h; simp
    ·rw [if_neg h]
   ·rename_i h1 h2
    rw [isK]
    by_cases h:e=d
    ·subst h; simp
    ·rw [if_neg h]
     dsimp only
     split
     ·rfl
     ·rw [isK,if_neg (by omega),decide_eq_false (by omega),decide_eq_false (by omega)]
theorem Zkf:∀ (X:List Ct) (d e:Int) (v:List (List UInt8)),rcK (putK X d v) e=if e=d then v else rcK X e
 | [],d,e,v => by
  show (if d<e then [] else if d=e then v else [])=(if e=d then v else [])
  by_cases h:e=d
  ·subst h; simp
  ·rw [if_neg h,if_neg (fun h2:d=e => h h2.symm)]; simp
 | c::r,d,e,v => by
  have ih:=Zkf r d e v
  rw [putK]
  split
  ·rename_i h1
   rw [rcK,ih,rcK]
   by_cases h:e=d
   ·subst h; rw [if_pos h1,if_pos rfl,if_pos rfl]
   ·rw [if_neg h,if_neg h]
  ·split
   ·rename_i h1 h2
    rw [rcK,rcK]
    subst h2
    by_cases h:e=c.1
    ·subst h; simp
    ·rw [if_neg h,if_neg (fun h2:c.1=e => h h2.symm),if_neg (fun h2:c.1=e => h h2.symm)]
   ·rename_i h1 h2
    rw [rcK]
    by_cases h:e=d
    ·subst h; simp
    ·rw [if_neg h]
     dsimp only
     split
     ·rfl
     ·rw [if_neg (by omega),rcK,if_neg (by omega),if_neg (by omega)]
theorem Zer:∀ (X:List Ct) (d:Int) (v w:List (List UInt8)),putK (putK X d v) d w=putK X d w
 | [],d,v,w => by
  show (if d<d then _ else if d=d then _ else _)=_
  rw [if_neg (by omega),if_pos rfl]; rfl
 | c::r,d,v,w => by
  have ih:=Zer r d v w
  rw [putK]
  split
  ·rename_i h1
   rw [putK,if_pos h1,ih,putK,if_pos h1]
  ·rename_i h1
   split
   ·rename_i h2
    rw [putK]
    dsimp only
    rw [if_neg (by omega),if_pos rfl,putK,if_neg h1,if_pos h2]
   ·rename_i h2
    rw [putK]
    dsimp only
    rw [if_neg (by omega),if_pos rfl,putK,if_neg h1,if_neg h2]
theorem behind:∀ {X:List Ct} {d:Int},(∀ c ∈ X,c.1<d)→isK X d=false∧rcK X d=[]∧∀ v,putK X d v=X++[(d,v)]
 | [],d,h => ⟨rfl,rfl,fun v => rfl⟩
 | c::r,d,h => by
  obtain ⟨i1,i2,i3⟩:=behind (X:=r) (d:=d) fun c hc => h c (by simp [hc])
  have hc:=h c (by simp)
  exact ⟨by rw [isK,if_pos hc,i1],by rw [rcK,if_pos hc,i2],fun v => by rw [putK,if_pos hc,i3]; rfl⟩
end
noncomputable def Ol (D:List Key) (d:Int):List (List UInt8)→List (List UInt8)→Bool
 | acc,[] => true
 | acc,b::r => decide (Zo2 D acc d b=0)&&Ol D d (acc++[b]) r
theorem Bc (D:List Key) (d:Int):∀ (l:List Bt) (g:List Chx),(Vv D g d l).map cts=if Ol D d (rcK (cts g) d) (l.map Bt.b)=true∧(l≠[]→isK (cts g) d=false→g.length<8) then some (if l=[] then cts g else putK (cts g) d (rcK (cts g) d++l.map Bt.b)) else none
 | [],g => by
  rw [if_pos ⟨rfl,fun h => absurd rfl h⟩,if_pos rfl]; rfl
 | y::r,g => by
  have hk:=Zu3 D g d y.b
  rw [Vv]
  by_cases h:Gx D g d y.b=0
  ·rw [if_pos h,Bc D d r (Vi g d y.b),Zu4,Zkf,if_pos rfl,Zlv,if_pos rfl,Zer]
   obtain ⟨h1,h2⟩:=hk.1 h
   have e1:Ol D d (rcK (cts g) d) ((y::r).map Bt.b)=Ol D d (rcK (cts g) d++[y.b]) (r.map Bt.b):=by
    show (decide _&&_)=_
    rw [decide_eq_true h1,Bool.true_and]
   rw [e1]
   by_cases h3:Ol D d (rcK (cts g) d++[y.b]) (r.map Bt.b)=true
   ·have c1:Ol D d (rcK (cts g) d++[y.b]) (r.map Bt.b)=true∧(r≠[]→true=false→(Vi g d y.b).length<8):=⟨h3,fun _ h => by cases h⟩
    have c2:Ol D d (rcK (cts g) d++[y.b]) (r.map Bt.b)=true∧(y::r≠[]→isK (cts g) d=false→g.length<8):=⟨h3,fun _ => h2⟩
    rw [if_pos c1,if_pos c2,if_neg (List.cons_ne_nil y r)]
    by_cases h4:r=[]
    ·subst h4; rw [if_pos rfl]; rfl
    ·rw [if_neg h4,List.append_assoc]; rfl
   ·have c1:¬ (Ol D d (rcK (cts g) d++[y.b]) (r.map Bt.b)=true∧(r≠[]→true=false→(Vi g d y.b).length<8)):=fun h => h3 h.1
    have c2:¬ (Ol D d (rcK (cts g) d++[y.b]) (r.map Bt.b)=true∧(y::r≠[]→isK (cts g) d=false→g.length<8)):=fun h => h3 h.1
    rw [if_neg c1,if_neg c2]
  ·rw [if_neg h,if_neg]
   ·rfl
   ·intro ⟨h1,h2⟩
    refine h (hk.2 ⟨?_,h2 (List.cons_ne_nil _ _)⟩)
    have h1:(decide (Zo2 D (rcK (cts g) d) d y.b=0)&&_)=true:=h1
    rw [Bool.and_eq_true,decide_eq_true_eq] at h1
    exact h1.1
def abv (p:Option Int) (d:Int):Bool:=match p with | some q => decide (q<d) | none => true
noncomputable def Mk (D:List Key):Option Int→Nat→List Ct→Bool
 | p,n,[] => true
 | p,n,c::r => ((abv p c.1&&decide (c.2.length≠0))&&(Ol D c.1 [] c.2&&decide (n<8)))&&Mk D (some c.1) (n+1) r
def Z19 (D:List Key) (X:List Ct):Prop:=X.Pairwise (fun a b => a.1<b.1)∧∀ c ∈ X,c.2.length≠0∧Ol D c.1 [] c.2=true
theorem Am (D:List Key):∀ (X:List Ct) (p:Option Int) (n:Nat),Mk D p n X=true↔(∀ q,p=some q→∀ c ∈ X,q<c.1)∧Z19 D X∧(X≠[]→n+X.length≤8)
 | [],p,n => ⟨fun _ => ⟨fun _ _ c h => (by cases h),⟨.nil,fun c h => (by cases h)⟩,fun h => absurd rfl h⟩,fun _ => rfl⟩
 | c::r,p,n => by
  have ih:=Am D r (some c.1) (n+1)
  have e0:Mk D p n (c::r)=(((abv p c.1&&decide (c.2.length≠0))&&(Ol D c.1 [] c.2&&decide (n<8)))&&Mk D (some c.1) (n+1) r):=rfl
  rw [e0,Bool.and_eq_true,ih,Bool.and_eq_true,Bool.and_eq_true,Bool.and_eq_true,decide_eq_true_eq,decide_eq_true_eq]
  have hp:abv p c.1=true↔∀ q,p=some q→q<c.1:=by
   cases p with
   | none => exact ⟨fun _ q h => (by cases h),fun _ => rfl⟩
   | some q => exact ⟨fun h q' hq => by cases hq; exact of_decide_eq_true h,fun h => decide_eq_true (h q rfl)⟩
  rw [hp]
  constructor
  ·rintro ⟨⟨⟨h1,h2⟩,h3,h4⟩,h5,⟨h6,h7⟩,h8⟩
   refine ⟨fun q hq a ha => ?_,⟨List.pairwise_cons.2 ⟨h5 c.1 rfl,h6⟩,fun a ha => ?_⟩,fun _ => ?_⟩
   ·rcases List.mem_cons.1 ha with rfl | ha
    ·exact h1 q hq
    ·have:=h1 q hq; have:=h5 c.1 rfl a ha; omega
   ·rcases List.mem_cons.1 ha with rfl | ha
    ·exact ⟨h2,h3⟩
    ·exact h7 a ha
   ·rw [List.length_cons]
    by_cases hr:r=[]
    ·subst hr; simp; omega
    ·have:=h8 hr; omega
  ·rintro ⟨h1,⟨h2,h3⟩,h4⟩
   obtain ⟨h5,h6⟩:=List.pairwise_cons.1 h2
   have h4:=h4 (List.cons_ne_nil _ _)
   rw [List.length_cons] at h4
   have hc:=h3 c (by simp)
   exact ⟨⟨⟨fun q hq => h1 q hq c (by simp),hc.1⟩,hc.2,by omega⟩,fun q hq a ha => by cases hq; exact h5 a ha,⟨h6,fun a ha => h3 a (by simp [ha])⟩,fun _ => by omega⟩
theorem Gs (D:List Key):∀ (l:List Chx) (p:Option Int) (g:List Chx),(∀ c ∈ cts g,∃ q,p=some q∧c.1≤q)→(Xs D p g l).map cts=if Mk D p g.length (cts l)=true then some (cts g++cts l) else none
 | [],p,g,h => by
  rw [if_pos (show Mk D p g.length (cts [])=true from rfl),show cts []=[] from rfl,List.append_nil]; rfl
 | c::r,p,g,h => by
  have hb:badC p c = !(abv p c.dev&&decide (c.ct.2.length≠0)):=by
   have e0:decide (c.l.length=0) = !decide (c.ct.2.length≠0):=by
    rw [Bool.eq_iff_iff]; simp [Chx.ct]
   have e1:badC p c=(!abv p c.dev || decide (c.l.length=0)):=by
    cases p with
    | none => rfl
    | some q =>
     have:(!decide (q<c.dev))=decide (c.dev≤q):=by rw [Bool.eq_iff_iff]; simp
     show (decide (c.dev≤q) || _)=(!decide (q<c.dev) || _)
     rw [this]
   rw [e1,e0,Bool.not_and]
  have e0:Mk D p g.length (cts (c::r))=(((abv p c.dev&&decide (c.ct.2.length≠0))&&(Ol D c.dev [] c.ct.2&&decide (g.length<8)))&&Mk D (some c.dev) (g.length+1) (cts r)):=rfl
  have e2:Xs D p g (c::r)=if badC p c=true then none else match Vv D g c.dev c.l with
   | none => none
   | some g' => Xs D (some c.dev) g' r:=rfl
  rw [e0,e2]
  generalize hA:(abv p c.dev&&decide (c.ct.2.length≠0))=A at *
  rw [hb]
  cases A with
  | false => rfl
  | true =>
   rw [if_neg (by decide),Bool.true_and]
   simp only [Bool.and_eq_true,decide_eq_true_eq] at hA
   have hlt:∀ x ∈ cts g,x.1<c.dev:=fun x hx => by
    obtain ⟨q,rfl,hq⟩:=h x hx
    have:decide (q<c.dev)=true:=hA.1
    simp only [decide_eq_true_eq] at this
    omega
   obtain ⟨b1,b2,b3⟩:=behind hlt
   have hne:c.l≠[]:=fun h0 => hA.2 (by rw [Chx.ct,h0]; rfl)
   have ht:=Bc D c.dev c.l g
   rw [b1,b2,b3,if_neg hne,List.nil_append] at ht
   cases hg:Vv D g c.dev c.l with
   | none =>
    rw [hg] at ht
    have:¬ ((Ol D c.dev [] c.ct.2&&decide (g.length<8))&&Mk D (some c.dev) (g.length+1) (cts r))=true:=by
     rw [Bool.and_eq_true,Bool.and_eq_true,decide_eq_true_eq]
     rintro ⟨⟨h1,h2⟩,_⟩
     rw [if_pos ⟨h1,fun _ _ => h2⟩] at ht
     cases ht
    rw [if_neg this]; rfl
   | some g' =>
    rw [hg] at ht
    by_cases hk:Ol D c.dev [] c.ct.2=true∧g.length<8
    ·rw [if_pos ⟨hk.1,fun _ _ => hk.2⟩] at ht
     have ht:cts g'=cts g++[c.ct]:=Option.some.inj ht
     have hl:g'.length=g.length+1:=by
      have:=congrArg List.length ht
      simpa using this
     rw [hk.1,decide_eq_true hk.2,Bool.true_and,Bool.true_and]
     show (Xs D (some c.dev) g' r).map cts=_
     rw [Gs D r (some c.dev) g' ?_,hl,ht]
     ·show _=if Mk D (some c.dev) (g.length+1) (cts r)=true then some (cts g++(c.ct::cts r)) else none
      rw [List.append_assoc]; rfl
     ·rw [ht]
      intro x hx
      refine ⟨c.dev,rfl,?_⟩
      rcases List.mem_append.1 hx with hx | hx
      ·have:=hlt x hx; omega
      ·rw [List.mem_singleton.1 hx]; exact Int.le_refl _
    ·rw [if_neg fun h => hk ⟨h.1,h.2 hne rfl⟩] at ht
     cases ht
/-! ### Entries -/
theorem Zcx {C C':List Chx} {G:List Ent} {e:Ent} (h:Ua C' e.dev e.seq=Ua C e.dev e.seq):Sd C' G e=Sd C G e:=by
 rw [Sd,Sd,Sb,Sb,h]
theorem Zm1 {C:List Chx} {G:List Ent} {e:Ent} (h:Sd C G e=0):(Ua C e.dev e.seq).2=true∧G.length<100:=by
 rw [Sd] at h
 split at h
 ·cases h
 ·split at h
  ·cases h
  ·split at h
   ·cases h
   ·split at h
    ·cases h
    ·split at h
     ·cases h
     ·rename_i h1 _ _ h2
      exact ⟨by simpa using h1,by omega⟩
theorem So {C C':List Chx} (h:∀ d q,(Ua C d q).2=true→Ua C' d q=Ua C d q):∀ (E G R:List Ent),Xa C G E=some R→Xa C' G E=some R
 | [],G,R,hr => hr
 | e::E,G,R,hr => by
  rw [Xa] at hr ⊢
  by_cases he:Sd C G e=0
  ·rw [if_pos he] at hr
   rw [if_pos ((Zcx (h _ _ (Zm1 he).1)).trans he)]
   exact So h E _ R hr
  ·rw [if_neg he] at hr; cases hr
theorem mayF_iff {rb:Bool} {D:List Key} {C:List Chx} {E:List Ent}:mayF rb D C E=true↔rb=true∧C.length≤8∧E.length≤100∧Z19 D (cts C)∧(Xa C [] E).isSome=true:=by
 have hc:=Gs D C none [] (fun c h => by cases h)
 have hg:=Am D (cts C) none 0
 rw [mayF,Bool.and_eq_true,Bool.and_eq_true,Bool.and_eq_true,decide_eq_true_eq,decide_eq_true_eq]
 cases hk:Xs D none [] C with
 | none =>
  rw [hk] at hc
  constructor
  ·rintro ⟨_,h⟩; cases h
  ·rintro ⟨h1,h2,h3,h4,h5⟩
   have:Mk D none 0 (cts C)=true:=hg.2 ⟨fun q h => (by cases h),h4,fun _ => by rw [Nat.zero_add,List.length_map]; exact h2⟩
   have hc:none=if Mk D none 0 (cts C)=true then some ([]++cts C) else none:=hc
   rw [if_pos this] at hc; cases hc
 | some g =>
  rw [hk] at hc
  have hc:some (cts g)=if Mk D none 0 (cts C)=true then some ([]++cts C) else none:=hc
  by_cases h:Mk D none 0 (cts C)=true
  ·rw [if_pos h] at hc
   have hc:cts g=cts C:=Option.some.inj hc
   obtain ⟨_,h2,_⟩:=hg.1 h
   have hn:∀ d q,Ua g d q=Ua C d q:=fun d q => by rw [Zkx,Zkx,hc]
   have he:(Xa g [] E).isSome=(Xa C [] E).isSome:=by
    cases h1:Xa g [] E with
    | some R => rw [So (fun d q _ => (hn d q).symm) _ _ _ h1]
    | none =>
     cases h2:Xa C [] E with
     | none => rfl
     | some R => rw [So (fun d q _ => hn d q) _ _ _ h2] at h1; cases h1
   dsimp only
   rw [he]
   constructor
   ·rintro ⟨⟨⟨a1,a2⟩,a3⟩,a4⟩; exact ⟨a1,a2,a3,h2,a4⟩
   ·rintro ⟨a1,a2,a3,_,a4⟩; exact ⟨⟨⟨a1,a2⟩,a3⟩,a4⟩
  ·rw [if_neg h] at hc; cases hc
end Go.Proofs.YtcgjlpdkobmpnaaGreat.Eng

