/- Layer 22: the law FactsMore: facts with a record more, or an entry more, may be. -/
import Derived.Test.YtenfocjhebgoeaaGreatMFy
namespace Go.Proofs.YtenfocjhebgoeaaGreat.Eng
open Go Go.Proofs
set_option linter.unusedVariables false
set_option linter.unusedSimpArgs false
set_option maxRecDepth 10000
section
variable {H:AH} {x:AV} {dv kv rv pv sv cv ch en:AV} {pen:Int} {D K:List Key} {R:List Rvk} {P:List Prd} {S:List Sv} {N:List Cn} {C:List Chx} {E:List Ent} {b:List UInt8}
theorem fewF_from {fr:Bool} (h:fewF fr C E=true) (hC:∀ c ∈ C,c.wk) (hE:∀ e ∈ E,e.wk):fr=true∧C.length≤20∧E.length≤120∧(∀ c ∈ C,c.ok)∧(∀ e ∈ E,e.ok):=by
 simp only [fewF,Bool.and_eq_true,decide_eq_true_eq] at h
 obtain ⟨⟨⟨⟨⟨h1,h2⟩,h3⟩,h4⟩,h5⟩,h6⟩:=h
 refine ⟨h1,h2,h3,fun c hc => ⟨(hC c hc).1,fun y hy => ?_,?_⟩,fun e he => ⟨hE e he,?_⟩⟩
 ·obtain ⟨a1,a2,a3⟩:=(hC c hc).2.1 y hy
  exact ⟨⟨by have:=h4 c hc y hy; omega,a1⟩,a2,a3⟩
 ·have:c.l.length≤sumL C:=by
   clear h1 h2 h3 h4 h5 h6 hE hC
   induction C with
   | nil => cases hc
   | cons a C ih =>
    have e:sumL (a::C)=a.l.length+sumL C:=by simp [sumL]
    rcases List.mem_cons.1 hc with rfl | hc
    ·omega
    ·have:=ih hc; omega
  omega
 ·have:=h5 e he; omega
end
set_option maxRecDepth 10000
theorem cellsEq_self:∀ {a:List AV},(∀ y ∈ a,kindOf y≠none)→cellsEq a a=true
 | [],_ => rfl
 | x::a,h => by
  show (cellEq x x&&cellsEq a a)=true
  rw [cellsEq_self fun y hy => h y (by simp [hy]),Bool.and_true]
  have:=h x (by simp)
  cases x with
  | lit v => cases v <;> simp [kindOf] at this <;> simp [cellEq]
  | _ => exact absurd rfl this
theorem eqagg_self {a:List AV} {ks:List (Option IntKind)} (h:a.map kindOf=ks.map some):aggEqOk ks (.agg a) (.agg a)=True∧aggEq (.agg a) (.agg a)=true:=by
 refine ⟨?_,cellsEq_self fun y hy h0 => ?_⟩
 ·simp only [aggEqOk,h,and_self]
 ·have:kindOf y ∈ ks.map some:=h ▸ List.mem_map.2 ⟨y,hy,rfl⟩
  obtain ⟨z,_,hz⟩:=List.mem_map.1 this
  rw [h0] at hz; cases hz
section
variable {H:AH} {x:AV} {D:List Key} {R:List Rvk} {P:List Prd} {S:List Sv} {N:List Cn}
theorem t_ints {l:List Int} (hx:∀ G,Sl 1 G x (l.map I) l.length) (hn:l.length≤1000000):Called Tryz.prog F.clapperref22_ints [x,x] H (Bl true) H:=by
 refine e_clapperref22_ints ?_
 simp only [ic_clapperref22_ints,go_sem,(hx []).lenT,(hx []).n,bne_self_eq_false]
 refine w_loop _ (fun (i:Nat) => ([(0,x),(1,x),(5,I i)],H)) (fun i => i≤l.length) (fun i => l.length - i) 0 (Nat.zero_le _) rfl ?_
 intro i hi
 simp only [go_sem,(hx []).lenT,(hx []).n]
 refine ⟨fun hh => ?_,fun hh => leave_same rfl⟩
 have hlt:i<l.length:=by omega
 have ld:∀ K,loadV false 1 K (idxaV 1 (I (i:Int)) x)=I (l.getD i 0):=fun K => by
  rw [(hx K).ld1 .i64 hlt,List.getD_eq_getElem?_getD,List.getElem?_map,List.getD_eq_getElem?_getD,List.getElem?_eq_getElem hlt]; rfl
 have lk:∀ K,loadOk 1 K (idxaV 1 (I (i:Int)) x)=True:=fun K => (hx K).ldOk .i64 hlt (Nat.le_refl _)
 simp only [go_sem,(hx []).idx,ld,lk,bne_self_eq_false]
 exact ⟨⟨by omega,by omega⟩,⟨by omega,by omega⟩,i+1,by rw [w64 _ (by omega) (by omega)]; rfl,by omega,by omega⟩
theorem isvR_sl {e:AV} {l:List Int} (h:isvR e l) (G:AH):Sl 1 G e (l.map I) l.length:=by
 rcases h with ⟨f,rfl⟩ | ⟨rfl,rfl⟩
 ·exact .view (by simp) f
 ·exact .nil
theorem t_svSame (w f t:Int) {e y:AV} {l m:List Int} (he:isvR e l) (hy:isvR y m) (hl:l.length≤300) (hm:m.length≤300):Called Tryz.prog F.clapperref22_service [.agg [I w,I f,I t,e,y],.agg [I w,I f,I t,e,y]] H (Bl true) H:=by
 have ev:=vw_sl (isvR_sl he)
 have yv:=vw_sl (isvR_sl hy)
 refine e_clapperref22_service ?_
 simp only [ic_clapperref22_service,go_sem,ev.s,yv.s]
 refine callW_some (t_ints (isvR_sl he) (by omega)) (fun _ => rfl) ?_
 simp only [go_sem,ev.s,yv.s]
 refine callW_some (t_ints (isvR_sl hy) (by omega)) (fun _ => rfl) ?_
 simp only [go_sem,ev.s,yv.s,beq_self_eq_true]
 exact leave_drop rfl
theorem t_kSame (hx:∀ G,Sl 12 G x (kcs D) D.length) (hn:D.length≤1000000):Called Tryz.prog F.clapperref10_Same [x,x] H (Bl true) H:=by
 refine e_clapperref10_Same ?_
 simp only [ic_clapperref10_Same,go_sem,(hx []).lenT,(hx []).n,bne_self_eq_false]
 refine w_loop _ (fun (i:Nat) => ([(0,x),(1,x),(5,I i)],H)) (fun i => i≤D.length) (fun i => D.length - i) 0 (Nat.zero_le _) rfl ?_
 intro i hi
 simp only [go_sem,(hx []).lenT,(hx []).n]
 refine ⟨fun hh => ?_,fun hh => leave_same rfl⟩
 have hlt:i<D.length:=by omega
 have ld:∀ K,loadV true 12 K (idxaV 12 (I (i:Int)) x)=.agg (D.getD i noKey).cells:=fun K => by
  rw [(hx K).ldA .i64 hlt (by decide),elt_flat Key.cells 12 Key.len D i noKey hlt]
 have lk:∀ K,loadOk 12 K (idxaV 12 (I (i:Int)) x)=True:=fun K => (hx K).ldOk .i64 hlt (Nat.le_refl _)
 obtain ⟨q1,q2⟩:=eqagg_self (a:=(D.getD i noKey).cells) (ks:=[(some .i64),(some .u64),(some .u64),(some .u64),(some .u64),(some .u64),(some .u64),(some .u64),(some .u64),none,(some .i64),(some .i64)]) rfl
 simp only [go_sem,(hx []).idx,ld,lk,q1,q2,bne_self_eq_false]
 exact ⟨⟨by omega,by omega⟩,⟨by omega,by omega⟩,i+1,by rw [w64 _ (by omega) (by omega)]; rfl,by omega,by omega⟩
theorem t_rvSame (hx:∀ G,Sl 2 G x (rcs R) R.length) (hn:R.length≤1000000):Called Tryz.prog F.clapperref11_Same [x,x] H (Bl true) H:=by
 refine e_clapperref11_Same ?_
 simp only [ic_clapperref11_Same,go_sem,(hx []).lenT,(hx []).n,bne_self_eq_false]
 refine w_loop _ (fun (i:Nat) => ([(0,x),(1,x),(5,I i)],H)) (fun i => i≤R.length) (fun i => R.length - i) 0 (Nat.zero_le _) rfl ?_
 intro i hi
 simp only [go_sem,(hx []).lenT,(hx []).n]
 refine ⟨fun hh => ?_,fun hh => leave_same rfl⟩
 have hlt:i<R.length:=by omega
 have ld:∀ K,loadV true 2 K (idxaV 2 (I (i:Int)) x)=.agg (R.getD i noRv).cells:=fun K => by
  rw [(hx K).ldA .i64 hlt (by decide),elt_flat Rvk.cells 2 Rvk.len R i noRv hlt]
 have lk:∀ K,loadOk 2 K (idxaV 2 (I (i:Int)) x)=True:=fun K => (hx K).ldOk .i64 hlt (Nat.le_refl _)
 obtain ⟨q1,q2⟩:=eqagg_self (a:=(R.getD i noRv).cells) (ks:=[(some .i64),(some .i64)]) rfl
 simp only [go_sem,(hx []).idx,ld,lk,q1,q2,bne_self_eq_false]
 exact ⟨⟨by omega,by omega⟩,⟨by omega,by omega⟩,i+1,by rw [w64 _ (by omega) (by omega)]; rfl,by omega,by omega⟩
end
section
variable {H:AH} {x:AV} {dv kv rv pv sv cv ch en:AV} {pen:Int} {D K:List Key} {R:List Rvk} {P:List Prd} {S:List Sv} {N:List Cn} {C:List Chx} {E:List Ent} {b:List UInt8}
theorem t_SameR (h:RH dv kv rv pv sv cv D K R P S N) (hSn:S.length≤1000000) (hNn:N.length≤1000000):Called Tryz.prog F.clapperref22_SameRules [.agg [dv,kv,rv,pv,sv,cv,I pen],.agg [dv,kv,rv,pv,sv,cv,I pen]] H (Bl true) H:=by
 have hv:=h.fv (ch:=nilS) (en:=nilS) (.inl rfl) (.inl rfl)
 have hPn:=h.pn
 refine e_clapperref22_SameRules ?_
 simp only [ic_clapperref22_SameRules,go_sem,hv.dv.s,hv.kv.s,hv.rv.s,hv.pv.s,hv.sv.s,hv.cv.s]
 refine callW_some (t_kSame h.d h.dn) (fun _ => rfl) ?_
 simp only [go_sem,hv.dv.s,hv.kv.s,hv.rv.s,hv.pv.s,hv.sv.s,hv.cv.s]
 refine callW_some (t_kSame h.k h.kn) (fun _ => rfl) ?_
 simp only [go_sem,hv.dv.s,hv.kv.s,hv.rv.s,hv.pv.s,hv.sv.s,hv.cv.s]
 refine callW_some (t_rvSame h.r h.rn) (fun _ => rfl) ?_
 simp only [go_sem,hv.dv.s,hv.kv.s,hv.rv.s,hv.pv.s,hv.sv.s,hv.cv.s,(h.p []).lenT,(h.p []).n,(h.s []).lenT,(h.s []).n,(h.c []).lenT,(h.c []).n,bne_self_eq_false]
 refine w_loop _ (fun (s:Nat × AH) => ([(2,.ptr H.length 0),(3,.ptr (H.length+1) 0),(8,I s.1)],H++(⟨[dv,kv,rv,pv,sv,cv,I pen],0,true⟩::⟨[dv,kv,rv,pv,sv,cv,I pen],0,true⟩::s.2))) (fun s => s.1≤P.length) (fun s => P.length - s.1) (0,[]) (Nat.zero_le _) rfl ?_
 rintro ⟨i,G⟩ hi
 try dsimp only at hi
 simp only [go_sem,hv.pv.s,(h.p []).lenT,(h.p []).n]
 refine ⟨by omega,fun hh => ?_,fun hh => ?_⟩
 ·have hlt:i<P.length:=by omega
  have ld:∀ K,loadV true 7 K (idxaV 7 (I (i:Int)) pv)=.agg (P.getD i noP).cells:=fun K => (h.p K).prd hlt
  have lk:∀ K,loadOk 7 K (idxaV 7 (I (i:Int)) pv)=True:=fun K => (h.p K).ldOk .i64 hlt (Nat.le_refl _)
  obtain ⟨pok,pfw⟩:=h.pk _ (getD_memP noP hlt)
  generalize P.getD i noP=p at *
  have v1:=vw_sl (isvR_sl (show isvR p.e p.s.extra from pok.2.2.2.2.2.1))
  have v2:=vw_sl (isvR_sl (show isvR p.x p.s.except from pok.2.2.2.2.2.2))
  simp only [Prd.cells] at ld
  simp only [go_sem,hv.pv.s,(h.p []).idx,ld,lk,v1.s,v2.s]
  refine ⟨by omega,⟨by omega,by omega⟩,by omega,⟨by omega,by omega⟩,by omega,?_⟩
  refine callW_some (t_svSame _ _ _ (show isvR p.e p.s.extra from pok.2.2.2.2.2.1) (show isvR p.x p.s.except from pok.2.2.2.2.2.2) pfw.1 pfw.2) (fun _ => rfl) ?_
  simp only [go_sem,v1.s,v2.s,bne_self_eq_false]
  exact ⟨by omega,by omega,(i+1,_),by rw [w64 _ (by omega) (by omega)]; rfl,rfl,hlt,by show P.length - (i+1)<P.length - i; omega⟩
 ·have hi':i=P.length:=by omega
  subst hi'
  refine w_loop _ (fun (i:Nat) => ([(2,.ptr H.length 0),(3,.ptr (H.length+1) 0),(12,I i)],H++(⟨[dv,kv,rv,pv,sv,cv,I pen],0,true⟩::⟨[dv,kv,rv,pv,sv,cv,I pen],0,true⟩::G))) (fun i => i≤S.length) (fun i => S.length - i) 0 (Nat.zero_le _) rfl ?_
  intro i hi
  simp only [go_sem,hv.sv.s,(h.s []).lenT,(h.s []).n]
  refine ⟨by omega,fun hh => ?_,fun hh => ?_⟩
  ·have hlt:i<S.length:=by omega
   have ld:∀ K,loadV true 5 K (idxaV 5 (I (i:Int)) sv)=.agg (S.getD i noSv).cells:=fun K => (h.s K).sv hlt
   have lk:∀ K,loadOk 5 K (idxaV 5 (I (i:Int)) sv)=True:=fun K => (h.s K).ldOk .i64 hlt (Nat.le_refl _)
   obtain ⟨pok,pfw⟩:=h.sk _ (getD_memP noSv hlt)
   generalize S.getD i noSv=p at *
   have v1:=vw_sl (isvR_sl pok.2.2.2.1)
   have v2:=vw_sl (isvR_sl pok.2.2.2.2)
   simp only [Sv.cells] at ld
   simp only [go_sem,hv.sv.s,(h.s []).idx,ld,lk,v1.s,v2.s]
   refine ⟨by omega,⟨by omega,by omega⟩,by omega,⟨by omega,by omega⟩,?_⟩
   refine callW_some (t_svSame _ _ _ pok.2.2.2.1 pok.2.2.2.2 pfw.1 pfw.2) (fun _ => rfl) ?_
   simp only [go_sem,v1.s,v2.s,bne_self_eq_false]
   exact ⟨i+1,by rw [w64 _ (by omega) (by omega)]; rfl,by omega,by omega⟩
  ·have hi':i=S.length:=by omega
   subst hi'
   refine w_loop _ (fun (i:Nat) => ([(2,.ptr H.length 0),(3,.ptr (H.length+1) 0),(14,I i)],H++(⟨[dv,kv,rv,pv,sv,cv,I pen],0,true⟩::⟨[dv,kv,rv,pv,sv,cv,I pen],0,true⟩::G))) (fun i => i≤N.length) (fun i => N.length - i) 0 (Nat.zero_le _) rfl ?_
   intro i hi
   simp only [go_sem,hv.cv.s,(h.c []).lenT,(h.c []).n]
   refine ⟨by omega,fun hh => ?_,fun hh => leave_drop rfl⟩
   have hlt:i<N.length:=by omega
   have ld:∀ K,loadV true 5 K (idxaV 5 (I (i:Int)) cv)=.agg (N.getD i noCn).cells:=fun K => (h.c K).cn hlt
   have lk:∀ K,loadOk 5 K (idxaV 5 (I (i:Int)) cv)=True:=fun K => (h.c K).ldOk .i64 hlt (Nat.le_refl _)
   obtain ⟨q1,q2⟩:=eqagg_self (a:=(N.getD i noCn).cells) (ks:=[some .i64,some .i64,some .i64,some .i64,some .i64]) rfl
   simp only [go_sem,hv.cv.s,(h.c []).idx,ld,lk,q1,q2,bne_self_eq_false]
   exact ⟨by omega,⟨by omega,by omega⟩,by omega,⟨by omega,by omega⟩,i+1,by rw [w64 _ (by omega) (by omega)]; rfl,by omega,by omega⟩
end
section
variable {H:AH} {x:AV} {dv kv rv pv sv cv ch ch' en:AV} {pen:Int} {D K:List Key} {R:List Rvk} {P:List Prd} {S:List Sv} {N:List Cn} {C C':List Chx} {E:List Ent} {b:List UInt8}
theorem ct_get (C:List Chx) {i:Nat} (h:i<C.length):(C.getD i noX).ct=(cts C).getD i (0,[]):=by
 rw [List.getD_eq_getElem?_getD,List.getD_eq_getElem?_getD,List.getElem?_map,List.getElem?_eq_getElem h]; rfl
theorem bt_get (l:List Bt) {i:Nat} (h:i<l.length):(l.getD i noB).b=(l.map Bt.b).getD i []:=by
 rw [List.getD_eq_getElem?_getD,List.getD_eq_getElem?_getD,List.getElem?_map,List.getElem?_eq_getElem h]; rfl
theorem chx_ld (hx:Sl 2 H x (chcs (nx C)) C.length) {i:Nat} (h:i<C.length):loadV true 2 H (idxaV 2 (I (i:Int)) x)=.agg [I (C.getD i noX).dev,(C.getD i noX).s]:=by
 have hel:elt (chcs (nx C)) 2 i=(C.getD i noX).n.cells:=by
  rw [show chcs (nx C)=C.flatMap (fun c => c.n.cells) from by rw [chcs,List.flatMap_map]]
  exact elt_flat (fun c:Chx => c.n.cells) 2 (fun _ => rfl) C i noX h
 rw [hx.ldA .i64 h (by decide),hel]; rfl
theorem t_fSame (h:RH dv kv rv pv sv cv D K R P S N) (hSn:S.length≤1000000) (hNn:N.length≤1000000) (hx:∀ G,Sl 2 G ch (chcs (nx C)) C.length) (hC:∀ c ∈ C,c.ok) (hn:C.length≤1000) (hx':∀ G,Sl 2 G ch' (chcs (nx C')) C'.length) (hC':∀ c ∈ C',c.ok) (hcc:cts C=cts C')
  (he:∀ G,Sl 7 G en (ecs E) E.length) (hE:∀ e ∈ E,e.ok) (hEn:E.length≤1000) :
  Called Tryz.prog F.clapperref22_Same [.agg (fct dv kv rv pv sv cv pen ch en),.agg (fct dv kv rv pv sv cv pen ch' en)] H (Bl true) H:=by
 have hcv:Vw ch:=vw_sl hx
 have hcv':Vw ch':=vw_sl hx'
 have hev:Vw en:=vw_sl he
 have hv:=h.fv hcv hev
 have hlen:C'.length=C.length:=by
  have:=congrArg List.length hcc
  simpa using this.symm
 have ts:=fun G => t_SameR (H:=G) (pen:=pen) h hSn hNn
 refine e_clapperref22_Same ?_
 simp only [fct]
 simp only [ic_clapperref22_Same,go_sem,hv.dv.s,hv.kv.s,hv.rv.s,hv.pv.s,hv.sv.s,hv.cv.s,hcv.s,hcv'.s,hev.s]
 refine callW_some (ts _) (fun _ => rfl) ?_
 simp only [go_sem,hcv.s,hcv'.s,hev.s,(hx []).lenT,(hx []).n,(hx' []).lenT,(hx' []).n,hlen,(he []).lenT,(he []).n,bne_self_eq_false]
 refine w_loop _ (fun (s:Nat × AH) => ([(2,.ptr H.length 0),(3,.ptr (H.length+1) 0),(6,I s.1)],H++(⟨[dv,kv,rv,pv,sv,cv,I pen,ch,en],0,true⟩::⟨[dv,kv,rv,pv,sv,cv,I pen,ch',en],0,true⟩::s.2))) (fun s => s.1≤C.length) (fun s => C.length - s.1) (0,[]) (Nat.zero_le _) rfl ?_
 rintro ⟨i,G⟩ hi
 try dsimp only at hi
 simp only [go_sem,hcv.s,(hx []).lenT,(hx []).n]
 refine ⟨by omega,fun hh => ?_,fun hh => ?_⟩
 ·have hlt:i<C.length:=by omega
  have hlt':i<C'.length:=by omega
  have hco:=hC _ (getD_memP noX hlt)
  have hco':=hC' _ (getD_memP noX hlt')
  have ld:∀ K,loadV true 2 K (idxaV 2 (I (i:Int)) ch)=.agg [I (C.getD i noX).dev,(C.getD i noX).s]:=fun K => chx_ld (hx K) hlt
  have lk:∀ K,loadOk 2 K (idxaV 2 (I (i:Int)) ch)=True:=fun K => (hx K).ldOk .i64 hlt (Nat.le_refl _)
  have ld':∀ K,loadV true 2 K (idxaV 2 (I (i:Int)) ch')=.agg [I (C'.getD i noX).dev,(C'.getD i noX).s]:=fun K => chx_ld (hx' K) hlt'
  have lk':∀ K,loadOk 2 K (idxaV 2 (I (i:Int)) ch')=True:=fun K => (hx' K).ldOk .i64 hlt' (Nat.le_refl _)
  have hct:(C.getD i noX).ct=(C'.getD i noX).ct:=by rw [ct_get C hlt,ct_get C' hlt',hcc]
  generalize C.getD i noX=c at *
  generalize C'.getD i noX=c' at *
  have hd:c'.dev=c.dev:=(congrArg Prod.fst hct).symm
  have hl:c.l.map Bt.b=c'.l.map Bt.b:=congrArg Prod.snd hct
  have hll:c'.l.length=c.l.length:=by
   have:=congrArg List.length hl
   simpa using this.symm
  rw [hd] at ld'
  have v1:=vw_sl hco.1
  have v2:=vw_sl hco'.1
  have hn3:=hco.2.2
  simp only [go_sem,hcv.s,hcv'.s,(hx []).idx,(hx' []).idx,ld,lk,ld',lk',v1.s,v2.s,hlen,(hco.1 []).lenT,(hco.1 []).n,(hco'.1 []).lenT,(hco'.1 []).n,hll,bne_self_eq_false]
  refine ⟨by omega,⟨by omega,by omega⟩,by omega,⟨by omega,by omega⟩,by omega,by omega,?_⟩
  refine w_loop _ (fun (k:Nat) => ([(2,.ptr H.length 0),(3,.ptr (H.length+1) 0),(6,I i),(7,.ptr (H.length+(G.length+1+1)) 0),(8,.ptr (H.length+(G.length+1+1+1)) 0),(9,I k)],H++(⟨[dv,kv,rv,pv,sv,cv,I pen,ch,en],0,true⟩::⟨[dv,kv,rv,pv,sv,cv,I pen,ch',en],0,true⟩::(G++[⟨[I c.dev,c.s],0,true⟩,⟨[I c.dev,c'.s],0,true⟩])))) (fun k => k≤c.l.length) (fun k => c.l.length - k) 0 (Nat.zero_le _) rfl ?_
  intro k hk
  simp only [go_sem,v1.s,v2.s,(hco.1 []).lenT,(hco.1 []).n]
  refine ⟨by omega,fun hh2 => ?_,fun hh2 => ?_⟩
  ·have hkt:k<c.l.length:=by omega
   have hkt':k<c'.l.length:=by omega
   have b1:=(hco.2.1 _ (getD_memP noB hkt)).1
   have b2:=(hco'.2.1 _ (getD_memP noB hkt')).1
   have eb:(c.l.getD k noB).b=(c'.l.getD k noB).b:=by rw [bt_get c.l hkt,bt_get c'.l hkt',hl]
   have k1:∀ K,loadV false 1 K (idxaV 1 (I (k:Int)) c.s)=(c.l.getD k noB).e:=fun K => by
    rw [(hco.1 K).ld1 .i64 hkt,List.getD_eq_getElem?_getD,List.getElem?_map,List.getD_eq_getElem?_getD,List.getElem?_eq_getElem hkt]; rfl
   have k2:∀ K,loadV false 1 K (idxaV 1 (I (k:Int)) c'.s)=(c'.l.getD k noB).e:=fun K => by
    rw [(hco'.1 K).ld1 .i64 hkt',List.getD_eq_getElem?_getD,List.getElem?_map,List.getD_eq_getElem?_getD,List.getElem?_eq_getElem hkt']; rfl
   have m1:∀ K,loadOk 1 K (idxaV 1 (I (k:Int)) c.s)=True:=fun K => (hco.1 K).ldOk .i64 hkt (Nat.le_refl _)
   have m2:∀ K,loadOk 1 K (idxaV 1 (I (k:Int)) c'.s)=True:=fun K => (hco'.1 K).ldOk .i64 hkt' (Nat.le_refl _)
   generalize c.l.getD k noB=x at *
   generalize c'.l.getD k noB=y at *
   have x1:=vw_sl b1.2
   have y1:=vw_sl b2.2
   have s1:=fun K => (b1.2 K).b2s
   have s2:=fun K => (b2.2 K).b2s
   rw [← eb] at s2
   simp only [go_sem,(hco.1 []).idx,(hco'.1 []).idx,k1,k2,m1,m2,x1.s,y1.s,s1,s2,hll,beq_self_eq_true]
   exact ⟨by omega,⟨by omega,by omega⟩,⟨by omega,by omega⟩,k+1,by rw [w64 _ (by omega) (by omega)]; rfl,hkt,by omega⟩
  ·have hk2:k=c.l.length:=by omega
   subst hk2
   exact ⟨(i+1,_),by rw [w64 _ (by omega) (by omega)]; rfl,rfl,hlt,by show C.length - (i+1)<C.length - i; omega⟩
 ·have hi':i=C.length:=by omega
  subst hi'
  refine w_loop _ (fun (s:Nat × AH) => ([(2,.ptr H.length 0),(3,.ptr (H.length+1) 0),(10,I s.1)],H++(⟨[dv,kv,rv,pv,sv,cv,I pen,ch,en],0,true⟩::⟨[dv,kv,rv,pv,sv,cv,I pen,ch',en],0,true⟩::s.2))) (fun s => s.1≤E.length) (fun s => E.length - s.1) (0,G) (Nat.zero_le _) rfl ?_
  clear G
  rintro ⟨i,G⟩ hi
  try dsimp only at hi
  simp only [go_sem,hev.s,(he []).lenT,(he []).n]
  refine ⟨by omega,fun hh => ?_,fun hh => leave_drop rfl⟩
  have hlt:i<E.length:=by omega
  obtain ⟨hes,hen⟩:=hE _ (getD_memP noEn hlt)
  have hel:elt (ecs E) 7 i=(E.getD i noEn).cells:=elt_flat Ent.cells 7 Ent.len E i noEn hlt
  have ld:∀ K,loadV true 7 K (idxaV 7 (I (i:Int)) en)=.agg (E.getD i noEn).cells:=fun K => by
   rw [(he K).ldA .i64 hlt (by decide),hel]
  have lk:∀ K,loadOk 7 K (idxaV 7 (I (i:Int)) en)=True:=fun K => (he K).ldOk .i64 hlt (Nat.le_refl _)
  generalize E.getD i noEn=e at *
  have e1:=vw_sl hes
  have s1:=fun K => (hes K).b2s
  simp only [Ent.cells] at ld
  simp only [go_sem,hev.s,(he []).idx,ld,lk,e1.s,s1,beq_self_eq_true,bne_self_eq_false]
  exact ⟨by omega,⟨by omega,by omega⟩,by omega,⟨by omega,by omega⟩,by omega,by omega,by omega,by omega,by omega,by omega,by omega,(i+1,_),by rw [w64 _ (by omega) (by omega)]; rfl,rfl,hlt,by show E.length - (i+1)<E.length - i; omega⟩
end
theorem take_other {D:List Key} {C:List Chx} {i k:Int} {a b:List UInt8} (hik:i≠k) (hn:C.length≤6) (ha:takeE D C i a=0) (hb:takeE D C k b=0):takeE D (takeC C i a) k b=0:=by
 obtain ⟨b1,b2⟩:=(takeE_K D C k b).1 hb
 refine (takeE_K D _ k b).2 ⟨?_,fun _ => ?_⟩
 ·rw [takeC_K,rcK_put,if_neg fun h => hik h.symm]; exact b1
 ·have:(cts (takeC C i a)).length≤7:=by
   rw [takeC_K,putK_len,List.length_map]
   split <;> omega
  rw [List.length_map] at this; omega
theorem take_turns {C:List Chx} {i k:Int} {a b:List UInt8} (hik:i≠k):cts (takeC (takeC C i a) k b)=cts (takeC (takeC C k b) i a):=by
 rw [takeC_K,takeC_K,takeC_K,takeC_K,rcK_put,rcK_put,if_neg fun h => hik h.symm,if_neg hik,putK_comm _ _ _ _ _ hik]
section
variable {H:AH} {x y:AV} {dv kv rv pv sv cv ch en:AV} {pen:Int} {D K:List Key} {R:List Rvk} {P:List Prd} {S:List Sv} {N:List Cn} {C:List Chx} {E:List Ent} {a b:List UInt8}
theorem fewR_from (h:fewR D K R P S N=true):S.length≤1000000∧N.length≤1000000:=by
 simp only [fewR,fewN,Bool.and_eq_true,decide_eq_true_eq] at h
 omega
theorem t_FactsTurns (h:RW dv kv rv pv sv cv D K R P S N) (hx:∀ G,Sl 2 G ch (chcs (nx C)) C.length) (hC:∀ c ∈ C,c.wk) (he:∀ G,Sl 7 G en (ecs E) E.length) (hE:∀ e ∈ E,e.wk) (i k:Int) (ha:∀ G,Sl 1 G x (bs a) a.length) (hb:∀ G,Sl 1 G y (bs b) b.length) :
  Called Tryz.prog F.clapperlaw22_FactsTurns [.agg (fct dv kv rv pv sv cv pen ch en),I i,x,I k,y] H (Bl true) H:=by
 have hv:=h.fv (vw_sl hx) (vw_sl he)
 have hxv:=vw_sl ha
 have hyv:=vw_sl hb
 have tf:=fun G => t_fFew (H:=G) (pen:=pen) h hx hC he hE
 have ec:(pfx false).c T.api_Code=true:=by decide
 refine e_clapperlaw22_FactsTurns ?_
 simp only [fct] at tf ⊢
 simp only [ic_clapperlaw22_FactsTurns,go_sem,Nat.succ_eq_add_one,hv.dv.s,hv.kv.s,hv.rv.s,hv.pv.s,hv.sv.s,hv.cv.s,hv.ch.s,hv.en.s,hxv.s,hyv.s]
 refine callW_some t_up22 (fun _ => rfl) ?_
 simp only [go_sem,hv.dv.s,hv.kv.s,hv.rv.s,hv.pv.s,hv.sv.s,hv.cv.s,hv.ch.s,hv.en.s,hxv.s,hyv.s]
 refine callW_some (tf _) (fun _ => rfl) ?_
 simp only [go_sem,hv.dv.s,hv.kv.s,hv.rv.s,hv.pv.s,hv.sv.s,hv.cv.s,hv.ch.s,hv.en.s,hxv.s,hyv.s,(ha []).lenT,(ha []).n,(hb []).lenT,(hb []).n,(hx []).lenT,(hx []).n]
 refine ⟨fun h1 => leave_drop rfl,fun h1 => ?_⟩
 have h2:fewF (fewR D K R P S N) C E=true∧i≠k∧a.length≤3000∧b.length≤3000∧C.length≤6:=by
  simp only [Bool.or_eq_false_iff,Bool.not_eq_false',decide_eq_false_iff_not,beq_eq_false_iff_ne] at h1
  exact ⟨h1.1.1.1.1,h1.1.1.1.2,by omega,by omega,by omega⟩
 obtain ⟨hf,hik,ha3,hb3,c6⟩:=h2
 obtain ⟨hfr,c20,e120,hC,hE⟩:=fewF_from hf hC hE
 have hR:=h.rh hfr
 obtain ⟨hSn,hNn⟩:=fewR_from hfr
 have ta:=fun G => t_fRecord (H:=G) (pen:=pen) hR hx hC (by omega) he hE (by omega) i ha (by omega)
 have tb:=fun G => t_fRecord (H:=G) (pen:=pen) hR hx hC (by omega) he hE (by omega) k hb (by omega)
 clear h1 hf
 simp only [fct] at ta tb
 refine callW_some (ta _) (fun _ => rfl) ?_
 cases hm:mayF (rulesB D K R P S N pen) D C E
 ·rw [hm] at tb
  rw [if_neg (by decide)] at tb ⊢
  simp only [argV,noFct,fct,go_sem,hv.dv.s,hv.kv.s,hv.rv.s,hv.pv.s,hv.sv.s,hv.cv.s,hv.ch.s,hv.en.s,hxv.s,hyv.s] at tb ⊢
  refine callW_some (tb _) (fun _ => rfl) ?_
  simp only [go_sem]
  exact leave_drop rfl
 ·rw [hm,if_pos rfl] at tb
  rw [if_pos rfl]
  obtain ⟨hg,_,_⟩:=mayF_GC hm hC
  by_cases h1:takeE D C i a=0
  ·rw [h1,takeV_ok]
   by_cases h2:takeE D C k b=0
   ·rw [h2,takeV_ok] at tb
    have gi:=hg.take (b:=a) (by omega) h1
    have gk:=hg.take (b:=b) (by omega) h2
    have o1:=take_other hik c6 h1 h2
    have o2:=take_other (fun h => hik h.symm) c6 h2 h1
    have gik:=gi.take (b:=b) (by omega) o1
    have gki:=gk.take (b:=a) (by omega) o2
    have n1:=gi.n
    have n2:=gk.n
    have n3:=gik.n
    have hct:=take_turns (C:=C) (a:=a) (b:=b) hik
    have sl:∀ (X:List Chx) (G:AH),Sl 2 G (.view (chcs (nx X)) X.length false) (chcs (nx X)) X.length:=fun X G => .view (chcs_len _) _
    have t1:=fun G => t_fRecord (H:=G) (pen:=pen) hR (sl (takeC C i a)) gi.k (by omega) he hE (by omega) k hb (by omega)
    have t2:=fun G => t_fRecord (H:=G) (pen:=pen) hR (sl (takeC C k b)) gk.k (by omega) he hE (by omega) i ha (by omega)
    have ts:=fun G => t_fSame (H:=G) (pen:=pen) hR hSn hNn (sl (takeC (takeC C i a) k b)) gik.k (by omega) (sl (takeC (takeC C k b) i a)) gki.k hct he hE (by omega)
    rw [mayF_take hm h1,if_pos rfl,o1,takeV_ok] at t1
    rw [mayF_take hm h2,if_pos rfl,o2,takeV_ok] at t2
    clear hct gik gki n1 n2 n3 gi gk o1 o2
    generalize chcs (nx (takeC (takeC C i a) k b))=c3 at *
    generalize (takeC (takeC C i a) k b).length=l3 at *
    generalize chcs (nx (takeC (takeC C k b) i a))=c4 at *
    generalize (takeC (takeC C k b) i a).length=l4 at *
    generalize chcs (nx (takeC C i a))=c1 at *
    generalize (takeC C i a).length=l1 at *
    generalize chcs (nx (takeC C k b))=c2 at *
    generalize (takeC C k b).length=l2 at *
    simp only [fct] at tb t1 t2 ts ⊢
    simp only [go_sem,hv.dv.s,hv.kv.s,hv.rv.s,hv.pv.s,hv.sv.s,hv.cv.s,hv.ch.s,hv.en.s,hxv.s,hyv.s]
    refine callW_some (tb _) (fun _ => rfl) ?_
    simp only [go_sem,hv.dv.s,hv.kv.s,hv.rv.s,hv.pv.s,hv.sv.s,hv.cv.s,hv.ch.s,hv.en.s,hxv.s,hyv.s]
    refine callW_some (t1 _) (fun _ => rfl) ?_
    simp only [go_sem,hv.dv.s,hv.kv.s,hv.rv.s,hv.pv.s,hv.sv.s,hv.cv.s,hv.ch.s,hv.en.s,hxv.s,hyv.s]
    refine callW_some (t2 _) (fun _ => rfl) ?_
    simp only [go_sem,hv.dv.s,hv.kv.s,hv.rv.s,hv.pv.s,hv.sv.s,hv.cv.s,hv.ch.s,hv.en.s,hxv.s,hyv.s]
    refine callG_of (fun _ => ts _) ?_
    simp only [go_sem]
    exact leave_drop rfl
   ·rw [takeV_err h2] at tb
    generalize chcs (nx (takeC C i a))=c1 at *
    generalize (takeC C i a).length=l1 at *
    simp only [noFct,fct] at tb ⊢
    simp only [go_sem,hv.dv.s,hv.kv.s,hv.rv.s,hv.pv.s,hv.sv.s,hv.cv.s,hv.ch.s,hv.en.s,hxv.s,hyv.s]
    refine callW_some (tb _) (fun _ => rfl) ?_
    simp only [go_sem]
    exact leave_drop rfl
  ·rw [takeV_err h1]
   simp only [noFct,fct] at tb ⊢
   simp only [go_sem,hv.dv.s,hv.kv.s,hv.rv.s,hv.pv.s,hv.sv.s,hv.cv.s,hv.ch.s,hv.en.s,hxv.s,hyv.s]
   refine callW_some (tb _) (fun _ => rfl) ?_
   by_cases h2:takeE D C k b=0
   ·rw [h2,takeV_ok]
    generalize chcs (nx (takeC C k b))=c2 at *
    generalize (takeC C k b).length=l2 at *
    simp only [fct,go_sem,hv.dv.s,hv.kv.s,hv.rv.s,hv.pv.s,hv.sv.s,hv.cv.s,hv.ch.s,hv.en.s,hxv.s,hyv.s]
    exact leave_drop rfl
   ·rw [takeV_err h2]
    simp only [noFct,fct,go_sem]
    exact leave_drop rfl
end
end Go.Proofs.YtenfocjhebgoeaaGreat.Eng

