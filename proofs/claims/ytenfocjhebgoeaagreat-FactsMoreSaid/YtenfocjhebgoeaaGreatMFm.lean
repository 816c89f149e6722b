/- Layer 22: the law FactsMore: facts with a record more, or an entry more, may be. -/
import Derived.Test.YtenfocjhebgoeaaGreatMFy
namespace Go.Proofs.YtenfocjhebgoeaaGreat.Eng
open Go Go.Proofs
set_option linter.unusedVariables false
set_option linter.unusedSimpArgs false
set_option maxRecDepth 10000
def codeMore:IC :=
 q 59 (.load true 9 (.t 4)) <|
 q 60 (.load true 7 (.t 7)) <|
 q 61 (.call F.facts_Enter [(.t 59),(.t 60)]) <|
 q 58 (.mv (.t 61)) <|
 q 62 (.ext (.t 58) 0) <|
 q 63 (.ext (.t 58) 1) <|
 q 15 (.alloc [.slice none 0 0,.slice none 0 0,.slice none 0 0,.slice none 0 0,.slice none 0 0,.slice none 0 0,.int .i64 0,.slice none 0 0,.slice none 0 0]) <|
 qn (.store 9 (.t 15) (.t 62)) <|
 q 16 (.mv (.t 63)) <|
 .keep [4,9,15,16] <|
 q 64 (.mv (.t 9)) <|
 q 65 (.mv (.t 64)) <|
 qg 66 65 true (.mv (.t 16)) <|
 qg 67 65 true (.eq true .i (.t 66) (.c (.nilIface))) <|
 qg 68 65 true (.mv (.t 67)) <|
 qg 69 68 false (.load true 9 (.t 15)) <|
 qg 70 68 false (.call F.facts_May [(.t 69)]) <|
 qg 71 68 false (.mv (.t 70)) <|
 qg 72 71 true (.fld 8 (.t 15)) <|
 qg 73 71 true (.load false 1 (.t 72)) <|
 qg 74 71 true (.len false (.t 73)) <|
 qg 75 71 true (.fld 8 (.t 4)) <|
 qg 76 71 true (.load false 1 (.t 75)) <|
 qg 77 71 true (.len false (.t 76)) <|
 qg 78 71 true (.bin .add (.t 77) (ci 1)) <|
 qg 79 71 true (.bin .eql (.t 74) (.t 78)) <|
 qg 80 68 false (.pick (.t 71) (.t 79) (cb false)) <|
 qg 81 65 true (.pick (.t 68) (cb true) (.t 80)) <|
 q 82 (.pick (.t 65) (.t 81) (cb false)) <|
 q 8 (.mv (.t 82)) <|
 .keep [8] <|
 .ret
def codeHead:IC :=
 q 4 (.box (.t 0)) <|
 q 7 (.box (.t 3)) <|
 q 8 (.mv (cb false)) <|
 .keep [1,2,4,7] <|
 q 17 (.call F.clapperlaw22_up []) <|
 q 9 (.mv (.t 17)) <|
 .keep [1,2,4,7,9] <|
 q 18 (.load true 9 (.t 4)) <|
 q 19 (.call F.clapperref22_Few [(.t 18)]) <|
 q 10 (.mv (.t 19)) <|
 .keep [1,2,4,7,9,10] <|
 q 20 (.mv (.t 10)) <|
 q 21 (.un .not (.t 20)) <|
 q 22 (.mv (.t 21)) <|
 qg 23 22 false (.mv (.t 2)) <|
 qg 24 22 false (.len false (.t 23)) <|
 qg 25 22 false (.bin .gtr (.t 24) (ci 3000)) <|
 q 26 (.pick (.t 22) (cb true) (.t 25)) <|
 q 27 (.mv (.t 26)) <|
 qg 28 27 false (.fld 5 (.t 7)) <|
 qg 29 27 false (.load false 1 (.t 28)) <|
 qg 30 27 false (.len false (.t 29)) <|
 qg 31 27 false (.bin .gtr (.t 30) (ci 2000)) <|
 q 32 (.pick (.t 27) (cb true) (.t 31)) <|
 .keep [1,2,4,7,9,32] <|
 .ite (.t 32)
  (q 33 (.mv (.t 9)) <|
  q 8 (.mv (.t 33)) <|
  .keep [8] <|
  .ret)
  (.done) <|
 q 35 (.load true 9 (.t 4)) <|
 q 36 (.mv (.t 1)) <|
 q 37 (.mv (.t 2)) <|
 q 38 (.call F.facts_Record [(.t 35),(.t 36),(.t 37)]) <|
 q 34 (.mv (.t 38)) <|
 q 39 (.ext (.t 34) 0) <|
 q 40 (.ext (.t 34) 1) <|
 q 11 (.alloc [.slice none 0 0,.slice none 0 0,.slice none 0 0,.slice none 0 0,.slice none 0 0,.slice none 0 0,.int .i64 0,.slice none 0 0,.slice none 0 0]) <|
 qn (.store 9 (.t 11) (.t 39)) <|
 q 12 (.mv (.t 40)) <|
 .keep [1,2,4,7,9,11,12] <|
 q 41 (.mv (.t 12)) <|
 q 42 (.eq false .i (.t 41) (.c (.nilIface))) <|
 .keep [1,2,4,7,9,11,42] <|
 .ite (.t 42)
  (q 44 (.load true 9 (.t 11)) <|
  q 45 (.mv (.t 1)) <|
  q 46 (.mv (.t 2)) <|
  q 47 (.call F.facts_Record [(.t 44),(.t 45),(.t 46)]) <|
  q 43 (.mv (.t 47)) <|
  q 48 (.ext (.t 43) 0) <|
  q 49 (.ext (.t 43) 1) <|
  q 13 (.alloc [.slice none 0 0,.slice none 0 0,.slice none 0 0,.slice none 0 0,.slice none 0 0,.slice none 0 0,.int .i64 0,.slice none 0 0,.slice none 0 0]) <|
  qn (.store 9 (.t 13) (.t 48)) <|
  q 14 (.mv (.t 49)) <|
  .keep [4,7,9,11,14] <|
  q 50 (.load true 9 (.t 11)) <|
  q 51 (.call F.facts_May [(.t 50)]) <|
  q 52 (.un .not (.t 51)) <|
  q 53 (.mv (.t 52)) <|
  qg 54 53 false (.mv (.t 14)) <|
  qg 55 53 false (.mkif T.api_Code (ci 7)) <|
  qg 56 53 false (.eq true .i (.t 54) (.t 55)) <|
  q 57 (.pick (.t 53) (cb true) (.t 56)) <|
  .keep [4,7,9,57] <|
  .ite (.t 57)
   (q 8 (.mv (cb false)) <|
   .keep [8] <|
   .ret)
   (.done) <|
  .done)
  (.done) <| codeMore
theorem codeHead_eq:ic_clapperlaw22_FactsMore=codeHead:=rfl
section
variable {H:AH} {x:AV} {dv kv rv pv sv cv ch en:AV} {pen:Int} {D K:List Key} {R:List Rvk} {P:List Prd} {S:List Sv} {N:List Cn} {C:List Chx} {E:List Ent} {b:List UInt8}
theorem fewF_from {fr:Bool} (h:fewF fr C E=true) (hC:∀ c ∈ C,c.wk) (hE:∀ e ∈ E,e.wk):fr=true∧C.length≤20∧E.length≤120∧(∀ c ∈ C,c.ok)∧(∀ e ∈ E,e.ok):=by
 simp only [fewF,Bool.and_eq_true,decide_eq_true_eq] at h
 obtain ⟨⟨⟨⟨⟨h1,h2⟩,h3⟩,h4⟩,h5⟩,h6⟩:=h
 refine ⟨h1,h2,h3,fun c hc => ⟨(hC c hc).1,fun y hy => ?_,?_⟩,fun e he => ⟨hE e he,?_⟩⟩
 ·obtain ⟨a1,a2,a3⟩:=(hC c hc).2.1 y hy
  exact ⟨⟨by have:=h4 c hc y hy; omega,a1⟩,a2,a3⟩
 ·have:c.l.length≤sumL C:=by
   clear h1 h2 h3 h4 h5 h6 hE hC
   induction C with
   | nil => cases hc
   | cons a C ih =>
    have e:sumL (a::C)=a.l.length+sumL C:=by simp [sumL]
    rcases List.mem_cons.1 hc with rfl | hc
    ·omega
    ·have:=ih hc; omega
  omega
 ·have:=h5 e he; omega
theorem ecs_len (E:List Ent):(ecs E).length=E.length*7:=by
 induction E with
 | nil => rfl
 | cons c E ih =>
  show (c.cells++ecs E).length=_
  rw [List.length_append,ih,Ent.len,List.length_cons]; omega
theorem k_more {G:AH} {L:List (Nat × AV)} (h:RH dv kv rv pv sv cv D K R P S N) (hx:∀ G,Sl 2 G ch (chcs (nx C)) C.length) (hC:∀ c ∈ C,c.ok) (hn:C.length≤1000) (he:∀ G,Sl 7 G en (ecs E) E.length) (hE:∀ e ∈ E,e.ok) (hEn:E.length≤900) (e:Ent) (hok:e.ok)
  (l4:look L 4=.ptr H.length 0) (l7:look L 7=.ptr (H.length+1) 0) (l9:look L 9=Bl true) :
  iwp (pfx false) (Called Tryz.prog) codeMore (retQ [IRes.t 8] H (Bl true) H) (look L) (H++(⟨fct dv kv rv pv sv cv pen ch en,0,true⟩::⟨e.cells,0,true⟩::G)):=by
 have hv:=h.fv (vw_sl hx) (vw_sl he)
 have ev:=vw_sl hok.1
 have te:=fun G => t_fEnter (H:=G) (pen:=pen) h hx hC hn he hE (by omega) e hok
 have ec:(pfx false).c T.api_Code=true:=by decide
 simp only [fct,Ent.cells] at te ⊢
 simp only [codeMore,go_sem,Nat.succ_eq_add_one,l4,l7,l9,hv.dv.s,hv.kv.s,hv.rv.s,hv.pv.s,hv.sv.s,hv.cv.s,hv.ch.s,hv.en.s,ev.s]
 refine ⟨by omega,by omega,callW_some (te _) (fun _ => rfl) ?_⟩
 cases hm:mayF (rulesB D K R P S N pen) D C E
 ·rw [if_neg (by decide)]
  simp only [argV,noFct,fct,go_sem,l4,l7,l9]
  refine callG_of (v:=Bl false) (fun h => by cases h) ?_
  simp only [go_sem,hv.en.s,(he []).lenT,(he []).n]
  exact leave_drop rfl
 ·rw [if_pos rfl]
  by_cases h0:enterE C E e=0
  ·rw [h0,enterV_ok]
   have hE2:∀ a ∈ E++[e.own],a.ok:=fun a ha => by
    rcases List.mem_append.1 ha with ha | ha
    ·exact hE a ha
    ·rw [List.mem_singleton.1 ha]; exact ⟨fun H => Sl.vB _ _,hok.2⟩
   have tm:=fun G => t_factsMay (H:=G) (pen:=pen) (en:=.view (ecs (E++[e.own])) (E++[e.own]).length false) h hx hC hn (fun G => .view (ecs_len _) _) hE2 (by rw [List.length_append]; simp; omega)
   have el:(E++[e.own]).length=E.length+1:=by simp
   have ew:IntKind.i64.wrap ((E.length:Int)+1)=((E.length+1:Nat):Int):=w64 _ (by omega) (by omega)
   rw [mayF_enter hm h0,el] at tm
   simp only [fct] at tm ⊢
   simp only [go_sem,l4,l7,l9,hv.dv.s,hv.kv.s,hv.rv.s,hv.pv.s,hv.sv.s,hv.cv.s,hv.ch.s,hv.en.s,ev.s]
   refine callG_of (fun _ => tm _) ?_
   simp only [go_sem,l4,hv.en.s,(he []).lenT,(he []).n,ew,beq_self_eq_true]
   exact ⟨by omega,leave_drop rfl⟩
  ·rw [enterV_err h0]
   simp only [argV,noFct,fct,go_sem,l4,l7,l9]
   refine callG_of (v:=Bl false) (fun h => by cases h) ?_
   simp only [go_sem,hv.en.s,(he []).lenT,(he []).n]
   exact leave_drop rfl
theorem t_FactsMore (h:RW dv kv rv pv sv cv D K R P S N) (hx:∀ G,Sl 2 G ch (chcs (nx C)) C.length) (hC:∀ c ∈ C,c.wk) (he:∀ G,Sl 7 G en (ecs E) E.length) (hE:∀ e ∈ E,e.wk) (d:Int) (hb:∀ G,Sl 1 G x (bs b) b.length) (e:Ent) (hok:e.wk) :
  Called Tryz.prog F.clapperlaw22_FactsMore [.agg (fct dv kv rv pv sv cv pen ch en),I d,x,.agg e.cells] H (Bl true) H:=by
 have hv:=h.fv (vw_sl hx) (vw_sl he)
 have hxv:=vw_sl hb
 have ev:=vw_sl hok
 have tf:=fun G => t_fFew (H:=G) (pen:=pen) h hx hC he hE
 have ec:(pfx false).c T.api_Code=true:=by decide
 refine e_clapperlaw22_FactsMore ?_
 simp only [fct,Ent.cells] at tf ⊢
 rw [codeHead_eq]
 simp only [codeHead,go_sem,Nat.succ_eq_add_one,hv.dv.s,hv.kv.s,hv.rv.s,hv.pv.s,hv.sv.s,hv.cv.s,hv.ch.s,hv.en.s,hxv.s,ev.s]
 refine callW_some t_up22 (fun _ => rfl) ?_
 simp only [go_sem,hv.dv.s,hv.kv.s,hv.rv.s,hv.pv.s,hv.sv.s,hv.cv.s,hv.ch.s,hv.en.s,hxv.s,ev.s]
 refine callW_some (tf _) (fun _ => rfl) ?_
 simp only [go_sem,hv.dv.s,hv.kv.s,hv.rv.s,hv.pv.s,hv.sv.s,hv.cv.s,hv.ch.s,hv.en.s,hxv.s,ev.s,(hb []).lenT,(hb []).n,(hok []).lenT,(hok []).n]
 refine ⟨fun h1 => leave_drop rfl,fun h1 => ?_⟩
 have h2:fewF (fewR D K R P S N) C E=true∧b.length≤3000∧e.b.length≤2000:=by
  simp only [Bool.or_eq_false_iff,Bool.not_eq_false',decide_eq_false_iff_not] at h1
  exact ⟨h1.1.1,by omega,by omega⟩
 obtain ⟨hf,hb3,he2⟩:=h2
 obtain ⟨hfr,c20,e120,hC,hE⟩:=fewF_from hf hC hE
 have hR:=h.rh hfr
 have eok:e.ok:=⟨hok,by omega⟩
 have tr:=fun G => t_fRecord (H:=G) (pen:=pen) hR hx hC (by omega) he hE (by omega) d hb (by omega)
 clear h1 hf
 simp only [fct] at tr
 try simp only [go_sem,hv.dv.s,hv.kv.s,hv.rv.s,hv.pv.s,hv.sv.s,hv.cv.s,hv.ch.s,hv.en.s,hxv.s,ev.s]
 refine callW_some (tr _) (fun _ => rfl) ?_
 cases hm:mayF (rulesB D K R P S N pen) D C E
 ·rw [if_neg (by decide)]
  simp only [argV,noFct,fct,go_sem]
  exact k_more hR hx hC (by omega) he hE (by omega) e eok rfl rfl rfl
 ·rw [if_pos rfl]
  by_cases h0:takeE D C d b=0
  ·rw [h0,takeV_ok]
   obtain ⟨hg,_,_⟩:=mayF_GC hm hC
   have hg':=hg.take (b:=b) (by omega) h0
   have g8:=hg'.n
   have hx':∀ G,Sl 2 G (.view (chcs (nx (takeC C d b))) (takeC C d b).length false) (chcs (nx (takeC C d b))) (takeC C d b).length:=fun G => .view (chcs_len _) _
   have tr2:=fun G => t_fRecord (H:=G) (pen:=pen) (ch:=.view (chcs (nx (takeC C d b))) (takeC C d b).length false) hR hx' hg'.k (by omega) he hE (by omega) d hb (by omega)
   have tm:=fun G => t_factsMay (H:=G) (pen:=pen) (ch:=.view (chcs (nx (takeC C d b))) (takeC C d b).length false) hR hx' hg'.k (by omega) he hE (by omega)
   rw [mayF_take hm h0] at tm
   rw [mayF_take hm h0,if_pos rfl,take_again h0,takeV_err (by decide)] at tr2
   generalize chcs (nx (takeC C d b))=cc at *
   generalize (takeC C d b).length=cn at *
   simp only [fct] at tm tr2 ⊢
   simp only [go_sem,hv.dv.s,hv.kv.s,hv.rv.s,hv.pv.s,hv.sv.s,hv.cv.s,hv.ch.s,hv.en.s,hxv.s,ev.s]
   refine callW_some (tr2 _) (fun _ => rfl) ?_
   simp only [argV,noFct,fct,go_sem,hv.dv.s,hv.kv.s,hv.rv.s,hv.pv.s,hv.sv.s,hv.cv.s,hv.ch.s,hv.en.s,hxv.s,ev.s]
   refine callW_some (tm _) (fun _ => rfl) ?_
   simp only [go_sem,ec,show (T.api_Code == T.api_Code&&(7:Int) == 7)=true from by simp]
   exact k_more hR hx hC (by omega) he hE (by omega) e eok rfl rfl rfl
  ·rw [takeV_err h0]
   simp only [argV,noFct,fct,go_sem]
   exact k_more hR hx hC (by omega) he hE (by omega) e eok rfl rfl rfl
end
end Go.Proofs.YtenfocjhebgoeaaGreat.Eng

