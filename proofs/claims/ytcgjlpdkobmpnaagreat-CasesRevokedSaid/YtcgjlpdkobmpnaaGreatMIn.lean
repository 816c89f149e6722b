/- slices.Insert on chains, one value: the program's run. -/
import Derived.Test.YtcgjlpdkobmpnaaGreatME5
import Derived.Test.YtcgjlpdkobmpnaaGreatME3
import Derived.Test.YtcgjlpdkobmpnaaGreatChecked
import Derived.Shelf.Spec.SlicesInsertGrow
import Derived.Test.YtcgjlpdkobmpnaaGreatME6
import Derived.Test.YtcgjlpdkobmpnaaGreatMCa
set_option linter.unusedVariables false
set_option linter.unusedSimpArgs false
namespace Go.Proofs.YtcgjlpdkobmpnaaGreat.Eng
open Go Go.Proofs Go.Shelf Go.RowKit Go.Lib
set_option maxHeartbeats 4000000 in
set_option maxRecDepth 100000 in
theorem Zq4 (b n c i vb vc:Nat) (r1 r2:Value) (w W1 W2:World) (hi:i<n) (hroom:n+1≤c) (hn63:n+1≤9223372036854775807)
  (hov:∀ lb cb,(callFunc 217 #[.slice (some ⟨vb,0,none⟩) 1 vc,.slice (some ⟨b,(i+1)*2,none⟩) lb cb]).run Tryz.prog w=.ok (.value (.bool false)) w)
  (hcp1:∀ ty dc sc,(Builtin.copy_ #[33,33] ty #[.slice (some ⟨b,(i+1)*2,none⟩) (n - i) dc,.slice (some ⟨b,i*2,none⟩) (n+1 - i) sc]).run Tryz.prog w.drew=.ok r1 W1)
  (hcp2:∀ ty dc sc,(Builtin.copy_ #[33,33] ty #[.slice (some ⟨b,i*2,none⟩) (n+1 - i) dc,.slice (some ⟨vb,0,none⟩) 1 sc]).run Tryz.prog W1=.ok r2 W2) :
  Calls Tryz.prog 128 #[.slice (some ⟨b,0,none⟩) n c,.int .i64 i,.slice (some ⟨vb,0,none⟩) 1 vc] w fun e w' =>
   e=.returned (.slice (some ⟨b,0,none⟩) (n+1) c)∧w'=W2:=by
 have hz2:¬ ((i:Int)=(n:Int)):=by omega
 have hw1:IntKind.i64.wrap ((i:Int)+1)=(i:Int)+1:=by rw [IntKind.wrap_i64]; omega
 have hb1:(0:Int)≤(i:Int)+1:=by omega
 have htn:((i:Int)+1).toNat=i+1:=by omega
 have hin:i≤n:=by omega
 have hb2:¬ (c=i+1):=by omega
 have hb3:(i:Int)≤(n:Int)+1:=by omega
 have hb4:¬ (c=i):=by omega
 have mixed:Tryz.prog.follows .mixedOrders=true:=by kernel_rfl
 go_enter Tryz.func128,Tryz.ntmps128
 go_wp2_with (simp only [hov])
 go_region_law_o (refine step_copy_runI rfl _ _ 33 33 rfl _ _ (by simp [Act.eval,Act.put]) (by simp [Act.eval,Act.put]) (hcp1 _ _ _) ?_)
 go_wp2_with (at_builtin; refine wpList_copy_runI _ rfl _ _ 33 33 rfl _ _ rfl rfl (hcp2 _ _ _) ?_)
 go_ret
 exact ⟨rfl,rfl⟩
set_option maxHeartbeats 4000000 in
set_option maxRecDepth 100000 in
theorem Zq5 (b n i vb vc h G:Nat) (r1 r2:Value) (w W1 W2 W3:World) (hi:i<n) (hGn:n+1≤G) (hn63:n+1≤9223372036854775807) (hG63:G≤9223372036854775807)
  (hrz:∀ ty,(Builtin.append_ #[33,3] ty #[.slice (some ⟨b,0,none⟩) i n,.int .i64 ((n:Int)+1 - (i:Int))]).run Tryz.prog w=.ok (.slice (some ⟨h,0,none⟩) (n+1) G) W1)
  (hcpA:∀ ty dc,(Builtin.copy_ #[33,33] ty #[.slice (some ⟨h,i*2,none⟩) (n+1 - i) dc,.slice (some ⟨vb,0,none⟩) 1 vc]).run Tryz.prog W1=.ok r1 W2)
  (hcpB:∀ ty dc sc,(Builtin.copy_ #[33,33] ty #[.slice (some ⟨h,(i+1)*2,none⟩) (n - i) dc,.slice (some ⟨b,i*2,none⟩) (n - i) sc]).run Tryz.prog W2.drew=.ok r2 W3) :
  Calls Tryz.prog 128 #[.slice (some ⟨b,0,none⟩) n n,.int .i64 i,.slice (some ⟨vb,0,none⟩) 1 vc] w fun e w' =>
   e=.returned (.slice (some ⟨h,0,none⟩) (n+1) G)∧w'=W3:=by
 have hz2:¬ ((i:Int)=(n:Int)):=by omega
 have hz3:(n:Int)<(n:Int)+1:=by omega
 have hw1:IntKind.i64.wrap ((i:Int)+1)=(i:Int)+1:=by rw [IntKind.wrap_i64]; omega
 have hb1:(0:Int)≤(i:Int)+1:=by omega
 have htn:((i:Int)+1).toNat=i+1:=by omega
 have hin:i≤n:=by omega
 have hb3:(i:Int)≤(n:Int):=by omega
 have hGi:¬ (G=i):=by omega
 have hGim:¬ (G=i+1):=by omega
 have hci:¬ (n=i):=by omega
 have mixed:Tryz.prog.follows .mixedOrders=true:=by kernel_rfl
 go_enter Tryz.func128,Tryz.ntmps128
 go_wp2_with (first
  | (at_builtin; refine Lib.wpList_append_run _ rfl _ _ _ _ rfl _ _ rfl rfl _ _ (hrz _) ?_)
  | (at_builtin; refine wpList_copy_runI _ rfl _ _ 33 33 rfl _ _ rfl rfl (hcpA _ _) ?_)
  | (at_builtin; refine wpList_copy_runI _ rfl _ _ 33 33 rfl _ _ rfl rfl (hcpB _ _ _) ?_))
 go_region_law_o (refine step_copy_runI rfl _ _ 33 33 rfl _ _ (by simp [Act.eval,Act.put]) (by simp [Act.eval,Act.put]) (hcpB _ _ _) ?_)
 go_wp2
 go_ret
 exact ⟨rfl,rfl⟩
set_option maxHeartbeats 4000000 in
set_option maxRecDepth 100000 in
theorem Zxe (x:Addr) (n c vb vc:Nat) (u:Value) (w W1:World) (hnc:n≤c)
  (hap:∀ ty,(Builtin.append_ #[33,33] ty #[.slice (some x) n c,.slice (some ⟨vb,0,none⟩) 1 vc]).run Tryz.prog w=.ok u W1) :
  Calls Tryz.prog 128 #[.slice (some x) n c,.int .i64 n,.slice (some ⟨vb,0,none⟩) 1 vc] w fun e w' =>
   e=.returned u∧w'=W1:=by
 have hn0:(0:Int)≤(n:Int):=by omega
 have mixed:Tryz.prog.follows .mixedOrders=true:=by kernel_rfl
 go_enter Tryz.func128,Tryz.ntmps128
 go_wp2_with (at_builtin; refine Lib.wpList_append_run _ rfl _ _ _ _ rfl _ _ rfl rfl _ _ (hap _) ?_)
 all_goals go_ret
 all_goals exact ⟨rfl,rfl⟩
set_option maxHeartbeats 4000000 in
set_option maxRecDepth 100000 in
theorem Zxd (vb vc:Nat) (u:Value) (w W1:World)
  (hap:∀ ty,(Builtin.append_ #[33,33] ty #[.slice none 0 0,.slice (some ⟨vb,0,none⟩) 1 vc]).run Tryz.prog w=.ok u W1) :
  Calls Tryz.prog 128 #[.slice none 0 0,.int .i64 0,.slice (some ⟨vb,0,none⟩) 1 vc] w fun e w' =>
   e=.returned u∧w'=W1:=by
 have mixed:Tryz.prog.follows .mixedOrders=true:=by kernel_rfl
 go_enter Tryz.func128,Tryz.ntmps128
 go_wp2_with (at_builtin; refine Lib.wpList_append_run _ rfl _ _ _ _ rfl _ _ rfl rfl _ _ (hap _) ?_)
 all_goals go_ret
 all_goals exact ⟨rfl,rfl⟩
end Go.Proofs.YtcgjlpdkobmpnaaGreat.Eng
namespace Go.Proofs.YtcgjlpdkobmpnaaGreat.Eng
open Go Go.Proofs Go.Lib
set_option linter.unusedVariables false
set_option linter.unusedSimpArgs false
set_option maxRecDepth 10000
section
variable {P:Program} {S:Cx}
theorem Nc {w:World} {dT sT ty elem:TypeId} {b o dLen dCap:Nat} {a:Addr} {sLen sCap:Nat} {us:List Value} (hu:P.underlying dT=some (.slice elem)) (hc:P.cellsOf elem≠0) (hn:us.length=Nat.min sLen dLen*P.cellsOf elem)
  (hsrc:∀ j v,us[j]? = some v→w.cell? (a.add j)=some v) (hcl:∀ j,j<us.length→(w.cell? ⟨b,o+j,none⟩).isSome=true) (hf:∀ j,j<us.length→w.frozen? ⟨b,o+j,none⟩=false) (h1:∀ v ∈ us,v.oneCell'=true) :
  (Builtin.copy_ #[dT,sT] ty #[.slice (some ⟨b,o,none⟩) dLen dCap,.slice (some a) sLen sCap]).run P w=.ok (goInt (Nat.min sLen dLen:Nat)) (w.setCells b o us):=by
 obtain ⟨it,hi,hsz⟩:=Zx hc
 have hl:=run_loadCells_list (P:=P) w a us hsrc
 have hst:=run_storeCells_cells (P:=P) b o us 0 w (by simpa using hcl) (by simpa using hf) h1
 simp [Builtin.copy_,run_underlying hu,Builtin.lenOf,Builtin.firstCells,sizeOf,typeInfo,hi,hsz,← hn,hl,hst]
theorem Zec (cs:List AV) (a:Nat) (l:List AV) (h:a+l.length≤cs.length):splice cs a l=cs.take a++(l++cs.drop (a+l.length)):=by
 rw [← List.append_assoc]
 unfold splice
 split
 ·rename_i v
  simp only [List.length_singleton] at h ⊢
  rw [List.set_eq_take_append_cons_drop,if_pos (by omega)]
  simp
 ·rfl
theorem Zlz {l0 cs V:List AV} {i n:Nat} (h0:n*2+2≤l0.length) (hl:cs.length=n*2) (hi:i≤n) (hV:V.length=2) (he:l0.take (i*2)=cs.take (i*2)):(splice (splice l0 ((i+1)*2) (cs.drop (i*2))) (i*2) V).take (n*2+2)=cs.take (i*2)++(V++cs.drop (i*2)):=by
 have hD:(cs.drop (i*2)).length=n*2 - i*2:=by rw [List.length_drop,hl]
 have hle:i*2≤n*2:=Nat.mul_le_mul_right _ hi
 have h1:(i+1)*2=i*2+2:=by omega
 have e1:=Zec l0 ((i+1)*2) (cs.drop (i*2)) (by omega)
 have hlen:(splice l0 ((i+1)*2) (cs.drop (i*2))).length=l0.length:=Xl _ _ _ (by omega)
 rw [Zec _ _ _ (by omega),e1,hV]
 have lt:(l0.take ((i+1)*2)).length=i*2+2:=by rw [List.length_take]; omega
 have e3:∀ Y,(l0.take ((i+1)*2)++Y).take (i*2)=cs.take (i*2):=fun Y => by
  rw [List.take_append_of_le_length (by omega),List.take_take,Nat.min_eq_left (by omega),he]
 rw [e3,List.drop_left' lt]
 have lc:(cs.take (i*2)).length=i*2:=by rw [List.length_take]; omega
 rw [← List.append_assoc V,← List.append_assoc (cs.take (i*2)),List.take_left' (by simp only [List.length_append,lc,hV,hD]; omega)]
theorem Zly {l0 cs V:List AV} {i n:Nat} (h0:n*2+2≤l0.length) (hl:cs.length=n*2) (hi:i≤n) (hV:V.length=2) (he:l0.take (i*2)=cs.take (i*2)):(splice (splice l0 (i*2) V) ((i+1)*2) (cs.drop (i*2))).take (n*2+2)=cs.take (i*2)++(V++cs.drop (i*2)):=by
 have hD:(cs.drop (i*2)).length=n*2 - i*2:=by rw [List.length_drop,hl]
 have hle:i*2≤n*2:=Nat.mul_le_mul_right _ hi
 have h1:(i+1)*2=i*2+2:=by omega
 have e1:=Zec l0 (i*2) V (by omega)
 have hlen:(splice l0 (i*2) V).length=l0.length:=Xl _ _ _ (by omega)
 have lc:(cs.take (i*2)).length=i*2:=by rw [List.length_take]; omega
 rw [Zec _ _ _ (by omega),e1,he,← List.append_assoc (cs.take (i*2)) V]
 have l2:(cs.take (i*2)++V).length=i*2+2:=by rw [List.length_append,lc,hV]
 have e3:∀ Y,(cs.take (i*2)++V++Y).take ((i+1)*2)=cs.take (i*2)++V:=fun Y => List.take_left' (by omega)
 rw [e3,← List.append_assoc (cs.take (i*2)++V),List.take_left' (by simp only [List.length_append,lc,hV,hD]; omega),List.append_assoc]
end
theorem frz {w:World} {b:Nat} {c:Array Value} {e:TypeId} {fr:Nat × Nat} (h:w.heap[b]? = some (.cells c e fr)) (hf:fr.1=fr.2) (k:Nat):w.frozen? ⟨b,k,none⟩=false:=by
 simp only [World.frozen?,h,Bool.and_eq_false_iff,decide_eq_false_iff_not]
 omega
theorem Zcf {S:Cx}:∀ (k:Nat) {us:List Value},us.length=k→RL S (List.replicate k .junk) us
 | 0,us,h => List.eq_nil_of_length_eq_zero h
 | k+1,[],h => by simp at h
 | k+1,u::us,h => ⟨u,us,rfl,trivial,Zcf k (by simpa using h)⟩
set_option maxHeartbeats 2000000 in
theorem Zo6 {H:AH} {p p2 n i:Nat} {cs:List AV} {x0 x1:AV} (hp:p<H.length) (ho:obj H p=⟨cs,2,true⟩) (hl:cs.length=n*2) (hone:cs.all AV.one=true) (hi:i≤n) (hn:n≤1000) (hp2:p2<H.length) (ho2:obj H p2=⟨[x0,x1],2,true⟩) (hne:p2≠p) (h01:x0.one=true∧x1.one=true) :
  Called Tryz.prog F.slices_Insert_api_Chain_api_Chain [.row p 0 n (n*2),I i,.row p2 0 1 2] H (.row p 0 (n+1) (n*2+2)) (setO H p (cs.take (i*2)++([x0,x1]++cs.drop (i*2)))):=by
 have hc0:Tryz.prog.cellsOf 133=2:=by kernel_rfl
 have hc0':Tryz.prog.cellsOf 133≠0:=by rw [hc0]; decide
 have hby:Tryz.prog.bytesOf 133=32:=by kernel_rfl
 have hz:Sg Tryz.prog 133=some [.int .i64 0,.slice none 0 0]:=by kernel_rfl
 have hzl:([.int .i64 0,.slice none 0 0]:List Value).length=Tryz.prog.cellsOf 133:=by rw [hc0]; rfl
 refine ⟨by kernel_rfl,fun φ w vals hs hr => ?_⟩
 obtain ⟨vl⟩:=vals
 obtain ⟨x,t1,e1,hx,hr⟩:=hr
 obtain ⟨y,t2,e2,hy,hr⟩:=hr
 obtain ⟨z,t3,e3,hzv,hr⟩:=hr
 have e4:t3=[]:=hr
 subst e4 e3 e2
 have e1:vl=[x,y,z]:=e1
 subst e1
 have hy:y=.int .i64 i:=hy
 subst hy
 have hx0:=hx
 have hz0:=hzv
 have hob:H[p]? = some ⟨cs,2,true⟩:=by rw [U5 hp,ho]
 have hob2:H[p2]? = some ⟨[x0,x1],2,true⟩:=by rw [U5 hp2,ho2]
 obtain ⟨a2,c2,rfl,hc2,ha2,o2,g1,g2,g3⟩:=hzv
 have g1:H[p2]? = some o2:=g1
 rw [hob2] at g1; cases g1
 rcases g3 rfl with ⟨_,hzz,_⟩ | ⟨b2,hb2,an2,aa2,fit2⟩
 ·omega
 have aa2:a2=some ⟨b2,0,none⟩:=by
  rcases aa2 with h | h
  ·exact h
  ·omega
 subst aa2
 have hb2:φ p2=some b2:=hb2
 obtain ⟨a,cap,rfl,hcap,ha0,o,h1,h2,h3⟩:=hx
 have h1:H[p]? = some o:=h1
 rw [hob] at h1; cases h1
 by_cases hin:i=n
 ·subst hin
  have hok:Rs (Tryz.prog.cellsOf 133) (Tryz.prog.bytesOf 133) H (.row p 0 i (i*2)) (.row p2 0 1 2):=by
   rw [hc0,hby]
   refine ⟨⟨hp2,by rw [ho2]; rfl,by decide⟩,?_,?_,hp,by rw [ho]; exact hl.symm,by rw [ho],by rw [ho],by omega,.inl rfl⟩
   ·rw [E9,ho2]; simp [h01.1,h01.2]
   ·show (i+1)*32≤140737488355328
    omega
  obtain ⟨u,W1,hrun,hpost⟩:=K8 (P:=Tryz.prog) (ty:=33) hs (t:=33) (tx:=33) (e:=133) Tryz.underlying33 hc0' hz hzl (by rw [hby]; decide) (.inl ⟨_,Tryz.underlying33⟩) hx0 hz0 hok
  have hcal:Calls Tryz.prog 128 #[.slice a i cap,.int .i64 i,.slice (some ⟨b2,0,none⟩) 1 c2] w fun e w' => e=.returned u∧w'=W1:=by
   cases a with
   | none =>
    obtain ⟨h5,h6⟩:=ha0 rfl
    subst h5 h6
    exact Zxd b2 c2 u w W1 fun ty => hrun
   | some x => exact Zxe x i cap b2 c2 u w W1 hcap fun ty => hrun
  refine hcal.mono fun e' w' ⟨he,hw⟩ => ⟨u,he,?_⟩
  subst hw
  rw [hc0] at hpost
  have es:srcC 2 H (.row p2 0 1 2)=[x0,x1]:=by rw [E9,ho2]; rfl
  have ev:appV 2 H (.row p2 0 1 2) (.row p 0 i (i*2))=.row p 0 (i+1) (i*2+2):=by
   rw [Up,es,J7 rfl]; rfl
  have eh:appH 2 H (.row p2 0 1 2) (.row p 0 i (i*2))=setO H p (cs.take (i*2)++([x0,x1]++cs.drop (i*2))):=by
   rw [Uq,es,ho,J8 rfl,List.take_of_length_le (by omega),List.drop_of_length_le (by omega)]; rfl
  rw [ev,eh] at hpost
  exact hpost
 ·have hlt:i<n:=by omega
  rcases h3 hl.symm with ⟨_,hz',_⟩ | ⟨b,hb,han,ha,hfit⟩
  ·omega
  have ha:a=some ⟨b,0,none⟩:=by
   rcases ha with h | h
   ·exact h
   ·omega
  subst ha
  have hb:φ p=some b:=hb
  obtain ⟨hf1,hf2⟩:=hfit (show (0:Nat)<2 by decide)
  have hf1:cap*2≤Xc (cx φ H w) b:=by simpa using hf1
  have hf2:n*2≤cap*2:=by simpa using hf2
  rcases hs.ok p _ hob with ⟨k1,_⟩ | ⟨b',cc,e,fr,k1,k2,k3,k4,k5⟩
  ·rw [show (cx φ H w).φ p=φ p from rfl,hb] at k1; cases k1
  have k1:φ p=some b':=k1
  rw [hb] at k1; cases k1
  have k2:w.heap[b]? = some (.cells cc e fr):=k2
  have kfr:fr.1=fr.2:=k3.2.2 (show (1:Nat)<2 by decide)
  have ksz:Xc (cx φ H w) b=cc.size:=by unfold Xc; rw [show (cx φ H w).h[b]? = _ from k2]
  have k5:RL (cx φ H w) cs (cc.toList.take cs.length):=k5
  rcases hs.ok p2 _ hob2 with ⟨m1,_⟩ | ⟨b',cc2,e2,fr2,m1,m2,m3,m4,m5⟩
  ·rw [show (cx φ H w).φ p2=φ p2 from rfl,hb2] at m1; cases m1
  have m1:φ p2=some b':=m1
  rw [hb2] at m1; cases m1
  have m2:w.heap[b2]? = some (.cells cc2 e2 fr2):=m2
  have mfr:fr2.1=fr2.2:=m3.2.2 (show (1:Nat)<2 by decide)
  have m4:2≤cc2.size:=m4
  have m5:RL (cx φ H w) [x0,x1] (cc2.toList.take 2):=m5
  have hbb:b2≠b:=fun h => hne (hs.inj p2 p b hp2 hp (by rw [show (cx φ H w).φ p2=φ p2 from rfl,hb2,h]) hb)
  -- what is read
  obtain ⟨us,hus⟩:∃ us,us=(cc.toList.take cs.length).drop (i*2):=⟨_,rfl⟩
  obtain ⟨vs,hvs⟩:∃ vs,vs=cc2.toList.take 2:=⟨_,rfl⟩
  have rus:RL (cx φ H w) (cs.drop (i*2)) us:=by rw [hus]; exact k5.drop _
  rw [← hvs] at m5
  have lus:us.length=(n - i)*2:=by rw [rus.length,List.length_drop,hl]; omega
  have lvs:vs.length=2:=m5.length
  have ous:∀ v ∈ us,v.oneCell'=true:=rus.one (by
   rw [List.all_eq_true] at hone ⊢; exact fun x hx => hone x (List.mem_of_mem_drop hx))
  have ovs:∀ v ∈ vs,v.oneCell'=true:=m5.one (by simp [h01.1,h01.2])
  have sus:∀ j v,us[j]? = some v→w.cell? ⟨b,i*2+j,none⟩=some v:=fun j v hj => by
   rw [Uf k2,← Array.getElem?_toList]
   rw [hus,List.getElem?_drop,List.getElem?_take] at hj
   split at hj
   ·exact hj
   ·cases hj
  have svs:∀ j v,vs[j]? = some v→w.cell? ⟨b2,j,none⟩=some v:=fun j v hj => by
   rw [Uf m2,← Array.getElem?_toList]
   rw [hvs,List.getElem?_take] at hj
   split at hj
   ·exact hj
   ·cases hj
  have hD:(cs.drop (i*2)).length=(n - i)*2:=by rw [List.length_drop,hl]; omega
  have hlen:(cs.take (i*2)++([x0,x1]++cs.drop (i*2))).length=n*2+2:=by
   rw [List.length_append,List.length_append,hD,List.length_take,hl]; show min (i*2) (n*2)+(2+(n - i)*2)=n*2+2; omega
  rcases Nat.lt_or_ge cap (n+1) with hcn | hcn
  ·have hcapn:n=cap:=by omega
   subst hcapn
   obtain ⟨it,v,hi0,hv,hzc⟩:=Vc hz
   obtain ⟨it',hi1,hsz⟩:=Zx hc0'
   rw [hi0] at hi1; cases hi1
   have hvs2:v.cells.size=2:=by rw [← Array.length_toList,hzc]; rfl
   have hb32:it.bytes=32:=by rw [← hby]; simp [Program.bytesOf,hi0]
   rw [hc0] at hsz
   obtain ⟨olds,hol⟩:∃ olds,olds=(cc.toList.take cs.length).take (i*2):=⟨_,rfl⟩
   have rol:RL (cx φ H w) (cs.take (i*2)) olds:=by rw [hol]; exact k5.take _
   have lol:olds.length=i*2:=by rw [rol.length,List.length_take,hl]; omega
   have hold:(Builtin.firstCells it.size i (.slice (some ⟨b,0,none⟩) i n)).run Tryz.prog w.drew=.ok olds.toArray w.drew:=by
    rw [hsz]
    refine run_firstCells_some w.drew 2 i ⟨b,0,none⟩ i n olds lol fun j u hj => ?_
    rw [Y8,Nat.zero_add]
    show w.cell? _=_
    rw [Uf k2,← Array.getElem?_toList]
    rw [hol,List.getElem?_take] at hj
    split at hj
    ·rw [List.getElem?_take] at hj
     split at hj
     ·exact hj
     ·cases hj
    ·cases hj
   have hik:i+(n+1 - i)=n+1:=by omega
   have hkk:(n:Int)+1 - (i:Int)=((n+1 - i:Nat):Int):=by omega
   obtain ⟨G,hG⟩:∃ G,G=grownCap w (n+1) n 133:=⟨_,rfl⟩
   have hGn:n+1≤G:=by rw [hG]; exact grownCap_ge w _ _ _
   have hG63:G≤9223372036854775807:=by
    have:=grownCap_le_maxLen w (n+1) n 133 (by unfold maxLen; omega)
    rw [← hG] at this
    unfold maxLen at this
    omega
   obtain ⟨ROW,hROW⟩:∃ ROW:Array Value,ROW=olds.toArray++Builtin.zeroCells v.cells (n+1 - i)++Builtin.zeroCells v.cells (G - (n+1)):=⟨_,rfl⟩
   have hrz:∀ ty,(Builtin.append_ #[33,3] ty #[.slice (some ⟨b,0,none⟩) i n,.int .i64 ((n:Int)+1 - (i:Int))]).run Tryz.prog w=.ok (.slice (some ⟨w.heap.size,0,none⟩) (n+1) G) (w.drew.alloc (.cells ROW 133)):=fun ty => by
    have h:=Lib.run_append_grow_zeros w 33 3 ty 133 it v .i64 .i64 Tryz.underlying33 Tryz.underlying3 hi0 hv (some ⟨b,0,none⟩) i n olds hold (n+1 - i) (by omega) (by omega) (by omega) (by omega) (by rw [hb32]; omega) (by rw [hb32,hik]; exact growslice_fits (by omega) (by omega))
    rw [hik] at h
    rw [hkk,hROW,hG]
    exact h
   have hRs:ROW.size=G*2:=by
    rw [hROW]
    simp only [Array.size_append,Builtin.zeroCells,Array.size_map,Array.size_range,hvs2,List.size_toArray,lol]
    omega
   have hh1:(w.drew.alloc (.cells ROW 133)).heap[w.heap.size]? = some (.cells ROW 133 (0,0)):=by
    show (w.heap.push _)[w.heap.size]? = _
    simp
   have hbw:b<w.heap.size:=Va (S:=cx φ H w) k2
   have hbw2:b2<w.heap.size:=Va (S:=cx φ H w) m2
   obtain ⟨q1,q2,q3,q4⟩:=Wc vs w.heap.size (i*2) (w.drew.alloc (.cells ROW 133)) hh1
   obtain ⟨s1,s2,s3,s4⟩:=Wc us w.heap.size ((i+1)*2) ((w.drew.alloc (.cells ROW 133)).setCells w.heap.size (i*2) vs).drew q1
   have hal:∀ (x:Nat) j,x<w.heap.size→(w.drew.alloc (.cells ROW 133)).cell? ⟨x,j,none⟩=w.cell? ⟨x,j,none⟩:=fun x j hx => World.cell?_alloc_past (w:=w.drew) _ x j hx
   have hcpA:∀ ty dc,(Builtin.copy_ #[33,33] ty #[.slice (some ⟨w.heap.size,i*2,none⟩) (n+1 - i) dc,.slice (some ⟨b2,0,none⟩) 1 c2]).run Tryz.prog (w.drew.alloc (.cells ROW 133))=.ok (goInt (Nat.min 1 (n+1 - i):Nat)) ((w.drew.alloc (.cells ROW 133)).setCells w.heap.size (i*2) vs):=fun ty dc =>
    Nc Tryz.underlying33 hc0' (by rw [lvs,hc0,show Nat.min 1 (n+1 - i)=1 from Nat.min_eq_left (by omega)]) (fun j v hj => by
     rw [Y8,Nat.zero_add,hal b2 j hbw2]
     exact svs j v hj) (fun j hj => by rw [Uf hh1,Array.getElem?_eq_getElem (by omega)]; rfl) (fun j hj => frz hh1 rfl _) ovs
   have hcpB:∀ ty dc sc,(Builtin.copy_ #[33,33] ty #[.slice (some ⟨w.heap.size,(i+1)*2,none⟩) (n - i) dc,.slice (some ⟨b,i*2,none⟩) (n - i) sc]).run Tryz.prog ((w.drew.alloc (.cells ROW 133)).setCells w.heap.size (i*2) vs).drew=.ok (goInt (Nat.min (n - i) (n - i):Nat)) (((w.drew.alloc (.cells ROW 133)).setCells w.heap.size (i*2) vs).drew.setCells w.heap.size ((i+1)*2) us):=fun ty dc sc =>
    Nc Tryz.underlying33 hc0' (by rw [lus,hc0,show Nat.min (n - i) (n - i)=n - i from Nat.min_self _]) (fun j v hj => by
     rw [Y8]
     show ((w.drew.alloc (.cells ROW 133)).setCells w.heap.size (i*2) vs).cell? _=_
     rw [World.cell?_setCells_out _ _ _ _ _ (fun h _ => by have h:b=w.heap.size:=h; omega),hal b _ hbw]
     exact sus j v hj) (fun j hj => by
     show (((w.drew.alloc (.cells ROW 133)).setCells w.heap.size (i*2) vs).cell? _).isSome=true
     rw [Uf q1,Array.getElem?_eq_getElem (by rw [Yi]; omega)]; rfl) (fun j hj => frz (w:=((w.drew.alloc (.cells ROW 133)).setCells w.heap.size (i*2) vs).drew) q1 rfl _) ous
   have hcal:=Zq5 b n i b2 c2 w.heap.size G _ _ w _ _ _ hlt hGn (by omega) hG63 hrz hcpA hcpB
   refine hcal.mono fun e' w' ⟨he,hw⟩ => ⟨_,he,?_⟩
   subst hw
   generalize hW3:((w.drew.alloc (.cells ROW 133)).setCells w.heap.size (i*2) vs).drew.setCells w.heap.size ((i+1)*2) us=W3 at *
   have lR:ROW.toList.length=G*2:=by rw [Array.length_toList]; exact hRs
   have hRL:RL (cx φ H w) (cs.take (i*2)++List.replicate (G*2 - i*2) .junk) ROW.toList:=by
    have e:ROW.toList=olds++ROW.toList.drop (i*2):=by
     have:ROW.toList.take (i*2)=olds:=by
      rw [hROW]
      simp only [Array.toList_append,List.append_assoc]
      rw [List.take_append_of_le_length (by omega),List.take_of_length_le (by omega)]
     rw [← this,List.take_append_drop]
    rw [e]
    exact rol.append (Zcf _ (by rw [List.length_drop,lR]))
   have hl0:(cs.take (i*2)++List.replicate (G*2 - i*2) AV.junk).length=G*2:=by rw [List.length_append,List.length_replicate,List.length_take,hl]; omega
   have hA:=Pc (off:=i*2) hRL m5 (by rw [hl0]; simp; omega)
   have hB:=Pc (off:=(i+1)*2) hA rus (by rw [Xl _ _ _ (by rw [hl0]; simp; omega),hl0,hD]; omega)
   have hT:=hB.take (n*2+2)
   rw [Zly (by rw [hl0]; omega) hl (by omega) rfl (by rw [List.take_append_of_le_length (by rw [List.length_take,hl]; omega),List.take_take,Nat.min_self])] at hT
   obtain ⟨φ',v1,v2,v3⟩:=Bh (S:=cx φ H w) hs (cs':=cs.take (i*2)++([x0,x1]++cs.drop (i*2))) (c':=Wk (Wk ROW (i*2) vs) ((i+1)*2) us) (e:=133) hob rfl (by rw [hlen]; show cs.length<_; omega) (show 0<2 by decide) (by rw [hlen,Yi,Yi]; omega) (by rw [hlen]; exact hT)
   have eH:H.set p ⟨cs.take (i*2)++([x0,x1]++cs.drop (i*2)),2,true⟩=setO H p (cs.take (i*2)++([x0,x1]++cs.drop (i*2))):=by rw [setO,ho]
   have ew:W3.heap=w.heap.push (.cells (Wk (Wk ROW (i*2) vs) ((i+1)*2) us) 133):=by
    apply Array.ext_getElem?
    intro k
    by_cases hk:k=w.heap.size
    ·subst hk
     rw [s1]; simp
    ·rw [s2 k hk]
     show ((w.drew.alloc (.cells ROW 133)).setCells w.heap.size (i*2) vs).heap[k]? = _
     rw [q2 k hk]
     show (w.heap.push _)[k]? = _
     rw [Array.getElem?_push,Array.getElem?_push,if_neg hk,if_neg hk]
   have ec:cx φ' (setO H p (cs.take (i*2)++([x0,x1]++cs.drop (i*2)))) W3=⟨φ',(cx φ H w).H.set p ⟨cs.take (i*2)++([x0,x1]++cs.drop (i*2)),2,true⟩,(cx φ H w).h.push (.cells (Wk (Wk ROW (i*2) vs) ((i+1)*2) us) 133)⟩:=by
    rw [← eH]
    show (⟨_,_,W3.heap⟩:Cx)=_
    rw [ew]; rfl
   refine ⟨φ',by rw [ec]; exact v2,by rw [ec]; exact v3,Same.trans (Same.trans (⟨rfl,rfl,rfl⟩:Same w (w.drew.alloc (.cells ROW 133))) q4) (Same.trans (⟨rfl,rfl,rfl⟩:Same ((w.drew.alloc (.cells ROW 133)).setCells w.heap.size (i*2) vs) ((w.drew.alloc (.cells ROW 133)).setCells w.heap.size (i*2) vs).drew) s4),?_⟩
   have hbs:Xc (cx φ' (setO H p (cs.take (i*2)++([x0,x1]++cs.drop (i*2)))) W3) w.heap.size=G*2:=by
    unfold Xc
    rw [show (cx φ' (setO H p (cs.take (i*2)++([x0,x1]++cs.drop (i*2)))) W3).h[w.heap.size]? = _ from s1]
    show (Wk (Wk ROW (i*2) vs) ((i+1)*2) us).size=_
    rw [Yi,Yi,hRs]
   refine ⟨some ⟨w.heap.size,0,none⟩,G,rfl,hGn,by simp,⟨cs.take (i*2)++([x0,x1]++cs.drop (i*2)),2,true⟩,?_,by rw [hlen]; omega,fun _ => .inr ⟨w.heap.size,v1,by simp,.inl rfl,fun _ => ⟨?_,?_⟩⟩⟩
   ·rw [← eH]
    show (H.set p _)[p]? = _
    rw [List.getElem?_set_self hp]
   ·show 0+G*2≤_
    omega
   ·show n*2+2≤0+G*2
    omega
  ·have kd:w.drew.heap[b]? = some (.cells cc e fr):=k2
   obtain ⟨q1,q2,q3,q4⟩:=Wc us b ((i+1)*2) w.drew kd
   obtain ⟨s1,s2,s3,s4⟩:=Wc vs b (i*2) (w.drew.setCells b ((i+1)*2) us) q1
   have hroom:(n+1)*2≤cc.size:=by omega
   have hcp1:∀ ty dc sc,(Builtin.copy_ #[33,33] ty #[.slice (some ⟨b,(i+1)*2,none⟩) (n - i) dc,.slice (some ⟨b,i*2,none⟩) (n+1 - i) sc]).run Tryz.prog w.drew=.ok (goInt (Nat.min (n+1 - i) (n - i):Nat)) (w.drew.setCells b ((i+1)*2) us):=fun ty dc sc =>
    Nc Tryz.underlying33 hc0' (by rw [lus,hc0,show Nat.min (n+1 - i) (n - i)=n - i from Nat.min_eq_right (by omega)]) (fun j v hj => by rw [Y8]; exact sus j v hj) (fun j hj => by rw [Uf kd,Array.getElem?_eq_getElem (by omega)]; rfl) (fun j hj => frz kd kfr _) ous
   have hcp2:∀ ty dc sc,(Builtin.copy_ #[33,33] ty #[.slice (some ⟨b,i*2,none⟩) (n+1 - i) dc,.slice (some ⟨b2,0,none⟩) 1 sc]).run Tryz.prog (w.drew.setCells b ((i+1)*2) us)=.ok (goInt (Nat.min 1 (n+1 - i):Nat)) ((w.drew.setCells b ((i+1)*2) us).setCells b (i*2) vs):=fun ty dc sc =>
    Nc Tryz.underlying33 hc0' (by rw [lvs,hc0,show Nat.min 1 (n+1 - i)=1 from Nat.min_eq_left (by omega)]) (fun j v hj => by
     rw [Y8,Nat.zero_add,World.cell?_setCells_out b _ _ _ _ (fun h _ => absurd h hbb)]
     exact svs j v hj) (fun j hj => by rw [Uf q1,Array.getElem?_eq_getElem (by rw [Yi]; omega)]; rfl) (fun j hj => frz q1 kfr _) ovs
   have hov:∀ lb cb,(callFunc 217 #[.slice (some ⟨b2,0,none⟩) 1 c2,.slice (some ⟨b,(i+1)*2,none⟩) lb cb]).run Tryz.prog w=.ok (.value (.bool false)) w:=fun lb cb => by
    obtain ⟨it,hi0,hsz⟩:=Zx hc0'
    rw [run_callFunc_extern Tryz.func217 (by kernel_rfl) (by kernel_rfl) (by kernel_rfl) (e:=Extern.SlicesOverlaps.overlaps #[33,33] #[4]) (by kernel_rfl),
     Lib.run_overlaps_apart w 33 4 133 Tryz.underlying33 2 (fun w => by simp [sizeOf,typeInfo,hi0,hsz,hc0]) ⟨b2,0,none⟩ ⟨b,(i+1)*2,none⟩ 1 c2 lb cb hbb e2 e cc2.size cc.size (by simp only [World.shape?,m2]) (by simp only [World.shape?,k2]) (by omega) (frz m2 mfr _) (frz m2 mfr _)]
    rfl
   have hcal:=Zq4 b n cap i b2 c2 _ _ w _ _ hlt hcn (by omega) hov hcp1 hcp2
   refine hcal.mono fun e' w' ⟨he,hw⟩ => ⟨_,he,?_⟩
   subst hw
   generalize hW2:(w.drew.setCells b ((i+1)*2) us).setCells b (i*2) vs=W2 at *
   have hRL:RL (cx φ H w) (cs++List.replicate (cc.size - cs.length) .junk) cc.toList:=by
    have h:=k5.append (Zcf (S:=cx φ H w) (cc.size - cs.length) (us:=cc.toList.drop cs.length) (by rw [List.length_drop,Array.length_toList]))
    rwa [List.take_append_drop] at h
   have hl0:(cs++List.replicate (cc.size - cs.length) AV.junk).length=cc.size:=by rw [List.length_append,List.length_replicate]; omega
   have hA:=Pc (off:=(i+1)*2) hRL rus (by rw [hl0,hD]; omega)
   have hB:=Pc (off:=i*2) hA m5 (by rw [Xl _ _ _ (by rw [hl0,hD]; omega),hl0]; simp; omega)
   have hT:=hB.take (n*2+2)
   rw [Zlz (by rw [hl0]; omega) hl (by omega) rfl (List.take_append_of_le_length (by rw [hl]; omega))] at hT
   obtain ⟨u1,u2⟩:=Jq (S:=cx φ H w) hs (cs':=cs.take (i*2)++([x0,x1]++cs.drop (i*2))) (c':=Wk (Wk cc ((i+1)*2) us) (i*2) vs) (h':=W2.heap) hob rfl hb k2 (by rw [s3,q3]; rfl) (fun k hk => by rw [s2 k hk,q2 k hk]; rfl) s1 (by rw [Yi,Yi]) (by rw [hlen,hl]; omega) (fun h => by cases h) (by rw [hlen,Yi,Yi]; omega) (by rw [hlen]; exact hT)
   have eH:H.set p ⟨cs.take (i*2)++([x0,x1]++cs.drop (i*2)),2,true⟩=setO H p (cs.take (i*2)++([x0,x1]++cs.drop (i*2))):=by rw [setO,ho]
   have u1:St (cx φ (H.set p ⟨cs.take (i*2)++([x0,x1]++cs.drop (i*2)),2,true⟩) W2):=u1
   have u2:Ext (cx φ H w) (cx φ (H.set p ⟨cs.take (i*2)++([x0,x1]++cs.drop (i*2)),2,true⟩) W2):=u2
   rw [eH] at u1 u2
   refine ⟨φ,u1,u2,Same.trans (⟨rfl,rfl,rfl⟩:Same w w.drew) (Same.trans q4 s4),?_⟩
   refine ⟨some ⟨b,0,none⟩,cap,rfl,hcn,by simp,⟨cs.take (i*2)++([x0,x1]++cs.drop (i*2)),2,true⟩,?_,by rw [hlen]; omega,fun _ => .inr ⟨b,hb,by simp,.inl rfl,fun _ => ⟨?_,?_⟩⟩⟩
   ·rw [← eH]
    show (H.set p _)[p]? = _
    rw [List.getElem?_set_self hp]
   ·have:=Oe u2 (b:=b)
    show 0+cap*2≤_
    omega
   ·show n*2+2≤0+cap*2
    omega
end Go.Proofs.YtcgjlpdkobmpnaaGreat.Eng

