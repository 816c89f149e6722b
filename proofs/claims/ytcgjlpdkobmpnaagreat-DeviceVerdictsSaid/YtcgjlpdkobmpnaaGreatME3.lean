/- What grows: make, append, copy; len, min, max. -/
import Derived.Test.YtcgjlpdkobmpnaaGreatME2
import Derived.Deep.Upon
import Derived.Laws.StructEq
import Derived.Laws.Externs
namespace Go.Proofs.YtcgjlpdkobmpnaaGreat.Eng
open Go
set_option linter.unusedVariables false
set_option linter.unusedSimpArgs false
section
variable {P:Program} {φ:Nat→Option Nat} {H:AH} {w:World}
theorem Zhb (hs:St (cx φ H w)) {t e:TypeId} {z:List Value} (hu:P.underlying t=some (.slice e)) (hz:S1 P e=some z) (hc:¬ (P.cellsOf e=0 || z.length != P.cellsOf e)=true) {l c:AV} {a b:Value} (hl:R (cx φ H w) l a) (hcc:R (cx φ H w) c b) (hok:Hs (P.bytesOf e) l c) :
  ∃ u w',(Instr.makeSlice t a b).run P w=.ok u w'∧PostV φ H w (.row H.length 0 (asI l).toNat ((asI l).toNat*P.cellsOf e)) (H++[⟨repl (asI l).toNat (zlit z),P.cellsOf e,true⟩]) u w':=by
 obtain ⟨it,v,hi,hv,hzc⟩:=Vv hz
 simp only [Bool.or_eq_true,decide_eq_true_eq,bne_iff_ne,ne_eq,not_or,Decidable.not_not] at hc
 obtain ⟨h0,hzl⟩:=hc
 obtain ⟨it',hi',hsz⟩:=Z2 h0
 rw [hi] at hi'; cases hi'
 obtain ⟨i1,i2,k0,k1,k2,k3⟩:=hok
 obtain ⟨kl,rfl⟩:=Ig hl i1
 obtain ⟨kc,rfl⟩:=Ig hcc i2
 have hb:P.bytesOf e=it.bytes:=by simp [Program.bytesOf,hi]
 rw [hb] at k2
 refine ⟨_,_,run_make w t e it v hu hi hv kl kc (asI l) (asI c) k0 k1 k2 k3,?_⟩
 have hvs:v.cells.size=P.cellsOf e:=by rw [← Array.length_toList,hzc,hzl]
 have hle:(asI l).toNat*P.cellsOf e≤(asI c).toNat*P.cellsOf e:=Nat.mul_le_mul_right _ (by omega)
 have hlen:(repl (asI l).toNat (zlit z)).length=(asI l).toNat*P.cellsOf e:=by simp [repl,zlit,List.length_flatten,hzl]
 have hms:(madeCells v.cells ((asI c).toNat*it.size)).size=(asI c).toNat*P.cellsOf e:=by rw [size_madeCells,hsz]
 refine P9 (w':=w.alloc (.cells (madeCells v.cells ((asI c).toNat*it.size)) e)) (ob:=⟨repl (asI l).toNat (zlit z),P.cellsOf e,true⟩) (c:=madeCells v.cells ((asI c).toNat*it.size)) (e:=e) (fr:=(0,0)) hs ⟨rfl,rfl,rfl⟩ rfl (.inl rfl) (fun h => h0 h.2) (by dsimp only; rw [hlen,hms]; exact hle) ?_ fun φ' hφ _ => ?_
 ·dsimp only
  rw [hlen,Mg]
  have e1:(madeCells v.cells ((asI c).toNat*it.size)).toList=(List.replicate (asI c).toNat v.cells.toList).flatten:=Mv _ _ _ (by rw [hvs,hsz])
  have e2:(List.replicate (asI c).toNat v.cells.toList).flatten.take ((asI l).toNat*P.cellsOf e)=(List.replicate (asI l).toNat z).flatten:=by
   apply List.ext_getElem?
   intro j
   rw [List.getElem?_take,Rw,Rw,hzc,hzl]
   by_cases hj:j<(asI l).toNat*P.cellsOf e
   ·rw [if_pos hj,if_pos (by omega),if_pos hj]
   ·rw [if_neg hj,if_neg hj]
  rw [e1,e2]; exact Tz _
 ·exact L3 rfl hφ (by dsimp only; rw [hlen]) (by omega) (by dsimp only; omega) (fun _ => Nat.mul_le_mul_right _ (by omega))
theorem Bk (hs:St (cx φ H w)) {sz:Nat} {tx:TypeId} (hsz:sz≠0) {x:AV} {a:Value} (hk:(∃ e',P.underlying tx=some (.slice e'))∨P.underlying tx=some .string) (hx:R (cx φ H w) x a) (hok:Wy sz H x) (h1:(srcC sz H x).all AV.one=true) :
  ∃ us,Src P sz tx a (srcN x) us w∧RL (cx φ H w) (srcC sz H x) us∧us.length=srcN x*sz:=by
 by_cases hstr:Mb x
 ·obtain ⟨s,rfl,rfl⟩:=Ztj hx hstr
  have h1:sz=1:=hok
  subst h1
  refine ⟨byteCells s,⟨hk,fun _ => rfl,firstCells_string s w,firstCells_string s w.drew,by rw [byteCells_length,Nat.mul_one]; rfl,C2 s⟩,?_,by rw [byteCells_length]; simp [srcN]⟩
  show RL _ (bytesOf s) _
  rw [Oj]; exact Tz _
 ·obtain ⟨base,cap,us,rfl,r1,r2,r3,r4⟩:=I3 hs hx hok hstr
  cases base with
  | none =>
   have h0:=r4 rfl
   have hus:us=[]:=by rw [h0,Nat.zero_mul] at r2; exact List.eq_nil_of_length_eq_zero r2
   subst hus
   rw [h0]
   exact ⟨[],⟨hk,fun _ => rfl,run_firstCells_none w sz 0 0 cap,run_firstCells_none w.drew sz 0 0 cap,by simp,fun _ h => by cases h⟩,r1,by simp⟩
  | some ad =>
   have hcell:∀ (j:Nat) (u:Value),us[j]? = some u→w.cell? (ad.add j)=some u:=by
    intro j u hj
    rcases r3 with rfl | ⟨b,off,hb,r5⟩
    ·simp at hj
    ·cases hb; rw [Xq]; exact r5 j u hj
   exact ⟨us,⟨hk,fun _ => rfl,run_firstCells_some w sz _ ad _ cap us r2 hcell,run_firstCells_some w.drew sz _ ad _ cap us r2 (by simpa using hcell),r2,r1.one h1⟩,r1,r2⟩
theorem I6 {H:AH} {id:Nat} (h:id<H.length):setO H id (obj H id).cs=H:=by
 unfold setO
 have:(⟨(obj H id).cs,(obj H id).sz,(obj H id).rw⟩:AObj)=obj H id:=rfl
 rw [this]
 apply List.ext_getElem?
 intro j
 rw [List.getElem?_set]
 split
 ·rename_i hj; subst hj
  rw [Q7 h]
 ·rfl
theorem Zoy {sz off n m L:Nat} {cs src:List AV} (hL:L=cs.length):appC sz cs src off n m L=cs.take (off+n*sz)++src++cs.drop (off+(n+m)*sz):=by
 unfold appC
 split
 ·rename_i h
  have:(n+m)*sz=n*sz+m*sz:=Nat.add_mul _ _ _
  rw [List.take_of_length_le (by omega),List.drop_eq_nil_of_le (by omega),List.append_nil]
 ·rfl
theorem Zy1 {sz off n m s L:Nat} (hs:s=m*sz) (hle:off+n*sz≤L):appL sz off n m s L=max L (off+(n+m)*sz):=by
 unfold appL
 have:(n+m)*sz=n*sz+m*sz:=Nat.add_mul _ _ _
 split <;> omega
theorem Zs1 {sz off n m L:Nat} {cs src:List AV} (hL:L=cs.length) (hm:src.length=m*sz) (hle:off+n*sz≤L):(appC sz cs src off n m L).length=max L (off+(n+m)*sz):=by
 rw [Zoy hL]
 have:(n+m)*sz=n*sz+m*sz:=Nat.add_mul _ _ _
 simp only [List.length_append,List.length_take,List.length_drop]
 omega
theorem Zaz (hs:St (cx φ H w)) {t tx ty e:TypeId} (hu:P.underlying t=some (.slice e)) (hc:P.cellsOf e≠0) {z:List Value} (hz:S1 P e=some z) (hzl:z.length=P.cellsOf e) (hpos:P.bytesOf e≠0) {s x:AV} {a b:Value} (hk:(∃ e',P.underlying tx=some (.slice e'))∨P.underlying tx=some .string)
  (hsR:R (cx φ H w) s a) (hxR:R (cx φ H w) x b) (hok:Ow (P.cellsOf e) (P.bytesOf e) H s x) :
  ∃ u w',(Builtin.append_ #[t,tx] ty #[a,b]).run P w=.ok u w'∧PostV φ H w (appV (P.cellsOf e) H x s) (appH (P.cellsOf e) H x s) u w':=by
 obtain ⟨hi1,hi2,hi3,hi4⟩:=hok
 obtain ⟨it,v,hi,hv,hzc⟩:=Vv hz
 obtain ⟨it',hi',hsz⟩:=Z2 hc
 rw [hi] at hi'; cases hi'
 have hvs:v.cells.size=P.cellsOf e:=by rw [← Array.length_toList,hzc,hzl]
 have hb:P.bytesOf e=it.bytes:=by simp [Program.bytesOf,hi]
 obtain ⟨us,r1,r2,r3⟩:=Bk (P:=P) hs hc hk hxR hi1 hi2
 rw [← hsz] at r1
 have hrl:=r2.length
 -- the arm that grows
 have grow:∀ (base:Option Addr) (n cap:Nat) (olds:List Value),a=.slice base n cap→n=srcN s→cap<n+srcN x→(Builtin.firstCells it.size n (.slice base n cap)).run P w.drew=.ok olds.toArray w.drew→olds.length=n*P.cellsOf e →
   ∃ ncap c,n+srcN x≤ncap∧(Builtin.append_ #[t,tx] ty #[a,b]).run P w=.ok (.slice (some ⟨w.heap.size,0,none⟩) (n+srcN x) ncap) (w.drew.alloc (.cells c e))∧c.size=ncap*P.cellsOf e∧c.toList.take ((n+srcN x)*P.cellsOf e)=olds++us:=by
  rintro base n cap olds rfl hn hcap hold hol
  have hbig:(n+srcN x)*it.bytes≤140737488355328:=by rw [← hb,hn]; exact hi3
  have hle:n+srcN x≤(n+srcN x)*it.bytes:=Nat.le_mul_of_pos_right _ (by omega)
  have hfit:=growslice_fits hcap hbig
  have hrun:=run_append_grow_src w t tx ty e it v hu hi hv base n cap olds hold b (srcN x) us r1 hcap (by omega) hfit
  have hge:n+srcN x≤grownCap w (n+srcN x) cap e:=by simp only [grownCap,Question.cut]; omega
  refine ⟨_,_,hge,hrun,?_,?_⟩
  ·have e1:((olds++us).toArray++Builtin.zeroCells v.cells (grownCap w (n+srcN x) cap e - (n+srcN x))).size=(n*P.cellsOf e+srcN x*P.cellsOf e)+(grownCap w (n+srcN x) cap e - (n+srcN x))*P.cellsOf e:=by
    simp [Builtin.zeroCells,hol,r3,hvs]
   rw [e1,← Nat.add_mul,← Nat.add_mul]; congr 1; omega
  ·rw [Array.toList_append]
   have:(n+srcN x)*P.cellsOf e=(olds++us).length:=by rw [List.length_append,hol,r3,Nat.add_mul]
   rw [this]; exact List.take_left
 have nothing:∀ (base:Option Addr) (n cap:Nat),a=.slice base n cap→n≤cap→srcN x=0→(Builtin.append_ #[t,tx] ty #[a,b]).run P w=.ok a w:=by
  rintro base n cap rfl hn h0
  have hus:us=[]:=by rw [h0,Nat.zero_mul] at r3; exact List.eq_nil_of_length_eq_zero r3
  rw [hus,h0] at r1
  exact run_append_nothing w t tx ty e it hu hi base n cap hn b r1
 have src0:srcN x=0→srcC (P.cellsOf e) H x=[]:=by
  intro h0
  rw [h0,Nat.zero_mul] at r3
  exact List.eq_nil_of_length_eq_zero (by omega)
 have newobj:∀ {n ncap:Nat} {c:Array Value} {cs:List AV},n≤ncap→cs.length=n*P.cellsOf e→c.size=ncap*P.cellsOf e→RL (cx φ H w) cs (c.toList.take cs.length)→PostV φ H w (.row H.length 0 n cs.length) (H++[⟨cs,P.cellsOf e,true⟩]) (.slice (some ⟨w.heap.size,0,none⟩) n ncap) (w.drew.alloc (.cells c e)):=by
  intro n ncap c cs h1 h2 h3 h4
  refine P9 (w':=w.drew.alloc (.cells c e)) (ob:=⟨cs,P.cellsOf e,true⟩) (c:=c) (e:=e) (fr:=(0,0)) hs ⟨rfl,rfl,rfl⟩ rfl (.inl rfl) (fun h => hc h.2) ?_ h4 fun φ' hφ _ => ?_
  ·dsimp only; rw [h2,h3]; exact Nat.mul_le_mul_right _ h1
  ·exact L3 rfl hφ rfl h1 (by dsimp only; omega) (fun _ => by rw [h2]; exact Nat.mul_le_mul_right _ h1)
 cases s with
 | lit vv =>
  obtain rfl:vv=.slice none 0 0:=by
   unfold Ur at hi4
   split at hi4 <;> simp_all
  cases hsR
  by_cases h0:srcN x=0
  ·refine ⟨_,_,nothing none 0 0 rfl (Nat.le_refl _) h0,?_⟩
   obtain ⟨φ',g1,g2,g3⟩:=Ii hs (ob:=⟨srcC (P.cellsOf e) H x,P.cellsOf e,true⟩) (src0 h0) (by dsimp only; omega)
   refine ⟨φ',g2,g3,.refl _,none,0,by rw [h0],by omega,fun _ => ⟨h0,rfl⟩,_,Lh,Nat.le_refl _,fun _ => .inl ⟨g1,rfl,Nat.pos_of_ne_zero hc⟩⟩
  ·obtain ⟨ncap,c,g1,g2,g3,g4⟩:=grow none 0 0 [] rfl rfl (by omega) (run_firstCells_none _ _ _ _ _) (by simp)
   rw [Nat.zero_add] at g1 g2 g4
   refine ⟨_,_,g2,?_⟩
   have:=newobj (cs:=srcC (P.cellsOf e) H x) g1 (by omega) g3 (by rw [← hrl,r3,g4,List.nil_append]; exact r2)
   exact this
 | row id off n L =>
  obtain ⟨k1,k2,k3,k4,k5,k6⟩:=hi4
  obtain ⟨base,cap,rfl,q1,q2,o,q3,q4,q5⟩:=hsR
  have q3':H[id]? = some o:=q3
  have ho:obj H id=o:=T6 q3'
  have hL:L=o.cs.length:=by rw [← ho]; exact k2
  have hsrc:(srcC (P.cellsOf e) H x).length=srcN x*P.cellsOf e:=by rw [← hrl,r3]
  have hadd:(n+srcN x)*P.cellsOf e=n*P.cellsOf e+srcN x*P.cellsOf e:=Nat.add_mul _ _ _
  have hcl:=Zs1 (m:=srcN x) k2 hsrc k5
  have hcl2:=Zy1 (m:=srcN x) hsrc k5
  have hce:=Zoy (sz:=P.cellsOf e) (off:=off) (n:=n) (m:=srcN x) (src:=srcC (P.cellsOf e) H x) k2
  show ∃ u w',_∧PostV φ H w (.row id off (n+srcN x) (appL (P.cellsOf e) off n (srcN x) (srcC (P.cellsOf e) H x).length L)) (setO H id (appC (P.cellsOf e) (obj H id).cs (srcC (P.cellsOf e) H x) off n (srcN x) L)) u w'
  by_cases h0:srcN x=0
  ·refine ⟨_,_,nothing base n cap rfl q1 h0,?_⟩
   have e0:=src0 h0
   rw [hcl2,hce,e0,h0,List.append_nil,Nat.add_zero,List.take_append_drop,I6 k1,Nat.max_eq_left k5]
   exact Zo hs ⟨base,cap,rfl,q1,q2,o,q3,q4,q5⟩
  ·have hpos':0<srcN x*P.cellsOf e:=Nat.mul_pos (Nat.pos_of_ne_zero h0) (Nat.pos_of_ne_zero hc)
   by_cases hroom:n+srcN x≤cap
   ·-- in place
    rcases q5 hL with ⟨_,rfl,_⟩ | ⟨bb,h2,h3,h4,h5⟩
    ·clear q5; omega
    ·rcases h4 with rfl | h4
     ·obtain ⟨c,e',fr,c1,c2,c3,c4⟩:=Mo hs k1 h2
      have hbs:X9 (cx φ H w) bb=c.size:=by
       unfold X9
       have:(cx φ H w).h[bb]? = some (.cells c e' fr):=c1
       rw [this]
      have h5':=h5 (by rw [← ho,k4]; omega)
      rw [hbs,← ho,k4] at h5'
      have hmul:(n+srcN x)*P.cellsOf e≤cap*P.cellsOf e:=Nat.mul_le_mul_right _ hroom
      have hfit:off+n*P.cellsOf e+us.length≤c.size:=by rw [r3]; omega
      obtain ⟨g1,g2,g3,g4⟩:=Rv us bb (off+n*P.cellsOf e) w c1
      have hrun:=run_append_room_src (P:=P) w t tx ty e it hu hi bb off n cap b (srcN x) us r1 hroom
       (fun j hj => by rw [Fa c1,hsz]; simp; omega)
       (fun j hj => by
        have:=c2 (off+n*it.size+j) (by rw [hsz]; omega)
        simp only [World.frozen?,c1]
        obtain ⟨lo,hi⟩:=fr
        simp only at this ⊢
        simp; omega)
      rw [hsz] at hrun
      refine ⟨_,_,hrun,?_⟩
      have key:=Zec (S:=cx φ H w) hs (id:=id) (b:=bb) (o:=obj H id) (cs':=appC (P.cellsOf e) (obj H id).cs (srcC (P.cellsOf e) H x) off n (srcN x) L) (c:=c) (c':=T4 c (off+n*P.cellsOf e) us) (e:=e') (fr:=fr) (h':=(w.setCells bb (off+n*P.cellsOf e) us).heap)
       (Q7 k1) k3 h2 c1 g3 g2 g1 (X4 _ _ _) (by rw [hcl,← k2]; exact Nat.le_max_left _ _) (fun hz => absurd hz (by rw [k4]; exact hc)) (by rw [hcl,X4]; omega) ?_
      ·refine ⟨φ,key.1,key.2,g4,_,cap,rfl,hroom,(fun h => by cases h),_,(show (setO H id (appC (P.cellsOf e) (obj H id).cs (srcC (P.cellsOf e) H x) off n (srcN x) L))[id]? = some _ from by unfold setO; rw [List.getElem?_set_self k1]),(by dsimp only; rw [hcl,hcl2]; exact Nat.le_refl _),fun _ => .inr ⟨bb,h2,by simp,.inl rfl,fun _ => ?_⟩⟩
       have:X9 (cx φ (setO H id (appC (P.cellsOf e) (obj H id).cs (srcC (P.cellsOf e) H x) off n (srcN x) L)) (w.setCells bb (off+n*P.cellsOf e) us)) bb=c.size:=by
        unfold X9
        have:(cx φ (setO H id (appC (P.cellsOf e) (obj H id).cs (srcC (P.cellsOf e) H x) off n (srcN x) L)) (w.setCells bb (off+n*P.cellsOf e) us)).h[bb]? = some (.cells (T4 c (off+n*P.cellsOf e) us) e' fr):=g1
        rw [this]; exact X4 _ _ _
       rw [this]
       dsimp only
       rw [k4,hcl2]; omega
      ·refine RL.of (by have hss:=X4 us (off+n*P.cellsOf e) c; have hst:(T4 c (off+n*P.cellsOf e) us).toList.length=c.size:=by rw [← hss]; exact Array.length_toList
                        rw [List.length_take,hst,hcl]; omega) fun j y u m1 m2 => ?_
       have hj:=Zv m1
       rw [List.getElem?_take,if_pos hj,Array.getElem?_toList,P7 _ _ _ _ (by omega)] at m2
       rw [hcl] at hj
       rw [hce,List.append_assoc,List.getElem?_append,List.length_take,← k2,Nat.min_eq_left k5] at m1
       by_cases hjn:j<off+n*P.cellsOf e
       ·rw [if_pos hjn,List.getElem?_take,if_pos hjn] at m1
        rw [if_neg (by omega)] at m2
        obtain ⟨vv,v1,v2⟩:=c4.get m1
        rw [List.getElem?_take,if_pos (by omega)] at v1
        have e1:c[j]? = some vv:=by simpa using v1
        have e2:some vv=some u:=e1.symm.trans m2
        cases e2; exact v2
       ·rw [if_neg hjn,List.getElem?_append] at m1
        by_cases hj2:j<off+n*P.cellsOf e+us.length
        ·rw [if_pos (by omega)] at m1
         rw [if_pos (by omega)] at m2
         obtain ⟨vv,v1,v2⟩:=r2.get m1
         have e2:some vv=some u:=v1.symm.trans m2
         cases e2; exact v2
        ·rw [if_neg (by omega),List.getElem?_drop,hsrc] at m1
         rw [if_neg (by omega)] at m2
         rw [show off+(n+srcN x)*P.cellsOf e+(j - (off+n*P.cellsOf e) - srcN x*P.cellsOf e)=j by omega] at m1
         obtain ⟨vv,v1,v2⟩:=c4.get m1
         rw [List.getElem?_take,if_pos (by omega)] at v1
         have e1:c[j]? = some vv:=by simpa using v1
         have e2:some vv=some u:=e1.symm.trans m2
         cases e2; exact v2
     ·omega
   ·-- a new block
    have hlow:L≤off+cap*P.cellsOf e:=by
     rcases q5 hL with ⟨h,_⟩ | ⟨bb,h2,h3,h4,h5⟩
     ·rcases hs.ok id o q3 with ⟨_,hcs⟩ | ⟨b',_,_,_,hb',_⟩
      ·rw [hL,hcs]; simp
      ·rw [h] at hb'; cases hb'
     ·have h5':=h5 (by rw [← ho,k4]; exact Nat.pos_of_ne_zero hc)
      rw [← ho,k4] at h5'
      exact h5'.2
    have hmul:cap*P.cellsOf e+P.cellsOf e≤(n+srcN x)*P.cellsOf e:=by rw [← Nat.succ_mul]; exact Nat.mul_le_mul_right _ (by omega)
    have hoff:off=0:=by
     rcases k6 with h | h
     ·exact h
     ·omega
    subst hoff
    have olds:∃ ol,(Builtin.firstCells it.size n (.slice base n cap)).run P w.drew=.ok ol.toArray w.drew∧ol.length=n*P.cellsOf e∧RL (cx φ H w) (o.cs.take (n*P.cellsOf e)) ol:=by
     have hnz:∀ hn0:n=0,o.cs.take (n*P.cellsOf e)=[]:=fun hn0 => by rw [hn0,Nat.zero_mul]; rfl
     cases base with
     | none =>
      have hn0:=(q2 rfl).1
      exact ⟨[],run_firstCells_none _ _ _ _ _,by simp [hn0],by rw [hnz hn0]; rfl⟩
     | some ad =>
      rcases q5 hL with ⟨_,h⟩ | ⟨bb,h2,h3,h4,h5⟩
      ·have hn0:n=0:=by clear q5; omega
       refine ⟨[],run_firstCells_some _ _ _ ad n cap [] (by simp [hn0]) (by simp),by simp [hn0],by rw [hnz hn0]; rfl⟩
      ·by_cases hn0:n=0
       ·refine ⟨[],run_firstCells_some _ _ _ ad n cap [] (by simp [hn0]) (by simp),by simp [hn0],by rw [hnz hn0]; rfl⟩
       ·rcases h4 with h4 | h4
        ·cases h4
         obtain ⟨ul,u1,u2⟩:=Hp hs (off:=0) (k:=n*P.cellsOf e) k1 h2 (by omega)
         have hul:ul.length=n*P.cellsOf e:=by rw [u1.length,List.length_take,List.length_drop]; omega
         refine ⟨ul,run_firstCells_some _ _ _ _ n cap ul (by rw [hsz]; exact hul) (fun j u hj => by rw [Xq]; have:=u2 j u hj; simpa using this),hul,?_⟩
         rw [List.drop_zero,ho] at u1
         exact u1
        ·omega
    obtain ⟨ol,ol1,ol2,ol3⟩:=olds
    obtain ⟨ncap,c,g1,g2,g3,g4⟩:=grow base n cap ol rfl rfl (by omega) ol1 ol2
    refine ⟨_,_,g2,?_⟩
    have hcl3:(appC (P.cellsOf e) (obj H id).cs (srcC (P.cellsOf e) H x) 0 n (srcN x) L).length=(n+srcN x)*P.cellsOf e:=by rw [hcl]; omega
    have hce2:appC (P.cellsOf e) (obj H id).cs (srcC (P.cellsOf e) H x) 0 n (srcN x) L=o.cs.take (n*P.cellsOf e)++srcC (P.cellsOf e) H x:=by
     rw [hce,ho,List.drop_eq_nil_of_le (by omega),List.append_nil,Nat.zero_add]
    obtain ⟨φ',f1,f2,f3⟩:=Zj4 (S:=cx φ H w) hs (id:=id) (o:=obj H id) (cs':=appC (P.cellsOf e) (obj H id).cs (srcC (P.cellsOf e) H x) 0 n (srcN x) L) (c':=c) (e:=e) (Q7 k1) k3
     (by rw [hcl3,← k2]; omega) (by rw [k4]; omega) (by rw [hcl3,g3]; exact Nat.mul_le_mul_right _ g1)
     (by rw [hcl3,g4,hce2]; exact ol3.append r2)
    refine ⟨φ',f2,f3,⟨rfl,rfl,rfl⟩,_,ncap,rfl,g1,(fun h => by cases h),_,(show (setO H id (appC (P.cellsOf e) (obj H id).cs (srcC (P.cellsOf e) H x) 0 n (srcN x) L))[id]? = some _ from by unfold setO; rw [List.getElem?_set_self k1]),(by dsimp only; rw [hcl,hcl2]; exact Nat.le_refl _),fun _ => .inr ⟨w.heap.size,f1,by simp,.inl rfl,fun _ => ?_⟩⟩
    have hbz:X9 (cx φ' (setO H id (appC (P.cellsOf e) (obj H id).cs (srcC (P.cellsOf e) H x) 0 n (srcN x) L)) (w.drew.alloc (.cells c e))) w.heap.size=c.size:=by
     unfold X9
     have:(cx φ' (setO H id (appC (P.cellsOf e) (obj H id).cs (srcC (P.cellsOf e) H x) 0 n (srcN x) L)) (w.drew.alloc (.cells c e))).h[w.heap.size]? = some (.cells c e):=by
      show (w.heap.push (.cells c e))[w.heap.size]? = _
      simp
     rw [this]
    rw [hbz,Nat.zero_add]
    dsimp only
    rw [k4,g3,hcl2]
    have:(n+srcN x)*P.cellsOf e≤ncap*P.cellsOf e:=Nat.mul_le_mul_right _ g1
    omega
 | view cs n full =>
  obtain ⟨k1,k2,k3⟩:=hi4
  obtain ⟨base,cap,rfl,q1,q2,q3,q4,q5⟩:=hsR
  have hcap:=q3 k1
  subst hcap
  by_cases hc0:cap=0
  ·subst hc0
   show ∃ u w',_∧PostV φ H w (.row H.length 0 (srcN x) (srcC (P.cellsOf e) H x).length) (H++[⟨srcC (P.cellsOf e) H x,P.cellsOf e,true⟩]) u w'
   by_cases h0:srcN x=0
   ·refine ⟨_,_,nothing base 0 0 rfl (Nat.le_refl _) h0,?_⟩
    obtain ⟨φ',g1,g2,g3⟩:=Ii hs (ob:=⟨srcC (P.cellsOf e) H x,P.cellsOf e,true⟩) (src0 h0) (by dsimp only; omega)
    refine ⟨φ',g2,g3,.refl _,base,0,by rw [h0],by omega,fun _ => ⟨h0,rfl⟩,_,Lh,Nat.le_refl _,fun _ => .inl ⟨g1,rfl,Nat.pos_of_ne_zero hc⟩⟩
   ·obtain ⟨ncap,c,g1,g2,g3,g4⟩:=grow base 0 0 [] rfl rfl (by omega) (by cases base with
     | none => exact run_firstCells_none _ _ _ _ _
     | some ad => exact run_firstCells_some _ _ _ ad 0 0 [] (by simp) (by simp)) (by simp)
    rw [Nat.zero_add] at g1 g2 g4
    refine ⟨_,_,g2,?_⟩
    have:=newobj (cs:=srcC (P.cellsOf e) H x) g1 (by omega) g3 (by rw [← hrl,r3,g4,List.nil_append]; exact r2)
    exact this
  have e1:appV (P.cellsOf e) H x (.view cs cap full)=.view (cs++srcC (P.cellsOf e) H x) (cap+srcN x) false:=if_neg hc0
  have e2:appH (P.cellsOf e) H x (.view cs cap full)=H:=if_neg hc0
  have k3:Yg (srcC (P.cellsOf e) H x)=true:=k3.resolve_left hc0
  rw [e1,e2]
  by_cases h0:srcN x=0
  ·refine ⟨_,_,nothing base cap cap rfl (Nat.le_refl _) h0,?_⟩
   rw [h0,src0 h0,List.append_nil]
   exact Zo hs ⟨base,cap,rfl,Nat.le_refl _,q2,(fun h => by cases h),q4,q5⟩
  ·have olds:∃ ol,(Builtin.firstCells it.size cap (.slice base cap cap)).run P w.drew=.ok ol.toArray w.drew∧ol.length=cap*P.cellsOf e∧RL (cx φ H w) cs ol:=by
    cases base with
    | none =>
     have hn0:=(q2 rfl).1
     have:cs=[]:=List.eq_nil_of_length_eq_zero (by rw [k2,hn0,Nat.zero_mul])
     exact ⟨[],run_firstCells_none _ _ _ _ _,by simp [hn0],by rw [this]; rfl⟩
    | some ad =>
     rcases q5 with rfl | ⟨bb,off,ul,u1,u2,u3⟩
     ·have hn0:cap*P.cellsOf e=0:=by simpa using k2.symm
      exact ⟨[],run_firstCells_some _ _ _ ad cap cap [] (by rw [hsz]; simp [hn0]) (by simp),by simp [hn0],rfl⟩
     ·cases u1
      have hul:ul.length=cap*P.cellsOf e:=by rw [u3.length]; exact k2
      exact ⟨ul,run_firstCells_some _ _ _ _ cap cap ul (by rw [hsz]; exact hul) (fun j u hj => by rw [Xq]; have:=Mz u2 rfl j u hj; simpa using this),hul,u3⟩
   obtain ⟨ol,ol1,ol2,ol3⟩:=olds
   obtain ⟨ncap,c,g1,g2,g3,g4⟩:=grow base cap cap ol rfl rfl (by omega) ol1 ol2
   refine ⟨_,_,g2,?_⟩
   refine Ml (o:=.cells c e) hs ⟨rfl,rfl,rfl⟩ rfl fun φ' hx hφ => ?_
   subst hφ
   refine Lz hs (us:=ol++us) rfl (Y7 q4 k3) ((ol3.append r2).mono hx) (fun j u hj => ?_) g1 (fun h => by cases h)
   rw [← g4,List.getElem?_take] at hj
   split at hj
   ·simpa using hj
   ·cases hj
 | _ => exact hi4.elim
theorem Zi6 (hs:St (cx φ H w)) {t tx ty e:TypeId} (hu:P.underlying t=some (.slice e)) (hc:P.cellsOf e≠0) {z:List Value} (hz:S1 P e=some z) (hzl:z.length=P.cellsOf e) (hpos:P.bytesOf e≠0) {s x:AV} {a b:Value} (hk:(∃ e',P.underlying tx=some (.slice e'))∨P.underlying tx=some .string)
  (hsR:R (cx φ H w) s a) (hxR:R (cx φ H w) x b) (hok:Zay (P.cellsOf e) (P.bytesOf e) H s x) :
  ∃ u w',(Builtin.append_ #[t,tx] ty #[a,b]).run P w=.ok u w'∧PostV φ H w (Zdk (P.cellsOf e) H x s) H u w':=by
 obtain ⟨hi1,hip,hi2,hi3,hi4⟩:=hok
 obtain ⟨it,v,hi,hv,hzc⟩:=Vv hz
 obtain ⟨it',hi',hsz⟩:=Z2 hc
 rw [hi] at hi'; cases hi'
 have hvs:v.cells.size=P.cellsOf e:=by rw [← Array.length_toList,hzc,hzl]
 have hb:P.bytesOf e=it.bytes:=by simp [Program.bytesOf,hi]
 obtain ⟨us,r1,r2,r3⟩:=Bk (P:=P) hs hc hk hxR hi1 hi2
 rw [← hsz] at r1
 have hrl:=r2.length
 -- the arm that grows
 have grow:∀ (base:Option Addr) (n cap:Nat) (olds:List Value),a=.slice base n cap→n=srcN s→cap<n+srcN x→(Builtin.firstCells it.size n (.slice base n cap)).run P w.drew=.ok olds.toArray w.drew→olds.length=n*P.cellsOf e →
   ∃ ncap c,n+srcN x≤ncap∧(Builtin.append_ #[t,tx] ty #[a,b]).run P w=.ok (.slice (some ⟨w.heap.size,0,none⟩) (n+srcN x) ncap) (w.drew.alloc (.cells c e))∧c.size=ncap*P.cellsOf e∧c.toList.take ((n+srcN x)*P.cellsOf e)=olds++us:=by
  rintro base n cap olds rfl hn hcap hold hol
  have hbig:(n+srcN x)*it.bytes≤140737488355328:=by rw [← hb,hn]; exact hi3
  have hle:n+srcN x≤(n+srcN x)*it.bytes:=Nat.le_mul_of_pos_right _ (by omega)
  have hfit:=growslice_fits hcap hbig
  have hrun:=run_append_grow_src w t tx ty e it v hu hi hv base n cap olds hold b (srcN x) us r1 hcap (by omega) hfit
  have hge:n+srcN x≤grownCap w (n+srcN x) cap e:=by simp only [grownCap,Question.cut]; omega
  refine ⟨_,_,hge,hrun,?_,?_⟩
  ·have e1:((olds++us).toArray++Builtin.zeroCells v.cells (grownCap w (n+srcN x) cap e - (n+srcN x))).size=(n*P.cellsOf e+srcN x*P.cellsOf e)+(grownCap w (n+srcN x) cap e - (n+srcN x))*P.cellsOf e:=by
    simp [Builtin.zeroCells,hol,r3,hvs]
   rw [e1,← Nat.add_mul,← Nat.add_mul]; congr 1; omega
  ·rw [Array.toList_append]
   have:(n+srcN x)*P.cellsOf e=(olds++us).length:=by rw [List.length_append,hol,r3,Nat.add_mul]
   rw [this]; exact List.take_left
 have nothing:∀ (base:Option Addr) (n cap:Nat),a=.slice base n cap→n≤cap→srcN x=0→(Builtin.append_ #[t,tx] ty #[a,b]).run P w=.ok a w:=by
  rintro base n cap rfl hn h0
  have hus:us=[]:=by rw [h0,Nat.zero_mul] at r3; exact List.eq_nil_of_length_eq_zero r3
  rw [hus,h0] at r1
  exact run_append_nothing w t tx ty e it hu hi base n cap hn b r1
 have src0:srcN x=0→srcC (P.cellsOf e) H x=[]:=by
  intro h0
  rw [h0,Nat.zero_mul] at r3
  exact List.eq_nil_of_length_eq_zero (by omega)
 have key:∀ (cs:List AV) (base:Option Addr) (cap:Nat),a=.slice base cap cap→cap=srcN s→cs.length=cap*P.cellsOf e→Yg cs=true→(base=none→cap=0)→(cs=[]∨∃ bb off ul,base=some ⟨bb,off,none⟩∧Imm (cx φ H w) bb off ul∧RL (cx φ H w) cs ul) →
   ∃ u w',(Builtin.append_ #[t,tx] ty #[a,b]).run P w=.ok u w'∧PostV φ H w (.view (cs++srcC (P.cellsOf e) H x) (cap+srcN x) false) H u w':=by
  rintro cs base cap rfl hcs k2 q4 hnil q5
  by_cases h0:srcN x=0
  ·refine ⟨_,_,nothing base cap cap rfl (Nat.le_refl _) h0,?_⟩
   rw [h0,src0 h0,List.append_nil]
   exact Zo hs ⟨base,cap,rfl,Nat.le_refl _,(fun h => ⟨hnil h,hnil h⟩),(fun h => by cases h),q4,q5⟩
  ·have olds:∃ ol,(Builtin.firstCells it.size cap (.slice base cap cap)).run P w.drew=.ok ol.toArray w.drew∧ol.length=cap*P.cellsOf e∧RL (cx φ H w) cs ol:=by
    cases base with
    | none =>
     have hn0:=hnil rfl
     have:cs=[]:=List.eq_nil_of_length_eq_zero (by rw [k2,hn0,Nat.zero_mul])
     exact ⟨[],run_firstCells_none _ _ _ _ _,by simp [hn0],by rw [this]; rfl⟩
    | some ad =>
     rcases q5 with rfl | ⟨bb,off,ul,u1,u2,u3⟩
     ·have hn0:cap*P.cellsOf e=0:=by simpa using k2.symm
      exact ⟨[],run_firstCells_some _ _ _ ad cap cap [] (by rw [hsz]; simp [hn0]) (by simp),by simp [hn0],rfl⟩
     ·cases u1
      have hul:ul.length=cap*P.cellsOf e:=by rw [u3.length]; exact k2
      exact ⟨ul,run_firstCells_some _ _ _ _ cap cap ul (by rw [hsz]; exact hul) (fun j u hj => by rw [Xq]; have:=Mz u2 rfl j u hj; simpa using this),hul,u3⟩
   obtain ⟨ol,ol1,ol2,ol3⟩:=olds
   obtain ⟨ncap,c,g1,g2,g3,g4⟩:=grow base cap cap ol rfl hcs (by omega) ol1 ol2
   refine ⟨_,_,g2,?_⟩
   refine Ml (o:=.cells c e) hs ⟨rfl,rfl,rfl⟩ rfl fun φ' hx hφ => ?_
   subst hφ
   refine Lz hs (us:=ol++us) rfl (Y7 q4 hip) ((ol3.append r2).mono hx) (fun j u hj => ?_) g1 (fun h => by cases h)
   rw [← g4,List.getElem?_take] at hj
   split at hj
   ·simpa using hj
   ·cases hj
 cases s with
 | lit vv =>
  obtain rfl:vv=.slice none 0 0:=by
   unfold N0 at hi4
   split at hi4 <;> simp_all
  cases hsR
  have:=key [] none 0 rfl rfl (by simp) rfl (fun _ => rfl) (.inl rfl)
  rw [List.nil_append,Nat.zero_add] at this
  exact this
 | view cs n full =>
  obtain ⟨k1,k2⟩:=hi4
  obtain ⟨base,cap,rfl,q1,q2,q3,q4,q5⟩:=hsR
  have hcap:=q3 k1
  subst hcap
  exact key cs base cap rfl rfl k2 q4 (fun h => (q2 h).1) q5
 | _ => exact hi4.elim
theorem J7 (w:World) (t tx ty e:TypeId) (i:TypeInfo) (z:Value) (k:IntKind) (ht:P.underlying t=some (.slice e)) (hx:P.underlying tx=some (.int k)) (hi:P.info? e=some i) (hz:i.zero=some z) (hsz:i.size≠0) (base:Option Addr) (k':IntKind) (m:Nat) (h0:0<m)
  (h63:(m:Int)≤9223372036854775807) (hb:i.bytes≠0) (h48:m*i.bytes≤140737488355328) :
  (Builtin.append_ #[t,tx] ty #[.slice base 0 0,.int k' m]).run P w =
   .ok (.slice (some ⟨w.heap.size,0,none⟩) m (grownCap w m 0 e))
    (w.drew.alloc (.cells (Builtin.zeroCells z.cells m++Builtin.zeroCells z.cells (grownCap w m 0 e - m)) e)):=by
 have hw:IntKind.i64.wrap (m:Int)=m:=by rw [IntKind.wrap_i64]; omega
 have hn:¬ m=0:=by omega
 have hg:=growslice_fits (show 0<m from h0) h48
 have h1:¬ ((m:Int)*(i.bytes:Int) > 281474976710656):=by
  have:((m*i.bytes:Nat):Int)≤140737488355328:=by omega
  rw [Int.natCast_mul] at this; omega
 have h2:¬ (9223372036854775807<(m:Int)):=by omega
 have h48':¬ (281474976710656<Builtin.nextslicecap m 0*i.bytes):=by omega
 have h3:m*i.size≠0:=Nat.mul_ne_zero hn hsz
 have h1':¬ (281474976710656<(m:Int)*(i.bytes:Int)):=by omega
 have ho:(Builtin.firstCells i.size 0 (.slice base 0 0)).run P w.drew=.ok #[] w.drew:=by
  cases base with
  | none => exact run_firstCells_none _ _ _ _ _
  | some ad => exact run_firstCells_some _ _ _ ad 0 0 [] (by simp) (by simp)
 simp [Builtin.append_,run_underlying ht,run_underlying hx,sizeOf,typeInfo,zeroValue,asInt,asIntOf,hi,hz,hw,hn,h1,h1',h2,h48',h3,hsz,Question.forced,ho,newRow,grownCap,show ¬ ((m:Int)<0) by omega]
theorem Zi5 (hs:St (cx φ H w)) {t tx ty e:TypeId} {k:IntKind} (hu:P.underlying t=some (.slice e)) (hx:P.underlying tx=some (.int k)) (hc:P.cellsOf e≠0) {z:List Value} (hz:S1 P e=some z) (hzl:z.length=P.cellsOf e) (hpos:P.bytesOf e≠0) {s n:AV} {a b:Value}
  (hsR:R (cx φ H w) s a) (hnR:R (cx φ H w) n b) (hok:Zf1 (P.bytesOf e) s n) :
  ∃ u w',(Builtin.append_ #[t,tx] ty #[a,b]).run P w=.ok u w'∧PostV φ H w (.row H.length 0 (asI n).toNat ((asI n).toNat*P.cellsOf e)) (H++[⟨repl (asI n).toNat (zlit z),P.cellsOf e,true⟩]) u w':=by
 obtain ⟨hb,i1,i2,i3,i4⟩:=hok
 obtain ⟨it,v,hi,hv,hzc⟩:=Vv hz
 obtain ⟨it',hi',hsz⟩:=Z2 hc
 rw [hi] at hi'; cases hi'
 have hvs:v.cells.size=P.cellsOf e:=by rw [← Array.length_toList,hzc,hzl]
 have hbe:P.bytesOf e=it.bytes:=by simp [Program.bytesOf,hi]
 obtain ⟨k',rfl⟩:=Ig hnR i1
 obtain ⟨m,hm⟩:∃ m:Nat,asI n=m:=⟨(asI n).toNat,by omega⟩
 rw [hm] at i3 i4 ⊢
 rw [Int.toNat_natCast] at i3 ⊢
 obtain ⟨base,rfl⟩:∃ base,a=.slice base 0 0:=by
  cases s with
  | lit vv =>
   obtain rfl:vv=.slice none 0 0:=by
    unfold Uj at hb
    split at hb <;> simp_all
   cases hsR
   exact ⟨none,rfl⟩
  | view cs n full =>
   obtain ⟨rfl,rfl⟩:=hb
   obtain ⟨base,cap,rfl,q1,q2,q3,q4,q5⟩:=hsR
   exact ⟨base,by rw [q3 rfl]⟩
  | _ => exact hb.elim
 by_cases h0:m=0
 ·subst h0
  have hrun:(Builtin.append_ #[t,tx] ty #[.slice base 0 0,.int k' ((0:Nat):Int)]).run P w=.ok (.slice base 0 0) w:=by
   have hw:IntKind.i64.wrap (0:Int)=0:=by rw [IntKind.wrap_i64]; omega
   cases base <;> simp [Builtin.append_,run_underlying hu,run_underlying hx,sizeOf,typeInfo,asInt,asIntOf,hi,hw,storeCells]
  refine ⟨_,_,hrun,?_⟩
  obtain ⟨φ',g1,g2,g3⟩:=Ii hs (ob:=⟨repl 0 (zlit z),P.cellsOf e,true⟩) rfl (by dsimp only; omega)
  exact ⟨φ',g2,g3,.refl _,base,0,rfl,Nat.le_refl _,fun _ => ⟨rfl,rfl⟩,_,Lh,by simp,fun _ => .inl ⟨g1,rfl,Nat.pos_of_ne_zero hc⟩⟩
 ·have hrun:=J7 (P:=P) w t tx ty e it v k hu hx hi hv (by omega) base k' m (by omega) i4 (by omega) (by rw [← hbe]; exact i3)
  refine ⟨_,_,hrun,?_⟩
  have hge:m≤grownCap w m 0 e:=by simp only [grownCap,Question.cut]; omega
  have hlen:(repl m (zlit z)).length=m*P.cellsOf e:=by simp [repl,zlit,List.length_flatten,hzl]
  have hz1:∀ j,(Builtin.zeroCells v.cells j).size=j*P.cellsOf e:=by intro j; simp [Builtin.zeroCells,hvs]
  have hzz:(Builtin.zeroCells v.cells m).toList=(List.replicate m z).flatten:=by
   have e1:Builtin.zeroCells v.cells m=madeCells v.cells (m*v.cells.size):=rfl
   rw [e1]
   exact (Mv _ _ _ rfl).trans (by rw [hzc])
  refine P9 (w':=w.drew.alloc (.cells (Builtin.zeroCells v.cells m++Builtin.zeroCells v.cells (grownCap w m 0 e - m)) e)) (ob:=⟨repl m (zlit z),P.cellsOf e,true⟩) (c:=Builtin.zeroCells v.cells m++Builtin.zeroCells v.cells (grownCap w m 0 e - m)) (e:=e) (fr:=(0,0)) hs ⟨rfl,rfl,rfl⟩ rfl (.inl rfl) (fun h => hc h.2) ?_ ?_ fun φ' hφ _ => ?_
  ·dsimp only; rw [hlen,Array.size_append,hz1,hz1]; omega
  ·dsimp only
   rw [hlen,Mg,Array.toList_append]
   have e1:m*P.cellsOf e=(Builtin.zeroCells v.cells m).toList.length:=by rw [Array.length_toList,hz1]
   rw [e1,List.take_left,hzz]; exact Tz _
  ·refine L3 rfl hφ (by dsimp only; rw [hlen]) hge ?_ (fun _ => Nat.mul_le_mul_right _ hge)
   dsimp only
   rw [Array.size_append,hz1,hz1,← Nat.add_mul]
   exact Nat.mul_le_mul_right _ (by omega)
theorem Zhe (hs:St (cx φ H w)) {t e:TypeId} (hu:P.underlying t=some (.slice e)) (he:P.underlying e=some (.int .u8)) {x:AV} {a:Value} (hx:R (cx φ H w) x a) (hok:Ej H x) :
  ∃ u w',(convert t t a).run P w=.ok u w'∧PostV φ H w x H u w':=by
 cases x with
 | row id off n L =>
  obtain ⟨k1,k2,k3,k4,k5⟩:=hok
  have hx':=hx
  obtain ⟨base,cap,rfl,q1,q2,o,q3,q4,q5⟩:=hx
  have ho:obj H id=o:=T6 q3
  rcases q5 (by rw [← ho]; exact k2) with ⟨p1,rfl,_⟩ | ⟨bb,p1,p2,p3,p4⟩
  ·exact absurd q1 (Nat.not_le.2 k4)
  ·rcases p3 with rfl | rfl
   ·rcases hs.ok id o q3 with ⟨g1,_⟩ | ⟨b',c,ee,fr,g1,g2,g3,g4,g5⟩
    ·rw [p1] at g1; cases g1
    ·rw [p1] at g1; cases g1
     have g2':w.heap[bb]? = some (.cells c ee fr):=g2
     have hsh:w.shape? bb=some (ee,c.size):=by unfold World.shape?; rw [g2']
     have hlt:=Un g2
     obtain ⟨lo,hi⟩:=fr
     refine ⟨.slice (some ⟨bb,off,none⟩) n cap,w.freeze ⟨bb,c.size,none⟩ 1,by simp [convert,run_underlying hu,run_underlying he,markStringish,hsh],?_⟩
     have hb':(w.freeze ⟨bb,c.size,none⟩ 1).heap[bb]? = some (.cells c ee (if lo == hi then (c.size,c.size+1) else (min lo c.size,max hi (c.size+1)))):=by
      simp [World.freeze,Array.getElem?_modify,g2']
     obtain ⟨m1,m2⟩:=Zj5 (S:=cx φ H w) hs q3 (by rw [← ho]; exact k3) p1 g2 (h':=(w.freeze ⟨bb,c.size,none⟩ 1).heap) (by simp [World.freeze]; rfl) (fun i hi => by
      simp [World.freeze,Array.getElem?_modify,Ne.symm hi]; rfl) hb' (by
       split
       ·exact .inr (Nat.le_refl _)
       ·rename_i hne
        rcases g3 with g3 | g3
        ·exact absurd g3 (by simpa using hne)
        ·exact .inr (by dsimp only at g3 ⊢; omega)) (by rw [← ho]; exact k5)
     exact ⟨φ,m1,m2,⟨rfl,rfl,rfl⟩,hx'.mono m2⟩
   ·exact absurd q1 (Nat.not_le.2 k4)
 | _ => exact hok.elim
/-! ### copy -/
theorem Me (s:ByteArray) (n:Nat) (w:World):(Builtin.firstCells 1 n (.string s)).run P w=.ok ((byteCells s).take n).toArray w:=by
 simp [Builtin.firstCells,byteCells]
 apply Array.ext'
 simp [List.map_take,ByteArray.extract,ByteArray.copySlice]
theorem Gw (hs:St (cx φ H w)) {sz n:Nat} {x:AV} {a:Value} (hx:R (cx φ H w) x a) (hok:Wy sz H x) (h1:(srcC sz H x).all AV.one=true) (hn:n≤srcN x) :
  ∃ us,(Builtin.lenOf a).run P w=.ok (srcN x) w∧(Builtin.firstCells sz n a).run P w=.ok us.toArray w∧RL (cx φ H w) ((srcC sz H x).take (n*sz)) us∧us.length=n*sz∧∀ u ∈ us,u.oneCell'=true:=by
 have hone:((srcC sz H x).take (n*sz)).all AV.one=true:=by
  rw [List.all_eq_true] at h1 ⊢
  exact fun v hv => h1 v (List.mem_of_mem_take hv)
 by_cases hstr:Mb x
 ·obtain ⟨s,rfl,rfl⟩:=Ztj hx hstr
  have h1:sz=1:=hok
  subst h1
  have hr:RL (cx φ H w) ((srcC 1 H (.lit (.string s))).take (n*1)) ((byteCells s).take n):=by
   rw [Nat.mul_one]
   show RL _ ((bytesOf s).take n) _
   rw [Oj]; exact (Tz _).take n
  refine ⟨(byteCells s).take n,rfl,Me s n w,hr,?_,hr.one hone⟩
  have hn':n≤s.size:=hn
  rw [List.length_take,byteCells_length]; omega
 ·obtain ⟨base,cap,us,rfl,r1,r2,r3,r4⟩:=I3 hs hx hok hstr
  have hle:n*sz≤us.length:=by rw [r2]; exact Nat.mul_le_mul_right _ hn
  have hl:(us.take (n*sz)).length=n*sz:=by rw [List.length_take]; omega
  refine ⟨us.take (n*sz),rfl,?_,r1.take _,hl,(r1.take _).one hone⟩
  cases base with
  | none =>
   have h0:n*sz=0:=by have:=r4 rfl; rw [show n=0 by omega,Nat.zero_mul]
   rw [h0,List.take_zero]
   exact run_firstCells_none _ _ _ _ _
  | some ad =>
   refine run_firstCells_some _ _ _ ad _ _ _ hl fun j u hj => ?_
   rcases r3 with rfl | ⟨b,off,hb,r5⟩
   ·simp at hj
   ·cases hb; rw [Xq]; exact Ec r5 _ j u hj
theorem Zin (hs:St (cx φ H w)) {dT sT ty e:TypeId} (hu:P.underlying dT=some (.slice e)) (hc:P.cellsOf e≠0) {d x:AV} {a b:Value} (hd:R (cx φ H w) d a) (hx:R (cx φ H w) x b) (hok:Zaj (P.cellsOf e) H d x) :
  ∃ w',(Builtin.copy_ #[dT,sT] ty #[a,b]).run P w=.ok (goInt (Zak d x:Nat)) w'∧PostV φ H w (.lit (.int .i64 (Zak d x:Nat))) (Zal (P.cellsOf e) H x d) (goInt (Zak d x:Nat)) w':=by
 obtain ⟨h1,h2,h3⟩:=hok
 obtain ⟨it,hi,hsz⟩:=Z2 hc
 cases d with
 | row id off n L =>
  obtain ⟨k1,k2,k3,k4⟩:=h3
  obtain ⟨base,cap,rfl,q1,q2,o,q3,q4,q5⟩:=hd
  have q3':H[id]? = some o:=q3
  have ho:obj H id=o:=T6 q3'
  have hN:Zak (.row id off n L) x=min (srcN x) n:=rfl
  obtain ⟨us,r0,r1,r2,r3,r4⟩:=Gw (P:=P) hs (n:=min (srcN x) n) hx h1 h2 (Nat.min_le_left _ _)
  have hrun:∀ {w'},(match base with | some a => storeCells a us | none => pure ():Sem Unit).run P w=.ok () w'→(Builtin.copy_ #[dT,sT] ty #[.slice base n cap,b]).run P w=.ok (goInt (min (srcN x) n:Nat)) w':=by
   intro w' hw
   have e:Nat.min (srcN x) n=min (srcN x) n:=rfl
   cases base with
   | none =>
    cases hw
    simp [Builtin.copy_,run_underlying hu,r0,sizeOf,typeInfo,hi,hsz,e,r1]
   | some ad =>
    simp [Builtin.copy_,run_underlying hu,r0,sizeOf,typeInfo,hi,hsz,e,r1,hw]
  rw [hN]
  show ∃ w',_∧PostV φ H w (.lit (.int .i64 (min (srcN x) n:Nat))) (setO H id (splice (obj H id).cs off ((srcC (P.cellsOf e) H x).take (min (srcN x) n*P.cellsOf e)))) _ _
  have empty:us=[]→setO H id (splice (obj H id).cs off ((srcC (P.cellsOf e) H x).take (min (srcN x) n*P.cellsOf e)))=H:=by
   intro hus
   subst hus
   have:(srcC (P.cellsOf e) H x).take (min (srcN x) n*P.cellsOf e)=[]:=by rw [← r3]; simp
   rw [this]
   have e2:splice (obj H id).cs off []=(obj H id).cs:=by simp [splice]
   rw [e2,I6 k1]
  rcases q5 (by rw [← ho]; exact k2) with ⟨p1,rfl,_⟩ | ⟨bb,p1,p2,p3,p4⟩
  ·have hus:us=[]:=List.eq_nil_of_length_eq_zero (by rw [r3,Nat.le_zero.1 q1]; simp)
   refine ⟨w,hrun (by subst hus; cases base <;> rfl),?_⟩
   rw [empty hus]
   exact Zo hs rfl
  ·obtain ⟨ad,rfl⟩:∃ ad,base=some ad:=by
    cases base with
    | none => exact absurd rfl p2
    | some ad => exact ⟨ad,rfl⟩
   by_cases hus:us=[]
   ·refine ⟨w,hrun (by subst hus; rfl),?_⟩
    rw [empty hus]
    exact Zo hs rfl
   ·have hn0:0<n:=by
     rcases Nat.eq_zero_or_pos n with h | h
     ·exact absurd (List.eq_nil_of_length_eq_zero (by rw [r3,h]; simp)) hus
     ·exact h
    rcases p3 with p3 | p3
    ·cases p3
     have hlen:((srcC (P.cellsOf e) H x).take (min (srcN x) n*P.cellsOf e)).length=min (srcN x) n*P.cellsOf e:=by rw [← r2.length,r3]
     have hle:min (srcN x) n*P.cellsOf e≤n*P.cellsOf e:=Nat.mul_le_mul_right _ (Nat.min_le_right _ _)
     obtain ⟨m1,m2,m3,m4⟩:=Nf hs (off:=off) k1 k3 p1 (by rw [hlen]; omega) r2
     have hst:=run_storeCells_cells (P:=P) bb off us 0 w (fun j hj => by simpa using (m1 j hj).1) (fun j hj => by simpa using (m1 j hj).2) r4
     exact ⟨_,hrun (by simpa using hst),φ,m2,m3,m4,rfl⟩
    ·omega
 | _ => exact h3.elim
/-! ### clear,cap -/
theorem Zda (hs:St (cx φ H w)) {t ty e:TypeId} {z:List Value} (hu:P.underlying t=some (.slice e)) (hz:S1 P e=some z) (hc:¬ (P.cellsOf e=0 || z.length != P.cellsOf e)=true) {x:AV} {a:Value} (hx:R (cx φ H w) x a) (hok:G9 (P.cellsOf e) z H x) :
  ∃ w',(Builtin.clear_ #[t] ty #[a]).run P w=.ok (.tuple #[]) w'∧PostV φ H w (.tup []) (Zft z H x) (.tuple #[]) w':=by
 obtain ⟨it,v,hi,hv,hzc⟩:=Vv hz
 simp only [Bool.or_eq_true,decide_eq_true_eq,bne_iff_ne,ne_eq,not_or,Decidable.not_not] at hc
 obtain ⟨h0,hzl⟩:=hc
 have htup:∀ S,R S (.tup []) (.tuple #[]):=fun S => ⟨#[],rfl,rfl⟩
 have none_ok:∀ (n cap:Nat),(Builtin.clear_ #[t] ty #[.slice none n cap]).run P w=.ok (.tuple #[]) w:=by
  intro n cap
  simp [Builtin.clear_,run_underlying hu]
 have zero_ok:∀ (b:Option Addr) (cap:Nat),(Builtin.clear_ #[t] ty #[.slice b 0 cap]).run P w=.ok (.tuple #[]) w:=by
  intro b cap
  cases b with
  | none => exact none_ok 0 cap
  | some ad => simp [Builtin.clear_,run_underlying hu]
 cases x with
 | row id off n L =>
  obtain ⟨⟨k1,k2,k3,k4⟩,hone⟩:=hok
  obtain ⟨base,cap,rfl,q1,q2,o,q3,q4,q5⟩:=hx
  have ho:obj H id=o:=T6 q3
  have hlen:(repl n (z.map AV.lit)).length=n*P.cellsOf e:=by simp [repl,List.length_flatten,hzl]
  show ∃ w',_∧PostV φ H w (.tup []) (setO H id (splice (obj H id).cs off (repl n (z.map .lit)))) _ w'
  by_cases hn0:n=0
  ·subst hn0
   refine ⟨w,zero_ok _ _,?_⟩
   have e2:splice (obj H id).cs off (repl 0 (z.map AV.lit))=(obj H id).cs:=by simp [splice,repl]
   rw [e2,I6 k1]
   exact Zo hs (htup _)
  ·rcases q5 (by rw [← ho]; exact k2) with ⟨p1,rfl,_⟩ | ⟨bb,p1,p2,p3,p4⟩
   ·omega
   ·rcases p3 with rfl | p3
    ·have hvs:v.cells.size=P.cellsOf e:=by rw [← Array.length_toList,hzc,hzl]
     have hzz:(Builtin.zeroCells v.cells n).toList=(List.replicate n z).flatten:=by
      have e1:Builtin.zeroCells v.cells n=madeCells v.cells (n*v.cells.size):=rfl
      rw [e1]
      exact (Mv _ _ _ rfl).trans (by rw [hzc])
     have hr:RL (cx φ H w) (repl n (z.map AV.lit)) (Builtin.zeroCells v.cells n).toList:=by
      have:=Mg n z
      unfold zlit at this
      rw [hzz,this]; exact Tz _
     obtain ⟨m1,m2,m3,m4⟩:=Nf hs (off:=off) k1 k3 p1 (by rw [hlen]; omega) hr
     have hone':∀ u ∈ (Builtin.zeroCells v.cells n).toList,u.oneCell'=true:=by
      rw [hzz]
      intro u hu'
      obtain ⟨l,h1,h2⟩:=List.mem_flatten.1 hu'
      rw [List.eq_of_mem_replicate h1] at h2
      exact List.all_eq_true.1 hone u h2
     have hst:=run_storeCells_cells (P:=P) bb off (Builtin.zeroCells v.cells n).toList 0 w (fun j hj => by simpa using (m1 j hj).1) (fun j hj => by simpa using (m1 j hj).2) hone'
     simp only [Nat.add_zero] at hst
     refine ⟨_,?_,φ,m2,m3,m4,htup _⟩
     obtain ⟨k,rfl⟩:∃ k,n=k+1:=⟨n - 1,by omega⟩
     simp [Builtin.clear_,run_underlying hu,zeroValue,typeInfo,hi,hv,hst]
    ·omega
 | lit vv =>
  unfold G9 at hok
  split at hok <;> first | exact hok.elim | skip
  all_goals rename_i heq
  all_goals first | (cases heq; done) | skip
  cases heq
  cases hx
  exact ⟨w,none_ok 0 0,Zo hs (htup _)⟩
 | view cs n full =>
  obtain rfl:n=0:=hok
  obtain ⟨base,cap,rfl,_⟩:=hx
  exact ⟨w,zero_ok _ _,Zo hs (htup _)⟩
 | _ => exact hok.elim
theorem Zod {x:AV} {t:TypeId} (hu:∃ e,P.underlying t=some (.slice e)) {ty:TypeId} {a:Value} (hx:R (cx φ H w) x a) (hok:Zdc x):(Builtin.cap_ #[t] ty #[a]).run P w=.ok (.int .i64 (srcN x)) w:=by
 obtain ⟨e,hu⟩:=hu
 unfold Zdc at hok
 split at hok
 ·obtain ⟨base,cap,rfl,q1,q2,q3,_⟩:=hx
  simp [Builtin.cap_,run_underlying hu,goInt,srcN,q3 hok]
 ·cases hx
  simp [Builtin.cap_,run_underlying hu,goInt,srcN]
 ·exact hok.elim
/-! ### len,min,max -/
theorem Ac {str:Bool} {x:AV} {t:TypeId} (hu:match str with | true => P.underlying t=some .string | false => ∃ e,P.underlying t=some (.slice e)) {ty:TypeId} {a:Value} (hx:R (cx φ H w) x a) (hok:Ks str x):(Builtin.len_ #[t] ty #[a]).run P w=.ok (.int .i64 (srcN x)) w:=by
 unfold Ks at hok
 split at hok
 ·cases hx
  simp [Builtin.len_,run_underlying hu,goInt,srcN]
 ·obtain ⟨e,hu⟩:=hu
  obtain ⟨base,cap,rfl,_⟩:=hx
  simp [Builtin.len_,run_underlying hu,goInt,srcN]
 ·obtain ⟨e,hu⟩:=hu
  obtain ⟨base,cap,rfl,_⟩:=hx
  simp [Builtin.len_,run_underlying hu,goInt,srcN]
 ·obtain ⟨e,hu⟩:=hu
  cases hx
  simp [Builtin.len_,run_underlying hu,goInt,srcN]
 ·exact hok.elim
theorem Zq3 {x y:AV} {a b:Value} (hx:R (cx φ H w) x a) (hy:R (cx φ H w) y b) (h1:isI x) (h2:isI y) (ts:Array TypeId) (ty:TypeId):∃ u,(Builtin.min_ ts ty #[a,b]).run P w=.ok u w∧R (cx φ H w) (mnV x y) u:=by
 obtain ⟨k,rfl⟩:=Ig hx h1
 obtain ⟨k',rfl⟩:=Ig hy h2
 refine ⟨.int k (if asI y<asI x then asI y else asI x),by simp [Builtin.min_,Builtin.min2],?_⟩
 cases x with
 | lit v => cases v <;> first | (cases hx; rfl) | exact h1.elim
 | _ => exact h1.elim
theorem Zq0 {x y:AV} {a b:Value} (hx:R (cx φ H w) x a) (hy:R (cx φ H w) y b) (h1:isI x) (h2:isI y) (ts:Array TypeId) (ty:TypeId):∃ u,(Builtin.max_ ts ty #[a,b]).run P w=.ok u w∧R (cx φ H w) (mxV x y) u:=by
 obtain ⟨k,rfl⟩:=Ig hx h1
 obtain ⟨k',rfl⟩:=Ig hy h2
 refine ⟨.int k (if asI x<asI y then asI y else asI x),by simp [Builtin.max_,Builtin.max2],?_⟩
 cases x with
 | lit v => cases v <;> first | (cases hx; rfl) | exact h1.elim
 | _ => exact h1.elim
end
section
variable {P:Program} {φ:Nat→Option Nat} {H:AH} {w:World}
def L6:Value→Option (Option IntKind)
 | .int k _ => some (some k)
 | .bool _ => some none
 | _ => none
def vEq:Value→Value→Bool
 | .int _ a,.int _ b => a == b
 | .bool a,.bool b => a == b
 | _,_ => false
def vsEq:List Value→List Value→Bool
 | [],[] => true
 | a::r,b::s => vEq a b&&vsEq r s
 | _,_ => false
def J6 (P:Program) (t:TypeId) (xs:List Value):Value:=if Yk P t then .agg xs.toArray else xs.headD undef
theorem Ng:∀ {a c b d:List Value},a.length=c.length→vsEq (a++b) (c++d)=(vsEq a c&&vsEq b d)
 | [],[],b,d,_ => by simp [vsEq]
 | x::a,y::c,b,d,h => by simp [vsEq,Ng (a:=a) (c:=c) (b:=b) (d:=d) (by simpa using h),Bool.and_assoc]
 | [],_::_,_,_,h => by simp at h
 | _::_,[],_,_,h => by simp at h
theorem Md {t:TypeId} (hA:(P.underlying t).isNone=false) {n:Nat} (hc:P.cellsOf t=n) (hn:0<n) (hagg:Yk P t=false→n=1) (xs:List Value) (off:Nat) (hfit:off+n≤xs.length) :
  (part t xs.toArray off).run P w=.ok (J6 P t ((xs.drop off).take n)) w:=by
 obtain ⟨i,hi,hsz⟩:=Z2 (t:=t) (P:=P) (by omega)
 unfold part J6
 cases hg:Yk P t
 ·have hlt:off<xs.length:=by omega
  have h1:xs.toArray[off]? = some xs[off]:=by simp [hlt]
  simp only [Sem.run_bind,S3 hA,hg,Result.andThen_ok,Bool.false_eq_true,if_false,h1,Sem.run_pure]
  rw [hagg hg]
  have:(xs.drop off).take 1=[xs[off]]:=by
   rw [List.drop_eq_getElem_cons hlt]; rfl
  rw [this]; rfl
 ·simp only [Sem.run_bind,S3 hA,hg,Result.andThen_ok,if_true,sizeOf,typeInfo,run_program,hi,Sem.run_pure,hsz,hc]
  congr 2
  apply Array.ext'
  rw [Array.toList_extract,List.extract_eq_take_drop]
  simp
def Kw (d:Nat) (e:TypeId) (n:Nat) (xs ys:Array Value):List Nat→Sem Bool
 | [] => pure true
 | i::r => do
  let a ← part e xs (i*n)
  let b ← part e ys (i*n)
  let q ← Op.equalIn d e a b
  if (!q)=true then pure false else Kw d e n xs ys r
theorem Kg (d:Nat) {t e:TypeId} {len:Nat} (xs ys:Array Value) (ht:P.underlying t=some (.array len e)) {i:TypeInfo} (hi:P.info? e=some i) :
  (Op.equalIn (d+1) t (.agg xs) (.agg ys)).run P w=(Kw d e i.size xs ys (List.range len)).run P w:=by
 simp only [Op.equalIn,Sem.run_bind,run_underlying ht,Result.andThen_ok,sizeOf,typeInfo,run_program,hi,Sem.run_pure,Std.Legacy.Range.forIn_eq_forIn_range',Std.Legacy.Range.size]
 rw [List.range_eq_range']
 simp only [Nat.sub_zero,Nat.add_sub_cancel,Nat.div_one,Nat.zero_add]
 generalize 0=s
 clear ht
 induction len generalizing w s with
 | zero => simp [Kw]
 | succ len ih =>
  simp only [List.range'_succ,List.forIn_cons,Kw,Sem.run_bind]
  generalize (part e xs (s*i.size)).run P w=r1
  cases r1 with
  | halt x w1 => simp [Result.andThen]
  | ok a w1 =>
   simp only [Result.andThen_ok]
   generalize (part e ys (s*i.size)).run P w1=r2
   cases r2 with
   | halt x w2 => simp [Result.andThen]
   | ok b w2 =>
    simp only [Result.andThen_ok]
    generalize (Op.equalIn d e a b).run P w2=r3
    cases r3 with
    | halt x w3 => simp [Result.andThen]
    | ok r w3 =>
     cases r
     ·simp only [Result.andThen_ok,Bool.not_false,if_true,Sem.run_pure]
     ·simp only [Result.andThen_ok,Bool.not_true,Bool.false_eq_true,if_false,Sem.run_pure]
      exact ih (s+1)
structure FlatOk (P:Program) (t:TypeId) (ks:List (Option IntKind)):Prop where
 und:(P.underlying t).isNone=false
 len:P.cellsOf t=ks.length
 pos:0<ks.length
 one:Yk P t=false→ks.length=1
theorem Za2 (flat:TypeId→Option (List (Option IntKind))):∀ fs:List Field,fs.foldl (addK flat) none=none
 | [] => rfl
 | f::r => Za2 flat r
theorem Zo9 {flat:TypeId→Option (List (Option IntKind))} {acc acc':List (Option IntKind)} {f:Field} (h:addK flat (some acc) f=some acc'):f.name ≠ "_"∧f.offset=acc.length∧∃ kf,flat f.type=some kf∧acc'=acc++kf:=by
 unfold addK at h
 dsimp only at h
 split at h
 ·cases h
 ·rename_i hc
  simp only [Bool.or_eq_true,decide_eq_true_eq,bne_iff_ne,ne_eq,not_or,Decidable.not_not] at hc
  cases hf:flat f.type with
  | none => rw [hf] at h; cases h
  | some kf => rw [hf] at h; cases h; exact ⟨hc.1,hc.2,kf,rfl,rfl⟩
theorem Mt {α β:Type} {f:α→β} {xs:List α} {a b:List β} (h:xs.map f=a++b):(xs.take a.length).map f=a∧(xs.drop a.length).map f=b:=by
 rw [List.map_take,List.map_drop,h]; simp
theorem Zct:∀ (d:Nat) (t:TypeId) (ks:List (Option IntKind)),Lj P d t=some ks→FlatOk P t ks:=by
 intro d
 induction d with
 | zero => intro t ks h; cases h
 | succ d ih =>
  intro t ks h
  unfold Lj at h
  cases hu:P.underlying t with
  | none => rw [hu] at h; cases h
  | some dd =>
   have hund:(P.underlying t).isNone=false:=by rw [hu]; rfl
   rw [hu] at h
   cases dd <;> try (cases h; done)
   case bool =>
    dsimp only at h
    split at h
    ·cases h; exact ⟨hund,by assumption,by simp,fun _ => rfl⟩
    ·cases h
   case int k =>
    dsimp only at h
    split at h
    ·cases h; exact ⟨hund,by assumption,by simp,fun _ => rfl⟩
    ·cases h
   case array n e =>
    dsimp only at h
    cases hk:Lj P d e with
    | none => rw [hk] at h; cases h
    | some kk =>
     rw [hk] at h
     simp only [Option.bind_some] at h
     split at h
     ·rename_i hc
      simp only [Bool.and_eq_true,decide_eq_true_eq,bne_iff_ne,ne_eq] at hc
      cases h
      have h1:=(ih e kk hk).pos
      exact ⟨hund,by rw [hc.1]; simp [List.length_flatten],(by simp only [List.length_flatten,List.map_replicate,List.sum_replicate_nat]; exact Nat.mul_pos (by omega) h1),fun hA => by simp [Yk,hu] at hA⟩
     ·cases h
   case struct fs =>
    dsimp only at h
    split at h
    ·cases h
    ·cases hk:fs.toList.foldl (addK (Lj P d)) (some []) with
     | none => rw [hk] at h; cases h
     | some kk =>
      rw [hk] at h
      simp only [Option.bind_some] at h
      split at h
      ·rename_i hc
       simp only [Bool.and_eq_true,decide_eq_true_eq,Bool.not_eq_true',List.isEmpty_eq_false_iff] at hc
       cases h
       exact ⟨hund,hc.1,List.length_pos_iff.2 hc.2,fun hA => by simp [Yk,hu] at hA⟩
      ·cases h
theorem N2 {xs:List Value} {ks:List (Option IntKind)} (h:xs.map L6=ks.map some):xs.length=ks.length:=by
 have:=congrArg List.length h
 simpa using this
theorem Zh4:∀ (d:Nat) (t:TypeId) (ks:List (Option IntKind)),Lj P d t=some ks→∀ D,d≤D→∀ xs ys:List Value,xs.map L6=ks.map some→ys.map L6=ks.map some →
  (Op.equalIn D t (J6 P t xs) (J6 P t ys)).run P w=.ok (vsEq xs ys) w:=by
 intro d
 induction d with
 | zero => intro t ks h; cases h
 | succ d ih =>
  intro t ks h D hD xs ys hx hy
  obtain ⟨D,rfl⟩:∃ D',D=D'+1:=⟨D - 1,by omega⟩
  have hok:=Zct _ _ _ h
  have hxl:=N2 hx
  have hyl:=N2 hy
  unfold Lj at h
  cases hu:P.underlying t with
  | none => rw [hu] at h; cases h
  | some dd =>
   rw [hu] at h
   cases dd <;> try (cases h; done)
   case bool =>
    dsimp only at h
    split at h <;> cases h
    have hA:Yk P t=false:=by simp [Yk,hu]
    cases xs with
    | nil => simp at hx
    | cons x r =>
     cases ys with
     | nil => simp at hy
     | cons y s =>
      simp only [List.map_cons,List.map_nil,List.cons.injEq,List.map_eq_nil_iff] at hx hy
      obtain ⟨hx,rfl⟩:=hx
      obtain ⟨hy,rfl⟩:=hy
      cases x <;> simp [L6] at hx
      cases y <;> simp [L6] at hy
      simp only [J6,hA,Bool.false_eq_true,if_false,List.headD_cons]
      rw [Zfo _ hu]; simp [vsEq,vEq]
   case int k =>
    dsimp only at h
    split at h <;> cases h
    have hA:Yk P t=false:=by simp [Yk,hu]
    cases xs with
    | nil => simp at hx
    | cons x r =>
     cases ys with
     | nil => simp at hy
     | cons y s =>
      simp only [List.map_cons,List.map_nil,List.cons.injEq,List.map_eq_nil_iff] at hx hy
      obtain ⟨hx,rfl⟩:=hx
      obtain ⟨hy,rfl⟩:=hy
      cases x <;> simp [L6] at hx
      cases y <;> simp [L6] at hy
      subst hx; subst hy
      simp only [J6,hA,Bool.false_eq_true,if_false,List.headD_cons]
      rw [Znk _ hu]; simp [vsEq,vEq]
   case array n e =>
    have hA:Yk P t=true:=by simp [Yk,hu]
    dsimp only at h
    cases hk:Lj P d e with
    | none => rw [hk] at h; cases h
    | some kk =>
     rw [hk] at h
     simp only [Option.bind_some] at h
     split at h <;> cases h
     have he:=Zct _ _ _ hk
     obtain ⟨i,hi,hsz⟩:=Z2 (t:=e) (P:=P) (by rw [he.len]; have:=he.pos; omega)
     simp only [J6,hA,if_true]
     rw [Kg D _ _ hu hi,hsz,he.len,List.range_eq_range']
     have key:∀ (m s:Nat),s*kk.length≤xs.length→(xs.drop (s*kk.length)).map L6=(List.replicate m kk).flatten.map some→(ys.drop (s*kk.length)).map L6=(List.replicate m kk).flatten.map some→s*kk.length≤ys.length →
       (Kw D e kk.length xs.toArray ys.toArray (List.range' s m)).run P w=.ok (vsEq (xs.drop (s*kk.length)) (ys.drop (s*kk.length))) w:=by
      intro m
      induction m with
      | zero =>
       intro s _ h1 h2 _
       simp at h1 h2
       rw [List.drop_eq_nil_of_le (by omega),List.drop_eq_nil_of_le (by omega)]
       rfl
      | succ m ihm =>
       intro s h0 h1 h2 h3
       rw [List.replicate_succ,List.flatten_cons,List.map_append] at h1 h2
       have l1:=N2 (ks:=kk++(List.replicate m kk).flatten) (by rw [h1,List.map_append])
       have l2:=N2 (ks:=kk++(List.replicate m kk).flatten) (by rw [h2,List.map_append])
       simp only [List.length_drop,List.length_append] at l1 l2
       obtain ⟨a1,a2⟩:=Mt h1
       obtain ⟨b1,b2⟩:=Mt h2
       rw [List.length_map] at a1 a2 b1 b2
       rw [List.drop_drop] at a2 b2
       have e1:s*kk.length+kk.length=(s+1)*kk.length:=by rw [Nat.succ_mul]
       rw [e1] at a2 b2
       have p1:=Md (P:=P) (w:=w) he.und he.len he.pos he.one xs (s*kk.length) (by omega)
       have p2:=Md (P:=P) (w:=w) he.und he.len he.pos he.one ys (s*kk.length) (by omega)
       have q:=ih e kk hk D (by omega) _ _ a1 b1
       simp only [List.range'_succ,Kw,Sem.run_bind,p1,p2,Result.andThen_ok,q]
       have hlen:((xs.drop (s*kk.length)).take kk.length).length=((ys.drop (s*kk.length)).take kk.length).length:=by
        simp only [List.length_take,List.length_drop]; omega
       have hsplit:vsEq (xs.drop (s*kk.length)) (ys.drop (s*kk.length))=(vsEq ((xs.drop (s*kk.length)).take kk.length) ((ys.drop (s*kk.length)).take kk.length)&&vsEq (xs.drop ((s+1)*kk.length)) (ys.drop ((s+1)*kk.length))):=by
        rw [← e1,← List.drop_drop,← List.drop_drop,← Ng hlen,List.take_append_drop,List.take_append_drop]
       rw [hsplit]
       cases vsEq ((xs.drop (s*kk.length)).take kk.length) ((ys.drop (s*kk.length)).take kk.length)
       ·rfl
       ·simp only [Bool.not_true,Bool.false_eq_true,if_false,Bool.true_and]
        exact ihm (s+1) (by omega) a2 b2 (by omega)
     have:=key n 0 (by omega) (by simpa using hx) (by simpa using hy) (by omega)
     simpa using this
   case struct fs =>
    have hA:Yk P t=true:=by simp [Yk,hu]
    dsimp only at h
    split at h
    ·cases h
    rename_i hst
    cases hk:fs.toList.foldl (addK (Lj P d)) (some []) with
    | none => rw [hk] at h; cases h
    | some kk =>
     rw [hk] at h
     simp only [Option.bind_some] at h
     split at h <;> cases h
     simp only [J6,hA,if_true]
     have hfo:P.fieldsOf t=fs:=by simp [Program.fieldsOf,hu]
     rw [run_equalIn_struct w D t _ _ (by rw [hfo]; exact hu) (by simpa using hst),hfo]
     have key:∀ (l:List Field) (acc:List (Option IntKind)),l.foldl (addK (Lj P d)) (some acc)=some ks→(∃ rest,ks=acc++rest) ∧
       (Op.eqFields D xs.toArray ys.toArray l).run P w=.ok (vsEq (xs.drop acc.length) (ys.drop acc.length)) w:=by
      intro l
      induction l with
      | nil =>
       intro acc ha
       simp only [List.foldl_nil,Option.some.injEq] at ha
       subst ha
       refine ⟨⟨[],by simp⟩,?_⟩
       rw [List.drop_eq_nil_of_le (by omega),List.drop_eq_nil_of_le (by omega)]
       rfl
      | cons f r ihl =>
       intro acc ha
       rw [List.foldl_cons] at ha
       cases hk1:addK (Lj P d) (some acc) f with
       | none => rw [hk1,Za2] at ha; cases ha
       | some acc' =>
        rw [hk1] at ha
        obtain ⟨f1,f2,kf,f3,rfl⟩:=Zo9 hk1
        obtain ⟨⟨rest,hrest⟩,hrun⟩:=ihl _ ha
        refine ⟨⟨kf++rest,by rw [hrest,List.append_assoc]⟩,?_⟩
        have he:=Zct _ _ _ f3
        have hx':(xs.drop acc.length).map L6=kf.map some++rest.map some:=by
         rw [List.map_drop,hx,hrest]; simp
        have hy':(ys.drop acc.length).map L6=kf.map some++rest.map some:=by
         rw [List.map_drop,hy,hrest]; simp
        obtain ⟨a1,a2⟩:=Mt hx'
        obtain ⟨b1,b2⟩:=Mt hy'
        rw [List.length_map] at a1 a2 b1 b2
        have hle:acc.length+kf.length≤ks.length:=by rw [hrest]; simp
        have p1:=Md (P:=P) (w:=w) he.und he.len he.pos he.one xs acc.length (by omega)
        have p2:=Md (P:=P) (w:=w) he.und he.len he.pos he.one ys acc.length (by omega)
        have q:=ih f.type kf f3 D (by omega) _ _ a1 b1
        have hlen:((xs.drop acc.length).take kf.length).length=((ys.drop acc.length).take kf.length).length:=by
         simp only [List.length_take,List.length_drop]; omega
        have hsplit:vsEq (xs.drop acc.length) (ys.drop acc.length)=(vsEq ((xs.drop acc.length).take kf.length) ((ys.drop acc.length).take kf.length)&&vsEq (xs.drop (acc++kf).length) (ys.drop (acc++kf).length)):=by
         rw [List.length_append,← List.drop_drop,← List.drop_drop,← Ng hlen,List.take_append_drop,List.take_append_drop]
        rw [hsplit]
        simp only [Op.eqFields,ne_eq,f1,not_false_eq_true,if_true,f2,Sem.run_bind,p1,p2,Result.andThen_ok,q]
        cases vsEq ((xs.drop acc.length).take kf.length) ((ys.drop acc.length).take kf.length)
        ·rfl
        ·simp only [Bool.not_true,Bool.false_eq_true,if_false,Bool.true_and]
         exact hrun
     have:=(key fs.toList [] hk).2
     simpa using this
theorem C9 {S:Cx}:∀ {a:List AV} {vs:List Value} {ks:List (Option IntKind)},RL S a vs→a.map Th=ks.map some→vs.map L6=ks.map some
 | [],vs,ks,h,hk => by cases h; simpa using hk
 | x::r,vs,[],h,hk => by simp at hk
 | x::r,vs,k::ks,h,hk => by
  obtain ⟨u,t,rfl,h2,h3⟩:=h
  simp only [List.map_cons,List.cons.injEq] at hk ⊢
  refine ⟨?_,C9 h3 hk.2⟩
  have hk1:=hk.1
  cases x with
  | lit v => cases h2; cases u <;> simp [Th] at hk1 <;> simp [L6,hk1]
  | _ => simp [Th] at hk1
theorem Zux {S:Cx}:∀ {a b:List AV} {vs us:List Value} {ks:List (Option IntKind)},RL S a vs→RL S b us→a.map Th=ks.map some→b.map Th=ks.map some→vsEq vs us=Wb a b
 | [],[],vs,us,ks,h,h',_,_ => by cases h; cases h'; rfl
 | [],y::s,_,_,[],_,_,_,hk => by simp at hk
 | [],y::s,_,_,k::ks,_,_,hk,_ => by simp at hk
 | x::r,[],_,_,[],_,_,hk,_ => by simp at hk
 | x::r,[],_,_,k::ks,_,_,_,hk => by simp at hk
 | x::r,y::s,_,_,[],_,_,hk,_ => by simp at hk
 | x::r,y::s,vs,us,k::ks,h,h',hk,hk' => by
  obtain ⟨u,t,rfl,h2,h3⟩:=h
  obtain ⟨u',t',rfl,h2',h3'⟩:=h'
  simp only [List.map_cons,List.cons.injEq] at hk hk'
  have e:=Zux h3 h3' hk.2 hk'.2
  simp only [vsEq,Wb,e]
  congr 1
  have k1:=hk.1
  have k2:=hk'.1
  cases x with
  | lit v =>
   cases y with
   | lit v' =>
    cases h2; cases h2'
    cases u <;> simp [Th] at k1 <;> cases u' <;> simp [Th] at k2 <;> first | rfl | (subst k1; cases k2)
   | _ => simp [Th] at k2
  | _ => simp [Th] at k1
theorem Gz {t:TypeId} (hA:Yk P t=true) (hG:P.eqGuardType P.depth t=false) {ks:List (Option IntKind)} (hk:Lj P 20 t=some ks) {neq:Bool} {x y:AV} {a b:Value} {X Y:Operand} (hx:R (cx φ H w) x a) (hy:R (cx φ H w) y b) (hok:Us ks x y) :
  (do eqGuard (if neq then .neq else .eql) t X Y a b; binOp (if neq then .neq else .eql) t a b:Sem Value).run P w=.ok (.bool (C6 x y != neq)) w:=by
 unfold Us at hok
 split at hok
 ·obtain ⟨vs,rfl,r1⟩:=hx
  obtain ⟨us,rfl,r2⟩:=hy
  have q:=Zh4 (w:=w) 20 t ks hk (9998+1+1) (by omega) _ _ (C9 r1 hok.1) (C9 r2 hok.2)
  have e1:J6 P t vs.toList=.agg vs:=by simp [J6,hA]
  have e2:J6 P t us.toList=.agg us:=by simp [J6,hA]
  rw [e1,e2,Zux r1 r2 hok.1 hok.2] at q
  refine Wl rfl rfl ?_ q
  cases neq <;> simp [eqGuard,hG]
 ·exact hok.elim
theorem Z2x (n:Nat) {t e:TypeId} (h:P.underlying t=some (.slice e)) (a b:Nat):(Op.equalIn (n+1) t (.slice none a b) (.slice none 0 0)).run P w=.ok true w:=by simp [Op.equalIn,run_underlying h]
theorem Zcl {neq:Bool} {x:AV} {a:Value} (hx:R (cx φ H w) x a) (hok:Mq x) (t:TypeId) {e:TypeId} (hd:P.underlying t=some (.slice e)) {X Y:Operand} :
  ∃ u,(do eqGuard (if neq then .neq else .eql) t X Y a (.slice none 0 0); binOp (if neq then .neq else .eql) t a (.slice none 0 0):Sem Value).run P w=.ok u w∧R (cx φ H w) (B7 neq x) u:=by
 have run:∀ (b:Option Addr) (n c:Nat),(do eqGuard (if neq then .neq else .eql) t X Y (.slice b n c) (.slice none 0 0); binOp (if neq then .neq else .eql) t (.slice b n c) (.slice none 0 0):Sem Value).run P w=.ok (.bool (b.isNone != neq)) w:=by
  intro b n c
  refine Wl rfl rfl (by cases neq <;> rfl) ?_
  cases b with
  | none => exact Z2x _ hd _ _
  | some ad => exact Znl _ hd _ _ _
 cases x with
 | lit v =>
  unfold Mq at hok
  split at hok <;> first | exact hok.elim | skip
  all_goals first | (rename_i heq; cases heq; done) | skip
  rename_i heq
  cases heq
  cases hx
  exact ⟨_,run none 0 0,by cases neq <;> rfl⟩
 | view cs n full =>
  obtain ⟨b,cap,rfl,h1,h2,_⟩:=hx
  refine ⟨_,run b n cap,?_⟩
  show R _ (if n=0 then .anyb else .lit (.bool neq)) _
  split
  ·exact ⟨_,rfl⟩
  ·cases b with
   | none => have:=(h2 rfl).1; contradiction
   | some ad => cases neq <;> rfl
 | row id off n L =>
  obtain ⟨b,cap,rfl,h1,h2,_⟩:=hx
  refine ⟨_,run b n cap,?_⟩
  show R _ (if n=0 then .anyb else .lit (.bool neq)) _
  split
  ·exact ⟨_,rfl⟩
  ·cases b with
   | none => have:=(h2 rfl).1; contradiction
   | some ad => cases neq <;> rfl
 | _ => exact hok.elim
theorem Zgq {x:AV} {a:Value} {n:Nat} {t e:TypeId} (hu:P.underlying t=some (.array n e)) (hc:¬ (P.cellsOf e=0 || n=0)=true) (hx:R (cx φ H w) x a) (hok:Br n (P.cellsOf e) x) :
  ∃ u,(Instr.arrayAt t a).run P w=.ok u w∧R (cx φ H w) (Zkp x) u:=by
 simp only [Bool.or_eq_true,decide_eq_true_eq,not_or] at hc
 cases x with
 | view cs m full =>
  obtain ⟨h0,h9⟩:=hok
  obtain ⟨b,cap,rfl,h1,h2,h3,h4,h5⟩:=hx
  refine ⟨.pointer b,by simp [Instr.arrayAt,run_underlying hu,show ¬ m<n by omega],?_⟩
  rcases h5 with rfl | ⟨b',off,us,rfl,g1,g2⟩
  ·have:m*P.cellsOf e=0:=by simpa using h9.symm
   rcases Nat.mul_eq_zero.1 this with h | h <;> omega
  ·exact ⟨b',off,us,rfl,g1,h4,g2⟩
 | row id off m L =>
  obtain ⟨b,cap,rfl,h1,h2,o,h3,h4,h5⟩:=hx
  have h0:n≤m:=hok
  refine ⟨.pointer b,by simp [Instr.arrayAt,run_underlying hu,show ¬ m<n by omega],?_⟩
  cases b with
  | none => have:=(h2 rfl).1; omega
  | some ad =>
   refine ⟨ad,rfl,o,h3,h4,fun hL => ?_⟩
   rcases h5 hL with ⟨_,h⟩ | ⟨b',g1,g2,g3,g4⟩
   ·clear h5; omega
   ·rcases g3 with g3 | g3
    ·cases g3; exact ⟨b',g1,rfl⟩
    ·clear h5; omega
 | _ => exact hok.elim
theorem Zx5 (fn:Func) (h:Fq fn "math/bits.Add64"=true):Extern.findNext fn=none∧Extern.find fn=some add64Entry:=by
 cases fn
 simp only [Fq,Bool.and_eq_true,beq_iff_eq] at h
 obtain ⟨⟨h1,rfl⟩,rfl⟩:=h
 exact ⟨by kernel_rfl,by kernel_rfl⟩
def Zty:Array Value→Sem Value:=fun args => do
 let (x,y,b) ← Extern.MathBitsCarry.three "Sub64" args
 pure (Extern.MathBitsCarry.pair ((x+Extern.MathBitsCarry.m64 - y - b)%Extern.MathBitsCarry.m64) (if x<y+b then 1 else 0))
theorem Zgs (x y b:Nat) (hb:b≤1) (w:World) :
  (Zty #[.int .u64 x,.int .u64 y,.int .u64 b]).run P w =
   .ok (.tuple #[.int .u64 (((x+18446744073709551616 - y - b)%18446744073709551616:Nat):Int),.int .u64 ((if x<y+b then 1 else 0:Nat):Int)]) w:=by
 have:b=0∨b=1:=by omega
 rcases this with rfl | rfl <;> rfl
theorem Zx4 (fn:Func) (h:Fq fn "math/bits.Sub64"=true):Extern.findNext fn=none∧Extern.find fn=some Zty:=by
 cases fn
 simp only [Fq,Bool.and_eq_true,beq_iff_eq] at h
 obtain ⟨⟨h1,rfl⟩,rfl⟩:=h
 exact ⟨by kernel_rfl,by kernel_rfl⟩
theorem Zdb {f:FuncId} {fn:Func} {sub:Bool} (hf:P.funcs[f]? = some fn) (he:Fq fn (if sub then "math/bits.Sub64" else "math/bits.Add64")=true) {x y c:AV} {a b d:Value} (hx:R (cx φ H w) x a) (hy:R (cx φ H w) y b) (hc:R (cx φ H w) c d) (hok:Uq x y c) :
  ∃ u,(callFunc f #[a,b,d]).run P w=.ok (.value u) w∧R (cx φ H w) (Py sub x y c) u:=by
 unfold Uq at hok
 split at hok
 ·rename_i i j k
  cases hx; cases hy; cases hc
  obtain ⟨h1,h2,h3,h4,h5,h6⟩:=hok
  have hb:fn.body.isNone=true:=by
   simp only [Fq,Bool.and_eq_true] at he
   exact he.1.1
  have hnm:(fn.name == "runtime.NumGoroutine")=false:=by
   have h7:fn.name=(if sub then "math/bits.Sub64" else "math/bits.Add64"):=by
    simp only [Fq,Bool.and_eq_true,beq_iff_eq] at he
    exact he.1.2
   rw [h7]; cases sub <;> decide
  cases sub with
  | false =>
   obtain ⟨g1,g2⟩:=Zx5 fn he
   refine ⟨_,by rw [run_callFunc_extern hf hnm hb g1 g2,run_add64 i j k h1 h3 h5 h6]; rfl,?_⟩
   exact ⟨_,rfl,_,_,rfl,rfl,_,_,rfl,rfl,rfl⟩
  | true =>
   obtain ⟨g1,g2⟩:=Zx4 fn he
   obtain ⟨i,rfl⟩:=Int.eq_ofNat_of_zero_le h1
   obtain ⟨j,rfl⟩:=Int.eq_ofNat_of_zero_le h3
   obtain ⟨k,rfl⟩:=Int.eq_ofNat_of_zero_le h5
   refine ⟨_,by rw [run_callFunc_extern hf hnm hb g1 g2,Zgs i j k (by omega)]; rfl,?_⟩
   refine ⟨_,rfl,_,_,rfl,?_,_,_,rfl,?_,rfl⟩
   ·show Value.int .u64 _=Value.int .u64 _
    congr 1
    simp only [asI]
    omega
   ·show Value.int .u64 _=Value.int .u64 _
    congr 1
    simp only [asI]
    by_cases h:i<j+k
    ·have h':(i:Int)<(j:Int)+(k:Int):=by omega
     simp [h,h']
    ·have h':¬ (i:Int)<(j:Int)+(k:Int):=by omega
     simp [h,h']
 ·exact hok.elim
end
end Go.Proofs.YtcgjlpdkobmpnaaGreat.Eng

