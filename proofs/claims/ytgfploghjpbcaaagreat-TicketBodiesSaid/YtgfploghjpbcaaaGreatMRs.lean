/- The document's layer 3: words turned, shifted; the constants. -/
import Derived.Test.YtgfploghjpbcaaaGreatMSh
import Derived.Test.YtgfploghjpbcaaaGreatMTl
namespace Go.Proofs.YtgfploghjpbcaaaGreat.Eng
open Go Go.Proofs
set_option linter.unusedVariables false
set_option linter.unusedSimpArgs false
set_option maxRecDepth 10000
theorem rotr_zero (x:Nat):rotr 0 x=x:=by simp [rotr,Nat.mod_one]
theorem rotr_succ {k x:Nat} (hk:k<32) (hx:x<(4294967296:Nat)):rotr (k+1) x=rotr k x / 2+rotr k x%2*2147483648:=by
 obtain ⟨j,hj⟩:∃ j,32 - k=j+1:=⟨31 - k,by omega⟩
 have e1:32 - (k+1)=j:=by omega
 have e2:2^k*2^j=2147483648:=by rw [← Nat.pow_add,show k+j=31 by omega]
 have e3:x / 2^(k+1)=x / 2^k / 2:=by rw [Nat.pow_succ,Nat.div_div_eq_div_mul]
 have e4:x%2^(k+1)=x%2^k+2^k*(x / 2^k%2):=by rw [Nat.pow_succ,Nat.mod_mul]
 unfold rotr
 rw [hj,e1,e3,e4,Nat.add_mul,Nat.mul_right_comm,e2,Nat.pow_succ]
 generalize x / 2^k=q
 generalize x%2^k=r
 rw [show r*(2^j*2)=2*(r*2^j) by rw [← Nat.mul_assoc,Nat.mul_comm]]
 generalize r*2^j=z
 omega
theorem wq32 (x:Nat) (h:x<(4294967296:Nat)):IntKind.u32.wrap ((x:Int).tdiv 2)=((x / 2:Nat):Int):=by
 rw [Int.tdiv_eq_ediv_of_nonneg (Int.natCast_nonneg _),wu32 _ (by omega) (by omega)]; omega
theorem wr32 (x:Nat):(x:Int).tmod 2=((x%2:Nat):Int):=by
 rw [Int.tmod_eq_emod_of_nonneg (Int.natCast_nonneg _)]; omega
theorem r_right {H:AH} {x k:Nat} (hx:x<(4294967296:Nat)) (hk:k≤32):Called Tryz.prog F.clapperref03_right [V x,I k] H (V (rotr k x)) H:=by
 refine e_clapperref03_right ?_
 simp only [ic_clapperref03_right,go_sem]
 refine w_loop _ (fun (i:Nat) => ([(0,V (rotr i x)),(1,I k),(5,I i)],H)) (fun i => i≤k) (fun i => k - i) 0 (Nat.zero_le _) (by rw [rotr_zero]; rfl) ?_
 intro i hi
 have hr:=rotr_lt (k:=i) (by omega) hx
 simp only [go_sem]
 refine ⟨fun hh => ?_,fun hh => ?_⟩
 ·have hi:i<k:=by omega
  have st:=rotr_succ (k:=i) (by omega) hx
  have w2:IntKind.i64.wrap ((i:Int)+1)=((i+1:Nat):Int):=by rw [w64 _ (by omega) (by omega)]; omega
  generalize rotr i x=y at *
  simp only [wq32 _ hr,wr32,w2]
  refine ⟨by decide,by decide,fun h => ?_,fun h => ?_⟩
  ·have h1:y%2=1:=by have:((y%2:Nat):Int)=1:=by simpa using h
                     omega
   have w3:IntKind.u32.wrap (((y / 2:Nat):Int)+2147483648)=((y / 2+2147483648:Nat):Int):=by rw [wu32 _ (by omega) (by omega)]; omega
   rw [w3]
   exact ⟨i+1,by rw [st,h1],by omega,by omega⟩
  ·have h1:y%2=0:=by have:¬ ((y%2:Nat):Int)=1:=by simpa using h
                     omega
   exact ⟨i+1,by rw [show rotr (i+1) x=y / 2 by omega],by omega,by omega⟩
 ·obtain rfl:i=k:=by omega
  exact leave_same rfl
theorem r_shift {H:AH} {x k:Nat} (hx:x<(4294967296:Nat)) (hk:k≤32):Called Tryz.prog F.clapperref03_shift [V x,I k] H (V (x / 2^k)) H:=by
 refine e_clapperref03_shift ?_
 simp only [ic_clapperref03_shift,go_sem]
 refine w_loop _ (fun (i:Nat) => ([(0,V (x / 2^i)),(1,I k),(5,I i)],H)) (fun i => i≤k) (fun i => k - i) 0 (Nat.zero_le _) (by rw [Nat.pow_zero,Nat.div_one]; rfl) ?_
 intro i hi
 have hr:x / 2^i<(4294967296:Nat):=Nat.lt_of_le_of_lt (Nat.div_le_self _ _) hx
 simp only [go_sem]
 refine ⟨fun hh => ?_,fun hh => ?_⟩
 ·have hi:i<k:=by omega
  have w2:IntKind.i64.wrap ((i:Int)+1)=((i+1:Nat):Int):=by rw [w64 _ (by omega) (by omega)]; omega
  have st:x / 2^(i+1)=x / 2^i / 2:=by rw [Nat.pow_succ,Nat.div_div_eq_div_mul]
  simp only [wq32 _ hr,w2]
  exact ⟨by decide,i+1,by rw [st],by omega,by omega⟩
 ·obtain rfl:i=k:=by omega
  exact leave_same rfl
theorem r_const {H:AH}:Called Tryz.prog F.clapperref03_constants [] H (.view (vw K256) 64 true) H:=by
 refine e_clapperref03_constants ?_
 simp only [ic_clapperref03_constants,go_sem,fillOk,fillv]
 exact leave_same rfl
theorem ch_or {e f g:Nat} (he:e<(4294967296:Nat)):(e &&& f) ||| ((4294967295 - e) &&& g)=chN e f g:=by
 apply Nat.eq_of_testBit_eq
 intro i
 have h:=Nat.testBit_two_pow_sub_succ (x:=e) (n:=32) he i
 rw [show 2^32 - (e+1)=4294967295 - e by omega] at h
 simp only [chN,Nat.testBit_or,Nat.testBit_xor,Nat.testBit_and,h]
 cases e.testBit i <;> cases f.testBit i <;> cases g.testBit i <;> simp
theorem maj_or {a b c:Nat}:(a &&& b) ||| (a &&& c) ||| (b &&& c)=majN a b c:=by
 apply Nat.eq_of_testBit_eq
 intro i
 simp only [majN,Nat.testBit_or,Nat.testBit_xor,Nat.testBit_and]
 cases a.testBit i <;> cases b.testBit i <;> cases c.testBit i <;> rfl
def Wt (b:List UInt8) (t:Nat):List Nat:=((sch (t - 16) (w16 b).reverse).reverse).take t
theorem Wt_len (b:List UInt8) (t:Nat):(Wt b t).length=t:=by
 rw [Wt,List.length_take,List.length_reverse,sch_length,List.length_reverse,w16_length]; omega
theorem Wt_low {b:List UInt8} {t:Nat} (h:t<16):Wt b (t+1)=Wt b t++[(w16 b).getD t 0]:=by
 rw [Wt,Wt,show t+1 - 16=0 by omega,show t - 16=0 by omega,sch,List.reverse_reverse]
 exact take_snoc (by rw [w16_length]; exact h) 0
theorem Wt_high {b:List UInt8} {t:Nat} (h:16≤t):Wt b t=(sch (t - 16) (w16 b).reverse).reverse:=by
 rw [Wt,List.take_of_length_le]
 rw [List.length_reverse,sch_length,List.length_reverse,w16_length]; omega
theorem Wt_next {b:List UInt8} {t:Nat} (h:16≤t):Wt b (t+1)=Wt b t++[nxw (sch (t - 16) (w16 b).reverse)]:=by
 rw [Wt_high h,Wt_high (by omega),show t+1 - 16=(t - 16)+1 by omega,sch_out,List.reverse_cons]
theorem Wt_end (b:List UInt8):Wt b 64=words b:=by rw [Wt_high (by decide)]; rfl
theorem vw_snoc (l:List Nat) (x:Nat):vw (l++[x])=vw l++[V x]:=by simp [vw]
section
variable {Q:Ex→Env→AH→Prop} {B:AH} {b:List UInt8} {T:List UInt8} {x7 x8 x2:AV} {tx:AV} {at_:Nat}
theorem sum_72 (hb:b=(T.drop at_).take 64) (ht:Sl 1 B tx (bs T) T.length) (hT:T.length≤1000000000000) (ha:at_+64≤T.length) {t:Nat} (h:t<16) (ex:List (Nat × AV))
  (hq:Q (.exit 7) (look [(2,x2),(3,tx),(7,x7),(8,x8),(9,I at_),(10,rA B (vw (Wt b (t+1))) (t+1)),(11,I t)]) (hA 1 B (vw (Wt b (t+1))) (t+1))) :
  iwp (pfx false) (Called Tryz.prog) ic_clapperref03_Sum_72 Q (look ((2,x2)::(3,tx)::(7,x7)::(8,x8)::(9,I at_)::(10,rA B (vw (Wt b t)) t)::(11,I t)::ex)) (hA 1 B (vw (Wt b t)) t):=by
 have htA:=ht.hA (sz:=1) (n:=t) (vs:=vw (Wt b t))
 have hlA:∀ k,k<T.length→loadOk 1 (hA 1 B (vw (Wt b t)) t) (idxaV 1 (I k) tx)=True:=fun k hk => htA.ldOk .i64 hk (Nat.le_refl 1)
 have hvA:∀ k,k<T.length→loadV false 1 (hA 1 B (vw (Wt b t)) t) (idxaV 1 (I k) tx)=u8 (T.getD k 0):=fun k hk => by rw [htA.ld1 .i64 hk,bs_get T k hk]
 have w1:IntKind.i64.wrap (4*(t:Int))=((4*t:Nat):Int):=by rw [w64 _ (by omega) (by omega)]; omega
 have w2:IntKind.i64.wrap ((at_:Int)+((4*t:Nat):Int))=((at_+4*t:Nat):Int):=by rw [w64 _ (by omega) (by omega)]; omega
 have w3:IntKind.i64.wrap (((at_+4*t:Nat):Int)+1)=((at_+4*t+1:Nat):Int):=by rw [w64 _ (by omega) (by omega)]; omega
 have w4:IntKind.i64.wrap (((at_+4*t:Nat):Int)+2)=((at_+4*t+2:Nat):Int):=by rw [w64 _ (by omega) (by omega)]; omega
 have w5:IntKind.i64.wrap (((at_+4*t:Nat):Int)+3)=((at_+4*t+3:Nat):Int):=by rw [w64 _ (by omega) (by omega)]; omega
 have i0:=hlA (at_+4*t) (by omega)
 have i1:=hlA (at_+4*t+1) (by omega)
 have i2:=hlA (at_+4*t+2) (by omega)
 have i3:=hlA (at_+4*t+3) (by omega)
 have v0:=hvA (at_+4*t) (by omega)
 have v1:=hvA (at_+4*t+1) (by omega)
 have v2:=hvA (at_+4*t+2) (by omega)
 have v3:=hvA (at_+4*t+3) (by omega)
 have bl:b.length=64:=by rw [hb,List.length_take,List.length_drop]; omega
 have wl:=w16_get b t h
 have b4:=be4 b (4*t) (by omega)
 have gb:∀ k,k<64→b.getD k 0=T.getD (at_+k) 0:=fun k hk => by
  rw [hb,List.getD_eq_getElem?_getD,List.getElem?_take,if_pos hk,List.getElem?_drop,← List.getD_eq_getElem?_getD]
 have g0:=gb (4*t) (by omega)
 have g1:=gb (4*t+1) (by omega)
 have g2:=gb (4*t+2) (by omega)
 have g3:=gb (4*t+3) (by omega)
 rw [← Nat.add_assoc] at g1 g2 g3
 have hx:(w16 b).getD t 0=(T.getD (at_+4*t) 0).toNat*2^24+(T.getD (at_+4*t+1) 0).toNat*2^16+(T.getD (at_+4*t+2) 0).toNat*2^8+(T.getD (at_+4*t+3) 0).toNat:=by rw [wl,b4,g0,g1,g2,g3]
 have wl':=Wt_low (b:=b) h
 rw [hx] at wl'
 clear hx wl b4 g0 g1 g2 g3 gb bl hb
 simp only [ic_clapperref03_Sum_72,go_sem,w1,w2,w3,w4,w5,ht.idx,ht.un,i0,i1,i2,i3,v0,v1,v2,v3]
 clear hlA hvA i0 i1 i2 i3 v0 v1 v2 v3
 have u0:=(T.getD (at_+4*t) 0).toNat_lt
 have u1:=(T.getD (at_+4*t+1) 0).toNat_lt
 have u2:=(T.getD (at_+4*t+2) 0).toNat_lt
 have u3:=(T.getD (at_+4*t+3) 0).toNat_lt
 generalize (T.getD (at_+4*t) 0).toNat=b0 at *
 generalize (T.getD (at_+4*t+1) 0).toNat=b1 at *
 generalize (T.getD (at_+4*t+2) 0).toNat=b2 at *
 generalize (T.getD (at_+4*t+3) 0).toNat=b3 at *
 have q:∀ z:Nat,z<(4294967296:Nat)→IntKind.u32.wrap ((z:Nat):Int)=((z:Nat):Int):=fun z hz => wu32n z hz
 have s0:IntKind.u32.wrap (((b0:Nat):Int)*16777216)=((b0*2^24:Nat):Int):=by rw [← q (b0*2^24) (by omega)]; rfl
 have s1:IntKind.u32.wrap (((b1:Nat):Int)*65536)=((b1*2^16:Nat):Int):=by rw [← q (b1*2^16) (by omega)]; rfl
 have s2:IntKind.u32.wrap (((b2:Nat):Int)*256)=((b2*2^8:Nat):Int):=by rw [← q (b2*2^8) (by omega)]; rfl
 have a1:IntKind.u32.wrap (((b0*2^24:Nat):Int)+((b1*2^16:Nat):Int))=((b0*2^24+b1*2^16:Nat):Int):=by rw [← Int.natCast_add,q _ (by omega)]
 have a2:IntKind.u32.wrap (((b0*2^24+b1*2^16:Nat):Int)+((b2*2^8:Nat):Int))=((b0*2^24+b1*2^16+b2*2^8:Nat):Int):=by rw [← Int.natCast_add,q _ (by omega)]
 have a3:IntKind.u32.wrap (((b0*2^24+b1*2^16+b2*2^8:Nat):Int)+((b3:Nat):Int))=((b0*2^24+b1*2^16+b2*2^8+b3:Nat):Int):=by rw [← Int.natCast_add,q _ (by omega)]
 have q0:=q b0 (by omega)
 have q1:=q b1 (by omega)
 have q2':=q b2 (by omega)
 have q3':=q b3 (by omega)
 simp only [q0,q1,q2',q3',s0,s1,s2,a1,a2,a3]
 clear q q0 q1 q2' q3' s0 s1 s2 a1 a2 a3
 generalize b0*2^24+b1*2^16+b2*2^8+b3=w at *
 obtain ⟨⟨_,_,c3,c4⟩,q2,q3⟩:=build_app (sz:=1) (H:=B) (vs:=vw (Wt b t)) (n:=t) (b:=4) (s:=.view [V w] 1 true) (cs:=[V w]) (by rw [vw_len,Wt_len]; omega) rfl rfl rfl rfl (by omega)
 have e:vw (Wt b t)++[V w]=vw (Wt b (t+1)):=by rw [wl',vw_snoc]
 rw [q2,q3,e]
 have ib:∀ k,at_+4*t+k<T.length→(0:Int)≤((at_+4*t+k:Nat):Int)∧((at_+4*t+k:Nat):Int)<T.length:=fun k hk => ⟨by omega,by omega⟩
 exact ⟨ib 0 (by omega),ib 1 (by omega),ib 2 (by omega),ib 3 (by omega),⟨c3,c4⟩,hq⟩
theorem sum_108 {t:Nat} (h:16≤t) (h64:t<64) (ex:List (Nat × AV)) (htx:tx.un=tx)
  (hq:Q .normal (look [(2,x2),(3,tx),(7,x7),(8,x8),(9,I at_),(10,rA B (vw (Wt b (t+1))) (t+1)),(11,I t)]) (hA 1 B (vw (Wt b (t+1))) (t+1))) :
  iwp (pfx false) (Called Tryz.prog) ic_clapperref03_Sum_108 Q (look ((2,x2)::(3,tx)::(7,x7)::(8,x8)::(9,I at_)::(10,rA B (vw (Wt b t)) t)::(11,I t)::ex)) (hA 1 B (vw (Wt b t)) t):=by
 have wn:=Wt_next (b:=b) h
 have wh:=Wt_high (b:=b) h
 have hL:=Wt_len b t
 have sl:Sl 1 (hA 1 B (vw (Wt b t)) t) (rA B (vw (Wt b t)) t) (vw (Wt b t)) t:=build_sl (by rw [vw_len,hL,Nat.mul_one])
 have hlt:=sch_lt (t - 16) (w16 b).reverse (fun x hx => w16_lt b x (List.mem_reverse.1 hx))
 have hl2:(sch (t - 16) (w16 b).reverse).length=t:=by rw [sch_length,List.length_reverse,w16_length]; omega
 have w1:IntKind.i64.wrap ((t:Int) - 15)=((t - 15:Nat):Int):=by rw [w64 _ (by omega) (by omega)]; omega
 have w2:IntKind.i64.wrap ((t:Int) - 2)=((t - 2:Nat):Int):=by rw [w64 _ (by omega) (by omega)]; omega
 have w3:IntKind.i64.wrap ((t:Int) - 7)=((t - 7:Nat):Int):=by rw [w64 _ (by omega) (by omega)]; omega
 have w4:IntKind.i64.wrap ((t:Int) - 16)=((t - 16:Nat):Int):=by rw [w64 _ (by omega) (by omega)]; omega
 generalize sch (t - 16) (w16 b).reverse=l at *
 have gv:∀ k j,k+j+1=t→loadV false 1 (hA 1 B (vw (Wt b t)) t) (idxaV 1 (I k) (rA B (vw (Wt b t)) t))=V (l.getD j 0):=fun k j hk => by
  rw [sl.ld1 .i64 (by omega),vw_get _ _ (by omega),wh,rev_get (j:=j) (by omega)]
 have gl:∀ k,k<t→loadOk 1 (hA 1 B (vw (Wt b t)) t) (idxaV 1 (I k) (rA B (vw (Wt b t)) t))=True:=fun k hk => sl.ldOk .i64 hk (Nat.le_refl 1)
 have l1:=gl (t - 15) (by omega)
 have l2:=gl (t - 2) (by omega)
 have l3:=gl (t - 7) (by omega)
 have l4:=gl (t - 16) (by omega)
 have v1:=gv (t - 15) 14 (by omega)
 have v2:=gv (t - 2) 1 (by omega)
 have v3:=gv (t - 7) 6 (by omega)
 have v4:=gv (t - 16) 15 (by omega)
 have b1:=getD_lt hlt 1
 have b14:=getD_lt hlt 14
 have nx:nxw l=(sml1 (l.getD 1 0)+l.getD 6 0+sml0 (l.getD 14 0)+l.getD 15 0)%(4294967296:Nat):=rfl
 have r7:=rotr_lt (k:=7) (by decide) b14
 have r18:=rotr_lt (k:=18) (by decide) b14
 have r17:=rotr_lt (k:=17) (by decide) b1
 have r19:=rotr_lt (k:=19) (by decide) b1
 have d3:l.getD 14 0 / 2^3<(4294967296:Nat):=Nat.lt_of_le_of_lt (Nat.div_le_self _ _) b14
 have d10:l.getD 1 0 / 2^10<(4294967296:Nat):=Nat.lt_of_le_of_lt (Nat.div_le_self _ _) b1
 have x1:=Nat.xor_lt_two_pow (n:=32) r7 r18
 have x2:=Nat.xor_lt_two_pow (n:=32) r17 r19
 have ib:∀ k,k<t→(0:Int)≤((k:Nat):Int)∧((k:Nat):Int)<t:=fun k hk => ⟨by omega,by omega⟩
 simp only [ic_clapperref03_Sum_108,go_sem,w1,w2,w3,w4,sl.idx,sl.un,htx,l1,l2,l3,l4,v1,v2,v3,v4]
 refine ⟨ib _ (by omega),ib _ (by omega),callW_some (r_right (k:=7) b14 (by decide)) (fun _ => rfl) ?_⟩
 simp only [go_sem,sl.un,htx]
 refine callW_some (r_right (k:=18) b14 (by decide)) (fun _ => rfl) ?_
 simp only [go_sem,sl.un,htx,xor32 r7 r18]
 refine callW_some (r_shift (k:=3) b14 (by decide)) (fun _ => rfl) ?_
 simp only [go_sem,sl.un,htx,xor32 x1 d3]
 refine callW_some (r_right (k:=17) b1 (by decide)) (fun _ => rfl) ?_
 simp only [go_sem,sl.un,htx]
 refine callW_some (r_right (k:=19) b1 (by decide)) (fun _ => rfl) ?_
 simp only [go_sem,sl.un,htx,xor32 r17 r19]
 refine callW_some (r_shift (k:=10) b1 (by decide)) (fun _ => rfl) ?_
 simp only [go_sem,sl.un,htx,xor32 x2 d10,w1,w2,w3,w4,sl.idx,l1,l2,l3,l4,v1,v2,v3,v4,← Int.natCast_add,w32mod]
 have en:(((rotr 17 (l.getD 1 0) ^^^ rotr 19 (l.getD 1 0) ^^^ l.getD 1 0 / 2^10)+l.getD 6 0)%(4294967296:Nat)+(rotr 7 (l.getD 14 0) ^^^ rotr 18 (l.getD 14 0) ^^^ l.getD 14 0 / 2^3))%(4294967296:Nat)=(sml1 (l.getD 1 0)+l.getD 6 0+sml0 (l.getD 14 0))%(4294967296:Nat):=by
  rw [Nat.mod_add_mod]; rfl
 have en2:((sml1 (l.getD 1 0)+l.getD 6 0+sml0 (l.getD 14 0))%(4294967296:Nat)+l.getD 15 0)%(4294967296:Nat)=nxw l:=by rw [Nat.mod_add_mod]; rfl
 rw [en,en2]
 generalize nxw l=w at *
 obtain ⟨⟨_,_,c3,c4⟩,q2,q3⟩:=build_app (sz:=1) (H:=B) (vs:=vw (Wt b t)) (n:=t) (b:=4) (s:=.view [V w] 1 true) (cs:=[V w]) (by rw [vw_len,hL]; omega) rfl rfl rfl rfl (by omega)
 have e:vw (Wt b t)++[V w]=vw (Wt b (t+1)):=by rw [wn,vw_snoc]
 rw [q2,q3,e]
 exact ⟨ib _ (by omega),ib _ (by omega),⟨c3,c4⟩,hq⟩
theorem sum_10 (hb:b=(T.drop at_).take 64) (ht:Sl 1 B tx (bs T) T.length) (hT:T.length≤1000000000000) (ha:at_+64≤T.length) (ex:List (Nat × AV)) (h2:x2.un=x2) (h7:x7.un=x7) (h8:x8.un=x8)
  (hq:∀ ex,iwp (pfx false) (Called Tryz.prog) ic_clapperref03_Sum_152 Q (look ((2,x2)::(3,tx)::(7,x7)::(8,x8)::(9,I at_)::(10,rA B (vw (words b)) 64)::ex)) (hA 1 B (vw (words b)) 64)) :
  iwp (pfx false) (Called Tryz.prog) ic_clapperref03_Sum_10 Q (look ((2,x2)::(3,tx)::(7,x7)::(8,x8)::(9,I at_)::ex)) B:=by
 simp only [ic_clapperref03_Sum_10,go_sem,h2,h7,h8,ht.un]
 refine w_loop _ (fun (t:Nat) => ([(2,x2),(3,tx),(7,x7),(8,x8),(9,I at_),(10,rA B (vw (Wt b t)) t),(11,I t)],hA 1 B (vw (Wt b t)) t)) (fun t => t≤64) (fun t => 64 - t) 0 (Nat.zero_le _) rfl ?_
 intro t htt
 have sl:Sl 1 (hA 1 B (vw (Wt b t)) t) (rA B (vw (Wt b t)) t) (vw (Wt b t)) t:=build_sl (by rw [vw_len,Wt_len,Nat.mul_one])
 have sl':Sl 1 (hA 1 B (vw (Wt b (t+1))) (t+1)) (rA B (vw (Wt b (t+1))) (t+1)) (vw (Wt b (t+1))) (t+1):=build_sl (by rw [vw_len,Wt_len,Nat.mul_one])
 simp only [go_sem,h2,h7,h8,ht.un,sl.un]
 refine ⟨fun hh => ?_,fun hh => ?_⟩
 ·have h64:t<64:=by omega
  have w1:IntKind.i64.wrap ((t:Int)+1)=((t+1:Nat):Int):=by rw [w64 _ (by omega) (by omega)]; omega
  refine ⟨fun h16 => ?_,fun h16 => ?_⟩
  ·refine sum_72 hb ht hT ha (by omega) _ ?_
   simp only [go_sem,w1,sl'.un,h2,h7,h8,ht.un]
   exact ⟨t+1,rfl,rfl,by omega,by omega⟩
  ·refine sum_108 (by omega) h64 _ ht.un ?_
   simp only [go_sem,w1,sl'.un,h2,h7,h8,ht.un]
   exact ⟨t+1,rfl,rfl,by omega,by omega⟩
 ·obtain rfl:t=64:=by omega
  rw [Wt_end]
  exact hq _
end
section
variable {Q:Ex→Env→AH→Prop} {D:AH} {x2 x3 x7 x9 x10 x17:AV} {K ws s:List Nat}
theorem sum_159 (hK:Sl 1 D (.view (vw K) 64 true) (vw K) 64) (hKl:K.length=64) (hw:Sl 1 D x10 (vw ws) 64) (hwl:ws.length=64) (hs:Sl 1 D x17 (vw s) 8) (hs8:s.length=8) (hlt:∀ x ∈ s,x<(4294967296:Nat)) (kl:∀ x ∈ K,x<(4294967296:Nat)) (wl:∀ x ∈ ws,x<(4294967296:Nat)) {i:Nat} (hi:i<64) (ex:List (Nat × AV))
  (h2:x2.un=x2) (h3:x3.un=x3) (h7:x7.un=x7) (h9:x9.un=x9)
  (hq:Q .normal (look [(2,x2),(3,x3),(7,x7),(8,.view (vw K) 64 true),(9,x9),(10,x10),(17,.view (vw (rnd s (K.getD i 0,ws.getD i 0))) 8 true),(18,I i)]) D) :
  iwp (pfx false) (Called Tryz.prog) ic_clapperref03_Sum_159 Q (look ((2,x2)::(3,x3)::(7,x7)::(8,.view (vw K) 64 true)::(9,x9)::(10,x10)::(17,x17)::(18,I i)::ex)) D:=by
 obtain ⟨a0,a1,a2,a3,a4,a5,a6,a7,rfl⟩:=rnd_list hs8
 simp only [List.mem_cons,List.not_mem_nil,or_false,forall_eq_or_imp,forall_eq] at hlt
 obtain ⟨l0,l1,l2,l3,l4,l5,l6,l7⟩:=hlt
 have kk:=getD_lt kl i
 have ww:=getD_lt wl i
 rw [rnd_eq] at hq
 have sk:∀ k:Nat,k<8→(idxaOk 1 (I (k:Nat)) none x17=True∧loadOk 1 D (idxaV 1 (I (k:Nat)) x17)=True):=fun k hk => ⟨by rw [hs.idx]; simp; omega,hs.ldOk .i64 hk (Nat.le_refl 1)⟩
 have k0:=sk 0 (by decide)
 have k1:=sk 1 (by decide)
 have k2:=sk 2 (by decide)
 have k3:=sk 3 (by decide)
 have k4:=sk 4 (by decide)
 have k5:=sk 5 (by decide)
 have k6:=sk 6 (by decide)
 have k7:=sk 7 (by decide)
 have g0:loadV false 1 D (idxaV 1 (I ((0:Nat):Int)) x17)=V a0:=hs.ld1 .i64 (i:=0) (by decide)
 have g1:loadV false 1 D (idxaV 1 (I ((1:Nat):Int)) x17)=V a1:=hs.ld1 .i64 (i:=1) (by decide)
 have g2:loadV false 1 D (idxaV 1 (I ((2:Nat):Int)) x17)=V a2:=hs.ld1 .i64 (i:=2) (by decide)
 have g3:loadV false 1 D (idxaV 1 (I ((3:Nat):Int)) x17)=V a3:=hs.ld1 .i64 (i:=3) (by decide)
 have g4:loadV false 1 D (idxaV 1 (I ((4:Nat):Int)) x17)=V a4:=hs.ld1 .i64 (i:=4) (by decide)
 have g5:loadV false 1 D (idxaV 1 (I ((5:Nat):Int)) x17)=V a5:=hs.ld1 .i64 (i:=5) (by decide)
 have g6:loadV false 1 D (idxaV 1 (I ((6:Nat):Int)) x17)=V a6:=hs.ld1 .i64 (i:=6) (by decide)
 have g7:loadV false 1 D (idxaV 1 (I ((7:Nat):Int)) x17)=V a7:=hs.ld1 .i64 (i:=7) (by decide)
 clear sk
 simp only [Int.natCast_zero,Int.natCast_one,Int.cast_ofNat_Int] at k0 k1 k2 k3 k4 k5 k6 k7 g0 g1 g2 g3 g4 g5 g6 g7
 have kl1:=hK.ldOk .i64 hi (Nat.le_refl 1)
 have kl2:loadV false 1 D (idxaV 1 (I (i:Nat)) (.view (vw K) 64 true))=V (K.getD i 0):=by rw [hK.ld1 .i64 hi,vw_get _ _ (by omega)]
 have wl1:=hw.ldOk .i64 hi (Nat.le_refl 1)
 have wl2:loadV false 1 D (idxaV 1 (I (i:Nat)) x10)=V (ws.getD i 0):=by rw [hw.ld1 .i64 hi,vw_get _ _ (by omega)]
 generalize hKv:AV.view (vw K) 64 true=xK at *
 have x4:4294967295 - a4<(4294967296:Nat):=by omega
 have w4:IntKind.u32.wrap (4294967295 - (a4:Int))=((4294967295 - a4:Nat):Int):=by rw [wu32 _ (by omega) (by omega)]; omega
 have y1:a4 &&& a5<(4294967296:Nat):=Nat.lt_of_le_of_lt Nat.and_le_left l4
 have y2:(4294967295 - a4) &&& a6<(4294967296:Nat):=Nat.lt_of_le_of_lt Nat.and_le_right l6
 have y3:a0 &&& a1<(4294967296:Nat):=Nat.lt_of_le_of_lt Nat.and_le_left l0
 have y4:a0 &&& a2<(4294967296:Nat):=Nat.lt_of_le_of_lt Nat.and_le_left l0
 have y5:a1 &&& a2<(4294967296:Nat):=Nat.lt_of_le_of_lt Nat.and_le_left l1
 have y6:(a0 &&& a1) ||| (a0 &&& a2)<(4294967296:Nat):=Nat.or_lt_two_pow (n:=32) y3 y4
 have ch:=ch_or (f:=a5) (g:=a6) l4
 have mj:=@maj_or a0 a1 a2
 have r6:=rotr_lt (k:=6) (by decide) l4
 have r11:=rotr_lt (k:=11) (by decide) l4
 have r25:=rotr_lt (k:=25) (by decide) l4
 have r2:=rotr_lt (k:=2) (by decide) l0
 have r13:=rotr_lt (k:=13) (by decide) l0
 have r22:=rotr_lt (k:=22) (by decide) l0
 have z1:=Nat.xor_lt_two_pow (n:=32) r6 r11
 have z2:=Nat.xor_lt_two_pow (n:=32) r2 r13
 have un17:=hs.un
 have un10:=hw.un
 have unK:=hK.un
 have ik:(0:Int)≤(i:Int)∧(i:Int)<((64:Nat):Int):=⟨by omega,by omega⟩
 simp only [ic_clapperref03_Sum_159,go_sem,h2,h3,h7,h9,un17,un10,unK,k0,k1,k2,k3,k4,k5,k6,k7,g0,g1,g2,g3,g4,g5,g6,g7,w4,and32 l4 l5,and32 x4 l6,or32 y1 y2,ch,and32 l0 l1,and32 l0 l2,and32 l1 l2,or32 y3 y4,or32 y6 y5,mj]
 refine callW_some (r_right (k:=6) l4 (by decide)) (fun _ => rfl) ?_
 simp only [go_sem,h2,h3,h7,h9,un17,un10,unK,k0,k1,k2,k3,k4,k5,k6,k7,g0,g1,g2,g3,g4,g5,g6,g7]
 refine callW_some (r_right (k:=11) l4 (by decide)) (fun _ => rfl) ?_
 simp only [go_sem,h2,h3,h7,h9,un17,un10,unK,k0,k1,k2,k3,k4,k5,k6,k7,g0,g1,g2,g3,g4,g5,g6,g7,xor32 r6 r11]
 refine callW_some (r_right (k:=25) l4 (by decide)) (fun _ => rfl) ?_
 simp only [go_sem,h2,h3,h7,h9,un17,un10,unK,k0,k1,k2,k3,k4,k5,k6,k7,g0,g1,g2,g3,g4,g5,g6,g7,xor32 z1 r25,hK.idx,hw.idx,kl1,kl2,wl1,wl2]
 refine ⟨ik,ik,callW_some (r_right (k:=2) l0 (by decide)) (fun _ => rfl) ?_⟩
 simp only [go_sem,h2,h3,h7,h9,un17,un10,unK,k0,k1,k2,k3,k4,k5,k6,k7,g0,g1,g2,g3,g4,g5,g6,g7]
 refine callW_some (r_right (k:=13) l0 (by decide)) (fun _ => rfl) ?_
 simp only [go_sem,h2,h3,h7,h9,un17,un10,unK,k0,k1,k2,k3,k4,k5,k6,k7,g0,g1,g2,g3,g4,g5,g6,g7,xor32 r2 r13]
 refine callW_some (r_right (k:=22) l0 (by decide)) (fun _ => rfl) ?_
 simp only [go_sem,h2,h3,h7,h9,un17,un10,unK,k0,k1,k2,k3,k4,k5,k6,k7,g0,g1,g2,g3,g4,g5,g6,g7,xor32 z2 r22,← Int.natCast_add,w32mod,Nat.mod_add_mod,Nat.add_mod_mod,fillOk,fillv]
 exact hq
end
section
variable {Q:Ex→Env→AH→Prop} {H G:AH} {o1 o2:AObj} {x2 x3 x8 x9:AV} {K ws s S:List Nat}
theorem sum_23 (hs:s.length=8) (hS8:S.length=8) (ex:List (Nat × AV)) (h2:x2.un=x2) (h3:x3.un=x3) (h8:x8.un=x8) (h9:x9.un=x9)
  (hq:∀ ex,Q .normal (look ((2,x2)::(3,x3)::(7,.row (H.length+2) 0 8 8)::(8,x8)::(9,x9)::ex)) (H++(o1::o2::⟨vw (addS s S),1,true⟩::G))) :
  iwp (pfx false) (Called Tryz.prog) ic_clapperref03_Sum_23 Q (look ((2,x2)::(3,x3)::(7,.row (H.length+2) 0 8 8)::(8,x8)::(9,x9)::(17,.view (vw S) 8 true)::ex)) (H++(o1::o2::⟨vw s,1,true⟩::G)):=by
 have aL:(addS s S).length=8:=by rw [addS,List.length_zipWith,hs,hS8]; rfl
 simp only [ic_clapperref03_Sum_23,go_sem,h2,h3,h8,h9]
 refine w_loop _ (fun (i:Nat) => ([(2,x2),(3,x3),(7,.row (H.length+2) 0 8 8),(8,x8),(9,x9),(17,.view (vw S) 8 true),(23,I i)],H++(o1::o2::⟨vw ((addS s S).take i++s.drop i),1,true⟩::G))) (fun i => i≤8) (fun i => 8 - i) 0 (Nat.zero_le _) rfl ?_
 intro i hi
 simp only [go_sem,h2,h3,h8,h9]
 refine ⟨fun hh => ?_,fun hh => ?_⟩
 ·have hi:i<8:=by omega
  have w4:IntKind.i64.wrap ((i:Int)+1)=((i+1:Nat):Int):=by rw [w64 _ (by omega) (by omega)]; omega
  have l8:((addS s S).take i++s.drop i).length=8:=by rw [List.length_append,List.length_take,List.length_drop,aL,hs]; omega
  have tL:((addS s S).take i).length=i:=by rw [List.length_take,aL]; omega
  have g1:(vw ((addS s S).take i++s.drop i)).getD i .junk=V (s.getD i 0):=by
   rw [vw_get _ _ (by rw [l8]; exact hi),drop_cons (show i<s.length by rw [hs]; exact hi) 0]
   exact congrArg V (getD_right (j:=0) tL (0:Nat))
  have g2:elt (vw S) 1 i=[V (S.getD i 0)]:=elt_map1 V S i (by omega) 0
  have gl:(vw ((addS s S).take i++s.drop i)).length=8:=by rw [vw_len,l8]
  have st:(vw ((addS s S).take i++s.drop i)).set i (V ((s.getD i 0+S.getD i 0)%(4294967296:Nat)))=vw ((addS s S).take (i+1)++s.drop (i+1)):=by
   have ha:(addS s S).getD i 0=(s.getD i 0+S.getD i 0)%(4294967296:Nat):=by
    simp only [addS,List.getD_eq_getElem?_getD,List.getElem?_zipWith,List.getElem?_eq_getElem (show i<s.length by rw [hs]; exact hi),List.getElem?_eq_getElem (show i<S.length by rw [hS8]; exact hi)]
    rfl
   rw [take_snoc (show i<(addS s S).length by rw [aL]; exact hi) 0,ha,drop_cons (show i<s.length by rw [hs]; exact hi) 0]
   show (List.map V _).set i _=List.map V _
   rw [List.map_append,List.set_append_right _ _ (by rw [List.length_map,tL]; exact Nat.le_refl _),List.length_map,tL,Nat.sub_self]
   simp
  have l3:(2<(o1::o2::(⟨vw ((addS s S).take i++s.drop i),1,true⟩:AObj)::G).length)=True:=by simp
  have ib:(0:Int)≤(i:Int)∧(i:Int)<((8:Nat):Int):=⟨by omega,by omega⟩
  simp only [go_sem,gl,g1,g2,vw_len,hS8,← Int.natCast_add,w32mod,w4,st]
  exact ⟨ib,⟨by omega,by omega⟩,ib,ib,⟨by omega,by omega⟩,i+1,rfl,rfl,by omega,by omega⟩
 ·obtain rfl:i=8:=by omega
  have e1:(addS s S).take 8++s.drop 8=addS s S:=by
   rw [List.take_of_length_le (by rw [aL]; exact Nat.le_refl _),List.drop_eq_nil_of_le (by rw [hs]; exact Nat.le_refl _),List.append_nil]
  rw [e1]
  exact hq _
end
section
variable {Q:Ex→Env→AH→Prop} {H G:AH} {o1 o2:AObj} {x2 x3 x9:AV} {b:List UInt8} {s:List Nat}
theorem sum_152 (hs:s.length=8) (hlt:∀ x ∈ s,x<(4294967296:Nat)) (ex:List (Nat × AV)) (h2:x2.un=x2) (h3:x3.un=x3) (h9:x9.un=x9)
  (hq:∀ ex G',Q .normal (look ((2,x2)::(3,x3)::(7,.row (H.length+2) 0 8 8)::(8,.view (vw K256) 64 true)::(9,x9)::ex)) (H++(o1::o2::⟨vw (comp1 s b),1,true⟩::G'))) :
  iwp (pfx false) (Called Tryz.prog) ic_clapperref03_Sum_152 Q (look ((2,x2)::(3,x3)::(7,.row (H.length+2) 0 8 8)::(8,.view (vw K256) 64 true)::(9,x9)::(10,rA (H++(o1::o2::⟨vw s,1,true⟩::G)) (vw (words b)) 64)::ex)) (hA 1 (H++(o1::o2::⟨vw s,1,true⟩::G)) (vw (words b)) 64):=by
 have kl:=K_lt
 have Kl:=K_len
 have wl:=words_lt b
 have lw:=words_length b
 have hC:comp1 s b=addS s ((K256.zip (words b)).foldl rnd s):=rfl
 rw [hC] at hq
 have hKl:(vw K256).length=64:=by rw [vw_len,Kl]
 generalize K256=K at *
 generalize words b=ws at *
 have e1:hA 1 (H++(o1::o2::⟨vw s,1,true⟩::G)) (vw ws) 64=H++(o1::o2::⟨vw s,1,true⟩::(G++[⟨vw ws,1,true⟩])):=by
  rw [hA,if_neg (by decide)]; simp
 have e2:rA (H++(o1::o2::⟨vw s,1,true⟩::G)) (vw ws) 64=.row (H.length+(G.length+3)) 0 64 64:=by
  rw [rA,if_neg (by decide),vw_len,lw]; simp
 rw [e1,e2]
 have v8:(vw s).length=8:=by rw [vw_len,hs]
 have t8:(vw s).take 8=vw s:=List.take_of_length_le (by rw [v8]; exact Nat.le_refl _)
 simp only [ic_clapperref03_Sum_152,go_sem,h2,h3,h9,v8,t8,fillOk,fillv]
 refine ⟨⟨by omega,one_vw _,by decide⟩,?_⟩
 have f8:∀ i,(((K.zip ws).take i).foldl rnd s).length=8:=fun i => rnds_len hs _
 have fl:∀ i,∀ x ∈ ((K.zip ws).take i).foldl rnd s,x<(4294967296:Nat):=fun i => rnds_lt hlt
 have fn:∀ i,i<64→((K.zip ws).take (i+1)).foldl rnd s=rnd (((K.zip ws).take i).foldl rnd s) (K.getD i 0,ws.getD i 0):=fun i hi => by
  rw [foldl_next _ _ _ (by rw [List.length_zip,lw,Kl]; exact hi),zip_get (by rw [Kl]; exact hi) (by rw [lw]; exact hi)]
 have f0:((K.zip ws).take 0).foldl rnd s=s:=rfl
 have f64:(K.zip ws).take 64=K.zip ws:=List.take_of_length_le (by rw [List.length_zip,lw,Kl]; decide)
 generalize hD:H++(o1::o2::⟨vw s,1,true⟩::(G++[⟨vw ws,1,true⟩,⟨vw s,1,true⟩]))=D
 have lD:D.length=H.length+(G.length+5):=by rw [← hD]; simp
 have ow:obj D (H.length+(G.length+3))=⟨vw ws,1,true⟩:=by rw [← hD]; simp only [go_sem]
 have os:obj D (H.length+(G.length+1+1+1+1))=⟨vw s,1,true⟩:=by rw [← hD]; simp only [go_sem]
 have sw:Sl 1 D (.row (H.length+(G.length+3)) 0 64 64) (vw ws) 64:=.row (by omega) (by rw [ow,vw_len,lw]) (by decide) (by rw [ow,List.drop_zero,List.take_of_length_le (by show (vw ws).length≤_; rw [vw_len,lw]; decide)]) (.inl (by rw [ow]))
 have ss:Sl 1 D (.row (H.length+(G.length+1+1+1+1)) 0 8 8) (vw s) 8:=.row (by omega) (by rw [os,v8]) (by decide) (by rw [os,List.drop_zero,List.take_of_length_le (by show (vw s).length≤_; rw [v8]; decide)]) (.inl (by rw [os]))
 have sK:Sl 1 D (.view (vw K) 64 true) (vw K) 64:=.view (by rw [hKl]) true
 have cur:∀ i,Sl 1 D (if i=0 then .row (H.length+(G.length+1+1+1+1)) 0 8 8 else .view (vw (((K.zip ws).take i).foldl rnd s)) 8 true) (vw (((K.zip ws).take i).foldl rnd s)) 8:=fun i => by
  by_cases h0:i=0
  ·subst h0; rw [if_pos rfl,f0]; exact ss
  ·rw [if_neg h0]; exact .view (by rw [vw_len,f8]) true
 refine w_loop _ (fun (i:Nat) => ([(2,x2),(3,x3),(7,.row (H.length+2) 0 8 8),(8,.view (vw K) 64 true),(9,x9),(10,.row (H.length+(G.length+3)) 0 64 64),(17,if i=0 then .row (H.length+(G.length+1+1+1+1)) 0 8 8 else .view (vw (((K.zip ws).take i).foldl rnd s)) 8 true),(18,I i)],D)) (fun i => i≤64) (fun i => 64 - i) 0 (Nat.zero_le _) rfl ?_
 intro i hi
 have ci:=cur i
 simp only [go_sem,h2,h3,h9,ci.un]
 refine ⟨fun hh => ?_,fun hh => ?_⟩
 ·have hi:i<64:=by omega
  have w4:IntKind.i64.wrap ((i:Int)+1)=((i+1:Nat):Int):=by rw [w64 _ (by omega) (by omega)]; omega
  refine sum_159 sK Kl sw lw ci (f8 i) (fl i) kl wl hi _ h2 h3 rfl h9 ?_
  simp only [go_sem,h2,h3,h9,w4]
  exact ⟨i+1,by rw [if_neg (by omega),fn i hi],by omega,by omega⟩
 ·obtain rfl:i=64:=by omega
  rw [if_neg (by decide),f64]
  have f8':=f8 64
  rw [f64] at f8'
  generalize (K.zip ws).foldl rnd s=S at *
  rw [← hD]
  exact sum_23 hs f8' _ h2 h3 rfl h9 fun ex => hq ex _
end
section
variable {Q:Ex→Env→AH→Prop} {H G:AH} {o1:AObj} {x2:AV} {T:List UInt8}
theorem sum_58 (ex:List (Nat × AV)) (h2:x2.un=x2) (hT:T.length≤1000000000000) (h64:T.length%64=0)
  (hq:∀ ex G',iwp (pfx false) (Called Tryz.prog) ic_clapperref03_Sum_24 Q (look ((2,x2)::(7,.row (H.length+2) 0 8 8)::ex)) (H++(o1::⟨bs T,1,true⟩::⟨vw (absb (T.length / 64) IV256 T),1,true⟩::G'))) :
  iwp (pfx false) (Called Tryz.prog) ic_clapperref03_Sum_58 Q (look ((2,x2)::(3,.row (H.length+1) 0 T.length T.length)::ex)) (H++[o1,⟨bs T,1,true⟩]):=by
 have iv:[AV.lit (.int .u32 1779033703),.lit (.int .u32 3144134277),.lit (.int .u32 1013904242),.lit (.int .u32 2773480762),.lit (.int .u32 1359893119),.lit (.int .u32 2600822924),.lit (.int .u32 528734635),.lit (.int .u32 1541459225)]=vw IV256:=rfl
 simp only [ic_clapperref03_Sum_58,go_sem,h2,fillOk,fillv,iv]
 refine callW_some r_const (fun _ => rfl) ?_
 simp only [go_sem,h2]
 have ivl:IV256.length=8:=IV_length
 have ivt:∀ x ∈ IV256,x<(4294967296:Nat):=by decide
 generalize IV256=S0 at *
 refine w_loop _ (fun (k:Nat × AH) => ([(2,x2),(3,.row (H.length+1) 0 T.length T.length),(7,.row (H.length+2) 0 8 8),(8,.view (vw K256) 64 true),(9,I ((64*k.1:Nat):Int))],H++(o1::⟨bs T,1,true⟩::⟨vw (absb k.1 S0 T),1,true⟩::k.2))) (fun k => 64*k.1≤T.length) (fun k => T.length - 64*k.1) (0,[]) (Nat.zero_le _) rfl ?_
 rintro ⟨k,G⟩ hk
 dsimp only at hk
 simp only [go_sem,h2]
 refine ⟨fun hh => ?_,fun hh => ?_⟩
 ·have hk:64*k+64≤T.length:=by omega
  have w4:IntKind.i64.wrap (((64*k:Nat):Int)+64)=((64*(k+1):Nat):Int):=by rw [w64 _ (by omega) (by omega)]; omega
  have ao:=absb_out k S0 T
  have al:=absb_length k S0 T ivl
  have at':=absb_lt k S0 T ivt
  have ot:obj (H++(o1::⟨bs T,1,true⟩::⟨vw (absb k S0 T),1,true⟩::G)) (H.length+1)=⟨bs T,1,true⟩:=by simp only [go_sem]
  have st:Sl 1 (H++(o1::⟨bs T,1,true⟩::⟨vw (absb k S0 T),1,true⟩::G)) (.row (H.length+1) 0 T.length T.length) (bs T) T.length:=.row (by simp) (by rw [ot,bs_len]) (by omega) (by rw [ot,List.drop_zero,List.take_of_length_le (by show (bs T).length≤_; rw [bs_len]; omega)]) (.inl (by rw [ot]))
  refine sum_10 rfl st hT hk _ h2 rfl rfl fun ex1 => ?_
  refine sum_152 al at' _ h2 rfl rfl fun ex2 G' => ?_
  rw [← ao]
  simp only [go_sem,h2,w4]
  exact ⟨(k+1,G'),rfl,rfl,by show 64*(k+1)≤_; omega,by show _ - 64*(k+1)<_; omega⟩
 ·have:k=T.length / 64:=by omega
  subst this
  exact hq _ _
end
set_option maxRecDepth 10000
theorem wu8m (z:Int) (h:0≤z):IntKind.u8.wrap z=z%256:=by
 have:=wu8mod z.toNat
 rw [show ((z.toNat:Nat):Int)=z by omega] at this
 rw [this]; omega
theorem outS_snoc {S:List Nat} {i:Nat} (hi:i<S.length):outS (S.take (i+1))=outS (S.take i)++beN 4 (S.getD i 0):=by
 rw [take_snoc hi 0,outS,outS,List.flatMap_append]; simp
theorem beN4 (a:Nat):beN 4 a=[UInt8.ofNat (a / 256^3),UInt8.ofNat (a / 256^2),UInt8.ofNat (a / 256^1),UInt8.ofNat (a / 256^0)]:=rfl
section
variable {H G:AH} {o2:AObj} {S:List Nat} {v:AV}
theorem sum_24 (hS:S.length=8) (hlt:∀ x ∈ S,x<(4294967296:Nat)) (ex:List (Nat × AV)) :
  iwp (pfx false) (Called Tryz.prog) ic_clapperref03_Sum_24 (retQ [.c 2 true 32] H (.agg (bs (outS S))) H) (look ((2,.ptr H.length 0)::(7,.row (H.length+2) 0 8 8)::ex)) (H++(⟨Zb32,0,true⟩::o2::⟨vw S,1,true⟩::G)):=by
 simp only [ic_clapperref03_Sum_24,go_sem]
 refine w_loop _ (fun (i:Nat) => ([(2,.ptr H.length 0),(7,.row (H.length+2) 0 8 8),(24,.ptr (H.length+(G.length+1+1+1)) 0),(25,I i)],H++(⟨Zb32,0,true⟩::o2::⟨vw S,1,true⟩::(G++[⟨bs (outS (S.take i))++List.replicate (32 - 4*i) (u8 0),0,true⟩])))) (fun i => i≤8) (fun i => 8 - i) 0 (Nat.zero_le _) rfl ?_
 intro i hi
 have pl:(outS (S.take i)).length=4*i:=by rw [outS_length,List.length_take]; omega
 simp only [go_sem]
 refine ⟨fun hh => ?_,fun hh => ?_⟩
 ·have hi:i<8:=by omega
  have sn:=outS_snoc (S:=S) (i:=i) (by omega)
  rw [beN4] at sn
  have gS:(vw S).getD i .junk=V (S.getD i 0):=vw_get _ _ (by omega)
  have ga:=getD_lt hlt i
  generalize S.getD i 0=a at *
  have lS:(vw S).length=8:=by rw [vw_len,hS]
  have w1:IntKind.i64.wrap (4*(i:Int))=((4*i:Nat):Int):=by rw [w64 _ (by omega) (by omega)]; omega
  have w2:IntKind.i64.wrap (((4*i:Nat):Int)+1)=((4*i+1:Nat):Int):=by rw [w64 _ (by omega) (by omega)]; omega
  have w3:IntKind.i64.wrap (((4*i:Nat):Int)+2)=((4*i+2:Nat):Int):=by rw [w64 _ (by omega) (by omega)]; omega
  have w4:IntKind.i64.wrap (((4*i:Nat):Int)+3)=((4*i+3:Nat):Int):=by rw [w64 _ (by omega) (by omega)]; omega
  have w5:IntKind.i64.wrap ((i:Int)+1)=((i+1:Nat):Int):=by rw [w64 _ (by omega) (by omega)]; omega
  have l1:(G.length+1+1+1<(⟨Zb32,0,true⟩::o2::⟨vw S,1,true⟩::(G++[(⟨bs (outS (S.take i))++List.replicate (32 - 4*i) (u8 0),0,true⟩:AObj)])).length)=True:=by simp
  have c0:AV.lit (.int .u8 (IntKind.u8.wrap (IntKind.u32.wrap ((a:Int).tdiv 16777216))))=u8 (UInt8.ofNat (a / 256^3)):=by
   rw [u8_ofNat,Int.tdiv_eq_ediv_of_nonneg (Int.natCast_nonneg _),wu32 _ (by omega) (by omega),wu8m _ (by omega)]; congr 2 <;> omega
  have c1:AV.lit (.int .u8 (IntKind.u8.wrap ((IntKind.u32.wrap ((a:Int).tdiv 65536)).tmod 256)))=u8 (UInt8.ofNat (a / 256^2)):=by
   rw [u8_ofNat,Int.tdiv_eq_ediv_of_nonneg (Int.natCast_nonneg _),wu32 _ (by omega) (by omega),Int.tmod_eq_emod_of_nonneg (by omega),wu8m _ (by omega)]; congr 2 <;> omega
  have c2:AV.lit (.int .u8 (IntKind.u8.wrap ((IntKind.u32.wrap ((a:Int).tdiv 256)).tmod 256)))=u8 (UInt8.ofNat (a / 256^1)):=by
   rw [u8_ofNat,Int.tdiv_eq_ediv_of_nonneg (Int.natCast_nonneg _),wu32 _ (by omega) (by omega),Int.tmod_eq_emod_of_nonneg (by omega),wu8m _ (by omega)]; congr 2 <;> omega
  have c3:AV.lit (.int .u8 (IntKind.u8.wrap ((a:Int).tmod 256)))=u8 (UInt8.ofNat (a / 256^0)):=by
   rw [u8_ofNat,Int.tmod_eq_emod_of_nonneg (by omega),wu8m _ (by omega)]; congr 2 <;> omega
  have n0:=fun x => bs_next (outS (S.take i)) 32 (4*i) x pl (by omega)
  have n1:=fun x y => bs_next (outS (S.take i)++[x]) 32 (4*i+1) y (by rw [List.length_append,pl]; rfl) (by omega)
  have n2:=fun x y z => bs_next (outS (S.take i)++[x,y]) 32 (4*i+2) z (by rw [List.length_append,pl]; rfl) (by omega)
  have n3:=fun x y z u => bs_next (outS (S.take i)++[x,y,z]) 32 (4*i+3) u (by rw [List.length_append,pl]; rfl) (by omega)
  have lp:(bs (outS (S.take i))).length+(List.replicate (32 - 4*i) (u8 0)).length=32:=by rw [bs_len,pl,List.length_replicate]; omega
  simp only [go_sem,w1,w2,w3,w4,w5,gS,lS,c0,c1,c2,c3,n0,n1,n2,n3]
  generalize UInt8.ofNat (a / 256^3)=x0 at *
  generalize UInt8.ofNat (a / 256^2)=x1 at *
  generalize UInt8.ofNat (a / 256^1)=x2 at *
  generalize UInt8.ofNat (a / 256^0)=x3 at *
  rw [lp]
  repeat (refine And.intro (by omega) ?_)
  refine ⟨i+1,rfl,?_,by omega,by omega⟩
  rw [sn,show 32 - (4*i+3+1)=32 - 4*(i+1) by omega]
 ·obtain rfl:i=8:=by omega
  have e:S.take 8=S:=List.take_of_length_le (by omega)
  rw [e] at pl
  have z:List.replicate (32 - 4*8) (u8 0)=[]:=rfl
  have hb:(bs (outS S)).length=32:=by rw [bs_len,pl]
  have ht:(bs (outS S)).take 32=bs (outS S):=List.take_of_length_le (by omega)
  have hsp:splice Zb32 0 (bs (outS S))=bs (outS S):=splice_all (by rw [hb]; rfl)
  have ho:=one_bs (outS S)
  rw [e,z,List.append_nil]
  have hlw:=fun ren H => lowL_bs ren H (outS S)
  generalize bs (outS S)=X at *
  rw [ht]
  have hz:Zb32=[AV.lit (.int .u8 0),.lit (.int .u8 0),.lit (.int .u8 0),.lit (.int .u8 0),.lit (.int .u8 0),.lit (.int .u8 0),.lit (.int .u8 0),.lit (.int .u8 0),.lit (.int .u8 0),.lit (.int .u8 0),.lit (.int .u8 0),.lit (.int .u8 0),.lit (.int .u8 0),.lit (.int .u8 0),.lit (.int .u8 0),.lit (.int .u8 0),.lit (.int .u8 0),.lit (.int .u8 0),.lit (.int .u8 0),.lit (.int .u8 0),.lit (.int .u8 0),.lit (.int .u8 0),.lit (.int .u8 0),.lit (.int .u8 0),.lit (.int .u8 0),.lit (.int .u8 0),.lit (.int .u8 0),.lit (.int .u8 0),.lit (.int .u8 0),.lit (.int .u8 0),.lit (.int .u8 0),.lit (.int .u8 0)]:=rfl
  rw [hz] at hsp
  rw [hsp,ht]
  exact ⟨by rw [hb]; decide,⟨hb,ho,by omega⟩,⟨by omega,by omega⟩,leave_drop (by simp only [low,hlw])⟩
end
theorem appV_v1 (H:AH) (x c:AV) (f:Bool):appV 1 H x (.view [c] 1 f)=.view (c::srcC 1 H x) (1+srcN x) false:=rfl
theorem appH_v1 (H:AH) (x c:AV) (f:Bool):appH 1 H x (.view [c] 1 f)=H:=rfl
theorem base_v1 (H:AH) (x c:AV):appBase 1 H x (.view [c] 1 true)=(pureL (srcC 1 H x)=true):=by simp [appBase]
def sizeV (n i:Nat):AV:=if i=0 then nilS else .view (bs (beN i n)) i false
theorem sizeV_sl {H:AH} (n i:Nat):Sl 1 H (sizeV n i) (bs (beN i n)) i:=by
 unfold sizeV
 split
 ·rename_i h; subst h; exact .nil
 ·exact .view (by rw [bs_len,beN_length,Nat.mul_one]) _
theorem sum_39 {H:AH} {x:AV} {l T:List UInt8} (hx:Sl 1 H x (bs l) l.length) (hl:l.length≤500000000000) (ex:List (Nat × AV)) (hT:T=l++(128::List.replicate (padn l.length) 0)) :
  iwp (pfx false) (Called Tryz.prog) ic_clapperref03_Sum_39 (retQ [.c 2 true 32] H (.agg (bs (sha l))) H) (look ((0,x)::(2,.ptr H.length 0)::(3,.row (H.length+1) 0 T.length T.length)::ex)) (H++[⟨Zb32,0,true⟩,⟨bs T,1,true⟩]):=by
 have hG:∀ G,Sl 1 (H++G) x (bs l) l.length:=fun G => hx.app
 have w1:IntKind.u64.wrap (l.length:Int)=((l.length:Nat):Int):=wu64 _ (by omega) (by omega)
 have w2:IntKind.u64.wrap (8*(l.length:Int))=((8*l.length:Nat):Int):=by rw [wu64 _ (by omega) (by omega)]; omega
 have pn:padn l.length<64:=Nat.mod_lt _ (by decide)
 have Tl:T.length=l.length+padn l.length+1:=by rw [hT]; simp; omega
 simp only [ic_clapperref03_Sum_39,go_sem,hx.s,w1,w2]
 have hn:8*l.length<256^8:=by omega
 refine w_loop _ (fun (i:Nat) => ([(2,.ptr H.length 0),(3,.row (H.length+1) 0 T.length T.length),(4,W (8*l.length / 256^i)),(5,sizeV (8*l.length) i),(6,I i)],H++[⟨Zb32,0,true⟩,⟨bs T,1,true⟩])) (fun i => i≤8) (fun i => 8 - i) 0 (Nat.zero_le _) (by rw [Nat.pow_zero,Nat.div_one]; rfl) ?_
 intro i hi
 have sz:=sizeV_sl (H:=H++[⟨Zb32,0,true⟩,⟨bs T,1,true⟩]) (8*l.length) i
 have so:∀ G,srcOk 1 G (sizeV (8*l.length) i)=True:=fun G => eq_true (sizeV_sl (H:=G) (8*l.length) i).ok
 have sc:∀ G,srcC 1 G (sizeV (8*l.length) i)=bs (beN i (8*l.length)):=fun G => (sizeV_sl (H:=G) (8*l.length) i).c
 have szp:=pure_bs (beN i (8*l.length))
 have szo:=one_bs (beN i (8*l.length))
 simp only [go_sem,sz.s]
 refine ⟨fun hh => ?_,fun hh => ?_⟩
 ·have hi:i<8:=by omega
  have w5:IntKind.i64.wrap ((i:Int)+1)=((i+1:Nat):Int):=by rw [w64 _ (by omega) (by omega)]; omega
  have bc:=beN_cons i (8*l.length)
  have e2:8*l.length / 256^(i+1)=8*l.length / 256^i / 256:=by rw [Nat.pow_succ,Nat.div_div_eq_div_mul]
  have hlt:8*l.length / 256^i<(18446744073709551616:Nat):=Nat.lt_of_le_of_lt (Nat.div_le_self _ _) (by omega)
  have nx:sizeV (8*l.length) (i+1)=.view (u8 (UInt8.ofNat (8*l.length / 256^i))::bs (beN i (8*l.length))) (1+i) false:=by
   rw [sizeV,if_neg (by omega),bc,Nat.add_comm]; rfl
  generalize beN i (8*l.length)=Z at *
  generalize hs:sizeV (8*l.length) i=s at *
  generalize 8*l.length / 256^i=a at *
  have c1:AV.lit (.int .u8 (IntKind.u8.wrap ((a:Int).tmod 256)))=u8 (UInt8.ofNat a):=by
   rw [u8_ofNat,Int.tmod_eq_emod_of_nonneg (by omega),wu8m _ (by omega)]; congr 2 <;> omega
  have c2:IntKind.u64.wrap ((a:Int).tdiv 256)=((a / 256:Nat):Int):=by
   rw [Int.tdiv_eq_ediv_of_nonneg (Int.natCast_nonneg _),wu64 _ (by omega) (by omega)]; omega
  simp only [go_sem,c1,c2,w5,fillOk,fillv,sz.s,so,sc,appV_v1,appH_v1,base_v1,szp,szo]
  exact ⟨by decide,by omega,by decide,i+1,by rw [nx,e2],by omega,by omega⟩
 ·obtain rfl:i=8:=by omega
  have bl8:(bs (beN 8 (8*l.length))).length=8:=by rw [bs_len,beN_length]
  have lT:T.length=(bs T).length:=(bs_len T).symm
  have e1:appL 1 0 T.length 8 8 T.length=T.length+8:=appL_end (Nat.mul_one _)
  have e2:appC 1 (bs T) (bs (beN 8 (8*l.length))) 0 T.length 8 T.length=bs (T++beN 8 (8*l.length)):=by rw [appC_end (Nat.mul_one _)]; simp [bs]
  simp only [go_sem,sz.s,so,sc,szo,bl8,bs_len,e1,e2]
  refine ⟨by omega,?_⟩
  have hp:T++beN 8 (8*l.length)=l++pad l.length:=by rw [hT,pad]; simp
  have hl8:T.length+8=(T++beN 8 (8*l.length)).length:=by rw [List.length_append,beN_length]
  have pl:=pad_length l.length
  rw [hl8,hp]
  have hs:sha l=outS (absb ((l++pad l.length).length / 64) IV256 (l++pad l.length)):=by
   rw [sha]; congr 2; rw [List.length_append,pl.2]; omega
  rw [hs]
  have ivl:IV256.length=8:=IV_length
  have ivt:∀ x ∈ IV256,x<(4294967296:Nat):=by decide
  have hlen:(l++pad l.length).length=l.length+(pad l.length).length:=List.length_append
  generalize l++pad l.length=L at *
  refine sum_58 _ rfl (by omega) (by omega) fun ex G' => ?_
  have a1:=absb_length (L.length / 64) IV256 L ivl
  have a2:=absb_lt (L.length / 64) IV256 L ivt
  generalize absb (L.length / 64) IV256 L=S at *
  exact sum_24 a1 a2 _
theorem r_Sum {H:AH} {x:AV} {l:List UInt8} (hx:Sl 1 H x (bs l) l.length) (hl:l.length≤500000000000):Called Tryz.prog F.clapperref03_Sum [x] H (.agg (bs (sha l))) H:=by
 refine e_clapperref03_Sum ?_
 have hG:∀ G,Sl 1 (H++G) x (bs l) l.length:=fun G => hx.app
 have e1:appL 1 0 l.length 1 1 (bs l).length=l.length+1:=by rw [appL_end (by rw [bs_len,Nat.mul_one]),bs_len]
 have e2:appC 1 (bs l) [AV.lit (.int .u8 128)] 0 l.length 1 (bs l).length=bs (l++[128]):=by rw [appC_end (by rw [bs_len,Nat.mul_one])]; simp [bs,u8]
 simp only [ic_clapperref03_Sum,go_sem,hx.s,(hG _).s,fillOk,fillv,e1,e2]
 have pn:padn l.length<64:=Nat.mod_lt _ (by decide)
 have pe:padn l.length=(119 - l.length%64)%64:=rfl
 refine ⟨⟨one_bs _,by omega⟩,⟨by omega,by rw [bs_len]; exact Nat.le_refl _⟩,?_⟩
 have ln:∀ j,(l++(128::List.replicate j (0:UInt8))).length=l.length+1+j:=fun j => by simp; omega
 refine w_loop _ (fun (j:Nat) => ([(0,x),(2,.ptr H.length 0),(3,.row (H.length+1) 0 (l.length+1+j) (l.length+1+j))],H++[⟨Zb32,0,true⟩,⟨bs (l++(128::List.replicate j 0)),1,true⟩])) (fun j => j≤padn l.length) (fun j => padn l.length - j) 0 (Nat.zero_le _) rfl ?_
 intro j hj
 have r64:(((l.length+1+j:Nat):Int).tmod 64 != 56)=decide ((l.length+1+j)%64≠56):=by
  rw [Int.tmod_eq_emod_of_nonneg (Int.natCast_nonneg _),Bool.eq_iff_iff,bne_iff_ne,decide_eq_true_eq]; omega
 simp only [go_sem,hx.s,r64]
 refine ⟨by decide,fun hh => ?_,fun hh => ?_⟩
 ·have hlt:j<padn l.length:=by
   rcases Nat.lt_or_ge j (padn l.length) with h | h
   ·exact h
   ·exfalso; have:j=padn l.length:=by omega
    subst this
    apply hh; omega
  have e3:appL 1 0 (l.length+1+j) 1 1 (l.length+1+j)=l.length+1+(j+1):=by rw [appL_end (Nat.mul_one _)]; omega
  have e4:appC 1 (bs (l++(128::List.replicate j 0))) [AV.lit (.int .u8 0)] 0 (l.length+1+j) 1 (l.length+1+j)=bs (l++(128::List.replicate (j+1) 0)):=by
   rw [appC_end (Nat.mul_one _),List.replicate_succ']; simp [bs,u8]
  rw [List.replicate_succ] at e4
  simp only [go_sem,hx.s,fillOk,fillv,e3,e4,bs_len,ln]
  exact ⟨by omega,j+1,rfl,rfl,hlt,by omega⟩
 ·have:j=padn l.length:=by
   have hh:(l.length+1+j)%64=56:=by omega
   omega
  subst this
  have:=sum_39 (T:=l++(128::List.replicate (padn l.length) 0)) hx hl
  rw [ln] at this
  exact this _ rfl
end Go.Proofs.YtgfploghjpbcaaaGreat.Eng

