/- The document's layer 2: sums, differences, which is less. -/
import Derived.Test.YtgfploghjpbcaaaMNum
import Derived.Test.YtgfploghjpbcaaaMCa
import Derived.Test.YtgfploghjpbcaaaMEc
import Derived.Test.YtgfploghjpbcaaaMPt
import Derived.Test.YtgfploghjpbcaaaMVf
namespace Go.Proofs.Ytgfploghjpbcaaa.Eng
open Go Go.Proofs
set_option linter.unusedVariables false
set_option linter.unusedSimpArgs false
set_option maxRecDepth 10000
theorem grow (m a b i:Nat):fadd m (fadd m (fmul m a (b / 2^(i+1))) (fmul m a (b / 2^(i+1)))) (if b / 2^i%2=1 then a else 0)=fmul m a (b / 2^i):=by
 have e:b / 2^i=2*(b / 2^(i+1))+b / 2^i%2:=by rw [Nat.pow_succ,← Nat.div_div_eq_div_mul]; omega
 generalize b / 2^(i+1)=q at *
 generalize b / 2^i=y at *
 rw [e]
 have h2:y%2=0∨y%2=1:=by omega
 unfold fadd fmul
 have e1:(if (2*q+y%2)%2=1 then a else 0)=a*(y%2):=by
  rcases h2 with h | h <;> rw [h]
  ·rw [if_neg (by omega),Nat.mul_zero]
  ·rw [if_pos (by omega),Nat.mul_one]
 rw [e1,← Nat.add_mod,Nat.mod_add_mod,Nat.mul_add,← Nat.two_mul,Nat.mul_left_comm]
set_option maxRecDepth 10000
abbrev pt16 (k n:Nat):List AV:=(dig (65536:Nat) k n).map fun d => I ((d:Nat):Int)
theorem pt_len (k n:Nat):(pt16 k n).length=k:=by simp [pt16,dig_length]
theorem pt_succ (k n:Nat):pt16 (k+1) n=pt16 k n++[I ((n / (65536:Nat)^k%(65536:Nat):Nat):Int)]:=by
 rw [pt16,dig_succ,List.map_append]; rfl
theorem pt_get {k n i:Nat} (h:i<k):(pt16 k n).getD i .junk=I ((n / (65536:Nat)^i%(65536:Nat):Nat):Int):=by
 have:=dig_get (B:=(65536:Nat)) k n i h
 rw [List.getD_eq_getElem?_getD] at this ⊢
 have hl:i<(dig (65536:Nat) k n).length:=by rw [dig_length]; exact h
 rw [List.getElem?_eq_getElem hl,Option.getD_some] at this
 rw [pt16,List.getElem?_map,List.getElem?_eq_getElem hl,Option.map_some,Option.getD_some,this]
theorem part_digit (a i k:Nat) (hk:k<4):a / (18446744073709551616:Nat)^i%(18446744073709551616:Nat) / (65536:Nat)^k%(65536:Nat)=a / (65536:Nat)^(4*i+k)%(65536:Nat):=by
 have e1:(18446744073709551616:Nat)^i=(65536:Nat)^(4*i):=by rw [Nat.pow_mul]
 have e2:(18446744073709551616:Nat)=(65536:Nat)^k*(65536:Nat)^(4 - k):=by rw [← Nat.pow_add,show k+(4 - k)=4 by omega]
 have e3:(65536:Nat)^(4 - k)=(65536:Nat)*(65536:Nat)^(3 - k):=by rw [← Nat.pow_succ']; congr 1; omega
 rw [e1,Nat.pow_add,← Nat.div_div_eq_div_mul]
 generalize a / (65536:Nat)^(4*i)=x
 conv => lhs; rw [e2]
 rw [Nat.mod_mul_right_div_self,e3,Nat.mod_mul_right_mod]
theorem r_partsL {H:AH} (a:Nat) {v:AV} {H':AH} (hl:Leave H (.row (H.length+1) 0 16 16) (H++[⟨num a,0,true⟩,⟨pt16 16 a,1,true⟩]) v H'):Called Try.prog F.clapperref01_Parts [.agg (num a)] H v H':=by
 refine e_clapperref01_Parts ?_
 have lw:=wd_length 4 a
 simp only [ic_clapperref01_Parts,go_sem,one_wd,num_ne]
 refine w_loop _ (fun (i:Nat) => ([(1,.ptr H.length 0),(3,rA (H++[⟨num a,0,true⟩]) (pt16 (4*i) a) (4*i)),(4,I i)],hA 1 (H++[⟨num a,0,true⟩]) (pt16 (4*i) a) (4*i))) (fun i => i≤4) (fun i => 4 - i) 0 (Nat.zero_le _) rfl ?_
 intro i hi
 have hH:H.length<(H++[(⟨num a,0,true⟩:AObj)]).length:=by simp
 have oH:∀ vs n,obj (hA 1 (H++[⟨num a,0,true⟩]) vs n) H.length=⟨num a,0,true⟩:=fun vs n => by rw [hA_old hH,obj_app0]; rfl
 have lH:∀ vs n,H.length<(hA 1 (H++[⟨num a,0,true⟩]) vs n).length:=fun vs n => Nat.lt_of_lt_of_le hH hA_len
 simp only [go_sem]
 refine ⟨fun hh => ?_,fun hh => ?_⟩
 ·have hi:i<4:=by omega
  simp only [go_sem,oH,lH,lw,wd_get hi]
  refine ⟨⟨by omega,by omega⟩,by omega,?_⟩
  refine w_loop _ (fun (k:Nat) => ([(1,.ptr H.length 0),(3,rA (H++[⟨num a,0,true⟩]) (pt16 (4*i+k) a) (4*i+k)),(4,I i),(5,W (a / (18446744073709551616:Nat)^i%(18446744073709551616:Nat) / (65536:Nat)^k)),(6,I k)],hA 1 (H++[⟨num a,0,true⟩]) (pt16 (4*i+k) a) (4*i+k))) (fun k => k≤4) (fun k => 4 - k) 0 (Nat.zero_le _) (by rw [Nat.pow_zero,Nat.div_one]; rfl) ?_
  intro k hk
  simp only [go_sem]
  refine ⟨fun hh => ?_,fun hh => ?_⟩
  ·have hk:k<4:=by omega
   have dg:=part_digit a i k hk
   have w1:IntKind.i64.wrap (((a / (18446744073709551616:Nat)^i%(18446744073709551616:Nat) / (65536:Nat)^k:Nat):Int).tmod 65536)=((a / (65536:Nat)^(4*i+k)%(65536:Nat):Nat):Int):=by
    rw [Int.tmod_eq_emod_of_nonneg (Int.natCast_nonneg _),← dg,w64 _ (by omega) (by omega)]; omega
   have w3:IntKind.u64.wrap (((a / (18446744073709551616:Nat)^i%(18446744073709551616:Nat) / (65536:Nat)^k:Nat):Int).tdiv 65536)=((a / (18446744073709551616:Nat)^i%(18446744073709551616:Nat) / (65536:Nat)^(k+1):Nat):Int):=by
    have hlt:a / (18446744073709551616:Nat)^i%(18446744073709551616:Nat) / (65536:Nat)^k<(18446744073709551616:Nat):=Nat.lt_of_le_of_lt (Nat.div_le_self _ _) (Nat.mod_lt _ (by decide))
    rw [Int.tdiv_eq_ediv_of_nonneg (Int.natCast_nonneg _),Nat.pow_succ,← Nat.div_div_eq_div_mul]
    generalize a / (18446744073709551616:Nat)^i%(18446744073709551616:Nat) / (65536:Nat)^k=x at *
    rw [wu64 _ (by omega) (by omega)]; omega
   have w4:IntKind.i64.wrap ((k:Int)+1)=((k+1:Nat):Int):=by rw [w64 _ (by omega) (by omega)]; omega
   rw [w1]
   obtain ⟨⟨_,_,b3,b4⟩,q2,q3⟩:=build_app (sz:=1) (H:=H++[⟨num a,0,true⟩]) (vs:=pt16 (4*i+k) a) (n:=4*i+k) (b:=8) (s:=.view [I ((a / (65536:Nat)^(4*i+k)%(65536:Nat):Nat):Int)] 1 true) (cs:=[I ((a / (65536:Nat)^(4*i+k)%(65536:Nat):Nat):Int)]) (by rw [pt_len]; omega) rfl rfl rfl rfl (by omega)
   refine ⟨by decide,⟨b3,b4⟩,by decide,k+1,?_,?_,hk,by omega⟩
   ·rw [w3,w4,q2,← pt_succ]; rfl
   ·rw [q3,← pt_succ]; rfl
  ·obtain rfl:k=4:=by omega
   have w4:IntKind.i64.wrap ((i:Int)+1)=((i+1:Nat):Int):=by rw [w64 _ (by omega) (by omega)]; omega
   exact ⟨i+1,by rw [w4]; rfl,rfl,hi,by omega⟩
 ·obtain rfl:i=4:=by omega
  have e:hA 1 (H++[⟨num a,0,true⟩]) (pt16 (4*4) a) (4*4)=H++[⟨num a,0,true⟩,⟨pt16 16 a,1,true⟩]:=by
   simp only [hA,List.append_assoc]; rfl
  have e2:rA (H++[(⟨num a,0,true⟩:AObj)]) (pt16 (4*4) a) (4*4)=.row (H.length+1) 0 16 16:=by
   rw [rA,if_neg (by decide),pt_len,List.length_append]; rfl
  rw [e2,e]
  exact hl
theorem pure_pt (k n:Nat):pureL (pt16 k n)=true:=pure_map (fun d:Nat => I ((d:Nat):Int)) (fun _ => rfl) _
theorem r_parts {H:AH} (a:Nat):Called Try.prog F.clapperref01_Parts [.agg (num a)] H (.view (pt16 16 a) 16 false) H:=by
 refine r_partsL a (leave_drop (G:=[⟨num a,0,true⟩,⟨pt16 16 a,1,true⟩]) ?_)
 have e:H++[⟨num a,0,true⟩,⟨pt16 16 a,1,true⟩]=(H++[⟨num a,0,true⟩])++[⟨pt16 16 a,1,true⟩]:=by rw [List.append_assoc]; rfl
 have e2:AV.row (H.length+1) 0 16 16=.row (H++[(⟨num a,0,true⟩:AObj)]).length 0 16 16:=by rw [List.length_append]; rfl
 rw [e2,e]
 refine low_newrow (sz:=1) (n:=16) ?_ (by decide) (by rw [pt_len]) (pure_pt _ _) true 16 (by rw [pt_len])
 rw [List.length_append]; exact renk_none_add _ _
theorem cmp_step (a b i:Nat):cmpN (a%(65536:Nat)^(i+1)) (b%(65536:Nat)^(i+1))=if a / (65536:Nat)^i%(65536:Nat)<b / (65536:Nat)^i%(65536:Nat) then -1 else if b / (65536:Nat)^i%(65536:Nat)<a / (65536:Nat)^i%(65536:Nat) then 1 else cmpN (a%(65536:Nat)^i) (b%(65536:Nat)^i):=by
 have hp:0<(65536:Nat)^i:=Nat.pow_pos (by decide)
 have ha:=Nat.mod_lt a hp
 have hb:=Nat.mod_lt b hp
 rw [Nat.pow_succ,Nat.mod_mul,Nat.mod_mul]
 generalize a / (65536:Nat)^i%(65536:Nat)=x at *
 generalize b / (65536:Nat)^i%(65536:Nat)=y at *
 generalize a%(65536:Nat)^i=r at *
 generalize b%(65536:Nat)^i=s at *
 generalize (65536:Nat)^i=P at *
 have lt:∀ x y r s:Nat,r<P→x<y→r+P*x<s+P*y:=fun x y r s hr h => by
  have:=Nat.mul_le_mul_left P (show x+1≤y from h)
  rw [Nat.mul_add] at this
  omega
 split
 ·rename_i h
  have:=lt x y r s ha h
  rw [cmpN,if_pos this]
 ·split
  ·rename_i h
   have:=lt y x s r hb h
   rw [cmpN,if_neg (by omega),if_pos this]
  ·obtain rfl:x=y:=by omega
   unfold cmpN
   simp only [Nat.add_lt_add_iff_right]
theorem r_Cmp {H:AH} {a b:Nat} (ha:a<(18446744073709551616:Nat)^4) (hb:b<(18446744073709551616:Nat)^4):Called Try.prog F.clapperref01_Cmp [.agg (num a),.agg (num b)] H (I (cmpN a b)) H:=by
 refine e_clapperref01_Cmp ?_
 have lw:=wd_length 4
 simp only [ic_clapperref01_Cmp,go_sem,one_wd,num_ne,num_take,lw]
 refine callW_some (r_parts a) (fun _ => rfl) ?_
 simp only [go_sem,one_wd,num_ne,num_take,lw]
 refine callW_some (r_parts b) (fun _ => rfl) ?_
 simp only [go_sem]
 refine w_loop _ (fun (i:Nat) => ([(5,.view (pt16 16 a) 16 false),(6,.view (pt16 16 b) 16 false),(7,I (cmpN (a%(65536:Nat)^i) (b%(65536:Nat)^i))),(8,I i)],H++[⟨num a,0,true⟩,⟨num b,0,true⟩])) (fun i => i≤16) (fun i => 16 - i) 0 (Nat.zero_le _) (by simp [Nat.mod_one,cmpN]) ?_
 intro i hi
 simp only [go_sem]
 refine ⟨fun hh => ?_,fun hh => ?_⟩
 ·have hi:i<16:=by omega
  have el:∀ n,elt (pt16 16 n) 1 i=[I ((n / (65536:Nat)^i%(65536:Nat):Nat):Int)]:=fun n => by
   have:=pt_get (n:=n) hi
   rw [elt,Nat.mul_one,drop_cons (show i<(pt16 16 n).length by rw [pt_len]; exact hi) .junk,this]; rfl
  have w4:IntKind.i64.wrap ((i:Int)+1)=((i+1:Nat):Int):=by rw [w64 _ (by omega) (by omega)]; omega
  have st:=cmp_step a b i
  have q1:∀ x y:Nat,((x:Int)<(y:Int))=(x<y):=fun x y => propext Int.ofNat_lt
  simp only [go_sem,el,w4,pt_len,q1]
  have ib:((0:Int)≤i)∧i<16:=⟨by omega,hi⟩
  have nx:∀ v,v=cmpN (a%(65536:Nat)^(i+1)) (b%(65536:Nat)^(i+1))→∃ a':Nat,look [(5,AV.view (pt16 16 a) 16 false),(6,AV.view (pt16 16 b) 16 false),(7,I v),(8,AV.lit (Value.int IntKind.i64 ↑(i+1)))]=look [(5,AV.view (pt16 16 a) 16 false),(6,AV.view (pt16 16 b) 16 false),(7,I (cmpN (a%65536^a') (b%65536^a'))),(8,I ↑a')]∧a'≤16∧16 - a'<16 - i:=fun v hv => ⟨i+1,by rw [hv],hi,by omega⟩
  rw [st] at nx
  refine ⟨ib,ib,fun h1 => ⟨ib,ib,fun h2 => absurd h1 (by omega),fun h2 => nx _ (by rw [if_pos h1])⟩,fun h1 => ⟨ib,ib,fun h2 => nx _ (by rw [if_neg h1,if_pos h2]),fun h2 => nx _ (by rw [if_neg h1,if_neg h2])⟩⟩
 ·obtain rfl:i=16:=by omega
  refine leave_drop ?_
  rw [show (65536:Nat)^16=(18446744073709551616:Nat)^4 by decide,Nat.mod_eq_of_lt ha,Nat.mod_eq_of_lt hb]; rfl
end Go.Proofs.Ytgfploghjpbcaaa.Eng
namespace Go.Proofs.Ytgfploghjpbcaaa.Eng
open Go
set_option linter.unusedVariables false
set_option linter.unusedSimpArgs false
theorem blen_mono {a b:Nat} (h:a≤b):blen a≤blen b:=by
 unfold blen
 split
 ·omega
 ·rename_i h0
  rw [if_neg (show ¬ b=0 by omega)]
  have h1:b<2^(b.log2+1):=Nat.lt_log2_self
  have:=(Nat.log2_lt h0).2 (Nat.lt_of_le_of_lt h h1)
  omega
def mI (u v:Nat):Nat:=2*(blen u+blen v)+u%2
structure InvI (m a u v x y:Nat):Prop where
 vo:v%2=1
 xl:x<m
 yl:y<m
 cu:Cg m u (x*a)
 cv:Cg m v (y*a)
 g:Nat.gcd u v=Nat.gcd a m
 ub:u≤m
 vb:v≤m
section
variable {m a u v x y:Nat}
theorem InvI.less (h:InvI m a u v x y) (ho:m%2=1) (h1:u%2=1) (hl:u<v):InvI m a (v - u) u (fsub m y x) x∧mI (v - u) u<mI u v:=by
 have hv:=h.vo
 refine ⟨⟨h1,Nat.mod_lt _ (by have:=h.xl; omega),h.xl,cg_sub (by omega) h.xl h.cv h.cu,h.cu,?_,by have:=h.vb; omega,h.ub⟩,?_⟩
 ·rw [← h.g,Nat.gcd_comm,Nat.gcd_sub_self_right (m:=u) (n:=v) (by omega)]
 ·have h2:blen (v - u)≤blen v:=blen_mono (by omega)
  unfold mI
  omega
theorem InvI.more (h:InvI m a u v x y) (ho:m%2=1) (h1:u%2=1) (hl:¬ u<v):InvI m a (u - v) v (fsub m x y) y∧mI (u - v) v<mI u v:=by
 have hv:=h.vo
 refine ⟨⟨hv,Nat.mod_lt _ (by have:=h.xl; omega),h.yl,cg_sub (by omega) h.yl h.cu h.cv,h.cv,?_,by have:=h.ub; omega,h.vb⟩,?_⟩
 ·rw [← h.g,Nat.gcd_comm,Nat.gcd_sub_self_right (m:=v) (n:=u) (by omega),Nat.gcd_comm]
 ·have h2:blen (u - v)≤blen u:=blen_mono (by omega)
  unfold mI
  omega
theorem InvI.done (h:InvI m a 0 v x y) (hm:1<m) (hg:Nat.gcd a m=1):v=1∧y=minv m a:=by
 have hv:v=1:=by have:=h.g; rw [Nat.gcd_zero_left,hg] at this; exact this
 refine ⟨hv,(minv_eq h.yl ?_).symm⟩
 obtain ⟨c,hc⟩:=h.cv
 rw [hv] at hc
 have:(((a*y:Nat)%m:Nat):Int)=1:=by
  rw [Int.natCast_emod,Nat.mul_comm a y,show ((y*a:Nat):Int)=1+m*(-c) by rw [Int.mul_neg,← hc]; omega,Int.add_mul_emod_self_left]
  exact Int.emod_eq_of_lt (by decide) (by omega)
 omega
end
abbrev hl (n i:Nat):List AV:=wd i (n / 2)++(wd 4 n).drop i
section
variable {n i:Nat}
end
set_option maxRecDepth 10000
theorem pt_val (n:Nat) (i:Nat):n / (65536:Nat)^(4*i)%(65536:Nat)+65536*(n / (65536:Nat)^(4*i+1)%(65536:Nat))+4294967296*(n / (65536:Nat)^(4*i+2)%(65536:Nat))+281474976710656*(n / (65536:Nat)^(4*i+3)%(65536:Nat))=n / (18446744073709551616:Nat)^i%(18446744073709551616:Nat):=by
 have e:(18446744073709551616:Nat)^i=(65536:Nat)^(4*i):=by rw [Nat.pow_mul]
 rw [e,Nat.pow_add,Nat.pow_add,Nat.pow_add,← Nat.div_div_eq_div_mul,← Nat.div_div_eq_div_mul,← Nat.div_div_eq_div_mul]
 generalize n / (65536:Nat)^(4*i)=x
 omega
theorem r_word {H:AH} {x:AV} {n i:Nat} (hx:Sl 1 H x (pt16 16 n) 16) (hi:i<4):Called Try.prog F.clapperref01_word [x,I ((4*i:Nat):Int)] H (W (n / (18446744073709551616:Nat)^i%(18446744073709551616:Nat))) H:=by
 refine e_clapperref01_word ?_
 have g:∀ k,k<4→loadOk 1 H (idxaV 1 (.lit (.int .i64 ((4*i+k:Nat):Int))) x)=True:=fun k hk => hx.ldOk .i64 (by omega) (Nat.le_refl 1)
 have v:∀ k,k<4→loadV false 1 H (idxaV 1 (.lit (.int .i64 ((4*i+k:Nat):Int))) x)=I ((n / (65536:Nat)^(4*i+k)%(65536:Nat):Nat):Int):=fun k hk => by rw [hx.ld1 .i64 (by omega),pt_get (by omega)]
 have c:∀ k:Nat,k<4→IntKind.i64.wrap (((4*i:Nat):Int)+(k:Int))=((4*i+k:Nat):Int):=fun k hk => by rw [w64 _ (by omega) (by omega)]; omega
 have c1:=c 1 (by decide)
 have c2:=c 2 (by decide)
 have c3:=c 3 (by decide)
 have m:∀ k,k<4→(((n / (65536:Nat)^(4*i+k)%(65536:Nat):Nat):Int))<65536:=fun k hk => by have:=Nat.mod_lt (n / (65536:Nat)^(4*i+k)) (show 0<(65536:Nat) by decide); omega
 have pv:=pt_val n i
 have g0:=g 0 (by decide)
 have v0:=v 0 (by decide)
 have m0:=m 0 (by decide)
 rw [Nat.add_zero] at g0 v0 m0
 have m1:=m 1 (by decide)
 have m2:=m 2 (by decide)
 have m3:=m 3 (by decide)
 simp only [Int.natCast_one,Int.cast_ofNat_Int] at c1 c2 c3
 simp only [ic_clapperref01_word,go_sem,hx.idx,hx.un,hx.may,c1,c2,c3,g0,v0,g 1 (by decide),g 2 (by decide),g 3 (by decide),v 1 (by decide),v 2 (by decide),v 3 (by decide)]
 rw [← pv]
 generalize n / (65536:Nat)^(4*i)%(65536:Nat)=x0 at *
 generalize n / (65536:Nat)^(4*i+1)%(65536:Nat)=x1 at *
 generalize n / (65536:Nat)^(4*i+2)%(65536:Nat)=x2 at *
 generalize n / (65536:Nat)^(4*i+3)%(65536:Nat)=x3 at *
 refine ⟨⟨by omega,by omega⟩,⟨by omega,by omega⟩,⟨by omega,by omega⟩,⟨by omega,by omega⟩,leave_same ?_⟩
 have u:∀ z:Int,0≤z→z≤18446744073709551615→IntKind.u64.wrap z=z:=fun z h1 h2 => wu64 z h1 h2
 rw [u x0 (by omega) (by omega),u x1 (by omega) (by omega),u x2 (by omega) (by omega),u x3 (by omega) (by omega),u (65536*(x1:Int)) (by omega) (by omega),u ((x0:Int)+65536*(x1:Int)) (by omega) (by omega),u (4294967296*(x2:Int)) (by omega) (by omega),u ((x0:Int)+65536*(x1:Int)+4294967296*(x2:Int)) (by omega) (by omega),u (281474976710656*(x3:Int)) (by omega) (by omega),u ((x0:Int)+65536*(x1:Int)+4294967296*(x2:Int)+281474976710656*(x3:Int)) (by omega) (by omega)]
 rfl
theorem r_Num {H:AH} {x:AV} {n:Nat} (hx:Sl 1 H x (pt16 16 n) 16) (hn:n<(18446744073709551616:Nat)^4):Called Try.prog F.clapperref01_Num [x] H (.agg (num n)) H:=by
 have hG:∀ G,Sl 1 (H++G) x (pt16 16 n) 16:=fun G => hx.app
 have lw:=wd_length 4
 have e4:[W (n / (18446744073709551616:Nat)^0%(18446744073709551616:Nat)),W (n / (18446744073709551616:Nat)^1%(18446744073709551616:Nat)),W (n / (18446744073709551616:Nat)^2%(18446744073709551616:Nat)),W (n / (18446744073709551616:Nat)^3%(18446744073709551616:Nat))]=num n:=by simp only [wd,dig,List.map_cons,List.map_nil,Nat.div_div_eq_div_mul,Nat.pow_zero,Nat.div_one,Nat.pow_one]
 refine e_clapperref01_Num ?_
 simp only [ic_clapperref01_Num,go_sem,hx.un]
 refine callW_some (r_word (i:=0) (hG _) (by decide)) (fun _ => rfl) ?_
 simp only [go_sem,hx.un]
 refine callW_some (r_word (i:=1) (hG _) (by decide)) (fun _ => rfl) ?_
 simp only [go_sem,hx.un]
 refine callW_some (r_word (i:=2) (hG _) (by decide)) (fun _ => rfl) ?_
 simp only [go_sem,hx.un]
 refine callW_some (r_word (i:=3) (hG _) (by decide)) (fun _ => rfl) ?_
 simp only [go_sem,fillOk,fillv,e4,one_wd,lw,num_spliceW,num_splice,num_take]
 exact leave_drop (by simp only [low,lowL_wd])
theorem dig_setB {B:Nat} (hB:0<B) (k:Nat):∀ (n j c:Nat),j<k→n / B^j%B+c<B→dig B k (n+c*B^j)=(dig B k n).set j (n / B^j%B+c):=by
 induction k with
 | zero => intro n j c h; omega
 | succ k ih =>
  intro n j c hj hc
  cases j with
  | zero =>
   simp only [Nat.pow_zero,Nat.mul_one,Nat.div_one] at *
   have h1:(n+c)%B=n%B+c:=by
    have e:=Nat.div_add_mod n B
    rw [← e,Nat.add_assoc,Nat.mul_add_mod,Nat.mul_add_mod,Nat.mod_mod,Nat.mod_eq_of_lt hc]
   have h2:(n+c) / B=n / B:=by
    have e:=Nat.div_add_mod n B
    conv => lhs; rw [← e]
    rw [Nat.add_assoc,Nat.mul_add_div hB,Nat.div_eq_of_lt hc,Nat.add_zero]
   rw [dig,dig,List.set_cons_zero,h1,h2]
  | succ j =>
   have e1:n / B^(j+1)=n / B / B^j:=by rw [Nat.pow_succ,Nat.mul_comm,Nat.div_div_eq_div_mul]
   have e2:c*B^(j+1)=B*(c*B^j):=by rw [Nat.pow_succ,← Nat.mul_assoc,Nat.mul_comm]
   rw [e1] at hc ⊢
   rw [dig,dig,List.set_cons_succ,e2,Nat.add_mul_mod_self_left,Nat.add_mul_div_left _ _ hB,ih _ _ _ (by omega) hc]
theorem pt_set {k n j c:Nat} (hj:j<k) (hc:n / (65536:Nat)^j%(65536:Nat)+c<(65536:Nat)):(pt16 k n).set j (I ((n / (65536:Nat)^j%(65536:Nat)+c:Nat):Int))=pt16 k (n+c*(65536:Nat)^j):=by
 rw [pt16,pt16,dig_setB (by decide) k n j c hj hc,List.map_set]
theorem r_Of {H:AH} {x:AV} {l:List UInt8} (hx:Sl 1 H x (bs l) l.length) (hl:l.length≤32):Called Try.prog F.clapperref01_Of [x] H (.agg (num (be l))) H:=by
 have lw:=wd_length 4
 refine e_clapperref01_Of ?_
 simp only [ic_clapperref01_Of,go_sem,mkslOk]
 refine ⟨by decide,?_⟩
 refine w_loop _ (fun (i:Nat) => ([(0,x),(2,.ptr H.length 0),(3,.row (H.length+1) 0 16 16),(4,I i)],H++[⟨[W 0,W 0,W 0,W 0],0,true⟩,⟨pt16 16 (be l%256^i),1,true⟩])) (fun i => i≤l.length) (fun i => l.length - i) 0 (Nat.zero_le _) ?_ ?_
 ·rw [Nat.pow_zero,Nat.mod_one]; rfl
 intro i hi
 simp only [go_sem,hx.lenT,hx.n]
 refine ⟨fun hh => ?_,fun hh => ?_⟩
 ·have hi:i<l.length:=by omega
  have hx':=fun G => hx.app (G:=G)
  have w1:IntKind.i64.wrap ((l.length:Int) - 1)=((l.length - 1:Nat):Int):=by rw [w64 _ (by omega) (by omega)]; omega
  have w1':IntKind.i64.wrap (((l.length - 1:Nat):Int) - (i:Int))=((l.length - 1 - i:Nat):Int):=by rw [w64 _ (by omega) (by omega)]; omega
  have w2:IntKind.i64.wrap ((i:Int)+1)=((i+1:Nat):Int):=by rw [w64 _ (by omega) (by omega)]; omega
  have w3:IntKind.i64.wrap ((i:Int).tdiv 2)=((i / 2:Nat):Int):=by rw [Int.tdiv_eq_ediv_of_nonneg (by omega),w64 _ (by omega) (by omega)]; omega
  have w4:(((i:Int).tmod 2 == 0):Bool)=decide (i%2=0):=by
   rw [Int.tmod_eq_emod_of_nonneg (by omega),Bool.eq_iff_iff,beq_iff_eq,decide_eq_true_eq]; omega
  have h4:i / 2<16:=by omega
  have hk:l.length - 1 - i<l.length:=by omega
  have hy:be l / 256^i%256<256:=Nat.mod_lt _ (by decide)
  have dg:=be_digit l i hi
  have vlt:be l%256^i<256^i:=Nat.mod_lt _ (Nat.pow_pos (by decide))
  have vs:be l%256^(i+1)=be l%256^i+256^i*(be l / 256^i%256):=by rw [Nat.pow_succ,Nat.mod_mul]
  have pg:=pt_get (n:=be l%256^i) h4
  have cy:IntKind.i64.wrap ((be l / 256^i%256:Nat):Int)=((be l / 256^i%256:Nat):Int):=w64 _ (by omega) (by omega)
  have cy2:IntKind.i64.wrap (256*((be l / 256^i%256:Nat):Int))=((256*(be l / 256^i%256):Nat):Int):=by rw [w64 _ (by omega) (by omega)]; omega
  simp only [go_sem,hx.lenT,hx.n,w1,w1',w2,w3,w4,hx.idx,hx.un,(hx' _).ldOk .i64 hk (Nat.le_refl 1),(hx' _).ld1 .i64 hk,bs_get l _ hk,dg,pt_len,pg,cy,cy2]
  have ib:(0:Int)≤((i / 2:Nat):Int)∧((i / 2:Nat):Int)<((16:Nat):Int):=⟨by omega,by omega⟩
  have ik:(0:Int)≤((l.length - 1 - i:Nat):Int)∧((l.length - 1 - i:Nat):Int)<l.length:=⟨by omega,by omega⟩
  have nx:∀ L,L=pt16 16 (be l%256^(i+1))→∃ a':Nat,look [(0,x),(2,AV.ptr H.length 0),(3,AV.row (H.length+1) 0 16 16),(4,AV.lit (.int .i64 ((i+1:Nat):Int)))]=look [(0,x),(2,AV.ptr H.length 0),(3,AV.row (H.length+1) 0 16 16),(4,I a')]∧H++[⟨[W 0,W 0,W 0,W 0],0,true⟩,⟨L,1,true⟩]=H++[⟨[W 0,W 0,W 0,W 0],0,true⟩,⟨pt16 16 (be l%256^a'),1,true⟩]∧a'≤l.length∧l.length - a'<l.length - i:=fun L hL => ⟨i+1,rfl,by rw [hL],by omega,by omega⟩
  have i15:i / 2≤15:=by omega
  generalize be l / 256^i%256=y at *
  generalize be l%256^i=v at *
  generalize be l%256^(i+1)=v' at *
  refine ⟨by decide,fun he => ⟨by decide,by decide,ib,i15,ik,ib,i15,nx _ ?_⟩,fun he => ⟨by decide,by decide,ib,i15,ik,ib,i15,nx _ ?_⟩⟩
  ·have e:256^i=(65536:Nat)^(i / 2):=by rw [show (65536:Nat)=256^2 by decide,← Nat.pow_mul]; congr 1; omega
   rw [e] at vlt vs
   have z:v / (65536:Nat)^(i / 2)=0:=Nat.div_eq_of_lt vlt
   have:=pt_set (k:=16) (n:=v) (j:=i / 2) (c:=y) h4 (by rw [z]; omega)
   rw [vs,Nat.mul_comm,← this]
   congr 3
   rw [w64 _ (by rw [z]; omega) (by rw [z]; omega),Int.natCast_add]
  ·have e:256^i=256*(65536:Nat)^(i / 2):=by rw [show (65536:Nat)=256^2 by decide,← Nat.pow_mul,← Nat.pow_succ']; congr 1; omega
   rw [e] at vlt vs
   have z:v / (65536:Nat)^(i / 2)<256:=by rw [Nat.div_lt_iff_lt_mul (Nat.pow_pos (by decide))]; exact vlt
   have ps:=pt_set (k:=16) (n:=v) (j:=i / 2) (c:=256*y) h4 (by
    clear vs dg nx pg cy cy2 vlt
    generalize v / (65536:Nat)^(i / 2)=q at *
    omega)
   rw [vs,show 256*(65536:Nat)^(i / 2)*y=256*y*(65536:Nat)^(i / 2) by rw [Nat.mul_right_comm],← ps]
   generalize v / (65536:Nat)^(i / 2)=q at *
   congr 3
   rw [w64 _ (by omega) (by omega),Int.natCast_add]
 ·obtain rfl:i=l.length:=by omega
  have hlt:=be_lt l
  have h32:be l<(18446744073709551616:Nat)^4:=Nat.lt_of_lt_of_le hlt (Nat.le_trans (Nat.pow_le_pow_right (by decide) hl) (by decide +kernel))
  rw [Nat.mod_eq_of_lt hlt]
  have ob:obj (H++[⟨[W 0,W 0,W 0,W 0],0,true⟩,⟨pt16 16 (be l),1,true⟩]) (H.length+1)=⟨pt16 16 (be l),1,true⟩:=by rw [obj_appk]; rfl
  refine callW_some (r_Num (.row (by simp) (by rw [ob,pt_len]) (by decide) (by rw [ob]; exact List.take_of_length_le (by rw [List.drop_zero,pt_len]; decide)) (by rw [ob]; exact .inl rfl)) h32) (fun _ => rfl) ?_
  simp only [go_sem,one_wd,num_ne,num_take,lw,num_spliceW,num_splice]
  exact leave_drop (by simp only [low,lowL_wd])
set_option maxRecDepth 10000
theorem r_N {H:AH}:Called Try.prog F.clapperref05_N [] H (.agg (num (115792089210356248762697446949407573529996955224135760342422259061068512044369:Nat))) H:=by
 refine e_clapperref05_N ?_
 simp only [ic_clapperref05_N,go_sem,fillOk,fillv]
 have e:[AV.lit (.int .u64 17562291160714782033),.lit (.int .u64 13611842547513532036),.lit (.int .u64 18446744073709551615),.lit (.int .u64 18446744069414584320)]=num (115792089210356248762697446949407573529996955224135760342422259061068512044369:Nat):=rfl
 simp only [e,num_splice,num_take,one_wd,wd_length,go_sem]
 exact leave_drop rfl
set_option maxRecDepth 10000
theorem r_may {H:AH} {a:Nat} (ha:a<(18446744073709551616:Nat)^4):Called Try.prog F.clapperref06_May [.agg (num a)] H (Bl (maySc a)) H:=by
 have hN:(115792089210356248762697446949407573529996955224135760342422259061068512044369:Nat)<(18446744073709551616:Nat)^4:=mo_N.lt
 have e0:[Z0,Z0,Z0,Z0]=num 0:=rfl
 refine e_clapperref06_May ?_
 simp only [ic_clapperref06_May,go_sem,one_wd,num_ne,num_take,wd_length,fillOk,fillv,e0,agg_ok,agg_eq ha (show 0<(18446744073709551616:Nat)^4 by decide)]
 refine callG_of (fun _ => r_N) ?_
 simp only [go_sem]
 refine callG_of (fun _ => r_Cmp ha hN) ?_
 simp only [go_sem]
 refine leave_drop ?_
 have e:decide (cmpN a (115792089210356248762697446949407573529996955224135760342422259061068512044369:Nat)<0)=Nat.blt a (115792089210356248762697446949407573529996955224135760342422259061068512044369:Nat):=by
  rw [Bool.eq_iff_iff,decide_eq_true_eq,Nat.blt_eq]
  unfold cmpN; split <;> (try split) <;> omega
 simp only [low,maySc,e]
 rfl
theorem fmul_modN (a b:Nat):fmul (115792089210356248762697446949407573529996955224135760342422259061068512044369:Nat) (a%(115792089210356248762697446949407573529996955224135760342422259061068512044369:Nat)) b=fmul (115792089210356248762697446949407573529996955224135760342422259061068512044369:Nat) a b:=by unfold fmul; rw [Nat.mod_mul_mod]
end Go.Proofs.Ytgfploghjpbcaaa.Eng

