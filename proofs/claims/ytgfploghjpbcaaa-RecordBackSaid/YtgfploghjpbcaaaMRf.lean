/- The document's layer 2: sums, differences, which is less. -/
import Derived.Test.YtgfploghjpbcaaaMNum
import Derived.Test.YtgfploghjpbcaaaMCa
import Derived.Test.YtgfploghjpbcaaaMEc
import Derived.Test.YtgfploghjpbcaaaMPt
import Derived.Test.YtgfploghjpbcaaaMVf
namespace Go.Proofs.Ytgfploghjpbcaaa.Eng
open Go Go.Proofs
set_option linter.unusedVariables false
set_option linter.unusedSimpArgs false
set_option maxRecDepth 10000
theorem grow (m a b i:Nat):fadd m (fadd m (fmul m a (b / 2^(i+1))) (fmul m a (b / 2^(i+1)))) (if b / 2^i%2=1 then a else 0)=fmul m a (b / 2^i):=by
 have e:b / 2^i=2*(b / 2^(i+1))+b / 2^i%2:=by rw [Nat.pow_succ,← Nat.div_div_eq_div_mul]; omega
 generalize b / 2^(i+1)=q at *
 generalize b / 2^i=y at *
 rw [e]
 have h2:y%2=0∨y%2=1:=by omega
 unfold fadd fmul
 have e1:(if (2*q+y%2)%2=1 then a else 0)=a*(y%2):=by
  rcases h2 with h | h <;> rw [h]
  ·rw [if_neg (by omega),Nat.mul_zero]
  ·rw [if_pos (by omega),Nat.mul_one]
 rw [e1,← Nat.add_mod,Nat.mod_add_mod,Nat.mul_add,← Nat.two_mul,Nat.mul_left_comm]
set_option maxRecDepth 10000
abbrev pt16 (k n:Nat):List AV:=(dig (65536:Nat) k n).map fun d => I ((d:Nat):Int)
theorem pt_len (k n:Nat):(pt16 k n).length=k:=by simp [pt16,dig_length]
theorem pt_succ (k n:Nat):pt16 (k+1) n=pt16 k n++[I ((n / (65536:Nat)^k%(65536:Nat):Nat):Int)]:=by
 rw [pt16,dig_succ,List.map_append]; rfl
theorem pt_get {k n i:Nat} (h:i<k):(pt16 k n).getD i .junk=I ((n / (65536:Nat)^i%(65536:Nat):Nat):Int):=by
 have:=dig_get (B:=(65536:Nat)) k n i h
 rw [List.getD_eq_getElem?_getD] at this ⊢
 have hl:i<(dig (65536:Nat) k n).length:=by rw [dig_length]; exact h
 rw [List.getElem?_eq_getElem hl,Option.getD_some] at this
 rw [pt16,List.getElem?_map,List.getElem?_eq_getElem hl,Option.map_some,Option.getD_some,this]
theorem part_digit (a i k:Nat) (hk:k<4):a / (18446744073709551616:Nat)^i%(18446744073709551616:Nat) / (65536:Nat)^k%(65536:Nat)=a / (65536:Nat)^(4*i+k)%(65536:Nat):=by
 have e1:(18446744073709551616:Nat)^i=(65536:Nat)^(4*i):=by rw [Nat.pow_mul]
 have e2:(18446744073709551616:Nat)=(65536:Nat)^k*(65536:Nat)^(4 - k):=by rw [← Nat.pow_add,show k+(4 - k)=4 by omega]
 have e3:(65536:Nat)^(4 - k)=(65536:Nat)*(65536:Nat)^(3 - k):=by rw [← Nat.pow_succ']; congr 1; omega
 rw [e1,Nat.pow_add,← Nat.div_div_eq_div_mul]
 generalize a / (65536:Nat)^(4*i)=x
 conv => lhs; rw [e2]
 rw [Nat.mod_mul_right_div_self,e3,Nat.mod_mul_right_mod]
theorem r_partsL {H:AH} (a:Nat) {v:AV} {H':AH} (hl:Leave H (.row (H.length+1) 0 16 16) (H++[⟨num a,0,true⟩,⟨pt16 16 a,1,true⟩]) v H'):Called Try.prog F.clapperref01_Parts [.agg (num a)] H v H':=by
 refine e_clapperref01_Parts ?_
 have lw:=wd_length 4 a
 simp only [ic_clapperref01_Parts,go_sem,one_wd,num_ne]
 refine w_loop _ (fun (i:Nat) => ([(1,.ptr H.length 0),(3,rA (H++[⟨num a,0,true⟩]) (pt16 (4*i) a) (4*i)),(4,I i)],hA 1 (H++[⟨num a,0,true⟩]) (pt16 (4*i) a) (4*i))) (fun i => i≤4) (fun i => 4 - i) 0 (Nat.zero_le _) rfl ?_
 intro i hi
 have hH:H.length<(H++[(⟨num a,0,true⟩:AObj)]).length:=by simp
 have oH:∀ vs n,obj (hA 1 (H++[⟨num a,0,true⟩]) vs n) H.length=⟨num a,0,true⟩:=fun vs n => by rw [hA_old hH,obj_app0]; rfl
 have lH:∀ vs n,H.length<(hA 1 (H++[⟨num a,0,true⟩]) vs n).length:=fun vs n => Nat.lt_of_lt_of_le hH hA_len
 simp only [go_sem]
 refine ⟨fun hh => ?_,fun hh => ?_⟩
 ·have hi:i<4:=by omega
  simp only [go_sem,oH,lH,lw,wd_get hi]
  refine ⟨⟨by omega,by omega⟩,by omega,?_⟩
  refine w_loop _ (fun (k:Nat) => ([(1,.ptr H.length 0),(3,rA (H++[⟨num a,0,true⟩]) (pt16 (4*i+k) a) (4*i+k)),(4,I i),(5,W (a / (18446744073709551616:Nat)^i%(18446744073709551616:Nat) / (65536:Nat)^k)),(6,I k)],hA 1 (H++[⟨num a,0,true⟩]) (pt16 (4*i+k) a) (4*i+k))) (fun k => k≤4) (fun k => 4 - k) 0 (Nat.zero_le _) (by rw [Nat.pow_zero,Nat.div_one]; rfl) ?_
  intro k hk
  simp only [go_sem]
  refine ⟨fun hh => ?_,fun hh => ?_⟩
  ·have hk:k<4:=by omega
   have dg:=part_digit a i k hk
   have w1:IntKind.i64.wrap (((a / (18446744073709551616:Nat)^i%(18446744073709551616:Nat) / (65536:Nat)^k:Nat):Int).tmod 65536)=((a / (65536:Nat)^(4*i+k)%(65536:Nat):Nat):Int):=by
    rw [Int.tmod_eq_emod_of_nonneg (Int.natCast_nonneg _),← dg,w64 _ (by omega) (by omega)]; omega
   have w3:IntKind.u64.wrap (((a / (18446744073709551616:Nat)^i%(18446744073709551616:Nat) / (65536:Nat)^k:Nat):Int).tdiv 65536)=((a / (18446744073709551616:Nat)^i%(18446744073709551616:Nat) / (65536:Nat)^(k+1):Nat):Int):=by
    have hlt:a / (18446744073709551616:Nat)^i%(18446744073709551616:Nat) / (65536:Nat)^k<(18446744073709551616:Nat):=Nat.lt_of_le_of_lt (Nat.div_le_self _ _) (Nat.mod_lt _ (by decide))
    rw [Int.tdiv_eq_ediv_of_nonneg (Int.natCast_nonneg _),Nat.pow_succ,← Nat.div_div_eq_div_mul]
    generalize a / (18446744073709551616:Nat)^i%(18446744073709551616:Nat) / (65536:Nat)^k=x at *
    rw [wu64 _ (by omega) (by omega)]; omega
   have w4:IntKind.i64.wrap ((k:Int)+1)=((k+1:Nat):Int):=by rw [w64 _ (by omega) (by omega)]; omega
   rw [w1]
   obtain ⟨⟨_,_,b3,b4⟩,q2,q3⟩:=build_app (sz:=1) (H:=H++[⟨num a,0,true⟩]) (vs:=pt16 (4*i+k) a) (n:=4*i+k) (b:=8) (s:=.view [I ((a / (65536:Nat)^(4*i+k)%(65536:Nat):Nat):Int)] 1 true) (cs:=[I ((a / (65536:Nat)^(4*i+k)%(65536:Nat):Nat):Int)]) (by rw [pt_len]; omega) rfl rfl rfl rfl (by omega)
   refine ⟨by decide,⟨b3,b4⟩,by decide,k+1,?_,?_,hk,by omega⟩
   ·rw [w3,w4,q2,← pt_succ]; rfl
   ·rw [q3,← pt_succ]; rfl
  ·obtain rfl:k=4:=by omega
   have w4:IntKind.i64.wrap ((i:Int)+1)=((i+1:Nat):Int):=by rw [w64 _ (by omega) (by omega)]; omega
   exact ⟨i+1,by rw [w4]; rfl,rfl,hi,by omega⟩
 ·obtain rfl:i=4:=by omega
  have e:hA 1 (H++[⟨num a,0,true⟩]) (pt16 (4*4) a) (4*4)=H++[⟨num a,0,true⟩,⟨pt16 16 a,1,true⟩]:=by
   simp only [hA,List.append_assoc]; rfl
  have e2:rA (H++[(⟨num a,0,true⟩:AObj)]) (pt16 (4*4) a) (4*4)=.row (H.length+1) 0 16 16:=by
   rw [rA,if_neg (by decide),pt_len,List.length_append]; rfl
  rw [e2,e]
  exact hl
theorem pure_pt (k n:Nat):pureL (pt16 k n)=true:=pure_map (fun d:Nat => I ((d:Nat):Int)) (fun _ => rfl) _
theorem r_parts {H:AH} (a:Nat):Called Try.prog F.clapperref01_Parts [.agg (num a)] H (.view (pt16 16 a) 16 false) H:=by
 refine r_partsL a (leave_drop (G:=[⟨num a,0,true⟩,⟨pt16 16 a,1,true⟩]) ?_)
 have e:H++[⟨num a,0,true⟩,⟨pt16 16 a,1,true⟩]=(H++[⟨num a,0,true⟩])++[⟨pt16 16 a,1,true⟩]:=by rw [List.append_assoc]; rfl
 have e2:AV.row (H.length+1) 0 16 16=.row (H++[(⟨num a,0,true⟩:AObj)]).length 0 16 16:=by rw [List.length_append]; rfl
 rw [e2,e]
 refine low_newrow (sz:=1) (n:=16) ?_ (by decide) (by rw [pt_len]) (pure_pt _ _) true 16 (by rw [pt_len])
 rw [List.length_append]; exact renk_none_add _ _
end Go.Proofs.Ytgfploghjpbcaaa.Eng
namespace Go.Proofs.Ytgfploghjpbcaaa.Eng
open Go
set_option linter.unusedVariables false
set_option linter.unusedSimpArgs false
theorem blen_mono {a b:Nat} (h:a≤b):blen a≤blen b:=by
 unfold blen
 split
 ·omega
 ·rename_i h0
  rw [if_neg (show ¬ b=0 by omega)]
  have h1:b<2^(b.log2+1):=Nat.lt_log2_self
  have:=(Nat.log2_lt h0).2 (Nat.lt_of_le_of_lt h h1)
  omega
def mI (u v:Nat):Nat:=2*(blen u+blen v)+u%2
structure InvI (m a u v x y:Nat):Prop where
 vo:v%2=1
 xl:x<m
 yl:y<m
 cu:Cg m u (x*a)
 cv:Cg m v (y*a)
 g:Nat.gcd u v=Nat.gcd a m
 ub:u≤m
 vb:v≤m
section
variable {m a u v x y:Nat}
theorem InvI.less (h:InvI m a u v x y) (ho:m%2=1) (h1:u%2=1) (hl:u<v):InvI m a (v - u) u (fsub m y x) x∧mI (v - u) u<mI u v:=by
 have hv:=h.vo
 refine ⟨⟨h1,Nat.mod_lt _ (by have:=h.xl; omega),h.xl,cg_sub (by omega) h.xl h.cv h.cu,h.cu,?_,by have:=h.vb; omega,h.ub⟩,?_⟩
 ·rw [← h.g,Nat.gcd_comm,Nat.gcd_sub_self_right (m:=u) (n:=v) (by omega)]
 ·have h2:blen (v - u)≤blen v:=blen_mono (by omega)
  unfold mI
  omega
theorem InvI.more (h:InvI m a u v x y) (ho:m%2=1) (h1:u%2=1) (hl:¬ u<v):InvI m a (u - v) v (fsub m x y) y∧mI (u - v) v<mI u v:=by
 have hv:=h.vo
 refine ⟨⟨hv,Nat.mod_lt _ (by have:=h.xl; omega),h.yl,cg_sub (by omega) h.yl h.cu h.cv,h.cv,?_,by have:=h.ub; omega,h.vb⟩,?_⟩
 ·rw [← h.g,Nat.gcd_comm,Nat.gcd_sub_self_right (m:=v) (n:=u) (by omega),Nat.gcd_comm]
 ·have h2:blen (u - v)≤blen u:=blen_mono (by omega)
  unfold mI
  omega
theorem InvI.done (h:InvI m a 0 v x y) (hm:1<m) (hg:Nat.gcd a m=1):v=1∧y=minv m a:=by
 have hv:v=1:=by have:=h.g; rw [Nat.gcd_zero_left,hg] at this; exact this
 refine ⟨hv,(minv_eq h.yl ?_).symm⟩
 obtain ⟨c,hc⟩:=h.cv
 rw [hv] at hc
 have:(((a*y:Nat)%m:Nat):Int)=1:=by
  rw [Int.natCast_emod,Nat.mul_comm a y,show ((y*a:Nat):Int)=1+m*(-c) by rw [Int.mul_neg,← hc]; omega,Int.add_mul_emod_self_left]
  exact Int.emod_eq_of_lt (by decide) (by omega)
 omega
end
abbrev hl (n i:Nat):List AV:=wd i (n / 2)++(wd 4 n).drop i
section
variable {n i:Nat}
end
set_option maxRecDepth 10000
theorem fmul_modN (a b:Nat):fmul (115792089210356248762697446949407573529996955224135760342422259061068512044369:Nat) (a%(115792089210356248762697446949407573529996955224135760342422259061068512044369:Nat)) b=fmul (115792089210356248762697446949407573529996955224135760342422259061068512044369:Nat) a b:=by unfold fmul; rw [Nat.mod_mul_mod]
end Go.Proofs.Ytgfploghjpbcaaa.Eng

