/- The document's layer 2: sums, differences, which is less. -/
import Derived.Test.YtcgjlpdkobmpnaaGreatMEc
import Derived.Test.YtcgjlpdkobmpnaaGreatMCa
import Derived.Test.YtcgjlpdkobmpnaaGreatMNum
import Derived.Test.YtcgjlpdkobmpnaaGreatMPt
import Derived.Test.YtcgjlpdkobmpnaaGreatMPu
namespace Go.Proofs.YtcgjlpdkobmpnaaGreat.Eng
open Go Go.Proofs
set_option linter.unusedVariables false
set_option linter.unusedSimpArgs false
set_option maxRecDepth 10000
theorem grow (m a b i:Nat):fadd m (fadd m (fmul m a (b / 2^(i+1))) (fmul m a (b / 2^(i+1)))) (if b / 2^i%2=1 then a else 0)=fmul m a (b / 2^i):=by
 have e:b / 2^i=2*(b / 2^(i+1))+b / 2^i%2:=by rw [Nat.pow_succ,← Nat.div_div_eq_div_mul]; omega
 generalize b / 2^(i+1)=q at *
 generalize b / 2^i=y at *
 rw [e]
 have h2:y%2=0∨y%2=1:=by omega
 unfold fadd fmul
 have e1:(if (2*q+y%2)%2=1 then a else 0)=a*(y%2):=by
  rcases h2 with h | h <;> rw [h]
  ·rw [if_neg (by omega),Nat.mul_zero]
  ·rw [if_pos (by omega),Nat.mul_one]
 rw [e1,← Nat.add_mod,Nat.mod_add_mod,Nat.mul_add,← Nat.two_mul,Nat.mul_left_comm]
abbrev hl (n i:Nat):List AV:=wd i (n / 2)++(wd 4 n).drop i
section
variable {n i:Nat}
end
end Go.Proofs.YtcgjlpdkobmpnaaGreat.Eng
namespace Go.Proofs.YtcgjlpdkobmpnaaGreat.Eng
open Go
set_option linter.unusedVariables false
set_option linter.unusedSimpArgs false
theorem Zau {a b:Nat} (h:a≤b):blen a≤blen b:=by
 unfold blen
 split
 ·omega
 ·rename_i h0
  rw [if_neg (show ¬ b=0 by omega)]
  have h1:b<2^(b.log2+1):=Nat.lt_log2_self
  have:=(Nat.log2_lt h0).2 (Nat.lt_of_le_of_lt h h1)
  omega
def mI (u v:Nat):Nat:=2*(blen u+blen v)+u%2
structure InvI (m a u v x y:Nat):Prop where
 vo:v%2=1
 xl:x<m
 yl:y<m
 cu:Cg m u (x*a)
 cv:Cg m v (y*a)
 g:Nat.gcd u v=Nat.gcd a m
 ub:u≤m
 vb:v≤m
section
variable {m a u v x y:Nat}
theorem InvI.less (h:InvI m a u v x y) (ho:m%2=1) (h1:u%2=1) (hl:u<v):InvI m a (v - u) u (fsub m y x) x∧mI (v - u) u<mI u v:=by
 have hv:=h.vo
 refine ⟨⟨h1,Nat.mod_lt _ (by have:=h.xl; omega),h.xl,Zfu (by omega) h.xl h.cv h.cu,h.cu,?_,by have:=h.vb; omega,h.ub⟩,?_⟩
 ·rw [← h.g,Nat.gcd_comm,Nat.gcd_sub_self_right (m:=u) (n:=v) (by omega)]
 ·have h2:blen (v - u)≤blen v:=Zau (by omega)
  unfold mI
  omega
theorem InvI.more (h:InvI m a u v x y) (ho:m%2=1) (h1:u%2=1) (hl:¬ u<v):InvI m a (u - v) v (fsub m x y) y∧mI (u - v) v<mI u v:=by
 have hv:=h.vo
 refine ⟨⟨hv,Nat.mod_lt _ (by have:=h.xl; omega),h.yl,Zfu (by omega) h.yl h.cu h.cv,h.cv,?_,by have:=h.ub; omega,h.vb⟩,?_⟩
 ·rw [← h.g,Nat.gcd_comm,Nat.gcd_sub_self_right (m:=v) (n:=u) (by omega),Nat.gcd_comm]
 ·have h2:blen (u - v)≤blen u:=Zau (by omega)
  unfold mI
  omega
theorem InvI.done (h:InvI m a 0 v x y) (hm:1<m) (hg:Nat.gcd a m=1):v=1∧y=minv m a:=by
 have hv:v=1:=by have:=h.g; rw [Nat.gcd_zero_left,hg] at this; exact this
 refine ⟨hv,(Kr h.yl ?_).symm⟩
 obtain ⟨c,hc⟩:=h.cv
 rw [hv] at hc
 have:(((a*y:Nat)%m:Nat):Int)=1:=by
  rw [Int.natCast_emod,Nat.mul_comm a y,show ((y*a:Nat):Int)=1+m*(-c) by rw [Int.mul_neg,← hc]; omega,Int.add_mul_emod_self_left]
  exact Int.emod_eq_of_lt (by decide) (by omega)
 omega
end
end Go.Proofs.YtcgjlpdkobmpnaaGreat.Eng
namespace Go.Proofs.YtcgjlpdkobmpnaaGreat.Eng
open Go
set_option linter.unusedVariables false
set_option linter.unusedSimpArgs false
section
variable {p:Nat} [NeZero p]
theorem Zwf (hp:Prm p) {b x y y':Nat} (hx:x<p) (hy:y<p) (hy':y'<p) (hb:b<p) (h1:onB p b x y=true) (h2:onB p b x y'=true):y=y'∨y=fsub p 0 y':=by
 have h0:0<p:=Nat.pos_of_neZero p
 have a1:=(Su (p:=p) hx hy hb).1 h1
 have a2:=(Su (p:=p) hx hy' hb).1 h2
 rcases W6 (p:=p) hp (Zkc a1 a2) with h | h
 ·exact .inl (U0 (p:=p) hy hy' (Zj1 h))
 ·refine .inr (U0 (p:=p) hy (Zh h0 _ _) ?_)
  rw [Yw (p:=p) hy',fi_zero]
  exact Z3x h
end
set_option maxRecDepth 10000
theorem Zwo (a:Aff):(ptc a).length=9:=Z5 _ _ _
theorem Zwn (a:Aff):(ptc a).all AV.one=true:=Xh _ _ _
section
variable {sz n m b:Nat} {H:AH} {vs cs:List AV} {s:AV}
end
set_option maxRecDepth 10000
theorem Zbs {d:Nat} {h:List UInt8} {r s:Nat} (e:Kc d h=some (r,s)):Xa r=true∧Xa s=true:=by
 rw [Kc] at e
 split at e
 ·cases e
 ·rw [Option.map_eq_some_iff] at e
  obtain ⟨k,h1,h2⟩:=e
  have:=List.find?_some h1
  rw [Oo,Bool.and_eq_true] at this
  cases h2
  exact this
def sgB (r s:Nat):List UInt8:=beN 32 r++beN 32 s
theorem Ke (r s:Nat):(sgB r s).length=64:=by rw [sgB,List.length_append,Zm,Zm]
theorem Zkj {H:AH} (r s:Nat):Leave H (.row (H.length+1) 0 64 (appL 1 0 32 32 32 32)) (H++[⟨sgc r s,0,true⟩,⟨appC 1 (bs (beN 32 r)) (bs (beN 32 s)) 0 32 32 32,1,true⟩,⟨bs (beN 32 s),1,true⟩]) (vB (sgB r s) false) H:=by
 have b1:(bs (beN 32 r)).length=32:=by rw [Zt,Zm]
 have b2:(bs (beN 32 s)).length=32:=by rw [Zt,Zm]
 have eb:bs (beN 32 r)++bs (beN 32 s)=bs (sgB r s):=by rw [sgB,bs,bs,bs,List.map_append]
 rw [Ol (by decide),Lx (by decide),eb]
 refine Zc ?_
 have b3:(bs (sgB r s)).length=64:=by rw [Zt,Ke]
 have ev:vB (sgB r s) false=.view (bs (sgB r s)) 64 false:=by rw [vB,Ke]
 have eo:obj (H++[⟨sgc r s,0,true⟩,⟨bs (sgB r s),1,true⟩,⟨bs (beN 32 s),1,true⟩]) (H.length+1)=⟨bs (sgB r s),1,true⟩:=by rw [Y2]; rfl
 have et:(bs (sgB r s)).take 64=bs (sgB r s):=List.take_of_length_le (by rw [b3]; exact Nat.le_refl _)
 have en:renk H.length [] (H.length+1)=none:=Dx _ _
 have h2:Vk (H++[⟨sgc r s,0,true⟩,⟨bs (sgB r s),1,true⟩,⟨bs (beN 32 s),1,true⟩]) (H.length+1) 0 64 (32+32)=.view (bs (sgB r s)) 64 false:=by
  simp only [Vk,eo,if_neg (show ¬ (1:Nat)=0 by decide),List.drop_zero,Nat.mul_one,Nat.zero_add,et]
  rw [if_pos ⟨b3.symm,by decide,Y1 _⟩]
 simp only [low,en,h2,ev]
theorem Zpo {H:AH} {r s:Nat} (hr:r<(18446744073709551616:Nat)^4) (hs:s<(18446744073709551616:Nat)^4):Called Tryz.prog F.sign_Bytes [.agg (sgc r s)] H (vB (sgB r s) false) H:=by
 have s1:(sgc r s).take 4=num r:=List.take_left' (Zb _ _)
 have s2:((sgc r s).drop 4).take 4=num s:=by rw [List.drop_left' (Zb _ _),Zd]
 refine A2 ?_
 simp only [M3,go_sem,Yu,Z1d,Yo,s1,s2]
 refine Za (Dh hr) (fun h => by cases h) ?_
 simp only [go_sem,Yu,Z1d,Yo,s1,s2]
 refine Za (Dh hs) (fun h => by cases h) ?_
 have b1:(bs (beN 32 r)).length=32:=by rw [Zt,Zm]
 have b2:(bs (beN 32 s)).length=32:=by rw [Zt,Zm]
 have bt:(bs (beN 32 s)).take 32=bs (beN 32 s):=List.take_of_length_le (by rw [b2]; exact Nat.le_refl _)
 simp only [go_sem,b1,b2,bt,Yz]
 exact Zkj r s
/-! ### The document's layer 4 -/
set_option maxRecDepth 10000
theorem Zet:∀ (l:List Fld) (n:Nat),(∀ f ∈ l,f.b.length≤n)→(putB l).length≤l.length*(n+3)
 | [],n,_ => Nat.zero_le _
 | f::l,n,h => by
  have h1:=Zet l n fun g hg => h g (List.mem_cons_of_mem _ hg)
  have h2:=h f (List.mem_cons_self ..)
  show (fldB f++putB l).length≤(l.length+1)*(n+3)
  rw [List.length_append,Nat.add_mul]
  show f.b.length+1+1+1+_≤_
  omega
def sgF (B:List UInt8) (r s:Nat):List Fld:=[⟨1,B,vB B false⟩,⟨2,sgB r s,vB (sgB r s) false⟩]
def sgnd (B:List UInt8) (r s:Nat):List UInt8:=putB (sgF B r s)
theorem Z1e (B:List UInt8) (r s:Nat):∀ f ∈ sgF B r s,∀ G,Sl 1 G f.e (bs f.b) f.b.length:=fun f hf G => by
 simp only [sgF,List.mem_cons,List.not_mem_nil,or_false] at hf
 rcases hf with rfl | rfl <;> exact Sl.vB _ _
theorem Zt1 {B:List UInt8} {r s:Nat} (h:B.length≤65535):V4 (sgF B r s)=true:=by
 have e0:(sgF B r s).getD 0 noF=⟨1,B,vB B false⟩:=rfl
 have e1:(sgF B r s).getD 1 noF=⟨2,sgB r s,vB (sgB r s) false⟩:=rfl
 have l2:(sgF B r s).length=2:=rfl
 have sl:=Ke r s
 simp only [V4,Bool.and_eq_true,decide_eq_true_eq]
 refine ⟨by rw [l2]; decide,fun i hi => ?_⟩
 rw [l2] at hi
 match i,hi with
 | 0,_ =>
  simp only [Tu,e0,Bool.or_eq_false_iff,Bool.and_eq_false_iff,decide_eq_false_iff_not]
  exact ⟨⟨⟨by decide,by decide⟩,by omega⟩,.inl (by decide)⟩
 | 1,_ =>
  simp only [Tu,e1,e0,Nat.sub_self,Bool.or_eq_false_iff,Bool.and_eq_false_iff,decide_eq_false_iff_not]
  exact ⟨⟨⟨by decide,by decide⟩,by omega⟩,.inr (by decide)⟩
theorem Zql {B:List UInt8} {r s:Nat} (h:B.length≤65535):putV (sgF B r s)=.tup [vB (sgnd B r s) false,nilE]:=by
 rw [putV,if_pos (Zt1 h)]; rfl
theorem Dn {B:List UInt8} {r s:Nat}:(sgnd B r s).length=B.length+70:=by
 rw [sgnd,sgF,putB]
 simp [fldB,Ke]
noncomputable def issV (B:List UInt8) (d:Nat):AV :=
 if Xa d=true then (match Kc d (sha B) with
  | some (r,s) => .tup [vB (sgnd B r s) false,nilE]
  | none => .tup [nilS,errA 4]) else .tup [nilS,errA 1]
end Go.Proofs.YtcgjlpdkobmpnaaGreat.Eng

