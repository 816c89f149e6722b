/- The document's layer 2: sums, differences, which is less. -/
import Derived.Test.YtcgjlpdkobmpnaaGreatMNum
import Derived.Test.YtcgjlpdkobmpnaaGreatMCa
import Derived.Test.YtcgjlpdkobmpnaaGreatMEc
import Derived.Test.YtcgjlpdkobmpnaaGreatMPt
import Derived.Test.YtcgjlpdkobmpnaaGreatMTk
import Derived.Test.YtcgjlpdkobmpnaaGreatMVf
import Derived.Test.YtcgjlpdkobmpnaaGreatMSh
import Derived.Test.YtcgjlpdkobmpnaaGreatMTl
namespace Go.Proofs.YtcgjlpdkobmpnaaGreat.Eng
open Go Go.Proofs
set_option linter.unusedVariables false
set_option linter.unusedSimpArgs false
set_option maxRecDepth 10000
theorem grow (m a b i:Nat):fadd m (fadd m (fmul m a (b / 2^(i+1))) (fmul m a (b / 2^(i+1)))) (if b / 2^i%2=1 then a else 0)=fmul m a (b / 2^i):=by
 have e:b / 2^i=2*(b / 2^(i+1))+b / 2^i%2:=by rw [Nat.pow_succ,← Nat.div_div_eq_div_mul]; omega
 generalize b / 2^(i+1)=q at *
 generalize b / 2^i=y at *
 rw [e]
 have h2:y%2=0∨y%2=1:=by omega
 unfold fadd fmul
 have e1:(if (2*q+y%2)%2=1 then a else 0)=a*(y%2):=by
  rcases h2 with h | h <;> rw [h]
  ·rw [if_neg (by omega),Nat.mul_zero]
  ·rw [if_pos (by omega),Nat.mul_one]
 rw [e1,← Nat.add_mod,Nat.mod_add_mod,Nat.mul_add,← Nat.two_mul,Nat.mul_left_comm]
abbrev hl (n i:Nat):List AV:=wd i (n / 2)++(wd 4 n).drop i
section
variable {n i:Nat}
end
end Go.Proofs.YtcgjlpdkobmpnaaGreat.Eng
namespace Go.Proofs.YtcgjlpdkobmpnaaGreat.Eng
open Go
set_option linter.unusedVariables false
set_option linter.unusedSimpArgs false
theorem Zau {a b:Nat} (h:a≤b):blen a≤blen b:=by
 unfold blen
 split
 ·omega
 ·rename_i h0
  rw [if_neg (show ¬ b=0 by omega)]
  have h1:b<2^(b.log2+1):=Nat.lt_log2_self
  have:=(Nat.log2_lt h0).2 (Nat.lt_of_le_of_lt h h1)
  omega
def mI (u v:Nat):Nat:=2*(blen u+blen v)+u%2
structure InvI (m a u v x y:Nat):Prop where
 vo:v%2=1
 xl:x<m
 yl:y<m
 cu:Cg m u (x*a)
 cv:Cg m v (y*a)
 g:Nat.gcd u v=Nat.gcd a m
 ub:u≤m
 vb:v≤m
section
variable {m a u v x y:Nat}
theorem InvI.less (h:InvI m a u v x y) (ho:m%2=1) (h1:u%2=1) (hl:u<v):InvI m a (v - u) u (fsub m y x) x∧mI (v - u) u<mI u v:=by
 have hv:=h.vo
 refine ⟨⟨h1,Nat.mod_lt _ (by have:=h.xl; omega),h.xl,Zfm (by omega) h.xl h.cv h.cu,h.cu,?_,by have:=h.vb; omega,h.ub⟩,?_⟩
 ·rw [← h.g,Nat.gcd_comm,Nat.gcd_sub_self_right (m:=u) (n:=v) (by omega)]
 ·have h2:blen (v - u)≤blen v:=Zau (by omega)
  unfold mI
  omega
theorem InvI.more (h:InvI m a u v x y) (ho:m%2=1) (h1:u%2=1) (hl:¬ u<v):InvI m a (u - v) v (fsub m x y) y∧mI (u - v) v<mI u v:=by
 have hv:=h.vo
 refine ⟨⟨hv,Nat.mod_lt _ (by have:=h.xl; omega),h.yl,Zfm (by omega) h.yl h.cu h.cv,h.cv,?_,by have:=h.ub; omega,h.vb⟩,?_⟩
 ·rw [← h.g,Nat.gcd_comm,Nat.gcd_sub_self_right (m:=v) (n:=u) (by omega),Nat.gcd_comm]
 ·have h2:blen (u - v)≤blen u:=Zau (by omega)
  unfold mI
  omega
theorem InvI.done (h:InvI m a 0 v x y) (hm:1<m) (hg:Nat.gcd a m=1):v=1∧y=minv m a:=by
 have hv:v=1:=by have:=h.g; rw [Nat.gcd_zero_left,hg] at this; exact this
 refine ⟨hv,(Zca h.yl ?_).symm⟩
 obtain ⟨c,hc⟩:=h.cv
 rw [hv] at hc
 have:(((a*y:Nat)%m:Nat):Int)=1:=by
  rw [Int.natCast_emod,Nat.mul_comm a y,show ((y*a:Nat):Int)=1+m*(-c) by rw [Int.mul_neg,← hc]; omega,Int.add_mul_emod_self_left]
  exact Int.emod_eq_of_lt (by decide) (by omega)
 omega
end
end Go.Proofs.YtcgjlpdkobmpnaaGreat.Eng
namespace Go.Proofs.YtcgjlpdkobmpnaaGreat.Eng
open Go
set_option linter.unusedVariables false
set_option linter.unusedSimpArgs false
section
variable {p:Nat} [NeZero p]
end
section
variable {Q:Ex→Env→AH→Prop} {B:AH} {b:List UInt8} {T:List UInt8} {x7 x8 x2:AV} {tx:AV} {at_:Nat}
end
section
variable {Q:Ex→Env→AH→Prop} {D:AH} {x2 x3 x7 x9 x10 x17:AV} {K ws s:List Nat}
end
section
variable {Q:Ex→Env→AH→Prop} {H G:AH} {o1 o2:AObj} {x2 x3 x8 x9:AV} {K ws s S:List Nat}
end
section
variable {Q:Ex→Env→AH→Prop} {H G:AH} {o1 o2:AObj} {x2 x3 x9:AV} {b:List UInt8} {s:List Nat}
end
section
variable {Q:Ex→Env→AH→Prop} {H G:AH} {o1:AObj} {x2:AV} {T:List UInt8}
end
section
variable {H G:AH} {o2:AObj} {S:List Nat} {v:AV}
end
end Go.Proofs.YtcgjlpdkobmpnaaGreat.Eng

