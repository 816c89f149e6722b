/- The document's layer 2: sums, differences, which is less. -/
import Derived.Test.YtenfocjhebgoeaaGreatMNum
import Derived.Test.YtenfocjhebgoeaaGreatMCa
import Derived.Test.YtenfocjhebgoeaaGreatMEc
import Derived.Test.YtenfocjhebgoeaaGreatMPt
namespace Go.Proofs.YtenfocjhebgoeaaGreat.Eng
open Go Go.Proofs
set_option linter.unusedVariables false
set_option linter.unusedSimpArgs false
set_option maxRecDepth 10000
theorem grow (m a b i:Nat):fadd m (fadd m (fmul m a (b / 2^(i+1))) (fmul m a (b / 2^(i+1)))) (if b / 2^i%2=1 then a else 0)=fmul m a (b / 2^i):=by
 have e:b / 2^i=2*(b / 2^(i+1))+b / 2^i%2:=by rw [Nat.pow_succ,← Nat.div_div_eq_div_mul]; omega
 generalize b / 2^(i+1)=q at *
 generalize b / 2^i=y at *
 rw [e]
 have h2:y%2=0∨y%2=1:=by omega
 unfold fadd fmul
 have e1:(if (2*q+y%2)%2=1 then a else 0)=a*(y%2):=by
  rcases h2 with h | h <;> rw [h]
  ·rw [if_neg (by omega),Nat.mul_zero]
  ·rw [if_pos (by omega),Nat.mul_one]
 rw [e1,← Nat.add_mod,Nat.mod_add_mod,Nat.mul_add,← Nat.two_mul,Nat.mul_left_comm]
end Go.Proofs.YtenfocjhebgoeaaGreat.Eng

