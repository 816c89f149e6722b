/- Layer 10: what bytes check as with keys: both sides. -/
import Derived.Test.YtgfploghjpbcaaaGreatMTk
import Derived.Test.YtgfploghjpbcaaaGreatMKy
namespace Go.Proofs.YtgfploghjpbcaaaGreat.Eng
open Go Go.Proofs
set_option linter.unusedVariables false
set_option linter.unusedSimpArgs false
set_option maxRecDepth 10000
theorem e5:[AV.lit (Value.int IntKind.i64 0),AV.lit (Value.int IntKind.i64 0),AV.lit (Value.int IntKind.i64 0),AV.lit (Value.int IntKind.i64 0),AV.lit (Value.int IntKind.i64 0)]=noTk.cells:=rfl
theorem un_err (n:Int):(errO n).un=errO n:=by unfold errO; split <;> rfl
theorem may_err (g:Bool) (n:Int):okMay g (errO n)=True:=by unfold errO; split <;> rfl
theorem t_code {H:AH} {n:Int} (h0:0≤n) (h9:n≤9):Called Tryz.prog F.clapperlaw00_Code [errO n] H (I n) H:=by
 refine e_clapperlaw00_Code ?_
 by_cases hz:n=0
 ·subst hz
  simp only [ic_clapperlaw00_Code,errO,go_sem]
  exact leave_same rfl
 ·rw [errO,if_neg hz]
  simp only [ic_clapperlaw00_Code,go_sem]
  refine w_loop _ (fun (i:Nat) => ([(0,.lit (.iface T.api_Code (.int .i64 n))),(3,I ((i:Int)+1))],H)) (fun i => (i:Int)+1≤n) (fun i => 10 - i) 0 (by omega) rfl ?_
  intro i hi
  simp only [go_sem]
  have tt:(T.api_Code == T.api_Code)=true:=by simp
  have pt:∀ a b,(pfx a).c b=(pfx a).c b:=fun _ _ => rfl
  refine ⟨fun hh => ?_,fun hh => ?_⟩
  ·refine ⟨by rfl,fun h => leave_same ?_,fun h => ⟨i+1,?_,?_,by omega⟩⟩
   ·rw [tt,Bool.true_and,beq_iff_eq] at h
    rw [h]
   ·rw [w64 _ (by omega) (by omega)]; rfl
   ·rw [tt,Bool.true_and,beq_eq_false_iff_ne] at h
    omega
  ·omega
set_option maxRecDepth 10000
theorem checkN_err (b:List UInt8) (X Y:Nat) (f:Bool):(checkN b X Y f).2=0∨(checkN b X Y f).2=2∨(checkN b X Y f).2=8:=by
 unfold checkN
 split
 ·exact .inr (.inl rfl)
 ·rename_i t r s h
  generalize verB X Y f (sha ((partsO b).getD ([],0,0)).1) r s=v
  cases v
  ·exact .inr (.inr rfl)
  ·exact .inl rfl
theorem tk_eq (t:Tkt):aggEq (.agg t.cells) (.agg t.cells)=true:=by simp [aggEq,Tkt.cells,cellsEq,cellEq]
theorem tk_ok (t u:Tkt):aggEqOk [some .i64,some .i64,some .i64,some .i64,some .i64] (.agg t.cells) (.agg u.cells)=True:=by simp [aggEqOk,Tkt.cells,kindOf]
theorem tk_one (t:Tkt):t.cells.all AV.one=true:=rfl
theorem tk_len (t:Tkt):t.cells.length=5:=rfl
theorem tk_take (t:Tkt):t.cells.take 5=t.cells:=rfl
theorem tk_spl (t u:Tkt):splice t.cells 0 u.cells=u.cells:=splice_all rfl
end Go.Proofs.YtgfploghjpbcaaaGreat.Eng

