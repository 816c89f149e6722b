/- Layer 8: the number of bytes: the program's, the document's. -/
import Derived.Test.YtgfploghjpbcaaaMNum
import Derived.Test.YtgfploghjpbcaaaMCb
import Derived.Test.YtgfploghjpbcaaaME6
namespace Go.Proofs.Ytgfploghjpbcaaa.Eng
open Go Go.Proofs
set_option linter.unusedVariables false
set_option linter.unusedSimpArgs false
set_option maxRecDepth 10000
end Go.Proofs.Ytgfploghjpbcaaa.Eng
namespace Go.Proofs.Ytgfploghjpbcaaa.Eng
open Go
set_option linter.unusedVariables false
set_option linter.unusedSimpArgs false
theorem elt_flat {α:Type} (f:α→List AV) (k:Nat) (hk:∀ a,(f a).length=k):∀ (l:List α) (i:Nat) (d:α),i<l.length→elt (l.flatMap f) k i=f (l.getD i d)
 | [],i,d,h => absurd h (Nat.not_lt_zero _)
 | a::l,0,d,h => by
  show ((f a++l.flatMap f).drop (0*k)).take k=f a
  rw [Nat.zero_mul,List.drop_zero,List.take_left' (hk a)]
 | a::l,i+1,d,h => by
  have:=elt_flat f k hk l i d (Nat.lt_of_succ_lt_succ h)
  show ((f a++l.flatMap f).drop ((i+1)*k)).take k=f (l.getD i d)
  rw [← this,elt,Nat.succ_mul,Nat.add_comm,← List.drop_drop,List.drop_left' (hk a)]
theorem getD_memP {α:Type} {l:List α} {i:Nat} (d:α) (h:i<l.length):l.getD i d ∈ l:=by
 rw [List.getD_eq_getElem?_getD,List.getElem?_eq_getElem h]; exact List.getElem_mem h
structure Fld where
 tag:Int
 b:List UInt8
 e:AV
def Fld.cells (f:Fld):List AV:=[I f.tag,f.e]
theorem Fld.len (f:Fld):f.cells.length=2:=rfl
section
variable {H:AH} {x:AV} {l:List Fld}
end
set_option maxRecDepth 10000
theorem le_tups {a b:List AV} (h:LeL a b):Le (.tup a) (.tup b):=fun S y ⟨vs,h1,h2⟩ => ⟨vs,h1,h.rl h2⟩
abbrev errF:AV:=.lit (.iface T.api_Code (.int .i64 2))
section
variable {H K:AH} {x s v:AV} {vs:List AV} {b:Nat}
theorem GR.step (h:GR (H++K) x vs) (hq:∀ q,rid x=some q→H.length≤q) (h1:srcOk 1 (H++K) s) (h2:srcC 1 (H++K) s=[v]) (h3:srcN s=1) (hv:v.one=true) (hb:(vs.length+1)*b≤140737488355328) :
  appOk 1 b (H++K) x s∧∃ K',appH 1 (H++K) s x=H++K'∧GR (H++K') (appV 1 (H++K) s x) (vs++[v])∧∀ q,rid (appV 1 (H++K) s x)=some q→H.length≤q:=by
 obtain ⟨a1,a2,a3,a4⟩:=h.app (b:=b) h1 h2 h3 hv hb
 have f1:Fr H (H++K) (fun i => rid x=some i):=Fr.app _ _ _
 have f2:Fr H (appH 1 (H++K) s x) (fun _ => False):=(f1.trans a4).mono fun i hi h => by have:=hq i h; omega
 obtain ⟨K',e⟩:=f2.split fun _ h => h
 refine ⟨a1,K',e,e ▸ a2,fun q h => ?_⟩
 rcases a3 q h with h | h
 ·exact hq q h
 ·rw [List.length_append] at h; omega
theorem GR.view (h:GR (H++K) x vs) (hq:∀ q,rid x=some q→H.length≤q) (hp:pureL vs=true):Le (low (renk H.length []) (H++K) x) (.view vs vs.length false):=by
 rcases h with ⟨rfl,rfl⟩ | ⟨q,L,cs,rfl,h1,h2,h3,h4,h5⟩
 ·exact le_nil false
 ·have h6:=hq q rfl
  have e:renk H.length [] q=none:=by
   rw [renk,if_neg (by omega)]; rfl
  have e2:low (renk H.length []) (H++K) (.row q 0 vs.length L)=.view vs vs.length false:=by
   simp only [low,e,rowView,h2,if_neg (show ¬ 1=0 by decide),List.drop_zero,Nat.mul_one,h5]
   rw [if_pos ⟨h3,by omega,hp⟩]
  rw [e2]; exact Le.refl _
theorem GR.more (h:GR (H++K) x vs) (hq:∀ q,rid x=some q→H.length≤q) (o:AObj):GR (H++(K++[o])) x vs:=by
 rw [← List.append_assoc]
 exact h.frame (Fr.app _ _ (fun _ => False)) fun _ _ h => h
end
end Go.Proofs.Ytgfploghjpbcaaa.Eng

