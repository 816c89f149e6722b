/- Layer 9: which tickets may be. -/
import Derived.Test.YtenfocjhebgoeaaGreatMCc
import Derived.Test.YtenfocjhebgoeaaGreatME6
import Derived.Test.YtenfocjhebgoeaaGreatMCb
import Derived.Test.YtenfocjhebgoeaaGreatMTl
import Derived.Test.YtenfocjhebgoeaaGreatMVf
import Derived.Test.YtenfocjhebgoeaaGreatMSh
namespace Go.Proofs.YtenfocjhebgoeaaGreat.Eng
open Go Go.Proofs
set_option linter.unusedVariables false
set_option linter.unusedSimpArgs false
set_option maxRecDepth 10000
structure Tkt where
 serial:Int
 product:Int
 zones:Int
 from_:Int
 key:Int
def Tkt.ok (t:Tkt):Prop:=ok64 t.serial∧ok64 t.product∧ok64 t.zones∧ok64 t.from_∧ok64 t.key
abbrev Tkt.cells (t:Tkt):List AV:=[I t.serial,I t.product,I t.zones,I t.from_,I t.key]
def inB (a b n:Int):Bool:=decide (a≤n)&&decide (n≤b)
set_option maxRecDepth 10000
theorem getF_mem:∀ (k:Nat) (b:List UInt8) {l:List Fld},getF k b=some l→∀ f ∈ l,f.e=vB f.b false∧f.b.length≤b.length
 | 0,b,l,h,f,hf => by
  rw [getF] at h
  split at h
  ·cases h; cases hf
  ·cases h
 | k+1,b,l,h,f,hf => by
  rw [getF] at h
  split at h
  ·cases h; cases hf
  ·split at h
   ·cases h
   ·cases hg:getF k (b.drop (3+flen b)) with
    | none => rw [hg] at h; cases h
    | some m =>
     rw [hg] at h; cases h
     rcases List.mem_cons.1 hf with rfl | hf
     ·exact ⟨rfl,by show ((b.drop 3).take _).length≤_; rw [List.length_take,List.length_drop]; omega⟩
     ·obtain ⟨h1,h2⟩:=getF_mem k _ hg f hf
      exact ⟨h1,by rw [List.length_drop] at h2; omega⟩
theorem getS_mem {b:List UInt8} {l:List Fld} (h:getS b=some l):(∀ f ∈ l,f.e=vB f.b false∧f.b.length≤b.length)∧l.length≤64:=by
 unfold getS at h
 cases hg:getF b.length b with
 | none => rw [hg] at h; cases h
 | some m =>
  rw [hg] at h
  by_cases hb:fldsB m=true
  ·have h:(if fldsB m then some m else none)=some l:=h
   rw [if_pos hb] at h
   cases h
   refine ⟨getF_mem _ _ hg,?_⟩
   simp only [fldsB,Bool.and_eq_true,decide_eq_true_eq] at hb
   exact hb.1
  ·have h:(if fldsB m then some m else none)=some l:=h
   rw [if_neg hb] at h; cases h
abbrev sgc (r s:Nat):List AV:=num r++num s
theorem sg_len (r s:Nat):(sgc r s).length=8:=by rw [List.length_append,wd_length,wd_length]
theorem sg_one (r s:Nat):(sgc r s).all AV.one=true:=by rw [List.all_append,one_wd,one_wd]; rfl
theorem sg_take (r s:Nat):(sgc r s).take 8=sgc r s:=List.take_of_length_le (by rw [sg_len]; exact Nat.le_refl _)
theorem sg_spl (a c r s:Nat):splice (sgc a c) 0 (sgc r s)=sgc r s:=splice_all (by rw [sg_len,sg_len])
theorem lowL_sg (ren:Nat→Option Nat) (H:AH) (r s:Nat):lowL ren H (sgc r s)=sgc r s:=by rw [lowL_append,lowL_wd,lowL_wd]
def partsO (b:List UInt8):Option (List UInt8 × Nat × Nat):=match getS b with
 | some [f,g] => if (f.tag=1∧g.tag=2)∧g.b.length=64 then some (f.b,be (g.b.take 32),be (g.b.drop 32)) else none
 | _ => none
theorem cutb_lo (l:List UInt8) (n:Nat):cut (bs l) 1 0 n=bs (l.take n):=by simp [cut,bs,List.map_take]
theorem cutb_hi (l:List UInt8) (n:Nat):cut (bs l) 1 n l.length=bs (l.drop n):=by
 rw [cut,Nat.mul_one,Nat.mul_one,List.take_of_length_le (by rw [List.length_drop,bs_len]; omega)]; simp [bs,List.map_drop]
theorem t_sparse {H:AH} {x:AV} {l:List UInt8} (hx:Sl 1 H x (bs l) l.length) (hn:l.length≤140737488355328):Called Tryz.prog F.sign_Parse [x] H (if l.length=64 then .tup [.agg (sgc (be (l.take 32)) (be (l.drop 32))),nilE] else .tup [.agg (sgc 0 0),errF]) H:=by
 refine e_sign_Parse ?_
 have hG:∀ G,Sl 1 (H++G) x (bs l) l.length:=fun G => hx.app
 have lw:=wd_length 4
 have e8:[Z0,Z0,Z0,Z0,Z0,Z0,Z0,Z0]=sgc 0 0:=rfl
 simp only [ic_sign_Parse,go_sem,hx.s]
 by_cases h:l.length=64
 ·have z:((l.length:Int) != 64)=false:=by rw [h]; rfl
  have bd1:bndOk l.length none (some (.lit (.int .i64 32))) none:=by
   refine ⟨trivial,trivial,trivial,?_,?_,?_,?_⟩ <;> simp [bnd,asI] <;> omega
  have bd2:bndOk l.length (some (.lit (.int .i64 32))) none none:=by
   refine ⟨trivial,trivial,trivial,?_,?_,?_,?_⟩ <;> simp [bnd,asI] <;> omega
  have k1:=fun G => (hG G).sl bd1
  have k2:=fun G => (hG G).sl bd2
  have c1:cut (bs l) 1 (lo0 none) (hi0 l.length (some (.lit (.int .i64 32))))=bs (l.take 32):=cutb_lo l 32
  have c2:cut (bs l) 1 (lo0 (some (.lit (.int .i64 32)))) (hi0 l.length none)=bs (l.drop 32):=cutb_hi l 32
  have n1:hi0 l.length (some (.lit (.int .i64 32))) - lo0 none=(l.take 32).length:=by rw [List.length_take]; show 32 - 0=_; omega
  have n2:hi0 l.length none - lo0 (some (.lit (.int .i64 32)))=(l.drop 32).length:=by rw [List.length_drop]; rfl
  rw [c1,n1] at k1
  rw [c2,n2] at k2
  rw [if_pos h,z]
  simp only [go_sem,hx.s]
  refine ⟨(hG _).slOk bd1,callW_some (t_lof (k1 _) (by rw [List.length_take]; omega)) (fun _ => rfl) ?_⟩
  simp only [go_sem,hx.s,lw,one_wd,num_splice]
  refine ⟨(hG _).slOk bd2,callW_some (t_lof (k2 _) (by rw [List.length_drop]; omega)) (fun _ => rfl) ?_⟩
  generalize be (l.take 32)=r
  generalize be (l.drop 32)=s
  simp only [go_sem,lw,one_wd,num_splice,num_take,fillOk,fillv]
  rw [show [AV.lit (Value.int IntKind.u64 0),AV.lit (Value.int IntKind.u64 0),AV.lit (Value.int IntKind.u64 0),AV.lit (Value.int IntKind.u64 0),AV.lit (Value.int IntKind.u64 0),AV.lit (Value.int IntKind.u64 0),AV.lit (Value.int IntKind.u64 0),AV.lit (Value.int IntKind.u64 0)]=pr 0 0 from rfl]
  simp only [pr_spl0,pr_spl4,pr_spl8,pr_len,pr_one,pr_take8]
  exact ⟨by decide,by decide,leave_drop (by simp only [low,lowL,lowL_sg])⟩
 ·have z:((l.length:Int) != 64)=true:=by simp; omega
  rw [if_neg h,z]
  simp only [go_sem,fillOk,fillv,e8,sg_spl,sg_len,sg_one,sg_take]
  exact leave_drop rfl
set_option maxRecDepth 10000
theorem partsO_some {b:List UInt8} {f g:Fld} (h:getS b=some [f,g]):partsO b=if (f.tag=1∧g.tag=2)∧g.b.length=64 then some (f.b,be (g.b.take 32),be (g.b.drop 32)) else none:=by
 rw [partsO,h]
theorem partsO_not {b:List UInt8} (h:∀ f g,getS b≠some [f,g]):partsO b=none:=by
 unfold partsO
 split
 ·rename_i f g e; exact absurd e (h f g)
 ·rfl
theorem len2 {l:List Fld} (h:l.length=2):∃ f g,l=[f,g]:=by
 match l,h with
 | [f,g],_ => exact ⟨f,g,rfl⟩
set_option maxRecDepth 10000
theorem be32_lt {l:List UInt8} (h:l.length≤32):be l<(18446744073709551616:Nat)^4 :=
 Nat.lt_of_lt_of_le (be_lt l) (Nat.le_trans (Nat.pow_le_pow_right (by decide) h) (by decide +kernel))
theorem partsO_lt {b body:List UInt8} {r s:Nat} (h:partsO b=some (body,r,s)):r<(18446744073709551616:Nat)^4∧s<(18446744073709551616:Nat)^4:=by
 unfold partsO at h
 split at h
 ·split at h
  ·rename_i f g e hh
   cases h
   exact ⟨be32_lt (by rw [List.length_take]; omega),be32_lt (by rw [List.length_drop]; omega)⟩
  ·cases h
 ·cases h
def errO (n:Int):AV:=if n=0 then nilE else .lit (.iface T.api_Code (.int .i64 n))
theorem bs32_ne {l:List UInt8} (h:l.length=32):(bs l).isEmpty=false∧(bs l).length=32∧(bs l).take 32=bs l:=by
 have hb:(bs l).length=32:=by rw [bs_len,h]
 refine ⟨?_,hb,List.take_of_length_le (by omega)⟩
 cases hh:bs l with
 | nil => rw [hh] at hb; cases hb
 | cons => rfl
end Go.Proofs.YtenfocjhebgoeaaGreat.Eng

