/- Layer 11: which serials are revoked: both sides. -/
import Derived.Test.YtgfploghjpbcaaaMTl
import Derived.Test.YtgfploghjpbcaaaMCc
import Derived.Test.YtgfploghjpbcaaaME6
namespace Go.Proofs.Ytgfploghjpbcaaa.Eng
open Go Go.Proofs
set_option linter.unusedVariables false
set_option linter.unusedSimpArgs false
set_option maxRecDepth 10000
theorem g_mkfn {pf:Pf} {C:CallRel} {Q:Ex→Env→AH→Prop} {l:List (Nat × AV)} {H:AH} {k:IC} {d j:Nat} {w:Bool} (f:Fn) (a b:List IArg):iwp pf C (qg d j w (.mkfn f a b) k) Q (look l) H=guardK w (fun g => (∀ x ∈ a++b,okMay g (em l x))∧iwp pf C k Q (look ((d,.may g (.fn f (a.map (er l)) (b.map (er l))))::l)) H) (look l j):=by
 simp only [qg,iwp,iopwp,Ins.args,iside,ival,imp_true_iff,true_and]; rfl
structure Rvk where
 serial:Int
 from_:Int
def Rvk.cells (r:Rvk):List AV:=[I r.serial,I r.from_]
theorem Rvk.len (r:Rvk):r.cells.length=2:=rfl
def noRv:Rvk:=⟨0,0⟩
abbrev rcs (l:List Rvk):List AV:=l.flatMap Rvk.cells
def rvBad (l:List Rvk) (i:Nat):Bool:=(((decide ((l.getD i noRv).serial<1) || decide (2147483647<(l.getD i noRv).serial)) || decide ((l.getD i noRv).from_<0)) || decide (1073741824<(l.getD i noRv).from_)) || (decide (0<i)&&decide ((l.getD i noRv).serial≤(l.getD (i - 1) noRv).serial))
def revB (l:List Rvk):Bool:=decide (l.length≤200)&&decide (∀ i,i<l.length→rvBad l i=false)
theorem revB_bad {l:List Rvk} {i:Nat} (hi:i<l.length) (h:rvBad l i=true):revB l=false:=by
 rw [revB,Bool.and_eq_false_iff]
 right
 rw [decide_eq_false_iff_not]
 exact fun hh => by have:=hh i hi; rw [h] at this; cases this
theorem revB_ok {l:List Rvk} (h:∀ i,i<l.length→rvBad l i=false):revB l=decide (l.length≤200):=by
 rw [revB,decide_eq_true h,Bool.and_true]
theorem rvBad_eq (l:List Rvk) (i:Nat):rvBad l i=((((decide ((l.getD i noRv).serial<1) || decide (2147483647<(l.getD i noRv).serial)) || decide ((l.getD i noRv).from_<0)) || decide (1073741824<(l.getD i noRv).from_)) || (decide (0<i)&&decide ((l.getD i noRv).serial≤(l.getD (i - 1) noRv).serial))):=rfl
section
variable {H:AH} {x:AV} {l:List Rvk}
theorem Sl.rv2 (h:Sl 2 H x (rcs l) l.length) {i:Nat} (hi:i<l.length):loadV true 2 H (idxaV 2 (.lit (.int .i64 i)) x)=.agg [I (l.getD i noRv).serial,I (l.getD i noRv).from_]:=by
 rw [h.ldA _ hi (by decide),elt_flat _ 2 Rvk.len _ _ noRv hi]; rfl
theorem Sl.rv1 (h:Sl 2 H x (rcs l) l.length) {i:Nat} (hi:i<l.length) (o:Nat) (ho:o<2):loadV false 1 H (fldV o (idxaV 2 (.lit (.int .i64 i)) x))=[I (l.getD i noRv).serial,I (l.getD i noRv).from_].getD o .junk:=by
 rw [h.fd _ hi (by omega) (by decide),if_neg (by decide),getD_flat _ 2 Rvk.len _ _ _ noRv hi ho]; rfl
theorem t_rvMay (hx:Sl 2 H x (rcs l) l.length) (hn:l.length≤1000000):Called Try.prog F.revoke_May [x] H (Bl (revB l)) H:=by
 refine e_revoke_May ?_
 simp only [ic_revoke_May,go_sem,hx.s]
 refine w_loop _ (fun (s:Nat × AH) => ([(0,x),(5,x),(6,I l.length),(7,I s.1)],H++s.2)) (fun s => s.1≤l.length∧∀ j,j<s.1→rvBad l j=false) (fun s => l.length - s.1) (0,[]) ⟨Nat.zero_le _,fun j hj => by omega⟩ (by rw [List.append_nil]; rfl) ?_
 rintro ⟨i,G⟩ ⟨hi,hj⟩
 dsimp only at hi hj
 simp only [go_sem]
 refine ⟨fun h => ?_,fun h => ?_⟩
 ·have hlt:i<l.length:=by omega
  have hG:∀ K,Sl 2 (H++K) x (rcs l) l.length:=fun K => hx.app
  have f7:=(hG G).ldOk .i64 hlt (Nat.le_refl 2)
  have next:∀ K,rvBad l i=false→∃ a':Nat × AH,look [(0,x),(5,x),(6,I l.length),(7,AV.lit (Value.int IntKind.i64 ((i+1:Nat):Int)))]=look [(0,x),(5,x),(6,I l.length),(7,I a'.1)]∧H++K=H++a'.2∧(a'.1≤l.length∧∀ j,j<a'.1→rvBad l j=false)∧l.length - a'.1<l.length - i:=by
   intro K hb
   refine ⟨(i+1,K),rfl,rfl,⟨by show i+1≤_; omega,fun j hj' => ?_⟩,by show _ - (i+1)<_; omega⟩
   rcases Nat.lt_succ_iff_lt_or_eq.1 hj' with h1 | rfl
   ·exact hj j h1
   ·exact hb
  have pb:=rvBad_eq l i
  have ib:(0:Int)≤i∧(i:Int)<l.length:=⟨by omega,by omega⟩
  have w1:IntKind.i64.wrap ((i:Int)+1)=((i+1:Nat):Int):=by rw [w64 _ (by omega) (by omega)]; omega
  simp only [go_sem,hx.s,hx.idx,f7,(hG G).rv2 hlt]
  rcases Nat.eq_zero_or_pos i with h0 | h0
  ·have z0:decide ((0:Int)<i)=false:=by simp; omega
   have z1:decide (0<i)=false:=by simp; omega
   simp only [go_sem,z0,w1,hx.s]
   rw [z1] at pb
   simp only [Bool.false_and,Bool.or_false] at pb
   exact ⟨ib,fun hb => leave_drop (by rw [revB_bad hlt (pb.trans hb)]; rfl),fun hb => next _ (pb.trans hb)⟩
  ·have e1:IntKind.i64.wrap ((i:Int) - 1)=((i - 1:Nat):Int):=by rw [w64 _ (by omega) (by omega)]; omega
   have z0:decide ((0:Int)<i)=true:=by simp; omega
   have z1:decide (0<i)=true:=by simp; omega
   have lt1:i - 1<l.length:=by omega
   have ib1:(0:Int)≤((i - 1:Nat):Int)∧((i - 1:Nat):Int)<l.length:=⟨by omega,by omega⟩
   simp only [go_sem,z0,w1,hx.s,e1,hx.idx,(hx.fdOk .i64 lt1 (o:=0) (m:=1) (by omega)).1,((hG _).fdOk .i64 lt1 (o:=0) (m:=1) (by omega)).2,(hG _).rv1 lt1 0 (by omega)]
   rw [z1] at pb
   simp only [Bool.true_and] at pb
   exact ⟨ib,fun _ => ib1,fun hb => leave_drop (by rw [revB_bad hlt (pb.trans hb)]; rfl),fun hb => next _ (pb.trans hb)⟩
 ·simp only [hx.s]
  refine ⟨trivial,leave_drop ?_⟩
  rw [revB_ok fun j hj' => hj j (by omega)]
  simp only [low]
  congr 2
  simp; omega
theorem t_isV1 (r:Rvk) (n m:Int) (p q:Nat) (hp:p<H.length) (ho:obj H p=⟨[I n],0,true⟩) (hq:q<H.length) (hoq:obj H q=⟨[I m],0,true⟩):Called Try.prog F.revoke_Is_1 [.agg [I r.serial,I r.from_],.ptr p 0,.ptr q 0] H (Bl (r.serial == n&&decide (r.from_≤m))) H:=by
 refine e_revoke_Is_1 ?_
 simp only [ic_revoke_Is_1,go_sem,obj_old _ _ hp,ho,obj_old _ _ hq,hoq]
 exact ⟨by omega,fun _ => by omega,leave_drop rfl⟩
theorem t_idxV (hx:Sl 2 H x (rcs l) l.length) (hn:l.length≤1000000) (g:FuncId) (a b:List AV) (p:Rvk→Bool) (hg:∀ r ∈ l,Called Try.prog g (a++[.agg [I r.serial,I r.from_]]++b) H (Bl (p r)) H) :
  Called Try.prog F.slices_IndexFunc_api_Revoked_api_Revoked [x,.fn (.func g) a b] H (I (fstA p l)) H:=by
 refine e_slices_IndexFunc_api_Revoked_api_Revoked ?_
 simp only [ic_slices_IndexFunc_api_Revoked_api_Revoked,go_sem,hx.lenT,hx.n]
 refine w_loop _ (fun (i:Nat) => ([(0,x),(1,.fn (.func g) a b),(7,I l.length),(8,I i)],H)) (fun i => i≤l.length∧∀ j,j<i→p (l.getD j noRv)=false) (fun i => l.length - i) 0 ⟨Nat.zero_le _,fun j hj => by omega⟩ rfl ?_
 rintro i ⟨hi,hj⟩
 simp only [go_sem]
 refine ⟨fun h => ?_,fun h => ?_⟩
 ·have hlt:i<l.length:=by omega
  simp only [go_sem,hx.idx,hx.un,hx.ldOk .i64 hlt (Nat.le_refl 2),hx.rv2 hlt]
  refine ⟨⟨by omega,by omega⟩,callW_some (by simpa using hg _ (getD_memP noRv hlt)) (fun _ => rfl) ?_⟩
  simp only [go_sem]
  refine ⟨fun he => ?_,fun he => ?_⟩
  ·exact leave_same (by rw [fstA_some noRv hlt he hj])
  ·refine ⟨i+1,by rw [w64 _ (by omega) (by omega)]; rfl,⟨by omega,fun j hj' => ?_⟩,by omega⟩
   rcases Nat.lt_succ_iff_lt_or_eq.1 hj' with h1 | rfl
   ·exact hj j h1
   ·exact he
 ·exact leave_same (by rw [fstA_none noRv fun j hj' => hj j (by omega)])
def goneB (l:List Rvk) (n m:Int):Bool:=decide (0≤fstA (fun r => r.serial == n&&decide (r.from_≤m)) l)
theorem t_Is (hx:Sl 2 H x (rcs l) l.length) (hn:l.length≤1000000) (n m:Int):Called Try.prog F.revoke_Is [x,I n,I m] H (Bl (revB l&&goneB l n m)) H:=by
 refine e_revoke_Is ?_
 simp only [ic_revoke_Is,go_sem,hx.s]
 refine callW_some (t_rvMay hx.app hn) (fun _ => rfl) ?_
 simp only [go_sem,hx.s,g_mkfn]
 refine callG_of (v:=Bl (goneB l n m)) (fun _ => ?_) ?_
 ·refine e_slices_ContainsFunc_api_Revoked_api_Revoked ?_
  simp only [ic_slices_ContainsFunc_api_Revoked_api_Revoked,go_sem,hx.s]
  refine callW_some (t_idxV hx.app hn _ _ _ (fun r => r.serial == n&&decide (r.from_≤m)) (fun r _ => t_isV1 r n m _ _ (by simp) (by simp only [go_sem]) (by simp) (by simp only [go_sem]))) (fun _ => rfl) ?_
  simp only [go_sem]
  exact leave_same rfl
 ·simp only [go_sem]
  exact leave_drop rfl
end
theorem fstA_at {α:Type} (d:α) (p:α→Bool) (l:List α):(fstA p l=-1∧∀ j,j<l.length→p (l.getD j d)=false)∨∃ j,j<l.length∧fstA p l=((j:Nat):Int)∧p (l.getD j d)=true:=by
 unfold fstA
 cases h:l.findIdx? p with
 | none =>
  rw [List.findIdx?_eq_none_iff] at h
  exact .inl ⟨rfl,fun j hj => by simpa using h _ (getD_memP d hj)⟩
 | some i =>
  rw [List.findIdx?_eq_some_iff_getElem] at h
  obtain ⟨hi,h1,_⟩:=h
  exact .inr ⟨i,hi,rfl,by rw [List.getD_eq_getElem?_getD,List.getElem?_eq_getElem hi]; simpa using h1⟩
section
variable {H:AH} {x:AV} {l:List Rvk}
end
end Go.Proofs.Ytgfploghjpbcaaa.Eng

