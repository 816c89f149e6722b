/- Layer 11: which serials are revoked: both sides. -/
import Derived.Test.YtcgjlpdkobmpnaaGreatMTl
import Derived.Test.YtcgjlpdkobmpnaaGreatMCc
import Derived.Test.YtcgjlpdkobmpnaaGreatME6
namespace Go.Proofs.YtcgjlpdkobmpnaaGreat.Eng
open Go Go.Proofs
set_option linter.unusedVariables false
set_option linter.unusedSimpArgs false
set_option maxRecDepth 10000
theorem Z2g {pf:Pf} {C:Ys} {Q:Ex→Env→AH→Prop} {l:List (Nat × AV)} {H:AH} {k:IC} {d j:Nat} {w:Bool} (f:Fn) (a b:List IArg):iwp pf C (qg d j w (.mkfn f a b) k) Q (look l) H=Yt w (fun g => (∀ x ∈ a++b,Yj g (em l x))∧iwp pf C k Q (look ((d,.may g (.fn f (a.map (er l)) (b.map (er l))))::l)) H) (look l j):=by
 simp only [qg,iwp,iopwp,Ins.args,iside,ival,imp_true_iff,true_and]; rfl
structure Rvk where
 serial:Int
 from_:Int
def Rvk.cells (r:Rvk):List AV:=[I r.serial,I r.from_]
theorem Rvk.len (r:Rvk):r.cells.length=2:=rfl
def noRv:Rvk:=⟨0,0⟩
abbrev rcs (l:List Rvk):List AV:=l.flatMap Rvk.cells
def G3 (l:List Rvk) (i:Nat):Bool:=(((decide ((l.getD i noRv).serial<1) || decide (2147483647<(l.getD i noRv).serial)) || decide ((l.getD i noRv).from_<0)) || decide (1073741824<(l.getD i noRv).from_)) || (decide (0<i)&&decide ((l.getD i noRv).serial≤(l.getD (i - 1) noRv).serial))
def revB (l:List Rvk):Bool:=decide (l.length≤200)&&decide (∀ i,i<l.length→G3 l i=false)
theorem Jv {l:List Rvk} {i:Nat} (hi:i<l.length) (h:G3 l i=true):revB l=false:=by
 rw [revB,Bool.and_eq_false_iff]
 right
 rw [decide_eq_false_iff_not]
 exact fun hh => by have:=hh i hi; rw [h] at this; cases this
theorem Zka {l:List Rvk} (h:∀ i,i<l.length→G3 l i=false):revB l=decide (l.length≤200):=by
 rw [revB,decide_eq_true h,Bool.and_true]
theorem Ju (l:List Rvk) (i:Nat):G3 l i=((((decide ((l.getD i noRv).serial<1) || decide (2147483647<(l.getD i noRv).serial)) || decide ((l.getD i noRv).from_<0)) || decide (1073741824<(l.getD i noRv).from_)) || (decide (0<i)&&decide ((l.getD i noRv).serial≤(l.getD (i - 1) noRv).serial))):=rfl
section
variable {H:AH} {x:AV} {l:List Rvk}
theorem Sl.rv2 (h:Sl 2 H x (rcs l) l.length) {i:Nat} (hi:i<l.length):Yc true 2 H (Z5 2 (.lit (.int .i64 i)) x)=.agg [I (l.getD i noRv).serial,I (l.getD i noRv).from_]:=by
 rw [h.ldA _ hi (by decide),Xg _ 2 Rvk.len _ _ noRv hi]; rfl
theorem Sl.rv1 (h:Sl 2 H x (rcs l) l.length) {i:Nat} (hi:i<l.length) (o:Nat) (ho:o<2):Yc false 1 H (fldV o (Z5 2 (.lit (.int .i64 i)) x))=[I (l.getD i noRv).serial,I (l.getD i noRv).from_].getD o .junk:=by
 rw [h.fd _ hi (by omega) (by decide),if_neg (by decide),W7 _ 2 Rvk.len _ _ _ noRv hi ho]; rfl
theorem E2 (hx:Sl 2 H x (rcs l) l.length) (hn:l.length≤1000000):Called Tryz.prog F.revoke_May [x] H (Bl (revB l)) H:=by
 refine A6 ?_
 simp only [N8,go_sem,hx.s]
 refine Z1 _ (fun (s:Nat × AH) => ([(0,x),(5,x),(6,I l.length),(7,I s.1)],H++s.2)) (fun s => s.1≤l.length∧∀ j,j<s.1→G3 l j=false) (fun s => l.length - s.1) (0,[]) ⟨Nat.zero_le _,fun j hj => by omega⟩ (by rw [List.append_nil]; rfl) ?_
 rintro ⟨i,G⟩ ⟨hi,hj⟩
 dsimp only at hi hj
 simp only [go_sem]
 refine ⟨fun h => ?_,fun h => ?_⟩
 ·have hlt:i<l.length:=by omega
  have hG:∀ K,Sl 2 (H++K) x (rcs l) l.length:=fun K => hx.app
  have f7:=(hG G).ldOk .i64 hlt (Nat.le_refl 2)
  have next:∀ K,G3 l i=false→∃ a':Nat × AH,look [(0,x),(5,x),(6,I l.length),(7,AV.lit (Value.int IntKind.i64 ((i+1:Nat):Int)))]=look [(0,x),(5,x),(6,I l.length),(7,I a'.1)]∧H++K=H++a'.2∧(a'.1≤l.length∧∀ j,j<a'.1→G3 l j=false)∧l.length - a'.1<l.length - i:=by
   intro K hb
   refine ⟨(i+1,K),rfl,rfl,⟨by show i+1≤_; omega,fun j hj' => ?_⟩,by show _ - (i+1)<_; omega⟩
   rcases Nat.lt_succ_iff_lt_or_eq.1 hj' with h1 | rfl
   ·exact hj j h1
   ·exact hb
  have pb:=Ju l i
  have ib:(0:Int)≤i∧(i:Int)<l.length:=⟨by omega,by omega⟩
  have w1:IntKind.i64.wrap ((i:Int)+1)=((i+1:Nat):Int):=by rw [w64 _ (by omega) (by omega)]; omega
  simp only [go_sem,hx.s,hx.idx,f7,(hG G).rv2 hlt]
  rcases Nat.eq_zero_or_pos i with h0 | h0
  ·have z0:decide ((0:Int)<i)=false:=by simp; omega
   have z1:decide (0<i)=false:=by simp; omega
   simp only [go_sem,z0,w1,hx.s]
   rw [z1] at pb
   simp only [Bool.false_and,Bool.or_false] at pb
   exact ⟨ib,fun hb => Zc (by rw [Jv hlt (pb.trans hb)]; rfl),fun hb => next _ (pb.trans hb)⟩
  ·have e1:IntKind.i64.wrap ((i:Int) - 1)=((i - 1:Nat):Int):=by rw [w64 _ (by omega) (by omega)]; omega
   have z0:decide ((0:Int)<i)=true:=by simp; omega
   have z1:decide (0<i)=true:=by simp; omega
   have lt1:i - 1<l.length:=by omega
   have ib1:(0:Int)≤((i - 1:Nat):Int)∧((i - 1:Nat):Int)<l.length:=⟨by omega,by omega⟩
   simp only [go_sem,z0,w1,hx.s,e1,hx.idx,(hx.fdOk .i64 lt1 (o:=0) (m:=1) (by omega)).1,((hG _).fdOk .i64 lt1 (o:=0) (m:=1) (by omega)).2,(hG _).rv1 lt1 0 (by omega)]
   rw [z1] at pb
   simp only [Bool.true_and] at pb
   exact ⟨ib,fun _ => ib1,fun hb => Zc (by rw [Jv hlt (pb.trans hb)]; rfl),fun hb => next _ (pb.trans hb)⟩
 ·simp only [hx.s]
  refine ⟨trivial,Zc ?_⟩
  rw [Zka fun j hj' => hj j (by omega)]
  simp only [low]
  congr 2
  simp; omega
theorem Zv8 (hx:Sl 2 H x (rcs l) l.length) (hn:l.length≤1000000):Called Tryz.prog F.clapperref11_May [x] H (Bl (revB l)) H:=by
 refine Mx ?_
 simp only [Tk,go_sem]
 refine Z1 _ (fun (i:Nat) => ([(0,x),(3,I i)],H)) (fun i => i≤l.length∧∀ j,j<i→G3 l j=false) (fun i => l.length - i) 0 ⟨Nat.zero_le _,fun j hj => by omega⟩ rfl ?_
 rintro i ⟨hi,hj⟩
 simp only [go_sem,hx.lenT,hx.n]
 refine ⟨fun h => ?_,fun h => ?_⟩
 ·have hlt:i<l.length:=by omega
  have f0:=hx.fdOk .i64 hlt (o:=0) (m:=1) (by omega)
  have f1:=hx.fdOk .i64 hlt (o:=1) (m:=1) (by omega)
  have next:G3 l i=false→∃ a',look [(0,x),(3,AV.lit (Value.int IntKind.i64 (IntKind.i64.wrap (↑i+1))))]=look [(0,x),(3,I (a':Nat))]∧(a'≤l.length∧∀ j,j<a'→G3 l j=false)∧l.length - a'<l.length - i:=by
   intro hb
   refine ⟨i+1,by rw [w64 _ (by omega) (by omega)]; rfl,⟨by omega,fun j hj' => ?_⟩,by omega⟩
   rcases Nat.lt_succ_iff_lt_or_eq.1 hj' with h1 | rfl
   ·exact hj j h1
   ·exact hb
  have pb:=Ju l i
  have ib:(0:Int)≤i∧(i:Int)<l.length:=⟨by omega,by omega⟩
  rcases Nat.eq_zero_or_pos i with h0 | h0
  ·have z0:decide ((0:Int)<i)=false:=by simp; omega
   have z1:decide (0<i)=false:=by simp; omega
   simp only [go_sem,hx.idx,hx.un,hx.may,f0,f1,hx.rv1 hlt 0 (by omega),hx.rv1 hlt 1 (by omega),z0]
   rw [z1] at pb
   simp only [Bool.false_and,Bool.or_false] at pb
   exact ⟨ib,fun _ => ib,fun _ => ib,fun _ => ib,fun hb => Zk (by rw [Jv hlt (pb.trans hb)]),fun hb => next (pb.trans hb)⟩
  ·have e1:IntKind.i64.wrap ((i:Int) - 1)=((i - 1:Nat):Int):=by rw [w64 _ (by omega) (by omega)]; omega
   have g0:=hx.fdOk .i64 (show i - 1<l.length by omega) (o:=0) (m:=1) (by omega)
   have z0:decide ((0:Int)<i)=true:=by simp; omega
   have z1:decide (0<i)=true:=by simp; omega
   simp only [go_sem,hx.idx,hx.un,hx.may,f0,f1,hx.rv1 hlt 0 (by omega),hx.rv1 hlt 1 (by omega),hx.rv1 (show i - 1<l.length by omega) 0 (by omega),g0,z0,e1]
   rw [z1] at pb
   simp only [Bool.true_and] at pb
   exact ⟨ib,fun _ => ib,fun _ => ib,fun _ => ib,fun _ => ib,fun _ => ⟨by omega,by omega⟩,fun hb => Zk (by rw [Jv hlt (pb.trans hb)]),fun hb => next (pb.trans hb)⟩
 ·exact Zk (by rw [Zka fun j hj' => hj j (by omega)]; simp; omega)
theorem Z0b (r:Rvk) (n m:Int) (p q:Nat) (hp:p<H.length) (ho:obj H p=⟨[I n],0,true⟩) (hq:q<H.length) (hoq:obj H q=⟨[I m],0,true⟩):Called Tryz.prog F.revoke_Is_1 [.agg [I r.serial,I r.from_],.ptr p 0,.ptr q 0] H (Bl (r.serial == n&&decide (r.from_≤m))) H:=by
 refine Ck ?_
 simp only [P4,go_sem,Yf _ _ hp,ho,Yf _ _ hq,hoq]
 exact ⟨by omega,fun _ => by omega,Zc rfl⟩
theorem Z0e (hx:Sl 2 H x (rcs l) l.length) (hn:l.length≤1000000) (g:FuncId) (a b:List AV) (p:Rvk→Bool) (hg:∀ r ∈ l,Called Tryz.prog g (a++[.agg [I r.serial,I r.from_]]++b) H (Bl (p r)) H) :
  Called Tryz.prog F.slices_IndexFunc_api_Revoked_api_Revoked [x,.fn (.func g) a b] H (I (fstA p l)) H:=by
 refine Wg ?_
 simp only [Y6,go_sem,hx.lenT,hx.n]
 refine Z1 _ (fun (i:Nat) => ([(0,x),(1,.fn (.func g) a b),(7,I l.length),(8,I i)],H)) (fun i => i≤l.length∧∀ j,j<i→p (l.getD j noRv)=false) (fun i => l.length - i) 0 ⟨Nat.zero_le _,fun j hj => by omega⟩ rfl ?_
 rintro i ⟨hi,hj⟩
 simp only [go_sem]
 refine ⟨fun h => ?_,fun h => ?_⟩
 ·have hlt:i<l.length:=by omega
  simp only [go_sem,hx.idx,hx.un,hx.ldOk .i64 hlt (Nat.le_refl 2),hx.rv2 hlt]
  refine ⟨⟨by omega,by omega⟩,Za (by simpa using hg _ (Zl noRv hlt)) (fun _ => rfl) ?_⟩
  simp only [go_sem]
  refine ⟨fun he => ?_,fun he => ?_⟩
  ·exact Zk (by rw [Q6 noRv hlt he hj])
  ·refine ⟨i+1,by rw [w64 _ (by omega) (by omega)]; rfl,⟨by omega,fun j hj' => ?_⟩,by omega⟩
   rcases Nat.lt_succ_iff_lt_or_eq.1 hj' with h1 | rfl
   ·exact hj j h1
   ·exact he
 ·exact Zk (by rw [Q7 noRv fun j hj' => hj j (by omega)])
def D7 (l:List Rvk) (n m:Int):Bool:=decide (0≤fstA (fun r => r.serial == n&&decide (r.from_≤m)) l)
theorem t_Is (hx:Sl 2 H x (rcs l) l.length) (hn:l.length≤1000000) (n m:Int):Called Tryz.prog F.revoke_Is [x,I n,I m] H (Bl (revB l&&D7 l n m)) H:=by
 refine Zc1 ?_
 simp only [Kr,go_sem,hx.s]
 refine Za (E2 hx.app hn) (fun _ => rfl) ?_
 simp only [go_sem,hx.s,Z2g]
 refine Zq (v:=Bl (D7 l n m)) (fun _ => ?_) ?_
 ·refine X9 ?_
  simp only [Yx,go_sem,hx.s]
  refine Za (Z0e hx.app hn _ _ _ (fun r => r.serial == n&&decide (r.from_≤m)) (fun r _ => Z0b r n m _ _ (by simp) (by simp only [go_sem]) (by simp) (by simp only [go_sem]))) (fun _ => rfl) ?_
  simp only [go_sem]
  exact Zk rfl
 ·simp only [go_sem]
  exact Zc rfl
end
set_option maxRecDepth 10000
theorem Zrd {l:List Int} {i:Nat} (h:i<l.length):l.getD i 0 ∈ l:=by
 rw [List.getD_eq_getElem?_getD,List.getElem?_eq_getElem h]; exact List.getElem_mem h
theorem Zqi {l:List Int} {d:Int} (h:d ∈ l):∃ i,i<l.length∧l.getD i 0=d:=by
 obtain ⟨i,hi,e⟩:=List.mem_iff_getElem.1 h
 exact ⟨i,hi,by rw [List.getD_eq_getElem?_getD,List.getElem?_eq_getElem hi]; exact e⟩
def K3 (p:Int→Bool) (l:List Int):Int:=match l.findIdx? p with | some i => i | none => -1
theorem Hz {p:Int→Bool} {l:List Int} {i:Nat} (hi:i<l.length) (h:p (l.getD i 0)=true) (hj:∀ j,j<i→p (l.getD j 0)=false):K3 p l=i:=by
 have:l.findIdx? p=some i:=by
  rw [List.findIdx?_eq_some_iff_getElem]
  refine ⟨hi,?_,fun j hj' => ?_⟩
  ·rw [List.getD_eq_getElem?_getD,List.getElem?_eq_getElem hi] at h; exact h
  ·have:=hj j hj'
   rw [List.getD_eq_getElem?_getD,List.getElem?_eq_getElem (by omega)] at this
   simpa using this
 simp [K3,this]
theorem H4 {p:Int→Bool} {l:List Int} (hj:∀ j,j<l.length→p (l.getD j 0)=false):K3 p l=-1:=by
 have:l.findIdx? p=none:=by
  rw [List.findIdx?_eq_none_iff]
  intro x hx
  obtain ⟨i,h1,h2⟩:=Zqi hx
  rw [← h2]; exact hj i h1
 simp [K3,this]
theorem Ay (p:Int→Bool) (l:List Int):decide (0≤K3 p l)=l.any p:=by
 unfold K3
 cases h:l.findIdx? p with
 | none =>
  rw [List.findIdx?_eq_none_iff] at h
  have:l.any p=false:=by rw [List.any_eq_false]; intro x hx; simp [h x hx]
  rw [this]; rfl
 | some i =>
  rw [List.findIdx?_eq_some_iff_getElem] at h
  obtain ⟨hi,h1,_⟩:=h
  have:l.any p=true:=by rw [List.any_eq_true]; exact ⟨_,List.getElem_mem hi,h1⟩
  rw [this]; simp
theorem Zve (l:List Int) (full:Bool) (d:Int) (H:AH) (hl:l.length≤1000000):Called Tryz.prog F.slices_Index_int_int [vI l full,I d] H (I (K3 (fun x => d == x) l)) H:=by
 refine R9 ?_
 simp only [Vn,go_sem,vI]
 refine Z1 _ (fun (i:Nat) => ([(0,vI l full),(1,I d),(7,I l.length),(8,I i)],H)) (fun i => i≤l.length∧∀ j,j<i→(d == l.getD j 0)=false) (fun i => l.length - i) 0 ⟨Nat.zero_le _,fun j hj => by omega⟩ rfl ?_
 rintro i ⟨hi,hj⟩
 simp only [go_sem,vI]
 refine ⟨fun h => ?_,fun h => ?_⟩
 ·have hlt:i<l.length:=by omega
  simp only [go_sem,Zm2 l i hlt]
  refine ⟨⟨by omega,by omega,by simp⟩,fun he => ?_,fun he => ?_⟩
  ·exact Zk (by rw [Hz hlt he hj])
  ·refine ⟨i+1,by rw [w64 _ (by omega) (by omega)]; rfl,⟨by omega,fun j hj' => ?_⟩,by omega⟩
   rcases Nat.lt_succ_iff_lt_or_eq.1 hj' with h1 | rfl
   ·exact hj j h1
   ·exact he
 ·exact Zk (by rw [H4 fun j hj' => hj j (by omega)])
theorem M9 (l:List Int) (full:Bool) (d:Int) (H:AH) (hl:l.length≤1000000):Called Tryz.prog F.slices_Contains_int_int [vI l full,I d] H (Bl (decide (d ∈ l))) H:=by
 refine Sp ?_
 simp only [Wx,go_sem]
 refine Za (Zve l full d H hl) (fun _ => rfl) ?_
 simp only [go_sem]
 refine Zk ?_
 rw [Ay]
 congr 2
 rw [Bool.eq_iff_iff,List.any_eq_true,decide_eq_true_eq]
 exact ⟨fun ⟨x,h1,h2⟩ => by rw [beq_iff_eq] at h2; exact h2 ▸ h1,fun h => ⟨d,h,by simp⟩⟩
theorem Zba (l:List Int) (full:Bool) (g:FuncId) (a b:List AV) (p:Int→Bool) (H:AH) (hl:l.length≤1000000) (hg:∀ x ∈ l,Called Tryz.prog g (a++[I x]++b) H (Bl (p x)) H) :
  Called Tryz.prog F.slices_IndexFunc_int_int [vI l full,.fn (.func g) a b] H (I (K3 p l)) H:=by
 refine Tp ?_
 simp only [Wq,go_sem,vI]
 refine Z1 _ (fun (i:Nat) => ([(0,vI l full),(1,.fn (.func g) a b),(7,I l.length),(8,I i)],H)) (fun i => i≤l.length∧∀ j,j<i→p (l.getD j 0)=false) (fun i => l.length - i) 0 ⟨Nat.zero_le _,fun j hj => by omega⟩ rfl ?_
 rintro i ⟨hi,hj⟩
 simp only [go_sem,vI]
 refine ⟨fun h => ?_,fun h => ?_⟩
 ·have hlt:i<l.length:=by omega
  simp only [go_sem,Zm2 l i hlt]
  refine ⟨⟨by omega,by omega,by simp⟩,Za (by simpa using hg _ (Zrd hlt)) (fun _ => rfl) ?_⟩
  simp only [go_sem]
  refine ⟨fun he => ?_,fun he => ?_⟩
  ·exact Zk (by rw [Hz hlt he hj])
  ·refine ⟨i+1,by rw [w64 _ (by omega) (by omega)]; rfl,⟨by omega,fun j hj' => ?_⟩,by omega⟩
   rcases Nat.lt_succ_iff_lt_or_eq.1 hj' with h1 | rfl
   ·exact hj j h1
   ·exact he
 ·exact Zk (by rw [H4 fun j hj' => hj j (by omega)])
theorem Gy (l:List Int) (full:Bool) (g:FuncId) (a b:List AV) (p:Int→Bool) (H:AH) (hl:l.length≤1000000) (hg:∀ x ∈ l,Called Tryz.prog g (a++[I x]++b) H (Bl (p x)) H) :
  Called Tryz.prog F.slices_ContainsFunc_int_int [vI l full,.fn (.func g) a b] H (Bl (l.any p)) H:=by
 refine Ue ?_
 simp only [Wa,go_sem]
 refine Za (Zba l full g a b p H hl hg) (fun _ => rfl) ?_
 simp only [go_sem]
 refine Zk ?_
 rw [Ay]
def K4 (l:List Int) (i:Nat):Prop:=l.getD i 0<0∨1048576<l.getD i 0∨(0<i∧l.getD i 0≤l.getD (i - 1) 0)
def Zam (l:List Int):Bool:=decide (l.length≤100)&&decide (∀ i,i<l.length→0≤l.getD i 0∧l.getD i 0≤1048576∧(0<i→l.getD (i - 1) 0<l.getD i 0))
theorem Zal {l:List Int} {i:Nat} (hi:i<l.length) (h:K4 l i):Zam l=false:=by
 unfold Zam
 rw [Bool.and_eq_false_iff]
 right
 rw [decide_eq_false_iff_not]
 intro hh
 have:=hh i hi
 rcases h with h | h | ⟨h0,h⟩
 ·omega
 ·omega
 ·have:=this.2.2 h0; omega
theorem Zrz {l:List Int} (h:∀ i,i<l.length→¬ K4 l i):Zam l=decide (l.length≤100):=by
 unfold Zam
 have:∀ i,i<l.length→0≤l.getD i 0∧l.getD i 0≤1048576∧(0<i→l.getD (i - 1) 0<l.getD i 0):=by
  intro i hi
  have:=h i hi
  simp only [K4,not_or,not_and] at this
  exact ⟨by omega,by omega,fun h0 => by have:=this.2.2 h0; omega⟩
 rw [decide_eq_true this,Bool.and_true]
theorem Pm (l:List Int) (i:Nat):K4 l i↔((decide (l.getD i 0<0) || decide (1048576<l.getD i 0)) || (decide (0<i)&&decide (l.getD i 0≤l.getD (i - 1) 0)))=true:=by
 simp [K4,or_assoc]
theorem Ztk (l:List Int) (full:Bool) (H:AH) (hl:l.length≤1000000):Called Tryz.prog F.service_days [vI l full] H (Bl (Zam l)) H:=by
 refine Fe ?_
 simp only [Q0,go_sem,vI]
 refine Z1 _ (fun (i:Nat) => ([(0,vI l full),(5,vI l full),(6,I l.length),(7,I i)],H)) (fun i => i≤l.length∧∀ j,j<i→¬ K4 l j) (fun i => l.length - i) 0 ⟨Nat.zero_le _,fun j hj => by omega⟩ rfl ?_
 rintro i ⟨hi,hj⟩
 simp only [go_sem,vI]
 refine ⟨fun h => ?_,fun h => ?_⟩
 ·have hlt:i<l.length:=by omega
  have next:¬ K4 l i→∃ a',look [(0,AV.view (l.map I) l.length full),(5,AV.view (l.map I) l.length full),(6,I l.length),(7,AV.lit (Value.int IntKind.i64 (IntKind.i64.wrap (↑i+1))))]=look [(0,AV.view (l.map I) l.length full),(5,AV.view (l.map I) l.length full),(6,I l.length),(7,I (a':Nat))]∧(a'≤l.length∧∀ j,j<a'→¬ K4 l j)∧l.length - a'<l.length - i:=by
   intro hb
   refine ⟨i+1,by rw [w64 _ (by omega) (by omega)]; rfl,⟨by omega,fun j hj' => ?_⟩,by omega⟩
   rcases Nat.lt_succ_iff_lt_or_eq.1 hj' with h1 | rfl
   ·exact hj j h1
   ·exact hb
  rcases Nat.eq_zero_or_pos i with rfl | h0
  ·simp only [go_sem,Zm2 l 0 hlt]
   simp only [go_sem,Int.ofNat_zero,Int.cast_ofNat_Int,Int.lt_irrefl,decide_false,Bool.and_false]
   refine ⟨by rw [List.length_map]; omega,fun hb => ?_,fun hb => ?_⟩
   ·exact Zk (by rw [Zal hlt ((Pm l 0).2 (by rw [hb]; rfl))])
   ·exact next fun hh => by rw [Pm,hb] at hh; simp at hh
  ·have e1:IntKind.i64.wrap ((i:Int) - 1)=((i - 1:Nat):Int):=by rw [w64 _ (by omega) (by omega)]; omega
   have e2:decide ((0:Int)<i)=true:=by simp; omega
   have e3:decide (0<i)=true:=by simp; omega
   simp only [go_sem,Zm2 l i hlt,e1,e2,Zm2 l (i - 1) (by omega)]
   refine ⟨⟨by omega,by omega,by simp⟩,fun _ => ⟨by omega,by omega,by simp⟩,fun hb => ?_,fun hb => ?_⟩
   ·exact Zk (by rw [Zal hlt ((Pm l i).2 (by rw [e3,Bool.true_and]; exact hb))])
   ·exact next fun hh => by rw [Pm,e3,Bool.true_and,hb] at hh; cases hh
 ·exact Zk (by rw [Zrz fun j hj' => hj j (by omega)]; simp; omega)
structure Srv where
 week:Int
 from_:Int
 to:Int
 extra:List Int
 except:List Int
def Srv.ok (s:Srv):Prop:=ok64 s.week∧ok64 s.from_∧ok64 s.to∧s.extra.length≤1000000∧s.except.length≤1000000
def Srv.cells (s:Srv) (f g:Bool):List AV:=[I s.week,I s.from_,I s.to,vI s.extra f,vI s.except g]
def Srv.av (s:Srv) (f g:Bool):AV:=.agg (s.cells f g)
theorem Z0v (s:Srv) (f g:Bool) (p:Nat) (d:Int) (H:AH) (hs:s.ok) (hp:p<H.length) (ho:obj H p=⟨s.cells f g,0,true⟩):Called Tryz.prog F.service_May_1 [I d,.ptr p 0] H (Bl (decide (d ∈ s.except))) H:=by
 refine Gd ?_
 simp only [Srv.cells] at ho
 simp only [Rx,go_sem,hp,ho]
 refine Za (M9 s.except g d H hs.2.2.2.2) (fun _ => rfl) ?_
 simp only [go_sem]
 exact Zk rfl
def mayB (s:Srv):Bool:=decide (0≤s.week)&&decide (s.week<128)&&decide (0≤s.from_)&&decide (s.from_≤s.to)&&decide (s.to≤1048576)&&Zam s.extra&&Zam s.except&&!(s.extra.any fun d => decide (d ∈ s.except))
theorem Zvr (s:Srv) (f g:Bool) (H:AH) (hs:s.ok):Called Tryz.prog F.service_May [s.av f g] H (Bl (mayB s)) H:=by
 refine Cf ?_
 simp only [P0,go_sem,Srv.av,Srv.cells]
 refine Zq (fun _ => Ztk s.extra f _ hs.2.2.2.1) ?_
 simp only [go_sem]
 refine Zq (fun _ => Ztk s.except g _ hs.2.2.2.2) ?_
 simp only [go_sem]
 refine Zq (fun _ => Gy s.extra f _ [] [.ptr H.length 0] (fun d => decide (d ∈ s.except)) _ hs.2.2.2.1 fun x hx => Z0v s f g H.length x _ hs (by simp) (by simp [Ym,Nm,Srv.cells])) ?_
 simp only [go_sem]
 refine Zc ?_
 simp only [low,mayB]
def bitB (w d:Int):Bool:=(w / 2^(d%7).toNat)%2 == 1
def G4 (s:Srv) (d:Int):Bool:=decide (d ∈ s.extra) || (decide (s.from_≤d)&&decide (d<s.to)&&bitB s.week d&&!decide (d ∈ s.except))
theorem Zk7 {s:Srv} (h:mayB s=true):0≤s.from_∧s.from_≤s.to∧s.to≤1048576∧0≤s.week∧s.week<128∧s.extra.length≤100∧s.except.length≤100:=by
 simp only [mayB,Zam,Bool.and_eq_true,decide_eq_true_eq] at h
 obtain ⟨⟨⟨⟨⟨⟨⟨h1,h2⟩,h3⟩,h4⟩,h5⟩,h6⟩,h7⟩,h8⟩:=h
 exact ⟨h3,h4,h5,h1,h2,h6.1,h7.1⟩
theorem Zz0 (s:Srv) (f g:Bool) (d:Int) (H:AH) (hs:s.ok) (hm:mayB s=true):Called Tryz.prog F.service_runs [s.av f g,I d] H (Bl (G4 s d)) H:=by
 obtain ⟨m1,_⟩:=Zk7 hm
 refine Fd ?_
 simp only [Qz,go_sem,Srv.av,Srv.cells]
 refine Za (M9 s.extra f d _ hs.2.2.2.1) (fun _ => rfl) ?_
 simp only [go_sem]
 refine ⟨fun h => Zc (by simp [low,G4,h]),fun h => ⟨fun _ => by decide,fun hh => ?_,Zq (fun _ => M9 s.except g d _ hs.2.2.2.2) ?_⟩⟩
 ·simp only [Bool.and_eq_true,decide_eq_true_eq] at hh
  rw [Int.tmod_eq_emod_of_nonneg (by omega)]; omega
 ·simp only [go_sem]
  refine Zc ?_
  simp only [low,G4,h,decide_false,Bool.false_or]
  by_cases h1:s.from_≤d
  ·rw [Zol,Zrl _ _ (by omega)]; rfl
  ·simp [h1]
theorem Ztl (s:Srv) (f g:Bool) (d:Int) (H:AH) (hs:s.ok):Called Tryz.prog F.service_Runs [s.av f g,I d] H (Bl (mayB s&&G4 s d)) H:=by
 refine Ff ?_
 simp only [Q1,go_sem,Srv.av,Srv.cells]
 refine Za (Zvr s f g _ hs) (fun _ => rfl) ?_
 simp only [go_sem]
 refine Zq (fun h => Zz0 s f g d _ hs h) ?_
 simp only [go_sem]
 refine Zc ?_
 simp only [low]
set_option maxRecDepth 10000
theorem Zri (a b:Nat) (x:AV):fldV a (fldV b x)=fldV (b+a) x:=by
 cases x <;> simp [fldV,Nat.add_assoc]
theorem Zml (b:Nat) (x:AV):Hx (fldV b x)=Hx x:=by
 cases x <;> rfl
def isv (e:AV) (l:List Int):Prop:=(∃ f,e=vI l f)∨(e=nilS∧l=[])
theorem Zt6 {e:AV} {l:List Int} (h:isv e l):∃ f,Le e (vI l f):=by
 rcases h with ⟨f,rfl⟩ | ⟨rfl,rfl⟩
 ·exact ⟨f,.refl _⟩
 ·exact ⟨true,Nz true⟩
theorem Ub {e:AV} {l:List Int} (h:isv e l):Ny false e=True∧srcN e=l.length∧e.one=true∧e.cells=[e]∧e.un=e∧(∀ g,Yj g e=True):=by
 rcases h with ⟨f,rfl⟩ | ⟨rfl,rfl⟩
 ·exact ⟨rfl,by simp [vI,srcN],rfl,rfl,rfl,fun _ => rfl⟩
 ·exact ⟨rfl,rfl,rfl,rfl,rfl,fun _ => rfl⟩
structure Prd where
 id:Int
 mins:Int
 s:Srv
 e:AV
 x:AV
def Prd.ok (p:Prd):Prop:=ok64 p.id∧ok64 p.mins∧ok64 p.s.week∧ok64 p.s.from_∧ok64 p.s.to∧isv p.e p.s.extra∧isv p.x p.s.except
def Prd.few (p:Prd):Prop:=p.s.extra.length≤300∧p.s.except.length≤300
instance (p:Prd):Decidable p.few:=inferInstanceAs (Decidable (_∧_))
def Prd.sv (p:Prd):List AV:=[I p.s.week,I p.s.from_,I p.s.to,p.e,p.x]
def Prd.cells (p:Prd):List AV:=[I p.id,I p.mins,I p.s.week,I p.s.from_,I p.s.to,p.e,p.x]
theorem Prd.len (p:Prd):p.cells.length=7:=rfl
theorem Prd.sok {p:Prd} (h:p.ok) (hf:p.few):p.s.ok:=⟨h.2.2.1,h.2.2.2.1,h.2.2.2.2.1,by have:=hf.1; omega,by have:=hf.2; omega⟩
theorem Zw3 {a b:List AV} (h:LeL a b):Le (.agg a) (.agg b):=fun S y ⟨vs,h1,h2⟩ => ⟨vs,h1,h.rl h2⟩
theorem Prd.le {p:Prd} (h:p.ok):∃ f g,Le (.agg p.sv) (p.s.av f g):=by
 obtain ⟨f,hf⟩:=Zt6 h.2.2.2.2.2.1
 obtain ⟨g,hg⟩:=Zt6 h.2.2.2.2.2.2
 exact ⟨f,g,Zw3 ⟨.refl _,.refl _,.refl _,hf,hg,trivial⟩⟩
theorem Z38 {p:Prd} (H:AH) (h:p.ok) (hf:p.few):Called Tryz.prog F.service_May [.agg p.sv] H (Bl (mayB p.s)) H:=by
 obtain ⟨f,g,hl⟩:=Prd.le h
 exact (Zvr p.s f g H (Prd.sok h hf)).weak ⟨hl,trivial⟩
theorem Z04 {p:Prd} (d:Int) (H:AH) (h:p.ok) (hf:p.few):Called Tryz.prog F.service_Runs [.agg p.sv,I d] H (Bl (mayB p.s&&G4 p.s d)) H:=by
 obtain ⟨f,g,hl⟩:=Prd.le h
 exact (Ztl p.s f g d H (Prd.sok h hf)).weak ⟨hl,.refl _,trivial⟩
def noP:Prd:=⟨0,0,⟨0,0,0,[],[]⟩,nilS,nilS⟩
abbrev pcs (l:List Prd):List AV:=l.flatMap Prd.cells
def Iw (l:List Prd) (i:Nat):Bool:=let p:=l.getD i noP
 (((decide (p.id<1) || decide (16<p.id)) || (decide (0<i)&&decide (p.id≤(l.getD (i - 1) noP).id))) || decide (p.mins<1) || decide (1048576<p.mins)) || !mayB p.s
def Iv (l:List Prd):Bool:=decide (l.length≤16)&&decide (∀ i,i<l.length→Iw l i=false)
theorem Bx {l:List Prd} {i:Nat} (hi:i<l.length) (h:Iw l i=true):Iv l=false:=by
 rw [Iv,Bool.and_eq_false_iff]
 right
 rw [decide_eq_false_iff_not]
 exact fun hh => by have:=hh i hi; rw [h] at this; cases this
theorem Zp1 {l:List Prd} (h:∀ i,i<l.length→Iw l i=false):Iv l=decide (l.length≤16):=by
 rw [Iv,decide_eq_true h,Bool.and_true]
section
variable {H:AH} {x:AV} {l:List Prd}
theorem Sl.prd (h:Sl 7 H x (pcs l) l.length) {i:Nat} (hi:i<l.length):Yc true 7 H (Z5 7 (.lit (.int .i64 i)) x)=.agg (l.getD i noP).cells:=by
 rw [h.ldA _ hi (by decide),Xg _ 7 Prd.len _ _ noP hi]
theorem Sl.prd1 (h:Sl 7 H x (pcs l) l.length) {i:Nat} (hi:i<l.length) (o:Nat) (ho:o<7):Yc false 1 H (fldV o (Z5 7 (.lit (.int .i64 i)) x))=(l.getD i noP).cells.getD o .junk:=by
 rw [h.fd _ hi (by omega) (by decide),if_neg (by decide),W7 _ 7 Prd.len _ _ _ noP hi ho]
end
theorem Z35 {H:AH} {x:AV} {l:List Prd} (hx:Sl 7 H x (pcs l) l.length) (hl:∀ p ∈ l,p.ok) (hn:l.length≤140737488355328):Called Tryz.prog F.clapperref14_Few [x] H (Bl (decide (l.length≤60)&&decide (∀ p ∈ l,p.few))) H:=by
 refine Mv ?_
 simp only [Ti,go_sem]
 refine Z1 _ (fun (i:Nat) => ([(0,x),(3,I i)],H)) (fun i => i≤l.length∧∀ j,j<i→(l.getD j noP).few) (fun i => l.length - i) 0 ⟨Nat.zero_le _,fun j hj => by omega⟩ rfl ?_
 rintro i ⟨hi,hj⟩
 simp only [go_sem,hx.lenT,hx.n]
 refine ⟨fun h => ?_,fun h => ?_⟩
 ·have hlt:i<l.length:=by omega
  have hp:=hl _ (Zl noP hlt)
  have e1:=Ub hp.2.2.2.2.2.1
  have e2:=Ub hp.2.2.2.2.2.2
  have f1:=hx.fdOk .i64 hlt (o:=5) (m:=1) (by omega)
  have f2:=hx.fdOk .i64 hlt (o:=6) (m:=1) (by omega)
  simp only [go_sem,hx.idx,hx.un,hx.may,Zri,Zml,Nat.reduceAdd,f1,f2,hx.prd1 hlt 5 (by omega),hx.prd1 hlt 6 (by omega),Prd.cells,e1,e2]
  refine ⟨⟨by omega,by omega⟩,fun _ => ⟨by omega,by omega⟩,fun hb => ?_,fun hb => ?_⟩
  ·refine Zk ?_
   rw [show decide (∀ p ∈ l,p.few)=false from ?_,Bool.and_false]
   rw [decide_eq_false_iff_not]
   intro hh
   have:=hh _ (Zl noP hlt)
   simp only [Bool.or_eq_true,decide_eq_true_eq] at hb
   simp only [Prd.few] at this
   omega
  ·refine ⟨i+1,by rw [w64 _ (by omega) (by omega)]; rfl,⟨by omega,fun j hj' => ?_⟩,by omega⟩
   rcases Nat.lt_succ_iff_lt_or_eq.1 hj' with h1 | rfl
   ·exact hj j h1
   ·simp only [Bool.or_eq_false_iff,decide_eq_false_iff_not] at hb
    simp only [Prd.few]
    omega
 ·have:∀ p ∈ l,p.few:=fun p hp => by
   obtain ⟨j,hj',rfl⟩:=List.mem_iff_getElem.1 hp
   have:=hj j (by omega)
   rwa [List.getD_eq_getElem?_getD,List.getElem?_eq_getElem hj'] at this
  refine Zk ?_
  rw [decide_eq_true this,Bool.and_true]
  congr 2
  simp; omega
theorem Bz (l:List Prd) (i:Nat):Iw l i=((((decide ((l.getD i noP).id<1) || decide (16<(l.getD i noP).id)) || (decide (0<i)&&decide ((l.getD i noP).id≤(l.getD (i - 1) noP).id))) || decide ((l.getD i noP).mins<1) || decide (1048576<(l.getD i noP).mins)) || !mayB (l.getD i noP).s):=rfl
theorem Ztc {H:AH} {x:AV} {l:List Prd} (hx:Sl 7 H x (pcs l) l.length) (hl:∀ p ∈ l,p.ok∧p.few) (hn:l.length≤1000000):Called Tryz.prog F.fare_May [x] H (Bl (Iv l)) H:=by
 refine Zh9 ?_
 simp only [Hv,go_sem,hx.lenT,hx.n]
 refine Z1 _ (fun (s:Nat × AH) => ([(0,x),(5,x),(6,I l.length),(7,I s.1)],H++s.2)) (fun s => s.1≤l.length∧∀ j,j<s.1→Iw l j=false) (fun s => l.length - s.1) (0,[]) ⟨Nat.zero_le _,fun j hj => by omega⟩ (by rw [List.append_nil]; rfl) ?_
 rintro ⟨i,G⟩ ⟨hi,hj⟩
 dsimp only at hi hj
 simp only [go_sem]
 refine ⟨fun h => ?_,fun h => ?_⟩
 ·have hlt:i<l.length:=by omega
  obtain ⟨hp,hf⟩:=hl _ (Zl noP hlt)
  have v1:=Ub hp.2.2.2.2.2.1
  have v2:=Ub hp.2.2.2.2.2.2
  have hG:Sl 7 (H++G) x (pcs l) l.length:=hx.app
  have hK:∀ K,Sl 7 (H++(G++K)) x (pcs l) l.length:=fun K => hx.app
  have f7:=hG.ldOk .i64 hlt (Nat.le_refl 7)
  have sv:=fun H => Z38 H hp hf
  have next:∀ K,Iw l i=false→∃ a':Nat × AH,look [(0,x),(5,x),(6,I l.length),(7,AV.lit (Value.int IntKind.i64 (IntKind.i64.wrap (↑i+1))))]=look [(0,x),(5,x),(6,I l.length),(7,I a'.1)]∧H++K=H++a'.2∧(a'.1≤l.length∧∀ j,j<a'.1→Iw l j=false)∧l.length - a'.1<l.length - i:=by
   intro K hb
   refine ⟨(i+1,K),by rw [w64 _ (by omega) (by omega)]; rfl,rfl,⟨by show i+1≤_; omega,fun j hj' => ?_⟩,by show _ - (i+1)<_; omega⟩
   rcases Nat.lt_succ_iff_lt_or_eq.1 hj' with h1 | rfl
   ·exact hj j h1
   ·exact hb
  have pb:=Bz l i
  have ib:(0:Int)≤i∧(i:Int)<l.length:=⟨by omega,by omega⟩
  have hP:(l.getD i noP).cells=[I (l.getD i noP).id,I (l.getD i noP).mins,I (l.getD i noP).s.week,I (l.getD i noP).s.from_,I (l.getD i noP).s.to,(l.getD i noP).e,(l.getD i noP).x]:=rfl
  have hS:(l.getD i noP).sv=[I (l.getD i noP).s.week,I (l.getD i noP).s.from_,I (l.getD i noP).s.to,(l.getD i noP).e,(l.getD i noP).x]:=rfl
  simp only [go_sem,hG.idx,hG.un,f7,hG.prd hlt,hP,v1,v2]
  rcases Nat.eq_zero_or_pos i with h0 | h0
  ·have z0:decide ((0:Int)<i)=false:=by simp; omega
   have z1:decide (0<i)=false:=by simp; omega
   simp only [go_sem,z0]
   rw [z1] at pb
   simp only [Bool.false_and,Bool.or_false] at pb
   refine ⟨ib,hx.may _ ▸ trivial,Zq (fun _ => sv _) ?_⟩
   simp only [go_sem]
   exact ⟨fun hb => Zc (by rw [Bx hlt (pb.trans hb)]; rfl),fun hb => next _ (pb.trans hb)⟩
  ·have e1:IntKind.i64.wrap ((i:Int) - 1)=((i - 1:Nat):Int):=by rw [w64 _ (by omega) (by omega)]; omega
   have z0:decide ((0:Int)<i)=true:=by simp; omega
   have z1:decide (0<i)=true:=by simp; omega
   have lt1:i - 1<l.length:=by omega
   simp only [go_sem,z0,hx.may,hx.un,e1,(hK _).idx,(hx.fdOk .i64 lt1 (o:=0) (m:=1) (by omega)).1,((hK _).fdOk .i64 lt1 (o:=0) (m:=1) (by omega)).2,(hK _).prd1 lt1 0 (by omega),Prd.cells]
   rw [z1] at pb
   simp only [Bool.true_and] at pb
   refine ⟨ib,fun _ => ⟨by omega,by omega⟩,Zq (fun _ => sv _) ?_⟩
   simp only [go_sem]
   exact ⟨fun hb => Zc (by rw [Bx hlt (pb.trans hb)]; rfl),fun hb => next _ (pb.trans hb)⟩
 ·rw [hx.lenT,hx.n]
  refine ⟨trivial,Zc ?_⟩
  rw [Zp1 fun j hj' => hj j (by omega)]
  simp only [low]
  congr 2
  simp; omega
def At (l:List Prd) (n k:Int):Prop:=(k=-1∧∀ j,j<l.length→(l.getD j noP).id≠n)∨∃ j,j<l.length∧k=((j:Nat):Int)∧(l.getD j noP).id=n
theorem Zt8 (l:List Prd) (n:Int):At l n (fstA (fun p => p.id == n) l):=by
 unfold fstA
 cases h:l.findIdx? (fun p => p.id == n) with
 | none =>
  rw [List.findIdx?_eq_none_iff] at h
  refine .inl ⟨rfl,fun j hj => ?_⟩
  simpa using h _ (Zl noP hj)
 | some i =>
  rw [List.findIdx?_eq_some_iff_getElem] at h
  obtain ⟨hi,h1,_⟩:=h
  exact .inr ⟨i,hi,rfl,by rw [List.getD_eq_getElem?_getD,List.getElem?_eq_getElem hi]; simpa using h1⟩
end Go.Proofs.YtcgjlpdkobmpnaaGreat.Eng

