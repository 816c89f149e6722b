/- Layer 11: which serials are revoked: both sides. -/
import Derived.Test.YtcgjlpdkobmpnaaGreatMTl
import Derived.Test.YtcgjlpdkobmpnaaGreatMCc
import Derived.Test.YtcgjlpdkobmpnaaGreatME6
namespace Go.Proofs.YtcgjlpdkobmpnaaGreat.Eng
open Go Go.Proofs
set_option linter.unusedVariables false
set_option linter.unusedSimpArgs false
set_option maxRecDepth 10000
theorem Z12 {pf:Pf} {C:Ys} {Q:Ex→Env→AH→Prop} {l:List (Nat × AV)} {H:AH} {k:IC} {d j:Nat} {w:Bool} (f:Fn) (a b:List IArg):iwp pf C (qg d j w (.mkfn f a b) k) Q (look l) H=Yu w (fun g => (∀ x ∈ a++b,Yj g (em l x))∧iwp pf C k Q (look ((d,.may g (.fn f (a.map (er l)) (b.map (er l))))::l)) H) (look l j):=by
 simp only [qg,iwp,iopwp,Ins.args,iside,ival,imp_true_iff,true_and]; rfl
structure Rvk where
 serial:Int
 from_:Int
def Rvk.cells (r:Rvk):List AV:=[I r.serial,I r.from_]
theorem Rvk.len (r:Rvk):r.cells.length=2:=rfl
def noRv:Rvk:=⟨0,0⟩
abbrev rcs (l:List Rvk):List AV:=l.flatMap Rvk.cells
def Zbj (l:List Rvk) (i:Nat):Bool:=(((decide ((l.getD i noRv).serial<1) || decide (2147483647<(l.getD i noRv).serial)) || decide ((l.getD i noRv).from_<0)) || decide (1073741824<(l.getD i noRv).from_)) || (decide (0<i)&&decide ((l.getD i noRv).serial≤(l.getD (i - 1) noRv).serial))
def revB (l:List Rvk):Bool:=decide (l.length≤200)&&decide (∀ i,i<l.length→Zbj l i=false)
theorem Zee {l:List Rvk} {i:Nat} (hi:i<l.length) (h:Zbj l i=true):revB l=false:=by
 rw [revB,Bool.and_eq_false_iff]
 right
 rw [decide_eq_false_iff_not]
 exact fun hh => by have:=hh i hi; rw [h] at this; cases this
theorem Zvs {l:List Rvk} (h:∀ i,i<l.length→Zbj l i=false):revB l=decide (l.length≤200):=by
 rw [revB,decide_eq_true h,Bool.and_true]
theorem Zph (l:List Rvk) (i:Nat):Zbj l i=((((decide ((l.getD i noRv).serial<1) || decide (2147483647<(l.getD i noRv).serial)) || decide ((l.getD i noRv).from_<0)) || decide (1073741824<(l.getD i noRv).from_)) || (decide (0<i)&&decide ((l.getD i noRv).serial≤(l.getD (i - 1) noRv).serial))):=rfl
section
variable {H:AH} {x:AV} {l:List Rvk}
theorem Sl.rv2 (h:Sl 2 H x (rcs l) l.length) {i:Nat} (hi:i<l.length):Yc true 2 H (Z5 2 (.lit (.int .i64 i)) x)=.agg [I (l.getD i noRv).serial,I (l.getD i noRv).from_]:=by
 rw [h.ldA _ hi (by decide),Xh _ 2 Rvk.len _ _ noRv hi]; rfl
theorem Sl.rv1 (h:Sl 2 H x (rcs l) l.length) {i:Nat} (hi:i<l.length) (o:Nat) (ho:o<2):Yc false 1 H (fldV o (Z5 2 (.lit (.int .i64 i)) x))=[I (l.getD i noRv).serial,I (l.getD i noRv).from_].getD o .junk:=by
 rw [h.fd _ hi (by omega) (by decide),if_neg (by decide),W8 _ 2 Rvk.len _ _ _ noRv hi ho]; rfl
theorem Zi4 (hx:Sl 2 H x (rcs l) l.length) (hn:l.length≤1000000):Called Tryz.prog F.revoke_May [x] H (Bl (revB l)) H:=by
 refine A1 ?_
 simp only [N3,go_sem,hx.s]
 refine Z4 _ (fun (s:Nat × AH) => ([(0,x),(5,x),(6,I l.length),(7,I s.1)],H++s.2)) (fun s => s.1≤l.length∧∀ j,j<s.1→Zbj l j=false) (fun s => l.length - s.1) (0,[]) ⟨Nat.zero_le _,fun j hj => by omega⟩ (by rw [List.append_nil]; rfl) ?_
 rintro ⟨i,G⟩ ⟨hi,hj⟩
 dsimp only at hi hj
 simp only [go_sem]
 refine ⟨fun h => ?_,fun h => ?_⟩
 ·have hlt:i<l.length:=by omega
  have hG:∀ K,Sl 2 (H++K) x (rcs l) l.length:=fun K => hx.app
  have f7:=(hG G).ldOk .i64 hlt (Nat.le_refl 2)
  have next:∀ K,Zbj l i=false→∃ a':Nat × AH,look [(0,x),(5,x),(6,I l.length),(7,AV.lit (Value.int IntKind.i64 ((i+1:Nat):Int)))]=look [(0,x),(5,x),(6,I l.length),(7,I a'.1)]∧H++K=H++a'.2∧(a'.1≤l.length∧∀ j,j<a'.1→Zbj l j=false)∧l.length - a'.1<l.length - i:=by
   intro K hb
   refine ⟨(i+1,K),rfl,rfl,⟨by show i+1≤_; omega,fun j hj' => ?_⟩,by show _ - (i+1)<_; omega⟩
   rcases Nat.lt_succ_iff_lt_or_eq.1 hj' with h1 | rfl
   ·exact hj j h1
   ·exact hb
  have pb:=Zph l i
  have ib:(0:Int)≤i∧(i:Int)<l.length:=⟨by omega,by omega⟩
  have w1:IntKind.i64.wrap ((i:Int)+1)=((i+1:Nat):Int):=by rw [w64 _ (by omega) (by omega)]; omega
  simp only [go_sem,hx.s,hx.idx,f7,(hG G).rv2 hlt]
  rcases Nat.eq_zero_or_pos i with h0 | h0
  ·have z0:decide ((0:Int)<i)=false:=by simp; omega
   have z1:decide (0<i)=false:=by simp; omega
   simp only [go_sem,z0,w1,hx.s]
   rw [z1] at pb
   simp only [Bool.false_and,Bool.or_false] at pb
   exact ⟨ib,fun hb => Zc (by rw [Zee hlt (pb.trans hb)]; rfl),fun hb => next _ (pb.trans hb)⟩
  ·have e1:IntKind.i64.wrap ((i:Int) - 1)=((i - 1:Nat):Int):=by rw [w64 _ (by omega) (by omega)]; omega
   have z0:decide ((0:Int)<i)=true:=by simp; omega
   have z1:decide (0<i)=true:=by simp; omega
   have lt1:i - 1<l.length:=by omega
   have ib1:(0:Int)≤((i - 1:Nat):Int)∧((i - 1:Nat):Int)<l.length:=⟨by omega,by omega⟩
   simp only [go_sem,z0,w1,hx.s,e1,hx.idx,(hx.fdOk .i64 lt1 (o:=0) (m:=1) (by omega)).1,((hG _).fdOk .i64 lt1 (o:=0) (m:=1) (by omega)).2,(hG _).rv1 lt1 0 (by omega)]
   rw [z1] at pb
   simp only [Bool.true_and] at pb
   exact ⟨ib,fun _ => ib1,fun hb => Zc (by rw [Zee hlt (pb.trans hb)]; rfl),fun hb => next _ (pb.trans hb)⟩
 ·simp only [hx.s]
  refine ⟨trivial,Zc ?_⟩
  rw [Zvs fun j hj' => hj j (by omega)]
  simp only [low]
  congr 2
  simp; omega
theorem Zzz (r:Rvk) (n m:Int) (p q:Nat) (hp:p<H.length) (ho:obj H p=⟨[I n],0,true⟩) (hq:q<H.length) (hoq:obj H q=⟨[I m],0,true⟩):Called Tryz.prog F.revoke_Is_1 [.agg [I r.serial,I r.from_],.ptr p 0,.ptr q 0] H (Bl (r.serial == n&&decide (r.from_≤m))) H:=by
 refine D9 ?_
 simp only [P2,go_sem,Ye _ _ hp,ho,Ye _ _ hq,hoq]
 exact ⟨by omega,fun _ => by omega,Zc rfl⟩
theorem Zz2 (hx:Sl 2 H x (rcs l) l.length) (hn:l.length≤1000000) (g:FuncId) (a b:List AV) (p:Rvk→Bool) (hg:∀ r ∈ l,Called Tryz.prog g (a++[.agg [I r.serial,I r.from_]]++b) H (Bl (p r)) H) :
  Called Tryz.prog F.slices_IndexFunc_api_Revoked_api_Revoked [x,.fn (.func g) a b] H (I (fstA p l)) H:=by
 refine Wg ?_
 simp only [Y6,go_sem,hx.lenT,hx.n]
 refine Z4 _ (fun (i:Nat) => ([(0,x),(1,.fn (.func g) a b),(7,I l.length),(8,I i)],H)) (fun i => i≤l.length∧∀ j,j<i→p (l.getD j noRv)=false) (fun i => l.length - i) 0 ⟨Nat.zero_le _,fun j hj => by omega⟩ rfl ?_
 rintro i ⟨hi,hj⟩
 simp only [go_sem]
 refine ⟨fun h => ?_,fun h => ?_⟩
 ·have hlt:i<l.length:=by omega
  simp only [go_sem,hx.idx,hx.un,hx.ldOk .i64 hlt (Nat.le_refl 2),hx.rv2 hlt]
  refine ⟨⟨by omega,by omega⟩,Za (by simpa using hg _ (Zm noRv hlt)) (fun _ => rfl) ?_⟩
  simp only [go_sem]
  refine ⟨fun he => ?_,fun he => ?_⟩
  ·exact Zp (by rw [Q4 noRv hlt he hj])
  ·refine ⟨i+1,by rw [w64 _ (by omega) (by omega)]; rfl,⟨by omega,fun j hj' => ?_⟩,by omega⟩
   rcases Nat.lt_succ_iff_lt_or_eq.1 hj' with h1 | rfl
   ·exact hj j h1
   ·exact he
 ·exact Zp (by rw [Q5 noRv fun j hj' => hj j (by omega)])
def Zq1 (l:List Rvk) (n m:Int):Bool:=decide (0≤fstA (fun r => r.serial == n&&decide (r.from_≤m)) l)
theorem t_Is (hx:Sl 2 H x (rcs l) l.length) (hn:l.length≤1000000) (n m:Int):Called Tryz.prog F.revoke_Is [x,I n,I m] H (Bl (revB l&&Zq1 l n m)) H:=by
 refine Zcu ?_
 simp only [Km,go_sem,hx.s]
 refine Za (Zi4 hx.app hn) (fun _ => rfl) ?_
 simp only [go_sem,hx.s,Z12]
 refine Zq (v:=Bl (Zq1 l n m)) (fun _ => ?_) ?_
 ·refine X9 ?_
  simp only [Yy,go_sem,hx.s]
  refine Za (Zz2 hx.app hn _ _ _ (fun r => r.serial == n&&decide (r.from_≤m)) (fun r _ => Zzz r n m _ _ (by simp) (by simp only [go_sem]) (by simp) (by simp only [go_sem]))) (fun _ => rfl) ?_
  simp only [go_sem]
  exact Zp rfl
 ·simp only [go_sem]
  exact Zc rfl
end
set_option maxRecDepth 10000
theorem Zq4 {l:List Int} {i:Nat} (h:i<l.length):l.getD i 0 ∈ l:=by
 rw [List.getD_eq_getElem?_getD,List.getElem?_eq_getElem h]; exact List.getElem_mem h
theorem Zp7 {l:List Int} {d:Int} (h:d ∈ l):∃ i,i<l.length∧l.getD i 0=d:=by
 obtain ⟨i,hi,e⟩:=List.mem_iff_getElem.1 h
 exact ⟨i,hi,by rw [List.getD_eq_getElem?_getD,List.getElem?_eq_getElem hi]; exact e⟩
def Kw (p:Int→Bool) (l:List Int):Int:=match l.findIdx? p with | some i => i | none => -1
theorem Hr {p:Int→Bool} {l:List Int} {i:Nat} (hi:i<l.length) (h:p (l.getD i 0)=true) (hj:∀ j,j<i→p (l.getD j 0)=false):Kw p l=i:=by
 have:l.findIdx? p=some i:=by
  rw [List.findIdx?_eq_some_iff_getElem]
  refine ⟨hi,?_,fun j hj' => ?_⟩
  ·rw [List.getD_eq_getElem?_getD,List.getElem?_eq_getElem hi] at h; exact h
  ·have:=hj j hj'
   rw [List.getD_eq_getElem?_getD,List.getElem?_eq_getElem (by omega)] at this
   simpa using this
 simp [Kw,this]
theorem Hs {p:Int→Bool} {l:List Int} (hj:∀ j,j<l.length→p (l.getD j 0)=false):Kw p l=-1:=by
 have:l.findIdx? p=none:=by
  rw [List.findIdx?_eq_none_iff]
  intro x hx
  obtain ⟨i,h1,h2⟩:=Zp7 hx
  rw [← h2]; exact hj i h1
 simp [Kw,this]
theorem As (p:Int→Bool) (l:List Int):decide (0≤Kw p l)=l.any p:=by
 unfold Kw
 cases h:l.findIdx? p with
 | none =>
  rw [List.findIdx?_eq_none_iff] at h
  have:l.any p=false:=by rw [List.any_eq_false]; intro x hx; simp [h x hx]
  rw [this]; rfl
 | some i =>
  rw [List.findIdx?_eq_some_iff_getElem] at h
  obtain ⟨hi,h1,_⟩:=h
  have:l.any p=true:=by rw [List.any_eq_true]; exact ⟨_,List.getElem_mem hi,h1⟩
  rw [this]; simp
theorem Zu4 (l:List Int) (full:Bool) (d:Int) (H:AH) (hl:l.length≤1000000):Called Tryz.prog F.slices_Index_int_int [vI l full,I d] H (I (Kw (fun x => d == x) l)) H:=by
 refine R6 ?_
 simp only [Vo,go_sem,vI]
 refine Z4 _ (fun (i:Nat) => ([(0,vI l full),(1,I d),(7,I l.length),(8,I i)],H)) (fun i => i≤l.length∧∀ j,j<i→(d == l.getD j 0)=false) (fun i => l.length - i) 0 ⟨Nat.zero_le _,fun j hj => by omega⟩ rfl ?_
 rintro i ⟨hi,hj⟩
 simp only [go_sem,vI]
 refine ⟨fun h => ?_,fun h => ?_⟩
 ·have hlt:i<l.length:=by omega
  simp only [go_sem,Zmw l i hlt]
  refine ⟨⟨by omega,by omega,by simp⟩,fun he => ?_,fun he => ?_⟩
  ·exact Zp (by rw [Hr hlt he hj])
  ·refine ⟨i+1,by rw [w64 _ (by omega) (by omega)]; rfl,⟨by omega,fun j hj' => ?_⟩,by omega⟩
   rcases Nat.lt_succ_iff_lt_or_eq.1 hj' with h1 | rfl
   ·exact hj j h1
   ·exact he
 ·exact Zp (by rw [Hs fun j hj' => hj j (by omega)])
theorem M3 (l:List Int) (full:Bool) (d:Int) (H:AH) (hl:l.length≤1000000):Called Tryz.prog F.slices_Contains_int_int [vI l full,I d] H (Bl (decide (d ∈ l))) H:=by
 refine Sm ?_
 simp only [Wx,go_sem]
 refine Za (Zu4 l full d H hl) (fun _ => rfl) ?_
 simp only [go_sem]
 refine Zp ?_
 rw [As]
 congr 2
 rw [Bool.eq_iff_iff,List.any_eq_true,decide_eq_true_eq]
 exact ⟨fun ⟨x,h1,h2⟩ => by rw [beq_iff_eq] at h2; exact h2 ▸ h1,fun h => ⟨d,h,by simp⟩⟩
theorem Za5 (l:List Int) (full:Bool) (g:FuncId) (a b:List AV) (p:Int→Bool) (H:AH) (hl:l.length≤1000000) (hg:∀ x ∈ l,Called Tryz.prog g (a++[I x]++b) H (Bl (p x)) H) :
  Called Tryz.prog F.slices_IndexFunc_int_int [vI l full,.fn (.func g) a b] H (I (Kw p l)) H:=by
 refine Tp ?_
 simp only [Wp,go_sem,vI]
 refine Z4 _ (fun (i:Nat) => ([(0,vI l full),(1,.fn (.func g) a b),(7,I l.length),(8,I i)],H)) (fun i => i≤l.length∧∀ j,j<i→p (l.getD j 0)=false) (fun i => l.length - i) 0 ⟨Nat.zero_le _,fun j hj => by omega⟩ rfl ?_
 rintro i ⟨hi,hj⟩
 simp only [go_sem,vI]
 refine ⟨fun h => ?_,fun h => ?_⟩
 ·have hlt:i<l.length:=by omega
  simp only [go_sem,Zmw l i hlt]
  refine ⟨⟨by omega,by omega,by simp⟩,Za (by simpa using hg _ (Zq4 hlt)) (fun _ => rfl) ?_⟩
  simp only [go_sem]
  refine ⟨fun he => ?_,fun he => ?_⟩
  ·exact Zp (by rw [Hr hlt he hj])
  ·refine ⟨i+1,by rw [w64 _ (by omega) (by omega)]; rfl,⟨by omega,fun j hj' => ?_⟩,by omega⟩
   rcases Nat.lt_succ_iff_lt_or_eq.1 hj' with h1 | rfl
   ·exact hj j h1
   ·exact he
 ·exact Zp (by rw [Hs fun j hj' => hj j (by omega)])
theorem Gs (l:List Int) (full:Bool) (g:FuncId) (a b:List AV) (p:Int→Bool) (H:AH) (hl:l.length≤1000000) (hg:∀ x ∈ l,Called Tryz.prog g (a++[I x]++b) H (Bl (p x)) H) :
  Called Tryz.prog F.slices_ContainsFunc_int_int [vI l full,.fn (.func g) a b] H (Bl (l.any p)) H:=by
 refine Ue ?_
 simp only [Wa,go_sem]
 refine Za (Za5 l full g a b p H hl hg) (fun _ => rfl) ?_
 simp only [go_sem]
 refine Zp ?_
 rw [As]
def Kx (l:List Int) (i:Nat):Prop:=l.getD i 0<0∨1048576<l.getD i 0∨(0<i∧l.getD i 0≤l.getD (i - 1) 0)
def Zah (l:List Int):Bool:=decide (l.length≤100)&&decide (∀ i,i<l.length→0≤l.getD i 0∧l.getD i 0≤1048576∧(0<i→l.getD (i - 1) 0<l.getD i 0))
theorem Zag {l:List Int} {i:Nat} (hi:i<l.length) (h:Kx l i):Zah l=false:=by
 unfold Zah
 rw [Bool.and_eq_false_iff]
 right
 rw [decide_eq_false_iff_not]
 intro hh
 have:=hh i hi
 rcases h with h | h | ⟨h0,h⟩
 ·omega
 ·omega
 ·have:=this.2.2 h0; omega
theorem Zrq {l:List Int} (h:∀ i,i<l.length→¬ Kx l i):Zah l=decide (l.length≤100):=by
 unfold Zah
 have:∀ i,i<l.length→0≤l.getD i 0∧l.getD i 0≤1048576∧(0<i→l.getD (i - 1) 0<l.getD i 0):=by
  intro i hi
  have:=h i hi
  simp only [Kx,not_or,not_and] at this
  exact ⟨by omega,by omega,fun h0 => by have:=this.2.2 h0; omega⟩
 rw [decide_eq_true this,Bool.and_true]
theorem Pk (l:List Int) (i:Nat):Kx l i↔((decide (l.getD i 0<0) || decide (1048576<l.getD i 0)) || (decide (0<i)&&decide (l.getD i 0≤l.getD (i - 1) 0)))=true:=by
 simp [Kx,or_assoc]
theorem Zta (l:List Int) (full:Bool) (H:AH) (hl:l.length≤1000000):Called Tryz.prog F.service_days [vI l full] H (Bl (Zah l)) H:=by
 refine G6 ?_
 simp only [Qz,go_sem,vI]
 refine Z4 _ (fun (i:Nat) => ([(0,vI l full),(5,vI l full),(6,I l.length),(7,I i)],H)) (fun i => i≤l.length∧∀ j,j<i→¬ Kx l j) (fun i => l.length - i) 0 ⟨Nat.zero_le _,fun j hj => by omega⟩ rfl ?_
 rintro i ⟨hi,hj⟩
 simp only [go_sem,vI]
 refine ⟨fun h => ?_,fun h => ?_⟩
 ·have hlt:i<l.length:=by omega
  have next:¬ Kx l i→∃ a',look [(0,AV.view (l.map I) l.length full),(5,AV.view (l.map I) l.length full),(6,I l.length),(7,AV.lit (Value.int IntKind.i64 (IntKind.i64.wrap (↑i+1))))]=look [(0,AV.view (l.map I) l.length full),(5,AV.view (l.map I) l.length full),(6,I l.length),(7,I (a':Nat))]∧(a'≤l.length∧∀ j,j<a'→¬ Kx l j)∧l.length - a'<l.length - i:=by
   intro hb
   refine ⟨i+1,by rw [w64 _ (by omega) (by omega)]; rfl,⟨by omega,fun j hj' => ?_⟩,by omega⟩
   rcases Nat.lt_succ_iff_lt_or_eq.1 hj' with h1 | rfl
   ·exact hj j h1
   ·exact hb
  rcases Nat.eq_zero_or_pos i with rfl | h0
  ·simp only [go_sem,Zmw l 0 hlt]
   simp only [go_sem,Int.ofNat_zero,Int.cast_ofNat_Int,Int.lt_irrefl,decide_false,Bool.and_false]
   refine ⟨by rw [List.length_map]; omega,fun hb => ?_,fun hb => ?_⟩
   ·exact Zp (by rw [Zag hlt ((Pk l 0).2 (by rw [hb]; rfl))])
   ·exact next fun hh => by rw [Pk,hb] at hh; simp at hh
  ·have e1:IntKind.i64.wrap ((i:Int) - 1)=((i - 1:Nat):Int):=by rw [w64 _ (by omega) (by omega)]; omega
   have e2:decide ((0:Int)<i)=true:=by simp; omega
   have e3:decide (0<i)=true:=by simp; omega
   simp only [go_sem,Zmw l i hlt,e1,e2,Zmw l (i - 1) (by omega)]
   refine ⟨⟨by omega,by omega,by simp⟩,fun _ => ⟨by omega,by omega,by simp⟩,fun hb => ?_,fun hb => ?_⟩
   ·exact Zp (by rw [Zag hlt ((Pk l i).2 (by rw [e3,Bool.true_and]; exact hb))])
   ·exact next fun hh => by rw [Pk,e3,Bool.true_and,hb] at hh; cases hh
 ·exact Zp (by rw [Zrq fun j hj' => hj j (by omega)]; simp; omega)
structure Srv where
 week:Int
 from_:Int
 to:Int
 extra:List Int
 except:List Int
def Srv.ok (s:Srv):Prop:=ok64 s.week∧ok64 s.from_∧ok64 s.to∧s.extra.length≤1000000∧s.except.length≤1000000
def Srv.cells (s:Srv) (f g:Bool):List AV:=[I s.week,I s.from_,I s.to,vI s.extra f,vI s.except g]
def Srv.av (s:Srv) (f g:Bool):AV:=.agg (s.cells f g)
theorem Z0j (s:Srv) (f g:Bool) (p:Nat) (d:Int) (H:AH) (hs:s.ok) (hp:p<H.length) (ho:obj H p=⟨s.cells f g,0,true⟩):Called Tryz.prog F.service_May_1 [I d,.ptr p 0] H (Bl (decide (d ∈ s.except))) H:=by
 refine H6 ?_
 simp only [Srv.cells] at ho
 simp only [Rv,go_sem,hp,ho]
 refine Za (M3 s.except g d H hs.2.2.2.2) (fun _ => rfl) ?_
 simp only [go_sem]
 exact Zp rfl
def mayB (s:Srv):Bool:=decide (0≤s.week)&&decide (s.week<128)&&decide (0≤s.from_)&&decide (s.from_≤s.to)&&decide (s.to≤1048576)&&Zah s.extra&&Zah s.except&&!(s.extra.any fun d => decide (d ∈ s.except))
theorem Zvg (s:Srv) (f g:Bool) (H:AH) (hs:s.ok):Called Tryz.prog F.service_May [s.av f g] H (Bl (mayB s)) H:=by
 refine D5 ?_
 simp only [Py,go_sem,Srv.av,Srv.cells]
 refine Zq (fun _ => Zta s.extra f _ hs.2.2.2.1) ?_
 simp only [go_sem]
 refine Zq (fun _ => Zta s.except g _ hs.2.2.2.2) ?_
 simp only [go_sem]
 refine Zq (fun _ => Gs s.extra f _ [] [.ptr H.length 0] (fun d => decide (d ∈ s.except)) _ hs.2.2.2.1 fun x hx => Z0j s f g H.length x _ hs (by simp) (by simp [Yq,Ni,Srv.cells])) ?_
 simp only [go_sem]
 refine Zc ?_
 simp only [low,mayB]
def bitB (w d:Int):Bool:=(w / 2^(d%7).toNat)%2 == 1
def Gu (s:Srv) (d:Int):Bool:=decide (d ∈ s.extra) || (decide (s.from_≤d)&&decide (d<s.to)&&bitB s.week d&&!decide (d ∈ s.except))
theorem Zk1 {s:Srv} (h:mayB s=true):0≤s.from_∧s.from_≤s.to∧s.to≤1048576∧0≤s.week∧s.week<128∧s.extra.length≤100∧s.except.length≤100:=by
 simp only [mayB,Zah,Bool.and_eq_true,decide_eq_true_eq] at h
 obtain ⟨⟨⟨⟨⟨⟨⟨h1,h2⟩,h3⟩,h4⟩,h5⟩,h6⟩,h7⟩,h8⟩:=h
 exact ⟨h3,h4,h5,h1,h2,h6.1,h7.1⟩
theorem Zzo (s:Srv) (f g:Bool) (d:Int) (H:AH) (hs:s.ok) (hm:mayB s=true):Called Tryz.prog F.service_runs [s.av f g,I d] H (Bl (Gu s d)) H:=by
 obtain ⟨m1,_⟩:=Zk1 hm
 refine G5 ?_
 simp only [Qy,go_sem,Srv.av,Srv.cells]
 refine Za (M3 s.extra f d _ hs.2.2.2.1) (fun _ => rfl) ?_
 simp only [go_sem]
 refine ⟨fun h => Zc (by simp [low,Gu,h]),fun h => ⟨fun _ => by decide,fun hh => ?_,Zq (fun _ => M3 s.except g d _ hs.2.2.2.2) ?_⟩⟩
 ·simp only [Bool.and_eq_true,decide_eq_true_eq] at hh
  rw [Int.tmod_eq_emod_of_nonneg (by omega)]; omega
 ·simp only [go_sem]
  refine Zc ?_
  simp only [low,Gu,h,decide_false,Bool.false_or]
  by_cases h1:s.from_≤d
  ·rw [Zoe,Zrc _ _ (by omega)]; rfl
  ·simp [h1]
theorem Ztb (s:Srv) (f g:Bool) (d:Int) (H:AH) (hs:s.ok):Called Tryz.prog F.service_Runs [s.av f g,I d] H (Bl (mayB s&&Gu s d)) H:=by
 refine G7 ?_
 simp only [Q0,go_sem,Srv.av,Srv.cells]
 refine Za (Zvg s f g _ hs) (fun _ => rfl) ?_
 simp only [go_sem]
 refine Zq (fun h => Zzo s f g d _ hs h) ?_
 simp only [go_sem]
 refine Zc ?_
 simp only [low]
set_option maxRecDepth 10000
theorem Zq9 (a b:Nat) (x:AV):fldV a (fldV b x)=fldV (b+a) x:=by
 cases x <;> simp [fldV,Nat.add_assoc]
theorem Zmf (b:Nat) (x:AV):Hq (fldV b x)=Hq x:=by
 cases x <;> rfl
def isv (e:AV) (l:List Int):Prop:=(∃ f,e=vI l f)∨(e=nilS∧l=[])
theorem Ztw {e:AV} {l:List Int} (h:isv e l):∃ f,Le e (vI l f):=by
 rcases h with ⟨f,rfl⟩ | ⟨rfl,rfl⟩
 ·exact ⟨f,.refl _⟩
 ·exact ⟨true,Ki true⟩
theorem Ub {e:AV} {l:List Int} (h:isv e l):Nu false e=True∧srcN e=l.length∧e.one=true∧e.cells=[e]∧e.un=e∧(∀ g,Yj g e=True):=by
 rcases h with ⟨f,rfl⟩ | ⟨rfl,rfl⟩
 ·exact ⟨rfl,by simp [vI,srcN],rfl,rfl,rfl,fun _ => rfl⟩
 ·exact ⟨rfl,rfl,rfl,rfl,rfl,fun _ => rfl⟩
structure Prd where
 id:Int
 mins:Int
 s:Srv
 e:AV
 x:AV
def Prd.ok (p:Prd):Prop:=ok64 p.id∧ok64 p.mins∧ok64 p.s.week∧ok64 p.s.from_∧ok64 p.s.to∧isv p.e p.s.extra∧isv p.x p.s.except
def Prd.few (p:Prd):Prop:=p.s.extra.length≤300∧p.s.except.length≤300
instance (p:Prd):Decidable p.few:=inferInstanceAs (Decidable (_∧_))
def Prd.sv (p:Prd):List AV:=[I p.s.week,I p.s.from_,I p.s.to,p.e,p.x]
def Prd.cells (p:Prd):List AV:=[I p.id,I p.mins,I p.s.week,I p.s.from_,I p.s.to,p.e,p.x]
theorem Prd.len (p:Prd):p.cells.length=7:=rfl
theorem Prd.sok {p:Prd} (h:p.ok) (hf:p.few):p.s.ok:=⟨h.2.2.1,h.2.2.2.1,h.2.2.2.2.1,by have:=hf.1; omega,by have:=hf.2; omega⟩
theorem Zwr {a b:List AV} (h:LeL a b):Le (.agg a) (.agg b):=fun S y ⟨vs,h1,h2⟩ => ⟨vs,h1,h.rl h2⟩
theorem Prd.le {p:Prd} (h:p.ok):∃ f g,Le (.agg p.sv) (p.s.av f g):=by
 obtain ⟨f,hf⟩:=Ztw h.2.2.2.2.2.1
 obtain ⟨g,hg⟩:=Ztw h.2.2.2.2.2.2
 exact ⟨f,g,Zwr ⟨.refl _,.refl _,.refl _,hf,hg,trivial⟩⟩
theorem Z3u {p:Prd} (H:AH) (h:p.ok) (hf:p.few):Called Tryz.prog F.service_May [.agg p.sv] H (Bl (mayB p.s)) H:=by
 obtain ⟨f,g,hl⟩:=Prd.le h
 exact (Zvg p.s f g H (Prd.sok h hf)).weak ⟨hl,trivial⟩
theorem Z0r {p:Prd} (d:Int) (H:AH) (h:p.ok) (hf:p.few):Called Tryz.prog F.service_Runs [.agg p.sv,I d] H (Bl (mayB p.s&&Gu p.s d)) H:=by
 obtain ⟨f,g,hl⟩:=Prd.le h
 exact (Ztb p.s f g d H (Prd.sok h hf)).weak ⟨hl,.refl _,trivial⟩
def noP:Prd:=⟨0,0,⟨0,0,0,[],[]⟩,nilS,nilS⟩
abbrev pcs (l:List Prd):List AV:=l.flatMap Prd.cells
def Ip (l:List Prd) (i:Nat):Bool:=let p:=l.getD i noP
 (((decide (p.id<1) || decide (16<p.id)) || (decide (0<i)&&decide (p.id≤(l.getD (i - 1) noP).id))) || decide (p.mins<1) || decide (1048576<p.mins)) || !mayB p.s
def Im (l:List Prd):Bool:=decide (l.length≤16)&&decide (∀ i,i<l.length→Ip l i=false)
theorem Bq {l:List Prd} {i:Nat} (hi:i<l.length) (h:Ip l i=true):Im l=false:=by
 rw [Im,Bool.and_eq_false_iff]
 right
 rw [decide_eq_false_iff_not]
 exact fun hh => by have:=hh i hi; rw [h] at this; cases this
theorem Zpr {l:List Prd} (h:∀ i,i<l.length→Ip l i=false):Im l=decide (l.length≤16):=by
 rw [Im,decide_eq_true h,Bool.and_true]
section
variable {H:AH} {x:AV} {l:List Prd}
theorem Sl.prd (h:Sl 7 H x (pcs l) l.length) {i:Nat} (hi:i<l.length):Yc true 7 H (Z5 7 (.lit (.int .i64 i)) x)=.agg (l.getD i noP).cells:=by
 rw [h.ldA _ hi (by decide),Xh _ 7 Prd.len _ _ noP hi]
theorem Sl.prd1 (h:Sl 7 H x (pcs l) l.length) {i:Nat} (hi:i<l.length) (o:Nat) (ho:o<7):Yc false 1 H (fldV o (Z5 7 (.lit (.int .i64 i)) x))=(l.getD i noP).cells.getD o .junk:=by
 rw [h.fd _ hi (by omega) (by decide),if_neg (by decide),W8 _ 7 Prd.len _ _ _ noP hi ho]
end
theorem Z3r {H:AH} {x:AV} {l:List Prd} (hx:Sl 7 H x (pcs l) l.length) (hl:∀ p ∈ l,p.ok) (hn:l.length≤140737488355328):Called Tryz.prog F.clapperref14_Few [x] H (Bl (decide (l.length≤60)&&decide (∀ p ∈ l,p.few))) H:=by
 refine Mr ?_
 simp only [Ti,go_sem]
 refine Z4 _ (fun (i:Nat) => ([(0,x),(3,I i)],H)) (fun i => i≤l.length∧∀ j,j<i→(l.getD j noP).few) (fun i => l.length - i) 0 ⟨Nat.zero_le _,fun j hj => by omega⟩ rfl ?_
 rintro i ⟨hi,hj⟩
 simp only [go_sem,hx.lenT,hx.n]
 refine ⟨fun h => ?_,fun h => ?_⟩
 ·have hlt:i<l.length:=by omega
  have hp:=hl _ (Zm noP hlt)
  have e1:=Ub hp.2.2.2.2.2.1
  have e2:=Ub hp.2.2.2.2.2.2
  have f1:=hx.fdOk .i64 hlt (o:=5) (m:=1) (by omega)
  have f2:=hx.fdOk .i64 hlt (o:=6) (m:=1) (by omega)
  simp only [go_sem,hx.idx,hx.un,hx.may,Zq9,Zmf,Nat.reduceAdd,f1,f2,hx.prd1 hlt 5 (by omega),hx.prd1 hlt 6 (by omega),Prd.cells,e1,e2]
  refine ⟨⟨by omega,by omega⟩,fun _ => ⟨by omega,by omega⟩,fun hb => ?_,fun hb => ?_⟩
  ·refine Zp ?_
   rw [show decide (∀ p ∈ l,p.few)=false from ?_,Bool.and_false]
   rw [decide_eq_false_iff_not]
   intro hh
   have:=hh _ (Zm noP hlt)
   simp only [Bool.or_eq_true,decide_eq_true_eq] at hb
   simp only [Prd.few] at this
   omega
  ·refine ⟨i+1,by rw [w64 _ (by omega) (by omega)]; rfl,⟨by omega,fun j hj' => ?_⟩,by omega⟩
   rcases Nat.lt_succ_iff_lt_or_eq.1 hj' with h1 | rfl
   ·exact hj j h1
   ·simp only [Bool.or_eq_false_iff,decide_eq_false_iff_not] at hb
    simp only [Prd.few]
    omega
 ·have:∀ p ∈ l,p.few:=fun p hp => by
   obtain ⟨j,hj',rfl⟩:=List.mem_iff_getElem.1 hp
   have:=hj j (by omega)
   rwa [List.getD_eq_getElem?_getD,List.getElem?_eq_getElem hj'] at this
  refine Zp ?_
  rw [decide_eq_true this,Bool.and_true]
  congr 2
  simp; omega
theorem Br (l:List Prd) (i:Nat):Ip l i=((((decide ((l.getD i noP).id<1) || decide (16<(l.getD i noP).id)) || (decide (0<i)&&decide ((l.getD i noP).id≤(l.getD (i - 1) noP).id))) || decide ((l.getD i noP).mins<1) || decide (1048576<(l.getD i noP).mins)) || !mayB (l.getD i noP).s):=rfl
theorem Zs2 {H:AH} {x:AV} {l:List Prd} (hx:Sl 7 H x (pcs l) l.length) (hl:∀ p ∈ l,p.ok∧p.few) (hn:l.length≤1000000):Called Tryz.prog F.fare_May [x] H (Bl (Im l)) H:=by
 refine Zh3 ?_
 simp only [Hm,go_sem,hx.lenT,hx.n]
 refine Z4 _ (fun (s:Nat × AH) => ([(0,x),(5,x),(6,I l.length),(7,I s.1)],H++s.2)) (fun s => s.1≤l.length∧∀ j,j<s.1→Ip l j=false) (fun s => l.length - s.1) (0,[]) ⟨Nat.zero_le _,fun j hj => by omega⟩ (by rw [List.append_nil]; rfl) ?_
 rintro ⟨i,G⟩ ⟨hi,hj⟩
 dsimp only at hi hj
 simp only [go_sem]
 refine ⟨fun h => ?_,fun h => ?_⟩
 ·have hlt:i<l.length:=by omega
  obtain ⟨hp,hf⟩:=hl _ (Zm noP hlt)
  have v1:=Ub hp.2.2.2.2.2.1
  have v2:=Ub hp.2.2.2.2.2.2
  have hG:Sl 7 (H++G) x (pcs l) l.length:=hx.app
  have hK:∀ K,Sl 7 (H++(G++K)) x (pcs l) l.length:=fun K => hx.app
  have f7:=hG.ldOk .i64 hlt (Nat.le_refl 7)
  have sv:=fun H => Z3u H hp hf
  have next:∀ K,Ip l i=false→∃ a':Nat × AH,look [(0,x),(5,x),(6,I l.length),(7,AV.lit (Value.int IntKind.i64 (IntKind.i64.wrap (↑i+1))))]=look [(0,x),(5,x),(6,I l.length),(7,I a'.1)]∧H++K=H++a'.2∧(a'.1≤l.length∧∀ j,j<a'.1→Ip l j=false)∧l.length - a'.1<l.length - i:=by
   intro K hb
   refine ⟨(i+1,K),by rw [w64 _ (by omega) (by omega)]; rfl,rfl,⟨by show i+1≤_; omega,fun j hj' => ?_⟩,by show _ - (i+1)<_; omega⟩
   rcases Nat.lt_succ_iff_lt_or_eq.1 hj' with h1 | rfl
   ·exact hj j h1
   ·exact hb
  have pb:=Br l i
  have ib:(0:Int)≤i∧(i:Int)<l.length:=⟨by omega,by omega⟩
  have hP:(l.getD i noP).cells=[I (l.getD i noP).id,I (l.getD i noP).mins,I (l.getD i noP).s.week,I (l.getD i noP).s.from_,I (l.getD i noP).s.to,(l.getD i noP).e,(l.getD i noP).x]:=rfl
  have hS:(l.getD i noP).sv=[I (l.getD i noP).s.week,I (l.getD i noP).s.from_,I (l.getD i noP).s.to,(l.getD i noP).e,(l.getD i noP).x]:=rfl
  simp only [go_sem,hG.idx,hG.un,f7,hG.prd hlt,hP,v1,v2]
  rcases Nat.eq_zero_or_pos i with h0 | h0
  ·have z0:decide ((0:Int)<i)=false:=by simp; omega
   have z1:decide (0<i)=false:=by simp; omega
   simp only [go_sem,z0]
   rw [z1] at pb
   simp only [Bool.false_and,Bool.or_false] at pb
   refine ⟨ib,hx.may _ ▸ trivial,Zq (fun _ => sv _) ?_⟩
   simp only [go_sem]
   exact ⟨fun hb => Zc (by rw [Bq hlt (pb.trans hb)]; rfl),fun hb => next _ (pb.trans hb)⟩
  ·have e1:IntKind.i64.wrap ((i:Int) - 1)=((i - 1:Nat):Int):=by rw [w64 _ (by omega) (by omega)]; omega
   have z0:decide ((0:Int)<i)=true:=by simp; omega
   have z1:decide (0<i)=true:=by simp; omega
   have lt1:i - 1<l.length:=by omega
   simp only [go_sem,z0,hx.may,hx.un,e1,(hK _).idx,(hx.fdOk .i64 lt1 (o:=0) (m:=1) (by omega)).1,((hK _).fdOk .i64 lt1 (o:=0) (m:=1) (by omega)).2,(hK _).prd1 lt1 0 (by omega),Prd.cells]
   rw [z1] at pb
   simp only [Bool.true_and] at pb
   refine ⟨ib,fun _ => ⟨by omega,by omega⟩,Zq (fun _ => sv _) ?_⟩
   simp only [go_sem]
   exact ⟨fun hb => Zc (by rw [Bq hlt (pb.trans hb)]; rfl),fun hb => next _ (pb.trans hb)⟩
 ·rw [hx.lenT,hx.n]
  refine ⟨trivial,Zc ?_⟩
  rw [Zpr fun j hj' => hj j (by omega)]
  simp only [low]
  congr 2
  simp; omega
def At (l:List Prd) (n k:Int):Prop:=(k=-1∧∀ j,j<l.length→(l.getD j noP).id≠n)∨∃ j,j<l.length∧k=((j:Nat):Int)∧(l.getD j noP).id=n
theorem Zty (l:List Prd) (n:Int):At l n (fstA (fun p => p.id == n) l):=by
 unfold fstA
 cases h:l.findIdx? (fun p => p.id == n) with
 | none =>
  rw [List.findIdx?_eq_none_iff] at h
  refine .inl ⟨rfl,fun j hj => ?_⟩
  simpa using h _ (Zm noP hj)
 | some i =>
  rw [List.findIdx?_eq_some_iff_getElem] at h
  obtain ⟨hi,h1,_⟩:=h
  exact .inr ⟨i,hi,rfl,by rw [List.getD_eq_getElem?_getD,List.getElem?_eq_getElem hi]; simpa using h1⟩
end Go.Proofs.YtcgjlpdkobmpnaaGreat.Eng

