/- Layer 10: what bytes check as with keys: both sides. -/
import Derived.Test.YtcgjlpdkobmpnaaGreatMRf
import Derived.Test.YtcgjlpdkobmpnaaGreatMKy
import Derived.Test.YtcgjlpdkobmpnaaGreatMRv
import Derived.Test.YtcgjlpdkobmpnaaGreatMTk
import Derived.Test.YtcgjlpdkobmpnaaGreatMRc
namespace Go.Proofs.YtcgjlpdkobmpnaaGreat.Eng
open Go Go.Proofs
set_option linter.unusedVariables false
set_option linter.unusedSimpArgs false
set_option maxRecDepth 10000
noncomputable def Rn (l:List Key) (b:List UInt8) (m:Int):Tkt × Int:=match I1 b with
 | none => (noTk,2)
 | some (t,_,_) => match fOf l t.key m with
  | none => (noTk,4)
  | some k => Mz b k.x k.y k.far
theorem e5:[AV.lit (Value.int IntKind.i64 0),AV.lit (Value.int IntKind.i64 0),AV.lit (Value.int IntKind.i64 0),AV.lit (Value.int IntKind.i64 0),AV.lit (Value.int IntKind.i64 0)]=noTk.cells:=rfl
theorem Zw2 (ren:Nat→Option Nat) (H:AH) (n:Int):low ren H (errO n)=errO n:=by unfold errO; split <;> rfl
theorem Zd6 {H:AH} {x y:AV} {l:List Key} {b:List UInt8} (hx:Sl 12 H x (kcs l) l.length) (hl:∀ p ∈ l,p.ok) (hn:l.length≤1000000) (hy:Sl 1 H y (bs b) b.length) (hb:b.length≤100000) (m:Int) :
  Called Tryz.prog F.keys_Check [x,y,I m] H (.tup [.agg (if Rm l then Rn l b m else (noTk,1)).1.cells,errO (if Rm l then Rn l b m else (noTk,1)).2]) H:=by
 have e8:[Z0,Z0,Z0,Z0,Z0,Z0,Z0,Z0]=sgc 0 0:=rfl
 have ez:[Z0,Z0,Z0,Z0,Z0,Z0,Z0,Z0,Bl false]=pcell 0 0 false:=rfl
 refine Zaa ?_
 simp only [Mc,go_sem,hx.s,hy.s]
 refine Za (Zd5 hx.app hl hn) (fun _ => rfl) ?_
 cases hk:Rm l
 ·simp only [go_sem,hx.s,hy.s,Zr,fillv]
  exact Zc rfl
 ·rw [if_pos rfl]
  simp only [go_sem,hx.s,hy.s,Zr,fillv]
  refine Za (Ztm hy.app hb) (fun _ => rfl) ?_
  cases hO:I1 b with
  | none =>
   have ec:Rn l b m=(noTk,2):=by rw [Rn,hO]
   rw [ec]
   simp only [Zkq,go_sem,hx.s,hy.s,Zr,fillv,e8,Y1,Yv,Y2,Yd,Tkt.cells]
   exact Zc rfl
  | some p =>
   obtain ⟨t,r,s⟩:=p
   have ec:Rn l b m=match fOf l t.key m with | none => (noTk,4) | some k => Mz b k.x k.y k.far:=by rw [Rn,hO]
   rw [ec]
   simp only [Zkq,go_sem,hx.s,hy.s,Zr,fillv,e8,Y1,Yv,Y2,Yd,Tkt.cells]
   refine Za (Zti hx.app hn t.key m) (fun _ => rfl) ?_
   cases hf:fOf l t.key m with
   | none =>
    simp only [go_sem,ptO,Option.isSome,hx.s,hy.s,Zr,fillv,e8,Y1,Yv,Y2,Yd,Xk,Yb,Zb1]
    exact Zc rfl
   | some k =>
    have ko:=Z2o hl hf
    simp only [go_sem,ptO,Option.isSome,hx.s,hy.s,Zr,fillv,e8,Y1,Yv,Y2,Yd,Xk,Yb,Zb1,Yk]
    refine Za (Zvs hy.app hb ko.2.1 ko.2.2.1) (fun _ => rfl) ?_
    generalize Mz b k.x k.y k.far=c
    obtain ⟨t',n⟩:=c
    simp only [go_sem]
    exact Zc (by simp only [low,lowL,Zw2])
set_option maxRecDepth 10000
theorem Zdy (t:Tkt):t.cells.all AV.one=true:=rfl
theorem Zdz (t:Tkt):t.cells.length=5:=rfl
theorem M7 (t:Tkt):t.cells.take 5=t.cells:=rfl
theorem Zdx (t u:Tkt):splice t.cells 0 u.cells=u.cells:=Zy rfl
theorem Zxl {α:Type} (d:α) (p:α→Bool) (l:List α):(fstA p l=-1∧∀ j,j<l.length→p (l.getD j d)=false)∨∃ j,j<l.length∧fstA p l=((j:Nat):Int)∧p (l.getD j d)=true:=by
 unfold fstA
 cases h:l.findIdx? p with
 | none =>
  rw [List.findIdx?_eq_none_iff] at h
  exact .inl ⟨rfl,fun j hj => by simpa using h _ (Zl d hj)⟩
 | some i =>
  rw [List.findIdx?_eq_some_iff_getElem] at h
  obtain ⟨hi,h1,_⟩:=h
  exact .inr ⟨i,hi,rfl,by rw [List.getD_eq_getElem?_getD,List.getElem?_eq_getElem hi]; simpa using h1⟩
section
variable {H:AH} {x:AV} {l:List Rvk}
end
set_option maxRecDepth 10000
def plcB (z m:Int):Bool:=(inB 0 7 z&&decide (0≤m))&&decide (m≤1073741824)
theorem Z32 (z m:Int) (H:AH):Called Tryz.prog F.fare_place [I z,I m] H (Bl (plcB z m)) H:=by
 refine Zac ?_
 simp only [Me,go_sem]
 refine Zk ?_
 rw [plcB,inB,show decide (z≤7)=decide (z<8) by simp; omega]
def Zyx (n z:Int):Bool:=(n / 2^z.toNat)%2 == 1
theorem Zzs (t:Tkt) (z:Int) (H:AH) (hz:0≤z) (hz7:z≤7) (ht:0≤t.zones):Called Tryz.prog F.fare_in [.agg t.cells,I z] H (Bl (Zyx t.zones z)) H:=by
 refine Znb ?_
 simp only [Ei,go_sem]
 refine ⟨hz,Zc ?_⟩
 simp only [low]
 rw [show min z.toNat 64=z.toNat by omega,Zol,Int.fdiv_eq_ediv_of_nonneg _ (by exact Int.le_of_lt (Int.pow_pos (by decide)))]; rfl
def Zu1 (p:Prd) (t:Tkt) (m:Int):Bool:=(decide (t.from_≤m)&&decide (m<t.from_+p.mins))&&G4 p.s (m / 1440)
theorem Zzu {p:Prd} (t:Tkt) (m:Int) (H:AH) (hp:p.ok) (hf:p.few) (hm:mayB p.s=true) (h0:0≤m) (h1:m≤1073741824) (h2:0≤t.from_) (h3:t.from_≤1073741824) (h4:1≤p.mins) (h5:p.mins≤1048576):Called Tryz.prog F.fare_then [.agg p.cells,.agg t.cells,I m] H (Bl (Zu1 p t m)) H:=by
 have v1:=Ub hp.2.2.2.2.2.1
 have v2:=Ub hp.2.2.2.2.2.2
 have sr:=fun d H => Z04 d H hp hf
 simp only [hm,Bool.true_and,Prd.sv] at sr
 refine Zc8 ?_
 simp only [Ky,go_sem,Prd.cells,v1,v2]
 have e1:IntKind.i64.wrap (m.tdiv 1440)=m / 1440:=by rw [Int.tdiv_eq_ediv_of_nonneg h0,w64 _ (by omega) (by omega)]
 rw [e1]
 refine ⟨fun _ => by decide,Zq (fun _ => sr _ _) ?_⟩
 simp only [go_sem]
 refine Zc ?_
 rw [w64 (t.from_+p.mins) (by omega) (by omega)]
 rfl
theorem Zva {p:Prd} (t:Tkt) (q:Nat) (H:AH) (hp:p.ok) (hq:q<H.length) (ho:obj H q=⟨t.cells,0,true⟩):Called Tryz.prog F.fare_product_1 [.agg p.cells,.ptr q 0] H (Bl (p.id == t.product)) H:=by
 have v1:=Ub hp.2.2.2.2.2.1
 have v2:=Ub hp.2.2.2.2.2.2
 refine Jm ?_
 simp only [Rd,go_sem,Prd.cells,v1,v2,Yf _ _ hq,ho]
 exact ⟨by omega,Zc rfl⟩
theorem Z0g {H:AH} {x:AV} {l:List Prd} (hx:Sl 7 H x (pcs l) l.length) (hn:l.length≤1000000) (g:FuncId) (a b:List AV) (p:Prd→Bool) (hg:∀ r ∈ l,Called Tryz.prog g (a++[.agg r.cells]++b) H (Bl (p r)) H) :
  Called Tryz.prog F.slices_IndexFunc_api_Product_api_Product [x,.fn (.func g) a b] H (I (fstA p l)) H:=by
 refine Wh ?_
 simp only [Y7,go_sem,hx.lenT,hx.n]
 refine Z1 _ (fun (i:Nat) => ([(0,x),(1,.fn (.func g) a b),(7,I l.length),(8,I i)],H)) (fun i => i≤l.length∧∀ j,j<i→p (l.getD j noP)=false) (fun i => l.length - i) 0 ⟨Nat.zero_le _,fun j hj => by omega⟩ rfl ?_
 rintro i ⟨hi,hj⟩
 simp only [go_sem]
 refine ⟨fun h => ?_,fun h => ?_⟩
 ·have hlt:i<l.length:=by omega
  simp only [go_sem,hx.idx,hx.un,hx.ldOk .i64 hlt (Nat.le_refl 7),hx.prd hlt]
  refine ⟨⟨by omega,by omega⟩,Za (by simpa using hg _ (Zl noP hlt)) (fun _ => rfl) ?_⟩
  simp only [go_sem]
  refine ⟨fun he => ?_,fun he => ?_⟩
  ·exact Zk (by rw [Q6 noP hlt he hj])
  ·refine ⟨i+1,by rw [w64 _ (by omega) (by omega)]; rfl,⟨by omega,fun j hj' => ?_⟩,by omega⟩
   rcases Nat.lt_succ_iff_lt_or_eq.1 hj' with h1 | rfl
   ·exact hj j h1
   ·exact he
 ·exact Zk (by rw [Q7 noP fun j hj' => hj j (by omega)])
theorem Zlt {e:AV} {l:List Int} (h:isv e l) (ren:Nat→Option Nat) (H:AH):low ren H e=e:=by
 rcases h with ⟨f,rfl⟩ | ⟨rfl,_⟩
 ·have:∀ l:List Int,lowL ren H (l.map I)=l.map I:=fun l => by
   induction l with
   | nil => rfl
   | cons a r ih => simp only [List.map_cons,lowL,ih]; rfl
  simp only [vI,low,this]
 ·rfl
def kOf (l:List Prd) (n:Int):Int:=fstA (fun p => p.id == n) l
def pOf (l:List Prd) (k:Int):Prd:=if k<0 then noP else l.getD k.toNat noP
theorem Ztz {l:List Prd} (hl:∀ p ∈ l,p.ok∧p.few) {n k:Int} (h:At l n k):(pOf l k).ok∧(pOf l k).few:=by
 rcases h with ⟨rfl,_⟩ | ⟨j,hj,rfl,_⟩
 ·rw [show pOf l (-1)=noP from rfl]
  have z:ok64 0:=⟨by decide,by decide⟩
  exact ⟨⟨z,z,z,z,z,.inr ⟨rfl,rfl⟩,.inr ⟨rfl,rfl⟩⟩,by decide⟩
 ·rw [pOf,if_neg (by omega)]; exact hl _ (Zl noP hj)
theorem Zi9 {H:AH} {x:AV} {l:List Prd} (hx:Sl 7 H x (pcs l) l.length) (hl:∀ p ∈ l,p.ok∧p.few) (hn:l.length≤1000000) (t:Tkt):Called Tryz.prog F.fare_product [x,.agg t.cells] H (.tup [.agg (pOf l (kOf l t.product)).cells,Bl (decide (0≤kOf l t.product))]) H:=by
 refine Fi ?_
 simp only [Q4,go_sem]
 have hG:∀ K,Sl 7 (H++K) x (pcs l) l.length:=fun K => hx.app
 have hk:=Zt8 l t.product
 have hpk:=Ztz hl hk
 have hi:=fun K => Z0g (hG K) hn F.fare_product_1 [] [.ptr H.length 0] (fun p => p.id == t.product)
 rw [show fstA (fun p => p.id == t.product) l=kOf l t.product from rfl] at hk hi hpk
 generalize kOf l t.product=k at hk hi hpk ⊢
 refine Za (hi _ fun r hr => Zva t H.length _ (hl r hr).1 (by simp) (by simp [Ym,Nm])) (fun _ => rfl) ?_
 simp only [go_sem,Zr,fillv,hx.un,AV.one,Value.oneCell',List.all_cons,List.all_nil]
 rcases hk with ⟨rfl,_⟩ | ⟨j,hj,rfl,_⟩
 ·refine ⟨fun _ => Zc rfl,fun h => absurd h (by decide)⟩
 ·have v1:=Ub hpk.1.2.2.2.2.2.1
  have v2:=Ub hpk.1.2.2.2.2.2.2
  have w1:=Zlt hpk.1.2.2.2.2.2.1
  have w2:=Zlt hpk.1.2.2.2.2.2.2
  rw [pOf,if_neg (by omega),Int.toNat_natCast] at v1 v2 w1 w2 ⊢
  simp only [go_sem,hx.idx,(hG _).ldOk .i64 hj (Nat.le_refl 7),(hG _).prd hj,Prd.cells,v1,v2]
  refine ⟨fun h => absurd h (by simp),fun h => ⟨⟨by omega,by omega⟩,Zc ?_⟩⟩
  simp only [low,lowL,w1,w2]
  rfl
def covB (l:List Prd) (t:Tkt) (z m:Int):Bool:=(decide (0≤kOf l t.product)&&Zyx t.zones z)&&Zu1 (pOf l (kOf l t.product)) t m
def Gp (l:List Prd) (t:Tkt) (z m:Int):Bool:=((Iv l&&tktB t)&&plcB z m)&&covB l t z m
theorem Zi4 {t:Tkt} (h:tktB t=true):0≤t.from_∧t.from_≤1073741824∧1≤t.zones∧t.zones≤255:=by
 simp only [tktB,inB,Bool.and_eq_true,decide_eq_true_eq] at h; omega
theorem Zkj {z m:Int} (h:plcB z m=true):0≤z∧z≤7∧0≤m∧m≤1073741824:=by
 simp only [plcB,inB,Bool.and_eq_true,decide_eq_true_eq] at h; omega
theorem Zgn {l:List Prd} (h:Iv l=true) {j:Nat} (hj:j<l.length):1≤(l.getD j noP).mins∧(l.getD j noP).mins≤1048576∧mayB (l.getD j noP).s=true:=by
 simp only [Iv,Bool.and_eq_true,decide_eq_true_eq] at h
 have h1:=h.2 j hj
 rw [Bz] at h1
 simp only [Bool.or_eq_false_iff,Bool.and_eq_false_iff,decide_eq_false_iff_not,Bool.not_eq_false'] at h1
 exact ⟨by omega,by omega,h1.2⟩
theorem Zpb {H:AH} {x:AV} {l:List Prd} (hx:Sl 7 H x (pcs l) l.length) (hl:∀ p ∈ l,p.ok∧p.few) (hn:l.length≤1000000) (t:Tkt) (z m:Int):Called Tryz.prog F.fare_Covers [x,.agg t.cells,I z,I m] H (Bl (Gp l t z m)) H:=by
 refine Cp ?_
 have hG:∀ K,Sl 7 (H++K) x (pcs l) l.length:=fun K => hx.app
 simp only [P8,go_sem]
 refine Za (Ztc (hG _) hl hn) (fun _ => rfl) ?_
 simp only [go_sem]
 refine Zq (fun _ => Zs9 t _) ?_
 simp only [go_sem]
 refine Zq (fun _ => Z32 _ _ _) ?_
 simp only [go_sem]
 refine ⟨fun h => Zc ?_,fun h => ?_⟩
 ·simp only [low,Gp]
  have:((Iv l&&tktB t)&&plcB z m)=false:=by
   simp only [Bool.or_eq_true,Bool.not_eq_true'] at h
   rcases h with (h | h) | h <;> simp [h]
  rw [this,Bool.false_and]
 ·have hh:Iv l=true∧tktB t=true∧plcB z m=true:=by
   simp only [Bool.or_eq_false_iff,Bool.not_eq_false'] at h
   exact ⟨h.1.1,h.1.2,h.2⟩
  obtain ⟨h1,h2,h3⟩:=hh
  obtain ⟨a1,a2,a3,a4⟩:=Zi4 h2
  obtain ⟨b1,b2,b3,b4⟩:=Zkj h3
  refine Za (Zi9 (hG _) hl hn t) (fun _ => rfl) ?_
  rw [Gp,h1,h2,h3,Bool.true_and,Bool.true_and,Bool.true_and,covB]
  have hk:At l t.product (kOf l t.product):=Zt8 l t.product
  have hpk:=Ztz hl hk
  have v1:=Ub hpk.1.2.2.2.2.2.1
  have v2:=Ub hpk.1.2.2.2.2.2.2
  have tt:0≤kOf l t.product→∀ H,Called Tryz.prog F.fare_then [.agg (pOf l (kOf l t.product)).cells,.agg t.cells,I m] H (Bl (Zu1 (pOf l (kOf l t.product)) t m)) H:=fun h H => by
   have:1≤(pOf l (kOf l t.product)).mins∧(pOf l (kOf l t.product)).mins≤1048576∧mayB (pOf l (kOf l t.product)).s=true:=by
    rcases hk with ⟨e,_⟩ | ⟨j,hj,e,_⟩
    ·omega
    ·rw [e,pOf,if_neg (by omega)]; exact Zgn h1 hj
   exact Zzu t m H hpk.1 hpk.2 this.2.2 b3 b4 a1 a2 this.1 this.2.1
  generalize kOf l t.product=k at *
  generalize pOf l k=p at *
  simp only [go_sem,Prd.cells,v1,v2]
  refine Zq (fun _ => Zzs t z _ b1 b2 (by omega)) ?_
  simp only [go_sem]
  refine Zq (fun h => tt ?_ _) ?_
  ·simp only [Bool.and_eq_true,decide_eq_true_eq] at h; exact h.1
  simp only [go_sem]
  exact Zc rfl
set_option maxRecDepth 10000
theorem Z2p (n:Int):(n=0∧errO n=nilE)∨(n≠0∧errO n=.lit (.iface T.api_Code (.int .i64 n))):=by
 unfold errO
 split
 ·rename_i h; exact .inl ⟨h,rfl⟩
 ·rename_i h; exact .inr ⟨h,rfl⟩
section
variable {H:AH} {xk xr xl xb:AV} {k:List Key} {r:List Rvk} {l:List Prd} {b:List UInt8}
end
def mrgF:Nat→List Rvk→List Rvk→List Rvk
 | 0,_,_ => []
 | n+1,[],[] => []
 | n+1,x::a,[] => x::mrgF n a []
 | n+1,[],y::b => y::mrgF n [] b
 | n+1,x::a,y::b => if x.serial<y.serial then x::mrgF n a (y::b) else if y.serial<x.serial then y::mrgF n (x::a) b else ⟨x.serial,min x.from_ y.from_⟩::mrgF n a b
def mrg (a b:List Rvk):List Rvk:=mrgF (a.length+b.length) a b
theorem Zqf:∀ n,mrgF n [] []=[]
 | 0 => rfl
 | _+1 => rfl
def sg:Int→List Rvk→Prop
 | _,[] => True
 | lo,r::l => lo<r.serial∧r.serial≤2147483647∧0≤r.from_∧r.from_≤1073741824∧sg r.serial l
theorem Fv:∀ (n:Nat) (lo:Int) (a b:List Rvk),sg lo a→sg lo b→sg lo (mrgF n a b)
 | 0,_,_,_,_,_ => trivial
 | n+1,lo,[],[],_,_ => trivial
 | n+1,lo,x::a,[],⟨h1,h2,h3,h4,h5⟩,_ => ⟨h1,h2,h3,h4,Fv n _ a [] h5 trivial⟩
 | n+1,lo,[],y::b,_,⟨h1,h2,h3,h4,h5⟩ => ⟨h1,h2,h3,h4,Fv n _ [] b trivial h5⟩
 | n+1,lo,x::a,y::b,⟨h1,h2,h3,h4,h5⟩,⟨g1,g2,g3,g4,g5⟩ => by
  rw [mrgF]
  split
  ·rename_i h
   exact ⟨h1,h2,h3,h4,Fv n _ a (y::b) h5 ⟨h,g2,g3,g4,g5⟩⟩
  ·split
   ·rename_i h
    exact ⟨g1,g2,g3,g4,Fv n _ (x::a) b ⟨h,h2,h3,h4,h5⟩ g5⟩
   ·have e:x.serial=y.serial:=by omega
    exact ⟨h1,h2,by show 0≤min _ _; omega,by show min _ _≤_; omega,Fv n _ a b h5 (e ▸ g5)⟩
def gn (s m:Int) (l:List Rvk):Prop:=∃ r ∈ l,r.serial=s∧r.from_≤m
theorem An (s m:Int):∀ (n:Nat) (a b:List Rvk),a.length+b.length≤n→gn s m a→gn s m (mrgF n a b)
 | 0,a,b,h,⟨r,hr,_⟩ => by
  have:a=[]:=List.eq_nil_of_length_eq_zero (by omega)
  subst this; cases hr
 | n+1,[],b,_,⟨r,hr,_⟩ => by cases hr
 | n+1,x::a,[],h,⟨r,hr,h2⟩ => by
  rw [mrgF]
  rcases List.mem_cons.1 hr with rfl | hr
  ·exact ⟨_,List.mem_cons_self ..,h2⟩
  ·obtain ⟨q,hq,hq2⟩:=An s m n a [] (by simp only [List.length_cons,List.length_nil] at *; omega) ⟨r,hr,h2⟩
   exact ⟨q,List.mem_cons_of_mem _ hq,hq2⟩
 | n+1,x::a,y::b,h,⟨r,hr,h2⟩ => by
  simp only [List.length_cons] at h
  rw [mrgF]
  split
  ·rcases List.mem_cons.1 hr with rfl | hr
   ·exact ⟨_,List.mem_cons_self ..,h2⟩
   ·obtain ⟨q,hq,hq2⟩:=An s m n a (y::b) (by simp only [List.length_cons]; omega) ⟨r,hr,h2⟩
    exact ⟨q,List.mem_cons_of_mem _ hq,hq2⟩
  ·split
   ·obtain ⟨q,hq,hq2⟩:=An s m n (x::a) b (by simp only [List.length_cons]; omega) ⟨r,hr,h2⟩
    exact ⟨q,List.mem_cons_of_mem _ hq,hq2⟩
   ·rcases List.mem_cons.1 hr with rfl | hr
    ·exact ⟨_,List.mem_cons_self ..,h2.1,by show min _ _≤_; omega⟩
    ·obtain ⟨q,hq,hq2⟩:=An s m n a b (by omega) ⟨r,hr,h2⟩
     exact ⟨q,List.mem_cons_of_mem _ hq,hq2⟩
set_option maxRecDepth 10000
def Zwb (lo:Int) (l:List Rvk) (i:Nat):Int:=if i=0 then lo else (l.getD (i - 1) noRv).serial
theorem Zjt:∀ (l:List Rvk) (lo:Int),sg lo l↔∀ i,i<l.length→Zwb lo l i<(l.getD i noRv).serial∧(l.getD i noRv).serial≤2147483647∧0≤(l.getD i noRv).from_∧(l.getD i noRv).from_≤1073741824
 | [],lo => ⟨fun _ i hi => absurd hi (Nat.not_lt_zero _),fun _ => trivial⟩
 | r::l,lo => by
  rw [sg,Zjt l r.serial]
  constructor
  ·rintro ⟨h1,h2,h3,h4,h5⟩ i hi
   match i with
   | 0 => exact ⟨h1,h2,h3,h4⟩
   | i+1 =>
    have:=h5 i (Nat.lt_of_succ_lt_succ hi)
    refine ⟨?_,this.2⟩
    have h6:=this.1
    match i with
    | 0 => exact h6
    | j+1 => exact h6
  ·intro h
   obtain ⟨h1,h2,h3,h4⟩:=h 0 (Nat.zero_lt_succ _)
   refine ⟨h1,h2,h3,h4,fun i hi => ?_⟩
   have:=h (i+1) (Nat.succ_lt_succ hi)
   refine ⟨?_,this.2⟩
   have h6:=this.1
   match i with
   | 0 => exact h6
   | j+1 => exact h6
theorem Z02:∀ (l:List Rvk) (lo:Int),sg lo l→∀ r ∈ l,lo<r.serial
 | [],_,_,r,hr => by cases hr
 | x::l,lo,⟨h1,_,_,_,h5⟩,r,hr => by
  rcases List.mem_cons.1 hr with rfl | hr
  ·exact h1
  ·have:=Z02 l _ h5 r hr; omega
theorem Ip (l:List Rvk):revB l=true↔l.length≤200∧sg 0 l:=by
 simp only [revB,Bool.and_eq_true,decide_eq_true_eq]
 refine and_congr_right fun _ => ⟨fun h => (Zjt l 0).2 fun i hi => ?_,fun h i hi => ?_⟩
 ·have:=h i hi
  rw [Ju] at this
  simp only [Bool.or_eq_false_iff,Bool.and_eq_false_iff,decide_eq_false_iff_not] at this
  unfold Zwb
  split <;> omega
 ·have h1:=(Zjt l 0).1 h i hi
  have h2:=Z02 l 0 h _ (Zl noRv hi)
  rw [Ju]
  simp only [Bool.or_eq_false_iff,Bool.and_eq_false_iff,decide_eq_false_iff_not]
  unfold Zwb at h1
  split at h1 <;> omega
theorem Zfb (l:List Rvk) (s m:Int):D7 l s m=true↔gn s m l:=by
 rw [D7,decide_eq_true_eq]
 rcases Zxl noRv (fun r => r.serial == s&&decide (r.from_≤m)) l with ⟨h1,h2⟩ | ⟨j,hj,h1,h2⟩
 ·rw [h1]
  refine ⟨fun h => absurd h (by decide),fun ⟨r,hr,h3,h4⟩ => ?_⟩
  obtain ⟨j,hj,rfl⟩:=List.mem_iff_getElem.1 hr
  have:=h2 j hj
  rw [List.getD_eq_getElem?_getD,List.getElem?_eq_getElem hj] at this
  simp only [Option.getD_some,Bool.and_eq_false_iff,beq_eq_false_iff_ne,decide_eq_false_iff_not] at this
  rcases this with h | h
  ·exact absurd h3 h
  ·exact absurd h4 h
 ·rw [h1]
  simp only [Bool.and_eq_true,beq_iff_eq,decide_eq_true_eq] at h2
  exact ⟨fun _ => ⟨_,Zl noRv hj,h2⟩,fun _ => by omega⟩
theorem Zps {a b:List Rvk} (ha:revB a=true) (hb:revB b=true) (h:(mrg a b).length≤200):revB (mrg a b)=true :=
 (Ip _).2 ⟨h,Fv _ _ _ _ ((Ip a).1 ha).2 ((Ip b).1 hb).2⟩
theorem Zl8 {a b:List Rvk} {s m:Int} (h:D7 a s m=true):D7 (mrg a b) s m=true :=
 (Zfb _ _ _).2 (An s m _ a b (Nat.le_refl _) ((Zfb _ _ _).1 h))
theorem V9:∀ l:List Rvk,(rcs l).length=l.length*2
 | [] => rfl
 | a::l => by
  have:=V9 l
  show ([I a.serial,I a.from_]++rcs l).length=(l.length+1)*2
  rw [List.length_append,this]; simp; omega
theorem Zpx (a:Rvk) (l:List Rvk):rcs (a::l)=I a.serial::I a.from_::rcs l:=rfl
theorem Zbs (a:Rvk) (l:List Rvk):cut (rcs (a::l)) 2 1 (l.length+1)=rcs l:=by
 rw [cut,Zpx]
 show ((rcs l).take ((l.length+1 - 1)*2))=rcs l
 exact List.take_of_length_le (by rw [V9]; omega)
theorem V2 (l:List Rvk) (a:Rvk):rcs l++[I a.serial,I a.from_]=rcs (l++[a]):=by
 show rcs l++rcs [a]=rcs (l++[a])
 rw [show rcs (l++[a])=rcs l++rcs [a] from List.flatMap_append]
theorem Zeq:∀ l:List Rvk,Ye (rcs l)=true
 | [] => rfl
 | a::l => Zeq l
def mrgV (a b:List Rvk):AV:=if revB a=true∧revB b=true then (if (mrg a b).length≤200 then .tup [.view (rcs (mrg a b)) (mrg a b).length false,nilE] else .tup [nilS,errA 3]) else .tup [nilS,errA 1]
theorem Zvq {H:AH} {a b:List Rvk} {ga gb:Bool} (an:a.length≤1000000) (bn:b.length≤1000000):Called Tryz.prog F.revoke_Merge [.view (rcs a) a.length ga,.view (rcs b) b.length gb] H (mrgV a b) H:=by
 have sv:=fun (l:List Rvk) g G => Sl.view (H:=G) (sz:=2) (cs:=rcs l) (n:=l.length) (V9 l) g
 refine Fg ?_
 simp only [Q2,go_sem]
 refine Za (E2 (sv a ga _) an) (fun _ => rfl) ?_
 simp only [go_sem]
 refine Zq (fun _ => E2 (sv b gb _) bn) ?_
 simp only [go_sem]
 refine ⟨fun h => ?_,fun h => ?_⟩
 ·have:¬ (revB a=true∧revB b=true):=by
   rintro ⟨h1,h2⟩
   rw [h1,h2] at h; exact absurd h (by decide)
  rw [mrgV,if_neg this]
  exact Zk rfl
 ·have hab:revB a=true∧revB b=true:=by
   cases h1:revB a <;> cases h2:revB b <;> rw [h1,h2] at h <;> first | exact ⟨rfl,rfl⟩ | exact absurd h (by decide)
  rw [mrgV,if_pos hab]
  have la:=((Ip a).1 hab.1).1
  have lb:=((Ip b).1 hab.2).1
  refine Z1 _ (fun (s:Nat × (List Rvk × Bool) × (List Rvk × Bool) × List Rvk) => ([(0,.view (rcs s.2.1.1) s.2.1.1.length s.2.1.2),(1,.view (rcs s.2.2.1.1) s.2.2.1.1.length s.2.2.1.2),(6,rA H (rcs s.2.2.2) s.2.2.2.length)],hA 2 H (rcs s.2.2.2) s.2.2.2.length))
   (fun s => mrg a b=s.2.2.2++mrgF s.1 s.2.1.1 s.2.2.1.1∧s.2.1.1.length+s.2.2.1.1.length≤s.1∧s.2.2.2.length+s.1≤400) (fun s => s.1) (a.length+b.length,(a,ga),(b,gb),[]) ⟨rfl,Nat.le_refl _,by show 0+_≤_; omega⟩ rfl ?_
  rintro ⟨n,⟨a',g1⟩,⟨b',g2⟩,out⟩ ⟨he,hl,ho⟩
  dsimp only at he hl ho
  have z0:((0:Int) == 0)=true:=rfl
  have p0:decide ((0:Int)<0)=false:=rfl
  have zn:∀ k:Nat,(((k+1:Nat):Int) == 0)=false:=fun k => by rw [beq_eq_false_iff_ne]; omega
  have pn:∀ k:Nat,decide ((0:Int)<((k+1:Nat):Int))=true:=fun k => by rw [decide_eq_true_eq]; omega
  have w0:IntKind.i64.wrap (0+0)=0:=by decide
  have app:=fun (r:Rvk) => Zaq (H:=H) (sz:=2) (n:=out.length) (vs:=rcs out) (V9 out) (s:=.view [I r.serial,I r.from_] 1 true) (cs:=[I r.serial,I r.from_]) (b:=16) rfl rfl rfl rfl (by omega)
  have ec:∀ (r:Rvk) l,elt (rcs (r::l)) 2 0=[I r.serial,I r.from_]:=fun _ _ => rfl
  cases a' with
  | nil =>
   cases b' with
   | nil =>
    rw [Zqf,List.append_nil] at he
    simp only [go_sem,w0]
    refine ⟨fun h => absurd h (by decide),fun _ => ?_⟩
    have bsl:=Zr9 (H:=H) (sz:=2) (n:=out.length) (vs:=rcs out) (V9 out)
    rw [he]
    simp only [bsl.s]
    refine ⟨trivial,fun h => ?_,fun h => ?_⟩
    ·rw [if_neg (by omega)]
     exact J0 fun _ _ => rfl
    ·rw [if_pos (by omega)]
     exact Kn (by decide) (V9 out) (Zeq out) (fun _ _ => rfl)
   | cons y b' =>
    have w1:IntKind.i64.wrap (0+((b'.length+1:Nat):Int))=((b'.length+1:Nat):Int):=by
     simp only [List.length_cons,List.length_nil] at hl
     rw [w64 _ (by omega) (by omega)]; omega
    obtain ⟨a1,a2,a3⟩:=app y
    simp only [go_sem] at a1
    simp only [go_sem,w1,z0,p0,zn,pn,ec,V9,Zbs,a2,a3]
    obtain ⟨k,rfl⟩:∃ k,n=k+1:=⟨n - 1,by simp only [List.length_cons] at hl; omega⟩
    refine ⟨by omega,a1,⟨by omega,by omega⟩,(k,([],g1),(b',g2),out++[y]),by rw [← V2,List.length_append]; rfl,by rw [← V2,List.length_append]; rfl,⟨?_,?_,?_⟩,by show k<k+1; omega⟩
    ·show mrg a b=(out++[y])++_
     rw [he,List.append_assoc]; rfl
    ·simp only [List.length_cons,List.length_nil] at hl ⊢; omega
    ·simp only [List.length_append,List.length_cons,List.length_nil] at ho ⊢; omega
  | cons x a' =>
   cases b' with
   | nil =>
    have w1:IntKind.i64.wrap (((a'.length+1:Nat):Int)+0)=((a'.length+1:Nat):Int):=by
     simp only [List.length_cons,List.length_nil] at hl
     rw [w64 _ (by omega) (by omega)]; omega
    obtain ⟨a1,a2,a3⟩:=app x
    simp only [go_sem] at a1
    simp only [go_sem,w1,z0,p0,zn,pn,ec,V9,Zbs,a2,a3]
    obtain ⟨k,rfl⟩:∃ k,n=k+1:=⟨n - 1,by simp only [List.length_cons] at hl; omega⟩
    refine ⟨by omega,a1,⟨by omega,by omega⟩,(k,(a',g1),([],g2),out++[x]),by rw [← V2,List.length_append]; rfl,by rw [← V2,List.length_append]; rfl,⟨?_,?_,?_⟩,by show k<k+1; omega⟩
    ·show mrg a b=(out++[x])++_
     rw [he,List.append_assoc]; rfl
    ·simp only [List.length_cons,List.length_nil] at hl ⊢; omega
    ·simp only [List.length_append,List.length_cons,List.length_nil] at ho ⊢; omega
   | cons y b' =>
    have w1:IntKind.i64.wrap (((a'.length+1:Nat):Int)+((b'.length+1:Nat):Int))=((a'.length+b'.length+2:Nat):Int):=by
     simp only [List.length_cons,List.length_nil] at hl
     rw [w64 _ (by omega) (by omega)]; omega
    have a1:=fun r => (app r).1
    have a2:=fun r => (app r).2.1
    have a3:=fun r => (app r).2.2
    simp only [go_sem] at a1
    simp only [go_sem,w1,z0,p0,zn,pn,ec,V9,Zbs]
    obtain ⟨k,rfl⟩:∃ k,n=k+1:=⟨n - 1,by simp only [List.length_cons] at hl; omega⟩
    rw [mrgF] at he
    refine ⟨by omega,by omega,fun h1 => ?_,fun h1 => ⟨by omega,by omega,fun h2 => ?_,fun h2 => ?_⟩⟩
    ·rw [if_pos h1] at he
     rw [a2,a3]
     refine ⟨by omega,a1 x,⟨by omega,by omega⟩,(k,(a',g1),(y::b',g2),out++[x]),by rw [← V2,List.length_append]; rfl,by rw [← V2,List.length_append]; rfl,⟨?_,?_,?_⟩,by show k<k+1; omega⟩
     ·show mrg a b=(out++[x])++_
      rw [he,List.append_assoc]; rfl
     ·simp only [List.length_cons,List.length_nil] at hl ⊢; omega
     ·simp only [List.length_append,List.length_cons,List.length_nil] at ho ⊢; omega
    ·rw [if_neg h1,if_pos h2] at he
     rw [a2,a3]
     refine ⟨by omega,a1 y,⟨by omega,by omega⟩,(k,(x::a',g1),(b',g2),out++[y]),by rw [← V2,List.length_append]; rfl,by rw [← V2,List.length_append]; rfl,⟨?_,?_,?_⟩,by show k<k+1; omega⟩
     ·show mrg a b=(out++[y])++_
      rw [he,List.append_assoc]; rfl
     ·simp only [List.length_cons,List.length_nil] at hl ⊢; omega
     ·simp only [List.length_append,List.length_cons,List.length_nil] at ho ⊢; omega
    ·rw [if_neg h1,if_neg h2] at he
     have em:(if y.from_<x.from_ then y.from_ else x.from_)=min x.from_ y.from_:=by split <;> omega
     have ar:=app ⟨x.serial,min x.from_ y.from_⟩
     dsimp only at ar
     obtain ⟨q1,q2,q3⟩:=ar
     simp only [go_sem] at q1
     rw [em,q2,q3]
     refine ⟨by omega,by omega,by omega,q1,⟨by omega,by omega⟩,⟨by omega,by omega⟩,(k,(a',g1),(b',g2),out++[⟨x.serial,min x.from_ y.from_⟩]),by rw [← V2,List.length_append]; rfl,by rw [← V2,List.length_append]; rfl,⟨?_,?_,?_⟩,by show k<k+1; omega⟩
     ·show mrg a b=(out++[⟨x.serial,min x.from_ y.from_⟩])++_
      rw [he,List.append_assoc]; rfl
     ·simp only [List.length_cons,List.length_nil] at hl ⊢; omega
     ·simp only [List.length_append,List.length_cons,List.length_nil] at ho ⊢; omega
end Go.Proofs.YtcgjlpdkobmpnaaGreat.Eng

