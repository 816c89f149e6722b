/- Layer 10: what bytes check as with keys: both sides. -/
import Derived.Test.YtcgjlpdkobmpnaaGreatMRf
import Derived.Test.YtcgjlpdkobmpnaaGreatMKy
import Derived.Test.YtcgjlpdkobmpnaaGreatMRv
import Derived.Test.YtcgjlpdkobmpnaaGreatMTk
import Derived.Test.YtcgjlpdkobmpnaaGreatMRc
namespace Go.Proofs.YtcgjlpdkobmpnaaGreat.Eng
open Go Go.Proofs
set_option linter.unusedVariables false
set_option linter.unusedSimpArgs false
set_option maxRecDepth 10000
noncomputable def Rl (l:List Key) (b:List UInt8) (m:Int):Tkt × Int:=match Iu b with
 | none => (noTk,2)
 | some (t,_,_) => match fOf l t.key m with
  | none => (noTk,4)
  | some k => Mu b k.x k.y k.far
theorem e5:[AV.lit (Value.int IntKind.i64 0),AV.lit (Value.int IntKind.i64 0),AV.lit (Value.int IntKind.i64 0),AV.lit (Value.int IntKind.i64 0),AV.lit (Value.int IntKind.i64 0)]=noTk.cells:=rfl
theorem Zwq (ren:Nat→Option Nat) (H:AH) (n:Int):low ren H (errO n)=errO n:=by unfold errO; split <;> rfl
theorem Zd0 {H:AH} {x y:AV} {l:List Key} {b:List UInt8} (hx:Sl 12 H x (kcs l) l.length) (hl:∀ p ∈ l,p.ok) (hn:l.length≤1000000) (hy:Sl 1 H y (bs b) b.length) (hb:b.length≤100000) (m:Int) :
  Called Tryz.prog F.keys_Check [x,y,I m] H (.tup [.agg (if S3 l then Rl l b m else (noTk,1)).1.cells,errO (if S3 l then Rl l b m else (noTk,1)).2]) H:=by
 have e8:[Z0,Z0,Z0,Z0,Z0,Z0,Z0,Z0]=sgc 0 0:=rfl
 have ez:[Z0,Z0,Z0,Z0,Z0,Z0,Z0,Z0,Bl false]=pcell 0 0 false:=rfl
 refine A5 ?_
 simp only [N7,go_sem,hx.s,hy.s]
 refine Za (Zdz hx.app hl hn) (fun _ => rfl) ?_
 cases hk:S3 l
 ·simp only [go_sem,hx.s,hy.s,Zr,fillv]
  exact Zc rfl
 ·rw [if_pos rfl]
  simp only [go_sem,hx.s,hy.s,Zr,fillv]
  refine Za (Ztc hy.app hb) (fun _ => rfl) ?_
  cases hO:Iu b with
  | none =>
   have ec:Rl l b m=(noTk,2):=by rw [Rl,hO]
   rw [ec]
   simp only [Zkl,go_sem,hx.s,hy.s,Zr,fillv,e8,Y2,Yw,Y4,Yd,Tkt.cells]
   exact Zc rfl
  | some p =>
   obtain ⟨t,r,s⟩:=p
   have ec:Rl l b m=match fOf l t.key m with | none => (noTk,4) | some k => Mu b k.x k.y k.far:=by rw [Rl,hO]
   rw [ec]
   simp only [Zkl,go_sem,hx.s,hy.s,Zr,fillv,e8,Y2,Yw,Y4,Yd,Tkt.cells]
   refine Za (Zs8 hx.app hn t.key m) (fun _ => rfl) ?_
   cases hf:fOf l t.key m with
   | none =>
    simp only [go_sem,ptO,Option.isSome,hx.s,hy.s,Zr,fillv,e8,Y2,Yw,Y4,Yd,Xl,Yb,Zbv]
    exact Zc rfl
   | some k =>
    have ko:=Z2a hl hf
    simp only [go_sem,ptO,Option.isSome,hx.s,hy.s,Zr,fillv,e8,Y2,Yw,Y4,Yd,Xl,Yb,Zbv,Yk]
    refine Za (Zvh hy.app hb ko.2.1 ko.2.2.1) (fun _ => rfl) ?_
    generalize Mu b k.x k.y k.far=c
    obtain ⟨t',n⟩:=c
    simp only [go_sem]
    exact Zc (by simp only [low,lowL,Zwq])
set_option maxRecDepth 10000
theorem Zds (t:Tkt):t.cells.all AV.one=true:=rfl
theorem Zdt (t:Tkt):t.cells.length=5:=rfl
theorem M1 (t:Tkt):t.cells.take 5=t.cells:=rfl
theorem Zdr (t u:Tkt):splice t.cells 0 u.cells=u.cells:=Zy rfl
section
variable {H:AH} {x:AV} {l:List Rvk}
end
set_option maxRecDepth 10000
def plcB (z m:Int):Bool:=(inB 0 7 z&&decide (0≤m))&&decide (m≤1073741824)
theorem Z3o (z m:Int) (H:AH):Called Tryz.prog F.fare_place [I z,I m] H (Bl (plcB z m)) H:=by
 refine A7 ?_
 simp only [N9,go_sem]
 refine Zp ?_
 rw [plcB,inB,show decide (z≤7)=decide (z<8) by simp; omega]
def Zyl (n z:Int):Bool:=(n / 2^z.toNat)%2 == 1
theorem Zzg (t:Tkt) (z:Int) (H:AH) (hz:0≤z) (hz7:z≤7) (ht:0≤t.zones):Called Tryz.prog F.fare_in [.agg t.cells,I z] H (Bl (Zyl t.zones z)) H:=by
 refine Zm5 ?_
 simp only [F9,go_sem]
 refine ⟨hz,Zc ?_⟩
 simp only [low]
 rw [show min z.toNat 64=z.toNat by omega,Zoe,Int.fdiv_eq_ediv_of_nonneg _ (by exact Int.le_of_lt (Int.pow_pos (by decide)))]; rfl
def Zur (p:Prd) (t:Tkt) (m:Int):Bool:=(decide (t.from_≤m)&&decide (m<t.from_+p.mins))&&Gu p.s (m / 1440)
theorem Zzi {p:Prd} (t:Tkt) (m:Int) (H:AH) (hp:p.ok) (hf:p.few) (hm:mayB p.s=true) (h0:0≤m) (h1:m≤1073741824) (h2:0≤t.from_) (h3:t.from_≤1073741824) (h4:1≤p.mins) (h5:p.mins≤1048576):Called Tryz.prog F.fare_then [.agg p.cells,.agg t.cells,I m] H (Bl (Zur p t m)) H:=by
 have v1:=Ub hp.2.2.2.2.2.1
 have v2:=Ub hp.2.2.2.2.2.2
 have sr:=fun d H => Z0r d H hp hf
 simp only [hm,Bool.true_and,Prd.sv] at sr
 refine Zc1 ?_
 simp only [Kt,go_sem,Prd.cells,v1,v2]
 have e1:IntKind.i64.wrap (m.tdiv 1440)=m / 1440:=by rw [Int.tdiv_eq_ediv_of_nonneg h0,w64 _ (by omega) (by omega)]
 rw [e1]
 refine ⟨fun _ => by decide,Zq (fun _ => sr _ _) ?_⟩
 simp only [go_sem]
 refine Zc ?_
 rw [w64 (t.from_+p.mins) (by omega) (by omega)]
 rfl
theorem Zu0 {p:Prd} (t:Tkt) (q:Nat) (H:AH) (hp:p.ok) (hq:q<H.length) (ho:obj H q=⟨t.cells,0,true⟩):Called Tryz.prog F.fare_product_1 [.agg p.cells,.ptr q 0] H (Bl (p.id == t.product)) H:=by
 have v1:=Ub hp.2.2.2.2.2.1
 have v2:=Ub hp.2.2.2.2.2.2
 refine Jg ?_
 simp only [Rc,go_sem,Prd.cells,v1,v2,Ye _ _ hq,ho]
 exact ⟨by omega,Zc rfl⟩
theorem Zz4 {H:AH} {x:AV} {l:List Prd} (hx:Sl 7 H x (pcs l) l.length) (hn:l.length≤1000000) (g:FuncId) (a b:List AV) (p:Prd→Bool) (hg:∀ r ∈ l,Called Tryz.prog g (a++[.agg r.cells]++b) H (Bl (p r)) H) :
  Called Tryz.prog F.slices_IndexFunc_api_Product_api_Product [x,.fn (.func g) a b] H (I (fstA p l)) H:=by
 refine Wh ?_
 simp only [Y7,go_sem,hx.lenT,hx.n]
 refine Z4 _ (fun (i:Nat) => ([(0,x),(1,.fn (.func g) a b),(7,I l.length),(8,I i)],H)) (fun i => i≤l.length∧∀ j,j<i→p (l.getD j noP)=false) (fun i => l.length - i) 0 ⟨Nat.zero_le _,fun j hj => by omega⟩ rfl ?_
 rintro i ⟨hi,hj⟩
 simp only [go_sem]
 refine ⟨fun h => ?_,fun h => ?_⟩
 ·have hlt:i<l.length:=by omega
  simp only [go_sem,hx.idx,hx.un,hx.ldOk .i64 hlt (Nat.le_refl 7),hx.prd hlt]
  refine ⟨⟨by omega,by omega⟩,Za (by simpa using hg _ (Zm noP hlt)) (fun _ => rfl) ?_⟩
  simp only [go_sem]
  refine ⟨fun he => ?_,fun he => ?_⟩
  ·exact Zp (by rw [Q4 noP hlt he hj])
  ·refine ⟨i+1,by rw [w64 _ (by omega) (by omega)]; rfl,⟨by omega,fun j hj' => ?_⟩,by omega⟩
   rcases Nat.lt_succ_iff_lt_or_eq.1 hj' with h1 | rfl
   ·exact hj j h1
   ·exact he
 ·exact Zp (by rw [Q5 noP fun j hj' => hj j (by omega)])
theorem Zlp {e:AV} {l:List Int} (h:isv e l) (ren:Nat→Option Nat) (H:AH):low ren H e=e:=by
 rcases h with ⟨f,rfl⟩ | ⟨rfl,_⟩
 ·have:∀ l:List Int,lowL ren H (l.map I)=l.map I:=fun l => by
   induction l with
   | nil => rfl
   | cons a r ih => simp only [List.map_cons,lowL,ih]; rfl
  simp only [vI,low,this]
 ·rfl
def kOf (l:List Prd) (n:Int):Int:=fstA (fun p => p.id == n) l
def pOf (l:List Prd) (k:Int):Prd:=if k<0 then noP else l.getD k.toNat noP
theorem Ztp {l:List Prd} (hl:∀ p ∈ l,p.ok∧p.few) {n k:Int} (h:At l n k):(pOf l k).ok∧(pOf l k).few:=by
 rcases h with ⟨rfl,_⟩ | ⟨j,hj,rfl,_⟩
 ·rw [show pOf l (-1)=noP from rfl]
  have z:ok64 0:=⟨by decide,by decide⟩
  exact ⟨⟨z,z,z,z,z,.inr ⟨rfl,rfl⟩,.inr ⟨rfl,rfl⟩⟩,by decide⟩
 ·rw [pOf,if_neg (by omega)]; exact hl _ (Zm noP hj)
theorem Zi5 {H:AH} {x:AV} {l:List Prd} (hx:Sl 7 H x (pcs l) l.length) (hl:∀ p ∈ l,p.ok∧p.few) (hn:l.length≤1000000) (t:Tkt):Called Tryz.prog F.fare_product [x,.agg t.cells] H (.tup [.agg (pOf l (kOf l t.product)).cells,Bl (decide (0≤kOf l t.product))]) H:=by
 refine G9 ?_
 simp only [Q2,go_sem]
 have hG:∀ K,Sl 7 (H++K) x (pcs l) l.length:=fun K => hx.app
 have hk:=Zty l t.product
 have hpk:=Ztp hl hk
 have hi:=fun K => Zz4 (hG K) hn F.fare_product_1 [] [.ptr H.length 0] (fun p => p.id == t.product)
 rw [show fstA (fun p => p.id == t.product) l=kOf l t.product from rfl] at hk hi hpk
 generalize kOf l t.product=k at hk hi hpk ⊢
 refine Za (hi _ fun r hr => Zu0 t H.length _ (hl r hr).1 (by simp) (by simp [Yq,Ni])) (fun _ => rfl) ?_
 simp only [go_sem,Zr,fillv,hx.un,AV.one,Value.oneCell',List.all_cons,List.all_nil]
 rcases hk with ⟨rfl,_⟩ | ⟨j,hj,rfl,_⟩
 ·refine ⟨fun _ => Zc rfl,fun h => absurd h (by decide)⟩
 ·have v1:=Ub hpk.1.2.2.2.2.2.1
  have v2:=Ub hpk.1.2.2.2.2.2.2
  have w1:=Zlp hpk.1.2.2.2.2.2.1
  have w2:=Zlp hpk.1.2.2.2.2.2.2
  rw [pOf,if_neg (by omega),Int.toNat_natCast] at v1 v2 w1 w2 ⊢
  simp only [go_sem,hx.idx,(hG _).ldOk .i64 hj (Nat.le_refl 7),(hG _).prd hj,Prd.cells,v1,v2]
  refine ⟨fun h => absurd h (by simp),fun h => ⟨⟨by omega,by omega⟩,Zc ?_⟩⟩
  simp only [low,lowL,w1,w2]
  rfl
def covB (l:List Prd) (t:Tkt) (z m:Int):Bool:=(decide (0≤kOf l t.product)&&Zyl t.zones z)&&Zur (pOf l (kOf l t.product)) t m
def Gg (l:List Prd) (t:Tkt) (z m:Int):Bool:=((Im l&&tktB t)&&plcB z m)&&covB l t z m
theorem Ziy {t:Tkt} (h:tktB t=true):0≤t.from_∧t.from_≤1073741824∧1≤t.zones∧t.zones≤255:=by
 simp only [tktB,inB,Bool.and_eq_true,decide_eq_true_eq] at h; omega
theorem Zkf {z m:Int} (h:plcB z m=true):0≤z∧z≤7∧0≤m∧m≤1073741824:=by
 simp only [plcB,inB,Bool.and_eq_true,decide_eq_true_eq] at h; omega
theorem Zgh {l:List Prd} (h:Im l=true) {j:Nat} (hj:j<l.length):1≤(l.getD j noP).mins∧(l.getD j noP).mins≤1048576∧mayB (l.getD j noP).s=true:=by
 simp only [Im,Bool.and_eq_true,decide_eq_true_eq] at h
 have h1:=h.2 j hj
 rw [Br] at h1
 simp only [Bool.or_eq_false_iff,Bool.and_eq_false_iff,decide_eq_false_iff_not,Bool.not_eq_false'] at h1
 exact ⟨by omega,by omega,h1.2⟩
theorem Zo2 {H:AH} {x:AV} {l:List Prd} (hx:Sl 7 H x (pcs l) l.length) (hl:∀ p ∈ l,p.ok∧p.few) (hn:l.length≤1000000) (t:Tkt) (z m:Int):Called Tryz.prog F.fare_Covers [x,.agg t.cells,I z,I m] H (Bl (Gg l t z m)) H:=by
 refine Cd ?_
 have hG:∀ K,Sl 7 (H++K) x (pcs l) l.length:=fun K => hx.app
 simp only [P6,go_sem]
 refine Za (Zs2 (hG _) hl hn) (fun _ => rfl) ?_
 simp only [go_sem]
 refine Zq (fun _ => Zsz t _) ?_
 simp only [go_sem]
 refine Zq (fun _ => Z3o _ _ _) ?_
 simp only [go_sem]
 refine ⟨fun h => Zc ?_,fun h => ?_⟩
 ·simp only [low,Gg]
  have:((Im l&&tktB t)&&plcB z m)=false:=by
   simp only [Bool.or_eq_true,Bool.not_eq_true'] at h
   rcases h with (h | h) | h <;> simp [h]
  rw [this,Bool.false_and]
 ·have hh:Im l=true∧tktB t=true∧plcB z m=true:=by
   simp only [Bool.or_eq_false_iff,Bool.not_eq_false'] at h
   exact ⟨h.1.1,h.1.2,h.2⟩
  obtain ⟨h1,h2,h3⟩:=hh
  obtain ⟨a1,a2,a3,a4⟩:=Ziy h2
  obtain ⟨b1,b2,b3,b4⟩:=Zkf h3
  refine Za (Zi5 (hG _) hl hn t) (fun _ => rfl) ?_
  rw [Gg,h1,h2,h3,Bool.true_and,Bool.true_and,Bool.true_and,covB]
  have hk:At l t.product (kOf l t.product):=Zty l t.product
  have hpk:=Ztp hl hk
  have v1:=Ub hpk.1.2.2.2.2.2.1
  have v2:=Ub hpk.1.2.2.2.2.2.2
  have tt:0≤kOf l t.product→∀ H,Called Tryz.prog F.fare_then [.agg (pOf l (kOf l t.product)).cells,.agg t.cells,I m] H (Bl (Zur (pOf l (kOf l t.product)) t m)) H:=fun h H => by
   have:1≤(pOf l (kOf l t.product)).mins∧(pOf l (kOf l t.product)).mins≤1048576∧mayB (pOf l (kOf l t.product)).s=true:=by
    rcases hk with ⟨e,_⟩ | ⟨j,hj,e,_⟩
    ·omega
    ·rw [e,pOf,if_neg (by omega)]; exact Zgh h1 hj
   exact Zzi t m H hpk.1 hpk.2 this.2.2 b3 b4 a1 a2 this.1 this.2.1
  generalize kOf l t.product=k at *
  generalize pOf l k=p at *
  simp only [go_sem,Prd.cells,v1,v2]
  refine Zq (fun _ => Zzg t z _ b1 b2 (by omega)) ?_
  simp only [go_sem]
  refine Zq (fun h => tt ?_ _) ?_
  ·simp only [Bool.and_eq_true,decide_eq_true_eq] at h; exact h.1
  simp only [go_sem]
  exact Zc rfl
set_option maxRecDepth 10000
theorem Z2b (n:Int):(n=0∧errO n=nilE)∨(n≠0∧errO n=.lit (.iface T.api_Code (.int .i64 n))):=by
 unfold errO
 split
 ·rename_i h; exact .inl ⟨h,rfl⟩
 ·rename_i h; exact .inr ⟨h,rfl⟩
section
variable {H:AH} {xk xr xl xb:AV} {k:List Key} {r:List Rvk} {l:List Prd} {b:List UInt8}
end
def sg:Int→List Rvk→Prop
 | _,[] => True
 | lo,r::l => lo<r.serial∧r.serial≤2147483647∧0≤r.from_∧r.from_≤1073741824∧sg r.serial l
set_option maxRecDepth 10000
theorem Zj9:∀ l:List Rvk,(rcs l).length=l.length*2
 | [] => rfl
 | a::l => by
  have:=Zj9 l
  show ([I a.serial,I a.from_]++rcs l).length=(l.length+1)*2
  rw [List.length_append,this]; simp; omega
end Go.Proofs.YtcgjlpdkobmpnaaGreat.Eng

