/- Layer 8: the fields of bytes: the document's walk. -/
import Derived.Test.YtcgjlpdkobmpnaaGreatMPt
import Derived.Test.YtcgjlpdkobmpnaaGreatMSh
import Derived.Test.YtcgjlpdkobmpnaaGreatMTl
import Derived.Test.YtcgjlpdkobmpnaaGreatMRf
import Derived.Test.YtcgjlpdkobmpnaaGreatMCc
import Derived.Test.YtcgjlpdkobmpnaaGreatMCb
import Derived.Test.YtcgjlpdkobmpnaaGreatME6
namespace Go.Proofs.YtcgjlpdkobmpnaaGreat.Eng
open Go Go.Proofs
set_option linter.unusedVariables false
set_option linter.unusedSimpArgs false
set_option maxRecDepth 10000
section
variable {Q:Ex→Env→AH→Prop} {B:AH} {b:List UInt8} {T:List UInt8} {x7 x8 x2:AV} {tx:AV} {at_:Nat}
end
section
variable {Q:Ex→Env→AH→Prop} {D:AH} {x2 x3 x7 x9 x10 x17:AV} {K ws s:List Nat}
end
section
variable {Q:Ex→Env→AH→Prop} {H G:AH} {o1 o2:AObj} {x2 x3 x8 x9:AV} {K ws s S:List Nat}
end
section
variable {Q:Ex→Env→AH→Prop} {H G:AH} {o1 o2:AObj} {x2 x3 x9:AV} {b:List UInt8} {s:List Nat}
end
section
variable {Q:Ex→Env→AH→Prop} {H G:AH} {o1:AObj} {x2:AV} {T:List UInt8}
end
section
variable {H G:AH} {o2:AObj} {S:List Nat} {v:AV}
end
structure Key where
 id:Int
 x:Nat
 y:Nat
 far:Bool
 from_:Int
 to:Int
def Key.ok (k:Key):Prop:=ok64 k.id∧k.x<(18446744073709551616:Nat)^4∧k.y<(18446744073709551616:Nat)^4∧ok64 k.from_∧ok64 k.to
def Key.cells (k:Key):List AV:=I k.id::(pcell k.x k.y k.far++[I k.from_,I k.to])
theorem Key.len (k:Key):k.cells.length=12:=by simp [Key.cells,pcell,Zb]
def W8:Key:=⟨0,0,0,false,0,0⟩
abbrev kcs (l:List Key):List AV:=l.flatMap Key.cells
def Ci (k:Key):Bool:=((((decide (k.id<1) || decide (2147483647<k.id)) || !Ss k.x k.y k.far) || k.far) || decide (k.from_<0) || decide (k.to<k.from_)) || decide (1073741824<k.to)
def Hx (l:List Key) (i:Nat):Bool:=Ci (l.getD i W8) || (decide (0<i)&&decide ((l.getD i W8).id≤(l.getD (i - 1) W8).id))
def Uk (l:List Key):Bool:=decide (l.length≤32)&&decide (∀ i,i<l.length→Hx l i=false)
theorem Ag {l:List Key} {i:Nat} (hi:i<l.length) (h:Hx l i=true):Uk l=false:=by
 rw [Uk,Bool.and_eq_false_iff]
 right
 rw [decide_eq_false_iff_not]
 exact fun hh => by have:=hh i hi; rw [h] at this; cases this
theorem Zrb {l:List Key} (h:∀ i,i<l.length→Hx l i=false):Uk l=decide (l.length≤32):=by
 rw [Uk,decide_eq_true h,Bool.and_true]
theorem Cf (k:Key):(k.cells.drop 1).take 9=pcell k.x k.y k.far:=by
 rw [Key.cells,List.drop_succ_cons,List.drop_zero,List.take_left' (by simp [pcell,Zb])]
theorem Zme (k:Key):k.cells.getD 9 .junk=Bl k.far:=rfl
theorem Ch (k:Key):k.cells.getD 10 .junk=I k.from_:=rfl
theorem Zmc (k:Key):k.cells.getD 11 .junk=I k.to:=rfl
theorem Zfb (k:Key):k.cells.getD 0 .junk=I k.id:=rfl
theorem Kt (k:Key):k.cells.all AV.one=true:=rfl
theorem Zmd (k:Key):k.cells.isEmpty=false:=rfl
theorem Zxn (k:Key):k.cells.take 12=k.cells:=rfl
theorem Z4l {H:AH} (k:Key) (hk:k.ok):Called Tryz.prog F.keys_one [.agg k.cells] H (Bl (!Ci k)) H:=by
 refine Zii ?_
 have kl:=Key.len k
 simp only [Gj,go_sem,Kt,Zmd,kl,Cf,Zme,Ch,Zmc,Zfb]
 refine Zs (fun _ => t_On hk.2.1 hk.2.2.1) ?_
 simp only [go_sem,Kt,Zmd,kl,Cf,Zme,Ch,Zmc,Zfb]
 refine Zc ?_
 simp only [low,Ci]
 congr 2
 simp only [Bool.not_or,← decide_not,Int.not_lt,Bool.not_not,Bool.and_assoc]
section
variable {H:AH} {x:AV} {l:List Key}
theorem Sl.key (h:Sl 12 H x (kcs l) l.length) {i:Nat} (hi:i<l.length):Y8 true 12 H (Xn 12 (.lit (.int .i64 i)) x)=.agg (l.getD i W8).cells:=by
 rw [h.ldA _ hi (by decide),V7 _ 12 Key.len _ _ W8 hi]
theorem Sl.key1 (h:Sl 12 H x (kcs l) l.length) {i:Nat} (hi:i<l.length) (o:Nat) (ho:o<12):Y8 false 1 H (fldV o (Xn 12 (.lit (.int .i64 i)) x))=(l.getD i W8).cells.getD o .junk:=by
 rw [h.fd _ hi (by omega) (by decide),if_neg (by decide),Li _ 12 Key.len _ _ _ W8 hi ho]
theorem Sl.key9 (h:Sl 12 H x (kcs l) l.length) {i:Nat} (hi:i<l.length):Y8 true 9 H (fldV 1 (Xn 12 (.lit (.int .i64 i)) x))=.agg (pcell (l.getD i W8).x (l.getD i W8).y (l.getD i W8).far):=by
 rw [h.fd _ hi (by omega) (by decide),if_pos rfl,Zn0 _ 12 Key.len _ _ _ _ W8 hi (by omega),Cf]
end
theorem Zmf (l:List Key) (i:Nat):Hx l i=(Ci (l.getD i W8) || (decide (0<i)&&decide ((l.getD i W8).id≤(l.getD (i - 1) W8).id))):=rfl
theorem Zjv {H:AH} {x:AV} {l:List Key} (hx:Sl 12 H x (kcs l) l.length) (hl:∀ p ∈ l,p.ok) (hn:l.length≤1000000):Called Tryz.prog F.keys_May [x] H (Bl (Uk l)) H:=by
 refine Zij ?_
 simp only [Gk,go_sem,hx.lenT,hx.n]
 refine Z4 _ (fun (s:Nat × AH) => ([(0,x),(5,x),(6,I l.length),(7,I s.1)],H++s.2)) (fun s => s.1≤l.length∧∀ j,j<s.1→Hx l j=false) (fun s => l.length - s.1) (0,[]) ⟨Nat.zero_le _,fun j hj => by omega⟩ (by rw [List.append_nil]; rfl) ?_
 rintro ⟨i,G⟩ ⟨hi,hj⟩
 dsimp only at hi hj
 simp only [go_sem]
 refine ⟨fun h => ?_,fun h => ?_⟩
 ·have hlt:i<l.length:=by omega
  have hp:=hl _ (Yn W8 hlt)
  have hG:Sl 12 (H++G) x (kcs l) l.length:=hx.app
  have hK:∀ K,Sl 12 (H++(G++K)) x (kcs l) l.length:=fun K => hx.app
  have f7:=hG.ldOk .i64 hlt (Nat.le_refl 12)
  have next:∀ K,Hx l i=false→∃ a':Nat × AH,look [(0,x),(5,x),(6,I l.length),(7,AV.lit (Value.int IntKind.i64 (IntKind.i64.wrap (↑i+1))))]=look [(0,x),(5,x),(6,I l.length),(7,I a'.1)]∧H++K=H++a'.2∧(a'.1≤l.length∧∀ j,j<a'.1→Hx l j=false)∧l.length - a'.1<l.length - i:=by
   intro K hb
   refine ⟨(i+1,K),by rw [w64 _ (by omega) (by omega)]; rfl,rfl,⟨by show i+1≤_; omega,fun j hj' => ?_⟩,by show _ - (i+1)<_; omega⟩
   rcases Nat.lt_succ_iff_lt_or_eq.1 hj' with h1 | rfl
   ·exact hj j h1
   ·exact hb
  have pb:=Zmf l i
  have ib:(0:Int)≤i∧(i:Int)<l.length:=⟨by omega,by omega⟩
  have kl:=Key.len (l.getD i W8)
  have kx:(l.getD i W8).cells++List.drop 12 [I 0,Z0,Z0,Z0,Z0,Z0,Z0,Z0,Z0,Bl false,I 0,I 0]=(l.getD i W8).cells:=by simp
  have kz:splice [I 0,Z0,Z0,Z0,Z0,Z0,Z0,Z0,Z0,Bl false,I 0,I 0] 0 (l.getD i W8).cells=(l.getD i W8).cells:=Zu kl
  simp only [go_sem,hG.idx,hG.un,f7,hG.key hlt,Kt,kl,kz,Zxn]
  refine ⟨ib,Za (Z4l _ hp) (fun _ => rfl) ?_⟩
  rcases Nat.eq_zero_or_pos i with h0 | h0
  ·have z0:decide ((0:Int)<i)=false:=by simp; omega
   have z1:decide (0<i)=false:=by simp; omega
   simp only [go_sem,z0]
   rw [z1] at pb
   simp only [Bool.false_and,Bool.or_false] at pb
   simp only [Bool.not_not]
   exact ⟨hx.may _ ▸ trivial,fun hb => Zc (by rw [Ag hlt (pb.trans hb)]; rfl),fun hb => next _ (pb.trans hb)⟩
  ·have e1:IntKind.i64.wrap ((i:Int) - 1)=((i - 1:Nat):Int):=by rw [w64 _ (by omega) (by omega)]; omega
   have z0:decide ((0:Int)<i)=true:=by simp; omega
   have z1:decide (0<i)=true:=by simp; omega
   have lt1:i - 1<l.length:=by omega
   simp only [go_sem,z0,hx.may,hx.un,e1,hx.idx,(hx.fdOk .i64 lt1 (o:=0) (m:=1) (by omega)).1,((hK _).fdOk .i64 lt1 (o:=0) (m:=1) (by omega)).2,(hK _).key1 lt1 0 (by omega),Zfb,kl]
   rw [z1] at pb
   simp only [Bool.true_and] at pb
   simp only [Bool.not_not]
   exact ⟨fun _ => ⟨by omega,by omega⟩,fun hb => Zc (by rw [Ag hlt (pb.trans hb)]; rfl),fun hb => next _ (pb.trans hb)⟩
 ·rw [hx.lenT,hx.n]
  refine ⟨trivial,Zc ?_⟩
  rw [Zrb fun j hj' => hj j (by omega)]
  simp only [low]
  congr 2
  simp; omega
set_option maxRecDepth 10000
theorem Zxk (ren:Nat→Option Nat) (H:AH) (x y:Nat) (f:Bool):lowL ren H (pcell x y f)=pcell x y f:=by
 simp only [pcell,Wg,Tf]; rfl
theorem Zv1 {H:AH} (k:Key) (n:Int) (q:Nat) (hq:q<H.length) (ho:obj H q=⟨[I n],0,true⟩):Called Tryz.prog F.keys_find_1 [.agg k.cells,.ptr q 0] H (Bl (k.id == n)) H:=by
 refine Cy ?_
 have kl:=Key.len k
 simp only [Nb,go_sem,Kt,Zmd,Zfb,kl,Z1 _ _ hq,ho]
 exact ⟨by omega,Zc rfl⟩
theorem Z00 {H:AH} {x:AV} {l:List Key} (hx:Sl 12 H x (kcs l) l.length) (hn:l.length≤1000000) (g:FuncId) (a b:List AV) (p:Key→Bool) (hg:∀ r ∈ l,Called Tryz.prog g (a++[.agg r.cells]++b) H (Bl (p r)) H) :
  Called Tryz.prog F.slices_IndexFunc_api_Key_api_Key [x,.fn (.func g) a b] H (I (fstA p l)) H:=by
 refine Vh ?_
 simp only [Xo,go_sem,hx.lenT,hx.n]
 refine Z4 _ (fun (i:Nat) => ([(0,x),(1,.fn (.func g) a b),(7,I l.length),(8,I i)],H)) (fun i => i≤l.length∧∀ j,j<i→p (l.getD j W8)=false) (fun i => l.length - i) 0 ⟨Nat.zero_le _,fun j hj => by omega⟩ rfl ?_
 rintro i ⟨hi,hj⟩
 simp only [go_sem]
 refine ⟨fun h => ?_,fun h => ?_⟩
 ·have hlt:i<l.length:=by omega
  simp only [go_sem,hx.idx,hx.un,hx.ldOk .i64 hlt (Nat.le_refl 12),hx.key hlt]
  refine ⟨⟨by omega,by omega⟩,Za (by simpa using hg _ (Yn W8 hlt)) (fun _ => rfl) ?_⟩
  simp only [go_sem]
  refine ⟨fun he => ?_,fun he => ?_⟩
  ·exact Zl (by rw [Gq W8 hlt he hj])
  ·refine ⟨i+1,by rw [w64 _ (by omega) (by omega)]; rfl,⟨by omega,fun j hj' => ?_⟩,by omega⟩
   rcases Nat.lt_succ_iff_lt_or_eq.1 hj' with h1 | rfl
   ·exact hj j h1
   ·exact he
 ·exact Zl (by rw [Gr W8 fun j hj' => hj j (by omega)])
def fOf (l:List Key) (n m:Int):Option Key :=
 if fstA (fun k => k.id == n) l<0 then none else
 if (l.getD (fstA (fun k => k.id == n) l).toNat W8).from_≤m∧m<(l.getD (fstA (fun k => k.id == n) l).toNat W8).to then some (l.getD (fstA (fun k => k.id == n) l).toNat W8) else none
def ptO:Option Key→List AV
 | some k => pcell k.x k.y k.far
 | none => pcell 0 0 false
abbrev fndV (o:Option Key):AV:=.tup [.agg (ptO o),Bl o.isSome]
theorem Zmz (l:List Key) (n:Int):(fstA (fun k => k.id == n) l=-1∧∀ j,j<l.length→(l.getD j W8).id≠n)∨∃ j,j<l.length∧fstA (fun k => k.id == n) l=((j:Nat):Int)∧(l.getD j W8).id=n:=by
 unfold fstA
 cases h:l.findIdx? (fun k => k.id == n) with
 | none =>
  rw [List.findIdx?_eq_none_iff] at h
  exact .inl ⟨rfl,fun j hj => by simpa using h _ (Yn W8 hj)⟩
 | some i =>
  rw [List.findIdx?_eq_some_iff_getElem] at h
  obtain ⟨hi,h1,_⟩:=h
  exact .inr ⟨i,hi,rfl,by rw [List.getD_eq_getElem?_getD,List.getElem?_eq_getElem hi]; simpa using h1⟩
theorem Zb3 (x y:Nat) (f:Bool):splice [Z0,Z0,Z0,Z0,Z0,Z0,Z0,Z0,Bl false] 0 (pcell x y f)=pcell x y f:=Zu (by rw [Z5]; rfl)
theorem Z03 {H:AH} {x:AV} {l:List Key} (hx:Sl 12 H x (kcs l) l.length) (hn:l.length≤1000000) (n m:Int):Called Tryz.prog F.keys_find [x,I n,I m] H (fndV (fOf l n m)) H:=by
 refine Zc4 ?_
 have hG:∀ K,Sl 12 (H++K) x (kcs l) l.length:=fun K => hx.app
 simp only [Jt,go_sem]
 have hi:=fun K => Z00 (hG K) hn F.keys_find_1 [] [.ptr H.length 0] (fun k => k.id == n)
 have hk:=Zmz l n
 refine Za (hi _ fun r hr => Zv1 r n H.length (by simp) (by simp [Z7,Q8])) (fun _ => rfl) ?_
 rw [fOf]
 generalize fstA (fun k => k.id == n) l=k at hk ⊢
 simp only [go_sem,hx.may,hx.un]
 rcases hk with ⟨rfl,_⟩ | ⟨j,hj,rfl,_⟩
 ·have z0:decide ((-1:Int)<0)=true:=rfl
  simp only [go_sem,z0,Zq,fillv]
  exact Zc rfl
 ·have z0:decide (((j:Nat):Int)<0)=false:=by simp
  have g1:=fun K => ((hG K).fdOk .i64 hj (o:=10) (m:=1) (by omega)).2
  have g2:=fun K => ((hG K).fdOk .i64 hj (o:=11) (m:=1) (by omega)).2
  have g3:=fun K => ((hG K).fdOk .i64 hj (o:=1) (m:=9) (by omega)).2
  have g0:=(hx.fdOk .i64 hj (o:=1) (m:=9) (by omega)).1
  rw [if_neg (by omega),Int.toNat_natCast]
  have ib:(0:Int)≤j∧(j:Int)<l.length:=⟨by omega,by omega⟩
  simp only [go_sem,z0,hx.may,hx.un,hx.idx,g0,g1,g2,g3,(hG _).key1 hj 10 (by omega),(hG _).key1 hj 11 (by omega),(hG _).key9 hj,Ch,Zmc,Zq,fillv,Z5,Xh,Zb3,Ye]
  refine ⟨ib,fun _ => ib,fun h => Zc ?_,fun h => ⟨ib,Zc ?_⟩⟩
  ·rw [if_neg]; rfl
   simp only [Bool.or_eq_true,decide_eq_true_eq] at h; omega
  ·rw [if_pos]
   ·simp only [low,lowL,Zxk]; rfl
   ·simp only [Bool.or_eq_false_iff,decide_eq_false_iff_not] at h; omega
set_option maxRecDepth 10000
theorem Z2w {l:List Key} (hl:∀ p ∈ l,p.ok) {n m:Int} {k:Key} (h:fOf l n m=some k):k.ok:=by
 unfold fOf at h
 rcases Zmz l n with ⟨e,_⟩ | ⟨j,hj,e,_⟩
 ·rw [e] at h; cases h
 ·rw [e,if_neg (by omega),Int.toNat_natCast] at h
  split at h
  ·cases h; exact hl _ (Yn W8 hj)
  ·cases h
set_option maxRecDepth 10000
noncomputable def Xs (l:List Key) (b:List UInt8) (m:Int):Tkt × Int:=match Te b with
 | none => (noTk,2)
 | some (t,_,_) => match fOf l t.key m with
  | none => (noTk,4)
  | some k => U1 b k.x k.y k.far
theorem e5:[AV.lit (Value.int IntKind.i64 0),AV.lit (Value.int IntKind.i64 0),AV.lit (Value.int IntKind.i64 0),AV.lit (Value.int IntKind.i64 0),AV.lit (Value.int IntKind.i64 0)]=noTk.cells:=rfl
theorem Zxl (ren:Nat→Option Nat) (H:AH) (n:Int):low ren H (errO n)=errO n:=by unfold errO; split <;> rfl
theorem Zz9 (n:Int):(errO n).un=errO n:=by unfold errO; split <;> rfl
theorem Zpq {H:AH} {x y:AV} {l:List Key} {b:List UInt8} (hx:Sl 12 H x (kcs l) l.length) (hl:∀ p ∈ l,p.ok) (hn:l.length≤1000000) (hy:Sl 1 H y (bs b) b.length) (hb:b.length≤100000) (m:Int) :
  Called Tryz.prog F.keys_Check [x,y,I m] H (.tup [.agg (if Uk l then Xs l b m else (noTk,1)).1.cells,errO (if Uk l then Xs l b m else (noTk,1)).2]) H:=by
 have e8:[Z0,Z0,Z0,Z0,Z0,Z0,Z0,Z0]=sgc 0 0:=rfl
 have ez:[Z0,Z0,Z0,Z0,Z0,Z0,Z0,Z0,Bl false]=pcell 0 0 false:=rfl
 refine Zaa ?_
 simp only [Lb,go_sem,hx.s,hy.s]
 refine Za (Zjv hx.app hl hn) (fun _ => rfl) ?_
 cases hk:Uk l
 ·simp only [go_sem,hx.s,hy.s,Zq,fillv]
  exact Zc rfl
 ·rw [if_pos rfl]
  simp only [go_sem,hx.s,hy.s,Zq,fillv]
  refine Za (Zeb hy.app hb) (fun _ => rfl) ?_
  cases hO:Te b with
  | none =>
   have ec:Xs l b m=(noTk,2):=by rw [Xs,hO]
   rw [ec]
   simp only [Zgz,go_sem,hx.s,hy.s,Zq,fillv,e8,Yy,Yo,Yu,Ya,Tkt.cells]
   exact Zc rfl
  | some p =>
   obtain ⟨t,r,s⟩:=p
   have ec:Xs l b m=match fOf l t.key m with | none => (noTk,4) | some k => U1 b k.x k.y k.far:=by rw [Xs,hO]
   rw [ec]
   simp only [Zgz,go_sem,hx.s,hy.s,Zq,fillv,e8,Yy,Yo,Yu,Ya,Tkt.cells]
   refine Za (Z03 hx.app hn t.key m) (fun _ => rfl) ?_
   cases hf:fOf l t.key m with
   | none =>
    simp only [go_sem,ptO,Option.isSome,hx.s,hy.s,Zq,fillv,e8,Yy,Yo,Yu,Ya,Xh,Z5,Zb3]
    exact Zc rfl
   | some k =>
    have ko:=Z2w hl hf
    simp only [go_sem,ptO,Option.isSome,hx.s,hy.s,Zq,fillv,e8,Yy,Yo,Yu,Ya,Xh,Z5,Zb3,Ye]
    refine Za (Zv8 hy.app hb ko.2.1 ko.2.2.1) (fun _ => rfl) ?_
    generalize U1 b k.x k.y k.far=c
    obtain ⟨t',n⟩:=c
    simp only [go_sem]
    exact Zc (by simp only [low,lowL,Zxl])
set_option maxRecDepth 10000
theorem Zis (b:List UInt8) (X Y:Nat) (f:Bool):(U1 b X Y f).2=0∨(U1 b X Y f).2=2∨(U1 b X Y f).2=8:=by
 unfold U1
 split
 ·exact .inr (.inl rfl)
 ·rename_i t r s h
  generalize verB X Y f (sha ((Xj b).getD ([],0,0)).1) r s=v
  cases v
  ·exact .inr (.inr rfl)
  ·exact .inl rfl
theorem Zcg (l:List Key) (b:List UInt8) (m:Int):0≤(Xs l b m).2∧(Xs l b m).2≤9:=by
 unfold Xs
 split
 ·exact ⟨by decide,by decide⟩
 ·split
  ·exact ⟨by decide,by decide⟩
  ·rename_i k h
   have:=Zis b k.x k.y k.far
   omega
theorem Z0f (t:Tkt):t.cells.all AV.one=true:=rfl
theorem Z0g (t:Tkt):t.cells.length=5:=rfl
theorem Za6 (t:Tkt):t.cells.take 5=t.cells:=rfl
theorem Z0e (t u:Tkt):splice t.cells 0 u.cells=u.cells:=Zu rfl
set_option maxRecDepth 10000
theorem Z2m {pf:Pf} {C:Yq} {Q:Ex→Env→AH→Prop} {l:List (Nat × AV)} {H:AH} {k:IC} {d j:Nat} {w:Bool} (f:Fn) (a b:List IArg):iwp pf C (qg d j w (.mkfn f a b) k) Q (look l) H=Yr w (fun g => (∀ x ∈ a++b,Yp g (em l x))∧iwp pf C k Q (look ((d,.may g (.fn f (a.map (er l)) (b.map (er l))))::l)) H) (look l j):=by
 simp only [qg,iwp,iopwp,Ins.args,iside,ival,imp_true_iff,true_and]; rfl
structure Rvk where
 serial:Int
 from_:Int
def Rvk.cells (r:Rvk):List AV:=[I r.serial,I r.from_]
theorem Rvk.len (r:Rvk):r.cells.length=2:=rfl
def noRv:Rvk:=⟨0,0⟩
abbrev rcs (l:List Rvk):List AV:=l.flatMap Rvk.cells
def Zbw (l:List Rvk) (i:Nat):Bool:=(((decide ((l.getD i noRv).serial<1) || decide (2147483647<(l.getD i noRv).serial)) || decide ((l.getD i noRv).from_<0)) || decide (1073741824<(l.getD i noRv).from_)) || (decide (0<i)&&decide ((l.getD i noRv).serial≤(l.getD (i - 1) noRv).serial))
def revB (l:List Rvk):Bool:=decide (l.length≤200)&&decide (∀ i,i<l.length→Zbw l i=false)
theorem Zel {l:List Rvk} {i:Nat} (hi:i<l.length) (h:Zbw l i=true):revB l=false:=by
 rw [revB,Bool.and_eq_false_iff]
 right
 rw [decide_eq_false_iff_not]
 exact fun hh => by have:=hh i hi; rw [h] at this; cases this
theorem Zwi {l:List Rvk} (h:∀ i,i<l.length→Zbw l i=false):revB l=decide (l.length≤200):=by
 rw [revB,decide_eq_true h,Bool.and_true]
theorem Zqc (l:List Rvk) (i:Nat):Zbw l i=((((decide ((l.getD i noRv).serial<1) || decide (2147483647<(l.getD i noRv).serial)) || decide ((l.getD i noRv).from_<0)) || decide (1073741824<(l.getD i noRv).from_)) || (decide (0<i)&&decide ((l.getD i noRv).serial≤(l.getD (i - 1) noRv).serial))):=rfl
section
variable {H:AH} {x:AV} {l:List Rvk}
theorem Sl.rv2 (h:Sl 2 H x (rcs l) l.length) {i:Nat} (hi:i<l.length):Y8 true 2 H (Xn 2 (.lit (.int .i64 i)) x)=.agg [I (l.getD i noRv).serial,I (l.getD i noRv).from_]:=by
 rw [h.ldA _ hi (by decide),V7 _ 2 Rvk.len _ _ noRv hi]; rfl
theorem Sl.rv1 (h:Sl 2 H x (rcs l) l.length) {i:Nat} (hi:i<l.length) (o:Nat) (ho:o<2):Y8 false 1 H (fldV o (Xn 2 (.lit (.int .i64 i)) x))=[I (l.getD i noRv).serial,I (l.getD i noRv).from_].getD o .junk:=by
 rw [h.fd _ hi (by omega) (by decide),if_neg (by decide),Li _ 2 Rvk.len _ _ _ noRv hi ho]; rfl
theorem Zbb (hx:Sl 2 H x (rcs l) l.length) (hn:l.length≤1000000):Called Tryz.prog F.revoke_May [x] H (Bl (revB l)) H:=by
 refine A4 ?_
 simp only [M5,go_sem,hx.s]
 refine Z4 _ (fun (s:Nat × AH) => ([(0,x),(5,x),(6,I l.length),(7,I s.1)],H++s.2)) (fun s => s.1≤l.length∧∀ j,j<s.1→Zbw l j=false) (fun s => l.length - s.1) (0,[]) ⟨Nat.zero_le _,fun j hj => by omega⟩ (by rw [List.append_nil]; rfl) ?_
 rintro ⟨i,G⟩ ⟨hi,hj⟩
 dsimp only at hi hj
 simp only [go_sem]
 refine ⟨fun h => ?_,fun h => ?_⟩
 ·have hlt:i<l.length:=by omega
  have hG:∀ K,Sl 2 (H++K) x (rcs l) l.length:=fun K => hx.app
  have f7:=(hG G).ldOk .i64 hlt (Nat.le_refl 2)
  have next:∀ K,Zbw l i=false→∃ a':Nat × AH,look [(0,x),(5,x),(6,I l.length),(7,AV.lit (Value.int IntKind.i64 ((i+1:Nat):Int)))]=look [(0,x),(5,x),(6,I l.length),(7,I a'.1)]∧H++K=H++a'.2∧(a'.1≤l.length∧∀ j,j<a'.1→Zbw l j=false)∧l.length - a'.1<l.length - i:=by
   intro K hb
   refine ⟨(i+1,K),rfl,rfl,⟨by show i+1≤_; omega,fun j hj' => ?_⟩,by show _ - (i+1)<_; omega⟩
   rcases Nat.lt_succ_iff_lt_or_eq.1 hj' with h1 | rfl
   ·exact hj j h1
   ·exact hb
  have pb:=Zqc l i
  have ib:(0:Int)≤i∧(i:Int)<l.length:=⟨by omega,by omega⟩
  have w1:IntKind.i64.wrap ((i:Int)+1)=((i+1:Nat):Int):=by rw [w64 _ (by omega) (by omega)]; omega
  simp only [go_sem,hx.s,hx.idx,f7,(hG G).rv2 hlt]
  rcases Nat.eq_zero_or_pos i with h0 | h0
  ·have z0:decide ((0:Int)<i)=false:=by simp; omega
   have z1:decide (0<i)=false:=by simp; omega
   simp only [go_sem,z0,w1,hx.s]
   rw [z1] at pb
   simp only [Bool.false_and,Bool.or_false] at pb
   exact ⟨ib,fun hb => Zc (by rw [Zel hlt (pb.trans hb)]; rfl),fun hb => next _ (pb.trans hb)⟩
  ·have e1:IntKind.i64.wrap ((i:Int) - 1)=((i - 1:Nat):Int):=by rw [w64 _ (by omega) (by omega)]; omega
   have z0:decide ((0:Int)<i)=true:=by simp; omega
   have z1:decide (0<i)=true:=by simp; omega
   have lt1:i - 1<l.length:=by omega
   have ib1:(0:Int)≤((i - 1:Nat):Int)∧((i - 1:Nat):Int)<l.length:=⟨by omega,by omega⟩
   simp only [go_sem,z0,w1,hx.s,e1,hx.idx,(hx.fdOk .i64 lt1 (o:=0) (m:=1) (by omega)).1,((hG _).fdOk .i64 lt1 (o:=0) (m:=1) (by omega)).2,(hG _).rv1 lt1 0 (by omega)]
   rw [z1] at pb
   simp only [Bool.true_and] at pb
   exact ⟨ib,fun _ => ib1,fun hb => Zc (by rw [Zel hlt (pb.trans hb)]; rfl),fun hb => next _ (pb.trans hb)⟩
 ·simp only [hx.s]
  refine ⟨trivial,Zc ?_⟩
  rw [Zwi fun j hj' => hj j (by omega)]
  simp only [low]
  congr 2
  simp; omega
theorem Z0x (r:Rvk) (n m:Int) (p q:Nat) (hp:p<H.length) (ho:obj H p=⟨[I n],0,true⟩) (hq:q<H.length) (hoq:obj H q=⟨[I m],0,true⟩):Called Tryz.prog F.revoke_Is_1 [.agg [I r.serial,I r.from_],.ptr p 0,.ptr q 0] H (Bl (r.serial == n&&decide (r.from_≤m))) H:=by
 refine Cs ?_
 simp only [O6,go_sem,Z1 _ _ hp,ho,Z1 _ _ hq,hoq]
 exact ⟨by omega,fun _ => by omega,Zc rfl⟩
theorem Z0y (hx:Sl 2 H x (rcs l) l.length) (hn:l.length≤1000000) (g:FuncId) (a b:List AV) (p:Rvk→Bool) (hg:∀ r ∈ l,Called Tryz.prog g (a++[.agg [I r.serial,I r.from_]]++b) H (Bl (p r)) H) :
  Called Tryz.prog F.slices_IndexFunc_api_Revoked_api_Revoked [x,.fn (.func g) a b] H (I (fstA p l)) H:=by
 refine X7 ?_
 simp only [Y4,go_sem,hx.lenT,hx.n]
 refine Z4 _ (fun (i:Nat) => ([(0,x),(1,.fn (.func g) a b),(7,I l.length),(8,I i)],H)) (fun i => i≤l.length∧∀ j,j<i→p (l.getD j noRv)=false) (fun i => l.length - i) 0 ⟨Nat.zero_le _,fun j hj => by omega⟩ rfl ?_
 rintro i ⟨hi,hj⟩
 simp only [go_sem]
 refine ⟨fun h => ?_,fun h => ?_⟩
 ·have hlt:i<l.length:=by omega
  simp only [go_sem,hx.idx,hx.un,hx.ldOk .i64 hlt (Nat.le_refl 2),hx.rv2 hlt]
  refine ⟨⟨by omega,by omega⟩,Za (by simpa using hg _ (Yn noRv hlt)) (fun _ => rfl) ?_⟩
  simp only [go_sem]
  refine ⟨fun he => ?_,fun he => ?_⟩
  ·exact Zl (by rw [Gq noRv hlt he hj])
  ·refine ⟨i+1,by rw [w64 _ (by omega) (by omega)]; rfl,⟨by omega,fun j hj' => ?_⟩,by omega⟩
   rcases Nat.lt_succ_iff_lt_or_eq.1 hj' with h1 | rfl
   ·exact hj j h1
   ·exact he
 ·exact Zl (by rw [Gr noRv fun j hj' => hj j (by omega)])
def Zro (l:List Rvk) (n m:Int):Bool:=decide (0≤fstA (fun r => r.serial == n&&decide (r.from_≤m)) l)
theorem t_Is (hx:Sl 2 H x (rcs l) l.length) (hn:l.length≤1000000) (n m:Int):Called Tryz.prog F.revoke_Is [x,I n,I m] H (Bl (revB l&&Zro l n m)) H:=by
 refine Zcz ?_
 simp only [Jo,go_sem,hx.s]
 refine Za (Zbb hx.app hn) (fun _ => rfl) ?_
 simp only [go_sem,hx.s,Z2m]
 refine Zs (v:=Bl (Zro l n m)) (fun _ => ?_) ?_
 ·refine X1 ?_
  simp only [Yv,go_sem,hx.s]
  refine Za (Z0y hx.app hn _ _ _ (fun r => r.serial == n&&decide (r.from_≤m)) (fun r _ => Z0x r n m _ _ (by simp) (by simp only [go_sem]) (by simp) (by simp only [go_sem]))) (fun _ => rfl) ?_
  simp only [go_sem]
  exact Zl rfl
 ·simp only [go_sem]
  exact Zc rfl
end
section
variable {H:AH} {x:AV} {l:List Rvk}
end
end Go.Proofs.YtcgjlpdkobmpnaaGreat.Eng

