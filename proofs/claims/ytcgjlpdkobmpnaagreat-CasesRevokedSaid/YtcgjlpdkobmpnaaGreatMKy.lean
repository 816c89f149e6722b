/- Layer 10: which keys may be, and which counts. -/
import Derived.Test.YtcgjlpdkobmpnaaGreatMRf
import Derived.Test.YtcgjlpdkobmpnaaGreatMTl
import Derived.Test.YtcgjlpdkobmpnaaGreatMCc
import Derived.Test.YtcgjlpdkobmpnaaGreatMCb
import Derived.Test.YtcgjlpdkobmpnaaGreatMTk
namespace Go.Proofs.YtcgjlpdkobmpnaaGreat.Eng
open Go Go.Proofs
set_option linter.unusedVariables false
set_option linter.unusedSimpArgs false
set_option maxRecDepth 10000
structure Key where
 id:Int
 x:Nat
 y:Nat
 far:Bool
 from_:Int
 to:Int
def Key.ok (k:Key):Prop:=ok64 k.id∧k.x<(18446744073709551616:Nat)^4∧k.y<(18446744073709551616:Nat)^4∧ok64 k.from_∧ok64 k.to
def Key.cells (k:Key):List AV:=I k.id::(pcell k.x k.y k.far++[I k.from_,I k.to])
theorem Key.len (k:Key):k.cells.length=12:=by simp [Key.cells,pcell,Zb]
def W4:Key:=⟨0,0,0,false,0,0⟩
abbrev kcs (l:List Key):List AV:=l.flatMap Key.cells
def D4 (k:Key):Bool:=((((decide (k.id<1) || decide (2147483647<k.id)) || !Sm k.x k.y k.far) || k.far) || decide (k.from_<0) || decide (k.to<k.from_)) || decide (1073741824<k.to)
def Hg (l:List Key) (i:Nat):Bool:=D4 (l.getD i W4) || (decide (0<i)&&decide ((l.getD i W4).id≤(l.getD (i - 1) W4).id))
def Rm (l:List Key):Bool:=decide (l.length≤32)&&decide (∀ i,i<l.length→Hg l i=false)
theorem Ag {l:List Key} {i:Nat} (hi:i<l.length) (h:Hg l i=true):Rm l=false:=by
 rw [Rm,Bool.and_eq_false_iff]
 right
 rw [decide_eq_false_iff_not]
 exact fun hh => by have:=hh i hi; rw [h] at this; cases this
theorem Zqv {l:List Key} (h:∀ i,i<l.length→Hg l i=false):Rm l=decide (l.length≤32):=by
 rw [Rm,decide_eq_true h,Bool.and_true]
theorem D1 (k:Key):(k.cells.drop 1).take 9=pcell k.x k.y k.far:=by
 rw [Key.cells,List.drop_succ_cons,List.drop_zero,List.take_left' (by simp [pcell,Zb])]
theorem Zlo (k:Key):k.cells.getD 9 .junk=Bl k.far:=rfl
theorem D3 (k:Key):k.cells.getD 10 .junk=I k.from_:=rfl
theorem Zlm (k:Key):k.cells.getD 11 .junk=I k.to:=rfl
theorem Ze7 (k:Key):k.cells.getD 0 .junk=I k.id:=rfl
theorem D2 (k:Key):k.cells.all AV.one=true:=rfl
theorem Zln (k:Key):k.cells.isEmpty=false:=rfl
theorem Zw5 (k:Key):k.cells.take 12=k.cells:=rfl
theorem Z33 {H:AH} (k:Key) (hk:k.ok):Called Tryz.prog F.keys_one [.agg k.cells] H (Bl (!D4 k)) H:=by
 refine Zh7 ?_
 have kl:=Key.len k
 simp only [Ht,go_sem,D2,Zln,kl,D1,Zlo,D3,Zlm,Ze7]
 refine Zq (fun _ => t_On hk.2.1 hk.2.2.1) ?_
 simp only [go_sem,D2,Zln,kl,D1,Zlo,D3,Zlm,Ze7]
 refine Zc ?_
 simp only [low,D4]
 congr 2
 simp only [Bool.not_or,← decide_not,Int.not_lt,Bool.not_not,Bool.and_assoc]
section
variable {H:AH} {x:AV} {l:List Key}
theorem Sl.key (h:Sl 12 H x (kcs l) l.length) {i:Nat} (hi:i<l.length):Yc true 12 H (Z5 12 (.lit (.int .i64 i)) x)=.agg (l.getD i W4).cells:=by
 rw [h.ldA _ hi (by decide),Xg _ 12 Key.len _ _ W4 hi]
theorem Sl.key1 (h:Sl 12 H x (kcs l) l.length) {i:Nat} (hi:i<l.length) (o:Nat) (ho:o<12):Yc false 1 H (fldV o (Z5 12 (.lit (.int .i64 i)) x))=(l.getD i W4).cells.getD o .junk:=by
 rw [h.fd _ hi (by omega) (by decide),if_neg (by decide),W7 _ 12 Key.len _ _ _ W4 hi ho]
theorem Sl.key9 (h:Sl 12 H x (kcs l) l.length) {i:Nat} (hi:i<l.length):Yc true 9 H (fldV 1 (Z5 12 (.lit (.int .i64 i)) x))=.agg (pcell (l.getD i W4).x (l.getD i W4).y (l.getD i W4).far):=by
 rw [h.fd _ hi (by omega) (by decide),if_pos rfl,Znc _ 12 Key.len _ _ _ _ W4 hi (by omega),D1]
end
theorem Zlp (l:List Key) (i:Nat):Hg l i=(D4 (l.getD i W4) || (decide (0<i)&&decide ((l.getD i W4).id≤(l.getD (i - 1) W4).id))):=rfl
theorem Zd5 {H:AH} {x:AV} {l:List Key} (hx:Sl 12 H x (kcs l) l.length) (hl:∀ p ∈ l,p.ok) (hn:l.length≤1000000):Called Tryz.prog F.keys_May [x] H (Bl (Rm l)) H:=by
 refine Zh8 ?_
 simp only [Hu,go_sem,hx.lenT,hx.n]
 refine Z1 _ (fun (s:Nat × AH) => ([(0,x),(5,x),(6,I l.length),(7,I s.1)],H++s.2)) (fun s => s.1≤l.length∧∀ j,j<s.1→Hg l j=false) (fun s => l.length - s.1) (0,[]) ⟨Nat.zero_le _,fun j hj => by omega⟩ (by rw [List.append_nil]; rfl) ?_
 rintro ⟨i,G⟩ ⟨hi,hj⟩
 dsimp only at hi hj
 simp only [go_sem]
 refine ⟨fun h => ?_,fun h => ?_⟩
 ·have hlt:i<l.length:=by omega
  have hp:=hl _ (Zl W4 hlt)
  have hG:Sl 12 (H++G) x (kcs l) l.length:=hx.app
  have hK:∀ K,Sl 12 (H++(G++K)) x (kcs l) l.length:=fun K => hx.app
  have f7:=hG.ldOk .i64 hlt (Nat.le_refl 12)
  have next:∀ K,Hg l i=false→∃ a':Nat × AH,look [(0,x),(5,x),(6,I l.length),(7,AV.lit (Value.int IntKind.i64 (IntKind.i64.wrap (↑i+1))))]=look [(0,x),(5,x),(6,I l.length),(7,I a'.1)]∧H++K=H++a'.2∧(a'.1≤l.length∧∀ j,j<a'.1→Hg l j=false)∧l.length - a'.1<l.length - i:=by
   intro K hb
   refine ⟨(i+1,K),by rw [w64 _ (by omega) (by omega)]; rfl,rfl,⟨by show i+1≤_; omega,fun j hj' => ?_⟩,by show _ - (i+1)<_; omega⟩
   rcases Nat.lt_succ_iff_lt_or_eq.1 hj' with h1 | rfl
   ·exact hj j h1
   ·exact hb
  have pb:=Zlp l i
  have ib:(0:Int)≤i∧(i:Int)<l.length:=⟨by omega,by omega⟩
  have kl:=Key.len (l.getD i W4)
  have kx:(l.getD i W4).cells++List.drop 12 [I 0,Z0,Z0,Z0,Z0,Z0,Z0,Z0,Z0,Bl false,I 0,I 0]=(l.getD i W4).cells:=by simp
  have kz:splice [I 0,Z0,Z0,Z0,Z0,Z0,Z0,Z0,Z0,Bl false,I 0,I 0] 0 (l.getD i W4).cells=(l.getD i W4).cells:=Zy kl
  simp only [go_sem,hG.idx,hG.un,f7,hG.key hlt,D2,kl,kz,Zw5]
  refine ⟨ib,Za (Z33 _ hp) (fun _ => rfl) ?_⟩
  rcases Nat.eq_zero_or_pos i with h0 | h0
  ·have z0:decide ((0:Int)<i)=false:=by simp; omega
   have z1:decide (0<i)=false:=by simp; omega
   simp only [go_sem,z0]
   rw [z1] at pb
   simp only [Bool.false_and,Bool.or_false] at pb
   simp only [Bool.not_not]
   exact ⟨hx.may _ ▸ trivial,fun hb => Zc (by rw [Ag hlt (pb.trans hb)]; rfl),fun hb => next _ (pb.trans hb)⟩
  ·have e1:IntKind.i64.wrap ((i:Int) - 1)=((i - 1:Nat):Int):=by rw [w64 _ (by omega) (by omega)]; omega
   have z0:decide ((0:Int)<i)=true:=by simp; omega
   have z1:decide (0<i)=true:=by simp; omega
   have lt1:i - 1<l.length:=by omega
   simp only [go_sem,z0,hx.may,hx.un,e1,hx.idx,(hx.fdOk .i64 lt1 (o:=0) (m:=1) (by omega)).1,((hK _).fdOk .i64 lt1 (o:=0) (m:=1) (by omega)).2,(hK _).key1 lt1 0 (by omega),Ze7,kl]
   rw [z1] at pb
   simp only [Bool.true_and] at pb
   simp only [Bool.not_not]
   exact ⟨fun _ => ⟨by omega,by omega⟩,fun hb => Zc (by rw [Ag hlt (pb.trans hb)]; rfl),fun hb => next _ (pb.trans hb)⟩
 ·rw [hx.lenT,hx.n]
  refine ⟨trivial,Zc ?_⟩
  rw [Zqv fun j hj' => hj j (by omega)]
  simp only [low]
  congr 2
  simp; omega
set_option maxRecDepth 10000
theorem Zcb (ren:Nat→Option Nat) (H:AH) (x y:Nat) (f:Bool):lowL ren H (pcell x y f)=pcell x y f:=by
 simp only [pcell,Wp,Sn]; rfl
theorem Zvh {H:AH} (k:Key) (n:Int) (q:Nat) (hq:q<H.length) (ho:obj H q=⟨[I n],0,true⟩):Called Tryz.prog F.keys_find_1 [.agg k.cells,.ptr q 0] H (Bl (k.id == n)) H:=by
 refine Co ?_
 have kl:=Key.len k
 simp only [P7,go_sem,D2,Zln,Ze7,kl,Yf _ _ hq,ho]
 exact ⟨by omega,Zc rfl⟩
theorem Z0h {H:AH} {x:AV} {l:List Key} (hx:Sl 12 H x (kcs l) l.length) (hn:l.length≤1000000) (g:FuncId) (a b:List AV) (p:Key→Bool) (hg:∀ r ∈ l,Called Tryz.prog g (a++[.agg r.cells]++b) H (Bl (p r)) H) :
  Called Tryz.prog F.slices_IndexFunc_api_Key_api_Key [x,.fn (.func g) a b] H (I (fstA p l)) H:=by
 refine Vg ?_
 simp only [Xp,go_sem,hx.lenT,hx.n]
 refine Z1 _ (fun (i:Nat) => ([(0,x),(1,.fn (.func g) a b),(7,I l.length),(8,I i)],H)) (fun i => i≤l.length∧∀ j,j<i→p (l.getD j W4)=false) (fun i => l.length - i) 0 ⟨Nat.zero_le _,fun j hj => by omega⟩ rfl ?_
 rintro i ⟨hi,hj⟩
 simp only [go_sem]
 refine ⟨fun h => ?_,fun h => ?_⟩
 ·have hlt:i<l.length:=by omega
  simp only [go_sem,hx.idx,hx.un,hx.ldOk .i64 hlt (Nat.le_refl 12),hx.key hlt]
  refine ⟨⟨by omega,by omega⟩,Za (by simpa using hg _ (Zl W4 hlt)) (fun _ => rfl) ?_⟩
  simp only [go_sem]
  refine ⟨fun he => ?_,fun he => ?_⟩
  ·exact Zk (by rw [Q6 W4 hlt he hj])
  ·refine ⟨i+1,by rw [w64 _ (by omega) (by omega)]; rfl,⟨by omega,fun j hj' => ?_⟩,by omega⟩
   rcases Nat.lt_succ_iff_lt_or_eq.1 hj' with h1 | rfl
   ·exact hj j h1
   ·exact he
 ·exact Zk (by rw [Q7 W4 fun j hj' => hj j (by omega)])
def fOf (l:List Key) (n m:Int):Option Key :=
 if fstA (fun k => k.id == n) l<0 then none else
 if (l.getD (fstA (fun k => k.id == n) l).toNat W4).from_≤m∧m<(l.getD (fstA (fun k => k.id == n) l).toNat W4).to then some (l.getD (fstA (fun k => k.id == n) l).toNat W4) else none
def ptO:Option Key→List AV
 | some k => pcell k.x k.y k.far
 | none => pcell 0 0 false
abbrev fndV (o:Option Key):AV:=.tup [.agg (ptO o),Bl o.isSome]
theorem Zmb (l:List Key) (n:Int):(fstA (fun k => k.id == n) l=-1∧∀ j,j<l.length→(l.getD j W4).id≠n)∨∃ j,j<l.length∧fstA (fun k => k.id == n) l=((j:Nat):Int)∧(l.getD j W4).id=n:=by
 unfold fstA
 cases h:l.findIdx? (fun k => k.id == n) with
 | none =>
  rw [List.findIdx?_eq_none_iff] at h
  exact .inl ⟨rfl,fun j hj => by simpa using h _ (Zl W4 hj)⟩
 | some i =>
  rw [List.findIdx?_eq_some_iff_getElem] at h
  obtain ⟨hi,h1,_⟩:=h
  exact .inr ⟨i,hi,rfl,by rw [List.getD_eq_getElem?_getD,List.getElem?_eq_getElem hi]; simpa using h1⟩
theorem pz:pcell 0 0 false=[Z0,Z0,Z0,Z0,Z0,Z0,Z0,Z0,Bl false]:=rfl
theorem Zb1 (x y:Nat) (f:Bool):splice [Z0,Z0,Z0,Z0,Z0,Z0,Z0,Z0,Bl false] 0 (pcell x y f)=pcell x y f:=Zy (by rw [Yb]; rfl)
theorem Zw1 (ren:Nat→Option Nat) (H:AH) (o:Option Key):low ren H (fndV o)=fndV o:=by
 cases o <;> simp only [low,lowL,ptO,Zcb] <;> rfl
theorem Zti {H:AH} {x:AV} {l:List Key} (hx:Sl 12 H x (kcs l) l.length) (hn:l.length≤1000000) (n m:Int):Called Tryz.prog F.keys_find [x,I n,I m] H (fndV (fOf l n m)) H:=by
 refine Zc5 ?_
 have hG:∀ K,Sl 12 (H++K) x (kcs l) l.length:=fun K => hx.app
 simp only [Kv,go_sem]
 have hi:=fun K => Z0h (hG K) hn F.keys_find_1 [] [.ptr H.length 0] (fun k => k.id == n)
 have hk:=Zmb l n
 refine Za (hi _ fun r hr => Zvh r n H.length (by simp) (by simp [Ym,Nm])) (fun _ => rfl) ?_
 rw [fOf]
 generalize fstA (fun k => k.id == n) l=k at hk ⊢
 simp only [go_sem,hx.may,hx.un]
 rcases hk with ⟨rfl,_⟩ | ⟨j,hj,rfl,_⟩
 ·have z0:decide ((-1:Int)<0)=true:=rfl
  simp only [go_sem,z0,Zr,fillv]
  exact Zc rfl
 ·have z0:decide (((j:Nat):Int)<0)=false:=by simp
  have g1:=fun K => ((hG K).fdOk .i64 hj (o:=10) (m:=1) (by omega)).2
  have g2:=fun K => ((hG K).fdOk .i64 hj (o:=11) (m:=1) (by omega)).2
  have g3:=fun K => ((hG K).fdOk .i64 hj (o:=1) (m:=9) (by omega)).2
  have g0:=(hx.fdOk .i64 hj (o:=1) (m:=9) (by omega)).1
  rw [if_neg (by omega),Int.toNat_natCast]
  have ib:(0:Int)≤j∧(j:Int)<l.length:=⟨by omega,by omega⟩
  simp only [go_sem,z0,hx.may,hx.un,hx.idx,g0,g1,g2,g3,(hG _).key1 hj 10 (by omega),(hG _).key1 hj 11 (by omega),(hG _).key9 hj,D3,Zlm,Zr,fillv,Yb,Xk,Zb1,Yk]
  refine ⟨ib,fun _ => ib,fun h => Zc ?_,fun h => ⟨ib,Zc ?_⟩⟩
  ·rw [if_neg]; rfl
   simp only [Bool.or_eq_true,decide_eq_true_eq] at h; omega
  ·rw [if_pos]
   ·simp only [low,lowL,Zcb]; rfl
   ·simp only [Bool.or_eq_false_iff,decide_eq_false_iff_not] at h; omega
theorem Z0w {H:AH} {x:AV} {l:List Key} (hx:Sl 12 H x (kcs l) l.length) (hl:∀ p ∈ l,p.ok) (hn:l.length≤1000000) (n m:Int):Called Tryz.prog F.keys_Find [x,I n,I m] H (fndV (if Rm l then fOf l n m else none)) H:=by
 refine Zc6 ?_
 have hG:∀ K,Sl 12 (H++K) x (kcs l) l.length:=fun K => hx.app
 simp only [Kw,go_sem]
 refine Za (Zd5 (hG _) hl hn) (fun _ => rfl) ?_
 simp only [go_sem,Zr,fillv,← pz]
 refine ⟨fun h => ?_,fun h => Za (Zti (hG _) hn n m) (fun _ => rfl) ?_⟩
 ·rw [if_neg (by simpa using h)]
  simp only [Yb,Xk,Zy (show (pcell 0 0 false).length=(pcell 0 0 false).length from rfl),Yk]
  exact ⟨⟨trivial,trivial,by decide⟩,by decide,Zc (by simp only [low,lowL,Zcb]; rfl)⟩
 ·rw [if_pos (by simpa using h)]
  generalize fOf l n m=o
  have ol:(ptO o).length=9:=by cases o <;> simp only [ptO,Yb]
  have oo:(ptO o).all AV.one=true:=by cases o <;> simp only [ptO,Xk]
  have os:splice (pcell 0 0 false) 0 (ptO o)=ptO o:=Zy (by rw [ol,Yb])
  have ot:(ptO o).take 9=ptO o:=List.take_of_length_le (by rw [ol]; exact Nat.le_refl _)
  simp only [go_sem,ol,oo,os,ot,Yb]
  exact Zc (Zw1 _ _ o)
set_option maxRecDepth 10000
theorem Z2o {l:List Key} (hl:∀ p ∈ l,p.ok) {n m:Int} {k:Key} (h:fOf l n m=some k):k.ok:=by
 unfold fOf at h
 rcases Zmb l n with ⟨e,_⟩ | ⟨j,hj,e,_⟩
 ·rw [e] at h; cases h
 ·rw [e,if_neg (by omega),Int.toNat_natCast] at h
  split at h
  ·cases h; exact hl _ (Zl W4 hj)
  ·cases h
end Go.Proofs.YtcgjlpdkobmpnaaGreat.Eng

