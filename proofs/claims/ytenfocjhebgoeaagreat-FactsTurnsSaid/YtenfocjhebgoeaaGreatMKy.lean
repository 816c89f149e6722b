/- Layer 10: which keys may be, and which counts. -/
import Derived.Test.YtenfocjhebgoeaaGreatMRf
import Derived.Test.YtenfocjhebgoeaaGreatMTl
import Derived.Test.YtenfocjhebgoeaaGreatMCc
import Derived.Test.YtenfocjhebgoeaaGreatMCb
namespace Go.Proofs.YtenfocjhebgoeaaGreat.Eng
open Go Go.Proofs
set_option linter.unusedVariables false
set_option linter.unusedSimpArgs false
set_option maxRecDepth 10000
structure Key where
 id:Int
 x:Nat
 y:Nat
 far:Bool
 from_:Int
 to:Int
def Key.ok (k:Key):Prop:=ok64 k.id∧k.x<(18446744073709551616:Nat)^4∧k.y<(18446744073709551616:Nat)^4∧ok64 k.from_∧ok64 k.to
def Key.cells (k:Key):List AV:=I k.id::(pcell k.x k.y k.far++[I k.from_,I k.to])
theorem Key.len (k:Key):k.cells.length=12:=by simp [Key.cells,pcell,wd_length]
def noKey:Key:=⟨0,0,0,false,0,0⟩
abbrev kcs (l:List Key):List AV:=l.flatMap Key.cells
def keyBad1 (k:Key):Bool:=((((decide (k.id<1) || decide (2147483647<k.id)) || !onRaw k.x k.y k.far) || k.far) || decide (k.from_<0) || decide (k.to<k.from_)) || decide (1073741824<k.to)
def keyBad (l:List Key) (i:Nat):Bool:=keyBad1 (l.getD i noKey) || (decide (0<i)&&decide ((l.getD i noKey).id≤(l.getD (i - 1) noKey).id))
def keysB (l:List Key):Bool:=decide (l.length≤32)&&decide (∀ i,i<l.length→keyBad l i=false)
theorem keysB_bad {l:List Key} {i:Nat} (hi:i<l.length) (h:keyBad l i=true):keysB l=false:=by
 rw [keysB,Bool.and_eq_false_iff]
 right
 rw [decide_eq_false_iff_not]
 exact fun hh => by have:=hh i hi; rw [h] at this; cases this
theorem keysB_ok {l:List Key} (h:∀ i,i<l.length→keyBad l i=false):keysB l=decide (l.length≤32):=by
 rw [keysB,decide_eq_true h,Bool.and_true]
theorem key_take (k:Key):(k.cells.drop 1).take 9=pcell k.x k.y k.far:=by
 rw [Key.cells,List.drop_succ_cons,List.drop_zero,List.take_left' (by simp [pcell,wd_length])]
theorem key_far (k:Key):k.cells.getD 9 .junk=Bl k.far:=rfl
theorem key_from (k:Key):k.cells.getD 10 .junk=I k.from_:=rfl
theorem key_to (k:Key):k.cells.getD 11 .junk=I k.to:=rfl
theorem key_id (k:Key):k.cells.getD 0 .junk=I k.id:=rfl
theorem key_one (k:Key):k.cells.all AV.one=true:=rfl
theorem key_ne (k:Key):k.cells.isEmpty=false:=rfl
theorem key_all (k:Key):k.cells.take 12=k.cells:=rfl
theorem t_one {H:AH} (k:Key) (hk:k.ok):Called Tryz.prog F.keys_one [.agg k.cells] H (Bl (!keyBad1 k)) H:=by
 refine e_keys_one ?_
 have kl:=Key.len k
 simp only [ic_keys_one,go_sem,key_one,key_ne,kl,key_take,key_far,key_from,key_to,key_id]
 refine callG_of (fun _ => t_On hk.2.1 hk.2.2.1) ?_
 simp only [go_sem,key_one,key_ne,kl,key_take,key_far,key_from,key_to,key_id]
 refine leave_drop ?_
 simp only [low,keyBad1]
 congr 2
 simp only [Bool.not_or,← decide_not,Int.not_lt,Bool.not_not,Bool.and_assoc]
section
variable {H:AH} {x:AV} {l:List Key}
theorem Sl.key (h:Sl 12 H x (kcs l) l.length) {i:Nat} (hi:i<l.length):loadV true 12 H (idxaV 12 (.lit (.int .i64 i)) x)=.agg (l.getD i noKey).cells:=by
 rw [h.ldA _ hi (by decide),elt_flat _ 12 Key.len _ _ noKey hi]
theorem Sl.key1 (h:Sl 12 H x (kcs l) l.length) {i:Nat} (hi:i<l.length) (o:Nat) (ho:o<12):loadV false 1 H (fldV o (idxaV 12 (.lit (.int .i64 i)) x))=(l.getD i noKey).cells.getD o .junk:=by
 rw [h.fd _ hi (by omega) (by decide),if_neg (by decide),getD_flat _ 12 Key.len _ _ _ noKey hi ho]
theorem Sl.key9 (h:Sl 12 H x (kcs l) l.length) {i:Nat} (hi:i<l.length):loadV true 9 H (fldV 1 (idxaV 12 (.lit (.int .i64 i)) x))=.agg (pcell (l.getD i noKey).x (l.getD i noKey).y (l.getD i noKey).far):=by
 rw [h.fd _ hi (by omega) (by decide),if_pos rfl,drop_flat _ 12 Key.len _ _ _ _ noKey hi (by omega),key_take]
end
theorem keyBad_eq (l:List Key) (i:Nat):keyBad l i=(keyBad1 (l.getD i noKey) || (decide (0<i)&&decide ((l.getD i noKey).id≤(l.getD (i - 1) noKey).id))):=rfl
theorem t_kMay {H:AH} {x:AV} {l:List Key} (hx:Sl 12 H x (kcs l) l.length) (hl:∀ p ∈ l,p.ok) (hn:l.length≤1000000):Called Tryz.prog F.keys_May [x] H (Bl (keysB l)) H:=by
 refine e_keys_May ?_
 simp only [ic_keys_May,go_sem,hx.lenT,hx.n]
 refine w_loop _ (fun (s:Nat × AH) => ([(0,x),(5,x),(6,I l.length),(7,I s.1)],H++s.2)) (fun s => s.1≤l.length∧∀ j,j<s.1→keyBad l j=false) (fun s => l.length - s.1) (0,[]) ⟨Nat.zero_le _,fun j hj => by omega⟩ (by rw [List.append_nil]; rfl) ?_
 rintro ⟨i,G⟩ ⟨hi,hj⟩
 dsimp only at hi hj
 simp only [go_sem]
 refine ⟨fun h => ?_,fun h => ?_⟩
 ·have hlt:i<l.length:=by omega
  have hp:=hl _ (getD_memP noKey hlt)
  have hG:Sl 12 (H++G) x (kcs l) l.length:=hx.app
  have hK:∀ K,Sl 12 (H++(G++K)) x (kcs l) l.length:=fun K => hx.app
  have f7:=hG.ldOk .i64 hlt (Nat.le_refl 12)
  have next:∀ K,keyBad l i=false→∃ a':Nat × AH,look [(0,x),(5,x),(6,I l.length),(7,AV.lit (Value.int IntKind.i64 (IntKind.i64.wrap (↑i+1))))]=look [(0,x),(5,x),(6,I l.length),(7,I a'.1)]∧H++K=H++a'.2∧(a'.1≤l.length∧∀ j,j<a'.1→keyBad l j=false)∧l.length - a'.1<l.length - i:=by
   intro K hb
   refine ⟨(i+1,K),by rw [w64 _ (by omega) (by omega)]; rfl,rfl,⟨by show i+1≤_; omega,fun j hj' => ?_⟩,by show _ - (i+1)<_; omega⟩
   rcases Nat.lt_succ_iff_lt_or_eq.1 hj' with h1 | rfl
   ·exact hj j h1
   ·exact hb
  have pb:=keyBad_eq l i
  have ib:(0:Int)≤i∧(i:Int)<l.length:=⟨by omega,by omega⟩
  have kl:=Key.len (l.getD i noKey)
  have kx:(l.getD i noKey).cells++List.drop 12 [I 0,Z0,Z0,Z0,Z0,Z0,Z0,Z0,Z0,Bl false,I 0,I 0]=(l.getD i noKey).cells:=by simp
  have kz:splice [I 0,Z0,Z0,Z0,Z0,Z0,Z0,Z0,Z0,Bl false,I 0,I 0] 0 (l.getD i noKey).cells=(l.getD i noKey).cells:=splice_all kl
  simp only [go_sem,hG.idx,hG.un,f7,hG.key hlt,key_one,kl,kz,key_all]
  refine ⟨ib,callW_some (t_one _ hp) (fun _ => rfl) ?_⟩
  rcases Nat.eq_zero_or_pos i with h0 | h0
  ·have z0:decide ((0:Int)<i)=false:=by simp; omega
   have z1:decide (0<i)=false:=by simp; omega
   simp only [go_sem,z0]
   rw [z1] at pb
   simp only [Bool.false_and,Bool.or_false] at pb
   simp only [Bool.not_not]
   exact ⟨hx.may _ ▸ trivial,fun hb => leave_drop (by rw [keysB_bad hlt (pb.trans hb)]; rfl),fun hb => next _ (pb.trans hb)⟩
  ·have e1:IntKind.i64.wrap ((i:Int) - 1)=((i - 1:Nat):Int):=by rw [w64 _ (by omega) (by omega)]; omega
   have z0:decide ((0:Int)<i)=true:=by simp; omega
   have z1:decide (0<i)=true:=by simp; omega
   have lt1:i - 1<l.length:=by omega
   simp only [go_sem,z0,hx.may,hx.un,e1,hx.idx,(hx.fdOk .i64 lt1 (o:=0) (m:=1) (by omega)).1,((hK _).fdOk .i64 lt1 (o:=0) (m:=1) (by omega)).2,(hK _).key1 lt1 0 (by omega),key_id,kl]
   rw [z1] at pb
   simp only [Bool.true_and] at pb
   simp only [Bool.not_not]
   exact ⟨fun _ => ⟨by omega,by omega⟩,fun hb => leave_drop (by rw [keysB_bad hlt (pb.trans hb)]; rfl),fun hb => next _ (pb.trans hb)⟩
 ·rw [hx.lenT,hx.n]
  refine ⟨trivial,leave_drop ?_⟩
  rw [keysB_ok fun j hj' => hj j (by omega)]
  simp only [low]
  congr 2
  simp; omega
set_option maxRecDepth 10000
theorem low_pcK (ren:Nat→Option Nat) (H:AH) (x y:Nat) (f:Bool):lowL ren H (pcell x y f)=pcell x y f:=by
 simp only [pcell,lowL_append,lowL_wd]; rfl
theorem t_find1 {H:AH} (k:Key) (n:Int) (q:Nat) (hq:q<H.length) (ho:obj H q=⟨[I n],0,true⟩):Called Tryz.prog F.keys_find_1 [.agg k.cells,.ptr q 0] H (Bl (k.id == n)) H:=by
 refine e_keys_find_1 ?_
 have kl:=Key.len k
 simp only [ic_keys_find_1,go_sem,key_one,key_ne,key_id,kl,obj_old _ _ hq,ho]
 exact ⟨by omega,leave_drop rfl⟩
theorem t_idxK {H:AH} {x:AV} {l:List Key} (hx:Sl 12 H x (kcs l) l.length) (hn:l.length≤1000000) (g:FuncId) (a b:List AV) (p:Key→Bool) (hg:∀ r ∈ l,Called Tryz.prog g (a++[.agg r.cells]++b) H (Bl (p r)) H) :
  Called Tryz.prog F.slices_IndexFunc_api_Key_api_Key [x,.fn (.func g) a b] H (I (fstA p l)) H:=by
 refine e_slices_IndexFunc_api_Key_api_Key ?_
 simp only [ic_slices_IndexFunc_api_Key_api_Key,go_sem,hx.lenT,hx.n]
 refine w_loop _ (fun (i:Nat) => ([(0,x),(1,.fn (.func g) a b),(7,I l.length),(8,I i)],H)) (fun i => i≤l.length∧∀ j,j<i→p (l.getD j noKey)=false) (fun i => l.length - i) 0 ⟨Nat.zero_le _,fun j hj => by omega⟩ rfl ?_
 rintro i ⟨hi,hj⟩
 simp only [go_sem]
 refine ⟨fun h => ?_,fun h => ?_⟩
 ·have hlt:i<l.length:=by omega
  simp only [go_sem,hx.idx,hx.un,hx.ldOk .i64 hlt (Nat.le_refl 12),hx.key hlt]
  refine ⟨⟨by omega,by omega⟩,callW_some (by simpa using hg _ (getD_memP noKey hlt)) (fun _ => rfl) ?_⟩
  simp only [go_sem]
  refine ⟨fun he => ?_,fun he => ?_⟩
  ·exact leave_same (by rw [fstA_some noKey hlt he hj])
  ·refine ⟨i+1,by rw [w64 _ (by omega) (by omega)]; rfl,⟨by omega,fun j hj' => ?_⟩,by omega⟩
   rcases Nat.lt_succ_iff_lt_or_eq.1 hj' with h1 | rfl
   ·exact hj j h1
   ·exact he
 ·exact leave_same (by rw [fstA_none noKey fun j hj' => hj j (by omega)])
def fOf (l:List Key) (n m:Int):Option Key :=
 if fstA (fun k => k.id == n) l<0 then none else
 if (l.getD (fstA (fun k => k.id == n) l).toNat noKey).from_≤m∧m<(l.getD (fstA (fun k => k.id == n) l).toNat noKey).to then some (l.getD (fstA (fun k => k.id == n) l).toNat noKey) else none
def ptO:Option Key→List AV
 | some k => pcell k.x k.y k.far
 | none => pcell 0 0 false
abbrev fndV (o:Option Key):AV:=.tup [.agg (ptO o),Bl o.isSome]
theorem fst_atK (l:List Key) (n:Int):(fstA (fun k => k.id == n) l=-1∧∀ j,j<l.length→(l.getD j noKey).id≠n)∨∃ j,j<l.length∧fstA (fun k => k.id == n) l=((j:Nat):Int)∧(l.getD j noKey).id=n:=by
 unfold fstA
 cases h:l.findIdx? (fun k => k.id == n) with
 | none =>
  rw [List.findIdx?_eq_none_iff] at h
  exact .inl ⟨rfl,fun j hj => by simpa using h _ (getD_memP noKey hj)⟩
 | some i =>
  rw [List.findIdx?_eq_some_iff_getElem] at h
  obtain ⟨hi,h1,_⟩:=h
  exact .inr ⟨i,hi,rfl,by rw [List.getD_eq_getElem?_getD,List.getElem?_eq_getElem hi]; simpa using h1⟩
theorem pz:pcell 0 0 false=[Z0,Z0,Z0,Z0,Z0,Z0,Z0,Z0,Bl false]:=rfl
theorem pc_splz (x y:Nat) (f:Bool):splice [Z0,Z0,Z0,Z0,Z0,Z0,Z0,Z0,Bl false] 0 (pcell x y f)=pcell x y f:=splice_all (by rw [pc_len]; rfl)
theorem low_fnd (ren:Nat→Option Nat) (H:AH) (o:Option Key):low ren H (fndV o)=fndV o:=by
 cases o <;> simp only [low,lowL,ptO,low_pcK] <;> rfl
theorem t_find {H:AH} {x:AV} {l:List Key} (hx:Sl 12 H x (kcs l) l.length) (hn:l.length≤1000000) (n m:Int):Called Tryz.prog F.keys_find [x,I n,I m] H (fndV (fOf l n m)) H:=by
 refine e_keys_find ?_
 have hG:∀ K,Sl 12 (H++K) x (kcs l) l.length:=fun K => hx.app
 simp only [ic_keys_find,go_sem]
 have hi:=fun K => t_idxK (hG K) hn F.keys_find_1 [] [.ptr H.length 0] (fun k => k.id == n)
 have hk:=fst_atK l n
 refine callW_some (hi _ fun r hr => t_find1 r n H.length (by simp) (by simp [obj_app0,obj_cons0])) (fun _ => rfl) ?_
 rw [fOf]
 generalize fstA (fun k => k.id == n) l=k at hk ⊢
 simp only [go_sem,hx.may,hx.un]
 rcases hk with ⟨rfl,_⟩ | ⟨j,hj,rfl,_⟩
 ·have z0:decide ((-1:Int)<0)=true:=rfl
  simp only [go_sem,z0,fillOk,fillv]
  exact leave_drop rfl
 ·have z0:decide (((j:Nat):Int)<0)=false:=by simp
  have g1:=fun K => ((hG K).fdOk .i64 hj (o:=10) (m:=1) (by omega)).2
  have g2:=fun K => ((hG K).fdOk .i64 hj (o:=11) (m:=1) (by omega)).2
  have g3:=fun K => ((hG K).fdOk .i64 hj (o:=1) (m:=9) (by omega)).2
  have g0:=(hx.fdOk .i64 hj (o:=1) (m:=9) (by omega)).1
  rw [if_neg (by omega),Int.toNat_natCast]
  have ib:(0:Int)≤j∧(j:Int)<l.length:=⟨by omega,by omega⟩
  simp only [go_sem,z0,hx.may,hx.un,hx.idx,g0,g1,g2,g3,(hG _).key1 hj 10 (by omega),(hG _).key1 hj 11 (by omega),(hG _).key9 hj,key_from,key_to,fillOk,fillv,pc_len,pc_one,pc_splz,pc_take]
  refine ⟨ib,fun _ => ib,fun h => leave_drop ?_,fun h => ⟨ib,leave_drop ?_⟩⟩
  ·rw [if_neg]; rfl
   simp only [Bool.or_eq_true,decide_eq_true_eq] at h; omega
  ·rw [if_pos]
   ·simp only [low,lowL,low_pcK]; rfl
   ·simp only [Bool.or_eq_false_iff,decide_eq_false_iff_not] at h; omega
theorem t_Find {H:AH} {x:AV} {l:List Key} (hx:Sl 12 H x (kcs l) l.length) (hl:∀ p ∈ l,p.ok) (hn:l.length≤1000000) (n m:Int):Called Tryz.prog F.keys_Find [x,I n,I m] H (fndV (if keysB l then fOf l n m else none)) H:=by
 refine e_keys_Find ?_
 have hG:∀ K,Sl 12 (H++K) x (kcs l) l.length:=fun K => hx.app
 simp only [ic_keys_Find,go_sem]
 refine callW_some (t_kMay (hG _) hl hn) (fun _ => rfl) ?_
 simp only [go_sem,fillOk,fillv,← pz]
 refine ⟨fun h => ?_,fun h => callW_some (t_find (hG _) hn n m) (fun _ => rfl) ?_⟩
 ·rw [if_neg (by simpa using h)]
  simp only [pc_len,pc_one,splice_all (show (pcell 0 0 false).length=(pcell 0 0 false).length from rfl),pc_take]
  exact ⟨⟨trivial,trivial,by decide⟩,by decide,leave_drop (by simp only [low,lowL,low_pcK]; rfl)⟩
 ·rw [if_pos (by simpa using h)]
  generalize fOf l n m=o
  have ol:(ptO o).length=9:=by cases o <;> simp only [ptO,pc_len]
  have oo:(ptO o).all AV.one=true:=by cases o <;> simp only [ptO,pc_one]
  have os:splice (pcell 0 0 false) 0 (ptO o)=ptO o:=splice_all (by rw [ol,pc_len])
  have ot:(ptO o).take 9=ptO o:=List.take_of_length_le (by rw [ol]; exact Nat.le_refl _)
  simp only [go_sem,ol,oo,os,ot,pc_len]
  exact leave_drop (low_fnd _ _ o)
end Go.Proofs.YtenfocjhebgoeaaGreat.Eng

