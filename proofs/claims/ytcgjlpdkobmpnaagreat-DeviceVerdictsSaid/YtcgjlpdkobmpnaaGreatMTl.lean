/- Layer 8: the number of bytes: the program's, the document's. -/
import Derived.Test.YtcgjlpdkobmpnaaGreatMNum
import Derived.Test.YtcgjlpdkobmpnaaGreatMCb
import Derived.Test.YtcgjlpdkobmpnaaGreatME6
import Derived.Test.YtcgjlpdkobmpnaaGreatMCc
namespace Go.Proofs.YtcgjlpdkobmpnaaGreat.Eng
open Go Go.Proofs
set_option linter.unusedVariables false
set_option linter.unusedSimpArgs false
set_option maxRecDepth 10000
theorem Zlb {a b:Nat} (ha:a<72057594037927936) (hb:b<256):bOr .u64 ((a*256:Nat):Int) (b:Int)=((a*256+b:Nat):Int):=by
 have h1:(BitVec.ofInt 64 ((a*256:Nat):Int) ||| BitVec.ofInt 64 (b:Int)).toNat=a*256+b:=by
  rw [BitVec.toNat_or,BitVec.toNat_ofInt,BitVec.toNat_ofInt]
  have e1:(((a*256:Nat):Int)%((2^64:Nat):Int)).toNat=a*256:=by omega
  have e2:((b:Int)%((2^64:Nat):Int)).toNat=b:=by omega
  rw [e1,e2,Zlc _ _ hb]
 show IntKind.u64.wrap ((BitVec.ofInt 64 _ ||| BitVec.ofInt 64 _).toNat:Int)=_
 rw [h1,wu64 _ (by omega) (by omega)]
theorem Zdg {l:List UInt8} {i:Nat} (h:i<l.length):be (l.take (i+1))=be (l.take i)*256+(l.getD i 0).toNat:=by
 rw [Yx h 0,C3]
def numO (l:List UInt8):Int:=if l.length=8∧be l<9223372036854775808 then be l else -1
theorem Z0m {H:AH} {x:AV} {l:List UInt8} (hx:Sl 1 H x (bs l) l.length) (hn:l.length≤1000000):Called Tryz.prog F.tlv_Of [x] H (if numO l<0 then .tup [I 0,.lit (.iface T.api_Code (.int .i64 2))] else .tup [I (numO l),.lit .nilIface]) H:=by
 refine Zr4 ?_
 simp only [Al,go_sem,hx.s]
 refine ⟨fun h => Zl ?_,fun h => ?_⟩
 ·have h:¬ (l.length:Int)=8:=by simpa using h
  have e:numO l=-1:=by rw [numO,if_neg (fun hh => h (by omega))]
  rw [e,if_pos (by decide)]
 ·have hl:l.length=8:=by
   have:(l.length:Int)=8:=by simpa using h
   omega
  refine Z4 _ (fun (k:Nat) => ([(4,.lit (.int .u64 (be (l.take k)))),(11,x),(12,I l.length),(13,I k)],H)) (fun k => k≤8) (fun k => 8 - k) 0 (by decide) rfl ?_
  intro k hk
  simp only [go_sem,hl]
  refine ⟨fun h => ?_,fun h => ?_⟩
  ·have hk:k<8:=by omega
   have hb:(l.getD k 0).toNat<256:=(l.getD k 0).toNat_lt
   have hlt:be (l.take k)<256^7:=Nat.lt_of_lt_of_le (F5 _) (Nat.pow_le_pow_right (by decide) (by rw [List.length_take]; omega))
   simp only [hx.idx,hx.ldOk _ (show k<l.length by omega) (Nat.le_refl 1),hx.ld1 _ (show k<l.length by omega),Fc l k (by omega),go_sem]
   have e0:IntKind.u64.wrap (((l.getD k 0).toNat:Nat):Int)=((l.getD k 0).toNat:Nat):=wu64 _ (by omega) (by omega)
   have e1:IntKind.u64.wrap (((be (l.take k):Nat):Int)*2^(8:Nat))=((be (l.take k)*256:Nat):Int):=by
    rw [wu64 _ (by omega) (by omega)]; omega
   refine ⟨⟨by omega,by omega⟩,by decide,k+1,?_,by omega,by omega⟩
   rw [e0,e1,Zlb (by omega) hb,← Zdg (by omega),w64 _ (by omega) (by omega)]
   rfl
  ·obtain rfl:k=8:=by omega
   rw [List.take_of_length_le (by omega)]
   refine ⟨fun h => Zl ?_,fun h => Zl ?_⟩
   ·have e:numO l=-1:=by rw [numO,if_neg (by omega)]
    rw [e,if_pos (by decide)]
   ·have e:numO l=be l:=by rw [numO,if_pos ⟨hl,by omega⟩]
    rw [e,if_neg (by omega),w64 _ (by omega) (by omega)]
end Go.Proofs.YtcgjlpdkobmpnaaGreat.Eng
namespace Go.Proofs.YtcgjlpdkobmpnaaGreat.Eng
open Go
set_option linter.unusedVariables false
set_option linter.unusedSimpArgs false
theorem V7 {α:Type} (f:α→List AV) (k:Nat) (hk:∀ a,(f a).length=k):∀ (l:List α) (i:Nat) (d:α),i<l.length→elt (l.flatMap f) k i=f (l.getD i d)
 | [],i,d,h => absurd h (Nat.not_lt_zero _)
 | a::l,0,d,h => by
  show ((f a++l.flatMap f).drop (0*k)).take k=f a
  rw [Nat.zero_mul,List.drop_zero,List.take_left' (hk a)]
 | a::l,i+1,d,h => by
  have:=V7 f k hk l i d (Nat.lt_of_succ_lt_succ h)
  show ((f a++l.flatMap f).drop ((i+1)*k)).take k=f (l.getD i d)
  rw [← this,elt,Nat.succ_mul,Nat.add_comm,← List.drop_drop,List.drop_left' (hk a)]
theorem Zn0 {α:Type} (f:α→List AV) (k:Nat) (hk:∀ a,(f a).length=k) (l:List α) (i o m:Nat) (d:α) (hi:i<l.length) (hm:o+m≤k):((l.flatMap f).drop (i*k+o)).take m=((f (l.getD i d)).drop o).take m:=by
 rw [← V7 f k hk l i d hi,elt,List.drop_take,List.drop_drop,List.take_take,Nat.min_eq_left (by omega)]
theorem Li {α:Type} (f:α→List AV) (k:Nat) (hk:∀ a,(f a).length=k) (l:List α) (i o:Nat) (d:α) (hi:i<l.length) (ho:o<k):(l.flatMap f).getD (i*k+o) .junk=(f (l.getD i d)).getD o .junk:=by
 rw [← V7 f k hk l i d hi,elt]
 simp only [List.getD_eq_getElem?_getD,List.getElem?_take,List.getElem?_drop,if_pos ho]
theorem Yn {α:Type} {l:List α} {i:Nat} (d:α) (h:i<l.length):l.getD i d ∈ l:=by
 rw [List.getD_eq_getElem?_getD,List.getElem?_eq_getElem h]; exact List.getElem_mem h
def fstA {α:Type} (p:α→Bool) (l:List α):Int:=match l.findIdx? p with | some i => i | none => -1
theorem Gq {α:Type} {p:α→Bool} {l:List α} {i:Nat} (d:α) (hi:i<l.length) (h:p (l.getD i d)=true) (hj:∀ j,j<i→p (l.getD j d)=false):fstA p l=i:=by
 have:l.findIdx? p=some i:=by
  rw [List.findIdx?_eq_some_iff_getElem]
  refine ⟨hi,?_,fun j hj' => ?_⟩
  ·rw [List.getD_eq_getElem?_getD,List.getElem?_eq_getElem hi] at h; exact h
  ·have:=hj j hj'
   rw [List.getD_eq_getElem?_getD,List.getElem?_eq_getElem (by omega)] at this
   simpa using this
 simp [fstA,this]
theorem Gr {α:Type} {p:α→Bool} {l:List α} (d:α) (hj:∀ j,j<l.length→p (l.getD j d)=false):fstA p l=-1:=by
 have:l.findIdx? p=none:=by
  rw [List.findIdx?_eq_none_iff]
  intro x hx
  obtain ⟨j,hj',rfl⟩:=List.mem_iff_getElem.1 hx
  have:=hj j hj'
  rwa [List.getD_eq_getElem?_getD,List.getElem?_eq_getElem hj'] at this
 simp [fstA,this]
structure Fld where
 tag:Int
 b:List UInt8
 e:AV
def Fld.cells (f:Fld):List AV:=[I f.tag,f.e]
theorem Fld.len (f:Fld):f.cells.length=2:=rfl
def noF:Fld:=⟨0,[],nilS⟩
abbrev fcs (l:List Fld):List AV:=l.flatMap Fld.cells
def Tu (l:List Fld) (i:Nat):Bool:=((decide ((l.getD i noF).tag<1) || decide (255<(l.getD i noF).tag)) || decide (65535<((l.getD i noF).b.length:Int))) || (decide (0<i)&&decide ((l.getD i noF).tag≤(l.getD (i - 1) noF).tag))
def V4 (l:List Fld):Bool:=decide (l.length≤64)&&decide (∀ i,i<l.length→Tu l i=false)
theorem Zm5 {l:List Fld} {i:Nat} (hi:i<l.length) (h:Tu l i=true):V4 l=false:=by
 rw [V4,Bool.and_eq_false_iff]
 right
 rw [decide_eq_false_iff_not]
 exact fun hh => by have:=hh i hi; rw [h] at this; cases this
theorem Zfl {l:List Fld} (h:∀ i,i<l.length→Tu l i=false):V4 l=decide (l.length≤64):=by
 rw [V4,decide_eq_true h,Bool.and_true]
def Zmb (l:List Fld) (i:Nat):Int:=if i=0 then 0 else (l.getD (i - 1) noF).tag
theorem Zcs {l:List Fld} {i:Nat} (h:∀ j,j<i→Tu l j=false):((decide ((l.getD i noF).tag≤Zmb l i) || decide (255<(l.getD i noF).tag)) || decide (65535<((l.getD i noF).b.length:Int)))=Tu l i:=by
 unfold Tu Zmb
 rw [Bool.eq_iff_iff]
 by_cases h0:i=0
 ·rw [if_pos h0]
  generalize l.getD i noF=p
  generalize l.getD (i - 1) noF=q
  simp only [Bool.or_eq_true,Bool.and_eq_true,decide_eq_true_eq]
  omega
 ·have:=h (i - 1) (by omega)
  unfold Tu at this
  rw [if_neg h0]
  generalize l.getD i noF=p at *
  generalize l.getD (i - 1) noF=q at *
  simp only [Bool.or_eq_false_iff,decide_eq_false_iff_not] at this
  have t1:=this.1.1.1
  simp only [Bool.or_eq_true,Bool.and_eq_true,decide_eq_true_eq]
  omega
section
variable {H:AH} {x:AV} {l:List Fld}
theorem Sl.fld2 (h:Sl 2 H x (fcs l) l.length) {i:Nat} (hi:i<l.length):Y8 true 2 H (Xn 2 (.lit (.int .i64 i)) x)=.agg (l.getD i noF).cells:=by
 rw [h.ldA _ hi (by decide),V7 _ 2 Fld.len _ _ noF hi]
theorem Sl.fld1 (h:Sl 2 H x (fcs l) l.length) {i:Nat} (hi:i<l.length) (o:Nat) (ho:o<2):Y8 false 1 H (fldV o (Xn 2 (.lit (.int .i64 i)) x))=(l.getD i noF).cells.getD o .junk:=by
 rw [h.fd _ hi (by omega) (by decide),if_neg (by decide),Li _ 2 Fld.len _ _ _ noF hi ho]
end
theorem Ztv {H:AH} {x:AV} {l:List Fld} (hx:Sl 2 H x (fcs l) l.length) (hl:∀ f ∈ l,Sl 1 H f.e (bs f.b) f.b.length) (hn:l.length≤1000000):Called Tryz.prog F.tlv_May [x] H (Bl (V4 l)) H:=by
 refine Znp ?_
 simp only [En,go_sem,hx.lenT,hx.n]
 refine Z4 _ (fun (s:Nat × AH) => ([(0,x),(3,I (Zmb l s.1)),(6,x),(7,I l.length),(8,I s.1)],H++s.2)) (fun s => s.1≤l.length∧∀ j,j<s.1→Tu l j=false) (fun s => l.length - s.1) (0,[]) ⟨Nat.zero_le _,fun j hj => by omega⟩ (by rw [List.append_nil]; rfl) ?_
 rintro ⟨i,G⟩ ⟨hi,hj⟩
 dsimp only at hi hj
 simp only [go_sem]
 refine ⟨fun h => ?_,fun h => ?_⟩
 ·have hlt:i<l.length:=by omega
  have he:=hl _ (Yn noF hlt)
  have hG:Sl 2 (H++G) x (fcs l) l.length:=hx.app
  have f7:=hG.ldOk .i64 hlt (Nat.le_refl 2)
  have pb:=Zcs (l:=l) (i:=i) hj
  have hc:(l.getD i noF).cells=[I (l.getD i noF).tag,(l.getD i noF).e]:=rfl
  simp only [go_sem,hx.idx,hx.un,f7,hG.fld2 hlt,hc,he.one,he.lenT,he.n,he.un,he.may,he.cells]
  rw [pb]
  refine ⟨⟨by omega,by omega⟩,fun hb => Zc (by rw [Zm5 hlt hb]; rfl),fun hb => ⟨(i+1,G++[⟨[I (l.getD i noF).tag,(l.getD i noF).e],0,true⟩]),?_,rfl,⟨by show i+1≤_; omega,fun j hj' => ?_⟩,by show _ - (i+1)<_; omega⟩⟩
  ·rw [w64 _ (by omega) (by omega)]
   have:Zmb l (i+1)=(l.getD i noF).tag:=by rw [Zmb,if_neg (by omega),Nat.add_sub_cancel]
   simp only [this]; rfl
  ·rcases Nat.lt_succ_iff_lt_or_eq.1 hj' with h1 | rfl
   ·exact hj j h1
   ·exact hb
 ·rw [hx.lenT,hx.n]
  refine ⟨trivial,Zc ?_⟩
  rw [Zfl fun j hj' => hj j (by omega)]
  simp only [low]
  congr 2
  simp; omega
set_option maxRecDepth 10000
theorem Zpx {H:AH} {x:AV} {cs:List AV} {n:Nat} (hx:Sl 1 H x cs n) (hp:Yg cs=true) (h1:cs.all AV.one=true) (hn:n≤140737488355328):Called Tryz.prog F.slices_Clone_byte_byte [x] H (.view cs n false) H:=by
 have hl:=hx.length
 refine Vf ?_
 simp only [Xt,go_sem]
 refine hx.nilc (fun h0 => ?_) ?_
 ·subst h0
  have:cs=[]:=List.eq_nil_of_length_eq_zero (by omega)
  subst this
  exact Rt (O0 false)
 ·simp only [go_sem,hx.s]
  refine ⟨⟨h1,by omega⟩,?_⟩
  exact Zc (Vd (Vl _) (by decide) hl hp _ _ rfl)
def flen (b:List UInt8):Nat:=(b.getD 1 0).toNat*256+(b.getD 2 0).toNat
def fld1 (b:List UInt8):Fld:=⟨((b.getD 0 0).toNat:Nat),(b.drop 3).take (flen b),vB ((b.drop 3).take (flen b)) false⟩
def getF:Nat→List UInt8→Option (List Fld)
 | 0,b => if b.length=0 then some [] else none
 | k+1,b => if b.length=0 then some [] else if b.length<3+flen b∨b.length<3 then none else (getF k (b.drop (3+flen b))).map (fld1 b::·)
def getS (b:List UInt8):Option (List Fld):=(getF b.length b).bind fun l => if V4 l then some l else none
theorem Ao:∀ (k j:Nat) (b:List UInt8),b.length≤k→b.length≤j→getF k b=getF j b
 | 0,j,b,h1,h2 => by
  have h0:b.length=0:=by omega
  cases j <;> simp only [getF,if_pos h0]
 | k+1,0,b,h1,h2 => by
  have h0:b.length=0:=by omega
  simp only [getF,if_pos h0]
 | k+1,j+1,b,h1,h2 => by
  simp only [getF]
  split
  ·rfl
  ·split
   ·rfl
   ·rw [Ao k j (b.drop (3+flen b)) (by rw [List.length_drop]; omega) (by rw [List.length_drop]; omega)]
theorem An {b:List UInt8} (h3:3≤b.length) (hn:3+flen b≤b.length):getF b.length b=(getF (b.drop (3+flen b)).length (b.drop (3+flen b))).map (fld1 b::·):=by
 obtain ⟨k,hk⟩:∃ k,b.length=k+1:=⟨b.length - 1,by omega⟩
 rw [hk,getF,if_neg (by omega),if_neg (by omega),Ao k (b.drop (3+flen b)).length _ (by rw [List.length_drop]; omega) (Nat.le_refl _)]
theorem Gp {b:List UInt8} (h0:b.length≠0) (h:b.length<3∨b.length<3+flen b):getF b.length b=none:=by
 obtain ⟨k,hk⟩:∃ k,b.length=k+1:=⟨b.length - 1,by omega⟩
 rw [hk,getF,if_neg (by omega),if_pos (by omega)]
theorem Zrq {b:List UInt8} (h0:b.length=0):getF b.length b=some []:=by
 rw [h0,getF,if_pos h0]
set_option maxRecDepth 10000
theorem Z2f {sz n:Nat} {H:AH} {x:AV} {cs vs:List AV} {m:Nat} (h:Sl 1 H x cs m):Sl 1 (hA sz H vs n) x cs m:=by
 unfold hA; split
 ·exact h
 ·exact h.app
theorem Ps (l:List Fld):(fcs l).length=l.length*2:=by
 induction l with
 | nil => rfl
 | cons a r ih => rw [fcs,List.flatMap_cons,List.length_append,ih,Fld.len,List.length_cons]; omega
theorem Zr0 (l:List Fld) (f:Fld):fcs (l++[f])=fcs l++f.cells:=by simp [fcs]
theorem Z4t {sz n:Nat} {H:AH} {vs:List AV} (hl:vs.length=n*sz):Sl sz (hA sz H vs n) (rA H vs n) vs n:=by
 unfold rA hA
 split
 ·rename_i h0
  subst h0
  obtain rfl:vs=[]:=List.eq_nil_of_length_eq_zero (by omega)
  exact .nil
 ·have e:obj (H++[⟨vs,sz,true⟩]) H.length=⟨vs,sz,true⟩:=by rw [Z7]; rfl
  exact .row (by simp) (by rw [e]) (by omega) (by rw [e,List.drop_zero,List.take_of_length_le (by show vs.length≤_; omega)]) (.inl (by rw [e]))
theorem Zfn:∀ {l:List Fld},(∀ f ∈ l,f.e=vB f.b false)→Yg (fcs l)=true
 | [],_ => rfl
 | f::r,h => by
  have e:=h f (by simp)
  have ih:=Zfn (l:=r) fun g hg => h g (by simp [hg])
  show (true&&(f.e.pure&&Yg (fcs r)))=true
  rw [e,ih,Bool.and_true,Bool.true_and]
  exact Y1 _
theorem Cd {sz n:Nat} {H:AH} {vs:List AV} {v:AV} (h:∀ ren H,low ren H v=v):Leave H v (hA sz H vs n) v H:=by
 unfold hA; split
 ·exact Leave.refl _ _ _
 ·exact Zc (h _ _)
theorem Ce {a b:List AV} (h:LeL a b):Le (.tup a) (.tup b):=fun S y ⟨vs,h1,h2⟩ => ⟨vs,h1,h.rl h2⟩
theorem Af {sz n:Nat} {H:AH} {vs:List AV} {e:AV} (hz:0<sz) (hl:vs.length=n*sz) (hp:Yg vs=true) (he:∀ ren H,low ren H e=e):Leave H (.tup [rA H vs n,e]) (hA sz H vs n) (.tup [.view vs n false,e]) H:=by
 unfold rA hA
 split
 ·rename_i h0
  subst h0
  obtain rfl:vs=[]:=List.eq_nil_of_length_eq_zero (by omega)
  exact Rt (Ce ⟨O0 false,.refl _,trivial⟩)
 ·refine Zc ?_
  have e1:=Vd (H:=H) (Vl H.length) hz hl hp true vs.length rfl
  have e2:=he (renk H.length []) (H++[⟨vs,sz,true⟩])
  show AV.tup [low _ _ _,low _ _ _]=_
  rw [e1,e2]
theorem Zrp {r:List UInt8} (h0:r.length≠0) {l:List Fld} (h:getF r.length r=some l):0<l.length:=by
 by_cases hb:r.length<3∨r.length<3+flen r
 ·rw [Gp h0 hb] at h; cases h
 ·rw [An (by omega) (by omega)] at h
  cases hg:getF (r.drop (3+flen r)).length (r.drop (3+flen r)) with
  | none => rw [hg] at h; cases h
  | some m => rw [hg] at h; cases h; simp
theorem Zmx {b r:List UInt8} {out:List Fld} (h0:r.length≠0) (h:getF b.length b=(getF r.length r).map (out++·)) (h64:64≤out.length):getS b=none:=by
 rw [getS,h]
 cases hg:getF r.length r with
 | none => rfl
 | some m =>
  have:=Zrp h0 hg
  have hf:V4 (out++m)=false:=by
   rw [V4,Bool.and_eq_false_iff]
   left
   rw [decide_eq_false_iff_not,List.length_append]; omega
  show (if V4 (out++m) then some (out++m) else none)=none
  rw [hf]; rfl
theorem Zbn (sz:Nat) (H H':AH) (lo hi mx:Option AV) (y:AV):Xl sz H lo hi mx none y=Xl sz H' lo hi mx none y:=by cases y <;> rfl
abbrev errF:AV:=.lit (.iface T.api_Code (.int .i64 2))
def getV (o:Option (List Fld)):AV:=match o with
 | some l => .tup [.view (fcs l) l.length false,.lit .nilIface]
 | none => .tup [nilS,errF]
theorem Zbg {H:AH} {x:AV} {b:List UInt8} (hx:Sl 1 H x (bs b) b.length) (hn:b.length≤100000):Called Tryz.prog F.tlv_Get [x] H (getV (getS b)) H:=by
 refine Znq ?_
 simp only [Eo,go_sem]
 refine Z4 _ (fun (s:List UInt8 × List Fld × AV) => ([(0,s.2.2),(4,rA H (fcs s.2.1) s.2.1.length)],hA 2 H (fcs s.2.1) s.2.1.length))
  (fun s => Sl 1 H s.2.2 (bs s.1) s.1.length∧s.1.length+s.2.1.length≤100000∧s.2.1.length≤64∧(∀ f ∈ s.2.1,f.e=vB f.b false)∧getF b.length b=(getF s.1.length s.1).map (s.2.1++·)) (fun s => s.1.length) (b,[],x) ⟨hx,by simpa using hn,by simp,by simp,by simp⟩ rfl ?_
 rintro ⟨r,out,y⟩ ⟨h1,h2,h3,h4,h5⟩
 dsimp only at h1 h2 h3 h4 h5
 have hy:Sl 1 (hA 2 H (fcs out) out.length) y (bs r) r.length:=Z2f h1
 have ho:Sl 2 (hA 2 H (fcs out) out.length) (rA H (fcs out) out.length) (fcs out) out.length:=Z4t (Ps out)
 simp only [go_sem,hy.lenT,hy.n]
 refine ⟨fun h => ?_,fun h => ?_⟩
 ·have hr:3≤r.length:=by omega
  have g:=fun i (hi:i<r.length) => hy.ldOk .i64 hi (Nat.le_refl 1)
  have v:=fun i (hi:i<r.length) => hy.ld1 .i64 hi
  have g1:Ys 1 (hA 2 H (fcs out) out.length) (Xn 1 (I 1) y)=True:=g 1 (by omega)
  have g2:Ys 1 (hA 2 H (fcs out) out.length) (Xn 1 (I 2) y)=True:=g 2 (by omega)
  have v1:Y8 false 1 (hA 2 H (fcs out) out.length) (Xn 1 (I 1) y)=u8 (r.getD 1 0):=by rw [show (1:Int)=((1:Nat):Int) from rfl,v 1 (by omega),Fc r 1 (by omega)]
  have v2:Y8 false 1 (hA 2 H (fcs out) out.length) (Xn 1 (I 2) y)=u8 (r.getD 2 0):=by rw [show (2:Int)=((2:Nat):Int) from rfl,v 2 (by omega),Fc r 2 (by omega)]
  have b1:(r.getD 1 0).toNat<256:=(r.getD 1 0).toNat_lt
  have b2:(r.getD 2 0).toNat<256:=(r.getD 2 0).toNat_lt
  have ew:IntKind.i64.wrap (IntKind.i64.wrap (3+IntKind.i64.wrap (IntKind.i64.wrap (((r.getD 1 0).toNat:Nat):Int)*2^8))+IntKind.i64.wrap (((r.getD 2 0).toNat:Nat):Int))=((3+flen r:Nat):Int):=by
   rw [w64 (((r.getD 1 0).toNat:Nat):Int) (by omega) (by omega),w64 (_*_) (by omega) (by omega),w64 (3+_) (by omega) (by omega),w64 (((r.getD 2 0).toNat:Nat):Int) (by omega) (by omega),w64 _ (by omega) (by omega),flen]; omega
  simp only [go_sem,hy.idx,hy.un,hy.may,hy.lenT,hy.n,ho.lenT,ho.n,ho.un,ho.may,g1,g2,v1,v2,ew]
  refine ⟨⟨by omega,by omega⟩,by decide,⟨by omega,by omega⟩,fun hb => ?_,fun hb => ?_⟩
  ·have e:getS b=none:=by
    simp only [Bool.or_eq_true,beq_iff_eq,decide_eq_true_eq] at hb
    rcases hb with hb | hb
    ·exact Zmx (by omega) h5 (by omega)
    ·rw [getS,h5,Gp (by omega) (.inr (by omega))]; rfl
   rw [e]
   exact Cd (fun _ _ => rfl)
  ·simp only [Bool.or_eq_false_iff,beq_eq_false_iff_ne,decide_eq_false_iff_not] at hb
   have hb64:out.length<64:=by omega
   have hbl:3+flen r≤r.length:=by omega
   have g0:Ys 1 (hA 2 H (fcs out) out.length) (Xn 1 (I 0) y)=True:=g 0 (by omega)
   have v0:Y8 false 1 (hA 2 H (fcs out) out.length) (Xn 1 (I 0) y)=u8 (r.getD 0 0):=by rw [show (0:Int)=((0:Nat):Int) from rfl,v 0 (by omega),Fc r 0 (by omega)]
   have bd1:T2 r.length (some (.lit (.int .i64 3))) (some (.lit (.int .i64 ((3+flen r:Nat):Int)))) none:=by
    refine ⟨trivial,trivial,trivial,?_,?_,?_,?_⟩ <;> simp [bnd,asI] <;> omega
   have bd2:T2 r.length (some (.lit (.int .i64 ((3+flen r:Nat):Int)))) none none:=by
    refine ⟨trivial,trivial,trivial,?_,?_,?_,?_⟩ <;> simp [bnd,asI] <;> omega
   have k1:=hy.sl bd1
   have e1:cut (bs r) 1 (lo0 (some (.lit (.int .i64 3)))) (hi0 r.length (some (.lit (.int .i64 ((3+flen r:Nat):Int)))))=bs ((r.drop 3).take (flen r)):=by
    show ((bs r).drop (3*1)).take (((3+flen r) - 3)*1)=_
    rw [Nat.add_sub_cancel_left,Nat.mul_one,Nat.mul_one]
    simp [bs,List.map_take,List.map_drop]
   have l1:((r.drop 3).take (flen r)).length=flen r:=by rw [List.length_take,List.length_drop]; omega
   have n1:hi0 r.length (some (.lit (.int .i64 ((3+flen r:Nat):Int)))) - lo0 (some (.lit (.int .i64 3)))=((r.drop 3).take (flen r)).length:=by
    rw [l1]; show (3+flen r) - 3=flen r; omega
   rw [e1,n1] at k1
   simp only [g0,v0,go_sem]
   refine ⟨by omega,hy.slOk bd1,Za (Zpx k1 (Y1 _) (Yz _) (by omega)) (fun _ => rfl) ?_⟩
   have wt:IntKind.i64.wrap (((r.getD 0 0).toNat:Nat):Int)=(((r.getD 0 0).toNat:Nat):Int):=by
    have:=(r.getD 0 0).toNat_lt
    rw [w64 _ (by omega) (by omega)]
   simp only [go_sem,wt,Zq,fillv,ho.un,hy.un]
   have hs1:[AV.lit (.int .i64 (((r.getD 0 0).toNat:Nat):Int)),.view (bs ((r.drop 3).take (flen r))) ((r.drop 3).take (flen r)).length false]=(fld1 r).cells:=rfl
   rw [hs1]
   obtain ⟨⟨_,_,b3,b4⟩,q2,q3⟩:=Pz (sz:=2) (H:=H) (vs:=fcs out) (n:=out.length) (b:=32) (s:=.view (fld1 r).cells 1 true) (cs:=(fld1 r).cells) (Ps out) rfl rfl rfl rfl (by omega)
   rw [q2,q3,← Zr0]
   have hy2:Sl 1 (hA 2 H (fcs (out++[fld1 r])) (out.length+1)) y (bs r) r.length:=Z2f h1
   have k2:=h1.sl bd2
   have e2:cut (bs r) 1 (lo0 (some (.lit (.int .i64 ((3+flen r:Nat):Int))))) (hi0 r.length none)=bs (r.drop (3+flen r)):=by
    show ((bs r).drop ((3+flen r)*1)).take ((r.length - (3+flen r))*1)=_
    rw [Nat.mul_one,List.take_of_length_le (by rw [List.length_drop,Zt]; omega)]
    simp [bs,List.map_drop]
   have n2:hi0 r.length none - lo0 (some (.lit (.int .i64 ((3+flen r:Nat):Int))))=(r.drop (3+flen r)).length:=by
    rw [List.length_drop]; rfl
   rw [e2,n2] at k2
   refine ⟨Y1 _,⟨b3,b4⟩,hy2.slOk bd2,(r.drop (3+flen r),out++[fld1 r],Xl 1 H (some (.lit (.int .i64 ((3+flen r:Nat):Int)))) none none none y),?_,?_,⟨k2,?_,?_,?_,?_⟩,?_⟩
   ·rw [Zbn 1 _ H,List.length_append]; rfl
   ·rw [List.length_append]; rfl
   ·show (r.drop _).length+(out++[fld1 r]).length≤_
    rw [List.length_drop,List.length_append]; simp only [List.length_cons,List.length_nil]; omega
   ·show (out++[fld1 r]).length≤_
    rw [List.length_append]; simp only [List.length_cons,List.length_nil]; omega
   ·intro f hf
    rcases List.mem_append.1 hf with hf | hf
    ·exact h4 f hf
    ·rw [List.mem_singleton] at hf; rw [hf]; rfl
   ·show getF b.length b=_
    rw [h5,An hr hbl,Option.map_map]
    congr 1
    funext m
    simp
   ·show (r.drop _).length<r.length
    rw [List.length_drop]; omega
 ·have hs:∀ f ∈ out,Sl 1 (hA 2 H (fcs out) out.length) f.e (bs f.b) f.b.length:=fun f hf => by rw [h4 f hf]; exact Sl.vB _ _
  simp only [go_sem,ho.un,ho.may]
  refine Zs (fun _ => Ztv (l:=out) ho hs (Nat.le_trans h3 (by decide))) ?_
  simp only [go_sem]
  by_cases hr:r.length=0
  ·have e:getS b=if V4 out then some out else none:=by
    rw [getS,h5,Zrq hr]; simp
   rw [e]
   have z:decide ((0:Int)<(r.length:Int))=false:=by rw [decide_eq_false_iff_not]; omega
   simp only [z,Bool.false_or]
   refine ⟨fun hb => ?_,fun hb => ?_⟩
   ·rw [if_neg (by simpa using hb)]
    exact Cd (fun _ _ => rfl)
   ·rw [if_pos (by simpa using hb)]
    exact Af (by decide) (Ps out) (Zfn h4) (fun _ _ => rfl)
  ·have e:getS b=none:=by rw [getS,h5,Gp hr (.inl (by omega))]; rfl
   rw [e]
   have z:decide ((0:Int)<(r.length:Int))=true:=by rw [decide_eq_true_eq]; omega
   simp only [z,Bool.true_or]
   exact ⟨fun _ => Cd (fun _ _ => rfl),fun h => by cases h⟩
section
variable {H K:AH} {x s v:AV} {vs:List AV} {b:Nat}
theorem GR.step (h:GR (H++K) x vs) (hq:∀ q,rid x=some q→H.length≤q) (h1:Wy 1 (H++K) s) (h2:srcC 1 (H++K) s=[v]) (h3:srcN s=1) (hv:v.one=true) (hb:(vs.length+1)*b≤140737488355328) :
  Ow 1 b (H++K) x s∧∃ K',appH 1 (H++K) s x=H++K'∧GR (H++K') (appV 1 (H++K) s x) (vs++[v])∧∀ q,rid (appV 1 (H++K) s x)=some q→H.length≤q:=by
 obtain ⟨a1,a2,a3,a4⟩:=h.app (b:=b) h1 h2 h3 hv hb
 have f1:Fr H (H++K) (fun i => rid x=some i):=Fr.app _ _ _
 have f2:Fr H (appH 1 (H++K) s x) (fun _ => False):=(f1.trans a4).mono fun i hi h => by have:=hq i h; omega
 obtain ⟨K',e⟩:=f2.split fun _ h => h
 refine ⟨a1,K',e,e ▸ a2,fun q h => ?_⟩
 rcases a3 q h with h | h
 ·exact hq q h
 ·rw [List.length_append] at h; omega
theorem GR.view (h:GR (H++K) x vs) (hq:∀ q,rid x=some q→H.length≤q) (hp:Yg vs=true):Le (low (renk H.length []) (H++K) x) (.view vs vs.length false):=by
 rcases h with ⟨rfl,rfl⟩ | ⟨q,L,cs,rfl,h1,h2,h3,h4,h5⟩
 ·exact O0 false
 ·have h6:=hq q rfl
  have e:renk H.length [] q=none:=by
   rw [renk,if_neg (by omega)]; rfl
  have e2:low (renk H.length []) (H++K) (.row q 0 vs.length L)=.view vs vs.length false:=by
   simp only [low,e,Vk,h2,if_neg (show ¬ 1=0 by decide),List.drop_zero,Nat.mul_one,h5]
   rw [if_pos ⟨h3,by omega,hp⟩]
  rw [e2]; exact Le.refl _
theorem GR.more (h:GR (H++K) x vs) (hq:∀ q,rid x=some q→H.length≤q) (o:AObj):GR (H++(K++[o])) x vs:=by
 rw [← List.append_assoc]
 exact h.frame (Fr.app _ _ (fun _ => False)) fun _ _ h => h
end
theorem Zbx {n q:Nat} (h:rid nilS=some q):n≤q:=by cases h
structure Tkt where
 serial:Int
 product:Int
 zones:Int
 from_:Int
 key:Int
def Tkt.ok (t:Tkt):Prop:=ok64 t.serial∧ok64 t.product∧ok64 t.zones∧ok64 t.from_∧ok64 t.key
abbrev Tkt.cells (t:Tkt):List AV:=[I t.serial,I t.product,I t.zones,I t.from_,I t.key]
def inB (a b n:Int):Bool:=decide (a≤n)&&decide (n≤b)
def tktB (t:Tkt):Bool:=inB 1 2147483647 t.serial&&inB 1 16 t.product&&inB 1 255 t.zones&&inB 0 1073741824 t.from_&&inB 1 2147483647 t.key
theorem N6 (n a b:Int) (H:AH):Called Tryz.prog F.ticket_within [I n,I a,I b] H (Bl (inB a b n)) H:=by
 refine G0 ?_
 simp only [R9,go_sem]
 exact Zl rfl
theorem Z0n (t:Tkt) (H:AH):Called Tryz.prog F.ticket_May [.agg t.cells] H (Bl (tktB t)) H:=by
 refine A0 ?_
 simp only [M1,go_sem]
 refine Za (N6 _ _ _ _) (fun _ => rfl) ?_
 simp only [go_sem]
 refine Zs (fun _ => N6 _ _ _ _) ?_
 simp only [go_sem]
 refine Zs (fun _ => N6 _ _ _ _) ?_
 simp only [go_sem]
 refine Zs (fun _ => N6 _ _ _ _) ?_
 simp only [go_sem]
 refine Zs (fun _ => N6 _ _ _ _) ?_
 simp only [go_sem]
 exact Zc rfl
end Go.Proofs.YtcgjlpdkobmpnaaGreat.Eng

