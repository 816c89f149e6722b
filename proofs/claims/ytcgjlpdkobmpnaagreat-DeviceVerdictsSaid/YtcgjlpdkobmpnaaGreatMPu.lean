/- Layer 8: a number's bytes; fields' bytes: the program's walks. -/
import Derived.Test.YtcgjlpdkobmpnaaGreatMSh
import Derived.Test.YtcgjlpdkobmpnaaGreatMTl
import Derived.Test.YtcgjlpdkobmpnaaGreatMPt
import Derived.Test.YtcgjlpdkobmpnaaGreatME6
namespace Go.Proofs.YtcgjlpdkobmpnaaGreat.Eng
open Go Go.Proofs
set_option linter.unusedVariables false
set_option linter.unusedSimpArgs false
set_option maxRecDepth 10000
theorem Zvk (n k:Nat):IntKind.u8.wrap ((n:Int).fdiv (2^(8*k)))=((UInt8.ofNat (n / 256^k)).toNat:Int):=by
 have e:(n:Int).fdiv (2^(8*k))=((n / 256^k:Nat):Int):=by
  rw [Int.fdiv_eq_ediv_of_nonneg _ (Int.le_of_lt (Int.pow_pos (by decide))),Int.natCast_ediv,Int.pow_mul]
  simp
 rw [e]
 simp only [IntKind.wrap,IntKind.bits,IntKind.signed]
 simp
def nb8 (n k:Nat):List AV:=bs ((beN 8 n).take k)++List.replicate (8 - k) (u8 0)
theorem Z44 (n:Nat):nb8 n 8=bs (beN 8 n):=by
 rw [nb8,List.take_of_length_le (by rw [Zm]; exact Nat.le_refl _)]; exact List.append_nil _
theorem Zxf (n:Nat) {k:Nat} (h:k≤8):(nb8 n k).length=8:=by rw [nb8,List.length_append,Zt,List.length_take,Zm,List.length_replicate]; omega
theorem Zxe (n:Nat) {k:Nat} (h:k<8):(nb8 n k).set k (u8 (UInt8.ofNat (n / 256^(7 - k))))=nb8 n (k+1):=by
 have l:(bs ((beN 8 n).take k)).length=k:=by rw [Zt,List.length_take,Zm]; omega
 have e3:bs ((beN 8 n).take (k+1))=bs ((beN 8 n).take k)++[u8 (UInt8.ofNat (n / 256^(7 - k)))]:=by
  rw [Yx (by rw [Zm]; omega) 0,bs,bs,List.map_append]
  congr 1
  rw [List.map_singleton,List.getD_eq_getElem?_getD,beN,List.getElem?_map,List.getElem?_range (by omega)]
  rfl
 rw [nb8,List.set_append_right _ _ (by rw [l]; exact Nat.le_refl _),l,Nat.sub_self,show 8 - k=(8 - (k+1))+1 by omega,List.replicate_succ,nb8,e3,List.append_assoc]
 rfl
theorem Zpz {H:AH} {n:Nat} (hn:n<9223372036854775808):Called Tryz.prog F.tlv_Number [I n] H (vB (beN 8 n) false) H:=by
 refine Az ?_
 simp only [M0,go_sem]
 refine ⟨by refine ⟨trivial,trivial,?_⟩; decide,?_⟩
 refine Z4 _ (fun (k:Nat) => ([(0,I n),(3,.row H.length 0 8 8),(7,I 8),(8,I k)],H++[⟨nb8 n k,1,true⟩])) (fun k => k≤8) (fun k => 8 - k) 0 (by decide) rfl ?_
 intro k hk
 simp only [go_sem]
 refine ⟨fun h => ?_,fun h => ?_⟩
 ·have hk:k≤7:=by omega
  have e0:IntKind.u64.wrap (n:Int)=n:=wu64 _ (by omega) (by omega)
  have ea:IntKind.i64.wrap (7 - (k:Int))=((7 - k:Nat):Int):=by rw [w64 _ (by omega) (by omega)]; omega
  have e1:IntKind.i64.wrap (8*((7 - k:Nat):Int))=((8*(7 - k):Nat):Int):=by rw [w64 _ (by omega) (by omega)]; omega
  have e2:IntKind.u8.wrap ((n:Int).fdiv (2^min (8*(7 - k)) 64))=((UInt8.ofNat (n / 256^(7 - k))).toNat:Int):=by rw [Nat.min_eq_left (by omega)]; exact Zvk _ _
  have w1:IntKind.i64.wrap ((k:Int)+1)=((k+1:Nat):Int):=by rw [w64 _ (by omega) (by omega)]; omega
  simp only [go_sem,e0,ea,e1,e2,w1,Zxf n (Nat.le_succ_of_le hk)]
  refine ⟨by omega,⟨by omega,by omega⟩,hk,k+1,rfl,?_,by omega,by omega⟩
  rw [← Zxe n (by omega)]
 ·obtain rfl:k=8:=by omega
  rw [Z44]
  have e:(AV.view (bs (beN 8 n)) 8 false)=vB (beN 8 n) false:=by rw [vB,Zm]
  rw [← e]
  exact Ru (H:=H) (sz:=1) (n:=8) (vs:=bs (beN 8 n)) (by decide) (by rw [Zt,Zm]) (Y1 _)
section
variable {H K:AH} {x s:AV} {vs ws:List AV} {b:Nat}
theorem GR.appN (h:GR H x vs) (h1:Wy 1 H s) (h2:srcC 1 H s=ws) (h3:srcN s=ws.length) (hv:ws.all AV.one=true) (hb:(vs.length+ws.length)*b≤140737488355328) :
  Ow 1 b H x s∧GR (appH 1 H s x) (appV 1 H s x) (vs++ws)∧New H x (appV 1 H s x)∧Fr H (appH 1 H s x) (fun i => rid x=some i):=by
 rcases h with ⟨rfl,rfl⟩ | ⟨q,L,cs,rfl,g1,g2,g3,g4,g5⟩
 ·refine ⟨⟨h1,by rw [h2]; exact hv,by rw [h3]; simpa [srcN] using hb,trivial⟩,?_,?_,?_⟩
  ·rw [V9,Ub,h2,h3]
   exact .inr ⟨H.length,ws.length,ws,rfl,by simp,by rw [Z7]; rfl,rfl,Nat.le_refl _,List.take_of_length_le (Nat.le_refl _)⟩
  ·intro q hq; rw [V9] at hq; cases hq; exact .inr (Nat.le_refl _)
  ·rw [Ub]; exact Fr.app _ _ _
 ·refine ⟨⟨h1,by rw [h2]; exact hv,by rw [h3]; exact hb,g1,by rw [g2,g3],by rw [g2],by rw [g2],by omega,.inl rfl⟩,?_,?_,?_⟩
  ·rw [V8,Ua,h2,h3,g2]
   refine .inr ⟨q,_,_,by rw [List.length_append],by rw [Zk]; exact g1,by rw [Yj _ _ g1,g2],?_,?_,?_⟩
   ·simp only [appL,appC,Nat.zero_add,Nat.mul_one]
    split
    ·simp [g3]
    ·simp only [List.length_append,List.length_take,List.length_drop]; omega
   ·simp only [appL,Nat.zero_add,Nat.mul_one,List.length_append]
    split <;> omega
   ·simp only [appC,Nat.zero_add,Nat.mul_one,List.length_append]
    split
    ·rename_i hh
     have:cs=vs:=by rw [← g5,List.take_of_length_le (by omega)]
     subst this
     rw [List.take_of_length_le (by simp)]
    ·rw [g5,List.take_append_of_le_length (by simp),List.take_of_length_le (by simp)]
  ·intro q' hq; rw [V8] at hq; exact .inl hq
  ·rw [Ua]; exact Fr.set _ _ rfl
theorem GR.stepN (h:GR (H++K) x vs) (hq:∀ q,rid x=some q→H.length≤q) (h1:Wy 1 (H++K) s) (h2:srcC 1 (H++K) s=ws) (h3:srcN s=ws.length) (hv:ws.all AV.one=true) (hb:(vs.length+ws.length)*b≤140737488355328) :
  Ow 1 b (H++K) x s∧∃ K',appH 1 (H++K) s x=H++K'∧GR (H++K') (appV 1 (H++K) s x) (vs++ws)∧∀ q,rid (appV 1 (H++K) s x)=some q→H.length≤q:=by
 obtain ⟨a1,a2,a3,a4⟩:=h.appN (b:=b) h1 h2 h3 hv hb
 have f1:Fr H (H++K) (fun i => rid x=some i):=Fr.app _ _ _
 have f2:Fr H (appH 1 (H++K) s x) (fun _ => False):=(f1.trans a4).mono fun i hi h => by have:=hq i h; omega
 obtain ⟨K',e⟩:=f2.split fun _ h => h
 refine ⟨a1,K',e,e ▸ a2,fun q h => ?_⟩
 rcases a3 q h with h | h
 ·exact hq q h
 ·rw [List.length_append] at h; omega
end
def fldB (f:Fld):List UInt8:=UInt8.ofNat f.tag.toNat::UInt8.ofNat (f.b.length / 256)::UInt8.ofNat f.b.length::f.b
def putB (l:List Fld):List UInt8:=l.flatMap fldB
def putV (l:List Fld):AV:=if V4 l=true then .tup [vB (putB l) false,.lit .nilIface] else .tup [nilS,.lit (.iface T.api_Code (.int .i64 1))]
theorem u8n (n:Nat):IntKind.u8.wrap (n:Int)=((UInt8.ofNat n).toNat:Int):=by
 have:=Zvk n 0
 rw [Nat.pow_zero,Nat.div_one] at this
 rw [← this]
 simp
theorem u8h (n:Nat):IntKind.u8.wrap ((n:Int).fdiv (2^8))=((UInt8.ofNat (n / 256)).toNat:Int):=by
 have:=Zvk n 1
 rw [Nat.pow_one,Nat.mul_one] at this
 exact this
theorem Zk6:∀ (l:List Fld),(∀ f ∈ l,f.b.length≤65535)→(putB l).length≤l.length*65538
 | [],_ => Nat.le_refl _
 | f::l,h => by
  have h1:=Zk6 l fun g hg => h g (List.mem_cons_of_mem _ hg)
  have h2:=h f (List.mem_cons_self ..)
  show (fldB f++putB l).length≤(l.length+1)*65538
  rw [List.length_append,Nat.add_mul]
  show f.b.length+1+1+1+_≤_
  omega
theorem As {l:List Fld} (h:V4 l=true):l.length≤64∧∀ i,i<l.length→1≤(l.getD i noF).tag∧(l.getD i noF).tag≤255∧(l.getD i noF).b.length≤65535:=by
 simp only [V4,Bool.and_eq_true,decide_eq_true_eq] at h
 refine ⟨h.1,fun i hi => ?_⟩
 have:=h.2 i hi
 simp only [Tu,Bool.or_eq_false_iff,decide_eq_false_iff_not] at this
 have h1:=this.1
 omega
theorem bs3 (a b c:UInt8):bs [a,b,c]=[u8 a,u8 b,u8 c]:=rfl
theorem vB3 (a b c:UInt8):vB [a,b,c] true=.view [u8 a,u8 b,u8 c] 3 true:=rfl
theorem Zk5 {l:List Fld} {i:Nat} (h:i<l.length):putB (l.take (i+1))=putB (l.take i)++fldB (l.getD i noF):=by
 rw [Yx h noF,putB,List.flatMap_append]; exact congrArg _ (List.append_nil _)
theorem GR.viewS {H K:AH} {x:AV} {vs:List AV} {n:Nat} (h:GR (H++K) x vs) (hq:∀ q,rid x=some q→H.length≤q) (hp:Yg vs=true) (hn:vs.length=n):Le (low (renk H.length []) (H++K) x) (.view vs n false):=hn ▸ h.view hq hp
theorem Zli (K:AH) {k n:Nat} (h:k<n):obj (K.take n) k=obj K k:=by
 simp [obj,List.getD_eq_getElem?_getD,List.getElem?_take,h]
theorem Z07 {H:AH} {x:AV} {l:List Fld} (hx:Sl 2 H x (fcs l) l.length) (hl:∀ f ∈ l,Sl 1 H f.e (bs f.b) f.b.length) (hn:l.length≤1000000):Called Tryz.prog F.tlv_Put [x] H (putV l) H:=by
 refine Zno ?_
 simp only [Em,go_sem]
 refine Za (Ztv hx hl hn) (fun _ => rfl) ?_
 simp only [go_sem]
 refine ⟨fun h => ?_,fun h => ?_⟩
 ·exact Zl (by rw [putV,if_neg (by intro h2; rw [h2] at h; exact absurd h (by decide))])
 ·have hf:V4 l=true:=by simpa using h
  obtain ⟨h64,hw⟩:=As hf
  rw [putV,if_pos hf]
  simp only [hx.s,true_and]
  refine Z4 _ (fun (s:Nat × AV × AH) => ([(4,s.2.1),(12,x),(13,I l.length),(14,I s.1)],H++s.2.2))
   (fun s => s.1≤l.length∧GR (H++s.2.2) s.2.1 (bs (putB (l.take s.1)))∧(∀ q,rid s.2.1=some q→H.length≤q)) (fun s => l.length - s.1) (0,nilS,[]) ⟨Nat.zero_le _,.inl ⟨rfl,rfl⟩,fun q h => Zbx h⟩ (by rw [List.append_nil]; rfl) ?_
  rintro ⟨i,y,G⟩ ⟨hi,hg,hq⟩
  dsimp only at hi hg hq
  simp only [go_sem]
  refine ⟨fun hh => ?_,fun hh => ?_⟩
  ·have hlt:i<l.length:=by omega
   have he:=hl _ (Yn noF hlt)
   have hG:Sl 2 (H++G) x (fcs l) l.length:=hx.app
   have f7:=hG.ldOk .i64 hlt (Nat.le_refl 2)
   have hc:(l.getD i noF).cells=[I (l.getD i noF).tag,(l.getD i noF).e]:=rfl
   obtain ⟨t1,t2,t3⟩:=hw i hlt
   have w0:IntKind.u8.wrap (l.getD i noF).tag=((UInt8.ofNat (l.getD i noF).tag.toNat).toNat:Int):=by
    have:=u8n (l.getD i noF).tag.toNat
    rwa [Int.toNat_of_nonneg (by omega)] at this
   have w1:IntKind.i64.wrap ((i:Int)+1)=((i+1:Nat):Int):=by rw [w64 _ (by omega) (by omega)]; omega
   have ps:(bs (putB (l.take i))).length≤64*65538:=by
    rw [Zt]
    refine Nat.le_trans (Zk6 _ fun f hf => ?_) (Nat.mul_le_mul_right _ (by rw [List.length_take]; omega))
    obtain ⟨j,h1,rfl⟩:=List.mem_iff_getElem.1 (List.mem_of_mem_take hf)
    have:=(hw j h1).2.2
    rwa [List.getD_eq_getElem?_getD,List.getElem?_eq_getElem h1] at this
   have step:=fun (three:List UInt8) (h3:three.length=3) => (hg.more hq ⟨[I (l.getD i noF).tag,(l.getD i noF).e],0,true⟩).appN (b:=1) (s:=vB three true) (ws:=bs three) (of_eq_true (Sl.vB three true).s.2.2.1) rfl (Zt _).symm (Yz _) (by rw [Zt three,h3]; omega)
   obtain ⟨a1,a2,a3,a4⟩:=step [UInt8.ofNat (l.getD i noF).tag.toNat,UInt8.ofNat ((l.getD i noF).b.length / 256),UInt8.ofNat (l.getD i noF).b.length] rfl
   have f1:Fr H (H++(G++[⟨[I (l.getD i noF).tag,(l.getD i noF).e],0,true⟩])) (fun i => rid y=some i):=Fr.app _ _ _
   obtain ⟨K1,e1⟩:=((f1.trans a4).mono fun i hi h => by have:=hq i h; omega:Fr H _ (fun _ => False)).split fun _ h => h
   have o1:=a4.2 (H.length+G.length) (by simp) (fun h => by have:=hg.lt h; rw [List.length_append] at this; omega)
   have lk:=a4.1
   rw [e1] at a2 o1 lk
   rw [Y2,Y2,Z7] at o1
   have lk:G.length+1≤K1.length:=by simp only [List.length_append,List.length_cons,List.length_nil] at lk; omega
   have oK:obj (K1.take (G.length+1)) G.length=⟨[I (l.getD i noF).tag,(l.getD i noF).e],0,true⟩:=(Zli K1 (Nat.lt_succ_self _)).trans o1
   have lT:G.length<(K1.take (G.length+1)).length:=by rw [List.length_take]; omega
   have q1:∀ q,rid (appV 1 (H++(G++[⟨[I (l.getD i noF).tag,(l.getD i noF).e],0,true⟩])) (vB [UInt8.ofNat (l.getD i noF).tag.toNat,UInt8.ofNat ((l.getD i noF).b.length / 256),UInt8.ofNat (l.getD i noF).b.length] true) y)=some q→H.length≤q:=fun q h => by
    rcases a3 q h with h | h
    ·exact hq q h
    ·rw [List.length_append] at h; omega
   simp only [vB3,bs3] at e1 q1 a1 a2 a3
   simp only [go_sem,hx.idx,hx.un,f7,hG.fld2 hlt,hc,he.one,he.lenT,he.n,he.un,he.may,he.cells,hg.sl.s,w0,u8n,u8h,w1,Zq,fillv,e1,oK]
   simp only [go_sem] at a1
   generalize appV 1 _ _ y=y1 at a2 q1 ⊢
   have heK:Sl 1 (H++K1) (l.getD i noF).e (bs (l.getD i noF).b) (l.getD i noF).b.length:=he.app
   have pl:(putB (l.take i)).length≤64*65538:=by rw [← Zt]; exact ps
   obtain ⟨b1,K2,b2,b3,b4⟩:=a2.stepN (b:=1) q1 (s:=(l.getD i noF).e) (of_eq_true heK.s.2.2.1) heK.s.2.2.2.1 (by rw [heK.s.2.1,Zt]) (Yz _) (by
    rw [List.length_append,Zt,Zt]
    show ((putB (l.take i)).length+3+_)*1≤_
    omega)
   simp only [Zf2,heK.s,true_and,Yz,Nat.mul_one] at b1
   simp only [hg.sl.s] at a1
   refine ⟨⟨by omega,by omega⟩,by omega,a1,?_,lT,⟨by rw [heK.s.2.2.1]; trivial,by rw [heK.s.2.2.2.1]; exact Yz _,b1⟩,(i+1,_,K2),rfl,b2,⟨by show i+1≤_; omega,?_,b4⟩,by show _ - (i+1)<_; omega⟩
   ·rcases hg with ⟨rfl,_⟩ | ⟨q,L,cs,rfl,g1,_⟩
    ·trivial
    ·show H.length+G.length≠q
     rw [List.length_append] at g1
     omega
   ·show GR (H++K2) _ (bs (putB (l.take (i+1))))
    have:bs (putB (l.take (i+1)))=bs (putB (l.take i))++[u8 (UInt8.ofNat (l.getD i noF).tag.toNat),u8 (UInt8.ofNat ((l.getD i noF).b.length / 256)),u8 (UInt8.ofNat (l.getD i noF).b.length)]++bs (l.getD i noF).b:=by
     rw [Zk5 hlt,bs,List.map_append,List.append_assoc]; rfl
    rw [this]
    exact b3
  ·obtain rfl:i=l.length:=by omega
   rw [List.take_of_length_le (Nat.le_refl _)] at hg
   refine U3 ?_
   have:=hg.viewS hq (Y1 _) (Zt _)
   exact Ce ⟨this,.refl _,trivial⟩
def nFld (i:Nat) (n:Int):Fld:=⟨(i:Int)+1,beN 8 n.toNat,vB (beN 8 n.toNat) false⟩
def Pa (l:List Int):List Fld:=(List.range l.length).map fun i => nFld i (l.getD i 0)
theorem Zlu (l:List Int):(Pa l).length=l.length:=by rw [Pa,List.length_map,List.length_range]
theorem Zlv (l:List Int) {i:Nat} (h:i<l.length):(Pa l).getD i noF=nFld i (l.getD i 0):=by
 rw [Pa,List.getD_eq_getElem?_getD,List.getElem?_map,List.getElem?_range h]; rfl
theorem B8 {l:List Int} {f:Fld} (h:f ∈ Pa l):∃ i n,f=nFld i n:=by
 obtain ⟨i,_,rfl⟩:=List.mem_map.1 h
 exact ⟨i,_,rfl⟩
theorem Zxi (i:Nat) (n:Int) (H:AH):Sl 1 H (nFld i n).e (bs (nFld i n).b) (nFld i n).b.length:=Sl.vB _ _
def Tkt.nums (t:Tkt):List Int:=[t.serial,t.product,t.zones,t.from_,t.key]
structure Rec where
 dev:Int
 seq:Int
 min_:Int
 kind:Int
 stop:Int
 zone:Int
 serial:Int
 verdict:Int
 prev:List UInt8
 b:List UInt8
 e:AV
def Rec.nums (r:Rec):List AV:=[I r.dev,I r.seq,I r.min_,I r.kind,I r.stop,I r.zone,I r.serial,I r.verdict]
def Rec.cells (r:Rec):List AV:=r.nums++(bs r.prev++[r.e])
def Rec.ok (r:Rec):Prop:=r.prev.length=32∧r.b.length≤1000000∧∀ H,Sl 1 H r.e (bs r.b) r.b.length
abbrev z32:List UInt8:=List.replicate 32 0
def noRec:Rec:=⟨0,0,0,0,0,0,0,0,z32,[],nilS⟩
def recB (r:Rec):Bool:=((((((inB 0 31 r.stop&&inB 0 7 r.zone)&&(if r.kind=1 then inB 1 7 r.verdict&&decide (r.b.length≤500) else (r.verdict == 0&&decide (r.b.length=0))&&inB 2 3 r.kind))&&inB 1 2147483647 r.dev)&&inB 0 1073741824 r.seq)&&inB 0 1073741824 r.min_)&&inB 0 2147483647 r.serial)
theorem Xw:noRec.ok:=⟨rfl,by decide,fun H => .nil⟩
section
variable {r:Rec}
theorem Xm (h:r.ok):r.cells.length=41:=by simp [Rec.cells,Rec.nums,h.1]
theorem Rm (h:r.ok):r.cells.all AV.one=true:=by
 rw [Rec.cells,List.all_append,List.all_append,Yz]
 have:=(h.2.2 []).one
 simp only [List.all_cons,List.all_nil,this,Bool.and_true]
 rfl
theorem Zkv:r.cells.isEmpty=false:=rfl
theorem Mh (h:r.ok):r.cells.take 41=r.cells:=List.take_of_length_le (by rw [Xm h]; exact Nat.le_refl _)
theorem Zkz:r.cells.getD 0 .junk=I r.dev:=rfl
theorem Zky:r.cells.getD 1 .junk=I r.seq:=rfl
theorem Zt7:r.cells.getD 2 .junk=I r.min_:=rfl
theorem Zkx:r.cells.getD 3 .junk=I r.kind:=rfl
theorem Zt6:r.cells.getD 4 .junk=I r.stop:=rfl
theorem Zt5:r.cells.getD 5 .junk=I r.zone:=rfl
theorem Zt4:r.cells.getD 6 .junk=I r.serial:=rfl
theorem Zkw:r.cells.getD 7 .junk=I r.verdict:=rfl
theorem D0 (h:r.ok):r.cells.getD 40 .junk=r.e:=by
 rw [Rec.cells,List.getD_eq_getElem?_getD,List.getElem?_append_right (by show 8≤40; decide)]
 show ((bs r.prev++[r.e])[32]?).getD .junk=r.e
 rw [List.getElem?_append_right (by rw [Zt,h.1]; exact Nat.le_refl _),Zt,h.1]; rfl
theorem Dz (h:r.ok):(r.cells.drop 8).take 32=bs r.prev:=by
 rw [Rec.cells,List.drop_left' (show r.nums.length=8 from rfl),List.take_left' (by rw [Zt,h.1])]
theorem Sr {r':Rec} (h:r.ok) (h':r'.ok):splice r.cells 0 r'.cells=r'.cells:=Zu (by rw [Xm h,Xm h'])
end
theorem Ud (n a b:Int) (H:AH):Called Tryz.prog F.record_within [I n,I a,I b] H (Bl (inB a b n)) H:=by
 refine G5 ?_
 simp only [Qh,go_sem]
 exact Zl rfl
theorem I9 {H:AH} (r:Rec) (h:r.ok) (p o:Bool) (ex:List (Nat × AV)):iwp (pfx false) (Called Tryz.prog) Ul (retQ [.t 2] H (Bl ((((((p&&o)&&inB 1 2147483647 r.dev)&&inB 0 1073741824 r.seq)&&inB 0 1073741824 r.min_)&&inB 0 2147483647 r.serial))) H) (look ((1,.ptr H.length 0)::(3,Bl p)::(4,Bl o)::ex)) (H++[⟨r.cells,0,true⟩]):=by
 have hl:=Xm h
 simp only [Ul,go_sem,hl,Zkz]
 refine Zs (fun _ => Ud _ _ _ _) ?_
 simp only [go_sem,hl,Zky]
 refine Zs (fun _ => Ud _ _ _ _) ?_
 simp only [go_sem,hl,Zt7]
 refine Zs (fun _ => Ud _ _ _ _) ?_
 simp only [go_sem,hl,Zt4]
 refine Zs (fun _ => Ud _ _ _ _) ?_
 simp only [go_sem]
 exact Zc rfl
theorem Zd1 {H:AH} (r:Rec) (h:r.ok):Called Tryz.prog F.record_May [.agg r.cells] H (Bl (recB r)) H:=by
 refine A5 ?_
 have hl:=Xm h
 have he:=fun H => (h.2.2 H).s
 simp only [M6,go_sem,Rm h,Zkv,hl,Zt6]
 refine Za (Ud _ _ _ _) (fun _ => rfl) ?_
 simp only [go_sem,hl,Zt5]
 refine Zs (fun _ => Ud _ _ _ _) ?_
 simp only [go_sem,hl,Zkw,D0 h,(he []),Zkx]
 refine Zs (fun _ => Ud _ _ _ _) ?_
 simp only [go_sem,hl,Zkx]
 refine ⟨fun hk => ?_,fun hk => ?_⟩
 ·have hk':r.kind=1:=by simpa using hk
  simp only [Zkw]
  refine Za (Ud _ _ _ _) (fun _ => rfl) ?_
  simp only [go_sem,hl,D0 h,(he [])]
  have e:recB r=((((((inB 0 31 r.stop&&inB 0 7 r.zone)&&(inB 1 7 r.verdict&&decide ((r.b.length:Int)≤500)))&&inB 1 2147483647 r.dev)&&inB 0 1073741824 r.seq)&&inB 0 1073741824 r.min_)&&inB 0 2147483647 r.serial):=by
   rw [recB,if_pos hk',show decide (r.b.length≤500)=decide ((r.b.length:Int)≤500) by congr 1; apply propext; omega]
  rw [e]
  exact I9 r h _ _ _
 ·have hk':¬ r.kind=1:=by simpa using hk
  have e:recB r=((((((inB 0 31 r.stop&&inB 0 7 r.zone)&&((r.verdict == 0&&(r.b.length:Int) == 0)&&inB 2 3 r.kind))&&inB 1 2147483647 r.dev)&&inB 0 1073741824 r.seq)&&inB 0 1073741824 r.min_)&&inB 0 2147483647 r.serial):=by
   rw [recB,if_neg hk',show decide (r.b.length=0)=((r.b.length:Int) == 0) by rw [Bool.eq_iff_iff,decide_eq_true_eq,beq_iff_eq]; omega]
  rw [e]
  exact I9 r h _ _ _
set_option maxRecDepth 10000
def srcO (f:Fld):AObj:=⟨[I f.tag,f.e],2,true⟩
def addT (fs:List Fld):AH:=match fs with | [] => [] | f::r => srcO f::⟨fcs (f::r),2,true⟩::r.map srcO
def addX (n m:Nat):AV:=if m=0 then nilS else .row (n+3) 0 m (2*m)
def addH (H:AH) (o:AObj) (fs:List Fld):AH:=H++(o::⟨[addX H.length fs.length],0,true⟩::addT fs)
theorem Zuv (n:Nat):addX n 0=nilS:=rfl
theorem Zuu (n m:Nat):addX n (m+1)=.row (n+3) 0 (m+1) (2*(m+1)):=rfl
theorem Zv5 {H:AH} {o:AObj} {fs:List Fld} {e:AV} {b:List UInt8} (he:Sl 1 (addH H o fs) e (bs b) b.length) (hn:fs.length≤100):Called Tryz.prog F.record_Body_1 [e,.ptr (H.length+1) 0] (addH H o fs) (.tup []) (addH H o (fs++[⟨((fs.length+1:Nat):Int),b,e⟩])):=by
 refine G7 ?_
 cases fs with
 | nil =>
  simp only [Um,addH,addT,Zuv,Zuu,go_sem,he.s,Zq,fillv]
  exact ⟨by decide,Leave.refl _ _ _⟩
 | cons f r =>
  have w1:IntKind.i64.wrap (((r.length+1:Nat):Int)+1)=((r.length+1+1:Nat):Int):=by
   rw [w64 _ (by omega) (by simp only [List.length_cons] at hn; omega)]; omega
  simp only [Um,addH,addT,Zuv,Zuu,go_sem,he.s,Zq,fillv,w1]
  have fl:=Ps (f::r)
  have hr:r.length+1≤100:=hn
  have rl:(r.map srcO).length=r.length:=List.length_map _
  have e1:appL 2 0 (r.length+1) 1 2 (2*(r.length+1))=2*(r.length+1+1):=by rw [Lx (by omega)]; omega
  have e2:appC 2 (fcs (f::r)) [I ((r.length+1+1:Nat):Int),e] 0 (r.length+1) 1 (2*(r.length+1))=fcs (f::(r++[⟨((r.length+1+1:Nat):Int),b,e⟩])):=by
   rw [Ol (by omega),← List.cons_append,fcs,fcs,List.flatMap_append]; rfl
  have e3:(r++[(⟨((r.length+1+1:Nat):Int),b,e⟩:Fld)]).map srcO=r.map srcO++[⟨[I ((r.length+1+1:Nat):Int),e],2,true⟩]:=by rw [List.map_append]; rfl
  rw [e1,e2,e3]
  refine ⟨by omega,by omega,⟨by omega,by omega,by rw [fl,List.length_cons]; omega,by omega⟩,by omega,Leave.refl _ _ _⟩
def Rec.ns (r:Rec):List Int:=[r.dev,r.seq,r.min_,r.kind,r.stop,r.zone,r.serial,r.verdict]
def recF (r:Rec) (x:AV):List Fld:=Pa r.ns++[⟨9,r.prev,x⟩,⟨10,r.b,r.e⟩]
def Zes (r:Rec):AV:=if recB r=true then putV (recF r nilS) else .tup [nilS,.lit (.iface T.api_Code (.int .i64 1))]
theorem Nj {r:Rec} (h:recB r=true):(∀ i:Nat,0≤r.ns.getD i 0∧r.ns.getD i 0<9223372036854775808)∧r.b.length≤500:=by
 simp only [recB,inB,Bool.and_eq_true,decide_eq_true_eq] at h
 have hk:(1≤r.verdict∧r.verdict≤7∧r.b.length≤500∧r.kind=1)∨(r.verdict=0∧r.b.length=0∧2≤r.kind∧r.kind≤3):=by
  have:=h.1.1.1.1.2
  split at this
  ·simp only [Bool.and_eq_true,decide_eq_true_eq] at this; left; omega
  ·simp only [Bool.and_eq_true,decide_eq_true_eq,beq_iff_eq] at this; right; omega
 refine ⟨fun i => ?_,by omega⟩
 match i with
 | 0 => show 0≤r.dev∧r.dev<_; omega
 | 1 => show 0≤r.seq∧r.seq<_; omega
 | 2 => show 0≤r.min_∧r.min_<_; omega
 | 3 => show 0≤r.kind∧r.kind<_; omega
 | 4 => show 0≤r.stop∧r.stop<_; omega
 | 5 => show 0≤r.zone∧r.zone<_; omega
 | 6 => show 0≤r.serial∧r.serial<_; omega
 | 7 => show 0≤r.verdict∧r.verdict<_; omega
 | i+8 => exact ⟨Int.le_refl 0,by show (0:Int)<_; omega⟩
theorem Il (r:Rec) (x:AV):(recF r x).length=10:=rfl
theorem Ztg (H:AH) (o:AObj) (fs:List Fld) (h:fs.length≠0):obj (addH H o fs) (H.length+3)=⟨fcs fs,2,true⟩∧H.length+3<(addH H o fs).length:=by
 cases fs with
 | nil => exact absurd rfl h
 | cons f r => exact ⟨Y2 ..,by simp [addH,addT]⟩
theorem Zeo (r:Rec) (hr:r.ok) (hb:r.b.length≤500) (x:AV):∀ i:Nat,i<10→((recF r x).getD i noF).tag=(i:Int)+1∧((recF r x).getD i noF).b.length≤65535:=by
 intro i hi
 have h1:=hr.1
 match i,hi with
 | 0,_ => exact ⟨rfl,by show (beN 8 _).length≤_; rw [Zm]; decide⟩
 | 1,_ => exact ⟨rfl,by show (beN 8 _).length≤_; rw [Zm]; decide⟩
 | 2,_ => exact ⟨rfl,by show (beN 8 _).length≤_; rw [Zm]; decide⟩
 | 3,_ => exact ⟨rfl,by show (beN 8 _).length≤_; rw [Zm]; decide⟩
 | 4,_ => exact ⟨rfl,by show (beN 8 _).length≤_; rw [Zm]; decide⟩
 | 5,_ => exact ⟨rfl,by show (beN 8 _).length≤_; rw [Zm]; decide⟩
 | 6,_ => exact ⟨rfl,by show (beN 8 _).length≤_; rw [Zm]; decide⟩
 | 7,_ => exact ⟨rfl,by show (beN 8 _).length≤_; rw [Zm]; decide⟩
 | 8,_ => exact ⟨rfl,by show r.prev.length≤_; omega⟩
 | 9,_ => exact ⟨rfl,by show r.b.length≤_; omega⟩
theorem Bs {r:Rec} (hr:r.ok) (hb:r.b.length≤500) (x:AV):V4 (recF r x)=true:=by
 have hg:=Zeo r hr hb x
 rw [Zfl fun i hi => ?_]
 ·rfl
 ·rw [Il] at hi
  have h1:=hg i hi
  have h2:=hg (i - 1) (by omega)
  simp only [Tu,Bool.or_eq_false_iff,Bool.and_eq_false_iff,decide_eq_false_iff_not]
  omega
def recP (r:Rec):List UInt8:=putB (recF r nilS)
theorem Hd {r:Rec} (hr:r.ok) (hb:r.b.length≤500) (x:AV):putV (recF r x)=.tup [vB (recP r) false,.lit .nilIface]:=by
 rw [putV,if_pos (Bs hr hb x)]
 have:putB (recF r x)=recP r:=by
  rw [recP,putB,putB,recF,recF,List.flatMap_append,List.flatMap_append]; rfl
 rw [this]
theorem Ly (H:AH) (o:AObj) (fs:List Fld):obj (addH H o fs) H.length=o:=Z7 ..
theorem Zpa (H:AH) (o:AObj) (fs:List Fld):obj (addH H o fs) (H.length+1)=⟨[addX H.length fs.length],0,true⟩:=Y2 ..
theorem C7 (H:AH) (o:AObj) (fs:List Fld):H.length+2≤(addH H o fs).length:=by
 rw [addH,List.length_append,List.length_cons,List.length_cons]; omega
theorem Zvq {r:Rec} (hr:r.ok) (H:AH):Called Tryz.prog F.record_Body [.agg r.cells] H (Zes r) H:=by
 refine Cv ?_
 simp only [O9,go_sem,Zkv,Rm hr,Xm hr,Mh hr]
 refine Za (Zd1 r hr) (fun _ => rfl) ?_
 simp only [go_sem]
 refine ⟨fun h => ?_,fun h => ?_⟩
 ·have h:recB r=false:=by simpa using h
  rw [Zes,if_neg (by rw [h]; decide)]
  exact Zc rfl
 ·have h:recB r=true:=by simpa using h
  obtain ⟨hw,hb⟩:=Nj h
  rw [Zes,if_pos h]
  simp only [Xm hr,Zkz,Zky,Zt7,Zkx,Zt6,Zt5,Zt4,Zkw,D0 hr,go_sem,Zq,fillv]
  have vi:[I r.dev,I r.seq,I r.min_,I r.kind,I r.stop,I r.zone,I r.serial,I r.verdict]=r.ns.map I:=rfl
  have gi:∀ i,i<8→[I r.dev,I r.seq,I r.min_,I r.kind,I r.stop,I r.zone,I r.serial,I r.verdict].getD i .junk=I (r.ns.getD i 0):=fun i hi => by
   rw [vi,List.getD_eq_getElem?_getD,List.getElem?_map,List.getD_eq_getElem?_getD,List.getElem?_eq_getElem (show i<r.ns.length from hi)]; rfl
  generalize hV:[I r.dev,I r.seq,I r.min_,I r.kind,I r.stop,I r.zone,I r.serial,I r.verdict]=V at gi ⊢
  have lV:V.length=8:=by rw [← hV]; rfl
  have l8:r.ns.length=8:=rfl
  have nl:=Zlu r.ns
  refine Z4 _ (fun (i:Nat) => ([(1,.ptr H.length 0),(4,.ptr (H.length+1) 0),(5,.fn (.func F.record_Body_1) [] [.ptr (H.length+1) 0]),(29,.agg V),(30,I i)],addH H ⟨r.cells,0,true⟩ ((Pa r.ns).take i)))
   (fun i => i≤8) (fun i => 8 - i) 0 (Nat.zero_le _) rfl ?_
  intro i hi
  simp only [go_sem]
  refine ⟨fun hh => ?_,fun hh => ?_⟩
  ·have hlt:i<8:=by omega
   have w1:IntKind.i64.wrap ((i:Int)+1)=((i+1:Nat):Int):=by rw [w64 _ (by omega) (by omega)]; omega
   simp only [go_sem,gi i hlt,lV,w1]
   obtain ⟨n,hn⟩:=Int.eq_ofNat_of_zero_le (hw i).1
   have hn2:=(hw i).2
   rw [hn]
   refine ⟨⟨by omega,by omega⟩,Za (Zpz (by omega)) (fun _ => rfl) ?_⟩
   have tl:((Pa r.ns).take i).length=i:=by rw [List.length_take]; omega
   have ta:=Zv5 (H:=H) (o:=⟨r.cells,0,true⟩) (fs:=(Pa r.ns).take i) (e:=vB (beN 8 n) false) (b:=beN 8 n) (Sl.vB _ _) (by omega)
   have ef:(Pa r.ns).getD i noF=⟨((i+1:Nat):Int),beN 8 n,vB (beN 8 n) false⟩:=by
    rw [Zlv r.ns (by omega),nFld,hn]; rfl
   have sn:=Yx (show i<(Pa r.ns).length by omega) noF
   rw [ef] at sn
   rw [tl,← sn] at ta
   simp only [go_sem]
   refine Za ta (fun h => absurd h (by decide)) ?_
   simp only [go_sem,w1]
   exact ⟨i+1,rfl,rfl,by omega,by omega⟩
  ·obtain rfl:i=8:=by omega
   rw [List.take_of_length_le (by omega)]
   have fl:(Pa r.ns).length=8:=nl
   have al:=C7 H ⟨r.cells,0,true⟩ (Pa r.ns)
   have hp:Sl 1 (addH H ⟨r.cells,0,true⟩ (Pa r.ns)) (.row H.length 8 32 41) (bs r.prev) r.prev.length:=by
    rw [hr.1]
    exact .row (by omega) (by rw [Ly]; exact (Xm hr).symm) (by decide) (by rw [Ly]; exact Dz hr) (.inr (by rw [Ly]))
   have ta:=Zv5 (b:=r.prev) hp (by omega)
   rw [fl] at ta
   simp only [Ly,Zpa,Xm hr,go_sem]
   refine ⟨⟨by omega,by decide⟩,Za ta (fun h => absurd h Bool.false_ne_true) ?_⟩
   have al2:=C7 H ⟨r.cells,0,true⟩ (Pa r.ns++[⟨((8+1:Nat):Int),r.prev,.row H.length 8 32 41⟩])
   have al3:=C7 H ⟨r.cells,0,true⟩ (recF r (.row H.length 8 32 41))
   have ta2:=Zv5 (H:=H) (o:=⟨r.cells,0,true⟩) (fs:=Pa r.ns++[⟨((8+1:Nat):Int),r.prev,.row H.length 8 32 41⟩]) (hr.2.2 _) (by rw [List.length_append,fl]; show 8+1≤100; decide)
   rw [List.length_append,fl] at ta2
   simp only [Ly,Zpa,Xm hr,D0 hr,go_sem]
   have er:Pa r.ns++[⟨((8+1:Nat):Int),r.prev,.row H.length 8 32 41⟩]++[⟨((8+1+1:Nat):Int),r.b,r.e⟩]=recF r (.row H.length 8 32 41):=by rw [List.append_assoc]; rfl
   rw [show ([(⟨((8+1:Nat):Int),r.prev,.row H.length 8 32 41⟩:Fld)].length)=1 from rfl,er] at ta2
   refine ⟨Nat.lt_of_lt_of_le (Nat.lt_succ_of_lt (Nat.lt_succ_self _)) al2,Za ta2 (fun h => absurd h Bool.false_ne_true) ?_⟩
   have rl:=Il r (.row H.length 8 32 41)
   have ex:addX H.length 10=.row (H.length+3) 0 10 20:=rfl
   simp only [Ly,Zpa,rl,ex,go_sem]
   have hs:Sl 2 (addH H ⟨r.cells,0,true⟩ (recF r (.row H.length 8 32 41))) (.row (H.length+3) 0 10 20) (fcs (recF r (.row H.length 8 32 41))) (recF r (.row H.length 8 32 41)).length:=by
    obtain ⟨e1,e2⟩:=Ztg H ⟨r.cells,0,true⟩ (recF r (.row H.length 8 32 41)) (by rw [rl]; decide)
    have fl2:=Ps (recF r (.row H.length 8 32 41))
    rw [rl] at fl2 ⊢
    exact .row e2 (by rw [e1,fl2]) (by decide) (by rw [e1]; exact List.take_of_length_le (by rw [List.drop_zero,fl2]; exact Nat.le_refl _)) (.inl (by rw [e1]))
   have hp3:Sl 1 (addH H ⟨r.cells,0,true⟩ (recF r (.row H.length 8 32 41))) (.row H.length 8 32 41) (bs r.prev) r.prev.length:=by
    rw [hr.1]
    exact .row (by omega) (by rw [Ly]; exact (Xm hr).symm) (by decide) (by rw [Ly]; exact Dz hr) (.inr (by rw [Ly]))
   refine ⟨by omega,Za (Z07 hs (fun f hf => ?_) (by rw [rl]; decide)) (fun _ => rfl) ?_⟩
   ·rcases List.mem_append.1 hf with hf | hf
    ·obtain ⟨i,n,rfl⟩:=B8 hf; exact Zxi _ _ _
    ·simp only [List.mem_cons,List.not_mem_nil,or_false] at hf
     rcases hf with rfl | rfl
     ·exact hp3
     ·exact hr.2.2 _
   ·rw [Hd hr hb,Hd hr hb]
    simp only [go_sem]
    exact Zc (by simp only [low,lowL,vB,Pc])
set_option maxRecDepth 10000
theorem xor8 (a b:UInt8):bXor .u8 (a.toNat:Int) (b.toNat:Int)=((a ^^^ b).toNat:Int):=by
 have h:∀ x:UInt8,(BitVec.ofInt 8 (x.toNat:Int)).toNat=x.toNat:=fun x => by
  have:=x.toNat_lt
  rw [BitVec.toNat_ofInt]; omega
 have h2:=(a ^^^ b).toNat_lt
 show IntKind.u8.wrap ((BitVec.ofInt 8 (a.toNat:Int) ^^^ BitVec.ofInt 8 (b.toNat:Int)).toNat:Int)=_
 rw [BitVec.toNat_xor,h,h,← UInt8.toNat_xor]
 generalize (a ^^^ b).toNat=n at h2 ⊢
 simp only [IntKind.wrap,IntKind.bits,IntKind.signed]
 show ((n:Int)%256)=n
 omega
def z64Z:List AV:=bs (List.replicate 64 0)
theorem Zu2:z64Z.length=64:=rfl
theorem Zzg:z64Z=bs (List.replicate 64 0):=rfl
def kbi (k:List UInt8) (c:UInt8) (i:Nat):List UInt8:=(k.take i).map (· ^^^ c)++k.drop i
theorem Zmi (k:List UInt8) (c:UInt8) (i:Nat):(kbi k c i).length=k.length:=by
 rw [kbi,List.length_append,List.length_map,List.length_take,List.length_drop]; omega
theorem Zxp (k:List UInt8) (c:UInt8) {i:Nat} (h:i<k.length):(kbi k c i).getD i 0=k.getD i 0:=by
 rw [kbi,List.getD_eq_getElem?_getD,List.getElem?_append_right (by rw [List.length_map,List.length_take]; omega),List.length_map,List.length_take,Nat.min_eq_left (by omega),Nat.sub_self,List.getElem?_drop,List.getD_eq_getElem?_getD]; rfl
theorem Zxo (k:List UInt8) (c:UInt8) {i:Nat} (h:i<k.length):(bs (kbi k c i)).set i (u8 (k.getD i 0 ^^^ c))=bs (kbi k c (i+1)):=by
 have l:((k.take i).map (· ^^^ c)).length=i:=by rw [List.length_map,List.length_take]; omega
 have d:k.drop i=k.getD i 0::k.drop (i+1):=by
  rw [List.drop_eq_getElem_cons h,List.getD_eq_getElem?_getD,List.getElem?_eq_getElem h]; rfl
 rw [kbi,kbi,d,Yx h 0,List.map_append,bs,bs,List.map_append,List.map_append,List.map_append,List.set_append_right _ _ (by rw [List.length_map,l]; exact Nat.le_refl _),List.length_map,l,Nat.sub_self,List.append_assoc]
 rfl
theorem Bf {H:AH} {x:AV} {key:List UInt8} (c:UInt8) (hx:Sl 1 H x (bs key) key.length) (hn:key.length≤64):Called Tryz.prog F.mac_with [x,u8 c] H (.row H.length 0 64 64) (H++[⟨bs (kblk key c),1,true⟩]):=by
 have hz:kblk key c=(key++List.replicate (64 - key.length) 0).map (· ^^^ c):=by rw [kblk,if_neg (by omega)]
 rw [hz]
 have kl:(key++List.replicate (64 - key.length) (0:UInt8)).length=64:=by rw [List.length_append,List.length_replicate]; omega
 refine Zib ?_
 simp only [Gb,go_sem,hx.s]
 refine ⟨fun h => absurd h (by omega),fun _ => ?_⟩
 show Hs 1 _ _∧Zaj 1 (H++[⟨z64Z,1,true⟩]) _ x∧iwp _ _ _ _ _ (Zal 1 (H++[⟨z64Z,1,true⟩]) x _)
 have hs:Sl 1 (H++[⟨z64Z,1,true⟩]) x (bs key) key.length:=hx.app
 have ec:Zal 1 (H++[⟨z64Z,1,true⟩]) x (.row H.length 0 64 64)=H++[⟨bs (kbi (key++List.replicate (64 - key.length) 0) c 0),1,true⟩]:=by
  have e1:(bs key).take (min key.length 64*1)=bs key:=List.take_of_length_le (by rw [Zt]; omega)
  have e2:splice z64Z 0 (bs key)=bs (key++List.replicate (64 - key.length) 0):=by
   rw [Xd _ _ _ (by rw [Zt,Zu2]; omega),Zzg,Zt,List.take_zero,List.nil_append,Nat.zero_add,bs,bs,bs,← List.map_drop,List.drop_replicate,← List.map_append]
  have e0:srcN x=key.length:=hs.s.2.1
  show setO (H++[⟨z64Z,1,true⟩]) H.length (splice (obj (H++[⟨z64Z,1,true⟩]) H.length).cs 0 ((srcC 1 (H++[⟨z64Z,1,true⟩]) x).take (min (srcN x) 64*1)))=_
  rw [e0,hs.s.2.2.2.1,e1,Z7,Qy,Q8]
  show H++[⟨splice z64Z 0 (bs key),1,true⟩]=_
  rw [e2]; rfl
 refine ⟨by refine ⟨trivial,trivial,?_⟩; decide,⟨by rw [hs.s.2.2.1]; trivial,by rw [hs.s.2.2.2.1]; exact Yz _,?_⟩,?_⟩
 ·exact ⟨by simp,by rw [Z7]; rfl,by rw [Z7]; rfl,by decide⟩
 rw [ec]
 generalize key++List.replicate (64 - key.length) 0=k at kl
 refine Z4 _ (fun (i:Nat) => ([(1,u8 c),(6,.row H.length 0 64 64),(19,I 64),(20,I i)],H++[⟨bs (kbi k c i),1,true⟩])) (fun i => i≤64) (fun i => 64 - i) 0 (Nat.zero_le _) rfl ?_
 intro i hi
 have bl:(bs (kbi k c i)).length=64:=by rw [Zt,Zmi,kl]
 simp only [go_sem]
 refine ⟨fun hh => ?_,fun hh => ?_⟩
 ·have hlt:i<64:=by omega
  have w1:IntKind.i64.wrap ((i:Int)+1)=((i+1:Nat):Int):=by rw [w64 _ (by omega) (by omega)]; omega
  have gi:(bs (kbi k c i)).getD i .junk=u8 (k.getD i 0):=by
   rw [← Zxp k c (by omega),bs,List.getD_eq_getElem?_getD,List.getElem?_map,List.getD_eq_getElem?_getD,List.getElem?_eq_getElem (show i<(kbi k c i).length by rw [Zmi,kl]; exact hlt)]; rfl
  simp only [go_sem,bl,gi,xor8,w1]
  refine ⟨⟨by omega,by omega⟩,by omega,⟨by omega,by omega⟩,by omega,i+1,rfl,?_,by omega,by omega⟩
  rw [← Zxo k c (by omega)]
 ·obtain rfl:i=64:=by omega
  have:kbi k c 64=k.map (· ^^^ c):=by rw [kbi,List.take_of_length_le (by omega),List.drop_of_length_le (by omega),List.append_nil]
  rw [this]
  exact Leave.refl _ _ _
def Qx (l:List Fld) (n:Nat):Bool:=decide (l.length=n)&&decide (∀ i,i<l.length→(l.getD i noF).tag=i+1)
def Wk (b:List UInt8) (n:Nat):Option (List Fld):=(getS b).bind fun l => if Qx l n then some l else none
def Gx (o:Option (List Fld)):AV:=match o with
 | some l => .view (l.map Fld.e) l.length false
 | none => nilS
theorem Tv {b:List UInt8} {n:Nat} {l:List Fld} (h:Wk b n=some l):(∀ f ∈ l,f.e=vB f.b false∧f.b.length≤b.length)∧l.length=n:=by
 unfold Wk at h
 cases hg:getS b with
 | none => rw [hg] at h; cases h
 | some m =>
  rw [hg] at h
  have h:(if Qx m n then some m else none)=some l:=h
  by_cases hb:Qx m n=true
  ·rw [if_pos hb] at h
   cases h
   simp only [Qx,Bool.and_eq_true,decide_eq_true_eq] at hb
   exact ⟨(Ir hg).1,hb.1⟩
  ·rw [if_neg hb] at h; cases h
theorem Zd7 {H:AH} {x:AV} {b:List UInt8} (hx:Sl 1 H x (bs b) b.length) (hn:b.length≤100000) (n:Nat) (hN:n≤100):Called Tryz.prog F.record_fields [x,I n] H (Gx (Wk b n)) H:=by
 refine G6 ?_
 simp only [Qi,go_sem,hx.s]
 refine Za (Zbg hx hn) (fun _ => rfl) ?_
 cases hg:getS b with
 | none =>
  have e:Wk b n=none:=by rw [Wk,hg]; rfl
  rw [e]
  simp only [getV,go_sem]
  exact Zl rfl
 | some l =>
  obtain ⟨hm,h64⟩:=Ir hg
  simp only [getV,go_sem]
  have eO:Wk b n=if Qx l n then some l else none:=by rw [Wk,hg]; rfl
  rw [eO]
  refine ⟨fun h => Zl ?_,fun h => ?_⟩
  ·have:¬ l.length=n:=by have h:¬ (l.length:Int)=n:=by simpa using h
                         omega
   have hb:Qx l n=false:=by rw [Qx,decide_eq_false this,Bool.false_and]
   rw [hb]; rfl
  ·have hl:l.length=n:=by have h:(l.length:Int)=n:=by simpa using h
                          omega
   have hb:Qx l n=decide (∀ i,i<l.length→(l.getD i noF).tag=i+1):=by rw [Qx,decide_eq_true hl,Bool.true_and]
   refine Z4 _ (fun (s:Nat × AV × AH) => ([(7,s.2.1),(23,.view (fcs l) l.length false),(24,I l.length),(25,I s.1)],H++s.2.2))
    (fun s => s.1≤l.length∧GR (H++s.2.2) s.2.1 ((l.take s.1).map Fld.e)∧(∀ q,rid s.2.1=some q→H.length≤q)∧∀ j,j<s.1→(l.getD j noF).tag=j+1) (fun s => l.length - s.1) (0,nilS,[]) ⟨Nat.zero_le _,.inl ⟨rfl,rfl⟩,fun q h => Zbx h,fun j hj => absurd hj (Nat.not_lt_zero j)⟩ (by rw [List.append_nil]; rfl) ?_
   rintro ⟨i,x,G⟩ ⟨hi,hg,hq,hj⟩
   dsimp only at hi hg hq hj
   have vl:((l.take i).map Fld.e).length=i:=by rw [List.length_map,List.length_take]; omega
   simp only [go_sem]
   refine ⟨fun hh => ?_,fun hh => ?_⟩
   ·have hlt:i<l.length:=by omega
    obtain ⟨he,hbl⟩:=hm _ (Yn noF hlt)
    have hs:∀ G,Sl 1 G (l.getD i noF).e (bs (l.getD i noF).b) (l.getD i noF).b.length:=fun G => by rw [he]; exact Sl.vB _ _
    have hp:(l.getD i noF).e.pure=true:=by rw [he]; exact Y1 _
    have el:elt (fcs l) 2 i=[I (l.getD i noF).tag,(l.getD i noF).e]:=V7 _ 2 Fld.len _ _ noF hlt
    have fl:=Ps l
    have hsn:=Yx hlt noF
    have w1:IntKind.i64.wrap ((i:Int)+1)=((i+1:Nat):Int):=by rw [w64 _ (by omega) (by omega)]; omega
    have ib:(0:Int)≤i∧(i:Int)<l.length:=⟨by omega,by omega⟩
    simp only [el,fl,go_sem,(hs []).s,w1,hg.sl.s,hp,Zq,fillv]
    refine ⟨ib,fun h => Zc ?_,fun h => ?_⟩
    ·have h:¬ (l.getD i noF).tag=((i+1:Nat):Int):=by simpa using h
     have bad:Qx l n=false:=by
      rw [hb,decide_eq_false_iff_not]; exact fun h2 => h (by rw [h2 i hlt]; omega)
     rw [bad]; rfl
    ·have h:(l.getD i noF).tag=((i+1:Nat):Int):=by simpa using h
     obtain ⟨⟨_,_,c3,c4⟩,K',g1,g2,g3⟩:=(hg.more hq ⟨[I (l.getD i noF).tag,(l.getD i noF).e],0,true⟩).step (b:=24) hq (s:=.view [(l.getD i noF).e] 1 true) (v:=(l.getD i noF).e) rfl rfl rfl (hs []).one (by rw [vl]; omega)
     refine ⟨⟨by rw [vl]; omega,c4⟩,(i+1,_,K'),rfl,g1,⟨by show i+1≤_; omega,?_,g3,fun j hj' => ?_⟩,by show _ - (i+1)<_; omega⟩
     ·show GR (H++K') _ ((l.take (i+1)).map _)
      rw [hsn,List.map_append]
      exact g2
     ·rcases Nat.lt_succ_iff_lt_or_eq.1 hj' with h1 | rfl
      ·exact hj j h1
      ·exact h
   ·obtain rfl:i=l.length:=by omega
    rw [hb,decide_eq_true hj,if_pos rfl]
    refine U3 ?_
    rw [List.take_of_length_le (Nat.le_refl _)] at hg
    refine hg.viewS hq (Mj fun a ha => ?_) (List.length_map _)
    obtain ⟨f,hf,rfl⟩:=List.mem_map.1 ha
    rw [(hm f hf).1]; exact Y1 _
def recL (l:List Fld):Rec:=⟨numO (l.getD 0 noF).b,numO (l.getD 1 noF).b,numO (l.getD 2 noF).b,numO (l.getD 3 noF).b,numO (l.getD 4 noF).b,numO (l.getD 5 noF).b,numO (l.getD 6 noF).b,numO (l.getD 7 noF).b,(l.getD 8 noF).b,(l.getD 9 noF).b,if 0<(l.getD 9 noF).b.length then (l.getD 9 noF).e else nilS⟩
def T5 (l:List Fld):Bool:=decide ((l.getD 8 noF).b.length=32)&&decide (∀ i:Nat,i<8→0≤numO (l.getD i noF).b)
def Vz (b:List UInt8):Rec:=match Wk b 10 with
 | some l => if T5 l then recL l else noRec
 | none => noRec
theorem Zby {b:List UInt8} {l:List Fld} (h:Wk b 10=some l) (hn:b.length≤100000) (h8:(l.getD 8 noF).b.length=32):(recL l).ok:=by
 obtain ⟨hm,hl⟩:=Tv h
 obtain ⟨he,hb⟩:=hm _ (Yn noF (show 9<l.length by omega))
 refine ⟨h8,by show (l.getD 9 noF).b.length≤_; omega,fun H => ?_⟩
 show Sl 1 H (if 0<(l.getD 9 noF).b.length then (l.getD 9 noF).e else nilS) (bs (l.getD 9 noF).b) (l.getD 9 noF).b.length
 split
 ·rw [he]; exact Sl.vB _ _
 ·have:(l.getD 9 noF).b=[]:=List.eq_nil_of_length_eq_zero (by omega)
  rw [this]; exact .nil
theorem Zep {b:List UInt8} (hn:b.length≤100000):(Vz b).ok:=by
 unfold Vz
 split
 ·rename_i l h
  by_cases hr:T5 l=true
  ·rw [if_pos hr]
   simp only [T5,Bool.and_eq_true,decide_eq_true_eq] at hr
   exact Zby h hn hr.1
  ·rw [if_neg hr]; exact Xw
 ·exact Xw
set_option maxRecDepth 10000
theorem Wo {r:Rec} (h:r.ok):r.cells.length=41∧r.cells.all AV.one=true∧r.cells.take 41=r.cells∧(∀ r':Rec,r'.ok→splice r'.cells 0 r.cells=r.cells):=⟨Xm h,Rm h,Mh h,fun r' h' => Sr h' h⟩
def Rec.vok (r:Rec):Prop:=r.ok∧(r.e=nilS∨∃ f,r.e=vB r.b f)
theorem Cc {r:Rec} (h:r.vok) (ren:Nat→Option Nat) (H:AH):lowL ren H r.cells=r.cells:=by
 rw [Rec.cells,Iq,Iq,Pc]
 have:lowL ren H [r.e]=[r.e]:=by
  rcases h.2 with e | ⟨f,e⟩ <;> rw [e] <;> rfl
 rw [this]; rfl
theorem Zk0 {b:List UInt8} (hn:b.length≤100000):(Vz b).vok:=by
 refine ⟨Zep hn,?_⟩
 unfold Vz
 split
 ·rename_i l h
  by_cases hr:T5 l=true
  ·rw [if_pos hr]
   obtain ⟨hm,hl⟩:=Tv h
   obtain ⟨he,hb⟩:=hm _ (Yn noF (show 9<l.length by omega))
   show (if 0<(l.getD 9 noF).b.length then (l.getD 9 noF).e else nilS)=nilS∨∃ f,(if 0<(l.getD 9 noF).b.length then (l.getD 9 noF).e else nilS)=vB (l.getD 9 noF).b f
   split
   ·exact .inr ⟨false,he⟩
   ·exact .inl rfl
  ·rw [if_neg hr]; exact .inl rfl
 ·exact .inl rfl
theorem Zlj (N:Nat→Int) {i:Nat} (hi:i<8):((List.range i).map (fun j => I (N j))++List.replicate (8 - i) (I 0)).set i (I (N i))=(List.range (i+1)).map (fun j => I (N j))++List.replicate (8 - (i+1)) (I 0):=by
 rw [List.set_append_right _ _ (by simp),show 8 - i=(8 - (i+1))+1 by omega,List.replicate_succ,List.range_succ,List.map_append]
 simp
def rec0 (l:List Fld):Rec:={ recL l with b:=[],e:=nilS }
theorem D1 {l:List Fld} (h8:(l.getD 8 noF).b.length=32):(rec0 l).ok:=⟨h8,Nat.zero_le _,fun H => .nil⟩
theorem Zqi (n0 n1 n2 n3 n4 n5 n6 n7:Int) (d:List UInt8) (hd:d.length=32):splice ((((((((noRec.cells.set 0 (I n0)).set 1 (I n1)).set 2 (I n2)).set 3 (I n3)).set 4 (I n4)).set 5 (I n5)).set 6 (I n6)).set 7 (I n7)) 8 (bs d)=(Rec.mk n0 n1 n2 n3 n4 n5 n6 n7 d [] nilS).cells:=by
 have e:((((((((noRec.cells.set 0 (I n0)).set 1 (I n1)).set 2 (I n2)).set 3 (I n3)).set 4 (I n4)).set 5 (I n5)).set 6 (I n6)).set 7 (I n7))=[I n0,I n1,I n2,I n3,I n4,I n5,I n6,I n7]++(bs z32++[nilS]):=rfl
 have b:(bs d).length=32:=by rw [Zt,hd]
 rw [e,Xd _ _ _ (by rw [b]; exact Nat.le_succ _),List.take_left' (show [I n0,I n1,I n2,I n3,I n4,I n5,I n6,I n7].length=8 from rfl),b,← List.drop_drop,List.drop_left' (show [I n0,I n1,I n2,I n3,I n4,I n5,I n6,I n7].length=8 from rfl),List.drop_left' (by rw [Zt]; rfl),List.append_assoc]
 rfl
theorem Zwk (l:List Fld) (h8:(l.getD 8 noF).b.length=32):splice ((((((((noRec.cells.set 0 (I (numO (l.getD 0 noF).b))).set 1 (I (numO (l.getD 1 noF).b))).set 2 (I (numO (l.getD 2 noF).b))).set 3 (I (numO (l.getD 3 noF).b))).set 4 (I (numO (l.getD 4 noF).b))).set 5 (I (numO (l.getD 5 noF).b))).set 6 (I (numO (l.getD 6 noF).b))).set 7 (I (numO (l.getD 7 noF).b))) 8 (bs (l.getD 8 noF).b)=(rec0 l).cells:=Zqi _ _ _ _ _ _ _ _ _ h8
theorem Zqj (l:List Fld) (h8:(l.getD 8 noF).b.length=32) (x:AV):(rec0 l).cells.set 40 x={ rec0 l with e:=x }.cells:=by
 show ((rec0 l).nums++(bs (rec0 l).prev++[nilS])).set 40 x=(rec0 l).nums++(bs (rec0 l).prev++[x])
 have b:(bs (rec0 l).prev).length=32:=by rw [Zt]; exact h8
 rw [List.set_append_right _ _ (show (rec0 l).nums.length≤40 from by show 8≤40; decide)]
 show (rec0 l).nums++(bs (rec0 l).prev++[nilS]).set 32 x=_
 rw [List.set_append_right _ _ (by rw [b]; exact Nat.le_refl _),b]; rfl
def nm8 (l:List Fld) (i:Nat):List AV:=(List.range i).map (fun j => I (numO (l.getD j noF).b))++List.replicate (8 - i) (I 0)
theorem Z43 (l:List Fld):nm8 l 8=[I (numO (l.getD 0 noF).b),I (numO (l.getD 1 noF).b),I (numO (l.getD 2 noF).b),I (numO (l.getD 3 noF).b),I (numO (l.getD 4 noF).b),I (numO (l.getD 5 noF).b),I (numO (l.getD 6 noF).b),I (numO (l.getD 7 noF).b)]:=rfl
theorem Zw9 (l:List Fld) {i:Nat} (h:i≤8):(nm8 l i).length=8:=by rw [nm8,List.length_append,List.length_map,List.length_range,List.length_replicate]; omega
theorem Zw8 (l:List Fld) {i:Nat} (hi:i<8):(nm8 l i).set i (I (numO (l.getD i noF).b))=nm8 l (i+1):=Zlj (fun j => numO (l.getD j noF).b) hi
def recZ:List Value:=zR
theorem Vy:(zR:List Value)=recZ:=rfl
theorem Xv:recZ.map AV.lit=noRec.cells:=rfl
theorem Zqg:recZ.length=41:=rfl
theorem Zd2 {H:AH} {x:AV} {b:List UInt8} (hx:Sl 1 H x (bs b) b.length) (hn:b.length≤100000):Called Tryz.prog F.record_read [x] H (.agg (Vz b).cells) H:=by
 refine Ct ?_
 have no1:=Wo Xw
 have nospl:=Sr Xw Xw
 simp only [O7,Vy]
 simp only [go_sem,hx.s,Xv]
 refine Za (Zd7 hx.app hn 10 (by decide)) (fun _ => rfl) ?_
 cases hf:Wk b 10 with
 | none =>
  have e:Vz b=noRec:=by rw [Vz,hf]
  rw [e]
  have z0:((0:Int) == 0)=true:=rfl
  simp only [Gx,go_sem,z0,Zq,fillv,Xv,no1.1,no1.2.1,no1.2.2.1,nospl]
  exact Zc rfl
 | some l =>
  obtain ⟨hm,hl⟩:=Tv hf
  have e:Vz b=if T5 l then recL l else noRec:=by rw [Vz,hf]
  rw [e]
  have el:∀ i,i<10→elt (l.map Fld.e) 1 i=[(l.getD i noF).e]:=fun i hi => Lm Fld.e l i (by omega) noF
  have hs:∀ i,i<10→∀ G,Sl 1 G (l.getD i noF).e (bs (l.getD i noF).b) (l.getD i noF).b.length:=fun i hi G => by
   rw [(hm _ (Yn noF (show i<l.length by omega))).1]; exact Sl.vB _ _
  have hb:∀ i,i<10→(l.getD i noF).b.length≤100000:=fun i hi => by
   have:=(hm _ (Yn noF (show i<l.length by omega))).2; omega
  have l10:(l.map Fld.e).length=10:=by rw [List.length_map,hl]
  have z10:(((10:Nat):Int) == 0)=false:=rfl
  simp only [Gx,hl,z10,go_sem,el 8 (by decide),l10,(hs 8 (by decide) []).s,Zq,fillv,Xv,no1.1,no1.2.1,no1.2.2.1,nospl]
  refine ⟨⟨by omega,by omega⟩,fun h => Zc ?_,fun h => ?_⟩
  ·have h:¬ (l.getD 8 noF).b.length=32:=by
    intro h2; rw [h2] at h; exact absurd h (by decide)
   have:T5 l=false:=by rw [T5,decide_eq_false h,Bool.false_and]
   rw [this]; rfl
  ·have h8:(l.getD 8 noF).b.length=32:=by
    have h:((l.getD 8 noF).b.length:Int)=32:=by simpa using h
    omega
   refine Z4 _ (fun (s:Nat) => ([(2,.ptr H.length 0),(3,.view (l.map Fld.e) 10 false),(4,.ptr (H.length+1) 0),(22,I s)],H++[⟨noRec.cells,0,true⟩,⟨nm8 l s,0,true⟩]))
    (fun s => s≤8∧∀ j,j<s→0≤numO (l.getD j noF).b) (fun s => 8 - s) 0 ⟨Nat.zero_le _,fun j hj => absurd hj (Nat.not_lt_zero j)⟩ rfl ?_
   rintro i ⟨hi,hj⟩
   simp only [go_sem]
   refine ⟨fun hh => ?_,fun hh => ?_⟩
   ·have hlt:i<8:=by omega
    have ib:(0:Int)≤i∧(i:Int)<((10:Nat):Int):=⟨by omega,by omega⟩
    have ib8:(0:Int)≤i∧(i:Int)<((8:Nat):Int):=⟨by omega,by omega⟩
    have w1:IntKind.i64.wrap ((i:Int)+1)=((i+1:Nat):Int):=by rw [w64 _ (by omega) (by omega)]; omega
    simp only [go_sem,el i (by omega),l10,(hs i (by omega) []).s]
    refine ⟨ib,Za (Z0m (hs i (by omega) _) (by have:=hb i (by omega); omega)) (fun _ => rfl) ?_⟩
    by_cases hneg:numO (l.getD i noF).b<0
    ·rw [if_pos hneg]
     simp only [go_sem,Zq,fillv,Xv,no1.1,no1.2.1,no1.2.2.1,nospl]
     have:T5 l=false:=by
      have:¬ ∀ i:Nat,i<8→0≤numO (l.getD i noF).b:=fun h => by have:=h i hlt; omega
      rw [T5,decide_eq_false this,Bool.and_false]
     rw [this]
     exact Zc rfl
    ·rw [if_neg hneg]
     simp only [go_sem,Zw9 l hi,w1]
     refine ⟨ib8,?_⟩
     refine ⟨by omega,i+1,rfl,?_,⟨by omega,fun j hj' => ?_⟩,by omega⟩
     ·rw [← Zw8 l hlt]
     ·rcases Nat.lt_succ_iff_lt_or_eq.1 hj' with h1 | rfl
      ·exact hj j h1
      ·omega
   ·obtain rfl:i=8:=by omega
    have hok:T5 l=true:=by rw [T5,decide_eq_true h8,decide_eq_true hj]; rfl
    have e8:(l.getD 8 noF).e=.view (bs (l.getD 8 noF).b) 32 false:=by rw [(hm _ (Yn noF (show 8<l.length by omega))).1,← h8]
    have b8:(bs (l.getD 8 noF).b).length=32:=by rw [Zt,h8]
    have t8:(bs (l.getD 8 noF).b).take 32=bs (l.getD 8 noF).b:=List.take_of_length_le (by omega)
    have o0:=Wo (D1 h8)
    have spl0:=Sr Xw (D1 h8)
    simp only [Z43,go_sem,el 8 (by decide),el 9 (by decide),l10,e8,b8,t8,Yz,(hs 9 (by decide) []).s,Zq,fillv,Xv,Zqg,no1.1,no1.2.1,no1.2.2.1,nospl,Zwk l h8,o0.1,o0.2.1,o0.2.2.1,spl0,if_pos hok]
    have ct:∀ X:AV,∀ K,lowL (renk H.length []) K (recL l).cells=(recL l).cells:=fun _ K => Cc ⟨Zby hf hn h8,by
     show (if 0<(l.getD 9 noF).b.length then (l.getD 9 noF).e else nilS)=nilS∨∃ f,(if 0<(l.getD 9 noF).b.length then (l.getD 9 noF).e else nilS)=vB (l.getD 9 noF).b f
     split
     ·exact .inr ⟨false,(hm _ (Yn noF (show 9<l.length by omega))).1⟩
     ·exact .inl rfl⟩ _ _
    refine ⟨by decide,⟨by decide,by decide⟩,⟨by decide,by decide⟩,⟨by decide,by decide⟩,⟨by decide,by decide⟩,⟨by decide,by decide⟩,⟨by decide,by decide⟩,⟨by decide,by decide⟩,⟨by decide,by decide⟩,⟨by decide,by decide⟩,fun hp => ?_,fun hp => ?_⟩
    ·have hp:0<(l.getD 9 noF).b.length:=by omega
     have er:(rec0 l).cells.set 40 (l.getD 9 noF).e=(recL l).cells:=by
      rw [Zqj l h8]
      show (rec0 l).nums++(bs (rec0 l).prev++[(l.getD 9 noF).e])=(recL l).nums++(bs (recL l).prev++[if 0<(l.getD 9 noF).b.length then (l.getD 9 noF).e else nilS])
      rw [if_pos hp]; rfl
     have hr:=Zby hf hn h8
     rw [er,Mh hr,Sr Xw hr,Mh hr]
     refine ⟨⟨by decide,by decide⟩,⟨Xm hr,Rm hr⟩,Nat.le_of_eq (Xm hr).symm,?_⟩
     exact Zc (congrArg AV.agg (ct nilS _))
    ·have hp:¬ 0<(l.getD 9 noF).b.length:=by omega
     have er:(recL l).cells=(rec0 l).cells:=by
      show (recL l).nums++(bs (recL l).prev++[if 0<(l.getD 9 noF).b.length then (l.getD 9 noF).e else nilS])=_
      rw [if_neg hp]; rfl
     rw [er]
     exact Zc (congrArg AV.agg (Cc ⟨D1 h8,.inl rfl⟩ _ _))
def zd:List UInt8:=z32
def Qz (b:List UInt8):Option (Rec × List UInt8 × Nat × Nat):=(Xj b).bind fun p => if recB (Vz p.1) then some (Vz p.1,sha p.1,p.2.1,p.2.2) else none
def Ed (o:Option (Rec × List UInt8 × Nat × Nat)):AV:=match o with
 | some (r,d,s,t) => .tup [.agg r.cells,.agg (bs d),.agg (sgc s t),nilE]
 | none => .tup [.agg noRec.cells,.agg (bs zd),.agg (sgc 0 0),errF]
theorem Ji (b:List UInt8):(Wk b 2=none∧Xj b=none)∨∃ f g,Wk b 2=some [f,g]∧Xj b=if g.b.length=64 then some (f.b,be (g.b.take 32),be (g.b.drop 32)) else none:=by
 cases hg:getS b with
 | none => exact .inl ⟨by rw [Wk,hg]; rfl,Oa fun f g h => by rw [hg] at h; cases h⟩
 | some l =>
  have eO:Wk b 2=if Qx l 2 then some l else none:=by rw [Wk,hg]; rfl
  by_cases h2:l.length=2
  ·obtain ⟨f,g,rfl⟩:=len2 h2
   have et:Qx [f,g] 2=decide (f.tag=1∧g.tag=2):=by
    rw [Qx,show decide ([f,g].length=2)=true from rfl,Bool.true_and,Bool.eq_iff_iff,decide_eq_true_eq,decide_eq_true_eq]
    refine ⟨fun h => ⟨h 0 (show 0<2 by decide),h 1 (show 1<2 by decide)⟩,fun h i hi => ?_⟩
    match i,hi with
    | 0,_ => exact h.1
    | 1,_ => exact h.2
   rw [eO,et,Hl hg]
   by_cases ht:f.tag=1∧g.tag=2
   ·refine .inr ⟨f,g,by rw [decide_eq_true ht]; rfl,?_⟩
    by_cases h64:g.b.length=64
    ·rw [if_pos ⟨ht,h64⟩,if_pos h64]
    ·rw [if_neg (fun h => h64 h.2),if_neg h64]
   ·exact .inl ⟨by rw [decide_eq_false ht]; rfl,by rw [if_neg (fun h => ht h.1)]⟩
  ·refine .inl ⟨by rw [eO,Qx,decide_eq_false h2]; rfl,Oa fun f g h => by rw [hg] at h; cases h; exact h2 rfl⟩
def z32Z:List Value:=List.replicate 32 (.int .u8 0)
theorem Db:List.replicate 32 (Value.int .u8 0)=z32Z:=rfl
theorem W4:z32Z.map AV.lit=bs zd:=rfl
theorem R4 {a d:List UInt8} (ha:a.length=32) (h:d.length=32):splice (bs a) 0 (bs d)=bs d:=Zu (by rw [Zt,Zt,ha,h])
theorem Zjo {H:AH} {x:AV} {b:List UInt8} (hx:Sl 1 H x (bs b) b.length) (hn:b.length≤100000):Called Tryz.prog F.record_Open [x] H (Ed (Qz b)) H:=by
 refine Cu ?_
 have e8:[Z0,Z0,Z0,Z0,Z0,Z0,Z0,Z0]=sgc 0 0:=rfl
 have no1:=Wo Xw
 have nospl:=Sr Xw Xw
 obtain ⟨n32,b32,t32⟩:=P1 (show zd.length=32 from rfl)
 have s32:=fun (d:List UInt8) (h:d.length=32) => R4 (show zd.length=32 from rfl) h
 have s3z:=s32 zd rfl
 simp only [O8,Vy,Db]
 simp only [go_sem,hx.s,Xv,W4,e8]
 refine Za (Zd7 hx.app hn 2 (by decide)) (fun _ => rfl) ?_
 rcases Ji b with ⟨hf,hp⟩ | ⟨f,g,hf,hp⟩
 ·have e:Qz b=none:=by rw [Qz,hp]; rfl
  have z0:((0:Int) == 0)=true:=rfl
  rw [e,hf]
  simp only [Gx,go_sem,z0,Zq,fillv,Xv,W4,no1.1,no1.2.1,no1.2.2.1,nospl,e8,Yy,Yo,Yu,Ya,b32,t32,s3z,Yz]
  exact Zc rfl
 ·obtain ⟨hm,hl⟩:=Tv hf
  obtain ⟨hf1,hf2⟩:=hm f (by simp)
  obtain ⟨hg1,hg2⟩:=hm g (by simp)
  have sg:∀ G,Sl 1 G g.e (bs g.b) g.b.length:=fun G => by rw [hg1]; exact Sl.vB _ _
  have sf:∀ G,Sl 1 G f.e (bs f.b) f.b.length:=fun G => by rw [hf1]; exact Sl.vB _ _
  have e0:∀ a b:AV,elt [a,b] 1 0=[a]:=fun _ _ => rfl
  have e1:∀ a b:AV,elt [a,b] 1 1=[b]:=fun _ _ => rfl
  have z2:(((2:Nat):Int) == 0)=false:=rfl
  have tp:=fun H => Df (H:=H) (sg H) (by omega)
  have tr:=fun H => Zd2 (H:=H) (sf H) (by omega)
  have hv:=Zk0 (b:=f.b) (by omega)
  have rv1:=Wo hv.1
  have rspl:=Sr Xw hv.1
  rw [hf]
  simp only [Gx,List.map_cons,List.map_nil,List.length_cons,List.length_nil,Nat.zero_add,z2,go_sem,e0,e1,(sf []).s]
  refine ⟨by decide,Za (tr _) (fun _ => rfl) ?_⟩
  have no:=recB (Vz f.b)
  have tm:=fun H => Zd1 (H:=H) (Vz f.b) hv.1
  have eR:Qz b=(if g.b.length=64 then some (f.b,be (g.b.take 32),be (g.b.drop 32)) else none).bind fun p => if recB (Vz p.1) then some (Vz p.1,sha p.1,p.2.1,p.2.2) else none:=by rw [Qz,hp]
  rw [eR]
  generalize hR:Vz f.b=R at hv rv1 rspl tm
  simp only [go_sem,e0,e1,(sg []).s,Xv,no1.1,no1.2.1,no1.2.2.1,rspl,rv1.1,rv1.2.1,rv1.2.2.1]
  refine ⟨by decide,Za (tp _) (fun _ => rfl) ?_⟩
  by_cases h64:g.b.length=64
  ·rw [if_pos h64,if_pos h64]
   generalize be (g.b.take 32)=s
   generalize be (g.b.drop 32)=t
   simp only [go_sem,e8,Yy,Yo,Yu,Ya,rspl,rv1.1,rv1.2.1,rv1.2.2.1]
   refine Zs (fun _ => tm _) ?_
   have ev:Ed ((some (f.b,s,t)).bind fun p => if recB (Vz p.1) then some (Vz p.1,sha p.1,p.2.1,p.2.2) else none)=if recB R then .tup [.agg R.cells,.agg (bs (sha f.b)),.agg (sgc s t),nilE] else .tup [.agg noRec.cells,.agg (bs zd),.agg (sgc 0 0),errF]:=by
    show Ed (if recB (Vz f.b) then some (Vz f.b,sha f.b,s,t) else none)=_
    rw [hR]; cases recB R <;> rfl
   rw [ev]
   clear tm
   have low1:=fun G => Cc hv (renk H.length []) G
   generalize recB R=v
   have ts:=fun G => Zd0 (H:=G) (sf G) (by omega)
   have hsl:=Rl f.b
   generalize sha f.b=d at ts hsl ⊢
   obtain ⟨nd,bd,td⟩:=P1 hsl
   have sd:=s32 d hsl
   cases v
   ·simp only [go_sem,e8,Yy,Yo,Yu,Ya,Zq,fillv,Xv,W4,no1.1,no1.2.1,no1.2.2.1,nospl,rv1.1,rv1.2.1,rv1.2.2.1,b32,t32,s3z,Yz]
    exact Zc rfl
   ·simp only [go_sem,e0,e8,(sf []).s,Yy,Yo,Yu,Ya,rspl,rv1.1,rv1.2.1,rv1.2.2.1,b32,t32,Yz]
    refine ⟨by decide,Za ⟨rfl,fun G => ts _⟩ (fun _ => rfl) ?_⟩
    simp only [go_sem,e0,e8,(sf []).s,Yy,Yo,Yu,Ya,rspl,rv1.1,rv1.2.1,rv1.2.2.1,b32,t32,nd,bd,td,sd,no1.1,no1.2.2.1,Yz]
    exact ⟨by omega,by omega,Zc (by simp only [low,lowL,low1,Pc,Rs])⟩
  ·rw [if_neg h64,if_neg h64]
   simp only [go_sem,e8,Yy,Yo,Yu,Ya,Zq,fillv,Xv,W4,no1.1,no1.2.1,no1.2.2.1,nospl,rv1.1,rv1.2.1,rv1.2.2.1,b32,t32,s3z,Yz]
   refine Zs (v:=Bl false) (fun h => by cases h) ?_
   simp only [go_sem,e8,Yy,Yo,Yu,Ya,Zq,fillv,Xv,W4,no1.1,no1.2.1,no1.2.2.1,nospl,rv1.1,rv1.2.1,rv1.2.2.1,b32,t32,s3z,Yz]
   exact Zc rfl
structure Bt where
 b:List UInt8
 e:AV
def Bt.ok (x:Bt):Prop:=x.b.length≤100000∧∀ H,Sl 1 H x.e (bs x.b) x.b.length
def noB:Bt:=⟨[],nilS⟩
noncomputable def Zg7 (dev:Int) (X Y:Nat) (f:Bool) (i:Nat) (last b:List UInt8):Option (List UInt8):=match Qz b with
 | some (r,d,s,t) => if (((r.dev=dev∧r.seq=i)∧r.prev=last)∧verB X Y f d s t=true) then some d else none
 | none => none
noncomputable def chF (dev:Int) (X Y:Nat) (f:Bool):Nat→List UInt8→List Bt→Nat
 | i,last,[] => i
 | i,last,x::r => match Zg7 dev X Y f i last x.b with
  | some d => chF dev X Y f (i+1) d r
  | none => i
theorem Zfw:∀ a b:List UInt8,Wb (bs a) (bs b)=decide (a=b)
 | [],[] => rfl
 | [],b::t => rfl
 | a::s,[] => rfl
 | a::s,b::t => by
  have ih:=Zfw s t
  show (((a.toNat:Int) == (b.toNat:Int))&&Wb (bs s) (bs t))=_
  rw [ih,Bool.eq_iff_iff,Bool.and_eq_true,beq_iff_eq,decide_eq_true_eq,decide_eq_true_eq,List.cons.injEq,Int.ofNat_inj,UInt8.toNat_inj]
def k32:List (Option IntKind):=List.replicate 32 (some .u8)
theorem Z2a:List.replicate 32 (some IntKind.u8)=k32:=rfl
theorem Zde:∀ a:List UInt8,(bs a).map Th=(List.replicate a.length (some IntKind.u8)).map some
 | [] => rfl
 | a::s => by
  show some (some IntKind.u8)::(bs s).map Th=some (some IntKind.u8)::(List.replicate s.length (some IntKind.u8)).map some
  rw [Zde s]
theorem Zsj {a b:List UInt8} (ha:a.length=32) (hb:b.length=32):Us k32 (.agg (bs a)) (.agg (bs b))=True:=by
 have h1:=Zde a
 have h2:=Zde b
 rw [ha] at h1
 rw [hb] at h2
 exact eq_true ⟨h1,h2⟩
theorem Zsk (a b:List UInt8):C6 (.agg (bs a)) (.agg (bs b))=decide (a=b):=Zfw a b
theorem Zk4 {b:List UInt8} {r:Rec} {d:List UInt8} {s t:Nat} (h:Qz b=some (r,d,s,t)) (hn:b.length≤100000):r.ok∧recB r=true∧d.length=32∧s<(18446744073709551616:Nat)^4∧t<(18446744073709551616:Nat)^4:=by
 unfold Qz at h
 cases hp:Xj b with
 | none => rw [hp] at h; cases h
 | some p =>
  obtain ⟨body,s',t'⟩:=p
  rw [hp] at h
  have h:(if recB (Vz body) then some (Vz body,sha body,s',t') else none)=some (r,d,s,t):=h
  by_cases hb:recB (Vz body)=true
  ·rw [if_pos hb] at h
   cases h
   obtain ⟨h1,h2⟩:=B0 hp
   have hl:body.length≤b.length:=by
    rcases Ji b with ⟨_,h0⟩ | ⟨f,g,hf,h0⟩
    ·rw [hp] at h0; cases h0
    ·rw [hp] at h0
     split at h0
     ·cases h0; exact ((Tv hf).1 f (by simp)).2
     ·cases h0
   exact ⟨Zep (by omega),hb,Rl _,h1,h2⟩
  ·rw [if_neg hb] at h; cases h
theorem Zv9 {H:AH} {x:AV} {l:List Bt} {dev:Int} {X Y:Nat} {f:Bool} (hx:Sl 1 H x (l.map Bt.e) l.length) (hl:∀ y ∈ l,y.ok) (hn:l.length≤1000000) (hX:X<(18446744073709551616:Nat)^4) (hY:Y<(18446744073709551616:Nat)^4):Called Tryz.prog F.record_Chain [x,I dev,.agg (pcell X Y f)] H (I (chF dev X Y f 0 zd l)) H:=by
 have e8:[Z0,Z0,Z0,Z0,Z0,Z0,Z0,Z0]=sgc 0 0:=rfl
 have no1:=Wo Xw
 have nospl:=Sr Xw Xw
 obtain ⟨n32,b32,t32⟩:=P1 (show zd.length=32 from rfl)
 have s3z:=R4 (show zd.length=32 from rfl) (show zd.length=32 from rfl)
 refine Fz ?_
 simp only [Pm,Vy,Db,Z2a]
 simp only [go_sem,hx.s,Xv,W4,e8,Xh,S6]
 refine Z4 _ (fun (s:Nat × List UInt8 × AH) => ([(0,x),(1,I dev),(5,.ptr H.length 0),(7,.ptr (H.length+1) 0),(14,x),(15,I l.length),(16,I s.1)],H++(⟨pcell X Y f,0,true⟩::⟨bs s.2.1,0,true⟩::s.2.2)))
  (fun s => s.1≤l.length∧s.2.1.length=32∧chF dev X Y f 0 zd l=chF dev X Y f s.1 s.2.1 (l.drop s.1)) (fun s => l.length - s.1) (0,zd,[]) ⟨Nat.zero_le _,rfl,rfl⟩ rfl ?_
 rintro ⟨i,last,G⟩ ⟨hi,h32,hc⟩
 dsimp only at hi h32 hc
 rw [hc]
 simp only [go_sem]
 refine ⟨fun hh => ?_,fun hh => ?_⟩
 ·have hlt:i<l.length:=by omega
  have hok:=hl _ (Yn noB hlt)
  have dn:l.drop i=l.getD i noB::l.drop (i+1):=by
   rw [List.drop_eq_getElem_cons hlt,List.getD_eq_getElem?_getD,List.getElem?_eq_getElem hlt]; rfl
  rw [dn,chF]
  have hG:∀ K,Sl 1 (H++K) x (l.map Bt.e) l.length:=fun K => hx.app
  have ld:∀ K,Y8 false 1 (H++K) (Xn 1 (I (i:Int)) x)=(l.getD i noB).e:=fun K => by
   rw [(hG K).ld1 .i64 hlt,List.getD_eq_getElem?_getD,List.getElem?_map,List.getD_eq_getElem?_getD,List.getElem?_eq_getElem hlt]; rfl
  have lk:∀ K,Ys 1 (H++K) (Xn 1 (I (i:Int)) x)=True:=fun K => (hG K).ldOk .i64 hlt (Nat.le_refl _)
  have hb:=hok.1
  have w1:IntKind.i64.wrap ((i:Int)+1)=((i+1:Nat):Int):=by rw [w64 _ (by omega) (by omega)]; omega
  obtain ⟨nl,bl,tl⟩:=P1 h32
  simp only [hx.idx,ld,lk,true_and]
  refine ⟨⟨by omega,by omega⟩,Za (Zjo (hok.2 _) hb) (fun _ => rfl) ?_⟩
  generalize (l.getD i noB).b=b at hb ⊢
  cases ho:Qz b with
  | none =>
   have en:Zg7 dev X Y f i last b=none:=by rw [Zg7,ho]
   rw [en]
   simp only [Ed,go_sem,Xv,W4,no1.1,no1.2.1,no1.2.2.1,nospl,e8,Yy,Yo,Yu,Ya,b32,t32,s3z,Yz,bl,tl,Z5,Ye]
   refine ⟨by omega,by omega,Zs (v:=Bl false) (fun h => by cases h) ?_⟩
   simp only [go_sem]
   exact Zc rfl
  | some p =>
   obtain ⟨r,d,s,t⟩:=p
   obtain ⟨hr,hrb,hd,hs,ht⟩:=Zk4 ho hb
   obtain ⟨nd,bd,td⟩:=P1 hd
   have sd:=R4 (show zd.length=32 from rfl) hd
   have sl:=R4 h32 hd
   have r1:=Wo hr
   have rspl:=Sr Xw hr
   simp only [Ed,go_sem,Xv,W4,no1.1,no1.2.1,no1.2.2.1,nospl,r1.1,r1.2.1,r1.2.2.1,rspl,Zkz,Zky,Dz hr,e8,Yy,Yo,Yu,Ya,b32,t32,sd,sl,Yz,bd,td,bl,tl,Z5,Ye,Zsk,Zsj hr.1 h32]
   have en:Zg7 dev X Y f i last b=bif (r.dev != dev || r.seq != (i:Int) || !decide (r.prev=last)) then none else bif verB X Y f d s t then some d else none:=by
    have e1:(r.dev != dev) = !decide (r.dev=dev):=by rw [Bool.eq_iff_iff]; simp
    have e2:(r.seq != (i:Int)) = !decide (r.seq=i):=by rw [Bool.eq_iff_iff]; simp
    have en:Zg7 dev X Y f i last b=if (((r.dev=dev∧r.seq=i)∧r.prev=last)∧verB X Y f d s t=true) then some d else none:=by rw [Zg7,ho]
    rw [en,e1,e2]
    by_cases h1:r.dev=dev
    ·by_cases h2:r.seq=i
     ·by_cases h3:r.prev=last
      ·rw [decide_eq_true h1,decide_eq_true h2,decide_eq_true h3]
       cases hv:verB X Y f d s t
       ·rw [if_neg (fun h => by cases h.2)]; rfl
       ·rw [if_pos ⟨⟨⟨h1,h2⟩,h3⟩,rfl⟩]; rfl
      ·rw [if_neg (fun h => h3 h.1.2),decide_eq_false h3,Bool.not_false,Bool.or_true]; rfl
     ·rw [if_neg (fun h => h2 h.1.1.2),decide_eq_false h2,Bool.not_false,Bool.or_true,Bool.true_or]; rfl
    ·rw [if_neg (fun h => h1 h.1.1.1),decide_eq_false h1,Bool.not_false,Bool.true_or,Bool.true_or]; rfl
   rw [en]
   refine ⟨by omega,by omega,by omega,fun _ => by omega,fun _ => by omega,fun _ => by omega,fun _ => by omega,fun _ => by omega,Zs (fun _ => Zea hX hY hs ht hd) ?_⟩
   clear en
   generalize verB X Y f d s t=v
   generalize (r.dev != dev || r.seq != (i:Int) || !decide (r.prev=last))=c
   cases c
   ·cases v
    ·simp only [go_sem]
     exact Zc rfl
    ·simp only [go_sem,sl,bd,td,bl,tl,Yz,w1]
     exact ⟨by omega,by omega,(i+1,d,_),rfl,rfl,⟨by show i+1≤_; omega,hd,rfl⟩,by show _ - (i+1)<_; omega⟩
   ·simp only [go_sem]
    exact Zc rfl
 ·obtain rfl:i=l.length:=by omega
  rw [List.drop_length,chF]
  simp only [hx.s,go_sem]
  exact Zc rfl
set_option maxRecDepth 10000
abbrev catB (l:List Bt):List UInt8:=l.flatMap Bt.b
theorem Zfc {key:List UInt8} (h:key.length≤64) (c:UInt8):(kblk key c).length=64:=by
 rw [kblk,if_neg (by omega),List.length_map,List.length_append,List.length_replicate]; omega
theorem HS.app {nb:Nat} {H G:AH} {p:Nat} {l:List UInt8} (h:HS nb H p l):HS nb (H++G) p l:=by
 obtain ⟨h1,h2,r,h3,h4,h5⟩:=h
 exact ⟨by rw [List.length_append]; omega,h2,r,by rw [Z1 _ _ h1]; exact h3,h4.frame (Fr.app _ _ (fun _ => False)) fun _ _ h => h,h5⟩
theorem Zvv {H:AH} {xk x:AV} {key:List UInt8} {l:List Bt} (hk:Sl 1 H xk (bs key) key.length) (kn:key.length≤64) (hx:Sl 1 H x (l.map Bt.e) l.length) (hl:∀ y ∈ l,Sl 1 H y.e (bs y.b) y.b.length) (hn:l.length≤1000000) (hb:(catB l).length≤1000000):Called Tryz.prog F.mac_Of [xk,x] H (.agg (bs (hmac key (catB l)))) H:=by
 refine Zr5 ?_
 have b32:(bs zd).length=32:=rfl
 simp only [Am,Db]
 simp only [go_sem,W4,hx.s,hk.s]
 refine Za Zts (fun h => by cases h) ?_
 simp only [go_sem,hx.s,hk.s]
 have hn0:=Zui (H:=H++[⟨bs zd,0,true⟩]) (nb:=H.length+1) (by simp)
 simp only [go_sem] at hn0
 refine Za (Bf 54 hk.app kn) (fun h => by cases h) ?_
 simp only [go_sem]
 generalize hW:(vw IV256++[nilS,I 0])=W at hn0 ⊢
 have k54:=Zfc kn 54
 have hn1:HS (H.length+1) (H++[⟨bs zd,0,true⟩,⟨W,0,true⟩,⟨bs (kblk key 54),1,true⟩]) (H.length+1) []:=by
  have:=HS.app hn0 (G:=[⟨bs (kblk key 54),1,true⟩])
  rw [List.append_assoc] at this
  exact this
 have hb1:Sl 1 (H++[⟨bs zd,0,true⟩,⟨W,0,true⟩,⟨bs (kblk key 54),1,true⟩]) (.row (H.length+2) 0 64 64) (bs (kblk key 54)) (kblk key 54).length:=by
  rw [k54]
  exact .row (by simp) (by rw [Y2]; show 64=(bs (kblk key 54)).length; rw [Zt,k54]) (by decide) (by rw [Y2]; exact List.take_of_length_le (by show (bs (kblk key 54)).length≤_; rw [Zt,k54]; decide)) (by rw [Y2]; exact .inl rfl)
 obtain ⟨H1,hc,hs,fr⟩:=Ih hn1 hb1 (fun h => by have:=Option.some.inj h; omega) (by rw [k54]; decide) (by simp)
 rw [List.nil_append] at hs
 obtain ⟨G,hG⟩:=Fr.keep (H:=H) (o:=⟨bs zd,0,true⟩) (Y:=[⟨W,0,true⟩,⟨bs (kblk key 54),1,true⟩]) rfl fr
 refine Za hc (fun h => by cases h) ?_
 subst hG
 simp only [go_sem,hx.s]
 have cat_le:∀ i,(catB (l.take i)).length≤(catB l).length:=fun i => by
  have:catB l=catB (l.take i)++catB (l.drop i):=by rw [catB,catB,catB,← List.flatMap_append,List.take_append_drop]
  rw [this,List.length_append]; omega
 refine Z4 _ (fun (s:Nat × AH) => ([(0,xk),(4,.ptr H.length 0),(5,.ptr (H.length+1) 0),(14,x),(15,I l.length),(16,I s.1)],H++(⟨bs zd,0,true⟩::s.2)))
  (fun s => s.1≤l.length∧HS (H.length+1) (H++(⟨bs zd,0,true⟩::s.2)) (H.length+1) (kblk key 54++catB (l.take s.1))) (fun s => l.length - s.1) (0,G) ⟨Nat.zero_le _,by show HS _ _ _ (kblk key 54++[]); rw [List.append_nil]; exact hs⟩ rfl ?_
 rintro ⟨i,G⟩ ⟨hi,hs⟩
 dsimp only at hi hs
 have ci:=cat_le i
 simp only [go_sem]
 refine ⟨fun hh => ?_,fun hh => ?_⟩
 ·have hlt:i<l.length:=by omega
  have he:=hl _ (Yn noB hlt)
  have hG:∀ K,Sl 1 (H++K) x (l.map Bt.e) l.length:=fun K => hx.app
  have ld:∀ K,Y8 false 1 (H++K) (Xn 1 (I (i:Int)) x)=(l.getD i noB).e:=fun K => by
   rw [(hG K).ld1 .i64 hlt,List.getD_eq_getElem?_getD,List.getElem?_map,List.getD_eq_getElem?_getD,List.getElem?_eq_getElem hlt]; rfl
  have lk:∀ K,Ys 1 (H++K) (Xn 1 (I (i:Int)) x)=True:=fun K => (hG K).ldOk .i64 hlt (Nat.le_refl _)
  have w1:IntKind.i64.wrap ((i:Int)+1)=((i+1:Nat):Int):=by rw [w64 _ (by omega) (by omega)]; omega
  have cn:catB (l.take (i+1))=catB (l.take i)++(l.getD i noB).b:=by
   rw [catB,catB,Yx hlt noB,List.flatMap_append]; exact congrArg _ (List.append_nil _)
  have c1:=cat_le (i+1)
  rw [cn,List.length_append] at c1
  obtain ⟨H2,hc,hs2,fr⟩:=Ih hs (he.app (G:=⟨bs zd,0,true⟩::G)) (fun h => by have:=he.rid_lt h; omega) (by rw [List.length_append,k54]; omega) (by simp)
  obtain ⟨G2,hG2⟩:=Fr.keep (H:=H) (o:=⟨bs zd,0,true⟩) (Y:=G) rfl fr
  subst hG2
  simp only [hx.idx,ld,lk,true_and]
  refine ⟨⟨by omega,by omega⟩,Za hc (fun h => by cases h) ?_⟩
  simp only [go_sem,w1]
  refine ⟨(i+1,G2),rfl,rfl,⟨by show i+1≤_; omega,?_⟩,by show _ - (i+1)<_; omega⟩
  show HS _ _ _ (kblk key 54++catB (l.take (i+1)))
  rw [cn,← List.append_assoc]
  exact hs2
 ·obtain rfl:i=l.length:=by omega
  rw [List.take_of_length_le (Nat.le_refl _)] at hs
  refine Za (Ztr hs (by rw [List.length_append,k54]; omega)) (fun _ => rfl) ?_
  rw [hmac]
  have d1l:=Rl (kblk key 54++catB l)
  generalize sha (kblk key 54++catB l)=d1 at d1l ⊢
  obtain ⟨n1,b1,t1⟩:=P1 d1l
  have s1:=R4 (show zd.length=32 from rfl) d1l
  simp only [go_sem,W4,b32,b1,t1,s1,Yz]
  have k92:=Zfc kn 92
  have bk:(bs (kblk key 92)).length=64:=by rw [Zt,k92]
  have hk2:Sl 1 (H++(⟨bs zd,0,true⟩::(G++[⟨bs d1,0,true⟩]))) xk (bs key) key.length:=hk.app
  have tm:=Bf 92 hk2 kn
  have lB:(H++((⟨bs zd,0,true⟩:AObj)::(G++[⟨bs d1,0,true⟩]))).length=H.length+(G.length+1+1):=by simp
  rw [lB,List.append_assoc] at tm
  refine Za tm (fun h => by cases h) ?_
  have eL:appL 1 0 64 32 32 64=96:=rfl
  have eC:appC 1 (bs (kblk key 92)) (bs d1) 0 64 32 64=bs (kblk key 92++d1):=by rw [Ol rfl,bs,bs,bs,List.map_append]
  simp only [go_sem,b1,t1,bk,Yz,eL,eC]
  have kd:(kblk key 92++d1).length=96:=by rw [List.length_append,k92,d1l]
  have bd:(bs (kblk key 92++d1)).length=96:=by rw [Zt,kd]
  generalize kblk key 92++d1=w at kd bd ⊢
  have hw:Sl 1 (H++(⟨bs zd,0,true⟩::(G++[⟨bs d1,0,true⟩,⟨bs w,1,true⟩]))) (.row (H.length+(G.length+1+1)) 0 96 96) (bs w) w.length:=by
   have eo:obj (H++(⟨bs zd,0,true⟩::(G++[⟨bs d1,0,true⟩,⟨bs w,1,true⟩]))) (H.length+(G.length+1+1))=⟨bs w,1,true⟩:=by
    rw [Y2,B5,Y2]; rfl
   rw [kd]
   exact .row (by simp) (by rw [eo]; exact bd.symm) (by decide) (by rw [eo]; exact List.take_of_length_le (by show (bs w).length≤_; rw [bd]; decide)) (by rw [eo]; exact .inl rfl)
  refine ⟨by decide,by omega,Za (Zd0 hw (by rw [kd]; decide)) (fun _ => rfl) ?_⟩
  have d2l:=Rl w
  generalize sha w=d2 at d2l ⊢
  obtain ⟨n2,b2,t2⟩:=P1 d2l
  have s2:=R4 (show zd.length=32 from rfl) d2l
  simp only [go_sem,b32,b2,t2,s2,Yz]
  exact ⟨by omega,by omega,Zc (by simp only [low,Pc])⟩
set_option maxRecDepth 10000
theorem _root_.Go.Proofs.YtcgjlpdkobmpnaaGreat.Eng.Called.leave {P:Program} {f:FuncId} {args:List AV} {H H2 H':AH} {v2 v:AV} (h:Called P f args H v2 H2) (hl:Leave H v2 H2 v H'):Called P f args H v H' :=
 ⟨h.ok,fun φ w vals hs hr => (h.runs φ w vals hs hr).mono fun e w' ⟨y,he,φ',h1,h2,h3,h4⟩ => let ⟨φ'',g1,g2,g3⟩:=hl φ w φ' w' y hs h1 h2 h4; ⟨y,he,φ'',g1,g2,h3,g3⟩⟩
theorem N9 {H:AH} {a:Nat} (ha:a<(18446744073709551616:Nat)^4):Called Tryz.prog F.limb_Bytes [.agg (num a)] H (vB (beN 32 a) false) H:=by
 have h:=Ru (H:=H) (sz:=1) (n:=32) (vs:=bs (beN 32 a)) (by decide) (by rw [Zt,Zm]) (Y1 _)
 have e:vB (beN 32 a) false=.view (bs (beN 32 a)) 32 false:=by rw [vB,Zm]
 have b:(bs (beN 32 a)).length=32:=by rw [Zt,Zm]
 rw [e]
 refine (Dh (H:=H) ha).leave ?_
 rw [rA,hA,if_neg (by decide),if_neg (by decide),b] at h
 exact h
structure SrcV (H:AH) (p:Nat) (K V:List UInt8):Prop where
 lt:p<H.length
 o:obj H p=⟨[vB K false,vB V false],0,true⟩
 kl:K.length=32
 vl:V.length=32
theorem Za9 {H:AH} {p:Nat} {K V:List UInt8} {x:AV} {l:List Bt} (hs:SrcV H p K V) (hx:Sl 1 H x (l.map Bt.e) l.length) (hl:∀ y ∈ l,∀ H,Sl 1 H y.e (bs y.b) y.b.length) (hp:∀ y ∈ l,y.e.pure=true) (hn:l.length≤1000) (hb:(catB l).length≤100000):Called Tryz.prog F.nonce_source_code [.ptr p 0,x] H (vB (hmac K (V++catB l)) false) H:=by
 obtain ⟨lt,ho,kl,vl⟩:=hs
 have hk:=fun G => Sl.vB (H:=G) K false
 refine Ns ?_
 simp only [Uw,Db]
 simp only [go_sem,W4,hx.s,ho,Zq,fillv]
 have bb:(catB (⟨V,vB V false⟩::l)).length≤1000000:=by
  show (V++catB l).length≤_
  rw [List.length_append]; omega
 have tm:=fun G => Zvv (H:=H++G) (x:=.view (AV.view (bs V) V.length false::l.map Bt.e) (1+l.length) false) (l:=⟨V,vB V false⟩::l) (hk _) (by omega) (by
  have:=Sl.view (H:=H++G) (sz:=1) (cs:=AV.view (bs V) V.length false::l.map Bt.e) (n:=1+l.length) (by rw [List.length_cons,List.length_map]; omega) false
  rw [List.length_cons,Nat.add_comm l.length 1]; exact this) (fun y hy => by
  rcases List.mem_cons.1 hy with rfl | hy
  ·exact Sl.vB _ _
  ·exact hl y hy _) (by rw [List.length_cons]; omega) bb
 have pl:Yg (l.map Bt.e)=true:=Mj fun a ha => by
  obtain ⟨y,hy,rfl⟩:=List.mem_map.1 ha
  exact hp y hy
 have ol:(l.map Bt.e).all AV.one=true:=by
  rw [List.all_eq_true]
  intro a ha
  obtain ⟨y,hy,rfl⟩:=List.mem_map.1 ha
  exact (hl y hy []).one
 have ec:catB (⟨V,vB V false⟩::l)=V++catB l:=rfl
 rw [ec] at tm
 refine ⟨lt,lt,Y1 _,⟨pl,ol,by omega⟩,Za ⟨rfl,tm⟩ (fun _ => rfl) ?_⟩
 rw [hmac] at *
 have hsl:=Rl (kblk K 92++sha (kblk K 54++(V++catB l)))
 generalize sha (kblk K 92++sha (kblk K 54++(V++catB l)))=d at hsl ⊢
 obtain ⟨nd,bd,td⟩:=P1 hsl
 have sd:=R4 (show zd.length=32 from rfl) hsl
 have bz:(bs zd).length=32:=rfl
 simp only [go_sem,W4,bz,nd,bd,td,sd,Yz]
 refine ⟨by decide,Zc ?_⟩
 have eo:obj (H++[⟨bs d,0,true⟩]) H.length=⟨bs d,0,true⟩:=Z7 ..
 have en:renk H.length [] H.length=none:=Vl _
 have ev:vB d false=.view (bs d) 32 false:=by rw [vB,hsl]
 simp only [low,en,Vk,eo,if_true,List.drop_zero,Nat.mul_one,Nat.zero_add,td]
 rw [if_pos ⟨bd.symm,Nat.le_refl _,Y1 _⟩,ev]
variable {P:Program} {f:FuncId} {H:AH}
def renQ (q:Nat) (id:Nat):Option Nat:=if id=q then none else some id
def frzO (H:AH) (q p i:Nat) (o:AObj):AObj:=if i=q then ⟨o.cs,o.sz,false⟩ else if i=p then ⟨lowL (renQ q) H o.cs,o.sz,o.rw⟩ else o
def frz (H:AH) (q p:Nat):AH:=H.mapIdx (frzO H q p)
theorem Gs {q p i:Nat}:(frz H q p)[i]? = (H[i]?).map (frzO H q p i):=by rw [frz,List.getElem?_mapIdx]
theorem Ze6 (ren:Nat→Option Nat) (H:AH):∀ l:List AV,(lowL ren H l).length=l.length
 | [] => rfl
 | a::r => congrArg (·+1) (Ze6 ren H r)
theorem Is {q p i:Nat} (o:AObj):(frzO H q p i o).cs.length=o.cs.length∧(frzO H q p i o).sz=o.sz∧((frzO H q p i o).rw=true→o.rw=true):=by
 unfold frzO
 split
 ·exact ⟨rfl,rfl,fun h => by cases h⟩
 ·split
  ·exact ⟨Ze6 _ _ _,rfl,id⟩
  ·exact ⟨rfl,rfl,id⟩
theorem Z2u {φ:Nat→Option Nat} {w:World} {q p b:Nat} (h:Wr (cx φ (frz H q p) w) b):Wr (cx φ H w) b:=by
 obtain ⟨id,o,h1,h2,h3⟩:=h
 have h1:(frz H q p)[id]? = some o:=h1
 rw [Gs] at h1
 obtain ⟨o',g1,rfl⟩:=Option.map_eq_some_iff.1 h1
 exact ⟨id,o',g1,(Is o').2.2 h2,h3⟩
theorem Zm0 {φ:Nat→Option Nat} {w:World} {q p:Nat} (hp:(obj H p).rw=true):Ext (cx φ H w) (cx φ (frz H q p) w):=by
 refine ⟨Nat.le_refl _,fun _ _ _ => rfl,fun b c e fr h => ⟨c,fr,h,rfl⟩,fun i o h => ?_,fun i b h1 h2 h3 => ⟨by simpa [cx,frz] using h1,h2⟩⟩
 have h:H[i]? = some o:=h
 obtain ⟨l1,l2,l3⟩:=Is (H:=H) (q:=q) (p:=p) (i:=i) o
 refine ⟨frzO H q p i o,by show (frz H q p)[i]? = _; rw [Gs,h]; rfl,.inr ⟨l2,Nat.le_of_eq l1.symm,fun _ => l1,l3,fun hh => ?_,fun _ => rfl⟩⟩
 unfold frzO
 split
 ·cases o; simp_all
 ·split
  ·rename_i h1 h2
   subst h2
   have:obj H i=o:=by simp [obj,List.getD_eq_getElem?_getD,h]
   rw [this,hh] at hp; cases hp
  ·rfl
theorem Zfh {φ:Nat→Option Nat} {w:World} {q p:Nat} (hs:St (cx φ H w)):Lows φ φ H (frz H q p) w (renQ q):=by
 refine ⟨hs,fun b off us hi => ⟨hi.1,fun hw => hi.2 (Z2u hw)⟩,fun id j hj o ho => ?_,fun id hid b hlt hb hw => ?_⟩
 ·unfold renQ at hj
  split at hj
  ·cases hj
  ·cases hj
   obtain ⟨l1,l2,_⟩:=Is (H:=H) (q:=q) (p:=p) (i:=id) o
   exact ⟨frzO H q p id o,by rw [Gs,ho]; rfl,l2,l1,rfl⟩
 ·unfold renQ at hid
  split at hid
  ·rename_i h
   subst h
   obtain ⟨i2,o2,h1,h2,h3⟩:=hw
   have h1:(frz H id p)[i2]? = some o2:=h1
   rw [Gs] at h1
   obtain ⟨o',g1,rfl⟩:=Option.map_eq_some_iff.1 h1
   have hl2:i2<H.length:=by
    rcases Nat.lt_or_ge i2 H.length with h | h
    ·exact h
    ·rw [List.getElem?_eq_none h] at g1; cases g1
   have:i2=id:=hs.inj i2 id b hl2 hlt h3 hb
   subst this
   rw [frzO,if_pos rfl] at h2
   cases h2
  ·cases hid
theorem Z2v {φ:Nat→Option Nat} {w:World} {q p:Nat} (hp:(obj H p).rw=true) (hs:St (cx φ H w)):St (cx φ (frz H q p) w):=by
 have hx:=Zm0 (φ:=φ) (w:=w) (q:=q) hp
 have hL:=Zfh (q:=q) (p:=p) hs
 refine ⟨fun i o' h => ?_,fun i j b hi hj => hs.inj i j b (by simpa [cx,frz] using hi) (by simpa [cx,frz] using hj)⟩
 have h:(frz H q p)[i]? = some o':=h
 rw [Gs] at h
 obtain ⟨o,g1,rfl⟩:=Option.map_eq_some_iff.1 h
 obtain ⟨l1,l2,l3⟩:=Is (H:=H) (q:=q) (p:=p) (i:=i) o
 rcases hs.ok i o g1 with ⟨h1,h2⟩ | ⟨b,c,e,fr,h1,h2,h3,h4,h5⟩
 ·exact .inl ⟨h1,List.eq_nil_of_length_eq_zero (by rw [l1,h2]; rfl)⟩
 ·refine .inr ⟨b,c,e,fr,h1,h2,⟨h3.1,fun hd => h3.2.1 ⟨List.eq_nil_of_length_eq_zero (by rw [← l1,hd.1]; rfl),by rw [← l2]; exact hd.2⟩,fun hh => h3.2.2 (by rw [← l2]; exact hh)⟩,by rw [l1]; exact h4,?_⟩
  rw [l1]
  unfold frzO
  split
  ·exact h5.mono hx
  ·split
   ·exact Jj hL _ h5
   ·exact h5.mono hx
theorem _root_.Go.Proofs.YtcgjlpdkobmpnaaGreat.Eng.Called.freeze {args:List AV} {v:AV} {H':AH} {q p:Nat} (hp:(obj H p).rw=true) (h:Called P f (lowL (renQ q) H args) (frz H q p) v H'):Called P f args H v H' :=
 ⟨h.ok,fun φ w vals hs hr => (h.runs φ w vals (Z2v hp hs) (Jj (Zfh hs) _ hr)).mono fun e w' ⟨y,he,φ',h1,h2,h3,h4⟩ => ⟨y,he,φ',h1,(Zm0 hp).trans h2,h3,h4⟩⟩
set_option maxRecDepth 10000
theorem V6 (k t:List UInt8):(hmac k t).length=32:=Rl _
theorem Zed {H:AH} {p:Nat} {K V K' V':List UInt8} (hs:SrcV H p K V) (hk:K'.length=32) (hv:V'.length=32):SrcV (setO H p [vB K' false,vB V' false]) p K' V':=by
 obtain ⟨lt,ho,kl,vl⟩:=hs
 exact ⟨by rw [Zk]; exact lt,by rw [Yj _ _ lt,ho],hk,hv⟩
theorem SrcV.app {H G:AH} {p:Nat} {K V:List UInt8} (hs:SrcV H p K V):SrcV (H++G) p K V:=by
 obtain ⟨lt,ho,kl,vl⟩:=hs
 exact ⟨by rw [List.length_append]; omega,by rw [Z1 _ _ lt]; exact ho,kl,vl⟩
theorem Z0t {H:AH} {p:Nat} {K V:List UInt8} {x:AV} {l:List Bt} (hs:SrcV H p K V) (hx:Sl 1 H x (l.map Bt.e) l.length) (hl:∀ y ∈ l,∀ H,Sl 1 H y.e (bs y.b) y.b.length) (hp:∀ y ∈ l,y.e.pure=true) (hn:l.length≤1000) (hb:(catB l).length≤100000):Called Tryz.prog F.nonce_source_mix [.ptr p 0,x] H (.tup []) (setO H p [vB (mixS K V (catB l)).1 false,vB (mixS K V (catB l)).2 false]):=by
 refine Lo ?_
 simp only [Tl,go_sem]
 refine Za (Za9 hs hx hl hp hn hb) (fun _ => rfl) ?_
 obtain ⟨lt,ho,kl,vl⟩:=hs
 simp only [go_sem,ho]
 have h1:=V6 K (V++catB l)
 have hs2:=Zed (K':=hmac K (V++catB l)) (V':=V) ⟨lt,ho,kl,vl⟩ h1 vl
 have e1:mixS K V (catB l)=(hmac K (V++catB l),hmac (hmac K (V++catB l)) V):=rfl
 rw [e1]
 generalize hmac K (V++catB l)=K1 at h1 hs2 ⊢
 have tc:=Za9 (x:=nilS) (l:=[]) hs2 .nil (fun y hy => by cases hy) (fun y hy => by cases hy) (Nat.zero_le _) (Nat.zero_le _)
 rw [show V++catB []=V from List.append_nil V] at tc
 have h2:=V6 K1 V
 generalize hmac K1 V=V1 at tc h2 ⊢
 refine ⟨lt,Za tc (fun _ => rfl) ?_⟩
 have ov:obj (setO H p [vB K1 false,vB V false]) p=⟨[vB K1 false,vB V false],0,true⟩:=by rw [Yj _ _ lt,ho]
 have ov':obj (setO H p [AV.view (bs K1) K1.length false,vB V false]) p=⟨[vB K1 false,vB V false],0,true⟩:=ov
 simp only [go_sem,ov',ov]
 rw [Vj]
 exact ⟨lt,Leave.refl _ _ _⟩
theorem Z0s {H:AH} {p:Nat} {K V:List UInt8} (hs:SrcV H p K V):Called Tryz.prog F.nonce_source_next [.ptr p 0] H (.agg (num (be (hmac K V)))) (setO H p [vB (mixS K (hmac K V) [0]).1 false,vB (mixS K (hmac K V) [0]).2 false]):=by
 refine Nr ?_
 simp only [Uv,go_sem]
 have tc:=Za9 (x:=nilS) (l:=[]) (SrcV.app (G:=[⟨num 0,0,true⟩]) hs) .nil (fun y hy => by cases hy) (fun y hy => by cases hy) (Nat.zero_le _) (Nat.zero_le _)
 rw [show V++catB []=V from List.append_nil V] at tc
 refine Za tc (fun _ => rfl) ?_
 have h1:=V6 K V
 have hs1:=Zed (K':=K) (V':=hmac K V) hs hs.kl h1
 obtain ⟨lt,ho,kl,vl⟩:=hs
 have o0:∀ G,obj (H++G) p=⟨[vB K false,vB V false],0,true⟩:=fun G => by rw [Z1 _ _ lt]; exact ho
 have l0:∀ G:AH,p<(H++G).length:=fun G => by rw [List.length_append]; omega
 have s0:∀ G c,setO (H++G) p c=setO H p c++G:=fun G c => U2 _ _ _ lt
 generalize hmac K V=V1 at h1 tc hs1 ⊢
 have ev:AV.view (bs V1) V1.length false=vB V1 false:=rfl
 simp only [go_sem,o0,l0,s0,ev]
 obtain ⟨H2,e2⟩:∃ H2,H2=setO H p [vB K false,vB V1 false]:=⟨_,rfl⟩
 have len:H.length=H2.length:=by rw [e2,Zk]
 rw [← e2] at hs1 ⊢
 have o2:∀ G,obj (H2++G) p=⟨[vB K false,vB V1 false],0,true⟩:=fun G => by rw [Z1 _ _ hs1.lt]; exact hs1.o
 have l2:∀ G:AH,p<(H2++G).length:=fun G => by rw [List.length_append]; have:=hs1.lt; omega
 have s2:∀ G c,setO (H2++G) p c=setO H2 p c++G:=fun G c => U2 _ _ _ hs1.lt
 have s3:∀ c,setO H2 p c=setO H p c:=fun c => by rw [e2,Vj]
 rw [len]
 simp only [go_sem,o2,l2]
 refine ⟨by omega,by omega,Za (Zjt (Sl.vB V1 false) (by omega)) (fun _ => rfl) ?_⟩
 have n4:(num (be V1)).length=4:=Zb _ _
 have n40:(num 0).length=4:=Zb _ _
 have en:[Z0,Z0,Z0,Z0]=num 0:=rfl
 have sn:splice (num 0) 0 (num (be V1))=num (be V1):=Zu (by rw [n4,n40])
 have tn:(num (be V1)).take 4=num (be V1):=List.take_of_length_le (by omega)
 simp only [go_sem,Zq,fillv,en,sn,n4,n40,Zg]
 have tm:=fun G => Z0t (SrcV.app (G:=G) hs1) (x:=.view [.view [u8 0] 1 true] 1 true) (l:=[⟨[0],vB [0] true⟩]) (.view rfl _) (fun y hy H => by rw [List.mem_singleton] at hy; subst hy; exact Sl.vB _ _) (fun y hy => by rw [List.mem_singleton] at hy; subst hy; rfl) (by decide) (by decide)
 rw [show catB [⟨[0],vB [0] true⟩]=[0] from rfl] at tm
 refine Za (tm _) (fun h => by cases h) ?_
 rw [s2,s3]
 generalize mixS K V1 [0]=kv
 obtain ⟨K2,V2⟩:=kv
 rw [← len]
 have l3:(setO H p [vB K2 false,vB V2 false]).length=H.length:=Zk _ _ _
 obtain ⟨H3,e3⟩:∃ H3,H3=setO H p [vB K2 false,vB V2 false]:=⟨_,rfl⟩
 have l4:H.length=H3.length:=by rw [e3,l3]
 rw [← e3,l4]
 simp only [go_sem,n4,n40,sn,tn,Zg]
 rw [e3]
 exact Ad lt (by rw [ho]) rfl (by simp only [low,Tf])
set_option maxRecDepth 10000
theorem Zm1 (H G:AH) (q p:Nat):frz (H++G) (H.length+q) (H.length+p)=H++G.mapIdx (fun i o => frzO (H++G) (H.length+q) (H.length+p) (H.length+i) o):=by
 rw [frz,List.mapIdx_append]
 congr 1
 ·apply List.ext_getElem?
  intro i
  rw [List.getElem?_mapIdx]
  cases h:H[i]? with
  | none => rfl
  | some o =>
   have hi:i<H.length:=by
    rcases Nat.lt_or_ge i H.length with h1 | h1
    ·exact h1
    ·rw [List.getElem?_eq_none h1] at h; cases h
   show some (frzO _ _ _ i o)=some o
   rw [frzO,if_neg (by omega),if_neg (by omega)]
 ·congr 1
  funext i o
  rw [Nat.add_comm i]
def Ro (i:Nat):List UInt8:=List.replicate i 1++List.replicate (32 - i) 0
theorem Zlg {i:Nat} (h:i≤32):(Ro i).length=32:=by rw [Ro,List.length_append,List.length_replicate,List.length_replicate]; omega
theorem Zlf {i:Nat} (h:i<32):(bs (Ro i)).set i (u8 1)=bs (Ro (i+1)):=by
 rw [Ro,Ro,bs,bs,List.map_append,List.map_append,List.set_append_right _ _ (by rw [List.length_map,List.length_replicate]; exact Nat.le_refl _),List.length_map,List.length_replicate,Nat.sub_self,show 32 - i=(32 - (i+1))+1 by omega,List.replicate_succ,List.replicate_succ',List.map_append,List.append_assoc]
 rfl
def bgS (d m:Nat):Nat→List UInt8 × List UInt8
 | 0 => (List.replicate 32 0,List.replicate 32 1)
 | i+1 => mixS (bgS d m i).1 (bgS d m i).2 (UInt8.ofNat i::text d m)
theorem Z5k (d m:Nat):bgS d m 2=Nd d m:=rfl
def bgH (H:AH) (d m:Nat):Nat→AH
 | 0 => H++[⟨num d,0,true⟩,⟨num m,0,true⟩,⟨bs zd,1,true⟩,⟨bs (Ro 32),1,true⟩,⟨[.row (H.length+2) 0 32 32,.row (H.length+3) 0 32 32],0,true⟩]
 | i+1 => H++[⟨num d,0,true⟩,⟨num m,0,true⟩,⟨bs zd,1,false⟩,⟨bs (Ro 32),1,false⟩,⟨[vB (bgS d m (i+1)).1 false,vB (bgS d m (i+1)).2 false],0,true⟩]
def z32B:List AV:=bs (List.replicate 32 0)
def bgL (d m:Nat) (x:UInt8):List Bt:=[⟨[x],vB [x] true⟩,⟨beN 32 d,vB (beN 32 d) false⟩,⟨beN 32 m,vB (beN 32 m) false⟩]
theorem Zon (d m:Nat) (x:UInt8):catB (bgL d m x)=x::text d m:=by
 show [x]++(beN 32 d++(beN 32 m++[]))=_
 rw [List.append_nil]; rfl
theorem Zut {H:AH} {p d m:Nat} {K V:List UInt8} (x:UInt8) (hs:SrcV H p K V):Called Tryz.prog F.nonce_source_mix [.ptr p 0,.view [vB [x] true,vB (beN 32 d) false,vB (beN 32 m) false] 3 true] H (.tup []) (setO H p [vB (mixS K V (x::text d m)).1 false,vB (mixS K V (x::text d m)).2 false]):=by
 have:=Z0t hs (x:=.view [vB [x] true,vB (beN 32 d) false,vB (beN 32 m) false] 3 true) (l:=bgL d m x) (.view rfl _) (fun y hy H => by
  simp only [bgL,List.mem_cons,List.not_mem_nil,or_false] at hy
  rcases hy with rfl | rfl | rfl <;> exact Sl.vB _ _) (fun y hy => by
  simp only [bgL,List.mem_cons,List.not_mem_nil,or_false] at hy
  rcases hy with rfl | rfl | rfl <;> exact Y1 _) (by show 3≤1000; decide) (by rw [Zon]; show (text d m).length+1≤_; rw [text,List.length_append,Zm,Zm]; decide)
 rw [Zon] at this
 exact this
theorem Zom (d m i:Nat):(bgS d m i).1.length=32∧(bgS d m i).2.length=32:=by
 cases i with
 | zero => exact ⟨rfl,rfl⟩
 | succ i => exact ⟨V6 _ _,V6 _ _⟩
theorem Z3m (H:AH) (d m i:Nat):SrcV (bgH H d m (i+1)) (H.length+4) (bgS d m (i+1)).1 (bgS d m (i+1)).2 :=
 ⟨by simp [bgH],by rw [bgH,Y2]; rfl,(Zom d m _).1,(Zom d m _).2⟩
def bgF (H:AH) (d m:Nat):AH:=H++[⟨num d,0,true⟩,⟨num m,0,true⟩,⟨bs zd,1,false⟩,⟨bs (Ro 32),1,false⟩,⟨[vB zd false,vB (Ro 32) false],0,true⟩]
def bgM (H:AH) (d m:Nat):AH:=H++[⟨num d,0,true⟩,⟨num m,0,true⟩,⟨bs zd,1,false⟩,⟨bs (Ro 32),1,true⟩,⟨[vB zd false,.row (H.length+3) 0 32 32],0,true⟩]
theorem Zyt (H:AH) (d m:Nat):frz (bgH H d m 0) (H.length+2) (H.length+4)=bgM H d m:=by
 have o2:obj (bgH H d m 0) (H.length+2)=⟨bs zd,1,true⟩:=by rw [bgH,Y2]; rfl
 have r1:Vk (bgH H d m 0) (H.length+2) 0 32 32=vB zd false:=by
  rw [Vk,o2]; rfl
 have e0:lowL (renQ (H.length+2)) (bgH H d m 0) [.row (H.length+2) 0 32 32,.row (H.length+3) 0 32 32]=[vB zd false,.row (H.length+3) 0 32 32]:=by
  simp [lowL,low,renQ,r1]
 rw [bgH,Zm1,← bgH]
 simp [frzO,List.mapIdx_cons,bgM]
 exact e0
theorem Zys (H:AH) (d m:Nat):frz (bgM H d m) (H.length+3) (H.length+4)=bgF H d m:=by
 have o2:obj (bgM H d m) (H.length+3)=⟨bs (Ro 32),1,true⟩:=by rw [bgM,Y2]; rfl
 have r1:Vk (bgM H d m) (H.length+3) 0 32 32=vB (Ro 32) false:=by
  rw [Vk,o2]; rfl
 have e0:lowL (renQ (H.length+3)) (bgM H d m) [vB zd false,.row (H.length+3) 0 32 32]=[vB zd false,vB (Ro 32) false]:=by
  simp [lowL,low,renQ,r1,vB]
 rw [bgM,Zm1,← bgM]
 simp [frzO,List.mapIdx_cons,bgF]
 exact e0
theorem Zol (q p d m:Nat) (x:UInt8) (H:AH) (h:p≠q):lowL (renQ q) H [.ptr p 0,.view [vB [x] true,vB (beN 32 d) false,vB (beN 32 m) false] 3 true]=[.ptr p 0,.view [vB [x] true,vB (beN 32 d) false,vB (beN 32 m) false] 3 true]:=by
 simp [lowL,low,renQ,h]
theorem Zsr (H:AH) (d m:Nat):Called Tryz.prog F.nonce_source_mix [.ptr (H.length+4) 0,.view [vB [0] true,vB (beN 32 d) false,vB (beN 32 m) false] 3 true] (bgH H d m 0) (.tup []) (bgH H d m 1):=by
 have hs:SrcV (bgF H d m) (H.length+4) zd (Ro 32):=⟨by simp [bgF],by rw [bgF,Y2]; rfl,rfl,rfl⟩
 have h:=Zut (d:=d) (m:=m) 0 hs
 have e:setO (bgF H d m) (H.length+4) [vB (mixS zd (Ro 32) (0::text d m)).1 false,vB (mixS zd (Ro 32) (0::text d m)).2 false]=bgH H d m 1:=by
  rw [bgF,Mc]; rfl
 rw [e,← Zys,← Zol (H.length+3) (H.length+4) d m 0 (bgM H d m) (by omega)] at h
 have h2:=Called.freeze (by rw [bgM,Y2]; rfl) h
 rw [← Zyt,← Zol (H.length+2) (H.length+4) d m 0 (bgH H d m 0) (by omega)] at h2
 exact Called.freeze (by rw [bgH,Y2]; rfl) h2
theorem Zv4 {H:AH} {d m:Nat} (hd:d<(18446744073709551616:Nat)^4) (hm:m<(18446744073709551616:Nat)^4):Called Tryz.prog F.nonce_begin [.agg (num d),.agg (num m)] H (.ptr H.length 0) (H++[⟨[vB (Nd d m).1 false,vB (Nd d m).2 false],0,true⟩]):=by
 have n4:∀ a,(num a).length=4:=fun a => Zb _ _
 have ne:∀ n,(num n).isEmpty=false:=fun n => rfl
 have tn:∀ a,(num a).take 4=num a:=fun a => List.take_of_length_le (by rw [n4]; exact Nat.le_refl _)
 have el0:elt [u8 0,u8 1] 1 0=[u8 0]:=rfl
 have el1:elt [u8 0,u8 1] 1 1=[u8 1]:=rfl
 refine Cw ?_
 have x1:H.length+2+1=H.length+3:=rfl
 have x2:H.length+2+2=H.length+4:=rfl
 simp only [Na,go_sem,Zg,ne,x1,x2,Zq,fillv]
 refine ⟨by refine ⟨trivial,trivial,?_⟩; decide,by refine ⟨trivial,trivial,?_⟩; decide,?_⟩
 refine Z4 _ (fun (i:Nat) => ([(2,.ptr H.length 0),(3,.ptr (H.length+1) 0),(5,.ptr (H.length+4) 0),(17,I 32),(18,I i)],H++[⟨num d,0,true⟩,⟨num m,0,true⟩,⟨z32B,1,true⟩,⟨bs (Ro i),1,true⟩,⟨[.row (H.length+2) 0 32 32,.row (H.length+3) 0 32 32],0,true⟩])) (fun i => i≤32) (fun i => 32 - i) 0 (Nat.zero_le _) rfl ?_
 intro i hi
 have ol:=Zlg hi
 have obl:(bs (Ro i)).length=32:=by rw [Zt,ol]
 simp only [go_sem]
 refine ⟨fun hh => ?_,fun hh => ?_⟩
 ·have hlt:i<32:=by omega
  have w1:IntKind.i64.wrap ((i:Int)+1)=((i+1:Nat):Int):=by rw [w64 _ (by omega) (by omega)]; omega
  simp only [go_sem,obl,w1]
  refine ⟨⟨by omega,by omega⟩,by omega,i+1,rfl,?_,by omega,by omega⟩
  rw [← Zlf hlt]; rfl
 ·obtain rfl:i=32:=by omega
  refine Z4 _ (fun (i:Nat) => ([(2,.ptr H.length 0),(3,.ptr (H.length+1) 0),(5,.ptr (H.length+4) 0),(28,.view [u8 0,u8 1] 2 true),(29,I 2),(30,I i)],bgH H d m i)) (fun i => i≤2) (fun i => 2 - i) 0 (Nat.zero_le _) rfl ?_
  intro i hi
  simp only [go_sem]
  refine ⟨fun hh => ?_,fun hh => ?_⟩
  ·have hlt:i<2:=by omega
   match i,hlt with
   | 0,_ =>
    simp only [bgH,go_sem,el0,n4,tn]
    refine ⟨by decide,Za (N9 hd) (fun h => by cases h) ?_⟩
    simp only [go_sem,n4,tn,Zg]
    refine Za (N9 hm) (fun h => by cases h) ?_
    simp only [go_sem,Zq,fillv]
    refine ⟨by rw [Y1,Y1]; rfl,Za (Zsr H d m) (fun h => by cases h) ?_⟩
    simp only [go_sem]
    exact ⟨1,rfl,rfl,by omega,by omega⟩
   | 1,_ =>
    simp only [bgH,go_sem,el1,n4,tn]
    refine ⟨⟨by decide,by decide⟩,Za (N9 hd) (fun h => by cases h) ?_⟩
    simp only [go_sem,n4,tn,Zg]
    refine Za (N9 hm) (fun h => by cases h) ?_
    simp only [go_sem,Zq,fillv]
    refine ⟨by rw [Y1,Y1]; rfl,Za (Zut (d:=d) (m:=m) 1 (Z3m H d m 0)) (fun h => by cases h) ?_⟩
    have e:setO (bgH H d m (0+1)) (H.length+4) [vB (mixS (bgS d m (0+1)).1 (bgS d m (0+1)).2 (1::text d m)).1 false,vB (mixS (bgS d m (0+1)).1 (bgS d m (0+1)).2 (1::text d m)).2 false]=bgH H d m 2:=by
     rw [bgH,Mc]; rfl
    simp only [go_sem]
    exact ⟨2,rfl,rfl,by omega,by omega⟩
  ·obtain rfl:i=2:=by omega
   simp only [bgH]
   refine Oc [4] (by decide) (by simp) ?_ ?_
   ·simp [low,Dy,List.idxOf?_cons]
   ·simp [Wu,lowL,low,vB,obj]
    rw [Z5k]
    exact ⟨⟨rfl,rfl⟩,rfl,rfl⟩
def GRs (sz:Nat) (H:AH) (x:AV) (vs:List AV) (n:Nat):Prop :=
 (x=nilS∧vs=[]∧n=0)∨∃ q L cs,x=.row q 0 n L∧q<H.length∧obj H q=⟨cs,sz,true⟩∧L=cs.length∧vs.length=n*sz∧n*sz≤L∧cs.take (n*sz)=vs
section
variable {sz n:Nat} {H H':AH} {x s:AV} {vs ws:List AV} {b:Nat}
theorem GRs.frame (h:GRs sz H x vs n) {S:Nat→Prop} (hf:Fr H H' S) (hs:∀ q,rid x=some q→¬ S q):GRs sz H' x vs n:=by
 rcases h with h | ⟨q,L,cs,rfl,h1,h2,h3⟩
 ·exact .inl h
 ·exact .inr ⟨q,L,cs,rfl,Nat.lt_of_lt_of_le h1 hf.1,(hf.2 q h1 (hs q rfl)).trans h2,h3⟩
theorem GRs.sl (h:GRs sz H x vs n):Sl sz H x vs n:=by
 rcases h with ⟨rfl,rfl,rfl⟩ | ⟨q,L,cs,rfl,h1,h2,h3,h4,h5,h6⟩
 ·exact .nil
 ·exact .row h1 (by rw [h2,h3]) (by omega) (by rw [h2]; simpa using h6) (.inl (by rw [h2]))
theorem GRs.lt (h:GRs sz H x vs n) {q:Nat} (hq:rid x=some q):q<H.length:=by
 rcases h with ⟨rfl,rfl,_⟩ | ⟨q',L,cs,rfl,h1,_⟩
 ·cases hq
 ·cases hq; exact h1
theorem GRs.app (h:GRs sz H x vs n) (h1:Wy sz H s) (h2:srcC sz H s=ws) (h3:srcN s=1) (h4:ws.length=sz) (hv:ws.all AV.one=true) (hb:(n+1)*b≤140737488355328) :
  Ow sz b H x s∧GRs sz (appH sz H s x) (appV sz H s x) (vs++ws) (n+1)∧New H x (appV sz H s x)∧Fr H (appH sz H s x) (fun i => rid x=some i):=by
 have hs:(n+1)*sz=n*sz+sz:=Nat.succ_mul n sz
 rcases h with ⟨rfl,rfl,rfl⟩ | ⟨q,L,cs,rfl,g1,g2,g3,g0,g4,g5⟩
 ·refine ⟨⟨h1,by rw [h2]; exact hv,by rw [h3]; simpa [srcN] using hb,trivial⟩,?_,?_,?_⟩
  ·rw [V9,Ub,h2,h3]
   exact .inr ⟨H.length,ws.length,ws,rfl,by simp,by rw [Z7]; rfl,rfl,by rw [List.nil_append,h4]; omega,by rw [h4]; omega,List.take_of_length_le (by rw [h4]; omega)⟩
  ·intro q hq; rw [V9] at hq; cases hq; exact .inr (Nat.le_refl _)
  ·rw [Ub]; exact Fr.app _ _ _
 ·refine ⟨⟨h1,by rw [h2]; exact hv,by rw [h3]; exact hb,g1,by rw [g2,g3],by rw [g2],by rw [g2],by omega,.inl rfl⟩,?_,?_,?_⟩
  ·rw [V8,Ua,h2,h3,g2]
   refine .inr ⟨q,_,_,rfl,by rw [Zk]; exact g1,by rw [Yj _ _ g1,g2],?_,by rw [List.length_append,g0,h4]; omega,?_,?_⟩
   ·simp only [appL,appC,Nat.zero_add]
    split
    ·simp [g3]
    ·simp only [List.length_append,List.length_take,List.length_drop]; omega
   ·simp only [appL,Nat.zero_add]
    split <;> omega
   ·simp only [appC,Nat.zero_add]
    split
    ·rename_i hh
     have:cs=vs:=by rw [← g5,List.take_of_length_le (by omega)]
     subst this
     rw [List.take_of_length_le (by rw [List.length_append]; omega)]
    ·rw [g5,List.take_append_of_le_length (by rw [List.length_append]; omega),List.take_of_length_le (by rw [List.length_append]; omega)]
  ·intro q' hq; rw [V8] at hq; exact .inl hq
  ·rw [Ua]; exact Fr.set _ _ rfl
theorem GRs.step {K:AH} (h:GRs sz (H++K) x vs n) (hq:∀ q,rid x=some q→H.length≤q) (h1:Wy sz (H++K) s) (h2:srcC sz (H++K) s=ws) (h3:srcN s=1) (h4:ws.length=sz) (hv:ws.all AV.one=true) (hb:(n+1)*b≤140737488355328) :
  Ow sz b (H++K) x s∧∃ K',appH sz (H++K) s x=H++K'∧GRs sz (H++K') (appV sz (H++K) s x) (vs++ws) (n+1)∧∀ q,rid (appV sz (H++K) s x)=some q→H.length≤q:=by
 obtain ⟨a1,a2,a3,a4⟩:=h.app (b:=b) h1 h2 h3 h4 hv hb
 have f1:Fr H (H++K) (fun i => rid x=some i):=Fr.app _ _ _
 have f2:Fr H (appH sz (H++K) s x) (fun _ => False):=(f1.trans a4).mono fun i hi h => by have:=hq i h; omega
 obtain ⟨K',e⟩:=f2.split fun _ h => h
 refine ⟨a1,K',e,e ▸ a2,fun q h => ?_⟩
 rcases a3 q h with h | h
 ·exact hq q h
 ·rw [List.length_append] at h; omega
theorem GRs.more {K:AH} (h:GRs sz (H++K) x vs n) (o:AObj):GRs sz (H++(K++[o])) x vs n:=by
 rw [← List.append_assoc]
 exact h.frame (Fr.app _ _ (fun _ => False)) fun _ _ h => h
theorem GRs.view {K:AH} (hz:0<sz) (h:GRs sz (H++K) x vs n) (hq:∀ q,rid x=some q→H.length≤q) (hp:Yg vs=true):Le (low (renk H.length []) (H++K) x) (.view vs n false):=by
 rcases h with ⟨rfl,rfl,rfl⟩ | ⟨q,L,cs,rfl,h1,h2,h3,h0,h4,h5⟩
 ·exact O0 false
 ·have h6:=hq q rfl
  have e:renk H.length [] q=none:=by
   rw [renk,if_neg (by omega)]; rfl
  have e2:low (renk H.length []) (H++K) (.row q 0 n L)=.view vs n false:=by
   simp only [low,e,Vk,h2,if_neg (show ¬ sz=0 by omega),List.drop_zero,h5]
   rw [if_pos ⟨h3,by omega,hp⟩]
  rw [e2]; exact Le.refl _
end
set_option maxRecDepth 10000
theorem Zto {H:AH} {a:Nat} (ha:a<(18446744073709551616:Nat)^4):Called Tryz.prog F.nonce_may [.agg (num a)] H (Bl (Xa a)) H:=by
 have hN:(115792089210356248762697446949407573529996955224135760342422259061068512044369:Nat)<(18446744073709551616:Nat)^4:=mo_N.lt
 have e0:[Z0,Z0,Z0,Z0]=num 0:=rfl
 refine Zc2 ?_
 simp only [Jr,go_sem,Zg,Yf,Zd,Zb,Zq,fillv,e0,E9,Da ha (show 0<(18446744073709551616:Nat)^4 by decide)]
 refine Zs (fun _ => t_N) ?_
 simp only [go_sem]
 refine Zs (fun _ => I0 ha hN) ?_
 simp only [go_sem]
 refine Zc ?_
 have e:decide (cmpN a (115792089210356248762697446949407573529996955224135760342422259061068512044369:Nat)<0)=Nat.blt a (115792089210356248762697446949407573529996955224135760342422259061068512044369:Nat):=by
  rw [Bool.eq_iff_iff,decide_eq_true_eq,Nat.blt_eq]
  unfold cmpN; split <;> (try split) <;> omega
 simp only [low,Xa,e]
 rfl
theorem Zee (d m i:Nat):(srcS d m i).1.length=32∧(srcS d m i).2.length=32:=by
 cases i with
 | zero => exact ⟨V6 _ _,V6 _ _⟩
 | succ i => exact ⟨V6 _ _,V6 _ _⟩
abbrev ncs (l:List Nat):List AV:=l.flatMap num
def Zhl (d m many:Nat):AV:=if (Xi d m many 100).length<many then .tup [nilS,.lit (.iface T.api_Code (.int .i64 4))] else .tup [.view (ncs (Xi d m many 100)) (Xi d m many 100).length false,nilE]
theorem E7 (d m many:Nat) {i:Nat} (h:(Xi d m many i).length=many):∀ k,Xi d m many (i+k)=Xi d m many i
 | 0 => rfl
 | k+1 => by
  have ih:=E7 d m many h k
  show Xi d m many (i+k+1)=_
  rw [Xi,ih,if_pos h]
set_option maxRecDepth 10000
theorem Zlt (l:List Nat):(ncs l).length=l.length*4:=by
 induction l with
 | nil => rfl
 | cons a r ih => rw [ncs,List.flatMap_cons,List.length_append,Zb,List.length_cons]; rw [ncs] at ih; omega
theorem Zqz (l:List Nat) (a:Nat):ncs (l++[a])=ncs l++num a:=by simp [ncs]
theorem Ze5 (l:List Nat):Yg (ncs l)=true:=Mj fun a ha => by
 rw [ncs,List.mem_flatMap] at ha
 obtain ⟨n,_,hn⟩:=ha
 obtain ⟨i,_,rfl⟩:=List.mem_map.1 hn
 rfl
theorem Zvu {H:AH} {d:Nat} {h:List UInt8} {many:Nat} (hd:d<(18446744073709551616:Nat)^4) (hh:h.length=32) (hm:many≤16):Called Tryz.prog F.nonce_List [.agg (num d),.agg (bs h),I many] H (if Xa d then Zhl d (be h%(115792089210356248762697446949407573529996955224135760342422259061068512044369:Nat)) many else .tup [nilS,errA 1]) H:=by
 have bl:(bs h).length=32:=by rw [Zt,hh]
 have ne:(bs h).isEmpty=false:=by
  cases hh:bs h with
  | nil => rw [hh] at bl; cases bl
  | cons => rfl
 refine A8 ?_
 simp only [M9,go_sem,Zg,Yf,Yz,ne]
 refine Za t_N (fun _ => rfl) ?_
 simp only [go_sem]
 refine Za (Zpp mo_N) (fun h => by cases h) ?_
 simp only [go_sem,Zd,Zb]
 refine Zs (fun _ => Zto hd) ?_
 simp only [go_sem]
 have hN:(115792089210356248762697446949407573529996955224135760342422259061068512044369:Nat)<(18446744073709551616:Nat)^4:=mo_N.lt
 refine ⟨fun hb => ?_,fun hb => ?_⟩
 ·have hb:Xa d=false:=by
   cases hc:Xa d
   ·rfl
   ·rw [hc] at hb
    have h1:decide ((many:Int)<0)=false:=by rw [decide_eq_false_iff_not]; omega
    have h2:decide ((16:Int)<(many:Int))=false:=by rw [decide_eq_false_iff_not]; omega
    rw [h1,h2] at hb; cases hb
  rw [hb]
  exact Zc rfl
 ·have hb:Xa d=true:=by
   cases hc:Xa d
   ·rw [hc] at hb; cases hb
   ·rfl
  rw [if_pos hb,bl]
  have hx:∀ G,Sl 1 (H++(⟨num d,0,true⟩::⟨bs h,0,true⟩::G)) (.row (H.length+1) 0 32 32) (bs h) h.length:=fun G => by
   have eo:obj (H++(⟨num d,0,true⟩::⟨bs h,0,true⟩::G)) (H.length+1)=⟨bs h,0,true⟩:=by rw [Y2]; rfl
   rw [hh]
   exact .row (by simp) (by rw [eo]; exact bl.symm) (by decide) (by rw [eo,List.drop_zero,List.take_of_length_le (by show (bs h).length≤_; omega)]) (.inr (by rw [eo]))
  have hbe:be h<(18446744073709551616:Nat)^4:=by have:=F5 h; rw [hh] at this; exact Nat.lt_of_lt_of_le this (by decide)
  refine ⟨by decide,Za (Zjt (hx _) (by omega)) (fun _ => rfl) ?_⟩
  have en:[Z0,Z0,Z0,Z0]=num 0:=rfl
  simp only [go_sem,Zg,Yf,Zd,Zb,Ze,en,Zq,fillv]
  have n4:∀ a,(num a).length=4:=fun a => Zb _ _
  have sn4:∀ a b,splice (num a) 0 (num b)=num b:=fun a b => Zu (by rw [n4,n4])
  have tn:∀ a,(num a).take 4=num a:=fun a => List.take_of_length_le (by rw [n4]; exact Nat.le_refl _)
  simp only [sn4,tn,n4]
  have hF:∀ G,FF (H++(⟨num d,0,true⟩::⟨bs h,0,true⟩::⟨fcells (115792089210356248762697446949407573529996955224135760342422259061068512044369:Nat),0,true⟩::G)) (H.length+2) (115792089210356248762697446949407573529996955224135760342422259061068512044369:Nat):=fun G => ⟨by simp,by simp only [go_sem]⟩
  refine ⟨Nat.le_refl _,Za (Bh (hF _).fd hN (by decide) hbe (show 0<(18446744073709551616:Nat)^4 by decide)) (fun _ => rfl) ?_⟩
  have ef:fadd (115792089210356248762697446949407573529996955224135760342422259061068512044369:Nat) (be h) 0=be h%(115792089210356248762697446949407573529996955224135760342422259061068512044369:Nat):=by rw [fadd,Nat.add_zero]
  rw [ef]
  have hm2:be h%(115792089210356248762697446949407573529996955224135760342422259061068512044369:Nat)<(18446744073709551616:Nat)^4:=Nat.lt_trans (Nat.mod_lt _ (by decide)) hN
  generalize be h%(115792089210356248762697446949407573529996955224135760342422259061068512044369:Nat)=m at hm2 ⊢
  simp only [go_sem]
  refine Za (Zv4 hd hm2) (fun h => by cases h) ?_
  simp only [go_sem]
  obtain ⟨S5,hS5⟩:∃ S5:Nat→AH,∀ i,S5 i=H++[⟨num d,0,true⟩,⟨bs h,0,true⟩,⟨fcells (115792089210356248762697446949407573529996955224135760342422259061068512044369:Nat),0,true⟩,⟨num (be h),0,true⟩,⟨[vB (srcS d m i).1 false,vB (srcS d m i).2 false],0,true⟩]:=⟨_,fun _ => rfl⟩
  have sl:∀ i,(S5 i).length=H.length+5:=fun i => by rw [hS5]; simp
  have so:∀ i G,SrcV (S5 i++G) (H.length+4) (srcS d m i).1 (srcS d m i).2:=fun i G => SrcV.app ⟨by rw [sl]; omega,by rw [hS5,Y2]; rfl,(Zee d m i).1,(Zee d m i).2⟩
  have sn:∀ i G,setO (S5 i++G) (H.length+4) [vB (srcS d m (i+1)).1 false,vB (srcS d m (i+1)).2 false]=S5 (i+1)++G:=fun i G => by
   rw [U2 _ _ _ (by rw [sl]; omega),hS5,hS5,Mc]; rfl
  have sf:∀ i G,Fr (S5 i++G) (S5 (i+1)++G) (fun j => j=H.length+4):=fun i G => by rw [← sn]; exact Fr.set _ _ rfl
  have s0:H++[⟨num d,0,true⟩,⟨bs h,0,true⟩,⟨fcells (115792089210356248762697446949407573529996955224135760342422259061068512044369:Nat),0,true⟩,⟨num (be h),0,true⟩,⟨[vB (Nd d m).1 false,vB (Nd d m).2 false],0,true⟩]=S5 0++[]:=by rw [hS5,List.append_nil]; rfl
  rw [s0]
  have drop:∀ i G,∃ K,S5 i++G=H++K:=fun i G => by rw [hS5,List.append_assoc]; exact ⟨_,rfl⟩
  clear hS5 s0
  refine Z4 _ (fun (s:Nat × AV × AH) => ([(2,I many),(12,.ptr (H.length+4) 0),(13,s.2.1),(47,I s.1)],S5 s.1++s.2.2))
   (fun s => s.1≤100∧GRs 4 (S5 s.1++s.2.2) s.2.1 (ncs (Xi d m many s.1)) (Xi d m many s.1).length∧∀ q,rid s.2.1=some q→H.length+5≤q) (fun s => 100 - s.1) (0,nilS,[]) ⟨by decide,.inl ⟨rfl,rfl,rfl⟩,fun q h => by cases h⟩ rfl ?_
  rintro ⟨i,y,G⟩ ⟨hi,hg,hq⟩
  simp only at hi hg hq
  simp only [go_sem]
  have fin:∀ i y G,GRs 4 (S5 i++G) y (ncs (Xi d m many i)) (Xi d m many i).length→(∀ q,rid y=some q→H.length+5≤q)→Xi d m many i=Xi d m many 100 →
    (((Xi d m many i).length:Int)<(many:Int)→Leave H (AV.tup [nilS,errA 4]) (S5 i++G) (Zhl d m many) H)∧(¬((Xi d m many i).length:Int)<(many:Int)→Leave H (AV.tup [y,nilE]) (S5 i++G) (Zhl d m many) H):=fun i y G hg hq he => by
   obtain ⟨K,hK⟩:=drop i G
   rw [hK] at hg ⊢
   rw [he] at hg ⊢
   refine ⟨fun hh => ?_,fun hh => ?_⟩
   ·rw [Zhl,if_pos (by omega)]
    exact Zc rfl
   ·rw [Zhl,if_neg (by omega)]
    exact U3 (Ce ⟨hg.view (by decide) (fun q h => by have:=hq q h; omega) (Ze5 _),Le.refl _,trivial⟩)
  refine ⟨fun hh => ?_,fun hh => ?_⟩
  ·simp only [go_sem,hg.sl.s]
   refine ⟨fun hm' => ?_,fun hm' => ?_⟩
   ·have hm':(Xi d m many i).length=many:=by have:=eq_of_beq hm'; omega
    refine fin i y G hg hq ?_
    have:=E7 d m many hm' (100 - i)
    rw [show i+(100 - i)=100 by omega] at this
    exact this.symm
   ·have hm':¬ (Xi d m many i).length=many:=fun e => by rw [e,beq_self_eq_true] at hm'; cases hm'
    refine Za (v:=.agg (num (numS d m i))) (H':=S5 (i+1)++G) (by have:=Z0s (so i G); rw [← sn]; exact this) (fun h => by cases h) ?_
    have nb:numS d m i<(18446744073709551616:Nat)^4:=by
     have:=F5 (hmac (srcS d m i).1 (srcS d m i).2)
     rw [V6] at this
     exact Nat.lt_of_lt_of_le this (by decide)
    have hg2:=hg.frame (sf i G) (fun q h => by have:=hq q h; omega)
    have hcs:Xi d m many (i+1)=if Xa (numS d m i) then Xi d m many i++[numS d m i] else Xi d m many i:=by rw [Xi,if_neg hm']
    generalize numS d m i=a at nb hcs ⊢
    simp only [go_sem,Zd,Zb,Zg,Ze,n4,en,sn4,tn]
    refine Za (Zto nb) (fun _ => rfl) ?_
    simp only [go_sem,n4,Zg,tn,en,sn4]
    refine ⟨fun hc => ?_,fun hc => ?_⟩
    ·rw [hc,if_pos rfl] at hcs
     have hg3:GRs 4 (S5 (i+1)++(G++[⟨num a,0,true⟩])) y (ncs (Xi d m many i)) (Xi d m many i).length:=hg2.more _
     have cl:=Fb d m many i
     obtain ⟨⟨c1,c2,c3,c4⟩,K',e1,g2,g3⟩:=hg3.step (b:=32) (s:=.view (num a) 1 true) (ws:=num a) (fun q h => by have:=hq q h; rw [sl]; omega) (by show (num a).length=1*4; rw [n4]) rfl rfl (n4 a) (Zg 4 a) (by omega)
     refine ⟨by have:=Ze5 [a]; rw [ncs,List.flatMap_cons,List.flatMap_nil,List.append_nil] at this; exact this,⟨c3,c4⟩,(i+1,_,K'),?_,e1,⟨by show i+1≤_; omega,?_,fun q h => by have:=g3 q h; rw [sl] at this; omega⟩,by show _ - (i+1)<_; omega⟩
     ·rw [w64 _ (by omega) (by omega)]; rfl
     ·show GRs 4 (S5 (i+1)++K') (appV 4 (S5 (i+1)++(G++[⟨num a,0,true⟩])) (AV.view (num a) 1 true) y) (ncs (Xi d m many (i+1))) (Xi d m many (i+1)).length
      rw [hcs,Zqz,List.length_append]; exact g2
    ·rw [hc] at hcs
     have hcs:Xi d m many (i+1)=Xi d m many i:=hcs
     refine ⟨(i+1,y,G++[⟨num a,0,true⟩]),?_,rfl,⟨by show i+1≤_; omega,?_,hq⟩,by show _ - (i+1)<_; omega⟩
     ·rw [w64 _ (by omega) (by omega)]; rfl
     ·show GRs 4 (S5 (i+1)++(G++[⟨num a,0,true⟩])) _ (ncs (Xi d m many (i+1))) _
      rw [hcs]; exact hg2.more _
  ·simp only [go_sem,hg.sl.s]
   exact fin i y G hg hq (by rw [show i=100 by omega])
set_option maxRecDepth 10000
theorem Ht {a:Nat} (h:Xa a=true):a<(18446744073709551616:Nat)^4:=Nat.lt_trans ((Ms a).1 h).2 mo_N.lt
theorem D8 (x y:Nat) (f:Bool):splice (pcell 0 0 false) 0 (pcell x y f)=pcell x y f:=Zu (by rw [Z5,Z5])
theorem Zpy {H:AH} {d:Nat} (hd:d<(18446744073709551616:Nat)^4):Called Tryz.prog F.sign_Public [.agg (num d)] H (if Xa d then .tup [.agg (ptc (mulA d Wt)),nilE] else .tup [.agg (pcell 0 0 false),errA 1]) H:=by
 refine Cq ?_
 simp only [O4,go_sem,Zg,Yf,Zd,Zb,Zq,fillv]
 refine Za (Zf9 hd) (fun _ => rfl) ?_
 have ez:[Z0,Z0,Z0,Z0,Z0,Z0,Z0,Z0,Bl false]=pcell 0 0 false:=rfl
 simp only [go_sem,Zg,Yf,Zd,Zb,Zq,fillv,ez,Ye,Z5,Xh,D8]
 refine ⟨fun hb => ?_,fun hb => ?_⟩
 ·have hb:Xa d=false:=by simpa using hb
  rw [hb]
  exact Zc rfl
 ·have hb:Xa d=true:=by simpa using hb
  rw [if_pos hb]
  refine Za Zd9 (fun _ => rfl) ?_
  simp only [go_sem,Zg,Yf,Zd,Zb,Ye,Z5,Xh,D8]
  refine Za (Zd3 hd (by decide) (by decide) Fe) (fun _ => rfl) ?_
  rw [show toA (48439561293906451759052585252797914202762949526041747995844080717082404635286:Nat) (36134250956749795798585127919587881956611106672985015071877198253568414405109:Nat) false=Wt from rfl]
  generalize mulA d Wt=A
  simp only [go_sem,ptc,Ye,Z5,Xh,D8]
  exact Zc rfl
theorem Zki (a c r:Nat):splice (sgc a c) 0 (num r)=sgc r c:=by
 show (num a++num c).take 0++num r++(num a++num c).drop (0+(num r).length)=_
 rw [Zb,List.take_zero,List.nil_append,Nat.zero_add,List.drop_left' (Zb 4 a)]
theorem Zkh (a c s:Nat):splice (sgc a c) 4 (num s)=sgc a s:=by
 show (num a++num c).take 4++num s++(num a++num c).drop (4+(num s).length)=_
 rw [Zb,List.take_left' (Zb 4 a),List.drop_of_length_le (by rw [List.length_append,Zb,Zb]; decide),List.append_nil]
theorem Z0i {H:AH} {p d k m:Nat} (hF:FF H p (115792089210356248762697446949407573529996955224135760342422259061068512044369:Nat)) (hd:d<(18446744073709551616:Nat)^4) (hk:Xa k=true) (hm:m<(18446744073709551616:Nat)^4):Called Tryz.prog F.sign_with [.ptr p 0,.agg (num d),.agg (num k),.agg (num m)] H (.tup [.agg (sgc (rOf k) (sOf d k m)),Bl (Oo d m k)]) H:=by
 have hN:(115792089210356248762697446949407573529996955224135760342422259061068512044369:Nat)<(18446744073709551616:Nat)^4:=mo_N.lt
 have hN0:0<(115792089210356248762697446949407573529996955224135760342422259061068512044369:Nat):=by decide
 have hk4:=Ht hk
 have ks:=(Ms k).1 hk
 have kg:Nat.gcd (k%(115792089210356248762697446949407573529996955224135760342422259061068512044369:Nat)) (115792089210356248762697446949407573529996955224135760342422259061068512044369:Nat)=1:=He (p:=(115792089210356248762697446949407573529996955224135760342422259061068512044369:Nat)) Zqm (by rw [Nat.mod_mod,Nat.mod_eq_of_lt ks.2]; omega)
 have ti:=fun G => Zvx (H:=H++G) (hF.app (G:=G)).fd hN mo_N.gt mo_N.odd hk4
 rw [if_pos kg,Nat.mod_eq_of_lt ks.2] at ti
 have ki:minv (115792089210356248762697446949407573529996955224135760342422259061068512044369:Nat) k<(18446744073709551616:Nat)^4:=by
  obtain ⟨y,h1,h2⟩:=D4 (p:=(115792089210356248762697446949407573529996955224135760342422259061068512044369:Nat)) Zqm ks.1 ks.2
  rw [Kr h1 h2]; exact Nat.lt_trans h1 hN
 have ez:[Z0,Z0,Z0,Z0,Z0,Z0,Z0,Z0,Bl false]=pcell 0 0 false:=rfl
 have e8:[Z0,Z0,Z0,Z0,Z0,Z0,Z0,Z0]=sgc 0 0:=rfl
 have e4:[Z0,Z0,Z0,Z0]=num 0:=rfl
 have n4:∀ a,(num a).length=4:=fun a => Zb _ _
 have sn:∀ a b,splice (num a) 0 (num b)=num b:=fun a b => Zu (by rw [n4,n4])
 refine Zcw ?_
 simp only [Jl,go_sem,Zg,Yf,Zd,n4]
 have tb:=fun G => Zd9 (H:=H++G)
 refine Za ⟨rfl,fun G => Zd9⟩ (fun _ => rfl) ?_
 simp only [go_sem,Zg,Yf,Zd,n4]
 refine Za ⟨rfl,fun G => Zd3 hk4 (by decide) (by decide) Fe⟩ (fun _ => rfl) ?_
 rw [show toA (48439561293906451759052585252797914202762949526041747995844080717082404635286:Nat) (36134250956749795798585127919587881956611106672985015071877198253568414405109:Nat) false=Wt from rfl]
 have on1:=(Ca (k:=k) (F6 Fe).1).2
 rw [show toA (48439561293906451759052585252797914202762949526041747995844080717082404635286:Nat) (36134250956749795798585127919587881956611106672985015071877198253568414405109:Nat) false=Wt from rfl] at on1
 have er:rOf k=(mulA k Wt).x%(115792089210356248762697446949407573529996955224135760342422259061068512044369:Nat):=rfl
 have es:sOf d k m=fmul (115792089210356248762697446949407573529996955224135760342422259061068512044369:Nat) (minv (115792089210356248762697446949407573529996955224135760342422259061068512044369:Nat) k) (fadd (115792089210356248762697446949407573529996955224135760342422259061068512044369:Nat) m (fmul (115792089210356248762697446949407573529996955224135760342422259061068512044369:Nat) (rOf k) d)):=rfl
 rw [Oo,es]
 generalize rOf k=r at *
 generalize mulA k Wt=A at *
 obtain ⟨v1,v2,v3,v4⟩:=B4 on1
 simp only [go_sem,ptc,Zg,Yf,Zd,n4,ez,Ye,Z5,Xh,D8,pc_x]
 have e84:Z0::Z0::Z0::Z0::num 0=sgc 0 0:=rfl
 simp only [e4,e84]
 have hF':∀ G,FF (H++G) p (115792089210356248762697446949407573529996955224135760342422259061068512044369:Nat):=fun G => hF.app
 have ef:fadd (115792089210356248762697446949407573529996955224135760342422259061068512044369:Nat) A.x 0=A.x%(115792089210356248762697446949407573529996955224135760342422259061068512044369:Nat):=by rw [fadd,Nat.add_zero]
 have tf:=fun G => Bh (hF' G).fd hN hN0 v2 (show 0<(18446744073709551616:Nat)^4 by decide)
 rw [ef,← er] at tf
 refine Za (tf _) (fun _ => rfl) ?_
 have rlt:r<(18446744073709551616:Nat)^4:=by rw [er]; exact Nat.lt_trans (Nat.mod_lt _ hN0) hN
 clear tf ef er
 simp only [go_sem,Zg,Yf,Zd,n4,sn,e4]
 refine Za (ti _) (fun _ => rfl) ?_
 clear ti
 generalize minv (115792089210356248762697446949407573529996955224135760342422259061068512044369:Nat) k=t at *
 simp only [go_sem,Zg,Yf,Zd,n4,sn,e4]
 refine Za ⟨rfl,fun G => Bg ((hF' _).app) mo_N rlt hd⟩ (fun _ => rfl) ?_
 have l1:fmul (115792089210356248762697446949407573529996955224135760342422259061068512044369:Nat) r d<(18446744073709551616:Nat)^4:=Nat.lt_trans (Zi hN0 r d) hN
 generalize fmul (115792089210356248762697446949407573529996955224135760342422259061068512044369:Nat) r d=a at *
 simp only [go_sem,Zg,Yf,Zd,n4,sn,e4]
 refine Za ⟨rfl,fun G => Bh ((hF' _).app).fd hN hN0 hm l1⟩ (fun _ => rfl) ?_
 have l2:fadd (115792089210356248762697446949407573529996955224135760342422259061068512044369:Nat) m a<(18446744073709551616:Nat)^4:=Nat.lt_trans (Zn hN0 m a) hN
 generalize fadd (115792089210356248762697446949407573529996955224135760342422259061068512044369:Nat) m a=c at *
 simp only [go_sem,Zg,Yf,Zd,n4,sn,e4]
 refine Za ⟨rfl,fun G => Bg ((hF' _).app) mo_N ki l2⟩ (fun _ => rfl) ?_
 have l3:fmul (115792089210356248762697446949407573529996955224135760342422259061068512044369:Nat) t c<(18446744073709551616:Nat)^4:=Nat.lt_trans (Zi hN0 t c) hN
 generalize fmul (115792089210356248762697446949407573529996955224135760342422259061068512044369:Nat) t c=s at *
 simp only [go_sem,Zg,Yf,Zd,n4,sn,e4,e84,Zq,fillv,Zki,Zkh,Yo]
 refine Zs (fun _ => Zf9 rlt) ?_
 simp only [go_sem,Zd,n4]
 refine Zs (fun _ => Zf9 l3) ?_
 simp only [go_sem,Zg,Yf,Zd,n4,sn,e4,e84,Zq,fillv,Zki,Zkh,Yo,Yu,Yy]
 rw [Ya]
 generalize (Xa r&&Xa s)=b
 exact Zc (by simp only [low,lowL,Rs])
set_option maxRecDepth 10000
noncomputable def sigV:Option (Nat × Nat)→AV
 | some (r,s) => .tup [.agg (sgc r s),nilE]
 | none => .tup [.agg (sgc 0 0),errA 4]
theorem Zgk (d:Nat) (h:List UInt8):Kc d h=if (Xi d (be h%(115792089210356248762697446949407573529996955224135760342422259061068512044369:Nat)) 16 100).length<16 then none else ((Xi d (be h%(115792089210356248762697446949407573529996955224135760342422259061068512044369:Nat)) 16 100).find? (Oo d (be h))).map fun k => (rOf k,sOf d k (be h)):=by
 have e:∀ k,sOf d k (be h%(115792089210356248762697446949407573529996955224135760342422259061068512044369:Nat))=sOf d k (be h):=fun k => by
  rw [sOf,sOf]; congr 1
  rw [fadd,fadd,Nat.mod_add_mod]
 have e2:Oo d (be h%(115792089210356248762697446949407573529996955224135760342422259061068512044369:Nat))=Oo d (be h):=funext fun k => by rw [Oo,Oo,e]
 rw [Kc,e2]
 simp only [e]
theorem Zxc (l:List Nat) {i:Nat} (h:i<l.length):elt (ncs l) 4 i=num (l.getD i 0):=V7 num 4 (fun a => Zb 4 a) l i 0 h
theorem Znd {q:Nat→Bool}:∀ {l:List Nat} {i:Nat},i<l.length→(∀ j,j<i→q (l.getD j 0)=false)→q (l.getD i 0)=true→l.find? q=some (l.getD i 0)
 | [],i,hi,_,_ => by cases hi
 | a::r,0,_,_,h => by
  have h:q a=true:=h
  rw [List.find?_cons_of_pos h]; rfl
 | a::r,i+1,hi,hj,h => by
  have h0:q a=false:=hj 0 (by omega)
  rw [List.find?_cons_of_neg (by rw [h0]; decide)]
  exact Znd (l:=r) (by simpa using hi) (fun j hh => hj (j+1) (by omega)) h
theorem Znc {q:Nat→Bool}:∀ {l:List Nat},(∀ j,j<l.length→q (l.getD j 0)=false)→l.find? q=none
 | [],_ => rfl
 | a::r,hj => by
  have h0:q a=false:=hj 0 (by simp)
  rw [List.find?_cons_of_neg (by rw [h0]; decide)]
  exact Znc (l:=r) fun j hh => hj (j+1) (by simpa using hh)
theorem Z05 {H:AH} {d:Nat} {h:List UInt8} (hd:d<(18446744073709551616:Nat)^4) (hh:h.length=32):Called Tryz.prog F.sign_Sign [.agg (num d),.agg (bs h)] H (if Xa d then sigV (Kc d h) else .tup [.agg (sgc 0 0),errA 1]) H:=by
 have bl:(bs h).length=32:=by rw [Zt,hh]
 have ne:(bs h).isEmpty=false:=by
  cases hh:bs h with
  | nil => rw [hh] at bl; cases bl
  | cons => rfl
 have n4:∀ a,(num a).length=4:=fun a => Zb _ _
 have sn:∀ a b,splice (num a) 0 (num b)=num b:=fun a b => Zu (by rw [n4,n4])
 have bt:(bs h).take 32=bs h:=List.take_of_length_le (by omega)
 have e8:[Z0,Z0,Z0,Z0,Z0,Z0,Z0,Z0]=sgc 0 0:=rfl
 have e4:[Z0,Z0,Z0,Z0]=num 0:=rfl
 have e84:Z0::Z0::Z0::Z0::num 0=sgc 0 0:=rfl
 refine Zcx ?_
 simp only [Jm,go_sem,Zg,Yf,Yz,ne]
 refine Za t_N (fun _ => rfl) ?_
 simp only [go_sem]
 refine Za (Zpp mo_N) (fun h => by cases h) ?_
 simp only [go_sem,Zd,n4]
 refine Zs (fun _ => Zf9 hd) ?_
 simp only [go_sem,e4,e84,bl,bt,Zd,n4,Yu,Yy,Ya,Yo]
 refine ⟨fun hb => ?_,fun hb => ?_⟩
 ·have hb:Xa d=false:=by simpa using hb
  rw [hb]
  exact Zc (by simp only [low,lowL,Rs]; rfl)
 ·have hb:Xa d=true:=by simpa using hb
  rw [if_pos hb]
  refine Za (Zvu (many:=16) hd hh (by decide)) (fun _ => rfl) ?_
  rw [if_pos hb,Zhl,Zgk]
  have cm:=Lv d (be h%(115792089210356248762697446949407573529996955224135760342422259061068512044369:Nat)) 16 100
  have cl:=Fb d (be h%(115792089210356248762697446949407573529996955224135760342422259061068512044369:Nat)) 16 100
  generalize Xi d (be h%(115792089210356248762697446949407573529996955224135760342422259061068512044369:Nat)) 16 100=l at *
  by_cases hl:l.length<16
  ·rw [if_pos hl,if_pos hl]
   simp only [go_sem,e4,e84,bl,bt,Zd,n4,Yu,Yy,Ya,Yo]
   exact Zc (by simp only [low,lowL,Rs]; rfl)
  ·rw [if_neg hl,if_neg hl]
   simp only [go_sem,e4,e84,bl,bt,Zd,n4,Yu,Yy,Ya,Yo]
   have hv:∀ G,Sl 4 G (.view (ncs l) l.length false) (ncs l) l.length:=fun G => .view (Zlt l) _
   have hbe:be h<(18446744073709551616:Nat)^4:=by have:=F5 h; rw [hh] at this; exact Nat.lt_of_lt_of_le this (by decide)
   have hF:∀ G,FF (H++(⟨num d,0,true⟩::⟨bs h,0,true⟩::⟨sgc 0 0,0,true⟩::⟨fcells (115792089210356248762697446949407573529996955224135760342422259061068512044369:Nat),0,true⟩::G)) (H.length+3) (115792089210356248762697446949407573529996955224135760342422259061068512044369:Nat):=fun G => ⟨by simp,by simp only [go_sem]⟩
   refine Z4 _ (fun (s:Nat × AH) => ([(2,.ptr H.length 0),(3,.ptr (H.length+1) 0),(4,.ptr (H.length+2) 0),(6,.ptr (H.length+3) 0),(37,.view (ncs l) l.length false),(38,I l.length),(39,I s.1)],H++(⟨num d,0,true⟩::⟨bs h,0,true⟩::⟨sgc 0 0,0,true⟩::⟨fcells (115792089210356248762697446949407573529996955224135760342422259061068512044369:Nat),0,true⟩::s.2)))
    (fun s => s.1≤l.length∧∀ j,j<s.1→Oo d (be h) (l.getD j 0)=false) (fun s => l.length - s.1) (0,[]) ⟨Nat.zero_le _,fun j hj => by cases hj⟩ rfl ?_
   rintro ⟨i,G⟩ ⟨hi,hj⟩
   simp only at hi hj
   simp only [go_sem]
   refine ⟨fun hc => ?_,fun hc => ?_⟩
   ·have hlt:i<l.length:=by omega
    have hk:=cm _ (Tt hlt 0)
    have hgd:Oo d (be h) (l.getD i 0)=true→l.find? (Oo d (be h))=some (l.getD i 0):=Znd hlt hj
    have hj2:Oo d (be h) (l.getD i 0)=false→∀ j,j<i+1→Oo d (be h) (l.getD j 0)=false:=fun e j hh => by
     rcases Nat.lt_succ_iff_lt_or_eq.1 hh with h1 | rfl
     ·exact hj j h1
     ·exact e
    simp only [go_sem,(hv _).idx,(hv _).ldOk _ hlt (Nat.le_refl _),(hv _).ldA _ hlt,Zxc l hlt,Zd,n4,sn,Zg,bl,bt,e4]
    generalize l.getD i 0=k at *
    refine ⟨⟨by omega,by omega,Zlt l⟩,by omega,by omega,Za ⟨rfl,fun G => N8 hh⟩ (fun _ => rfl) ?_⟩
    simp only [go_sem,Zd,n4,sn,Zg,bl,bt,e4]
    refine Za ⟨rfl,fun G => Z0i ((hF _).app) hd hk hbe⟩ (fun _ => rfl) ?_
    have l4:=fun w => IntKind.i64.wrap w
    have w1:IntKind.i64.wrap ((i:Int)+1)=((i+1:Nat):Int):=by rw [w64 _ (by omega) (by omega)]; omega
    generalize Oo d (be h) k=b at *
    simp only [go_sem,Yu,Yy,Ya,Yo,e4,e84]
    refine ⟨fun hb => ?_,fun hb => ?_⟩
    ·rw [hgd hb]
     have es:sigV (Option.map (fun k => (rOf k,sOf d k (be h))) (some k))=.tup [.agg (sgc (rOf k) (sOf d k (be h))),nilE]:=rfl
     rw [es]
     generalize rOf k=r
     generalize sOf d k (be h)=s
     exact ⟨by omega,by omega,Zc (by simp only [low,lowL,Rs])⟩
    ·exact ⟨(i+1,G++[⟨num k,0,true⟩,⟨sgc (rOf k) (sOf d k (be h)),0,true⟩]),by rw [w1],rfl,⟨by show i+1≤_; omega,hj2 hb⟩,by show _ - (i+1)<_; omega⟩
   ·obtain rfl:i=l.length:=by omega
    rw [Znc hj]
    exact ⟨⟨by omega,by rw [n4]; decide⟩,by omega,Zc rfl⟩
end Go.Proofs.YtcgjlpdkobmpnaaGreat.Eng

