/- Layer 8: a number's bytes; fields' bytes: the program's walks. -/
import Derived.Test.YtgfploghjpbcaaaGreatMTk
namespace Go.Proofs.YtgfploghjpbcaaaGreat.Eng
open Go Go.Proofs
set_option linter.unusedVariables false
set_option linter.unusedSimpArgs false
set_option maxRecDepth 10000
theorem u8shn (n k:Nat):IntKind.u8.wrap ((n:Int).fdiv (2^(8*k)))=((UInt8.ofNat (n / 256^k)).toNat:Int):=by
 have e:(n:Int).fdiv (2^(8*k))=((n / 256^k:Nat):Int):=by
  rw [Int.fdiv_eq_ediv_of_nonneg _ (Int.le_of_lt (Int.pow_pos (by decide))),Int.natCast_ediv,Int.pow_mul]
  simp
 rw [e]
 simp only [IntKind.wrap,IntKind.bits,IntKind.signed]
 simp
def nb8 (n k:Nat):List AV:=bs ((beN 8 n).take k)++List.replicate (8 - k) (u8 0)
theorem nb8_8 (n:Nat):nb8 n 8=bs (beN 8 n):=by
 rw [nb8,List.take_of_length_le (by rw [beN_length]; exact Nat.le_refl _)]; exact List.append_nil _
theorem nb8_len (n:Nat) {k:Nat} (h:k≤8):(nb8 n k).length=8:=by rw [nb8,List.length_append,bs_len,List.length_take,beN_length,List.length_replicate]; omega
theorem nb8_set (n:Nat) {k:Nat} (h:k<8):(nb8 n k).set k (u8 (UInt8.ofNat (n / 256^(7 - k))))=nb8 n (k+1):=by
 have l:(bs ((beN 8 n).take k)).length=k:=by rw [bs_len,List.length_take,beN_length]; omega
 have e3:bs ((beN 8 n).take (k+1))=bs ((beN 8 n).take k)++[u8 (UInt8.ofNat (n / 256^(7 - k)))]:=by
  rw [take_snoc (by rw [beN_length]; omega) 0,bs,bs,List.map_append]
  congr 1
  rw [List.map_singleton,List.getD_eq_getElem?_getD,beN,List.getElem?_map,List.getElem?_range (by omega)]
  rfl
 rw [nb8,List.set_append_right _ _ (by rw [l]; exact Nat.le_refl _),l,Nat.sub_self,show 8 - k=(8 - (k+1))+1 by omega,List.replicate_succ,nb8,e3,List.append_assoc]
 rfl
theorem t_Number {H:AH} {n:Nat} (hn:n<9223372036854775808):Called Tryz.prog F.tlv_Number [I n] H (vB (beN 8 n) false) H:=by
 refine e_tlv_Number ?_
 simp only [ic_tlv_Number,go_sem]
 refine ⟨by refine ⟨trivial,trivial,?_⟩; decide,?_⟩
 refine w_loop _ (fun (k:Nat) => ([(0,I n),(3,.row H.length 0 8 8),(7,I 8),(8,I k)],H++[⟨nb8 n k,1,true⟩])) (fun k => k≤8) (fun k => 8 - k) 0 (by decide) rfl ?_
 intro k hk
 simp only [go_sem]
 refine ⟨fun h => ?_,fun h => ?_⟩
 ·have hk:k≤7:=by omega
  have e0:IntKind.u64.wrap (n:Int)=n:=wu64 _ (by omega) (by omega)
  have ea:IntKind.i64.wrap (7 - (k:Int))=((7 - k:Nat):Int):=by rw [w64 _ (by omega) (by omega)]; omega
  have e1:IntKind.i64.wrap (8*((7 - k:Nat):Int))=((8*(7 - k):Nat):Int):=by rw [w64 _ (by omega) (by omega)]; omega
  have e2:IntKind.u8.wrap ((n:Int).fdiv (2^min (8*(7 - k)) 64))=((UInt8.ofNat (n / 256^(7 - k))).toNat:Int):=by rw [Nat.min_eq_left (by omega)]; exact u8shn _ _
  have w1:IntKind.i64.wrap ((k:Int)+1)=((k+1:Nat):Int):=by rw [w64 _ (by omega) (by omega)]; omega
  simp only [go_sem,e0,ea,e1,e2,w1,nb8_len n (Nat.le_succ_of_le hk)]
  refine ⟨by omega,⟨by omega,by omega⟩,hk,k+1,rfl,?_,by omega,by omega⟩
  rw [← nb8_set n (by omega)]
 ·obtain rfl:k=8:=by omega
  rw [nb8_8]
  have e:(AV.view (bs (beN 8 n)) 8 false)=vB (beN 8 n) false:=by rw [vB,beN_length]
  rw [← e]
  exact leave_build (H:=H) (sz:=1) (n:=8) (vs:=bs (beN 8 n)) (by decide) (by rw [bs_len,beN_length]) (pure_bs _)
section
variable {H K:AH} {x s:AV} {vs ws:List AV} {b:Nat}
theorem GR.appN (h:GR H x vs) (h1:srcOk 1 H s) (h2:srcC 1 H s=ws) (h3:srcN s=ws.length) (hv:ws.all AV.one=true) (hb:(vs.length+ws.length)*b≤140737488355328) :
  appOk 1 b H x s∧GR (appH 1 H s x) (appV 1 H s x) (vs++ws)∧New H x (appV 1 H s x)∧Fr H (appH 1 H s x) (fun i => rid x=some i):=by
 rcases h with ⟨rfl,rfl⟩ | ⟨q,L,cs,rfl,g1,g2,g3,g4,g5⟩
 ·refine ⟨⟨h1,by rw [h2]; exact hv,by rw [h3]; simpa [srcN] using hb,trivial⟩,?_,?_,?_⟩
  ·rw [appV_nil,appH_nil,h2,h3]
   exact .inr ⟨H.length,ws.length,ws,rfl,by simp,by rw [obj_app0]; rfl,rfl,Nat.le_refl _,List.take_of_length_le (Nat.le_refl _)⟩
  ·intro q hq; rw [appV_nil] at hq; cases hq; exact .inr (Nat.le_refl _)
  ·rw [appH_nil]; exact Fr.app _ _ _
 ·refine ⟨⟨h1,by rw [h2]; exact hv,by rw [h3]; exact hb,g1,by rw [g2,g3],by rw [g2],by rw [g2],by omega,.inl rfl⟩,?_,?_,?_⟩
  ·rw [appV_row,appH_row,h2,h3,g2]
   refine .inr ⟨q,_,_,by rw [List.length_append],by rw [setO_length]; exact g1,by rw [obj_setO _ _ g1,g2],?_,?_,?_⟩
   ·simp only [appL,appC,Nat.zero_add,Nat.mul_one]
    split
    ·simp [g3]
    ·simp only [List.length_append,List.length_take,List.length_drop]; omega
   ·simp only [appL,Nat.zero_add,Nat.mul_one,List.length_append]
    split <;> omega
   ·simp only [appC,Nat.zero_add,Nat.mul_one,List.length_append]
    split
    ·rename_i hh
     have:cs=vs:=by rw [← g5,List.take_of_length_le (by omega)]
     subst this
     rw [List.take_of_length_le (by simp)]
    ·rw [g5,List.take_append_of_le_length (by simp),List.take_of_length_le (by simp)]
  ·intro q' hq; rw [appV_row] at hq; exact .inl hq
  ·rw [appH_row]; exact Fr.set _ _ rfl
theorem GR.stepN (h:GR (H++K) x vs) (hq:∀ q,rid x=some q→H.length≤q) (h1:srcOk 1 (H++K) s) (h2:srcC 1 (H++K) s=ws) (h3:srcN s=ws.length) (hv:ws.all AV.one=true) (hb:(vs.length+ws.length)*b≤140737488355328) :
  appOk 1 b (H++K) x s∧∃ K',appH 1 (H++K) s x=H++K'∧GR (H++K') (appV 1 (H++K) s x) (vs++ws)∧∀ q,rid (appV 1 (H++K) s x)=some q→H.length≤q:=by
 obtain ⟨a1,a2,a3,a4⟩:=h.appN (b:=b) h1 h2 h3 hv hb
 have f1:Fr H (H++K) (fun i => rid x=some i):=Fr.app _ _ _
 have f2:Fr H (appH 1 (H++K) s x) (fun _ => False):=(f1.trans a4).mono fun i hi h => by have:=hq i h; omega
 obtain ⟨K',e⟩:=f2.split fun _ h => h
 refine ⟨a1,K',e,e ▸ a2,fun q h => ?_⟩
 rcases a3 q h with h | h
 ·exact hq q h
 ·rw [List.length_append] at h; omega
end
def fldB (f:Fld):List UInt8:=UInt8.ofNat f.tag.toNat::UInt8.ofNat (f.b.length / 256)::UInt8.ofNat f.b.length::f.b
def putB (l:List Fld):List UInt8:=l.flatMap fldB
def putV (l:List Fld):AV:=if fldsB l=true then .tup [vB (putB l) false,.lit .nilIface] else .tup [nilS,.lit (.iface T.api_Code (.int .i64 1))]
theorem u8n (n:Nat):IntKind.u8.wrap (n:Int)=((UInt8.ofNat n).toNat:Int):=by
 have:=u8shn n 0
 rw [Nat.pow_zero,Nat.div_one] at this
 rw [← this]
 simp
theorem u8h (n:Nat):IntKind.u8.wrap ((n:Int).fdiv (2^8))=((UInt8.ofNat (n / 256)).toNat:Int):=by
 have:=u8shn n 1
 rw [Nat.pow_one,Nat.mul_one] at this
 exact this
theorem putB_le:∀ (l:List Fld),(∀ f ∈ l,f.b.length≤65535)→(putB l).length≤l.length*65538
 | [],_ => Nat.le_refl _
 | f::l,h => by
  have h1:=putB_le l fun g hg => h g (List.mem_cons_of_mem _ hg)
  have h2:=h f (List.mem_cons_self ..)
  show (fldB f++putB l).length≤(l.length+1)*65538
  rw [List.length_append,Nat.add_mul]
  show f.b.length+1+1+1+_≤_
  omega
theorem fldsB_get {l:List Fld} (h:fldsB l=true):l.length≤64∧∀ i,i<l.length→1≤(l.getD i noF).tag∧(l.getD i noF).tag≤255∧(l.getD i noF).b.length≤65535:=by
 simp only [fldsB,Bool.and_eq_true,decide_eq_true_eq] at h
 refine ⟨h.1,fun i hi => ?_⟩
 have:=h.2 i hi
 simp only [fldBad,Bool.or_eq_false_iff,decide_eq_false_iff_not] at this
 have h1:=this.1
 omega
theorem bs3 (a b c:UInt8):bs [a,b,c]=[u8 a,u8 b,u8 c]:=rfl
theorem vB3 (a b c:UInt8):vB [a,b,c] true=.view [u8 a,u8 b,u8 c] 3 true:=rfl
theorem putB_next {l:List Fld} {i:Nat} (h:i<l.length):putB (l.take (i+1))=putB (l.take i)++fldB (l.getD i noF):=by
 rw [take_snoc h noF,putB,List.flatMap_append]; exact congrArg _ (List.append_nil _)
theorem GR.viewS {H K:AH} {x:AV} {vs:List AV} {n:Nat} (h:GR (H++K) x vs) (hq:∀ q,rid x=some q→H.length≤q) (hp:pureL vs=true) (hn:vs.length=n):Le (low (renk H.length []) (H++K) x) (.view vs n false):=hn ▸ h.view hq hp
theorem obj_takeN (K:AH) {k n:Nat} (h:k<n):obj (K.take n) k=obj K k:=by
 simp [obj,List.getD_eq_getElem?_getD,List.getElem?_take,h]
theorem t_Put {H:AH} {x:AV} {l:List Fld} (hx:Sl 2 H x (fcs l) l.length) (hl:∀ f ∈ l,Sl 1 H f.e (bs f.b) f.b.length) (hn:l.length≤1000000):Called Tryz.prog F.tlv_Put [x] H (putV l) H:=by
 refine e_tlv_Put ?_
 simp only [ic_tlv_Put,go_sem]
 refine callW_some (t_fMay hx hl hn) (fun _ => rfl) ?_
 simp only [go_sem]
 refine ⟨fun h => ?_,fun h => ?_⟩
 ·exact leave_same (by rw [putV,if_neg (by intro h2; rw [h2] at h; exact absurd h (by decide))])
 ·have hf:fldsB l=true:=by simpa using h
  obtain ⟨h64,hw⟩:=fldsB_get hf
  rw [putV,if_pos hf]
  simp only [hx.s,true_and]
  refine w_loop _ (fun (s:Nat × AV × AH) => ([(4,s.2.1),(12,x),(13,I l.length),(14,I s.1)],H++s.2.2))
   (fun s => s.1≤l.length∧GR (H++s.2.2) s.2.1 (bs (putB (l.take s.1)))∧(∀ q,rid s.2.1=some q→H.length≤q)) (fun s => l.length - s.1) (0,nilS,[]) ⟨Nat.zero_le _,.inl ⟨rfl,rfl⟩,fun q h => rid_nil h⟩ (by rw [List.append_nil]; rfl) ?_
  rintro ⟨i,y,G⟩ ⟨hi,hg,hq⟩
  dsimp only at hi hg hq
  simp only [go_sem]
  refine ⟨fun hh => ?_,fun hh => ?_⟩
  ·have hlt:i<l.length:=by omega
   have he:=hl _ (getD_memP noF hlt)
   have hG:Sl 2 (H++G) x (fcs l) l.length:=hx.app
   have f7:=hG.ldOk .i64 hlt (Nat.le_refl 2)
   have hc:(l.getD i noF).cells=[I (l.getD i noF).tag,(l.getD i noF).e]:=rfl
   obtain ⟨t1,t2,t3⟩:=hw i hlt
   have w0:IntKind.u8.wrap (l.getD i noF).tag=((UInt8.ofNat (l.getD i noF).tag.toNat).toNat:Int):=by
    have:=u8n (l.getD i noF).tag.toNat
    rwa [Int.toNat_of_nonneg (by omega)] at this
   have w1:IntKind.i64.wrap ((i:Int)+1)=((i+1:Nat):Int):=by rw [w64 _ (by omega) (by omega)]; omega
   have ps:(bs (putB (l.take i))).length≤64*65538:=by
    rw [bs_len]
    refine Nat.le_trans (putB_le _ fun f hf => ?_) (Nat.mul_le_mul_right _ (by rw [List.length_take]; omega))
    obtain ⟨j,h1,rfl⟩:=List.mem_iff_getElem.1 (List.mem_of_mem_take hf)
    have:=(hw j h1).2.2
    rwa [List.getD_eq_getElem?_getD,List.getElem?_eq_getElem h1] at this
   have step:=fun (three:List UInt8) (h3:three.length=3) => (hg.more hq ⟨[I (l.getD i noF).tag,(l.getD i noF).e],0,true⟩).appN (b:=1) (s:=vB three true) (ws:=bs three) (of_eq_true (Sl.vB three true).s.2.2.1) rfl (bs_len _).symm (one_bs _) (by rw [bs_len three,h3]; omega)
   obtain ⟨a1,a2,a3,a4⟩:=step [UInt8.ofNat (l.getD i noF).tag.toNat,UInt8.ofNat ((l.getD i noF).b.length / 256),UInt8.ofNat (l.getD i noF).b.length] rfl
   have f1:Fr H (H++(G++[⟨[I (l.getD i noF).tag,(l.getD i noF).e],0,true⟩])) (fun i => rid y=some i):=Fr.app _ _ _
   obtain ⟨K1,e1⟩:=((f1.trans a4).mono fun i hi h => by have:=hq i h; omega:Fr H _ (fun _ => False)).split fun _ h => h
   have o1:=a4.2 (H.length+G.length) (by simp) (fun h => by have:=hg.lt h; rw [List.length_append] at this; omega)
   have lk:=a4.1
   rw [e1] at a2 o1 lk
   rw [obj_appk,obj_appk,obj_app0] at o1
   have lk:G.length+1≤K1.length:=by simp only [List.length_append,List.length_cons,List.length_nil] at lk; omega
   have oK:obj (K1.take (G.length+1)) G.length=⟨[I (l.getD i noF).tag,(l.getD i noF).e],0,true⟩:=(obj_takeN K1 (Nat.lt_succ_self _)).trans o1
   have lT:G.length<(K1.take (G.length+1)).length:=by rw [List.length_take]; omega
   have q1:∀ q,rid (appV 1 (H++(G++[⟨[I (l.getD i noF).tag,(l.getD i noF).e],0,true⟩])) (vB [UInt8.ofNat (l.getD i noF).tag.toNat,UInt8.ofNat ((l.getD i noF).b.length / 256),UInt8.ofNat (l.getD i noF).b.length] true) y)=some q→H.length≤q:=fun q h => by
    rcases a3 q h with h | h
    ·exact hq q h
    ·rw [List.length_append] at h; omega
   simp only [vB3,bs3] at e1 q1 a1 a2 a3
   simp only [go_sem,hx.idx,hx.un,f7,hG.fld2 hlt,hc,he.one,he.lenT,he.n,he.un,he.may,he.cells,hg.sl.s,w0,u8n,u8h,w1,fillOk,fillv,e1,oK]
   simp only [go_sem] at a1
   generalize appV 1 _ _ y=y1 at a2 q1 ⊢
   have heK:Sl 1 (H++K1) (l.getD i noF).e (bs (l.getD i noF).b) (l.getD i noF).b.length:=he.app
   have pl:(putB (l.take i)).length≤64*65538:=by rw [← bs_len]; exact ps
   obtain ⟨b1,K2,b2,b3,b4⟩:=a2.stepN (b:=1) q1 (s:=(l.getD i noF).e) (of_eq_true heK.s.2.2.1) heK.s.2.2.2.1 (by rw [heK.s.2.1,bs_len]) (one_bs _) (by
    rw [List.length_append,bs_len,bs_len]
    show ((putB (l.take i)).length+3+_)*1≤_
    omega)
   simp only [appOk_eq,heK.s,true_and,one_bs,Nat.mul_one] at b1
   simp only [hg.sl.s] at a1
   refine ⟨⟨by omega,by omega⟩,by omega,a1,?_,lT,⟨by rw [heK.s.2.2.1]; trivial,by rw [heK.s.2.2.2.1]; exact one_bs _,b1⟩,(i+1,_,K2),rfl,b2,⟨by show i+1≤_; omega,?_,b4⟩,by show _ - (i+1)<_; omega⟩
   ·rcases hg with ⟨rfl,_⟩ | ⟨q,L,cs,rfl,g1,_⟩
    ·trivial
    ·show H.length+G.length≠q
     rw [List.length_append] at g1
     omega
   ·show GR (H++K2) _ (bs (putB (l.take (i+1))))
    have:bs (putB (l.take (i+1)))=bs (putB (l.take i))++[u8 (UInt8.ofNat (l.getD i noF).tag.toNat),u8 (UInt8.ofNat ((l.getD i noF).b.length / 256)),u8 (UInt8.ofNat (l.getD i noF).b.length)]++bs (l.getD i noF).b:=by
     rw [putB_next hlt,bs,List.map_append,List.append_assoc]; rfl
    rw [this]
    exact b3
  ·obtain rfl:i=l.length:=by omega
   rw [List.take_of_length_le (Nat.le_refl _)] at hg
   refine leave_drop_le ?_
   have:=hg.viewS hq (pure_bs _) (bs_len _)
   exact le_tups ⟨this,.refl _,trivial⟩
def nFld (i:Nat) (n:Int):Fld:=⟨(i:Int)+1,beN 8 n.toNat,vB (beN 8 n.toNat) false⟩
def nFlds (l:List Int):List Fld:=(List.range l.length).map fun i => nFld i (l.getD i 0)
theorem nFlds_len (l:List Int):(nFlds l).length=l.length:=by rw [nFlds,List.length_map,List.length_range]
theorem nFlds_get (l:List Int) {i:Nat} (h:i<l.length):(nFlds l).getD i noF=nFld i (l.getD i 0):=by
 rw [nFlds,List.getD_eq_getElem?_getD,List.getElem?_map,List.getElem?_range h]; rfl
theorem nFlds_mem {l:List Int} {f:Fld} (h:f ∈ nFlds l):∃ i n,f=nFld i n:=by
 obtain ⟨i,_,rfl⟩:=List.mem_map.1 h
 exact ⟨i,_,rfl⟩
theorem nFld_sl (i:Nat) (n:Int) (H:AH):Sl 1 H (nFld i n).e (bs (nFld i n).b) (nFld i n).b.length:=Sl.vB _ _
theorem putV_low (ren:Nat→Option Nat) (H:AH) (l:List Fld):low ren H (putV l)=putV l:=by
 unfold putV; split
 ·simp only [low,lowL,vB,lowL_bs]
 ·rfl
def Tkt.nums (t:Tkt):List Int:=[t.serial,t.product,t.zones,t.from_,t.key]
def tbodyV (t:Tkt):AV:=if tktB t=true then putV (nFlds t.nums) else .tup [nilS,.lit (.iface T.api_Code (.int .i64 1))]
theorem tktB_nums {t:Tkt} (h:tktB t=true):∀ i:Nat,0≤t.nums.getD i 0∧t.nums.getD i 0<9223372036854775808:=by
 simp only [tktB,inB,Bool.and_eq_true,decide_eq_true_eq] at h
 intro i
 match i with
 | 0 => show 0≤t.serial∧t.serial<_; omega
 | 1 => show 0≤t.product∧t.product<_; omega
 | 2 => show 0≤t.zones∧t.zones<_; omega
 | 3 => show 0≤t.from_∧t.from_<_; omega
 | 4 => show 0≤t.key∧t.key<_; omega
 | i+5 => exact ⟨Int.le_refl 0,by show (0:Int)<_; omega⟩
theorem t_tBody (t:Tkt) (H:AH):Called Tryz.prog F.ticket_Body [.agg t.cells] H (tbodyV t) H:=by
 refine e_ticket_Body ?_
 simp only [ic_ticket_Body,go_sem]
 refine callW_some (t_tMay t _) (fun _ => rfl) ?_
 simp only [go_sem]
 refine ⟨fun h => ?_,fun h => ?_⟩
 ·have h:tktB t=false:=by simpa using h
  rw [tbodyV,if_neg (by rw [h]; decide)]
  exact leave_drop rfl
 ·have h:tktB t=true:=by simpa using h
  have hw:=tktB_nums h
  rw [tbodyV,if_pos h]
  have ei:∀ i,i<5→elt [I t.serial,I t.product,I t.zones,I t.from_,I t.key] 1 i=[I (t.nums.getD i 0)]:=fun i hi => elt_I t.nums i hi
  generalize hV:[I t.serial,I t.product,I t.zones,I t.from_,I t.key]=V at ei ⊢
  have lV:V.length=5:=by rw [← hV]; rfl
  have l5:t.nums.length=5:=rfl
  generalize t.nums=ns at ei hw l5 ⊢
  have nl:=nFlds_len ns
  generalize ho:(⟨t.cells,0,true⟩:AObj)=o
  refine w_loop _ (fun (i:Nat) => ([(4,rA (H++[o]) (fcs ((nFlds ns).take i)) i),(21,.view V 5 true),(22,I 5),(23,I i)],hA 2 (H++[o]) (fcs ((nFlds ns).take i)) i))
   (fun i => i≤5) (fun i => 5 - i) 0 (Nat.zero_le _) rfl ?_
  intro i hi
  simp only [go_sem]
  refine ⟨fun hh => ?_,fun hh => ?_⟩
  ·have hlt:i<5:=by omega
   have w1:IntKind.i64.wrap ((i:Int)+1)=((i+1:Nat):Int):=by rw [w64 _ (by omega) (by omega)]; omega
   simp only [go_sem,ei i hlt,lV,w1]
   obtain ⟨n,hn⟩:=Int.eq_ofNat_of_zero_le (hw i).1
   have hn2:=(hw i).2
   rw [hn]
   refine ⟨⟨by omega,by omega⟩,callW_some (t_Number (by omega)) (fun _ => rfl) ?_⟩
   have ef:(nFlds ns).getD i noF=⟨((i+1:Nat):Int),beN 8 n,vB (beN 8 n) false⟩:=by
    rw [nFlds_get ns (by omega),nFld,hn]; rfl
   have sn:=take_snoc (show i<(nFlds ns).length by omega) noF
   have fn:fcs ((nFlds ns).take (i+1))=fcs ((nFlds ns).take i)++[I ((i+1:Nat):Int),vB (beN 8 n) false]:=by
    rw [sn,ef,fcs,List.flatMap_append]; rfl
   obtain ⟨h1,h2,h3⟩:=build_app (H:=H++[o]) (sz:=2) (n:=i) (vs:=fcs ((nFlds ns).take i)) (by rw [fcs_len,List.length_take]; omega) (s:=.view [I ((i+1:Nat):Int),vB (beN 8 n) false] 1 true) (cs:=[I ((i+1:Nat):Int),vB (beN 8 n) false]) (b:=32) rfl rfl rfl rfl (by omega)
   simp only [go_sem,fillOk,fillv,w1,h2,h3]
   simp only [go_sem,pure_bs,vB] at h1
   refine ⟨pure_bs _,h1,i+1,?_,?_,by omega,by omega⟩
   ·rw [fn]
   ·rw [fn]
  ·obtain rfl:i=5:=by omega
   rw [List.take_of_length_le (by omega)]
   refine callW_some (t_Put (by
    have:=build_sl (H:=H++[o]) (sz:=2) (n:=5) (vs:=fcs (nFlds ns)) (by rw [fcs_len,nl,l5])
    rw [nl,l5]; exact this) (fun f hf => by obtain ⟨i,n,rfl⟩:=nFlds_mem hf; exact nFld_sl _ _ _) (by omega)) (fun _ => rfl) ?_
   have hl:=putV_low
   have e:hA 2 (H++[o]) (fcs (nFlds ns)) 5=(H++[o])++[⟨fcs (nFlds ns),2,true⟩]:=rfl
   rw [e]
   have hlow:=fun G => putV_low (renk H.length []) G (nFlds ns)
   unfold putV at hlow ⊢
   split
   ·rename_i hf
    simp only [hf,if_true] at hlow
    simp only [go_sem]
    exact leave_drop (hlow _)
   ·simp only [go_sem]
    exact leave_drop rfl
structure Rec where
 dev:Int
 seq:Int
 min_:Int
 kind:Int
 stop:Int
 zone:Int
 serial:Int
 verdict:Int
 prev:List UInt8
 b:List UInt8
 e:AV
def Rec.nums (r:Rec):List AV:=[I r.dev,I r.seq,I r.min_,I r.kind,I r.stop,I r.zone,I r.serial,I r.verdict]
def Rec.cells (r:Rec):List AV:=r.nums++(bs r.prev++[r.e])
def Rec.ok (r:Rec):Prop:=r.prev.length=32∧r.b.length≤1000000∧∀ H,Sl 1 H r.e (bs r.b) r.b.length
abbrev z32:List UInt8:=List.replicate 32 0
section
variable {r:Rec}
end
set_option maxRecDepth 10000
def Rec.ns (r:Rec):List Int:=[r.dev,r.seq,r.min_,r.kind,r.stop,r.zone,r.serial,r.verdict]
def zd:List UInt8:=z32
def z32Z:List Value:=List.replicate 32 (.int .u8 0)
theorem z32Z_eq:List.replicate 32 (Value.int .u8 0)=z32Z:=rfl
theorem z32Z_map:z32Z.map AV.lit=bs zd:=rfl
theorem bs32_spl {a d:List UInt8} (ha:a.length=32) (h:d.length=32):splice (bs a) 0 (bs d)=bs d:=splice_all (by rw [bs_len,bs_len,ha,h])
structure Bt where
 b:List UInt8
 e:AV
def Bt.ok (x:Bt):Prop:=x.b.length≤100000∧∀ H,Sl 1 H x.e (bs x.b) x.b.length
def noB:Bt:=⟨[],nilS⟩
end Go.Proofs.YtgfploghjpbcaaaGreat.Eng

