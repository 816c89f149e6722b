/- Layer 8: a number's bytes; fields' bytes: the program's walks. -/
import Derived.Test.YtgfploghjpbcaaaMTk
namespace Go.Proofs.Ytgfploghjpbcaaa.Eng
open Go Go.Proofs
set_option linter.unusedVariables false
set_option linter.unusedSimpArgs false
set_option maxRecDepth 10000
theorem u8shn (n k:Nat):IntKind.u8.wrap ((n:Int).fdiv (2^(8*k)))=((UInt8.ofNat (n / 256^k)).toNat:Int):=by
 have e:(n:Int).fdiv (2^(8*k))=((n / 256^k:Nat):Int):=by
  rw [Int.fdiv_eq_ediv_of_nonneg _ (Int.le_of_lt (Int.pow_pos (by decide))),Int.natCast_ediv,Int.pow_mul]
  simp
 rw [e]
 simp only [IntKind.wrap,IntKind.bits,IntKind.signed]
 simp
def nb8 (n k:Nat):List AV:=bs ((beN 8 n).take k)++List.replicate (8 - k) (u8 0)
theorem nb8_8 (n:Nat):nb8 n 8=bs (beN 8 n):=by
 rw [nb8,List.take_of_length_le (by rw [beN_length]; exact Nat.le_refl _)]; exact List.append_nil _
theorem nb8_len (n:Nat) {k:Nat} (h:k≤8):(nb8 n k).length=8:=by rw [nb8,List.length_append,bs_len,List.length_take,beN_length,List.length_replicate]; omega
theorem nb8_set (n:Nat) {k:Nat} (h:k<8):(nb8 n k).set k (u8 (UInt8.ofNat (n / 256^(7 - k))))=nb8 n (k+1):=by
 have l:(bs ((beN 8 n).take k)).length=k:=by rw [bs_len,List.length_take,beN_length]; omega
 have e3:bs ((beN 8 n).take (k+1))=bs ((beN 8 n).take k)++[u8 (UInt8.ofNat (n / 256^(7 - k)))]:=by
  rw [take_snoc (by rw [beN_length]; omega) 0,bs,bs,List.map_append]
  congr 1
  rw [List.map_singleton,List.getD_eq_getElem?_getD,beN,List.getElem?_map,List.getElem?_range (by omega)]
  rfl
 rw [nb8,List.set_append_right _ _ (by rw [l]; exact Nat.le_refl _),l,Nat.sub_self,show 8 - k=(8 - (k+1))+1 by omega,List.replicate_succ,nb8,e3,List.append_assoc]
 rfl
theorem t_Number {H:AH} {n:Nat} (hn:n<9223372036854775808):Called Try.prog F.tlv_Number [I n] H (vB (beN 8 n) false) H:=by
 refine e_tlv_Number ?_
 simp only [ic_tlv_Number,go_sem]
 refine ⟨by refine ⟨trivial,trivial,?_⟩; decide,?_⟩
 refine w_loop _ (fun (k:Nat) => ([(0,I n),(3,.row H.length 0 8 8),(7,I 8),(8,I k)],H++[⟨nb8 n k,1,true⟩])) (fun k => k≤8) (fun k => 8 - k) 0 (by decide) rfl ?_
 intro k hk
 simp only [go_sem]
 refine ⟨fun h => ?_,fun h => ?_⟩
 ·have hk:k≤7:=by omega
  have e0:IntKind.u64.wrap (n:Int)=n:=wu64 _ (by omega) (by omega)
  have ea:IntKind.i64.wrap (7 - (k:Int))=((7 - k:Nat):Int):=by rw [w64 _ (by omega) (by omega)]; omega
  have e1:IntKind.i64.wrap (8*((7 - k:Nat):Int))=((8*(7 - k):Nat):Int):=by rw [w64 _ (by omega) (by omega)]; omega
  have e2:IntKind.u8.wrap ((n:Int).fdiv (2^min (8*(7 - k)) 64))=((UInt8.ofNat (n / 256^(7 - k))).toNat:Int):=by rw [Nat.min_eq_left (by omega)]; exact u8shn _ _
  have w1:IntKind.i64.wrap ((k:Int)+1)=((k+1:Nat):Int):=by rw [w64 _ (by omega) (by omega)]; omega
  simp only [go_sem,e0,ea,e1,e2,w1,nb8_len n (Nat.le_succ_of_le hk)]
  refine ⟨by omega,⟨by omega,by omega⟩,hk,k+1,rfl,?_,by omega,by omega⟩
  rw [← nb8_set n (by omega)]
 ·obtain rfl:k=8:=by omega
  rw [nb8_8]
  have e:(AV.view (bs (beN 8 n)) 8 false)=vB (beN 8 n) false:=by rw [vB,beN_length]
  rw [← e]
  exact leave_build (H:=H) (sz:=1) (n:=8) (vs:=bs (beN 8 n)) (by decide) (by rw [bs_len,beN_length]) (pure_bs _)
section
variable {H K:AH} {x s:AV} {vs ws:List AV} {b:Nat}
theorem GR.appN (h:GR H x vs) (h1:srcOk 1 H s) (h2:srcC 1 H s=ws) (h3:srcN s=ws.length) (hv:ws.all AV.one=true) (hb:(vs.length+ws.length)*b≤140737488355328) :
  appOk 1 b H x s∧GR (appH 1 H s x) (appV 1 H s x) (vs++ws)∧New H x (appV 1 H s x)∧Fr H (appH 1 H s x) (fun i => rid x=some i):=by
 rcases h with ⟨rfl,rfl⟩ | ⟨q,L,cs,rfl,g1,g2,g3,g4,g5⟩
 ·refine ⟨⟨h1,by rw [h2]; exact hv,by rw [h3]; simpa [srcN] using hb,trivial⟩,?_,?_,?_⟩
  ·rw [appV_nil,appH_nil,h2,h3]
   exact .inr ⟨H.length,ws.length,ws,rfl,by simp,by rw [obj_app0]; rfl,rfl,Nat.le_refl _,List.take_of_length_le (Nat.le_refl _)⟩
  ·intro q hq; rw [appV_nil] at hq; cases hq; exact .inr (Nat.le_refl _)
  ·rw [appH_nil]; exact Fr.app _ _ _
 ·refine ⟨⟨h1,by rw [h2]; exact hv,by rw [h3]; exact hb,g1,by rw [g2,g3],by rw [g2],by rw [g2],by omega,.inl rfl⟩,?_,?_,?_⟩
  ·rw [appV_row,appH_row,h2,h3,g2]
   refine .inr ⟨q,_,_,by rw [List.length_append],by rw [setO_length]; exact g1,by rw [obj_setO _ _ g1,g2],?_,?_,?_⟩
   ·simp only [appL,appC,Nat.zero_add,Nat.mul_one]
    split
    ·simp [g3]
    ·simp only [List.length_append,List.length_take,List.length_drop]; omega
   ·simp only [appL,Nat.zero_add,Nat.mul_one,List.length_append]
    split <;> omega
   ·simp only [appC,Nat.zero_add,Nat.mul_one,List.length_append]
    split
    ·rename_i hh
     have:cs=vs:=by rw [← g5,List.take_of_length_le (by omega)]
     subst this
     rw [List.take_of_length_le (by simp)]
    ·rw [g5,List.take_append_of_le_length (by simp),List.take_of_length_le (by simp)]
  ·intro q' hq; rw [appV_row] at hq; exact .inl hq
  ·rw [appH_row]; exact Fr.set _ _ rfl
theorem GR.stepN (h:GR (H++K) x vs) (hq:∀ q,rid x=some q→H.length≤q) (h1:srcOk 1 (H++K) s) (h2:srcC 1 (H++K) s=ws) (h3:srcN s=ws.length) (hv:ws.all AV.one=true) (hb:(vs.length+ws.length)*b≤140737488355328) :
  appOk 1 b (H++K) x s∧∃ K',appH 1 (H++K) s x=H++K'∧GR (H++K') (appV 1 (H++K) s x) (vs++ws)∧∀ q,rid (appV 1 (H++K) s x)=some q→H.length≤q:=by
 obtain ⟨a1,a2,a3,a4⟩:=h.appN (b:=b) h1 h2 h3 hv hb
 have f1:Fr H (H++K) (fun i => rid x=some i):=Fr.app _ _ _
 have f2:Fr H (appH 1 (H++K) s x) (fun _ => False):=(f1.trans a4).mono fun i hi h => by have:=hq i h; omega
 obtain ⟨K',e⟩:=f2.split fun _ h => h
 refine ⟨a1,K',e,e ▸ a2,fun q h => ?_⟩
 rcases a3 q h with h | h
 ·exact hq q h
 ·rw [List.length_append] at h; omega
end
def fldB (f:Fld):List UInt8:=UInt8.ofNat f.tag.toNat::UInt8.ofNat (f.b.length / 256)::UInt8.ofNat f.b.length::f.b
def putB (l:List Fld):List UInt8:=l.flatMap fldB
def putV (l:List Fld):AV:=if fldsB l=true then .tup [vB (putB l) false,.lit .nilIface] else .tup [nilS,.lit (.iface T.api_Code (.int .i64 1))]
theorem u8n (n:Nat):IntKind.u8.wrap (n:Int)=((UInt8.ofNat n).toNat:Int):=by
 have:=u8shn n 0
 rw [Nat.pow_zero,Nat.div_one] at this
 rw [← this]
 simp
theorem u8h (n:Nat):IntKind.u8.wrap ((n:Int).fdiv (2^8))=((UInt8.ofNat (n / 256)).toNat:Int):=by
 have:=u8shn n 1
 rw [Nat.pow_one,Nat.mul_one] at this
 exact this
theorem putB_le:∀ (l:List Fld),(∀ f ∈ l,f.b.length≤65535)→(putB l).length≤l.length*65538
 | [],_ => Nat.le_refl _
 | f::l,h => by
  have h1:=putB_le l fun g hg => h g (List.mem_cons_of_mem _ hg)
  have h2:=h f (List.mem_cons_self ..)
  show (fldB f++putB l).length≤(l.length+1)*65538
  rw [List.length_append,Nat.add_mul]
  show f.b.length+1+1+1+_≤_
  omega
theorem fldsB_get {l:List Fld} (h:fldsB l=true):l.length≤64∧∀ i,i<l.length→1≤(l.getD i noF).tag∧(l.getD i noF).tag≤255∧(l.getD i noF).b.length≤65535:=by
 simp only [fldsB,Bool.and_eq_true,decide_eq_true_eq] at h
 refine ⟨h.1,fun i hi => ?_⟩
 have:=h.2 i hi
 simp only [fldBad,Bool.or_eq_false_iff,decide_eq_false_iff_not] at this
 have h1:=this.1
 omega
theorem bs3 (a b c:UInt8):bs [a,b,c]=[u8 a,u8 b,u8 c]:=rfl
theorem vB3 (a b c:UInt8):vB [a,b,c] true=.view [u8 a,u8 b,u8 c] 3 true:=rfl
theorem putB_next {l:List Fld} {i:Nat} (h:i<l.length):putB (l.take (i+1))=putB (l.take i)++fldB (l.getD i noF):=by
 rw [take_snoc h noF,putB,List.flatMap_append]; exact congrArg _ (List.append_nil _)
theorem GR.viewS {H K:AH} {x:AV} {vs:List AV} {n:Nat} (h:GR (H++K) x vs) (hq:∀ q,rid x=some q→H.length≤q) (hp:pureL vs=true) (hn:vs.length=n):Le (low (renk H.length []) (H++K) x) (.view vs n false):=hn ▸ h.view hq hp
theorem obj_takeN (K:AH) {k n:Nat} (h:k<n):obj (K.take n) k=obj K k:=by
 simp [obj,List.getD_eq_getElem?_getD,List.getElem?_take,h]
theorem t_Put {H:AH} {x:AV} {l:List Fld} (hx:Sl 2 H x (fcs l) l.length) (hl:∀ f ∈ l,Sl 1 H f.e (bs f.b) f.b.length) (hn:l.length≤1000000):Called Try.prog F.tlv_Put [x] H (putV l) H:=by
 refine e_tlv_Put ?_
 simp only [ic_tlv_Put,go_sem]
 refine callW_some (t_fMay hx hl hn) (fun _ => rfl) ?_
 simp only [go_sem]
 refine ⟨fun h => ?_,fun h => ?_⟩
 ·exact leave_same (by rw [putV,if_neg (by intro h2; rw [h2] at h; exact absurd h (by decide))])
 ·have hf:fldsB l=true:=by simpa using h
  obtain ⟨h64,hw⟩:=fldsB_get hf
  rw [putV,if_pos hf]
  simp only [hx.s,true_and]
  refine w_loop _ (fun (s:Nat × AV × AH) => ([(4,s.2.1),(12,x),(13,I l.length),(14,I s.1)],H++s.2.2))
   (fun s => s.1≤l.length∧GR (H++s.2.2) s.2.1 (bs (putB (l.take s.1)))∧(∀ q,rid s.2.1=some q→H.length≤q)) (fun s => l.length - s.1) (0,nilS,[]) ⟨Nat.zero_le _,.inl ⟨rfl,rfl⟩,fun q h => rid_nil h⟩ (by rw [List.append_nil]; rfl) ?_
  rintro ⟨i,y,G⟩ ⟨hi,hg,hq⟩
  dsimp only at hi hg hq
  simp only [go_sem]
  refine ⟨fun hh => ?_,fun hh => ?_⟩
  ·have hlt:i<l.length:=by omega
   have he:=hl _ (getD_memP noF hlt)
   have hG:Sl 2 (H++G) x (fcs l) l.length:=hx.app
   have f7:=hG.ldOk .i64 hlt (Nat.le_refl 2)
   have hc:(l.getD i noF).cells=[I (l.getD i noF).tag,(l.getD i noF).e]:=rfl
   obtain ⟨t1,t2,t3⟩:=hw i hlt
   have w0:IntKind.u8.wrap (l.getD i noF).tag=((UInt8.ofNat (l.getD i noF).tag.toNat).toNat:Int):=by
    have:=u8n (l.getD i noF).tag.toNat
    rwa [Int.toNat_of_nonneg (by omega)] at this
   have w1:IntKind.i64.wrap ((i:Int)+1)=((i+1:Nat):Int):=by rw [w64 _ (by omega) (by omega)]; omega
   have ps:(bs (putB (l.take i))).length≤64*65538:=by
    rw [bs_len]
    refine Nat.le_trans (putB_le _ fun f hf => ?_) (Nat.mul_le_mul_right _ (by rw [List.length_take]; omega))
    obtain ⟨j,h1,rfl⟩:=List.mem_iff_getElem.1 (List.mem_of_mem_take hf)
    have:=(hw j h1).2.2
    rwa [List.getD_eq_getElem?_getD,List.getElem?_eq_getElem h1] at this
   have step:=fun (three:List UInt8) (h3:three.length=3) => (hg.more hq ⟨[I (l.getD i noF).tag,(l.getD i noF).e],0,true⟩).appN (b:=1) (s:=vB three true) (ws:=bs three) (of_eq_true (Sl.vB three true).s.2.2.1) rfl (bs_len _).symm (one_bs _) (by rw [bs_len three,h3]; omega)
   obtain ⟨a1,a2,a3,a4⟩:=step [UInt8.ofNat (l.getD i noF).tag.toNat,UInt8.ofNat ((l.getD i noF).b.length / 256),UInt8.ofNat (l.getD i noF).b.length] rfl
   have f1:Fr H (H++(G++[⟨[I (l.getD i noF).tag,(l.getD i noF).e],0,true⟩])) (fun i => rid y=some i):=Fr.app _ _ _
   obtain ⟨K1,e1⟩:=((f1.trans a4).mono fun i hi h => by have:=hq i h; omega:Fr H _ (fun _ => False)).split fun _ h => h
   have o1:=a4.2 (H.length+G.length) (by simp) (fun h => by have:=hg.lt h; rw [List.length_append] at this; omega)
   have lk:=a4.1
   rw [e1] at a2 o1 lk
   rw [obj_appk,obj_appk,obj_app0] at o1
   have lk:G.length+1≤K1.length:=by simp only [List.length_append,List.length_cons,List.length_nil] at lk; omega
   have oK:obj (K1.take (G.length+1)) G.length=⟨[I (l.getD i noF).tag,(l.getD i noF).e],0,true⟩:=(obj_takeN K1 (Nat.lt_succ_self _)).trans o1
   have lT:G.length<(K1.take (G.length+1)).length:=by rw [List.length_take]; omega
   have q1:∀ q,rid (appV 1 (H++(G++[⟨[I (l.getD i noF).tag,(l.getD i noF).e],0,true⟩])) (vB [UInt8.ofNat (l.getD i noF).tag.toNat,UInt8.ofNat ((l.getD i noF).b.length / 256),UInt8.ofNat (l.getD i noF).b.length] true) y)=some q→H.length≤q:=fun q h => by
    rcases a3 q h with h | h
    ·exact hq q h
    ·rw [List.length_append] at h; omega
   simp only [vB3,bs3] at e1 q1 a1 a2 a3
   simp only [go_sem,hx.idx,hx.un,f7,hG.fld2 hlt,hc,he.one,he.lenT,he.n,he.un,he.may,he.cells,hg.sl.s,w0,u8n,u8h,w1,fillOk,fillv,e1,oK]
   simp only [go_sem] at a1
   generalize appV 1 _ _ y=y1 at a2 q1 ⊢
   have heK:Sl 1 (H++K1) (l.getD i noF).e (bs (l.getD i noF).b) (l.getD i noF).b.length:=he.app
   have pl:(putB (l.take i)).length≤64*65538:=by rw [← bs_len]; exact ps
   obtain ⟨b1,K2,b2,b3,b4⟩:=a2.stepN (b:=1) q1 (s:=(l.getD i noF).e) (of_eq_true heK.s.2.2.1) heK.s.2.2.2.1 (by rw [heK.s.2.1,bs_len]) (one_bs _) (by
    rw [List.length_append,bs_len,bs_len]
    show ((putB (l.take i)).length+3+_)*1≤_
    omega)
   simp only [appOk_eq,heK.s,true_and,one_bs,Nat.mul_one] at b1
   simp only [hg.sl.s] at a1
   refine ⟨⟨by omega,by omega⟩,by omega,a1,?_,lT,⟨by rw [heK.s.2.2.1]; trivial,by rw [heK.s.2.2.2.1]; exact one_bs _,b1⟩,(i+1,_,K2),rfl,b2,⟨by show i+1≤_; omega,?_,b4⟩,by show _ - (i+1)<_; omega⟩
   ·rcases hg with ⟨rfl,_⟩ | ⟨q,L,cs,rfl,g1,_⟩
    ·trivial
    ·show H.length+G.length≠q
     rw [List.length_append] at g1
     omega
   ·show GR (H++K2) _ (bs (putB (l.take (i+1))))
    have:bs (putB (l.take (i+1)))=bs (putB (l.take i))++[u8 (UInt8.ofNat (l.getD i noF).tag.toNat),u8 (UInt8.ofNat ((l.getD i noF).b.length / 256)),u8 (UInt8.ofNat (l.getD i noF).b.length)]++bs (l.getD i noF).b:=by
     rw [putB_next hlt,bs,List.map_append,List.append_assoc]; rfl
    rw [this]
    exact b3
  ·obtain rfl:i=l.length:=by omega
   rw [List.take_of_length_le (Nat.le_refl _)] at hg
   refine leave_drop_le ?_
   have:=hg.viewS hq (pure_bs _) (bs_len _)
   exact le_tups ⟨this,.refl _,trivial⟩
def nFld (i:Nat) (n:Int):Fld:=⟨(i:Int)+1,beN 8 n.toNat,vB (beN 8 n.toNat) false⟩
def nFlds (l:List Int):List Fld:=(List.range l.length).map fun i => nFld i (l.getD i 0)
theorem nFlds_len (l:List Int):(nFlds l).length=l.length:=by rw [nFlds,List.length_map,List.length_range]
theorem nFlds_get (l:List Int) {i:Nat} (h:i<l.length):(nFlds l).getD i noF=nFld i (l.getD i 0):=by
 rw [nFlds,List.getD_eq_getElem?_getD,List.getElem?_map,List.getElem?_range h]; rfl
theorem nFlds_mem {l:List Int} {f:Fld} (h:f ∈ nFlds l):∃ i n,f=nFld i n:=by
 obtain ⟨i,_,rfl⟩:=List.mem_map.1 h
 exact ⟨i,_,rfl⟩
theorem nFld_sl (i:Nat) (n:Int) (H:AH):Sl 1 H (nFld i n).e (bs (nFld i n).b) (nFld i n).b.length:=Sl.vB _ _
theorem putV_low (ren:Nat→Option Nat) (H:AH) (l:List Fld):low ren H (putV l)=putV l:=by
 unfold putV; split
 ·simp only [low,lowL,vB,lowL_bs]
 ·rfl
def Tkt.nums (t:Tkt):List Int:=[t.serial,t.product,t.zones,t.from_,t.key]
def tbodyV (t:Tkt):AV:=if tktB t=true then putV (nFlds t.nums) else .tup [nilS,.lit (.iface T.api_Code (.int .i64 1))]
theorem tktB_nums {t:Tkt} (h:tktB t=true):∀ i:Nat,0≤t.nums.getD i 0∧t.nums.getD i 0<9223372036854775808:=by
 simp only [tktB,inB,Bool.and_eq_true,decide_eq_true_eq] at h
 intro i
 match i with
 | 0 => show 0≤t.serial∧t.serial<_; omega
 | 1 => show 0≤t.product∧t.product<_; omega
 | 2 => show 0≤t.zones∧t.zones<_; omega
 | 3 => show 0≤t.from_∧t.from_<_; omega
 | 4 => show 0≤t.key∧t.key<_; omega
 | i+5 => exact ⟨Int.le_refl 0,by show (0:Int)<_; omega⟩
theorem t_tBody (t:Tkt) (H:AH):Called Try.prog F.ticket_Body [.agg t.cells] H (tbodyV t) H:=by
 refine e_ticket_Body ?_
 simp only [ic_ticket_Body,go_sem]
 refine callW_some (t_tMay t _) (fun _ => rfl) ?_
 simp only [go_sem]
 refine ⟨fun h => ?_,fun h => ?_⟩
 ·have h:tktB t=false:=by simpa using h
  rw [tbodyV,if_neg (by rw [h]; decide)]
  exact leave_drop rfl
 ·have h:tktB t=true:=by simpa using h
  have hw:=tktB_nums h
  rw [tbodyV,if_pos h]
  have ei:∀ i,i<5→elt [I t.serial,I t.product,I t.zones,I t.from_,I t.key] 1 i=[I (t.nums.getD i 0)]:=fun i hi => elt_I t.nums i hi
  generalize hV:[I t.serial,I t.product,I t.zones,I t.from_,I t.key]=V at ei ⊢
  have lV:V.length=5:=by rw [← hV]; rfl
  have l5:t.nums.length=5:=rfl
  generalize t.nums=ns at ei hw l5 ⊢
  have nl:=nFlds_len ns
  generalize ho:(⟨t.cells,0,true⟩:AObj)=o
  refine w_loop _ (fun (i:Nat) => ([(4,rA (H++[o]) (fcs ((nFlds ns).take i)) i),(21,.view V 5 true),(22,I 5),(23,I i)],hA 2 (H++[o]) (fcs ((nFlds ns).take i)) i))
   (fun i => i≤5) (fun i => 5 - i) 0 (Nat.zero_le _) rfl ?_
  intro i hi
  simp only [go_sem]
  refine ⟨fun hh => ?_,fun hh => ?_⟩
  ·have hlt:i<5:=by omega
   have w1:IntKind.i64.wrap ((i:Int)+1)=((i+1:Nat):Int):=by rw [w64 _ (by omega) (by omega)]; omega
   simp only [go_sem,ei i hlt,lV,w1]
   obtain ⟨n,hn⟩:=Int.eq_ofNat_of_zero_le (hw i).1
   have hn2:=(hw i).2
   rw [hn]
   refine ⟨⟨by omega,by omega⟩,callW_some (t_Number (by omega)) (fun _ => rfl) ?_⟩
   have ef:(nFlds ns).getD i noF=⟨((i+1:Nat):Int),beN 8 n,vB (beN 8 n) false⟩:=by
    rw [nFlds_get ns (by omega),nFld,hn]; rfl
   have sn:=take_snoc (show i<(nFlds ns).length by omega) noF
   have fn:fcs ((nFlds ns).take (i+1))=fcs ((nFlds ns).take i)++[I ((i+1:Nat):Int),vB (beN 8 n) false]:=by
    rw [sn,ef,fcs,List.flatMap_append]; rfl
   obtain ⟨h1,h2,h3⟩:=build_app (H:=H++[o]) (sz:=2) (n:=i) (vs:=fcs ((nFlds ns).take i)) (by rw [fcs_len,List.length_take]; omega) (s:=.view [I ((i+1:Nat):Int),vB (beN 8 n) false] 1 true) (cs:=[I ((i+1:Nat):Int),vB (beN 8 n) false]) (b:=32) rfl rfl rfl rfl (by omega)
   simp only [go_sem,fillOk,fillv,w1,h2,h3]
   simp only [go_sem,pure_bs,vB] at h1
   refine ⟨pure_bs _,h1,i+1,?_,?_,by omega,by omega⟩
   ·rw [fn]
   ·rw [fn]
  ·obtain rfl:i=5:=by omega
   rw [List.take_of_length_le (by omega)]
   refine callW_some (t_Put (by
    have:=build_sl (H:=H++[o]) (sz:=2) (n:=5) (vs:=fcs (nFlds ns)) (by rw [fcs_len,nl,l5])
    rw [nl,l5]; exact this) (fun f hf => by obtain ⟨i,n,rfl⟩:=nFlds_mem hf; exact nFld_sl _ _ _) (by omega)) (fun _ => rfl) ?_
   have hl:=putV_low
   have e:hA 2 (H++[o]) (fcs (nFlds ns)) 5=(H++[o])++[⟨fcs (nFlds ns),2,true⟩]:=rfl
   rw [e]
   have hlow:=fun G => putV_low (renk H.length []) G (nFlds ns)
   unfold putV at hlow ⊢
   split
   ·rename_i hf
    simp only [hf,if_true] at hlow
    simp only [go_sem]
    exact leave_drop (hlow _)
   ·simp only [go_sem]
    exact leave_drop rfl
structure Rec where
 dev:Int
 seq:Int
 min_:Int
 kind:Int
 stop:Int
 zone:Int
 serial:Int
 verdict:Int
 prev:List UInt8
 b:List UInt8
 e:AV
def Rec.nums (r:Rec):List AV:=[I r.dev,I r.seq,I r.min_,I r.kind,I r.stop,I r.zone,I r.serial,I r.verdict]
def Rec.cells (r:Rec):List AV:=r.nums++(bs r.prev++[r.e])
def Rec.ok (r:Rec):Prop:=r.prev.length=32∧r.b.length≤1000000∧∀ H,Sl 1 H r.e (bs r.b) r.b.length
abbrev z32:List UInt8:=List.replicate 32 0
def noRec:Rec:=⟨0,0,0,0,0,0,0,0,z32,[],nilS⟩
def recB (r:Rec):Bool:=((((((inB 0 31 r.stop&&inB 0 7 r.zone)&&(if r.kind=1 then inB 1 7 r.verdict&&decide (r.b.length≤500) else (r.verdict == 0&&decide (r.b.length=0))&&inB 2 3 r.kind))&&inB 1 2147483647 r.dev)&&inB 0 1073741824 r.seq)&&inB 0 1073741824 r.min_)&&inB 0 2147483647 r.serial)
theorem noRec_ok:noRec.ok:=⟨rfl,by decide,fun H => .nil⟩
section
variable {r:Rec}
theorem rec_len (h:r.ok):r.cells.length=41:=by simp [Rec.cells,Rec.nums,h.1]
theorem rec_one (h:r.ok):r.cells.all AV.one=true:=by
 rw [Rec.cells,List.all_append,List.all_append,one_bs]
 have:=(h.2.2 []).one
 simp only [List.all_cons,List.all_nil,this,Bool.and_true]
 rfl
theorem rec_ne:r.cells.isEmpty=false:=rfl
theorem rec_take (h:r.ok):r.cells.take 41=r.cells:=List.take_of_length_le (by rw [rec_len h]; exact Nat.le_refl _)
theorem rec_g0:r.cells.getD 0 .junk=I r.dev:=rfl
theorem rec_g1:r.cells.getD 1 .junk=I r.seq:=rfl
theorem rec_g2:r.cells.getD 2 .junk=I r.min_:=rfl
theorem rec_g3:r.cells.getD 3 .junk=I r.kind:=rfl
theorem rec_g4:r.cells.getD 4 .junk=I r.stop:=rfl
theorem rec_g5:r.cells.getD 5 .junk=I r.zone:=rfl
theorem rec_g6:r.cells.getD 6 .junk=I r.serial:=rfl
theorem rec_g7:r.cells.getD 7 .junk=I r.verdict:=rfl
theorem rec_g40 (h:r.ok):r.cells.getD 40 .junk=r.e:=by
 rw [Rec.cells,List.getD_eq_getElem?_getD,List.getElem?_append_right (by show 8≤40; decide)]
 show ((bs r.prev++[r.e])[32]?).getD .junk=r.e
 rw [List.getElem?_append_right (by rw [bs_len,h.1]; exact Nat.le_refl _),bs_len,h.1]; rfl
theorem rec_prev (h:r.ok):(r.cells.drop 8).take 32=bs r.prev:=by
 rw [Rec.cells,List.drop_left' (show r.nums.length=8 from rfl),List.take_left' (by rw [bs_len,h.1])]
theorem rec_spl {r':Rec} (h:r.ok) (h':r'.ok):splice r.cells 0 r'.cells=r'.cells:=splice_all (by rw [rec_len h,rec_len h'])
end
theorem t_rwithin (n a b:Int) (H:AH):Called Try.prog F.record_within [I n,I a,I b] H (Bl (inB a b n)) H:=by
 refine e_record_within ?_
 simp only [ic_record_within,go_sem]
 exact leave_same rfl
theorem recMay_tail {H:AH} (r:Rec) (h:r.ok) (p o:Bool) (ex:List (Nat × AV)):iwp (pfx false) (Called Try.prog) ic_record_May_39 (retQ [.t 2] H (Bl ((((((p&&o)&&inB 1 2147483647 r.dev)&&inB 0 1073741824 r.seq)&&inB 0 1073741824 r.min_)&&inB 0 2147483647 r.serial))) H) (look ((1,.ptr H.length 0)::(3,Bl p)::(4,Bl o)::ex)) (H++[⟨r.cells,0,true⟩]):=by
 have hl:=rec_len h
 simp only [ic_record_May_39,go_sem,hl,rec_g0]
 refine callG_of (fun _ => t_rwithin _ _ _ _) ?_
 simp only [go_sem,hl,rec_g1]
 refine callG_of (fun _ => t_rwithin _ _ _ _) ?_
 simp only [go_sem,hl,rec_g2]
 refine callG_of (fun _ => t_rwithin _ _ _ _) ?_
 simp only [go_sem,hl,rec_g6]
 refine callG_of (fun _ => t_rwithin _ _ _ _) ?_
 simp only [go_sem]
 exact leave_drop rfl
theorem t_recMay {H:AH} (r:Rec) (h:r.ok):Called Try.prog F.record_May [.agg r.cells] H (Bl (recB r)) H:=by
 refine e_record_May ?_
 have hl:=rec_len h
 have he:=fun H => (h.2.2 H).s
 simp only [ic_record_May,go_sem,rec_one h,rec_ne,hl,rec_g4]
 refine callW_some (t_rwithin _ _ _ _) (fun _ => rfl) ?_
 simp only [go_sem,hl,rec_g5]
 refine callG_of (fun _ => t_rwithin _ _ _ _) ?_
 simp only [go_sem,hl,rec_g7,rec_g40 h,(he []),rec_g3]
 refine callG_of (fun _ => t_rwithin _ _ _ _) ?_
 simp only [go_sem,hl,rec_g3]
 refine ⟨fun hk => ?_,fun hk => ?_⟩
 ·have hk':r.kind=1:=by simpa using hk
  simp only [rec_g7]
  refine callW_some (t_rwithin _ _ _ _) (fun _ => rfl) ?_
  simp only [go_sem,hl,rec_g40 h,(he [])]
  have e:recB r=((((((inB 0 31 r.stop&&inB 0 7 r.zone)&&(inB 1 7 r.verdict&&decide ((r.b.length:Int)≤500)))&&inB 1 2147483647 r.dev)&&inB 0 1073741824 r.seq)&&inB 0 1073741824 r.min_)&&inB 0 2147483647 r.serial):=by
   rw [recB,if_pos hk',show decide (r.b.length≤500)=decide ((r.b.length:Int)≤500) by congr 1; apply propext; omega]
  rw [e]
  exact recMay_tail r h _ _ _
 ·have hk':¬ r.kind=1:=by simpa using hk
  have e:recB r=((((((inB 0 31 r.stop&&inB 0 7 r.zone)&&((r.verdict == 0&&(r.b.length:Int) == 0)&&inB 2 3 r.kind))&&inB 1 2147483647 r.dev)&&inB 0 1073741824 r.seq)&&inB 0 1073741824 r.min_)&&inB 0 2147483647 r.serial):=by
   rw [recB,if_neg hk',show decide (r.b.length=0)=((r.b.length:Int) == 0) by rw [Bool.eq_iff_iff,decide_eq_true_eq,beq_iff_eq]; omega]
  rw [e]
  exact recMay_tail r h _ _ _
set_option maxRecDepth 10000
def srcO (f:Fld):AObj:=⟨[I f.tag,f.e],2,true⟩
def addT (fs:List Fld):AH:=match fs with | [] => [] | f::r => srcO f::⟨fcs (f::r),2,true⟩::r.map srcO
def addX (n m:Nat):AV:=if m=0 then nilS else .row (n+3) 0 m (2*m)
def addH (H:AH) (o:AObj) (fs:List Fld):AH:=H++(o::⟨[addX H.length fs.length],0,true⟩::addT fs)
theorem addX_0 (n:Nat):addX n 0=nilS:=rfl
theorem addX_s (n m:Nat):addX n (m+1)=.row (n+3) 0 (m+1) (2*(m+1)):=rfl
theorem t_add {H:AH} {o:AObj} {fs:List Fld} {e:AV} {b:List UInt8} (he:Sl 1 (addH H o fs) e (bs b) b.length) (hn:fs.length≤100):Called Try.prog F.record_Body_1 [e,.ptr (H.length+1) 0] (addH H o fs) (.tup []) (addH H o (fs++[⟨((fs.length+1:Nat):Int),b,e⟩])):=by
 refine e_record_Body_1 ?_
 cases fs with
 | nil =>
  simp only [ic_record_Body_1,addH,addT,addX_0,addX_s,go_sem,he.s,fillOk,fillv]
  exact ⟨by decide,Leave.refl _ _ _⟩
 | cons f r =>
  have w1:IntKind.i64.wrap (((r.length+1:Nat):Int)+1)=((r.length+1+1:Nat):Int):=by
   rw [w64 _ (by omega) (by simp only [List.length_cons] at hn; omega)]; omega
  simp only [ic_record_Body_1,addH,addT,addX_0,addX_s,go_sem,he.s,fillOk,fillv,w1]
  have fl:=fcs_len (f::r)
  have hr:r.length+1≤100:=hn
  have rl:(r.map srcO).length=r.length:=List.length_map _
  have e1:appL 2 0 (r.length+1) 1 2 (2*(r.length+1))=2*(r.length+1+1):=by rw [appL_end (by omega)]; omega
  have e2:appC 2 (fcs (f::r)) [I ((r.length+1+1:Nat):Int),e] 0 (r.length+1) 1 (2*(r.length+1))=fcs (f::(r++[⟨((r.length+1+1:Nat):Int),b,e⟩])):=by
   rw [appC_end (by omega),← List.cons_append,fcs,fcs,List.flatMap_append]; rfl
  have e3:(r++[(⟨((r.length+1+1:Nat):Int),b,e⟩:Fld)]).map srcO=r.map srcO++[⟨[I ((r.length+1+1:Nat):Int),e],2,true⟩]:=by rw [List.map_append]; rfl
  rw [e1,e2,e3]
  refine ⟨by omega,by omega,⟨by omega,by omega,by rw [fl,List.length_cons]; omega,by omega⟩,by omega,Leave.refl _ _ _⟩
def Rec.ns (r:Rec):List Int:=[r.dev,r.seq,r.min_,r.kind,r.stop,r.zone,r.serial,r.verdict]
def recF (r:Rec) (x:AV):List Fld:=nFlds r.ns++[⟨9,r.prev,x⟩,⟨10,r.b,r.e⟩]
def rbodyV (r:Rec):AV:=if recB r=true then putV (recF r nilS) else .tup [nilS,.lit (.iface T.api_Code (.int .i64 1))]
theorem recB_ns {r:Rec} (h:recB r=true):(∀ i:Nat,0≤r.ns.getD i 0∧r.ns.getD i 0<9223372036854775808)∧r.b.length≤500:=by
 simp only [recB,inB,Bool.and_eq_true,decide_eq_true_eq] at h
 have hk:(1≤r.verdict∧r.verdict≤7∧r.b.length≤500∧r.kind=1)∨(r.verdict=0∧r.b.length=0∧2≤r.kind∧r.kind≤3):=by
  have:=h.1.1.1.1.2
  split at this
  ·simp only [Bool.and_eq_true,decide_eq_true_eq] at this; left; omega
  ·simp only [Bool.and_eq_true,decide_eq_true_eq,beq_iff_eq] at this; right; omega
 refine ⟨fun i => ?_,by omega⟩
 match i with
 | 0 => show 0≤r.dev∧r.dev<_; omega
 | 1 => show 0≤r.seq∧r.seq<_; omega
 | 2 => show 0≤r.min_∧r.min_<_; omega
 | 3 => show 0≤r.kind∧r.kind<_; omega
 | 4 => show 0≤r.stop∧r.stop<_; omega
 | 5 => show 0≤r.zone∧r.zone<_; omega
 | 6 => show 0≤r.serial∧r.serial<_; omega
 | 7 => show 0≤r.verdict∧r.verdict<_; omega
 | i+8 => exact ⟨Int.le_refl 0,by show (0:Int)<_; omega⟩
theorem recF_len (r:Rec) (x:AV):(recF r x).length=10:=rfl
theorem addH_row (H:AH) (o:AObj) (fs:List Fld) (h:fs.length≠0):obj (addH H o fs) (H.length+3)=⟨fcs fs,2,true⟩∧H.length+3<(addH H o fs).length:=by
 cases fs with
 | nil => exact absurd rfl h
 | cons f r => exact ⟨obj_appk ..,by simp [addH,addT]⟩
theorem recF_get (r:Rec) (hr:r.ok) (hb:r.b.length≤500) (x:AV):∀ i:Nat,i<10→((recF r x).getD i noF).tag=(i:Int)+1∧((recF r x).getD i noF).b.length≤65535:=by
 intro i hi
 have h1:=hr.1
 match i,hi with
 | 0,_ => exact ⟨rfl,by show (beN 8 _).length≤_; rw [beN_length]; decide⟩
 | 1,_ => exact ⟨rfl,by show (beN 8 _).length≤_; rw [beN_length]; decide⟩
 | 2,_ => exact ⟨rfl,by show (beN 8 _).length≤_; rw [beN_length]; decide⟩
 | 3,_ => exact ⟨rfl,by show (beN 8 _).length≤_; rw [beN_length]; decide⟩
 | 4,_ => exact ⟨rfl,by show (beN 8 _).length≤_; rw [beN_length]; decide⟩
 | 5,_ => exact ⟨rfl,by show (beN 8 _).length≤_; rw [beN_length]; decide⟩
 | 6,_ => exact ⟨rfl,by show (beN 8 _).length≤_; rw [beN_length]; decide⟩
 | 7,_ => exact ⟨rfl,by show (beN 8 _).length≤_; rw [beN_length]; decide⟩
 | 8,_ => exact ⟨rfl,by show r.prev.length≤_; omega⟩
 | 9,_ => exact ⟨rfl,by show r.b.length≤_; omega⟩
theorem recF_flds {r:Rec} (hr:r.ok) (hb:r.b.length≤500) (x:AV):fldsB (recF r x)=true:=by
 have hg:=recF_get r hr hb x
 rw [fldsB_ok fun i hi => ?_]
 ·rfl
 ·rw [recF_len] at hi
  have h1:=hg i hi
  have h2:=hg (i - 1) (by omega)
  simp only [fldBad,Bool.or_eq_false_iff,Bool.and_eq_false_iff,decide_eq_false_iff_not]
  omega
def recP (r:Rec):List UInt8:=putB (recF r nilS)
theorem putV_recF {r:Rec} (hr:r.ok) (hb:r.b.length≤500) (x:AV):putV (recF r x)=.tup [vB (recP r) false,.lit .nilIface]:=by
 rw [putV,if_pos (recF_flds hr hb x)]
 have:putB (recF r x)=recP r:=by
  rw [recP,putB,putB,recF,recF,List.flatMap_append,List.flatMap_append]; rfl
 rw [this]
theorem addH_o (H:AH) (o:AObj) (fs:List Fld):obj (addH H o fs) H.length=o:=obj_app0 ..
theorem addH_c (H:AH) (o:AObj) (fs:List Fld):obj (addH H o fs) (H.length+1)=⟨[addX H.length fs.length],0,true⟩:=obj_appk ..
theorem addH_len (H:AH) (o:AObj) (fs:List Fld):H.length+2≤(addH H o fs).length:=by
 rw [addH,List.length_append,List.length_cons,List.length_cons]; omega
theorem t_rBody {r:Rec} (hr:r.ok) (H:AH):Called Try.prog F.record_Body [.agg r.cells] H (rbodyV r) H:=by
 refine e_record_Body ?_
 simp only [ic_record_Body,go_sem,rec_ne,rec_one hr,rec_len hr,rec_take hr]
 refine callW_some (t_recMay r hr) (fun _ => rfl) ?_
 simp only [go_sem]
 refine ⟨fun h => ?_,fun h => ?_⟩
 ·have h:recB r=false:=by simpa using h
  rw [rbodyV,if_neg (by rw [h]; decide)]
  exact leave_drop rfl
 ·have h:recB r=true:=by simpa using h
  obtain ⟨hw,hb⟩:=recB_ns h
  rw [rbodyV,if_pos h]
  simp only [rec_len hr,rec_g0,rec_g1,rec_g2,rec_g3,rec_g4,rec_g5,rec_g6,rec_g7,rec_g40 hr,go_sem,fillOk,fillv]
  have vi:[I r.dev,I r.seq,I r.min_,I r.kind,I r.stop,I r.zone,I r.serial,I r.verdict]=r.ns.map I:=rfl
  have gi:∀ i,i<8→[I r.dev,I r.seq,I r.min_,I r.kind,I r.stop,I r.zone,I r.serial,I r.verdict].getD i .junk=I (r.ns.getD i 0):=fun i hi => by
   rw [vi,List.getD_eq_getElem?_getD,List.getElem?_map,List.getD_eq_getElem?_getD,List.getElem?_eq_getElem (show i<r.ns.length from hi)]; rfl
  generalize hV:[I r.dev,I r.seq,I r.min_,I r.kind,I r.stop,I r.zone,I r.serial,I r.verdict]=V at gi ⊢
  have lV:V.length=8:=by rw [← hV]; rfl
  have l8:r.ns.length=8:=rfl
  have nl:=nFlds_len r.ns
  refine w_loop _ (fun (i:Nat) => ([(1,.ptr H.length 0),(4,.ptr (H.length+1) 0),(5,.fn (.func F.record_Body_1) [] [.ptr (H.length+1) 0]),(29,.agg V),(30,I i)],addH H ⟨r.cells,0,true⟩ ((nFlds r.ns).take i)))
   (fun i => i≤8) (fun i => 8 - i) 0 (Nat.zero_le _) rfl ?_
  intro i hi
  simp only [go_sem]
  refine ⟨fun hh => ?_,fun hh => ?_⟩
  ·have hlt:i<8:=by omega
   have w1:IntKind.i64.wrap ((i:Int)+1)=((i+1:Nat):Int):=by rw [w64 _ (by omega) (by omega)]; omega
   simp only [go_sem,gi i hlt,lV,w1]
   obtain ⟨n,hn⟩:=Int.eq_ofNat_of_zero_le (hw i).1
   have hn2:=(hw i).2
   rw [hn]
   refine ⟨⟨by omega,by omega⟩,callW_some (t_Number (by omega)) (fun _ => rfl) ?_⟩
   have tl:((nFlds r.ns).take i).length=i:=by rw [List.length_take]; omega
   have ta:=t_add (H:=H) (o:=⟨r.cells,0,true⟩) (fs:=(nFlds r.ns).take i) (e:=vB (beN 8 n) false) (b:=beN 8 n) (Sl.vB _ _) (by omega)
   have ef:(nFlds r.ns).getD i noF=⟨((i+1:Nat):Int),beN 8 n,vB (beN 8 n) false⟩:=by
    rw [nFlds_get r.ns (by omega),nFld,hn]; rfl
   have sn:=take_snoc (show i<(nFlds r.ns).length by omega) noF
   rw [ef] at sn
   rw [tl,← sn] at ta
   simp only [go_sem]
   refine callW_some ta (fun h => absurd h (by decide)) ?_
   simp only [go_sem,w1]
   exact ⟨i+1,rfl,rfl,by omega,by omega⟩
  ·obtain rfl:i=8:=by omega
   rw [List.take_of_length_le (by omega)]
   have fl:(nFlds r.ns).length=8:=nl
   have al:=addH_len H ⟨r.cells,0,true⟩ (nFlds r.ns)
   have hp:Sl 1 (addH H ⟨r.cells,0,true⟩ (nFlds r.ns)) (.row H.length 8 32 41) (bs r.prev) r.prev.length:=by
    rw [hr.1]
    exact .row (by omega) (by rw [addH_o]; exact (rec_len hr).symm) (by decide) (by rw [addH_o]; exact rec_prev hr) (.inr (by rw [addH_o]))
   have ta:=t_add (b:=r.prev) hp (by omega)
   rw [fl] at ta
   simp only [addH_o,addH_c,rec_len hr,go_sem]
   refine ⟨⟨by omega,by decide⟩,callW_some ta (fun h => absurd h Bool.false_ne_true) ?_⟩
   have al2:=addH_len H ⟨r.cells,0,true⟩ (nFlds r.ns++[⟨((8+1:Nat):Int),r.prev,.row H.length 8 32 41⟩])
   have al3:=addH_len H ⟨r.cells,0,true⟩ (recF r (.row H.length 8 32 41))
   have ta2:=t_add (H:=H) (o:=⟨r.cells,0,true⟩) (fs:=nFlds r.ns++[⟨((8+1:Nat):Int),r.prev,.row H.length 8 32 41⟩]) (hr.2.2 _) (by rw [List.length_append,fl]; show 8+1≤100; decide)
   rw [List.length_append,fl] at ta2
   simp only [addH_o,addH_c,rec_len hr,rec_g40 hr,go_sem]
   have er:nFlds r.ns++[⟨((8+1:Nat):Int),r.prev,.row H.length 8 32 41⟩]++[⟨((8+1+1:Nat):Int),r.b,r.e⟩]=recF r (.row H.length 8 32 41):=by rw [List.append_assoc]; rfl
   rw [show ([(⟨((8+1:Nat):Int),r.prev,.row H.length 8 32 41⟩:Fld)].length)=1 from rfl,er] at ta2
   refine ⟨Nat.lt_of_lt_of_le (Nat.lt_succ_of_lt (Nat.lt_succ_self _)) al2,callW_some ta2 (fun h => absurd h Bool.false_ne_true) ?_⟩
   have rl:=recF_len r (.row H.length 8 32 41)
   have ex:addX H.length 10=.row (H.length+3) 0 10 20:=rfl
   simp only [addH_o,addH_c,rl,ex,go_sem]
   have hs:Sl 2 (addH H ⟨r.cells,0,true⟩ (recF r (.row H.length 8 32 41))) (.row (H.length+3) 0 10 20) (fcs (recF r (.row H.length 8 32 41))) (recF r (.row H.length 8 32 41)).length:=by
    obtain ⟨e1,e2⟩:=addH_row H ⟨r.cells,0,true⟩ (recF r (.row H.length 8 32 41)) (by rw [rl]; decide)
    have fl2:=fcs_len (recF r (.row H.length 8 32 41))
    rw [rl] at fl2 ⊢
    exact .row e2 (by rw [e1,fl2]) (by decide) (by rw [e1]; exact List.take_of_length_le (by rw [List.drop_zero,fl2]; exact Nat.le_refl _)) (.inl (by rw [e1]))
   have hp3:Sl 1 (addH H ⟨r.cells,0,true⟩ (recF r (.row H.length 8 32 41))) (.row H.length 8 32 41) (bs r.prev) r.prev.length:=by
    rw [hr.1]
    exact .row (by omega) (by rw [addH_o]; exact (rec_len hr).symm) (by decide) (by rw [addH_o]; exact rec_prev hr) (.inr (by rw [addH_o]))
   refine ⟨by omega,callW_some (t_Put hs (fun f hf => ?_) (by rw [rl]; decide)) (fun _ => rfl) ?_⟩
   ·rcases List.mem_append.1 hf with hf | hf
    ·obtain ⟨i,n,rfl⟩:=nFlds_mem hf; exact nFld_sl _ _ _
    ·simp only [List.mem_cons,List.not_mem_nil,or_false] at hf
     rcases hf with rfl | rfl
     ·exact hp3
     ·exact hr.2.2 _
   ·rw [putV_recF hr hb,putV_recF hr hb]
    simp only [go_sem]
    exact leave_drop (by simp only [low,lowL,vB,lowL_bs])
def tagsB (l:List Fld) (n:Nat):Bool:=decide (l.length=n)&&decide (∀ i,i<l.length→(l.getD i noF).tag=i+1)
def fieldsO (b:List UInt8) (n:Nat):Option (List Fld):=(getS b).bind fun l => if tagsB l n then some l else none
def fieldsV (o:Option (List Fld)):AV:=match o with
 | some l => .view (l.map Fld.e) l.length false
 | none => nilS
theorem fieldsO_mem {b:List UInt8} {n:Nat} {l:List Fld} (h:fieldsO b n=some l):(∀ f ∈ l,f.e=vB f.b false∧f.b.length≤b.length)∧l.length=n:=by
 unfold fieldsO at h
 cases hg:getS b with
 | none => rw [hg] at h; cases h
 | some m =>
  rw [hg] at h
  have h:(if tagsB m n then some m else none)=some l:=h
  by_cases hb:tagsB m n=true
  ·rw [if_pos hb] at h
   cases h
   simp only [tagsB,Bool.and_eq_true,decide_eq_true_eq] at hb
   exact ⟨(getS_mem hg).1,hb.1⟩
  ·rw [if_neg hb] at h; cases h
theorem t_fields {H:AH} {x:AV} {b:List UInt8} (hx:Sl 1 H x (bs b) b.length) (hn:b.length≤100000) (n:Nat) (hN:n≤100):Called Try.prog F.record_fields [x,I n] H (fieldsV (fieldsO b n)) H:=by
 refine e_record_fields ?_
 simp only [ic_record_fields,go_sem,hx.s]
 refine callW_some (t_Get hx hn) (fun _ => rfl) ?_
 cases hg:getS b with
 | none =>
  have e:fieldsO b n=none:=by rw [fieldsO,hg]; rfl
  rw [e]
  simp only [getV,go_sem]
  exact leave_same rfl
 | some l =>
  obtain ⟨hm,h64⟩:=getS_mem hg
  simp only [getV,go_sem]
  have eO:fieldsO b n=if tagsB l n then some l else none:=by rw [fieldsO,hg]; rfl
  rw [eO]
  refine ⟨fun h => leave_same ?_,fun h => ?_⟩
  ·have:¬ l.length=n:=by have h:¬ (l.length:Int)=n:=by simpa using h
                         omega
   have hb:tagsB l n=false:=by rw [tagsB,decide_eq_false this,Bool.false_and]
   rw [hb]; rfl
  ·have hl:l.length=n:=by have h:(l.length:Int)=n:=by simpa using h
                          omega
   have hb:tagsB l n=decide (∀ i,i<l.length→(l.getD i noF).tag=i+1):=by rw [tagsB,decide_eq_true hl,Bool.true_and]
   refine w_loop _ (fun (s:Nat × AV × AH) => ([(7,s.2.1),(23,.view (fcs l) l.length false),(24,I l.length),(25,I s.1)],H++s.2.2))
    (fun s => s.1≤l.length∧GR (H++s.2.2) s.2.1 ((l.take s.1).map Fld.e)∧(∀ q,rid s.2.1=some q→H.length≤q)∧∀ j,j<s.1→(l.getD j noF).tag=j+1) (fun s => l.length - s.1) (0,nilS,[]) ⟨Nat.zero_le _,.inl ⟨rfl,rfl⟩,fun q h => rid_nil h,fun j hj => absurd hj (Nat.not_lt_zero j)⟩ (by rw [List.append_nil]; rfl) ?_
   rintro ⟨i,x,G⟩ ⟨hi,hg,hq,hj⟩
   dsimp only at hi hg hq hj
   have vl:((l.take i).map Fld.e).length=i:=by rw [List.length_map,List.length_take]; omega
   simp only [go_sem]
   refine ⟨fun hh => ?_,fun hh => ?_⟩
   ·have hlt:i<l.length:=by omega
    obtain ⟨he,hbl⟩:=hm _ (getD_memP noF hlt)
    have hs:∀ G,Sl 1 G (l.getD i noF).e (bs (l.getD i noF).b) (l.getD i noF).b.length:=fun G => by rw [he]; exact Sl.vB _ _
    have hp:(l.getD i noF).e.pure=true:=by rw [he]; exact pure_bs _
    have el:elt (fcs l) 2 i=[I (l.getD i noF).tag,(l.getD i noF).e]:=elt_flat _ 2 Fld.len _ _ noF hlt
    have fl:=fcs_len l
    have hsn:=take_snoc hlt noF
    have w1:IntKind.i64.wrap ((i:Int)+1)=((i+1:Nat):Int):=by rw [w64 _ (by omega) (by omega)]; omega
    have ib:(0:Int)≤i∧(i:Int)<l.length:=⟨by omega,by omega⟩
    simp only [el,fl,go_sem,(hs []).s,w1,hg.sl.s,hp,fillOk,fillv]
    refine ⟨ib,fun h => leave_drop ?_,fun h => ?_⟩
    ·have h:¬ (l.getD i noF).tag=((i+1:Nat):Int):=by simpa using h
     have bad:tagsB l n=false:=by
      rw [hb,decide_eq_false_iff_not]; exact fun h2 => h (by rw [h2 i hlt]; omega)
     rw [bad]; rfl
    ·have h:(l.getD i noF).tag=((i+1:Nat):Int):=by simpa using h
     obtain ⟨⟨_,_,c3,c4⟩,K',g1,g2,g3⟩:=(hg.more hq ⟨[I (l.getD i noF).tag,(l.getD i noF).e],0,true⟩).step (b:=24) hq (s:=.view [(l.getD i noF).e] 1 true) (v:=(l.getD i noF).e) rfl rfl rfl (hs []).one (by rw [vl]; omega)
     refine ⟨⟨by rw [vl]; omega,c4⟩,(i+1,_,K'),rfl,g1,⟨by show i+1≤_; omega,?_,g3,fun j hj' => ?_⟩,by show _ - (i+1)<_; omega⟩
     ·show GR (H++K') _ ((l.take (i+1)).map _)
      rw [hsn,List.map_append]
      exact g2
     ·rcases Nat.lt_succ_iff_lt_or_eq.1 hj' with h1 | rfl
      ·exact hj j h1
      ·exact h
   ·obtain rfl:i=l.length:=by omega
    rw [hb,decide_eq_true hj,if_pos rfl]
    refine leave_drop_le ?_
    rw [List.take_of_length_le (Nat.le_refl _)] at hg
    refine hg.viewS hq (pureL_all fun a ha => ?_) (List.length_map _)
    obtain ⟨f,hf,rfl⟩:=List.mem_map.1 ha
    rw [(hm f hf).1]; exact pure_bs _
def recL (l:List Fld):Rec:=⟨numO (l.getD 0 noF).b,numO (l.getD 1 noF).b,numO (l.getD 2 noF).b,numO (l.getD 3 noF).b,numO (l.getD 4 noF).b,numO (l.getD 5 noF).b,numO (l.getD 6 noF).b,numO (l.getD 7 noF).b,(l.getD 8 noF).b,(l.getD 9 noF).b,if 0<(l.getD 9 noF).b.length then (l.getD 9 noF).e else nilS⟩
def readOk (l:List Fld):Bool:=decide ((l.getD 8 noF).b.length=32)&&decide (∀ i:Nat,i<8→0≤numO (l.getD i noF).b)
def readR (b:List UInt8):Rec:=match fieldsO b 10 with
 | some l => if readOk l then recL l else noRec
 | none => noRec
theorem recL_ok {b:List UInt8} {l:List Fld} (h:fieldsO b 10=some l) (hn:b.length≤100000) (h8:(l.getD 8 noF).b.length=32):(recL l).ok:=by
 obtain ⟨hm,hl⟩:=fieldsO_mem h
 obtain ⟨he,hb⟩:=hm _ (getD_memP noF (show 9<l.length by omega))
 refine ⟨h8,by show (l.getD 9 noF).b.length≤_; omega,fun H => ?_⟩
 show Sl 1 H (if 0<(l.getD 9 noF).b.length then (l.getD 9 noF).e else nilS) (bs (l.getD 9 noF).b) (l.getD 9 noF).b.length
 split
 ·rw [he]; exact Sl.vB _ _
 ·have:(l.getD 9 noF).b=[]:=List.eq_nil_of_length_eq_zero (by omega)
  rw [this]; exact .nil
theorem readR_ok {b:List UInt8} (hn:b.length≤100000):(readR b).ok:=by
 unfold readR
 split
 ·rename_i l h
  by_cases hr:readOk l=true
  ·rw [if_pos hr]
   simp only [readOk,Bool.and_eq_true,decide_eq_true_eq] at hr
   exact recL_ok h hn hr.1
  ·rw [if_neg hr]; exact noRec_ok
 ·exact noRec_ok
set_option maxRecDepth 10000
theorem one_rec_cells {r:Rec} (h:r.ok):r.cells.length=41∧r.cells.all AV.one=true∧r.cells.take 41=r.cells∧(∀ r':Rec,r'.ok→splice r'.cells 0 r.cells=r.cells):=⟨rec_len h,rec_one h,rec_take h,fun r' h' => rec_spl h' h⟩
def Rec.vok (r:Rec):Prop:=r.ok∧(r.e=nilS∨∃ f,r.e=vB r.b f)
theorem lowL_rec {r:Rec} (h:r.vok) (ren:Nat→Option Nat) (H:AH):lowL ren H r.cells=r.cells:=by
 rw [Rec.cells,lowL_app,lowL_app,lowL_bs]
 have:lowL ren H [r.e]=[r.e]:=by
  rcases h.2 with e | ⟨f,e⟩ <;> rw [e] <;> rfl
 rw [this]; rfl
theorem readR_vok {b:List UInt8} (hn:b.length≤100000):(readR b).vok:=by
 refine ⟨readR_ok hn,?_⟩
 unfold readR
 split
 ·rename_i l h
  by_cases hr:readOk l=true
  ·rw [if_pos hr]
   obtain ⟨hm,hl⟩:=fieldsO_mem h
   obtain ⟨he,hb⟩:=hm _ (getD_memP noF (show 9<l.length by omega))
   show (if 0<(l.getD 9 noF).b.length then (l.getD 9 noF).e else nilS)=nilS∨∃ f,(if 0<(l.getD 9 noF).b.length then (l.getD 9 noF).e else nilS)=vB (l.getD 9 noF).b f
   split
   ·exact .inr ⟨false,he⟩
   ·exact .inl rfl
  ·rw [if_neg hr]; exact .inl rfl
 ·exact .inl rfl
theorem nums_next (N:Nat→Int) {i:Nat} (hi:i<8):((List.range i).map (fun j => I (N j))++List.replicate (8 - i) (I 0)).set i (I (N i))=(List.range (i+1)).map (fun j => I (N j))++List.replicate (8 - (i+1)) (I 0):=by
 rw [List.set_append_right _ _ (by simp),show 8 - i=(8 - (i+1))+1 by omega,List.replicate_succ,List.range_succ,List.map_append]
 simp
def rec0 (l:List Fld):Rec:={ recL l with b:=[],e:=nilS }
theorem rec0_vok {l:List Fld} (h8:(l.getD 8 noF).b.length=32):(rec0 l).ok:=⟨h8,Nat.zero_le _,fun H => .nil⟩
theorem rec0_spl (n0 n1 n2 n3 n4 n5 n6 n7:Int) (d:List UInt8) (hd:d.length=32):splice ((((((((noRec.cells.set 0 (I n0)).set 1 (I n1)).set 2 (I n2)).set 3 (I n3)).set 4 (I n4)).set 5 (I n5)).set 6 (I n6)).set 7 (I n7)) 8 (bs d)=(Rec.mk n0 n1 n2 n3 n4 n5 n6 n7 d [] nilS).cells:=by
 have e:((((((((noRec.cells.set 0 (I n0)).set 1 (I n1)).set 2 (I n2)).set 3 (I n3)).set 4 (I n4)).set 5 (I n5)).set 6 (I n6)).set 7 (I n7))=[I n0,I n1,I n2,I n3,I n4,I n5,I n6,I n7]++(bs z32++[nilS]):=rfl
 have b:(bs d).length=32:=by rw [bs_len,hd]
 rw [e,splice_eq' _ _ _ (by rw [b]; exact Nat.le_succ _),List.take_left' (show [I n0,I n1,I n2,I n3,I n4,I n5,I n6,I n7].length=8 from rfl),b,← List.drop_drop,List.drop_left' (show [I n0,I n1,I n2,I n3,I n4,I n5,I n6,I n7].length=8 from rfl),List.drop_left' (by rw [bs_len]; rfl),List.append_assoc]
 rfl
theorem rec0_sp (l:List Fld) (h8:(l.getD 8 noF).b.length=32):splice ((((((((noRec.cells.set 0 (I (numO (l.getD 0 noF).b))).set 1 (I (numO (l.getD 1 noF).b))).set 2 (I (numO (l.getD 2 noF).b))).set 3 (I (numO (l.getD 3 noF).b))).set 4 (I (numO (l.getD 4 noF).b))).set 5 (I (numO (l.getD 5 noF).b))).set 6 (I (numO (l.getD 6 noF).b))).set 7 (I (numO (l.getD 7 noF).b))) 8 (bs (l.getD 8 noF).b)=(rec0 l).cells:=rec0_spl _ _ _ _ _ _ _ _ _ h8
theorem rec0_set (l:List Fld) (h8:(l.getD 8 noF).b.length=32) (x:AV):(rec0 l).cells.set 40 x={ rec0 l with e:=x }.cells:=by
 show ((rec0 l).nums++(bs (rec0 l).prev++[nilS])).set 40 x=(rec0 l).nums++(bs (rec0 l).prev++[x])
 have b:(bs (rec0 l).prev).length=32:=by rw [bs_len]; exact h8
 rw [List.set_append_right _ _ (show (rec0 l).nums.length≤40 from by show 8≤40; decide)]
 show (rec0 l).nums++(bs (rec0 l).prev++[nilS]).set 32 x=_
 rw [List.set_append_right _ _ (by rw [b]; exact Nat.le_refl _),b]; rfl
def nm8 (l:List Fld) (i:Nat):List AV:=(List.range i).map (fun j => I (numO (l.getD j noF).b))++List.replicate (8 - i) (I 0)
theorem nm8_8 (l:List Fld):nm8 l 8=[I (numO (l.getD 0 noF).b),I (numO (l.getD 1 noF).b),I (numO (l.getD 2 noF).b),I (numO (l.getD 3 noF).b),I (numO (l.getD 4 noF).b),I (numO (l.getD 5 noF).b),I (numO (l.getD 6 noF).b),I (numO (l.getD 7 noF).b)]:=rfl
theorem nm8_len (l:List Fld) {i:Nat} (h:i≤8):(nm8 l i).length=8:=by rw [nm8,List.length_append,List.length_map,List.length_range,List.length_replicate]; omega
theorem nm8_set (l:List Fld) {i:Nat} (hi:i<8):(nm8 l i).set i (I (numO (l.getD i noF).b))=nm8 l (i+1):=nums_next (fun j => numO (l.getD j noF).b) hi
def recZ:List Value:=[.int .i64 0,.int .i64 0,.int .i64 0,.int .i64 0,.int .i64 0,.int .i64 0,.int .i64 0,.int .i64 0,.int .u8 0,.int .u8 0,.int .u8 0,.int .u8 0,.int .u8 0,.int .u8 0,.int .u8 0,.int .u8 0,.int .u8 0,.int .u8 0,.int .u8 0,.int .u8 0,.int .u8 0,.int .u8 0,.int .u8 0,.int .u8 0,.int .u8 0,.int .u8 0,.int .u8 0,.int .u8 0,.int .u8 0,.int .u8 0,.int .u8 0,.int .u8 0,.int .u8 0,.int .u8 0,.int .u8 0,.int .u8 0,.int .u8 0,.int .u8 0,.int .u8 0,.int .u8 0,.slice none 0 0]
theorem recZ_eq:([.int .i64 0,.int .i64 0,.int .i64 0,.int .i64 0,.int .i64 0,.int .i64 0,.int .i64 0,.int .i64 0,.int .u8 0,.int .u8 0,.int .u8 0,.int .u8 0,.int .u8 0,.int .u8 0,.int .u8 0,.int .u8 0,.int .u8 0,.int .u8 0,.int .u8 0,.int .u8 0,.int .u8 0,.int .u8 0,.int .u8 0,.int .u8 0,.int .u8 0,.int .u8 0,.int .u8 0,.int .u8 0,.int .u8 0,.int .u8 0,.int .u8 0,.int .u8 0,.int .u8 0,.int .u8 0,.int .u8 0,.int .u8 0,.int .u8 0,.int .u8 0,.int .u8 0,.int .u8 0,.slice none 0 0]:List Value)=recZ:=rfl
theorem recZ_map:recZ.map AV.lit=noRec.cells:=rfl
theorem recZ_len:recZ.length=41:=rfl
theorem t_read {H:AH} {x:AV} {b:List UInt8} (hx:Sl 1 H x (bs b) b.length) (hn:b.length≤100000):Called Try.prog F.record_read [x] H (.agg (readR b).cells) H:=by
 refine e_record_read ?_
 have no1:=one_rec_cells noRec_ok
 have nospl:=rec_spl noRec_ok noRec_ok
 simp only [ic_record_read,recZ_eq]
 simp only [go_sem,hx.s,recZ_map]
 refine callW_some (t_fields hx.app hn 10 (by decide)) (fun _ => rfl) ?_
 cases hf:fieldsO b 10 with
 | none =>
  have e:readR b=noRec:=by rw [readR,hf]
  rw [e]
  have z0:((0:Int) == 0)=true:=rfl
  simp only [fieldsV,go_sem,z0,fillOk,fillv,recZ_map,no1.1,no1.2.1,no1.2.2.1,nospl]
  exact leave_drop rfl
 | some l =>
  obtain ⟨hm,hl⟩:=fieldsO_mem hf
  have e:readR b=if readOk l then recL l else noRec:=by rw [readR,hf]
  rw [e]
  have el:∀ i,i<10→elt (l.map Fld.e) 1 i=[(l.getD i noF).e]:=fun i hi => elt_map1 Fld.e l i (by omega) noF
  have hs:∀ i,i<10→∀ G,Sl 1 G (l.getD i noF).e (bs (l.getD i noF).b) (l.getD i noF).b.length:=fun i hi G => by
   rw [(hm _ (getD_memP noF (show i<l.length by omega))).1]; exact Sl.vB _ _
  have hb:∀ i,i<10→(l.getD i noF).b.length≤100000:=fun i hi => by
   have:=(hm _ (getD_memP noF (show i<l.length by omega))).2; omega
  have l10:(l.map Fld.e).length=10:=by rw [List.length_map,hl]
  have z10:(((10:Nat):Int) == 0)=false:=rfl
  simp only [fieldsV,hl,z10,go_sem,el 8 (by decide),l10,(hs 8 (by decide) []).s,fillOk,fillv,recZ_map,no1.1,no1.2.1,no1.2.2.1,nospl]
  refine ⟨⟨by omega,by omega⟩,fun h => leave_drop ?_,fun h => ?_⟩
  ·have h:¬ (l.getD 8 noF).b.length=32:=by
    intro h2; rw [h2] at h; exact absurd h (by decide)
   have:readOk l=false:=by rw [readOk,decide_eq_false h,Bool.false_and]
   rw [this]; rfl
  ·have h8:(l.getD 8 noF).b.length=32:=by
    have h:((l.getD 8 noF).b.length:Int)=32:=by simpa using h
    omega
   refine w_loop _ (fun (s:Nat) => ([(2,.ptr H.length 0),(3,.view (l.map Fld.e) 10 false),(4,.ptr (H.length+1) 0),(22,I s)],H++[⟨noRec.cells,0,true⟩,⟨nm8 l s,0,true⟩]))
    (fun s => s≤8∧∀ j,j<s→0≤numO (l.getD j noF).b) (fun s => 8 - s) 0 ⟨Nat.zero_le _,fun j hj => absurd hj (Nat.not_lt_zero j)⟩ rfl ?_
   rintro i ⟨hi,hj⟩
   simp only [go_sem]
   refine ⟨fun hh => ?_,fun hh => ?_⟩
   ·have hlt:i<8:=by omega
    have ib:(0:Int)≤i∧(i:Int)<((10:Nat):Int):=⟨by omega,by omega⟩
    have ib8:(0:Int)≤i∧(i:Int)<((8:Nat):Int):=⟨by omega,by omega⟩
    have w1:IntKind.i64.wrap ((i:Int)+1)=((i+1:Nat):Int):=by rw [w64 _ (by omega) (by omega)]; omega
    simp only [go_sem,el i (by omega),l10,(hs i (by omega) []).s]
    refine ⟨ib,callW_some (t_tOf (hs i (by omega) _) (by have:=hb i (by omega); omega)) (fun _ => rfl) ?_⟩
    by_cases hneg:numO (l.getD i noF).b<0
    ·rw [if_pos hneg]
     simp only [go_sem,fillOk,fillv,recZ_map,no1.1,no1.2.1,no1.2.2.1,nospl]
     have:readOk l=false:=by
      have:¬ ∀ i:Nat,i<8→0≤numO (l.getD i noF).b:=fun h => by have:=h i hlt; omega
      rw [readOk,decide_eq_false this,Bool.and_false]
     rw [this]
     exact leave_drop rfl
    ·rw [if_neg hneg]
     simp only [go_sem,nm8_len l hi,w1]
     refine ⟨ib8,?_⟩
     refine ⟨by omega,i+1,rfl,?_,⟨by omega,fun j hj' => ?_⟩,by omega⟩
     ·rw [← nm8_set l hlt]
     ·rcases Nat.lt_succ_iff_lt_or_eq.1 hj' with h1 | rfl
      ·exact hj j h1
      ·omega
   ·obtain rfl:i=8:=by omega
    have hok:readOk l=true:=by rw [readOk,decide_eq_true h8,decide_eq_true hj]; rfl
    have e8:(l.getD 8 noF).e=.view (bs (l.getD 8 noF).b) 32 false:=by rw [(hm _ (getD_memP noF (show 8<l.length by omega))).1,← h8]
    have b8:(bs (l.getD 8 noF).b).length=32:=by rw [bs_len,h8]
    have t8:(bs (l.getD 8 noF).b).take 32=bs (l.getD 8 noF).b:=List.take_of_length_le (by omega)
    have o0:=one_rec_cells (rec0_vok h8)
    have spl0:=rec_spl noRec_ok (rec0_vok h8)
    simp only [nm8_8,go_sem,el 8 (by decide),el 9 (by decide),l10,e8,b8,t8,one_bs,(hs 9 (by decide) []).s,fillOk,fillv,recZ_map,recZ_len,no1.1,no1.2.1,no1.2.2.1,nospl,rec0_sp l h8,o0.1,o0.2.1,o0.2.2.1,spl0,if_pos hok]
    have ct:∀ X:AV,∀ K,lowL (renk H.length []) K (recL l).cells=(recL l).cells:=fun _ K => lowL_rec ⟨recL_ok hf hn h8,by
     show (if 0<(l.getD 9 noF).b.length then (l.getD 9 noF).e else nilS)=nilS∨∃ f,(if 0<(l.getD 9 noF).b.length then (l.getD 9 noF).e else nilS)=vB (l.getD 9 noF).b f
     split
     ·exact .inr ⟨false,(hm _ (getD_memP noF (show 9<l.length by omega))).1⟩
     ·exact .inl rfl⟩ _ _
    refine ⟨by decide,⟨by decide,by decide⟩,⟨by decide,by decide⟩,⟨by decide,by decide⟩,⟨by decide,by decide⟩,⟨by decide,by decide⟩,⟨by decide,by decide⟩,⟨by decide,by decide⟩,⟨by decide,by decide⟩,⟨by decide,by decide⟩,fun hp => ?_,fun hp => ?_⟩
    ·have hp:0<(l.getD 9 noF).b.length:=by omega
     have er:(rec0 l).cells.set 40 (l.getD 9 noF).e=(recL l).cells:=by
      rw [rec0_set l h8]
      show (rec0 l).nums++(bs (rec0 l).prev++[(l.getD 9 noF).e])=(recL l).nums++(bs (recL l).prev++[if 0<(l.getD 9 noF).b.length then (l.getD 9 noF).e else nilS])
      rw [if_pos hp]; rfl
     have hr:=recL_ok hf hn h8
     rw [er,rec_take hr,rec_spl noRec_ok hr,rec_take hr]
     refine ⟨⟨by decide,by decide⟩,⟨rec_len hr,rec_one hr⟩,Nat.le_of_eq (rec_len hr).symm,?_⟩
     exact leave_drop (congrArg AV.agg (ct nilS _))
    ·have hp:¬ 0<(l.getD 9 noF).b.length:=by omega
     have er:(recL l).cells=(rec0 l).cells:=by
      show (recL l).nums++(bs (recL l).prev++[if 0<(l.getD 9 noF).b.length then (l.getD 9 noF).e else nilS])=_
      rw [if_neg hp]; rfl
     rw [er]
     exact leave_drop (congrArg AV.agg (lowL_rec ⟨rec0_vok h8,.inl rfl⟩ _ _))
def zd:List UInt8:=z32
def rOpenO (b:List UInt8):Option (Rec × List UInt8 × Nat × Nat):=(partsO b).bind fun p => if recB (readR p.1) then some (readR p.1,sha p.1,p.2.1,p.2.2) else none
def rOpenV (o:Option (Rec × List UInt8 × Nat × Nat)):AV:=match o with
 | some (r,d,s,t) => .tup [.agg r.cells,.agg (bs d),.agg (sgc s t),nilE]
 | none => .tup [.agg noRec.cells,.agg (bs zd),.agg (sgc 0 0),errF]
theorem parts_fields (b:List UInt8):(fieldsO b 2=none∧partsO b=none)∨∃ f g,fieldsO b 2=some [f,g]∧partsO b=if g.b.length=64 then some (f.b,be (g.b.take 32),be (g.b.drop 32)) else none:=by
 cases hg:getS b with
 | none => exact .inl ⟨by rw [fieldsO,hg]; rfl,partsO_not fun f g h => by rw [hg] at h; cases h⟩
 | some l =>
  have eO:fieldsO b 2=if tagsB l 2 then some l else none:=by rw [fieldsO,hg]; rfl
  by_cases h2:l.length=2
  ·obtain ⟨f,g,rfl⟩:=len2 h2
   have et:tagsB [f,g] 2=decide (f.tag=1∧g.tag=2):=by
    rw [tagsB,show decide ([f,g].length=2)=true from rfl,Bool.true_and,Bool.eq_iff_iff,decide_eq_true_eq,decide_eq_true_eq]
    refine ⟨fun h => ⟨h 0 (show 0<2 by decide),h 1 (show 1<2 by decide)⟩,fun h i hi => ?_⟩
    match i,hi with
    | 0,_ => exact h.1
    | 1,_ => exact h.2
   rw [eO,et,partsO_some hg]
   by_cases ht:f.tag=1∧g.tag=2
   ·refine .inr ⟨f,g,by rw [decide_eq_true ht]; rfl,?_⟩
    by_cases h64:g.b.length=64
    ·rw [if_pos ⟨ht,h64⟩,if_pos h64]
    ·rw [if_neg (fun h => h64 h.2),if_neg h64]
   ·exact .inl ⟨by rw [decide_eq_false ht]; rfl,by rw [if_neg (fun h => ht h.1)]⟩
  ·refine .inl ⟨by rw [eO,tagsB,decide_eq_false h2]; rfl,partsO_not fun f g h => by rw [hg] at h; cases h; exact h2 rfl⟩
def z32Z:List Value:=List.replicate 32 (.int .u8 0)
theorem z32Z_eq:List.replicate 32 (Value.int .u8 0)=z32Z:=rfl
theorem z32Z_map:z32Z.map AV.lit=bs zd:=rfl
theorem bs32_spl {a d:List UInt8} (ha:a.length=32) (h:d.length=32):splice (bs a) 0 (bs d)=bs d:=splice_all (by rw [bs_len,bs_len,ha,h])
theorem t_rOpen {H:AH} {x:AV} {b:List UInt8} (hx:Sl 1 H x (bs b) b.length) (hn:b.length≤100000):Called Try.prog F.record_Open [x] H (rOpenV (rOpenO b)) H:=by
 refine e_record_Open ?_
 have e8:[Z0,Z0,Z0,Z0,Z0,Z0,Z0,Z0]=sgc 0 0:=rfl
 have no1:=one_rec_cells noRec_ok
 have nospl:=rec_spl noRec_ok noRec_ok
 obtain ⟨n32,b32,t32⟩:=bs32_ne (show zd.length=32 from rfl)
 have s32:=fun (d:List UInt8) (h:d.length=32) => bs32_spl (show zd.length=32 from rfl) h
 have s3z:=s32 zd rfl
 simp only [ic_record_Open,recZ_eq,z32Z_eq]
 simp only [go_sem,hx.s,recZ_map,z32Z_map,e8]
 refine callW_some (t_fields hx.app hn 2 (by decide)) (fun _ => rfl) ?_
 rcases parts_fields b with ⟨hf,hp⟩ | ⟨f,g,hf,hp⟩
 ·have e:rOpenO b=none:=by rw [rOpenO,hp]; rfl
  have z0:((0:Int) == 0)=true:=rfl
  rw [e,hf]
  simp only [fieldsV,go_sem,z0,fillOk,fillv,recZ_map,z32Z_map,no1.1,no1.2.1,no1.2.2.1,nospl,e8,sg_spl,sg_len,sg_one,sg_take,b32,t32,s3z,one_bs]
  exact leave_drop rfl
 ·obtain ⟨hm,hl⟩:=fieldsO_mem hf
  obtain ⟨hf1,hf2⟩:=hm f (by simp)
  obtain ⟨hg1,hg2⟩:=hm g (by simp)
  have sg:∀ G,Sl 1 G g.e (bs g.b) g.b.length:=fun G => by rw [hg1]; exact Sl.vB _ _
  have sf:∀ G,Sl 1 G f.e (bs f.b) f.b.length:=fun G => by rw [hf1]; exact Sl.vB _ _
  have e0:∀ a b:AV,elt [a,b] 1 0=[a]:=fun _ _ => rfl
  have e1:∀ a b:AV,elt [a,b] 1 1=[b]:=fun _ _ => rfl
  have z2:(((2:Nat):Int) == 0)=false:=rfl
  have tp:=fun H => t_sparse (H:=H) (sg H) (by omega)
  have tr:=fun H => t_read (H:=H) (sf H) (by omega)
  have hv:=readR_vok (b:=f.b) (by omega)
  have rv1:=one_rec_cells hv.1
  have rspl:=rec_spl noRec_ok hv.1
  rw [hf]
  simp only [fieldsV,List.map_cons,List.map_nil,List.length_cons,List.length_nil,Nat.zero_add,z2,go_sem,e0,e1,(sf []).s]
  refine ⟨by decide,callW_some (tr _) (fun _ => rfl) ?_⟩
  have no:=recB (readR f.b)
  have tm:=fun H => t_recMay (H:=H) (readR f.b) hv.1
  have eR:rOpenO b=(if g.b.length=64 then some (f.b,be (g.b.take 32),be (g.b.drop 32)) else none).bind fun p => if recB (readR p.1) then some (readR p.1,sha p.1,p.2.1,p.2.2) else none:=by rw [rOpenO,hp]
  rw [eR]
  generalize hR:readR f.b=R at hv rv1 rspl tm
  simp only [go_sem,e0,e1,(sg []).s,recZ_map,no1.1,no1.2.1,no1.2.2.1,rspl,rv1.1,rv1.2.1,rv1.2.2.1]
  refine ⟨by decide,callW_some (tp _) (fun _ => rfl) ?_⟩
  by_cases h64:g.b.length=64
  ·rw [if_pos h64,if_pos h64]
   generalize be (g.b.take 32)=s
   generalize be (g.b.drop 32)=t
   simp only [go_sem,e8,sg_spl,sg_len,sg_one,sg_take,rspl,rv1.1,rv1.2.1,rv1.2.2.1]
   refine callG_of (fun _ => tm _) ?_
   have ev:rOpenV ((some (f.b,s,t)).bind fun p => if recB (readR p.1) then some (readR p.1,sha p.1,p.2.1,p.2.2) else none)=if recB R then .tup [.agg R.cells,.agg (bs (sha f.b)),.agg (sgc s t),nilE] else .tup [.agg noRec.cells,.agg (bs zd),.agg (sgc 0 0),errF]:=by
    show rOpenV (if recB (readR f.b) then some (readR f.b,sha f.b,s,t) else none)=_
    rw [hR]; cases recB R <;> rfl
   rw [ev]
   clear tm
   have low1:=fun G => lowL_rec hv (renk H.length []) G
   generalize recB R=v
   have ts:=fun G => t_ssum (H:=G) (sf G) (by omega)
   have hsl:=sha_len f.b
   generalize sha f.b=d at ts hsl ⊢
   obtain ⟨nd,bd,td⟩:=bs32_ne hsl
   have sd:=s32 d hsl
   cases v
   ·simp only [go_sem,e8,sg_spl,sg_len,sg_one,sg_take,fillOk,fillv,recZ_map,z32Z_map,no1.1,no1.2.1,no1.2.2.1,nospl,rv1.1,rv1.2.1,rv1.2.2.1,b32,t32,s3z,one_bs]
    exact leave_drop rfl
   ·simp only [go_sem,e0,e8,(sf []).s,sg_spl,sg_len,sg_one,sg_take,rspl,rv1.1,rv1.2.1,rv1.2.2.1,b32,t32,one_bs]
    refine ⟨by decide,callW_some ⟨rfl,fun G => ts _⟩ (fun _ => rfl) ?_⟩
    simp only [go_sem,e0,e8,(sf []).s,sg_spl,sg_len,sg_one,sg_take,rspl,rv1.1,rv1.2.1,rv1.2.2.1,b32,t32,nd,bd,td,sd,no1.1,no1.2.2.1,one_bs]
    exact ⟨by omega,by omega,leave_drop (by simp only [low,lowL,low1,lowL_bs,lowL_sg])⟩
  ·rw [if_neg h64,if_neg h64]
   simp only [go_sem,e8,sg_spl,sg_len,sg_one,sg_take,fillOk,fillv,recZ_map,z32Z_map,no1.1,no1.2.1,no1.2.2.1,nospl,rv1.1,rv1.2.1,rv1.2.2.1,b32,t32,s3z,one_bs]
   refine callG_of (v:=Bl false) (fun h => by cases h) ?_
   simp only [go_sem,e8,sg_spl,sg_len,sg_one,sg_take,fillOk,fillv,recZ_map,z32Z_map,no1.1,no1.2.1,no1.2.2.1,nospl,rv1.1,rv1.2.1,rv1.2.2.1,b32,t32,s3z,one_bs]
   exact leave_drop rfl
structure Bt where
 b:List UInt8
 e:AV
def Bt.ok (x:Bt):Prop:=x.b.length≤100000∧∀ H,Sl 1 H x.e (bs x.b) x.b.length
def noB:Bt:=⟨[],nilS⟩
noncomputable def nextL (dev:Int) (X Y:Nat) (f:Bool) (i:Nat) (last b:List UInt8):Option (List UInt8):=match rOpenO b with
 | some (r,d,s,t) => if (((r.dev=dev∧r.seq=i)∧r.prev=last)∧verB X Y f d s t=true) then some d else none
 | none => none
noncomputable def chF (dev:Int) (X Y:Nat) (f:Bool):Nat→List UInt8→List Bt→Nat
 | i,last,[] => i
 | i,last,x::r => match nextL dev X Y f i last x.b with
  | some d => chF dev X Y f (i+1) d r
  | none => i
theorem cells_bs:∀ a b:List UInt8,cellsEq (bs a) (bs b)=decide (a=b)
 | [],[] => rfl
 | [],b::t => rfl
 | a::s,[] => rfl
 | a::s,b::t => by
  have ih:=cells_bs s t
  show (((a.toNat:Int) == (b.toNat:Int))&&cellsEq (bs s) (bs t))=_
  rw [ih,Bool.eq_iff_iff,Bool.and_eq_true,beq_iff_eq,decide_eq_true_eq,decide_eq_true_eq,List.cons.injEq,Int.ofNat_inj,UInt8.toNat_inj]
def k32:List (Option IntKind):=List.replicate 32 (some .u8)
theorem k32_eq:List.replicate 32 (some IntKind.u8)=k32:=rfl
theorem bs_kind:∀ a:List UInt8,(bs a).map kindOf=(List.replicate a.length (some IntKind.u8)).map some
 | [] => rfl
 | a::s => by
  show some (some IntKind.u8)::(bs s).map kindOf=some (some IntKind.u8)::(List.replicate s.length (some IntKind.u8)).map some
  rw [bs_kind s]
theorem bs_aggOk {a b:List UInt8} (ha:a.length=32) (hb:b.length=32):aggEqOk k32 (.agg (bs a)) (.agg (bs b))=True:=by
 have h1:=bs_kind a
 have h2:=bs_kind b
 rw [ha] at h1
 rw [hb] at h2
 exact eq_true ⟨h1,h2⟩
theorem bs_aggEq (a b:List UInt8):aggEq (.agg (bs a)) (.agg (bs b))=decide (a=b):=cells_bs a b
theorem rOpenO_ok {b:List UInt8} {r:Rec} {d:List UInt8} {s t:Nat} (h:rOpenO b=some (r,d,s,t)) (hn:b.length≤100000):r.ok∧recB r=true∧d.length=32∧s<(18446744073709551616:Nat)^4∧t<(18446744073709551616:Nat)^4:=by
 unfold rOpenO at h
 cases hp:partsO b with
 | none => rw [hp] at h; cases h
 | some p =>
  obtain ⟨body,s',t'⟩:=p
  rw [hp] at h
  have h:(if recB (readR body) then some (readR body,sha body,s',t') else none)=some (r,d,s,t):=h
  by_cases hb:recB (readR body)=true
  ·rw [if_pos hb] at h
   cases h
   obtain ⟨h1,h2⟩:=partsO_lt hp
   have hl:body.length≤b.length:=by
    rcases parts_fields b with ⟨_,h0⟩ | ⟨f,g,hf,h0⟩
    ·rw [hp] at h0; cases h0
    ·rw [hp] at h0
     split at h0
     ·cases h0; exact ((fieldsO_mem hf).1 f (by simp)).2
     ·cases h0
   exact ⟨readR_ok (by omega),hb,sha_len _,h1,h2⟩
  ·rw [if_neg hb] at h; cases h
theorem t_Chain {H:AH} {x:AV} {l:List Bt} {dev:Int} {X Y:Nat} {f:Bool} (hx:Sl 1 H x (l.map Bt.e) l.length) (hl:∀ y ∈ l,y.ok) (hn:l.length≤1000000) (hX:X<(18446744073709551616:Nat)^4) (hY:Y<(18446744073709551616:Nat)^4):Called Try.prog F.record_Chain [x,I dev,.agg (pcell X Y f)] H (I (chF dev X Y f 0 zd l)) H:=by
 have e8:[Z0,Z0,Z0,Z0,Z0,Z0,Z0,Z0]=sgc 0 0:=rfl
 have no1:=one_rec_cells noRec_ok
 have nospl:=rec_spl noRec_ok noRec_ok
 obtain ⟨n32,b32,t32⟩:=bs32_ne (show zd.length=32 from rfl)
 have s3z:=bs32_spl (show zd.length=32 from rfl) (show zd.length=32 from rfl)
 refine e_record_Chain ?_
 simp only [ic_record_Chain,recZ_eq,z32Z_eq,k32_eq]
 simp only [go_sem,hx.s,recZ_map,z32Z_map,e8,pc_one,pc_ne]
 refine w_loop _ (fun (s:Nat × List UInt8 × AH) => ([(0,x),(1,I dev),(5,.ptr H.length 0),(7,.ptr (H.length+1) 0),(14,x),(15,I l.length),(16,I s.1)],H++(⟨pcell X Y f,0,true⟩::⟨bs s.2.1,0,true⟩::s.2.2)))
  (fun s => s.1≤l.length∧s.2.1.length=32∧chF dev X Y f 0 zd l=chF dev X Y f s.1 s.2.1 (l.drop s.1)) (fun s => l.length - s.1) (0,zd,[]) ⟨Nat.zero_le _,rfl,rfl⟩ rfl ?_
 rintro ⟨i,last,G⟩ ⟨hi,h32,hc⟩
 dsimp only at hi h32 hc
 rw [hc]
 simp only [go_sem]
 refine ⟨fun hh => ?_,fun hh => ?_⟩
 ·have hlt:i<l.length:=by omega
  have hok:=hl _ (getD_memP noB hlt)
  have dn:l.drop i=l.getD i noB::l.drop (i+1):=by
   rw [List.drop_eq_getElem_cons hlt,List.getD_eq_getElem?_getD,List.getElem?_eq_getElem hlt]; rfl
  rw [dn,chF]
  have hG:∀ K,Sl 1 (H++K) x (l.map Bt.e) l.length:=fun K => hx.app
  have ld:∀ K,loadV false 1 (H++K) (idxaV 1 (I (i:Int)) x)=(l.getD i noB).e:=fun K => by
   rw [(hG K).ld1 .i64 hlt,List.getD_eq_getElem?_getD,List.getElem?_map,List.getD_eq_getElem?_getD,List.getElem?_eq_getElem hlt]; rfl
  have lk:∀ K,loadOk 1 (H++K) (idxaV 1 (I (i:Int)) x)=True:=fun K => (hG K).ldOk .i64 hlt (Nat.le_refl _)
  have hb:=hok.1
  have w1:IntKind.i64.wrap ((i:Int)+1)=((i+1:Nat):Int):=by rw [w64 _ (by omega) (by omega)]; omega
  obtain ⟨nl,bl,tl⟩:=bs32_ne h32
  simp only [hx.idx,ld,lk,true_and]
  refine ⟨⟨by omega,by omega⟩,callW_some (t_rOpen (hok.2 _) hb) (fun _ => rfl) ?_⟩
  generalize (l.getD i noB).b=b at hb ⊢
  cases ho:rOpenO b with
  | none =>
   have en:nextL dev X Y f i last b=none:=by rw [nextL,ho]
   rw [en]
   simp only [rOpenV,go_sem,recZ_map,z32Z_map,no1.1,no1.2.1,no1.2.2.1,nospl,e8,sg_spl,sg_len,sg_one,sg_take,b32,t32,s3z,one_bs,bl,tl,pc_len,pc_take]
   refine ⟨by omega,by omega,callG_of (v:=Bl false) (fun h => by cases h) ?_⟩
   simp only [go_sem]
   exact leave_drop rfl
  | some p =>
   obtain ⟨r,d,s,t⟩:=p
   obtain ⟨hr,hrb,hd,hs,ht⟩:=rOpenO_ok ho hb
   obtain ⟨nd,bd,td⟩:=bs32_ne hd
   have sd:=bs32_spl (show zd.length=32 from rfl) hd
   have sl:=bs32_spl h32 hd
   have r1:=one_rec_cells hr
   have rspl:=rec_spl noRec_ok hr
   simp only [rOpenV,go_sem,recZ_map,z32Z_map,no1.1,no1.2.1,no1.2.2.1,nospl,r1.1,r1.2.1,r1.2.2.1,rspl,rec_g0,rec_g1,rec_prev hr,e8,sg_spl,sg_len,sg_one,sg_take,b32,t32,sd,sl,one_bs,bd,td,bl,tl,pc_len,pc_take,bs_aggEq,bs_aggOk hr.1 h32]
   have en:nextL dev X Y f i last b=bif (r.dev != dev || r.seq != (i:Int) || !decide (r.prev=last)) then none else bif verB X Y f d s t then some d else none:=by
    have e1:(r.dev != dev) = !decide (r.dev=dev):=by rw [Bool.eq_iff_iff]; simp
    have e2:(r.seq != (i:Int)) = !decide (r.seq=i):=by rw [Bool.eq_iff_iff]; simp
    have en:nextL dev X Y f i last b=if (((r.dev=dev∧r.seq=i)∧r.prev=last)∧verB X Y f d s t=true) then some d else none:=by rw [nextL,ho]
    rw [en,e1,e2]
    by_cases h1:r.dev=dev
    ·by_cases h2:r.seq=i
     ·by_cases h3:r.prev=last
      ·rw [decide_eq_true h1,decide_eq_true h2,decide_eq_true h3]
       cases hv:verB X Y f d s t
       ·rw [if_neg (fun h => by cases h.2)]; rfl
       ·rw [if_pos ⟨⟨⟨h1,h2⟩,h3⟩,rfl⟩]; rfl
      ·rw [if_neg (fun h => h3 h.1.2),decide_eq_false h3,Bool.not_false,Bool.or_true]; rfl
     ·rw [if_neg (fun h => h2 h.1.1.2),decide_eq_false h2,Bool.not_false,Bool.or_true,Bool.true_or]; rfl
    ·rw [if_neg (fun h => h1 h.1.1.1),decide_eq_false h1,Bool.not_false,Bool.true_or,Bool.true_or]; rfl
   rw [en]
   refine ⟨by omega,by omega,by omega,fun _ => by omega,fun _ => by omega,fun _ => by omega,fun _ => by omega,fun _ => by omega,callG_of (fun _ => t_Verify hX hY hs ht hd) ?_⟩
   clear en
   generalize verB X Y f d s t=v
   generalize (r.dev != dev || r.seq != (i:Int) || !decide (r.prev=last))=c
   cases c
   ·cases v
    ·simp only [go_sem]
     exact leave_drop rfl
    ·simp only [go_sem,sl,bd,td,bl,tl,one_bs,w1]
     exact ⟨by omega,by omega,(i+1,d,_),rfl,rfl,⟨by show i+1≤_; omega,hd,rfl⟩,by show _ - (i+1)<_; omega⟩
   ·simp only [go_sem]
    exact leave_drop rfl
 ·obtain rfl:i=l.length:=by omega
  rw [List.drop_length,chF]
  simp only [hx.s,go_sem]
  exact leave_drop rfl
set_option maxRecDepth 10000
noncomputable def rCheckN (b:List UInt8) (X Y:Nat) (f:Bool):Rec × Int:=match rOpenO b with
 | some (r,d,s,t) => bif verB X Y f d s t then (r,0) else (noRec,8)
 | none => (noRec,2)
theorem rOpenO_vok {b:List UInt8} {r:Rec} {d:List UInt8} {s t:Nat} (h:rOpenO b=some (r,d,s,t)) (hn:b.length≤100000):r.vok:=by
 unfold rOpenO at h
 cases hp:partsO b with
 | none => rw [hp] at h; cases h
 | some p =>
  obtain ⟨body,s',t'⟩:=p
  rw [hp] at h
  have h:(if recB (readR body) then some (readR body,sha body,s',t') else none)=some (r,d,s,t):=h
  by_cases hb:recB (readR body)=true
  ·rw [if_pos hb] at h
   cases h
   have hl:body.length≤b.length:=by
    rcases parts_fields b with ⟨_,h0⟩ | ⟨f,g,hf,h0⟩
    ·rw [hp] at h0; cases h0
    ·rw [hp] at h0
     split at h0
     ·cases h0; exact ((fieldsO_mem hf).1 f (by simp)).2
     ·cases h0
   exact readR_vok (by omega)
  ·rw [if_neg hb] at h; cases h
theorem t_rCheck {H:AH} {x:AV} {b:List UInt8} {X Y:Nat} {f:Bool} (hx:Sl 1 H x (bs b) b.length) (hn:b.length≤100000) (hX:X<(18446744073709551616:Nat)^4) (hY:Y<(18446744073709551616:Nat)^4):Called Try.prog F.record_Check [x,.agg (pcell X Y f)] H (.tup [.agg (rCheckN b X Y f).1.cells,errO (rCheckN b X Y f).2]) H:=by
 have e8:[Z0,Z0,Z0,Z0,Z0,Z0,Z0,Z0]=sgc 0 0:=rfl
 have no1:=one_rec_cells noRec_ok
 have nospl:=rec_spl noRec_ok noRec_ok
 obtain ⟨n32,b32,t32⟩:=bs32_ne (show zd.length=32 from rfl)
 have s3z:=bs32_spl (show zd.length=32 from rfl) (show zd.length=32 from rfl)
 refine e_record_Check ?_
 simp only [ic_record_Check,recZ_eq,z32Z_eq]
 simp only [go_sem,hx.s,pc_one,pc_ne,recZ_map]
 refine callW_some (t_rOpen hx.app hn) (fun _ => rfl) ?_
 cases hO:rOpenO b with
 | none =>
  have ec:rCheckN b X Y f=(noRec,2):=by rw [rCheckN,hO]
  rw [ec]
  simp only [rOpenV,go_sem,fillOk,fillv,recZ_map,recZ_len,z32Z_map,no1.1,no1.2.1,no1.2.2.1,nospl,e8,sg_spl,sg_len,sg_one,sg_take,b32,t32,s3z,one_bs]
  exact leave_drop rfl
 | some p =>
  obtain ⟨r,d,s,t⟩:=p
  obtain ⟨hr,hrb,hd,hs,ht⟩:=rOpenO_ok hO hn
  have hv:=rOpenO_vok hO hn
  obtain ⟨nd,bd,td⟩:=bs32_ne hd
  have sd:=bs32_spl (show zd.length=32 from rfl) hd
  have r1:=one_rec_cells hr
  have rspl:=rec_spl noRec_ok hr
  have ec:rCheckN b X Y f=bif verB X Y f d s t then (r,0) else (noRec,8):=by rw [rCheckN,hO]
  rw [ec]
  simp only [rOpenV,go_sem,fillOk,fillv,recZ_map,recZ_len,z32Z_map,no1.1,no1.2.1,no1.2.2.1,nospl,r1.1,r1.2.1,r1.2.2.1,rspl,e8,sg_spl,sg_len,sg_one,sg_take,b32,t32,sd,one_bs,bd,td,pc_len,pc_take]
  refine callW_some (t_Verify hX hY hs ht hd) (fun _ => rfl) ?_
  generalize verB X Y f d s t=v
  cases v
  ·simp only [go_sem,fillOk,fillv,recZ_map,recZ_len,no1.1,no1.2.1,no1.2.2.1,nospl]
   exact leave_drop rfl
  ·simp only [go_sem,r1.1,r1.2.1,r1.2.2.1,rspl]
   refine ⟨Nat.le_of_eq no1.1.symm,leave_drop ?_⟩
   show AV.tup [.agg (lowL _ _ r.cells),nilE]=_
   rw [lowL_rec hv]; rfl
end Go.Proofs.Ytgfploghjpbcaaa.Eng

