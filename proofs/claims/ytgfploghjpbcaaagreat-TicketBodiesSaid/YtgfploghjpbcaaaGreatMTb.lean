/- The document's layer 8: numbers' bytes, fields' bytes. -/
import Derived.Test.YtgfploghjpbcaaaGreatMPu
import Derived.Test.YtgfploghjpbcaaaGreatMSo
namespace Go.Proofs.YtgfploghjpbcaaaGreat.Eng
open Go Go.Proofs
set_option linter.unusedVariables false
set_option linter.unusedSimpArgs false
set_option maxRecDepth 10000
theorem Str_add (a b:List UInt8):(AV.lit (.string (ByteArray.mk a.toArray++ByteArray.mk b.toArray)))=Str (a++b):=by
 have:ByteArray.mk a.toArray++ByteArray.mk b.toArray=ByteArray.mk (a++b).toArray:=by
  apply ByteArray.ext
  rw [ByteArray.data_append]
  simp
 rw [this]
def nbV (n i:Nat):AV:=if i=0 then nilS else vB (beN i n) false
theorem nbV_sl (n i:Nat) (H:AH):Sl 1 H (nbV n i) (bs (beN i n)) (beN i n).length:=by
 unfold nbV
 split
 ·rename_i h; subst h; exact .nil
 ·exact Sl.vB _ _
theorem r_Number {H:AH} {n:Nat} (hn:n<9223372036854775808):Called Tryz.prog F.clapperref08_Number [I n] H (Str (beN 8 n)) H:=by
 refine e_clapperref08_Number ?_
 simp only [ic_clapperref08_Number,go_sem]
 refine w_loop _ (fun (i:Nat) => ([(0,I ((n / 256^i:Nat):Int)),(3,nbV n i),(4,I i)],H)) (fun i => i≤8) (fun i => 8 - i) 0 (Nat.zero_le _) (by rw [Nat.pow_zero,Nat.div_one]; rfl) ?_
 intro i hi
 have hs:=nbV_sl n i H
 simp only [go_sem,hs.s]
 refine ⟨fun hh => ?_,fun hh => ?_⟩
 ·have hlt:i<8:=by omega
  have hle:n / 256^i≤n:=Nat.div_le_self _ _
  have w1:IntKind.i64.wrap ((i:Int)+1)=((i+1:Nat):Int):=by rw [w64 _ (by omega) (by omega)]; omega
  have w2:IntKind.u8.wrap (((n / 256^i:Nat):Int).tmod 256)=((UInt8.ofNat (n / 256^i)).toNat:Int):=by
   rw [Int.tmod_eq_emod_of_nonneg (Int.natCast_nonneg _),← u8n]
   simp only [IntKind.wrap,IntKind.bits,IntKind.signed]
   simp
  have w3:IntKind.i64.wrap (((n / 256^i:Nat):Int).tdiv 256)=((n / 256^(i+1):Nat):Int):=by
   rw [Int.tdiv_eq_ediv_of_nonneg (Int.natCast_nonneg _),Nat.pow_succ,← Nat.div_div_eq_div_mul]
   generalize n / 256^i=x at *
   rw [w64 _ (by omega) (by omega)]; omega
  have hlen:=beN_length i n
  have av:appV 1 H (nbV n i) (AV.view [AV.lit (Value.int IntKind.u8 ↑(UInt8.ofNat (n / 256^i)).toNat)] 1 true)=nbV n (i+1):=by
   show AV.view ([u8 (UInt8.ofNat (n / 256^i))]++srcC 1 H (nbV n i)) (1+srcN (nbV n i)) false=_
   rw [hs.s.2.2.2.1,hs.s.2.1,hlen,nbV,if_neg (by omega),vB,beN_length,beN_cons,Nat.add_comm]
   rfl
  have ah:appH 1 H (nbV n i) (AV.view [AV.lit (Value.int IntKind.u8 ↑(UInt8.ofNat (n / 256^i)).toNat)] 1 true)=H:=rfl
  simp only [go_sem,w1,w2,w3,hs.s]
  refine ⟨by decide,⟨one_bs _,by omega,rfl,rfl,.inr ?_⟩,by decide,i+1,by rw [av],by rw [ah],by omega,by omega⟩
  rw [hs.s.2.2.2.1]; exact pure_bs _
 ·obtain rfl:i=8:=by omega
  have e:nbV n 8=vB (beN 8 n) false:=rfl
  rw [e,b2sOk_vB,b2sV_vB]
  exact ⟨trivial,Leave.refl _ _ _⟩
theorem r_Put {H:AH} {x:AV} {l:List Fld} (hx0:Sl 2 H x (fcs l) l.length) (hl:∀ f ∈ l,Sl 1 H f.e (bs f.b) f.b.length) (hw:∀ f ∈ l,0≤f.tag∧f.tag≤255∧f.b.length≤65535) (hn:l.length≤100):Called Tryz.prog F.clapperref08_Put [x] H (Str (putB l)) H:=by
 refine e_clapperref08_Put ?_
 simp only [ic_clapperref08_Put,go_sem]
 refine w_loop _ (fun (i:Nat) => ([(0,x),(3,Str (putB (l.take i))),(4,I i)],H)) (fun i => i≤l.length) (fun i => l.length - i) 0 (Nat.zero_le _) rfl ?_
 intro i hi
 simp only [go_sem,hx0.s]
 refine ⟨fun hh => ?_,fun hh => ?_⟩
 ·have hlt:i<l.length:=by omega
  have hm:=getD_memP noF hlt
  have he:=hl _ hm
  obtain ⟨t1,t2,t3⟩:=hw _ hm
  have hc:(l.getD i noF).cells=[I (l.getD i noF).tag,(l.getD i noF).e]:=rfl
  have w1:IntKind.i64.wrap ((i:Int)+1)=((i+1:Nat):Int):=by rw [w64 _ (by omega) (by omega)]; omega
  obtain ⟨f1,f2⟩:=hx0.fdOk .i64 hlt (o:=0) (m:=1) (by decide)
  obtain ⟨f3,f4⟩:=hx0.fdOk .i64 hlt (o:=1) (m:=1) (by decide)
  have g0:loadV false 1 H (fldV 0 (idxaV 2 (I i) x))=I (l.getD i noF).tag:=by
   rw [hx0.fd .i64 hlt (by decide) (by decide) false,if_neg (by decide)]
   exact getD_flat Fld.cells 2 (fun f => rfl) l i 0 noF hlt (by decide)
  have g1:loadV false 1 H (fldV 1 (idxaV 2 (I i) x))=(l.getD i noF).e:=by
   rw [hx0.fd .i64 hlt (by decide) (by decide) false,if_neg (by decide)]
   exact getD_flat Fld.cells 2 (fun f => rfl) l i 1 noF hlt (by decide)
  have nx:=putB_next hlt
  have ps:(putB (l.take i)).length≤100*65538:=by
   refine Nat.le_trans (putB_le _ fun f hf => (hw f (List.mem_of_mem_take hf)).2.2) (Nat.mul_le_mul_right _ (by rw [List.length_take]; omega))
  generalize l.getD i noF=f at *
  have w0:IntKind.u8.wrap f.tag=((UInt8.ofNat f.tag.toNat).toNat:Int):=by
   have:=u8n f.tag.toNat
   rwa [Int.toNat_of_nonneg (by omega)] at this
  have w2:IntKind.u8.wrap (IntKind.i64.wrap ((f.b.length:Int).tdiv 256))=((UInt8.ofNat (f.b.length / 256)).toNat:Int):=by
   rw [← u8n,Int.tdiv_eq_ediv_of_nonneg (by omega),w64 _ (by omega) (by omega)]
   congr 1
  have w3:IntKind.u8.wrap ((f.b.length:Int).tmod 256)=((UInt8.ofNat f.b.length).toNat:Int):=by
   rw [Int.tmod_eq_emod_of_nonneg (by omega),← u8n]
   simp only [IntKind.wrap,IntKind.bits,IntKind.signed]
   simp
  have e3:AV.view [u8 (UInt8.ofNat f.tag.toNat),u8 (UInt8.ofNat (f.b.length / 256)),u8 (UInt8.ofNat f.b.length)] 3 true=vB [UInt8.ofNat f.tag.toNat,UInt8.ofNat (f.b.length / 256),UInt8.ofNat f.b.length] true:=rfl
  simp only [go_sem,hx0.idx,w0,w1,w2,w3,f1,f2,f3,f4,g0,g1,he.s,e3,b2sOk_vB,b2sV_vB,he.b2s,Str_add]
  exact ⟨⟨by omega,by omega⟩,⟨by omega,by omega⟩,by decide,by decide,by omega,⟨by omega,by omega⟩,by omega,i+1,by rw [nx]; rfl,by omega,by omega⟩
 ·obtain rfl:i=l.length:=by omega
  rw [List.take_of_length_le (Nat.le_refl _)]
  exact Leave.refl _ _ _
theorem s2b_Str (H:AH) (l:List UInt8):s2bV false H (Str l)=vB l false:=by
 show AV.view (bytesOf ⟨l.toArray⟩) (ByteArray.mk l.toArray).size false=_
 rw [bytesOf_Str,str_size]
theorem s2bH_Str (H:AH) (l:List UInt8):s2bH false H (Str l)=H:=rfl
theorem s2bOk_Str (l:List UInt8):s2bOk (Str l)=(l.length≤140737488351232):=by
 show ((ByteArray.mk l.toArray).size≤_)=_
 rw [str_size]
theorem nFld_w {ns:List Int} (h:ns.length≤100):∀ f ∈ nFlds ns,0≤f.tag∧f.tag≤255∧f.b.length≤65535:=fun f hf => by
 obtain ⟨i,hi,rfl⟩:=List.mem_map.1 hf
 rw [List.mem_range] at hi
 exact ⟨by show 0≤(i:Int)+1; omega,by show (i:Int)+1≤255; omega,by show (beN 8 _).length≤_; rw [beN_length]; decide⟩
theorem r_Body8 {H:AH} {x:AV} {ns:List Int} (hx:∀ G,Sl 1 (H++G) x (ns.map fun n => I n) ns.length) (hw:∀ i,i<ns.length→0≤ns.getD i 0∧ns.getD i 0<9223372036854775808) (hn:ns.length≤100):Called Tryz.prog F.clapperref08_Body [x] H (Str (putB (nFlds ns))) H:=by
 have hx0:=hx []
 rw [List.append_nil] at hx0
 have nl:=nFlds_len ns
 refine e_clapperref08_Body ?_
 simp only [ic_clapperref08_Body,go_sem]
 refine w_loop _ (fun (i:Nat) => ([(0,x),(3,rA H (fcs ((nFlds ns).take i)) i),(4,I i)],hA 2 H (fcs ((nFlds ns).take i)) i)) (fun i => i≤ns.length) (fun i => ns.length - i) 0 (Nat.zero_le _) rfl ?_
 intro i hi
 have hxA:=hx0.hA (sz:=2) (vs:=fcs ((nFlds ns).take i)) (n:=i)
 simp only [go_sem,hxA.s]
 refine ⟨fun hh => ?_,fun hh => ?_⟩
 ·have hlt:i<ns.length:=by omega
  have w1:IntKind.i64.wrap ((i:Int)+1)=((i+1:Nat):Int):=by rw [w64 _ (by omega) (by omega)]; omega
  obtain ⟨n,hn'⟩:=Int.eq_ofNat_of_zero_le (hw i hlt).1
  have hn2:=(hw i hlt).2
  have gi:(ns.map fun n => I n).getD i .junk=I (n:Int):=by
   rw [List.getD_eq_getElem?_getD,List.getElem?_map,List.getElem?_eq_getElem hlt]
   rw [List.getD_eq_getElem?_getD,List.getElem?_eq_getElem hlt] at hn'
   exact congrArg I hn'
  simp only [go_sem,hxA.idx,hxA.ldOk _ hlt (Nat.le_refl _),hxA.ld1 _ hlt,gi,w1]
  refine ⟨⟨by omega,by omega⟩,callW_some (r_Number (by omega)) (fun _ => rfl) ?_⟩
  have ef:(nFlds ns).getD i noF=⟨((i+1:Nat):Int),beN 8 n,vB (beN 8 n) false⟩:=by
   rw [nFlds_get ns (by omega),nFld,hn']; rfl
  have sn:=take_snoc (show i<(nFlds ns).length by omega) noF
  have fn:fcs ((nFlds ns).take (i+1))=fcs ((nFlds ns).take i)++[I ((i+1:Nat):Int),vB (beN 8 n) false]:=by
   rw [sn,ef,fcs,List.flatMap_append]; rfl
  obtain ⟨h1,h2,h3⟩:=build_app (H:=H) (sz:=2) (n:=i) (vs:=fcs ((nFlds ns).take i)) (by rw [fcs_len,List.length_take]; omega) (s:=.view [I ((i+1:Nat):Int),vB (beN 8 n) false] 1 true) (cs:=[I ((i+1:Nat):Int),vB (beN 8 n) false]) (b:=32) rfl rfl rfl rfl (by omega)
  have l8:=beN_length 8 n
  have v8:vB (beN 8 n) false=.view (bs (beN 8 n)) 8 false:=by rw [vB,l8]
  rw [← fn] at h2 h3
  rw [v8] at h1 h2 h3
  have hs:=build_sl (H:=H) (sz:=2) (n:=i) (vs:=fcs ((nFlds ns).take i)) (by rw [fcs_len,List.length_take]; omega)
  simp only [go_sem,fillOk,fillv,w1,s2b_Str,s2bH_Str,s2bOk_Str,bytesOf_Str,l8,pure_bs]
  obtain ⟨_,_,c3,c4⟩:=h1
  exact ⟨⟨c3,c4⟩,i+1,by rw [h2],h3,by omega,by omega⟩
 ·obtain rfl:i=ns.length:=by omega
  rw [List.take_of_length_le (by omega)]
  have hb:=build_sl (H:=H) (sz:=2) (n:=ns.length) (vs:=fcs (nFlds ns)) (by rw [fcs_len,nl])
  refine callW_some (r_Put (l:=nFlds ns) (by rw [nl]; exact hb) (fun f hf => by obtain ⟨i,n,rfl⟩:=nFlds_mem hf; exact nFld_sl _ _ _) (nFld_w hn) (by omega)) (fun _ => rfl) ?_
  simp only [go_sem]
  exact leave_hA (fun ren H => rfl)
set_option maxRecDepth 10000
theorem putB_le':∀ (l:List Fld) (n:Nat),(∀ f ∈ l,f.b.length≤n)→(putB l).length≤l.length*(n+3)
 | [],n,_ => Nat.zero_le _
 | f::l,n,h => by
  have h1:=putB_le' l n fun g hg => h g (List.mem_cons_of_mem _ hg)
  have h2:=h f (List.mem_cons_self ..)
  show (fldB f++putB l).length≤(l.length+1)*(n+3)
  rw [List.length_append,Nat.add_mul]
  show f.b.length+1+1+1+_≤_
  omega
def sgF (B:List UInt8) (r s:Nat):List Fld:=[⟨1,B,vB B false⟩,⟨2,sgB r s,vB (sgB r s) false⟩]
def sgnd (B:List UInt8) (r s:Nat):List UInt8:=putB (sgF B r s)
theorem sgF_sl (B:List UInt8) (r s:Nat):∀ f ∈ sgF B r s,∀ G,Sl 1 G f.e (bs f.b) f.b.length:=fun f hf G => by
 simp only [sgF,List.mem_cons,List.not_mem_nil,or_false] at hf
 rcases hf with rfl | rfl <;> exact Sl.vB _ _
theorem sgF_w {B:List UInt8} {r s:Nat} (h:B.length≤65535):∀ f ∈ sgF B r s,0≤f.tag∧f.tag≤255∧f.b.length≤65535:=fun f hf => by
 simp only [sgF,List.mem_cons,List.not_mem_nil,or_false] at hf
 rcases hf with rfl | rfl
 ·exact ⟨by show (0:Int)≤1; decide,by show (1:Int)≤255; decide,h⟩
 ·exact ⟨by show (0:Int)≤2; decide,by show (2:Int)≤255; decide,by show (sgB r s).length≤_; rw [sgB_len]; decide⟩
theorem sgF_ok {B:List UInt8} {r s:Nat} (h:B.length≤65535):fldsB (sgF B r s)=true:=by
 have e0:(sgF B r s).getD 0 noF=⟨1,B,vB B false⟩:=rfl
 have e1:(sgF B r s).getD 1 noF=⟨2,sgB r s,vB (sgB r s) false⟩:=rfl
 have l2:(sgF B r s).length=2:=rfl
 have sl:=sgB_len r s
 simp only [fldsB,Bool.and_eq_true,decide_eq_true_eq]
 refine ⟨by rw [l2]; decide,fun i hi => ?_⟩
 rw [l2] at hi
 match i,hi with
 | 0,_ =>
  simp only [fldBad,e0,Bool.or_eq_false_iff,Bool.and_eq_false_iff,decide_eq_false_iff_not]
  exact ⟨⟨⟨by decide,by decide⟩,by omega⟩,.inl (by decide)⟩
 | 1,_ =>
  simp only [fldBad,e1,e0,Nat.sub_self,Bool.or_eq_false_iff,Bool.and_eq_false_iff,decide_eq_false_iff_not]
  exact ⟨⟨⟨by decide,by decide⟩,by omega⟩,.inr (by decide)⟩
theorem putV_sgF {B:List UInt8} {r s:Nat} (h:B.length≤65535):putV (sgF B r s)=.tup [vB (sgnd B r s) false,nilE]:=by
 rw [putV,if_pos (sgF_ok h)]; rfl
theorem r_Signed {H:AH} {B:List UInt8} {r s:Nat} (hB:B.length≤65535):Called Tryz.prog F.clapperref09_Signed [Str B,.agg (sgc r s)] H (Str (sgnd B r s)) H:=by
 refine e_clapperref09_Signed ?_
 have e8:8≤(num r).length+(num s).length:=by rw [wd_length,wd_length]; decide
 simp only [ic_clapperref09_Signed,go_sem,sg_one,sg_ne,fillOk,fillv,s2b_Str,s2bH_Str,s2bOk_Str,bytesOf_Str,pure_bs,sg_take]
 refine ⟨by omega,by decide,e8,callW_some r_sbytes (fun _ => rfl) ?_⟩
 have sl:=sgB_len r s
 have ec:appC 2 [AV.lit (Value.int IntKind.i64 1),AV.view (bs B) B.length false] [AV.lit (Value.int IntKind.i64 2),AV.view (bs (sgB r s)) (sgB r s).length false] 0 1 1 2=fcs (sgF B r s):=by
  rw [appC_end (by decide)]; rfl
 have el:appL 2 0 1 1 2 2=4:=appL_end (by decide)
 simp only [go_sem,fillOk,fillv,pure_bs]
 rw [ec,el]
 have hx:Sl 2 (H++[⟨sgc r s,0,true⟩,⟨fcs (sgF B r s),2,true⟩]) (.row (H.length+1) 0 2 4) (fcs (sgF B r s)) (sgF B r s).length:=by
  have eo:obj (H++[⟨sgc r s,0,true⟩,⟨fcs (sgF B r s),2,true⟩]) (H.length+1)=⟨fcs (sgF B r s),2,true⟩:=by rw [obj_appk]; rfl
  exact .row (by simp) (by rw [eo]; rfl) (by decide) (by rw [eo]; rfl) (.inl (by rw [eo]))
 refine ⟨by decide,callW_some (r_Put hx (fun f hf => sgF_sl B r s f hf _) (sgF_w hB) (Nat.le_of_ble_eq_true rfl)) (fun _ => rfl) ?_⟩
 simp only [go_sem]
 exact leave_drop rfl
theorem nFlds_ok {ns:List Int} (h:ns.length≤64):fldsB (nFlds ns)=true:=by
 simp only [fldsB,Bool.and_eq_true,decide_eq_true_eq]
 refine ⟨by rw [nFlds_len]; exact h,fun i hi => ?_⟩
 rw [nFlds_len] at hi
 have g:=nFlds_get ns hi
 have l8:(nFld i (ns.getD i 0)).b.length=8:=beN_length _ _
 have t0:(nFld i (ns.getD i 0)).tag=(i:Int)+1:=rfl
 simp only [fldBad,g,t0,l8,Bool.or_eq_false_iff,Bool.and_eq_false_iff,decide_eq_false_iff_not]
 refine ⟨⟨⟨by omega,by omega⟩,by decide⟩,?_⟩
 by_cases h0:0<i
 ·right
  have g2:=nFlds_get ns (show i - 1<ns.length by omega)
  have t2:(nFld (i - 1) (ns.getD (i - 1) 0)).tag=((i - 1:Nat):Int)+1:=rfl
  rw [g2,t2]; omega
 ·exact .inl h0
theorem nFlds_put (ns:List Int):(putB (nFlds ns)).length≤ns.length*11:=by
 have:=putB_le' (nFlds ns) 8 fun f hf => by
  obtain ⟨i,n,rfl⟩:=nFlds_mem hf
  show (beN 8 _).length≤_
  rw [beN_length]; exact Nat.le_refl _
 rwa [nFlds_len] at this
theorem r_tBody9 {H:AH} {t:Tkt} (h:tktB t=true):Called Tryz.prog F.clapperref09_Body [.agg t.cells] H (Str (putB (nFlds t.nums))) H:=by
 have hw:=tktB_nums h
 refine e_clapperref09_Body ?_
 simp only [ic_clapperref09_Body,go_sem,fillOk,fillv]
 refine callW_some (r_Body8 (ns:=t.nums) (fun G => .view rfl _) (fun i _ => hw i) (by show 5≤100; decide)) (fun _ => rfl) ?_
 simp only [go_sem]
 exact leave_drop rfl
noncomputable def issV (B:List UInt8) (d:Nat):AV :=
 if maySc d=true then (match signS d (sha B) with
  | some (r,s) => .tup [vB (sgnd B r s) false,nilE]
  | none => .tup [nilS,errA 4]) else .tup [nilS,errA 1]
noncomputable def tIssV (t:Tkt) (d:Nat):AV:=if tktB t=true then issV (putB (nFlds t.nums)) d else .tup [nilS,errA 1]
theorem t_tIssue {H:AH} {t:Tkt} {d:Nat} (hd:d<(18446744073709551616:Nat)^4):Called Tryz.prog F.ticket_Issue [.agg t.cells,.agg (num d)] H (tIssV t d) H:=by
 have n4:∀ a,(num a).length=4:=fun a => wd_length _ _
 have e4:[Z0,Z0,Z0,Z0]=num 0:=rfl
 have e84:Z0::Z0::Z0::Z0::num 0=sgc 0 0:=rfl
 refine e_ticket_Issue ?_
 simp only [ic_ticket_Issue,go_sem,one_wd,num_ne,num_take,n4]
 refine callW_some (t_tBody t _) (fun _ => rfl) ?_
 rw [tbodyV,tIssV]
 cases hb:tktB t
 ·simp only [go_sem]
  exact leave_drop rfl
 ·rw [if_pos rfl,if_pos rfl,putV,if_pos (nFlds_ok (by show 5≤64; decide))]
  have lB:(putB (nFlds t.nums)).length≤1000:=Nat.le_trans (nFlds_put _) (by show 5*11≤1000; decide)
  generalize putB (nFlds t.nums)=B at *
  simp only [go_sem,one_wd,num_ne,num_take,n4]
  refine callW_some ⟨rfl,fun G => t_ssum (Sl.vB B false) (by omega)⟩ (fun _ => rfl) ?_
  have hsl:=sha_len B
  rw [issV]
  generalize sha B=h at *
  simp only [go_sem]
  refine callW_some ⟨rfl,fun G => t_Sign hd hsl⟩ (fun _ => rfl) ?_
  cases hm:maySc d
  ·simp only [go_sem,e4,e84,sg_one,sg_spl,sg_take,sg_len]
   exact leave_drop rfl
  ·rw [if_pos rfl,if_pos rfl]
   cases hS:signS d h with
   | none =>
    simp only [sigV,go_sem,e4,e84,sg_one,sg_spl,sg_take,sg_len]
    exact leave_drop rfl
   | some rs =>
    obtain ⟨r,s⟩:=rs
    obtain ⟨m1,m2⟩:=sigS_lt hS
    simp only [sigV,go_sem,e4,e84,sg_one,sg_spl,sg_take,sg_len,fillOk,fillv]
    refine callW_some (t_sbytes (may_lt m1) (may_lt m2)) (fun _ => rfl) ?_
    have sl:=sgB_len r s
    simp only [go_sem,fillOk,fillv,pure_bs]
    refine ⟨by decide,callW_some (t_Put (l:=sgF B r s) (.view rfl _) (fun f hf => sgF_sl B r s f hf _) (Nat.le_of_ble_eq_true rfl)) (fun _ => rfl) ?_⟩
    rw [putV_sgF (by omega)]
    simp only [go_sem]
    exact leave_drop (by simp only [low,lowL,vB,lowL_bs])
set_option maxRecDepth 10000
def upT9:Tkt:=⟨1,1,1,0,1⟩
theorem upT9_body:∃ l:List UInt8,tbodyV upT9=.tup [vB (1::l) false,nilE]∧(1::l).length=55:=⟨(putB (nFlds upT9.nums)).tail,rfl,rfl⟩
theorem t_up09 (H:AH):Called Tryz.prog F.clapperlaw09_up [] H (Bl true) H:=by
 have e8:[Z0,Z0,Z0,Z0,Z0,Z0,Z0,Z0]=sgc 0 0:=rfl
 have hO:openO []=none:=rfl
 refine e_clapperlaw09_up ?_
 simp only [ic_clapperlaw09_up,go_sem]
 refine callW_some (t_Open (b:=[]) .nil (Nat.zero_le _)) (fun _ => rfl) ?_
 rw [hO]
 simp only [openV,go_sem,e8,sg_spl,sg_len,sg_one,sg_take,fillOk,fillv]
 refine callW_some (t_tBody upT9 _) (fun _ => rfl) ?_
 obtain ⟨l,e1,e2⟩:=upT9_body
 rw [e1]
 have ee:elt (u8 1::List.map u8 l) 1 0=[u8 1]:=rfl
 have tc:(T.api_Code == T.api_Code&&(2:Int) == 2&&((55:Nat):Int) == 55)=true:=by simp
 have l54:(List.map u8 l).length=54:=by rw [List.length_map]; have:=e2; simp only [List.length_cons] at this; omega
 simp only [go_sem,e2,ee,tc,l54]
 exact ⟨rfl,by decide,leave_drop rfl⟩
theorem t_TicketBodies {H:AH} {t:Tkt} {d:Nat} (hd:d<(18446744073709551616:Nat)^4):Called Tryz.prog F.clapperlaw09_TicketBodies [.agg t.cells,.agg (num d)] H (Bl true) H:=by
 have n4:∀ a,(num a).length=4:=fun a => wd_length _ _
 have e4:[Z0,Z0,Z0,Z0]=num 0:=rfl
 have e84:Z0::Z0::Z0::Z0::num 0=sgc 0 0:=rfl
 have ti:=fun (G:AH) => t_tIssue (H:=G) (t:=t) hd
 have tm:=fun (G:AH) => t_tMay t G
 refine e_clapperlaw09_TicketBodies ?_
 simp only [ic_clapperlaw09_TicketBodies,go_sem,one_wd,num_ne,num_take,n4]
 refine callW_some (t_up09 _) (fun _ => rfl) ?_
 simp only [go_sem,one_wd,num_ne,num_take,n4]
 refine callW_some (t_rtMay t _) (fun _ => rfl) ?_
 have tb:=fun (G:AH) => t_tBody t G
 have rb:=fun (G:AH) (h:tktB t=true) => r_tBody9 (H:=G) h
 rw [tbodyV] at tb
 rw [tIssV] at ti
 simp only [go_sem,one_wd,num_ne,num_take,n4]
 refine callW_some (tb _) (fun _ => rfl) ?_
 cases hb:tktB t
 ·rw [hb] at ti tm
  simp only [go_sem,one_wd,num_ne,num_take,n4]
  refine callW_some (ti _) (fun _ => rfl) ?_
  simp only [go_sem,one_wd,num_ne,num_take,n4]
  refine callG_of (fun _ => tm _) ?_
  simp only [go_sem]
  exact ⟨rfl,fun _ => rfl,leave_drop rfl⟩
 ·rw [hb,if_pos rfl] at ti
  rw [if_pos rfl,putV,if_pos (nFlds_ok (by show 5≤64; decide))]
  have rb:=fun (G:AH) => rb G hb
  rw [hb] at tm
  have lB:(putB (nFlds t.nums)).length≤1000:=Nat.le_trans (nFlds_put _) (by show 5*11≤1000; decide)
  generalize putB (nFlds t.nums)=B at *
  rw [issV] at ti
  have hsl:=sha_len B
  have rs:=fun (G:AH) => r_Sum (H:=G) (Sl.vB B false) (by omega)
  have sg:=fun (G:AH) => r_Sign (H:=G) hd hsl
  generalize sha B=h at *
  simp only [go_sem,one_wd,num_ne,num_take,n4]
  refine callW_some (ti _) (fun _ => rfl) ?_
  cases hm:maySc d
  ·simp only [go_sem,one_wd,num_ne,num_take,n4]
   refine callW_some (rb _) (fun _ => rfl) ?_
   simp only [go_sem]
   refine callW_some (tm _) (fun _ => rfl) ?_
   simp only [go_sem,b2sOk_vB,b2sV_vB,beq_self_eq_true,one_wd,num_ne,num_take,n4]
   refine callW_some (r_may hd) (fun _ => rfl) ?_
   rw [hm]
   simp only [go_sem]
   exact ⟨rfl,leave_drop rfl⟩
  ·rw [if_pos rfl]
   cases hS:signS d h with
   | none =>
    rw [hS] at sg
    simp only [go_sem,one_wd,num_ne,num_take,n4]
    refine callW_some (rb _) (fun _ => rfl) ?_
    simp only [go_sem]
    refine callW_some (tm _) (fun _ => rfl) ?_
    simp only [go_sem,b2sOk_vB,b2sV_vB,beq_self_eq_true,one_wd,num_ne,num_take,n4]
    refine callW_some (r_may hd) (fun _ => rfl) ?_
    rw [hm]
    simp only [go_sem,one_wd,num_ne,num_take,n4,s2b_Str,s2bH_Str,s2bOk_Str,bytesOf_Str]
    refine ⟨by omega,callW_some ⟨rfl,fun G => rs _⟩ (fun _ => rfl) ?_⟩
    simp only [go_sem]
    refine callW_some ⟨rfl,fun G => sg _⟩ (fun _ => rfl) ?_
    simp only [sigR,go_sem,e4,e84,sg_one,sg_spl,sg_take,sg_len]
    exact ⟨rfl,leave_drop rfl⟩
   | some q =>
    obtain ⟨r,s⟩:=q
    rw [hS] at sg
    simp only [go_sem,one_wd,num_ne,num_take,n4]
    refine callW_some (rb _) (fun _ => rfl) ?_
    simp only [go_sem]
    refine callW_some (tm _) (fun _ => rfl) ?_
    simp only [go_sem,b2sOk_vB,b2sV_vB,beq_self_eq_true,one_wd,num_ne,num_take,n4]
    refine callW_some (r_may hd) (fun _ => rfl) ?_
    rw [hm]
    simp only [go_sem,one_wd,num_ne,num_take,n4,s2b_Str,s2bH_Str,s2bOk_Str,bytesOf_Str]
    refine ⟨by omega,callW_some ⟨rfl,fun G => rs _⟩ (fun _ => rfl) ?_⟩
    simp only [go_sem]
    refine callW_some ⟨rfl,fun G => sg _⟩ (fun _ => rfl) ?_
    simp only [sigR,go_sem,e4,e84,sg_one,sg_spl,sg_take,sg_len,b2sOk_vB,b2sV_vB]
    refine callG_of (fun _ => r_Signed (by omega)) ?_
    simp only [go_sem,beq_self_eq_true]
    exact leave_drop rfl
end Go.Proofs.YtgfploghjpbcaaaGreat.Eng

