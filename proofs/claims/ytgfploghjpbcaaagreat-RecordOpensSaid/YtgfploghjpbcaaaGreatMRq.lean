/- Layer 17: which records may be; the same record: the document's walks. -/
import Derived.Test.YtgfploghjpbcaaaGreatMRc
import Derived.Test.YtgfploghjpbcaaaGreatMTk
import Derived.Test.YtgfploghjpbcaaaGreatMRs
import Derived.Test.YtgfploghjpbcaaaGreatMKc
import Derived.Test.YtgfploghjpbcaaaGreatMTo
import Derived.Test.YtgfploghjpbcaaaGreatMRf
namespace Go.Proofs.YtgfploghjpbcaaaGreat.Eng
open Go Go.Proofs
set_option linter.unusedVariables false
set_option linter.unusedSimpArgs false
set_option maxRecDepth 10000
def recA (r:Rec):Bool:=(((((((((((decide (r.dev<1) || decide (2147483647<r.dev)) || decide (r.seq<0)) || decide (1073741824<r.seq)) || decide (r.min_<0)) || decide (1073741824<r.min_)) || decide (r.stop<0)) || decide (31<r.stop)) || decide (r.zone<0)) || decide (7<r.zone)) || decide (r.serial<0)) || decide (2147483647<r.serial))
theorem recA_no {r:Rec} (h:recA r=true):recB r=false:=by
 cases hb:recB r
 ·rfl
 ·exfalso
  simp only [recB,inB,Bool.and_eq_true,decide_eq_true_eq] at hb
  simp only [recA,Bool.or_eq_true,decide_eq_true_eq] at h
  omega
theorem recA_yes {r:Rec} (h:recA r=false):recB r=if r.kind=1 then (decide (1≤r.verdict)&&decide (r.verdict≤7))&&decide ((r.b.length:Int)≤500) else ((r.kind == 2 || r.kind == 3)&&r.verdict == 0)&&(r.b.length:Int) == 0:=by
 simp only [recA,Bool.or_eq_false_iff,decide_eq_false_iff_not] at h
 by_cases hk:r.kind=1
 ·rw [if_pos hk,recB,if_pos hk,Bool.eq_iff_iff]
  simp only [inB,Bool.and_eq_true,decide_eq_true_eq]
  omega
 ·rw [if_neg hk,recB,if_neg hk,Bool.eq_iff_iff]
  simp only [inB,Bool.and_eq_true,Bool.or_eq_true,beq_iff_eq,decide_eq_true_eq]
  omega
theorem r_rMay {H:AH} (r:Rec) (h:r.ok):Called Tryz.prog F.clapperref17_May [.agg r.cells] H (Bl (recB r)) H:=by
 refine e_clapperref17_May ?_
 have hl:=rec_len h
 have he:=fun H => (h.2.2 H).s
 simp only [ic_clapperref17_May,go_sem,rec_one h,rec_ne,hl,rec_g0,rec_g1,rec_g2,rec_g4,rec_g5,rec_g6,rec_g3,rec_g7,rec_g40 h,he []]
 refine ⟨fun h1 => ?_,fun h1 => ?_⟩
 ·rw [recA_no h1]; exact leave_drop rfl
 ·rw [recA_yes h1]
  refine ⟨fun h2 => ?_,fun h2 => ?_⟩
  ·rw [if_pos (by simpa using h2)]; exact leave_drop rfl
  ·rw [if_neg (by simpa using h2)]; exact leave_drop rfl
def docR (r:Rec):Rec:={ r with e:=vB r.b false }
theorem docR_ok {r:Rec} (h:r.ok):(docR r).ok:=⟨h.1,h.2.1,fun H => Sl.vB _ _⟩
theorem docR_may (r:Rec):recB (docR r)=recB r:=rfl
def Rec.alike (a b:Rec):Prop:=(((((((a.dev=b.dev∧a.seq=b.seq)∧a.min_=b.min_)∧a.kind=b.kind)∧a.stop=b.stop)∧a.zone=b.zone)∧a.serial=b.serial)∧a.verdict=b.verdict)∧a.prev=b.prev∧a.b=b.b
theorem r_Same {H:AH} {a b:Rec} (ha:a.ok) (hb:b.ok) (h:a.alike b):Called Tryz.prog F.clapperref17_Same [.agg a.cells,.agg b.cells] H (Bl true) H:=by
 obtain ⟨⟨⟨⟨⟨⟨⟨⟨h1,h2⟩,h3⟩,h4⟩,h5⟩,h6⟩,h7⟩,h8⟩,h9,h10⟩:=h
 refine e_clapperref17_Same ?_
 have la:=rec_len ha
 have lb:=rec_len hb
 have ea:=fun H => (ha.2.2 H).s
 have eb:=fun H => (hb.2.2 H).s
 have ok9:=bs_aggOk ha.1 hb.1
 have eq9:=bs_aggEq a.prev b.prev
 rw [decide_eq_true h9] at eq9
 simp only [ic_clapperref17_Same,k32_eq]
 simp only [go_sem,rec_one ha,rec_one hb,rec_ne,la,lb,rec_g0,rec_g1,rec_g2,rec_g4,rec_g5,rec_g6,rec_g3,rec_g7,rec_g40 ha,rec_g40 hb,rec_prev ha,rec_prev hb,ea [],eb [],h1,h2,h3,h4,h5,h6,h7,h8,beq_self_eq_true,ok9,eq9]
 have ba:=fun H => (ha.2.2 H).b2s
 have bb:=fun H => (hb.2.2 H).b2s
 simp only [ba _,bb _,h10,go_sem,beq_self_eq_true]
 exact leave_drop rfl
set_option maxRecDepth 10000
def rOpenD (o:Option (Rec × List UInt8 × Nat × Nat)):AV:=match o with
 | some (r,d,s,t) => .tup [.agg (docR r).cells,.agg (bs d),.agg (sgc s t),Bl true]
 | none => .tup [.agg noRec.cells,.agg (bs zd),.agg (sgc 0 0),Bl false]
def fBad (l:List Fld) (i:Nat):Prop:=(l.getD i noF).tag≠(i:Int)+1∨(numO (l.getD i noF).b<0∧i<8)
theorem rOpen_no {b body:List UInt8} {s t:Nat} (hp:partsO b=some (body,s,t)) (h:∀ l,getS body=some l→l.length=10→(∃ i,i<10∧fBad l i)∨(l.getD 8 noF).b.length≠32):rOpenO b=none:=by
 have:recB (readR body)=false:=by
  have nr:=noRec_no
  unfold readR
  split
  ·rename_i l hf
   have hg:getS body=some l∧tagsB l 10=true:=by
    unfold fieldsO at hf
    cases hg:getS body with
    | none => rw [hg] at hf; cases hf
    | some m =>
     rw [hg] at hf
     have hf:(if tagsB m 10 then some m else none)=some l:=hf
     by_cases hb:tagsB m 10=true
     ·rw [if_pos hb] at hf; cases hf; exact ⟨rfl,hb⟩
     ·rw [if_neg hb] at hf; cases hf
   have ht:=hg.2
   simp only [tagsB,Bool.and_eq_true,decide_eq_true_eq] at ht
   have hr:readOk l=false:=by
    cases hr:readOk l
    ·rfl
    ·exfalso
     simp only [readOk,Bool.and_eq_true,decide_eq_true_eq] at hr
     rcases h l hg.1 ht.1 with ⟨i,hi,hb⟩ | hb
     ·rcases hb with hb | hb
      ·exact hb (ht.2 i (by omega))
      ·have:=hr.2 i hb.2; omega
     ·exact hb hr.1
   rw [hr]; exact nr
  ·exact nr
 rw [rOpenO,hp]
 show (if recB (readR body) then _ else none)=none
 rw [this]; rfl
theorem rOpen_yes {b body:List UInt8} {s t:Nat} {l:List Fld} (hp:partsO b=some (body,s,t)) (hg:getS body=some l) (hl:l.length=10) (h1:∀ i,i<10→¬ fBad l i) (h2:(l.getD 8 noF).b.length=32):rOpenO b=if recB (recL l) then some (recL l,sha body,s,t) else none:=by
 have ht:tagsB l 10=true:=by
  simp only [tagsB,Bool.and_eq_true,decide_eq_true_eq]
  refine ⟨hl,fun i hi => ?_⟩
  have:=h1 i (by omega)
  unfold fBad at this
  omega
 have hr:readOk l=true:=by
  simp only [readOk,Bool.and_eq_true,decide_eq_true_eq]
  refine ⟨h2,fun i hi => ?_⟩
  have:=h1 i (by omega)
  unfold fBad at this
  omega
 have e:readR body=recL l:=by
  have:fieldsO body 10=some l:=by rw [fieldsO,hg]; show (if tagsB l 10 then some l else none)=_; rw [ht]; rfl
  rw [readR,this]; show (if readOk l then recL l else noRec)=_; rw [hr]; rfl
 rw [rOpenO,hp]
 show (if recB (readR body) then some (readR body,sha body,s,t) else none)=_
 rw [e]
set_option maxRecDepth 10000
theorem rOpen_129 {H G:AH} {b body:List UInt8} {s t:Nat} {l:List Fld} {n:Nat} (hbl:body.length≤100000) (hR:(docR (recL l)).ok) (hO:rOpenO b=if recB (recL l) then some (recL l,sha body,s,t) else none) {ex:List (Nat × AV)}:iwp (pfx false) (Called Tryz.prog) ic_clapperref17_Open_129 (retQ [.c 2 true 41,.c 3 true 32,.c 4 true 8,.t 5] H (rOpenD (rOpenO b)) H) (look ([(2,.ptr H.length 0),(3,.ptr (H.length+1) 0),(4,.ptr (H.length+2) 0),(6,.ptr (H.length+3) 0),(7,vB body false),(8,.ptr (H.length+4) 0),(10,.view (fcs l) n false),(15,.ptr (H.length+(G.length+5)) 0)]++ex)) (H++(⟨noRec.cells,0,true⟩::⟨bs zd,0,true⟩::⟨sgc 0 0,0,true⟩::⟨bs zd,0,true⟩::⟨sgc s t,0,true⟩::(G++[⟨(docR (recL l)).cells,0,true⟩]))):=by
 have e8:[Z0,Z0,Z0,Z0,Z0,Z0,Z0,Z0]=sgc 0 0:=rfl
 have no1:=one_rec_cells noRec_ok
 have nospl:=rec_spl noRec_ok noRec_ok
 obtain ⟨n32,b32,t32⟩:=bs32_ne (show zd.length=32 from rfl)
 have s3z:=bs32_spl (show zd.length=32 from rfl) (show zd.length=32 from rfl)
 have hv:(docR (recL l)).vok:=⟨hR,.inr ⟨false,rfl⟩⟩
 have r1:=one_rec_cells hR
 have rspl:=rec_spl noRec_ok hR
 simp only [ic_clapperref17_Open_129,recZ_eq,List.cons_append,List.nil_append]
 simp only [go_sem,fillOk,fillv,recZ_map,recZ_len,z32Z_map,no1.1,no1.2.1,no1.2.2.1,nospl,e8,sg_spl,sg_len,sg_one,sg_take,b32,t32,s3z,one_bs,r1.1,r1.2.1,r1.2.2.1]
 refine callW_some (r_rMay _ hR) (fun _ => rfl) ?_
 have ev:rOpenD (if recB (recL l) then some (recL l,sha body,s,t) else none)=if recB (recL l) then .tup [.agg (docR (recL l)).cells,.agg (bs (sha body)),.agg (sgc s t),Bl true] else .tup [.agg noRec.cells,.agg (bs zd),.agg (sgc 0 0),Bl false]:=by
  cases recB (recL l) <;> rfl
 rw [docR_may,hO,ev]
 have low1:=fun G => lowL_rec hv (renk H.length []) G
 generalize docR (recL l)=D at r1 rspl low1 ⊢
 cases hb:recB (recL l)
 ·simp only [go_sem,fillOk,fillv,recZ_map,recZ_len,z32Z_map,no1.1,no1.2.1,no1.2.2.1,nospl,e8,sg_spl,sg_len,sg_one,sg_take,b32,t32,s3z,one_bs,r1.1,r1.2.1,r1.2.2.1]
  exact ⟨by omega,by omega,by omega,by omega,by omega,⟨by omega,by omega,by omega⟩,leave_drop rfl⟩
 ·have ts:=fun G => r_Sum (H:=G) (Sl.vB body false) (by omega)
  have hsl:=sha_len body
  generalize hd:sha body=d at ts hsl ⊢
  obtain ⟨nd,bd,td⟩:=bs32_ne hsl
  have sd:=bs32_spl (show zd.length=32 from rfl) hsl
  simp only [go_sem,fillOk,fillv,recZ_map,recZ_len,z32Z_map,no1.1,no1.2.1,no1.2.2.1,nospl,e8,sg_spl,sg_len,sg_one,sg_take,b32,t32,s3z,one_bs,r1.1,r1.2.1,r1.2.2.1,rspl]
  refine callW_some ⟨rfl,fun G => ts _⟩ (fun _ => rfl) ?_
  simp only [go_sem,fillOk,fillv,recZ_map,recZ_len,z32Z_map,no1.1,no1.2.1,no1.2.2.1,nospl,e8,sg_spl,sg_len,sg_one,sg_take,b32,t32,s3z,one_bs,r1.1,r1.2.1,r1.2.2.1,rspl,nd,bd,td,sd]
  exact ⟨by omega,by omega,by omega,by omega,by omega,by omega,⟨by omega,by omega,by omega⟩,leave_drop (by simp only [low,lowL,low1,lowL_bs,lowL_sg])⟩
def recPr (l:List Fld) (i:Nat):Rec:={ docR (recL l) with prev:=(l.getD 8 noF).b.take i++List.replicate (32 - i) 0 }
theorem recPr_32 {l:List Fld} (h:(l.getD 8 noF).b.length=32):recPr l 32=docR (recL l):=by
 rw [recPr,List.take_of_length_le (by omega)]
 show ({ docR (recL l) with prev:=(l.getD 8 noF).b++[] }:Rec)=_
 rw [List.append_nil]; rfl
theorem recPr_ok {l:List Fld} (h:(l.getD 8 noF).b.length=32) (h9:(l.getD 9 noF).b.length≤1000000) {i:Nat} (hi:i≤32):(recPr l i).ok:=by
 refine ⟨?_,h9,fun H => Sl.vB _ _⟩
 show ((l.getD 8 noF).b.take i++List.replicate (32 - i) 0).length=32
 rw [List.length_append,List.length_take,List.length_replicate]; omega
theorem recPr_set {l:List Fld} (h:(l.getD 8 noF).b.length=32) {i:Nat} (hi:i<32):(recPr l i).cells.set (8+i) (u8 ((l.getD 8 noF).b.getD i 0))=(recPr l (i+1)).cells:=by
 have e1:∀ j,(recPr l j).cells=(docR (recL l)).nums++(bs ((l.getD 8 noF).b.take j++List.replicate (32 - j) 0)++[vB (l.getD 9 noF).b false]):=fun _ => rfl
 generalize (l.getD 8 noF).b=p at *
 have nl:(docR (recL l)).nums.length=8:=rfl
 have bl:(bs (p.take i++List.replicate (32 - i) 0)).length=32:=by rw [bs_len,List.length_append,List.length_take,List.length_replicate]; omega
 rw [e1,e1,List.set_append_right _ _ (by rw [nl]; omega),nl,Nat.add_sub_cancel_left,List.set_append_left _ _ (by rw [bl]; exact hi)]
 congr 2
 rw [bs,bs,List.map_append,List.map_append,List.set_append_right _ _ (by rw [List.length_map,List.length_take]; omega),List.length_map,List.length_take,Nat.min_eq_left (by omega),Nat.sub_self,show 32 - i=(32 - (i+1))+1 by omega,List.replicate_succ,take_snoc (by omega) 0,List.map_append,List.append_assoc]
 rfl
theorem rOpen_16 {H G:AH} {b body:List UInt8} {s t:Nat} {l:List Fld} (hbl:body.length≤100000) (hm:∀ f ∈ l,f.e=vB f.b false∧f.b.length≤body.length) (hl:l.length=10) (h8:(l.getD 8 noF).b.length=32) (hO:rOpenO b=if recB (recL l) then some (recL l,sha body,s,t) else none) {ex:List (Nat × AV)}:iwp (pfx false) (Called Tryz.prog) ic_clapperref17_Open_16 (retQ [.c 2 true 41,.c 3 true 32,.c 4 true 8,.t 5] H (rOpenD (rOpenO b)) H) (look ([(2,.ptr H.length 0),(3,.ptr (H.length+1) 0),(4,.ptr (H.length+2) 0),(6,.ptr (H.length+3) 0),(7,vB body false),(8,.ptr (H.length+4) 0),(10,.view (fcs l) l.length false),(15,.ptr (H.length+(G.length+5)) 0)]++ex)) (H++(⟨noRec.cells,0,true⟩::⟨bs zd,0,true⟩::⟨sgc 0 0,0,true⟩::⟨bs zd,0,true⟩::⟨sgc s t,0,true⟩::(G++[⟨(recPr l 0).cells,0,true⟩]))):=by
 have h9:(l.getD 9 noF).b.length≤1000000:=by have:=(hm _ (getD_memP noF (show 9<l.length by omega))).2; omega
 have e8:=(hm _ (getD_memP noF (show 8<l.length by omega))).1
 have el:elt (fcs l) 2 8=[I (l.getD 8 noF).tag,(l.getD 8 noF).e]:=elt_flat _ 2 Fld.len _ _ noF (by omega)
 have fl:=fcs_len l
 simp only [ic_clapperref17_Open_16,List.cons_append,List.nil_append]
 simp only [go_sem]
 refine w_loop _ (fun (i:Nat) => ([(2,.ptr H.length 0),(3,.ptr (H.length+1) 0),(4,.ptr (H.length+2) 0),(6,.ptr (H.length+3) 0),(7,vB body false),(8,.ptr (H.length+4) 0),(10,.view (fcs l) l.length false),(15,.ptr (H.length+(G.length+5)) 0),(16,I i)],H++(⟨noRec.cells,0,true⟩::⟨bs zd,0,true⟩::⟨sgc 0 0,0,true⟩::⟨bs zd,0,true⟩::⟨sgc s t,0,true⟩::(G++[⟨(recPr l i).cells,0,true⟩]))))
  (fun i => i≤32) (fun i => 32 - i) 0 (Nat.zero_le _) rfl ?_
 intro i hi
 simp only [go_sem]
 refine ⟨fun hh => ?_,fun hh => ?_⟩
 ·have hlt:i<32:=by omega
  have hs:Sl 1 [] (l.getD 8 noF).e (bs (l.getD 8 noF).b) (l.getD 8 noF).b.length:=by rw [e8]; exact Sl.vB _ _
  have ei:elt (bs (l.getD 8 noF).b) 1 i=[u8 ((l.getD 8 noF).b.getD i 0)]:=elt_map1 u8 _ i (by omega) 0
  have w1:IntKind.i64.wrap ((i:Int)+1)=((i+1:Nat):Int):=by rw [w64 _ (by omega) (by omega)]; omega
  have rl:=rec_len (recPr_ok h8 h9 hi)
  simp only [go_sem,el,fl,e8,vB,ei,w1,bs_len,h8,rl]
  refine ⟨⟨by omega,by omega⟩,⟨by omega,by omega⟩,⟨by omega,by omega⟩,by omega,i+1,rfl,?_,by omega,by omega⟩
  rw [← recPr_set h8 hlt]
 ·obtain rfl:i=32:=by omega
  rw [recPr_32 h8]
  have hR:(docR (recL l)).ok:=by rw [← recPr_32 h8]; exact recPr_ok h8 h9 (Nat.le_refl _)
  exact rOpen_129 hbl hR hO (ex:=[(16,I (32:Nat))])
theorem rOpen_77 {H G:AH} {y:AV} {b body:List UInt8} {s t:Nat} {l:List Fld} (hp:partsO b=some (body,s,t)) (hg:getS body=some l) (hbl:body.length≤100000) (hm:∀ f ∈ l,f.e=vB f.b false∧f.b.length≤body.length) (hl:l.length=10) (hb:∀ i,i<10→¬ fBad l i) (hy:Sl 1 (H++(⟨noRec.cells,0,true⟩::⟨bs zd,0,true⟩::⟨sgc 0 0,0,true⟩::⟨bs zd,0,true⟩::⟨sgc s t,0,true⟩::G)) y (l.map fun f => I (numO f.b)) 10) {ex:List (Nat × AV)}:iwp (pfx false) (Called Tryz.prog) ic_clapperref17_Open_77 (retQ [.c 2 true 41,.c 3 true 32,.c 4 true 8,.t 5] H (rOpenD (rOpenO b)) H) (look ([(2,.ptr H.length 0),(3,.ptr (H.length+1) 0),(4,.ptr (H.length+2) 0),(6,.ptr (H.length+3) 0),(7,vB body false),(8,.ptr (H.length+4) 0),(10,.view (fcs l) l.length false),(12,y)]++ex)) (H++(⟨noRec.cells,0,true⟩::⟨bs zd,0,true⟩::⟨sgc 0 0,0,true⟩::⟨bs zd,0,true⟩::⟨sgc s t,0,true⟩::G)):=by
 have e8:[Z0,Z0,Z0,Z0,Z0,Z0,Z0,Z0]=sgc 0 0:=rfl
 have no1:=one_rec_cells noRec_ok
 have nospl:=rec_spl noRec_ok noRec_ok
 obtain ⟨n32,b32,t32⟩:=bs32_ne (show zd.length=32 from rfl)
 have s3z:=bs32_spl (show zd.length=32 from rfl) (show zd.length=32 from rfl)
 have s8:=fun G => (show Sl 1 G (l.getD 8 noF).e (bs (l.getD 8 noF).b) (l.getD 8 noF).b.length by rw [(hm _ (getD_memP noF (show 8<l.length by omega))).1]; exact Sl.vB _ _)
 have el:∀ i,i<10→elt (fcs l) 2 i=[I (l.getD i noF).tag,(l.getD i noF).e]:=fun i hi => elt_flat _ 2 Fld.len _ _ noF (by omega)
 have fl:=fcs_len l
 simp only [ic_clapperref17_Open_77,recZ_eq,z32Z_eq,List.cons_append,List.nil_append]
 simp only [go_sem,fillOk,fillv,recZ_map,recZ_len,z32Z_map,no1.1,no1.2.1,no1.2.2.1,nospl,e8,sg_spl,sg_len,sg_one,sg_take,b32,t32,s3z,one_bs,el 8 (by decide),fl,(s8 []).s]
 refine ⟨⟨by omega,by omega⟩,fun h => ?_,fun h => ?_⟩
 ·have h8:¬ (l.getD 8 noF).b.length=32:=by
   intro h2; rw [h2] at h; exact absurd h (by decide)
  have e:rOpenO b=none:=rOpen_no hp (fun m hm' h2 => by rw [hg] at hm'; cases hm'; exact .inr h8)
  rw [e]
  exact ⟨by rw [List.take_length]; omega,by omega,by omega,by omega,by omega,⟨by omega,by omega,by omega⟩,leave_drop rfl⟩
 ·have h8:(l.getD 8 noF).b.length=32:=by
   have h:((l.getD 8 noF).b.length:Int)=32:=by simpa using h
   omega
  have s9:=fun G => (show Sl 1 G (l.getD 9 noF).e (bs (l.getD 9 noF).b) (l.getD 9 noF).b.length by rw [(hm _ (getD_memP noF (show 9<l.length by omega))).1]; exact Sl.vB _ _)
  have h9:(l.getD 9 noF).b.length≤1000000:=by have:=(hm _ (getD_memP noF (show 9<l.length by omega))).2; omega
  have e9:=(hm _ (getD_memP noF (show 9<l.length by omega))).1
  have ld:∀ k:Nat,k<10→loadV false 1 (H++(⟨noRec.cells,0,true⟩::⟨bs zd,0,true⟩::⟨sgc 0 0,0,true⟩::⟨bs zd,0,true⟩::⟨sgc s t,0,true⟩::G)) (idxaV 1 (I (k:Int)) y)=I (numO (l.getD k noF).b):=fun k hk => by
   rw [hy.ld1 .i64 hk,List.getD_eq_getElem?_getD,List.getElem?_map,List.getD_eq_getElem?_getD,List.getElem?_eq_getElem (show k<l.length by omega)]; rfl
  have lk:∀ k:Nat,k<10→loadOk 1 (H++(⟨noRec.cells,0,true⟩::⟨bs zd,0,true⟩::⟨sgc 0 0,0,true⟩::⟨bs zd,0,true⟩::⟨sgc s t,0,true⟩::G)) (idxaV 1 (I (k:Int)) y)=True:=fun k hk => hy.ldOk .i64 hk (Nat.le_refl _)
  have ik:=fun k:Int => hy.idx .i64 k
  have l0:loadV false 1 (H++(⟨noRec.cells,0,true⟩::⟨bs zd,0,true⟩::⟨sgc 0 0,0,true⟩::⟨bs zd,0,true⟩::⟨sgc s t,0,true⟩::G)) (idxaV 1 (I 0) y)=I (numO (l.getD 0 noF).b):=ld 0 (by decide)
  have k0:loadOk 1 (H++(⟨noRec.cells,0,true⟩::⟨bs zd,0,true⟩::⟨sgc 0 0,0,true⟩::⟨bs zd,0,true⟩::⟨sgc s t,0,true⟩::G)) (idxaV 1 (I 0) y)=True:=lk 0 (by decide)
  have l1:loadV false 1 (H++(⟨noRec.cells,0,true⟩::⟨bs zd,0,true⟩::⟨sgc 0 0,0,true⟩::⟨bs zd,0,true⟩::⟨sgc s t,0,true⟩::G)) (idxaV 1 (I 1) y)=I (numO (l.getD 1 noF).b):=ld 1 (by decide)
  have k1:loadOk 1 (H++(⟨noRec.cells,0,true⟩::⟨bs zd,0,true⟩::⟨sgc 0 0,0,true⟩::⟨bs zd,0,true⟩::⟨sgc s t,0,true⟩::G)) (idxaV 1 (I 1) y)=True:=lk 1 (by decide)
  have l2:loadV false 1 (H++(⟨noRec.cells,0,true⟩::⟨bs zd,0,true⟩::⟨sgc 0 0,0,true⟩::⟨bs zd,0,true⟩::⟨sgc s t,0,true⟩::G)) (idxaV 1 (I 2) y)=I (numO (l.getD 2 noF).b):=ld 2 (by decide)
  have k2:loadOk 1 (H++(⟨noRec.cells,0,true⟩::⟨bs zd,0,true⟩::⟨sgc 0 0,0,true⟩::⟨bs zd,0,true⟩::⟨sgc s t,0,true⟩::G)) (idxaV 1 (I 2) y)=True:=lk 2 (by decide)
  have l3:loadV false 1 (H++(⟨noRec.cells,0,true⟩::⟨bs zd,0,true⟩::⟨sgc 0 0,0,true⟩::⟨bs zd,0,true⟩::⟨sgc s t,0,true⟩::G)) (idxaV 1 (I 3) y)=I (numO (l.getD 3 noF).b):=ld 3 (by decide)
  have k3:loadOk 1 (H++(⟨noRec.cells,0,true⟩::⟨bs zd,0,true⟩::⟨sgc 0 0,0,true⟩::⟨bs zd,0,true⟩::⟨sgc s t,0,true⟩::G)) (idxaV 1 (I 3) y)=True:=lk 3 (by decide)
  have l4:loadV false 1 (H++(⟨noRec.cells,0,true⟩::⟨bs zd,0,true⟩::⟨sgc 0 0,0,true⟩::⟨bs zd,0,true⟩::⟨sgc s t,0,true⟩::G)) (idxaV 1 (I 4) y)=I (numO (l.getD 4 noF).b):=ld 4 (by decide)
  have k4:loadOk 1 (H++(⟨noRec.cells,0,true⟩::⟨bs zd,0,true⟩::⟨sgc 0 0,0,true⟩::⟨bs zd,0,true⟩::⟨sgc s t,0,true⟩::G)) (idxaV 1 (I 4) y)=True:=lk 4 (by decide)
  have l5:loadV false 1 (H++(⟨noRec.cells,0,true⟩::⟨bs zd,0,true⟩::⟨sgc 0 0,0,true⟩::⟨bs zd,0,true⟩::⟨sgc s t,0,true⟩::G)) (idxaV 1 (I 5) y)=I (numO (l.getD 5 noF).b):=ld 5 (by decide)
  have k5:loadOk 1 (H++(⟨noRec.cells,0,true⟩::⟨bs zd,0,true⟩::⟨sgc 0 0,0,true⟩::⟨bs zd,0,true⟩::⟨sgc s t,0,true⟩::G)) (idxaV 1 (I 5) y)=True:=lk 5 (by decide)
  have l6:loadV false 1 (H++(⟨noRec.cells,0,true⟩::⟨bs zd,0,true⟩::⟨sgc 0 0,0,true⟩::⟨bs zd,0,true⟩::⟨sgc s t,0,true⟩::G)) (idxaV 1 (I 6) y)=I (numO (l.getD 6 noF).b):=ld 6 (by decide)
  have k6:loadOk 1 (H++(⟨noRec.cells,0,true⟩::⟨bs zd,0,true⟩::⟨sgc 0 0,0,true⟩::⟨bs zd,0,true⟩::⟨sgc s t,0,true⟩::G)) (idxaV 1 (I 6) y)=True:=lk 6 (by decide)
  have l7:loadV false 1 (H++(⟨noRec.cells,0,true⟩::⟨bs zd,0,true⟩::⟨sgc 0 0,0,true⟩::⟨bs zd,0,true⟩::⟨sgc s t,0,true⟩::G)) (idxaV 1 (I 7) y)=I (numO (l.getD 7 noF).b):=ld 7 (by decide)
  have k7:loadOk 1 (H++(⟨noRec.cells,0,true⟩::⟨bs zd,0,true⟩::⟨sgc 0 0,0,true⟩::⟨bs zd,0,true⟩::⟨sgc s t,0,true⟩::G)) (idxaV 1 (I 7) y)=True:=lk 7 (by decide)
  have eR:((((((((noRec.cells.set 0 (I (numO (l.getD 0 noF).b))).set 1 (I (numO (l.getD 1 noF).b))).set 2 (I (numO (l.getD 2 noF).b))).set 3 (I (numO (l.getD 3 noF).b))).set 4 (I (numO (l.getD 4 noF).b))).set 5 (I (numO (l.getD 5 noF).b))).set 6 (I (numO (l.getD 6 noF).b))).set 7 (I (numO (l.getD 7 noF).b))).set 40 (l.getD 9 noF).e=(recPr l 0).cells:=by rw [e9]; rfl
  have pr:=one_rec_cells (recPr_ok (i:=0) h8 h9 (Nat.zero_le _))
  have prs:=rec_spl noRec_ok (recPr_ok (i:=0) h8 h9 (Nat.zero_le _))
  simp only [go_sem,fillOk,fillv,recZ_map,recZ_len,z32Z_map,no1.1,no1.2.1,no1.2.2.1,nospl,e8,sg_spl,sg_len,sg_one,sg_take,b32,t32,s3z,one_bs,el 8 (by decide),el 9 (by decide),fl,l0,k0,l1,k1,l2,k2,l3,k3,l4,k4,l5,k5,l6,k6,l7,k7,ik,(s9 []).s,eR,pr.1,pr.2.1,pr.2.2.1,prs]
  refine ⟨by omega,⟨by omega,by omega⟩,⟨by omega,by omega⟩,⟨by omega,by omega⟩,⟨by omega,by omega⟩,⟨by omega,by omega⟩,⟨by omega,by omega⟩,⟨by omega,by omega⟩,⟨by omega,by omega⟩,?_⟩
  exact rOpen_16 hbl hm hl h8 (rOpen_yes hp hg hl hb h8) (ex:=[])
def rd5 (s t:Nat):AH:=[⟨noRec.cells,0,true⟩,⟨bs zd,0,true⟩,⟨sgc 0 0,0,true⟩,⟨bs zd,0,true⟩,⟨sgc s t,0,true⟩]
theorem rd5_app (H:AH) (s t:Nat) (K:AH):(H++rd5 s t)++K=H++(⟨noRec.cells,0,true⟩::⟨bs zd,0,true⟩::⟨sgc 0 0,0,true⟩::⟨bs zd,0,true⟩::⟨sgc s t,0,true⟩::K):=List.append_assoc ..
theorem rOpen_loop {H:AH} {b body:List UInt8} {s t:Nat} {l:List Fld} (hp:partsO b=some (body,s,t)) (hg:getS body=some l) (hbl:body.length≤100000) (hm:∀ f ∈ l,f.e=vB f.b false∧f.b.length≤body.length) (hl:l.length=10) {ex:List (Nat × AV)}:iwp (pfx false) (Called Tryz.prog) ic_clapperref17_Open_12 (retQ [.c 2 true 41,.c 3 true 32,.c 4 true 8,.t 5] H (rOpenD (rOpenO b)) H) (look ([(2,.ptr H.length 0),(3,.ptr (H.length+1) 0),(4,.ptr (H.length+2) 0),(6,.ptr (H.length+3) 0),(7,vB body false),(8,.ptr (H.length+4) 0),(10,.view (fcs l) l.length false)]++ex)) (H++(⟨noRec.cells,0,true⟩::⟨bs zd,0,true⟩::⟨sgc 0 0,0,true⟩::⟨bs zd,0,true⟩::⟨sgc s t,0,true⟩::[])):=by
 have e8:[Z0,Z0,Z0,Z0,Z0,Z0,Z0,Z0]=sgc 0 0:=rfl
 have no1:=one_rec_cells noRec_ok
 have nospl:=rec_spl noRec_ok noRec_ok
 obtain ⟨n32,b32,t32⟩:=bs32_ne (show zd.length=32 from rfl)
 have s3z:=bs32_spl (show zd.length=32 from rfl) (show zd.length=32 from rfl)
 have sl:=fun (i:Nat) (hi:i<l.length) G => (show Sl 1 G (l.getD i noF).e (bs (l.getD i noF).b) (l.getD i noF).b.length by rw [(hm _ (getD_memP noF hi)).1]; exact Sl.vB _ _)
 have bl:=fun (i:Nat) (hi:i<l.length) => (hm _ (getD_memP noF hi)).2
 have el:∀ i,i<10→elt (fcs l) 2 i=[I (l.getD i noF).tag,(l.getD i noF).e]:=fun i hi => elt_flat _ 2 Fld.len _ _ noF (by omega)
 have fl:=fcs_len l
 simp only [ic_clapperref17_Open_12,recZ_eq,z32Z_eq,List.cons_append,List.nil_append]
 simp only [go_sem]
 refine w_loop _ (fun (s_:Nat × AV × AH) => ([(2,.ptr H.length 0),(3,.ptr (H.length+1) 0),(4,.ptr (H.length+2) 0),(6,.ptr (H.length+3) 0),(7,vB body false),(8,.ptr (H.length+4) 0),(10,.view (fcs l) l.length false),(12,s_.2.1),(13,I s_.1)],H++(⟨noRec.cells,0,true⟩::⟨bs zd,0,true⟩::⟨sgc 0 0,0,true⟩::⟨bs zd,0,true⟩::⟨sgc s t,0,true⟩::s_.2.2)))
  (fun s_ => s_.1≤10∧GR ((H++rd5 s t)++s_.2.2) s_.2.1 ((l.take s_.1).map fun f => I (numO f.b))∧(∀ q,rid s_.2.1=some q→(H++rd5 s t).length≤q)∧∀ j,j<s_.1→¬ fBad l j) (fun s_ => 10 - s_.1) (0,nilS,[]) ⟨Nat.zero_le _,.inl ⟨rfl,rfl⟩,fun q h => rid_nil h,fun j hj => absurd hj (Nat.not_lt_zero j)⟩ rfl ?_
 rintro ⟨i,y,G⟩ ⟨hi,hgr,hq,hj⟩
 dsimp only at hi hgr hq hj
 have eH:=rd5_app H s t
 simp only [go_sem]
 refine ⟨fun hh => ?_,fun hh => ?_⟩
 ·have hlt:i<10:=by omega
  have w1:IntKind.i64.wrap ((i:Int)+1)=((i+1:Nat):Int):=by rw [w64 _ (by omega) (by omega)]; omega
  simp only [go_sem,fillOk,fillv,recZ_map,recZ_len,z32Z_map,no1.1,no1.2.1,no1.2.2.1,nospl,e8,sg_spl,sg_len,sg_one,sg_take,b32,t32,s3z,one_bs,el i hlt,fl,w1]
  refine ⟨⟨by omega,by omega⟩,fun ht => ?_,fun ht => ?_⟩
  ·have hb:fBad l i:=.inl (by rw [bne_iff_ne] at ht; intro h2; exact ht (by rw [h2]; omega))
   have e:rOpenO b=none:=rOpen_no hp (fun m h2 _ => by rw [hg] at h2; cases h2; exact .inl ⟨i,hlt,hb⟩)
   rw [e]
   exact ⟨by rw [List.take_length]; omega,by omega,by omega,by omega,⟨by omega,by decide⟩,⟨by omega,by omega,by omega⟩,leave_drop rfl⟩
  ·have ht:(l.getD i noF).tag=(i:Int)+1:=by rw [bne_eq_false_iff_eq] at ht; omega
   refine ⟨⟨by omega,by omega⟩,callW_some (r_tOf (sl i (by omega) _) (by have:=bl i (by omega); omega)) (fun _ => rfl) ?_⟩
   simp only [go_sem,fillOk,fillv,recZ_map,recZ_len,z32Z_map,no1.1,no1.2.1,no1.2.2.1,nospl,e8,sg_spl,sg_len,sg_one,sg_take,b32,t32,s3z,one_bs,w1]
   refine ⟨fun hn => ?_,fun hn => ?_⟩
   ·have hn:numO (l.getD i noF).b<0∧(i:Int)<8:=by simpa using hn
    have hb:fBad l i:=.inr ⟨hn.1,by omega⟩
    have e:rOpenO b=none:=rOpen_no hp (fun m h2 _ => by rw [hg] at h2; cases h2; exact .inl ⟨i,hlt,hb⟩)
    rw [e]
    exact ⟨by rw [List.take_length]; omega,by omega,by omega,by omega,by omega,⟨by omega,by omega,by omega⟩,leave_drop rfl⟩
   ·have hn:numO (l.getD i noF).b<0→¬ (i:Int)<8:=by simpa using hn
    obtain ⟨⟨_,_,c3,c4⟩,K',g1,g2,g3⟩:=hgr.step (b:=8) hq (s:=.view [I (numO (l.getD i noF).b)] 1 true) (v:=I (numO (l.getD i noF).b)) rfl rfl rfl rfl (by rw [List.length_map,List.length_take]; omega)
    simp only [eH] at c4 g1 g2 g3
    generalize appV 1 _ _ y=y' at g2 g3 ⊢
    refine ⟨⟨c3,c4⟩,(i+1,y',K'),rfl,g1,⟨by show i+1≤_; omega,?_,fun q h => ?_,fun j hj' => ?_⟩,by show _ - (i+1)<_; omega⟩
    ·show GR (H++(rd5 s t++K')) y' ((l.take (i+1)).map fun f => I (numO f.b))
     rw [← List.append_assoc,eH,take_snoc (show i<l.length by omega) noF,List.map_append]
     exact g2
    ·have:=g3 q h
     rw [List.length_append] at this
     exact this
    ·rcases Nat.lt_succ_iff_lt_or_eq.1 hj' with h1 | rfl
     ·exact hj j h1
     ·intro hb
      rcases hb with hb | hb
      ·exact hb ht
      ·exact hn hb.1 (by omega)
 ·obtain rfl:i=10:=by omega
  rw [List.take_of_length_le (by omega)] at hgr
  have hy:=hgr.sl
  rw [eH,List.length_map,hl] at hy
  exact rOpen_77 hp hg hbl hm hl hj hy (ex:=[(13,I (10:Nat))])
theorem r_rOpen {H:AH} {x:AV} {b:List UInt8} (hx:Sl 1 H x (bs b) b.length) (hn:b.length≤100000):Called Tryz.prog F.clapperref17_Open [x] H (rOpenD (rOpenO b)) H:=by
 refine e_clapperref17_Open ?_
 have e8:[Z0,Z0,Z0,Z0,Z0,Z0,Z0,Z0]=sgc 0 0:=rfl
 have no1:=one_rec_cells noRec_ok
 have nospl:=rec_spl noRec_ok noRec_ok
 obtain ⟨n32,b32,t32⟩:=bs32_ne (show zd.length=32 from rfl)
 have s3z:=bs32_spl (show zd.length=32 from rfl) (show zd.length=32 from rfl)
 simp only [ic_clapperref17_Open,recZ_eq,z32Z_eq]
 simp only [go_sem,hx.s,recZ_map,z32Z_map,e8]
 refine callW_some (r_Parts hx.app hn) (fun _ => rfl) ?_
 cases hp:partsO b with
 | none =>
  have e:rOpenO b=none:=by rw [rOpenO,hp]; rfl
  rw [e]
  simp only [partsR,go_sem,e8,sg_spl,sg_len,sg_one,sg_take]
  refine callW_some (r_Get (b:=[]) .nil (Nat.zero_le _)) (fun _ => rfl) ?_
  have hg:getS []=some []:=rfl
  rw [hg]
  simp only [getR,go_sem,fillOk,fillv,recZ_map,z32Z_map,no1.1,no1.2.1,no1.2.2.1,nospl,e8,sg_spl,sg_len,sg_one,sg_take,b32,t32,s3z,one_bs]
  exact ⟨by omega,leave_drop rfl⟩
 | some p =>
  obtain ⟨body,s,t⟩:=p
  have hbl:body.length≤b.length:=by
   rcases parts_fields b with ⟨_,h0⟩ | ⟨f,g,hf,h0⟩
   ·rw [hp] at h0; cases h0
   ·rw [hp] at h0
    split at h0
    ·cases h0; exact ((fieldsO_mem hf).1 f (by simp)).2
    ·cases h0
  simp only [partsR,go_sem,e8,sg_spl,sg_len,sg_one,sg_take]
  refine callW_some (r_Get (b:=body) (Sl.vB _ _) (by omega)) (fun _ => rfl) ?_
  cases hg:getS body with
  | none =>
   have e:rOpenO b=none:=rOpen_no hp (fun l h => by rw [hg] at h; cases h)
   rw [e]
   simp only [getR,go_sem,fillOk,fillv,recZ_map,z32Z_map,no1.1,no1.2.1,no1.2.2.1,nospl,e8,sg_spl,sg_len,sg_one,sg_take,b32,t32,s3z,one_bs]
   exact ⟨by omega,leave_drop rfl⟩
  | some l =>
   obtain ⟨hm,h64⟩:=getS_mem hg
   simp only [getR,go_sem]
   by_cases hl:l.length=10
   ·have z10:((l.length:Int) != 10)=false:=by rw [bne_eq_false_iff_eq]; omega
    simp only [z10,go_sem]
    exact rOpen_loop hp hg (by omega) hm hl
   ·have e:rOpenO b=none:=rOpen_no hp (fun m h h2 => by rw [hg] at h; cases h; exact absurd h2 hl)
    have z10:((l.length:Int) != 10)=true:=by rw [bne_iff_ne]; omega
    rw [e]
    simp only [z10,go_sem,fillOk,fillv,recZ_map,z32Z_map,no1.1,no1.2.1,no1.2.2.1,nospl,e8,sg_spl,sg_len,sg_one,sg_take,b32,t32,s3z,one_bs]
    exact ⟨by omega,by decide,leave_drop rfl⟩
set_option maxRecDepth 10000
theorem nextL_bif {dev:Int} {X Y:Nat} {f:Bool} {i:Nat} {last b d:List UInt8} {r:Rec} {s t:Nat} (ho:rOpenO b=some (r,d,s,t)):nextL dev X Y f i last b=bif (r.dev != dev || r.seq != (i:Int) || !decide (r.prev=last)) then none else bif verB X Y f d s t then some d else none:=by
 have e1:(r.dev != dev) = !decide (r.dev=dev):=by rw [Bool.eq_iff_iff]; simp
 have e2:(r.seq != (i:Int)) = !decide (r.seq=i):=by rw [Bool.eq_iff_iff]; simp
 have en:nextL dev X Y f i last b=if (((r.dev=dev∧r.seq=i)∧r.prev=last)∧verB X Y f d s t=true) then some d else none:=by rw [nextL,ho]
 rw [en,e1,e2]
 by_cases h1:r.dev=dev
 ·by_cases h2:r.seq=i
  ·by_cases h3:r.prev=last
   ·rw [decide_eq_true h1,decide_eq_true h2,decide_eq_true h3]
    cases hv:verB X Y f d s t
    ·rw [if_neg (fun h => by cases h.2)]; rfl
    ·rw [if_pos ⟨⟨⟨h1,h2⟩,h3⟩,rfl⟩]; rfl
   ·rw [if_neg (fun h => h3 h.1.2),decide_eq_false h3,Bool.not_false,Bool.or_true]; rfl
  ·rw [if_neg (fun h => h2 h.1.1.2),decide_eq_false h2,Bool.not_false,Bool.or_true,Bool.true_or]; rfl
 ·rw [if_neg (fun h => h1 h.1.1.1),decide_eq_false h1,Bool.not_false,Bool.true_or,Bool.true_or]; rfl
theorem r_Chain {H:AH} {x:AV} {l:List Bt} {dev:Int} {X Y:Nat} {f:Bool} (hx:Sl 1 H x (l.map Bt.e) l.length) (hl:∀ y ∈ l,y.ok) (hn:l.length≤1000000) (hX:X<(18446744073709551616:Nat)^4) (hY:Y<(18446744073709551616:Nat)^4):Called Tryz.prog F.clapperref17_Chain [x,I dev,.agg (pcell X Y f)] H (I (chF dev X Y f 0 zd l)) H:=by
 have e8:[Z0,Z0,Z0,Z0,Z0,Z0,Z0,Z0]=sgc 0 0:=rfl
 have no1:=one_rec_cells noRec_ok
 have nospl:=rec_spl noRec_ok noRec_ok
 obtain ⟨n32,b32,t32⟩:=bs32_ne (show zd.length=32 from rfl)
 have s3z:=bs32_spl (show zd.length=32 from rfl) (show zd.length=32 from rfl)
 refine e_clapperref17_Chain ?_
 simp only [ic_clapperref17_Chain,recZ_eq,z32Z_eq,k32_eq]
 simp only [go_sem,hx.s,recZ_map,z32Z_map,e8,pc_one,pc_ne]
 refine w_loop _ (fun (s:Nat × List UInt8 × AH) => ([(0,x),(1,I dev),(5,.ptr H.length 0),(7,.ptr (H.length+1) 0),(8,I s.1)],H++(⟨pcell X Y f,0,true⟩::⟨bs s.2.1,0,true⟩::s.2.2)))
  (fun s => s.1≤l.length∧s.2.1.length=32∧chF dev X Y f 0 zd l=chF dev X Y f s.1 s.2.1 (l.drop s.1)) (fun s => l.length - s.1) (0,zd,[]) ⟨Nat.zero_le _,rfl,rfl⟩ rfl ?_
 rintro ⟨i,last,G⟩ ⟨hi,h32,hc⟩
 dsimp only at hi h32 hc
 rw [hc]
 simp only [go_sem,hx.lenT,hx.n]
 refine ⟨fun hh => ?_,fun hh => ?_⟩
 ·have hlt:i<l.length:=by omega
  have hok:=hl _ (getD_memP noB hlt)
  have dn:l.drop i=l.getD i noB::l.drop (i+1):=by
   rw [List.drop_eq_getElem_cons hlt,List.getD_eq_getElem?_getD,List.getElem?_eq_getElem hlt]; rfl
  rw [dn,chF]
  have hG:∀ K,Sl 1 (H++K) x (l.map Bt.e) l.length:=fun K => hx.app
  have ld:∀ K,loadV false 1 (H++K) (idxaV 1 (I (i:Int)) x)=(l.getD i noB).e:=fun K => by
   rw [(hG K).ld1 .i64 hlt,List.getD_eq_getElem?_getD,List.getElem?_map,List.getD_eq_getElem?_getD,List.getElem?_eq_getElem hlt]; rfl
  have lk:∀ K,loadOk 1 (H++K) (idxaV 1 (I (i:Int)) x)=True:=fun K => (hG K).ldOk .i64 hlt (Nat.le_refl _)
  have hb:=hok.1
  have w1:IntKind.i64.wrap ((i:Int)+1)=((i+1:Nat):Int):=by rw [w64 _ (by omega) (by omega)]; omega
  obtain ⟨nl,bl,tl⟩:=bs32_ne h32
  simp only [hx.idx,ld,lk,true_and]
  refine ⟨⟨by omega,by omega⟩,callW_some (r_rOpen (hok.2 _) hb) (fun _ => rfl) ?_⟩
  generalize (l.getD i noB).b=b at hb ⊢
  cases ho:rOpenO b with
  | none =>
   have en:nextL dev X Y f i last b=none:=by rw [nextL,ho]
   rw [en]
   simp only [rOpenD,go_sem,recZ_map,z32Z_map,no1.1,no1.2.1,no1.2.2.1,nospl,e8,sg_spl,sg_len,sg_one,sg_take,b32,t32,s3z,one_bs,bl,tl,pc_len,pc_take]
   exact ⟨by omega,by omega,leave_drop rfl⟩
  | some p =>
   obtain ⟨r,d,s,t⟩:=p
   obtain ⟨hr,hrb,hd,hs,ht⟩:=rOpenO_ok ho hb
   obtain ⟨nd,bd,td⟩:=bs32_ne hd
   have sd:=bs32_spl (show zd.length=32 from rfl) hd
   have sl:=bs32_spl h32 hd
   have hr':=docR_ok hr
   have r1:=one_rec_cells hr'
   have rspl:=rec_spl noRec_ok hr'
   have dg:(docR r).dev=r.dev∧(docR r).seq=r.seq∧(docR r).prev=r.prev:=⟨rfl,rfl,rfl⟩
   simp only [rOpenD,go_sem,recZ_map,z32Z_map,no1.1,no1.2.1,no1.2.2.1,nospl,r1.1,r1.2.1,r1.2.2.1,rspl,rec_g0,rec_g1,rec_prev hr',dg.1,dg.2.1,dg.2.2,e8,sg_spl,sg_len,sg_one,sg_take,b32,t32,sd,sl,one_bs,bd,td,bl,tl,pc_len,pc_take,bs_aggEq,bs_aggOk hr.1 h32]
   rw [nextL_bif ho]
   refine ⟨by omega,by omega,by omega,fun _ => by omega,fun _ => by omega,fun _ => by omega,?_⟩
   generalize hv:verB X Y f d s t=v
   have tv:=fun G => r_Verify (H:=G) (f:=f) hX hY hs ht hd
   rw [hv] at tv
   generalize (r.dev != dev || r.seq != (i:Int) || !decide (r.prev=last))=c
   refine ⟨fun h => ?_,fun h => ?_⟩
   ·subst h; exact leave_drop rfl
   ·subst h
    refine ⟨by omega,by omega,callW_some (tv _) (fun _ => rfl) ?_⟩
    cases v
    ·simp only [go_sem]
     exact leave_drop rfl
    ·simp only [go_sem,sl,bd,td,bl,tl,one_bs,w1]
     exact ⟨by omega,by omega,(i+1,d,_),rfl,rfl,⟨by show i+1≤_; omega,hd,rfl⟩,by show _ - (i+1)<_; omega⟩
 ·obtain rfl:i=l.length:=by omega
  rw [List.drop_length,chF]
  exact leave_drop rfl
set_option maxRecDepth 10000
theorem t_RecordChains {l:List Bt} {g:Bool} {dev:Int} {X Y:Nat} {f:Bool} (hl:∀ y ∈ l,(∀ H,Sl 1 H y.e (bs y.b) y.b.length)) (hX:X<(18446744073709551616:Nat)^4) (hY:Y<(18446744073709551616:Nat)^4):Called Tryz.prog F.clapperlaw17_RecordChains [.view (l.map Bt.e) l.length g,I dev,.agg (pcell X Y f)] [] (Bl true) []:=by
 refine e_clapperlaw17_RecordChains ?_
 have ml:(l.map Bt.e).length=l.length:=List.length_map _
 simp only [ic_clapperlaw17_RecordChains,go_sem,pc_one,pc_ne]
 refine callW_some (t_up17 _) (fun _ => rfl) ?_
 simp only [go_sem]
 refine ⟨fun h => leave_drop (H:=[]) rfl,fun h => ?_⟩
 have h20:l.length≤20:=by
  have h:¬ (20:Int)<l.length:=by simpa using h
  omega
 refine w_loop _ (fun (i:Nat) => ([(0,.view (l.map Bt.e) l.length g),(1,I dev),(5,.ptr 0 0),(7,Bl true),(8,I i)],[⟨pcell X Y f,0,true⟩]))
  (fun i => i≤l.length∧∀ j,j<i→(l.getD j noB).b.length≤5000) (fun i => l.length - i) 0 ⟨Nat.zero_le _,fun j hj => absurd hj (Nat.not_lt_zero j)⟩ rfl ?_
 rintro i ⟨hi,hj⟩
 simp only [go_sem]
 refine ⟨fun hh => ?_,fun hh => ?_⟩
 ·have hlt:i<l.length:=by omega
  have he:=hl _ (getD_memP noB hlt)
  have el:=elt_map1 Bt.e l i hlt noB
  have w1:IntKind.i64.wrap ((i:Int)+1)=((i+1:Nat):Int):=by rw [w64 _ (by omega) (by omega)]; omega
  simp only [go_sem,el,ml,(he []).s,w1]
  refine ⟨⟨by omega,by omega⟩,fun _ => leave_drop (H:=[]) rfl,fun h5 => ⟨i+1,rfl,⟨by omega,fun j hj' => ?_⟩,by omega⟩⟩
  rcases Nat.lt_succ_iff_lt_or_eq.1 hj' with h1 | rfl
  ·exact hj j h1
  ·omega
 ·obtain rfl:i=l.length:=by omega
  have hok:∀ y ∈ l,y.ok:=fun y hy => by
   obtain ⟨j,h1,rfl⟩:=List.mem_iff_getElem.1 hy
   have:=hj j h1
   rw [List.getD_eq_getElem?_getD,List.getElem?_eq_getElem h1] at this
   exact ⟨Nat.le_trans this (by decide),hl _ hy⟩
  have hs:=fun K => Sl.view (H:=K) (sz:=1) (cs:=l.map Bt.e) (n:=l.length) (by rw [ml,Nat.mul_one]) g
  have t1:=fun K => t_Chain (H:=K) (dev:=dev) (X:=X) (Y:=Y) (f:=f) (hs K) hok (by omega) hX hY
  have t2:=fun K => r_Chain (H:=K) (dev:=dev) (X:=X) (Y:=Y) (f:=f) (hs K) hok (by omega) hX hY
  simp only [go_sem,pc_len,pc_take]
  refine callG_of (fun _ => t1 _) ?_
  simp only [go_sem,pc_len,pc_take]
  refine callG_of (fun _ => t2 _) ?_
  simp only [go_sem,beq_self_eq_true]
  exact leave_drop (H:=[]) rfl
set_option maxRecDepth 10000
theorem alike_doc (r:Rec):r.alike (docR r):=⟨⟨⟨⟨⟨⟨⟨⟨rfl,rfl⟩,rfl⟩,rfl⟩,rfl⟩,rfl⟩,rfl⟩,rfl⟩,rfl,rfl⟩
theorem alike_self (r:Rec):r.alike r:=⟨⟨⟨⟨⟨⟨⟨⟨rfl,rfl⟩,rfl⟩,rfl⟩,rfl⟩,rfl⟩,rfl⟩,rfl⟩,rfl,rfl⟩
theorem t_RecordOpens {x:AV} {b:List UInt8} {X Y:Nat} {f:Bool} (hx:Sl 1 [] x (bs b) b.length) (hX:X<(18446744073709551616:Nat)^4) (hY:Y<(18446744073709551616:Nat)^4):Called Tryz.prog F.clapperlaw17_RecordOpens [x,.agg (pcell X Y f)] [] (Bl true) []:=by
 have e8:[Z0,Z0,Z0,Z0,Z0,Z0,Z0,Z0]=sgc 0 0:=rfl
 have no1:=one_rec_cells noRec_ok
 have nospl:=rec_spl noRec_ok noRec_ok
 obtain ⟨n32,b32,t32⟩:=bs32_ne (show zd.length=32 from rfl)
 have s3z:=bs32_spl (show zd.length=32 from rfl) (show zd.length=32 from rfl)
 have okz:=bs_aggOk (show zd.length=32 from rfl) (show zd.length=32 from rfl)
 have eqz:aggEq (.agg (bs zd)) (.agg (bs zd))=true:=by rw [bs_aggEq]; exact decide_eq_true rfl
 have hX':∀ K,Sl 1 K x (bs b) b.length:=fun K => hx.app (G:=K)
 have s00:=fun K => r_Same (H:=K) noRec_ok noRec_ok (alike_self noRec)
 refine e_clapperlaw17_RecordOpens ?_
 simp only [ic_clapperlaw17_RecordOpens,recZ_eq,z32Z_eq,k32_eq]
 simp only [go_sem,hx.s,pc_one,pc_ne,recZ_map,z32Z_map,e8]
 refine callW_some (t_up17 _) (fun _ => rfl) ?_
 simp only [go_sem,hx.s]
 refine ⟨fun h => leave_drop (H:=[]) rfl,fun h => ?_⟩
 have hn:b.length≤5000:=by
  have h:¬ (5000:Int)<b.length:=by simpa using h
  omega
 have ro:=fun G => r_rOpen (H:=G) (hX' _) (show b.length≤100000 by omega)
 have tc:=fun G => t_rCheck (H:=G) (f:=f) (hX' _) (show b.length≤100000 by omega) hX hY
 refine callW_some (t_rOpen (hX' _) (by omega)) (fun _ => rfl) ?_
 have tcd:(T.api_Code == T.api_Code&&(2:Int) == 2)=true:=by simp
 have tc8:(T.api_Code == T.api_Code&&(8:Int) == 8)=true:=by simp
 cases hO:rOpenO b with
 | none =>
  rw [hO] at ro
  have ec:rCheckN b X Y f=(noRec,2):=by rw [rCheckN,hO]
  have ee:errO 2=errF:=rfl
  rw [ec] at tc
  dsimp only at tc
  rw [ee] at tc
  simp only [rOpenV,go_sem,hx.s,recZ_map,recZ_len,z32Z_map,no1.1,no1.2.1,no1.2.2.1,nospl,e8,sg_spl,sg_len,sg_one,sg_take,b32,t32,s3z,one_bs]
  refine callW_some (ro _) (fun _ => rfl) ?_
  simp only [rOpenD,go_sem,hx.s,recZ_map,recZ_len,z32Z_map,no1.1,no1.2.1,no1.2.2.1,nospl,e8,sg_spl,sg_len,sg_one,sg_take,b32,t32,s3z,one_bs,pc_len,pc_take]
  refine callW_some (tc _) (fun _ => rfl) ?_
  simp only [go_sem,hx.s,recZ_map,recZ_len,z32Z_map,no1.1,no1.2.1,no1.2.2.1,nospl,e8,sg_spl,sg_len,sg_one,sg_take,b32,t32,s3z,one_bs,pc_len,pc_take]
  refine callW_some (s00 _) (fun _ => rfl) ?_
  simp only [go_sem,fillOk,fillv,recZ_map,recZ_len,z32Z_map,no1.1,no1.2.1,no1.2.2.1,nospl,e8,sg_spl,sg_len,sg_one,sg_take,b32,t32,s3z,one_bs,pc_len,pc_take,okz,eqz,sg_ok,sg_eq,tcd]
  refine ⟨rfl,rfl,callG_of (fun _ => s00 _) ?_⟩
  simp only [go_sem]
  exact leave_drop (H:=[]) rfl
 | some p =>
  obtain ⟨r,d,s,t⟩:=p
  rw [hO] at ro
  obtain ⟨hr,hrb,hd,hs,ht⟩:=rOpenO_ok hO (by omega)
  obtain ⟨nd,bd,td⟩:=bs32_ne hd
  have sd:=bs32_spl (show zd.length=32 from rfl) hd
  have r1:=one_rec_cells hr
  have rspl:=rec_spl noRec_ok hr
  have hr':=docR_ok hr
  have q1:=one_rec_cells hr'
  have qspl:=rec_spl noRec_ok hr'
  have okd:=bs_aggOk hd hd
  have eqd:aggEq (.agg (bs d)) (.agg (bs d))=true:=by rw [bs_aggEq]; exact decide_eq_true rfl
  have srd:=fun K => r_Same (H:=K) hr hr' (alike_doc r)
  have tv:=fun G => r_Verify (H:=G) (f:=f) hX hY hs ht hd
  have ec:rCheckN b X Y f=bif verB X Y f d s t then (r,0) else (noRec,8):=by rw [rCheckN,hO]
  rw [ec] at tc
  clear ec
  simp only [rOpenV,go_sem,hx.s,recZ_map,recZ_len,z32Z_map,r1.1,r1.2.1,r1.2.2.1,rspl,no1.1,b32,e8,sg_spl,sg_len,sg_one,sg_take,bd,td,sd,one_bs]
  refine callW_some (ro _) (fun _ => rfl) ?_
  simp only [rOpenD,go_sem,hx.s,recZ_map,recZ_len,z32Z_map,q1.1,q1.2.1,q1.2.2.1,qspl,no1.1,b32,e8,sg_spl,sg_len,sg_one,sg_take,bd,td,sd,one_bs,pc_len,pc_take]
  refine callW_some (tc _) (fun _ => rfl) ?_
  generalize verB X Y f d s t=v at tv ⊢
  cases v
  ·have ee:errO 8=.lit (.iface T.api_Code (.int .i64 8)):=rfl
   simp only [cond_false,ee,go_sem,hx.s,recZ_map,recZ_len,z32Z_map,no1.1,no1.2.1,no1.2.2.1,nospl,r1.1,r1.2.1,r1.2.2.1,q1.1,q1.2.1,q1.2.2.1]
   refine callW_some (srd _) (fun _ => rfl) ?_
   simp only [go_sem,fillOk,fillv,recZ_map,recZ_len,z32Z_map,no1.1,no1.2.1,no1.2.2.1,nospl,e8,sg_spl,sg_len,sg_one,sg_take,bd,td,one_bs,pc_len,pc_take,okd,eqd,sg_ok,sg_eq]
   refine callW_some (tv _) (fun _ => rfl) ?_
   simp only [go_sem,fillOk,fillv,recZ_map,recZ_len,z32Z_map,no1.1,no1.2.1,no1.2.2.1,nospl,tc8]
   refine ⟨rfl,callG_of (fun _ => s00 _) ?_⟩
   simp only [go_sem]
   exact leave_drop (H:=[]) rfl
  ·have ee:errO 0=nilE:=rfl
   simp only [cond_true,ee,go_sem,hx.s,recZ_map,recZ_len,z32Z_map,no1.1,r1.1,r1.2.1,r1.2.2.1,q1.1,q1.2.1,q1.2.2.1,rspl]
   refine callW_some (srd _) (fun _ => rfl) ?_
   simp only [go_sem,fillOk,fillv,recZ_map,recZ_len,z32Z_map,r1.1,r1.2.1,r1.2.2.1,q1.1,q1.2.1,q1.2.2.1,rspl,e8,sg_spl,sg_len,sg_one,sg_take,bd,td,one_bs,pc_len,pc_take,okd,eqd,sg_ok,sg_eq]
   refine callW_some (tv _) (fun _ => rfl) ?_
   simp only [go_sem,fillOk,fillv,recZ_map,recZ_len,z32Z_map,r1.1,r1.2.1,r1.2.2.1,q1.1,q1.2.1,q1.2.2.1,rspl]
   refine callG_of (fun _ => srd _) ?_
   simp only [go_sem]
   exact leave_drop (H:=[]) rfl
end Go.Proofs.YtgfploghjpbcaaaGreat.Eng

