/- Layer 17: issued records. -/
import Derived.Test.YtgfploghjpbcaaaMSq
import Derived.Test.YtgfploghjpbcaaaMPu
import Derived.Test.YtgfploghjpbcaaaMPb
namespace Go.Proofs.Ytgfploghjpbcaaa.Eng
open Go Go.Proofs
set_option linter.unusedVariables false
set_option linter.unusedSimpArgs false
set_option maxRecDepth 10000
noncomputable def rIssV (r:Rec) (d:Nat):AV:=if recB r=true then issV (recP r) d else .tup [nilS,errA 1]
theorem recP_len {r:Rec} (hr:r.ok) (hl:r.b.length≤500):(recP r).length≤10000:=by
 have:=putB_le' (recF r nilS) 500 fun f hf => ?_
 ·exact Nat.le_trans this (by rw [recF_len]; decide)
 ·rw [recF,List.mem_append] at hf
  rcases hf with hf | hf
  ·obtain ⟨i,n,rfl⟩:=nFlds_mem hf
   show (beN 8 _).length≤_
   rw [beN_length]; decide
  ·simp only [List.mem_cons,List.not_mem_nil,or_false] at hf
   rcases hf with rfl | rfl
   ·show r.prev.length≤_; have:=hr.1; omega
   ·exact hl
theorem t_rIssue {H:AH} {r:Rec} {d:Nat} (hr:r.ok) (hd:d<(18446744073709551616:Nat)^4):Called Try.prog F.record_Issue [.agg r.cells,.agg (num d)] H (rIssV r d) H:=by
 have n4:∀ a,(num a).length=4:=fun a => wd_length _ _
 have e4:[Z0,Z0,Z0,Z0]=num 0:=rfl
 have e84:Z0::Z0::Z0::Z0::num 0=sgc 0 0:=rfl
 refine e_record_Issue ?_
 simp only [ic_record_Issue,go_sem,one_wd,num_ne,num_take,n4,rec_one hr,rec_ne,rec_len hr,rec_take hr]
 refine callW_some (t_rBody hr _) (fun _ => rfl) ?_
 rw [rbodyV,rIssV]
 cases hb:recB r
 ·simp only [go_sem]
  exact leave_drop rfl
 ·have hl5:=(recB_ns hb).2
  have lB:=recP_len hr hl5
  rw [if_pos rfl,if_pos rfl,putV_recF hr hl5]
  generalize recP r=B at *
  simp only [go_sem,one_wd,num_ne,num_take,n4]
  refine callW_some ⟨rfl,fun G => t_ssum (Sl.vB B false) (by omega)⟩ (fun _ => rfl) ?_
  have hsl:=sha_len B
  rw [issV]
  generalize sha B=h at *
  simp only [go_sem]
  refine callW_some ⟨rfl,fun G => t_Sign hd hsl⟩ (fun _ => rfl) ?_
  cases hm:maySc d
  ·simp only [go_sem,e4,e84,sg_one,sg_spl,sg_take,sg_len]
   exact leave_drop rfl
  ·rw [if_pos rfl,if_pos rfl]
   cases hS:signS d h with
   | none =>
    simp only [sigV,go_sem,e4,e84,sg_one,sg_spl,sg_take,sg_len]
    exact leave_drop rfl
   | some rs =>
    obtain ⟨r',s⟩:=rs
    obtain ⟨m1,m2⟩:=sigS_lt hS
    simp only [sigV,go_sem,e4,e84,sg_one,sg_spl,sg_take,sg_len,fillOk,fillv]
    refine callW_some (t_sbytes (may_lt m1) (may_lt m2)) (fun _ => rfl) ?_
    have sl:=sgB_len r' s
    simp only [go_sem,fillOk,fillv,pure_bs]
    refine ⟨by decide,callW_some (t_Put (l:=sgF B r' s) (.view rfl _) (fun f hf => sgF_sl B r' s f hf _) (Nat.le_of_ble_eq_true rfl)) (fun _ => rfl) ?_⟩
    rw [putV_sgF (by omega)]
    simp only [go_sem]
    exact leave_drop (by simp only [low,lowL,vB,lowL_bs])
set_option maxRecDepth 10000
def upR:Rec:=⟨1,0,0,2,0,0,0,0,z32,[],nilS⟩
theorem upR_ok:upR.ok:=⟨rfl,Nat.zero_le _,fun H => .nil⟩
theorem upR_cells:(noRec.cells.set 0 (I 1)).set 3 (I 2)=upR.cells:=rfl
theorem upR_body:rbodyV upR=.tup [vB (recP upR) false,nilE]:=by
 rw [rbodyV,if_pos (show recB upR=true from rfl),putV_recF upR_ok (Nat.zero_le _)]
theorem upR_len:(recP upR).length=126:=by decide +kernel
theorem t_up17 (H:AH):Called Try.prog F.clapperlaw17_up [] H (Bl true) H:=by
 have e8:[Z0,Z0,Z0,Z0,Z0,Z0,Z0,Z0]=sgc 0 0:=rfl
 have ep:[Z0,Z0,Z0,Z0,Z0,Z0,Z0,Z0,Bl false]=pcell 0 0 false:=rfl
 have hO:rOpenO []=none:=rfl
 have no1:=one_rec_cells noRec_ok
 have nospl:=rec_spl noRec_ok noRec_ok
 obtain ⟨n32,b32,t32⟩:=bs32_ne (show zd.length=32 from rfl)
 have s3z:=bs32_spl (show zd.length=32 from rfl) (show zd.length=32 from rfl)
 have hc:chF 1 0 0 false 0 zd [noB]=0:=by
  have:nextL 1 0 0 false 0 zd []=none:=by rw [nextL,hO]
  show (match nextL 1 0 0 false 0 zd [] with | some d => chF 1 0 0 false 1 d [] | none => 0)=0
  rw [this]
 have tc:∀ K,Called Try.prog F.record_Chain [.view [nilS] 1 true,I 1,.agg (pcell 0 0 false)] K (I 0) K:=fun K => by
  have:=t_Chain (H:=K) (x:=.view [nilS] 1 true) (l:=[noB]) (dev:=1) (X:=0) (Y:=0) (f:=false) (.view rfl _) (fun y hy => by rw [List.mem_singleton] at hy; subst hy; exact ⟨Nat.zero_le _,fun H => .nil⟩) (by decide) (by decide) (by decide)
  rw [hc] at this
  exact this
 refine e_clapperlaw17_up ?_
 simp only [ic_clapperlaw17_up,recZ_eq,z32Z_eq]
 simp only [go_sem]
 refine callW_some (t_rOpen (b:=[]) .nil (Nat.zero_le _)) (fun _ => rfl) ?_
 rw [hO]
 simp only [rOpenV,go_sem,fillOk,fillv,recZ_map,recZ_len,z32Z_map,no1.1,no1.2.1,no1.2.2.1,nospl,e8,sg_spl,sg_len,sg_one,sg_take,b32,t32,s3z,one_bs,upR_cells]
 refine callW_some (t_rBody upR_ok _) (fun _ => rfl) ?_
 rw [upR_body]
 have hl:=upR_len
 generalize recP upR=w at hl ⊢
 have tcode:(T.api_Code == T.api_Code&&(2:Int) == 2)=true:=by simp
 have z126:(((126:Nat):Int) == 126)=true:=rfl
 simp only [go_sem,hl,fillOk,fillv,ep,tcode,z126]
 refine ⟨rfl,callG_of (fun _ => tc _) ?_⟩
 simp only [go_sem]
 exact leave_drop rfl
def Rec.alike (a b:Rec):Prop:=(((((((a.dev=b.dev∧a.seq=b.seq)∧a.min_=b.min_)∧a.kind=b.kind)∧a.stop=b.stop)∧a.zone=b.zone)∧a.serial=b.serial)∧a.verdict=b.verdict)∧a.prev=b.prev∧a.b=b.b
theorem r_Same {H:AH} {a b:Rec} (ha:a.ok) (hb:b.ok) (h:a.alike b):Called Try.prog F.clapperref17_Same [.agg a.cells,.agg b.cells] H (Bl true) H:=by
 obtain ⟨⟨⟨⟨⟨⟨⟨⟨h1,h2⟩,h3⟩,h4⟩,h5⟩,h6⟩,h7⟩,h8⟩,h9,h10⟩:=h
 refine e_clapperref17_Same ?_
 have la:=rec_len ha
 have lb:=rec_len hb
 have ea:=fun H => (ha.2.2 H).s
 have eb:=fun H => (hb.2.2 H).s
 have ok9:=bs_aggOk ha.1 hb.1
 have eq9:=bs_aggEq a.prev b.prev
 rw [decide_eq_true h9] at eq9
 simp only [ic_clapperref17_Same,k32_eq]
 simp only [go_sem,rec_one ha,rec_one hb,rec_ne,la,lb,rec_g0,rec_g1,rec_g2,rec_g4,rec_g5,rec_g6,rec_g3,rec_g7,rec_g40 ha,rec_g40 hb,rec_prev ha,rec_prev hb,ea [],eb [],h1,h2,h3,h4,h5,h6,h7,h8,beq_self_eq_true,ok9,eq9]
 have ba:=fun H => (ha.2.2 H).b2s
 have bb:=fun H => (hb.2.2 H).b2s
 simp only [ba _,bb _,h10,go_sem,beq_self_eq_true]
 exact leave_drop rfl
def ownR (r:Rec):Rec:={ r with e:=if 0<r.b.length then vB r.b false else nilS }
theorem ownR_may (r:Rec):recB (ownR r)=recB r:=rfl
theorem nrm_tag (l:List Fld) (i:Nat):((l.map nrm).getD i noF).tag=(l.getD i noF).tag:=(nrm_getD l i).1
theorem nrm_b (l:List Fld) (i:Nat):((l.map nrm).getD i noF).b=(l.getD i noF).b:=(nrm_getD l i).2
theorem fields_put {l:List Fld} {n:Nat} (h:fldsB l=true) (hl:l.length=n) (ht:∀ i,i<n→(l.getD i noF).tag=(i:Int)+1):fieldsO (putB l) n=some (l.map nrm):=by
 rw [fieldsO,getS_put h]
 have e:tagsB (l.map nrm) n=true:=by
  simp only [tagsB,Bool.and_eq_true,decide_eq_true_eq,List.length_map]
  exact ⟨hl,fun i hi => by rw [nrm_tag]; exact ht i (by omega)⟩
 show (if tagsB (l.map nrm) n then some (l.map nrm) else none)=_
 rw [if_pos e]
theorem recL_own {r:Rec} (h:recB r=true):recL ((recF r nilS).map nrm)=ownR r:=by
 obtain ⟨hw,hl5⟩:=recB_ns h
 have w0:=hw 0
 have w1:=hw 1
 have w2:=hw 2
 have w3:=hw 3
 have w4:=hw 4
 have w5:=hw 5
 have w6:=hw 6
 have w7:=hw 7
 have n0:numO (beN 8 r.dev.toNat)=r.dev:=numO_be w0.1 w0.2
 have n1:numO (beN 8 r.seq.toNat)=r.seq:=numO_be w1.1 w1.2
 have n2:numO (beN 8 r.min_.toNat)=r.min_:=numO_be w2.1 w2.2
 have n3:numO (beN 8 r.kind.toNat)=r.kind:=numO_be w3.1 w3.2
 have n4:numO (beN 8 r.stop.toNat)=r.stop:=numO_be w4.1 w4.2
 have n5:numO (beN 8 r.zone.toNat)=r.zone:=numO_be w5.1 w5.2
 have n6:numO (beN 8 r.serial.toNat)=r.serial:=numO_be w6.1 w6.2
 have n7:numO (beN 8 r.verdict.toNat)=r.verdict:=numO_be w7.1 w7.2
 show Rec.mk (numO (beN 8 r.dev.toNat)) (numO (beN 8 r.seq.toNat)) (numO (beN 8 r.min_.toNat)) (numO (beN 8 r.kind.toNat)) (numO (beN 8 r.stop.toNat)) (numO (beN 8 r.zone.toNat)) (numO (beN 8 r.serial.toNat)) (numO (beN 8 r.verdict.toNat)) r.prev r.b (if 0<r.b.length then vB r.b false else nilS)=_
 rw [n0,n1,n2,n3,n4,n5,n6,n7]
 rfl
theorem readR_put {r:Rec} (hr:r.ok) (h:recB r=true):readR (recP r)=ownR r:=by
 obtain ⟨hw,hl5⟩:=recB_ns h
 have hf:=fields_put (recF_flds hr hl5 nilS) (recF_len r nilS) fun i hi => (recF_get r hr hl5 nilS i hi).1
 have ok:readOk ((recF r nilS).map nrm)=true:=by
  simp only [readOk,Bool.and_eq_true,decide_eq_true_eq]
  refine ⟨?_,fun i hi => ?_⟩
  ·rw [nrm_b]; exact hr.1
  ·rw [nrm_b]
   have g:((recF r nilS).getD i noF).b=beN 8 (r.ns.getD i 0).toNat:=by
    match i,hi with
    | 0,_ => rfl
    | 1,_ => rfl
    | 2,_ => rfl
    | 3,_ => rfl
    | 4,_ => rfl
    | 5,_ => rfl
    | 6,_ => rfl
    | 7,_ => rfl
   rw [g,numO_be (hw i).1 (hw i).2]; exact (hw i).1
 rw [readR,recP,hf]
 show (if readOk ((recF r nilS).map nrm) then recL ((recF r nilS).map nrm) else noRec)=_
 rw [if_pos ok,recL_own h]
theorem put_readR {B:List UInt8} (h:recB (readR B)=true):recP (readR B)=B:=by
 unfold readR at h ⊢
 cases hf:fieldsO B 10 with
 | none => rw [hf] at h; cases h
 | some l =>
  rw [hf] at h
  have h:recB (if readOk l then recL l else noRec)=true:=h
  show recP (if readOk l then recL l else noRec)=B
  by_cases ok:readOk l=true
  ·rw [if_pos ok]
   simp only [readOk,Bool.and_eq_true,decide_eq_true_eq] at ok
   rw [fieldsO] at hf
   cases hg:getS B with
   | none => rw [hg] at hf; cases hf
   | some m =>
    rw [hg] at hf
    have hf:(if tagsB m 10 then some m else none)=some l:=hf
    split at hf
    ·rename_i ht
     cases hf
     simp only [tagsB,Bool.and_eq_true,decide_eq_true_eq] at ht
     obtain ⟨hl,ht⟩:=ht
     rw [← put_getS hg]
     refine putB_ext (by rw [hl]; rfl) fun i hi => ?_
     have hi:i<10:=hi
     have t:=ht i (by omega)
     have o:=fun hi => be_numO (ok.2 i hi)
     match i,hi with
     | 0,_ => exact ⟨t.symm,o (by decide)⟩
     | 1,_ => exact ⟨t.symm,o (by decide)⟩
     | 2,_ => exact ⟨t.symm,o (by decide)⟩
     | 3,_ => exact ⟨t.symm,o (by decide)⟩
     | 4,_ => exact ⟨t.symm,o (by decide)⟩
     | 5,_ => exact ⟨t.symm,o (by decide)⟩
     | 6,_ => exact ⟨t.symm,o (by decide)⟩
     | 7,_ => exact ⟨t.symm,o (by decide)⟩
     | 8,_ => exact ⟨t.symm,rfl⟩
     | 9,_ => exact ⟨t.symm,rfl⟩
    ·cases hf
  ·rw [if_neg ok] at h; cases h
theorem rOpenO_issued {r:Rec} {a c:Nat} (hr:r.ok) (h:recB r=true) (ha:a<(18446744073709551616:Nat)^4) (hc:c<(18446744073709551616:Nat)^4):rOpenO (sgnd (recP r) a c)=some (ownR r,sha (recP r),a,c):=by
 have hp:=parts_sgnd (B:=recP r) (by have:=recP_len hr (recB_ns h).2; omega) ha hc
 rw [rOpenO,hp]
 show (if recB (readR (recP r)) then some (readR (recP r),sha (recP r),a,c) else none)=_
 rw [readR_put hr h,ownR_may,if_pos h]
theorem rOpenO_back {b d:List UInt8} {r:Rec} {a c:Nat} (h:rOpenO b=some (r,d,a,c)):recB r=true∧sgnd (recP r) a c=b:=by
 rw [rOpenO] at h
 cases hp:partsO b with
 | none => rw [hp] at h; cases h
 | some p =>
  obtain ⟨B,r',s'⟩:=p
  rw [hp] at h
  have h:(if recB (readR B) then some (readR B,sha B,r',s') else none)=some (r,d,a,c):=h
  split at h
  ·rename_i hb
   cases h
   refine ⟨hb,?_⟩
   rw [put_readR hb]
   exact sgnd_parts hp
  ·cases h
theorem rCheck_issued {r:Rec} {d a c:Nat} (hr:r.ok) (h:recB r=true) (hd:maySc d=true) (e:signS d (sha (recP r))=some (a,c)):rCheckN (sgnd (recP r) a c) (mulA d baseA).x (mulA d baseA).y (mulA d baseA).isFar=(ownR r,0):=by
 obtain ⟨m1,m2⟩:=sigS_lt e
 rw [rCheckN,rOpenO_issued hr h (may_lt m1) (may_lt m2)]
 show (bif verB _ _ _ (sha (recP r)) a c then (ownR r,0) else (noRec,8))=_
 rw [signS_holds hd e]; rfl
theorem rIssV_cases {r:Rec} (hr:r.ok) (d:Nat):(∃ k:Int,(k=1∨k=4)∧rIssV r d=.tup [nilS,errA k])∨∃ S,S.length≤50000∧rIssV r d=.tup [vB S false,nilE]∧maySc d=true∧rCheckN S (mulA d baseA).x (mulA d baseA).y (mulA d baseA).isFar=(ownR r,0):=by
 rw [rIssV]
 cases ht:recB r
 ·exact .inl ⟨1,.inl rfl,rfl⟩
 ·rw [if_pos rfl,issV]
  cases hm:maySc d
  ·exact .inl ⟨1,.inl rfl,rfl⟩
  ·rw [if_pos rfl]
   cases hS:signS d (sha (recP r)) with
   | none => exact .inl ⟨4,.inr rfl,rfl⟩
   | some q =>
    obtain ⟨a,c⟩:=q
    exact .inr ⟨_,by rw [sgnd_len]; have:=recP_len hr (recB_ns ht).2; omega,rfl,rfl,rCheck_issued hr ht hm hS⟩
section
variable {r:Rec}
theorem recW_len (h:r.prev.length=32):r.cells.length=41:=by simp [Rec.cells,Rec.nums,h]
theorem recW_one (h:∀ H,Sl 1 H r.e (bs r.b) r.b.length):r.cells.all AV.one=true:=by
 rw [Rec.cells,List.all_append,List.all_append,one_bs]
 have:=(h []).one
 simp only [List.all_cons,List.all_nil,this,Bool.and_true]
 rfl
theorem recW_g40 (h:r.prev.length=32):r.cells.getD 40 .junk=r.e:=by
 rw [Rec.cells,List.getD_eq_getElem?_getD,List.getElem?_append_right (by show 8≤40; decide)]
 show ((bs r.prev++[r.e])[32]?).getD .junk=r.e
 rw [List.getElem?_append_right (by rw [bs_len,h]; exact Nat.le_refl _),bs_len,h]; rfl
end
theorem ownR_ok {r:Rec} (h:r.ok):(ownR r).ok:=by
 refine ⟨h.1,h.2.1,fun H => ?_⟩
 show Sl 1 H (if 0<r.b.length then vB r.b false else nilS) (bs r.b) r.b.length
 split
 ·exact Sl.vB _ _
 ·have:r.b=[]:=List.eq_nil_of_length_eq_zero (by omega)
  rw [this]; exact .nil
theorem ownR_alike (r:Rec):(ownR r).alike r:=⟨⟨⟨⟨⟨⟨⟨⟨rfl,rfl⟩,rfl⟩,rfl⟩,rfl⟩,rfl⟩,rfl⟩,rfl⟩,rfl,rfl⟩
theorem t_RecordBack {H:AH} {r:Rec} {d:Nat} {b:List UInt8} {g:Bool} (hp:r.prev.length=32) (he:∀ H,Sl 1 H r.e (bs r.b) r.b.length) (hd:d<(18446744073709551616:Nat)^4):Called Try.prog F.clapperlaw17_RecordBack [.agg r.cells,.agg (num d),vB b g] H (Bl true) H:=by
 have n4:∀ a,(num a).length=4:=fun a => wd_length _ _
 have e4:[Z0,Z0,Z0,Z0]=num 0:=rfl
 have e84:Z0::Z0::Z0::Z0::num 0=sgc 0 0:=rfl
 have e8:[Z0,Z0,Z0,Z0,Z0,Z0,Z0,Z0]=sgc 0 0:=rfl
 have ez:[Z0,Z0,Z0,Z0,Z0,Z0,Z0,Z0,Bl false]=pcell 0 0 false:=rfl
 have rl:=recW_len hp
 have rt:r.cells.take 41=r.cells:=List.take_of_length_le (by rw [rl]; exact Nat.le_refl _)
 have r1:=recW_one he
 have g40:=recW_g40 hp
 have hx:∀ G,Sl 1 G (vB b g) (bs b) b.length:=fun G => Sl.vB b g
 have no1:=one_rec_cells noRec_ok
 have nospl:=rec_spl noRec_ok noRec_ok
 obtain ⟨n32,b32,t32⟩:=bs32_ne (show zd.length=32 from rfl)
 have s3z:=bs32_spl (show zd.length=32 from rfl) (show zd.length=32 from rfl)
 refine e_clapperlaw17_RecordBack ?_
 simp only [ic_clapperlaw17_RecordBack,recZ_eq,z32Z_eq]
 simp only [go_sem,one_wd,num_ne,num_take,n4,r1,rec_ne]
 refine callW_some (t_up17 _) (fun _ => rfl) ?_
 simp only [go_sem,rl,g40,(he []).s]
 refine ⟨fun h => leave_drop rfl,fun h => ?_⟩
 have hn:b.length≤5000∧r.b.length≤3000:=by
  simp only [Bool.or_eq_false_iff,decide_eq_false_iff_not,Bool.not_eq_true,Bool.or_eq_true,decide_eq_true_eq,not_or] at h
  omega
 have hr:r.ok:=⟨hp,by omega,he⟩
 have ti:=fun (G:AH) => t_rIssue (H:=G) hr hd
 have to:=fun (G:AH) => t_rOpen (H:=G) (hx G) (show b.length≤100000 by omega)
 simp only [go_sem,one_wd,num_ne,num_take,n4,rl,rt]
 refine callW_some (ti _) (fun _ => rfl) ?_
 rcases rIssV_cases hr d with ⟨k,hk,e⟩ | ⟨S,hS,e,hm,hc⟩
 ·rw [e]
  simp only [go_sem,one_wd,num_ne,num_take,n4,rl,rt]
  refine callW_some (to _) (fun _ => rfl) ?_
  cases ho:rOpenO b with
  | none =>
   simp only [rOpenV,go_sem,fillOk,fillv,recZ_map,recZ_len,z32Z_map,no1.1,no1.2.1,no1.2.2.1,nospl,e8,sg_spl,sg_len,sg_one,sg_take,b32,t32,s3z,one_bs]
   exact leave_drop rfl
  | some p =>
   obtain ⟨u,D,a,c⟩:=p
   obtain ⟨hu,hb⟩:=rOpenO_back ho
   obtain ⟨uo,_,hD,ha,hc⟩:=rOpenO_ok ho (by omega)
   have tb:=fun (G:AH) => t_rBody uo G
   have lB:=recP_len uo (recB_ns hu).2
   rw [rbodyV,if_pos hu,putV_recF uo (recB_ns hu).2] at tb
   have rs:=fun (G:AH) => r_Signed (H:=G) (B:=recP u) (r:=a) (s:=c) (by omega)
   rw [hb] at rs
   have u1:=one_rec_cells uo
   have uspl:=rec_spl noRec_ok uo
   obtain ⟨nd,bd,td⟩:=bs32_ne hD
   have sd:=bs32_spl (show zd.length=32 from rfl) hD
   generalize recP u=B at *
   simp only [rOpenV,go_sem,fillOk,fillv,recZ_map,recZ_len,z32Z_map,no1.1,no1.2.1,no1.2.2.1,u1.1,u1.2.1,u1.2.2.1,uspl,e8,sg_spl,sg_len,sg_one,sg_take,b32,t32,sd,one_bs,bd,td]
   refine callW_some (tb _) (fun _ => rfl) ?_
   simp only [go_sem,b2sOk_vB,b2sV_vB,sg_spl,sg_len,sg_one,sg_take]
   refine callG_of (fun _ => rs _) ?_
   simp only [go_sem,beq_self_eq_true,b2sOk_vB,b2sV_vB]
   exact leave_drop rfl
 ·rw [e]
  have tp:=fun (G:AH) => t_Public (H:=G) hd
  rw [hm,if_pos rfl] at tp
  obtain ⟨v1,v2,v3,v4⟩:=on_raw (mulA_on baseP_on d)
  generalize mulA d baseA=A at *
  have tc:=fun (G:AH) => t_rCheck (H:=G) (f:=A.isFar) (Sl.vB S false) (show S.length≤100000 by omega) v2 v3
  rw [hc] at tc
  have ho:=ownR_ok hr
  have o1:=one_rec_cells ho
  have ospl:=rec_spl noRec_ok ho
  have sm:=fun (G:AH) => r_Same (H:=G) ho hr (ownR_alike r)
  generalize ownR r=o at *
  simp only [go_sem,one_wd,num_ne,num_take,n4,rl,rt]
  refine callW_some (tp _) (fun _ => rfl) ?_
  simp only [go_sem,e4,e84,e8,ez,ptc,pc_take,pc_len,pc_one,pc_spl0]
  refine callW_some (tc _) (fun _ => rfl) ?_
  simp only [errO,go_sem,ptc,pc_take,pc_len,pc_one,pc_spl0,rl,rt,fillOk,fillv,recZ_map,recZ_len,no1.1,no1.2.1,no1.2.2.1,o1.1,o1.2.1,o1.2.2.1,ospl]
  refine callG_of (fun _ => sm _) ?_
  simp only [go_sem]
  refine callW_some (to _) (fun _ => rfl) ?_
  cases ho:rOpenO b with
  | none =>
   simp only [rOpenV,go_sem,fillOk,fillv,recZ_map,recZ_len,z32Z_map,no1.1,no1.2.1,no1.2.2.1,nospl,e8,sg_spl,sg_len,sg_one,sg_take,b32,t32,s3z,one_bs]
   exact leave_drop rfl
  | some p =>
   obtain ⟨u,D,a,c⟩:=p
   obtain ⟨hu,hb⟩:=rOpenO_back ho
   obtain ⟨uo,_,hD,ha,hc⟩:=rOpenO_ok ho (by omega)
   have tb:=fun (G:AH) => t_rBody uo G
   have lB:=recP_len uo (recB_ns hu).2
   rw [rbodyV,if_pos hu,putV_recF uo (recB_ns hu).2] at tb
   have rs:=fun (G:AH) => r_Signed (H:=G) (B:=recP u) (r:=a) (s:=c) (by omega)
   rw [hb] at rs
   have u1:=one_rec_cells uo
   have uspl:=rec_spl noRec_ok uo
   obtain ⟨nd,bd,td⟩:=bs32_ne hD
   have sd:=bs32_spl (show zd.length=32 from rfl) hD
   generalize recP u=B at *
   simp only [rOpenV,go_sem,fillOk,fillv,recZ_map,recZ_len,z32Z_map,no1.1,no1.2.1,no1.2.2.1,u1.1,u1.2.1,u1.2.2.1,uspl,e8,sg_spl,sg_len,sg_one,sg_take,b32,t32,sd,one_bs,bd,td]
   refine callW_some (tb _) (fun _ => rfl) ?_
   simp only [go_sem,b2sOk_vB,b2sV_vB,sg_spl,sg_len,sg_one,sg_take]
   refine callG_of (fun _ => rs _) ?_
   simp only [go_sem,beq_self_eq_true,b2sOk_vB,b2sV_vB]
   exact leave_drop rfl
end Go.Proofs.Ytgfploghjpbcaaa.Eng

