/- Layer 8: a number's bytes; fields' bytes: the program's walks. -/
import Derived.Test.YtenfocjhebgoeaaGreatMTk
namespace Go.Proofs.YtenfocjhebgoeaaGreat.Eng
open Go Go.Proofs
set_option linter.unusedVariables false
set_option linter.unusedSimpArgs false
set_option maxRecDepth 10000
section
variable {H K:AH} {x s:AV} {vs ws:List AV} {b:Nat}
end
theorem GR.viewS {H K:AH} {x:AV} {vs:List AV} {n:Nat} (h:GR (H++K) x vs) (hq:∀ q,rid x=some q→H.length≤q) (hp:pureL vs=true) (hn:vs.length=n):Le (low (renk H.length []) (H++K) x) (.view vs n false):=hn ▸ h.view hq hp
structure Rec where
 dev:Int
 seq:Int
 min_:Int
 kind:Int
 stop:Int
 zone:Int
 serial:Int
 verdict:Int
 prev:List UInt8
 b:List UInt8
 e:AV
def Rec.nums (r:Rec):List AV:=[I r.dev,I r.seq,I r.min_,I r.kind,I r.stop,I r.zone,I r.serial,I r.verdict]
def Rec.cells (r:Rec):List AV:=r.nums++(bs r.prev++[r.e])
def Rec.ok (r:Rec):Prop:=r.prev.length=32∧r.b.length≤1000000∧∀ H,Sl 1 H r.e (bs r.b) r.b.length
abbrev z32:List UInt8:=List.replicate 32 0
def noRec:Rec:=⟨0,0,0,0,0,0,0,0,z32,[],nilS⟩
def recB (r:Rec):Bool:=((((((inB 0 31 r.stop&&inB 0 7 r.zone)&&(if r.kind=1 then inB 1 7 r.verdict&&decide (r.b.length≤500) else (r.verdict == 0&&decide (r.b.length=0))&&inB 2 3 r.kind))&&inB 1 2147483647 r.dev)&&inB 0 1073741824 r.seq)&&inB 0 1073741824 r.min_)&&inB 0 2147483647 r.serial)
theorem noRec_ok:noRec.ok:=⟨rfl,by decide,fun H => .nil⟩
section
variable {r:Rec}
theorem rec_len (h:r.ok):r.cells.length=41:=by simp [Rec.cells,Rec.nums,h.1]
theorem rec_one (h:r.ok):r.cells.all AV.one=true:=by
 rw [Rec.cells,List.all_append,List.all_append,one_bs]
 have:=(h.2.2 []).one
 simp only [List.all_cons,List.all_nil,this,Bool.and_true]
 rfl
theorem rec_ne:r.cells.isEmpty=false:=rfl
theorem rec_take (h:r.ok):r.cells.take 41=r.cells:=List.take_of_length_le (by rw [rec_len h]; exact Nat.le_refl _)
theorem rec_g0:r.cells.getD 0 .junk=I r.dev:=rfl
theorem rec_g1:r.cells.getD 1 .junk=I r.seq:=rfl
theorem rec_g2:r.cells.getD 2 .junk=I r.min_:=rfl
theorem rec_g3:r.cells.getD 3 .junk=I r.kind:=rfl
theorem rec_g4:r.cells.getD 4 .junk=I r.stop:=rfl
theorem rec_g5:r.cells.getD 5 .junk=I r.zone:=rfl
theorem rec_g6:r.cells.getD 6 .junk=I r.serial:=rfl
theorem rec_g7:r.cells.getD 7 .junk=I r.verdict:=rfl
theorem rec_g40 (h:r.ok):r.cells.getD 40 .junk=r.e:=by
 rw [Rec.cells,List.getD_eq_getElem?_getD,List.getElem?_append_right (by show 8≤40; decide)]
 show ((bs r.prev++[r.e])[32]?).getD .junk=r.e
 rw [List.getElem?_append_right (by rw [bs_len,h.1]; exact Nat.le_refl _),bs_len,h.1]; rfl
theorem rec_prev (h:r.ok):(r.cells.drop 8).take 32=bs r.prev:=by
 rw [Rec.cells,List.drop_left' (show r.nums.length=8 from rfl),List.take_left' (by rw [bs_len,h.1])]
theorem rec_spl {r':Rec} (h:r.ok) (h':r'.ok):splice r.cells 0 r'.cells=r'.cells:=splice_all (by rw [rec_len h,rec_len h'])
end
theorem t_rwithin (n a b:Int) (H:AH):Called Tryz.prog F.record_within [I n,I a,I b] H (Bl (inB a b n)) H:=by
 refine e_record_within ?_
 simp only [ic_record_within,go_sem]
 exact leave_same rfl
theorem recMay_tail {H:AH} (r:Rec) (h:r.ok) (p o:Bool) (ex:List (Nat × AV)):iwp (pfx false) (Called Tryz.prog) ic_record_May_39 (retQ [.t 2] H (Bl ((((((p&&o)&&inB 1 2147483647 r.dev)&&inB 0 1073741824 r.seq)&&inB 0 1073741824 r.min_)&&inB 0 2147483647 r.serial))) H) (look ((1,.ptr H.length 0)::(3,Bl p)::(4,Bl o)::ex)) (H++[⟨r.cells,0,true⟩]):=by
 have hl:=rec_len h
 simp only [ic_record_May_39,go_sem,hl,rec_g0]
 refine callG_of (fun _ => t_rwithin _ _ _ _) ?_
 simp only [go_sem,hl,rec_g1]
 refine callG_of (fun _ => t_rwithin _ _ _ _) ?_
 simp only [go_sem,hl,rec_g2]
 refine callG_of (fun _ => t_rwithin _ _ _ _) ?_
 simp only [go_sem,hl,rec_g6]
 refine callG_of (fun _ => t_rwithin _ _ _ _) ?_
 simp only [go_sem]
 exact leave_drop rfl
theorem t_recMay {H:AH} (r:Rec) (h:r.ok):Called Tryz.prog F.record_May [.agg r.cells] H (Bl (recB r)) H:=by
 refine e_record_May ?_
 have hl:=rec_len h
 have he:=fun H => (h.2.2 H).s
 simp only [ic_record_May,go_sem,rec_one h,rec_ne,hl,rec_g4]
 refine callW_some (t_rwithin _ _ _ _) (fun _ => rfl) ?_
 simp only [go_sem,hl,rec_g5]
 refine callG_of (fun _ => t_rwithin _ _ _ _) ?_
 simp only [go_sem,hl,rec_g7,rec_g40 h,(he []),rec_g3]
 refine callG_of (fun _ => t_rwithin _ _ _ _) ?_
 simp only [go_sem,hl,rec_g3]
 refine ⟨fun hk => ?_,fun hk => ?_⟩
 ·have hk':r.kind=1:=by simpa using hk
  simp only [rec_g7]
  refine callW_some (t_rwithin _ _ _ _) (fun _ => rfl) ?_
  simp only [go_sem,hl,rec_g40 h,(he [])]
  have e:recB r=((((((inB 0 31 r.stop&&inB 0 7 r.zone)&&(inB 1 7 r.verdict&&decide ((r.b.length:Int)≤500)))&&inB 1 2147483647 r.dev)&&inB 0 1073741824 r.seq)&&inB 0 1073741824 r.min_)&&inB 0 2147483647 r.serial):=by
   rw [recB,if_pos hk',show decide (r.b.length≤500)=decide ((r.b.length:Int)≤500) by congr 1; apply propext; omega]
  rw [e]
  exact recMay_tail r h _ _ _
 ·have hk':¬ r.kind=1:=by simpa using hk
  have e:recB r=((((((inB 0 31 r.stop&&inB 0 7 r.zone)&&((r.verdict == 0&&(r.b.length:Int) == 0)&&inB 2 3 r.kind))&&inB 1 2147483647 r.dev)&&inB 0 1073741824 r.seq)&&inB 0 1073741824 r.min_)&&inB 0 2147483647 r.serial):=by
   rw [recB,if_neg hk',show decide (r.b.length=0)=((r.b.length:Int) == 0) by rw [Bool.eq_iff_iff,decide_eq_true_eq,beq_iff_eq]; omega]
  rw [e]
  exact recMay_tail r h _ _ _
def tagsB (l:List Fld) (n:Nat):Bool:=decide (l.length=n)&&decide (∀ i,i<l.length→(l.getD i noF).tag=i+1)
def fieldsO (b:List UInt8) (n:Nat):Option (List Fld):=(getS b).bind fun l => if tagsB l n then some l else none
def fieldsV (o:Option (List Fld)):AV:=match o with
 | some l => .view (l.map Fld.e) l.length false
 | none => nilS
theorem fieldsO_mem {b:List UInt8} {n:Nat} {l:List Fld} (h:fieldsO b n=some l):(∀ f ∈ l,f.e=vB f.b false∧f.b.length≤b.length)∧l.length=n:=by
 unfold fieldsO at h
 cases hg:getS b with
 | none => rw [hg] at h; cases h
 | some m =>
  rw [hg] at h
  have h:(if tagsB m n then some m else none)=some l:=h
  by_cases hb:tagsB m n=true
  ·rw [if_pos hb] at h
   cases h
   simp only [tagsB,Bool.and_eq_true,decide_eq_true_eq] at hb
   exact ⟨(getS_mem hg).1,hb.1⟩
  ·rw [if_neg hb] at h; cases h
theorem t_fields {H:AH} {x:AV} {b:List UInt8} (hx:Sl 1 H x (bs b) b.length) (hn:b.length≤100000) (n:Nat) (hN:n≤100):Called Tryz.prog F.record_fields [x,I n] H (fieldsV (fieldsO b n)) H:=by
 refine e_record_fields ?_
 simp only [ic_record_fields,go_sem,hx.s]
 refine callW_some (t_Get hx hn) (fun _ => rfl) ?_
 cases hg:getS b with
 | none =>
  have e:fieldsO b n=none:=by rw [fieldsO,hg]; rfl
  rw [e]
  simp only [getV,go_sem]
  exact leave_same rfl
 | some l =>
  obtain ⟨hm,h64⟩:=getS_mem hg
  simp only [getV,go_sem]
  have eO:fieldsO b n=if tagsB l n then some l else none:=by rw [fieldsO,hg]; rfl
  rw [eO]
  refine ⟨fun h => leave_same ?_,fun h => ?_⟩
  ·have:¬ l.length=n:=by have h:¬ (l.length:Int)=n:=by simpa using h
                         omega
   have hb:tagsB l n=false:=by rw [tagsB,decide_eq_false this,Bool.false_and]
   rw [hb]; rfl
  ·have hl:l.length=n:=by have h:(l.length:Int)=n:=by simpa using h
                          omega
   have hb:tagsB l n=decide (∀ i,i<l.length→(l.getD i noF).tag=i+1):=by rw [tagsB,decide_eq_true hl,Bool.true_and]
   refine w_loop _ (fun (s:Nat × AV × AH) => ([(7,s.2.1),(23,.view (fcs l) l.length false),(24,I l.length),(25,I s.1)],H++s.2.2))
    (fun s => s.1≤l.length∧GR (H++s.2.2) s.2.1 ((l.take s.1).map Fld.e)∧(∀ q,rid s.2.1=some q→H.length≤q)∧∀ j,j<s.1→(l.getD j noF).tag=j+1) (fun s => l.length - s.1) (0,nilS,[]) ⟨Nat.zero_le _,.inl ⟨rfl,rfl⟩,fun q h => rid_nil h,fun j hj => absurd hj (Nat.not_lt_zero j)⟩ (by rw [List.append_nil]; rfl) ?_
   rintro ⟨i,x,G⟩ ⟨hi,hg,hq,hj⟩
   dsimp only at hi hg hq hj
   have vl:((l.take i).map Fld.e).length=i:=by rw [List.length_map,List.length_take]; omega
   simp only [go_sem]
   refine ⟨fun hh => ?_,fun hh => ?_⟩
   ·have hlt:i<l.length:=by omega
    obtain ⟨he,hbl⟩:=hm _ (getD_memP noF hlt)
    have hs:∀ G,Sl 1 G (l.getD i noF).e (bs (l.getD i noF).b) (l.getD i noF).b.length:=fun G => by rw [he]; exact Sl.vB _ _
    have hp:(l.getD i noF).e.pure=true:=by rw [he]; exact pure_bs _
    have el:elt (fcs l) 2 i=[I (l.getD i noF).tag,(l.getD i noF).e]:=elt_flat _ 2 Fld.len _ _ noF hlt
    have fl:=fcs_len l
    have hsn:=take_snoc hlt noF
    have w1:IntKind.i64.wrap ((i:Int)+1)=((i+1:Nat):Int):=by rw [w64 _ (by omega) (by omega)]; omega
    have ib:(0:Int)≤i∧(i:Int)<l.length:=⟨by omega,by omega⟩
    simp only [el,fl,go_sem,(hs []).s,w1,hg.sl.s,hp,fillOk,fillv]
    refine ⟨ib,fun h => leave_drop ?_,fun h => ?_⟩
    ·have h:¬ (l.getD i noF).tag=((i+1:Nat):Int):=by simpa using h
     have bad:tagsB l n=false:=by
      rw [hb,decide_eq_false_iff_not]; exact fun h2 => h (by rw [h2 i hlt]; omega)
     rw [bad]; rfl
    ·have h:(l.getD i noF).tag=((i+1:Nat):Int):=by simpa using h
     obtain ⟨⟨_,_,c3,c4⟩,K',g1,g2,g3⟩:=(hg.more hq ⟨[I (l.getD i noF).tag,(l.getD i noF).e],0,true⟩).step (b:=24) hq (s:=.view [(l.getD i noF).e] 1 true) (v:=(l.getD i noF).e) rfl rfl rfl (hs []).one (by rw [vl]; omega)
     refine ⟨⟨by rw [vl]; omega,c4⟩,(i+1,_,K'),rfl,g1,⟨by show i+1≤_; omega,?_,g3,fun j hj' => ?_⟩,by show _ - (i+1)<_; omega⟩
     ·show GR (H++K') _ ((l.take (i+1)).map _)
      rw [hsn,List.map_append]
      exact g2
     ·rcases Nat.lt_succ_iff_lt_or_eq.1 hj' with h1 | rfl
      ·exact hj j h1
      ·exact h
   ·obtain rfl:i=l.length:=by omega
    rw [hb,decide_eq_true hj,if_pos rfl]
    refine leave_drop_le ?_
    rw [List.take_of_length_le (Nat.le_refl _)] at hg
    refine hg.viewS hq (pureL_all fun a ha => ?_) (List.length_map _)
    obtain ⟨f,hf,rfl⟩:=List.mem_map.1 ha
    rw [(hm f hf).1]; exact pure_bs _
def recL (l:List Fld):Rec:=⟨numO (l.getD 0 noF).b,numO (l.getD 1 noF).b,numO (l.getD 2 noF).b,numO (l.getD 3 noF).b,numO (l.getD 4 noF).b,numO (l.getD 5 noF).b,numO (l.getD 6 noF).b,numO (l.getD 7 noF).b,(l.getD 8 noF).b,(l.getD 9 noF).b,if 0<(l.getD 9 noF).b.length then (l.getD 9 noF).e else nilS⟩
def readOk (l:List Fld):Bool:=decide ((l.getD 8 noF).b.length=32)&&decide (∀ i:Nat,i<8→0≤numO (l.getD i noF).b)
def readR (b:List UInt8):Rec:=match fieldsO b 10 with
 | some l => if readOk l then recL l else noRec
 | none => noRec
theorem recL_ok {b:List UInt8} {l:List Fld} (h:fieldsO b 10=some l) (hn:b.length≤100000) (h8:(l.getD 8 noF).b.length=32):(recL l).ok:=by
 obtain ⟨hm,hl⟩:=fieldsO_mem h
 obtain ⟨he,hb⟩:=hm _ (getD_memP noF (show 9<l.length by omega))
 refine ⟨h8,by show (l.getD 9 noF).b.length≤_; omega,fun H => ?_⟩
 show Sl 1 H (if 0<(l.getD 9 noF).b.length then (l.getD 9 noF).e else nilS) (bs (l.getD 9 noF).b) (l.getD 9 noF).b.length
 split
 ·rw [he]; exact Sl.vB _ _
 ·have:(l.getD 9 noF).b=[]:=List.eq_nil_of_length_eq_zero (by omega)
  rw [this]; exact .nil
theorem readR_ok {b:List UInt8} (hn:b.length≤100000):(readR b).ok:=by
 unfold readR
 split
 ·rename_i l h
  by_cases hr:readOk l=true
  ·rw [if_pos hr]
   simp only [readOk,Bool.and_eq_true,decide_eq_true_eq] at hr
   exact recL_ok h hn hr.1
  ·rw [if_neg hr]; exact noRec_ok
 ·exact noRec_ok
set_option maxRecDepth 10000
theorem one_rec_cells {r:Rec} (h:r.ok):r.cells.length=41∧r.cells.all AV.one=true∧r.cells.take 41=r.cells∧(∀ r':Rec,r'.ok→splice r'.cells 0 r.cells=r.cells):=⟨rec_len h,rec_one h,rec_take h,fun r' h' => rec_spl h' h⟩
def Rec.vok (r:Rec):Prop:=r.ok∧(r.e=nilS∨∃ f,r.e=vB r.b f)
theorem lowL_rec {r:Rec} (h:r.vok) (ren:Nat→Option Nat) (H:AH):lowL ren H r.cells=r.cells:=by
 rw [Rec.cells,lowL_app,lowL_app,lowL_bs]
 have:lowL ren H [r.e]=[r.e]:=by
  rcases h.2 with e | ⟨f,e⟩ <;> rw [e] <;> rfl
 rw [this]; rfl
theorem readR_vok {b:List UInt8} (hn:b.length≤100000):(readR b).vok:=by
 refine ⟨readR_ok hn,?_⟩
 unfold readR
 split
 ·rename_i l h
  by_cases hr:readOk l=true
  ·rw [if_pos hr]
   obtain ⟨hm,hl⟩:=fieldsO_mem h
   obtain ⟨he,hb⟩:=hm _ (getD_memP noF (show 9<l.length by omega))
   show (if 0<(l.getD 9 noF).b.length then (l.getD 9 noF).e else nilS)=nilS∨∃ f,(if 0<(l.getD 9 noF).b.length then (l.getD 9 noF).e else nilS)=vB (l.getD 9 noF).b f
   split
   ·exact .inr ⟨false,he⟩
   ·exact .inl rfl
  ·rw [if_neg hr]; exact .inl rfl
 ·exact .inl rfl
theorem nums_next (N:Nat→Int) {i:Nat} (hi:i<8):((List.range i).map (fun j => I (N j))++List.replicate (8 - i) (I 0)).set i (I (N i))=(List.range (i+1)).map (fun j => I (N j))++List.replicate (8 - (i+1)) (I 0):=by
 rw [List.set_append_right _ _ (by simp),show 8 - i=(8 - (i+1))+1 by omega,List.replicate_succ,List.range_succ,List.map_append]
 simp
def rec0 (l:List Fld):Rec:={ recL l with b:=[],e:=nilS }
theorem rec0_vok {l:List Fld} (h8:(l.getD 8 noF).b.length=32):(rec0 l).ok:=⟨h8,Nat.zero_le _,fun H => .nil⟩
theorem rec0_spl (n0 n1 n2 n3 n4 n5 n6 n7:Int) (d:List UInt8) (hd:d.length=32):splice ((((((((noRec.cells.set 0 (I n0)).set 1 (I n1)).set 2 (I n2)).set 3 (I n3)).set 4 (I n4)).set 5 (I n5)).set 6 (I n6)).set 7 (I n7)) 8 (bs d)=(Rec.mk n0 n1 n2 n3 n4 n5 n6 n7 d [] nilS).cells:=by
 have e:((((((((noRec.cells.set 0 (I n0)).set 1 (I n1)).set 2 (I n2)).set 3 (I n3)).set 4 (I n4)).set 5 (I n5)).set 6 (I n6)).set 7 (I n7))=[I n0,I n1,I n2,I n3,I n4,I n5,I n6,I n7]++(bs z32++[nilS]):=rfl
 have b:(bs d).length=32:=by rw [bs_len,hd]
 rw [e,splice_eq' _ _ _ (by rw [b]; exact Nat.le_succ _),List.take_left' (show [I n0,I n1,I n2,I n3,I n4,I n5,I n6,I n7].length=8 from rfl),b,← List.drop_drop,List.drop_left' (show [I n0,I n1,I n2,I n3,I n4,I n5,I n6,I n7].length=8 from rfl),List.drop_left' (by rw [bs_len]; rfl),List.append_assoc]
 rfl
theorem rec0_sp (l:List Fld) (h8:(l.getD 8 noF).b.length=32):splice ((((((((noRec.cells.set 0 (I (numO (l.getD 0 noF).b))).set 1 (I (numO (l.getD 1 noF).b))).set 2 (I (numO (l.getD 2 noF).b))).set 3 (I (numO (l.getD 3 noF).b))).set 4 (I (numO (l.getD 4 noF).b))).set 5 (I (numO (l.getD 5 noF).b))).set 6 (I (numO (l.getD 6 noF).b))).set 7 (I (numO (l.getD 7 noF).b))) 8 (bs (l.getD 8 noF).b)=(rec0 l).cells:=rec0_spl _ _ _ _ _ _ _ _ _ h8
theorem rec0_set (l:List Fld) (h8:(l.getD 8 noF).b.length=32) (x:AV):(rec0 l).cells.set 40 x={ rec0 l with e:=x }.cells:=by
 show ((rec0 l).nums++(bs (rec0 l).prev++[nilS])).set 40 x=(rec0 l).nums++(bs (rec0 l).prev++[x])
 have b:(bs (rec0 l).prev).length=32:=by rw [bs_len]; exact h8
 rw [List.set_append_right _ _ (show (rec0 l).nums.length≤40 from by show 8≤40; decide)]
 show (rec0 l).nums++(bs (rec0 l).prev++[nilS]).set 32 x=_
 rw [List.set_append_right _ _ (by rw [b]; exact Nat.le_refl _),b]; rfl
def nm8 (l:List Fld) (i:Nat):List AV:=(List.range i).map (fun j => I (numO (l.getD j noF).b))++List.replicate (8 - i) (I 0)
theorem nm8_8 (l:List Fld):nm8 l 8=[I (numO (l.getD 0 noF).b),I (numO (l.getD 1 noF).b),I (numO (l.getD 2 noF).b),I (numO (l.getD 3 noF).b),I (numO (l.getD 4 noF).b),I (numO (l.getD 5 noF).b),I (numO (l.getD 6 noF).b),I (numO (l.getD 7 noF).b)]:=rfl
theorem nm8_len (l:List Fld) {i:Nat} (h:i≤8):(nm8 l i).length=8:=by rw [nm8,List.length_append,List.length_map,List.length_range,List.length_replicate]; omega
theorem nm8_set (l:List Fld) {i:Nat} (hi:i<8):(nm8 l i).set i (I (numO (l.getD i noF).b))=nm8 l (i+1):=nums_next (fun j => numO (l.getD j noF).b) hi
def recZ:List Value:=[.int .i64 0,.int .i64 0,.int .i64 0,.int .i64 0,.int .i64 0,.int .i64 0,.int .i64 0,.int .i64 0,.int .u8 0,.int .u8 0,.int .u8 0,.int .u8 0,.int .u8 0,.int .u8 0,.int .u8 0,.int .u8 0,.int .u8 0,.int .u8 0,.int .u8 0,.int .u8 0,.int .u8 0,.int .u8 0,.int .u8 0,.int .u8 0,.int .u8 0,.int .u8 0,.int .u8 0,.int .u8 0,.int .u8 0,.int .u8 0,.int .u8 0,.int .u8 0,.int .u8 0,.int .u8 0,.int .u8 0,.int .u8 0,.int .u8 0,.int .u8 0,.int .u8 0,.int .u8 0,.slice none 0 0]
theorem recZ_eq:([.int .i64 0,.int .i64 0,.int .i64 0,.int .i64 0,.int .i64 0,.int .i64 0,.int .i64 0,.int .i64 0,.int .u8 0,.int .u8 0,.int .u8 0,.int .u8 0,.int .u8 0,.int .u8 0,.int .u8 0,.int .u8 0,.int .u8 0,.int .u8 0,.int .u8 0,.int .u8 0,.int .u8 0,.int .u8 0,.int .u8 0,.int .u8 0,.int .u8 0,.int .u8 0,.int .u8 0,.int .u8 0,.int .u8 0,.int .u8 0,.int .u8 0,.int .u8 0,.int .u8 0,.int .u8 0,.int .u8 0,.int .u8 0,.int .u8 0,.int .u8 0,.int .u8 0,.int .u8 0,.slice none 0 0]:List Value)=recZ:=rfl
theorem recZ_map:recZ.map AV.lit=noRec.cells:=rfl
theorem recZ_len:recZ.length=41:=rfl
theorem t_read {H:AH} {x:AV} {b:List UInt8} (hx:Sl 1 H x (bs b) b.length) (hn:b.length≤100000):Called Tryz.prog F.record_read [x] H (.agg (readR b).cells) H:=by
 refine e_record_read ?_
 have no1:=one_rec_cells noRec_ok
 have nospl:=rec_spl noRec_ok noRec_ok
 simp only [ic_record_read,recZ_eq]
 simp only [go_sem,hx.s,recZ_map]
 refine callW_some (t_fields hx.app hn 10 (by decide)) (fun _ => rfl) ?_
 cases hf:fieldsO b 10 with
 | none =>
  have e:readR b=noRec:=by rw [readR,hf]
  rw [e]
  have z0:((0:Int) == 0)=true:=rfl
  simp only [fieldsV,go_sem,z0,fillOk,fillv,recZ_map,no1.1,no1.2.1,no1.2.2.1,nospl]
  exact leave_drop rfl
 | some l =>
  obtain ⟨hm,hl⟩:=fieldsO_mem hf
  have e:readR b=if readOk l then recL l else noRec:=by rw [readR,hf]
  rw [e]
  have el:∀ i,i<10→elt (l.map Fld.e) 1 i=[(l.getD i noF).e]:=fun i hi => elt_map1 Fld.e l i (by omega) noF
  have hs:∀ i,i<10→∀ G,Sl 1 G (l.getD i noF).e (bs (l.getD i noF).b) (l.getD i noF).b.length:=fun i hi G => by
   rw [(hm _ (getD_memP noF (show i<l.length by omega))).1]; exact Sl.vB _ _
  have hb:∀ i,i<10→(l.getD i noF).b.length≤100000:=fun i hi => by
   have:=(hm _ (getD_memP noF (show i<l.length by omega))).2; omega
  have l10:(l.map Fld.e).length=10:=by rw [List.length_map,hl]
  have z10:(((10:Nat):Int) == 0)=false:=rfl
  simp only [fieldsV,hl,z10,go_sem,el 8 (by decide),l10,(hs 8 (by decide) []).s,fillOk,fillv,recZ_map,no1.1,no1.2.1,no1.2.2.1,nospl]
  refine ⟨⟨by omega,by omega⟩,fun h => leave_drop ?_,fun h => ?_⟩
  ·have h:¬ (l.getD 8 noF).b.length=32:=by
    intro h2; rw [h2] at h; exact absurd h (by decide)
   have:readOk l=false:=by rw [readOk,decide_eq_false h,Bool.false_and]
   rw [this]; rfl
  ·have h8:(l.getD 8 noF).b.length=32:=by
    have h:((l.getD 8 noF).b.length:Int)=32:=by simpa using h
    omega
   refine w_loop _ (fun (s:Nat) => ([(2,.ptr H.length 0),(3,.view (l.map Fld.e) 10 false),(4,.ptr (H.length+1) 0),(22,I s)],H++[⟨noRec.cells,0,true⟩,⟨nm8 l s,0,true⟩]))
    (fun s => s≤8∧∀ j,j<s→0≤numO (l.getD j noF).b) (fun s => 8 - s) 0 ⟨Nat.zero_le _,fun j hj => absurd hj (Nat.not_lt_zero j)⟩ rfl ?_
   rintro i ⟨hi,hj⟩
   simp only [go_sem]
   refine ⟨fun hh => ?_,fun hh => ?_⟩
   ·have hlt:i<8:=by omega
    have ib:(0:Int)≤i∧(i:Int)<((10:Nat):Int):=⟨by omega,by omega⟩
    have ib8:(0:Int)≤i∧(i:Int)<((8:Nat):Int):=⟨by omega,by omega⟩
    have w1:IntKind.i64.wrap ((i:Int)+1)=((i+1:Nat):Int):=by rw [w64 _ (by omega) (by omega)]; omega
    simp only [go_sem,el i (by omega),l10,(hs i (by omega) []).s]
    refine ⟨ib,callW_some (t_tOf (hs i (by omega) _) (by have:=hb i (by omega); omega)) (fun _ => rfl) ?_⟩
    by_cases hneg:numO (l.getD i noF).b<0
    ·rw [if_pos hneg]
     simp only [go_sem,fillOk,fillv,recZ_map,no1.1,no1.2.1,no1.2.2.1,nospl]
     have:readOk l=false:=by
      have:¬ ∀ i:Nat,i<8→0≤numO (l.getD i noF).b:=fun h => by have:=h i hlt; omega
      rw [readOk,decide_eq_false this,Bool.and_false]
     rw [this]
     exact leave_drop rfl
    ·rw [if_neg hneg]
     simp only [go_sem,nm8_len l hi,w1]
     refine ⟨ib8,?_⟩
     refine ⟨by omega,i+1,rfl,?_,⟨by omega,fun j hj' => ?_⟩,by omega⟩
     ·rw [← nm8_set l hlt]
     ·rcases Nat.lt_succ_iff_lt_or_eq.1 hj' with h1 | rfl
      ·exact hj j h1
      ·omega
   ·obtain rfl:i=8:=by omega
    have hok:readOk l=true:=by rw [readOk,decide_eq_true h8,decide_eq_true hj]; rfl
    have e8:(l.getD 8 noF).e=.view (bs (l.getD 8 noF).b) 32 false:=by rw [(hm _ (getD_memP noF (show 8<l.length by omega))).1,← h8]
    have b8:(bs (l.getD 8 noF).b).length=32:=by rw [bs_len,h8]
    have t8:(bs (l.getD 8 noF).b).take 32=bs (l.getD 8 noF).b:=List.take_of_length_le (by omega)
    have o0:=one_rec_cells (rec0_vok h8)
    have spl0:=rec_spl noRec_ok (rec0_vok h8)
    simp only [nm8_8,go_sem,el 8 (by decide),el 9 (by decide),l10,e8,b8,t8,one_bs,(hs 9 (by decide) []).s,fillOk,fillv,recZ_map,recZ_len,no1.1,no1.2.1,no1.2.2.1,nospl,rec0_sp l h8,o0.1,o0.2.1,o0.2.2.1,spl0,if_pos hok]
    have ct:∀ X:AV,∀ K,lowL (renk H.length []) K (recL l).cells=(recL l).cells:=fun _ K => lowL_rec ⟨recL_ok hf hn h8,by
     show (if 0<(l.getD 9 noF).b.length then (l.getD 9 noF).e else nilS)=nilS∨∃ f,(if 0<(l.getD 9 noF).b.length then (l.getD 9 noF).e else nilS)=vB (l.getD 9 noF).b f
     split
     ·exact .inr ⟨false,(hm _ (getD_memP noF (show 9<l.length by omega))).1⟩
     ·exact .inl rfl⟩ _ _
    refine ⟨by decide,⟨by decide,by decide⟩,⟨by decide,by decide⟩,⟨by decide,by decide⟩,⟨by decide,by decide⟩,⟨by decide,by decide⟩,⟨by decide,by decide⟩,⟨by decide,by decide⟩,⟨by decide,by decide⟩,⟨by decide,by decide⟩,fun hp => ?_,fun hp => ?_⟩
    ·have hp:0<(l.getD 9 noF).b.length:=by omega
     have er:(rec0 l).cells.set 40 (l.getD 9 noF).e=(recL l).cells:=by
      rw [rec0_set l h8]
      show (rec0 l).nums++(bs (rec0 l).prev++[(l.getD 9 noF).e])=(recL l).nums++(bs (recL l).prev++[if 0<(l.getD 9 noF).b.length then (l.getD 9 noF).e else nilS])
      rw [if_pos hp]; rfl
     have hr:=recL_ok hf hn h8
     rw [er,rec_take hr,rec_spl noRec_ok hr,rec_take hr]
     refine ⟨⟨by decide,by decide⟩,⟨rec_len hr,rec_one hr⟩,Nat.le_of_eq (rec_len hr).symm,?_⟩
     exact leave_drop (congrArg AV.agg (ct nilS _))
    ·have hp:¬ 0<(l.getD 9 noF).b.length:=by omega
     have er:(recL l).cells=(rec0 l).cells:=by
      show (recL l).nums++(bs (recL l).prev++[if 0<(l.getD 9 noF).b.length then (l.getD 9 noF).e else nilS])=_
      rw [if_neg hp]; rfl
     rw [er]
     exact leave_drop (congrArg AV.agg (lowL_rec ⟨rec0_vok h8,.inl rfl⟩ _ _))
def zd:List UInt8:=z32
def rOpenO (b:List UInt8):Option (Rec × List UInt8 × Nat × Nat):=(partsO b).bind fun p => if recB (readR p.1) then some (readR p.1,sha p.1,p.2.1,p.2.2) else none
def rOpenV (o:Option (Rec × List UInt8 × Nat × Nat)):AV:=match o with
 | some (r,d,s,t) => .tup [.agg r.cells,.agg (bs d),.agg (sgc s t),nilE]
 | none => .tup [.agg noRec.cells,.agg (bs zd),.agg (sgc 0 0),errF]
theorem parts_fields (b:List UInt8):(fieldsO b 2=none∧partsO b=none)∨∃ f g,fieldsO b 2=some [f,g]∧partsO b=if g.b.length=64 then some (f.b,be (g.b.take 32),be (g.b.drop 32)) else none:=by
 cases hg:getS b with
 | none => exact .inl ⟨by rw [fieldsO,hg]; rfl,partsO_not fun f g h => by rw [hg] at h; cases h⟩
 | some l =>
  have eO:fieldsO b 2=if tagsB l 2 then some l else none:=by rw [fieldsO,hg]; rfl
  by_cases h2:l.length=2
  ·obtain ⟨f,g,rfl⟩:=len2 h2
   have et:tagsB [f,g] 2=decide (f.tag=1∧g.tag=2):=by
    rw [tagsB,show decide ([f,g].length=2)=true from rfl,Bool.true_and,Bool.eq_iff_iff,decide_eq_true_eq,decide_eq_true_eq]
    refine ⟨fun h => ⟨h 0 (show 0<2 by decide),h 1 (show 1<2 by decide)⟩,fun h i hi => ?_⟩
    match i,hi with
    | 0,_ => exact h.1
    | 1,_ => exact h.2
   rw [eO,et,partsO_some hg]
   by_cases ht:f.tag=1∧g.tag=2
   ·refine .inr ⟨f,g,by rw [decide_eq_true ht]; rfl,?_⟩
    by_cases h64:g.b.length=64
    ·rw [if_pos ⟨ht,h64⟩,if_pos h64]
    ·rw [if_neg (fun h => h64 h.2),if_neg h64]
   ·exact .inl ⟨by rw [decide_eq_false ht]; rfl,by rw [if_neg (fun h => ht h.1)]⟩
  ·refine .inl ⟨by rw [eO,tagsB,decide_eq_false h2]; rfl,partsO_not fun f g h => by rw [hg] at h; cases h; exact h2 rfl⟩
def z32Z:List Value:=List.replicate 32 (.int .u8 0)
theorem z32Z_eq:List.replicate 32 (Value.int .u8 0)=z32Z:=rfl
theorem z32Z_map:z32Z.map AV.lit=bs zd:=rfl
theorem bs32_spl {a d:List UInt8} (ha:a.length=32) (h:d.length=32):splice (bs a) 0 (bs d)=bs d:=splice_all (by rw [bs_len,bs_len,ha,h])
theorem t_rOpen {H:AH} {x:AV} {b:List UInt8} (hx:Sl 1 H x (bs b) b.length) (hn:b.length≤100000):Called Tryz.prog F.record_Open [x] H (rOpenV (rOpenO b)) H:=by
 refine e_record_Open ?_
 have e8:[Z0,Z0,Z0,Z0,Z0,Z0,Z0,Z0]=sgc 0 0:=rfl
 have no1:=one_rec_cells noRec_ok
 have nospl:=rec_spl noRec_ok noRec_ok
 obtain ⟨n32,b32,t32⟩:=bs32_ne (show zd.length=32 from rfl)
 have s32:=fun (d:List UInt8) (h:d.length=32) => bs32_spl (show zd.length=32 from rfl) h
 have s3z:=s32 zd rfl
 simp only [ic_record_Open,recZ_eq,z32Z_eq]
 simp only [go_sem,hx.s,recZ_map,z32Z_map,e8]
 refine callW_some (t_fields hx.app hn 2 (by decide)) (fun _ => rfl) ?_
 rcases parts_fields b with ⟨hf,hp⟩ | ⟨f,g,hf,hp⟩
 ·have e:rOpenO b=none:=by rw [rOpenO,hp]; rfl
  have z0:((0:Int) == 0)=true:=rfl
  rw [e,hf]
  simp only [fieldsV,go_sem,z0,fillOk,fillv,recZ_map,z32Z_map,no1.1,no1.2.1,no1.2.2.1,nospl,e8,sg_spl,sg_len,sg_one,sg_take,b32,t32,s3z,one_bs]
  exact leave_drop rfl
 ·obtain ⟨hm,hl⟩:=fieldsO_mem hf
  obtain ⟨hf1,hf2⟩:=hm f (by simp)
  obtain ⟨hg1,hg2⟩:=hm g (by simp)
  have sg:∀ G,Sl 1 G g.e (bs g.b) g.b.length:=fun G => by rw [hg1]; exact Sl.vB _ _
  have sf:∀ G,Sl 1 G f.e (bs f.b) f.b.length:=fun G => by rw [hf1]; exact Sl.vB _ _
  have e0:∀ a b:AV,elt [a,b] 1 0=[a]:=fun _ _ => rfl
  have e1:∀ a b:AV,elt [a,b] 1 1=[b]:=fun _ _ => rfl
  have z2:(((2:Nat):Int) == 0)=false:=rfl
  have tp:=fun H => t_sparse (H:=H) (sg H) (by omega)
  have tr:=fun H => t_read (H:=H) (sf H) (by omega)
  have hv:=readR_vok (b:=f.b) (by omega)
  have rv1:=one_rec_cells hv.1
  have rspl:=rec_spl noRec_ok hv.1
  rw [hf]
  simp only [fieldsV,List.map_cons,List.map_nil,List.length_cons,List.length_nil,Nat.zero_add,z2,go_sem,e0,e1,(sf []).s]
  refine ⟨by decide,callW_some (tr _) (fun _ => rfl) ?_⟩
  have no:=recB (readR f.b)
  have tm:=fun H => t_recMay (H:=H) (readR f.b) hv.1
  have eR:rOpenO b=(if g.b.length=64 then some (f.b,be (g.b.take 32),be (g.b.drop 32)) else none).bind fun p => if recB (readR p.1) then some (readR p.1,sha p.1,p.2.1,p.2.2) else none:=by rw [rOpenO,hp]
  rw [eR]
  generalize hR:readR f.b=R at hv rv1 rspl tm
  simp only [go_sem,e0,e1,(sg []).s,recZ_map,no1.1,no1.2.1,no1.2.2.1,rspl,rv1.1,rv1.2.1,rv1.2.2.1]
  refine ⟨by decide,callW_some (tp _) (fun _ => rfl) ?_⟩
  by_cases h64:g.b.length=64
  ·rw [if_pos h64,if_pos h64]
   generalize be (g.b.take 32)=s
   generalize be (g.b.drop 32)=t
   simp only [go_sem,e8,sg_spl,sg_len,sg_one,sg_take,rspl,rv1.1,rv1.2.1,rv1.2.2.1]
   refine callG_of (fun _ => tm _) ?_
   have ev:rOpenV ((some (f.b,s,t)).bind fun p => if recB (readR p.1) then some (readR p.1,sha p.1,p.2.1,p.2.2) else none)=if recB R then .tup [.agg R.cells,.agg (bs (sha f.b)),.agg (sgc s t),nilE] else .tup [.agg noRec.cells,.agg (bs zd),.agg (sgc 0 0),errF]:=by
    show rOpenV (if recB (readR f.b) then some (readR f.b,sha f.b,s,t) else none)=_
    rw [hR]; cases recB R <;> rfl
   rw [ev]
   clear tm
   have low1:=fun G => lowL_rec hv (renk H.length []) G
   generalize recB R=v
   have ts:=fun G => t_ssum (H:=G) (sf G) (by omega)
   have hsl:=sha_len f.b
   generalize sha f.b=d at ts hsl ⊢
   obtain ⟨nd,bd,td⟩:=bs32_ne hsl
   have sd:=s32 d hsl
   cases v
   ·simp only [go_sem,e8,sg_spl,sg_len,sg_one,sg_take,fillOk,fillv,recZ_map,z32Z_map,no1.1,no1.2.1,no1.2.2.1,nospl,rv1.1,rv1.2.1,rv1.2.2.1,b32,t32,s3z,one_bs]
    exact leave_drop rfl
   ·simp only [go_sem,e0,e8,(sf []).s,sg_spl,sg_len,sg_one,sg_take,rspl,rv1.1,rv1.2.1,rv1.2.2.1,b32,t32,one_bs]
    refine ⟨by decide,callW_some ⟨rfl,fun G => ts _⟩ (fun _ => rfl) ?_⟩
    simp only [go_sem,e0,e8,(sf []).s,sg_spl,sg_len,sg_one,sg_take,rspl,rv1.1,rv1.2.1,rv1.2.2.1,b32,t32,nd,bd,td,sd,no1.1,no1.2.2.1,one_bs]
    exact ⟨by omega,by omega,leave_drop (by simp only [low,lowL,low1,lowL_bs,lowL_sg])⟩
  ·rw [if_neg h64,if_neg h64]
   simp only [go_sem,e8,sg_spl,sg_len,sg_one,sg_take,fillOk,fillv,recZ_map,z32Z_map,no1.1,no1.2.1,no1.2.2.1,nospl,rv1.1,rv1.2.1,rv1.2.2.1,b32,t32,s3z,one_bs]
   refine callG_of (v:=Bl false) (fun h => by cases h) ?_
   simp only [go_sem,e8,sg_spl,sg_len,sg_one,sg_take,fillOk,fillv,recZ_map,z32Z_map,no1.1,no1.2.1,no1.2.2.1,nospl,rv1.1,rv1.2.1,rv1.2.2.1,b32,t32,s3z,one_bs]
   exact leave_drop rfl
structure Bt where
 b:List UInt8
 e:AV
def Bt.ok (x:Bt):Prop:=x.b.length≤100000∧∀ H,Sl 1 H x.e (bs x.b) x.b.length
def noB:Bt:=⟨[],nilS⟩
theorem cells_bs:∀ a b:List UInt8,cellsEq (bs a) (bs b)=decide (a=b)
 | [],[] => rfl
 | [],b::t => rfl
 | a::s,[] => rfl
 | a::s,b::t => by
  have ih:=cells_bs s t
  show (((a.toNat:Int) == (b.toNat:Int))&&cellsEq (bs s) (bs t))=_
  rw [ih,Bool.eq_iff_iff,Bool.and_eq_true,beq_iff_eq,decide_eq_true_eq,decide_eq_true_eq,List.cons.injEq,Int.ofNat_inj,UInt8.toNat_inj]
def k32:List (Option IntKind):=List.replicate 32 (some .u8)
theorem k32_eq:List.replicate 32 (some IntKind.u8)=k32:=rfl
theorem bs_kind:∀ a:List UInt8,(bs a).map kindOf=(List.replicate a.length (some IntKind.u8)).map some
 | [] => rfl
 | a::s => by
  show some (some IntKind.u8)::(bs s).map kindOf=some (some IntKind.u8)::(List.replicate s.length (some IntKind.u8)).map some
  rw [bs_kind s]
theorem bs_aggOk {a b:List UInt8} (ha:a.length=32) (hb:b.length=32):aggEqOk k32 (.agg (bs a)) (.agg (bs b))=True:=by
 have h1:=bs_kind a
 have h2:=bs_kind b
 rw [ha] at h1
 rw [hb] at h2
 exact eq_true ⟨h1,h2⟩
theorem bs_aggEq (a b:List UInt8):aggEq (.agg (bs a)) (.agg (bs b))=decide (a=b):=cells_bs a b
theorem rOpenO_ok {b:List UInt8} {r:Rec} {d:List UInt8} {s t:Nat} (h:rOpenO b=some (r,d,s,t)) (hn:b.length≤100000):r.ok∧recB r=true∧d.length=32∧s<(18446744073709551616:Nat)^4∧t<(18446744073709551616:Nat)^4:=by
 unfold rOpenO at h
 cases hp:partsO b with
 | none => rw [hp] at h; cases h
 | some p =>
  obtain ⟨body,s',t'⟩:=p
  rw [hp] at h
  have h:(if recB (readR body) then some (readR body,sha body,s',t') else none)=some (r,d,s,t):=h
  by_cases hb:recB (readR body)=true
  ·rw [if_pos hb] at h
   cases h
   obtain ⟨h1,h2⟩:=partsO_lt hp
   have hl:body.length≤b.length:=by
    rcases parts_fields b with ⟨_,h0⟩ | ⟨f,g,hf,h0⟩
    ·rw [hp] at h0; cases h0
    ·rw [hp] at h0
     split at h0
     ·cases h0; exact ((fieldsO_mem hf).1 f (by simp)).2
     ·cases h0
   exact ⟨readR_ok (by omega),hb,sha_len _,h1,h2⟩
  ·rw [if_neg hb] at h; cases h
set_option maxRecDepth 10000
noncomputable def rCheckN (b:List UInt8) (X Y:Nat) (f:Bool):Rec × Int:=match rOpenO b with
 | some (r,d,s,t) => bif verB X Y f d s t then (r,0) else (noRec,8)
 | none => (noRec,2)
theorem rOpenO_vok {b:List UInt8} {r:Rec} {d:List UInt8} {s t:Nat} (h:rOpenO b=some (r,d,s,t)) (hn:b.length≤100000):r.vok:=by
 unfold rOpenO at h
 cases hp:partsO b with
 | none => rw [hp] at h; cases h
 | some p =>
  obtain ⟨body,s',t'⟩:=p
  rw [hp] at h
  have h:(if recB (readR body) then some (readR body,sha body,s',t') else none)=some (r,d,s,t):=h
  by_cases hb:recB (readR body)=true
  ·rw [if_pos hb] at h
   cases h
   have hl:body.length≤b.length:=by
    rcases parts_fields b with ⟨_,h0⟩ | ⟨f,g,hf,h0⟩
    ·rw [hp] at h0; cases h0
    ·rw [hp] at h0
     split at h0
     ·cases h0; exact ((fieldsO_mem hf).1 f (by simp)).2
     ·cases h0
   exact readR_vok (by omega)
  ·rw [if_neg hb] at h; cases h
theorem t_rCheck {H:AH} {x:AV} {b:List UInt8} {X Y:Nat} {f:Bool} (hx:Sl 1 H x (bs b) b.length) (hn:b.length≤100000) (hX:X<(18446744073709551616:Nat)^4) (hY:Y<(18446744073709551616:Nat)^4):Called Tryz.prog F.record_Check [x,.agg (pcell X Y f)] H (.tup [.agg (rCheckN b X Y f).1.cells,errO (rCheckN b X Y f).2]) H:=by
 have e8:[Z0,Z0,Z0,Z0,Z0,Z0,Z0,Z0]=sgc 0 0:=rfl
 have no1:=one_rec_cells noRec_ok
 have nospl:=rec_spl noRec_ok noRec_ok
 obtain ⟨n32,b32,t32⟩:=bs32_ne (show zd.length=32 from rfl)
 have s3z:=bs32_spl (show zd.length=32 from rfl) (show zd.length=32 from rfl)
 refine e_record_Check ?_
 simp only [ic_record_Check,recZ_eq,z32Z_eq]
 simp only [go_sem,hx.s,pc_one,pc_ne,recZ_map]
 refine callW_some (t_rOpen hx.app hn) (fun _ => rfl) ?_
 cases hO:rOpenO b with
 | none =>
  have ec:rCheckN b X Y f=(noRec,2):=by rw [rCheckN,hO]
  rw [ec]
  simp only [rOpenV,go_sem,fillOk,fillv,recZ_map,recZ_len,z32Z_map,no1.1,no1.2.1,no1.2.2.1,nospl,e8,sg_spl,sg_len,sg_one,sg_take,b32,t32,s3z,one_bs]
  exact leave_drop rfl
 | some p =>
  obtain ⟨r,d,s,t⟩:=p
  obtain ⟨hr,hrb,hd,hs,ht⟩:=rOpenO_ok hO hn
  have hv:=rOpenO_vok hO hn
  obtain ⟨nd,bd,td⟩:=bs32_ne hd
  have sd:=bs32_spl (show zd.length=32 from rfl) hd
  have r1:=one_rec_cells hr
  have rspl:=rec_spl noRec_ok hr
  have ec:rCheckN b X Y f=bif verB X Y f d s t then (r,0) else (noRec,8):=by rw [rCheckN,hO]
  rw [ec]
  simp only [rOpenV,go_sem,fillOk,fillv,recZ_map,recZ_len,z32Z_map,no1.1,no1.2.1,no1.2.2.1,nospl,r1.1,r1.2.1,r1.2.2.1,rspl,e8,sg_spl,sg_len,sg_one,sg_take,b32,t32,sd,one_bs,bd,td,pc_len,pc_take]
  refine callW_some (t_Verify hX hY hs ht hd) (fun _ => rfl) ?_
  generalize verB X Y f d s t=v
  cases v
  ·simp only [go_sem,fillOk,fillv,recZ_map,recZ_len,no1.1,no1.2.1,no1.2.2.1,nospl]
   exact leave_drop rfl
  ·simp only [go_sem,r1.1,r1.2.1,r1.2.2.1,rspl]
   refine ⟨Nat.le_of_eq no1.1.symm,leave_drop ?_⟩
   show AV.tup [.agg (lowL _ _ r.cells),nilE]=_
   rw [lowL_rec hv]; rfl
end Go.Proofs.YtenfocjhebgoeaaGreat.Eng

