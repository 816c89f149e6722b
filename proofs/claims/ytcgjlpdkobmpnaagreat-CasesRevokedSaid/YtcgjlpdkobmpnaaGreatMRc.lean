/- Layer 8: a number's bytes; fields' bytes: the program's walks. -/
import Derived.Test.YtcgjlpdkobmpnaaGreatMTk
namespace Go.Proofs.YtcgjlpdkobmpnaaGreat.Eng
open Go Go.Proofs
set_option linter.unusedVariables false
set_option linter.unusedSimpArgs false
set_option maxRecDepth 10000
section
variable {H K:AH} {x s:AV} {vs ws:List AV} {b:Nat}
end
theorem GR.viewS {H K:AH} {x:AV} {vs:List AV} {n:Nat} (h:GR (H++K) x vs) (hq:∀ q,rid x=some q→H.length≤q) (hp:Ye vs=true) (hn:vs.length=n):Le (low (renk H.length []) (H++K) x) (.view vs n false):=hn ▸ h.view hq hp
structure Rec where
 dev:Int
 seq:Int
 min_:Int
 kind:Int
 stop:Int
 zone:Int
 serial:Int
 verdict:Int
 prev:List UInt8
 b:List UInt8
 e:AV
def Rec.nums (r:Rec):List AV:=[I r.dev,I r.seq,I r.min_,I r.kind,I r.stop,I r.zone,I r.serial,I r.verdict]
def Rec.cells (r:Rec):List AV:=r.nums++(bs r.prev++[r.e])
def Rec.ok (r:Rec):Prop:=r.prev.length=32∧r.b.length≤1000000∧∀ H,Sl 1 H r.e (bs r.b) r.b.length
abbrev z32:List UInt8:=List.replicate 32 0
def noRec:Rec:=⟨0,0,0,0,0,0,0,0,z32,[],nilS⟩
def recB (r:Rec):Bool:=((((((inB 0 31 r.stop&&inB 0 7 r.zone)&&(if r.kind=1 then inB 1 7 r.verdict&&decide (r.b.length≤500) else (r.verdict == 0&&decide (r.b.length=0))&&inB 2 3 r.kind))&&inB 1 2147483647 r.dev)&&inB 0 1073741824 r.seq)&&inB 0 1073741824 r.min_)&&inB 0 2147483647 r.serial)
theorem Zt:noRec.ok:=⟨rfl,by decide,fun H => .nil⟩
section
variable {r:Rec}
theorem Xn (h:r.ok):r.cells.length=41:=by simp [Rec.cells,Rec.nums,h.1]
theorem Ir (h:r.ok):r.cells.all AV.one=true:=by
 rw [Rec.cells,List.all_append,List.all_append,Xx]
 have:=(h.2.2 []).one
 simp only [List.all_cons,List.all_nil,this,Bool.and_true]
 rfl
theorem Is:r.cells.isEmpty=false:=rfl
theorem Dk (h:r.ok):r.cells.take 41=r.cells:=List.take_of_length_le (by rw [Xn h]; exact Nat.le_refl _)
theorem Zen:r.cells.getD 0 .junk=I r.dev:=rfl
theorem Bv:r.cells.getD 1 .junk=I r.seq:=rfl
theorem Qd:r.cells.getD 2 .junk=I r.min_:=rfl
theorem Fw:r.cells.getD 3 .junk=I r.kind:=rfl
theorem Ztv:r.cells.getD 4 .junk=I r.stop:=rfl
theorem Zkd:r.cells.getD 5 .junk=I r.zone:=rfl
theorem Zkc:r.cells.getD 6 .junk=I r.serial:=rfl
theorem Ztu:r.cells.getD 7 .junk=I r.verdict:=rfl
theorem Dl (h:r.ok):r.cells.getD 40 .junk=r.e:=by
 rw [Rec.cells,List.getD_eq_getElem?_getD,List.getElem?_append_right (by show 8≤40; decide)]
 show ((bs r.prev++[r.e])[32]?).getD .junk=r.e
 rw [List.getElem?_append_right (by rw [Y9,h.1]; exact Nat.le_refl _),Y9,h.1]; rfl
theorem Zpu (h:r.ok):(r.cells.drop 8).take 32=bs r.prev:=by
 rw [Rec.cells,List.drop_left' (show r.nums.length=8 from rfl),List.take_left' (by rw [Y9,h.1])]
theorem Xj {r':Rec} (h:r.ok) (h':r'.ok):splice r.cells 0 r'.cells=r'.cells:=Zy (by rw [Xn h,Xn h'])
end
theorem V4 (n a b:Int) (H:AH):Called Tryz.prog F.record_within [I n,I a,I b] H (Bl (inB a b n)) H:=by
 refine Ge ?_
 simp only [Ry,go_sem]
 exact Zk rfl
theorem It {H:AH} (r:Rec) (h:r.ok) (p o:Bool) (ex:List (Nat × AV)):iwp (pfx false) (Called Tryz.prog) Uc (retQ [.t 2] H (Bl ((((((p&&o)&&inB 1 2147483647 r.dev)&&inB 0 1073741824 r.seq)&&inB 0 1073741824 r.min_)&&inB 0 2147483647 r.serial))) H) (look ((1,.ptr H.length 0)::(3,Bl p)::(4,Bl o)::ex)) (H++[⟨r.cells,0,true⟩]):=by
 have hl:=Xn h
 simp only [Uc,go_sem,hl,Zen]
 refine Zq (fun _ => V4 _ _ _ _) ?_
 simp only [go_sem,hl,Bv]
 refine Zq (fun _ => V4 _ _ _ _) ?_
 simp only [go_sem,hl,Qd]
 refine Zq (fun _ => V4 _ _ _ _) ?_
 simp only [go_sem,hl,Zkc]
 refine Zq (fun _ => V4 _ _ _ _) ?_
 simp only [go_sem]
 exact Zc rfl
theorem Zo3 {H:AH} (r:Rec) (h:r.ok):Called Tryz.prog F.record_May [.agg r.cells] H (Bl (recB r)) H:=by
 refine A7 ?_
 have hl:=Xn h
 have he:=fun H => (h.2.2 H).s
 simp only [N9,go_sem,Ir h,Is,hl,Ztv]
 refine Za (V4 _ _ _ _) (fun _ => rfl) ?_
 simp only [go_sem,hl,Zkd]
 refine Zq (fun _ => V4 _ _ _ _) ?_
 simp only [go_sem,hl,Ztu,Dl h,(he []),Fw]
 refine Zq (fun _ => V4 _ _ _ _) ?_
 simp only [go_sem,hl,Fw]
 refine ⟨fun hk => ?_,fun hk => ?_⟩
 ·have hk':r.kind=1:=by simpa using hk
  simp only [Ztu]
  refine Za (V4 _ _ _ _) (fun _ => rfl) ?_
  simp only [go_sem,hl,Dl h,(he [])]
  have e:recB r=((((((inB 0 31 r.stop&&inB 0 7 r.zone)&&(inB 1 7 r.verdict&&decide ((r.b.length:Int)≤500)))&&inB 1 2147483647 r.dev)&&inB 0 1073741824 r.seq)&&inB 0 1073741824 r.min_)&&inB 0 2147483647 r.serial):=by
   rw [recB,if_pos hk',show decide (r.b.length≤500)=decide ((r.b.length:Int)≤500) by congr 1; apply propext; omega]
  rw [e]
  exact It r h _ _ _
 ·have hk':¬ r.kind=1:=by simpa using hk
  have e:recB r=((((((inB 0 31 r.stop&&inB 0 7 r.zone)&&((r.verdict == 0&&(r.b.length:Int) == 0)&&inB 2 3 r.kind))&&inB 1 2147483647 r.dev)&&inB 0 1073741824 r.seq)&&inB 0 1073741824 r.min_)&&inB 0 2147483647 r.serial):=by
   rw [recB,if_neg hk',show decide (r.b.length=0)=((r.b.length:Int) == 0) by rw [Bool.eq_iff_iff,decide_eq_true_eq,beq_iff_eq]; omega]
  rw [e]
  exact It r h _ _ _
def O4 (l:List Fld) (n:Nat):Bool:=decide (l.length=n)&&decide (∀ i,i<l.length→(l.getD i noF).tag=i+1)
def Vb (b:List UInt8) (n:Nat):Option (List Fld):=(getS b).bind fun l => if O4 l n then some l else none
def H6 (o:Option (List Fld)):AV:=match o with
 | some l => .view (l.map Fld.e) l.length false
 | none => nilS
theorem Vz {b:List UInt8} {n:Nat} {l:List Fld} (h:Vb b n=some l):(∀ f ∈ l,f.e=vB f.b false∧f.b.length≤b.length)∧l.length=n:=by
 unfold Vb at h
 cases hg:getS b with
 | none => rw [hg] at h; cases h
 | some m =>
  rw [hg] at h
  have h:(if O4 m n then some m else none)=some l:=h
  by_cases hb:O4 m n=true
  ·rw [if_pos hb] at h
   cases h
   simp only [O4,Bool.and_eq_true,decide_eq_true_eq] at hb
   exact ⟨(J2 hg).1,hb.1⟩
  ·rw [if_neg hb] at h; cases h
theorem Zd8 {H:AH} {x:AV} {b:List UInt8} (hx:Sl 1 H x (bs b) b.length) (hn:b.length≤100000) (n:Nat) (hN:n≤100):Called Tryz.prog F.record_fields [x,I n] H (H6 (Vb b n)) H:=by
 refine Gg ?_
 simp only [Rz,go_sem,hx.s]
 refine Za (Zbb hx hn) (fun _ => rfl) ?_
 cases hg:getS b with
 | none =>
  have e:Vb b n=none:=by rw [Vb,hg]; rfl
  rw [e]
  simp only [getV,go_sem]
  exact Zk rfl
 | some l =>
  obtain ⟨hm,h64⟩:=J2 hg
  simp only [getV,go_sem]
  have eO:Vb b n=if O4 l n then some l else none:=by rw [Vb,hg]; rfl
  rw [eO]
  refine ⟨fun h => Zk ?_,fun h => ?_⟩
  ·have:¬ l.length=n:=by have h:¬ (l.length:Int)=n:=by simpa using h
                         omega
   have hb:O4 l n=false:=by rw [O4,decide_eq_false this,Bool.false_and]
   rw [hb]; rfl
  ·have hl:l.length=n:=by have h:(l.length:Int)=n:=by simpa using h
                          omega
   have hb:O4 l n=decide (∀ i,i<l.length→(l.getD i noF).tag=i+1):=by rw [O4,decide_eq_true hl,Bool.true_and]
   refine Z1 _ (fun (s:Nat × AV × AH) => ([(7,s.2.1),(23,.view (fcs l) l.length false),(24,I l.length),(25,I s.1)],H++s.2.2))
    (fun s => s.1≤l.length∧GR (H++s.2.2) s.2.1 ((l.take s.1).map Fld.e)∧(∀ q,rid s.2.1=some q→H.length≤q)∧∀ j,j<s.1→(l.getD j noF).tag=j+1) (fun s => l.length - s.1) (0,nilS,[]) ⟨Nat.zero_le _,.inl ⟨rfl,rfl⟩,fun q h => Zj9 h,fun j hj => absurd hj (Nat.not_lt_zero j)⟩ (by rw [List.append_nil]; rfl) ?_
   rintro ⟨i,x,G⟩ ⟨hi,hg,hq,hj⟩
   dsimp only at hi hg hq hj
   have vl:((l.take i).map Fld.e).length=i:=by rw [List.length_map,List.length_take]; omega
   simp only [go_sem]
   refine ⟨fun hh => ?_,fun hh => ?_⟩
   ·have hlt:i<l.length:=by omega
    obtain ⟨he,hbl⟩:=hm _ (Zl noF hlt)
    have hs:∀ G,Sl 1 G (l.getD i noF).e (bs (l.getD i noF).b) (l.getD i noF).b.length:=fun G => by rw [he]; exact Sl.vB _ _
    have hp:(l.getD i noF).e.pure=true:=by rw [he]; exact Wi _
    have el:elt (fcs l) 2 i=[I (l.getD i noF).tag,(l.getD i noF).e]:=Xg _ 2 Fld.len _ _ noF hlt
    have fl:=Lu l
    have hsn:=Wd hlt noF
    have w1:IntKind.i64.wrap ((i:Int)+1)=((i+1:Nat):Int):=by rw [w64 _ (by omega) (by omega)]; omega
    have ib:(0:Int)≤i∧(i:Int)<l.length:=⟨by omega,by omega⟩
    simp only [el,fl,go_sem,(hs []).s,w1,hg.sl.s,hp,Zr,fillv]
    refine ⟨ib,fun h => Zc ?_,fun h => ?_⟩
    ·have h:¬ (l.getD i noF).tag=((i+1:Nat):Int):=by simpa using h
     have bad:O4 l n=false:=by
      rw [hb,decide_eq_false_iff_not]; exact fun h2 => h (by rw [h2 i hlt]; omega)
     rw [bad]; rfl
    ·have h:(l.getD i noF).tag=((i+1:Nat):Int):=by simpa using h
     obtain ⟨⟨_,_,c3,c4⟩,K',g1,g2,g3⟩:=(hg.more hq ⟨[I (l.getD i noF).tag,(l.getD i noF).e],0,true⟩).step (b:=24) hq (s:=.view [(l.getD i noF).e] 1 true) (v:=(l.getD i noF).e) rfl rfl rfl (hs []).one (by rw [vl]; omega)
     refine ⟨⟨by rw [vl]; omega,c4⟩,(i+1,_,K'),rfl,g1,⟨by show i+1≤_; omega,?_,g3,fun j hj' => ?_⟩,by show _ - (i+1)<_; omega⟩
     ·show GR (H++K') _ ((l.take (i+1)).map _)
      rw [hsn,List.map_append]
      exact g2
     ·rcases Nat.lt_succ_iff_lt_or_eq.1 hj' with h1 | rfl
      ·exact hj j h1
      ·exact h
   ·obtain rfl:i=l.length:=by omega
    rw [hb,decide_eq_true hj,if_pos rfl]
    refine Ww ?_
    rw [List.take_of_length_le (Nat.le_refl _)] at hg
    refine hg.viewS hq (Vl fun a ha => ?_) (List.length_map _)
    obtain ⟨f,hf,rfl⟩:=List.mem_map.1 ha
    rw [(hm f hf).1]; exact Wi _
def recL (l:List Fld):Rec:=⟨numO (l.getD 0 noF).b,numO (l.getD 1 noF).b,numO (l.getD 2 noF).b,numO (l.getD 3 noF).b,numO (l.getD 4 noF).b,numO (l.getD 5 noF).b,numO (l.getD 6 noF).b,numO (l.getD 7 noF).b,(l.getD 8 noF).b,(l.getD 9 noF).b,if 0<(l.getD 9 noF).b.length then (l.getD 9 noF).e else nilS⟩
def Qh (l:List Fld):Bool:=decide ((l.getD 8 noF).b.length=32)&&decide (∀ i:Nat,i<8→0≤numO (l.getD i noF).b)
def Vk (b:List UInt8):Rec:=match Vb b 10 with
 | some l => if Qh l then recL l else noRec
 | none => noRec
theorem Zbr {b:List UInt8} {l:List Fld} (h:Vb b 10=some l) (hn:b.length≤100000) (h8:(l.getD 8 noF).b.length=32):(recL l).ok:=by
 obtain ⟨hm,hl⟩:=Vz h
 obtain ⟨he,hb⟩:=hm _ (Zl noF (show 9<l.length by omega))
 refine ⟨h8,by show (l.getD 9 noF).b.length≤_; omega,fun H => ?_⟩
 show Sl 1 H (if 0<(l.getD 9 noF).b.length then (l.getD 9 noF).e else nilS) (bs (l.getD 9 noF).b) (l.getD 9 noF).b.length
 split
 ·rw [he]; exact Sl.vB _ _
 ·have:(l.getD 9 noF).b=[]:=List.eq_nil_of_length_eq_zero (by omega)
  rw [this]; exact .nil
theorem Zeo {b:List UInt8} (hn:b.length≤100000):(Vk b).ok:=by
 unfold Vk
 split
 ·rename_i l h
  by_cases hr:Qh l=true
  ·rw [if_pos hr]
   simp only [Qh,Bool.and_eq_true,decide_eq_true_eq] at hr
   exact Zbr h hn hr.1
  ·rw [if_neg hr]; exact Zt
 ·exact Zt
set_option maxRecDepth 10000
theorem Zp {r:Rec} (h:r.ok):r.cells.length=41∧r.cells.all AV.one=true∧r.cells.take 41=r.cells∧(∀ r':Rec,r'.ok→splice r'.cells 0 r.cells=r.cells):=⟨Xn h,Ir h,Dk h,fun r' h' => Xj h' h⟩
def Rec.vok (r:Rec):Prop:=r.ok∧(r.e=nilS∨∃ f,r.e=vB r.b f)
theorem Pi {r:Rec} (h:r.vok) (ren:Nat→Option Nat) (H:AH):lowL ren H r.cells=r.cells:=by
 rw [Rec.cells,Jy,Jy,I9]
 have:lowL ren H [r.e]=[r.e]:=by
  rcases h.2 with e | ⟨f,e⟩ <;> rw [e] <;> rfl
 rw [this]; rfl
theorem Bw {b:List UInt8} (hn:b.length≤100000):(Vk b).vok:=by
 refine ⟨Zeo hn,?_⟩
 unfold Vk
 split
 ·rename_i l h
  by_cases hr:Qh l=true
  ·rw [if_pos hr]
   obtain ⟨hm,hl⟩:=Vz h
   obtain ⟨he,hb⟩:=hm _ (Zl noF (show 9<l.length by omega))
   show (if 0<(l.getD 9 noF).b.length then (l.getD 9 noF).e else nilS)=nilS∨∃ f,(if 0<(l.getD 9 noF).b.length then (l.getD 9 noF).e else nilS)=vB (l.getD 9 noF).b f
   split
   ·exact .inr ⟨false,he⟩
   ·exact .inl rfl
  ·rw [if_neg hr]; exact .inl rfl
 ·exact .inl rfl
theorem Zkt (N:Nat→Int) {i:Nat} (hi:i<8):((List.range i).map (fun j => I (N j))++List.replicate (8 - i) (I 0)).set i (I (N i))=(List.range (i+1)).map (fun j => I (N j))++List.replicate (8 - (i+1)) (I 0):=by
 rw [List.set_append_right _ _ (by simp),show 8 - i=(8 - (i+1))+1 by omega,List.replicate_succ,List.range_succ,List.map_append]
 simp
def rec0 (l:List Fld):Rec:={ recL l with b:=[],e:=nilS }
theorem Dn {l:List Fld} (h8:(l.getD 8 noF).b.length=32):(rec0 l).ok:=⟨h8,Nat.zero_le _,fun H => .nil⟩
theorem Zpv (n0 n1 n2 n3 n4 n5 n6 n7:Int) (d:List UInt8) (hd:d.length=32):splice ((((((((noRec.cells.set 0 (I n0)).set 1 (I n1)).set 2 (I n2)).set 3 (I n3)).set 4 (I n4)).set 5 (I n5)).set 6 (I n6)).set 7 (I n7)) 8 (bs d)=(Rec.mk n0 n1 n2 n3 n4 n5 n6 n7 d [] nilS).cells:=by
 have e:((((((((noRec.cells.set 0 (I n0)).set 1 (I n1)).set 2 (I n2)).set 3 (I n3)).set 4 (I n4)).set 5 (I n5)).set 6 (I n6)).set 7 (I n7))=[I n0,I n1,I n2,I n3,I n4,I n5,I n6,I n7]++(bs z32++[nilS]):=rfl
 have b:(bs d).length=32:=by rw [Y9,hd]
 rw [e,Xe _ _ _ (by rw [b]; exact Nat.le_succ _),List.take_left' (show [I n0,I n1,I n2,I n3,I n4,I n5,I n6,I n7].length=8 from rfl),b,← List.drop_drop,List.drop_left' (show [I n0,I n1,I n2,I n3,I n4,I n5,I n6,I n7].length=8 from rfl),List.drop_left' (by rw [Y9]; rfl),List.append_assoc]
 rfl
theorem Zv5 (l:List Fld) (h8:(l.getD 8 noF).b.length=32):splice ((((((((noRec.cells.set 0 (I (numO (l.getD 0 noF).b))).set 1 (I (numO (l.getD 1 noF).b))).set 2 (I (numO (l.getD 2 noF).b))).set 3 (I (numO (l.getD 3 noF).b))).set 4 (I (numO (l.getD 4 noF).b))).set 5 (I (numO (l.getD 5 noF).b))).set 6 (I (numO (l.getD 6 noF).b))).set 7 (I (numO (l.getD 7 noF).b))) 8 (bs (l.getD 8 noF).b)=(rec0 l).cells:=Zpv _ _ _ _ _ _ _ _ _ h8
theorem Zpw (l:List Fld) (h8:(l.getD 8 noF).b.length=32) (x:AV):(rec0 l).cells.set 40 x={ rec0 l with e:=x }.cells:=by
 show ((rec0 l).nums++(bs (rec0 l).prev++[nilS])).set 40 x=(rec0 l).nums++(bs (rec0 l).prev++[x])
 have b:(bs (rec0 l).prev).length=32:=by rw [Y9]; exact h8
 rw [List.set_append_right _ _ (show (rec0 l).nums.length≤40 from by show 8≤40; decide)]
 show (rec0 l).nums++(bs (rec0 l).prev++[nilS]).set 32 x=_
 rw [List.set_append_right _ _ (by rw [b]; exact Nat.le_refl _),b]; rfl
def nm8 (l:List Fld) (i:Nat):List AV:=(List.range i).map (fun j => I (numO (l.getD j noF).b))++List.replicate (8 - i) (I 0)
theorem Z4i (l:List Fld):nm8 l 8=[I (numO (l.getD 0 noF).b),I (numO (l.getD 1 noF).b),I (numO (l.getD 2 noF).b),I (numO (l.getD 3 noF).b),I (numO (l.getD 4 noF).b),I (numO (l.getD 5 noF).b),I (numO (l.getD 6 noF).b),I (numO (l.getD 7 noF).b)]:=rfl
theorem Zwt (l:List Fld) {i:Nat} (h:i≤8):(nm8 l i).length=8:=by rw [nm8,List.length_append,List.length_map,List.length_range,List.length_replicate]; omega
theorem Zws (l:List Fld) {i:Nat} (hi:i<8):(nm8 l i).set i (I (numO (l.getD i noF).b))=nm8 l (i+1):=Zkt (fun j => numO (l.getD j noF).b) hi
def recZ:List Value:=zR
theorem V8:(zR:List Value)=recZ:=rfl
theorem Z7:recZ.map AV.lit=noRec.cells:=rfl
theorem Wu:recZ.length=41:=rfl
theorem Zz1 {H:AH} {x:AV} {b:List UInt8} (hx:Sl 1 H x (bs b) b.length) (hn:b.length≤100000):Called Tryz.prog F.record_read [x] H (.agg (Vk b).cells) H:=by
 refine Cl ?_
 have no1:=Zp Zt
 have nospl:=Xj Zt Zt
 simp only [P5,V8]
 simp only [go_sem,hx.s,Z7]
 refine Za (Zd8 hx.app hn 10 (by decide)) (fun _ => rfl) ?_
 cases hf:Vb b 10 with
 | none =>
  have e:Vk b=noRec:=by rw [Vk,hf]
  rw [e]
  have z0:((0:Int) == 0)=true:=rfl
  simp only [H6,go_sem,z0,Zr,fillv,Z7,no1.1,no1.2.1,no1.2.2.1,nospl]
  exact Zc rfl
 | some l =>
  obtain ⟨hm,hl⟩:=Vz hf
  have e:Vk b=if Qh l then recL l else noRec:=by rw [Vk,hf]
  rw [e]
  have el:∀ i,i<10→elt (l.map Fld.e) 1 i=[(l.getD i noF).e]:=fun i hi => Cb Fld.e l i (by omega) noF
  have hs:∀ i,i<10→∀ G,Sl 1 G (l.getD i noF).e (bs (l.getD i noF).b) (l.getD i noF).b.length:=fun i hi G => by
   rw [(hm _ (Zl noF (show i<l.length by omega))).1]; exact Sl.vB _ _
  have hb:∀ i,i<10→(l.getD i noF).b.length≤100000:=fun i hi => by
   have:=(hm _ (Zl noF (show i<l.length by omega))).2; omega
  have l10:(l.map Fld.e).length=10:=by rw [List.length_map,hl]
  have z10:(((10:Nat):Int) == 0)=false:=rfl
  simp only [H6,hl,z10,go_sem,el 8 (by decide),l10,(hs 8 (by decide) []).s,Zr,fillv,Z7,no1.1,no1.2.1,no1.2.2.1,nospl]
  refine ⟨⟨by omega,by omega⟩,fun h => Zc ?_,fun h => ?_⟩
  ·have h:¬ (l.getD 8 noF).b.length=32:=by
    intro h2; rw [h2] at h; exact absurd h (by decide)
   have:Qh l=false:=by rw [Qh,decide_eq_false h,Bool.false_and]
   rw [this]; rfl
  ·have h8:(l.getD 8 noF).b.length=32:=by
    have h:((l.getD 8 noF).b.length:Int)=32:=by simpa using h
    omega
   refine Z1 _ (fun (s:Nat) => ([(2,.ptr H.length 0),(3,.view (l.map Fld.e) 10 false),(4,.ptr (H.length+1) 0),(22,I s)],H++[⟨noRec.cells,0,true⟩,⟨nm8 l s,0,true⟩]))
    (fun s => s≤8∧∀ j,j<s→0≤numO (l.getD j noF).b) (fun s => 8 - s) 0 ⟨Nat.zero_le _,fun j hj => absurd hj (Nat.not_lt_zero j)⟩ rfl ?_
   rintro i ⟨hi,hj⟩
   simp only [go_sem]
   refine ⟨fun hh => ?_,fun hh => ?_⟩
   ·have hlt:i<8:=by omega
    have ib:(0:Int)≤i∧(i:Int)<((10:Nat):Int):=⟨by omega,by omega⟩
    have ib8:(0:Int)≤i∧(i:Int)<((8:Nat):Int):=⟨by omega,by omega⟩
    have w1:IntKind.i64.wrap ((i:Int)+1)=((i+1:Nat):Int):=by rw [w64 _ (by omega) (by omega)]; omega
    simp only [go_sem,el i (by omega),l10,(hs i (by omega) []).s]
    refine ⟨ib,Za (Zzx (hs i (by omega) _) (by have:=hb i (by omega); omega)) (fun _ => rfl) ?_⟩
    by_cases hneg:numO (l.getD i noF).b<0
    ·rw [if_pos hneg]
     simp only [go_sem,Zr,fillv,Z7,no1.1,no1.2.1,no1.2.2.1,nospl]
     have:Qh l=false:=by
      have:¬ ∀ i:Nat,i<8→0≤numO (l.getD i noF).b:=fun h => by have:=h i hlt; omega
      rw [Qh,decide_eq_false this,Bool.and_false]
     rw [this]
     exact Zc rfl
    ·rw [if_neg hneg]
     simp only [go_sem,Zwt l hi,w1]
     refine ⟨ib8,?_⟩
     refine ⟨by omega,i+1,rfl,?_,⟨by omega,fun j hj' => ?_⟩,by omega⟩
     ·rw [← Zws l hlt]
     ·rcases Nat.lt_succ_iff_lt_or_eq.1 hj' with h1 | rfl
      ·exact hj j h1
      ·omega
   ·obtain rfl:i=8:=by omega
    have hok:Qh l=true:=by rw [Qh,decide_eq_true h8,decide_eq_true hj]; rfl
    have e8:(l.getD 8 noF).e=.view (bs (l.getD 8 noF).b) 32 false:=by rw [(hm _ (Zl noF (show 8<l.length by omega))).1,← h8]
    have b8:(bs (l.getD 8 noF).b).length=32:=by rw [Y9,h8]
    have t8:(bs (l.getD 8 noF).b).take 32=bs (l.getD 8 noF).b:=List.take_of_length_le (by omega)
    have o0:=Zp (Dn h8)
    have spl0:=Xj Zt (Dn h8)
    simp only [Z4i,go_sem,el 8 (by decide),el 9 (by decide),l10,e8,b8,t8,Xx,(hs 9 (by decide) []).s,Zr,fillv,Z7,Wu,no1.1,no1.2.1,no1.2.2.1,nospl,Zv5 l h8,o0.1,o0.2.1,o0.2.2.1,spl0,if_pos hok]
    have ct:∀ X:AV,∀ K,lowL (renk H.length []) K (recL l).cells=(recL l).cells:=fun _ K => Pi ⟨Zbr hf hn h8,by
     show (if 0<(l.getD 9 noF).b.length then (l.getD 9 noF).e else nilS)=nilS∨∃ f,(if 0<(l.getD 9 noF).b.length then (l.getD 9 noF).e else nilS)=vB (l.getD 9 noF).b f
     split
     ·exact .inr ⟨false,(hm _ (Zl noF (show 9<l.length by omega))).1⟩
     ·exact .inl rfl⟩ _ _
    refine ⟨by decide,⟨by decide,by decide⟩,⟨by decide,by decide⟩,⟨by decide,by decide⟩,⟨by decide,by decide⟩,⟨by decide,by decide⟩,⟨by decide,by decide⟩,⟨by decide,by decide⟩,⟨by decide,by decide⟩,⟨by decide,by decide⟩,fun hp => ?_,fun hp => ?_⟩
    ·have hp:0<(l.getD 9 noF).b.length:=by omega
     have er:(rec0 l).cells.set 40 (l.getD 9 noF).e=(recL l).cells:=by
      rw [Zpw l h8]
      show (rec0 l).nums++(bs (rec0 l).prev++[(l.getD 9 noF).e])=(recL l).nums++(bs (recL l).prev++[if 0<(l.getD 9 noF).b.length then (l.getD 9 noF).e else nilS])
      rw [if_pos hp]; rfl
     have hr:=Zbr hf hn h8
     rw [er,Dk hr,Xj Zt hr,Dk hr]
     refine ⟨⟨by decide,by decide⟩,⟨Xn hr,Ir hr⟩,Nat.le_of_eq (Xn hr).symm,?_⟩
     exact Zc (congrArg AV.agg (ct nilS _))
    ·have hp:¬ 0<(l.getD 9 noF).b.length:=by omega
     have er:(recL l).cells=(rec0 l).cells:=by
      show (recL l).nums++(bs (recL l).prev++[if 0<(l.getD 9 noF).b.length then (l.getD 9 noF).e else nilS])=_
      rw [if_neg hp]; rfl
     rw [er]
     exact Zc (congrArg AV.agg (Pi ⟨Dn h8,.inl rfl⟩ _ _))
def zd:List UInt8:=z32
def Xw (b:List UInt8):Option (Rec × List UInt8 × Nat × Nat):=(X2 b).bind fun p => if recB (Vk p.1) then some (Vk p.1,sha p.1,p.2.1,p.2.2) else none
def Sz (o:Option (Rec × List UInt8 × Nat × Nat)):AV:=match o with
 | some (r,d,s,t) => .tup [.agg r.cells,.agg (bs d),.agg (sgc s t),nilE]
 | none => .tup [.agg noRec.cells,.agg (bs zd),.agg (sgc 0 0),errF]
theorem Qp (b:List UInt8):(Vb b 2=none∧X2 b=none)∨∃ f g,Vb b 2=some [f,g]∧X2 b=if g.b.length=64 then some (f.b,be (g.b.take 32),be (g.b.drop 32)) else none:=by
 cases hg:getS b with
 | none => exact .inl ⟨by rw [Vb,hg]; rfl,Ph fun f g h => by rw [hg] at h; cases h⟩
 | some l =>
  have eO:Vb b 2=if O4 l 2 then some l else none:=by rw [Vb,hg]; rfl
  by_cases h2:l.length=2
  ·obtain ⟨f,g,rfl⟩:=len2 h2
   have et:O4 [f,g] 2=decide (f.tag=1∧g.tag=2):=by
    rw [O4,show decide ([f,g].length=2)=true from rfl,Bool.true_and,Bool.eq_iff_iff,decide_eq_true_eq,decide_eq_true_eq]
    refine ⟨fun h => ⟨h 0 (show 0<2 by decide),h 1 (show 1<2 by decide)⟩,fun h i hi => ?_⟩
    match i,hi with
    | 0,_ => exact h.1
    | 1,_ => exact h.2
   rw [eO,et,I0 hg]
   by_cases ht:f.tag=1∧g.tag=2
   ·refine .inr ⟨f,g,by rw [decide_eq_true ht]; rfl,?_⟩
    by_cases h64:g.b.length=64
    ·rw [if_pos ⟨ht,h64⟩,if_pos h64]
    ·rw [if_neg (fun h => h64 h.2),if_neg h64]
   ·exact .inl ⟨by rw [decide_eq_false ht]; rfl,by rw [if_neg (fun h => ht h.1)]⟩
  ·refine .inl ⟨by rw [eO,O4,decide_eq_false h2]; rfl,Ph fun f g h => by rw [hg] at h; cases h; exact h2 rfl⟩
def z32Z:List Value:=List.replicate 32 (.int .u8 0)
theorem Og:List.replicate 32 (Value.int .u8 0)=z32Z:=rfl
theorem Xv:z32Z.map AV.lit=bs zd:=rfl
theorem Vr {a d:List UInt8} (ha:a.length=32) (h:d.length=32):splice (bs a) 0 (bs d)=bs d:=Zy (by rw [Y9,Y9,ha,h])
theorem Ie {H:AH} {x:AV} {b:List UInt8} (hx:Sl 1 H x (bs b) b.length) (hn:b.length≤100000):Called Tryz.prog F.record_Open [x] H (Sz (Xw b)) H:=by
 refine Cm ?_
 have e8:[Z0,Z0,Z0,Z0,Z0,Z0,Z0,Z0]=sgc 0 0:=rfl
 have no1:=Zp Zt
 have nospl:=Xj Zt Zt
 obtain ⟨n32,b32,t32⟩:=Uh (show zd.length=32 from rfl)
 have s32:=fun (d:List UInt8) (h:d.length=32) => Vr (show zd.length=32 from rfl) h
 have s3z:=s32 zd rfl
 simp only [P6,V8,Og]
 simp only [go_sem,hx.s,Z7,Xv,e8]
 refine Za (Zd8 hx.app hn 2 (by decide)) (fun _ => rfl) ?_
 rcases Qp b with ⟨hf,hp⟩ | ⟨f,g,hf,hp⟩
 ·have e:Xw b=none:=by rw [Xw,hp]; rfl
  have z0:((0:Int) == 0)=true:=rfl
  rw [e,hf]
  simp only [H6,go_sem,z0,Zr,fillv,Z7,Xv,no1.1,no1.2.1,no1.2.2.1,nospl,e8,Y1,Yv,Y2,Yd,b32,t32,s3z,Xx]
  exact Zc rfl
 ·obtain ⟨hm,hl⟩:=Vz hf
  obtain ⟨hf1,hf2⟩:=hm f (by simp)
  obtain ⟨hg1,hg2⟩:=hm g (by simp)
  have sg:∀ G,Sl 1 G g.e (bs g.b) g.b.length:=fun G => by rw [hg1]; exact Sl.vB _ _
  have sf:∀ G,Sl 1 G f.e (bs f.b) f.b.length:=fun G => by rw [hf1]; exact Sl.vB _ _
  have e0:∀ a b:AV,elt [a,b] 1 0=[a]:=fun _ _ => rfl
  have e1:∀ a b:AV,elt [a,b] 1 1=[b]:=fun _ _ => rfl
  have z2:(((2:Nat):Int) == 0)=false:=rfl
  have tp:=fun H => E0 (H:=H) (sg H) (by omega)
  have tr:=fun H => Zz1 (H:=H) (sf H) (by omega)
  have hv:=Bw (b:=f.b) (by omega)
  have rv1:=Zp hv.1
  have rspl:=Xj Zt hv.1
  rw [hf]
  simp only [H6,List.map_cons,List.map_nil,List.length_cons,List.length_nil,Nat.zero_add,z2,go_sem,e0,e1,(sf []).s]
  refine ⟨by decide,Za (tr _) (fun _ => rfl) ?_⟩
  have no:=recB (Vk f.b)
  have tm:=fun H => Zo3 (H:=H) (Vk f.b) hv.1
  have eR:Xw b=(if g.b.length=64 then some (f.b,be (g.b.take 32),be (g.b.drop 32)) else none).bind fun p => if recB (Vk p.1) then some (Vk p.1,sha p.1,p.2.1,p.2.2) else none:=by rw [Xw,hp]
  rw [eR]
  generalize hR:Vk f.b=R at hv rv1 rspl tm
  simp only [go_sem,e0,e1,(sg []).s,Z7,no1.1,no1.2.1,no1.2.2.1,rspl,rv1.1,rv1.2.1,rv1.2.2.1]
  refine ⟨by decide,Za (tp _) (fun _ => rfl) ?_⟩
  by_cases h64:g.b.length=64
  ·rw [if_pos h64,if_pos h64]
   generalize be (g.b.take 32)=s
   generalize be (g.b.drop 32)=t
   simp only [go_sem,e8,Y1,Yv,Y2,Yd,rspl,rv1.1,rv1.2.1,rv1.2.2.1]
   refine Zq (fun _ => tm _) ?_
   have ev:Sz ((some (f.b,s,t)).bind fun p => if recB (Vk p.1) then some (Vk p.1,sha p.1,p.2.1,p.2.2) else none)=if recB R then .tup [.agg R.cells,.agg (bs (sha f.b)),.agg (sgc s t),nilE] else .tup [.agg noRec.cells,.agg (bs zd),.agg (sgc 0 0),errF]:=by
    show Sz (if recB (Vk f.b) then some (Vk f.b,sha f.b,s,t) else none)=_
    rw [hR]; cases recB R <;> rfl
   rw [ev]
   clear tm
   have low1:=fun G => Pi hv (renk H.length []) G
   generalize recB R=v
   have ts:=fun G => Zta (H:=G) (sf G) (by omega)
   have hsl:=Da f.b
   generalize sha f.b=d at ts hsl ⊢
   obtain ⟨nd,bd,td⟩:=Uh hsl
   have sd:=s32 d hsl
   cases v
   ·simp only [go_sem,e8,Y1,Yv,Y2,Yd,Zr,fillv,Z7,Xv,no1.1,no1.2.1,no1.2.2.1,nospl,rv1.1,rv1.2.1,rv1.2.2.1,b32,t32,s3z,Xx]
    exact Zc rfl
   ·simp only [go_sem,e0,e8,(sf []).s,Y1,Yv,Y2,Yd,rspl,rv1.1,rv1.2.1,rv1.2.2.1,b32,t32,Xx]
    refine ⟨by decide,Za ⟨rfl,fun G => ts _⟩ (fun _ => rfl) ?_⟩
    simp only [go_sem,e0,e8,(sf []).s,Y1,Yv,Y2,Yd,rspl,rv1.1,rv1.2.1,rv1.2.2.1,b32,t32,nd,bd,td,sd,no1.1,no1.2.2.1,Xx]
    exact ⟨by omega,by omega,Zc (by simp only [low,lowL,low1,I9,I8])⟩
  ·rw [if_neg h64,if_neg h64]
   simp only [go_sem,e8,Y1,Yv,Y2,Yd,Zr,fillv,Z7,Xv,no1.1,no1.2.1,no1.2.2.1,nospl,rv1.1,rv1.2.1,rv1.2.2.1,b32,t32,s3z,Xx]
   refine Zq (v:=Bl false) (fun h => by cases h) ?_
   simp only [go_sem,e8,Y1,Yv,Y2,Yd,Zr,fillv,Z7,Xv,no1.1,no1.2.1,no1.2.2.1,nospl,rv1.1,rv1.2.1,rv1.2.2.1,b32,t32,s3z,Xx]
   exact Zc rfl
structure Bt where
 b:List UInt8
 e:AV
def Bt.ok (x:Bt):Prop:=x.b.length≤100000∧∀ H,Sl 1 H x.e (bs x.b) x.b.length
def noB:Bt:=⟨[],nilS⟩
theorem Zfo:∀ a b:List UInt8,Wj (bs a) (bs b)=decide (a=b)
 | [],[] => rfl
 | [],b::t => rfl
 | a::s,[] => rfl
 | a::s,b::t => by
  have ih:=Zfo s t
  show (((a.toNat:Int) == (b.toNat:Int))&&Wj (bs s) (bs t))=_
  rw [ih,Bool.eq_iff_iff,Bool.and_eq_true,beq_iff_eq,decide_eq_true_eq,decide_eq_true_eq,List.cons.injEq,Int.ofNat_inj,UInt8.toNat_inj]
def k32:List (Option IntKind):=List.replicate 32 (some .u8)
theorem Z12:List.replicate 32 (some IntKind.u8)=k32:=rfl
theorem Zdi:∀ a:List UInt8,(bs a).map U8=(List.replicate a.length (some IntKind.u8)).map some
 | [] => rfl
 | a::s => by
  show some (some IntKind.u8)::(bs s).map U8=some (some IntKind.u8)::(List.replicate s.length (some IntKind.u8)).map some
  rw [Zdi s]
theorem Zsa {a b:List UInt8} (ha:a.length=32) (hb:b.length=32):Uj k32 (.agg (bs a)) (.agg (bs b))=True:=by
 have h1:=Zdi a
 have h2:=Zdi b
 rw [ha] at h1
 rw [hb] at h2
 exact eq_true ⟨h1,h2⟩
theorem Zsb (a b:List UInt8):C4 (.agg (bs a)) (.agg (bs b))=decide (a=b):=Zfo a b
theorem U1 {b:List UInt8} {r:Rec} {d:List UInt8} {s t:Nat} (h:Xw b=some (r,d,s,t)) (hn:b.length≤100000):r.ok∧recB r=true∧d.length=32∧s<(18446744073709551616:Nat)^4∧t<(18446744073709551616:Nat)^4:=by
 unfold Xw at h
 cases hp:X2 b with
 | none => rw [hp] at h; cases h
 | some p =>
  obtain ⟨body,s',t'⟩:=p
  rw [hp] at h
  have h:(if recB (Vk body) then some (Vk body,sha body,s',t') else none)=some (r,d,s,t):=h
  by_cases hb:recB (Vk body)=true
  ·rw [if_pos hb] at h
   cases h
   obtain ⟨h1,h2⟩:=B2 hp
   have hl:body.length≤b.length:=by
    rcases Qp b with ⟨_,h0⟩ | ⟨f,g,hf,h0⟩
    ·rw [hp] at h0; cases h0
    ·rw [hp] at h0
     split at h0
     ·cases h0; exact ((Vz hf).1 f (by simp)).2
     ·cases h0
   exact ⟨Zeo (by omega),hb,Da _,h1,h2⟩
  ·rw [if_neg hb] at h; cases h
set_option maxRecDepth 10000
noncomputable def Qi (b:List UInt8) (X Y:Nat) (f:Bool):Rec × Int:=match Xw b with
 | some (r,d,s,t) => bif verB X Y f d s t then (r,0) else (noRec,8)
 | none => (noRec,2)
theorem Us {b:List UInt8} {r:Rec} {d:List UInt8} {s t:Nat} (h:Xw b=some (r,d,s,t)) (hn:b.length≤100000):r.vok:=by
 unfold Xw at h
 cases hp:X2 b with
 | none => rw [hp] at h; cases h
 | some p =>
  obtain ⟨body,s',t'⟩:=p
  rw [hp] at h
  have h:(if recB (Vk body) then some (Vk body,sha body,s',t') else none)=some (r,d,s,t):=h
  by_cases hb:recB (Vk body)=true
  ·rw [if_pos hb] at h
   cases h
   have hl:body.length≤b.length:=by
    rcases Qp b with ⟨_,h0⟩ | ⟨f,g,hf,h0⟩
    ·rw [hp] at h0; cases h0
    ·rw [hp] at h0
     split at h0
     ·cases h0; exact ((Vz hf).1 f (by simp)).2
     ·cases h0
   exact Bw (by omega)
  ·rw [if_neg hb] at h; cases h
theorem Zo4 {H:AH} {x:AV} {b:List UInt8} {X Y:Nat} {f:Bool} (hx:Sl 1 H x (bs b) b.length) (hn:b.length≤100000) (hX:X<(18446744073709551616:Nat)^4) (hY:Y<(18446744073709551616:Nat)^4):Called Tryz.prog F.record_Check [x,.agg (pcell X Y f)] H (.tup [.agg (Qi b X Y f).1.cells,errO (Qi b X Y f).2]) H:=by
 have e8:[Z0,Z0,Z0,Z0,Z0,Z0,Z0,Z0]=sgc 0 0:=rfl
 have no1:=Zp Zt
 have nospl:=Xj Zt Zt
 obtain ⟨n32,b32,t32⟩:=Uh (show zd.length=32 from rfl)
 have s3z:=Vr (show zd.length=32 from rfl) (show zd.length=32 from rfl)
 refine Fh ?_
 simp only [Q3,V8,Og]
 simp only [go_sem,hx.s,Xk,S1,Z7]
 refine Za (Ie hx.app hn) (fun _ => rfl) ?_
 cases hO:Xw b with
 | none =>
  have ec:Qi b X Y f=(noRec,2):=by rw [Qi,hO]
  rw [ec]
  simp only [Sz,go_sem,Zr,fillv,Z7,Wu,Xv,no1.1,no1.2.1,no1.2.2.1,nospl,e8,Y1,Yv,Y2,Yd,b32,t32,s3z,Xx]
  exact Zc rfl
 | some p =>
  obtain ⟨r,d,s,t⟩:=p
  obtain ⟨hr,hrb,hd,hs,ht⟩:=U1 hO hn
  have hv:=Us hO hn
  obtain ⟨nd,bd,td⟩:=Uh hd
  have sd:=Vr (show zd.length=32 from rfl) hd
  have r1:=Zp hr
  have rspl:=Xj Zt hr
  have ec:Qi b X Y f=bif verB X Y f d s t then (r,0) else (noRec,8):=by rw [Qi,hO]
  rw [ec]
  simp only [Sz,go_sem,Zr,fillv,Z7,Wu,Xv,no1.1,no1.2.1,no1.2.2.1,nospl,r1.1,r1.2.1,r1.2.2.1,rspl,e8,Y1,Yv,Y2,Yd,b32,t32,sd,Xx,bd,td,Yb,Yk]
  refine Za (Zeb hX hY hs ht hd) (fun _ => rfl) ?_
  generalize verB X Y f d s t=v
  cases v
  ·simp only [go_sem,Zr,fillv,Z7,Wu,no1.1,no1.2.1,no1.2.2.1,nospl]
   exact Zc rfl
  ·simp only [go_sem,r1.1,r1.2.1,r1.2.2.1,rspl]
   refine ⟨Nat.le_of_eq no1.1.symm,Zc ?_⟩
   show AV.tup [.agg (lowL _ _ r.cells),nilE]=_
   rw [Pi hv]; rfl
end Go.Proofs.YtcgjlpdkobmpnaaGreat.Eng

