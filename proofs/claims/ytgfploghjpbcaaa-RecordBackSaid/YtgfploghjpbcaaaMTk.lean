/- Layer 9: which tickets may be. -/
import Derived.Test.YtgfploghjpbcaaaMCc
import Derived.Test.YtgfploghjpbcaaaME6
import Derived.Test.YtgfploghjpbcaaaMTl
import Derived.Test.YtgfploghjpbcaaaMVf
import Derived.Test.YtgfploghjpbcaaaMKy
import Derived.Test.YtgfploghjpbcaaaMSh
import Derived.Test.YtgfploghjpbcaaaMRf
import Derived.Test.YtgfploghjpbcaaaMRs
namespace Go.Proofs.Ytgfploghjpbcaaa.Eng
open Go Go.Proofs
set_option linter.unusedVariables false
set_option linter.unusedSimpArgs false
set_option maxRecDepth 10000
structure Tkt where
 serial:Int
 product:Int
 zones:Int
 from_:Int
 key:Int
def Tkt.ok (t:Tkt):Prop:=ok64 t.serial∧ok64 t.product∧ok64 t.zones∧ok64 t.from_∧ok64 t.key
abbrev Tkt.cells (t:Tkt):List AV:=[I t.serial,I t.product,I t.zones,I t.from_,I t.key]
def inB (a b n:Int):Bool:=decide (a≤n)&&decide (n≤b)
def tktB (t:Tkt):Bool:=inB 1 2147483647 t.serial&&inB 1 16 t.product&&inB 1 255 t.zones&&inB 0 1073741824 t.from_&&inB 1 2147483647 t.key
theorem t_within (n a b:Int) (H:AH):Called Try.prog F.ticket_within [I n,I a,I b] H (Bl (inB a b n)) H:=by
 refine e_ticket_within ?_
 simp only [ic_ticket_within,go_sem]
 exact leave_same rfl
theorem t_tMay (t:Tkt) (H:AH):Called Try.prog F.ticket_May [.agg t.cells] H (Bl (tktB t)) H:=by
 refine e_ticket_May ?_
 simp only [ic_ticket_May,go_sem]
 refine callW_some (t_within _ _ _ _) (fun _ => rfl) ?_
 simp only [go_sem]
 refine callG_of (fun _ => t_within _ _ _ _) ?_
 simp only [go_sem]
 refine callG_of (fun _ => t_within _ _ _ _) ?_
 simp only [go_sem]
 refine callG_of (fun _ => t_within _ _ _ _) ?_
 simp only [go_sem]
 refine callG_of (fun _ => t_within _ _ _ _) ?_
 simp only [go_sem]
 exact leave_drop rfl
set_option maxRecDepth 10000
theorem getF_mem:∀ (k:Nat) (b:List UInt8) {l:List Fld},getF k b=some l→∀ f ∈ l,f.e=vB f.b false∧f.b.length≤b.length
 | 0,b,l,h,f,hf => by
  rw [getF] at h
  split at h
  ·cases h; cases hf
  ·cases h
 | k+1,b,l,h,f,hf => by
  rw [getF] at h
  split at h
  ·cases h; cases hf
  ·split at h
   ·cases h
   ·cases hg:getF k (b.drop (3+flen b)) with
    | none => rw [hg] at h; cases h
    | some m =>
     rw [hg] at h; cases h
     rcases List.mem_cons.1 hf with rfl | hf
     ·exact ⟨rfl,by show ((b.drop 3).take _).length≤_; rw [List.length_take,List.length_drop]; omega⟩
     ·obtain ⟨h1,h2⟩:=getF_mem k _ hg f hf
      exact ⟨h1,by rw [List.length_drop] at h2; omega⟩
theorem getS_mem {b:List UInt8} {l:List Fld} (h:getS b=some l):(∀ f ∈ l,f.e=vB f.b false∧f.b.length≤b.length)∧l.length≤64:=by
 unfold getS at h
 cases hg:getF b.length b with
 | none => rw [hg] at h; cases h
 | some m =>
  rw [hg] at h
  by_cases hb:fldsB m=true
  ·have h:(if fldsB m then some m else none)=some l:=h
   rw [if_pos hb] at h
   cases h
   refine ⟨getF_mem _ _ hg,?_⟩
   simp only [fldsB,Bool.and_eq_true,decide_eq_true_eq] at hb
   exact hb.1
  ·have h:(if fldsB m then some m else none)=some l:=h
   rw [if_neg hb] at h; cases h
abbrev sgc (r s:Nat):List AV:=num r++num s
theorem sg_len (r s:Nat):(sgc r s).length=8:=by rw [List.length_append,wd_length,wd_length]
theorem sg_one (r s:Nat):(sgc r s).all AV.one=true:=by rw [List.all_append,one_wd,one_wd]; rfl
theorem sg_ne (r s:Nat):(sgc r s).isEmpty=false:=rfl
theorem sg_take (r s:Nat):(sgc r s).take 8=sgc r s:=List.take_of_length_le (by rw [sg_len]; exact Nat.le_refl _)
theorem sg_spl (a c r s:Nat):splice (sgc a c) 0 (sgc r s)=sgc r s:=splice_all (by rw [sg_len,sg_len])
theorem lowL_sg (ren:Nat→Option Nat) (H:AH) (r s:Nat):lowL ren H (sgc r s)=sgc r s:=by rw [lowL_append,lowL_wd,lowL_wd]
def partsO (b:List UInt8):Option (List UInt8 × Nat × Nat):=match getS b with
 | some [f,g] => if (f.tag=1∧g.tag=2)∧g.b.length=64 then some (f.b,be (g.b.take 32),be (g.b.drop 32)) else none
 | _ => none
theorem cutb_lo (l:List UInt8) (n:Nat):cut (bs l) 1 0 n=bs (l.take n):=by simp [cut,bs,List.map_take]
theorem cutb_hi (l:List UInt8) (n:Nat):cut (bs l) 1 n l.length=bs (l.drop n):=by
 rw [cut,Nat.mul_one,Nat.mul_one,List.take_of_length_le (by rw [List.length_drop,bs_len]; omega)]; simp [bs,List.map_drop]
theorem t_sparse {H:AH} {x:AV} {l:List UInt8} (hx:Sl 1 H x (bs l) l.length) (hn:l.length≤140737488355328):Called Try.prog F.sign_Parse [x] H (if l.length=64 then .tup [.agg (sgc (be (l.take 32)) (be (l.drop 32))),nilE] else .tup [.agg (sgc 0 0),errF]) H:=by
 refine e_sign_Parse ?_
 have hG:∀ G,Sl 1 (H++G) x (bs l) l.length:=fun G => hx.app
 have lw:=wd_length 4
 have e8:[Z0,Z0,Z0,Z0,Z0,Z0,Z0,Z0]=sgc 0 0:=rfl
 simp only [ic_sign_Parse,go_sem,hx.s]
 by_cases h:l.length=64
 ·have z:((l.length:Int) != 64)=false:=by rw [h]; rfl
  have bd1:bndOk l.length none (some (.lit (.int .i64 32))) none:=by
   refine ⟨trivial,trivial,trivial,?_,?_,?_,?_⟩ <;> simp [bnd,asI] <;> omega
  have bd2:bndOk l.length (some (.lit (.int .i64 32))) none none:=by
   refine ⟨trivial,trivial,trivial,?_,?_,?_,?_⟩ <;> simp [bnd,asI] <;> omega
  have k1:=fun G => (hG G).sl bd1
  have k2:=fun G => (hG G).sl bd2
  have c1:cut (bs l) 1 (lo0 none) (hi0 l.length (some (.lit (.int .i64 32))))=bs (l.take 32):=cutb_lo l 32
  have c2:cut (bs l) 1 (lo0 (some (.lit (.int .i64 32)))) (hi0 l.length none)=bs (l.drop 32):=cutb_hi l 32
  have n1:hi0 l.length (some (.lit (.int .i64 32))) - lo0 none=(l.take 32).length:=by rw [List.length_take]; show 32 - 0=_; omega
  have n2:hi0 l.length none - lo0 (some (.lit (.int .i64 32)))=(l.drop 32).length:=by rw [List.length_drop]; rfl
  rw [c1,n1] at k1
  rw [c2,n2] at k2
  rw [if_pos h,z]
  simp only [go_sem,hx.s]
  refine ⟨(hG _).slOk bd1,callW_some (t_lof (k1 _) (by rw [List.length_take]; omega)) (fun _ => rfl) ?_⟩
  simp only [go_sem,hx.s,lw,one_wd,num_splice]
  refine ⟨(hG _).slOk bd2,callW_some (t_lof (k2 _) (by rw [List.length_drop]; omega)) (fun _ => rfl) ?_⟩
  generalize be (l.take 32)=r
  generalize be (l.drop 32)=s
  simp only [go_sem,lw,one_wd,num_splice,num_take,fillOk,fillv]
  rw [show [AV.lit (Value.int IntKind.u64 0),AV.lit (Value.int IntKind.u64 0),AV.lit (Value.int IntKind.u64 0),AV.lit (Value.int IntKind.u64 0),AV.lit (Value.int IntKind.u64 0),AV.lit (Value.int IntKind.u64 0),AV.lit (Value.int IntKind.u64 0),AV.lit (Value.int IntKind.u64 0)]=pr 0 0 from rfl]
  simp only [pr_spl0,pr_spl4,pr_spl8,pr_len,pr_one,pr_take8]
  exact ⟨by decide,by decide,leave_drop (by simp only [low,lowL,lowL_sg])⟩
 ·have z:((l.length:Int) != 64)=true:=by simp; omega
  rw [if_neg h,z]
  simp only [go_sem,fillOk,fillv,e8,sg_spl,sg_len,sg_one,sg_take]
  exact leave_drop rfl
def numsB (l:List Fld) (n:Nat):Bool:=decide (l.length=n)&&decide (∀ i,i<l.length→0≤numO (l.getD i noF).b∧(l.getD i noF).tag=i+1)
def numsO (b:List UInt8) (n:Nat):Option (List Int):=(getS b).bind fun l => if numsB l n then some (l.map fun f => numO f.b) else none
def numsV (o:Option (List Int)):AV:=match o with
 | some l => .tup [vI l false,Bl true]
 | none => .tup [nilS,Bl false]
theorem t_numbers {H:AH} {x:AV} {b:List UInt8} (hx:Sl 1 H x (bs b) b.length) (hn:b.length≤100000) (n:Nat) (hN:n≤100):Called Try.prog F.ticket_numbers [x,I n] H (numsV (numsO b n)) H:=by
 refine e_ticket_numbers ?_
 simp only [ic_ticket_numbers,go_sem,hx.s]
 refine callW_some (t_Get hx hn) (fun _ => rfl) ?_
 cases hg:getS b with
 | none =>
  have e:numsO b n=none:=by rw [numsO,hg]; rfl
  rw [e]
  simp only [getV,go_sem]
  exact leave_same rfl
 | some l =>
  obtain ⟨hm,h64⟩:=getS_mem hg
  have sf:∀ G,Sl 2 G (.view (fcs l) l.length false) (fcs l) l.length:=fun G => .view (fcs_len l) false
  simp only [getV,go_sem]
  have eO:numsO b n=if numsB l n then some (l.map fun f => numO f.b) else none:=by rw [numsO,hg]; rfl
  rw [eO]
  refine ⟨fun h => leave_same ?_,fun h => ?_⟩
  ·have:¬ l.length=n:=by have h:¬ (l.length:Int)=n:=by simpa using h
                         omega
   have hb:numsB l n=false:=by rw [numsB,decide_eq_false this,Bool.false_and]
   rw [hb]; rfl
  ·have hl:l.length=n:=by have h:(l.length:Int)=n:=by simpa using h
                          omega
   have hb:numsB l n=decide (∀ i,i<l.length→0≤numO (l.getD i noF).b∧(l.getD i noF).tag=i+1):=by rw [numsB,decide_eq_true hl,Bool.true_and]
   refine w_loop _ (fun (s:Nat × AV × AH) => ([(8,s.2.1),(26,.view (fcs l) l.length false),(27,I l.length),(28,I s.1)],H++s.2.2))
    (fun s => s.1≤l.length∧GR (H++s.2.2) s.2.1 ((l.take s.1).map fun f => I (numO f.b))∧(∀ q,rid s.2.1=some q→H.length≤q)∧∀ j,j<s.1→0≤numO (l.getD j noF).b∧(l.getD j noF).tag=j+1) (fun s => l.length - s.1) (0,nilS,[]) ⟨Nat.zero_le _,.inl ⟨rfl,rfl⟩,fun q h => rid_nil h,fun j hj => absurd hj (Nat.not_lt_zero j)⟩ (by rw [List.append_nil]; rfl) ?_
   rintro ⟨i,x,G⟩ ⟨hi,hg,hq,hj⟩
   dsimp only at hi hg hq hj
   have vl:((l.take i).map fun f => I (numO f.b)).length=i:=by rw [List.length_map,List.length_take]; omega
   simp only [go_sem]
   refine ⟨fun hh => ?_,fun hh => ?_⟩
   ·have hlt:i<l.length:=by omega
    obtain ⟨he,hbl⟩:=hm _ (getD_memP noF hlt)
    have hs:∀ G,Sl 1 G (l.getD i noF).e (bs (l.getD i noF).b) (l.getD i noF).b.length:=fun G => by rw [he]; exact Sl.vB _ _
    have el:elt (fcs l) 2 i=[I (l.getD i noF).tag,(l.getD i noF).e]:=elt_flat _ 2 Fld.len _ _ noF hlt
    have fl:=fcs_len l
    have hsn:=take_snoc hlt noF
    have w1:IntKind.i64.wrap ((i:Int)+1)=((i+1:Nat):Int):=by rw [w64 _ (by omega) (by omega)]; omega
    have ib:(0:Int)≤i∧(i:Int)<l.length:=⟨by omega,by omega⟩
    simp only [el,fl,go_sem,(hs []).s]
    refine ⟨ib,callW_some (t_tOf (hs _) (by omega)) (fun _ => rfl) ?_⟩
    have bad:¬ (0≤numO (l.getD i noF).b∧(l.getD i noF).tag=i+1)→numsB l n=false:=fun h => by
     rw [hb,decide_eq_false_iff_not]; exact fun h2 => h (h2 i hlt)
    by_cases h0:numO (l.getD i noF).b<0
    ·rw [if_pos h0,bad (by omega)]
     simp only [go_sem]
     exact leave_drop rfl
    ·rw [if_neg h0]
     simp only [go_sem,w1,(hs []).s,hg.sl.s]
     refine ⟨fun h => leave_drop ?_,fun h => ?_⟩
     ·have h:¬ (l.getD i noF).tag=((i+1:Nat):Int):=by simpa using h
      rw [bad (by omega)]; rfl
     ·have h:(l.getD i noF).tag=((i+1:Nat):Int):=by simpa using h
      obtain ⟨⟨_,_,c3,c4⟩,K',g1,g2,g3⟩:=(hg.more hq ⟨[I (l.getD i noF).tag,(l.getD i noF).e],0,true⟩).step (b:=8) hq (s:=.view [I (numO (l.getD i noF).b)] 1 true) (v:=I (numO (l.getD i noF).b)) rfl rfl rfl rfl (by rw [vl]; omega)
      refine ⟨⟨by rw [vl]; omega,c4⟩,(i+1,_,K'),rfl,g1,⟨by show i+1≤_; omega,?_,g3,fun j hj' => ?_⟩,by show _ - (i+1)<_; omega⟩
      ·show GR (H++K') _ ((l.take (i+1)).map _)
       rw [hsn,List.map_append]
       exact g2
      ·rcases Nat.lt_succ_iff_lt_or_eq.1 hj' with h1 | rfl
       ·exact hj j h1
       ·exact ⟨by omega,by omega⟩
   ·obtain rfl:i=l.length:=by omega
    rw [hb,decide_eq_true hj,if_pos rfl]
    refine leave_drop_le ?_
    rw [List.take_of_length_le (Nat.le_refl _)] at hg
    have hv:=hg.view hq (pure_map (fun f:Fld => I (numO f.b)) (fun _ => rfl) l)
    have e:numsV (some (l.map fun f => numO f.b))=.tup [.view (l.map fun f => I (numO f.b)) (l.map fun f => I (numO f.b)).length false,Bl true]:=by
     simp only [numsV,vI,List.map_map,List.length_map]; rfl
    rw [e]
    exact le_tups ⟨hv,Le.refl _,trivial⟩
set_option maxRecDepth 10000
theorem partsO_some {b:List UInt8} {f g:Fld} (h:getS b=some [f,g]):partsO b=if (f.tag=1∧g.tag=2)∧g.b.length=64 then some (f.b,be (g.b.take 32),be (g.b.drop 32)) else none:=by
 rw [partsO,h]
theorem partsO_not {b:List UInt8} (h:∀ f g,getS b≠some [f,g]):partsO b=none:=by
 unfold partsO
 split
 ·rename_i f g e; exact absurd e (h f g)
 ·rfl
theorem len2 {l:List Fld} (h:l.length=2):∃ f g,l=[f,g]:=by
 match l,h with
 | [f,g],_ => exact ⟨f,g,rfl⟩
def PartsIs (b:List UInt8) (e:AV) (r s:Nat) (ok:Bool):Prop :=
 (partsO b=some ((partsO b).getD ([],0,0))∧ok=true∧e=vB ((partsO b).getD ([],0,0)).1 false∧r=((partsO b).getD ([],0,0)).2.1∧s=((partsO b).getD ([],0,0)).2.2∧((partsO b).getD ([],0,0)).1.length≤b.length) ∨
 (partsO b=none∧ok=false∧r=0∧s=0∧∃ l:List UInt8,(∀ H,Sl 1 H e (bs l) l.length)∧l.length≤b.length)
theorem t_parts {H:AH} {x:AV} {b:List UInt8} (hx:Sl 1 H x (bs b) b.length) (hn:b.length≤100000):∃ e r s ok,PartsIs b e r s ok∧Called Try.prog F.ticket_parts [x] H (.tup [e,.agg (sgc r s),Bl ok]) H:=by
 have e8:[Z0,Z0,Z0,Z0,Z0,Z0,Z0,Z0]=sgc 0 0:=rfl
 have none_:∀ H,Sl 1 H nilS (bs []) ([]:List UInt8).length:=fun H => .nil
 cases hg:getS b with
 | none =>
  refine ⟨nilS,0,0,false,.inr ⟨partsO_not (fun f g h => by rw [hg] at h; cases h),rfl,rfl,rfl,[],none_,Nat.zero_le _⟩,?_⟩
  refine e_ticket_parts ?_
  simp only [ic_ticket_parts,go_sem,hx.s]
  refine callW_some (t_Get hx.app hn) (fun _ => rfl) ?_
  rw [hg]
  simp only [getV,go_sem,fillOk,fillv,e8,sg_spl,sg_len,sg_one,sg_take]
  exact leave_drop rfl
 | some l =>
  obtain ⟨hm,h64⟩:=getS_mem hg
  by_cases h2:l.length=2
  ·obtain ⟨f,g,rfl⟩:=len2 h2
   obtain ⟨hf1,hf2⟩:=hm f (by simp)
   obtain ⟨hg1,hg2⟩:=hm g (by simp)
   have hp:=partsO_some hg
   have sg:∀ G,Sl 1 G g.e (bs g.b) g.b.length:=fun G => by rw [hg1]; exact Sl.vB _ _
   have sf:∀ G,Sl 1 G f.e (bs f.b) f.b.length:=fun G => by rw [hf1]; exact Sl.vB _ _
   have fc:fcs [f,g]=[I f.tag,f.e,I g.tag,g.e]:=rfl
   have e0:∀ a b c d:AV,elt [a,b,c,d] 2 0=[a,b]:=fun _ _ _ _ => rfl
   have e1:∀ a b c d:AV,elt [a,b,c,d] 2 1=[c,d]:=fun _ _ _ _ => rfl
   have z2:(((2:Nat):Int) != 2)=false:=rfl
   have y1:((1:Int) != 1)=false:=rfl
   have y2:((2:Int) != 2)=false:=rfl
   by_cases ht:f.tag=1∧g.tag=2
   ·by_cases h64:g.b.length=64
    ·have hp':partsO b=some (f.b,be (g.b.take 32),be (g.b.drop 32)):=by rw [hp,if_pos ⟨ht,h64⟩]
     refine ⟨f.e,be (g.b.take 32),be (g.b.drop 32),true,.inl ⟨by rw [hp']; rfl,rfl,by rw [hp']; exact hf1,by rw [hp']; rfl,by rw [hp']; rfl,by rw [hp']; exact hf2⟩,?_⟩
     refine e_ticket_parts ?_
     simp only [ic_ticket_parts,go_sem,hx.s]
     refine callW_some (t_Get hx.app hn) (fun _ => rfl) ?_
     rw [hg]
     have tp:=fun H => t_sparse (H:=H) (sg H) (by omega)
     rw [if_pos h64] at tp
     simp only [getV,fc,z2,y1,y2,go_sem,e0,e1,ht,(sf []).s,(sg []).s]
     refine ⟨by decide,by decide,by decide,callW_some (tp _) (fun _ => rfl) ?_⟩
     generalize be (g.b.take 32)=r at *
     generalize be (g.b.drop 32)=s at *
     simp only [go_sem,e0,e1,(sf []).s,(sg []).s,e8,sg_spl,sg_len,sg_one,sg_take]
     exact ⟨by decide,leave_drop (by rw [hf1]; simp only [low,lowL,lowL_sg])⟩
    ·have hp':partsO b=none:=by rw [hp,if_neg (fun h => h64 h.2)]
     refine ⟨f.e,0,0,false,.inr ⟨hp',rfl,rfl,rfl,f.b,sf,hf2⟩,?_⟩
     refine e_ticket_parts ?_
     simp only [ic_ticket_parts,go_sem,hx.s]
     refine callW_some (t_Get hx.app hn) (fun _ => rfl) ?_
     rw [hg]
     have tp:=fun H => t_sparse (H:=H) (sg H) (by omega)
     rw [if_neg h64] at tp
     simp only [getV,fc,z2,y1,y2,go_sem,e0,e1,ht,(sf []).s,(sg []).s]
     refine ⟨by decide,by decide,by decide,callW_some (tp _) (fun _ => rfl) ?_⟩
     simp only [go_sem,e0,e1,(sf []).s,(sg []).s,e8,sg_spl,sg_len,sg_one,sg_take]
     exact ⟨by decide,leave_drop (by rw [hf1]; simp only [low,lowL,lowL_sg])⟩
   ·have hp':partsO b=none:=by rw [hp,if_neg (fun h => ht h.1)]
    refine ⟨nilS,0,0,false,.inr ⟨hp',rfl,rfl,rfl,[],none_,Nat.zero_le _⟩,?_⟩
    refine e_ticket_parts ?_
    simp only [ic_ticket_parts,go_sem,hx.s]
    refine callW_some (t_Get hx.app hn) (fun _ => rfl) ?_
    rw [hg]
    by_cases h1:f.tag=1
    ·have z1:(g.tag != 2)=true:=by rw [bne_iff_ne]; exact fun h => ht ⟨h1,h⟩
     simp only [getV,fc,z2,y1,y2,go_sem,e0,e1,h1,z1,(sf []).s,(sg []).s,e8,fillOk,fillv,sg_spl,sg_len,sg_one,sg_take]
     exact ⟨by decide,by decide,leave_drop rfl⟩
    ·have z1:(f.tag != 1)=true:=by rw [bne_iff_ne]; exact h1
     simp only [getV,fc,z2,go_sem,e0,e1,z1,(sf []).s,(sg []).s,e8,fillOk,fillv,sg_spl,sg_len,sg_one,sg_take]
     exact ⟨by decide,leave_drop rfl⟩
  ·refine ⟨nilS,0,0,false,.inr ⟨partsO_not (fun f g h => by rw [hg] at h; cases h; exact h2 rfl),rfl,rfl,rfl,[],none_,Nat.zero_le _⟩,?_⟩
   refine e_ticket_parts ?_
   simp only [ic_ticket_parts,go_sem,hx.s]
   refine callW_some (t_Get hx.app hn) (fun _ => rfl) ?_
   rw [hg]
   have z1:((l.length:Int) != 2)=true:=by rw [bne_iff_ne]; omega
   simp only [getV,z1,go_sem,e8,fillOk,fillv,sg_spl,sg_len,sg_one,sg_take]
   exact leave_drop rfl
def tktOf (l:List Int):Tkt:=⟨l.getD 0 0,l.getD 1 0,l.getD 2 0,l.getD 3 0,l.getD 4 0⟩
def noTk:Tkt:=⟨0,0,0,0,0⟩
def openO (b:List UInt8):Option (Tkt × Nat × Nat):=(partsO b).bind fun p => (numsO p.1 5).bind fun l => if tktB (tktOf l) then some (tktOf l,p.2.1,p.2.2) else none
def openV (o:Option (Tkt × Nat × Nat)):AV:=match o with
 | some (t,r,s) => .tup [.agg t.cells,.agg (sgc r s),nilE]
 | none => .tup [.agg noTk.cells,.agg (sgc 0 0),errF]
theorem numsO_len {b:List UInt8} {n:Nat} {l:List Int} (h:numsO b n=some l):l.length=n:=by
 unfold numsO at h
 cases hg:getS b with
 | none => rw [hg] at h; cases h
 | some m =>
  rw [hg] at h
  have h:(if numsB m n then some (m.map fun f => numO f.b) else none)=some l:=h
  by_cases hb:numsB m n=true
  ·rw [if_pos hb] at h
   cases h
   simp only [numsB,Bool.and_eq_true,decide_eq_true_eq] at hb
   rw [List.length_map,hb.1]
  ·rw [if_neg hb] at h; cases h
theorem numsV_eq (o:Option (List Int)):∃ v k,numsV o=.tup [v,Bl k]∧v.un=v∧(∀ g,okMay g v=True)∧k=o.isSome:=by
 cases o with
 | none => exact ⟨nilS,false,rfl,rfl,fun _ => rfl,rfl⟩
 | some l => exact ⟨vI l false,true,rfl,rfl,fun _ => rfl,rfl⟩
theorem t_Open {H:AH} {x:AV} {b:List UInt8} (hx:Sl 1 H x (bs b) b.length) (hn:b.length≤100000):Called Try.prog F.ticket_Open [x] H (openV (openO b)) H:=by
 have e8:[Z0,Z0,Z0,Z0,Z0,Z0,Z0,Z0]=sgc 0 0:=rfl
 refine e_ticket_Open ?_
 simp only [ic_ticket_Open,go_sem,hx.s]
 obtain ⟨e,r,s,ok,hp,hc⟩:=t_parts (H:=H++[⟨[I 0,I 0,I 0,I 0,I 0],0,true⟩,⟨[Z0,Z0,Z0,Z0,Z0,Z0,Z0,Z0],0,true⟩]) hx.app hn
 refine callW_some hc (fun _ => rfl) ?_
 clear hc
 rcases hp with ⟨hs,rfl,he,hr,hsg,hl⟩ | ⟨hno,rfl,rfl,rfl,l,hl,hll⟩
 ·generalize (partsO b).getD ([],0,0)=p at *
  obtain ⟨body,r',s'⟩:=p
  dsimp only at he hr hsg hl
  subst he hr hsg
  have eo:openO b=(numsO body 5).bind fun l => if tktB (tktOf l) then some (tktOf l,r,s) else none:=by rw [openO,hs]; rfl
  simp only [go_sem,e8,sg_spl,sg_len,sg_one,sg_take]
  refine callW_some (t_numbers (Sl.vB body false) (by omega) 5 (by decide)) (fun _ => rfl) ?_
  rw [eo]
  cases hN:numsO body 5 with
  | none =>
   simp only [numsV,go_sem,fillOk,fillv,e8,sg_spl,sg_len,sg_one,sg_take]
   exact leave_drop rfl
  | some l =>
   have h5:=numsO_len hN
   obtain ⟨a0,a1,a2,a3,a4,rfl⟩:∃ a0 a1 a2 a3 a4,l=[a0,a1,a2,a3,a4]:=by
    match l,h5 with
    | [a0,a1,a2,a3,a4],_ => exact ⟨_,_,_,_,_,rfl⟩
   have l0:elt [I a0,I a1,I a2,I a3,I a4] 1 0=[I a0]:=rfl
   have l1:elt [I a0,I a1,I a2,I a3,I a4] 1 1=[I a1]:=rfl
   have l2:elt [I a0,I a1,I a2,I a3,I a4] 1 2=[I a2]:=rfl
   have l3:elt [I a0,I a1,I a2,I a3,I a4] 1 3=[I a3]:=rfl
   have l4:elt [I a0,I a1,I a2,I a3,I a4] 1 4=[I a4]:=rfl
   simp only [numsV,vI,go_sem,fillOk,fillv,e8,sg_spl,sg_len,sg_one,sg_take,l0,l1,l2,l3,l4]
   refine ⟨by decide,by decide,by decide,by decide,by decide,callW_some (t_tMay ⟨a0,a1,a2,a3,a4⟩ _) (fun _ => rfl) ?_⟩
   have et:tktOf [a0,a1,a2,a3,a4]=⟨a0,a1,a2,a3,a4⟩:=rfl
   show _
   rw [show ((some [a0,a1,a2,a3,a4]).bind fun l => if tktB (tktOf l)=true then some (tktOf l,r,s) else none)=if tktB ⟨a0,a1,a2,a3,a4⟩=true then some (⟨a0,a1,a2,a3,a4⟩,r,s) else none from rfl]
   generalize tktB ⟨a0,a1,a2,a3,a4⟩=tb
   simp only [go_sem,fillOk,fillv,e8,sg_spl,sg_len,sg_one,sg_take]
   cases tb
   ·simp only [go_sem]
    exact leave_drop rfl
   ·simp only [go_sem]
    exact ⟨by omega,leave_drop (by simp only [low,lowL,lowL_sg]; rfl)⟩
 ·obtain ⟨v,k,hv,h1,h2,h3⟩:=numsV_eq (numsO l 5)
  have eo:openO b=none:=by rw [openO,hno]; rfl
  simp only [go_sem,e8,sg_spl,sg_len,sg_one,sg_take,(hl []).s]
  refine callW_some (t_numbers (hl _) (by omega) 5 (by decide)) (fun _ => rfl) ?_
  rw [hv,eo]
  simp only [go_sem,h1,h2,fillOk,fillv,e8,sg_spl,sg_len,sg_one,sg_take]
  exact leave_drop rfl
set_option maxRecDepth 10000
theorem be32_lt {l:List UInt8} (h:l.length≤32):be l<(18446744073709551616:Nat)^4 :=
 Nat.lt_of_lt_of_le (be_lt l) (Nat.le_trans (Nat.pow_le_pow_right (by decide) h) (by decide +kernel))
theorem partsO_lt {b body:List UInt8} {r s:Nat} (h:partsO b=some (body,r,s)):r<(18446744073709551616:Nat)^4∧s<(18446744073709551616:Nat)^4:=by
 unfold partsO at h
 split at h
 ·split at h
  ·rename_i f g e hh
   cases h
   exact ⟨be32_lt (by rw [List.length_take]; omega),be32_lt (by rw [List.length_drop]; omega)⟩
  ·cases h
 ·cases h
theorem openO_parts {b:List UInt8} {t:Tkt} {r s:Nat} (h:openO b=some (t,r,s)):∃ body,partsO b=some (body,r,s):=by
 unfold openO at h
 cases hp:partsO b with
 | none => rw [hp] at h; cases h
 | some p =>
  rw [hp] at h
  obtain ⟨body,r',s'⟩:=p
  refine ⟨body,?_⟩
  have h:((numsO body 5).bind fun l => if tktB (tktOf l) then some (tktOf l,r',s') else none)=some (t,r,s):=h
  cases hn:numsO body 5 with
  | none => rw [hn] at h; cases h
  | some l =>
   rw [hn] at h
   have h:(if tktB (tktOf l) then some (tktOf l,r',s') else none)=some (t,r,s):=h
   split at h
   ·cases h; rfl
   ·cases h
noncomputable def checkN (b:List UInt8) (X Y:Nat) (f:Bool):Tkt × Int:=match openO b with
 | none => (noTk,2)
 | some (t,r,s) => bif verB X Y f (sha ((partsO b).getD ([],0,0)).1) r s then (t,0) else (noTk,8)
def errO (n:Int):AV:=if n=0 then nilE else .lit (.iface T.api_Code (.int .i64 n))
theorem bs32_ne {l:List UInt8} (h:l.length=32):(bs l).isEmpty=false∧(bs l).length=32∧(bs l).take 32=bs l:=by
 have hb:(bs l).length=32:=by rw [bs_len,h]
 refine ⟨?_,hb,List.take_of_length_le (by omega)⟩
 cases hh:bs l with
 | nil => rw [hh] at hb; cases hb
 | cons => rfl
theorem t_parts_some {H:AH} {x:AV} {b body:List UInt8} {r s:Nat} (hx:Sl 1 H x (bs b) b.length) (hn:b.length≤100000) (h:partsO b=some (body,r,s)):Called Try.prog F.ticket_parts [x] H (.tup [vB body false,.agg (sgc r s),Bl true]) H∧body.length≤b.length:=by
 obtain ⟨e,r',s',ok,hp,hc⟩:=t_parts hx hn
 rcases hp with ⟨h1,rfl,h2,h3,h4,h5⟩ | ⟨h1,_⟩
 ·rw [h] at h2 h3 h4 h5
  simp only [Option.getD_some] at h2 h3 h4 h5
  subst h2 h3 h4
  exact ⟨hc,h5⟩
 ·rw [h] at h1; cases h1
theorem t_Check {H:AH} {x:AV} {b:List UInt8} {X Y:Nat} {f:Bool} (hx:Sl 1 H x (bs b) b.length) (hn:b.length≤100000) (hX:X<(18446744073709551616:Nat)^4) (hY:Y<(18446744073709551616:Nat)^4):Called Try.prog F.ticket_Check [x,.agg (pcell X Y f)] H (.tup [.agg (checkN b X Y f).1.cells,errO (checkN b X Y f).2]) H:=by
 have e8:[Z0,Z0,Z0,Z0,Z0,Z0,Z0,Z0]=sgc 0 0:=rfl
 have e5:[AV.lit (Value.int IntKind.i64 0),AV.lit (Value.int IntKind.i64 0),AV.lit (Value.int IntKind.i64 0),AV.lit (Value.int IntKind.i64 0),AV.lit (Value.int IntKind.i64 0)]=noTk.cells:=rfl
 refine e_ticket_Check ?_
 simp only [ic_ticket_Check,go_sem,hx.s,pc_one,pc_ne]
 refine callW_some (t_Open hx.app hn) (fun _ => rfl) ?_
 cases hO:openO b with
 | none =>
  have ec:checkN b X Y f=(noTk,2):=by rw [checkN,hO]
  rw [ec]
  simp only [openV,go_sem,hx.s,fillOk,fillv,e8,e5,sg_spl,sg_len,sg_one,sg_take,Tkt.cells]
  exact leave_drop rfl
 | some p =>
  obtain ⟨t,r,s⟩:=p
  obtain ⟨body,hp⟩:=openO_parts hO
  obtain ⟨hr,hs⟩:=partsO_lt hp
  have ec:checkN b X Y f=bif verB X Y f (sha body) r s then (t,0) else (noTk,8):=by rw [checkN,hO,hp]; rfl
  rw [ec]
  simp only [openV,go_sem,hx.s,fillOk,fillv,e8,sg_spl,sg_len,sg_one,sg_take]
  have hbl:=(t_parts_some hx hn hp).2
  refine callW_some (t_parts_some hx.app hn hp).1 (fun _ => rfl) ?_
  simp only [go_sem,e8,sg_spl,sg_len,sg_one,sg_take,pc_len,pc_take]
  refine callW_some (t_ssum (Sl.vB body false) (by omega)) (fun _ => rfl) ?_
  have hsl:=sha_len body
  generalize sha body=hh at *
  simp only [go_sem,e8,sg_spl,sg_len,sg_one,sg_take,pc_len,pc_take]
  refine callW_some (t_Verify hX hY hr hs hsl) (fun _ => rfl) ?_
  generalize verB X Y f hh r s=vv
  cases vv
  ·simp only [go_sem,e8,e5,fillOk,fillv,sg_spl,sg_len,sg_one,sg_take,pc_len,pc_take]
   exact leave_drop rfl
  ·simp only [go_sem,e8,e5,fillOk,fillv,sg_spl,sg_len,sg_one,sg_take,pc_len,pc_take]
   exact leave_drop rfl
end Go.Proofs.Ytgfploghjpbcaaa.Eng

