/- Layer 9: which tickets may be. -/
import Derived.Test.YtcgjlpdkobmpnaaGreatMCc
import Derived.Test.YtcgjlpdkobmpnaaGreatME6
import Derived.Test.YtcgjlpdkobmpnaaGreatMCb
import Derived.Test.YtcgjlpdkobmpnaaGreatMTl
import Derived.Test.YtcgjlpdkobmpnaaGreatMVf
import Derived.Test.YtcgjlpdkobmpnaaGreatMSh
namespace Go.Proofs.YtcgjlpdkobmpnaaGreat.Eng
open Go Go.Proofs
set_option linter.unusedVariables false
set_option linter.unusedSimpArgs false
set_option maxRecDepth 10000
structure Tkt where
 serial:Int
 product:Int
 zones:Int
 from_:Int
 key:Int
def Tkt.ok (t:Tkt):Prop:=ok64 t.serial∧ok64 t.product∧ok64 t.zones∧ok64 t.from_∧ok64 t.key
abbrev Tkt.cells (t:Tkt):List AV:=[I t.serial,I t.product,I t.zones,I t.from_,I t.key]
def inB (a b n:Int):Bool:=decide (a≤n)&&decide (n≤b)
def tktB (t:Tkt):Bool:=inB 1 2147483647 t.serial&&inB 1 16 t.product&&inB 1 255 t.zones&&inB 0 1073741824 t.from_&&inB 1 2147483647 t.key
theorem O5 (n a b:Int) (H:AH):Called Tryz.prog F.ticket_within [I n,I a,I b] H (Bl (inB a b n)) H:=by
 refine H9 ?_
 simp only [Ru,go_sem]
 exact Zk rfl
theorem Zs9 (t:Tkt) (H:AH):Called Tryz.prog F.ticket_May [.agg t.cells] H (Bl (tktB t)) H:=by
 refine A2 ?_
 simp only [N4,go_sem]
 refine Za (O5 _ _ _ _) (fun _ => rfl) ?_
 simp only [go_sem]
 refine Zq (fun _ => O5 _ _ _ _) ?_
 simp only [go_sem]
 refine Zq (fun _ => O5 _ _ _ _) ?_
 simp only [go_sem]
 refine Zq (fun _ => O5 _ _ _ _) ?_
 simp only [go_sem]
 refine Zq (fun _ => O5 _ _ _ _) ?_
 simp only [go_sem]
 exact Zc rfl
set_option maxRecDepth 10000
abbrev errA (n:Int):AV:=.lit (.iface T.api_Code (.int .i64 n))
set_option maxRecDepth 10000
theorem Zfc:∀ (k:Nat) (b:List UInt8) {l:List Fld},getF k b=some l→∀ f ∈ l,f.e=vB f.b false∧f.b.length≤b.length
 | 0,b,l,h,f,hf => by
  rw [getF] at h
  split at h
  ·cases h; cases hf
  ·cases h
 | k+1,b,l,h,f,hf => by
  rw [getF] at h
  split at h
  ·cases h; cases hf
  ·split at h
   ·cases h
   ·cases hg:getF k (b.drop (3+flen b)) with
    | none => rw [hg] at h; cases h
    | some m =>
     rw [hg] at h; cases h
     rcases List.mem_cons.1 hf with rfl | hf
     ·exact ⟨rfl,by show ((b.drop 3).take _).length≤_; rw [List.length_take,List.length_drop]; omega⟩
     ·obtain ⟨h1,h2⟩:=Zfc k _ hg f hf
      exact ⟨h1,by rw [List.length_drop] at h2; omega⟩
theorem J2 {b:List UInt8} {l:List Fld} (h:getS b=some l):(∀ f ∈ l,f.e=vB f.b false∧f.b.length≤b.length)∧l.length≤64:=by
 unfold getS at h
 cases hg:getF b.length b with
 | none => rw [hg] at h; cases h
 | some m =>
  rw [hg] at h
  by_cases hb:Mm m=true
  ·have h:(if Mm m then some m else none)=some l:=h
   rw [if_pos hb] at h
   cases h
   refine ⟨Zfc _ _ hg,?_⟩
   simp only [Mm,Bool.and_eq_true,decide_eq_true_eq] at hb
   exact hb.1
  ·have h:(if Mm m then some m else none)=some l:=h
   rw [if_neg hb] at h; cases h
abbrev sgc (r s:Nat):List AV:=num r++num s
theorem Yv (r s:Nat):(sgc r s).length=8:=by rw [List.length_append,Zb,Zb]
theorem Y2 (r s:Nat):(sgc r s).all AV.one=true:=by rw [List.all_append,Zg,Zg]; rfl
theorem Yd (r s:Nat):(sgc r s).take 8=sgc r s:=List.take_of_length_le (by rw [Yv]; exact Nat.le_refl _)
theorem Y1 (a c r s:Nat):splice (sgc a c) 0 (sgc r s)=sgc r s:=Zy (by rw [Yv,Yv])
theorem I8 (ren:Nat→Option Nat) (H:AH) (r s:Nat):lowL ren H (sgc r s)=sgc r s:=by rw [Wp,Sn,Sn]
def X2 (b:List UInt8):Option (List UInt8 × Nat × Nat):=match getS b with
 | some [f,g] => if (f.tag=1∧g.tag=2)∧g.b.length=64 then some (f.b,be (g.b.take 32),be (g.b.drop 32)) else none
 | _ => none
theorem Zx5 (l:List UInt8) (n:Nat):cut (bs l) 1 0 n=bs (l.take n):=by simp [cut,bs,List.map_take]
theorem Zx6 (l:List UInt8) (n:Nat):cut (bs l) 1 n l.length=bs (l.drop n):=by
 rw [cut,Nat.mul_one,Nat.mul_one,List.take_of_length_le (by rw [List.length_drop,Y9]; omega)]; simp [bs,List.map_drop]
theorem E0 {H:AH} {x:AV} {l:List UInt8} (hx:Sl 1 H x (bs l) l.length) (hn:l.length≤140737488355328):Called Tryz.prog F.sign_Parse [x] H (if l.length=64 then .tup [.agg (sgc (be (l.take 32)) (be (l.drop 32))),nilE] else .tup [.agg (sgc 0 0),errF]) H:=by
 refine A3 ?_
 have hG:∀ G,Sl 1 (H++G) x (bs l) l.length:=fun G => hx.app
 have lw:=Zb 4
 have e8:[Z0,Z0,Z0,Z0,Z0,Z0,Z0,Z0]=sgc 0 0:=rfl
 simp only [N5,go_sem,hx.s]
 by_cases h:l.length=64
 ·have z:((l.length:Int) != 64)=false:=by rw [h]; rfl
  have bd1:Tq l.length none (some (.lit (.int .i64 32))) none:=by
   refine ⟨trivial,trivial,trivial,?_,?_,?_,?_⟩ <;> simp [bnd,asI] <;> omega
  have bd2:Tq l.length (some (.lit (.int .i64 32))) none none:=by
   refine ⟨trivial,trivial,trivial,?_,?_,?_,?_⟩ <;> simp [bnd,asI] <;> omega
  have k1:=fun G => (hG G).sl bd1
  have k2:=fun G => (hG G).sl bd2
  have c1:cut (bs l) 1 (lo0 none) (hi0 l.length (some (.lit (.int .i64 32))))=bs (l.take 32):=Zx5 l 32
  have c2:cut (bs l) 1 (lo0 (some (.lit (.int .i64 32)))) (hi0 l.length none)=bs (l.drop 32):=Zx6 l 32
  have n1:hi0 l.length (some (.lit (.int .i64 32))) - lo0 none=(l.take 32).length:=by rw [List.length_take]; show 32 - 0=_; omega
  have n2:hi0 l.length none - lo0 (some (.lit (.int .i64 32)))=(l.drop 32).length:=by rw [List.length_drop]; rfl
  rw [c1,n1] at k1
  rw [c2,n2] at k2
  rw [if_pos h,z]
  simp only [go_sem,hx.s]
  refine ⟨(hG _).slOk bd1,Za (Zvc (k1 _) (by rw [List.length_take]; omega)) (fun _ => rfl) ?_⟩
  simp only [go_sem,hx.s,lw,Zg,Ze]
  refine ⟨(hG _).slOk bd2,Za (Zvc (k2 _) (by rw [List.length_drop]; omega)) (fun _ => rfl) ?_⟩
  generalize be (l.take 32)=r
  generalize be (l.drop 32)=s
  simp only [go_sem,lw,Zg,Ze,Zf,Zr,fillv]
  rw [show [AV.lit (Value.int IntKind.u64 0),AV.lit (Value.int IntKind.u64 0),AV.lit (Value.int IntKind.u64 0),AV.lit (Value.int IntKind.u64 0),AV.lit (Value.int IntKind.u64 0),AV.lit (Value.int IntKind.u64 0),AV.lit (Value.int IntKind.u64 0),AV.lit (Value.int IntKind.u64 0)]=pr 0 0 from rfl]
  simp only [Zbz,Dt,Ll,W0,Pv,Rk]
  exact ⟨by decide,by decide,Zc (by simp only [low,lowL,I8])⟩
 ·have z:((l.length:Int) != 64)=true:=by simp; omega
  rw [if_neg h,z]
  simp only [go_sem,Zr,fillv,e8,Y1,Yv,Y2,Yd]
  exact Zc rfl
def G7 (l:List Fld) (n:Nat):Bool:=decide (l.length=n)&&decide (∀ i,i<l.length→0≤numO (l.getD i noF).b∧(l.getD i noF).tag=i+1)
def Ln (b:List UInt8) (n:Nat):Option (List Int):=(getS b).bind fun l => if G7 l n then some (l.map fun f => numO f.b) else none
def Zgq (o:Option (List Int)):AV:=match o with
 | some l => .tup [vI l false,Bl true]
 | none => .tup [nilS,Bl false]
theorem Bd {H:AH} {x:AV} {b:List UInt8} (hx:Sl 1 H x (bs b) b.length) (hn:b.length≤100000) (n:Nat) (hN:n≤100):Called Tryz.prog F.ticket_numbers [x,I n] H (Zgq (Ln b n)) H:=by
 refine Jf ?_
 simp only [S5,go_sem,hx.s]
 refine Za (Zbb hx hn) (fun _ => rfl) ?_
 cases hg:getS b with
 | none =>
  have e:Ln b n=none:=by rw [Ln,hg]; rfl
  rw [e]
  simp only [getV,go_sem]
  exact Zk rfl
 | some l =>
  obtain ⟨hm,h64⟩:=J2 hg
  have sf:∀ G,Sl 2 G (.view (fcs l) l.length false) (fcs l) l.length:=fun G => .view (Lu l) false
  simp only [getV,go_sem]
  have eO:Ln b n=if G7 l n then some (l.map fun f => numO f.b) else none:=by rw [Ln,hg]; rfl
  rw [eO]
  refine ⟨fun h => Zk ?_,fun h => ?_⟩
  ·have:¬ l.length=n:=by have h:¬ (l.length:Int)=n:=by simpa using h
                         omega
   have hb:G7 l n=false:=by rw [G7,decide_eq_false this,Bool.false_and]
   rw [hb]; rfl
  ·have hl:l.length=n:=by have h:(l.length:Int)=n:=by simpa using h
                          omega
   have hb:G7 l n=decide (∀ i,i<l.length→0≤numO (l.getD i noF).b∧(l.getD i noF).tag=i+1):=by rw [G7,decide_eq_true hl,Bool.true_and]
   refine Z1 _ (fun (s:Nat × AV × AH) => ([(8,s.2.1),(26,.view (fcs l) l.length false),(27,I l.length),(28,I s.1)],H++s.2.2))
    (fun s => s.1≤l.length∧GR (H++s.2.2) s.2.1 ((l.take s.1).map fun f => I (numO f.b))∧(∀ q,rid s.2.1=some q→H.length≤q)∧∀ j,j<s.1→0≤numO (l.getD j noF).b∧(l.getD j noF).tag=j+1) (fun s => l.length - s.1) (0,nilS,[]) ⟨Nat.zero_le _,.inl ⟨rfl,rfl⟩,fun q h => Zj9 h,fun j hj => absurd hj (Nat.not_lt_zero j)⟩ (by rw [List.append_nil]; rfl) ?_
   rintro ⟨i,x,G⟩ ⟨hi,hg,hq,hj⟩
   dsimp only at hi hg hq hj
   have vl:((l.take i).map fun f => I (numO f.b)).length=i:=by rw [List.length_map,List.length_take]; omega
   simp only [go_sem]
   refine ⟨fun hh => ?_,fun hh => ?_⟩
   ·have hlt:i<l.length:=by omega
    obtain ⟨he,hbl⟩:=hm _ (Zl noF hlt)
    have hs:∀ G,Sl 1 G (l.getD i noF).e (bs (l.getD i noF).b) (l.getD i noF).b.length:=fun G => by rw [he]; exact Sl.vB _ _
    have el:elt (fcs l) 2 i=[I (l.getD i noF).tag,(l.getD i noF).e]:=Xg _ 2 Fld.len _ _ noF hlt
    have fl:=Lu l
    have hsn:=Wd hlt noF
    have w1:IntKind.i64.wrap ((i:Int)+1)=((i+1:Nat):Int):=by rw [w64 _ (by omega) (by omega)]; omega
    have ib:(0:Int)≤i∧(i:Int)<l.length:=⟨by omega,by omega⟩
    simp only [el,fl,go_sem,(hs []).s]
    refine ⟨ib,Za (Zzx (hs _) (by omega)) (fun _ => rfl) ?_⟩
    have bad:¬ (0≤numO (l.getD i noF).b∧(l.getD i noF).tag=i+1)→G7 l n=false:=fun h => by
     rw [hb,decide_eq_false_iff_not]; exact fun h2 => h (h2 i hlt)
    by_cases h0:numO (l.getD i noF).b<0
    ·rw [if_pos h0,bad (by omega)]
     simp only [go_sem]
     exact Zc rfl
    ·rw [if_neg h0]
     simp only [go_sem,w1,(hs []).s,hg.sl.s]
     refine ⟨fun h => Zc ?_,fun h => ?_⟩
     ·have h:¬ (l.getD i noF).tag=((i+1:Nat):Int):=by simpa using h
      rw [bad (by omega)]; rfl
     ·have h:(l.getD i noF).tag=((i+1:Nat):Int):=by simpa using h
      obtain ⟨⟨_,_,c3,c4⟩,K',g1,g2,g3⟩:=(hg.more hq ⟨[I (l.getD i noF).tag,(l.getD i noF).e],0,true⟩).step (b:=8) hq (s:=.view [I (numO (l.getD i noF).b)] 1 true) (v:=I (numO (l.getD i noF).b)) rfl rfl rfl rfl (by rw [vl]; omega)
      refine ⟨⟨by rw [vl]; omega,c4⟩,(i+1,_,K'),rfl,g1,⟨by show i+1≤_; omega,?_,g3,fun j hj' => ?_⟩,by show _ - (i+1)<_; omega⟩
      ·show GR (H++K') _ ((l.take (i+1)).map _)
       rw [hsn,List.map_append]
       exact g2
      ·rcases Nat.lt_succ_iff_lt_or_eq.1 hj' with h1 | rfl
       ·exact hj j h1
       ·exact ⟨by omega,by omega⟩
   ·obtain rfl:i=l.length:=by omega
    rw [hb,decide_eq_true hj,if_pos rfl]
    refine Ww ?_
    rw [List.take_of_length_le (Nat.le_refl _)] at hg
    have hv:=hg.view hq (Dp (fun f:Fld => I (numO f.b)) (fun _ => rfl) l)
    have e:Zgq (some (l.map fun f => numO f.b))=.tup [.view (l.map fun f => I (numO f.b)) (l.map fun f => I (numO f.b)).length false,Bl true]:=by
     simp only [Zgq,vI,List.map_map,List.length_map]; rfl
    rw [e]
    exact Zli ⟨hv,Le.refl _,trivial⟩
set_option maxRecDepth 10000
theorem I0 {b:List UInt8} {f g:Fld} (h:getS b=some [f,g]):X2 b=if (f.tag=1∧g.tag=2)∧g.b.length=64 then some (f.b,be (g.b.take 32),be (g.b.drop 32)) else none:=by
 rw [X2,h]
theorem Ph {b:List UInt8} (h:∀ f g,getS b≠some [f,g]):X2 b=none:=by
 unfold X2
 split
 ·rename_i f g e; exact absurd e (h f g)
 ·rfl
theorem len2 {l:List Fld} (h:l.length=2):∃ f g,l=[f,g]:=by
 match l,h with
 | [f,g],_ => exact ⟨f,g,rfl⟩
def Zyw (b:List UInt8) (e:AV) (r s:Nat) (ok:Bool):Prop :=
 (X2 b=some ((X2 b).getD ([],0,0))∧ok=true∧e=vB ((X2 b).getD ([],0,0)).1 false∧r=((X2 b).getD ([],0,0)).2.1∧s=((X2 b).getD ([],0,0)).2.2∧((X2 b).getD ([],0,0)).1.length≤b.length) ∨
 (X2 b=none∧ok=false∧r=0∧s=0∧∃ l:List UInt8,(∀ H,Sl 1 H e (bs l) l.length)∧l.length≤b.length)
theorem Zja {H:AH} {x:AV} {b:List UInt8} (hx:Sl 1 H x (bs b) b.length) (hn:b.length≤100000):∃ e r s ok,Zyw b e r s ok∧Called Tryz.prog F.ticket_parts [x] H (.tup [e,.agg (sgc r s),Bl ok]) H:=by
 have e8:[Z0,Z0,Z0,Z0,Z0,Z0,Z0,Z0]=sgc 0 0:=rfl
 have none_:∀ H,Sl 1 H nilS (bs []) ([]:List UInt8).length:=fun H => .nil
 cases hg:getS b with
 | none =>
  refine ⟨nilS,0,0,false,.inr ⟨Ph (fun f g h => by rw [hg] at h; cases h),rfl,rfl,rfl,[],none_,Nat.zero_le _⟩,?_⟩
  refine W8 ?_
  simp only [X6,go_sem,hx.s]
  refine Za (Zbb hx.app hn) (fun _ => rfl) ?_
  rw [hg]
  simp only [getV,go_sem,Zr,fillv,e8,Y1,Yv,Y2,Yd]
  exact Zc rfl
 | some l =>
  obtain ⟨hm,h64⟩:=J2 hg
  by_cases h2:l.length=2
  ·obtain ⟨f,g,rfl⟩:=len2 h2
   obtain ⟨hf1,hf2⟩:=hm f (by simp)
   obtain ⟨hg1,hg2⟩:=hm g (by simp)
   have hp:=I0 hg
   have sg:∀ G,Sl 1 G g.e (bs g.b) g.b.length:=fun G => by rw [hg1]; exact Sl.vB _ _
   have sf:∀ G,Sl 1 G f.e (bs f.b) f.b.length:=fun G => by rw [hf1]; exact Sl.vB _ _
   have fc:fcs [f,g]=[I f.tag,f.e,I g.tag,g.e]:=rfl
   have e0:∀ a b c d:AV,elt [a,b,c,d] 2 0=[a,b]:=fun _ _ _ _ => rfl
   have e1:∀ a b c d:AV,elt [a,b,c,d] 2 1=[c,d]:=fun _ _ _ _ => rfl
   have z2:(((2:Nat):Int) != 2)=false:=rfl
   have y1:((1:Int) != 1)=false:=rfl
   have y2:((2:Int) != 2)=false:=rfl
   by_cases ht:f.tag=1∧g.tag=2
   ·by_cases h64:g.b.length=64
    ·have hp':X2 b=some (f.b,be (g.b.take 32),be (g.b.drop 32)):=by rw [hp,if_pos ⟨ht,h64⟩]
     refine ⟨f.e,be (g.b.take 32),be (g.b.drop 32),true,.inl ⟨by rw [hp']; rfl,rfl,by rw [hp']; exact hf1,by rw [hp']; rfl,by rw [hp']; rfl,by rw [hp']; exact hf2⟩,?_⟩
     refine W8 ?_
     simp only [X6,go_sem,hx.s]
     refine Za (Zbb hx.app hn) (fun _ => rfl) ?_
     rw [hg]
     have tp:=fun H => E0 (H:=H) (sg H) (by omega)
     rw [if_pos h64] at tp
     simp only [getV,fc,z2,y1,y2,go_sem,e0,e1,ht,(sf []).s,(sg []).s]
     refine ⟨by decide,by decide,by decide,Za (tp _) (fun _ => rfl) ?_⟩
     generalize be (g.b.take 32)=r at *
     generalize be (g.b.drop 32)=s at *
     simp only [go_sem,e0,e1,(sf []).s,(sg []).s,e8,Y1,Yv,Y2,Yd]
     exact ⟨by decide,Zc (by rw [hf1]; simp only [low,lowL,I8])⟩
    ·have hp':X2 b=none:=by rw [hp,if_neg (fun h => h64 h.2)]
     refine ⟨f.e,0,0,false,.inr ⟨hp',rfl,rfl,rfl,f.b,sf,hf2⟩,?_⟩
     refine W8 ?_
     simp only [X6,go_sem,hx.s]
     refine Za (Zbb hx.app hn) (fun _ => rfl) ?_
     rw [hg]
     have tp:=fun H => E0 (H:=H) (sg H) (by omega)
     rw [if_neg h64] at tp
     simp only [getV,fc,z2,y1,y2,go_sem,e0,e1,ht,(sf []).s,(sg []).s]
     refine ⟨by decide,by decide,by decide,Za (tp _) (fun _ => rfl) ?_⟩
     simp only [go_sem,e0,e1,(sf []).s,(sg []).s,e8,Y1,Yv,Y2,Yd]
     exact ⟨by decide,Zc (by rw [hf1]; simp only [low,lowL,I8])⟩
   ·have hp':X2 b=none:=by rw [hp,if_neg (fun h => ht h.1)]
    refine ⟨nilS,0,0,false,.inr ⟨hp',rfl,rfl,rfl,[],none_,Nat.zero_le _⟩,?_⟩
    refine W8 ?_
    simp only [X6,go_sem,hx.s]
    refine Za (Zbb hx.app hn) (fun _ => rfl) ?_
    rw [hg]
    by_cases h1:f.tag=1
    ·have z1:(g.tag != 2)=true:=by rw [bne_iff_ne]; exact fun h => ht ⟨h1,h⟩
     simp only [getV,fc,z2,y1,y2,go_sem,e0,e1,h1,z1,(sf []).s,(sg []).s,e8,Zr,fillv,Y1,Yv,Y2,Yd]
     exact ⟨by decide,by decide,Zc rfl⟩
    ·have z1:(f.tag != 1)=true:=by rw [bne_iff_ne]; exact h1
     simp only [getV,fc,z2,go_sem,e0,e1,z1,(sf []).s,(sg []).s,e8,Zr,fillv,Y1,Yv,Y2,Yd]
     exact ⟨by decide,Zc rfl⟩
  ·refine ⟨nilS,0,0,false,.inr ⟨Ph (fun f g h => by rw [hg] at h; cases h; exact h2 rfl),rfl,rfl,rfl,[],none_,Nat.zero_le _⟩,?_⟩
   refine W8 ?_
   simp only [X6,go_sem,hx.s]
   refine Za (Zbb hx.app hn) (fun _ => rfl) ?_
   rw [hg]
   have z1:((l.length:Int) != 2)=true:=by rw [bne_iff_ne]; omega
   simp only [getV,z1,go_sem,e8,Zr,fillv,Y1,Yv,Y2,Yd]
   exact Zc rfl
def Ic (l:List Int):Tkt:=⟨l.getD 0 0,l.getD 1 0,l.getD 2 0,l.getD 3 0,l.getD 4 0⟩
def noTk:Tkt:=⟨0,0,0,0,0⟩
def I1 (b:List UInt8):Option (Tkt × Nat × Nat):=(X2 b).bind fun p => (Ln p.1 5).bind fun l => if tktB (Ic l) then some (Ic l,p.2.1,p.2.2) else none
def Zkq (o:Option (Tkt × Nat × Nat)):AV:=match o with
 | some (t,r,s) => .tup [.agg t.cells,.agg (sgc r s),nilE]
 | none => .tup [.agg noTk.cells,.agg (sgc 0 0),errF]
theorem Zku {b:List UInt8} {n:Nat} {l:List Int} (h:Ln b n=some l):l.length=n:=by
 unfold Ln at h
 cases hg:getS b with
 | none => rw [hg] at h; cases h
 | some m =>
  rw [hg] at h
  have h:(if G7 m n then some (m.map fun f => numO f.b) else none)=some l:=h
  by_cases hb:G7 m n=true
  ·rw [if_pos hb] at h
   cases h
   simp only [G7,Bool.and_eq_true,decide_eq_true_eq] at hb
   rw [List.length_map,hb.1]
  ·rw [if_neg hb] at h; cases h
theorem Zp8 (o:Option (List Int)):∃ v k,Zgq o=.tup [v,Bl k]∧v.un=v∧(∀ g,Yj g v=True)∧k=o.isSome:=by
 cases o with
 | none => exact ⟨nilS,false,rfl,rfl,fun _ => rfl,rfl⟩
 | some l => exact ⟨vI l false,true,rfl,rfl,fun _ => rfl,rfl⟩
theorem Ztm {H:AH} {x:AV} {b:List UInt8} (hx:Sl 1 H x (bs b) b.length) (hn:b.length≤100000):Called Tryz.prog F.ticket_Open [x] H (Zkq (I1 b)) H:=by
 have e8:[Z0,Z0,Z0,Z0,Z0,Z0,Z0,Z0]=sgc 0 0:=rfl
 refine Cc ?_
 simp only [Px,go_sem,hx.s]
 obtain ⟨e,r,s,ok,hp,hc⟩:=Zja (H:=H++[⟨[I 0,I 0,I 0,I 0,I 0],0,true⟩,⟨[Z0,Z0,Z0,Z0,Z0,Z0,Z0,Z0],0,true⟩]) hx.app hn
 refine Za hc (fun _ => rfl) ?_
 clear hc
 rcases hp with ⟨hs,rfl,he,hr,hsg,hl⟩ | ⟨hno,rfl,rfl,rfl,l,hl,hll⟩
 ·generalize (X2 b).getD ([],0,0)=p at *
  obtain ⟨body,r',s'⟩:=p
  dsimp only at he hr hsg hl
  subst he hr hsg
  have eo:I1 b=(Ln body 5).bind fun l => if tktB (Ic l) then some (Ic l,r,s) else none:=by rw [I1,hs]; rfl
  simp only [go_sem,e8,Y1,Yv,Y2,Yd]
  refine Za (Bd (Sl.vB body false) (by omega) 5 (by decide)) (fun _ => rfl) ?_
  rw [eo]
  cases hN:Ln body 5 with
  | none =>
   simp only [Zgq,go_sem,Zr,fillv,e8,Y1,Yv,Y2,Yd]
   exact Zc rfl
  | some l =>
   have h5:=Zku hN
   obtain ⟨a0,a1,a2,a3,a4,rfl⟩:∃ a0 a1 a2 a3 a4,l=[a0,a1,a2,a3,a4]:=by
    match l,h5 with
    | [a0,a1,a2,a3,a4],_ => exact ⟨_,_,_,_,_,rfl⟩
   have l0:elt [I a0,I a1,I a2,I a3,I a4] 1 0=[I a0]:=rfl
   have l1:elt [I a0,I a1,I a2,I a3,I a4] 1 1=[I a1]:=rfl
   have l2:elt [I a0,I a1,I a2,I a3,I a4] 1 2=[I a2]:=rfl
   have l3:elt [I a0,I a1,I a2,I a3,I a4] 1 3=[I a3]:=rfl
   have l4:elt [I a0,I a1,I a2,I a3,I a4] 1 4=[I a4]:=rfl
   simp only [Zgq,vI,go_sem,Zr,fillv,e8,Y1,Yv,Y2,Yd,l0,l1,l2,l3,l4]
   refine ⟨by decide,by decide,by decide,by decide,by decide,Za (Zs9 ⟨a0,a1,a2,a3,a4⟩ _) (fun _ => rfl) ?_⟩
   have et:Ic [a0,a1,a2,a3,a4]=⟨a0,a1,a2,a3,a4⟩:=rfl
   show _
   rw [show ((some [a0,a1,a2,a3,a4]).bind fun l => if tktB (Ic l)=true then some (Ic l,r,s) else none)=if tktB ⟨a0,a1,a2,a3,a4⟩=true then some (⟨a0,a1,a2,a3,a4⟩,r,s) else none from rfl]
   generalize tktB ⟨a0,a1,a2,a3,a4⟩=tb
   simp only [go_sem,Zr,fillv,e8,Y1,Yv,Y2,Yd]
   cases tb
   ·simp only [go_sem]
    exact Zc rfl
   ·simp only [go_sem]
    exact ⟨by omega,Zc (by simp only [low,lowL,I8]; rfl)⟩
 ·obtain ⟨v,k,hv,h1,h2,h3⟩:=Zp8 (Ln l 5)
  have eo:I1 b=none:=by rw [I1,hno]; rfl
  simp only [go_sem,e8,Y1,Yv,Y2,Yd,(hl []).s]
  refine Za (Bd (hl _) (by omega) 5 (by decide)) (fun _ => rfl) ?_
  rw [hv,eo]
  simp only [go_sem,h1,h2,Zr,fillv,e8,Y1,Yv,Y2,Yd]
  exact Zc rfl
set_option maxRecDepth 10000
theorem Zn5 {l:List UInt8} (h:l.length≤32):be l<(18446744073709551616:Nat)^4 :=
 Nat.lt_of_lt_of_le (Zio l) (Nat.le_trans (Nat.pow_le_pow_right (by decide) h) (by decide +kernel))
theorem B2 {b body:List UInt8} {r s:Nat} (h:X2 b=some (body,r,s)):r<(18446744073709551616:Nat)^4∧s<(18446744073709551616:Nat)^4:=by
 unfold X2 at h
 split at h
 ·split at h
  ·rename_i f g e hh
   cases h
   exact ⟨Zn5 (by rw [List.length_take]; omega),Zn5 (by rw [List.length_drop]; omega)⟩
  ·cases h
 ·cases h
theorem Zb2 {b:List UInt8} {t:Tkt} {r s:Nat} (h:I1 b=some (t,r,s)):∃ body,X2 b=some (body,r,s):=by
 unfold I1 at h
 cases hp:X2 b with
 | none => rw [hp] at h; cases h
 | some p =>
  rw [hp] at h
  obtain ⟨body,r',s'⟩:=p
  refine ⟨body,?_⟩
  have h:((Ln body 5).bind fun l => if tktB (Ic l) then some (Ic l,r',s') else none)=some (t,r,s):=h
  cases hn:Ln body 5 with
  | none => rw [hn] at h; cases h
  | some l =>
   rw [hn] at h
   have h:(if tktB (Ic l) then some (Ic l,r',s') else none)=some (t,r,s):=h
   split at h
   ·cases h; rfl
   ·cases h
noncomputable def Mz (b:List UInt8) (X Y:Nat) (f:Bool):Tkt × Int:=match I1 b with
 | none => (noTk,2)
 | some (t,r,s) => bif verB X Y f (sha ((X2 b).getD ([],0,0)).1) r s then (t,0) else (noTk,8)
def errO (n:Int):AV:=if n=0 then nilE else .lit (.iface T.api_Code (.int .i64 n))
theorem Uh {l:List UInt8} (h:l.length=32):(bs l).isEmpty=false∧(bs l).length=32∧(bs l).take 32=bs l:=by
 have hb:(bs l).length=32:=by rw [Y9,h]
 refine ⟨?_,hb,List.take_of_length_le (by omega)⟩
 cases hh:bs l with
 | nil => rw [hh] at hb; cases hb
 | cons => rfl
theorem Kj {H:AH} {x:AV} {b body:List UInt8} {r s:Nat} (hx:Sl 1 H x (bs b) b.length) (hn:b.length≤100000) (h:X2 b=some (body,r,s)):Called Tryz.prog F.ticket_parts [x] H (.tup [vB body false,.agg (sgc r s),Bl true]) H∧body.length≤b.length:=by
 obtain ⟨e,r',s',ok,hp,hc⟩:=Zja hx hn
 rcases hp with ⟨h1,rfl,h2,h3,h4,h5⟩ | ⟨h1,_⟩
 ·rw [h] at h2 h3 h4 h5
  simp only [Option.getD_some] at h2 h3 h4 h5
  subst h2 h3 h4
  exact ⟨hc,h5⟩
 ·rw [h] at h1; cases h1
theorem Zvs {H:AH} {x:AV} {b:List UInt8} {X Y:Nat} {f:Bool} (hx:Sl 1 H x (bs b) b.length) (hn:b.length≤100000) (hX:X<(18446744073709551616:Nat)^4) (hY:Y<(18446744073709551616:Nat)^4):Called Tryz.prog F.ticket_Check [x,.agg (pcell X Y f)] H (.tup [.agg (Mz b X Y f).1.cells,errO (Mz b X Y f).2]) H:=by
 have e8:[Z0,Z0,Z0,Z0,Z0,Z0,Z0,Z0]=sgc 0 0:=rfl
 have e5:[AV.lit (Value.int IntKind.i64 0),AV.lit (Value.int IntKind.i64 0),AV.lit (Value.int IntKind.i64 0),AV.lit (Value.int IntKind.i64 0),AV.lit (Value.int IntKind.i64 0)]=noTk.cells:=rfl
 refine Fb ?_
 simp only [Qx,go_sem,hx.s,Xk,S1]
 refine Za (Ztm hx.app hn) (fun _ => rfl) ?_
 cases hO:I1 b with
 | none =>
  have ec:Mz b X Y f=(noTk,2):=by rw [Mz,hO]
  rw [ec]
  simp only [Zkq,go_sem,hx.s,Zr,fillv,e8,e5,Y1,Yv,Y2,Yd,Tkt.cells]
  exact Zc rfl
 | some p =>
  obtain ⟨t,r,s⟩:=p
  obtain ⟨body,hp⟩:=Zb2 hO
  obtain ⟨hr,hs⟩:=B2 hp
  have ec:Mz b X Y f=bif verB X Y f (sha body) r s then (t,0) else (noTk,8):=by rw [Mz,hO,hp]; rfl
  rw [ec]
  simp only [Zkq,go_sem,hx.s,Zr,fillv,e8,Y1,Yv,Y2,Yd]
  have hbl:=(Kj hx hn hp).2
  refine Za (Kj hx.app hn hp).1 (fun _ => rfl) ?_
  simp only [go_sem,e8,Y1,Yv,Y2,Yd,Yb,Yk]
  refine Za (Zta (Sl.vB body false) (by omega)) (fun _ => rfl) ?_
  have hsl:=Da body
  generalize sha body=hh at *
  simp only [go_sem,e8,Y1,Yv,Y2,Yd,Yb,Yk]
  refine Za (Zeb hX hY hr hs hsl) (fun _ => rfl) ?_
  generalize verB X Y f hh r s=vv
  cases vv
  ·simp only [go_sem,e8,e5,Zr,fillv,Y1,Yv,Y2,Yd,Yb,Yk]
   exact Zc rfl
  ·simp only [go_sem,e8,e5,Zr,fillv,Y1,Yv,Y2,Yd,Yb,Yk]
   exact Zc rfl
end Go.Proofs.YtcgjlpdkobmpnaaGreat.Eng

