/- Layers 15, 16: what the functions of flash, and the inner ones of journal, come to. -/
import Derived.Test.YtcgjlpdkobmpnaaGreatMCv
import Derived.Test.YtcgjlpdkobmpnaaGreatMCb
import Derived.Test.YtcgjlpdkobmpnaaGreatME6
namespace Go.Proofs.YtcgjlpdkobmpnaaGreat.Eng.J
open Go Go.Proofs
set_option linter.unusedVariables false
set_option linter.unusedSimpArgs false
set_option maxRecDepth 10000
abbrev eAV (n:Int):AV:=.lit (.iface T.api_Code (.int .i64 n))
theorem Zbf {H:AH} {x:AV} {cs:List AV} {n:Nat} (hx:Sl 1 H x cs n) (hp:Yg cs=true) (h1:cs.all AV.one=true) (hn:n≤140737488355328):Called Tryz.prog F.slices_Clone_byte_byte [x] H (.view cs n false) H:=by
 have hl:=hx.length
 refine Vf ?_
 simp only [Xt,go_sem]
 refine hx.nilc (fun h0 => ?_) ?_
 ·subst h0
  have:cs=[]:=List.eq_nil_of_length_eq_zero (by omega)
  subst this
  exact Rt (O0 false)
 ·simp only [go_sem,hx.s]
  refine ⟨⟨h1,by omega⟩,?_⟩
  exact Zc (Vd (Vl _) (by decide) hl hp _ _ rfl)
theorem Ma {H:AH} {x:AV} {l:List UInt8} (hx:Sl 1 H x (bs l) l.length) (hn:l.length≤140737488355328):Called Tryz.prog F.slices_Clone_byte_byte [x] H (vB l false) H :=
 Zbf hx (Y1 _) (Yz _) hn
/-! ### Flashes -/
structure FL (H:AH) (f r:Nat) (B:List UInt8):Prop where
 hf:f<H.length
 hr:r<H.length
 ne:f≠r
 of:obj H f=⟨[.row r 0 B.length B.length],0,true⟩
 or:obj H r=⟨bs B,1,true⟩
theorem FL.frame {H H':AH} {f r:Nat} {B:List UInt8} (h:FL H f r B) {S:Nat→Prop} (hf:Fr H H' S) (h1:¬ S f) (h2:¬ S r):FL H' f r B :=
 ⟨Nat.lt_of_lt_of_le h.hf hf.1,Nat.lt_of_lt_of_le h.hr hf.1,h.ne,(hf.2 f h.hf h1).trans h.of,(hf.2 r h.hr h2).trans h.or⟩
theorem FL.sl {H:AH} {f r:Nat} {B:List UInt8} (h:FL H f r B):Sl 1 H (.row r 0 B.length B.length) (bs B) B.length :=
 .row h.hr (by rw [h.or]; simp) (by omega) (by rw [h.or]; simp [List.take_of_length_le]) (.inl (by rw [h.or]))
theorem t_fnew {H:AH} {n:Nat} (h1:1≤n) (h2:n≤1048576):Called Tryz.prog F.flash_New [I n] H (.tup [.ptr (H.length+1) 0,nilE]) (H++[⟨bs (List.replicate n 0),1,true⟩,⟨[.row H.length 0 n n],0,true⟩]):=by
 refine Zc5 ?_
 simp only [Ju,go_sem,Hs]
 have e:(List.replicate n [AV.lit (.int .u8 0)]).flatten=bs (List.replicate n 0):=by
  rw [bs,List.map_replicate]
  induction n with
  | zero => rfl
  | succ n ih => rw [List.replicate_succ,List.flatten_cons,List.replicate_succ]; cases n with
   | zero => rfl
   | succ n => rw [ih (by omega) (by omega)]; rfl
 refine ⟨fun h => by simp at h; omega,fun _ => ⟨by omega,?_⟩⟩
 rw [e]
 exact Leave.refl _ _ _
theorem Zjx {H:AH} {f r:Nat} {B:List UInt8} (h:FL H f r B):Called Tryz.prog F.flash_Flash_Size [.ptr f 0] H (I B.length) H:=by
 refine Lq ?_
 simp only [Tn,go_sem,h.of,h.hf]
 exact Leave.refl _ _ _
theorem Zps {H:AH} {f r:Nat} {B:List UInt8} (h:FL H f r B) (hn:B.length≤1048576):Called Tryz.prog F.flash_Flash_Bytes [.ptr f 0] H (vB B false) H:=by
 refine Nv ?_
 simp only [Uz,go_sem,h.of,h.hf]
 refine Za (Ma h.sl (by omega)) (fun _ => rfl) ?_
 simp only [go_sem]
 exact Leave.refl _ _ _
theorem Zpr {H:AH} {f r:Nat} {B:List UInt8} (h:FL H f r B) (hB:B.length≤1048576) {a n:Nat} (ha:a+n≤B.length):Called Tryz.prog F.flash_Flash_there [.ptr f 0,I a,I n] H (Bl true) H:=by
 refine Nt ?_
 simp only [Ux,go_sem,h.of,h.hf]
 rw [w64 _ (by omega) (by omega)]
 refine Zl ?_
 congr 2
 simp
 omega
def wr (B:List UInt8) (a:Nat) (l:List UInt8):List UInt8:=B.take a++l++B.drop (a+l.length)
theorem Nz {B:List UInt8} {a:Nat} {l:List UInt8} (h:a+l.length≤B.length):(wr B a l).length=B.length:=by simp [wr]; omega
theorem Zkd (cs:List AV) (a:Nat) (l:List AV) (h:a+l.length≤cs.length):splice cs a l=cs.take a++l++cs.drop (a+l.length):=by
 unfold splice
 split
 ·rename_i v
  simp only [List.length_cons,List.length_nil] at *
  rw [List.set_eq_take_append_cons_drop,if_pos (by omega)]
  simp
 ·rfl
theorem Zvz {H:AH} {f r:Nat} {B:List UInt8} (h:FL H f r B) (hB:B.length≤1048576) {a n:Nat} {l:List UInt8} {fl:Bool} (ha:a+l.length≤B.length) (hn:n≤l.length) :
  Called Tryz.prog F.flash_Flash_Tear [.ptr f 0,I a,vB l fl,I n] H nilE (setO H r (bs (wr B a (l.take n)))):=by
 refine Lp ?_
 simp only [Tm,go_sem]
 refine Za (Zpr h hB ha) (fun _ => rfl) ?_
 simp only [go_sem,h.of,h.hf,h.or,h.hr]
 refine ⟨fun hh => by simp at hh; omega,fun _ => ⟨⟨by simp,by omega,by omega,by omega⟩,⟨by omega,by simp⟩,⟨?_,?_,?_⟩,?_⟩⟩
 ·simp only [Wy,cut,List.length_take,List.length_drop,List.length_map]; omega
 ·simp only [srcC,cut,← List.map_drop,← List.map_take]; exact Yz _
 ·exact ⟨h.hr,by rw [h.or]; simp,by rw [h.or],by omega⟩
 ·have e:∀ g,Zal 1 H (AV.view (cut (bs l) 1 0 n) n g) (AV.row r a (B.length - a) B.length)=setO H r (bs (wr B a (l.take n))):=by
   intro g
   simp only [Zal,h.or,Zak,srcN,srcC]
   congr 1
   rw [show min n (B.length - a)=n by omega,Nat.mul_one]
   have e2:(cut (bs l) 1 0 n).take n=bs (l.take n):=by simp [cut,bs,List.map_take,List.take_take]
   rw [e2,Zkd _ _ _ (by simp; omega),wr]
   simp [bs,List.map_take,List.map_drop]
  rw [e]
  exact Leave.refl _ _ _
theorem Zd6 {H:AH} {f r:Nat} {B:List UInt8} (h:FL H f r B) (hB:B.length≤1048576) {a:Nat} {l:List UInt8} {fl:Bool} (ha:a+l.length≤B.length) :
  Called Tryz.prog F.flash_Flash_Write [.ptr f 0,I a,vB l fl] H nilE (setO H r (bs (wr B a l))):=by
 refine Nu ?_
 simp only [Uy,go_sem]
 have:=Zvz h hB (fl:=fl) ha (Nat.le_refl _)
 rw [List.take_length] at this
 refine Za this (fun h => absurd h (by decide)) ?_
 simp only [go_sem]
 exact Leave.refl _ _ _
theorem FL.wr {H:AH} {f r:Nat} {B:List UInt8} (h:FL H f r B) {a:Nat} {l:List UInt8} (ha:a+l.length≤B.length):FL (setO H r (bs (J.wr B a l))) f r (J.wr B a l):=by
 have hl:=Nz ha
 exact ⟨by rw [Zk]; exact h.hf,by rw [Zk]; exact h.hr,h.ne,by rw [W7 _ _ h.ne.symm,h.of,hl],by rw [Yj _ _ h.hr,h.or]⟩
/-! ### Numbers -/
theorem u8sh (n k:Nat):IntKind.u8.wrap ((n:Int).fdiv (2^(8*k)))=((UInt8.ofNat (n / 256^k)).toNat:Int):=by
 have e:(n:Int).fdiv (2^(8*k))=((n / 256^k:Nat):Int):=by
  rw [Int.fdiv_eq_ediv_of_nonneg _ (Int.le_of_lt (Int.pow_pos (by decide))),Int.natCast_ediv,Int.pow_mul]
  simp
 rw [e]
 simp only [IntKind.wrap,IntKind.bits,IntKind.signed]
 simp
theorem N8 {H:AH} {n:Nat} (hn:n<9223372036854775808):Called Tryz.prog F.journal_number [I n] H (vB (beN 8 n) false) H:=by
 refine Ic ?_
 simp only [Rf,go_sem]
 refine Z4 _ (fun (k:Nat) => ([(0,I n),(3,rA H (bs ((beN 8 n).take k)) k),(4,I (7 - (k:Int)))],hA 1 H (bs ((beN 8 n).take k)) k)) (fun k => k≤8) (fun k => 8 - k) 0 (by decide) rfl ?_
 intro k hk
 simp only [go_sem]
 refine ⟨fun h => ?_,fun h => ?_⟩
 ·have hk:k≤7:=by omega
  have e1:IntKind.i64.wrap (8*(7 - (k:Int)))=((8*(7 - k):Nat):Int):=by rw [w64 _ (by omega) (by omega)]; omega
  have e2:IntKind.u8.wrap ((n:Int).fdiv (2^min (8*(7 - k)) 64))=((UInt8.ofNat (n / 256^(7 - k))).toNat:Int):=by rw [Nat.min_eq_left (by omega)]; exact u8sh _ _
  obtain ⟨h1,h2,h3⟩:=Pz (H:=H) (sz:=1) (n:=k) (vs:=bs ((beN 8 n).take k)) (by simp [Zm]; omega) (s:=.view [u8 (UInt8.ofNat (n / 256^(7 - k)))] 1 true) (cs:=[u8 (UInt8.ofNat (n / 256^(7 - k)))]) (b:=1) rfl rfl rfl rfl (by omega)
  simp only [go_sem] at h1
  simp only [e1,Int.toNat_natCast,e2,h2,h3]
  refine ⟨by omega,h1,k+1,?_,?_,by omega,by omega⟩
  all_goals
   have e3:bs ((beN 8 n).take k)++[u8 (UInt8.ofNat (n / 256^(7 - k)))]=bs ((beN 8 n).take (k+1)):=by
    rw [Yx (by rw [Zm]; omega) 0,bs,bs,List.map_append]
    congr 1
    rw [List.map_singleton,List.getD_eq_getElem?_getD,beN,List.getElem?_map,List.getElem?_range (by omega)]
    rfl
   rw [e3]
  ·rw [w64 _ (by omega) (by omega),show (7 - (k:Int) - 1)=7 - ((k+1:Nat):Int) by omega]
 ·obtain rfl:k=8:=by omega
  have:=Ru (H:=H) (sz:=1) (n:=8) (vs:=bs ((beN 8 n).take 8)) (by decide) (by simp [Zm]) (Y1 _)
  rw [List.take_of_length_le (by rw [Zm]; exact Nat.le_refl _)] at this ⊢
  have e:(AV.view (bs (beN 8 n)) 8 false)=vB (beN 8 n) false:=by rw [vB,Zm]
  rw [e] at this
  exact this
theorem Zlb {a b:Nat} (ha:a<72057594037927936) (hb:b<256):bOr .u64 ((a*256:Nat):Int) (b:Int)=((a*256+b:Nat):Int):=by
 have h1:(BitVec.ofInt 64 ((a*256:Nat):Int) ||| BitVec.ofInt 64 (b:Int)).toNat=a*256+b:=by
  rw [BitVec.toNat_or,BitVec.toNat_ofInt,BitVec.toNat_ofInt]
  have e1:(((a*256:Nat):Int)%((2^64:Nat):Int)).toNat=a*256:=by omega
  have e2:((b:Int)%((2^64:Nat):Int)).toNat=b:=by omega
  rw [e1,e2,Zlc _ _ hb]
 show IntKind.u64.wrap ((BitVec.ofInt 64 _ ||| BitVec.ofInt 64 _).toNat:Int)=_
 rw [h1,wu64 _ (by omega) (by omega)]
def ofB (l:List UInt8):Int:=if be l ≥ 4611686018427387904 then -1 else be l
theorem Zdg {l:List UInt8} {i:Nat} (h:i<l.length):be (l.take (i+1))=be (l.take i)*256+(l.getD i 0).toNat:=by
 rw [Yx h 0,C3]
theorem t_of {H:AH} {x:AV} {l:List UInt8} (hx:Sl 1 H x (bs l) l.length) (hl:l.length=8):Called Tryz.prog F.journal_of [x] H (I (ofB l)) H:=by
 refine Zab ?_
 simp only [Lc,go_sem,hx.s]
 refine Z4 _ (fun (k:Nat) => ([(3,.lit (.int .u64 (be (l.take k)))),(6,x),(7,I l.length),(8,I k)],H)) (fun k => k≤8) (fun k => 8 - k) 0 (by decide) rfl ?_
 intro k hk
 simp only [go_sem,hl]
 refine ⟨fun h => ?_,fun h => ?_⟩
 ·have hk:k<8:=by omega
  have hb:(l.getD k 0).toNat<256:=(l.getD k 0).toNat_lt
  have hlt:be (l.take k)<256^7:=Nat.lt_of_lt_of_le (F5 _) (Nat.pow_le_pow_right (by decide) (by rw [List.length_take]; omega))
  simp only [hx.idx,hx.ldOk _ (show k<l.length by omega) (Nat.le_refl 1),hx.ld1 _ (show k<l.length by omega),Fc l k (by omega),go_sem]
  have e0:IntKind.u64.wrap (((l.getD k 0).toNat:Nat):Int)=((l.getD k 0).toNat:Nat):=wu64 _ (by omega) (by omega)
  have e1:IntKind.u64.wrap (((be (l.take k):Nat):Int)*2^(8:Nat))=((be (l.take k)*256:Nat):Int):=by
   rw [wu64 _ (by omega) (by omega)]; omega
  refine ⟨⟨by omega,by omega⟩,by decide,k+1,?_,by omega,by omega⟩
  rw [e0,e1,Zlb (by omega) hb,← Zdg (by omega),w64 _ (by omega) (by omega)]
  rfl
 ·obtain rfl:k=8:=by omega
  rw [List.take_of_length_le (by omega)]
  refine ⟨fun h => Zl ?_,fun h => Zl ?_⟩
  ·rw [ofB,if_pos (by omega)]
  ·rw [ofB,if_neg (by omega),w64 _ (by omega) (by omega)]
theorem E5 (l:List UInt8) (a b:Nat):cut (bs l) 1 a b=bs ((l.drop a).take (b - a)):=by simp [cut,bs,List.map_take,List.map_drop]
theorem Zeg {H:AH} {l m:List UInt8} {a b n:Nat} {g:Bool} (h:(l.drop a).take (b - a)=m) (hn:m.length=n):Sl 1 H (.view (cut (bs l) 1 a b) n g) (bs m) m.length:=by
 subst hn; rw [E5,h]; exact Sl.vB _ _
def rd (l:List UInt8) (room:Int):Int × Int :=
 if ofB (l.take 8)<1∨ofB (l.take 8)≠ofB (l.drop 16)∨ofB ((l.drop 8).take 8)<0∨ofB ((l.drop 8).take 8) > room then (0,0) else (ofB (l.take 8),ofB ((l.drop 8).take 8))
theorem Zd2 {H:AH} {l:List UInt8} (hl:l.length=24) (g:Bool) (room:Int):Called Tryz.prog F.journal_read [.view (bs l) 24 g,I room] H (.agg [I (rd l room).1,I (rd l room).2]) H:=by
 have k1:(l.take 8).length=8:=by simp; omega
 have k2:((l.drop 8).take 8).length=8:=by simp; omega
 have k3:(l.drop 16).length=8:=by simp; omega
 refine F0 ?_
 simp only [Pn,go_sem]
 refine ⟨⟨⟨by omega,by omega⟩,by simp; omega⟩,Za ⟨rfl,fun G => t_of (l:=l.take 8) (Zeg (by simp) k1) k1⟩ (fun _ => rfl) ?_⟩
 simp only [go_sem]
 refine ⟨⟨⟨by omega,by omega,by omega⟩,by simp; omega⟩,Za ⟨rfl,fun G => t_of (l:=(l.drop 8).take 8) (Zeg (by simp) k2) k2⟩ (fun _ => rfl) ?_⟩
 simp only [go_sem]
 refine ⟨fun _ => ⟨⟨by omega,by omega⟩,by simp; omega⟩,Zs (fun _ => t_of (l:=l.drop 16) (Zeg (l:=l) (List.take_of_length_le (by rw [k3]; decide)) k3) k3) ?_⟩
 simp only [go_sem]
 refine ⟨fun hh => Zc ?_,fun hh => Zc ?_⟩
 ·rw [rd,if_pos (by simp at hh; omega)]; rfl
 ·rw [rd,if_neg (by simp at hh; omega)]; rfl
def fst (l:List UInt8):List UInt8 :=
 if l.length<2∨be (l.take 2) > 2000∨be (l.take 2) > l.length - 2 then [] else (l.drop 2).take (be (l.take 2))
theorem Z3o (l:List UInt8) (h:2≤l.length):be (l.take 2)=(l.getD 0 0).toNat*256+(l.getD 1 0).toNat:=by
 match l,h with
 | a::b::r,_ => simp [be]
theorem Zv0 {l:List UInt8} (hl:l.length≤1048576) (g:Bool):∃ v,∀ H,Called Tryz.prog F.journal_first [vB l g] H v H∧Sl 1 H v (bs (fst l)) (fst l).length:=by
 by_cases h2:l.length<2
 ·refine ⟨nilS,fun H => ⟨Tw ?_,by rw [fst,if_pos (.inl h2)]; exact .nil⟩⟩
  simp only [W5,go_sem]
  refine ⟨fun _ => Leave.refl _ _ _,fun hh => by omega⟩
 ·have e:=Z3o l (by omega)
  have h0:=(l.getD 0 0).toNat_lt
  have h1:=(l.getD 1 0).toNat_lt
  have w1:=w64 ((l.getD 0 0).toNat:Int) (by omega) (by omega)
  have w2:=w64 ((l.getD 1 0).toNat:Int) (by omega) (by omega)
  have w3:=w64 (((l.getD 0 0).toNat:Int)*2^8) (by omega) (by omega)
  have w4:((l.getD 0 0).toNat:Int)*2^8+((l.getD 1 0).toNat:Int)=(be (l.take 2):Nat):=by omega
  generalize hn:be (l.take 2)=n at *
  have w5:=w64 (n:Int) (by omega) (by omega)
  have w6:IntKind.i64.wrap (2+(n:Int))=((2+n:Nat):Int):=by rw [w64 _ (by omega) (by omega)]; omega
  have w7:=w64 ((l.length:Int) - 2) (by omega) (by omega)
  have e1:=Lm u8 l 0 (by omega) 0
  have e2:=Lm u8 l 1 (by omega) 0
  by_cases hb:n > 2000∨n > l.length - 2
  ·refine ⟨nilS,fun H => ⟨Tw ?_,by rw [fst,hn,if_pos (.inr hb)]; exact .nil⟩⟩
   simp only [W5,go_sem,e1,e2,w1,w2,w3,w4,w5,w6,w7]
   refine ⟨fun _ => Leave.refl _ _ _,fun hh => ⟨⟨by omega,by simp⟩,by decide,⟨by omega,by omega,by simp⟩,fun _ => Leave.refl _ _ _,fun hh => by simp at hh; omega⟩⟩
  ·refine ⟨_,fun H => ⟨Tw ?_,by rw [fst,hn,if_neg (by omega)]; exact Zeg (l:=l) (a:=2) (b:=2+n) (n:=2+n - 2) (g:=g&&decide (((2+n:Nat):Int)=l.length)) (by simp) (by simp; omega)⟩⟩
   simp only [W5,go_sem,e1,e2,w1,w2,w3,w4,w5,w6,w7]
   refine ⟨fun hh => by omega,fun hh => ⟨⟨by omega,by simp⟩,by decide,⟨by omega,by omega,by simp⟩,fun hh => by simp at hh; omega,fun hh => ⟨⟨by omega,by simp⟩,Leave.refl _ _ _⟩⟩⟩
set_option maxRecDepth 10000
theorem Z02 {H:AH} {n:Nat} (h1:1≤n) (h2:n≤1048576):Called Tryz.prog F.slices_Grow_byte_byte [nilS,I n] H (.row H.length 0 0 n) (H++[⟨bs (List.replicate n 0),1,true⟩]):=by
 have e:(List.replicate n [AV.lit (.int .u8 0)]).flatten=bs (List.replicate n 0):=by
  rw [bs,List.map_replicate,List.flatten_replicate_singleton]; rfl
 have w0:IntKind.i64.wrap 0=0:=by decide
 have w1:=w64 (n:Int) (by omega) (by omega)
 refine Ry ?_
 simp only [Ve,go_sem,Zf1,Uj,w0,w1,e]
 refine ⟨fun hh => by omega,fun _ => ⟨fun _ => ⟨⟨by omega,by omega,by omega⟩,⟨by simp,by omega⟩,Leave.refl _ _ _⟩,fun hh => by omega⟩⟩
theorem Au {α:Type} {ls:List (List α)} {k:Nat} (h:k<ls.length):(ls.take (k+1)).flatten=(ls.take k).flatten++ls.getD k []:=by
 rw [Yx h [],List.flatten_append]; simp
theorem Zh3 {α:Type} (ls:List (List α)) (k:Nat):ls.flatten=(ls.take k).flatten++(ls.drop k).flatten:=by
 rw [← List.flatten_append,List.take_append_drop]
theorem Zpt {H:AH} {ls:List (List UInt8)} (g:Bool) (h1:1≤ls.flatten.length) (h2:ls.flatten.length≤1048576) (h3:ls.length≤1048576):Called Tryz.prog F.slices_Concat_byte_byte [.view (ls.map fun y => vB y false) ls.length g] H (vB ls.flatten false) H:=by
 have hsp:∀ k,(ls.take k).flatten.length≤ls.flatten.length:=fun k => by rw [Zh3 ls k,List.length_append]; omega
 refine Sx ?_
 simp only [Ww,go_sem]
 refine Z4 _ (fun (k:Nat) => ([(0,.view (ls.map fun y => vB y false) ls.length g),(3,I ((ls.take k).flatten.length:Nat)),(9,.view (ls.map fun y => vB y false) ls.length g),(10,I ls.length),(11,I k)],H)) (fun k => k≤ls.length) (fun k => ls.length - k) 0 (Nat.zero_le _) rfl ?_
 intro k hk
 have hs:=hsp k
 have hs1:=hsp (k+1)
 simp only [go_sem]
 refine ⟨fun hh => ?_,fun hh => ?_⟩
 ·have hk:k<ls.length:=by omega
  have e1:=Lm (fun y => vB y false) ls k hk []
  have e2:=Au hk
  rw [e2,List.length_append] at hs1
  have w1:IntKind.i64.wrap (((ls.take k).flatten.length:Int)+((ls.getD k []).length:Int))=(((ls.take (k+1)).flatten.length:Nat):Int):=by rw [w64 _ (by omega) (by omega),e2,List.length_append]; omega
  have w2:IntKind.i64.wrap ((k:Int)+1)=((k+1:Nat):Int):=by rw [w64 _ (by omega) (by omega)]; omega
  simp only [go_sem,e1,w1,w2]
  refine ⟨⟨by omega,by omega,by simp⟩,fun hh => by omega,fun _ => ⟨k+1,rfl,by omega,by omega⟩⟩
 ·obtain rfl:k=ls.length:=by omega
  rw [List.take_length]
  refine Za (Z02 h1 h2) (fun h => absurd h (by decide)) ?_
  simp only [go_sem]
  refine Z4 _ (fun (k:Nat) => ([(6,.row H.length 0 (ls.take k).flatten.length ls.flatten.length),(25,.view (ls.map fun y => vB y false) ls.length g),(26,I ls.length),(27,I k)],H++[⟨bs ((ls.take k).flatten++List.replicate (ls.flatten.length - (ls.take k).flatten.length) 0),1,true⟩])) (fun k => k≤ls.length) (fun k => ls.length - k) 0 (Nat.zero_le _) rfl ?_
  intro k hk
  have hs:=hsp k
  have hs1:=hsp (k+1)
  simp only [go_sem]
  refine ⟨fun hh => ?_,fun hh => ?_⟩
  ·have hk:k<ls.length:=by omega
   have e1:=Lm (fun y => vB y false) ls k hk []
   have e2:=Au hk
   rw [e2,List.length_append] at hs1
   have w2:IntKind.i64.wrap ((k:Int)+1)=((k+1:Nat):Int):=by rw [w64 _ (by omega) (by omega)]; omega
   have eL:appL 1 0 (ls.take k).flatten.length (ls.getD k []).length (ls.getD k []).length ls.flatten.length=ls.flatten.length:=by
    rw [appL]; split <;> omega
   have eC:appC 1 (bs ((ls.take k).flatten++List.replicate (ls.flatten.length - (ls.take k).flatten.length) 0)) (bs (ls.getD k [])) 0 (ls.take k).flatten.length (ls.getD k []).length ls.flatten.length=bs ((ls.take (k+1)).flatten++List.replicate (ls.flatten.length - (ls.take (k+1)).flatten.length) 0):=by
    rw [e2,appC]
    split
    ·rename_i h0
     have h4:(ls.getD k []).length=0:=by omega
     rw [List.eq_nil_of_length_eq_zero h4,List.append_nil]
     simp [bs]
    ·simp only [bs,← List.map_take,← List.map_drop,← List.map_append,Nat.zero_add,Nat.mul_one]
     rw [List.take_append_of_le_length (Nat.le_refl _),List.take_length,List.drop_append,List.drop_eq_nil_of_le (by omega),List.nil_append,List.drop_replicate,List.length_append]
     congr 3
     omega
   simp only [go_sem,e1,w2,eL,eC,Yz,← e2,List.length_map]
   refine ⟨⟨by omega,by omega⟩,⟨by omega,by rw [List.length_replicate]; omega,by omega⟩,k+1,?_,rfl,by omega,by omega⟩
   rw [e2,List.length_append]
  ·obtain rfl:k=ls.length:=by omega
   simp only [List.take_length,Nat.sub_self,List.replicate_zero,List.append_nil]
   exact Zc (Vd (Vl _) (by decide) (by rw [Zt,Nat.mul_one]) (Y1 _) _ _ (Zt _).symm)
/-! ### Journals -/
structure JR (H:AH) (j f:Nat) (x:AV) (T E:Nat) (rs:List (List UInt8)) (sp:Bool):Prop where
 hj:j<H.length
 oj:obj H j=⟨[.ptr f 0,I T,I E,x,Bl sp],0,true⟩
 gr:GR H x (rs.map fun r => vB r false)
 nx:rid x≠some j
theorem JR.frame {H H':AH} {j f:Nat} {x:AV} {T E:Nat} {rs:List (List UInt8)} {sp:Bool} (h:JR H j f x T E rs sp) {S:Nat→Prop} (hf:Fr H H' S) (h1:¬ S j) (h2:∀ q,rid x=some q→¬ S q):JR H' j f x T E rs sp :=
 ⟨Nat.lt_of_lt_of_le h.hj hf.1,(hf.2 j h.hj h1).trans h.oj,h.gr.frame hf h2,h.nx⟩
def Zfk (N E:Nat) (sp:Bool):Nat:=if sp then 0 else min 2000 (N - 48 - E - 2)
theorem Ztt {H:AH} {j f r:Nat} {x:AV} {T E:Nat} {rs:List (List UInt8)} {sp:Bool} {B:List UInt8} (hF:FL H f r B) (hJ:JR H j f x T E rs sp) (hB:B.length≤1048576) (hE:E≤1048576):Called Tryz.prog F.journal_Journal_Free [.ptr j 0] H (I (Zfk B.length E sp)) H:=by
 refine Qu ?_
 simp only [Vo,go_sem,hJ.oj,hJ.hj]
 refine ⟨fun hh => ?_,fun hh => Za (Zjx hF) (fun _ => rfl) ?_⟩
 ·subst hh; exact Zl rfl
 ·subst hh
  have w1:=w64 ((B.length:Int) - 48) (by omega) (by omega)
  have w2:=w64 ((B.length:Int) - 48 - E) (by omega) (by omega)
  have w3:=w64 ((B.length:Int) - 48 - E - 2) (by omega) (by omega)
  simp only [go_sem,hJ.oj,hJ.hj,w1,w2,w3]
  refine Zl (congrArg (fun n:Int => I n) ?_)
  simp only [Zfk,Bool.false_eq_true,if_false]
  split <;> (try split) <;> (try split) <;> omega
def recB (r:List UInt8):List UInt8:=beN 2 r.length++r
def T0 (t e:Nat):List UInt8:=beN 8 t++(beN 8 e++beN 8 t)
def okApp (N E:Nat) (sp:Bool) (r:List UInt8):Prop:=sp=false∧1≤r.length∧r.length≤2000∧r.length≤Zfk N E sp
theorem Wc (t e:Nat):(T0 t e).length=24:=by simp [T0,Zm]
theorem Xf (r:List UInt8):(recB r).length=r.length+2:=by simp [recB,Zm]; omega
theorem Zpm {H:AH} {j f r:Nat} {x:AV} {T E:Nat} {rs:List (List UInt8)} {sp:Bool} {B:List UInt8} (hF:FL H f r B) (hJ:JR H j f x T E rs sp) (hB:B.length≤1048576) (hE:E≤1048576) (hT:T≤1048576) {l:List UInt8} {g:Bool} (hok:okApp B.length E sp l) :
  Called Tryz.prog F.journal_Journal_writes [.ptr j 0,vB l g] H (.tup [.agg [I (48+E:Nat),vB (recB l) false,I ((T+1)%2*24:Nat),vB (T0 (T+1) (E+2+l.length)) false],nilE]) H:=by
 obtain ⟨rfl,h1,h2,h3⟩:=hok
 refine Xe ?_
 have hj:=hJ.hj
 have hj1:j<H.length+1:=by omega
 have hj2:j<H.length+2:=by omega
 have hj3:j<H.length+3:=by omega
 have w1:IntKind.i64.wrap ((T:Int)+1)=((T+1:Nat):Int):=by rw [w64 _ (by omega) (by omega)]; omega
 have w2:IntKind.i64.wrap (48+(E:Int))=((48+E:Nat):Int):=by rw [w64 _ (by omega) (by omega)]; omega
 have w3:IntKind.u8.wrap ((l.length:Int).fdiv (2^8))=((UInt8.ofNat (l.length / 256)).toNat:Int):=u8sh l.length 1
 have w4:IntKind.u8.wrap (l.length:Int)=((UInt8.ofNat l.length).toNat:Int):=by simp only [IntKind.wrap,IntKind.bits,IntKind.signed]; simp
 have w5:(((T+1:Nat):Int).tmod 2)=(((T+1)%2:Nat):Int):=by rw [Int.tmod_eq_emod_of_nonneg (by omega)]; omega
 have w6:IntKind.i64.wrap ((((T+1)%2:Nat):Int)*24)=(((T+1)%2*24:Nat):Int):=by rw [w64 _ (by omega) (by omega)]; omega
 have w7:IntKind.i64.wrap ((E:Int)+2)=((E+2:Nat):Int):=by rw [w64 _ (by omega) (by omega)]; omega
 have w8:IntKind.i64.wrap (((E+2:Nat):Int)+(l.length:Int))=((E+2+l.length:Nat):Int):=by rw [w64 _ (by omega) (by omega)]; omega
 simp only [Yt,go_sem,hJ.oj,hJ.hj,Z1 _ _ hJ.hj,hj1]
 refine ⟨fun hh => by simp at hh; omega,fun _ => Za (Ztt (hF.frame (Fr.app _ _ (fun _ => False)) id id) (hJ.frame (Fr.app _ _ (fun _ => False)) id (fun _ _ => id)) hB hE) (fun _ => rfl) ?_⟩
 simp only [go_sem,hJ.oj,hJ.hj,Z1 _ _ hJ.hj,hj1,w1]
 refine ⟨fun hh => by omega,fun _ => Za (N8 (by omega)) (fun _ => rfl) ?_⟩
 simp only [go_sem,hJ.oj,hJ.hj,Z1 _ _ hJ.hj,hj1,hj2,w1,w2,w3,w4,w5,w6,w7,w8]
 refine ⟨by decide,⟨Zt l,Y1 _,Yz _,by omega⟩,by decide,Za ⟨rfl,fun G => N8 (by omega)⟩ (fun _ => rfl) ?_⟩
 simp only [go_sem,Y1]
 have e1:[beN 8 (T+1),beN 8 (E+2+l.length),beN 8 (T+1)].flatten=T0 (T+1) (E+2+l.length):=by simp [T0]
 have e2:∀ G,Called Tryz.prog F.slices_Concat_byte_byte [.view [vB (beN 8 (T+1)) false,vB (beN 8 (E+2+l.length)) false,vB (beN 8 (T+1)) false] 3 true] G (vB (T0 (T+1) (E+2+l.length)) false) G:=by
  intro G
  have:=Zpt (H:=G) (ls:=[beN 8 (T+1),beN 8 (E+2+l.length),beN 8 (T+1)]) true (by rw [e1,Wc]; decide) (by rw [e1,Wc]; decide) (by simp)
  rw [e1] at this
  exact this
 refine Za ⟨rfl,fun G => e2 _⟩ (fun _ => rfl) ?_
 simp only [go_sem]
 have e3:(AV.view (u8 (UInt8.ofNat (l.length / 256))::u8 (UInt8.ofNat l.length)::bs l) (2+l.length) false)=vB (recB l) false:=by
  rw [vB,Xf,Nat.add_comm 2]
  simp [recB,beN,List.range_succ,bs]
 exact Zc (by rw [e3]; rfl)
theorem Za8 {H:AH} {j f r:Nat} {x:AV} {T E:Nat} {rs:List (List UInt8)} {sp:Bool} {B:List UInt8} (hF:FL H f r B) (hJ:JR H j f x T E rs sp) (hB:B.length≤1048576) (hE:E≤1048576) {l:List UInt8} {g:Bool} (hl:l.length≤1048576) (hno:¬ okApp B.length E sp l) :
  ∃ c,Called Tryz.prog F.journal_Journal_writes [.ptr j 0,vB l g] H (.tup [.agg [I 0,nilS,I 0,nilS],eAV c]) H:=by
 have hj:=hJ.hj
 have hj1:j<H.length+1:=by omega
 by_cases h1:sp=true
 ·subst h1
  refine ⟨7,Xe ?_⟩
  simp only [Yt,go_sem,hJ.oj,hJ.hj,Z1 _ _ hJ.hj,hj1]
  exact Zc rfl
 ·obtain rfl:sp=false:=by simpa using h1
  by_cases h2:1≤l.length∧l.length≤2000
  ·refine ⟨6,Xe ?_⟩
   simp only [Yt,go_sem,hJ.oj,hJ.hj,Z1 _ _ hJ.hj,hj1]
   refine ⟨fun hh => by simp at hh; omega,fun _ => Za (Ztt (hF.frame (Fr.app _ _ (fun _ => False)) id id) (hJ.frame (Fr.app _ _ (fun _ => False)) id (fun _ _ => id)) hB hE) (fun _ => rfl) ?_⟩
   simp only [go_sem]
   refine ⟨fun _ => Zc rfl,fun hh => absurd ⟨rfl,h2.1,h2.2,by omega⟩ hno⟩
  ·refine ⟨1,Xe ?_⟩
   simp only [Yt,go_sem,hJ.oj,hJ.hj,Z1 _ _ hJ.hj,hj1]
   refine ⟨fun _ => Zc rfl,fun hh => by simp at hh; omega⟩
set_option maxRecDepth 10000
def Zdj (B:List UInt8) (E:Nat) (l:List UInt8):List UInt8:=wr B (48+E) (recB l)
def appB (B:List UInt8) (T E:Nat) (l:List UInt8):List UInt8:=wr (Zdj B E l) ((T+1)%2*24) (T0 (T+1) (E+2+l.length))
theorem S9 {N E:Nat} {sp:Bool} {l:List UInt8} (h:okApp N E sp l):48+E+2+l.length≤N:=by
 obtain ⟨rfl,h1,h2,h3⟩:=h
 simp only [Zfk,Bool.false_eq_true,if_false] at h3
 omega
theorem P4 {B:List UInt8} {E:Nat} {sp:Bool} {l:List UInt8} (h:okApp B.length E sp l):(Zdj B E l).length=B.length:=Nz (by rw [Xf]; have:=S9 h; omega)
theorem appB_length {B:List UInt8} {T E:Nat} {sp:Bool} {l:List UInt8} (h:okApp B.length E sp l):(appB B T E l).length=B.length:=by
 have h1:=P4 h
 have h2:=S9 h
 rw [appB,Nz (by rw [Wc,h1]; omega),h1]
theorem FL.wr2 {H:AH} {f r:Nat} {B:List UInt8} (h:FL H f r B) {B':List UInt8} (hl:B'.length=B.length):FL (setO H r (bs B')) f r B' :=
 ⟨by rw [Zk]; exact h.hf,by rw [Zk]; exact h.hr,h.ne,by rw [W7 _ _ h.ne.symm,h.of,hl],by rw [Yj _ _ h.hr,h.or]⟩
theorem t_append {H:AH} {j f r:Nat} {x:AV} {T E:Nat} {rs:List (List UInt8)} {sp:Bool} {B:List UInt8} (hF:FL H f r B) (hJ:JR H j f x T E rs sp) (hB:B.length≤1048576) (hE:E≤1048576) (hT:T≤1048575) (hn:rs.length≤1048576)
  (hjr:j≠r) (hjf:j≠f) (hxr:rid x≠some r) (hxf:rid x≠some f) {l:List UInt8} {g:Bool} (hok:okApp B.length E sp l) :
  ∃ H' x',Called Tryz.prog F.journal_Journal_Append [.ptr j 0,vB l g] H nilE H'∧FL H' f r (appB B T E l)∧JR H' j f x' (T+1) (E+2+l.length) (rs++[l]) false∧New H x x'∧Fr H H' (fun i => i=j∨i=r∨rid x=some i):=by
 have hroom:=S9 hok
 have hl2:l.length≤2000:=hok.2.2.1
 have hsp:sp=false:=hok.1
 subst hsp
 have hj:=hJ.hj
 have hf:=hF.hf
 have hr:=hF.hr
 have hl1:=P4 hok
 have hl3:=appB_length (T:=T) hok
 -- The heap behind both writes.
 let ag:AV:=.agg [I (48+E:Nat),vB (recB l) false,I ((T+1)%2*24:Nat),vB (T0 (T+1) (E+2+l.length)) false]
 let o5:AObj:=⟨[I (48+E:Nat),vB (recB l) false,I ((T+1)%2*24:Nat),vB (T0 (T+1) (E+2+l.length)) false],0,true⟩
 let oa:AObj:=⟨[I (48+E:Nat),vB (recB l) false],0,true⟩
 let ob:AObj:=⟨[I ((T+1)%2*24:Nat),vB (T0 (T+1) (E+2+l.length)) false],0,true⟩
 obtain ⟨Ha,hHa⟩:∃ Ha,Ha=setO H r (bs (Zdj B E l)):=⟨_,rfl⟩
 obtain ⟨Hb,hHb⟩:∃ Hb,Hb=setO H r (bs (appB B T E l)):=⟨_,rfl⟩
 have hab:setO Ha r (bs (appB B T E l))=Hb:=by rw [hHa,hHb,Vj]
 have hla:Ha.length=H.length:=by rw [hHa,Zk]
 have hlb:Hb.length=H.length:=by rw [hHb,Zk]
 have hFa:FL Ha f r (Zdj B E l):=hHa ▸ hF.wr2 hl1
 have hFb:FL Hb f r (appB B T E l):=hHb ▸ hF.wr2 hl3
 have hfa:Fr H Ha (fun i => i=r):=hHa ▸ Fr.set H _ rfl
 have hfb:Fr H Hb (fun i => i=r):=hHb ▸ Fr.set H _ rfl
 obtain ⟨H2,hH2⟩:∃ H2,H2=Hb++[o5,oa,ob]:=⟨_,rfl⟩
 let G:Nat→AH:=fun k => match k with
  | 0 => H++[o5]
  | 1 => Ha++[o5,oa]
  | _ => H2
 have hF2:FL H2 f r (appB B T E l):=hH2 ▸ hFb.frame (Fr.app _ _ (fun _ => False)) id id
 have hfr2:Fr H H2 (fun i => i=r):=hH2 ▸ hfb.trans (Fr.app _ _ _)
 have hJ2:JR H2 j f x T E rs false:=hJ.frame hfr2 hjr (fun q hq h => hxr (h ▸ hq))
 have hj2:=hJ2.hj
 -- The stores,and what is appended to all.
 obtain ⟨H3,hH3⟩:∃ H3,H3=setO H2 j [.ptr f 0,I (T+1:Nat),I (E+2+l.length:Nat),x,Bl false]:=⟨_,rfl⟩
 have hfr3:Fr H2 H3 (fun i => i=j):=hH3 ▸ Fr.set _ _ rfl
 have hG3:GR H3 x (rs.map fun r => vB r false):=hJ2.gr.frame hfr3 (fun q hq h => hJ2.nx (h ▸ hq))
 obtain ⟨a1,a2,a3,a4⟩:=hG3.app (s:=.view [vB l false] 1 true) (v:=vB l false) (b:=24) rfl rfl rfl rfl (by simp; omega)
 refine ⟨setO (appH 1 H3 (.view [vB l false] 1 true) x) j [.ptr f 0,I (T+1:Nat),I (E+2+l.length:Nat),appV 1 H3 (.view [vB l false] 1 true) x,Bl false],appV 1 H3 (.view [vB l false] 1 true) x,?_,?_,?_,?_,?_⟩
 ·refine Vg ?_
  simp only [Xu,go_sem]
  refine Za (Zpm hF hJ hB hE (by omega) hok) (fun _ => rfl) ?_
  simp only [go_sem]
  refine Z4 _ (fun (k:Nat) => ([(0,.ptr j 0),(1,vB l g),(19,ag),(20,I k)],G k)) (fun k => k≤2) (fun k => 2 - k) 0 (by decide) rfl ?_
  intro k hk
  have hk3:k=0∨k=1∨k=2:=by omega
  rcases hk3 with rfl | rfl | rfl
  ·have hF0:FL (H++[o5,oa]) f r B:=hF.frame (Fr.app _ _ (fun _ => False)) id id
   have q1:=(hJ.frame (Fr.app H [o5,oa] (fun _ => False)) id (fun _ _ => id)).oj
   simp only [o5,oa] at q1
   have hj1:j<H.length+2:=by omega
   simp only [go_sem,ag,G,o5,oa,elt,Nat.reduceMul,q1,hj1]
   refine ⟨fun _ => ⟨by decide,Za (Zd6 hF0 hB (by rw [Xf]; omega)) (fun h => absurd h (by decide)) ?_⟩,fun h => absurd (by decide) h⟩
   simp only [go_sem]
   refine ⟨1,rfl,?_,by omega,by omega⟩
   simp only [U2 _ _ _ hr]; exact congrArg (·++_) hHa.symm
  ·have hF1:FL (Ha++[o5,oa,ob]) f r (Zdj B E l):=hFa.frame (Fr.app _ _ (fun _ => False)) id id
   have q1:=(hJ.frame (hfa.trans (Fr.app _ [o5,oa,ob] _)) hjr (fun q hq h => hxr (h ▸ hq))).oj
   simp only [o5,oa,ob] at q1
   have hj1:j<Ha.length+3:=by omega
   simp only [go_sem,ag,G,o5,oa,ob,elt,Nat.reduceMul,Nat.one_mul,q1,hj1]
   refine ⟨fun _ => ⟨by decide,Za (Zd6 hF1 (by omega) (by rw [Wc]; omega)) (fun h => absurd h (by decide)) ?_⟩,fun h => absurd (by decide) h⟩
   simp only [go_sem]
   refine ⟨2,rfl,?_,by omega,by omega⟩
   simp only [U2 _ _ _ (show r<Ha.length by omega)]; exact (congrArg (·++_) hab).trans hH2.symm
  ·have q2:=hJ2.oj
   have q3:obj H3 j=⟨[.ptr f 0,I (T+1:Nat),I (E+2+l.length:Nat),x,Bl false],0,true⟩:=by rw [hH3,Yj _ _ hj2,q2]
   have hj3:j<H3.length:=by rw [hH3,Zk]; exact hj2
   have w1:IntKind.i64.wrap ((T:Int)+1)=((T+1:Nat):Int):=by rw [w64 _ (by omega) (by omega)]; omega
   have w2:IntKind.i64.wrap (2+(l.length:Int))=((2+l.length:Nat):Int):=by rw [w64 _ (by omega) (by omega)]; omega
   have w3:IntKind.i64.wrap ((E:Int)+((2+l.length:Nat):Int))=((E+2+l.length:Nat):Int):=by rw [w64 _ (by omega) (by omega)]; omega
   simp only [go_sem,G,q2,hj2,Yj _ _ hj2,w1,w2,w3,Vj]
   refine ⟨fun h => absurd h (by decide),fun _ => ?_⟩
   have e3:setO H2 j [AV.ptr f 0,AV.lit (Value.int IntKind.i64 ↑(T+1)),AV.lit (Value.int IntKind.i64 ↑(E+2+l.length)),x,Bl false]=H3:=hH3.symm
   rw [e3]
   refine Za (Ma (Sl.vB _ _) (by omega)) (fun _ => rfl) ?_
   have q4:=Nat.lt_of_lt_of_le hj3 a4.1
   have q5:=(a4.2 j hj3 hJ2.nx).trans q3
   have a5:Ow 1 24 H3 x (AV.view [vB l false] 1 true)=True:=eq_true a1
   simp only [go_sem] at a5
   simp only [go_sem,Y1,a5,a2.sl.one,a2.sl.cells,q4,q5]
   exact Leave.refl _ _ _
 ·exact ((hF2.frame hfr3 (fun h => hjf h.symm) (fun h => hjr h.symm)).frame a4 hxf hxr).frame (Fr.set _ _ (S:=fun i => i=j) rfl) (fun h => hjf h.symm) (fun h => hjr h.symm)
 ·have hj3:j<H3.length:=by rw [hH3,Zk]; exact hj2
  have hj4:=Nat.lt_of_lt_of_le hj3 a4.1
  refine ⟨by rw [Zk]; exact hj4,?_,?_,?_⟩
  ·rw [Yj _ _ hj4,a4.2 j hj3 hJ2.nx]
   rw [hH3,Yj _ _ hj2,hJ2.oj]
  ·have:(rs++[l]).map (fun r => vB r false)=rs.map (fun r => vB r false)++[vB l false]:=by simp
   rw [this]
   exact a2.frame (Fr.set _ _ (S:=fun i => i=j) rfl) (fun q hq h => by
    rcases a3 q hq with h' | h'
    ·exact hJ2.nx (h ▸ h')
    ·omega)
  ·intro h
   rcases a3 j h with h' | h'
   ·exact hJ2.nx h'
   ·omega
 ·intro q hq
  rcases a3 q hq with h' | h'
  ·exact .inl h'
  ·exact .inr (Nat.le_trans hfr2.1 (Nat.le_trans hfr3.1 h'))
 ·refine (hfr2.mono fun i _ h => .inr (.inl h)).trans ((hfr3.mono fun i _ h => .inl h).trans ((a4.mono fun i _ h => .inr (.inr h)).trans (Fr.set _ _ (.inl rfl))))
set_option maxRecDepth 10000
theorem Z3l:(pfx false).c T.api_Code=true:=by decide
theorem t_appendErr {H:AH} {j f r:Nat} {x:AV} {T E:Nat} {rs:List (List UInt8)} {sp:Bool} {B:List UInt8} (hF:FL H f r B) (hJ:JR H j f x T E rs sp) (hB:B.length≤1048576) (hE:E≤1048576) {l:List UInt8} {g:Bool} (hl:l.length≤1048576) (hno:¬ okApp B.length E sp l) :
  ∃ c,Called Tryz.prog F.journal_Journal_Append [.ptr j 0,vB l g] H (eAV c) H:=by
 obtain ⟨c,hc⟩:=Za8 (g:=g) hF hJ hB hE hl hno
 refine ⟨c,Vg ?_⟩
 simp only [Xu,go_sem]
 refine Za hc (fun _ => rfl) ?_
 simp only [go_sem,Z3l]
 exact Zc rfl
set_option maxRecDepth 10000
def encs (rs:List (List UInt8)):List UInt8:=(rs.map recB).flatten
theorem Ay (r:List UInt8) (rs:List (List UInt8)):encs (r::rs)=recB r++encs rs:=rfl
theorem Rx (a b:List (List UInt8)):encs (a++b)=encs a++encs b:=by simp [encs]
theorem Zx1 {r t:List UInt8} (h2:r.length≤2000):fst (recB r++t)=r:=by
 have h3:(recB r++t).take 2=beN 2 r.length:=by
  rw [recB,List.append_assoc,List.take_append_of_le_length (by rw [Zm]; exact Nat.le_refl _),List.take_of_length_le (by rw [Zm]; exact Nat.le_refl _)]
 have h4:be ((recB r++t).take 2)=r.length:=by rw [h3,Zaw,Nat.mod_eq_of_lt (by omega)]
 have h5:=Xf r
 rw [fst,h4,if_neg (by simp only [List.length_append]; omega),recB,List.append_assoc,List.drop_append,Zm,List.drop_eq_nil_of_le (by rw [Zm]; exact Nat.le_refl _)]
 simp
theorem Z0r {H:AH} {f r:Nat} {B:List UInt8} (hF:FL H f r B) (h64:64≤B.length) (hB:B.length≤1048576) {T e:Nat} {rs:List (List UInt8)} {tl:List UInt8}
  (hs:(if (rd (B.take 24) ((B.length:Int) - 48)).1<(rd ((B.drop 24).take 24) ((B.length:Int) - 48)).1 then rd ((B.drop 24).take 24) ((B.length:Int) - 48) else rd (B.take 24) ((B.length:Int) - 48))=((T:Int),(e:Int)))
  (ha:(B.drop 48).take e=encs rs++tl) (he:48+e≤B.length) (ht:fst tl=[]) (hr:∀ r ∈ rs,1≤r.length∧r.length≤2000) :
  ∃ H' x,Called Tryz.prog F.journal_Open [.ptr f 0] H (.tup [.ptr (H.length+2) 0,nilE]) H'∧JR H' (H.length+2) f x T (encs rs).length rs false∧Fr H H' (fun _ => False)∧∀ q,rid x=some q→H.length≤q:=by
 have k1:(B.take 24).length=24:=by simp; omega
 have k2:((B.drop 24).take 24).length=24:=by simp; omega
 have hlen:((B.drop 48).take e).length=e:=by simp; omega
 have hrl:∀ k,(encs (rs.drop k)++tl).length≤1048576:=by
  intro k
  have h1:=congrArg List.length ha
  have h2:encs rs=encs (rs.take k)++encs (rs.drop k):=by rw [← Rx,List.take_append_drop]
  rw [hlen,h2] at h1
  simp only [List.length_append] at *
  omega
 obtain ⟨fv,hfv⟩:=Classical.axiomOfChoice fun k => Zv0 (hrl k) false
 have hfst:∀ k,k<rs.length→fst (encs (rs.drop k)++tl)=rs.getD k []:=by
  intro k hk
  rw [Vr hk [],Ay,List.append_assoc,Zx1 (hr _ (Tt hk _)).2]
 obtain ⟨m1,m2,hm⟩:∃ a b,rd (B.take 24) ((B.length:Int) - 48)=(a,b):=⟨_,_,rfl⟩
 obtain ⟨n1,n2,hn⟩:∃ a b,rd ((B.drop 24).take 24) ((B.length:Int) - 48)=(a,b):=⟨_,_,rfl⟩
 rw [hm,hn] at hs
 have c0:cut (bs B) 1 0 24=bs (B.take 24):=by rw [E5]; rfl
 have c1:cut (bs B) 1 24 48=bs ((B.drop 24).take 24):=E5 _ _ _
 have c2:cut (bs B) 1 48 (48+e)=bs (encs rs++tl):=by rw [E5,Nat.add_sub_cancel_left,ha]
 have w1:=w64 ((B.length:Int) - 48) (by omega) (by omega)
 have w2:IntKind.i64.wrap (48+(e:Int))=((48+e:Nat):Int):=by rw [w64 _ (by omega) (by omega)]; omega
 obtain ⟨a,b,hab⟩:∃ a b:AObj,(m1<n1→a=⟨[I T,I e],0,true⟩∧b=⟨[I T,I e],0,true⟩)∧(¬ m1<n1→a=⟨[I T,I e],0,true⟩∧b=⟨[I n1,I n2],0,true⟩):=by
  by_cases h:m1<n1
  ·exact ⟨_,_,fun _ => ⟨rfl,rfl⟩,fun h' => absurd h h'⟩
  ·exact ⟨_,_,fun h' => absurd h' h,fun _ => ⟨rfl,rfl⟩⟩
 let vs:List AV:=rs.map fun r => vB r false
 have hvl:vs.length=rs.length:=by simp [vs]
 obtain ⟨X,hX⟩:∃ X:AH,X=H++[a,b,⟨[.ptr f 0,I T,I 0,nilS,Bl false],0,true⟩]:=⟨_,rfl⟩
 have hXl:X.length=H.length+3:=by rw [hX]; simp
 have hj:H.length+2<X.length:=by omega
 have hXo:obj X (H.length+2)=⟨[.ptr f 0,I T,I 0,nilS,Bl false],0,true⟩:=by rw [hX,Y2]; rfl
 obtain ⟨P,hP⟩:∃ P:Nat→AH,P=fun k => setO X (H.length+2) [.ptr f 0,I T,I ((encs (rs.take k)).length:Nat),rA X (vs.take k) k,Bl false]:=⟨_,rfl⟩
 have hPl:∀ k,(P k).length=X.length:=fun k => by rw [hP]; exact Zk _ _ _
 have hPo:∀ k,obj (P k) (H.length+2)=⟨[.ptr f 0,I T,I ((encs (rs.take k)).length:Nat),rA X (vs.take k) k,Bl false],0,true⟩:=fun k => by rw [hP]; simp only; rw [Yj _ _ hj,hXo]
 have hPs:∀ k k',setO (P k) (H.length+2) [.ptr f 0,I T,I ((encs (rs.take k')).length:Nat),rA X (vs.take k') k',Bl false]=P k':=fun k k' => by rw [hP]; exact Vj _ _ _ _
 have hP0:P 0=X:=by rw [hP]; exact Bp hXo hj
 have hrest:∀ k,k<rs.length→encs (rs.drop k)++tl=recB (rs.getD k [])++(encs (rs.drop (k+1))++tl):=fun k hk => by rw [Vr hk [],Ay,List.append_assoc]
 have hel:(encs rs).length+tl.length=e:=by rw [← List.length_append,← ha,hlen]
 refine ⟨hA 1 (P rs.length) vs rs.length,rA X vs rs.length,?_,?_,?_,?_⟩
 ·refine F1 ?_
  simp only [Po,go_sem]
  refine Zs (fun _ => Zjx hF) ?_
  simp only [go_sem]
  refine ⟨fun h => by omega,fun _ => Za (Zps hF hB) (fun _ => rfl) ?_⟩
  simp only [go_sem,w1,c0,c1]
  refine ⟨⟨⟨by omega,by omega⟩,by simp⟩,Za ⟨rfl,fun G => Zd2 k1 _ _⟩ (fun _ => rfl) ?_⟩
  simp only [go_sem,w1,c0,c1,hm]
  refine ⟨⟨⟨by omega,by omega,by omega⟩,by simp⟩,Za ⟨rfl,fun G => Zd2 k2 _ _⟩ (fun _ => rfl) ?_⟩
  simp only [go_sem,hm,hn]
  have ev:AV.view (bs (encs rs++tl)) (48+e - 48) false=vB (encs (rs.drop 0)++tl) false:=by
   rw [vB,List.drop_zero,List.length_append,hel,Nat.add_sub_cancel_left]
  have hEk:∀ k,k<rs.length→(encs (rs.take (k+1))).length=(encs (rs.take k)).length+(2+(rs.getD k []).length)∧(encs (rs.take (k+1))).length≤(encs rs).length:=by
   intro k hk
   have h1:encs rs=encs (rs.take (k+1))++encs (rs.drop (k+1)):=by rw [← Rx,List.take_append_drop]
   have h2:=congrArg List.length h1
   rw [Yx hk [],Rx] at h2 ⊢
   have h3:(encs [rs.getD k []]).length=2+(rs.getD k []).length:=by simp [encs,Xf]; omega
   simp only [List.length_append,h3] at h2 ⊢
   exact ⟨trivial,by omega⟩
  have hrn:∀ k,k≤rs.length→k≤(encs (rs.take k)).length:=by
   intro k
   induction k with
   | zero => exact fun _ => Nat.zero_le _
   | succ k ih => intro hk; have h1:=(hEk k hk).1; have h2:=ih (by omega); omega
  have hrn2:rs.length≤(encs rs).length:=by have:=hrn rs.length (Nat.le_refl _); rwa [List.take_length] at this
  have hjk:∀ k,H.length+2<(P k).length:=fun k => by rw [hPl]; exact hj
  refine ⟨fun hc => ?_,fun hc => ?_⟩
  ·simp only [hc,if_true,Prod.mk.injEq] at hs
   obtain ⟨rfl,rfl⟩:=hs
   obtain ⟨ea,eb⟩:=hab.1 hc
   rw [ea,eb] at hX
   simp only [w2,Int.toNat_natCast,c2,ev]
   rw [← hX,← hP0]
   refine ⟨⟨⟨by omega,by omega,by omega⟩,by simp⟩,Za (hfv 0 _).1 (fun _ => rfl) ?_⟩
   simp only [go_sem]
   refine Z4 _ (fun (k:Nat) => ([(7,.ptr (H.length+2) 0),(8,vB (encs (rs.drop k)++tl) false),(9,fv k)],hA 1 (P k) (vs.take k) k)) (fun k => k≤rs.length) (fun k => rs.length - k) 0 (Nat.zero_le _) rfl ?_
   intro k hk
   obtain ⟨f1,f2⟩:=hfv k (hA 1 (P k) (vs.take k) k)
   simp only [go_sem,f2.s]
   refine ⟨fun hh => ?_,fun hh => ?_⟩
   ·have hk:k<rs.length:=by
     refine Classical.byContradiction fun h => ?_
     obtain rfl:k=rs.length:=by omega
     rw [List.drop_length] at hh
     simp [encs,ht] at hh
    have q1:obj (hA 1 (P k) (vs.take k) k) (H.length+2)=_:=(Ez (hjk k)).trans (hPo k)
    have q2:H.length+2<(hA 1 (P k) (vs.take k) k).length:=Nat.lt_of_lt_of_le (hjk k) E0
    rw [hfst k hk] at f2
    have hrk:=hr _ (Tt hk [])
    simp only [q1,q2,go_sem]
    refine Za (Ma f2 (by omega)) (fun _ => rfl) ?_
    obtain ⟨h1,h2,h3⟩:=Pz (H:=P k) (sz:=1) (n:=k) (vs:=vs.take k) (by simp; omega) (s:=.view [vB (rs.getD k []) false] 1 true) (cs:=[vB (rs.getD k []) false]) (b:=24) rfl rfl rfl rfl (by omega)
    rw [Ee (hPl k)] at h1 h2 h3
    simp only [go_sem] at h1
    rw [Ee (hPl k)] at h2
    have e1:vs.take k++[vB (rs.getD k []) false]=vs.take (k+1):=by
     rw [Yx (by omega) .junk]; congr 2; simp [vs,List.getD_eq_getElem?_getD,hk]
    rw [e1] at h2 h3
    have hE:=hEk k hk
    have sk:=Lw (sz:=1) (H:=P k) (vs:=vs.take k) (n:=k) (by simp; omega)
    have su:=Lw (sz:=1) (H:=P k) (vs:=vs.take (k+1)) (n:=k+1) (by simp; omega)
    rw [Ee (hPl k)] at sk su
    have g1:obj (hA 1 (P k) (vs.take (k+1)) (k+1)) (H.length+2)=_:=(Ez (hjk k)).trans (hPo k)
    have g2:H.length+2<(hA 1 (P k) (vs.take (k+1)) (k+1)).length:=Nat.lt_of_lt_of_le (hjk k) E0
    have g3:∀ c,obj (setO (hA 1 (P k) (vs.take (k+1)) (k+1)) (H.length+2) c) (H.length+2)=⟨c,0,true⟩:=fun c => by rw [Yj _ _ g2,g1]
    have g4:setO (hA 1 (P k) (vs.take (k+1)) (k+1)) (H.length+2) [.ptr f 0,I T,I ((encs (rs.take (k+1))).length:Nat),rA X (vs.take (k+1)) (k+1),Bl false]=hA 1 (P (k+1)) (vs.take (k+1)) (k+1):=by rw [Zuk (hjk k),hPs]
    have w3:IntKind.i64.wrap (2+((rs.getD k []).length:Int))=((2+(rs.getD k []).length:Nat):Int):=by rw [w64 _ (by omega) (by omega)]; omega
    have w4:IntKind.i64.wrap (((encs (rs.take k)).length:Int)+((2+(rs.getD k []).length:Nat):Int))=((encs (rs.take (k+1))).length:Int):=by rw [w64 _ (by omega) (by omega)]; omega
    have h1':=eq_true h1
    simp only [go_sem,sk.n] at h1'
    have ev2:AV.view (cut (bs (encs (rs.drop k)++tl)) 1 (2+(rs.getD k []).length) ((encs (rs.drop k)).length+tl.length)) ((encs (rs.drop k)).length+tl.length - (2+(rs.getD k []).length)) false=vB (encs (rs.drop (k+1))++tl) false:=by
     have h5:=hrest k hk
     have h6:=Xf (rs.getD k [])
     have h7:=congrArg List.length h5
     simp only [List.length_append] at h7
     rw [E5,h5,List.drop_left' (h6.trans (Nat.add_comm _ _)),List.take_of_length_le (by simp only [List.length_append]; omega),vB]
     congr 1
     simp only [List.length_append]
     omega
    have h8:=congrArg List.length (hrest k hk)
    have h9:=Xf (rs.getD k [])
    simp only [List.length_append] at h8
    simp only [go_sem,Y1,q1,q2,h2,h3,sk.n,h1',su.one,su.cells,g1,g2,g3,f2.lenT,f2.n,w3,w4,Vj,ev2,g4,Zt]
    refine ⟨⟨by omega,by omega⟩,Za (hfv (k+1) _).1 (fun _ => rfl) ?_⟩
    simp only [go_sem]
    exact ⟨k+1,rfl,rfl,by omega,by omega⟩
   ·have hk:k=rs.length:=by
     refine Classical.byContradiction fun h => ?_
     rw [hfst k (by omega)] at hh
     have:=(hr _ (Tt (show k<rs.length by omega) [])).1
     omega
    subst hk
    have e1:vs.take rs.length=vs:=List.take_of_length_le (by omega)
    simp only [go_sem,e1]
    exact Leave.refl _ _ _
  ·rw [if_neg hc] at hs
   simp only [Prod.mk.injEq] at hs
   obtain ⟨rfl,rfl⟩:=hs
   obtain ⟨ea,eb⟩:=hab.2 hc
   rw [ea,eb] at hX
   simp only [w2,Int.toNat_natCast,c2,ev]
   rw [← hX,← hP0]
   refine ⟨⟨⟨by omega,by omega,by omega⟩,by simp⟩,Za (hfv 0 _).1 (fun _ => rfl) ?_⟩
   simp only [go_sem]
   refine Z4 _ (fun (k:Nat) => ([(7,.ptr (H.length+2) 0),(8,vB (encs (rs.drop k)++tl) false),(9,fv k)],hA 1 (P k) (vs.take k) k)) (fun k => k≤rs.length) (fun k => rs.length - k) 0 (Nat.zero_le _) rfl ?_
   intro k hk
   obtain ⟨f1,f2⟩:=hfv k (hA 1 (P k) (vs.take k) k)
   simp only [go_sem,f2.s]
   refine ⟨fun hh => ?_,fun hh => ?_⟩
   ·have hk:k<rs.length:=by
     refine Classical.byContradiction fun h => ?_
     obtain rfl:k=rs.length:=by omega
     rw [List.drop_length] at hh
     simp [encs,ht] at hh
    have q1:obj (hA 1 (P k) (vs.take k) k) (H.length+2)=_:=(Ez (hjk k)).trans (hPo k)
    have q2:H.length+2<(hA 1 (P k) (vs.take k) k).length:=Nat.lt_of_lt_of_le (hjk k) E0
    rw [hfst k hk] at f2
    have hrk:=hr _ (Tt hk [])
    simp only [q1,q2,go_sem]
    refine Za (Ma f2 (by omega)) (fun _ => rfl) ?_
    obtain ⟨h1,h2,h3⟩:=Pz (H:=P k) (sz:=1) (n:=k) (vs:=vs.take k) (by simp; omega) (s:=.view [vB (rs.getD k []) false] 1 true) (cs:=[vB (rs.getD k []) false]) (b:=24) rfl rfl rfl rfl (by omega)
    rw [Ee (hPl k)] at h1 h2 h3
    simp only [go_sem] at h1
    rw [Ee (hPl k)] at h2
    have e1:vs.take k++[vB (rs.getD k []) false]=vs.take (k+1):=by
     rw [Yx (by omega) .junk]; congr 2; simp [vs,List.getD_eq_getElem?_getD,hk]
    rw [e1] at h2 h3
    have hE:=hEk k hk
    have sk:=Lw (sz:=1) (H:=P k) (vs:=vs.take k) (n:=k) (by simp; omega)
    have su:=Lw (sz:=1) (H:=P k) (vs:=vs.take (k+1)) (n:=k+1) (by simp; omega)
    rw [Ee (hPl k)] at sk su
    have g1:obj (hA 1 (P k) (vs.take (k+1)) (k+1)) (H.length+2)=_:=(Ez (hjk k)).trans (hPo k)
    have g2:H.length+2<(hA 1 (P k) (vs.take (k+1)) (k+1)).length:=Nat.lt_of_lt_of_le (hjk k) E0
    have g3:∀ c,obj (setO (hA 1 (P k) (vs.take (k+1)) (k+1)) (H.length+2) c) (H.length+2)=⟨c,0,true⟩:=fun c => by rw [Yj _ _ g2,g1]
    have g4:setO (hA 1 (P k) (vs.take (k+1)) (k+1)) (H.length+2) [.ptr f 0,I T,I ((encs (rs.take (k+1))).length:Nat),rA X (vs.take (k+1)) (k+1),Bl false]=hA 1 (P (k+1)) (vs.take (k+1)) (k+1):=by rw [Zuk (hjk k),hPs]
    have w3:IntKind.i64.wrap (2+((rs.getD k []).length:Int))=((2+(rs.getD k []).length:Nat):Int):=by rw [w64 _ (by omega) (by omega)]; omega
    have w4:IntKind.i64.wrap (((encs (rs.take k)).length:Int)+((2+(rs.getD k []).length:Nat):Int))=((encs (rs.take (k+1))).length:Int):=by rw [w64 _ (by omega) (by omega)]; omega
    have h1':=eq_true h1
    simp only [go_sem,sk.n] at h1'
    have ev2:AV.view (cut (bs (encs (rs.drop k)++tl)) 1 (2+(rs.getD k []).length) ((encs (rs.drop k)).length+tl.length)) ((encs (rs.drop k)).length+tl.length - (2+(rs.getD k []).length)) false=vB (encs (rs.drop (k+1))++tl) false:=by
     have h5:=hrest k hk
     have h6:=Xf (rs.getD k [])
     have h7:=congrArg List.length h5
     simp only [List.length_append] at h7
     rw [E5,h5,List.drop_left' (h6.trans (Nat.add_comm _ _)),List.take_of_length_le (by simp only [List.length_append]; omega),vB]
     congr 1
     simp only [List.length_append]
     omega
    have h8:=congrArg List.length (hrest k hk)
    have h9:=Xf (rs.getD k [])
    simp only [List.length_append] at h8
    simp only [go_sem,Y1,q1,q2,h2,h3,sk.n,h1',su.one,su.cells,g1,g2,g3,f2.lenT,f2.n,w3,w4,Vj,ev2,g4,Zt]
    refine ⟨⟨by omega,by omega⟩,Za (hfv (k+1) _).1 (fun _ => rfl) ?_⟩
    simp only [go_sem]
    exact ⟨k+1,rfl,rfl,by omega,by omega⟩
   ·have hk:k=rs.length:=by
     refine Classical.byContradiction fun h => ?_
     rw [hfst k (by omega)] at hh
     have:=(hr _ (Tt (show k<rs.length by omega) [])).1
     omega
    subst hk
    have e1:vs.take rs.length=vs:=List.take_of_length_le (by omega)
    simp only [go_sem,e1]
    exact Leave.refl _ _ _
 ·have sf:=Lw (sz:=1) (H:=P rs.length) (vs:=vs) (n:=rs.length) (by omega)
  have hfin:rs.take rs.length=rs:=List.take_length
  have e1:vs.take rs.length=vs:=List.take_of_length_le (by omega)
  have hPn:=hPo rs.length
  rw [hfin,e1] at hPn
  have hjl:H.length+2<(P rs.length).length:=by rw [hPl]; exact hj
  refine ⟨Nat.lt_of_lt_of_le hjl E0,(Ez hjl).trans hPn,?_,?_⟩
  ·by_cases h0:rs.length=0
   ·have:rs=[]:=List.eq_nil_of_length_eq_zero h0
    subst this
    exact .nil
   ·refine .inr ⟨X.length,vs.length,vs,?_,?_,?_,rfl,?_,?_⟩
    ·rw [rA,if_neg h0,List.length_map]
    ·rw [hA,if_neg h0,List.length_append,hPl]; simp
    ·rw [hA,if_neg h0,← hPl rs.length,Z7]; rfl
    ·rw [List.length_map]; omega
    ·rw [List.length_map,e1]
  ·unfold rA
   split
   ·intro h; cases h
   ·intro h
    have:X.length=H.length+2:=by injection h
    omega
 ·have h1:Fr X (P rs.length) (fun i => i=H.length+2):=by rw [hP]; exact Fr.set _ _ rfl
  have h2:Fr H X (fun _ => False):=hX ▸ Fr.app _ _ _
  refine ⟨Nat.le_trans h2.1 (Nat.le_trans h1.1 E0),fun i hi _ => ?_⟩
  rw [Ez (by rw [hPl]; omega),h1.2 i (by omega) (by omega),h2.2 i hi id]
 ·intro q hq
  unfold rA at hq
  split at hq
  ·cases hq
  ·have:X.length=q:=by injection hq
   omega
set_option linter.unusedSimpArgs false
theorem Bb {B l:List UInt8} {a p q:Nat} (h:p+q≤a) (ha:a+l.length≤B.length):((wr B a l).drop p).take q=(B.drop p).take q:=by
 rw [wr,List.append_assoc,List.drop_append_of_le_length (by simp; omega),List.take_append_of_le_length (by simp; omega),List.drop_take,List.take_take,Nat.min_eq_left (by omega)]
theorem Z33 {B l:List UInt8} {a q:Nat} (ha:a+l.length≤B.length) (hq:q=l.length):((wr B a l).drop a).take q=l:=by
 rw [wr,List.append_assoc,List.drop_left' (by simp; omega),hq,List.take_left]
theorem Zdr {B l:List UInt8} {a p:Nat} (ha:a+l.length≤B.length) (hp:a+l.length≤p):(wr B a l).drop p=B.drop p:=by
 have e:(B.take a++l).length=a+l.length:=by simp; omega
 rw [wr,List.drop_append,List.drop_eq_nil_of_le (by omega),List.nil_append,List.drop_drop,e]
 congr 1
 omega
def Va (B:List UInt8) (k:Nat):List UInt8:=(B.drop (k*24)).take 24
theorem Zlh {n:Nat} (h:n<4611686018427387904):ofB (beN 8 n)=n:=by
 rw [ofB,Zaw,Nat.mod_eq_of_lt (by omega),if_neg (by omega)]
theorem Zbk (t e:Nat):(T0 t e).take 8=beN 8 t∧((T0 t e).drop 8).take 8=beN 8 e∧(T0 t e).drop 16=beN 8 t:=by
 have h1:=Zm 8 t
 have h2:=Zm 8 e
 refine ⟨?_,?_,?_⟩
 ·rw [T0,List.take_left' h1]
 ·rw [T0,List.drop_left' h1,List.take_left' h2]
 ·rw [T0,← List.append_assoc,List.drop_left' (by rw [List.length_append,h1,h2])]
theorem D2 {t e:Nat} (ht:t<4611686018427387904) (he:e<4611686018427387904) (room:Int):rd (T0 t e) room=if t<1∨(e:Int) > room then (0,0) else ((t:Int),(e:Int)):=by
 obtain ⟨h1,h2,h3⟩:=Zbk t e
 rw [rd,h1,h2,h3,Zlh ht,Zlh he]
 by_cases hc:t<1∨(e:Int) > room
 ·rw [if_pos hc,if_pos (by omega)]
 ·rw [if_neg hc,if_neg (by omega)]
structure INV (B:List UInt8) (T E:Nat) (rs:List (List UInt8)):Prop where
 lo:64≤B.length
 hi:B.length≤1048576
 own:rd (Va B (T%2)) ((B.length:Int) - 48)=((T:Int),(E:Int))
 oth:(rd (Va B ((T+1)%2)) ((B.length:Int) - 48)).1<T∨(T=0∧rd (Va B ((T+1)%2)) ((B.length:Int) - 48)=(0,0))
 room:48+E≤B.length
 area:(B.drop 48).take E=encs rs
 recs:∀ r ∈ rs,1≤r.length∧r.length≤2000
theorem INV.len {B:List UInt8} {T E:Nat} {rs:List (List UInt8)} (h:INV B T E rs):(encs rs).length=E:=by
 have:=h.room
 rw [← h.area]; simp; omega
theorem INV.open' {B:List UInt8} {T E:Nat} {rs:List (List UInt8)} (h:INV B T E rs):(if (rd (B.take 24) ((B.length:Int) - 48)).1<(rd ((B.drop 24).take 24) ((B.length:Int) - 48)).1 then rd ((B.drop 24).take 24) ((B.length:Int) - 48) else rd (B.take 24) ((B.length:Int) - 48))=((T:Int),(E:Int)):=by
 have s0:Va B 0=B.take 24:=by simp [Va]
 have s1:Va B 1=(B.drop 24).take 24:=by simp [Va]
 rw [← s0,← s1]
 have h1:=h.own
 have h2:=h.oth
 rcases Nat.mod_two_eq_zero_or_one T with hm | hm
 ·rw [hm] at h1
  rw [show (T+1)%2=1 by omega] at h2
  rw [h1,if_neg]
  show ¬ (T:Int)<_
  rcases h2 with h2 | ⟨h2,h3⟩
  ·omega
  ·rw [h3]; show ¬ (T:Int)<0; omega
 ·rw [hm] at h1
  rw [show (T+1)%2=0 by omega] at h2
  rw [h1,if_pos]
  show _<(T:Int)
  rcases h2 with h2 | ⟨h2,h3⟩
  ·exact h2
  ·omega
theorem Zwb {C s:List UInt8} {k:Nat} (hC:48≤C.length) (hk:k<2) (hs:s.length=24):Va (wr C (k*24) s) k=s:=Z33 (by omega) hs.symm
theorem Zgg {C s:List UInt8} {k k':Nat} (hC:48≤C.length) (hk:k<2) (hk':k'<2) (hne:k'≠k) (hs:s.length≤24):Va (wr C (k*24) s) k'=Va C k':=by
 unfold Va
 rcases (show (k'=0∧k=1)∨(k'=1∧k=0) by omega) with ⟨rfl,rfl⟩ | ⟨rfl,rfl⟩
 ·exact Bb (by omega) (by omega)
 ·rw [Zdr (by omega) (by omega)]
theorem Zke {B s:List UInt8} {E k:Nat} (hk:k<2) (hs:48+E+s.length≤B.length):Va (wr B (48+E) s) k=Va B k:=Bb (by omega) hs
theorem Zs0 {B s t:List UInt8} {E k:Nat} (hk:k<2) (hs:48+E+s.length≤B.length) (ht:t.length≤24):((wr (wr B (48+E) s) (k*24) t).drop 48).take (E+s.length)=(B.drop 48).take E++s:=by
 rw [Zdr (by rw [Nz hs]; omega) (by omega),wr,List.append_assoc,List.drop_append_of_le_length (by simp; omega),List.drop_take,Nat.add_sub_cancel_left,← List.append_assoc,List.take_left' (by simp; omega)]
section
variable {B:List UInt8} {T E:Nat} {rs:List (List UInt8)} {l:List UInt8}
theorem Za0 (h:INV B T E rs) (hok:okApp B.length E false l):Va (appB B T E l) ((T+1)%2)=T0 (T+1) (E+2+l.length)∧Va (appB B T E l) (T%2)=Va B (T%2):=by
 have hr:=S9 hok
 have hl:=P4 hok
 have h64:=h.lo
 refine ⟨Zwb (by omega) (by omega) (Wc _ _),?_⟩
 rw [appB,Zgg (by omega) (by omega) (by omega) (by omega) (by rw [Wc]; omega),Zdj,Zke (by omega) (by rw [Xf]; omega)]
theorem INV.append (h:INV B T E rs) (hT:T<1048576) (hok:okApp B.length E false l):INV (appB B T E l) (T+1) (E+2+l.length) (rs++[l]):=by
 have hr:=S9 hok
 have hl:=appB_length (T:=T) hok
 obtain ⟨s1,s2⟩:=Za0 h hok
 have h64:=h.lo
 have hhi:=h.hi
 refine ⟨by omega,by omega,?_,?_,by omega,?_,?_⟩
 ·rw [s1,D2 (by omega) (by omega),if_neg (by omega)]
 ·left
  rw [show (T+1+1)%2=T%2 by omega,s2,hl,h.own]
  show (T:Int)<_
  omega
 ·have e:=Zs0 (B:=B) (s:=recB l) (t:=T0 (T+1) (E+2+l.length)) (E:=E) (k:=(T+1)%2) (by omega) (by rw [Xf]; omega) (by rw [Wc]; omega)
  rw [Xf] at e
  rw [show E+2+l.length=E+(l.length+2) by omega] at e ⊢
  rw [appB,Zdj,show E+2+l.length=E+(l.length+2) by omega,e,h.area,Rx]
  simp [encs]
 ·intro r hr
  rcases List.mem_append.1 hr with hr | hr
  ·exact h.recs r hr
  ·rw [List.mem_singleton] at hr; subst hr; exact ⟨hok.2.1,hok.2.2.1⟩
structure SINV (B:List UInt8) (T E:Nat) (rs:List (List UInt8)):Prop where
 lo:64≤B.length
 hi:B.length≤1048576
 own:Va B (T%2)=T0 T E
 oth:∃ e,Va B ((T+1)%2)=T0 (T - 1) e∧e<4611686018427387904
 tl:T<1048576
 zero:T=0→E=0
 room:48+E≤B.length
 area:(B.drop 48).take E=encs rs
 recs:∀ r ∈ rs,1≤r.length∧r.length≤2000
theorem SINV.inv (h:SINV B T E rs):INV B T E rs:=by
 have hr:=h.room
 have hh:=h.hi
 have ht:=h.tl
 have hz:=h.zero
 refine ⟨h.lo,h.hi,?_,?_,h.room,h.area,h.recs⟩
 ·rw [h.own,D2 (by omega) (by omega)]
  split
  ·rename_i hc
   have h0:T=0:=by omega
   rw [hz h0,h0]; rfl
  ·rfl
 ·obtain ⟨e,he,he2⟩:=h.oth
  rw [he,D2 (by omega) he2]
  split
  ·by_cases h0:T=0
   ·exact .inr ⟨h0,rfl⟩
   ·left; show (0:Int)<T; omega
  ·left; show ((T - 1:Nat):Int)<T; omega
theorem SINV.append (h:SINV B T E rs) (hT:T+1<1048576) (hok:okApp B.length E false l):SINV (appB B T E l) (T+1) (E+2+l.length) (rs++[l]):=by
 have hi:=h.inv.append h.tl hok
 obtain ⟨s1,s2⟩:=Za0 h.inv hok
 have hr:=h.room
 have hh:=h.hi
 refine ⟨hi.lo,hi.hi,s1,⟨E,?_,by omega⟩,hT,fun h0 => by omega,hi.room,hi.area,hi.recs⟩
 rw [show (T+1+1)%2=T%2 by omega,s2,h.own]; rfl
theorem SINV.new {n:Nat} (h1:64≤n) (h2:n≤1048576):SINV (List.replicate n 0) 0 0 []:=by
 have e:∀ k,k<2→Va (List.replicate n 0) k=T0 0 0:=by
  intro k hk
  rw [Va,List.drop_replicate,List.take_replicate,Nat.min_eq_left (by omega)]
  rfl
 exact ⟨by simpa using h1,by simpa using h2,e 0 (by decide),⟨0,e 1 (by decide),by decide⟩,by decide,fun _ => rfl,by simp; omega,rfl,by simp⟩
end
set_option maxRecDepth 10000
theorem t_openI {H:AH} {f r:Nat} {B:List UInt8} (hF:FL H f r B) {T E:Nat} {rs:List (List UInt8)} (hI:INV B T E rs) :
  ∃ H' x,Called Tryz.prog F.journal_Open [.ptr f 0] H (.tup [.ptr (H.length+2) 0,nilE]) H'∧JR H' (H.length+2) f x T E rs false∧Fr H H' (fun _ => False)∧∀ q,rid x=some q→H.length≤q:=by
 have:=Z0r hF hI.lo hI.hi hI.open' (tl:=[]) (by rw [List.append_nil]; exact hI.area) hI.room rfl hI.recs
 rw [hI.len] at this
 exact this
theorem t_records {H:AH} {j f:Nat} {x:AV} {T E:Nat} {rs:List (List UInt8)} {sp:Bool} (hJ:JR H j f x T E rs sp) (hr:∀ r ∈ rs,1≤r.length∧r.length≤2000) (hn:rs.length≤1048576):Called Tryz.prog F.journal_Journal_Records [.ptr j 0] H (.view (rs.map fun r => vB r false) rs.length false) H:=by
 have hj:=hJ.hj
 have sx:=hJ.gr.sl
 rw [List.length_map] at sx
 let vs:List AV:=rs.map fun r => vB r false
 have hvl:vs.length=rs.length:=by simp [vs]
 refine Sy ?_
 simp only [Wx,go_sem,hJ.oj,hj,sx.s]
 refine Z4 _ (fun (k:Nat) => ([(3,rA H (vs.take k) k),(9,x),(10,I rs.length),(11,I k)],hA 1 H (vs.take k) k)) (fun k => k≤rs.length) (fun k => rs.length - k) 0 (Nat.zero_le _) rfl ?_
 intro k hk
 simp only [go_sem]
 refine ⟨fun hh => ?_,fun hh => ?_⟩
 ·have hk:k<rs.length:=by omega
  have sk:Sl 1 (hA 1 H (vs.take k) k) x (rs.map fun r => vB r false) rs.length:=sx.hA
  have hrk:=hr _ (Tt hk [])
  have e0:(rs.map fun r => vB r false).getD k .junk=vB (rs.getD k []) false:=by simp [List.getD_eq_getElem?_getD,hk]
  simp only [sk.idx,sk.ldOk _ hk (Nat.le_refl 1),sk.ld1 _ hk,e0,go_sem]
  refine ⟨⟨by omega,by omega⟩,Za (Ma (Sl.vB _ _) (by omega)) (fun _ => rfl) ?_⟩
  obtain ⟨h1,h2,h3⟩:=Pz (H:=H) (sz:=1) (n:=k) (vs:=vs.take k) (by simp; omega) (s:=.view [vB (rs.getD k []) false] 1 true) (cs:=[vB (rs.getD k []) false]) (b:=24) rfl rfl rfl rfl (by omega)
  have e1:vs.take k++[vB (rs.getD k []) false]=vs.take (k+1):=by
   rw [Yx (by omega) .junk,← e0]
  have h1':=eq_true h1
  rw [e1] at h2 h3
  have w2:IntKind.i64.wrap ((k:Int)+1)=((k+1:Nat):Int):=by rw [w64 _ (by omega) (by omega)]; omega
  simp only [go_sem] at h1'
  simp only [go_sem,Y1,h1',h2,h3,w2]
  exact ⟨k+1,rfl,rfl,by omega,by omega⟩
 ·obtain rfl:k=rs.length:=by omega
  have e1:vs.take rs.length=vs:=List.take_of_length_le (by omega)
  simp only [go_sem,e1]
  exact Ru (by decide) (by omega) (P8 _ (fun r => by simp only [AV.pure]; exact Y1 r) rs)
end Go.Proofs.YtcgjlpdkobmpnaaGreat.Eng.J

