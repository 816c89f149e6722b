/- Layer 3: words of 32 bits: the walk. -/
import Derived.Test.YtcgjlpdkobmpnaaGreatMCb
import Derived.Test.YtcgjlpdkobmpnaaGreatMNum
import Derived.Test.YtcgjlpdkobmpnaaGreatMPt
namespace Go.Proofs.YtcgjlpdkobmpnaaGreat.Eng
open Go Go.Proofs
set_option linter.unusedVariables false
set_option linter.unusedSimpArgs false
set_option maxRecDepth 10000
abbrev V (n:Nat):AV:=.lit (.int .u32 (n:Nat))
theorem Zds (x:Nat):IntKind.u32.wrap (x:Int)=((x%(4294967296:Nat):Nat):Int):=by
 simp only [IntKind.wrap,IntKind.bits,IntKind.signed]
 simp
theorem Iw (x:Nat) (h:x<(4294967296:Nat)):IntKind.u32.wrap (x:Int)=(x:Int):=wu32 _ (by omega) (by omega)
theorem Nk {x:Nat} (h:x<(4294967296:Nat)):(BitVec.ofInt 32 (x:Int)).toNat=x:=by
 rw [BitVec.toNat_ofInt]; omega
theorem Dc {x y:Nat} (hx:x<(4294967296:Nat)) (hy:y<(4294967296:Nat)):bXor .u32 (x:Int) (y:Int)=((x ^^^ y:Nat):Int):=by
 show IntKind.u32.wrap ((BitVec.ofInt 32 (x:Int) ^^^ BitVec.ofInt 32 (y:Int)).toNat:Int)=_
 rw [BitVec.toNat_xor,Nk hx,Nk hy,Iw _ (Nat.xor_lt_two_pow (n:=32) hx hy)]
theorem Zo4 {x y:Nat} (hx:x<(4294967296:Nat)) (hy:y<(4294967296:Nat)):bAnd .u32 (x:Int) (y:Int)=((x &&& y:Nat):Int):=by
 show IntKind.u32.wrap ((BitVec.ofInt 32 (x:Int) &&& BitVec.ofInt 32 (y:Int)).toNat:Int)=_
 rw [BitVec.toNat_and,Nk hx,Nk hy,Iw _ (Nat.lt_of_le_of_lt Nat.and_le_left hx)]
theorem or32 {x y:Nat} (hx:x<(4294967296:Nat)) (hy:y<(4294967296:Nat)):bOr .u32 (x:Int) (y:Int)=((x ||| y:Nat):Int):=by
 show IntKind.u32.wrap ((BitVec.ofInt 32 (x:Int) ||| BitVec.ofInt 32 (y:Int)).toNat:Int)=_
 rw [BitVec.toNat_or,Nk hx,Nk hy,Iw _ (Nat.or_lt_two_pow (n:=32) hx hy)]
theorem Z42 {x:Nat} (hx:x<(4294967296:Nat)):IntKind.u32.wrap ((BitVec.ofInt 32 (if IntKind.u32.signed=true then -1 else IntKind.u32.max) ^^^ BitVec.ofInt 32 (x:Int)).toNat:Int)=((4294967295 - x:Nat):Int):=by
 show IntKind.u32.wrap ((BitVec.ofInt 32 IntKind.u32.max ^^^ BitVec.ofInt 32 (x:Int)).toNat:Int)=_
 have e:(BitVec.ofInt 32 IntKind.u32.max ^^^ BitVec.ofInt 32 (x:Int)).toNat=4294967295 - x:=by
  have h1:BitVec.ofInt 32 IntKind.u32.max=BitVec.allOnes 32:=by decide
  rw [h1,BitVec.allOnes_xor,BitVec.toNat_not,Nk hx]
 rw [e,Iw _ (by omega)]
theorem Zvg {x:Nat} (hx:x<(4294967296:Nat)):unv .xor (.lit (.int .u32 ((x:Nat):Int)))=.lit (.int .u32 ((4294967295 - x:Nat):Int)):=by
 show AV.lit (.int .u32 (IntKind.u32.wrap ((BitVec.ofInt 32 IntKind.u32.max ^^^ BitVec.ofInt 32 (x:Int)).toNat:Int)))=_
 rw [show IntKind.u32.wrap ((BitVec.ofInt 32 IntKind.u32.max ^^^ BitVec.ofInt 32 (x:Int)).toNat:Int)=((4294967295 - x:Nat):Int) from Z42 hx]
theorem Zez {a b k:Nat} (hb:b<2^k):a*2^k ||| b=a*2^k+b:=by
 have:=Nat.shiftLeft_add_eq_or_of_lt (i:=k) (b:=b) hb a
 rw [Nat.shiftLeft_eq] at this
 exact this.symm
theorem Z5l (x:Nat) (hx:x<(18446744073709551616:Nat)):bAnd .u64 (x:Int) 31=((x%32:Nat):Int):=by
 show IntKind.u64.wrap ((BitVec.ofInt 64 (x:Int) &&& BitVec.ofInt 64 31).toNat:Int)=_
 have e:(BitVec.ofInt 64 (x:Int) &&& BitVec.ofInt 64 31).toNat=x%32:=by
  rw [BitVec.toNat_and,BitVec.toNat_ofInt,BitVec.toNat_ofInt]
  have e1:((x:Int)%((2^64:Nat):Int)).toNat=x:=by omega
  have e2:((31:Int)%((2^64:Nat):Int)).toNat=2^5 - 1:=by decide
  rw [e1,e2,Nat.and_two_pow_sub_one_eq_mod]
 rw [e,wu64 _ (by omega) (by omega)]
theorem Ni {k x:Nat} (hk:k≤32) (hx:x<(4294967296:Nat)):rotr k x<(4294967296:Nat):=by
 unfold rotr
 have e:(4294967296:Nat)=2^k*2^(32 - k):=by rw [← Nat.pow_add]; rw [show k+(32 - k)=32 by omega]
 have h1:x / 2^k<2^(32 - k):=by rw [Nat.div_lt_iff_lt_mul (Nat.pow_pos (by decide)),Nat.mul_comm,← e]; exact hx
 have h2:x%2^k<2^k:=Nat.mod_lt _ (Nat.pow_pos (by decide))
 have h3:(x%2^k+1)*2^(32 - k)≤2^k*2^(32 - k):=Nat.mul_le_mul_right _ h2
 rw [Nat.add_mul] at h3
 omega
theorem Iz {H:AH} {x k:Nat} (hx:x<(4294967296:Nat)) (hk0:0<k) (hk:k<32):Called Tryz.prog F.math_bits_RotateLeft32 [V x,I (-(k:Int))] H (V (rotr k x)) H:=by
 refine Ri ?_
 have c1:IntKind.u64.wrap (-(k:Int))=(((18446744073709551616:Nat) - k:Nat):Int):=by
  have hw:∀ z:Int,IntKind.u64.wrap z=z%18446744073709551616:=fun z => by simp only [IntKind.wrap,IntKind.bits,IntKind.signed]; simp
  rw [hw]; omega
 have c2:((18446744073709551616:Nat) - k)%32=32 - k:=by omega
 have c3:IntKind.u64.wrap (32 - ((32 - k:Nat):Int))=((k:Nat):Int):=by rw [wu64 _ (by omega) (by omega)]; omega
 have hm1:min (32 - k) 32=32 - k:=by omega
 have hm2:min k 32=k:=by omega
 have hs:((x:Nat):Int)*2^(32 - k)=((x*2^(32 - k):Nat):Int):=by rw [Int.natCast_mul]; congr 1
 have e:(4294967296:Nat)=2^k*2^(32 - k):=by rw [← Nat.pow_add]; rw [show k+(32 - k)=32 by omega]
 have h1:x / 2^k<2^(32 - k):=by rw [Nat.div_lt_iff_lt_mul (Nat.pow_pos (by decide)),Nat.mul_comm,← e]; exact hx
 have hsh:x*2^(32 - k)%(4294967296:Nat)=x%2^k*2^(32 - k):=by rw [e,Nat.mul_mod_mul_right]
 have hd:x / 2^k<(4294967296:Nat):=Nat.lt_of_le_of_lt (Nat.div_le_self _ _) hx
 simp only [W1,go_sem,c1,Z5l _ (show (18446744073709551616:Nat) - k<(18446744073709551616:Nat) by omega),c2,c3,hm1,hm2,Ui,hs,Zds,IntKind.bits,or32 (Nat.mod_lt _ (by decide)) hd]
 refine ⟨by omega,by omega,Zl ?_⟩
 rw [hsh,Zez h1,rotr,Nat.add_comm]
theorem Zdz {H:AH} {x a b c:Nat} (hx:x<(4294967296:Nat)) (ha:0<a∧a<32) (hb:0<b∧b<32) (hc:0<c∧c<32):Called Tryz.prog F.sha_turned [V x,I a,I b,I c] H (V (rotr a x ^^^ rotr b x ^^^ rotr c x)) H:=by
 refine A3 ?_
 have n:∀ z:Nat,z<32→IntKind.i64.wrap (0 - (z:Int))=-(z:Int):=fun z hz => by rw [w64 _ (by omega) (by omega)]; omega
 have la:=Ni (k:=a) (by omega) hx
 have lb:=Ni (k:=b) (by omega) hx
 have lc:=Ni (k:=c) (by omega) hx
 simp only [M4,go_sem,n a ha.2,n b hb.2,n c hc.2]
 refine Za (Iz hx ha.1 ha.2) (fun _ => rfl) ?_
 simp only [go_sem,n a ha.2,n b hb.2,n c hc.2]
 refine Za (Iz hx hb.1 hb.2) (fun _ => rfl) ?_
 simp only [go_sem,n a ha.2,n b hb.2,n c hc.2,Dc la lb]
 refine Za (Iz hx hc.1 hc.2) (fun _ => rfl) ?_
 simp only [go_sem,Dc (Nat.xor_lt_two_pow (n:=32) la lb) lc]
 exact Zl rfl
set_option maxRecDepth 10000
abbrev vw (l:List Nat):List AV:=l.map V
theorem Ze2 (l:List Nat):(vw l).all AV.one=true:=Zb6 V (fun _ => rfl) l
theorem Yh (l:List Nat):(vw l).length=l.length:=List.length_map _
theorem Zdt (l:List Nat) (i:Nat) (h:i<l.length):(vw l).getD i .junk=V (l.getD i 0):=by
 rw [List.getD_eq_getElem?_getD,List.getElem?_map,List.getD_eq_getElem?_getD,List.getElem?_eq_getElem h]; rfl
theorem Zl4 (ren:Nat→Option Nat) (H:AH) (l:List Nat):lowL ren H (vw l)=vw l:=Ip ren H V (fun _ => rfl) l
theorem be4 (b:List UInt8) (i:Nat) (h:i+4≤b.length):be ((b.drop i).take 4)=(b.getD i 0).toNat*2^24+(b.getD (i+1) 0).toNat*2^16+(b.getD (i+2) 0).toNat*2^8+(b.getD (i+3) 0).toNat:=by
 rw [Vr (show i<b.length by omega) 0,Vr (show i+1<b.length by omega) 0,Vr (show i+1+1<b.length by omega) 0,Vr (show i+1+1+1<b.length by omega) 0]
 simp only [List.take_succ_cons,List.take_zero,be,List.foldl_cons,List.foldl_nil,Nat.add_assoc i,Nat.reduceAdd]
 omega
theorem Z3q (b:List UInt8):be (b.take 4)<(4294967296:Nat):=by
 have h1:=F5 (b.take 4)
 have h2:(b.take 4).length≤4:=by rw [List.length_take]; omega
 have:(256:Nat)^(b.take 4).length≤256^4:=Nat.pow_le_pow_right (by decide) h2
 omega
theorem Zvd (b:List UInt8) (i:Nat) (h:i<16):(w16 b).getD i 0=be ((b.drop (4*i)).take 4):=by
 rw [w16,List.getD_eq_getElem?_getD,List.getElem?_map,List.getElem?_range h]; rfl
theorem Ztk (b:List UInt8):∀ x ∈ w16 b,x<(4294967296:Nat):=by
 intro x hx
 simp only [w16,List.mem_map] at hx
 obtain ⟨i,_,rfl⟩:=hx
 exact Z3q _
theorem Zkm:∀ n l,(∀ x ∈ l,x<(4294967296:Nat))→∀ x ∈ sch n l,x<(4294967296:Nat)
 | 0,l,h => h
 | n+1,l,h => by
  rw [Dp]
  intro x hx
  rcases List.mem_cons.1 hx with rfl | hx
  ·exact Nat.mod_lt _ (by decide)
  ·exact Zkm n l h x hx
theorem Cl {l:List Nat} (h:∀ x ∈ l,x<(4294967296:Nat)) (i:Nat):l.getD i 0<(4294967296:Nat):=by
 rw [List.getD_eq_getElem?_getD]
 by_cases hi:i<l.length
 ·rw [List.getElem?_eq_getElem hi]; exact h _ (List.getElem_mem hi)
 ·rw [List.getElem?_eq_none (by omega)]; decide
theorem Dt {l:List Nat} {i j:Nat} (h:i+j+1=l.length):l.reverse.getD i 0=l.getD j 0:=by
 rw [List.getD_eq_getElem?_getD,List.getElem?_reverse (by omega),List.getD_eq_getElem?_getD]
 congr 2; omega
theorem L5 (l:List Nat) (R:List AV) (i:Nat) (h:i<l.length):(vw l++R).getD i .junk=V (l.getD i 0):=by
 rw [List.getD_eq_getElem?_getD,List.getElem?_append_left (by rw [Yh]; exact h),← List.getD_eq_getElem?_getD,Zdt l i h]
theorem Zjg (l:List Nat) (n i x:Nat) (hi:l.length=i) (hn:i<n):(vw l++List.replicate (n - i) (V 0)).set i (V x)=vw (l++[x])++List.replicate (n - (i+1)) (V 0):=by
 subst hi
 rw [List.set_append_right _ _ (by rw [Yh]; exact Nat.le_refl _),Yh,Nat.sub_self,show n - l.length=(n - (l.length+1))+1 by omega,List.replicate_succ,List.set_cons_zero]
 simp
theorem Ze8 {H G:AH} (L:List Nat):Leave H (.agg (vw L)) (H++G) (.agg (vw L)) H:=Zc (by simp only [low,Zl4])
theorem Zvn {H:AH} {x:AV} {b:List UInt8} (hx:Sl 1 H x (bs b) b.length) (hb:b.length=64):Called Tryz.prog F.sha_words [x] H (.agg (vw (words b))) H:=by
 refine Zcy ?_
 have hl:∀ G i,i<b.length→Ys 1 (H++G) (Xn 1 (.lit (.int .i64 ((i:Nat):Int))) x)=True:=fun G i hi => (hx.app (G:=G)).ldOk .i64 hi (Nat.le_refl 1)
 have hv:∀ G i,i<b.length→Y8 false 1 (H++G) (Xn 1 (.lit (.int .i64 ((i:Nat):Int))) x)=u8 (b.getD i 0):=fun G i hi => by rw [(hx.app (G:=G)).ld1 .i64 hi,Fc b i hi]
 simp only [Jn,go_sem]
 refine Z4 _ (fun (i:Nat) => ([(0,x),(2,.ptr H.length 0),(3,.ptr (H.length+1) 0),(10,I i)],H++[⟨List.replicate 64 (V 0),0,true⟩,⟨vw ((w16 b).take i)++List.replicate (64 - i) (V 0),0,true⟩])) (fun i => i≤16) (fun i => 16 - i) 0 (Nat.zero_le _) rfl ?_
 intro i hi
 simp only [go_sem]
 refine ⟨fun hh => ?_,fun hh => ?_⟩
 ·have hi:i<16:=by omega
  have w0:IntKind.i64.wrap (4*(i:Int))=((4*i:Nat):Int):=by rw [w64 _ (by omega) (by omega)]; omega
  have w1:IntKind.i64.wrap (((4*i:Nat):Int)+1)=((4*i+1:Nat):Int):=by rw [w64 _ (by omega) (by omega)]; omega
  have w2:IntKind.i64.wrap (((4*i:Nat):Int)+2)=((4*i+2:Nat):Int):=by rw [w64 _ (by omega) (by omega)]; omega
  have w3:IntKind.i64.wrap (((4*i:Nat):Int)+3)=((4*i+3:Nat):Int):=by rw [w64 _ (by omega) (by omega)]; omega
  have w4:IntKind.i64.wrap ((i:Int)+1)=((i+1:Nat):Int):=by rw [w64 _ (by omega) (by omega)]; omega
  have k0:4*i<b.length:=by omega
  have k1:4*i+1<b.length:=by omega
  have k2:4*i+2<b.length:=by omega
  have k3:4*i+3<b.length:=by omega
  have hL:((w16 b).take i).length=i:=by rw [List.length_take,S2]; omega
  have hn:=Zjg ((w16 b).take i) 64 i ((w16 b).getD i 0) hL (by omega)
  rw [← Yx (show i<(w16 b).length by rw [S2]; omega),Zvd b i hi,be4 b _ (by omega)] at hn
  simp only [go_sem,hx.idx,w0,w1,w2,w3,w4,hl _ _ k0,hv _ _ k0,hl _ _ k1,hv _ _ k1,hl _ _ k2,hv _ _ k2,hl _ _ k3,hv _ _ k3,IntKind.bits]
  have u0:=(b.getD (4*i) 0).toNat_lt
  have u1:=(b.getD (4*i+1) 0).toNat_lt
  have u2:=(b.getD (4*i+2) 0).toNat_lt
  have u3:=(b.getD (4*i+3) 0).toNat_lt
  generalize (b.getD (4*i) 0).toNat=b0 at *
  generalize (b.getD (4*i+1) 0).toNat=b1 at *
  generalize (b.getD (4*i+2) 0).toNat=b2 at *
  generalize (b.getD (4*i+3) 0).toNat=b3 at *
  have q0:IntKind.u32.wrap ((b0:Nat):Int)=b0:=Iw _ (by omega)
  have q1:IntKind.u32.wrap ((b1:Nat):Int)=b1:=Iw _ (by omega)
  have q2:IntKind.u32.wrap ((b2:Nat):Int)=b2:=Iw _ (by omega)
  have q3:IntKind.u32.wrap ((b3:Nat):Int)=b3:=Iw _ (by omega)
  have s0:IntKind.u32.wrap (((b0:Nat):Int)*2^min 24 32)=((b0*2^24:Nat):Int):=by rw [← Iw (b0*2^24) (by omega)]; rfl
  have s1:IntKind.u32.wrap (((b1:Nat):Int)*2^min 16 32)=((b1*2^16:Nat):Int):=by rw [← Iw (b1*2^16) (by omega)]; rfl
  have s2:IntKind.u32.wrap (((b2:Nat):Int)*2^min 8 32)=((b2*2^8:Nat):Int):=by rw [← Iw (b2*2^8) (by omega)]; rfl
  have o1:b0*2^24 ||| b1*2^16=b0*2^24+b1*2^16:=Zez (by omega)
  have o2:(b0*2^24+b1*2^16) ||| b2*2^8=b0*2^24+b1*2^16+b2*2^8:=by
   have:=@Zez (b0*2^8+b1) (b2*2^8) 16 (by omega)
   rwa [show (b0*2^8+b1)*2^16=b0*2^24+b1*2^16 by omega] at this
  have o3:(b0*2^24+b1*2^16+b2*2^8) ||| b3=b0*2^24+b1*2^16+b2*2^8+b3:=by
   have:=@Zez (b0*2^16+b1*2^8+b2) b3 8 (by omega)
   rwa [show (b0*2^16+b1*2^8+b2)*2^8=b0*2^24+b1*2^16+b2*2^8 by omega] at this
  simp only [q0,q1,q2,q3,s0,s1,s2]
  rw [or32 (by omega) (by omega),o1,or32 (by omega) (by omega),o2,or32 (by omega) (by omega),o3,hn]
  refine ⟨by omega,by decide,by omega,by decide,by omega,by decide,by omega,by omega,?_,i+1,rfl,rfl,by omega,by omega⟩
  rw [Yh,hL,List.length_replicate]; omega
 ·obtain rfl:i=16:=by omega
  have e16:(w16 b).take 16=(sch 0 (w16 b).reverse).reverse:=by
   rw [sch,List.reverse_reverse,List.take_of_length_le (by rw [S2]; exact Nat.le_refl _)]
  rw [e16]
  refine Z4 _ (fun (j:Nat) => ([(2,.ptr H.length 0),(3,.ptr (H.length+1) 0),(5,I ((j:Int)+16))],H++[⟨List.replicate 64 (V 0),0,true⟩,⟨vw (sch j (w16 b).reverse).reverse++List.replicate (64 - (j+16)) (V 0),0,true⟩])) (fun j => j≤48) (fun j => 48 - j) 0 (Nat.zero_le _) rfl ?_
  intro j hj
  have hL:((sch j (w16 b).reverse).reverse).length=j+16:=by rw [List.length_reverse,Kf,List.length_reverse,S2]; omega
  have hlt:=Zkm j (w16 b).reverse (fun x hx => Ztk b x (List.mem_reverse.1 hx))
  generalize hl':sch j (w16 b).reverse=l at *
  have hl2:l.length=j+16:=by rwa [List.length_reverse] at hL
  simp only [go_sem]
  refine ⟨fun hh => ?_,fun hh => ?_⟩
  ·have hj:j<48:=by omega
   have e0:((j:Int)+16)=((j+16:Nat):Int):=by omega
   have w1:IntKind.i64.wrap (((j+16:Nat):Int) - 15)=((j+1:Nat):Int):=by rw [w64 _ (by omega) (by omega)]; omega
   have w2:IntKind.i64.wrap (((j+16:Nat):Int) - 2)=((j+14:Nat):Int):=by rw [w64 _ (by omega) (by omega)]; omega
   have w3:IntKind.i64.wrap (((j+16:Nat):Int) - 7)=((j+9:Nat):Int):=by rw [w64 _ (by omega) (by omega)]; omega
   have w4:IntKind.i64.wrap (((j+16:Nat):Int) - 16)=((j:Nat):Int):=by rw [w64 _ (by omega) (by omega)]; omega
   have w5:IntKind.i64.wrap (((j+16:Nat):Int)+1)=((j+1:Nat):Int)+16:=by rw [w64 _ (by omega) (by omega)]; omega
   have g1:(vw l.reverse++List.replicate (64 - (j+16)) (V 0)).getD (j+1) .junk=V (l.getD 14 0):=by rw [L5 _ _ _ (by omega),Dt (j:=14) (by omega)]
   have g2:(vw l.reverse++List.replicate (64 - (j+16)) (V 0)).getD (j+14) .junk=V (l.getD 1 0):=by rw [L5 _ _ _ (by omega),Dt (j:=1) (by omega)]
   have g3:(vw l.reverse++List.replicate (64 - (j+16)) (V 0)).getD (j+9) .junk=V (l.getD 6 0):=by rw [L5 _ _ _ (by omega),Dt (j:=6) (by omega)]
   have g4:(vw l.reverse++List.replicate (64 - (j+16)) (V 0)).getD j .junk=V (l.getD 15 0):=by rw [L5 _ _ _ (by omega),Dt (j:=15) (by omega)]
   have hn:=Zjg l.reverse 64 (j+16) (nxw l) hL (by omega)
   rw [← List.reverse_cons,← hl',← Dp,hl'] at hn
   have len:(vw l.reverse++List.replicate (64 - (j+16)) (V 0)).length=64:=by rw [List.length_append,Yh,hL,List.length_replicate]; omega
   have b1:=Cl hlt 1
   have b14:=Cl hlt 14
   rw [e0]
   simp only [go_sem,w1,w2,w3,w4,w5,g1,g2,g3,g4]
   have ln:j+16+1≤(vw l.reverse).length+(List.replicate (64 - (j+16)) (V 0)).length:=by rw [Yh,hL,List.length_replicate]; omega
   have r7:=Ni (k:=7) (by decide) b14
   have r18:=Ni (k:=18) (by decide) b14
   have r17:=Ni (k:=17) (by decide) b1
   have r19:=Ni (k:=19) (by decide) b1
   have d3:l.getD 14 0 / 8<(4294967296:Nat):=Nat.lt_of_le_of_lt (Nat.div_le_self _ _) b14
   have d10:l.getD 1 0 / 1024<(4294967296:Nat):=Nat.lt_of_le_of_lt (Nat.div_le_self _ _) b1
   have x1:=Nat.xor_lt_two_pow (n:=32) r7 r18
   have x2:=Nat.xor_lt_two_pow (n:=32) r17 r19
   have sh3:((l.getD 14 0:Nat):Int).fdiv (2^min 3 32)=((l.getD 14 0 / 8:Nat):Int):=Ui _ 3
   have sh10:((l.getD 1 0:Nat):Int).fdiv (2^min 10 32)=((l.getD 1 0 / 1024:Nat):Int):=Ui _ 10
   refine ⟨by omega,by omega,by omega,by omega,Za (Iz (k:=7) b14 (by decide) (by decide)) (fun _ => rfl) ?_⟩
   simp only [go_sem]
   refine Za (Iz (k:=18) b14 (by decide) (by decide)) (fun _ => rfl) ?_
   simp only [go_sem,Dc r7 r18,sh3,Dc x1 d3,IntKind.bits]
   refine ⟨by decide,Za (Iz (k:=17) b1 (by decide) (by decide)) (fun _ => rfl) ?_⟩
   simp only [go_sem]
   refine Za (Iz (k:=19) b1 (by decide) (by decide)) (fun _ => rfl) ?_
   simp only [go_sem,Dc r17 r19,sh10,Dc x2 d10,IntKind.bits,w3,w4,w5,g3,g4,← Int.natCast_add,Zds]
   have en:(((rotr 17 (l.getD 1 0) ^^^ rotr 19 (l.getD 1 0) ^^^ l.getD 1 0 / 1024)+l.getD 6 0)%(4294967296:Nat)+(rotr 7 (l.getD 14 0) ^^^ rotr 18 (l.getD 14 0) ^^^ l.getD 14 0 / 8))%(4294967296:Nat)=(sml1 (l.getD 1 0)+l.getD 6 0+sml0 (l.getD 14 0))%(4294967296:Nat):=by
    rw [Nat.mod_add_mod]; rfl
   have en2:((sml1 (l.getD 1 0)+l.getD 6 0+sml0 (l.getD 14 0))%(4294967296:Nat)+l.getD 15 0)%(4294967296:Nat)=nxw l:=by rw [Nat.mod_add_mod]; rfl
   rw [en,en2,hn]
   refine ⟨by decide,by omega,by omega,by omega,by omega,by omega,by omega,j+1,rfl,?_,by omega,by omega⟩
   rw [show 64 - (j+16+1)=64 - (j+1+16) by omega]
  ·obtain rfl:j=48:=by omega
   have ew:l.reverse=words b:=by rw [words,hl']
   have z:List.replicate (64 - (48+16)) (V 0)=[]:=rfl
   have lw:=Jd b
   rw [ew,z,List.append_nil]
   clear hl' hlt hL hl2
   generalize words b=L at *
   have e1:(vw L).take 64=vw L:=List.take_of_length_le (by rw [Yh,lw]; exact Nat.le_refl _)
   have e3:∀ Z:List AV,Z.length=64→splice Z 0 (vw L)=vw L:=fun Z hZ => Zu (by rw [Yh,lw,hZ])
   simp only [go_sem,e1,Yh,lw,Ze2]
   rw [e3 _ rfl,e1,Yh,lw]
   exact And.intro (by decide) (Ze8 L)
set_option maxRecDepth 10000
theorem Zv3 {H:AH}:Called Tryz.prog F.sha_constants [] H (.agg (vw K256)) H:=by
 refine G1 ?_
 simp only [Qc,go_sem,Zq,fillv]
 exact Ze8 K256
theorem Iq (ren:Nat→Option Nat) (H:AH):∀ a b:List AV,lowL ren H (a++b)=lowL ren H a++lowL ren H b
 | [],b => rfl
 | x::a,b => by simp only [List.cons_append,lowL,Iq ren H a b]
theorem Ad {H G:AH} {p:Nat} {c:List AV} {v2 v:AV} (hp:p<H.length) (hz:obj H p=⟨(obj H p).cs,0,true⟩) (hc:lowL (renk H.length []) (setO H p c++G) c=c) (h:low (renk H.length []) (setO H p c++G) v2=v):Leave H v2 (setO H p c++G) v (setO H p c):=by
 have:=Hw (H:=H) (H1:=setO H p c) (H1':=setO H p c) (G:=G) [] List.nodup_nil (by simp) (Zk _ _ _) (Zk _ _ _) (fun i o' hi => by
  by_cases hip:i=p
  ·subst hip
   right
   refine ⟨o',hi,?_⟩
   have e:(setO H i c)[i]? = some ⟨c,(obj H i).sz,(obj H i).rw⟩:=by
    simp only [setO]; rw [List.getElem?_set_self hp]
   rw [e] at hi; cases hi
   simp only [Wu,hc]
  ·left
   have e:(setO H p c)[i]? = H[i]? := by simp only [setO]; rw [List.getElem?_set_ne (Ne.symm hip)]
   exact ⟨by rw [← e]; exact hi,hi⟩) v2
 rw [h] at this
 simpa using this
def addS (s S:List Nat):List Nat:=List.zipWith (fun x y => (x+y)%(4294967296:Nat)) s S
theorem Zqd {s:List Nat} (h:s.length=8):∃ a b c d e f g k,s=[a,b,c,d,e,f,g,k]:=by
 match s,h with
 | [a,b,c,d,e,f,g,k],_ => exact ⟨a,b,c,d,e,f,g,k,rfl⟩
theorem Z1k {s:List Nat} (hs:∀ x ∈ s,x<(4294967296:Nat)) (kw:Nat × Nat):∀ x ∈ rnd s kw,x<(4294967296:Nat):=by
 unfold rnd
 split
 ·rename_i a b c d e f g h
  simp only [CheckFast.force_eq]
  simp only [List.mem_cons,List.not_mem_nil,or_false,forall_eq_or_imp,forall_eq] at hs ⊢
  exact ⟨Nat.mod_lt _ (by decide),hs.1,hs.2.1,hs.2.2.1,Nat.mod_lt _ (by decide),hs.2.2.2.2.1,hs.2.2.2.2.2.1,hs.2.2.2.2.2.2.1⟩
 ·exact hs
theorem Zkt {l:List (Nat × Nat)}:∀ {s:List Nat},(∀ x ∈ s,x<(4294967296:Nat))→∀ x ∈ l.foldl rnd s,x<(4294967296:Nat):=by
 induction l with
 | nil => exact fun h => h
 | cons kw l ih => exact fun h => ih (Z1k h kw)
theorem Zpf (b:List UInt8):∀ x ∈ words b,x<(4294967296:Nat):=by
 intro x hx
 rw [words,List.mem_reverse] at hx
 exact Zkm 48 _ (fun y hy => Ztk b y (List.mem_reverse.1 hy)) x hx
theorem K_lt:∀ x ∈ K256,x<(4294967296:Nat):=by decide
theorem Zh0 (l:List (Nat × Nat)) (s:List Nat) (i:Nat) (h:i<l.length):(l.take (i+1)).foldl rnd s=rnd ((l.take i).foldl rnd s) (l.getD i (0,0)):=by
 rw [Yx h (0,0),List.foldl_append]; rfl
theorem Zu1 {k w:List Nat} {i:Nat} (hk:i<k.length) (hw:i<w.length):(k.zip w).getD i (0,0)=(k.getD i 0,w.getD i 0):=by
 simp only [List.getD_eq_getElem?_getD,List.zip,List.getElem?_zipWith,List.getElem?_eq_getElem hk,List.getElem?_eq_getElem hw]
 rfl
abbrev Y0:AV:=.lit (.int .u32 0)
abbrev Z64:List AV:=[Y0,Y0,Y0,Y0,Y0,Y0,Y0,Y0,Y0,Y0,Y0,Y0,Y0,Y0,Y0,Y0,Y0,Y0,Y0,Y0,Y0,Y0,Y0,Y0,Y0,Y0,Y0,Y0,Y0,Y0,Y0,Y0,Y0,Y0,Y0,Y0,Y0,Y0,Y0,Y0,Y0,Y0,Y0,Y0,Y0,Y0,Y0,Y0,Y0,Y0,Y0,Y0,Y0,Y0,Y0,Y0,Y0,Y0,Y0,Y0,Y0,Y0,Y0,Y0]
theorem Z1b {L:List Nat} (h:L.length=64):splice Z64 0 (vw L)=vw L:=Zu (by rw [Yh,h]; rfl)
abbrev Z8:List AV:=[Y0,Y0,Y0,Y0,Y0,Y0,Y0,Y0]
theorem spl8 {L:List Nat} (h:L.length=8):splice Z8 0 (vw L)=vw L:=Zu (by rw [Yh,h]; rfl)
theorem Z5o:K256.length=64:=rfl
theorem Z0l {H:AH} {p:Nat} {x r nn:AV} {s:List Nat} {b:List UInt8} (hp:p<H.length) (ho:obj H p=⟨vw s++[r,nn],0,true⟩) (hs:s.length=8) (hlt:∀ y ∈ s,y<(4294967296:Nat)) (hr:∀ H2,low (renk H.length []) H2 r=r) (hn:∀ H2,low (renk H.length []) H2 nn=nn) (hx:Sl 1 H x (bs b) b.length) (hb:b.length=64) :
  Called Tryz.prog F.sha_Hash_take [.ptr p 0,x] H (.tup []) (setO H p (vw (Tx s b)++[r,nn])):=by
 obtain ⟨K,hK,hKl,hKlt⟩:∃ K,K=K256∧K.length=64∧∀ x ∈ K,x<(4294967296:Nat):=⟨_,rfl,Z5o,K_lt⟩
 obtain ⟨ws,hW,lw,hWlt⟩:∃ W,W=words b∧W.length=64∧∀ x ∈ W,x<(4294967296:Nat):=⟨_,rfl,Jd b,Zpf b⟩
 have cK:∀ G:AH,Called Tryz.prog F.sha_constants [] G (.agg (vw K)) G:=fun G => by rw [hK]; exact Zv3
 have cW:∀ G:AH,Called Tryz.prog F.sha_words [x] (H++G) (.agg (vw ws)) (H++G):=fun G => by rw [hW]; exact Zvn hx.app hb
 have hC:Tx s b=addS s ((K.zip ws).foldl rnd s):=by rw [hK,hW,Tx,addS]
 rw [hC]
 clear hC hK hW
 refine G3 ?_
 have hp':∀ k,(p<H.length+k)=True:=fun k => by simp; omega
 have t8:(vw s++[r,nn]).take 8=vw s:=List.take_left' (by rw [Yh,hs])
 have h64:∀ i:Nat,i<64→(vw ws).getD i .junk=V (ws.getD i 0):=fun i hi => Zdt _ i (by rw [lw]; exact hi)
 have k64:∀ i:Nat,i<64→(vw K).getD i .junk=V (K.getD i 0):=fun i hi => Zdt _ i (by rw [hKl]; exact hi)
 have wlt:∀ i,ws.getD i 0<(4294967296:Nat):=Cl hWlt
 have klt:∀ i,K.getD i 0<(4294967296:Nat):=Cl hKlt
 simp only [Qd,go_sem,Z1 _ _ hp,ho,t8,Yh,hs,Ze2]
 refine ⟨hp,?_⟩
 refine Za (cW _) (fun _ => rfl) ?_
 simp only [go_sem]
 refine Za (cK _) (fun _ => rfl) ?_
 simp only [go_sem,Yh,lw,Z1b lw,spl8 hs,Ze2,hKl,Z1b hKl]
 refine Z4 _ (fun (i:Nat) => ([(0,.ptr p 0),(4,.ptr H.length 0),(5,.ptr (H.length+1) 0),(6,.ptr (H.length+2) 0),(20,I i)],H++[⟨vw (((K.zip ws).take i).foldl rnd s),0,true⟩,⟨vw ws,0,true⟩,⟨vw K,0,true⟩])) (fun i => i≤64) (fun i => 64 - i) 0 (Nat.zero_le _) (by simp only [List.take_zero,List.foldl_nil,Int.natCast_zero]) ?_
 intro i hi
 simp only [go_sem]
 refine ⟨fun hh => ?_,fun hh => ?_⟩
 ·have hi:i<64:=by omega
  have hnx:=Zh0 (K.zip ws) s i (by rw [List.length_zip,lw,hKl]; exact hi)
  rw [Zu1 (by rw [hKl]; exact hi) (by rw [lw]; exact hi)] at hnx
  have hS8:=Ds hs ((K.zip ws).take i)
  have hSlt:=Zkt (l:=(K.zip ws).take i) hlt
  generalize ((K.zip ws).take i).foldl rnd s=S at *
  obtain ⟨a0,a1,a2,a3,a4,a5,a6,a7,rfl⟩:=Zqd hS8
  simp only [List.mem_cons,List.not_mem_nil,or_false,forall_eq_or_imp,forall_eq] at hSlt
  obtain ⟨l0,l1,l2,l3,l4,l5,l6,l7⟩:=hSlt
  rw [Zt2] at hnx
  have w4:IntKind.i64.wrap ((i:Int)+1)=((i+1:Nat):Int):=by rw [w64 _ (by omega) (by omega)]; omega
  simp only [go_sem,Yh,lw,w4,l4]
  repeat (refine And.intro (by omega) ?_)
  have x4:4294967295 - a4<(4294967296:Nat):=by omega
  have hn4:=Zvg l4
  simp only [unv,IntKind.bits,AV.lit.injEq,Value.int.injEq,true_and] at hn4
  have y1:a4 &&& a5<(4294967296:Nat):=Nat.lt_of_le_of_lt Nat.and_le_left l4
  have y2:(4294967295 - a4) &&& a6<(4294967296:Nat):=Nat.lt_of_le_of_lt Nat.and_le_right l6
  have y3:a0 &&& a1<(4294967296:Nat):=Nat.lt_of_le_of_lt Nat.and_le_left l0
  have y4:a0 &&& a2<(4294967296:Nat):=Nat.lt_of_le_of_lt Nat.and_le_left l0
  have y5:a1 &&& a2<(4294967296:Nat):=Nat.lt_of_le_of_lt Nat.and_le_left l1
  have y6:=Nat.xor_lt_two_pow (n:=32) y3 y4
  refine Za (Zdz (a:=6) (b:=11) (c:=25) l4 (by decide) (by decide) (by decide)) (fun _ => rfl) ?_
  simp only [go_sem,hn4,Zo4 l4 l5,Zo4 x4 l6,Dc y1 y2,Zo4 l0 l1,Zo4 l0 l2,Zo4 l1 l2,Dc y3 y4,Dc y6 y5,Yh,lw,hKl,k64 i hi,h64 i hi]
  repeat (refine And.intro (by omega) ?_)
  refine Za (Zdz (a:=2) (b:=13) (c:=22) l0 (by decide) (by decide) (by decide)) (fun _ => rfl) ?_
  simp only [go_sem,← Int.natCast_add,Zds,Nat.mod_add_mod,Nat.add_mod_mod,Zq,fillv,w4]
  repeat (refine And.intro (by omega) ?_)
  refine ⟨i+1,rfl,?_,by omega,by omega⟩
  rw [hnx]
  show H++[_,_,_]=H++[⟨[V _,V a0,V a1,V a2,V _,V a4,V a5,V a6],0,true⟩,_,_]
  simp only [big0,big1,chN,majN,Nat.add_assoc]
 ·obtain rfl:i=64:=by omega
  have hz:(K.zip ws).take 64=K.zip ws:=List.take_of_length_le (by rw [List.length_zip,lw,hKl]; decide)
  rw [hz]
  have hS8:=Ds hs (K.zip ws)
  have hSlt:=Zkt (l:=K.zip ws) hlt
  generalize (K.zip ws).foldl rnd s=S at *
  clear hz h64 k64 wlt klt cK cW
  have oP:∀ c G,obj (setO H p c++G) p=⟨c,0,true⟩:=fun c G => by
   rw [Z1 _ _ (by rw [Zk]; exact hp),Yj _ _ hp,ho]
  have sP:∀ c d G,setO (setO H p c++G) p d=setO H p d++G:=fun c d G => by
   rw [U2 _ _ _ (by rw [Zk]; exact hp),Vj]
  have oG:∀ c G,obj (setO H p c++G) H.length=obj G 0:=fun c G => by
   have:=Z7 (setO H p c) G
   rwa [Zk] at this
  have aL:(addS s S).length=8:=by rw [addS,List.length_zipWith,hs,hS8]; rfl
  have e0:H++[⟨vw S,0,true⟩,⟨vw ws,0,true⟩,⟨vw K,0,true⟩]=setO H p (vw ((addS s S).take 0++s.drop 0)++[r,nn])++[⟨vw S,0,true⟩,⟨vw ws,0,true⟩,⟨vw K,0,true⟩]:=by
   rw [List.take_zero,List.nil_append,List.drop_zero,Bp ho hp]
  rw [e0]
  refine Z4 _ (fun (i:Nat) => ([(0,.ptr p 0),(4,.ptr H.length 0),(94,I i)],setO H p (vw ((addS s S).take i++s.drop i)++[r,nn])++[⟨vw S,0,true⟩,⟨vw ws,0,true⟩,⟨vw K,0,true⟩])) (fun i => i≤8) (fun i => 8 - i) 0 (Nat.zero_le _) (by simp only [Int.natCast_zero]) ?_
  intro i hi
  simp only [go_sem]
  refine ⟨fun hh => ?_,fun hh => ?_⟩
  ·have hi:i<8:=by omega
   have w4:IntKind.i64.wrap ((i:Int)+1)=((i+1:Nat):Int):=by rw [w64 _ (by omega) (by omega)]; omega
   have l8:((addS s S).take i++s.drop i).length=8:=by rw [List.length_append,List.length_take,List.length_drop,aL,hs]; omega
   have tL:((addS s S).take i).length=i:=by rw [List.length_take,aL]; omega
   have g1:(vw ((addS s S).take i++s.drop i)++[r,nn]).getD i .junk=V (s.getD i 0):=by
    rw [L5 _ _ _ (by rw [l8]; exact hi),Vr (show i<s.length by rw [hs]; exact hi) 0]
    exact congrArg V (Yi (j:=0) tL (0:Nat))
   have g2:(vw S).getD i .junk=V (S.getD i 0):=Zdt _ _ (by rw [hS8]; exact hi)
   have gl:(vw ((addS s S).take i++s.drop i)++[r,nn]).length=10:=by rw [List.length_append,Yh,l8]; rfl
   have st:(vw ((addS s S).take i++s.drop i)++[r,nn]).set i (V ((s.getD i 0+S.getD i 0)%(4294967296:Nat)))=vw ((addS s S).take (i+1)++s.drop (i+1))++[r,nn]:=by
    have ha:(addS s S).getD i 0=(s.getD i 0+S.getD i 0)%(4294967296:Nat):=by
     simp only [addS,List.getD_eq_getElem?_getD,List.getElem?_zipWith,List.getElem?_eq_getElem (show i<s.length by rw [hs]; exact hi),List.getElem?_eq_getElem (show i<S.length by rw [hS8]; exact hi)]
     rfl
    rw [List.set_append_left _ _ (by rw [Yh,l8]; exact hi),Yx (show i<(addS s S).length by rw [aL]; exact hi) 0,ha,Vr (show i<s.length by rw [hs]; exact hi) 0]
    congr 1
    show (List.map V _).set i _=List.map V _
    rw [List.map_append,List.set_append_right _ _ (by rw [List.length_map,tL]; exact Nat.le_refl _),List.length_map,tL,Nat.sub_self]
    simp
   simp only [go_sem,oP,sP,oG,gl,g1,g2,Yh,hS8,← Int.natCast_add,Zds,w4,st]
   exact ⟨by omega,by omega,by omega,by omega,by omega,by omega,i+1,rfl,rfl,by omega,by omega⟩
  ·obtain rfl:i=8:=by omega
   have e1:(addS s S).take 8++s.drop 8=addS s S:=by
    rw [List.take_of_length_le (by rw [aL]; exact Nat.le_refl _),List.drop_eq_nil_of_le (by rw [hs]; exact Nat.le_refl _),List.append_nil]
   rw [e1]
   generalize addS s S=A at *
   exact Ad hp (by rw [ho]) (by simp only [Iq,Zl4,lowL,hr,hn]) rfl
set_option maxRecDepth 10000
theorem Z3y {sz n:Nat} {H:AH} {x:AV} {cs c:List AV} {p:Nat} (h:Sl sz H x cs n) (hp:rid x≠some p):Sl sz (setO H p c) x cs n:=by
 rcases h.cases with ⟨rfl,rfl,rfl⟩ | ⟨f,rfl,h1⟩ | ⟨id,off,L,rfl,h1,h2,h3,h4,h5⟩
 ·exact .nil
 ·exact .view h1 f
 ·have hne:p≠id:=fun e => hp (by rw [e]; rfl)
  have e:=W7 H c hne
  exact .row (by rw [Zk]; exact h1) (by rw [e]; exact h2) h3 (by rw [e]; exact h4) (by rw [e]; exact h5)
theorem Z31 {H:AH} {x:AV} {vs:List AV} (h:GR H x vs) (H2:AH):low (renk H.length []) H2 x=x:=by
 rcases h with ⟨rfl,_⟩ | ⟨q,L,cs,rfl,h1,_⟩
 ·rfl
 ·simp only [low,renk,if_pos h1]
theorem Zuz {H:AH} {x:AV} {vs:List AV} (h:GR H x vs):x.one=true∧x.cells=[x]:=by
 rcases h with ⟨rfl,_⟩ | ⟨q,L,cs,rfl,h1,_⟩ <;> exact ⟨rfl,rfl⟩
theorem Z32 {H:AH} {x s:AV} {vs cs:List AV} {m:Nat} (h:GR H x vs) (hs:Sl 1 H s cs m) (hone:cs.all AV.one=true) (hb:vs.length+m≤140737488355328) :
  Ow 1 1 H x s∧GR (appH 1 H s x) (appV 1 H s x) (vs++cs)∧New H x (appV 1 H s x)∧Fr H (appH 1 H s x) (fun i => rid x=some i):=by
 have hl:cs.length=m:=by have:=hs.length; omega
 have h1:=hs.ok
 have h2:=hs.c
 have h3:=hs.n
 rcases h with ⟨rfl,rfl⟩ | ⟨q,L,ds,rfl,g1,g2,g3,g4,g5⟩
 ·refine ⟨⟨h1,by rw [h2]; exact hone,by rw [h3]; simpa [srcN] using hb,trivial⟩,?_,?_,?_⟩
  ·rw [V9,Ub,h2,h3]
   exact .inr ⟨H.length,cs.length,cs,by rw [List.nil_append,hl],by simp,by rw [Z7]; rfl,rfl,by simp,by simp⟩
  ·intro q hq; rw [V9] at hq; cases hq; exact .inr (Nat.le_refl _)
  ·rw [Ub]; exact Fr.app _ _ _
 ·refine ⟨⟨h1,by rw [h2]; exact hone,by rw [h3]; show (vs.length+m)*1≤_; omega,g1,by rw [g2,g3],by rw [g2],by rw [g2],by omega,.inl rfl⟩,?_,?_,?_⟩
  ·rw [V8,Ua,h2,h3,g2]
   refine .inr ⟨q,_,_,by rw [List.length_append,hl],by rw [Zk]; exact g1,by rw [Yj _ _ g1,g2],?_,?_,?_⟩
   ·simp only [appL,appC,Nat.zero_add,Nat.mul_one]
    split
    ·simp [g3,hl]
    ·simp only [List.length_append,List.length_take,List.length_drop,hl]; omega
   ·simp only [appL,Nat.zero_add,Nat.mul_one,List.length_append,hl]
    split <;> omega
   ·simp only [appC,Nat.zero_add,Nat.mul_one,List.length_append,hl]
    split
    ·rename_i hh
     have:ds=vs:=by rw [← g5,List.take_of_length_le (by omega)]
     subst this
     rw [List.take_of_length_le (by simp [hl])]
    ·rw [g5,List.take_append_of_le_length (by simp [hl]),List.take_of_length_le (by simp [hl])]
  ·intro q' hq; rw [V8] at hq; exact .inl hq
  ·rw [Ua]; exact Fr.set _ _ rfl
def HS (nb:Nat) (H:AH) (p:Nat) (l:List UInt8):Prop:=p<H.length∧nb≤p∧∃ r,obj H p=⟨vw (absb (l.length / 64) IV256 l)++[r,I l.length],0,true⟩∧GR H r (bs (l.drop (64*(l.length / 64))))∧∀ q,rid r=some q→nb≤q∧q≠p
def hrun (p:Nat) (N:AV):Nat→AH→List Nat→List UInt8→AH
 | 0,H,_,_ => H
 | k+1,H,st,R => hrun p N k (setO H p (vw (Tx st (R.take 64))++[.row H.length 0 (R.length - 64) (R.length - 64),N])++[⟨bs (R.drop 64),1,true⟩]) (Tx st (R.take 64)) (R.drop 64)
theorem Ey {p nb:Nat} {N:AV}:∀ (k:Nat) (H:AH) (st:List Nat) (R:List UInt8) (r:AV),p<H.length→nb≤p→p<H.length→obj H p=⟨vw st++[r,N],0,true⟩→GR H r (bs R)→(∀ q,rid r=some q→nb≤q∧q≠p)→nb≤H.length →
  ∃ r',p<(hrun p N k H st R).length∧obj (hrun p N k H st R) p=⟨vw (absb k st R)++[r',N],0,true⟩∧GR (hrun p N k H st R) r' (bs (R.drop (64*k)))∧(∀ q,rid r'=some q→nb≤q∧q≠p)∧Fr H (hrun p N k H st R) (fun i => nb≤i)
 | 0,H,st,R,r,h1,h2,_,h3,h4,h5,h6 => ⟨r,h1,h3,h4,h5,Fr.refl _ _⟩
 | k+1,H,st,R,r,h1,h2,_,h3,h4,h5,h6 => by
  have hp1:p<(setO H p (vw (Tx st (R.take 64))++[.row H.length 0 (R.length - 64) (R.length - 64),N])).length:=by rw [Zk]; exact h1
  have o1:obj (setO H p (vw (Tx st (R.take 64))++[.row H.length 0 (R.length - 64) (R.length - 64),N])++[⟨bs (R.drop 64),1,true⟩]) p=⟨vw (Tx st (R.take 64))++[.row H.length 0 (R.length - 64) (R.length - 64),N],0,true⟩:=by
   rw [Z1 _ _ hp1,Yj _ _ h1,h3]
  have o2:obj (setO H p (vw (Tx st (R.take 64))++[.row H.length 0 (R.length - 64) (R.length - 64),N])++[⟨bs (R.drop 64),1,true⟩]) H.length=⟨bs (R.drop 64),1,true⟩:=by
   have:=Z7 (setO H p (vw (Tx st (R.take 64))++[.row H.length 0 (R.length - 64) (R.length - 64),N])) [⟨bs (R.drop 64),1,true⟩]
   rw [Zk] at this; exact this
  obtain ⟨r',g1,g2,g3,g4,g5⟩:=Ey (nb:=nb) k _ (Tx st (R.take 64)) (R.drop 64) _ (by simp [Zk]; omega) h2 (by simp [Zk]; omega) o1
   (.inr ⟨H.length,R.length - 64,bs (R.drop 64),by rw [Zt,List.length_drop],by simp [Zk],o2,by rw [Zt,List.length_drop],by rw [Zt,List.length_drop]; exact Nat.le_refl _,List.take_of_length_le (Nat.le_refl _)⟩)
   (fun q hq => by cases hq; exact ⟨h6,by omega⟩) (by simp [Zk]; omega)
  refine ⟨r',g1,?_,?_,g4,?_⟩
  ·rw [absb]; exact g2
  ·rw [List.drop_drop] at g3
   rw [show 64*(k+1)=64+64*k by omega]; exact g3
  ·refine Fr.trans (Fr.trans (Fr.set H _ (S:=fun i => nb≤i) h2) (Fr.app _ _ _)) g5
theorem Ih {nb:Nat} {H:AH} {p:Nat} {x:AV} {l b:List UInt8} (h:HS nb H p l) (hx:Sl 1 H x (bs b) b.length) (hxp:rid x≠some p) (hlen:l.length+b.length≤1099511627776) (hnb:nb≤H.length) :
  ∃ H',Called Tryz.prog F.sha_Hash_Write [.ptr p 0,x] H (.tup []) H'∧HS nb H' p (l++b)∧Fr H H' (fun i => nb≤i):=by
 obtain ⟨hp,hnp,r,ho,hg,hq⟩:=h
 have hIV:IV256.length=8:=rfl
 have s8:(absb (l.length / 64) IV256 l).length=8:=W9 _ _ _ hIV
 have slt:=Zdp (l.length / 64) IV256 l (by decide)
 have hab:=fun m R => Ny (l.length / 64) m IV256 (l.take (64*(l.length / 64))) R (by rw [List.length_take]; omega)
 generalize hst:absb (l.length / 64) IV256 l=st at *
 have hst2:absb (l.length / 64) IV256 (l.take (64*(l.length / 64)))=st:=by
  have:=Ny (l.length / 64) 0 IV256 (l.take (64*(l.length / 64))) (l.drop (64*(l.length / 64))) (by rw [List.length_take]; omega)
  rw [List.take_append_drop,Nat.add_zero,hst] at this
  exact this.symm
 rw [hst2] at hab
 generalize hR0:l.drop (64*(l.length / 64))=R0 at *
 have hRl:R0.length=l.length%64:=by rw [← hR0,List.length_drop]; omega
 -- the count,the bytes laid by
 let N:AV:=I ((l.length:Int)+(b.length:Int))
 have hxH1:Sl 1 (setO H p (vw st++[r,N])) x (bs b) b.length:=Z3y hx hxp
 have hgH1:GR (setO H p (vw st++[r,N])) r (bs R0):=hg.frame (Fr.set H _ (S:=fun i => i=p) rfl) (fun q h hh => (hq q h).2 hh)
 obtain ⟨a1,a2,a3,a4⟩:=Z32 hgH1 hxH1 (Yz b) (by rw [Zt]; omega)
 generalize hr2:appV 1 (setO H p (vw st++[r,N])) x r=r2 at *
 generalize hH2:appH 1 (setO H p (vw st++[r,N])) x r=H2 at *
 have oH2:obj H2 p=⟨vw st++[r,N],0,true⟩:=by
  rw [a4.2 p (by rw [Zk]; exact hp) (fun hh => (hq p hh).2 rfl),Yj _ _ hp,ho]
 have pH2:p<H2.length:=Nat.lt_of_lt_of_le (by rw [Zk]; exact hp) a4.1
 have lH2:H.length≤H2.length:=by have:=a4.1; rwa [Zk] at this
 have hq2:∀ q,rid r2=some q→nb≤q∧q≠p:=fun q h => by
  rcases a3 q h with h' | h'
  ·exact hq q h'
  ·rw [Zk] at h'; exact ⟨by omega,by omega⟩
 have gH3:GR (setO H2 p (vw st++[r2,N])) r2 (bs (R0++b)):=by
  rw [show bs (R0++b)=bs R0++bs b from List.map_append]
  exact a2.frame (Fr.set H2 _ (S:=fun i => i=p) rfl) (fun q h hh => (hq2 q h).2 hh)
 have oH3:obj (setO H2 p (vw st++[r2,N])) p=⟨vw st++[r2,N],0,true⟩:=by rw [Yj _ _ pH2,oH2]
 generalize hH3:setO H2 p (vw st++[r2,N])=H3 at *
 have lH3:H3.length=H2.length:=by rw [← hH3,Zk]
 have pH3:p<H3.length:=by rw [lH3]; exact pH2
 have fr3:Fr H H3 (fun i => nb≤i):=by
  rw [← hH3]
  exact ((Fr.set H _ (S:=fun i => nb≤i) hnp).trans (a4.mono fun i _ h => (hq i h).1)).trans (Fr.set H2 _ hnp)
 obtain ⟨r',f1,f2,f3,f4,f5⟩:=Ey (nb:=nb) ((R0++b).length / 64) H3 st (R0++b) r2 pH3 hnp pH3 oH3 gH3 hq2 (by omega)
 refine ⟨hrun p N ((R0++b).length / 64) H3 st (R0++b),?_,⟨f1,hnp,r',?_,?_,f4⟩,fr3.trans f5⟩
 ·refine J9 ?_
  have c9:(vw st++[r,I l.length]).getD 9 .junk=I l.length:=Yi (j:=1) (by rw [Yh,s8]) _
  have c8:∀ y z:AV,(vw st++[y,z]).getD 8 .junk=y:=fun y z => Yi (j:=0) (by rw [Yh,s8]) _
  have s9:∀ y z w:AV,(vw st++[y,z]).set 9 w=vw st++[y,w]:=fun y z w => by
   rw [List.set_append_right _ _ (by rw [Yh,s8]; decide),Yh,s8]; rfl
  have s8':∀ y z w:AV,(vw st++[y,z]).set 8 w=vw st++[w,z]:=fun y z w => by
   rw [List.set_append_right _ _ (by rw [Yh,s8]; decide),Yh,s8]; rfl
  have cl:∀ y z:AV,(vw st++[y,z]).length=10:=fun y z => by rw [List.length_append,Yh,s8]; rfl
  have w1:IntKind.i64.wrap ((l.length:Int)+(b.length:Int))=(l.length:Int)+(b.length:Int):=by rw [w64 _ (by omega) (by omega)]
  have oH1:obj (setO H p (vw st++[r,N])) p=⟨vw st++[r,N],0,true⟩:=by rw [Yj _ _ hp,ho]
  have og:=Zuz a2
  simp only [Rc,go_sem,ho,cl,c9,s9,hx.lenT,hx.n,w1]
  repeat (refine And.intro (by omega) ?_)
  rw [show (AV.lit (.int .i64 ((l.length:Int)+(b.length:Int))))=N from rfl]
  simp only [go_sem,oH1,cl,c8,hr2,hH2,oH2,og.1,og.2,s8',hH3]
  obtain ⟨b1,b2,b3,b4⟩:=a1
  rw [hxH1.n] at b3
  refine ⟨hp,⟨b1,b2,by omega,b4⟩,pH2,?_⟩
  generalize hf:hrun p N ((R0++b).length / 64) H3 st (R0++b)=Hf at *
  refine Z4 _ (fun (s:Nat × AH × List Nat × List UInt8 × AV) => ([(0,.ptr p 0)],s.2.1))
   (fun s => hrun p N s.1 s.2.1 s.2.2.1 s.2.2.2.1=Hf∧s.1=s.2.2.2.1.length / 64∧p<s.2.1.length∧obj s.2.1 p=⟨vw s.2.2.1++[s.2.2.2.2,N],0,true⟩∧GR s.2.1 s.2.2.2.2 (bs s.2.2.2.1)∧(∀ q,rid s.2.2.2.2=some q→q≠p)∧s.2.2.1.length=8∧(∀ y ∈ s.2.2.1,y<(4294967296:Nat))∧s.2.2.2.1.length≤1099511627776+64) (fun s => s.1) ((R0++b).length / 64,H3,st,R0++b,r2)
   ⟨hf,rfl,pH3,oH3,gH3,fun q h => (hq2 q h).2,s8,slt,by show (R0++b).length≤_; rw [List.length_append]; omega⟩ rfl ?_
  rintro ⟨k,Hc,sc,R,rr⟩ ⟨i1,i2,i3,i4,i5,i6,i7,i8,i9⟩
  simp only at i1 i2 i3 i4 i5 i6 i7 i8 i9
  clear c9 c8 s9 s8' cl
  have c8:∀ y z:AV,(vw sc++[y,z]).getD 8 .junk=y:=fun y z => Yi (j:=0) (by rw [Yh,i7]) _
  have cl:∀ y z:AV,(vw sc++[y,z]).length=10:=fun y z => by rw [List.length_append,Yh,i7]; rfl
  have sR:=i5.sl
  rw [Zt] at sR
  simp only [go_sem,i3,i4,cl,c8,sR.lenT,sR.n]
  have hNl:∀ H2,low (renk Hc.length []) H2 N=N:=fun _ => rfl
  have c8':∀ (z:List Nat),z.length=8→∀ y w:AV,(vw z++[y,w]).getD 8 .junk=y:=fun z hz y w => Yi (j:=0) (by rw [Yh,hz]) _
  have s8':∀ (z:List Nat),z.length=8→∀ y w v:AV,(vw z++[y,w]).set 8 v=vw z++[v,w]:=fun z hz y w v => by
   rw [List.set_append_right _ _ (by rw [Yh,hz]; decide),Yh,hz]; rfl
  have cl':∀ (z:List Nat),z.length=8→∀ y w:AV,(vw z++[y,w]).length=10:=fun z hz y w => by rw [List.length_append,Yh,hz]; rfl
  refine ⟨fun hh => ?_,fun hh => ?_⟩
  ·have hR64:64≤R.length:=by omega
   have bd1:T2 R.length none (some (.lit (.int .i64 64))) none:=by
    refine ⟨trivial,trivial,trivial,?_,?_,?_,?_⟩ <;> simp [bnd,asI] <;> omega
   have bd2:T2 R.length (some (.lit (.int .i64 64))) none none:=by
    refine ⟨trivial,trivial,trivial,?_,?_,?_,?_⟩ <;> simp [bnd,asI] <;> omega
   have k1:=sR.sl bd1
   have e64:cut (bs R) 1 (lo0 none) (hi0 R.length (some (.lit (.int .i64 64))))=bs (R.take 64):=by
    show ((bs R).drop (0*1)).take ((64 - 0)*1)=_
    rw [Nat.zero_mul,List.drop_zero]; exact (List.map_take).symm
   have l64:(R.take 64).length=64:=by rw [List.length_take]; omega
   have n64:hi0 R.length (some (.lit (.int .i64 64))) - lo0 none=(R.take 64).length:=by rw [l64]; rfl
   rw [e64,n64] at k1
   have c1:=J0 i7 (R.take 64)
   have oc:obj (setO Hc p (vw (Tx sc (R.take 64))++[rr,N])) p=⟨vw (Tx sc (R.take 64))++[rr,N],0,true⟩:=by rw [Yj _ _ i3,i4]
   have gc:GR (setO Hc p (vw (Tx sc (R.take 64))++[rr,N])) rr (bs R):=i5.frame (Fr.set Hc _ (S:=fun i => i=p) rfl) (fun q h hh => i6 q h hh)
   have sc2:=gc.sl
   rw [Zt] at sc2
   have k2:=sc2.sl bd2
   have e65:cut (bs R) 1 (lo0 (some (.lit (.int .i64 64)))) (hi0 R.length none)=bs (R.drop 64):=by
    show ((bs R).drop (64*1)).take ((R.length - 64)*1)=_
    rw [List.take_of_length_le (by rw [List.length_drop,Zt]; omega)]; exact (List.map_drop).symm
   have n65:hi0 R.length none - lo0 (some (.lit (.int .i64 64)))=R.length - 64:=rfl
   rw [e65,n65] at k2
   have clt:=fun y (hy:y ∈ Tx sc (R.take 64)) => Zfs (R.take 64) y hy
   obtain ⟨k',hk'⟩:∃ k',k=k'+1:=⟨k - 1,by omega⟩
   subst hk'
   have h1:=i1
   rw [hrun] at h1
   refine ⟨sR.slOk bd1,Za (Z0l i3 i4 i7 i8 (Z31 i5) hNl k1 l64) (fun h => by cases h) ?_⟩
   generalize Tx sc (R.take 64)=sn at *
   simp only [go_sem,Zk,oc,c8' sn c1,cl' sn c1]
   generalize hy:Xl 1 (setO Hc p (vw sn++[rr,N])) (some (.lit (.int .i64 64))) none none none rr=y at *
   have oP:∀ c G,obj (setO Hc p c++G) p=⟨c,0,true⟩:=fun c G => by
    rw [Z1 _ _ (by rw [Zk]; exact i3),Yj _ _ i3,i4]
   have sP:∀ c d G,setO (setO Hc p c++G) p d=setO Hc p d++G:=fun c d G => by
    rw [U2 _ _ _ (by rw [Zk]; exact i3),Vj]
   have k2l:=Zt (R.drop 64)
   simp only [go_sem,k2.c,k2.n,k2l,List.length_drop,oP,sP,Zk,cl' sn c1,s8' sn c1]
   have oq:obj (setO Hc p (vw sn++[.row Hc.length 0 (R.length - 64) (R.length - 64),N])++[⟨bs (R.drop 64),1,true⟩]) Hc.length=⟨bs (R.drop 64),1,true⟩:=by
    have:=Z7 (setO Hc p (vw sn++[.row Hc.length 0 (R.length - 64) (R.length - 64),N])) [⟨bs (R.drop 64),1,true⟩]
    rw [Zk] at this; exact this
   refine ⟨i3,sc2.slOk bd2,⟨k2.ok,Yz _,by omega⟩,by omega,(k',_,sn,R.drop 64,.row Hc.length 0 (R.length - 64) (R.length - 64)),rfl,⟨h1,by show k'=(R.drop 64).length / 64; rw [List.length_drop]; omega,?_,oP _ _,?_,?_,c1,clt,?_⟩,Nat.lt_succ_self _⟩
   ·show p<(setO Hc p _++[_]).length
    simp [Zk]; omega
   ·exact .inr ⟨Hc.length,R.length - 64,bs (R.drop 64),by rw [Zt,List.length_drop],by simp [Zk],oq,by rw [Zt,List.length_drop],by rw [Zt,List.length_drop]; exact Nat.le_refl _,List.take_of_length_le (Nat.le_refl _)⟩
   ·intro q hq; cases hq; omega
   ·show (R.drop 64).length≤_; rw [List.length_drop]; omega
  ·obtain rfl:k=0:=by omega
   rw [hrun] at i1
   rw [List.length_append] at hf
   rw [hf,← i1]
   exact Leave.refl _ _ _
 ·have hk:(l++b).length / 64=l.length / 64+(R0++b).length / 64:=by
   rw [List.length_append,List.length_append,hRl]; omega
  rw [f2,hk,← hab]
  have e1:l.take (64*(l.length / 64))++(R0++b)=l++b:=by rw [← List.append_assoc,← hR0,List.take_append_drop]
  rw [e1]
  congr 3
  show [I ((l.length:Int)+(b.length:Int))]=[I ((l++b).length:Nat)]
  rw [List.length_append,Int.natCast_add]
 ·have hk:(l++b).length / 64=l.length / 64+(R0++b).length / 64:=by
   rw [List.length_append,List.length_append,hRl]; omega
  have e1:(l++b).drop (64*((l++b).length / 64))=(R0++b).drop (64*((R0++b).length / 64)):=by
   rw [hk,Nat.mul_add,← List.drop_drop,List.drop_append_of_le_length (by omega),hR0]
  rw [e1]; exact f3
set_option maxRecDepth 10000
theorem Zts {H:AH}:Called Tryz.prog F.sha_New [] H (.ptr H.length 0) (H++[⟨vw IV256++[nilS,I 0],0,true⟩]):=by
 refine Zns ?_
 simp only [Er,go_sem,Zq,fillv]
 exact Leave.refl _ _ _
theorem Zui {nb:Nat} {H:AH} (h:nb≤H.length):HS nb (H++[⟨vw IV256++[nilS,I 0],0,true⟩]) H.length [] :=
 ⟨by simp,h,nilS,by rw [Z7]; rfl,.inl ⟨rfl,rfl⟩,fun q hq => by cases hq⟩
abbrev rst (l:List UInt8):List UInt8:=l.drop (64*(l.length / 64))
theorem Kh (l:List UInt8):(rst l).length=l.length%64:=by rw [List.length_drop]; omega
theorem Zbf {nb:Nat} {H:AH} {p:Nat} {l:List UInt8} (h:HS nb H p l) :
  Called Tryz.prog F.sha_Hash_Clone [.ptr p 0] H (.ptr (H.length+1) 0) (H++[⟨bs (rst l),1,true⟩,⟨vw (absb (l.length / 64) IV256 l)++[.row H.length 0 (l.length%64) (l.length%64),I l.length],0,true⟩]):=by
 obtain ⟨hp,hnp,r,ho,hg,hq⟩:=h
 have s8:(absb (l.length / 64) IV256 l).length=8:=W9 _ _ _ P5
 generalize absb (l.length / 64) IV256 l=st at *
 have hgs:=hg.sl
 rw [Zt,Kh] at hgs
 have hl:=Kh l
 have og:=Zuz hg
 refine Ia ?_
 have t8:(vw st++[r,I l.length]).take 8=vw st:=List.take_left' (by rw [Yh,s8])
 have c8:(vw st++[r,I l.length]).getD 8 .junk=r:=Yi (j:=0) (by rw [Yh,s8]) _
 have c9:(vw st++[r,I l.length]).getD 9 .junk=I l.length:=Yi (j:=1) (by rw [Yh,s8]) _
 have cl:(vw st++[r,I l.length]).length=10:=by rw [List.length_append,Yh,s8]; rfl
 have bl:(bs (l.drop (64*(l.length / 64)))).length=l.length%64:=by rw [Zt]; exact hl
 have z10:splice [Y0,Y0,Y0,Y0,Y0,Y0,Y0,Y0,nilS,I 0] 0 (vw st)=vw st++[nilS,I 0]:=by
  rw [Xd _ _ _ (by rw [Yh,s8]; decide),Yh,s8]; rfl
 have z8:∀ a b v:AV,(vw st++[a,b]).set 8 v=vw st++[v,b]:=fun a b v => by
  rw [List.set_append_right _ _ (by rw [Yh,s8]; decide),Yh,s8]; rfl
 have z9:∀ a b v:AV,(vw st++[a,b]).set 9 v=vw st++[a,v]:=fun a b v => by
  rw [List.set_append_right _ _ (by rw [Yh,s8]; decide),Yh,s8]; rfl
 have zl:∀ a b:AV,(vw st++[a,b]).length=10:=fun a b => by rw [List.length_append,Yh,s8]; rfl
 have ze:∀ a b:AV,(vw st++[a,b]).isEmpty=false:=fun a b => by
  cases hh:(vw st++[a,b]) with
  | nil => have:=zl a b; rw [hh] at this; cases this
  | cons => rfl
 simp only [Rd,go_sem,ho,cl,t8,c8,c9,hgs.n,hgs.c,Zq,fillv,Yh,s8,Ze2,z10,z8,z9,zl,ze,bl,Nat.add_assoc,List.all_append]
 exact ⟨hp,hp,⟨hgs.ok,Yz _,by omega⟩,hp,Leave.refl _ _ _⟩
theorem Zrl {H:AH} {l:List UInt8}:HS H.length (H++[⟨bs (rst l),1,true⟩,⟨vw (absb (l.length / 64) IV256 l)++[.row H.length 0 (l.length%64) (l.length%64),I l.length],0,true⟩]) (H.length+1) l:=by
 refine ⟨by simp,by omega,_,by rw [Y2]; rfl,.inr ⟨H.length,l.length%64,bs (rst l),by rw [Zt,Kh],by simp,by rw [Z7]; rfl,by rw [Zt,Kh],by rw [Zt,Kh]; exact Nat.le_refl _,List.take_of_length_le (Nat.le_refl _)⟩,fun q hq => ?_⟩
 cases hq; omega
theorem Zop (k n i:Nat) (h:i<k):(beN k n).getD i 0=UInt8.ofNat (n / 256^(k - 1 - i)):=by
 rw [beN,List.getD_eq_getElem?_getD,List.getElem?_map,List.getElem?_range h]; rfl
theorem Zey:∀ (S:List Nat) (i:Nat),i<4*S.length→(outS S).getD i 0=UInt8.ofNat (S.getD (i / 4) 0 / 256^(3 - i%4))
 | [],i,h => by simp at h
 | a::r,i,h => by
  rw [outS,List.flatMap_cons]
  by_cases hi:i<4
  ·rw [List.getD_eq_getElem?_getD,List.getElem?_append_left (by rw [Zm]; exact hi),← List.getD_eq_getElem?_getD,Zop 4 a i hi]
   rw [show i / 4=0 by omega,List.getD_cons_zero,show 4 - 1 - i=3 - i%4 by omega]
  ·obtain ⟨j,rfl⟩:∃ j,i=4+j:=⟨i - 4,by omega⟩
   rw [Yi (Zm 4 a)]
   have:=Zey r j (by rw [List.length_cons] at h; omega)
   rw [outS] at this
   rw [this,show (4+j) / 4=j / 4+1 by omega,List.getD_cons_succ,show (4+j)%4=j%4 by omega]
set_option maxRecDepth 10000
theorem Z0b (b:UInt8) (n:Nat) (h:b=UInt8.ofNat n):AV.lit (.int .u8 ((n%256:Nat):Int))=u8 b:=by rw [h,Zdx]
theorem Ztr {nb:Nat} {H:AH} {p:Nat} {l:List UInt8} (h:HS nb H p l) (hl:l.length≤549755813888):Called Tryz.prog F.sha_Hash_Sum [.ptr p 0] H (.agg (bs (sha l))) H:=by
 refine Fu ?_
 have hz:(List.replicate 32 (AV.lit (.int .u8 0))).length=32:=rfl
 generalize hZ:List.replicate 32 (AV.lit (.int .u8 0))=Z at *
 have hA:HS nb (H++[⟨Z,0,true⟩]) p l:=by
  obtain ⟨hp,hnp,r,ho,hg,hq⟩:=h
  exact ⟨by simp; omega,hnp,r,by rw [Z1 _ _ hp]; exact ho,hg.frame (Fr.app H _ (fun _ => False)) (fun _ _ h => h),hq⟩
 have hcl:=Zbf hA
 have hsc:=Zrl (H:=H++[⟨Z,0,true⟩]) (l:=l)
 have hrl:=Kh l
 simp only [Ph,go_sem]
 rw [show [AV.lit (.int .u8 0),AV.lit (.int .u8 0),AV.lit (.int .u8 0),AV.lit (.int .u8 0),AV.lit (.int .u8 0),AV.lit (.int .u8 0),AV.lit (.int .u8 0),AV.lit (.int .u8 0),AV.lit (.int .u8 0),AV.lit (.int .u8 0),AV.lit (.int .u8 0),AV.lit (.int .u8 0),AV.lit (.int .u8 0),AV.lit (.int .u8 0),AV.lit (.int .u8 0),AV.lit (.int .u8 0),AV.lit (.int .u8 0),AV.lit (.int .u8 0),AV.lit (.int .u8 0),AV.lit (.int .u8 0),AV.lit (.int .u8 0),AV.lit (.int .u8 0),AV.lit (.int .u8 0),AV.lit (.int .u8 0),AV.lit (.int .u8 0),AV.lit (.int .u8 0),AV.lit (.int .u8 0),AV.lit (.int .u8 0),AV.lit (.int .u8 0),AV.lit (.int .u8 0),AV.lit (.int .u8 0),AV.lit (.int .u8 0)]=Z from hZ]
 refine Za hcl (fun h => by cases h) ?_
 clear hcl
 simp only [go_sem,Zq,fillv] at hsc ⊢
 have s8:(absb (l.length / 64) IV256 l).length=8:=W9 _ _ _ P5
 obtain ⟨hp,hnp,r,ho,hg,hq⟩:=h
 generalize hst:absb (l.length / 64) IV256 l=st at *
 have c9:∀ y z:AV,(vw st++[y,z]).getD 9 .junk=z:=fun y z => Yi (j:=1) (by rw [Yh,s8]) _
 have c8:∀ y z:AV,(vw st++[y,z]).getD 8 .junk=y:=fun y z => Yi (j:=0) (by rw [Yh,s8]) _
 have cl:∀ y z:AV,(vw st++[y,z]).length=10:=fun y z => by rw [List.length_append,Yh,s8]; rfl
 have hpk:∀ k,(p<H.length+k)=True:=fun k => by simp; omega
 have hpad:=padn (l.length)
 have pdl:padn l.length=(119 - l.length%64)%64:=rfl
 let P:Nat→List UInt8:=fun k => 128::List.replicate k 0
 have lP:∀ k,(bs (P k)).length=k+1:=fun k => by rw [Zt]; simp [P]
 have sP:∀ k,bs (P k)++[u8 0]=bs (P (k+1)):=fun k => by
  show _=bs (128::List.replicate (k+1) 0)
  rw [List.replicate_succ']; simp [P]
 refine Z4 _ (fun (k:Nat) => ([(0,.ptr p 0),(2,.ptr H.length 0),(3,.ptr (H.length+2) 0),(4,.row (H.length+3) 0 (k+1) (k+1))],H++[⟨Z,0,true⟩,⟨bs (rst l),1,true⟩,⟨vw st++[.row (H.length+1) 0 (l.length%64) (l.length%64),I l.length],0,true⟩,⟨bs (P k),1,true⟩])) (fun k => k≤padn l.length) (fun k => padn l.length - k) 0 (Nat.zero_le _) ?_ ?_
 ·rfl
 intro k hk
 simp only [go_sem,cl,c8]
 have w1:IntKind.i64.wrap (((l.length%64:Nat):Int)+((k+1:Nat):Int))=((l.length%64+(k+1):Nat):Int):=by rw [w64 _ (by omega) (by omega)]; omega
 have w2:((l.length%64+(k+1):Nat):Int).tmod 64=(((l.length%64+(k+1))%64:Nat):Int):=by rw [Int.tmod_eq_emod_of_nonneg (by omega)]; omega
 simp only [w1,w2]
 refine ⟨by decide,fun hh => ?_,fun hh => ?_⟩
 ·have hne:(l.length%64+(k+1))%64≠56:=by
   intro e; rw [e] at hh; revert hh; decide
  have hk':k<padn l.length:=by
   refine Nat.lt_of_le_of_ne hk fun e => hne ?_
   rw [e,pdl]; omega
  simp only [go_sem,lP,Zq,fillv]
  rw [Lx (by omega),Ol (by omega),show [AV.lit (.int .u8 0)]=[u8 0] from rfl,sP]
  exact ⟨by omega,k+1,rfl,rfl,by omega,by omega⟩
 ·have hke:(l.length%64+(k+1))%64=56:=by
   have:(((l.length%64+(k+1))%64:Nat):Int)=56:=by
    simpa using hh
   omega
  obtain rfl:k=padn l.length:=by omega
  have ho9:(obj H p).cs.getD 9 .junk=I l.length:=by rw [ho]; exact c9 _ _
  have ho10:(obj H p).cs.length=10:=by rw [ho]; exact cl _ _
  generalize hK:padn l.length=K at *
  let Q:Nat→List UInt8:=fun j => P K++(beN 8 (8*l.length)).take j
  have lQ:∀ j,j≤8→(bs (Q j)).length=K+1+j:=fun j hj => by
   rw [Zt]; simp only [Q,P,List.length_append,List.length_cons,List.length_replicate,List.length_take,Zm]; omega
  have w3:IntKind.u64.wrap ((l.length:Nat):Int)=((l.length:Nat):Int):=wu _ (by omega)
  have w4:IntKind.u64.wrap (8*((l.length:Nat):Int))=((8*l.length:Nat):Int):=by rw [wu64 _ (by omega) (by omega)]; omega
  refine Z4 _ (fun (j:Nat) => ([(0,.ptr p 0),(2,.ptr H.length 0),(3,.ptr (H.length+2) 0),(4,.row (H.length+3) 0 (K+1+j) (K+1+j)),(5,I (56 - 8*(j:Int)))],H++[⟨Z,0,true⟩,⟨bs (rst l),1,true⟩,⟨vw st++[.row (H.length+1) 0 (l.length%64) (l.length%64),I l.length],0,true⟩,⟨bs (Q j),1,true⟩])) (fun j => j≤8) (fun j => 8 - j) 0 (Nat.zero_le _) ?_ ?_
  ·simp only [Q,List.take_zero,List.append_nil]; rfl
  intro j hj
  simp only [go_sem]
  refine ⟨fun hh => ?_,fun hh => ?_⟩
  ·have hj:j<8:=by omega
   obtain ⟨i,hi,hi2⟩:∃ i:Nat,56 - 8*(j:Int)=i∧i=8*(7 - j):=⟨8*(7 - j),by omega,rfl⟩
   have w5:IntKind.i64.wrap ((i:Int) - 8)=56 - 8*((j+1:Nat):Int):=by rw [w64 _ (by omega) (by omega)]; omega
   have hm:min i 64=i:=by omega
   have sQ:bs (Q j)++[.lit (.int .u8 ((8*l.length / 2^i%256:Nat):Int))]=bs (Q (j+1)):=by
    have e1:(beN 8 (8*l.length)).take (j+1)=(beN 8 (8*l.length)).take j++[UInt8.ofNat (8*l.length / 256^(7 - j))]:=by
     rw [Yx (show j<(beN 8 (8*l.length)).length by rw [Zm]; exact hj) 0,Zop 8 _ j hj,show 8 - 1 - j=7 - j by omega]
    have e2:(2:Nat)^i=256^(7 - j):=by rw [hi2,Nat.pow_mul]
    show _=bs (P K++(beN 8 (8*l.length)).take (j+1))
    rw [e1,e2,Z0b _ _ rfl]
    simp [Q]
   simp only [hi,go_sem,ho9,ho10,Z1 _ _ hp,hpk,w3,w4,w5,Ui,hm,Zjc,IntKind.bits,lQ j (by omega),Zq,fillv]
   rw [Lx (by omega),Ol (by omega),sQ]
   exact ⟨by omega,by omega,j+1,rfl,rfl,by omega,by omega⟩
  ·obtain rfl:j=8:=by omega
   have hQ:Q 8=pad l.length:=by
    show P K++(beN 8 (8*l.length)).take 8=_
    rw [List.take_of_length_le (by rw [Zm]; exact Nat.le_refl _),pad,hK]; rfl
   have hpl:(pad l.length).length=K+9:=by rw [(Ko _).2,hK]
   have hpm:=(Ko l.length).1
   rw [hQ]
   obtain ⟨cp,cn,r2,co,cg,cq⟩:=hsc
   have hB:HS (H.length+1) (H++[⟨Z,0,true⟩,⟨bs (rst l),1,true⟩,⟨vw st++[.row (H.length+1) 0 (l.length%64) (l.length%64),I l.length],0,true⟩,⟨bs (pad l.length),1,true⟩]) (H.length+2) l:=by
    have e:H++[⟨Z,0,true⟩,⟨bs (rst l),1,true⟩,⟨vw st++[.row (H.length+1) 0 (l.length%64) (l.length%64),I l.length],0,true⟩,⟨bs (pad l.length),1,true⟩]=(H++[⟨Z,0,true⟩,⟨bs (rst l),1,true⟩,⟨vw st++[.row (H.length+1) 0 (l.length%64) (l.length%64),I l.length],0,true⟩])++[⟨bs (pad l.length),1,true⟩]:=by simp
    rw [e]
    refine ⟨by simp,by omega,r2,?_,cg.frame (Fr.app _ _ (fun _ => False)) (fun _ _ h => h),cq⟩
    rw [Z1 _ _ cp]
    exact co
   have hx:Sl 1 (H++[⟨Z,0,true⟩,⟨bs (rst l),1,true⟩,⟨vw st++[.row (H.length+1) 0 (l.length%64) (l.length%64),I l.length],0,true⟩,⟨bs (pad l.length),1,true⟩]) (.row (H.length+3) 0 (K+1+8) (K+1+8)) (bs (pad l.length)) (pad l.length).length:=by
    rw [hpl]
    have ob:obj (H++[⟨Z,0,true⟩,⟨bs (rst l),1,true⟩,⟨vw st++[.row (H.length+1) 0 (l.length%64) (l.length%64),I l.length],0,true⟩,⟨bs (pad l.length),1,true⟩]) (H.length+3)=⟨bs (pad l.length),1,true⟩:=by simp only [go_sem]
    exact .row (by simp) (by rw [ob]; show _=(bs _).length; rw [Zt,hpl]) (by omega) (by rw [ob,List.drop_zero,List.take_of_length_le (by rw [Zt,hpl]; omega)]) (.inl (by rw [ob]))
   obtain ⟨H',hc,hs',fr'⟩:=Ih hB hx (by simp [rid]) (by rw [hpl]; omega) (by simp)
   have fr2:Fr (H++[⟨Z,0,true⟩]) H' (fun _ => False):=by
    refine ⟨Nat.le_trans (by simp) fr'.1,fun i hi _ => ?_⟩
    have hi':i<H.length+1:=by simpa using hi
    rw [fr'.2 i (by simp; omega) (by omega)]
    have e:H++[⟨Z,0,true⟩,⟨bs (rst l),1,true⟩,⟨vw st++[.row (H.length+1) 0 (l.length%64) (l.length%64),I l.length],0,true⟩,⟨bs (pad l.length),1,true⟩]=(H++[⟨Z,0,true⟩])++[⟨bs (rst l),1,true⟩,⟨vw st++[.row (H.length+1) 0 (l.length%64) (l.length%64),I l.length],0,true⟩,⟨bs (pad l.length),1,true⟩]:=by simp
    rw [e,Z1 _ _ hi]
   obtain ⟨G,hG⟩:=fr2.split (fun _ h => h)
   have hG:H'=H++(⟨Z,0,true⟩::G):=by rw [hG]; simp
   obtain ⟨dp,dn,r3,d0,dg,dq⟩:=hs'
   have hsum:sha l=outS (absb ((l++pad l.length).length / 64) IV256 (l++pad l.length)):=by
    rw [sha,List.length_append,(Ko _).2,Nat.add_assoc]
   rw [hsum]
   have S8:(absb ((l++pad l.length).length / 64) IV256 (l++pad l.length)).length=8:=W9 _ _ _ P5
   have Slt:=Zdp ((l++pad l.length).length / 64) IV256 (l++pad l.length) (by decide)
   generalize absb ((l++pad l.length).length / 64) IV256 (l++pad l.length)=S at *
   refine Za hc (fun h => by cases h) ?_
   clear hc hB hx fr' fr2 hsum
   have hl1:H.length<H'.length:=by rw [hG]; simp
   have oZ:obj H' H.length=⟨Z,0,true⟩:=by rw [hG,Z7]; rfl
   have sl:(vw S++[r3,I ((l++pad l.length).length:Nat)]).length=10:=by rw [List.length_append,Yh,S8]; rfl
   have ol:(outS S).length=32:=by
    have:∀ T:List Nat,(outS T).length=4*T.length:=fun T => by
     induction T with
     | nil => rfl
     | cons a r ih => rw [outS,List.flatMap_cons,List.length_append,Zm,← outS,ih,List.length_cons]; omega
    rw [this,S8]
   generalize I ((l++pad l.length).length:Nat)=N1 at *
   simp only [go_sem]
   rw [show [AV.lit (.int .u8 0),AV.lit (.int .u8 0),AV.lit (.int .u8 0),AV.lit (.int .u8 0),AV.lit (.int .u8 0),AV.lit (.int .u8 0),AV.lit (.int .u8 0),AV.lit (.int .u8 0),AV.lit (.int .u8 0),AV.lit (.int .u8 0),AV.lit (.int .u8 0),AV.lit (.int .u8 0),AV.lit (.int .u8 0),AV.lit (.int .u8 0),AV.lit (.int .u8 0),AV.lit (.int .u8 0),AV.lit (.int .u8 0),AV.lit (.int .u8 0),AV.lit (.int .u8 0),AV.lit (.int .u8 0),AV.lit (.int .u8 0),AV.lit (.int .u8 0),AV.lit (.int .u8 0),AV.lit (.int .u8 0),AV.lit (.int .u8 0),AV.lit (.int .u8 0),AV.lit (.int .u8 0),AV.lit (.int .u8 0),AV.lit (.int .u8 0),AV.lit (.int .u8 0),AV.lit (.int .u8 0),AV.lit (.int .u8 0)]=Z from hZ]
   have stp:∀ i,i<32→(bs ((outS S).take i)++Z.drop i).set i (u8 ((outS S).getD i 0))=bs ((outS S).take (i+1))++Z.drop (i+1):=fun i hi => by
    have e1:(bs ((outS S).take i)).length=i:=by rw [Zt,List.length_take,ol]; omega
    rw [List.set_append_right _ _ (by rw [e1]; exact Nat.le_refl _),e1,Nat.sub_self,List.drop_eq_getElem_cons (show i<Z.length by omega),List.set_cons_zero,Yx (show i<(outS S).length by omega) 0]
    simp
   have pl:∀ i,i≤32→(bs ((outS S).take i)++Z.drop i).length=32:=fun i hi => by
    rw [List.length_append,Zt,List.length_take,List.length_drop,ol,hz]; omega
   have hp2:H.length+2<H'.length:=dp
   refine Z4 _ (fun (i:Nat) => ([(2,.ptr H.length 0),(3,.ptr (H.length+2) 0),(6,.ptr H'.length 0),(43,I i)],H'++[⟨bs ((outS S).take i)++Z.drop i,0,true⟩])) (fun i => i≤32) (fun i => 32 - i) 0 (Nat.zero_le _) ?_ ?_
   ·rw [List.take_zero,List.drop_zero]; rfl
   intro i hi
   simp only [go_sem]
   refine ⟨fun hh => ?_,fun hh => ?_⟩
   ·have hi:i<32:=by omega
    have w1:IntKind.i64.wrap ((i:Int).tdiv 4)=((i / 4:Nat):Int):=by rw [Int.tdiv_eq_ediv_of_nonneg (by omega),w64 _ (by omega) (by omega)]; omega
    have w2:(i:Int).tmod 4=((i%4:Nat):Int):=by rw [Int.tmod_eq_emod_of_nonneg (by omega)]; omega
    have w3:IntKind.i64.wrap (8*((i%4:Nat):Int))=((8*(i%4):Nat):Int):=by rw [w64 _ (by omega) (by omega)]; omega
    have w4:IntKind.i64.wrap (24 - ((8*(i%4):Nat):Int))=((24 - 8*(i%4):Nat):Int):=by rw [w64 _ (by omega) (by omega)]; omega
    have w5:IntKind.i64.wrap ((i:Int)+1)=((i+1:Nat):Int):=by rw [w64 _ (by omega) (by omega)]; omega
    have g:=L5 S [r3,N1] (i / 4) (by omega)
    have og:=Zey S i (by omega)
    have e2:S.getD (i / 4) 0 / 2^(24 - 8*(i%4))=S.getD (i / 4) 0 / 256^(3 - i%4):=by
     rw [show (256:Nat)=2^8 by decide,← Nat.pow_mul]; congr 2; omega
    have hm:min (24 - 8*(i%4)) 32=24 - 8*(i%4):=by omega
    simp only [go_sem,Z1 _ _ hp2,d0,sl,g,w1,w2,w3,w4,w5,Ui,hm,e2,Zjc,IntKind.bits,pl i (Nat.le_of_lt hi),Z0b _ _ og,stp i hi]
    have pl2:i+1≤(bs ((outS S).take i)).length+(Z.drop i).length:=by
     have:=pl i (Nat.le_of_lt hi); rw [List.length_append] at this; omega
    exact ⟨by decide,⟨by omega,by omega⟩,⟨by omega,by omega⟩,by decide,by omega,⟨by omega,by omega⟩,pl2,i+1,rfl,rfl,hi,by omega⟩
   ·obtain rfl:i=32:=by omega
    have e3:bs ((outS S).take 32)++Z.drop 32=bs (outS S):=by
     rw [List.take_of_length_le (by omega),List.drop_of_length_le (by omega),List.append_nil]
    have e4:(bs (outS S)).length=32:=by rw [Zt,ol]
    have e5:(bs (outS S)).take 32=bs (outS S):=List.take_of_length_le (by omega)
    have e6:splice Z 0 (bs (outS S))=bs (outS S):=Zu (by omega)
    rw [e3]
    simp only [go_sem,Z1 _ _ hl1,oZ,hz,e4,e5,e6,Yz]
    have p32:=pl 32 (Nat.le_refl _)
    rw [List.length_append] at p32
    have eS:setO (H'++[⟨bs (outS S),0,true⟩]) H.length (bs (outS S))=H++(⟨bs (outS S),0,true⟩::(G++[⟨bs (outS S),0,true⟩])):=by
     rw [U2 _ _ _ hl1,hG,Qy,List.append_assoc]; rfl
    have oS:obj (H++(⟨bs (outS S),0,true⟩::(G++[⟨bs (outS S),0,true⟩]))) H.length=⟨bs (outS S),0,true⟩:=by rw [Z7]; rfl
    rw [eS,oS]
    refine ⟨by omega,by omega,⟨by omega,Nat.le_of_eq e4.symm⟩,Zc ?_⟩
    show low _ _ (.agg ((bs (outS S)).take 32))=_
    rw [e5]
    simp only [low,Pc]
set_option maxRecDepth 10000
theorem Sl.rid_lt {sz n:Nat} {H:AH} {x:AV} {cs:List AV} (h:Sl sz H x cs n) {q:Nat} (hq:rid x=some q):q<H.length:=by
 rcases h.cases with ⟨rfl,_⟩ | ⟨f,rfl,_⟩ | ⟨id,off,L,rfl,h1,_⟩
 ·cases hq
 ·cases hq
 ·cases hq; exact h1
theorem Fr.keep {H X H':AH} {o:AObj} {Y:AH} (hX:X=H++(o::Y)) (h:Fr X H' (fun i => H.length+1≤i)):∃ G,H'=H++(o::G):=by
 have h2:Fr (H++[o]) H' (fun _ => False):=by
  subst hX
  refine ⟨Nat.le_trans (by simp) h.1,fun i hi _ => ?_⟩
  have hi':i<H.length+1:=by simpa using hi
  rw [h.2 i (by simp; omega) (by omega),show H++(o::Y)=(H++[o])++Y by simp,Z1 _ _ hi]
 obtain ⟨G,hG⟩:=h2.split (fun _ h => h)
 exact ⟨G,by rw [hG]; simp⟩
theorem Rl (l:List UInt8):(sha l).length=32:=by
 have:∀ T:List Nat,(outS T).length=4*T.length:=fun T => by
  induction T with
  | nil => rfl
  | cons a r ih => rw [outS,List.flatMap_cons,List.length_append,Zm,← outS,ih,List.length_cons]; omega
 rw [sha,this,W9 _ _ _ P5]
theorem Zd0 {H:AH} {x:AV} {l:List UInt8} (hx:Sl 1 H x (bs l) l.length) (hl:l.length≤549755813888):Called Tryz.prog F.sha_Sum [x] H (.agg (bs (sha l))) H:=by
 refine Znr ?_
 have hz:(List.replicate 32 (AV.lit (.int .u8 0))).length=32:=rfl
 generalize hZ:List.replicate 32 (AV.lit (.int .u8 0))=Z at *
 have hxr:=fun q => hx.rid_lt (q:=q)
 simp only [Ep,go_sem]
 rw [show [AV.lit (.int .u8 0),AV.lit (.int .u8 0),AV.lit (.int .u8 0),AV.lit (.int .u8 0),AV.lit (.int .u8 0),AV.lit (.int .u8 0),AV.lit (.int .u8 0),AV.lit (.int .u8 0),AV.lit (.int .u8 0),AV.lit (.int .u8 0),AV.lit (.int .u8 0),AV.lit (.int .u8 0),AV.lit (.int .u8 0),AV.lit (.int .u8 0),AV.lit (.int .u8 0),AV.lit (.int .u8 0),AV.lit (.int .u8 0),AV.lit (.int .u8 0),AV.lit (.int .u8 0),AV.lit (.int .u8 0),AV.lit (.int .u8 0),AV.lit (.int .u8 0),AV.lit (.int .u8 0),AV.lit (.int .u8 0),AV.lit (.int .u8 0),AV.lit (.int .u8 0),AV.lit (.int .u8 0),AV.lit (.int .u8 0),AV.lit (.int .u8 0),AV.lit (.int .u8 0),AV.lit (.int .u8 0),AV.lit (.int .u8 0)]=Z from hZ]
 refine Za Zts (fun h => by cases h) ?_
 simp only [go_sem,hx.un,hx.may]
 have hn:=Zui (H:=H++[⟨Z,0,true⟩]) (nb:=H.length+1) (by simp)
 simp only [go_sem] at hn
 have hx2:Sl 1 (H++[⟨Z,0,true⟩,⟨vw IV256++[nilS,I 0],0,true⟩]) x (bs l) l.length:=hx.app
 obtain ⟨H',hc,hs,fr⟩:=Ih hn hx2 (fun e => by have:=hxr _ e; omega) (by simp; omega) (by simp)
 rw [List.nil_append] at hs
 obtain ⟨G,hG⟩:=Fr.keep (H:=H) (o:=⟨Z,0,true⟩) (Y:=[⟨vw IV256++[nilS,I 0],0,true⟩]) rfl fr
 refine Za hc (fun h => by cases h) ?_
 simp only [go_sem]
 refine Za (Ztr hs hl) (fun _ => rfl) ?_
 have sl:=Rl l
 generalize sha l=d at *
 have hl1:H.length<H'.length:=by rw [hG]; simp
 have oZ:obj H' H.length=⟨Z,0,true⟩:=by rw [hG,Z7]; rfl
 have e4:(bs d).length=32:=by rw [Zt,sl]
 have e5:(bs d).take 32=bs d:=List.take_of_length_le (by omega)
 have e6:splice Z 0 (bs d)=bs d:=Zu (by omega)
 simp only [go_sem,oZ,hz,e4,e5,e6,Yz]
 have eS:setO H' H.length (bs d)=H++(⟨bs d,0,true⟩::G):=by rw [hG,Qy]; rfl
 have oS:obj (H++(⟨bs d,0,true⟩::G)) H.length=⟨bs d,0,true⟩:=by rw [Z7]; rfl
 rw [eS,oS]
 refine ⟨hl1,⟨hl1,Nat.le_of_eq e4.symm⟩,Zc ?_⟩
 show low _ _ (.agg ((bs d).take 32))=_
 rw [e5]
 simp only [low,Pc]
set_option maxRecDepth 10000
theorem Zoq {l:List UInt8} (h:l.length≤32):be l<(18446744073709551616:Nat)^4 :=
 Nat.lt_of_lt_of_le (F5 l) (Nat.le_trans (Nat.pow_le_pow_right (by decide) h) (by decide +kernel))
theorem B0 {b body:List UInt8} {r s:Nat} (h:Xj b=some (body,r,s)):r<(18446744073709551616:Nat)^4∧s<(18446744073709551616:Nat)^4:=by
 unfold Xj at h
 split at h
 ·split at h
  ·rename_i f g e hh
   cases h
   exact ⟨Zoq (by rw [List.length_take]; omega),Zoq (by rw [List.length_drop]; omega)⟩
  ·cases h
 ·cases h
theorem Zb5 {b:List UInt8} {t:Tkt} {r s:Nat} (h:Te b=some (t,r,s)):∃ body,Xj b=some (body,r,s):=by
 unfold Te at h
 cases hp:Xj b with
 | none => rw [hp] at h; cases h
 | some p =>
  rw [hp] at h
  obtain ⟨body,r',s'⟩:=p
  refine ⟨body,?_⟩
  have h:((Nl body 5).bind fun l => if tktB (Nh l) then some (Nh l,r',s') else none)=some (t,r,s):=h
  cases hn:Nl body 5 with
  | none => rw [hn] at h; cases h
  | some l =>
   rw [hn] at h
   have h:(if tktB (Nh l) then some (Nh l,r',s') else none)=some (t,r,s):=h
   split at h
   ·cases h; rfl
   ·cases h
noncomputable def U1 (b:List UInt8) (X Y:Nat) (f:Bool):Tkt × Int:=match Te b with
 | none => (noTk,2)
 | some (t,r,s) => bif verB X Y f (sha ((Xj b).getD ([],0,0)).1) r s then (t,0) else (noTk,8)
def errO (n:Int):AV:=if n=0 then nilE else .lit (.iface T.api_Code (.int .i64 n))
theorem P1 {l:List UInt8} (h:l.length=32):(bs l).isEmpty=false∧(bs l).length=32∧(bs l).take 32=bs l:=by
 have hb:(bs l).length=32:=by rw [Zt,h]
 refine ⟨?_,hb,List.take_of_length_le (by omega)⟩
 cases hh:bs l with
 | nil => rw [hh] at hb; cases hb
 | cons => rfl
theorem Jf {H:AH} {x:AV} {b body:List UInt8} {r s:Nat} (hx:Sl 1 H x (bs b) b.length) (hn:b.length≤100000) (h:Xj b=some (body,r,s)):Called Tryz.prog F.ticket_parts [x] H (.tup [vB body false,.agg (sgc r s),Bl true]) H∧body.length≤b.length:=by
 obtain ⟨e,r',s',ok,hp,hc⟩:=Zjq hx hn
 rcases hp with ⟨h1,rfl,h2,h3,h4,h5⟩ | ⟨h1,_⟩
 ·rw [h] at h2 h3 h4 h5
  simp only [Option.getD_some] at h2 h3 h4 h5
  subst h2 h3 h4
  exact ⟨hc,h5⟩
 ·rw [h] at h1; cases h1
theorem Zv8 {H:AH} {x:AV} {b:List UInt8} {X Y:Nat} {f:Bool} (hx:Sl 1 H x (bs b) b.length) (hn:b.length≤100000) (hX:X<(18446744073709551616:Nat)^4) (hY:Y<(18446744073709551616:Nat)^4):Called Tryz.prog F.ticket_Check [x,.agg (pcell X Y f)] H (.tup [.agg (U1 b X Y f).1.cells,errO (U1 b X Y f).2]) H:=by
 have e8:[Z0,Z0,Z0,Z0,Z0,Z0,Z0,Z0]=sgc 0 0:=rfl
 have e5:[AV.lit (Value.int IntKind.i64 0),AV.lit (Value.int IntKind.i64 0),AV.lit (Value.int IntKind.i64 0),AV.lit (Value.int IntKind.i64 0),AV.lit (Value.int IntKind.i64 0)]=noTk.cells:=rfl
 refine Ft ?_
 simp only [Pg,go_sem,hx.s,Xh,S6]
 refine Za (Zeb hx.app hn) (fun _ => rfl) ?_
 cases hO:Te b with
 | none =>
  have ec:U1 b X Y f=(noTk,2):=by rw [U1,hO]
  rw [ec]
  simp only [Zgz,go_sem,hx.s,Zq,fillv,e8,e5,Yy,Yo,Yu,Ya,Tkt.cells]
  exact Zc rfl
 | some p =>
  obtain ⟨t,r,s⟩:=p
  obtain ⟨body,hp⟩:=Zb5 hO
  obtain ⟨hr,hs⟩:=B0 hp
  have ec:U1 b X Y f=bif verB X Y f (sha body) r s then (t,0) else (noTk,8):=by rw [U1,hO,hp]; rfl
  rw [ec]
  simp only [Zgz,go_sem,hx.s,Zq,fillv,e8,Yy,Yo,Yu,Ya]
  have hbl:=(Jf hx hn hp).2
  refine Za (Jf hx.app hn hp).1 (fun _ => rfl) ?_
  simp only [go_sem,e8,Yy,Yo,Yu,Ya,Z5,Ye]
  refine Za (Zd0 (Sl.vB body false) (by omega)) (fun _ => rfl) ?_
  have hsl:=Rl body
  generalize sha body=hh at *
  simp only [go_sem,e8,Yy,Yo,Yu,Ya,Z5,Ye]
  refine Za (Zea hX hY hr hs hsl) (fun _ => rfl) ?_
  generalize verB X Y f hh r s=vv
  cases vv
  ·simp only [go_sem,e8,e5,Zq,fillv,Yy,Yo,Yu,Ya,Z5,Ye]
   exact Zc rfl
  ·simp only [go_sem,e8,e5,Zq,fillv,Yy,Yo,Yu,Ya,Z5,Ye]
   exact Zc rfl
end Go.Proofs.YtcgjlpdkobmpnaaGreat.Eng

