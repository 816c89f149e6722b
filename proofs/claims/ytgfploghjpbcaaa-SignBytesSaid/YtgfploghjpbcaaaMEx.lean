/- The document's example, worked out: hashes of numbers. (No program in sight.) -/
import Derived.Test.YtgfploghjpbcaaaMGl
namespace Go.Proofs.Ytgfploghjpbcaaa.Eng
open Go
set_option linter.unusedVariables false
set_option linter.unusedSimpArgs false
set_option maxRecDepth 10000
def tn (l:List UInt8):List Nat:=l.map UInt8.toNat
theorem tn_append (a b:List UInt8):tn (a++b)=tn a++tn b:=List.map_append
theorem tn_len (a:List UInt8):(tn a).length=a.length:=List.length_map _
def beT (l:List Nat):Nat:=l.foldl (fun n b => n*256+b) 0
theorem be_tn (l:List UInt8):be l=beT (tn l):=by rw [be,beT,tn,List.foldl_map]
theorem fG {β:Type} (l:List Nat) (k:List Nat→β):forceG l [] k=k l:=by rw [forceG_eq]; rfl
def w16N (b:List Nat):List Nat:=(List.range 16).map fun i => beT ((b.drop (4*i)).take 4)
theorem w16_tn (b:List UInt8):w16 b=w16N (tn b):=by
 unfold w16 w16N
 refine List.map_congr_left fun i _ => ?_
 rw [be_tn,tn,tn,List.map_take,List.map_drop]
def wordsN (b:List Nat):List Nat:=(forceG (w16N b) [] fun l => sch 48 l.reverse).reverse
theorem words_tn (b:List UInt8):words b=wordsN (tn b):=by rw [words,wordsN,fG,w16_tn]
def comp1N (s:List Nat) (b:List Nat):List Nat:=List.zipWith (fun x y => (x+y)%(4294967296:Nat)) s ((K256.zip (wordsN b)).foldl rnd s)
theorem comp1_tn (s:List Nat) (b:List UInt8):comp1 s b=comp1N s (tn b):=by rw [comp1,comp1N,words_tn]
def absbN:Nat→List Nat→List Nat→List Nat
 | 0,s,_ => s
 | n+1,s,l => forceG (comp1N s (l.take 64)) [] fun s' => absbN n s' (l.drop 64)
theorem absb_tn:∀ n s (l:List UInt8),absb n s l=absbN n s (tn l)
 | 0,s,l => rfl
 | n+1,s,l => by rw [absb,absbN,fG,absb_tn n,comp1_tn,tn,tn,tn,List.map_take,List.map_drop]
def beL4 (n:Nat):List Nat:=[n / 16777216%256,n / 65536%256,n / 256%256,n%256]
theorem beN4_tn (n:Nat):tn (beN 4 n)=beL4 n:=by
 have e:∀ x:Nat,(UInt8.ofNat x).toNat=x%256:=fun x => by simp
 simp only [tn,beN,List.map_map,List.range,List.range.loop,List.map_cons,List.map_nil,Function.comp,e,beL4]
 simp
def outN (s:List Nat):List Nat:=s.flatMap beL4
theorem outS_tn (s:List Nat):tn (outS s)=outN s:=by
 induction s with
 | nil => rfl
 | cons a r ih => rw [outS,List.flatMap_cons,tn_append,beN4_tn,outN,List.flatMap_cons]; rw [outS,outN] at ih; rw [ih]
def padN (n:Nat):List Nat:=128::(List.replicate (padn n) 0++(beL4 (8*n / 4294967296)++beL4 (8*n)))
theorem beN8_tn (n:Nat):tn (beN 8 n)=beL4 (n / 4294967296)++beL4 n:=by
 have e:∀ x:Nat,(UInt8.ofNat x).toNat=x%256:=fun x => by simp
 simp only [tn,beN,List.map_map,List.range,List.range.loop,List.map_cons,List.map_nil,Function.comp,e,beL4]
 simp [Nat.div_div_eq_div_mul]
theorem pad_tn (n:Nat):tn (pad n)=padN n:=by
 rw [pad,padN,← beN8_tn]
 simp [tn]
def shaN (l:List Nat):List Nat:=outN (absbN ((l.length+padn l.length+9) / 64) IV256 (l++padN l.length))
theorem sha_tn (l:List UInt8):tn (sha l)=shaN (tn l):=by
 rw [sha,outS_tn,absb_tn,tn_append,pad_tn,shaN,tn_len]
def kblkN (key:List Nat) (x:Nat):List Nat:=(key++List.replicate (64 - key.length) 0).map (· ^^^ x)
theorem kblk_tn (key:List UInt8) (x:UInt8) (h:key.length≤64):tn (kblk key x)=kblkN (tn key) x.toNat:=by
 rw [kblk,if_neg (by omega)]
 simp only [tn,kblkN,List.map_map,List.length_map]
 rw [List.map_append,List.map_append,List.map_replicate,List.map_replicate,List.map_map]
 congr 1
def hmacN (key text:List Nat):List Nat:=forceG (shaN (kblkN key 54++text)) [] fun d => shaN (kblkN key 92++d)
theorem hmac_tn (key text:List UInt8) (h:key.length≤64):tn (hmac key text)=hmacN (tn key) (tn text):=by
 rw [hmac,sha_tn,tn_append,kblk_tn _ _ h,sha_tn,tn_append,kblk_tn _ _ h,hmacN,fG]; rfl
def chkN:Nat→List Nat→List Nat→Bool
 | 0,_,_ => true
 | n+1,k,v => forceG (hmacN k v) [] fun v' => maySc (beT v')&&forceG (hmacN k (v'++[0])) [] fun k2 => forceG (hmacN k2 v') [] fun v2 => chkN n k2 v2
theorem srcS_l (d m i:Nat):(srcS d m i).1.length=32∧(srcS d m i).2.length=32:=by
 cases i with
 | zero => exact ⟨sha_length _,sha_length _⟩
 | succ i => exact ⟨sha_length _,sha_length _⟩
theorem chk_sound (d m:Nat):∀ n i,chkN n (tn (srcS d m i).1) (tn (srcS d m i).2)=true→∀ j,j<n→maySc (numS d m (i+j))=true
 | 0,i,_,j,hj => by cases hj
 | n+1,i,h,j,hj => by
  rw [chkN,fG,Bool.and_eq_true,fG,fG] at h
  have l1:=(srcS_l d m i).1
  have l2:=(srcS_l d m (i+1)).1
  have e0:tn [(0:UInt8)]=[0]:=rfl
  rw [← hmac_tn _ _ (by omega),← e0,← tn_append,← hmac_tn _ _ (by omega)] at h
  have e1:hmac (srcS d m i).1 (hmac (srcS d m i).1 (srcS d m i).2++[0])=(srcS d m (i+1)).1:=rfl
  have e2:hmac (srcS d m (i+1)).1 (hmac (srcS d m i).1 (srcS d m i).2)=(srcS d m (i+1)).2:=rfl
  rw [e1,← hmac_tn _ _ (by omega),e2] at h
  cases j with
  | zero =>
   have:=h.1
   rw [← be_tn] at this
   exact this
  | succ j =>
   have:=chk_sound d m n (i+1) h.2 j (by omega)
   rw [show i+(j+1)=i+1+j by omega]; exact this
theorem cand_all (d m many:Nat) (h:∀ j,j<many→maySc (numS d m j)=true):∀ i,i≤many→candS d m many i=(List.range i).map (numS d m)
 | 0,_ => rfl
 | i+1,hi => by
  have ih:=cand_all d m many h i (by omega)
  rw [candS,ih,List.length_map,List.length_range,if_neg (by omega),if_pos (h i (by omega)),List.range_succ,List.map_append]
  rfl
theorem cand_stop (d m many:Nat) {i:Nat} (h:(candS d m many i).length=many):∀ k,candS d m many (i+k)=candS d m many i
 | 0 => rfl
 | k+1 => by
  have ih:=cand_stop d m many h k
  show candS d m many (i+k+1)=_
  rw [candS,ih,if_pos h]
theorem cand_16 (d m:Nat) (h:∀ j,j<16→maySc (numS d m j)=true):candS d m 16 100=(List.range 16).map (numS d m):=by
 have e:=cand_all d m 16 h 16 (Nat.le_refl _)
 have:=cand_stop d m 16 (i:=16) (by rw [e,List.length_map,List.length_range]) 84
 exact this.trans e
set_option maxRecDepth 10000
def dEx:Nat:=91225253027397101270059260515990221874496108017261222445699397644687913215777
def smp:List UInt8:=[115,97,109,112,108,101]
def mEx:Nat:=79232240492262066599341792208678897019497196617930543451364792016062498329023
def kEx:Nat:=75486370184466523516702714224272210659255809472406410223340475427961162083680
def rEx:Nat:=108478302882382504386260635397250479524259298414270181541635698882548524332822
def sEx:Nat:=112080140797967428609887221250561337109878063180226093183577605221974133099944
def kiEx:Nat:=77330732676717296355926672845175206641902884526782727272171666650193567147335
def ziEx:Nat:=59417473789786370807793808047161012540374656117645285032131754810474643093239
theorem ex_m0:(beT (shaN [115,97,109,112,108,101])%(115792089210356248762697446949407573529996955224135760342422259061068512044369:Nat) == mEx)=true:=by decide +kernel
theorem ex_m:be (sha smp)%(115792089210356248762697446949407573529996955224135760342422259061068512044369:Nat)=mEx:=by
 rw [be_tn,sha_tn]; exact beq_iff_eq.1 ex_m0
def z32N:List Nat:=List.replicate 32 0
def o32N:List Nat:=List.replicate 32 1
def begN (t:List Nat):List Nat × List Nat :=
 forceG (hmacN z32N (o32N++0::t)) [] fun k1 => forceG (hmacN k1 o32N) [] fun v1 => forceG (hmacN k1 (v1++1::t)) [] fun k2 => forceG (hmacN k2 v1) [] fun v2 => (k2,v2)
theorem beg_tn (d m:Nat):(tn (beginS d m).1,tn (beginS d m).2)=begN (tn (text d m)):=by
 have e0:tn (List.replicate 32 0)=z32N:=by simp [tn,z32N]
 have e1:tn (List.replicate 32 1)=o32N:=by simp [tn,o32N]
 have z0:(List.replicate 32 (0:UInt8)).length≤64:=by rw [List.length_replicate]; decide
 have hb:beginS d m=(hmac (hmac (List.replicate 32 0) (List.replicate 32 1++0::text d m)) (hmac (hmac (List.replicate 32 0) (List.replicate 32 1++0::text d m)) (List.replicate 32 1)++1::text d m),
   hmac (hmac (hmac (List.replicate 32 0) (List.replicate 32 1++0::text d m)) (hmac (hmac (List.replicate 32 0) (List.replicate 32 1++0::text d m)) (List.replicate 32 1)++1::text d m)) (hmac (hmac (List.replicate 32 0) (List.replicate 32 1++0::text d m)) (List.replicate 32 1))):=rfl
 rw [hb]
 clear hb
 generalize text d m=t
 generalize List.replicate 32 (0:UInt8)=z at *
 generalize List.replicate 32 (1:UInt8)=o at *
 have a1:tn (hmac z (o++0::t))=hmacN z32N (o32N++0::tn t):=by
  rw [hmac_tn _ _ z0,tn_append,e0,e1]; rfl
 have l1:(hmac z (o++0::t)).length≤64:=by rw [hmac,sha_length]; decide
 generalize hmac z (o++0::t)=k1 at *
 have a2:tn (hmac k1 o)=hmacN (tn k1) o32N:=by rw [hmac_tn _ _ l1,e1]
 generalize hmac k1 o=v1 at *
 have a3:tn (hmac k1 (v1++1::t))=hmacN (tn k1) (tn v1++1::tn t):=by
  rw [hmac_tn _ _ l1,tn_append]; rfl
 have l2:(hmac k1 (v1++1::t)).length≤64:=by rw [hmac,sha_length]; decide
 generalize hmac k1 (v1++1::t)=k2 at *
 have a4:tn (hmac k2 v1)=hmacN (tn k2) (tn v1):=hmac_tn _ _ l2
 generalize hmac k2 v1=v2 at *
 simp only [begN,fG]
 rw [← a1,← a2,← a3,← a4]
def exB:Bool:=forceG (tn (text dEx mEx)) [] fun t => match begN t with | (k,v) => chkN 16 k v&&(beT (hmacN k v) == kEx)
theorem ex_b:exB=true:=by decide +kernel
theorem ex_src:(∀ j,j<16→maySc (numS dEx mEx j)=true)∧numS dEx mEx 0=kEx:=by
 have h:=ex_b
 rw [exB,fG,← beg_tn] at h
 dsimp only at h
 rw [Bool.and_eq_true,beq_iff_eq] at h
 have e:srcS dEx mEx 0=beginS dEx mEx:=rfl
 rw [← e] at h
 refine ⟨fun j hj => ?_,?_⟩
 ·have:=chk_sound dEx mEx 16 0 h.1 j hj
  rwa [Nat.zero_add] at this
 ·have h2:=h.2
  rw [← hmac_tn _ _ (by have:=(srcS_l dEx mEx 0).1; omega),← be_tn] at h2
  exact h2
def xB (k zi x:Nat):Bool:=match jmk (115792089210356248762697446949407573530086143415290314195533631308867097853951:Nat) ⟨(48439561293906451759052585252797914202762949526041747995844080717082404635286:Nat),(36134250956749795798585127919587881956611106672985015071877198253568414405109:Nat),1⟩ 256 k with | ⟨X,Y,Z⟩ => !(Z == 0)&&(fmul (115792089210356248762697446949407573530086143415290314195533631308867097853951:Nat) Z zi == 1)&&Nat.blt zi (115792089210356248762697446949407573530086143415290314195533631308867097853951:Nat)&&(fmul (115792089210356248762697446949407573530086143415290314195533631308867097853951:Nat) X (fmul (115792089210356248762697446949407573530086143415290314195533631308867097853951:Nat) zi zi) == x)
theorem x_cert {k zi x:Nat} (hk:k<2^256) (h:xB k zi x=true):(mulA k baseA).x=x:=by
 have h1:=rep_k 256 k
 have h2:=mulA_nm baseP_on k
 have h3:=amk_nm crv_P baseP_on 256 k hk
 have h4:=mulA_on baseP_on k
 have h5:jok (115792089210356248762697446949407573530086143415290314195533631308867097853951:Nat) (jmk (115792089210356248762697446949407573530086143415290314195533631308867097853951:Nat) (lift baseA) 256 k):=jmk_ok (p:=(115792089210356248762697446949407573530086143415290314195533631308867097853951:Nat)) (lift_ok (p:=(115792089210356248762697446949407573530086143415290314195533631308867097853951:Nat)) (b:=(41058363725152142129326129780047268409114441015993725554835256314039467401291:Nat)) (by decide) baseP_on) 256 k
 rw [h3,← h2] at h1
 have h6:jmk (115792089210356248762697446949407573530086143415290314195533631308867097853951:Nat) (lift baseA) 256 k=jmk (115792089210356248762697446949407573530086143415290314195533631308867097853951:Nat) ⟨(48439561293906451759052585252797914202762949526041747995844080717082404635286:Nat),(36134250956749795798585127919587881956611106672985015071877198253568414405109:Nat),1⟩ 256 k:=rfl
 rw [h6] at h1 h5
 rw [xB] at h
 clear h6 h2 h3
 generalize jmk (115792089210356248762697446949407573530086143415290314195533631308867097853951:Nat) ⟨(48439561293906451759052585252797914202762949526041747995844080717082404635286:Nat),(36134250956749795798585127919587881956611106672985015071877198253568414405109:Nat),1⟩ 256 k=t at *
 generalize mulA k baseA=a at *
 obtain ⟨X,Y,Z⟩:=t
 simp only [Bool.and_eq_true,Bool.not_eq_true',beq_eq_false_iff_ne,beq_iff_eq,Nat.blt_eq] at h
 obtain ⟨⟨⟨g1,g2⟩,g3⟩,g4⟩:=h
 have e:=jflat_rep (p:=(115792089210356248762697446949407573530086143415290314195533631308867097853951:Nat)) prm_P h5 h4 h1
 rw [jflat,if_neg g1] at e
 have ei:minv (115792089210356248762697446949407573530086143415290314195533631308867097853951:Nat) Z=zi:=minv_eq g3 g2
 simp only [ei] at e
 rw [← e]
 exact g4
theorem ex_x0:xB kEx ziEx rEx=true:=by decide +kernel
theorem ex_k:kEx<2^256:=by decide +kernel
theorem ex_r1:(rEx%(115792089210356248762697446949407573529996955224135760342422259061068512044369:Nat) == rEx)=true:=by decide +kernel
theorem ex_r:rOf kEx=rEx:=by rw [rOf,x_cert ex_k ex_x0]; exact beq_iff_eq.1 ex_r1
theorem ex_i0:(kEx*kiEx%(115792089210356248762697446949407573529996955224135760342422259061068512044369:Nat) == 1)=true:=by decide +kernel
theorem ex_i1:kiEx<(115792089210356248762697446949407573529996955224135760342422259061068512044369:Nat):=by decide +kernel
theorem ex_s0:(fmul (115792089210356248762697446949407573529996955224135760342422259061068512044369:Nat) kiEx (fadd (115792089210356248762697446949407573529996955224135760342422259061068512044369:Nat) mEx (fmul (115792089210356248762697446949407573529996955224135760342422259061068512044369:Nat) rEx dEx)) == sEx)=true:=by decide +kernel
theorem ex_s:sOf dEx kEx mEx=sEx:=by
 rw [sOf,ex_r,minv_eq ex_i1 (beq_iff_eq.1 ex_i0)]; exact beq_iff_eq.1 ex_s0
theorem ex_may:(maySc rEx&&maySc sEx&&maySc dEx)=true:=by decide +kernel
theorem ex_sign:signS dEx (sha smp)=some (rEx,sEx):=by
 obtain ⟨h1,h2⟩:=ex_src
 have hm:=ex_may
 simp only [Bool.and_eq_true] at hm
 rw [signS,ex_m,cand_16 _ _ h1,if_neg (by rw [List.length_map,List.length_range]; decide)]
 have e:(List.range 16).map (numS dEx mEx)=kEx::(List.range 15).map (fun i => numS dEx mEx (i+1)):=by
  rw [List.range_succ_eq_map,List.map_cons,h2,List.map_map]; rfl
 rw [e,List.find?_cons_of_pos (by rw [goodS,ex_r,ex_s,hm.1.1,hm.1.2]; rfl)]
 rw [Option.map_some,ex_r,ex_s]
theorem ex_bytes0:((tn (beN 32 rEx++beN 32 sEx)).getD 0 0 == 239&&(tn (beN 32 rEx++beN 32 sEx)).getD 1 0 == 212&&(tn (beN 32 rEx++beN 32 sEx)).getD 32 0 == 247&&(tn (beN 32 rEx++beN 32 sEx)).getD 63 0 == 168)=true:=by decide +kernel
end Go.Proofs.Ytgfploghjpbcaaa.Eng

