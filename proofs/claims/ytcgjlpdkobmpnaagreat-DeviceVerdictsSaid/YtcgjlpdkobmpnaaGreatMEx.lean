/- The document's example, worked out: hashes of numbers. (No program in sight.) -/
import Derived.Test.YtcgjlpdkobmpnaaGreatMGl
namespace Go.Proofs.YtcgjlpdkobmpnaaGreat.Eng
open Go
set_option linter.unusedVariables false
set_option linter.unusedSimpArgs false
set_option maxRecDepth 10000
def tn (l:List UInt8):List Nat:=l.map UInt8.toNat
theorem U7 (a b:List UInt8):tn (a++b)=tn a++tn b:=List.map_append
theorem Z0d (a:List UInt8):(tn a).length=a.length:=List.length_map _
def beT (l:List Nat):Nat:=l.foldl (fun n b => n*256+b) 0
theorem Zss (l:List UInt8):be l=beT (tn l):=by rw [be,beT,tn,List.foldl_map]
theorem fG {β:Type} (l:List Nat) (k:List Nat→β):Ug l [] k=k l:=by rw [Gt]; rfl
def w16N (b:List Nat):List Nat:=(List.range 16).map fun i => beT ((b.drop (4*i)).take 4)
theorem Zz3 (b:List UInt8):w16 b=w16N (tn b):=by
 unfold w16 w16N
 refine List.map_congr_left fun i _ => ?_
 rw [Zss,tn,tn,List.map_take,List.map_drop]
def Zjd (b:List Nat):List Nat:=(Ug (w16N b) [] fun l => sch 48 l.reverse).reverse
theorem Zpe (b:List UInt8):words b=Zjd (tn b):=by rw [words,Zjd,fG,Zz3]
def Zn6 (s:List Nat) (b:List Nat):List Nat:=List.zipWith (fun x y => (x+y)%(4294967296:Nat)) s ((K256.zip (Zjd b)).foldl rnd s)
theorem Zsf (s:List Nat) (b:List UInt8):Tx s b=Zn6 s (tn b):=by rw [Tx,Zn6,Zpe]
def Zth:Nat→List Nat→List Nat→List Nat
 | 0,s,_ => s
 | n+1,s,l => Ug (Zn6 s (l.take 64)) [] fun s' => Zth n s' (l.drop 64)
theorem Zpc:∀ n s (l:List UInt8),absb n s l=Zth n s (tn l)
 | 0,s,l => rfl
 | n+1,s,l => by rw [absb,Zth,fG,Zpc n,Zsf,tn,tn,tn,List.map_take,List.map_drop]
def beL4 (n:Nat):List Nat:=[n / 16777216%256,n / 65536%256,n / 256%256,n%256]
theorem Zyw (n:Nat):tn (beN 4 n)=beL4 n:=by
 have e:∀ x:Nat,(UInt8.ofNat x).toNat=x%256:=fun x => by simp
 simp only [tn,beN,List.map_map,List.range,List.range.loop,List.map_cons,List.map_nil,Function.comp,e,beL4]
 simp
def outN (s:List Nat):List Nat:=s.flatMap beL4
theorem Zwx (s:List Nat):tn (outS s)=outN s:=by
 induction s with
 | nil => rfl
 | cons a r ih => rw [outS,List.flatMap_cons,U7,Zyw,outN,List.flatMap_cons]; rw [outS,outN] at ih; rw [ih]
def padN (n:Nat):List Nat:=128::(List.replicate (padn n) 0++(beL4 (8*n / 4294967296)++beL4 (8*n)))
theorem Zyv (n:Nat):tn (beN 8 n)=beL4 (n / 4294967296)++beL4 n:=by
 have e:∀ x:Nat,(UInt8.ofNat x).toNat=x%256:=fun x => by simp
 simp only [tn,beN,List.map_map,List.range,List.range.loop,List.map_cons,List.map_nil,Function.comp,e,beL4]
 simp [Nat.div_div_eq_div_mul]
theorem Z1p (n:Nat):tn (pad n)=padN n:=by
 rw [pad,padN,← Zyv]
 simp [tn]
def shaN (l:List Nat):List Nat:=outN (Zth ((l.length+padn l.length+9) / 64) IV256 (l++padN l.length))
theorem Zkg (l:List UInt8):tn (sha l)=shaN (tn l):=by
 rw [sha,Zwx,Zpc,U7,Z1p,shaN,Z0d]
def Zre (key:List Nat) (x:Nat):List Nat:=(key++List.replicate (64 - key.length) 0).map (· ^^^ x)
theorem Zmh (key:List UInt8) (x:UInt8) (h:key.length≤64):tn (kblk key x)=Zre (tn key) x.toNat:=by
 rw [kblk,if_neg (by omega)]
 simp only [tn,Zre,List.map_map,List.length_map]
 rw [List.map_append,List.map_append,List.map_replicate,List.map_replicate,List.map_map]
 congr 1
def Lg (key text:List Nat):List Nat:=Ug (shaN (Zre key 54++text)) [] fun d => shaN (Zre key 92++d)
theorem Pr (key text:List UInt8) (h:key.length≤64):tn (hmac key text)=Lg (tn key) (tn text):=by
 rw [hmac,Zkg,U7,Zmh _ _ h,Zkg,U7,Zmh _ _ h,Lg,fG]; rfl
def chkN:Nat→List Nat→List Nat→Bool
 | 0,_,_ => true
 | n+1,k,v => Ug (Lg k v) [] fun v' => Xa (beT v')&&Ug (Lg k (v'++[0])) [] fun k2 => Ug (Lg k2 v') [] fun v2 => chkN n k2 v2
theorem Zj6 (d m i:Nat):(srcS d m i).1.length=32∧(srcS d m i).2.length=32:=by
 cases i with
 | zero => exact ⟨Vx _,Vx _⟩
 | succ i => exact ⟨Vx _,Vx _⟩
theorem Zan (d m:Nat):∀ n i,chkN n (tn (srcS d m i).1) (tn (srcS d m i).2)=true→∀ j,j<n→Xa (numS d m (i+j))=true
 | 0,i,_,j,hj => by cases hj
 | n+1,i,h,j,hj => by
  rw [chkN,fG,Bool.and_eq_true,fG,fG] at h
  have l1:=(Zj6 d m i).1
  have l2:=(Zj6 d m (i+1)).1
  have e0:tn [(0:UInt8)]=[0]:=rfl
  rw [← Pr _ _ (by omega),← e0,← U7,← Pr _ _ (by omega)] at h
  have e1:hmac (srcS d m i).1 (hmac (srcS d m i).1 (srcS d m i).2++[0])=(srcS d m (i+1)).1:=rfl
  have e2:hmac (srcS d m (i+1)).1 (hmac (srcS d m i).1 (srcS d m i).2)=(srcS d m (i+1)).2:=rfl
  rw [e1,← Pr _ _ (by omega),e2] at h
  cases j with
  | zero =>
   have:=h.1
   rw [← Zss] at this
   exact this
  | succ j =>
   have:=Zan d m n (i+1) h.2 j (by omega)
   rw [show i+(j+1)=i+1+j by omega]; exact this
theorem Zfx (d m many:Nat) (h:∀ j,j<many→Xa (numS d m j)=true):∀ i,i≤many→Xi d m many i=(List.range i).map (numS d m)
 | 0,_ => rfl
 | i+1,hi => by
  have ih:=Zfx d m many h i (by omega)
  rw [Xi,ih,List.length_map,List.length_range,if_neg (by omega),if_pos (h i (by omega)),List.range_succ,List.map_append]
  rfl
theorem Zao (d m many:Nat) {i:Nat} (h:(Xi d m many i).length=many):∀ k,Xi d m many (i+k)=Xi d m many i
 | 0 => rfl
 | k+1 => by
  have ih:=Zao d m many h k
  show Xi d m many (i+k+1)=_
  rw [Xi,ih,if_pos h]
theorem Zym (d m:Nat) (h:∀ j,j<16→Xa (numS d m j)=true):Xi d m 16 100=(List.range 16).map (numS d m):=by
 have e:=Zfx d m 16 h 16 (Nat.le_refl _)
 have:=Zao d m 16 (i:=16) (by rw [e,List.length_map,List.length_range]) 84
 exact this.trans e
set_option maxRecDepth 10000
def z32N:List Nat:=List.replicate 32 0
def o32N:List Nat:=List.replicate 32 1
def begN (t:List Nat):List Nat × List Nat :=
 Ug (Lg z32N (o32N++0::t)) [] fun k1 => Ug (Lg k1 o32N) [] fun v1 => Ug (Lg k1 (v1++1::t)) [] fun k2 => Ug (Lg k2 v1) [] fun v2 => (k2,v2)
theorem Z3n (d m:Nat):(tn (Nd d m).1,tn (Nd d m).2)=begN (tn (text d m)):=by
 have e0:tn (List.replicate 32 0)=z32N:=by simp [tn,z32N]
 have e1:tn (List.replicate 32 1)=o32N:=by simp [tn,o32N]
 have z0:(List.replicate 32 (0:UInt8)).length≤64:=by rw [List.length_replicate]; decide
 have hb:Nd d m=(hmac (hmac (List.replicate 32 0) (List.replicate 32 1++0::text d m)) (hmac (hmac (List.replicate 32 0) (List.replicate 32 1++0::text d m)) (List.replicate 32 1)++1::text d m),
   hmac (hmac (hmac (List.replicate 32 0) (List.replicate 32 1++0::text d m)) (hmac (hmac (List.replicate 32 0) (List.replicate 32 1++0::text d m)) (List.replicate 32 1)++1::text d m)) (hmac (hmac (List.replicate 32 0) (List.replicate 32 1++0::text d m)) (List.replicate 32 1))):=rfl
 rw [hb]
 clear hb
 generalize text d m=t
 generalize List.replicate 32 (0:UInt8)=z at *
 generalize List.replicate 32 (1:UInt8)=o at *
 have a1:tn (hmac z (o++0::t))=Lg z32N (o32N++0::tn t):=by
  rw [Pr _ _ z0,U7,e0,e1]; rfl
 have l1:(hmac z (o++0::t)).length≤64:=by rw [hmac,Vx]; decide
 generalize hmac z (o++0::t)=k1 at *
 have a2:tn (hmac k1 o)=Lg (tn k1) o32N:=by rw [Pr _ _ l1,e1]
 generalize hmac k1 o=v1 at *
 have a3:tn (hmac k1 (v1++1::t))=Lg (tn k1) (tn v1++1::tn t):=by
  rw [Pr _ _ l1,U7]; rfl
 have l2:(hmac k1 (v1++1::t)).length≤64:=by rw [hmac,Vx]; decide
 generalize hmac k1 (v1++1::t)=k2 at *
 have a4:tn (hmac k2 v1)=Lg (tn k2) (tn v1):=Pr _ _ l2
 generalize hmac k2 v1=v2 at *
 simp only [begN,fG]
 rw [← a1,← a2,← a3,← a4]
def xB (k zi x:Nat):Bool:=match jmk (115792089210356248762697446949407573530086143415290314195533631308867097853951:Nat) ⟨(48439561293906451759052585252797914202762949526041747995844080717082404635286:Nat),(36134250956749795798585127919587881956611106672985015071877198253568414405109:Nat),1⟩ 256 k with | ⟨X,Y,Z⟩ => !(Z == 0)&&(fmul (115792089210356248762697446949407573530086143415290314195533631308867097853951:Nat) Z zi == 1)&&Nat.blt zi (115792089210356248762697446949407573530086143415290314195533631308867097853951:Nat)&&(fmul (115792089210356248762697446949407573530086143415290314195533631308867097853951:Nat) X (fmul (115792089210356248762697446949407573530086143415290314195533631308867097853951:Nat) zi zi) == x)
theorem Zzh {k zi x:Nat} (hk:k<2^256) (h:xB k zi x=true):(mulA k Wt).x=x:=by
 have h1:=Z4q 256 k
 have h2:=Zlx R6 k
 have h3:=Zo5 Zyl R6 256 k hk
 have h4:=Zlw R6 k
 have h5:jok (115792089210356248762697446949407573530086143415290314195533631308867097853951:Nat) (jmk (115792089210356248762697446949407573530086143415290314195533631308867097853951:Nat) (lift Wt) 256 k):=Ai (p:=(115792089210356248762697446949407573530086143415290314195533631308867097853951:Nat)) (Tg (p:=(115792089210356248762697446949407573530086143415290314195533631308867097853951:Nat)) (b:=(41058363725152142129326129780047268409114441015993725554835256314039467401291:Nat)) (by decide) R6) 256 k
 rw [h3,← h2] at h1
 have h6:jmk (115792089210356248762697446949407573530086143415290314195533631308867097853951:Nat) (lift Wt) 256 k=jmk (115792089210356248762697446949407573530086143415290314195533631308867097853951:Nat) ⟨(48439561293906451759052585252797914202762949526041747995844080717082404635286:Nat),(36134250956749795798585127919587881956611106672985015071877198253568414405109:Nat),1⟩ 256 k:=rfl
 rw [h6] at h1 h5
 rw [xB] at h
 clear h6 h2 h3
 generalize jmk (115792089210356248762697446949407573530086143415290314195533631308867097853951:Nat) ⟨(48439561293906451759052585252797914202762949526041747995844080717082404635286:Nat),(36134250956749795798585127919587881956611106672985015071877198253568414405109:Nat),1⟩ 256 k=t at *
 generalize mulA k Wt=a at *
 obtain ⟨X,Y,Z⟩:=t
 simp only [Bool.and_eq_true,Bool.not_eq_true',beq_eq_false_iff_ne,beq_iff_eq,Nat.blt_eq] at h
 obtain ⟨⟨⟨g1,g2⟩,g3⟩,g4⟩:=h
 have e:=Hz (p:=(115792089210356248762697446949407573530086143415290314195533631308867097853951:Nat)) Fk h5 h4 h1
 rw [jflat,if_neg g1] at e
 have ei:minv (115792089210356248762697446949407573530086143415290314195533631308867097853951:Nat) Z=zi:=Kr g3 g2
 simp only [ei] at e
 rw [← e]
 exact g4
end Go.Proofs.YtcgjlpdkobmpnaaGreat.Eng

