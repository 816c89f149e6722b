/- SHA-256 and HMAC, by definition. (No program in sight.) -/
import Derived.Test.YtcgjlpdkobmpnaaGreatME6
import Derived.Test.YtcgjlpdkobmpnaaGreatMEc
import Derived.Test.YtcgjlpdkobmpnaaGreatMNum
import Derived.Test.YtcgjlpdkobmpnaaGreatMCa
import Derived.Test.YtcgjlpdkobmpnaaGreatMCb
import Derived.Test.YtcgjlpdkobmpnaaGreatMCc
import Derived.Test.YtcgjlpdkobmpnaaGreatMTl
namespace Go.Proofs.YtcgjlpdkobmpnaaGreat.Eng
open Go
set_option linter.unusedVariables false
set_option linter.unusedSimpArgs false
def rotr (k x:Nat):Nat:=x / 2^k+x%2^k*2^(32 - k)
def big1 (x:Nat):Nat:=rotr 6 x ^^^ rotr 11 x ^^^ rotr 25 x
def big0 (x:Nat):Nat:=rotr 2 x ^^^ rotr 13 x ^^^ rotr 22 x
def sml0 (x:Nat):Nat:=rotr 7 x ^^^ rotr 18 x ^^^ x / 8
def sml1 (x:Nat):Nat:=rotr 17 x ^^^ rotr 19 x ^^^ x / 1024
def chN (e f g:Nat):Nat:=(e &&& f) ^^^ ((4294967295 - e) &&& g)
def majN (a b c:Nat):Nat:=(a &&& b) ^^^ (a &&& c) ^^^ (b &&& c)
def K256:List Nat:=[1116352408,1899447441,3049323471,3921009573,961987163,1508970993,2453635748,2870763221,3624381080,310598401,607225278,1426881987,1925078388,2162078206,2614888103,3248222580,3835390401,4022224774,264347078,604807628,770255983,1249150122,1555081692,1996064986,2554220882,2821834349,2952996808,3210313671,3336571891,3584528711,113926993,338241895,666307205,773529912,1294757372,1396182291,1695183700,1986661051,2177026350,2456956037,2730485921,2820302411,3259730800,3345764771,3516065817,3600352804,4094571909,275423344,430227734,506948616,659060556,883997877,958139571,1322822218,1537002063,1747873779,1955562222,2024104815,2227730452,2361852424,2428436474,2756734187,3204031479,3329325298]
def IV256:List Nat:=[1779033703,3144134277,1013904242,2773480762,1359893119,2600822924,528734635,1541459225]
def nxw (l:List Nat):Nat:=(sml1 (l.getD 1 0)+l.getD 6 0+sml0 (l.getD 14 0)+l.getD 15 0)%(4294967296:Nat)
def sch:Nat→List Nat→List Nat
 | 0,l => l
 | n+1,l => CheckFast.force (nxw l) fun x => sch n (x::l)
theorem Dp:∀ n l,sch (n+1) l=nxw (sch n l)::sch n l
 | 0,l => by simp only [sch,CheckFast.force_eq]
 | n+1,l => by
  rw [sch,CheckFast.force_eq,Dp n,show sch (n+1) l=sch n (nxw l::l) by rw [sch,CheckFast.force_eq]]
theorem Kf:∀ n l,(sch n l).length=l.length+n
 | 0,l => rfl
 | n+1,l => by rw [Dp,List.length_cons,Kf n]; omega
def rnd (s:List Nat) (kw:Nat × Nat):List Nat :=
 match s with
 | [a,b,c,d,e,f,g,h] => CheckFast.force (h+big1 e+chN e f g+kw.1+kw.2) fun t => CheckFast.force ((t+(big0 a+majN a b c))%(4294967296:Nat)) fun x => CheckFast.force ((d+t)%(4294967296:Nat)) fun y => [x,a,b,c,y,e,f,g]
 | s => s
theorem Zt2 (a b c d e f g h k w:Nat):rnd [a,b,c,d,e,f,g,h] (k,w)=[((h+big1 e+chN e f g+k+w)+(big0 a+majN a b c))%(4294967296:Nat),a,b,c,(d+(h+big1 e+chN e f g+k+w))%(4294967296:Nat),e,f,g]:=by
 simp only [rnd,CheckFast.force_eq]
def w16 (b:List UInt8):List Nat:=(List.range 16).map fun i => be ((b.drop (4*i)).take 4)
def words (b:List UInt8):List Nat:=(sch 48 (w16 b).reverse).reverse
def Tx (s:List Nat) (b:List UInt8):List Nat:=List.zipWith (fun x y => (x+y)%(4294967296:Nat)) s ((K256.zip (words b)).foldl rnd s)
def absb:Nat→List Nat→List UInt8→List Nat
 | 0,s,_ => s
 | n+1,s,l => absb n (Tx s (l.take 64)) (l.drop 64)
theorem Ny:∀ n m s l r,l.length=64*n→absb (n+m) s (l++r)=absb m (absb n s l) r
 | 0,m,s,l,r,h => by
  obtain rfl:l=[]:=List.eq_nil_of_length_eq_zero (by omega)
  rw [Nat.zero_add]; rfl
 | n+1,m,s,l,r,h => by
  rw [show n+1+m=(n+m)+1 by omega,absb,absb,List.take_append_of_le_length (by omega),List.drop_append_of_le_length (by omega),Ny n m _ _ _ (by rw [List.length_drop]; omega)]
def padn (n:Nat):Nat:=(119 - n%64)%64
def pad (n:Nat):List UInt8:=128::(List.replicate (padn n) 0++beN 8 (8*n))
theorem Ko (n:Nat):(n+(pad n).length)%64=0∧(pad n).length=padn n+9:=by
 have:(pad n).length=padn n+9:=by simp [pad,Zm]
 refine ⟨?_,this⟩
 rw [this,padn]; omega
def outS (s:List Nat):List UInt8:=s.flatMap (beN 4)
def sha (l:List UInt8):List UInt8:=outS (absb ((l.length+padn l.length+9) / 64) IV256 (l++pad l.length))
def kblk (key:List UInt8) (x:UInt8):List UInt8 :=
 let k:=if 64<key.length then sha key else key
 (k++List.replicate (64 - k.length) 0).map (· ^^^ x)
def hmac (key text:List UInt8):List UInt8:=sha (kblk key 92++sha (kblk key 54++text))
theorem Zwh {s:List Nat} (h:s.length=8) (kw:Nat × Nat):(rnd s kw).length=8:=by
 match s,h with
 | [a,b,c,d,e,f,g,h],_ => rw [Zt2]; rfl
theorem Ds {s:List Nat} (h:s.length=8):∀ l:List (Nat × Nat),(l.foldl rnd s).length=8:=by
 intro l
 induction l generalizing s with
 | nil => exact h
 | cons x r ih => exact ih (Zwh h x)
theorem S2 (b:List UInt8):(w16 b).length=16:=by simp [w16]
theorem Jd (b:List UInt8):(words b).length=64:=by simp [words,Kf,S2]
theorem J0 {s:List Nat} (h:s.length=8) (b:List UInt8):(Tx s b).length=8:=by
 rw [Tx,List.length_zipWith,Ds h,h]; rfl
theorem W9:∀ n s l,s.length=8→(absb n s l).length=8
 | 0,s,l,h => h
 | n+1,s,l,h => W9 n _ _ (J0 h _)
theorem Zfs {s:List Nat} (b:List UInt8):∀ x ∈ Tx s b,x<(4294967296:Nat):=by
 intro x hx
 rw [Tx,List.mem_iff_getElem] at hx
 obtain ⟨i,hi,rfl⟩:=hx
 rw [List.getElem_zipWith]
 exact Nat.mod_lt _ (by decide)
theorem Zdp:∀ n s l,(∀ x ∈ s,x<(4294967296:Nat))→∀ x ∈ absb n s l,x<(4294967296:Nat)
 | 0,s,l,h => h
 | n+1,s,l,h => Zdp n _ _ (Zfs _)
theorem Zb4 (s:List Nat):(outS s).length=4*s.length:=by
 induction s with
 | nil => rfl
 | cons a r ih => rw [outS,List.flatMap_cons,List.length_append,Zm,List.length_cons]; rw [outS] at ih; omega
theorem P5:IV256.length=8:=rfl
theorem Vx (l:List UInt8):(sha l).length=32:=by rw [sha,Zb4,W9 _ _ _ P5]
set_option linter.unusedSimpArgs false
def Xa (a:Nat):Bool:=!(a == 0)&&Nat.blt a (115792089210356248762697446949407573529996955224135760342422259061068512044369:Nat)
theorem Ms (a:Nat):Xa a=true↔0<a∧a<(115792089210356248762697446949407573529996955224135760342422259061068512044369:Nat):=by
 unfold Xa
 rw [Bool.and_eq_true,Bool.not_eq_true',beq_eq_false_iff_ne,Nat.blt_eq]
 omega
def mixS (k v more:List UInt8):List UInt8 × List UInt8:=(hmac k (v++more),hmac (hmac k (v++more)) v)
def text (d m:Nat):List UInt8:=beN 32 d++beN 32 m
def Nd (d m:Nat):List UInt8 × List UInt8 :=
 let a:=mixS (List.replicate 32 0) (List.replicate 32 1) (0::text d m)
 mixS a.1 a.2 (1::text d m)
def srcS (d m:Nat):Nat→List UInt8 × List UInt8
 | 0 => Nd d m
 | i+1 => mixS (srcS d m i).1 (hmac (srcS d m i).1 (srcS d m i).2) [0]
def numS (d m i:Nat):Nat:=be (hmac (srcS d m i).1 (srcS d m i).2)
def Xi (d m many:Nat):Nat→List Nat
 | 0 => []
 | i+1 => if (Xi d m many i).length=many then Xi d m many i else if Xa (numS d m i) then Xi d m many i++[numS d m i] else Xi d m many i
theorem Lv (d m many:Nat):∀ i,∀ k ∈ Xi d m many i,Xa k=true
 | 0,k,h => by cases h
 | i+1,k,h => by
  rw [Xi] at h
  split at h
  ·exact Lv d m many i k h
  ·split at h
   ·rename_i hm
    rcases List.mem_append.1 h with h | h
    ·exact Lv d m many i k h
    ·obtain rfl:k=_:=by simpa using h
     exact hm
   ·exact Lv d m many i k h
theorem Fb (d m many:Nat):∀ i,(Xi d m many i).length≤i
 | 0 => Nat.le_refl _
 | i+1 => by
  have:=Fb d m many i
  rw [Xi]
  split
  ·omega
  ·split
   ·rw [List.length_append]; simp only [List.length_cons,List.length_nil]; omega
   ·omega
def Wt:Aff:=.pt (48439561293906451759052585252797914202762949526041747995844080717082404635286:Nat) (36134250956749795798585127919587881956611106672985015071877198253568414405109:Nat)
noncomputable def mulA (k:Nat) (a:Aff):Aff:=amk (115792089210356248762697446949407573530086143415290314195533631308867097853951:Nat) a (blen k) k
def Aff.x:Aff→Nat
 | .far => 0
 | .pt x _ => x
def Aff.y:Aff→Nat
 | .far => 0
 | .pt _ y => y
def Aff.isFar:Aff→Bool
 | .far => true
 | .pt _ _ => false
noncomputable def rOf (k:Nat):Nat:=(mulA k Wt).x%(115792089210356248762697446949407573529996955224135760342422259061068512044369:Nat)
noncomputable def sOf (d k m:Nat):Nat:=fmul (115792089210356248762697446949407573529996955224135760342422259061068512044369:Nat) (minv (115792089210356248762697446949407573529996955224135760342422259061068512044369:Nat) k) (fadd (115792089210356248762697446949407573529996955224135760342422259061068512044369:Nat) m (fmul (115792089210356248762697446949407573529996955224135760342422259061068512044369:Nat) (rOf k) d))
noncomputable def Oo (d m k:Nat):Bool:=Xa (rOf k)&&Xa (sOf d k m)
noncomputable def Kc (d:Nat) (h:List UInt8):Option (Nat × Nat) :=
 if (Xi d (be h%(115792089210356248762697446949407573529996955224135760342422259061068512044369:Nat)) 16 100).length<16 then none else
 ((Xi d (be h%(115792089210356248762697446949407573529996955224135760342422259061068512044369:Nat)) 16 100).find? (Oo d (be h%(115792089210356248762697446949407573529996955224135760342422259061068512044369:Nat)))).map fun k => (rOf k,sOf d k (be h%(115792089210356248762697446949407573529996955224135760342422259061068512044369:Nat)))
def onP (a:Aff):Prop:=onA (115792089210356248762697446949407573530086143415290314195533631308867097853951:Nat) (41058363725152142129326129780047268409114441015993725554835256314039467401291:Nat) a
end Go.Proofs.YtcgjlpdkobmpnaaGreat.Eng
namespace Go.Proofs.YtcgjlpdkobmpnaaGreat.Eng
open Go Go.Proofs
set_option linter.unusedVariables false
set_option linter.unusedSimpArgs false
set_option maxRecDepth 10000
def crv (p:Nat):List AV:=[.ptr p 0,.fn (.func F.field_Field_Add) [.ptr p 0] [],.fn (.func F.field_Field_Sub) [.ptr p 0] [],.fn (.func F.field_Field_Mul) [.ptr p 0] []]
theorem Zj (p:Nat):(crv p).take 4=crv p:=rfl
theorem Zp (p:Nat):(crv p).length=4:=rfl
theorem Vs (p:Nat):(crv p).all AV.one=true:=rfl
theorem E6 (p:Nat):(crv p).isEmpty=false:=rfl
theorem Z6 (p:Nat):(crv p).getD 0 .junk=.ptr p 0:=rfl
theorem Zz (p:Nat):(crv p).getD 1 .junk=.fn (.func F.field_Field_Add) [.ptr p 0] []:=rfl
theorem Zy (p:Nat):(crv p).getD 2 .junk=.fn (.func F.field_Field_Sub) [.ptr p 0] []:=rfl
theorem Zx (p:Nat):(crv p).getD 3 .junk=.fn (.func F.field_Field_Mul) [.ptr p 0] []:=rfl
theorem Pw (p:Nat):splice [.lit (.pointer none),.lit .nilFunc,.lit .nilFunc,.lit .nilFunc] 0 (crv p)=crv p:=rfl
def pcell (x y:Nat) (f:Bool):List AV:=num x++(num y++[Bl f])
theorem Z5 (x y:Nat) (f:Bool):(pcell x y f).length=9:=by simp [pcell,Zb]
theorem Xh (x y:Nat) (f:Bool):(pcell x y f).all AV.one=true:=by rw [pcell,List.all_append,List.all_append,Zg,Zg]; rfl
theorem S6 (x y:Nat) (f:Bool):(pcell x y f).isEmpty=false:=rfl
theorem pc_x (x y:Nat) (f:Bool):(pcell x y f).take 4=num x:=List.take_left' (Zb 4 x)
theorem pc_y (x y:Nat) (f:Bool):((pcell x y f).drop 4).take 4=num y:=by rw [pcell,List.drop_left' (Zb 4 x),List.take_left' (Zb 4 y)]
theorem pc_f (x y:Nat) (f:Bool):(pcell x y f).getD 8 .junk=Bl f:=by
 have:pcell x y f=(num x++num y)++[Bl f]:=by simp [pcell]
 rw [this]; exact Yi (j:=0) (by simp [Zb]) _
theorem Ye (x y:Nat) (f:Bool):(pcell x y f).take 9=pcell x y f:=List.take_of_length_le (by rw [Z5]; exact Nat.le_refl _)
abbrev ZP:List AV:=[Z0,Z0,Z0,Z0,Z0,Z0,Z0,Z0,Bl false]
theorem Mm (x y:Nat) (f:Bool):splice ZP 0 (pcell x y f)=pcell x y f:=Zu (by rw [Z5]; rfl)
theorem Zww (x:Nat):splice ZP 0 (num x)=pcell x 0 false:=by
 rw [Xd _ _ _ (by rw [Zb]; decide),Zb]; rfl
theorem Zwv (x y' y:Nat) (f:Bool):splice (pcell x y' f) 4 (num y)=pcell x y f:=by
 rw [Xd _ _ _ (by rw [Zb,Z5]; decide),pc_x,Zb]
 have:(pcell x y' f).drop (4+4)=[Bl f]:=by
  rw [← List.drop_drop,pcell,List.drop_left' (Zb 4 x),List.drop_left' (Zb 4 y')]
 rw [this,pcell,List.append_assoc]
def jc (t:J3):List AV:=num t.x++(num t.y++num t.z)
theorem Zw (t:J3):(jc t).length=12:=by simp [jc,Zb]
theorem Ti (t:J3):(jc t).all AV.one=true:=by rw [jc,List.all_append,List.all_append,Zg,Zg,Zg]; rfl
theorem Zrg (t:J3):(jc t).isEmpty=false:=rfl
theorem jc_x (t:J3):(jc t).take 4=num t.x:=List.take_left' (Zb 4 _)
theorem jc_y (t:J3):((jc t).drop 4).take 4=num t.y:=by rw [jc,List.drop_left' (Zb 4 _),List.take_left' (Zb 4 _)]
theorem jc_z (t:J3):((jc t).drop 8).take 4=num t.z:=by
 have:jc t=(num t.x++num t.y)++num t.z:=by simp [jc]
 rw [this,List.drop_left' (by simp [Zb]),Zd]
theorem Zr (t:J3):(jc t).take 12=jc t:=List.take_of_length_le (by rw [Zw]; exact Nat.le_refl _)
abbrev ZJ:List AV:=[Z0,Z0,Z0,Z0,Z0,Z0,Z0,Z0,Z0,Z0,Z0,Z0]
theorem Jk (t:J3):splice ZJ 0 (jc t)=jc t:=Zu (by rw [Zw]; rfl)
theorem Cj (s t:J3):splice (jc s) 0 (jc t)=jc t:=Zu (by rw [Zw,Zw])
theorem Zck (x:Nat):splice ZJ 0 (num x)=jc ⟨x,0,0⟩:=by
 rw [Xd _ _ _ (by rw [Zb]; decide),Zb]
 have e:num 0=[Z0,Z0,Z0,Z0]:=rfl
 simp [jc,e]
theorem Zcj (x y' y z:Nat):splice (jc ⟨x,y',z⟩) 4 (num y)=jc ⟨x,y,z⟩:=by
 rw [Xd _ _ _ (by rw [Zb,Zw]; decide),jc_x,Zb]
 have:(jc ⟨x,y',z⟩).drop (4+4)=num z:=by
  rw [← List.drop_drop,jc,List.drop_left' (Zb 4 x),List.drop_left' (Zb 4 y')]
 rw [this,jc,List.append_assoc]
theorem Zci (x y z' z:Nat):splice (jc ⟨x,y,z'⟩) 8 (num z)=jc ⟨x,y,z⟩:=by
 have e:jc ⟨x,y,z'⟩=(num x++num y)++num z':=by simp [jc]
 rw [e,Xd _ _ _ (by simp [Zb]),Zb,List.take_left' (by simp [Zb]),List.drop_eq_nil_of_le (by simp [Zb])]
 simp [jc]
theorem ltP {a:Nat} (h:a<(115792089210356248762697446949407573530086143415290314195533631308867097853951:Nat)):a<(18446744073709551616:Nat)^4:=Nat.lt_trans h (by decide)
theorem Zll {n:Nat} (h:n<(18446744073709551616:Nat)):num n=[W n,Z0,Z0,Z0]:=by
 simp only [wd,dig,List.map_cons,List.map_nil,Nat.mod_eq_of_lt h,Nat.div_eq_of_lt h]; rfl
theorem cM {H:AH} {p a b:Nat} (hf:FF H p (115792089210356248762697446949407573530086143415290314195533631308867097853951:Nat)) (ha:a<(115792089210356248762697446949407573530086143415290314195533631308867097853951:Nat)) (hb:b<(115792089210356248762697446949407573530086143415290314195533631308867097853951:Nat)):Called Tryz.prog F.field_Field_Mul [.ptr p 0,.agg (num a),.agg (num b)] H (.agg (num (fmul (115792089210356248762697446949407573530086143415290314195533631308867097853951:Nat) a b))) H:=Bg hf mo_P (ltP ha) (ltP hb)
theorem cA {H:AH} {p a b:Nat} (hf:FF H p (115792089210356248762697446949407573530086143415290314195533631308867097853951:Nat)) (ha:a<(115792089210356248762697446949407573530086143415290314195533631308867097853951:Nat)) (hb:b<(115792089210356248762697446949407573530086143415290314195533631308867097853951:Nat)):Called Tryz.prog F.field_Field_Add [.ptr p 0,.agg (num a),.agg (num b)] H (.agg (num (fadd (115792089210356248762697446949407573530086143415290314195533631308867097853951:Nat) a b))) H:=Bh hf.fd mo_P.lt (by decide) (ltP ha) (ltP hb)
theorem cS {H:AH} {p a b:Nat} (hf:FF H p (115792089210356248762697446949407573530086143415290314195533631308867097853951:Nat)) (ha:a<(115792089210356248762697446949407573530086143415290314195533631308867097853951:Nat)) (hb:b<(115792089210356248762697446949407573530086143415290314195533631308867097853951:Nat)):Called Tryz.prog F.field_Field_Sub [.ptr p 0,.agg (num a),.agg (num b)] H (.agg (num (fsub (115792089210356248762697446949407573530086143415290314195533631308867097853951:Nat) a b))) H:=by
 have:=Zjw hf.fd mo_P.lt (by decide) (ltP ha) (ltP hb)
 rwa [Nat.mod_eq_of_lt ha,Nat.mod_eq_of_lt hb] at this
theorem t_P {H:AH}:Called Tryz.prog F.point_P [] H (.agg (num (115792089210356248762697446949407573530086143415290314195533631308867097853951:Nat))) H:=by
 refine Znu ?_
 simp only [Et,go_sem,Zq,fillv]
 have e:[AV.lit (.int .u64 18446744073709551615),.lit (.int .u64 4294967295),Z0,.lit (.int .u64 18446744069414584321)]=num (115792089210356248762697446949407573530086143415290314195533631308867097853951:Nat):=rfl
 simp only [e,Ze,Zd,Zg,Zb,go_sem]
 exact Zc rfl
theorem t_b {H:AH}:Called Tryz.prog F.point_b [] H (.agg (num (41058363725152142129326129780047268409114441015993725554835256314039467401291:Nat))) H:=by
 refine Znt ?_
 simp only [Es,go_sem,Zq,fillv]
 have e:[AV.lit (.int .u64 4309448131093880907),.lit (.int .u64 7285987128567378166),.lit (.int .u64 12964664127075681980),.lit (.int .u64 6540974713487397863)]=num (41058363725152142129326129780047268409114441015993725554835256314039467401291:Nat):=rfl
 simp only [e,Ze,Zd,Zg,Zb,go_sem]
 exact Zc rfl
theorem Zd9 {H:AH}:Called Tryz.prog F.point_Base [] H (.agg (pcell (48439561293906451759052585252797914202762949526041747995844080717082404635286:Nat) (36134250956749795798585127919587881956611106672985015071877198253568414405109:Nat) false)) H:=by
 refine A7 ?_
 simp only [M8,go_sem,Zq,fillv]
 have e1:[AV.lit (.int .u64 17627433388654248598),.lit (.int .u64 8575836109218198432),.lit (.int .u64 17923454489921339634),.lit (.int .u64 7716867327612699207)]=num (48439561293906451759052585252797914202762949526041747995844080717082404635286:Nat):=rfl
 have e2:[AV.lit (.int .u64 14678990851816772085),.lit (.int .u64 3156516839386865358),.lit (.int .u64 10297457778147434006),.lit (.int .u64 5756518291402817435)]=num (36134250956749795798585127919587881956611106672985015071877198253568414405109:Nat):=rfl
 have e3:[AV.lit (.int .u64 17627433388654248598),.lit (.int .u64 8575836109218198432),.lit (.int .u64 17923454489921339634),.lit (.int .u64 7716867327612699207),.lit (.int .u64 14678990851816772085),.lit (.int .u64 3156516839386865358),.lit (.int .u64 10297457778147434006),.lit (.int .u64 5756518291402817435),Bl false]=pcell (48439561293906451759052585252797914202762949526041747995844080717082404635286:Nat) (36134250956749795798585127919587881956611106672985015071877198253568414405109:Nat) false:=rfl
 simp only [e3,Mm,Ye,Xh,Z5,go_sem]
 exact Zc rfl
theorem t_sq {H:AH} {p a:Nat} (hf:FF H p (115792089210356248762697446949407573530086143415290314195533631308867097853951:Nat)) (ha:a<(115792089210356248762697446949407573530086143415290314195533631308867097853951:Nat)):Called Tryz.prog F.point_curve_square [.agg (crv p),.agg (num a)] H (.agg (num (fmul (115792089210356248762697446949407573530086143415290314195533631308867097853951:Nat) a a))) H:=by
 refine Oq ?_
 have hf':∀ G,FF (H++G) p (115792089210356248762697446949407573530086143415290314195533631308867097853951:Nat):=fun G => hf.app
 simp only [Uf,go_sem,Vs,E6,Zp,Zx,Zg,Yf,Zd,Zb]
 refine Za (cM (hf' _) ha ha) (fun _ => rfl) ?_
 simp only [go_sem,Zd,Ze,Zg,Zb]
 exact Zc rfl
theorem L7 {H:AH} {p a n:Nat} (hf:FF H p (115792089210356248762697446949407573530086143415290314195533631308867097853951:Nat)) (ha:a<(115792089210356248762697446949407573530086143415290314195533631308867097853951:Nat)) (hn:n<(18446744073709551616:Nat)):Called Tryz.prog F.point_curve_times [.agg (crv p),.agg (num a),W n] H (.agg (num (fmul (115792089210356248762697446949407573530086143415290314195533631308867097853951:Nat) a n))) H:=by
 refine Nq ?_
 have hf':∀ G,FF (H++G) p (115792089210356248762697446949407573530086143415290314195533631308867097853951:Nat):=fun G => hf.app
 simp only [Uu,go_sem,Vs,E6,Zp,Zx,Zg,Yf,Zd,Zb,Zq,fillv,← Zll hn]
 refine Za (cM (hf' _) ha (Nat.lt_trans hn (by decide))) (fun _ => rfl) ?_
 simp only [go_sem,Zd,Ze,Zg,Zb]
 exact Zc rfl
theorem Zhg (ren:Nat→Option Nat) (H:AH) (m:Nat):lowL ren H (fcells m)=fcells m:=by simp [fcells,Wg,Tf,lowL,low]
theorem t_of {H:AH}:Called Tryz.prog F.point_of [] H (.agg (crv H.length)) (H++[⟨fcells (115792089210356248762697446949407573530086143415290314195533631308867097853951:Nat),0,true⟩]):=by
 refine Zh9 ?_
 simp only [H8,go_sem]
 refine Za t_P (fun _ => rfl) ?_
 simp only [go_sem]
 refine Za (Zpp mo_P) (fun h => by cases h) ?_
 simp only [go_sem,Zq,fillv]
 refine Oc [1] (by decide) (by simp) ?_ ?_
 ·simp [low,lowL,Dy,List.idxOf?_cons,crv]
 ·simp [Wu,Zhg,obj]
end Go.Proofs.YtcgjlpdkobmpnaaGreat.Eng
namespace Go.Proofs.YtcgjlpdkobmpnaaGreat.Eng
open Go Go.Proofs
set_option linter.unusedVariables false
set_option linter.unusedSimpArgs false
set_option maxRecDepth 10000
def Ss (x y:Nat) (f:Bool):Bool:=bif f then (x == 0&&y == 0) else (Nat.blt x (115792089210356248762697446949407573530086143415290314195533631308867097853951:Nat)&&Nat.blt y (115792089210356248762697446949407573530086143415290314195533631308867097853951:Nat)&&onB (115792089210356248762697446949407573530086143415290314195533631308867097853951:Nat) (41058363725152142129326129780047268409114441015993725554835256314039467401291:Nat) x y)
theorem Sz:∀ {a c:List AV} (b d:List AV),a.length=c.length→Wb (a++b) (c++d)=(Wb a c&&Wb b d)
 | [],[],b,d,_ => by simp [Wb]
 | x::a,y::c,b,d,h => by
  simp only [List.cons_append,Wb,Sz b d (show a.length=c.length by simpa using h),Bool.and_assoc]
 | [],y::c,b,d,h => by cases h
 | x::a,[],b,d,h => by cases h
theorem Z4x {x y x' y':Nat} {f f':Bool} (hx:x<(18446744073709551616:Nat)^4) (hy:y<(18446744073709551616:Nat)^4) (hx':x'<(18446744073709551616:Nat)^4) (hy':y'<(18446744073709551616:Nat)^4):C6 (.agg (pcell x y f)) (.agg (pcell x' y' f'))=(x == x'&&(y == y'&&f == f')):=by
 show Wb _ _=_
 have e:Wb [Bl f] [Bl f']=(f == f'):=by simp [Wb,Zus]
 rw [pcell,pcell,Sz _ _ (by rw [Zb,Zb]),Sz _ _ (by rw [Zb,Zb]),Iv,Iv,e,Nat.mod_eq_of_lt hx,Nat.mod_eq_of_lt hx',Nat.mod_eq_of_lt hy,Nat.mod_eq_of_lt hy']
 rfl
theorem Z4w (x y x' y':Nat) (f f':Bool):Us [some .u64,some .u64,some .u64,some .u64,some .u64,some .u64,some .u64,some .u64,none] (.agg (pcell x y f)) (.agg (pcell x' y' f'))=True:=by
 simp [Us,pcell,wd,dig,Th]
theorem Zn7 (a b:Nat):decide (0≤cmpN a b)=decide (b≤a):=by
 congr 1; apply propext; unfold cmpN; split <;> (try split) <;> omega
theorem Zm3 (m a b:Nat):fmul m a b=fmul m b a:=by unfold fmul; rw [Nat.mul_comm]
theorem N7 {H:AH} {p x y:Nat} {f:Bool} (hf:FF H p (115792089210356248762697446949407573530086143415290314195533631308867097853951:Nat)) (hx:x<(18446744073709551616:Nat)^4) (hy:y<(18446744073709551616:Nat)^4):Called Tryz.prog F.point_curve_on [.agg (crv p),.agg (pcell x y f)] H (Bl (Ss x y f)) H:=by
 refine Ib ?_
 have hf':∀ G,FF (H++G) p (115792089210356248762697446949407573530086143415290314195533631308867097853951:Nat):=fun G => hf.app
 have hPP:(115792089210356248762697446949407573530086143415290314195533631308867097853951:Nat)<(18446744073709551616:Nat)^4:=mo_P.lt
 have h0:0<(115792089210356248762697446949407573530086143415290314195533631308867097853951:Nat):=by decide
 have eF:[Z0,Z0,Z0,Z0,Z0,Z0,Z0,Z0,Bl true]=pcell 0 0 true:=rfl
 simp only [Re,go_sem,Vs,E6,Zp,Xh,S6,Z5,pc_f,Ye,Zq,fillv,eF]
 refine ⟨fun h => ?_,fun h => ?_⟩
 ·subst h
  simp only [go_sem,eF,Z4w,Z4x hx hy (show 0<(18446744073709551616:Nat)^4 by decide) (show 0<(18446744073709551616:Nat)^4 by decide),Z5]
  refine Zc ?_
  simp [Ss,low]
 ·subst h
  simp only [pc_x]
  refine Za t_P (fun _ => rfl) ?_
  simp only [go_sem]
  refine Za (I0 hx hPP) (fun _ => rfl) ?_
  simp only [go_sem,Zn7,Z5,pc_y]
  refine Zs (fun _ => t_P) ?_
  simp only [go_sem,Zn7,Z5,pc_y]
  refine Zs (fun _ => I0 hy hPP) ?_
  simp only [go_sem,Zn7,Z5,pc_y]
  refine ⟨fun h => ?_,fun h => ?_⟩
  ·refine Zc ?_
   have:Ss x y false=false:=by
    simp only [Ss,cond_false]
    rw [Bool.and_eq_false_iff,Bool.and_eq_false_iff]
    refine .inl ?_
    simp only [Bool.or_eq_true,decide_eq_true_eq] at h
    have bf:∀ a b:Nat,b≤a→Nat.blt a b=false:=fun a b h => by
     cases hh:Nat.blt a b
     ·rfl
     ·rw [Nat.blt_eq] at hh; omega
    rcases h with h | h
    ·exact .inl (bf _ _ h)
    ·exact .inr (bf _ _ h)
   rw [this]; rfl
  ·have h:¬ (115792089210356248762697446949407573530086143415290314195533631308867097853951:Nat)≤x∧¬ (115792089210356248762697446949407573530086143415290314195533631308867097853951:Nat)≤y:=by simpa using h
   have hx:x<(115792089210356248762697446949407573530086143415290314195533631308867097853951:Nat):=by omega
   have hy:y<(115792089210356248762697446949407573530086143415290314195533631308867097853951:Nat):=by omega
   have bt:∀ a b:Nat,a<b→Nat.blt a b=true:=fun a b h => by rw [Nat.blt_eq]; exact h
   simp only [go_sem,pc_x,Z5,Zz,Zy,Zx,Zp,Zj]
   refine Za ⟨rfl,fun G => t_sq ((hf' _).app) hx⟩ (fun _ => rfl) ?_
   simp only [go_sem,pc_x,Z5,Zz,Zy,Zx,Zp,Zj]
   refine Za ⟨rfl,fun G => cM ((hf' _).app) (Zi h0 _ _) hx⟩ (fun _ => rfl) ?_
   simp only [go_sem,pc_x,Z5,Zz,Zy,Zx,Zp,Zj]
   refine Za ⟨rfl,fun G => L7 (n:=3) ((hf' _).app) hx (by decide)⟩ (fun _ => rfl) ?_
   simp only [go_sem,pc_x,Z5,Zz,Zy,Zx,Zp,Zj]
   refine Za ⟨rfl,fun G => cS ((hf' _).app) (Zi h0 _ _) (Zi h0 _ _)⟩ (fun _ => rfl) ?_
   simp only [go_sem,pc_x,Z5,Zz,Zy,Zx,Zp,Zj]
   refine Za ⟨rfl,fun G => t_b⟩ (fun _ => rfl) ?_
   simp only [go_sem,pc_x,Z5,Zz,Zy,Zx,Zp,Zj]
   refine Za ⟨rfl,fun G => cA ((hf' _).app) (Zh h0 _ _) (by decide)⟩ (fun _ => rfl) ?_
   simp only [go_sem,pc_y,Z5,Zz,Zy,Zx,Zp,Zj,Ze,Zg,Zb]
   refine Za (t_sq (hf' _) hy) (fun _ => rfl) ?_
   have b1:=Nat.lt_trans (Zi h0 y y) hPP
   have b2:=Nat.lt_trans (Zn h0 (fsub (115792089210356248762697446949407573530086143415290314195533631308867097853951:Nat) (fmul (115792089210356248762697446949407573530086143415290314195533631308867097853951:Nat) (fmul (115792089210356248762697446949407573530086143415290314195533631308867097853951:Nat) x x) x) (fmul (115792089210356248762697446949407573530086143415290314195533631308867097853951:Nat) x 3)) (41058363725152142129326129780047268409114441015993725554835256314039467401291:Nat)) hPP
   simp only [go_sem,Zd,Zb,E9,Da b1 b2]
   refine Zc ?_
   simp only [Ss,cond_false,bt _ _ hx,bt _ _ hy,Bool.true_and,onB,Zm3 (115792089210356248762697446949407573530086143415290314195533631308867097853951:Nat) 3 x,low]
   rfl
theorem t_On {H:AH} {x y:Nat} {f:Bool} (hx:x<(18446744073709551616:Nat)^4) (hy:y<(18446744073709551616:Nat)^4):Called Tryz.prog F.point_On [.agg (pcell x y f)] H (Bl (Ss x y f)) H:=by
 refine Zia ?_
 simp only [H9,go_sem,Xh,S6]
 refine Za t_of (fun h => by cases h) ?_
 simp only [go_sem,Z5,Ye]
 have hF:FF (H++[⟨pcell x y f,0,true⟩,⟨fcells (115792089210356248762697446949407573530086143415290314195533631308867097853951:Nat),0,true⟩]) (H.length+1) (115792089210356248762697446949407573530086143415290314195533631308867097853951:Nat):=⟨by simp,by simp only [go_sem]⟩
 refine Za (N7 hF hx hy) (fun _ => rfl) ?_
 simp only [go_sem]
 exact Zc rfl
end Go.Proofs.YtcgjlpdkobmpnaaGreat.Eng
namespace Go.Proofs.YtcgjlpdkobmpnaaGreat.Eng
open Go Go.Proofs
set_option linter.unusedVariables false
set_option linter.unusedSimpArgs false
set_option maxRecDepth 10000
theorem Pb (ren:Nat→Option Nat) (H:AH) (t:J3):lowL ren H (jc t)=jc t:=by simp only [jc,Wg,Tf]
theorem Ziz (b:Bool):(b != false)=b:=by cases b <;> rfl
theorem Z47 (x y:Nat):(jc ⟨x,y,0⟩).take 8=num x++num y:=by
 have e:jc ⟨x,y,0⟩=(num x++num y)++num 0:=by simp [jc]
 rw [e,List.take_left' (by simp [Zb])]
theorem Z2c (t:J3):(jc t).drop 12=[]:=List.drop_eq_nil_of_le (by rw [Zw]; exact Nat.le_refl _)
theorem Zxr (x y:Nat):num x++(num y++[AV.lit (.int .u64 1),Z0,Z0,Z0])=jc ⟨x,y,1⟩:=by
 have e:num 1=[AV.lit (.int .u64 1),Z0,Z0,Z0]:=rfl
 simp [jc,e]
theorem Z2b (m x y z:Nat):jtw m ⟨x,y,z⟩=⟨fsub m (fmul m (fmul m (fmul m (fsub m x (fmul m z z)) (fadd m x (fmul m z z))) 3) (fmul m (fmul m (fsub m x (fmul m z z)) (fadd m x (fmul m z z))) 3)) (fmul m (fmul m x (fmul m y y)) 8),
  fsub m (fmul m (fmul m (fmul m (fsub m x (fmul m z z)) (fadd m x (fmul m z z))) 3) (fsub m (fmul m (fmul m x (fmul m y y)) 4) (fsub m (fmul m (fmul m (fmul m (fsub m x (fmul m z z)) (fadd m x (fmul m z z))) 3) (fmul m (fmul m (fsub m x (fmul m z z)) (fadd m x (fmul m z z))) 3)) (fmul m (fmul m x (fmul m y y)) 8)))) (fmul m (fmul m (fmul m y y) (fmul m y y)) 8),
  fsub m (fsub m (fmul m (fadd m y z) (fadd m y z)) (fmul m y y)) (fmul m z z)⟩:=by simp only [jtw,CheckFast.force_eq]
theorem t_tw {H:AH} {p:Nat} {t:J3} (hf:FF H p (115792089210356248762697446949407573530086143415290314195533631308867097853951:Nat)) (ht:jok (115792089210356248762697446949407573530086143415290314195533631308867097853951:Nat) t):Called Tryz.prog F.point_curve_twice [.agg (crv p),.agg (jc t)] H (.agg (jc (jtw (115792089210356248762697446949407573530086143415290314195533631308867097853951:Nat) t))) H:=by
 refine Np ?_
 have hf':∀ G,FF (H++G) p (115792089210356248762697446949407573530086143415290314195533631308867097853951:Nat):=fun G => hf.app
 have h0:0<(115792089210356248762697446949407573530086143415290314195533631308867097853951:Nat):=by decide
 obtain ⟨x,y,z⟩:=t
 obtain ⟨hx,hy,hz⟩:=ht
 simp only at hx hy hz
 rw [Z2b]
 simp only [Ut,go_sem,Z6,Zz,Zy,Zx,Zp,Zj,jc_x,jc_y,jc_z,Zw,Zr,Zd,Ze,Zg,Zb,Nat.add_assoc,Vs,E6,Ti,Zrg]
 refine Za ⟨rfl,fun G => t_sq ((hf' _).app) (by first | assumption | exact Zi h0 _ _ | exact Zh h0 _ _ | exact Zn h0 _ _)⟩ (fun _ => rfl) ?_
 simp only [go_sem,Z6,Zz,Zy,Zx,Zp,Zj,jc_x,jc_y,jc_z,Zw,Zr,Zd,Ze,Zg,Zb,Nat.add_assoc]
 refine Za ⟨rfl,fun G => t_sq ((hf' _).app) (by first | assumption | exact Zi h0 _ _ | exact Zh h0 _ _ | exact Zn h0 _ _)⟩ (fun _ => rfl) ?_
 simp only [go_sem,Z6,Zz,Zy,Zx,Zp,Zj,jc_x,jc_y,jc_z,Zw,Zr,Zd,Ze,Zg,Zb,Nat.add_assoc]
 refine Za (cM (hf' _) (by first | assumption | exact Zi h0 _ _ | exact Zh h0 _ _ | exact Zn h0 _ _) (by first | assumption | exact Zi h0 _ _ | exact Zh h0 _ _ | exact Zn h0 _ _)) (fun _ => rfl) ?_
 simp only [go_sem,Z6,Zz,Zy,Zx,Zp,Zj,jc_x,jc_y,jc_z,Zw,Zr,Zd,Ze,Zg,Zb,Nat.add_assoc]
 refine Za ⟨rfl,fun G => cS ((hf' _).app) (by first | assumption | exact Zi h0 _ _ | exact Zh h0 _ _ | exact Zn h0 _ _) (by first | assumption | exact Zi h0 _ _ | exact Zh h0 _ _ | exact Zn h0 _ _)⟩ (fun _ => rfl) ?_
 simp only [go_sem,Z6,Zz,Zy,Zx,Zp,Zj,jc_x,jc_y,jc_z,Zw,Zr,Zd,Ze,Zg,Zb,Nat.add_assoc]
 refine Za ⟨rfl,fun G => cA ((hf' _).app) (by first | assumption | exact Zi h0 _ _ | exact Zh h0 _ _ | exact Zn h0 _ _) (by first | assumption | exact Zi h0 _ _ | exact Zh h0 _ _ | exact Zn h0 _ _)⟩ (fun _ => rfl) ?_
 simp only [go_sem,Z6,Zz,Zy,Zx,Zp,Zj,jc_x,jc_y,jc_z,Zw,Zr,Zd,Ze,Zg,Zb,Nat.add_assoc]
 refine Za ⟨rfl,fun G => cM ((hf' _).app) (by first | assumption | exact Zi h0 _ _ | exact Zh h0 _ _ | exact Zn h0 _ _) (by first | assumption | exact Zi h0 _ _ | exact Zh h0 _ _ | exact Zn h0 _ _)⟩ (fun _ => rfl) ?_
 simp only [go_sem,Z6,Zz,Zy,Zx,Zp,Zj,jc_x,jc_y,jc_z,Zw,Zr,Zd,Ze,Zg,Zb,Nat.add_assoc]
 refine Za ⟨rfl,fun G => L7 (n:=3) ((hf' _).app) (by first | assumption | exact Zi h0 _ _ | exact Zh h0 _ _ | exact Zn h0 _ _) (by decide)⟩ (fun _ => rfl) ?_
 simp only [go_sem,Z6,Zz,Zy,Zx,Zp,Zj,jc_x,jc_y,jc_z,Zw,Zr,Zd,Ze,Zg,Zb,Nat.add_assoc]
 refine Za ⟨rfl,fun G => t_sq ((hf' _).app) (by first | assumption | exact Zi h0 _ _ | exact Zh h0 _ _ | exact Zn h0 _ _)⟩ (fun _ => rfl) ?_
 simp only [go_sem,Z6,Zz,Zy,Zx,Zp,Zj,jc_x,jc_y,jc_z,Zw,Zr,Zd,Ze,Zg,Zb,Nat.add_assoc]
 refine Za ⟨rfl,fun G => L7 (n:=8) ((hf' _).app) (by first | assumption | exact Zi h0 _ _ | exact Zh h0 _ _ | exact Zn h0 _ _) (by decide)⟩ (fun _ => rfl) ?_
 simp only [go_sem,Z6,Zz,Zy,Zx,Zp,Zj,jc_x,jc_y,jc_z,Zw,Zr,Zd,Ze,Zg,Zb,Nat.add_assoc]
 refine Za ⟨rfl,fun G => cS ((hf' _).app) (by first | assumption | exact Zi h0 _ _ | exact Zh h0 _ _ | exact Zn h0 _ _) (by first | assumption | exact Zi h0 _ _ | exact Zh h0 _ _ | exact Zn h0 _ _)⟩ (fun _ => rfl) ?_
 simp only [go_sem,Z6,Zz,Zy,Zx,Zp,Zj,jc_x,jc_y,jc_z,Zw,Zr,Zd,Ze,Zg,Zb,Nat.add_assoc]
 refine Za ⟨rfl,fun G => cA ((hf' _).app) (by first | assumption | exact Zi h0 _ _ | exact Zh h0 _ _ | exact Zn h0 _ _) (by first | assumption | exact Zi h0 _ _ | exact Zh h0 _ _ | exact Zn h0 _ _)⟩ (fun _ => rfl) ?_
 simp only [go_sem,Z6,Zz,Zy,Zx,Zp,Zj,jc_x,jc_y,jc_z,Zw,Zr,Zd,Ze,Zg,Zb,Nat.add_assoc]
 refine Za ⟨rfl,fun G => t_sq ((hf' _).app) (by first | assumption | exact Zi h0 _ _ | exact Zh h0 _ _ | exact Zn h0 _ _)⟩ (fun _ => rfl) ?_
 simp only [go_sem,Z6,Zz,Zy,Zx,Zp,Zj,jc_x,jc_y,jc_z,Zw,Zr,Zd,Ze,Zg,Zb,Nat.add_assoc]
 refine Za ⟨rfl,fun G => cS ((hf' _).app) (by first | assumption | exact Zi h0 _ _ | exact Zh h0 _ _ | exact Zn h0 _ _) (by first | assumption | exact Zi h0 _ _ | exact Zh h0 _ _ | exact Zn h0 _ _)⟩ (fun _ => rfl) ?_
 simp only [go_sem,Z6,Zz,Zy,Zx,Zp,Zj,jc_x,jc_y,jc_z,Zw,Zr,Zd,Ze,Zg,Zb,Nat.add_assoc]
 refine Za ⟨rfl,fun G => cS ((hf' _).app) (by first | assumption | exact Zi h0 _ _ | exact Zh h0 _ _ | exact Zn h0 _ _) (by first | assumption | exact Zi h0 _ _ | exact Zh h0 _ _ | exact Zn h0 _ _)⟩ (fun _ => rfl) ?_
 simp only [go_sem,Z6,Zz,Zy,Zx,Zp,Zj,jc_x,jc_y,jc_z,Zw,Zr,Zd,Ze,Zg,Zb,Nat.add_assoc]
 refine Za ⟨rfl,fun G => L7 (n:=4) ((hf' _).app) (by first | assumption | exact Zi h0 _ _ | exact Zh h0 _ _ | exact Zn h0 _ _) (by decide)⟩ (fun _ => rfl) ?_
 simp only [go_sem,Z6,Zz,Zy,Zx,Zp,Zj,jc_x,jc_y,jc_z,Zw,Zr,Zd,Ze,Zg,Zb,Nat.add_assoc]
 refine Za ⟨rfl,fun G => cS ((hf' _).app) (by first | assumption | exact Zi h0 _ _ | exact Zh h0 _ _ | exact Zn h0 _ _) (by first | assumption | exact Zi h0 _ _ | exact Zh h0 _ _ | exact Zn h0 _ _)⟩ (fun _ => rfl) ?_
 simp only [go_sem,Z6,Zz,Zy,Zx,Zp,Zj,jc_x,jc_y,jc_z,Zw,Zr,Zd,Ze,Zg,Zb,Nat.add_assoc]
 refine Za ⟨rfl,fun G => cM ((hf' _).app) (by first | assumption | exact Zi h0 _ _ | exact Zh h0 _ _ | exact Zn h0 _ _) (by first | assumption | exact Zi h0 _ _ | exact Zh h0 _ _ | exact Zn h0 _ _)⟩ (fun _ => rfl) ?_
 simp only [go_sem,Z6,Zz,Zy,Zx,Zp,Zj,jc_x,jc_y,jc_z,Zw,Zr,Zd,Ze,Zg,Zb,Nat.add_assoc]
 refine Za ⟨rfl,fun G => t_sq ((hf' _).app) (by first | assumption | exact Zi h0 _ _ | exact Zh h0 _ _ | exact Zn h0 _ _)⟩ (fun _ => rfl) ?_
 simp only [go_sem,Z6,Zz,Zy,Zx,Zp,Zj,jc_x,jc_y,jc_z,Zw,Zr,Zd,Ze,Zg,Zb,Nat.add_assoc]
 refine Za ⟨rfl,fun G => L7 (n:=8) ((hf' _).app) (by first | assumption | exact Zi h0 _ _ | exact Zh h0 _ _ | exact Zn h0 _ _) (by decide)⟩ (fun _ => rfl) ?_
 simp only [go_sem,Z6,Zz,Zy,Zx,Zp,Zj,jc_x,jc_y,jc_z,Zw,Zr,Zd,Ze,Zg,Zb,Nat.add_assoc]
 refine Za ⟨rfl,fun G => cS ((hf' _).app) (by first | assumption | exact Zi h0 _ _ | exact Zh h0 _ _ | exact Zn h0 _ _) (by first | assumption | exact Zi h0 _ _ | exact Zh h0 _ _ | exact Zn h0 _ _)⟩ (fun _ => rfl) ?_
 simp only [go_sem,Z6,Zz,Zy,Zx,Zp,Zj,jc_x,jc_y,jc_z,Zw,Zr,Zd,Ze,Zg,Zb,Nat.add_assoc]
 simp only [go_sem,Zq,fillv,Zck,Zcj,Zci,Jk,Ti,Zw,Zr,Zg,Zb]
 exact Zc (by simp only [low,Pb])
theorem Z04 {H:AH} {t:J3} (hz:t.z<(18446744073709551616:Nat)^4):Called Tryz.prog F.point_three_far [.agg (jc t)] H (Bl (t.z == 0)) H:=by
 refine Kx ?_
 simp only [Sb,go_sem,Ti,Zrg,Zw,jc_z,fillv,C5,Ff hz]
 refine Zc ?_
 simp only [low,AV.lit.injEq,Value.bool.injEq,Bool.bne_false]
 rfl
theorem Zxq (m x y z x' y' z':Nat):jsum m ⟨x,y,z⟩ ⟨x',y',z'⟩=bif z == 0 then ⟨x',y',z'⟩ else bif z' == 0 then ⟨x,y,z⟩ else
  bif fsub m (fmul m x' (fmul m z z)) (fmul m x (fmul m z' z')) == 0 then (bif fsub m (fmul m y' (fmul m (fmul m z z) z)) (fmul m y (fmul m (fmul m z' z') z')) == 0 then jtw m ⟨x,y,z⟩ else ⟨0,0,0⟩) else
  let u:=fmul m x (fmul m z' z')
  let h:=fsub m (fmul m x' (fmul m z z)) u
  let v:=fmul m y (fmul m (fmul m z' z') z')
  let r:=fsub m (fmul m y' (fmul m (fmul m z z) z)) v
  let hh:=fmul m h h
  let hhh:=fmul m hh h
  let uh:=fmul m u hh
  let x3:=fsub m (fsub m (fmul m r r) hhh) (fmul m uh 2)
  ⟨x3,fsub m (fmul m r (fsub m uh x3)) (fmul m v hhh),fmul m h (fmul m z z')⟩:=by simp only [jsum,CheckFast.force_eq]
theorem Z0o {H:AH} {p:Nat} {s t:J3} (hf:FF H p (115792089210356248762697446949407573530086143415290314195533631308867097853951:Nat)) (hs:jok (115792089210356248762697446949407573530086143415290314195533631308867097853951:Nat) s) (ht:jok (115792089210356248762697446949407573530086143415290314195533631308867097853951:Nat) t):Called Tryz.prog F.point_curve_sum [.agg (crv p),.agg (jc s),.agg (jc t)] H (.agg (jc (jsum (115792089210356248762697446949407573530086143415290314195533631308867097853951:Nat) s t))) H:=by
 refine Ky ?_
 have hf':∀ G,FF (H++G) p (115792089210356248762697446949407573530086143415290314195533631308867097853951:Nat):=fun G => hf.app
 have h0:0<(115792089210356248762697446949407573530086143415290314195533631308867097853951:Nat):=by decide
 have hs':=hs
 obtain ⟨x,y,z⟩:=s
 obtain ⟨x',y',z'⟩:=t
 obtain ⟨hx,hy,hz⟩:=hs
 obtain ⟨hx',hy',hz'⟩:=ht
 simp only at hx hy hz hx' hy' hz'
 rw [Zxq]
 simp only [Sc,go_sem,Z6,Zz,Zy,Zx,Zp,Zj,jc_x,jc_y,jc_z,Zw,Zr,Zd,Ze,Zg,Zb,Nat.add_assoc,Vs,E6,Ti,Zrg]
 refine Za (Z04 (ltP hz)) (fun _ => rfl) ?_
 simp only [go_sem,Z6,Zz,Zy,Zx,Zp,Zj,jc_x,jc_y,jc_z,Zw,Zr,Zd,Ze,Zg,Zb,Nat.add_assoc]
 refine ⟨fun h1 => ?_,fun h1 => ?_⟩
 ·rw [h1]
  simp only [go_sem,Z6,Zz,Zy,Zx,Zp,Zj,jc_x,jc_y,jc_z,Zw,Zr,Zd,Ze,Zg,Zb,Nat.add_assoc,Ti,Jk,cond_true]
  exact Zc (by simp only [low,Pb])
 rw [h1]
 refine Za (Z04 (ltP hz')) (fun _ => rfl) ?_
 simp only [go_sem,Z6,Zz,Zy,Zx,Zp,Zj,jc_x,jc_y,jc_z,Zw,Zr,Zd,Ze,Zg,Zb,Nat.add_assoc]
 refine ⟨fun h2 => ?_,fun h2 => ?_⟩
 ·rw [h2]
  simp only [go_sem,Z6,Zz,Zy,Zx,Zp,Zj,jc_x,jc_y,jc_z,Zw,Zr,Zd,Ze,Zg,Zb,Nat.add_assoc,Ti,Jk,cond_true,cond_false]
  exact Zc (by simp only [low,Pb])
 rw [h2]
 simp only [go_sem,Z6,Zz,Zy,Zx,Zp,Zj,jc_x,jc_y,jc_z,Zw,Zr,Zd,Ze,Zg,Zb,Nat.add_assoc,cond_false]
 refine Za ⟨rfl,fun G => t_sq ((hf' _).app) (by first | assumption | exact Zi h0 _ _ | exact Zh h0 _ _ | exact Zn h0 _ _)⟩ (fun _ => rfl) ?_
 simp only [go_sem,Z6,Zz,Zy,Zx,Zp,Zj,jc_x,jc_y,jc_z,Zw,Zr,Zd,Ze,Zg,Zb,Nat.add_assoc]
 refine Za ⟨rfl,fun G => t_sq ((hf' _).app) (by first | assumption | exact Zi h0 _ _ | exact Zh h0 _ _ | exact Zn h0 _ _)⟩ (fun _ => rfl) ?_
 simp only [go_sem,Z6,Zz,Zy,Zx,Zp,Zj,jc_x,jc_y,jc_z,Zw,Zr,Zd,Ze,Zg,Zb,Nat.add_assoc]
 refine Za ⟨rfl,fun G => cM ((hf' _).app) (by first | assumption | exact Zi h0 _ _ | exact Zh h0 _ _ | exact Zn h0 _ _) (by first | assumption | exact Zi h0 _ _ | exact Zh h0 _ _ | exact Zn h0 _ _)⟩ (fun _ => rfl) ?_
 simp only [go_sem,Z6,Zz,Zy,Zx,Zp,Zj,jc_x,jc_y,jc_z,Zw,Zr,Zd,Ze,Zg,Zb,Nat.add_assoc]
 refine Za ⟨rfl,fun G => cM ((hf' _).app) (by first | assumption | exact Zi h0 _ _ | exact Zh h0 _ _ | exact Zn h0 _ _) (by first | assumption | exact Zi h0 _ _ | exact Zh h0 _ _ | exact Zn h0 _ _)⟩ (fun _ => rfl) ?_
 simp only [go_sem,Z6,Zz,Zy,Zx,Zp,Zj,jc_x,jc_y,jc_z,Zw,Zr,Zd,Ze,Zg,Zb,Nat.add_assoc]
 refine Za ⟨rfl,fun G => cM ((hf' _).app) (by first | assumption | exact Zi h0 _ _ | exact Zh h0 _ _ | exact Zn h0 _ _) (by first | assumption | exact Zi h0 _ _ | exact Zh h0 _ _ | exact Zn h0 _ _)⟩ (fun _ => rfl) ?_
 simp only [go_sem,Z6,Zz,Zy,Zx,Zp,Zj,jc_x,jc_y,jc_z,Zw,Zr,Zd,Ze,Zg,Zb,Nat.add_assoc]
 refine Za ⟨rfl,fun G => cM ((hf' _).app) (by first | assumption | exact Zi h0 _ _ | exact Zh h0 _ _ | exact Zn h0 _ _) (by first | assumption | exact Zi h0 _ _ | exact Zh h0 _ _ | exact Zn h0 _ _)⟩ (fun _ => rfl) ?_
 simp only [go_sem,Z6,Zz,Zy,Zx,Zp,Zj,jc_x,jc_y,jc_z,Zw,Zr,Zd,Ze,Zg,Zb,Nat.add_assoc]
 refine Za ⟨rfl,fun G => cM ((hf' _).app) (by first | assumption | exact Zi h0 _ _ | exact Zh h0 _ _ | exact Zn h0 _ _) (by first | assumption | exact Zi h0 _ _ | exact Zh h0 _ _ | exact Zn h0 _ _)⟩ (fun _ => rfl) ?_
 simp only [go_sem,Z6,Zz,Zy,Zx,Zp,Zj,jc_x,jc_y,jc_z,Zw,Zr,Zd,Ze,Zg,Zb,Nat.add_assoc]
 refine Za ⟨rfl,fun G => cM ((hf' _).app) (by first | assumption | exact Zi h0 _ _ | exact Zh h0 _ _ | exact Zn h0 _ _) (by first | assumption | exact Zi h0 _ _ | exact Zh h0 _ _ | exact Zn h0 _ _)⟩ (fun _ => rfl) ?_
 simp only [go_sem,Z6,Zz,Zy,Zx,Zp,Zj,jc_x,jc_y,jc_z,Zw,Zr,Zd,Ze,Zg,Zb,Nat.add_assoc]
 refine Za (cS (hf' _) (by first | assumption | exact Zi h0 _ _ | exact Zh h0 _ _ | exact Zn h0 _ _) (by first | assumption | exact Zi h0 _ _ | exact Zh h0 _ _ | exact Zn h0 _ _)) (fun _ => rfl) ?_
 simp only [go_sem,Z6,Zz,Zy,Zx,Zp,Zj,jc_x,jc_y,jc_z,Zw,Zr,Zd,Ze,Zg,Zb,Nat.add_assoc]
 refine Za (cS (hf' _) (by first | assumption | exact Zi h0 _ _ | exact Zh h0 _ _ | exact Zn h0 _ _) (by first | assumption | exact Zi h0 _ _ | exact Zh h0 _ _ | exact Zn h0 _ _)) (fun _ => rfl) ?_
 simp only [go_sem,Z6,Zz,Zy,Zx,Zp,Zj,jc_x,jc_y,jc_z,Zw,Zr,Zd,Ze,Zg,Zb,Nat.add_assoc]
 have lh:fsub (115792089210356248762697446949407573530086143415290314195533631308867097853951:Nat) (fmul (115792089210356248762697446949407573530086143415290314195533631308867097853951:Nat) x' (fmul (115792089210356248762697446949407573530086143415290314195533631308867097853951:Nat) z z)) (fmul (115792089210356248762697446949407573530086143415290314195533631308867097853951:Nat) x (fmul (115792089210356248762697446949407573530086143415290314195533631308867097853951:Nat) z' z'))<(115792089210356248762697446949407573530086143415290314195533631308867097853951:Nat):=Zh h0 _ _
 have lr:fsub (115792089210356248762697446949407573530086143415290314195533631308867097853951:Nat) (fmul (115792089210356248762697446949407573530086143415290314195533631308867097853951:Nat) y' (fmul (115792089210356248762697446949407573530086143415290314195533631308867097853951:Nat) (fmul (115792089210356248762697446949407573530086143415290314195533631308867097853951:Nat) z z) z)) (fmul (115792089210356248762697446949407573530086143415290314195533631308867097853951:Nat) y (fmul (115792089210356248762697446949407573530086143415290314195533631308867097853951:Nat) (fmul (115792089210356248762697446949407573530086143415290314195533631308867097853951:Nat) z' z') z'))<(115792089210356248762697446949407573530086143415290314195533631308867097853951:Nat):=Zh h0 _ _
 have lu:fmul (115792089210356248762697446949407573530086143415290314195533631308867097853951:Nat) x (fmul (115792089210356248762697446949407573530086143415290314195533631308867097853951:Nat) z' z')<(115792089210356248762697446949407573530086143415290314195533631308867097853951:Nat):=Zi h0 _ _
 have lv:fmul (115792089210356248762697446949407573530086143415290314195533631308867097853951:Nat) y (fmul (115792089210356248762697446949407573530086143415290314195533631308867097853951:Nat) (fmul (115792089210356248762697446949407573530086143415290314195533631308867097853951:Nat) z' z') z')<(115792089210356248762697446949407573530086143415290314195533631308867097853951:Nat):=Zi h0 _ _
 generalize fsub (115792089210356248762697446949407573530086143415290314195533631308867097853951:Nat) (fmul (115792089210356248762697446949407573530086143415290314195533631308867097853951:Nat) x' (fmul (115792089210356248762697446949407573530086143415290314195533631308867097853951:Nat) z z)) (fmul (115792089210356248762697446949407573530086143415290314195533631308867097853951:Nat) x (fmul (115792089210356248762697446949407573530086143415290314195533631308867097853951:Nat) z' z'))=h at *
 generalize fsub (115792089210356248762697446949407573530086143415290314195533631308867097853951:Nat) (fmul (115792089210356248762697446949407573530086143415290314195533631308867097853951:Nat) y' (fmul (115792089210356248762697446949407573530086143415290314195533631308867097853951:Nat) (fmul (115792089210356248762697446949407573530086143415290314195533631308867097853951:Nat) z z) z)) (fmul (115792089210356248762697446949407573530086143415290314195533631308867097853951:Nat) y (fmul (115792089210356248762697446949407573530086143415290314195533631308867097853951:Nat) (fmul (115792089210356248762697446949407573530086143415290314195533631308867097853951:Nat) z' z') z'))=r at *
 generalize fmul (115792089210356248762697446949407573530086143415290314195533631308867097853951:Nat) x (fmul (115792089210356248762697446949407573530086143415290314195533631308867097853951:Nat) z' z')=u at *
 generalize fmul (115792089210356248762697446949407573530086143415290314195533631308867097853951:Nat) y (fmul (115792089210356248762697446949407573530086143415290314195533631308867097853951:Nat) (fmul (115792089210356248762697446949407573530086143415290314195533631308867097853951:Nat) z' z') z')=v at *
 simp only [go_sem,Z6,Zz,Zy,Zx,Zp,Zj,jc_x,jc_y,jc_z,Zw,Zr,Zd,Ze,Zg,Zb,Nat.add_assoc,V3,C5,Ff (ltP lh),Ff (ltP lr),fillv,Ziz]
 refine ⟨fun h3 => ?_,fun h3 => ?_⟩
 ·have h3:h=0∧r=0:=by simpa using h3
  obtain ⟨rfl,rfl⟩:=h3
  refine Za (t_tw (hf' _) hs') (fun _ => rfl) ?_
  simp only [go_sem,Z6,Zz,Zy,Zx,Zp,Zj,jc_x,jc_y,jc_z,Zw,Zr,Zd,Ze,Zg,Zb,Nat.add_assoc,Jk,Ti]
  exact Zc (by simp only [low,Pb]; rfl)
 refine ⟨fun h4 => ?_,fun h4 => ?_⟩
 ·subst h4
  have hr:(r == 0)=false:=by
   have:r≠0:=by simpa using h3
   exact beq_eq_false_iff_ne.2 this
  rw [hr]
  have ez:ZJ=jc ⟨0,0,0⟩:=rfl
  simp only [go_sem,Z6,Zz,Zy,Zx,Zp,Zj,jc_x,jc_y,jc_z,Zw,Zr,Zd,Ze,Zg,Zb,Nat.add_assoc,Jk,Ti,ez,Cj]
  exact Zc (by simp only [low,Pb]; rfl)
 have hh:(h == 0)=false:=beq_eq_false_iff_ne.2 (by simpa using h4)
 rw [hh]
 simp only [cond_false]
 refine Za (t_sq (hf' _) (by first | assumption | exact Zi h0 _ _ | exact Zh h0 _ _ | exact Zn h0 _ _)) (fun _ => rfl) ?_
 simp only [go_sem,Z6,Zz,Zy,Zx,Zp,Zj,jc_x,jc_y,jc_z,Zw,Zr,Zd,Ze,Zg,Zb,Nat.add_assoc]
 refine Za ⟨rfl,fun G => cM ((hf' _).app) (by first | assumption | exact Zi h0 _ _ | exact Zh h0 _ _ | exact Zn h0 _ _) (by first | assumption | exact Zi h0 _ _ | exact Zh h0 _ _ | exact Zn h0 _ _)⟩ (fun _ => rfl) ?_
 simp only [go_sem,Z6,Zz,Zy,Zx,Zp,Zj,jc_x,jc_y,jc_z,Zw,Zr,Zd,Ze,Zg,Zb,Nat.add_assoc]
 refine Za ⟨rfl,fun G => cM ((hf' _).app) (by first | assumption | exact Zi h0 _ _ | exact Zh h0 _ _ | exact Zn h0 _ _) (by first | assumption | exact Zi h0 _ _ | exact Zh h0 _ _ | exact Zn h0 _ _)⟩ (fun _ => rfl) ?_
 simp only [go_sem,Z6,Zz,Zy,Zx,Zp,Zj,jc_x,jc_y,jc_z,Zw,Zr,Zd,Ze,Zg,Zb,Nat.add_assoc]
 refine Za ⟨rfl,fun G => t_sq ((hf' _).app) (by first | assumption | exact Zi h0 _ _ | exact Zh h0 _ _ | exact Zn h0 _ _)⟩ (fun _ => rfl) ?_
 simp only [go_sem,Z6,Zz,Zy,Zx,Zp,Zj,jc_x,jc_y,jc_z,Zw,Zr,Zd,Ze,Zg,Zb,Nat.add_assoc]
 refine Za ⟨rfl,fun G => cS ((hf' _).app) (by first | assumption | exact Zi h0 _ _ | exact Zh h0 _ _ | exact Zn h0 _ _) (by first | assumption | exact Zi h0 _ _ | exact Zh h0 _ _ | exact Zn h0 _ _)⟩ (fun _ => rfl) ?_
 simp only [go_sem,Z6,Zz,Zy,Zx,Zp,Zj,jc_x,jc_y,jc_z,Zw,Zr,Zd,Ze,Zg,Zb,Nat.add_assoc]
 refine Za ⟨rfl,fun G => L7 (n:=2) ((hf' _).app) (by first | assumption | exact Zi h0 _ _ | exact Zh h0 _ _ | exact Zn h0 _ _) (by decide)⟩ (fun _ => rfl) ?_
 simp only [go_sem,Z6,Zz,Zy,Zx,Zp,Zj,jc_x,jc_y,jc_z,Zw,Zr,Zd,Ze,Zg,Zb,Nat.add_assoc]
 refine Za ⟨rfl,fun G => cS ((hf' _).app) (by first | assumption | exact Zi h0 _ _ | exact Zh h0 _ _ | exact Zn h0 _ _) (by first | assumption | exact Zi h0 _ _ | exact Zh h0 _ _ | exact Zn h0 _ _)⟩ (fun _ => rfl) ?_
 simp only [go_sem,Z6,Zz,Zy,Zx,Zp,Zj,jc_x,jc_y,jc_z,Zw,Zr,Zd,Ze,Zg,Zb,Nat.add_assoc]
 refine Za ⟨rfl,fun G => cS ((hf' _).app) (by first | assumption | exact Zi h0 _ _ | exact Zh h0 _ _ | exact Zn h0 _ _) (by first | assumption | exact Zi h0 _ _ | exact Zh h0 _ _ | exact Zn h0 _ _)⟩ (fun _ => rfl) ?_
 simp only [go_sem,Z6,Zz,Zy,Zx,Zp,Zj,jc_x,jc_y,jc_z,Zw,Zr,Zd,Ze,Zg,Zb,Nat.add_assoc]
 refine Za ⟨rfl,fun G => cM ((hf' _).app) (by first | assumption | exact Zi h0 _ _ | exact Zh h0 _ _ | exact Zn h0 _ _) (by first | assumption | exact Zi h0 _ _ | exact Zh h0 _ _ | exact Zn h0 _ _)⟩ (fun _ => rfl) ?_
 simp only [go_sem,Z6,Zz,Zy,Zx,Zp,Zj,jc_x,jc_y,jc_z,Zw,Zr,Zd,Ze,Zg,Zb,Nat.add_assoc]
 refine Za ⟨rfl,fun G => cM ((hf' _).app) (by first | assumption | exact Zi h0 _ _ | exact Zh h0 _ _ | exact Zn h0 _ _) (by first | assumption | exact Zi h0 _ _ | exact Zh h0 _ _ | exact Zn h0 _ _)⟩ (fun _ => rfl) ?_
 simp only [go_sem,Z6,Zz,Zy,Zx,Zp,Zj,jc_x,jc_y,jc_z,Zw,Zr,Zd,Ze,Zg,Zb,Nat.add_assoc]
 refine Za ⟨rfl,fun G => cS ((hf' _).app) (by first | assumption | exact Zi h0 _ _ | exact Zh h0 _ _ | exact Zn h0 _ _) (by first | assumption | exact Zi h0 _ _ | exact Zh h0 _ _ | exact Zn h0 _ _)⟩ (fun _ => rfl) ?_
 simp only [go_sem,Z6,Zz,Zy,Zx,Zp,Zj,jc_x,jc_y,jc_z,Zw,Zr,Zd,Ze,Zg,Zb,Nat.add_assoc]
 refine Za (cM (hf' _) (by first | assumption | exact Zi h0 _ _ | exact Zh h0 _ _ | exact Zn h0 _ _) (by first | assumption | exact Zi h0 _ _ | exact Zh h0 _ _ | exact Zn h0 _ _)) (fun _ => rfl) ?_
 simp only [go_sem,Z6,Zz,Zy,Zx,Zp,Zj,jc_x,jc_y,jc_z,Zw,Zr,Zd,Ze,Zg,Zb,Nat.add_assoc]
 refine Za (cM (hf' _) (by first | assumption | exact Zi h0 _ _ | exact Zh h0 _ _ | exact Zn h0 _ _) (by first | assumption | exact Zi h0 _ _ | exact Zh h0 _ _ | exact Zn h0 _ _)) (fun _ => rfl) ?_
 simp only [go_sem,Z6,Zz,Zy,Zx,Zp,Zj,jc_x,jc_y,jc_z,Zw,Zr,Zd,Ze,Zg,Zb,Nat.add_assoc]
 simp only [go_sem,Zq,fillv,Zck,Zcj,Zci,Jk,Ti,Zw,Zr,Zg,Zb]
 exact Zc (by simp only [low,Pb])
theorem Zju {H:AH} {x y:Nat} {f:Bool}:Called Tryz.prog F.point_lift [.agg (pcell x y f)] H (.agg (jc (lift (bif f then .far else .pt x y)))) H:=by
 refine A6 ?_
 simp only [M7,go_sem,Xh,S6,Z5,pc_f,Zq,fillv]
 have ez:ZJ=jc ⟨0,0,0⟩:=rfl
 have e1:splice (jc ⟨x,y,0⟩) 8 [.lit (.int .u64 1),Z0,Z0,Z0]=jc ⟨x,y,1⟩:=Zci x y 0 1
 refine ⟨fun h => ?_,fun h => ?_⟩
 ·subst h
  simp only [go_sem,ez,Cj,Ti,Zw,Zr]
  exact Zc (by simp only [low,Pb]; rfl)
 ·subst h
  simp only [go_sem,Z5,pc_x,pc_y,Zb,Zg,Zck,Zcj]
  simp only [Z47,Z2c,List.append_nil,Zxr,Jk,Ti,Zw,Zr,go_sem]
  exact ⟨by simp [Zb],Zc (by simp only [low,Pb]; rfl)⟩
end Go.Proofs.YtcgjlpdkobmpnaaGreat.Eng
namespace Go.Proofs.YtcgjlpdkobmpnaaGreat.Eng
open Go Go.Proofs
set_option linter.unusedVariables false
set_option linter.unusedSimpArgs false
set_option maxRecDepth 10000
def ptc (a:Aff):List AV:=pcell a.x a.y a.isFar
theorem Zwp:ptc .far=pcell 0 0 true:=rfl
theorem Z1n (x y:Nat):ptc (.pt x y)=pcell x y false:=rfl
theorem Zcc (ren:Nat→Option Nat) (H:AH) (x y:Nat) (f:Bool):lowL ren H (pcell x y f)=pcell x y f:=by
 simp only [pcell,Wg,Tf]; rfl
theorem nogcd:¬ Nat.gcd 0 (115792089210356248762697446949407573530086143415290314195533631308867097853951:Nat)=1:=by rw [Nat.gcd_zero_left]; decide
theorem Ztu {H:AH} {p:Nat} {t:J3} (hf:FF H p (115792089210356248762697446949407573530086143415290314195533631308867097853951:Nat)) (ht:jok (115792089210356248762697446949407573530086143415290314195533631308867097853951:Nat) t):Called Tryz.prog F.point_curve_flat [.agg (crv p),.agg (jc t)] H (.agg (ptc (jflat (115792089210356248762697446949407573530086143415290314195533631308867097853951:Nat) t))) H:=by
 refine Ln ?_
 have hf':∀ G,FF (H++G) p (115792089210356248762697446949407573530086143415290314195533631308867097853951:Nat):=fun G => hf.app
 have h0:0<(115792089210356248762697446949407573530086143415290314195533631308867097853951:Nat):=by decide
 obtain ⟨x,y,z⟩:=t
 obtain ⟨hx,hy,hz⟩:=ht
 simp only at hx hy hz
 simp only [Tk,go_sem,Z6,Zz,Zy,Zx,Zp,Zj,jc_x,jc_y,jc_z,Zw,Zr,Zd,Ze,Zg,Zb,Nat.add_assoc,Vs,E6,Ti,Zrg]
 refine Za (Zvx (hf' _).fd mo_P.lt mo_P.gt mo_P.odd (ltP hz)) (fun _ => rfl) ?_
 rw [Nat.mod_eq_of_lt hz]
 by_cases hz0:z=0
 ·subst hz0
  rw [if_neg nogcd]
  have eF:[Z0,Z0,Z0,Z0,Z0,Z0,Z0,Z0,Bl true]=pcell 0 0 true:=rfl
  have ej:jflat (115792089210356248762697446949407573530086143415290314195533631308867097853951:Nat) ⟨x,y,0⟩=.far:=by rw [jflat,if_pos rfl]
  rw [ej,Zwp]
  simp only [go_sem,Z6,Zz,Zy,Zx,Zp,Zj,jc_x,jc_y,jc_z,Zw,Zr,Zd,Ze,Zg,Zb,Nat.add_assoc,Zq,fillv,eF,Mm,Xh,Z5,Ye]
  exact Zc (by simp only [low,Zcc])
 ·rw [if_pos (He Fk (by rw [Nat.mod_eq_of_lt hz]; exact hz0))]
  have hi:=(Ra (D4 Fk (Nat.pos_of_ne_zero hz0) hz)).1
  have ej:jflat (115792089210356248762697446949407573530086143415290314195533631308867097853951:Nat) ⟨x,y,z⟩=.pt (fmul (115792089210356248762697446949407573530086143415290314195533631308867097853951:Nat) x (fmul (115792089210356248762697446949407573530086143415290314195533631308867097853951:Nat) (minv (115792089210356248762697446949407573530086143415290314195533631308867097853951:Nat) z) (minv (115792089210356248762697446949407573530086143415290314195533631308867097853951:Nat) z))) (fmul (115792089210356248762697446949407573530086143415290314195533631308867097853951:Nat) y (fmul (115792089210356248762697446949407573530086143415290314195533631308867097853951:Nat) (fmul (115792089210356248762697446949407573530086143415290314195533631308867097853951:Nat) (minv (115792089210356248762697446949407573530086143415290314195533631308867097853951:Nat) z) (minv (115792089210356248762697446949407573530086143415290314195533631308867097853951:Nat) z)) (minv (115792089210356248762697446949407573530086143415290314195533631308867097853951:Nat) z))):=by rw [jflat,if_neg hz0]
  rw [ej,Z1n]
  generalize minv (115792089210356248762697446949407573530086143415290314195533631308867097853951:Nat) z=i at *
  simp only [go_sem,Z6,Zz,Zy,Zx,Zp,Zj,jc_x,jc_y,jc_z,Zw,Zr,Zd,Ze,Zg,Zb,Nat.add_assoc,Zq,fillv]
  refine Za (t_sq (hf' _) (by first | assumption | exact Zi h0 _ _ | exact Zh h0 _ _ | exact Zn h0 _ _)) (fun _ => rfl) ?_
  simp only [go_sem,Z6,Zz,Zy,Zx,Zp,Zj,jc_x,jc_y,jc_z,Zw,Zr,Zd,Ze,Zg,Zb,Nat.add_assoc]
  refine Za (cM (hf' _) (by first | assumption | exact Zi h0 _ _ | exact Zh h0 _ _ | exact Zn h0 _ _) (by first | assumption | exact Zi h0 _ _ | exact Zh h0 _ _ | exact Zn h0 _ _)) (fun _ => rfl) ?_
  simp only [go_sem,Z6,Zz,Zy,Zx,Zp,Zj,jc_x,jc_y,jc_z,Zw,Zr,Zd,Ze,Zg,Zb,Nat.add_assoc]
  refine Za (cM (hf' _) (by first | assumption | exact Zi h0 _ _ | exact Zh h0 _ _ | exact Zn h0 _ _) (by first | assumption | exact Zi h0 _ _ | exact Zh h0 _ _ | exact Zn h0 _ _)) (fun _ => rfl) ?_
  simp only [go_sem,Z6,Zz,Zy,Zx,Zp,Zj,jc_x,jc_y,jc_z,Zw,Zr,Zd,Ze,Zg,Zb,Nat.add_assoc]
  refine Za (cM (hf' _) (by first | assumption | exact Zi h0 _ _ | exact Zh h0 _ _ | exact Zn h0 _ _) (by first | assumption | exact Zi h0 _ _ | exact Zh h0 _ _ | exact Zn h0 _ _)) (fun _ => rfl) ?_
  simp only [go_sem,Z6,Zz,Zy,Zx,Zp,Zj,jc_x,jc_y,jc_z,Zw,Zr,Zd,Ze,Zg,Zb,Nat.add_assoc]
  simp only [Zq,fillv,Zww,Zwv,Mm,Xh,Z5,Ye,go_sem,Zb,Zg]
  exact Zc (by simp only [low,Zcc])
theorem Zrf (m:Nat) (t:J3) (n k:Nat):jmk m t (n+1) k=if k%2=1 then jsum m (jtw m (jmk m t n (k / 2))) t else jtw m (jmk m t n (k / 2)):=by
 have h2:=Nat.mod_lt k (show 0<2 by decide)
 rw [jmk]
 split
 ·rename_i e; rw [if_neg (by omega)]
 ·rename_i e; rw [if_pos (by omega)]
def toA (x y:Nat) (f:Bool):Aff:=bif f then .far else .pt x y
theorem F6 {x y:Nat} {f:Bool} (h:Ss x y f=true):onP (toA x y f)∧ptc (toA x y f)=pcell x y f:=by
 cases f with
 | true =>
  simp only [Ss,cond_true,Bool.and_eq_true,beq_iff_eq] at h
  obtain ⟨rfl,rfl⟩:=h
  exact ⟨trivial,rfl⟩
 | false =>
  simp only [Ss,cond_false,Bool.and_eq_true,Nat.blt_eq] at h
  exact ⟨⟨h.1.1,h.1.2,h.2⟩,rfl⟩
theorem Zi1 {k:Nat} (h:k<(18446744073709551616:Nat)^4):blen k≤256:=by
 unfold blen
 split
 ·omega
 ·rename_i hne
  have e:(18446744073709551616:Nat)^4=2^256:=by decide +kernel
  have:=(Nat.log2_lt hne).2 (e ▸ h)
  omega
theorem Ca {k:Nat} {a:Aff} (ha:onP a):jflat (115792089210356248762697446949407573530086143415290314195533631308867097853951:Nat) (jmk (115792089210356248762697446949407573530086143415290314195533631308867097853951:Nat) (lift a) (blen k) k)=mulA k a∧onP (mulA k a):=by
 haveI:NeZero (115792089210356248762697446949407573530086143415290314195533631308867097853951:Nat):=⟨by decide⟩
 obtain ⟨h1,h2⟩:=Zku (p:=(115792089210356248762697446949407573530086143415290314195533631308867097853951:Nat)) Fk (by decide) (b:=(41058363725152142129326129780047268409114441015993725554835256314039467401291:Nat)) (by decide) (Tg (by decide) ha) ha (T8 a) (blen k) k
 exact ⟨Hz (p:=(115792089210356248762697446949407573530086143415290314195533631308867097853951:Nat)) Fk (b:=(41058363725152142129326129780047268409114441015993725554835256314039467401291:Nat)) (Ai (Tg (p:=(115792089210356248762697446949407573530086143415290314195533631308867097853951:Nat)) (b:=(41058363725152142129326129780047268409114441015993725554835256314039467401291:Nat)) (by decide) ha) _ _) h2 h1,h2⟩
end Go.Proofs.YtcgjlpdkobmpnaaGreat.Eng
namespace Go.Proofs.YtcgjlpdkobmpnaaGreat.Eng
open Go Go.Proofs
set_option linter.unusedVariables false
set_option linter.unusedSimpArgs false
set_option maxRecDepth 10000
theorem Zex {H G:AH} {a:Aff}:low (renk H.length []) (H++G) (.tup [.agg (ptc a),nilE])=.tup [.agg (ptc a),nilE]:=by
 simp only [low,lowL,ptc,Zcc]
theorem Zd3 {H:AH} {k x y:Nat} {f:Bool} (hk:k<(18446744073709551616:Nat)^4) (hx:x<(18446744073709551616:Nat)^4) (hy:y<(18446744073709551616:Nat)^4) (hon:Ss x y f=true):Called Tryz.prog F.point_Mul [.agg (num k),.agg (pcell x y f)] H (.tup [.agg (ptc (mulA k (toA x y f))),nilE]) H:=by
 refine Zc0 ?_
 have h0:0<(115792089210356248762697446949407573530086143415290314195533631308867097853951:Nat):=by decide
 obtain ⟨ha,hp⟩:=F6 hon
 obtain ⟨hm,_⟩:=Ca (k:=k) ha
 have hl:jok (115792089210356248762697446949407573530086143415290314195533631308867097853951:Nat) (lift (toA x y f)):=Tg (p:=(115792089210356248762697446949407573530086143415290314195533631308867097853951:Nat)) (b:=(41058363725152142129326129780047268409114441015993725554835256314039467401291:Nat)) (by decide) ha
 have hb:=Zi1 hk
 simp only [Jp,go_sem,Zg,Yf,Xh,S6]
 refine Za t_of (fun h => by cases h) ?_
 simp only [go_sem,Pw,Vs,Zp,Zj,Z5,Ye,Zb]
 have hF:∀ G,FF (H++(⟨num k,0,true⟩::⟨pcell x y f,0,true⟩::⟨ZP,0,true⟩::⟨fcells (115792089210356248762697446949407573530086143415290314195533631308867097853951:Nat),0,true⟩::G)) (H.length+3) (115792089210356248762697446949407573530086143415290314195533631308867097853951:Nat):=fun G => ⟨by simp,by simp only [go_sem]⟩
 refine Za (N7 (hF _) hx hy) (fun _ => rfl) ?_
 rw [hon]
 simp only [go_sem,Pw,Vs,Z5,Ye]
 refine Za Zju (fun _ => rfl) ?_
 rw [show (bif f then Aff.far else Aff.pt x y)=toA x y f from rfl]
 generalize ht:lift (toA x y f)=t at *
 have ez:ZJ=jc ⟨0,0,0⟩:=rfl
 simp only [go_sem,Jk,Ti,Zw,Zd,Zb]
 refine Za (Ztq hk) (fun _ => rfl) ?_
 have w1:IntKind.i64.wrap ((blen k:Int) - 1)=(blen k:Int) - 1:=by rw [w64 _ (by omega) (by omega)]
 simp only [go_sem,w1]
 refine Z4 _ (fun (s:Nat) => ([(2,.ptr H.length 0),(4,.ptr (H.length+2) 0),(6,.ptr (H.length+4) 0),(7,.ptr (H.length+5) 0),(8,.ptr (H.length+6) 0),(9,I ((blen k:Int) - 1 - (s:Int)))],H++[⟨num k,0,true⟩,⟨pcell x y f,0,true⟩,⟨ZP,0,true⟩,⟨fcells (115792089210356248762697446949407573530086143415290314195533631308867097853951:Nat),0,true⟩,⟨crv (H.length+3),0,true⟩,⟨jc (jmk (115792089210356248762697446949407573530086143415290314195533631308867097853951:Nat) t s (k / 2^(blen k - s))),0,true⟩,⟨jc t,0,true⟩])) (fun s => s≤blen k) (fun s => blen k - s) 0 (Nat.zero_le _) ?_ ?_
 ·simp only [jmk,← ez,Int.natCast_zero,Int.sub_zero]
 intro s hs
 simp only [go_sem]
 refine ⟨fun hh => ?_,fun hh => ?_⟩
 ·obtain ⟨i,hi,his⟩:∃ i:Nat,(blen k:Int) - 1 - (s:Int)=i∧i+s+1=blen k:=⟨blen k - 1 - s,by omega,by omega⟩
  have e1:blen k - s=i+1:=by omega
  have w2:IntKind.i64.wrap ((i:Int) - 1)=(blen k:Int) - 1 - ((s+1:Nat):Int):=by rw [w64 _ (by omega) (by omega)]; omega
  have e2:blen k - (s+1)=i:=by omega
  have e3:k / 2^i / 2=k / 2^(i+1):=by rw [Nat.div_div_eq_div_mul,Nat.pow_succ]
  have js:=Zrf (115792089210356248762697446949407573530086143415290314195533631308867097853951:Nat) t s (k / 2^i)
  rw [e3] at js
  rw [e1]
  have jo:=Ai (p:=(115792089210356248762697446949407573530086143415290314195533631308867097853951:Nat)) hl s (k / 2^(i+1))
  generalize jmk (115792089210356248762697446949407573530086143415290314195533631308867097853951:Nat) t s (k / 2^(i+1))=T at *
  have jo2:jok (115792089210356248762697446949407573530086143415290314195533631308867097853951:Nat) (jtw (115792089210356248762697446949407573530086143415290314195533631308867097853951:Nat) T):=Ah h0
  simp only [hi,go_sem,Zp,Zj,Zw,Zr]
  refine Za (t_tw (hF _) jo) (fun _ => rfl) ?_
  simp only [go_sem,Cj,Ti,Zw,Zd,Zb]
  refine Za (Z0w hk (by omega)) (fun _ => rfl) ?_
  simp only [go_sem]
  refine ⟨fun hbit => ?_,fun hbit => ?_⟩
  ·rw [if_pos hbit] at js
   simp only [go_sem,Zp,Zj,Zw,Zr]
   refine Za (Z0o (hF _) jo2 hl) (fun _ => rfl) ?_
   simp only [go_sem,Cj,Ti,Zw,Zd,Zb,w2]
   exact ⟨s+1,rfl,by rw [e2,js],by omega,by omega⟩
  ·rw [if_neg hbit] at js
   simp only [go_sem,w2]
   exact ⟨s+1,rfl,by rw [e2,js],by omega,by omega⟩
 ·obtain rfl:s=blen k:=by omega
  rw [Nat.sub_self,Nat.pow_zero,Nat.div_one]
  simp only [go_sem,Zp,Zj,Zw,Zr]
  refine Za (Ztu (hF _) (Ai (p:=(115792089210356248762697446949407573530086143415290314195533631308867097853951:Nat)) hl _ _)) (fun _ => rfl) ?_
  rw [hm]
  simp only [go_sem,ptc,Mm,Xh,Z5,Ye]
  exact Zc Zex
theorem Z0q {H:AH} {x y x' y':Nat} {f f':Bool} (hx:x<(18446744073709551616:Nat)^4) (hy:y<(18446744073709551616:Nat)^4) (hx':x'<(18446744073709551616:Nat)^4) (hy':y'<(18446744073709551616:Nat)^4) (hon:Ss x y f=true) (hon':Ss x' y' f'=true):Called Tryz.prog F.point_Add [.agg (pcell x y f),.agg (pcell x' y' f')] H (.tup [.agg (ptc (aadd (115792089210356248762697446949407573530086143415290314195533631308867097853951:Nat) (toA x y f) (toA x' y' f'))),nilE]) H:=by
 refine Zc1 ?_
 have h0:0<(115792089210356248762697446949407573530086143415290314195533631308867097853951:Nat):=by decide
 obtain ⟨ha,hp⟩:=F6 hon
 obtain ⟨ha',hp'⟩:=F6 hon'
 have hl:jok (115792089210356248762697446949407573530086143415290314195533631308867097853951:Nat) (lift (toA x y f)):=Tg (p:=(115792089210356248762697446949407573530086143415290314195533631308867097853951:Nat)) (b:=(41058363725152142129326129780047268409114441015993725554835256314039467401291:Nat)) (by decide) ha
 have hl':jok (115792089210356248762697446949407573530086143415290314195533631308867097853951:Nat) (lift (toA x' y' f')):=Tg (p:=(115792089210356248762697446949407573530086143415290314195533631308867097853951:Nat)) (b:=(41058363725152142129326129780047268409114441015993725554835256314039467401291:Nat)) (by decide) ha'
 haveI:NeZero (115792089210356248762697446949407573530086143415290314195533631308867097853951:Nat):=⟨by decide⟩
 obtain ⟨r1,r2⟩:=Dw (p:=(115792089210356248762697446949407573530086143415290314195533631308867097853951:Nat)) Fk (by decide) (b:=(41058363725152142129326129780047268409114441015993725554835256314039467401291:Nat)) (by decide) hl hl' ha ha' (T8 _) (T8 _)
 have r3:=Hz (p:=(115792089210356248762697446949407573530086143415290314195533631308867097853951:Nat)) Fk (b:=(41058363725152142129326129780047268409114441015993725554835256314039467401291:Nat)) (Zch hl hl' h0) r2 r1
 have hF:∀ G,FF (H++(⟨pcell x y f,0,true⟩::⟨pcell x' y' f',0,true⟩::⟨ZP,0,true⟩::⟨fcells (115792089210356248762697446949407573530086143415290314195533631308867097853951:Nat),0,true⟩::G)) (H.length+3) (115792089210356248762697446949407573530086143415290314195533631308867097853951:Nat):=fun G => ⟨by simp,by simp only [go_sem]⟩
 simp only [Jq,go_sem,Xh,S6]
 refine Za t_of (fun h => by cases h) ?_
 simp only [go_sem,Pw,Vs,Zp,Zj,Z5,Ye]
 refine Za (N7 (hF _) hx hy) (fun _ => rfl) ?_
 rw [hon]
 simp only [go_sem,Pw,Vs,Zp,Zj,Z5,Ye]
 refine Zs (fun _ => N7 (hF _) hx' hy') ?_
 rw [hon']
 simp only [go_sem,Pw,Vs,Zp,Zj,Z5,Ye]
 refine Za Zju (fun _ => rfl) ?_
 rw [show (bif f then Aff.far else Aff.pt x y)=toA x y f from rfl]
 simp only [go_sem,Pw,Vs,Zp,Zj,Z5,Ye]
 refine Za Zju (fun _ => rfl) ?_
 rw [show (bif f' then Aff.far else Aff.pt x' y')=toA x' y' f' from rfl]
 simp only [go_sem,Pw,Vs,Zp,Zj,Z5,Ye]
 refine Za (Z0o (hF _) hl hl') (fun _ => rfl) ?_
 simp only [go_sem,Pw,Vs,Zp,Zj,Z5,Ye]
 refine Za (Ztu (hF _) (Zch hl hl' h0)) (fun _ => rfl) ?_
 rw [r3]
 simp only [go_sem,ptc,Mm,Xh,Z5,Ye]
 exact Zc Zex
end Go.Proofs.YtcgjlpdkobmpnaaGreat.Eng
namespace Go.Proofs.YtcgjlpdkobmpnaaGreat.Eng
open Go Go.Proofs
set_option linter.unusedVariables false
set_option linter.unusedSimpArgs false
set_option maxRecDepth 10000
theorem B4 {a:Aff} (h:onP a):Ss a.x a.y a.isFar=true∧a.x<(18446744073709551616:Nat)^4∧a.y<(18446744073709551616:Nat)^4∧toA a.x a.y a.isFar=a:=by
 have hPP:(115792089210356248762697446949407573530086143415290314195533631308867097853951:Nat)<(18446744073709551616:Nat)^4:=mo_P.lt
 cases a with
 | far => exact ⟨rfl,by decide,by decide,rfl⟩
 | pt x y =>
  obtain ⟨h1,h2,h3⟩:=h
  have bt:∀ a b:Nat,a<b→Nat.blt a b=true:=fun a b h => by rw [Nat.blt_eq]; exact h
  refine ⟨?_,Nat.lt_trans h1 hPP,Nat.lt_trans h2 hPP,rfl⟩
  simp only [Ss,Aff.x,Aff.y,Aff.isFar,cond_false,bt _ _ h1,bt _ _ h2,Bool.true_and]
  exact h3
theorem Zzd {a c:Aff} (ha:onP a) (hc:onP c):onP (aadd (115792089210356248762697446949407573530086143415290314195533631308867097853951:Nat) a c):=by
 haveI:NeZero (115792089210356248762697446949407573530086143415290314195533631308867097853951:Nat):=⟨by decide⟩
 have hl:jok (115792089210356248762697446949407573530086143415290314195533631308867097853951:Nat) (lift a):=Tg (p:=(115792089210356248762697446949407573530086143415290314195533631308867097853951:Nat)) (b:=(41058363725152142129326129780047268409114441015993725554835256314039467401291:Nat)) (by decide) ha
 have hl':jok (115792089210356248762697446949407573530086143415290314195533631308867097853951:Nat) (lift c):=Tg (p:=(115792089210356248762697446949407573530086143415290314195533631308867097853951:Nat)) (b:=(41058363725152142129326129780047268409114441015993725554835256314039467401291:Nat)) (by decide) hc
 exact (Dw (p:=(115792089210356248762697446949407573530086143415290314195533631308867097853951:Nat)) Fk (by decide) (b:=(41058363725152142129326129780047268409114441015993725554835256314039467401291:Nat)) (by decide) hl hl' ha hc (T8 _) (T8 _)).2
theorem t_N {H:AH}:Called Tryz.prog F.point_N [] H (.agg (num (115792089210356248762697446949407573529996955224135760342422259061068512044369:Nat))) H:=by
 refine Znv ?_
 simp only [Eu,go_sem,Zq,fillv]
 have e:[AV.lit (.int .u64 17562291160714782033),.lit (.int .u64 13611842547513532036),.lit (.int .u64 18446744073709551615),.lit (.int .u64 18446744069414584320)]=num (115792089210356248762697446949407573529996955224135760342422259061068512044369:Nat):=rfl
 simp only [e,Ze,Zd,Zg,Zb,go_sem]
 exact Zc rfl
theorem Zf9 {H:AH} {a:Nat} (ha:a<(18446744073709551616:Nat)^4):Called Tryz.prog F.sign_may [.agg (num a)] H (Bl (Xa a)) H:=by
 have hN:(115792089210356248762697446949407573529996955224135760342422259061068512044369:Nat)<(18446744073709551616:Nat)^4:=mo_N.lt
 have e0:[Z0,Z0,Z0,Z0]=num 0:=rfl
 refine Zh8 ?_
 simp only [H7,go_sem,Zg,Yf,Zd,Zb,Zq,fillv,e0,E9,Da ha (show 0<(18446744073709551616:Nat)^4 by decide)]
 refine Zs (fun _ => t_N) ?_
 simp only [go_sem]
 refine Zs (fun _ => I0 ha hN) ?_
 simp only [go_sem]
 refine Zc ?_
 have e:decide (cmpN a (115792089210356248762697446949407573529996955224135760342422259061068512044369:Nat)<0)=Nat.blt a (115792089210356248762697446949407573529996955224135760342422259061068512044369:Nat):=by
  rw [Bool.eq_iff_iff,decide_eq_true_eq,Nat.blt_eq]
  unfold cmpN; split <;> (try split) <;> omega
 simp only [low,Xa,e]
 rfl
theorem N8 {H:AH} {l:List UInt8} (hl:l.length=32):Called Tryz.prog F.sign_number [.agg (bs l)] H (.agg (num (be l))) H:=by
 have bl:(bs l).length=32:=by rw [Zt,hl]
 refine Co ?_
 simp only [O2,go_sem,Yz,bl]
 have ne:(bs l).isEmpty=false:=by
  cases hh:bs l with
  | nil => rw [hh] at bl; cases bl
  | cons => rfl
 have ob:∀ G,obj (H++(⟨bs l,0,true⟩::G)) H.length=⟨bs l,0,true⟩:=fun G => by rw [Z7]; rfl
 have hx:∀ G,Sl 1 (H++(⟨bs l,0,true⟩::G)) (.row H.length 0 32 32) (bs l) l.length:=fun G => by
  rw [hl]
  exact .row (by simp) (by rw [ob]; exact bl.symm) (by decide) (by rw [ob,List.drop_zero,List.take_of_length_le (by show (bs l).length≤_; omega)]) (.inr (by rw [ob]))
 refine ⟨ne,by decide,Za (Zjt (hx _) (by omega)) (fun _ => rfl) ?_⟩
 simp only [go_sem,Zg,Yf,Zd,Zb,Ze]
 exact Zc rfl
noncomputable def verB (x y:Nat) (f:Bool) (h:List UInt8) (r s:Nat):Bool :=
 (((Ss x y f&&!f)&&Xa r)&&Xa s) &&
 ((!(aadd (115792089210356248762697446949407573530086143415290314195533631308867097853951:Nat) (mulA (fmul (115792089210356248762697446949407573529996955224135760342422259061068512044369:Nat) (be h) (minv (115792089210356248762697446949407573529996955224135760342422259061068512044369:Nat) s)) Wt) (mulA (fmul (115792089210356248762697446949407573529996955224135760342422259061068512044369:Nat) r (minv (115792089210356248762697446949407573529996955224135760342422259061068512044369:Nat) s)) (toA x y f))).isFar)&&decide ((aadd (115792089210356248762697446949407573530086143415290314195533631308867097853951:Nat) (mulA (fmul (115792089210356248762697446949407573529996955224135760342422259061068512044369:Nat) (be h) (minv (115792089210356248762697446949407573529996955224135760342422259061068512044369:Nat) s)) Wt) (mulA (fmul (115792089210356248762697446949407573529996955224135760342422259061068512044369:Nat) r (minv (115792089210356248762697446949407573529996955224135760342422259061068512044369:Nat) s)) (toA x y f))).x%(115792089210356248762697446949407573529996955224135760342422259061068512044369:Nat)=r))
theorem Fe:Ss (48439561293906451759052585252797914202762949526041747995844080717082404635286:Nat) (36134250956749795798585127919587881956611106672985015071877198253568414405109:Nat) false=true:=by decide +kernel
theorem Zl3 (ren:Nat→Option Nat) (H:AH) (v:Value):low ren H (.lit v)=.lit v:=rfl
theorem Zea {H:AH} {x y r s:Nat} {f:Bool} {h:List UInt8} (hx:x<(18446744073709551616:Nat)^4) (hy:y<(18446744073709551616:Nat)^4) (hr:r<(18446744073709551616:Nat)^4) (hs:s<(18446744073709551616:Nat)^4) (hh:h.length=32):Called Tryz.prog F.sign_Verify [.agg (pcell x y f),.agg (bs h),.agg (num r++num s)] H (Bl (verB x y f h r s)) H:=by
 have hN:(115792089210356248762697446949407573529996955224135760342422259061068512044369:Nat)<(18446744073709551616:Nat)^4:=mo_N.lt
 have hN0:0<(115792089210356248762697446949407573529996955224135760342422259061068512044369:Nat):=by decide
 have bl:(bs h).length=32:=by rw [Zt,hh]
 have sl:(num r++num s).length=8:=by rw [List.length_append,Zb,Zb]
 have s1:(num r++num s).take 4=num r:=List.take_left' (Zb _ _)
 have s2:((num r++num s).drop 4).take 4=num s:=by rw [List.drop_left' (Zb _ _),Zd]
 have so:(num r++num s).all AV.one=true:=by rw [List.all_append,Zg,Zg]; rfl
 have se:(num r++num s).isEmpty=false:=rfl
 have be':(bs h).isEmpty=false:=by
  cases hh:bs h with
  | nil => rw [hh] at bl; cases bl
  | cons => rfl
 have bt:(bs h).take 32=bs h:=List.take_of_length_le (by omega)
 generalize hS:num r++num s=S at *
 refine Cp ?_
 simp only [O3,go_sem,Xh,S6,Z5,Yz,bl,so,se,be']
 refine Za t_N (fun _ => rfl) ?_
 simp only [go_sem]
 refine Za (Zpp mo_N) (fun h => by cases h) ?_
 simp only [go_sem,Xh,S6,Z5,Ye,pc_f]
 have hF:∀ G,FF (H++(⟨pcell x y f,0,true⟩::⟨bs h,0,true⟩::⟨S,0,true⟩::⟨fcells (115792089210356248762697446949407573529996955224135760342422259061068512044369:Nat),0,true⟩::G)) (H.length+3) (115792089210356248762697446949407573529996955224135760342422259061068512044369:Nat):=fun G => ⟨by simp,by simp only [go_sem]⟩
 refine Zs (fun _ => t_On hx hy) ?_
 simp only [go_sem,Xh,S6,Z5,Ye,pc_f,sl,s1,s2]
 refine Zs (fun _ => Zf9 hr) ?_
 simp only [go_sem,Xh,S6,Z5,Ye,pc_f,sl,s1,s2]
 refine Zs (fun _ => Zf9 hs) ?_
 simp only [go_sem,Xh,S6,Z5,Ye,pc_f,sl,s1,s2]
 refine ⟨fun hb => Zc ?_,fun hb => ?_⟩
 ·have:(((Ss x y f&&!f)&&Xa r)&&Xa s)=false:=by
   revert hb
   cases Ss x y f <;> cases f <;> cases Xa r <;> cases Xa s <;> simp
  rw [verB,this]; rfl
 ·have hok:Ss x y f=true∧f=false∧Xa r=true∧Xa s=true:=by
   revert hb
   cases Ss x y f <;> cases f <;> cases Xa r <;> cases Xa s <;> simp
  obtain ⟨k1,k2,k3,k4⟩:=hok
  have ks:=(Ms s).1 k4
  have kr:=(Ms r).1 k3
  have kg:Nat.gcd (s%(115792089210356248762697446949407573529996955224135760342422259061068512044369:Nat)) (115792089210356248762697446949407573529996955224135760342422259061068512044369:Nat)=1:=by
   have:=He (p:=(115792089210356248762697446949407573529996955224135760342422259061068512044369:Nat)) Zqm (a:=s%(115792089210356248762697446949407573529996955224135760342422259061068512044369:Nat)) (by rw [Nat.mod_mod,Nat.mod_eq_of_lt ks.2]; omega)
   exact this
  have ti:=Zvx (H:=H++[⟨pcell x y f,0,true⟩,⟨bs h,0,true⟩,⟨S,0,true⟩,⟨fcells (115792089210356248762697446949407573529996955224135760342422259061068512044369:Nat),0,true⟩]) (hF []).fd hN mo_N.gt mo_N.odd hs
  rw [if_pos kg,Nat.mod_eq_of_lt ks.2] at ti
  rw [verB,k1,k3,k4]
  refine Za ti (fun _ => rfl) ?_
  clear ti
  have ki:minv (115792089210356248762697446949407573529996955224135760342422259061068512044369:Nat) s<(18446744073709551616:Nat)^4:=by
   obtain ⟨y,h1,h2⟩:=D4 (p:=(115792089210356248762697446949407573529996955224135760342422259061068512044369:Nat)) Zqm ks.1 ks.2
   rw [Kr h1 h2]; exact Nat.lt_trans h1 hN
  generalize minv (115792089210356248762697446949407573529996955224135760342422259061068512044369:Nat) s=t at *
  simp only [go_sem,Zd,Ze,Zg,Zb,Xh,S6,Z5,Ye,pc_f,sl,s1,s2,bl,bt]
  have hbe:be h<(18446744073709551616:Nat)^4:=by
   have:=F5 h
   rw [hh] at this
   exact Nat.lt_of_lt_of_le this (by decide)
  have m1:=Nat.lt_trans (Zi hN0 (be h) t) hN
  have m2:=Nat.lt_trans (Zi hN0 r t) hN
  refine Za ⟨rfl,fun G => N8 hh⟩ (fun _ => rfl) ?_
  simp only [go_sem,Zd,Ze,Zg,Zb,Xh,S6,Z5,Ye,pc_f,sl,s1,s2,bl,bt]
  refine Za ⟨rfl,fun G => Bg ((hF _).app) mo_N hbe ki⟩ (fun _ => rfl) ?_
  simp only [go_sem,Zd,Ze,Zg,Zb,Xh,S6,Z5,Ye,pc_f,sl,s1,s2,bl,bt]
  refine Za ⟨rfl,fun G => Zd9⟩ (fun _ => rfl) ?_
  simp only [go_sem,Zd,Ze,Zg,Zb,Xh,S6,Z5,Ye,pc_f,sl,s1,s2,bl,bt]
  refine Za ⟨rfl,fun G => Zd3 m1 (by decide) (by decide) Fe⟩ (fun _ => rfl) ?_
  rw [show toA (48439561293906451759052585252797914202762949526041747995844080717082404635286:Nat) (36134250956749795798585127919587881956611106672985015071877198253568414405109:Nat) false=Wt from rfl]
  have on1:=(Ca (k:=fmul (115792089210356248762697446949407573529996955224135760342422259061068512044369:Nat) (be h) t) (F6 Fe).1).2
  rw [show toA (48439561293906451759052585252797914202762949526041747995844080717082404635286:Nat) (36134250956749795798585127919587881956611106672985015071877198253568414405109:Nat) false=Wt from rfl] at on1
  have on2:=(Ca (k:=fmul (115792089210356248762697446949407573529996955224135760342422259061068512044369:Nat) r t) (F6 k1).1).2
  generalize hA:mulA (fmul (115792089210356248762697446949407573529996955224135760342422259061068512044369:Nat) (be h) t) Wt=A at *
  simp only [go_sem,ptc,Zd,Ze,Zg,Zb,Xh,S6,Z5,Ye,Mm,pc_f,sl,s1,s2,bl,bt]
  refine Za ⟨rfl,fun G => Bg ((hF _).app) mo_N hr ki⟩ (fun _ => rfl) ?_
  simp only [go_sem,ptc,Zd,Ze,Zg,Zb,Xh,S6,Z5,Ye,Mm,pc_f,sl,s1,s2,bl,bt]
  refine Za ⟨rfl,fun G => Zd3 m2 hx hy k1⟩ (fun _ => rfl) ?_
  generalize hBm:mulA (fmul (115792089210356248762697446949407573529996955224135760342422259061068512044369:Nat) r t) (toA x y f)=B at *
  simp only [go_sem,ptc,Zd,Ze,Zg,Zb,Xh,S6,Z5,Ye,Mm,pc_f,sl,s1,s2,bl,bt]
  obtain ⟨q1,q2,q3,q4⟩:=B4 on1
  obtain ⟨w1,w2,w3,w4⟩:=B4 on2
  refine Za (Z0q q2 q3 w2 w3 q1 w1) (fun _ => rfl) ?_
  rw [q4,w4]
  have on3:=Zzd on1 on2
  obtain ⟨v1,v2,v3,v4⟩:=B4 on3
  have ef:fadd (115792089210356248762697446949407573529996955224135760342422259061068512044369:Nat) (aadd (115792089210356248762697446949407573530086143415290314195533631308867097853951:Nat) A B).x 0=(aadd (115792089210356248762697446949407573530086143415290314195533631308867097853951:Nat) A B).x%(115792089210356248762697446949407573529996955224135760342422259061068512044369:Nat):=by rw [fadd,Nat.add_zero]
  generalize aadd (115792089210356248762697446949407573530086143415290314195533631308867097853951:Nat) A B=C at *
  have e0:[Z0,Z0,Z0,Z0]=num 0:=rfl
  have b1:C.x%(115792089210356248762697446949407573529996955224135760342422259061068512044369:Nat)<(18446744073709551616:Nat)^4:=Nat.lt_trans (Nat.mod_lt _ hN0) hN
  simp only [go_sem,ptc,Zd,Ze,Zg,Zb,Xh,S6,Z5,Ye,Mm,pc_f,pc_x,sl,s1,s2,bl,bt,Zq,fillv,e0]
  have tf:=fun G => Bh (hF G).fd hN hN0 v2 (show 0<(18446744073709551616:Nat)^4 by decide)
  rw [ef] at tf
  generalize C.x%(115792089210356248762697446949407573529996955224135760342422259061068512044369:Nat)=u at *
  generalize C.isFar=g at *
  cases g
  ·refine Zs (fun _ => tf _) ?_
   clear tf hF
   simp only [go_sem,sl,s1,E9,Da b1 hr]
   refine Zc ?_
   rw [k2,Bool.not_false,Bool.true_and]
   generalize decide (u=r)=dd
   exact Zl3 _ _ _
  ·refine Zs (fun _ => tf _) ?_
   clear tf hF
   simp only [go_sem,sl,s1]
   refine Zc ?_
   exact Zl3 _ _ _
end Go.Proofs.YtcgjlpdkobmpnaaGreat.Eng
namespace Go.Proofs.YtcgjlpdkobmpnaaGreat.Eng
open Go Go.Proofs
set_option linter.unusedVariables false
set_option linter.unusedSimpArgs false
set_option maxRecDepth 10000
abbrev errA (n:Int):AV:=.lit (.iface T.api_Code (.int .i64 n))
end Go.Proofs.YtcgjlpdkobmpnaaGreat.Eng
namespace Go.Proofs.YtcgjlpdkobmpnaaGreat.Eng
open Go Go.Proofs
set_option linter.unusedVariables false
set_option linter.unusedSimpArgs false
set_option maxRecDepth 10000
theorem Zfg:∀ (k:Nat) (b:List UInt8) {l:List Fld},getF k b=some l→∀ f ∈ l,f.e=vB f.b false∧f.b.length≤b.length
 | 0,b,l,h,f,hf => by
  rw [getF] at h
  split at h
  ·cases h; cases hf
  ·cases h
 | k+1,b,l,h,f,hf => by
  rw [getF] at h
  split at h
  ·cases h; cases hf
  ·split at h
   ·cases h
   ·cases hg:getF k (b.drop (3+flen b)) with
    | none => rw [hg] at h; cases h
    | some m =>
     rw [hg] at h; cases h
     rcases List.mem_cons.1 hf with rfl | hf
     ·exact ⟨rfl,by show ((b.drop 3).take _).length≤_; rw [List.length_take,List.length_drop]; omega⟩
     ·obtain ⟨h1,h2⟩:=Zfg k _ hg f hf
      exact ⟨h1,by rw [List.length_drop] at h2; omega⟩
theorem Ir {b:List UInt8} {l:List Fld} (h:getS b=some l):(∀ f ∈ l,f.e=vB f.b false∧f.b.length≤b.length)∧l.length≤64:=by
 unfold getS at h
 cases hg:getF b.length b with
 | none => rw [hg] at h; cases h
 | some m =>
  rw [hg] at h
  by_cases hb:V4 m=true
  ·have h:(if V4 m then some m else none)=some l:=h
   rw [if_pos hb] at h
   cases h
   refine ⟨Zfg _ _ hg,?_⟩
   simp only [V4,Bool.and_eq_true,decide_eq_true_eq] at hb
   exact hb.1
  ·have h:(if V4 m then some m else none)=some l:=h
   rw [if_neg hb] at h; cases h
abbrev sgc (r s:Nat):List AV:=num r++num s
theorem Yo (r s:Nat):(sgc r s).length=8:=by rw [List.length_append,Zb,Zb]
theorem Yu (r s:Nat):(sgc r s).all AV.one=true:=by rw [List.all_append,Zg,Zg]; rfl
theorem Z1d (r s:Nat):(sgc r s).isEmpty=false:=rfl
theorem Ya (r s:Nat):(sgc r s).take 8=sgc r s:=List.take_of_length_le (by rw [Yo]; exact Nat.le_refl _)
theorem Yy (a c r s:Nat):splice (sgc a c) 0 (sgc r s)=sgc r s:=Zu (by rw [Yo,Yo])
theorem Rs (ren:Nat→Option Nat) (H:AH) (r s:Nat):lowL ren H (sgc r s)=sgc r s:=by rw [Wg,Tf,Tf]
def Xj (b:List UInt8):Option (List UInt8 × Nat × Nat):=match getS b with
 | some [f,g] => if (f.tag=1∧g.tag=2)∧g.b.length=64 then some (f.b,be (g.b.take 32),be (g.b.drop 32)) else none
 | _ => none
theorem Zyj (l:List UInt8) (n:Nat):cut (bs l) 1 0 n=bs (l.take n):=by simp [cut,bs,List.map_take]
theorem Zyk (l:List UInt8) (n:Nat):cut (bs l) 1 n l.length=bs (l.drop n):=by
 rw [cut,Nat.mul_one,Nat.mul_one,List.take_of_length_le (by rw [List.length_drop,Zt]; omega)]; simp [bs,List.map_drop]
theorem Df {H:AH} {x:AV} {l:List UInt8} (hx:Sl 1 H x (bs l) l.length) (hn:l.length≤140737488355328):Called Tryz.prog F.sign_Parse [x] H (if l.length=64 then .tup [.agg (sgc (be (l.take 32)) (be (l.drop 32))),nilE] else .tup [.agg (sgc 0 0),errF]) H:=by
 refine A1 ?_
 have hG:∀ G,Sl 1 (H++G) x (bs l) l.length:=fun G => hx.app
 have lw:=Zb 4
 have e8:[Z0,Z0,Z0,Z0,Z0,Z0,Z0,Z0]=sgc 0 0:=rfl
 simp only [M2,go_sem,hx.s]
 by_cases h:l.length=64
 ·have z:((l.length:Int) != 64)=false:=by rw [h]; rfl
  have bd1:T2 l.length none (some (.lit (.int .i64 32))) none:=by
   refine ⟨trivial,trivial,trivial,?_,?_,?_,?_⟩ <;> simp [bnd,asI] <;> omega
  have bd2:T2 l.length (some (.lit (.int .i64 32))) none none:=by
   refine ⟨trivial,trivial,trivial,?_,?_,?_,?_⟩ <;> simp [bnd,asI] <;> omega
  have k1:=fun G => (hG G).sl bd1
  have k2:=fun G => (hG G).sl bd2
  have c1:cut (bs l) 1 (lo0 none) (hi0 l.length (some (.lit (.int .i64 32))))=bs (l.take 32):=Zyj l 32
  have c2:cut (bs l) 1 (lo0 (some (.lit (.int .i64 32)))) (hi0 l.length none)=bs (l.drop 32):=Zyk l 32
  have n1:hi0 l.length (some (.lit (.int .i64 32))) - lo0 none=(l.take 32).length:=by rw [List.length_take]; show 32 - 0=_; omega
  have n2:hi0 l.length none - lo0 (some (.lit (.int .i64 32)))=(l.drop 32).length:=by rw [List.length_drop]; rfl
  rw [c1,n1] at k1
  rw [c2,n2] at k2
  rw [if_pos h,z]
  simp only [go_sem,hx.s]
  refine ⟨(hG _).slOk bd1,Za (Zjt (k1 _) (by rw [List.length_take]; omega)) (fun _ => rfl) ?_⟩
  simp only [go_sem,hx.s,lw,Zg,Ze]
  refine ⟨(hG _).slOk bd2,Za (Zjt (k2 _) (by rw [List.length_drop]; omega)) (fun _ => rfl) ?_⟩
  generalize be (l.take 32)=r
  generalize be (l.drop 32)=s
  simp only [go_sem,lw,Zg,Ze,Zd,Zq,fillv]
  rw [show [AV.lit (Value.int IntKind.u64 0),AV.lit (Value.int IntKind.u64 0),AV.lit (Value.int IntKind.u64 0),AV.lit (Value.int IntKind.u64 0),AV.lit (Value.int IntKind.u64 0),AV.lit (Value.int IntKind.u64 0),AV.lit (Value.int IntKind.u64 0),AV.lit (Value.int IntKind.u64 0)]=pr 0 0 from rfl]
  simp only [Zb1,D7,Kn,W0,Oz,Rn]
  exact ⟨by decide,by decide,Zc (by simp only [low,lowL,Rs])⟩
 ·have z:((l.length:Int) != 64)=true:=by simp; omega
  rw [if_neg h,z]
  simp only [go_sem,Zq,fillv,e8,Yy,Yo,Yu,Ya]
  exact Zc rfl
def Fo (l:List Fld) (n:Nat):Bool:=decide (l.length=n)&&decide (∀ i,i<l.length→0≤numO (l.getD i noF).b∧(l.getD i noF).tag=i+1)
def Nl (b:List UInt8) (n:Nat):Option (List Int):=(getS b).bind fun l => if Fo l n then some (l.map fun f => numO f.b) else none
def Zg1 (o:Option (List Int)):AV:=match o with
 | some l => .tup [vI l false,Bl true]
 | none => .tup [nilS,Bl false]
theorem Be {H:AH} {x:AV} {b:List UInt8} (hx:Sl 1 H x (bs b) b.length) (hn:b.length≤100000) (n:Nat) (hN:n≤100):Called Tryz.prog F.ticket_numbers [x,I n] H (Zg1 (Nl b n)) H:=by
 refine J8 ?_
 simp only [Rb,go_sem,hx.s]
 refine Za (Zbg hx hn) (fun _ => rfl) ?_
 cases hg:getS b with
 | none =>
  have e:Nl b n=none:=by rw [Nl,hg]; rfl
  rw [e]
  simp only [getV,go_sem]
  exact Zl rfl
 | some l =>
  obtain ⟨hm,h64⟩:=Ir hg
  have sf:∀ G,Sl 2 G (.view (fcs l) l.length false) (fcs l) l.length:=fun G => .view (Ps l) false
  simp only [getV,go_sem]
  have eO:Nl b n=if Fo l n then some (l.map fun f => numO f.b) else none:=by rw [Nl,hg]; rfl
  rw [eO]
  refine ⟨fun h => Zl ?_,fun h => ?_⟩
  ·have:¬ l.length=n:=by have h:¬ (l.length:Int)=n:=by simpa using h
                         omega
   have hb:Fo l n=false:=by rw [Fo,decide_eq_false this,Bool.false_and]
   rw [hb]; rfl
  ·have hl:l.length=n:=by have h:(l.length:Int)=n:=by simpa using h
                          omega
   have hb:Fo l n=decide (∀ i,i<l.length→0≤numO (l.getD i noF).b∧(l.getD i noF).tag=i+1):=by rw [Fo,decide_eq_true hl,Bool.true_and]
   refine Z4 _ (fun (s:Nat × AV × AH) => ([(8,s.2.1),(26,.view (fcs l) l.length false),(27,I l.length),(28,I s.1)],H++s.2.2))
    (fun s => s.1≤l.length∧GR (H++s.2.2) s.2.1 ((l.take s.1).map fun f => I (numO f.b))∧(∀ q,rid s.2.1=some q→H.length≤q)∧∀ j,j<s.1→0≤numO (l.getD j noF).b∧(l.getD j noF).tag=j+1) (fun s => l.length - s.1) (0,nilS,[]) ⟨Nat.zero_le _,.inl ⟨rfl,rfl⟩,fun q h => Zbx h,fun j hj => absurd hj (Nat.not_lt_zero j)⟩ (by rw [List.append_nil]; rfl) ?_
   rintro ⟨i,x,G⟩ ⟨hi,hg,hq,hj⟩
   dsimp only at hi hg hq hj
   have vl:((l.take i).map fun f => I (numO f.b)).length=i:=by rw [List.length_map,List.length_take]; omega
   simp only [go_sem]
   refine ⟨fun hh => ?_,fun hh => ?_⟩
   ·have hlt:i<l.length:=by omega
    obtain ⟨he,hbl⟩:=hm _ (Yn noF hlt)
    have hs:∀ G,Sl 1 G (l.getD i noF).e (bs (l.getD i noF).b) (l.getD i noF).b.length:=fun G => by rw [he]; exact Sl.vB _ _
    have el:elt (fcs l) 2 i=[I (l.getD i noF).tag,(l.getD i noF).e]:=V7 _ 2 Fld.len _ _ noF hlt
    have fl:=Ps l
    have hsn:=Yx hlt noF
    have w1:IntKind.i64.wrap ((i:Int)+1)=((i+1:Nat):Int):=by rw [w64 _ (by omega) (by omega)]; omega
    have ib:(0:Int)≤i∧(i:Int)<l.length:=⟨by omega,by omega⟩
    simp only [el,fl,go_sem,(hs []).s]
    refine ⟨ib,Za (Z0m (hs _) (by omega)) (fun _ => rfl) ?_⟩
    have bad:¬ (0≤numO (l.getD i noF).b∧(l.getD i noF).tag=i+1)→Fo l n=false:=fun h => by
     rw [hb,decide_eq_false_iff_not]; exact fun h2 => h (h2 i hlt)
    by_cases h0:numO (l.getD i noF).b<0
    ·rw [if_pos h0,bad (by omega)]
     simp only [go_sem]
     exact Zc rfl
    ·rw [if_neg h0]
     simp only [go_sem,w1,(hs []).s,hg.sl.s]
     refine ⟨fun h => Zc ?_,fun h => ?_⟩
     ·have h:¬ (l.getD i noF).tag=((i+1:Nat):Int):=by simpa using h
      rw [bad (by omega)]; rfl
     ·have h:(l.getD i noF).tag=((i+1:Nat):Int):=by simpa using h
      obtain ⟨⟨_,_,c3,c4⟩,K',g1,g2,g3⟩:=(hg.more hq ⟨[I (l.getD i noF).tag,(l.getD i noF).e],0,true⟩).step (b:=8) hq (s:=.view [I (numO (l.getD i noF).b)] 1 true) (v:=I (numO (l.getD i noF).b)) rfl rfl rfl rfl (by rw [vl]; omega)
      refine ⟨⟨by rw [vl]; omega,c4⟩,(i+1,_,K'),rfl,g1,⟨by show i+1≤_; omega,?_,g3,fun j hj' => ?_⟩,by show _ - (i+1)<_; omega⟩
      ·show GR (H++K') _ ((l.take (i+1)).map _)
       rw [hsn,List.map_append]
       exact g2
      ·rcases Nat.lt_succ_iff_lt_or_eq.1 hj' with h1 | rfl
       ·exact hj j h1
       ·exact ⟨by omega,by omega⟩
   ·obtain rfl:i=l.length:=by omega
    rw [hb,decide_eq_true hj,if_pos rfl]
    refine U3 ?_
    rw [List.take_of_length_le (Nat.le_refl _)] at hg
    have hv:=hg.view hq (P8 (fun f:Fld => I (numO f.b)) (fun _ => rfl) l)
    have e:Zg1 (some (l.map fun f => numO f.b))=.tup [.view (l.map fun f => I (numO f.b)) (l.map fun f => I (numO f.b)).length false,Bl true]:=by
     simp only [Zg1,vI,List.map_map,List.length_map]; rfl
    rw [e]
    exact Ce ⟨hv,Le.refl _,trivial⟩
end Go.Proofs.YtcgjlpdkobmpnaaGreat.Eng
namespace Go.Proofs.YtcgjlpdkobmpnaaGreat.Eng
open Go Go.Proofs
set_option linter.unusedVariables false
set_option linter.unusedSimpArgs false
set_option maxRecDepth 10000
theorem Hl {b:List UInt8} {f g:Fld} (h:getS b=some [f,g]):Xj b=if (f.tag=1∧g.tag=2)∧g.b.length=64 then some (f.b,be (g.b.take 32),be (g.b.drop 32)) else none:=by
 rw [Xj,h]
theorem Oa {b:List UInt8} (h:∀ f g,getS b≠some [f,g]):Xj b=none:=by
 unfold Xj
 split
 ·rename_i f g e; exact absurd e (h f g)
 ·rfl
theorem len2 {l:List Fld} (h:l.length=2):∃ f g,l=[f,g]:=by
 match l,h with
 | [f,g],_ => exact ⟨f,g,rfl⟩
def Zze (b:List UInt8) (e:AV) (r s:Nat) (ok:Bool):Prop :=
 (Xj b=some ((Xj b).getD ([],0,0))∧ok=true∧e=vB ((Xj b).getD ([],0,0)).1 false∧r=((Xj b).getD ([],0,0)).2.1∧s=((Xj b).getD ([],0,0)).2.2∧((Xj b).getD ([],0,0)).1.length≤b.length) ∨
 (Xj b=none∧ok=false∧r=0∧s=0∧∃ l:List UInt8,(∀ H,Sl 1 H e (bs l) l.length)∧l.length≤b.length)
theorem Zjq {H:AH} {x:AV} {b:List UInt8} (hx:Sl 1 H x (bs b) b.length) (hn:b.length≤100000):∃ e r s ok,Zze b e r s ok∧Called Tryz.prog F.ticket_parts [x] H (.tup [e,.agg (sgc r s),Bl ok]) H:=by
 have e8:[Z0,Z0,Z0,Z0,Z0,Z0,Z0,Z0]=sgc 0 0:=rfl
 have none_:∀ H,Sl 1 H nilS (bs []) ([]:List UInt8).length:=fun H => .nil
 cases hg:getS b with
 | none =>
  refine ⟨nilS,0,0,false,.inr ⟨Oa (fun f g h => by rw [hg] at h; cases h),rfl,rfl,rfl,[],none_,Nat.zero_le _⟩,?_⟩
  refine W3 ?_
  simp only [Xz,go_sem,hx.s]
  refine Za (Zbg hx.app hn) (fun _ => rfl) ?_
  rw [hg]
  simp only [getV,go_sem,Zq,fillv,e8,Yy,Yo,Yu,Ya]
  exact Zc rfl
 | some l =>
  obtain ⟨hm,h64⟩:=Ir hg
  by_cases h2:l.length=2
  ·obtain ⟨f,g,rfl⟩:=len2 h2
   obtain ⟨hf1,hf2⟩:=hm f (by simp)
   obtain ⟨hg1,hg2⟩:=hm g (by simp)
   have hp:=Hl hg
   have sg:∀ G,Sl 1 G g.e (bs g.b) g.b.length:=fun G => by rw [hg1]; exact Sl.vB _ _
   have sf:∀ G,Sl 1 G f.e (bs f.b) f.b.length:=fun G => by rw [hf1]; exact Sl.vB _ _
   have fc:fcs [f,g]=[I f.tag,f.e,I g.tag,g.e]:=rfl
   have e0:∀ a b c d:AV,elt [a,b,c,d] 2 0=[a,b]:=fun _ _ _ _ => rfl
   have e1:∀ a b c d:AV,elt [a,b,c,d] 2 1=[c,d]:=fun _ _ _ _ => rfl
   have z2:(((2:Nat):Int) != 2)=false:=rfl
   have y1:((1:Int) != 1)=false:=rfl
   have y2:((2:Int) != 2)=false:=rfl
   by_cases ht:f.tag=1∧g.tag=2
   ·by_cases h64:g.b.length=64
    ·have hp':Xj b=some (f.b,be (g.b.take 32),be (g.b.drop 32)):=by rw [hp,if_pos ⟨ht,h64⟩]
     refine ⟨f.e,be (g.b.take 32),be (g.b.drop 32),true,.inl ⟨by rw [hp']; rfl,rfl,by rw [hp']; exact hf1,by rw [hp']; rfl,by rw [hp']; rfl,by rw [hp']; exact hf2⟩,?_⟩
     refine W3 ?_
     simp only [Xz,go_sem,hx.s]
     refine Za (Zbg hx.app hn) (fun _ => rfl) ?_
     rw [hg]
     have tp:=fun H => Df (H:=H) (sg H) (by omega)
     rw [if_pos h64] at tp
     simp only [getV,fc,z2,y1,y2,go_sem,e0,e1,ht,(sf []).s,(sg []).s]
     refine ⟨by decide,by decide,by decide,Za (tp _) (fun _ => rfl) ?_⟩
     generalize be (g.b.take 32)=r at *
     generalize be (g.b.drop 32)=s at *
     simp only [go_sem,e0,e1,(sf []).s,(sg []).s,e8,Yy,Yo,Yu,Ya]
     exact ⟨by decide,Zc (by rw [hf1]; simp only [low,lowL,Rs])⟩
    ·have hp':Xj b=none:=by rw [hp,if_neg (fun h => h64 h.2)]
     refine ⟨f.e,0,0,false,.inr ⟨hp',rfl,rfl,rfl,f.b,sf,hf2⟩,?_⟩
     refine W3 ?_
     simp only [Xz,go_sem,hx.s]
     refine Za (Zbg hx.app hn) (fun _ => rfl) ?_
     rw [hg]
     have tp:=fun H => Df (H:=H) (sg H) (by omega)
     rw [if_neg h64] at tp
     simp only [getV,fc,z2,y1,y2,go_sem,e0,e1,ht,(sf []).s,(sg []).s]
     refine ⟨by decide,by decide,by decide,Za (tp _) (fun _ => rfl) ?_⟩
     simp only [go_sem,e0,e1,(sf []).s,(sg []).s,e8,Yy,Yo,Yu,Ya]
     exact ⟨by decide,Zc (by rw [hf1]; simp only [low,lowL,Rs])⟩
   ·have hp':Xj b=none:=by rw [hp,if_neg (fun h => ht h.1)]
    refine ⟨nilS,0,0,false,.inr ⟨hp',rfl,rfl,rfl,[],none_,Nat.zero_le _⟩,?_⟩
    refine W3 ?_
    simp only [Xz,go_sem,hx.s]
    refine Za (Zbg hx.app hn) (fun _ => rfl) ?_
    rw [hg]
    by_cases h1:f.tag=1
    ·have z1:(g.tag != 2)=true:=by rw [bne_iff_ne]; exact fun h => ht ⟨h1,h⟩
     simp only [getV,fc,z2,y1,y2,go_sem,e0,e1,h1,z1,(sf []).s,(sg []).s,e8,Zq,fillv,Yy,Yo,Yu,Ya]
     exact ⟨by decide,by decide,Zc rfl⟩
    ·have z1:(f.tag != 1)=true:=by rw [bne_iff_ne]; exact h1
     simp only [getV,fc,z2,go_sem,e0,e1,z1,(sf []).s,(sg []).s,e8,Zq,fillv,Yy,Yo,Yu,Ya]
     exact ⟨by decide,Zc rfl⟩
  ·refine ⟨nilS,0,0,false,.inr ⟨Oa (fun f g h => by rw [hg] at h; cases h; exact h2 rfl),rfl,rfl,rfl,[],none_,Nat.zero_le _⟩,?_⟩
   refine W3 ?_
   simp only [Xz,go_sem,hx.s]
   refine Za (Zbg hx.app hn) (fun _ => rfl) ?_
   rw [hg]
   have z1:((l.length:Int) != 2)=true:=by rw [bne_iff_ne]; omega
   simp only [getV,z1,go_sem,e8,Zq,fillv,Yy,Yo,Yu,Ya]
   exact Zc rfl
def Nh (l:List Int):Tkt:=⟨l.getD 0 0,l.getD 1 0,l.getD 2 0,l.getD 3 0,l.getD 4 0⟩
def noTk:Tkt:=⟨0,0,0,0,0⟩
def Te (b:List UInt8):Option (Tkt × Nat × Nat):=(Xj b).bind fun p => (Nl p.1 5).bind fun l => if tktB (Nh l) then some (Nh l,p.2.1,p.2.2) else none
def Zgz (o:Option (Tkt × Nat × Nat)):AV:=match o with
 | some (t,r,s) => .tup [.agg t.cells,.agg (sgc r s),nilE]
 | none => .tup [.agg noTk.cells,.agg (sgc 0 0),errF]
theorem Zlk {b:List UInt8} {n:Nat} {l:List Int} (h:Nl b n=some l):l.length=n:=by
 unfold Nl at h
 cases hg:getS b with
 | none => rw [hg] at h; cases h
 | some m =>
  rw [hg] at h
  have h:(if Fo m n then some (m.map fun f => numO f.b) else none)=some l:=h
  by_cases hb:Fo m n=true
  ·rw [if_pos hb] at h
   cases h
   simp only [Fo,Bool.and_eq_true,decide_eq_true_eq] at hb
   rw [List.length_map,hb.1]
  ·rw [if_neg hb] at h; cases h
theorem Zqw (o:Option (List Int)):∃ v k,Zg1 o=.tup [v,Bl k]∧v.un=v∧(∀ g,Yp g v=True)∧k=o.isSome:=by
 cases o with
 | none => exact ⟨nilS,false,rfl,rfl,fun _ => rfl,rfl⟩
 | some l => exact ⟨vI l false,true,rfl,rfl,fun _ => rfl,rfl⟩
theorem Zeb {H:AH} {x:AV} {b:List UInt8} (hx:Sl 1 H x (bs b) b.length) (hn:b.length≤100000):Called Tryz.prog F.ticket_Open [x] H (Zgz (Te b)) H:=by
 have e8:[Z0,Z0,Z0,Z0,Z0,Z0,Z0,Z0]=sgc 0 0:=rfl
 refine Cn ?_
 simp only [O1,go_sem,hx.s]
 obtain ⟨e,r,s,ok,hp,hc⟩:=Zjq (H:=H++[⟨[I 0,I 0,I 0,I 0,I 0],0,true⟩,⟨[Z0,Z0,Z0,Z0,Z0,Z0,Z0,Z0],0,true⟩]) hx.app hn
 refine Za hc (fun _ => rfl) ?_
 clear hc
 rcases hp with ⟨hs,rfl,he,hr,hsg,hl⟩ | ⟨hno,rfl,rfl,rfl,l,hl,hll⟩
 ·generalize (Xj b).getD ([],0,0)=p at *
  obtain ⟨body,r',s'⟩:=p
  dsimp only at he hr hsg hl
  subst he hr hsg
  have eo:Te b=(Nl body 5).bind fun l => if tktB (Nh l) then some (Nh l,r,s) else none:=by rw [Te,hs]; rfl
  simp only [go_sem,e8,Yy,Yo,Yu,Ya]
  refine Za (Be (Sl.vB body false) (by omega) 5 (by decide)) (fun _ => rfl) ?_
  rw [eo]
  cases hN:Nl body 5 with
  | none =>
   simp only [Zg1,go_sem,Zq,fillv,e8,Yy,Yo,Yu,Ya]
   exact Zc rfl
  | some l =>
   have h5:=Zlk hN
   obtain ⟨a0,a1,a2,a3,a4,rfl⟩:∃ a0 a1 a2 a3 a4,l=[a0,a1,a2,a3,a4]:=by
    match l,h5 with
    | [a0,a1,a2,a3,a4],_ => exact ⟨_,_,_,_,_,rfl⟩
   have l0:elt [I a0,I a1,I a2,I a3,I a4] 1 0=[I a0]:=rfl
   have l1:elt [I a0,I a1,I a2,I a3,I a4] 1 1=[I a1]:=rfl
   have l2:elt [I a0,I a1,I a2,I a3,I a4] 1 2=[I a2]:=rfl
   have l3:elt [I a0,I a1,I a2,I a3,I a4] 1 3=[I a3]:=rfl
   have l4:elt [I a0,I a1,I a2,I a3,I a4] 1 4=[I a4]:=rfl
   simp only [Zg1,vI,go_sem,Zq,fillv,e8,Yy,Yo,Yu,Ya,l0,l1,l2,l3,l4]
   refine ⟨by decide,by decide,by decide,by decide,by decide,Za (Z0n ⟨a0,a1,a2,a3,a4⟩ _) (fun _ => rfl) ?_⟩
   have et:Nh [a0,a1,a2,a3,a4]=⟨a0,a1,a2,a3,a4⟩:=rfl
   show _
   rw [show ((some [a0,a1,a2,a3,a4]).bind fun l => if tktB (Nh l)=true then some (Nh l,r,s) else none)=if tktB ⟨a0,a1,a2,a3,a4⟩=true then some (⟨a0,a1,a2,a3,a4⟩,r,s) else none from rfl]
   generalize tktB ⟨a0,a1,a2,a3,a4⟩=tb
   simp only [go_sem,Zq,fillv,e8,Yy,Yo,Yu,Ya]
   cases tb
   ·simp only [go_sem]
    exact Zc rfl
   ·simp only [go_sem]
    exact ⟨by omega,Zc (by simp only [low,lowL,Rs]; rfl)⟩
 ·obtain ⟨v,k,hv,h1,h2,h3⟩:=Zqw (Nl l 5)
  have eo:Te b=none:=by rw [Te,hno]; rfl
  simp only [go_sem,e8,Yy,Yo,Yu,Ya,(hl []).s]
  refine Za (Be (hl _) (by omega) 5 (by decide)) (fun _ => rfl) ?_
  rw [hv,eo]
  simp only [go_sem,h1,h2,Zq,fillv,e8,Yy,Yo,Yu,Ya]
  exact Zc rfl
end Go.Proofs.YtcgjlpdkobmpnaaGreat.Eng

