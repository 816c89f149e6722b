/- SHA-256 and HMAC, by definition. (No program in sight.) -/
import Derived.Test.YtcgjlpdkobmpnaaGreatME6
import Derived.Test.YtcgjlpdkobmpnaaGreatMEc
import Derived.Test.YtcgjlpdkobmpnaaGreatMNum
import Derived.Test.YtcgjlpdkobmpnaaGreatMCa
namespace Go.Proofs.YtcgjlpdkobmpnaaGreat.Eng
open Go
set_option linter.unusedVariables false
set_option linter.unusedSimpArgs false
def rotr (k x:Nat):Nat:=x / 2^k+x%2^k*2^(32 - k)
def big1 (x:Nat):Nat:=rotr 6 x ^^^ rotr 11 x ^^^ rotr 25 x
def big0 (x:Nat):Nat:=rotr 2 x ^^^ rotr 13 x ^^^ rotr 22 x
def sml0 (x:Nat):Nat:=rotr 7 x ^^^ rotr 18 x ^^^ x / 8
def sml1 (x:Nat):Nat:=rotr 17 x ^^^ rotr 19 x ^^^ x / 1024
def chN (e f g:Nat):Nat:=(e &&& f) ^^^ ((4294967295 - e) &&& g)
def majN (a b c:Nat):Nat:=(a &&& b) ^^^ (a &&& c) ^^^ (b &&& c)
def K256:List Nat:=[1116352408,1899447441,3049323471,3921009573,961987163,1508970993,2453635748,2870763221,3624381080,310598401,607225278,1426881987,1925078388,2162078206,2614888103,3248222580,3835390401,4022224774,264347078,604807628,770255983,1249150122,1555081692,1996064986,2554220882,2821834349,2952996808,3210313671,3336571891,3584528711,113926993,338241895,666307205,773529912,1294757372,1396182291,1695183700,1986661051,2177026350,2456956037,2730485921,2820302411,3259730800,3345764771,3516065817,3600352804,4094571909,275423344,430227734,506948616,659060556,883997877,958139571,1322822218,1537002063,1747873779,1955562222,2024104815,2227730452,2361852424,2428436474,2756734187,3204031479,3329325298]
def IV256:List Nat:=[1779033703,3144134277,1013904242,2773480762,1359893119,2600822924,528734635,1541459225]
def nxw (l:List Nat):Nat:=(sml1 (l.getD 1 0)+l.getD 6 0+sml0 (l.getD 14 0)+l.getD 15 0)%(4294967296:Nat)
def sch:Nat→List Nat→List Nat
 | 0,l => l
 | n+1,l => CheckFast.force (nxw l) fun x => sch n (x::l)
theorem Dc:∀ n l,sch (n+1) l=nxw (sch n l)::sch n l
 | 0,l => by simp only [sch,CheckFast.force_eq]
 | n+1,l => by
  rw [sch,CheckFast.force_eq,Dc n,show sch (n+1) l=sch n (nxw l::l) by rw [sch,CheckFast.force_eq]]
theorem Lb:∀ n l,(sch n l).length=l.length+n
 | 0,l => rfl
 | n+1,l => by rw [Dc,List.length_cons,Lb n]; omega
def rnd (s:List Nat) (kw:Nat × Nat):List Nat :=
 match s with
 | [a,b,c,d,e,f,g,h] => CheckFast.force (h+big1 e+chN e f g+kw.1+kw.2) fun t => CheckFast.force ((t+(big0 a+majN a b c))%(4294967296:Nat)) fun x => CheckFast.force ((d+t)%(4294967296:Nat)) fun y => [x,a,b,c,y,e,f,g]
 | s => s
theorem Ztr (a b c d e f g h k w:Nat):rnd [a,b,c,d,e,f,g,h] (k,w)=[((h+big1 e+chN e f g+k+w)+(big0 a+majN a b c))%(4294967296:Nat),a,b,c,(d+(h+big1 e+chN e f g+k+w))%(4294967296:Nat),e,f,g]:=by
 simp only [rnd,CheckFast.force_eq]
def w16 (b:List UInt8):List Nat:=(List.range 16).map fun i => be ((b.drop (4*i)).take 4)
def words (b:List UInt8):List Nat:=(sch 48 (w16 b).reverse).reverse
def Sq (s:List Nat) (b:List UInt8):List Nat:=List.zipWith (fun x y => (x+y)%(4294967296:Nat)) s ((K256.zip (words b)).foldl rnd s)
def absb:Nat→List Nat→List UInt8→List Nat
 | 0,s,_ => s
 | n+1,s,l => absb n (Sq s (l.take 64)) (l.drop 64)
theorem Oz:∀ n m s l r,l.length=64*n→absb (n+m) s (l++r)=absb m (absb n s l) r
 | 0,m,s,l,r,h => by
  obtain rfl:l=[]:=List.eq_nil_of_length_eq_zero (by omega)
  rw [Nat.zero_add]; rfl
 | n+1,m,s,l,r,h => by
  rw [show n+1+m=(n+m)+1 by omega,absb,absb,List.take_append_of_le_length (by omega),List.drop_append_of_le_length (by omega),Oz n m _ _ _ (by rw [List.length_drop]; omega)]
def padn (n:Nat):Nat:=(119 - n%64)%64
def pad (n:Nat):List UInt8:=128::(List.replicate (padn n) 0++beN 8 (8*n))
theorem Lm (n:Nat):(n+(pad n).length)%64=0∧(pad n).length=padn n+9:=by
 have:(pad n).length=padn n+9:=by simp [pad,Vf]
 refine ⟨?_,this⟩
 rw [this,padn]; omega
def outS (s:List Nat):List UInt8:=s.flatMap (beN 4)
def sha (l:List UInt8):List UInt8:=outS (absb ((l.length+padn l.length+9) / 64) IV256 (l++pad l.length))
theorem Zv1 {s:List Nat} (h:s.length=8) (kw:Nat × Nat):(rnd s kw).length=8:=by
 match s,h with
 | [a,b,c,d,e,f,g,h],_ => rw [Ztr]; rfl
theorem Dg {s:List Nat} (h:s.length=8):∀ l:List (Nat × Nat),(l.foldl rnd s).length=8:=by
 intro l
 induction l generalizing s with
 | nil => exact h
 | cons x r ih => exact ih (Zv1 h x)
theorem Ss (b:List UInt8):(w16 b).length=16:=by simp [w16]
theorem Kh (b:List UInt8):(words b).length=64:=by simp [words,Lb,Ss]
theorem K5 {s:List Nat} (h:s.length=8) (b:List UInt8):(Sq s b).length=8:=by
 rw [Sq,List.length_zipWith,Dg h,h]; rfl
theorem V0:∀ n s l,s.length=8→(absb n s l).length=8
 | 0,s,l,h => h
 | n+1,s,l,h => V0 n _ _ (K5 h _)
theorem Zfk {s:List Nat} (b:List UInt8):∀ x ∈ Sq s b,x<(4294967296:Nat):=by
 intro x hx
 rw [Sq,List.mem_iff_getElem] at hx
 obtain ⟨i,hi,rfl⟩:=hx
 rw [List.getElem_zipWith]
 exact Nat.mod_lt _ (by decide)
theorem Zdq:∀ n s l,(∀ x ∈ s,x<(4294967296:Nat))→∀ x ∈ absb n s l,x<(4294967296:Nat)
 | 0,s,l,h => h
 | n+1,s,l,h => Zdq n _ _ (Zfk _)
theorem M3:IV256.length=8:=rfl
set_option linter.unusedSimpArgs false
def Ns (a:Nat):Bool:=!(a == 0)&&Nat.blt a (115792089210356248762697446949407573529996955224135760342422259061068512044369:Nat)
theorem Ac (a:Nat):Ns a=true↔0<a∧a<(115792089210356248762697446949407573529996955224135760342422259061068512044369:Nat):=by
 unfold Ns
 rw [Bool.and_eq_true,Bool.not_eq_true',beq_eq_false_iff_ne,Nat.blt_eq]
 omega
def text (d m:Nat):List UInt8:=beN 32 d++beN 32 m
def Zn7:Aff:=.pt (48439561293906451759052585252797914202762949526041747995844080717082404635286:Nat) (36134250956749795798585127919587881956611106672985015071877198253568414405109:Nat)
noncomputable def mulA (k:Nat) (a:Aff):Aff:=amk (115792089210356248762697446949407573530086143415290314195533631308867097853951:Nat) a (blen k) k
def Aff.x:Aff→Nat
 | .far => 0
 | .pt x _ => x
def Aff.y:Aff→Nat
 | .far => 0
 | .pt _ y => y
def Aff.isFar:Aff→Bool
 | .far => true
 | .pt _ _ => false
def onP (a:Aff):Prop:=onA (115792089210356248762697446949407573530086143415290314195533631308867097853951:Nat) (41058363725152142129326129780047268409114441015993725554835256314039467401291:Nat) a
end Go.Proofs.YtcgjlpdkobmpnaaGreat.Eng
namespace Go.Proofs.YtcgjlpdkobmpnaaGreat.Eng
open Go Go.Proofs
set_option linter.unusedVariables false
set_option linter.unusedSimpArgs false
set_option maxRecDepth 10000
def crv (p:Nat):List AV:=[.ptr p 0,.fn (.func F.field_Field_Add) [.ptr p 0] [],.fn (.func F.field_Field_Sub) [.ptr p 0] [],.fn (.func F.field_Field_Mul) [.ptr p 0] []]
theorem Zj (p:Nat):(crv p).take 4=crv p:=rfl
theorem Zo (p:Nat):(crv p).length=4:=rfl
theorem Vq (p:Nat):(crv p).all AV.one=true:=rfl
theorem Es (p:Nat):(crv p).isEmpty=false:=rfl
theorem Z9 (p:Nat):(crv p).getD 0 .junk=.ptr p 0:=rfl
theorem Z4 (p:Nat):(crv p).getD 1 .junk=.fn (.func F.field_Field_Add) [.ptr p 0] []:=rfl
theorem Z2 (p:Nat):(crv p).getD 2 .junk=.fn (.func F.field_Field_Sub) [.ptr p 0] []:=rfl
theorem Zz (p:Nat):(crv p).getD 3 .junk=.fn (.func F.field_Field_Mul) [.ptr p 0] []:=rfl
theorem Q9 (p:Nat):splice [.lit (.pointer none),.lit .nilFunc,.lit .nilFunc,.lit .nilFunc] 0 (crv p)=crv p:=rfl
def pcell (x y:Nat) (f:Bool):List AV:=num x++(num y++[Bl f])
theorem Yb (x y:Nat) (f:Bool):(pcell x y f).length=9:=by simp [pcell,Zb]
theorem Xk (x y:Nat) (f:Bool):(pcell x y f).all AV.one=true:=by rw [pcell,List.all_append,List.all_append,Zg,Zg]; rfl
theorem S1 (x y:Nat) (f:Bool):(pcell x y f).isEmpty=false:=rfl
theorem pc_x (x y:Nat) (f:Bool):(pcell x y f).take 4=num x:=List.take_left' (Zb 4 x)
theorem pc_y (x y:Nat) (f:Bool):((pcell x y f).drop 4).take 4=num y:=by rw [pcell,List.drop_left' (Zb 4 x),List.take_left' (Zb 4 y)]
theorem pc_f (x y:Nat) (f:Bool):(pcell x y f).getD 8 .junk=Bl f:=by
 have:pcell x y f=(num x++num y)++[Bl f]:=by simp [pcell]
 rw [this]; exact Yo (j:=0) (by simp [Zb]) _
theorem Yk (x y:Nat) (f:Bool):(pcell x y f).take 9=pcell x y f:=List.take_of_length_le (by rw [Yb]; exact Nat.le_refl _)
abbrev ZP:List AV:=[Z0,Z0,Z0,Z0,Z0,Z0,Z0,Z0,Bl false]
theorem Pw (x y:Nat) (f:Bool):splice ZP 0 (pcell x y f)=pcell x y f:=Zy (by rw [Yb]; rfl)
theorem Zwh (x:Nat):splice ZP 0 (num x)=pcell x 0 false:=by
 rw [Xe _ _ _ (by rw [Zb]; decide),Zb]; rfl
theorem Zwg (x y' y:Nat) (f:Bool):splice (pcell x y' f) 4 (num y)=pcell x y f:=by
 rw [Xe _ _ _ (by rw [Zb,Yb]; decide),pc_x,Zb]
 have:(pcell x y' f).drop (4+4)=[Bl f]:=by
  rw [← List.drop_drop,pcell,List.drop_left' (Zb 4 x),List.drop_left' (Zb 4 y')]
 rw [this,pcell,List.append_assoc]
def jc (t:J3):List AV:=num t.x++(num t.y++num t.z)
theorem Zw (t:J3):(jc t).length=12:=by simp [jc,Zb]
theorem U9 (t:J3):(jc t).all AV.one=true:=by rw [jc,List.all_append,List.all_append,Zg,Zg,Zg]; rfl
theorem Zqz (t:J3):(jc t).isEmpty=false:=rfl
theorem jc_x (t:J3):(jc t).take 4=num t.x:=List.take_left' (Zb 4 _)
theorem jc_y (t:J3):((jc t).drop 4).take 4=num t.y:=by rw [jc,List.drop_left' (Zb 4 _),List.take_left' (Zb 4 _)]
theorem jc_z (t:J3):((jc t).drop 8).take 4=num t.z:=by
 have:jc t=(num t.x++num t.y)++num t.z:=by simp [jc]
 rw [this,List.drop_left' (by simp [Zb]),Zf]
theorem Zs (t:J3):(jc t).take 12=jc t:=List.take_of_length_le (by rw [Zw]; exact Nat.le_refl _)
abbrev ZJ:List AV:=[Z0,Z0,Z0,Z0,Z0,Z0,Z0,Z0,Z0,Z0,Z0,Z0]
theorem Ko (t:J3):splice ZJ 0 (jc t)=jc t:=Zy (by rw [Zw]; rfl)
theorem D5 (s t:J3):splice (jc s) 0 (jc t)=jc t:=Zy (by rw [Zw,Zw])
theorem Zcj (x:Nat):splice ZJ 0 (num x)=jc ⟨x,0,0⟩:=by
 rw [Xe _ _ _ (by rw [Zb]; decide),Zb]
 have e:num 0=[Z0,Z0,Z0,Z0]:=rfl
 simp [jc,e]
theorem Zci (x y' y z:Nat):splice (jc ⟨x,y',z⟩) 4 (num y)=jc ⟨x,y,z⟩:=by
 rw [Xe _ _ _ (by rw [Zb,Zw]; decide),jc_x,Zb]
 have:(jc ⟨x,y',z⟩).drop (4+4)=num z:=by
  rw [← List.drop_drop,jc,List.drop_left' (Zb 4 x),List.drop_left' (Zb 4 y')]
 rw [this,jc,List.append_assoc]
theorem Zch (x y z' z:Nat):splice (jc ⟨x,y,z'⟩) 8 (num z)=jc ⟨x,y,z⟩:=by
 have e:jc ⟨x,y,z'⟩=(num x++num y)++num z':=by simp [jc]
 rw [e,Xe _ _ _ (by simp [Zb]),Zb,List.take_left' (by simp [Zb]),List.drop_eq_nil_of_le (by simp [Zb])]
 simp [jc]
theorem ltP {a:Nat} (h:a<(115792089210356248762697446949407573530086143415290314195533631308867097853951:Nat)):a<(18446744073709551616:Nat)^4:=Nat.lt_trans h (by decide)
theorem Zkv {n:Nat} (h:n<(18446744073709551616:Nat)):num n=[W n,Z0,Z0,Z0]:=by
 simp only [wd,dig,List.map_cons,List.map_nil,Nat.mod_eq_of_lt h,Nat.div_eq_of_lt h]; rfl
theorem cM {H:AH} {p a b:Nat} (hf:FF H p (115792089210356248762697446949407573530086143415290314195533631308867097853951:Nat)) (ha:a<(115792089210356248762697446949407573530086143415290314195533631308867097853951:Nat)) (hb:b<(115792089210356248762697446949407573530086143415290314195533631308867097853951:Nat)):Called Tryz.prog F.field_Field_Mul [.ptr p 0,.agg (num a),.agg (num b)] H (.agg (num (fmul (115792089210356248762697446949407573530086143415290314195533631308867097853951:Nat) a b))) H:=Zje hf mo_P (ltP ha) (ltP hb)
theorem cA {H:AH} {p a b:Nat} (hf:FF H p (115792089210356248762697446949407573530086143415290314195533631308867097853951:Nat)) (ha:a<(115792089210356248762697446949407573530086143415290314195533631308867097853951:Nat)) (hb:b<(115792089210356248762697446949407573530086143415290314195533631308867097853951:Nat)):Called Tryz.prog F.field_Field_Add [.ptr p 0,.agg (num a),.agg (num b)] H (.agg (num (fadd (115792089210356248762697446949407573530086143415290314195533631308867097853951:Nat) a b))) H:=Ztj hf.fd mo_P.lt (by decide) (ltP ha) (ltP hb)
theorem cS {H:AH} {p a b:Nat} (hf:FF H p (115792089210356248762697446949407573530086143415290314195533631308867097853951:Nat)) (ha:a<(115792089210356248762697446949407573530086143415290314195533631308867097853951:Nat)) (hb:b<(115792089210356248762697446949407573530086143415290314195533631308867097853951:Nat)):Called Tryz.prog F.field_Field_Sub [.ptr p 0,.agg (num a),.agg (num b)] H (.agg (num (fsub (115792089210356248762697446949407573530086143415290314195533631308867097853951:Nat) a b))) H:=by
 have:=Zjd hf.fd mo_P.lt (by decide) (ltP ha) (ltP hb)
 rwa [Nat.mod_eq_of_lt ha,Nat.mod_eq_of_lt hb] at this
theorem t_P {H:AH}:Called Tryz.prog F.point_P [] H (.agg (num (115792089210356248762697446949407573530086143415290314195533631308867097853951:Nat))) H:=by
 refine Zm8 ?_
 simp only [Ef,go_sem,Zr,fillv]
 have e:[AV.lit (.int .u64 18446744073709551615),.lit (.int .u64 4294967295),Z0,.lit (.int .u64 18446744069414584321)]=num (115792089210356248762697446949407573530086143415290314195533631308867097853951:Nat):=rfl
 simp only [e,Ze,Zf,Zg,Zb,go_sem]
 exact Zc rfl
theorem t_b {H:AH}:Called Tryz.prog F.point_b [] H (.agg (num (41058363725152142129326129780047268409114441015993725554835256314039467401291:Nat))) H:=by
 refine Zm7 ?_
 simp only [Ee,go_sem,Zr,fillv]
 have e:[AV.lit (.int .u64 4309448131093880907),.lit (.int .u64 7285987128567378166),.lit (.int .u64 12964664127075681980),.lit (.int .u64 6540974713487397863)]=num (41058363725152142129326129780047268409114441015993725554835256314039467401291:Nat):=rfl
 simp only [e,Ze,Zf,Zg,Zb,go_sem]
 exact Zc rfl
theorem Z0s {H:AH}:Called Tryz.prog F.point_Base [] H (.agg (pcell (48439561293906451759052585252797914202762949526041747995844080717082404635286:Nat) (36134250956749795798585127919587881956611106672985015071877198253568414405109:Nat) false)) H:=by
 refine A9 ?_
 simp only [Mb,go_sem,Zr,fillv]
 have e1:[AV.lit (.int .u64 17627433388654248598),.lit (.int .u64 8575836109218198432),.lit (.int .u64 17923454489921339634),.lit (.int .u64 7716867327612699207)]=num (48439561293906451759052585252797914202762949526041747995844080717082404635286:Nat):=rfl
 have e2:[AV.lit (.int .u64 14678990851816772085),.lit (.int .u64 3156516839386865358),.lit (.int .u64 10297457778147434006),.lit (.int .u64 5756518291402817435)]=num (36134250956749795798585127919587881956611106672985015071877198253568414405109:Nat):=rfl
 have e3:[AV.lit (.int .u64 17627433388654248598),.lit (.int .u64 8575836109218198432),.lit (.int .u64 17923454489921339634),.lit (.int .u64 7716867327612699207),.lit (.int .u64 14678990851816772085),.lit (.int .u64 3156516839386865358),.lit (.int .u64 10297457778147434006),.lit (.int .u64 5756518291402817435),Bl false]=pcell (48439561293906451759052585252797914202762949526041747995844080717082404635286:Nat) (36134250956749795798585127919587881956611106672985015071877198253568414405109:Nat) false:=rfl
 simp only [e3,Pw,Yk,Xk,Yb,go_sem]
 exact Zc rfl
theorem t_sq {H:AH} {p a:Nat} (hf:FF H p (115792089210356248762697446949407573530086143415290314195533631308867097853951:Nat)) (ha:a<(115792089210356248762697446949407573530086143415290314195533631308867097853951:Nat)):Called Tryz.prog F.point_curve_square [.agg (crv p),.agg (num a)] H (.agg (num (fmul (115792089210356248762697446949407573530086143415290314195533631308867097853951:Nat) a a))) H:=by
 refine Pr ?_
 have hf':∀ G,FF (H++G) p (115792089210356248762697446949407573530086143415290314195533631308867097853951:Nat):=fun G => hf.app
 simp only [V6,go_sem,Vq,Es,Zo,Zz,Zg,Xf,Zf,Zb]
 refine Za (cM (hf' _) ha ha) (fun _ => rfl) ?_
 simp only [go_sem,Zf,Ze,Zg,Zb]
 exact Zc rfl
theorem M8 {H:AH} {p a n:Nat} (hf:FF H p (115792089210356248762697446949407573530086143415290314195533631308867097853951:Nat)) (ha:a<(115792089210356248762697446949407573530086143415290314195533631308867097853951:Nat)) (hn:n<(18446744073709551616:Nat)):Called Tryz.prog F.point_curve_times [.agg (crv p),.agg (num a),W n] H (.agg (num (fmul (115792089210356248762697446949407573530086143415290314195533631308867097853951:Nat) a n))) H:=by
 refine Ow ?_
 have hf':∀ G,FF (H++G) p (115792089210356248762697446949407573530086143415290314195533631308867097853951:Nat):=fun G => hf.app
 simp only [Un,go_sem,Vq,Es,Zo,Zz,Zg,Xf,Zf,Zb,Zr,fillv,← Zkv hn]
 refine Za (cM (hf' _) ha (Nat.lt_trans hn (by decide))) (fun _ => rfl) ?_
 simp only [go_sem,Zf,Ze,Zg,Zb]
 exact Zc rfl
theorem Zg4 (ren:Nat→Option Nat) (H:AH) (m:Nat):lowL ren H (fcells m)=fcells m:=by simp [fcells,Wp,Sn,lowL,low]
theorem t_of {H:AH}:Called Tryz.prog F.point_of [] H (.agg (crv H.length)) (H++[⟨fcells (115792089210356248762697446949407573530086143415290314195533631308867097853951:Nat),0,true⟩]):=by
 refine Zhz ?_
 simp only [Hj,go_sem]
 refine Za t_P (fun _ => rfl) ?_
 simp only [go_sem]
 refine Za (Zz3 mo_P) (fun h => by cases h) ?_
 simp only [go_sem,Zr,fillv]
 refine F8 [1] (by decide) (by simp) ?_ ?_
 ·simp [low,lowL,Zkb,List.idxOf?_cons,crv]
 ·simp [Wl,Zg4,obj]
end Go.Proofs.YtcgjlpdkobmpnaaGreat.Eng
namespace Go.Proofs.YtcgjlpdkobmpnaaGreat.Eng
open Go Go.Proofs
set_option linter.unusedVariables false
set_option linter.unusedSimpArgs false
set_option maxRecDepth 10000
def Sm (x y:Nat) (f:Bool):Bool:=bif f then (x == 0&&y == 0) else (Nat.blt x (115792089210356248762697446949407573530086143415290314195533631308867097853951:Nat)&&Nat.blt y (115792089210356248762697446949407573530086143415290314195533631308867097853951:Nat)&&onB (115792089210356248762697446949407573530086143415290314195533631308867097853951:Nat) (41058363725152142129326129780047268409114441015993725554835256314039467401291:Nat) x y)
theorem Sr:∀ {a c:List AV} (b d:List AV),a.length=c.length→Wj (a++b) (c++d)=(Wj a c&&Wj b d)
 | [],[],b,d,_ => by simp [Wj]
 | x::a,y::c,b,d,h => by
  simp only [List.cons_append,Wj,Sr b d (show a.length=c.length by simpa using h),Bool.and_assoc]
 | [],y::c,b,d,h => by cases h
 | x::a,[],b,d,h => by cases h
theorem Z4e {x y x' y':Nat} {f f':Bool} (hx:x<(18446744073709551616:Nat)^4) (hy:y<(18446744073709551616:Nat)^4) (hx':x'<(18446744073709551616:Nat)^4) (hy':y'<(18446744073709551616:Nat)^4):C4 (.agg (pcell x y f)) (.agg (pcell x' y' f'))=(x == x'&&(y == y'&&f == f')):=by
 show Wj _ _=_
 have e:Wj [Bl f] [Bl f']=(f == f'):=by simp [Wj,Zud]
 rw [pcell,pcell,Sr _ _ (by rw [Zb,Zb]),Sr _ _ (by rw [Zb,Zb]),J6,J6,e,Nat.mod_eq_of_lt hx,Nat.mod_eq_of_lt hx',Nat.mod_eq_of_lt hy,Nat.mod_eq_of_lt hy']
 rfl
theorem Z4d (x y x' y':Nat) (f f':Bool):Uj [some .u64,some .u64,some .u64,some .u64,some .u64,some .u64,some .u64,some .u64,none] (.agg (pcell x y f)) (.agg (pcell x' y' f'))=True:=by
 simp [Uj,pcell,wd,dig,U8]
theorem Znm (a b:Nat):decide (0≤cmpN a b)=decide (b≤a):=by
 congr 1; apply propext; unfold cmpN; split <;> (try split) <;> omega
theorem Zmg (m a b:Nat):fmul m a b=fmul m b a:=by unfold fmul; rw [Nat.mul_comm]
theorem O6 {H:AH} {p x y:Nat} {f:Bool} (hf:FF H p (115792089210356248762697446949407573530086143415290314195533631308867097853951:Nat)) (hx:x<(18446744073709551616:Nat)^4) (hy:y<(18446744073709551616:Nat)^4):Called Tryz.prog F.point_curve_on [.agg (crv p),.agg (pcell x y f)] H (Bl (Sm x y f)) H:=by
 refine Jk ?_
 have hf':∀ G,FF (H++G) p (115792089210356248762697446949407573530086143415290314195533631308867097853951:Nat):=fun G => hf.app
 have hPP:(115792089210356248762697446949407573530086143415290314195533631308867097853951:Nat)<(18446744073709551616:Nat)^4:=mo_P.lt
 have h0:0<(115792089210356248762697446949407573530086143415290314195533631308867097853951:Nat):=by decide
 have eF:[Z0,Z0,Z0,Z0,Z0,Z0,Z0,Z0,Bl true]=pcell 0 0 true:=rfl
 simp only [Rb,go_sem,Vq,Es,Zo,Xk,S1,Yb,pc_f,Yk,Zr,fillv,eF]
 refine ⟨fun h => ?_,fun h => ?_⟩
 ·subst h
  simp only [go_sem,eF,Z4d,Z4e hx hy (show 0<(18446744073709551616:Nat)^4 by decide) (show 0<(18446744073709551616:Nat)^4 by decide),Yb]
  refine Zc ?_
  simp [Sm,low]
 ·subst h
  simp only [pc_x]
  refine Za t_P (fun _ => rfl) ?_
  simp only [go_sem]
  refine Za (Fo hx hPP) (fun _ => rfl) ?_
  simp only [go_sem,Znm,Yb,pc_y]
  refine Zq (fun _ => t_P) ?_
  simp only [go_sem,Znm,Yb,pc_y]
  refine Zq (fun _ => Fo hy hPP) ?_
  simp only [go_sem,Znm,Yb,pc_y]
  refine ⟨fun h => ?_,fun h => ?_⟩
  ·refine Zc ?_
   have:Sm x y false=false:=by
    simp only [Sm,cond_false]
    rw [Bool.and_eq_false_iff,Bool.and_eq_false_iff]
    refine .inl ?_
    simp only [Bool.or_eq_true,decide_eq_true_eq] at h
    have bf:∀ a b:Nat,b≤a→Nat.blt a b=false:=fun a b h => by
     cases hh:Nat.blt a b
     ·rfl
     ·rw [Nat.blt_eq] at hh; omega
    rcases h with h | h
    ·exact .inl (bf _ _ h)
    ·exact .inr (bf _ _ h)
   rw [this]; rfl
  ·have h:¬ (115792089210356248762697446949407573530086143415290314195533631308867097853951:Nat)≤x∧¬ (115792089210356248762697446949407573530086143415290314195533631308867097853951:Nat)≤y:=by simpa using h
   have hx:x<(115792089210356248762697446949407573530086143415290314195533631308867097853951:Nat):=by omega
   have hy:y<(115792089210356248762697446949407573530086143415290314195533631308867097853951:Nat):=by omega
   have bt:∀ a b:Nat,a<b→Nat.blt a b=true:=fun a b h => by rw [Nat.blt_eq]; exact h
   simp only [go_sem,pc_x,Yb,Z4,Z2,Zz,Zo,Zj]
   refine Za ⟨rfl,fun G => t_sq ((hf' _).app) hx⟩ (fun _ => rfl) ?_
   simp only [go_sem,pc_x,Yb,Z4,Z2,Zz,Zo,Zj]
   refine Za ⟨rfl,fun G => cM ((hf' _).app) (Zh h0 _ _) hx⟩ (fun _ => rfl) ?_
   simp only [go_sem,pc_x,Yb,Z4,Z2,Zz,Zo,Zj]
   refine Za ⟨rfl,fun G => M8 (n:=3) ((hf' _).app) hx (by decide)⟩ (fun _ => rfl) ?_
   simp only [go_sem,pc_x,Yb,Z4,Z2,Zz,Zo,Zj]
   refine Za ⟨rfl,fun G => cS ((hf' _).app) (Zh h0 _ _) (Zh h0 _ _)⟩ (fun _ => rfl) ?_
   simp only [go_sem,pc_x,Yb,Z4,Z2,Zz,Zo,Zj]
   refine Za ⟨rfl,fun G => t_b⟩ (fun _ => rfl) ?_
   simp only [go_sem,pc_x,Yb,Z4,Z2,Zz,Zo,Zj]
   refine Za ⟨rfl,fun G => cA ((hf' _).app) (Zi h0 _ _) (by decide)⟩ (fun _ => rfl) ?_
   simp only [go_sem,pc_y,Yb,Z4,Z2,Zz,Zo,Zj,Ze,Zg,Zb]
   refine Za (t_sq (hf' _) hy) (fun _ => rfl) ?_
   have b1:=Nat.lt_trans (Zh h0 y y) hPP
   have b2:=Nat.lt_trans (Zm h0 (fsub (115792089210356248762697446949407573530086143415290314195533631308867097853951:Nat) (fmul (115792089210356248762697446949407573530086143415290314195533631308867097853951:Nat) (fmul (115792089210356248762697446949407573530086143415290314195533631308867097853951:Nat) x x) x) (fmul (115792089210356248762697446949407573530086143415290314195533631308867097853951:Nat) x 3)) (41058363725152142129326129780047268409114441015993725554835256314039467401291:Nat)) hPP
   simp only [go_sem,Zf,Zb,Za0,Za1 b1 b2]
   refine Zc ?_
   simp only [Sm,cond_false,bt _ _ hx,bt _ _ hy,Bool.true_and,onB,Zmg (115792089210356248762697446949407573530086143415290314195533631308867097853951:Nat) 3 x,low]
   rfl
theorem t_On {H:AH} {x y:Nat} {f:Bool} (hx:x<(18446744073709551616:Nat)^4) (hy:y<(18446744073709551616:Nat)^4):Called Tryz.prog F.point_On [.agg (pcell x y f)] H (Bl (Sm x y f)) H:=by
 refine Zh0 ?_
 simp only [Hk,go_sem,Xk,S1]
 refine Za t_of (fun h => by cases h) ?_
 simp only [go_sem,Yb,Yk]
 have hF:FF (H++[⟨pcell x y f,0,true⟩,⟨fcells (115792089210356248762697446949407573530086143415290314195533631308867097853951:Nat),0,true⟩]) (H.length+1) (115792089210356248762697446949407573530086143415290314195533631308867097853951:Nat):=⟨by simp,by simp only [go_sem]⟩
 refine Za (O6 hF hx hy) (fun _ => rfl) ?_
 simp only [go_sem]
 exact Zc rfl
end Go.Proofs.YtcgjlpdkobmpnaaGreat.Eng
namespace Go.Proofs.YtcgjlpdkobmpnaaGreat.Eng
open Go Go.Proofs
set_option linter.unusedVariables false
set_option linter.unusedSimpArgs false
set_option maxRecDepth 10000
theorem Qt (ren:Nat→Option Nat) (H:AH) (t:J3):lowL ren H (jc t)=jc t:=by simp only [jc,Wp,Sn]
theorem Zil (b:Bool):(b != false)=b:=by cases b <;> rfl
theorem Z4l (x y:Nat):(jc ⟨x,y,0⟩).take 8=num x++num y:=by
 have e:jc ⟨x,y,0⟩=(num x++num y)++num 0:=by simp [jc]
 rw [e,List.take_left' (by simp [Zb])]
theorem Z14 (t:J3):(jc t).drop 12=[]:=List.drop_eq_nil_of_le (by rw [Zw]; exact Nat.le_refl _)
theorem Zw7 (x y:Nat):num x++(num y++[AV.lit (.int .u64 1),Z0,Z0,Z0])=jc ⟨x,y,1⟩:=by
 have e:num 1=[AV.lit (.int .u64 1),Z0,Z0,Z0]:=rfl
 simp [jc,e]
theorem Z13 (m x y z:Nat):jtw m ⟨x,y,z⟩=⟨fsub m (fmul m (fmul m (fmul m (fsub m x (fmul m z z)) (fadd m x (fmul m z z))) 3) (fmul m (fmul m (fsub m x (fmul m z z)) (fadd m x (fmul m z z))) 3)) (fmul m (fmul m x (fmul m y y)) 8),
  fsub m (fmul m (fmul m (fmul m (fsub m x (fmul m z z)) (fadd m x (fmul m z z))) 3) (fsub m (fmul m (fmul m x (fmul m y y)) 4) (fsub m (fmul m (fmul m (fmul m (fsub m x (fmul m z z)) (fadd m x (fmul m z z))) 3) (fmul m (fmul m (fsub m x (fmul m z z)) (fadd m x (fmul m z z))) 3)) (fmul m (fmul m x (fmul m y y)) 8)))) (fmul m (fmul m (fmul m y y) (fmul m y y)) 8),
  fsub m (fsub m (fmul m (fadd m y z) (fadd m y z)) (fmul m y y)) (fmul m z z)⟩:=by simp only [jtw,CheckFast.force_eq]
theorem t_tw {H:AH} {p:Nat} {t:J3} (hf:FF H p (115792089210356248762697446949407573530086143415290314195533631308867097853951:Nat)) (ht:jok (115792089210356248762697446949407573530086143415290314195533631308867097853951:Nat) t):Called Tryz.prog F.point_curve_twice [.agg (crv p),.agg (jc t)] H (.agg (jc (jtw (115792089210356248762697446949407573530086143415290314195533631308867097853951:Nat) t))) H:=by
 refine Ov ?_
 have hf':∀ G,FF (H++G) p (115792089210356248762697446949407573530086143415290314195533631308867097853951:Nat):=fun G => hf.app
 have h0:0<(115792089210356248762697446949407573530086143415290314195533631308867097853951:Nat):=by decide
 obtain ⟨x,y,z⟩:=t
 obtain ⟨hx,hy,hz⟩:=ht
 simp only at hx hy hz
 rw [Z13]
 simp only [Um,go_sem,Z9,Z4,Z2,Zz,Zo,Zj,jc_x,jc_y,jc_z,Zw,Zs,Zf,Ze,Zg,Zb,Nat.add_assoc,Vq,Es,U9,Zqz]
 refine Za ⟨rfl,fun G => t_sq ((hf' _).app) (by first | assumption | exact Zh h0 _ _ | exact Zi h0 _ _ | exact Zm h0 _ _)⟩ (fun _ => rfl) ?_
 simp only [go_sem,Z9,Z4,Z2,Zz,Zo,Zj,jc_x,jc_y,jc_z,Zw,Zs,Zf,Ze,Zg,Zb,Nat.add_assoc]
 refine Za ⟨rfl,fun G => t_sq ((hf' _).app) (by first | assumption | exact Zh h0 _ _ | exact Zi h0 _ _ | exact Zm h0 _ _)⟩ (fun _ => rfl) ?_
 simp only [go_sem,Z9,Z4,Z2,Zz,Zo,Zj,jc_x,jc_y,jc_z,Zw,Zs,Zf,Ze,Zg,Zb,Nat.add_assoc]
 refine Za (cM (hf' _) (by first | assumption | exact Zh h0 _ _ | exact Zi h0 _ _ | exact Zm h0 _ _) (by first | assumption | exact Zh h0 _ _ | exact Zi h0 _ _ | exact Zm h0 _ _)) (fun _ => rfl) ?_
 simp only [go_sem,Z9,Z4,Z2,Zz,Zo,Zj,jc_x,jc_y,jc_z,Zw,Zs,Zf,Ze,Zg,Zb,Nat.add_assoc]
 refine Za ⟨rfl,fun G => cS ((hf' _).app) (by first | assumption | exact Zh h0 _ _ | exact Zi h0 _ _ | exact Zm h0 _ _) (by first | assumption | exact Zh h0 _ _ | exact Zi h0 _ _ | exact Zm h0 _ _)⟩ (fun _ => rfl) ?_
 simp only [go_sem,Z9,Z4,Z2,Zz,Zo,Zj,jc_x,jc_y,jc_z,Zw,Zs,Zf,Ze,Zg,Zb,Nat.add_assoc]
 refine Za ⟨rfl,fun G => cA ((hf' _).app) (by first | assumption | exact Zh h0 _ _ | exact Zi h0 _ _ | exact Zm h0 _ _) (by first | assumption | exact Zh h0 _ _ | exact Zi h0 _ _ | exact Zm h0 _ _)⟩ (fun _ => rfl) ?_
 simp only [go_sem,Z9,Z4,Z2,Zz,Zo,Zj,jc_x,jc_y,jc_z,Zw,Zs,Zf,Ze,Zg,Zb,Nat.add_assoc]
 refine Za ⟨rfl,fun G => cM ((hf' _).app) (by first | assumption | exact Zh h0 _ _ | exact Zi h0 _ _ | exact Zm h0 _ _) (by first | assumption | exact Zh h0 _ _ | exact Zi h0 _ _ | exact Zm h0 _ _)⟩ (fun _ => rfl) ?_
 simp only [go_sem,Z9,Z4,Z2,Zz,Zo,Zj,jc_x,jc_y,jc_z,Zw,Zs,Zf,Ze,Zg,Zb,Nat.add_assoc]
 refine Za ⟨rfl,fun G => M8 (n:=3) ((hf' _).app) (by first | assumption | exact Zh h0 _ _ | exact Zi h0 _ _ | exact Zm h0 _ _) (by decide)⟩ (fun _ => rfl) ?_
 simp only [go_sem,Z9,Z4,Z2,Zz,Zo,Zj,jc_x,jc_y,jc_z,Zw,Zs,Zf,Ze,Zg,Zb,Nat.add_assoc]
 refine Za ⟨rfl,fun G => t_sq ((hf' _).app) (by first | assumption | exact Zh h0 _ _ | exact Zi h0 _ _ | exact Zm h0 _ _)⟩ (fun _ => rfl) ?_
 simp only [go_sem,Z9,Z4,Z2,Zz,Zo,Zj,jc_x,jc_y,jc_z,Zw,Zs,Zf,Ze,Zg,Zb,Nat.add_assoc]
 refine Za ⟨rfl,fun G => M8 (n:=8) ((hf' _).app) (by first | assumption | exact Zh h0 _ _ | exact Zi h0 _ _ | exact Zm h0 _ _) (by decide)⟩ (fun _ => rfl) ?_
 simp only [go_sem,Z9,Z4,Z2,Zz,Zo,Zj,jc_x,jc_y,jc_z,Zw,Zs,Zf,Ze,Zg,Zb,Nat.add_assoc]
 refine Za ⟨rfl,fun G => cS ((hf' _).app) (by first | assumption | exact Zh h0 _ _ | exact Zi h0 _ _ | exact Zm h0 _ _) (by first | assumption | exact Zh h0 _ _ | exact Zi h0 _ _ | exact Zm h0 _ _)⟩ (fun _ => rfl) ?_
 simp only [go_sem,Z9,Z4,Z2,Zz,Zo,Zj,jc_x,jc_y,jc_z,Zw,Zs,Zf,Ze,Zg,Zb,Nat.add_assoc]
 refine Za ⟨rfl,fun G => cA ((hf' _).app) (by first | assumption | exact Zh h0 _ _ | exact Zi h0 _ _ | exact Zm h0 _ _) (by first | assumption | exact Zh h0 _ _ | exact Zi h0 _ _ | exact Zm h0 _ _)⟩ (fun _ => rfl) ?_
 simp only [go_sem,Z9,Z4,Z2,Zz,Zo,Zj,jc_x,jc_y,jc_z,Zw,Zs,Zf,Ze,Zg,Zb,Nat.add_assoc]
 refine Za ⟨rfl,fun G => t_sq ((hf' _).app) (by first | assumption | exact Zh h0 _ _ | exact Zi h0 _ _ | exact Zm h0 _ _)⟩ (fun _ => rfl) ?_
 simp only [go_sem,Z9,Z4,Z2,Zz,Zo,Zj,jc_x,jc_y,jc_z,Zw,Zs,Zf,Ze,Zg,Zb,Nat.add_assoc]
 refine Za ⟨rfl,fun G => cS ((hf' _).app) (by first | assumption | exact Zh h0 _ _ | exact Zi h0 _ _ | exact Zm h0 _ _) (by first | assumption | exact Zh h0 _ _ | exact Zi h0 _ _ | exact Zm h0 _ _)⟩ (fun _ => rfl) ?_
 simp only [go_sem,Z9,Z4,Z2,Zz,Zo,Zj,jc_x,jc_y,jc_z,Zw,Zs,Zf,Ze,Zg,Zb,Nat.add_assoc]
 refine Za ⟨rfl,fun G => cS ((hf' _).app) (by first | assumption | exact Zh h0 _ _ | exact Zi h0 _ _ | exact Zm h0 _ _) (by first | assumption | exact Zh h0 _ _ | exact Zi h0 _ _ | exact Zm h0 _ _)⟩ (fun _ => rfl) ?_
 simp only [go_sem,Z9,Z4,Z2,Zz,Zo,Zj,jc_x,jc_y,jc_z,Zw,Zs,Zf,Ze,Zg,Zb,Nat.add_assoc]
 refine Za ⟨rfl,fun G => M8 (n:=4) ((hf' _).app) (by first | assumption | exact Zh h0 _ _ | exact Zi h0 _ _ | exact Zm h0 _ _) (by decide)⟩ (fun _ => rfl) ?_
 simp only [go_sem,Z9,Z4,Z2,Zz,Zo,Zj,jc_x,jc_y,jc_z,Zw,Zs,Zf,Ze,Zg,Zb,Nat.add_assoc]
 refine Za ⟨rfl,fun G => cS ((hf' _).app) (by first | assumption | exact Zh h0 _ _ | exact Zi h0 _ _ | exact Zm h0 _ _) (by first | assumption | exact Zh h0 _ _ | exact Zi h0 _ _ | exact Zm h0 _ _)⟩ (fun _ => rfl) ?_
 simp only [go_sem,Z9,Z4,Z2,Zz,Zo,Zj,jc_x,jc_y,jc_z,Zw,Zs,Zf,Ze,Zg,Zb,Nat.add_assoc]
 refine Za ⟨rfl,fun G => cM ((hf' _).app) (by first | assumption | exact Zh h0 _ _ | exact Zi h0 _ _ | exact Zm h0 _ _) (by first | assumption | exact Zh h0 _ _ | exact Zi h0 _ _ | exact Zm h0 _ _)⟩ (fun _ => rfl) ?_
 simp only [go_sem,Z9,Z4,Z2,Zz,Zo,Zj,jc_x,jc_y,jc_z,Zw,Zs,Zf,Ze,Zg,Zb,Nat.add_assoc]
 refine Za ⟨rfl,fun G => t_sq ((hf' _).app) (by first | assumption | exact Zh h0 _ _ | exact Zi h0 _ _ | exact Zm h0 _ _)⟩ (fun _ => rfl) ?_
 simp only [go_sem,Z9,Z4,Z2,Zz,Zo,Zj,jc_x,jc_y,jc_z,Zw,Zs,Zf,Ze,Zg,Zb,Nat.add_assoc]
 refine Za ⟨rfl,fun G => M8 (n:=8) ((hf' _).app) (by first | assumption | exact Zh h0 _ _ | exact Zi h0 _ _ | exact Zm h0 _ _) (by decide)⟩ (fun _ => rfl) ?_
 simp only [go_sem,Z9,Z4,Z2,Zz,Zo,Zj,jc_x,jc_y,jc_z,Zw,Zs,Zf,Ze,Zg,Zb,Nat.add_assoc]
 refine Za ⟨rfl,fun G => cS ((hf' _).app) (by first | assumption | exact Zh h0 _ _ | exact Zi h0 _ _ | exact Zm h0 _ _) (by first | assumption | exact Zh h0 _ _ | exact Zi h0 _ _ | exact Zm h0 _ _)⟩ (fun _ => rfl) ?_
 simp only [go_sem,Z9,Z4,Z2,Zz,Zo,Zj,jc_x,jc_y,jc_z,Zw,Zs,Zf,Ze,Zg,Zb,Nat.add_assoc]
 simp only [go_sem,Zr,fillv,Zcj,Zci,Zch,Ko,U9,Zw,Zs,Zg,Zb]
 exact Zc (by simp only [low,Qt])
theorem Z0n {H:AH} {t:J3} (hz:t.z<(18446744073709551616:Nat)^4):Called Tryz.prog F.point_three_far [.agg (jc t)] H (Bl (t.z == 0)) H:=by
 refine Lx ?_
 simp only [Tw,go_sem,U9,Zqz,Zw,jc_z,fillv,C3,Gu hz]
 refine Zc ?_
 simp only [low,AV.lit.injEq,Value.bool.injEq,Bool.bne_false]
 rfl
theorem Zw6 (m x y z x' y' z':Nat):jsum m ⟨x,y,z⟩ ⟨x',y',z'⟩=bif z == 0 then ⟨x',y',z'⟩ else bif z' == 0 then ⟨x,y,z⟩ else
  bif fsub m (fmul m x' (fmul m z z)) (fmul m x (fmul m z' z')) == 0 then (bif fsub m (fmul m y' (fmul m (fmul m z z) z)) (fmul m y (fmul m (fmul m z' z') z')) == 0 then jtw m ⟨x,y,z⟩ else ⟨0,0,0⟩) else
  let u:=fmul m x (fmul m z' z')
  let h:=fsub m (fmul m x' (fmul m z z)) u
  let v:=fmul m y (fmul m (fmul m z' z') z')
  let r:=fsub m (fmul m y' (fmul m (fmul m z z) z)) v
  let hh:=fmul m h h
  let hhh:=fmul m hh h
  let uh:=fmul m u hh
  let x3:=fsub m (fsub m (fmul m r r) hhh) (fmul m uh 2)
  ⟨x3,fsub m (fmul m r (fsub m uh x3)) (fmul m v hhh),fmul m h (fmul m z z')⟩:=by simp only [jsum,CheckFast.force_eq]
theorem Zzy {H:AH} {p:Nat} {s t:J3} (hf:FF H p (115792089210356248762697446949407573530086143415290314195533631308867097853951:Nat)) (hs:jok (115792089210356248762697446949407573530086143415290314195533631308867097853951:Nat) s) (ht:jok (115792089210356248762697446949407573530086143415290314195533631308867097853951:Nat) t):Called Tryz.prog F.point_curve_sum [.agg (crv p),.agg (jc s),.agg (jc t)] H (.agg (jc (jsum (115792089210356248762697446949407573530086143415290314195533631308867097853951:Nat) s t))) H:=by
 refine Ly ?_
 have hf':∀ G,FF (H++G) p (115792089210356248762697446949407573530086143415290314195533631308867097853951:Nat):=fun G => hf.app
 have h0:0<(115792089210356248762697446949407573530086143415290314195533631308867097853951:Nat):=by decide
 have hs':=hs
 obtain ⟨x,y,z⟩:=s
 obtain ⟨x',y',z'⟩:=t
 obtain ⟨hx,hy,hz⟩:=hs
 obtain ⟨hx',hy',hz'⟩:=ht
 simp only at hx hy hz hx' hy' hz'
 rw [Zw6]
 simp only [Tx,go_sem,Z9,Z4,Z2,Zz,Zo,Zj,jc_x,jc_y,jc_z,Zw,Zs,Zf,Ze,Zg,Zb,Nat.add_assoc,Vq,Es,U9,Zqz]
 refine Za (Z0n (ltP hz)) (fun _ => rfl) ?_
 simp only [go_sem,Z9,Z4,Z2,Zz,Zo,Zj,jc_x,jc_y,jc_z,Zw,Zs,Zf,Ze,Zg,Zb,Nat.add_assoc]
 refine ⟨fun h1 => ?_,fun h1 => ?_⟩
 ·rw [h1]
  simp only [go_sem,Z9,Z4,Z2,Zz,Zo,Zj,jc_x,jc_y,jc_z,Zw,Zs,Zf,Ze,Zg,Zb,Nat.add_assoc,U9,Ko,cond_true]
  exact Zc (by simp only [low,Qt])
 rw [h1]
 refine Za (Z0n (ltP hz')) (fun _ => rfl) ?_
 simp only [go_sem,Z9,Z4,Z2,Zz,Zo,Zj,jc_x,jc_y,jc_z,Zw,Zs,Zf,Ze,Zg,Zb,Nat.add_assoc]
 refine ⟨fun h2 => ?_,fun h2 => ?_⟩
 ·rw [h2]
  simp only [go_sem,Z9,Z4,Z2,Zz,Zo,Zj,jc_x,jc_y,jc_z,Zw,Zs,Zf,Ze,Zg,Zb,Nat.add_assoc,U9,Ko,cond_true,cond_false]
  exact Zc (by simp only [low,Qt])
 rw [h2]
 simp only [go_sem,Z9,Z4,Z2,Zz,Zo,Zj,jc_x,jc_y,jc_z,Zw,Zs,Zf,Ze,Zg,Zb,Nat.add_assoc,cond_false]
 refine Za ⟨rfl,fun G => t_sq ((hf' _).app) (by first | assumption | exact Zh h0 _ _ | exact Zi h0 _ _ | exact Zm h0 _ _)⟩ (fun _ => rfl) ?_
 simp only [go_sem,Z9,Z4,Z2,Zz,Zo,Zj,jc_x,jc_y,jc_z,Zw,Zs,Zf,Ze,Zg,Zb,Nat.add_assoc]
 refine Za ⟨rfl,fun G => t_sq ((hf' _).app) (by first | assumption | exact Zh h0 _ _ | exact Zi h0 _ _ | exact Zm h0 _ _)⟩ (fun _ => rfl) ?_
 simp only [go_sem,Z9,Z4,Z2,Zz,Zo,Zj,jc_x,jc_y,jc_z,Zw,Zs,Zf,Ze,Zg,Zb,Nat.add_assoc]
 refine Za ⟨rfl,fun G => cM ((hf' _).app) (by first | assumption | exact Zh h0 _ _ | exact Zi h0 _ _ | exact Zm h0 _ _) (by first | assumption | exact Zh h0 _ _ | exact Zi h0 _ _ | exact Zm h0 _ _)⟩ (fun _ => rfl) ?_
 simp only [go_sem,Z9,Z4,Z2,Zz,Zo,Zj,jc_x,jc_y,jc_z,Zw,Zs,Zf,Ze,Zg,Zb,Nat.add_assoc]
 refine Za ⟨rfl,fun G => cM ((hf' _).app) (by first | assumption | exact Zh h0 _ _ | exact Zi h0 _ _ | exact Zm h0 _ _) (by first | assumption | exact Zh h0 _ _ | exact Zi h0 _ _ | exact Zm h0 _ _)⟩ (fun _ => rfl) ?_
 simp only [go_sem,Z9,Z4,Z2,Zz,Zo,Zj,jc_x,jc_y,jc_z,Zw,Zs,Zf,Ze,Zg,Zb,Nat.add_assoc]
 refine Za ⟨rfl,fun G => cM ((hf' _).app) (by first | assumption | exact Zh h0 _ _ | exact Zi h0 _ _ | exact Zm h0 _ _) (by first | assumption | exact Zh h0 _ _ | exact Zi h0 _ _ | exact Zm h0 _ _)⟩ (fun _ => rfl) ?_
 simp only [go_sem,Z9,Z4,Z2,Zz,Zo,Zj,jc_x,jc_y,jc_z,Zw,Zs,Zf,Ze,Zg,Zb,Nat.add_assoc]
 refine Za ⟨rfl,fun G => cM ((hf' _).app) (by first | assumption | exact Zh h0 _ _ | exact Zi h0 _ _ | exact Zm h0 _ _) (by first | assumption | exact Zh h0 _ _ | exact Zi h0 _ _ | exact Zm h0 _ _)⟩ (fun _ => rfl) ?_
 simp only [go_sem,Z9,Z4,Z2,Zz,Zo,Zj,jc_x,jc_y,jc_z,Zw,Zs,Zf,Ze,Zg,Zb,Nat.add_assoc]
 refine Za ⟨rfl,fun G => cM ((hf' _).app) (by first | assumption | exact Zh h0 _ _ | exact Zi h0 _ _ | exact Zm h0 _ _) (by first | assumption | exact Zh h0 _ _ | exact Zi h0 _ _ | exact Zm h0 _ _)⟩ (fun _ => rfl) ?_
 simp only [go_sem,Z9,Z4,Z2,Zz,Zo,Zj,jc_x,jc_y,jc_z,Zw,Zs,Zf,Ze,Zg,Zb,Nat.add_assoc]
 refine Za ⟨rfl,fun G => cM ((hf' _).app) (by first | assumption | exact Zh h0 _ _ | exact Zi h0 _ _ | exact Zm h0 _ _) (by first | assumption | exact Zh h0 _ _ | exact Zi h0 _ _ | exact Zm h0 _ _)⟩ (fun _ => rfl) ?_
 simp only [go_sem,Z9,Z4,Z2,Zz,Zo,Zj,jc_x,jc_y,jc_z,Zw,Zs,Zf,Ze,Zg,Zb,Nat.add_assoc]
 refine Za (cS (hf' _) (by first | assumption | exact Zh h0 _ _ | exact Zi h0 _ _ | exact Zm h0 _ _) (by first | assumption | exact Zh h0 _ _ | exact Zi h0 _ _ | exact Zm h0 _ _)) (fun _ => rfl) ?_
 simp only [go_sem,Z9,Z4,Z2,Zz,Zo,Zj,jc_x,jc_y,jc_z,Zw,Zs,Zf,Ze,Zg,Zb,Nat.add_assoc]
 refine Za (cS (hf' _) (by first | assumption | exact Zh h0 _ _ | exact Zi h0 _ _ | exact Zm h0 _ _) (by first | assumption | exact Zh h0 _ _ | exact Zi h0 _ _ | exact Zm h0 _ _)) (fun _ => rfl) ?_
 simp only [go_sem,Z9,Z4,Z2,Zz,Zo,Zj,jc_x,jc_y,jc_z,Zw,Zs,Zf,Ze,Zg,Zb,Nat.add_assoc]
 have lh:fsub (115792089210356248762697446949407573530086143415290314195533631308867097853951:Nat) (fmul (115792089210356248762697446949407573530086143415290314195533631308867097853951:Nat) x' (fmul (115792089210356248762697446949407573530086143415290314195533631308867097853951:Nat) z z)) (fmul (115792089210356248762697446949407573530086143415290314195533631308867097853951:Nat) x (fmul (115792089210356248762697446949407573530086143415290314195533631308867097853951:Nat) z' z'))<(115792089210356248762697446949407573530086143415290314195533631308867097853951:Nat):=Zi h0 _ _
 have lr:fsub (115792089210356248762697446949407573530086143415290314195533631308867097853951:Nat) (fmul (115792089210356248762697446949407573530086143415290314195533631308867097853951:Nat) y' (fmul (115792089210356248762697446949407573530086143415290314195533631308867097853951:Nat) (fmul (115792089210356248762697446949407573530086143415290314195533631308867097853951:Nat) z z) z)) (fmul (115792089210356248762697446949407573530086143415290314195533631308867097853951:Nat) y (fmul (115792089210356248762697446949407573530086143415290314195533631308867097853951:Nat) (fmul (115792089210356248762697446949407573530086143415290314195533631308867097853951:Nat) z' z') z'))<(115792089210356248762697446949407573530086143415290314195533631308867097853951:Nat):=Zi h0 _ _
 have lu:fmul (115792089210356248762697446949407573530086143415290314195533631308867097853951:Nat) x (fmul (115792089210356248762697446949407573530086143415290314195533631308867097853951:Nat) z' z')<(115792089210356248762697446949407573530086143415290314195533631308867097853951:Nat):=Zh h0 _ _
 have lv:fmul (115792089210356248762697446949407573530086143415290314195533631308867097853951:Nat) y (fmul (115792089210356248762697446949407573530086143415290314195533631308867097853951:Nat) (fmul (115792089210356248762697446949407573530086143415290314195533631308867097853951:Nat) z' z') z')<(115792089210356248762697446949407573530086143415290314195533631308867097853951:Nat):=Zh h0 _ _
 generalize fsub (115792089210356248762697446949407573530086143415290314195533631308867097853951:Nat) (fmul (115792089210356248762697446949407573530086143415290314195533631308867097853951:Nat) x' (fmul (115792089210356248762697446949407573530086143415290314195533631308867097853951:Nat) z z)) (fmul (115792089210356248762697446949407573530086143415290314195533631308867097853951:Nat) x (fmul (115792089210356248762697446949407573530086143415290314195533631308867097853951:Nat) z' z'))=h at *
 generalize fsub (115792089210356248762697446949407573530086143415290314195533631308867097853951:Nat) (fmul (115792089210356248762697446949407573530086143415290314195533631308867097853951:Nat) y' (fmul (115792089210356248762697446949407573530086143415290314195533631308867097853951:Nat) (fmul (115792089210356248762697446949407573530086143415290314195533631308867097853951:Nat) z z) z)) (fmul (115792089210356248762697446949407573530086143415290314195533631308867097853951:Nat) y (fmul (115792089210356248762697446949407573530086143415290314195533631308867097853951:Nat) (fmul (115792089210356248762697446949407573530086143415290314195533631308867097853951:Nat) z' z') z'))=r at *
 generalize fmul (115792089210356248762697446949407573530086143415290314195533631308867097853951:Nat) x (fmul (115792089210356248762697446949407573530086143415290314195533631308867097853951:Nat) z' z')=u at *
 generalize fmul (115792089210356248762697446949407573530086143415290314195533631308867097853951:Nat) y (fmul (115792089210356248762697446949407573530086143415290314195533631308867097853951:Nat) (fmul (115792089210356248762697446949407573530086143415290314195533631308867097853951:Nat) z' z') z')=v at *
 simp only [go_sem,Z9,Z4,Z2,Zz,Zo,Zj,jc_x,jc_y,jc_z,Zw,Zs,Zf,Ze,Zg,Zb,Nat.add_assoc,Vy,C3,Gu (ltP lh),Gu (ltP lr),fillv,Zil]
 refine ⟨fun h3 => ?_,fun h3 => ?_⟩
 ·have h3:h=0∧r=0:=by simpa using h3
  obtain ⟨rfl,rfl⟩:=h3
  refine Za (t_tw (hf' _) hs') (fun _ => rfl) ?_
  simp only [go_sem,Z9,Z4,Z2,Zz,Zo,Zj,jc_x,jc_y,jc_z,Zw,Zs,Zf,Ze,Zg,Zb,Nat.add_assoc,Ko,U9]
  exact Zc (by simp only [low,Qt]; rfl)
 refine ⟨fun h4 => ?_,fun h4 => ?_⟩
 ·subst h4
  have hr:(r == 0)=false:=by
   have:r≠0:=by simpa using h3
   exact beq_eq_false_iff_ne.2 this
  rw [hr]
  have ez:ZJ=jc ⟨0,0,0⟩:=rfl
  simp only [go_sem,Z9,Z4,Z2,Zz,Zo,Zj,jc_x,jc_y,jc_z,Zw,Zs,Zf,Ze,Zg,Zb,Nat.add_assoc,Ko,U9,ez,D5]
  exact Zc (by simp only [low,Qt]; rfl)
 have hh:(h == 0)=false:=beq_eq_false_iff_ne.2 (by simpa using h4)
 rw [hh]
 simp only [cond_false]
 refine Za (t_sq (hf' _) (by first | assumption | exact Zh h0 _ _ | exact Zi h0 _ _ | exact Zm h0 _ _)) (fun _ => rfl) ?_
 simp only [go_sem,Z9,Z4,Z2,Zz,Zo,Zj,jc_x,jc_y,jc_z,Zw,Zs,Zf,Ze,Zg,Zb,Nat.add_assoc]
 refine Za ⟨rfl,fun G => cM ((hf' _).app) (by first | assumption | exact Zh h0 _ _ | exact Zi h0 _ _ | exact Zm h0 _ _) (by first | assumption | exact Zh h0 _ _ | exact Zi h0 _ _ | exact Zm h0 _ _)⟩ (fun _ => rfl) ?_
 simp only [go_sem,Z9,Z4,Z2,Zz,Zo,Zj,jc_x,jc_y,jc_z,Zw,Zs,Zf,Ze,Zg,Zb,Nat.add_assoc]
 refine Za ⟨rfl,fun G => cM ((hf' _).app) (by first | assumption | exact Zh h0 _ _ | exact Zi h0 _ _ | exact Zm h0 _ _) (by first | assumption | exact Zh h0 _ _ | exact Zi h0 _ _ | exact Zm h0 _ _)⟩ (fun _ => rfl) ?_
 simp only [go_sem,Z9,Z4,Z2,Zz,Zo,Zj,jc_x,jc_y,jc_z,Zw,Zs,Zf,Ze,Zg,Zb,Nat.add_assoc]
 refine Za ⟨rfl,fun G => t_sq ((hf' _).app) (by first | assumption | exact Zh h0 _ _ | exact Zi h0 _ _ | exact Zm h0 _ _)⟩ (fun _ => rfl) ?_
 simp only [go_sem,Z9,Z4,Z2,Zz,Zo,Zj,jc_x,jc_y,jc_z,Zw,Zs,Zf,Ze,Zg,Zb,Nat.add_assoc]
 refine Za ⟨rfl,fun G => cS ((hf' _).app) (by first | assumption | exact Zh h0 _ _ | exact Zi h0 _ _ | exact Zm h0 _ _) (by first | assumption | exact Zh h0 _ _ | exact Zi h0 _ _ | exact Zm h0 _ _)⟩ (fun _ => rfl) ?_
 simp only [go_sem,Z9,Z4,Z2,Zz,Zo,Zj,jc_x,jc_y,jc_z,Zw,Zs,Zf,Ze,Zg,Zb,Nat.add_assoc]
 refine Za ⟨rfl,fun G => M8 (n:=2) ((hf' _).app) (by first | assumption | exact Zh h0 _ _ | exact Zi h0 _ _ | exact Zm h0 _ _) (by decide)⟩ (fun _ => rfl) ?_
 simp only [go_sem,Z9,Z4,Z2,Zz,Zo,Zj,jc_x,jc_y,jc_z,Zw,Zs,Zf,Ze,Zg,Zb,Nat.add_assoc]
 refine Za ⟨rfl,fun G => cS ((hf' _).app) (by first | assumption | exact Zh h0 _ _ | exact Zi h0 _ _ | exact Zm h0 _ _) (by first | assumption | exact Zh h0 _ _ | exact Zi h0 _ _ | exact Zm h0 _ _)⟩ (fun _ => rfl) ?_
 simp only [go_sem,Z9,Z4,Z2,Zz,Zo,Zj,jc_x,jc_y,jc_z,Zw,Zs,Zf,Ze,Zg,Zb,Nat.add_assoc]
 refine Za ⟨rfl,fun G => cS ((hf' _).app) (by first | assumption | exact Zh h0 _ _ | exact Zi h0 _ _ | exact Zm h0 _ _) (by first | assumption | exact Zh h0 _ _ | exact Zi h0 _ _ | exact Zm h0 _ _)⟩ (fun _ => rfl) ?_
 simp only [go_sem,Z9,Z4,Z2,Zz,Zo,Zj,jc_x,jc_y,jc_z,Zw,Zs,Zf,Ze,Zg,Zb,Nat.add_assoc]
 refine Za ⟨rfl,fun G => cM ((hf' _).app) (by first | assumption | exact Zh h0 _ _ | exact Zi h0 _ _ | exact Zm h0 _ _) (by first | assumption | exact Zh h0 _ _ | exact Zi h0 _ _ | exact Zm h0 _ _)⟩ (fun _ => rfl) ?_
 simp only [go_sem,Z9,Z4,Z2,Zz,Zo,Zj,jc_x,jc_y,jc_z,Zw,Zs,Zf,Ze,Zg,Zb,Nat.add_assoc]
 refine Za ⟨rfl,fun G => cM ((hf' _).app) (by first | assumption | exact Zh h0 _ _ | exact Zi h0 _ _ | exact Zm h0 _ _) (by first | assumption | exact Zh h0 _ _ | exact Zi h0 _ _ | exact Zm h0 _ _)⟩ (fun _ => rfl) ?_
 simp only [go_sem,Z9,Z4,Z2,Zz,Zo,Zj,jc_x,jc_y,jc_z,Zw,Zs,Zf,Ze,Zg,Zb,Nat.add_assoc]
 refine Za ⟨rfl,fun G => cS ((hf' _).app) (by first | assumption | exact Zh h0 _ _ | exact Zi h0 _ _ | exact Zm h0 _ _) (by first | assumption | exact Zh h0 _ _ | exact Zi h0 _ _ | exact Zm h0 _ _)⟩ (fun _ => rfl) ?_
 simp only [go_sem,Z9,Z4,Z2,Zz,Zo,Zj,jc_x,jc_y,jc_z,Zw,Zs,Zf,Ze,Zg,Zb,Nat.add_assoc]
 refine Za (cM (hf' _) (by first | assumption | exact Zh h0 _ _ | exact Zi h0 _ _ | exact Zm h0 _ _) (by first | assumption | exact Zh h0 _ _ | exact Zi h0 _ _ | exact Zm h0 _ _)) (fun _ => rfl) ?_
 simp only [go_sem,Z9,Z4,Z2,Zz,Zo,Zj,jc_x,jc_y,jc_z,Zw,Zs,Zf,Ze,Zg,Zb,Nat.add_assoc]
 refine Za (cM (hf' _) (by first | assumption | exact Zh h0 _ _ | exact Zi h0 _ _ | exact Zm h0 _ _) (by first | assumption | exact Zh h0 _ _ | exact Zi h0 _ _ | exact Zm h0 _ _)) (fun _ => rfl) ?_
 simp only [go_sem,Z9,Z4,Z2,Zz,Zo,Zj,jc_x,jc_y,jc_z,Zw,Zs,Zf,Ze,Zg,Zb,Nat.add_assoc]
 simp only [go_sem,Zr,fillv,Zcj,Zci,Zch,Ko,U9,Zw,Zs,Zg,Zb]
 exact Zc (by simp only [low,Qt])
theorem Zjc {H:AH} {x y:Nat} {f:Bool}:Called Tryz.prog F.point_lift [.agg (pcell x y f)] H (.agg (jc (lift (bif f then .far else .pt x y)))) H:=by
 refine A8 ?_
 simp only [Ma,go_sem,Xk,S1,Yb,pc_f,Zr,fillv]
 have ez:ZJ=jc ⟨0,0,0⟩:=rfl
 have e1:splice (jc ⟨x,y,0⟩) 8 [.lit (.int .u64 1),Z0,Z0,Z0]=jc ⟨x,y,1⟩:=Zch x y 0 1
 refine ⟨fun h => ?_,fun h => ?_⟩
 ·subst h
  simp only [go_sem,ez,D5,U9,Zw,Zs]
  exact Zc (by simp only [low,Qt]; rfl)
 ·subst h
  simp only [go_sem,Yb,pc_x,pc_y,Zb,Zg,Zcj,Zci]
  simp only [Z4l,Z14,List.append_nil,Zw7,Ko,U9,Zw,Zs,go_sem]
  exact ⟨by simp [Zb],Zc (by simp only [low,Qt]; rfl)⟩
end Go.Proofs.YtcgjlpdkobmpnaaGreat.Eng
namespace Go.Proofs.YtcgjlpdkobmpnaaGreat.Eng
open Go Go.Proofs
set_option linter.unusedVariables false
set_option linter.unusedSimpArgs false
set_option maxRecDepth 10000
def ptc (a:Aff):List AV:=pcell a.x a.y a.isFar
theorem Zv9:ptc .far=pcell 0 0 true:=rfl
theorem Z09 (x y:Nat):ptc (.pt x y)=pcell x y false:=rfl
theorem Zcc (ren:Nat→Option Nat) (H:AH) (x y:Nat) (f:Bool):lowL ren H (pcell x y f)=pcell x y f:=by
 simp only [pcell,Wp,Sn]; rfl
theorem nogcd:¬ Nat.gcd 0 (115792089210356248762697446949407573530086143415290314195533631308867097853951:Nat)=1:=by rw [Nat.gcd_zero_left]; decide
theorem Zth {H:AH} {p:Nat} {t:J3} (hf:FF H p (115792089210356248762697446949407573530086143415290314195533631308867097853951:Nat)) (ht:jok (115792089210356248762697446949407573530086143415290314195533631308867097853951:Nat) t):Called Tryz.prog F.point_curve_flat [.agg (crv p),.agg (jc t)] H (.agg (ptc (jflat (115792089210356248762697446949407573530086143415290314195533631308867097853951:Nat) t))) H:=by
 refine Mq ?_
 have hf':∀ G,FF (H++G) p (115792089210356248762697446949407573530086143415290314195533631308867097853951:Nat):=fun G => hf.app
 have h0:0<(115792089210356248762697446949407573530086143415290314195533631308867097853951:Nat):=by decide
 obtain ⟨x,y,z⟩:=t
 obtain ⟨hx,hy,hz⟩:=ht
 simp only at hx hy hz
 simp only [Tb,go_sem,Z9,Z4,Z2,Zz,Zo,Zj,jc_x,jc_y,jc_z,Zw,Zs,Zf,Ze,Zg,Zb,Nat.add_assoc,Vq,Es,U9,Zqz]
 refine Za (Z0c (hf' _).fd mo_P.lt mo_P.gt mo_P.odd (ltP hz)) (fun _ => rfl) ?_
 rw [Nat.mod_eq_of_lt hz]
 by_cases hz0:z=0
 ·subst hz0
  rw [if_neg nogcd]
  have eF:[Z0,Z0,Z0,Z0,Z0,Z0,Z0,Z0,Bl true]=pcell 0 0 true:=rfl
  have ej:jflat (115792089210356248762697446949407573530086143415290314195533631308867097853951:Nat) ⟨x,y,0⟩=.far:=by rw [jflat,if_pos rfl]
  rw [ej,Zv9]
  simp only [go_sem,Z9,Z4,Z2,Zz,Zo,Zj,jc_x,jc_y,jc_z,Zw,Zs,Zf,Ze,Zg,Zb,Nat.add_assoc,Zr,fillv,eF,Pw,Xk,Yb,Yk]
  exact Zc (by simp only [low,Zcc])
 ·rw [if_pos (Dq Zbw (by rw [Nat.mod_eq_of_lt hz]; exact hz0))]
  have hi:=(S2 (Zbv Zbw (Nat.pos_of_ne_zero hz0) hz)).1
  have ej:jflat (115792089210356248762697446949407573530086143415290314195533631308867097853951:Nat) ⟨x,y,z⟩=.pt (fmul (115792089210356248762697446949407573530086143415290314195533631308867097853951:Nat) x (fmul (115792089210356248762697446949407573530086143415290314195533631308867097853951:Nat) (minv (115792089210356248762697446949407573530086143415290314195533631308867097853951:Nat) z) (minv (115792089210356248762697446949407573530086143415290314195533631308867097853951:Nat) z))) (fmul (115792089210356248762697446949407573530086143415290314195533631308867097853951:Nat) y (fmul (115792089210356248762697446949407573530086143415290314195533631308867097853951:Nat) (fmul (115792089210356248762697446949407573530086143415290314195533631308867097853951:Nat) (minv (115792089210356248762697446949407573530086143415290314195533631308867097853951:Nat) z) (minv (115792089210356248762697446949407573530086143415290314195533631308867097853951:Nat) z)) (minv (115792089210356248762697446949407573530086143415290314195533631308867097853951:Nat) z))):=by rw [jflat,if_neg hz0]
  rw [ej,Z09]
  generalize minv (115792089210356248762697446949407573530086143415290314195533631308867097853951:Nat) z=i at *
  simp only [go_sem,Z9,Z4,Z2,Zz,Zo,Zj,jc_x,jc_y,jc_z,Zw,Zs,Zf,Ze,Zg,Zb,Nat.add_assoc,Zr,fillv]
  refine Za (t_sq (hf' _) (by first | assumption | exact Zh h0 _ _ | exact Zi h0 _ _ | exact Zm h0 _ _)) (fun _ => rfl) ?_
  simp only [go_sem,Z9,Z4,Z2,Zz,Zo,Zj,jc_x,jc_y,jc_z,Zw,Zs,Zf,Ze,Zg,Zb,Nat.add_assoc]
  refine Za (cM (hf' _) (by first | assumption | exact Zh h0 _ _ | exact Zi h0 _ _ | exact Zm h0 _ _) (by first | assumption | exact Zh h0 _ _ | exact Zi h0 _ _ | exact Zm h0 _ _)) (fun _ => rfl) ?_
  simp only [go_sem,Z9,Z4,Z2,Zz,Zo,Zj,jc_x,jc_y,jc_z,Zw,Zs,Zf,Ze,Zg,Zb,Nat.add_assoc]
  refine Za (cM (hf' _) (by first | assumption | exact Zh h0 _ _ | exact Zi h0 _ _ | exact Zm h0 _ _) (by first | assumption | exact Zh h0 _ _ | exact Zi h0 _ _ | exact Zm h0 _ _)) (fun _ => rfl) ?_
  simp only [go_sem,Z9,Z4,Z2,Zz,Zo,Zj,jc_x,jc_y,jc_z,Zw,Zs,Zf,Ze,Zg,Zb,Nat.add_assoc]
  refine Za (cM (hf' _) (by first | assumption | exact Zh h0 _ _ | exact Zi h0 _ _ | exact Zm h0 _ _) (by first | assumption | exact Zh h0 _ _ | exact Zi h0 _ _ | exact Zm h0 _ _)) (fun _ => rfl) ?_
  simp only [go_sem,Z9,Z4,Z2,Zz,Zo,Zj,jc_x,jc_y,jc_z,Zw,Zs,Zf,Ze,Zg,Zb,Nat.add_assoc]
  simp only [Zr,fillv,Zwh,Zwg,Pw,Xk,Yb,Yk,go_sem,Zb,Zg]
  exact Zc (by simp only [low,Zcc])
theorem Zqy (m:Nat) (t:J3) (n k:Nat):jmk m t (n+1) k=if k%2=1 then jsum m (jtw m (jmk m t n (k / 2))) t else jtw m (jmk m t n (k / 2)):=by
 have h2:=Nat.mod_lt k (show 0<2 by decide)
 rw [jmk]
 split
 ·rename_i e; rw [if_neg (by omega)]
 ·rename_i e; rw [if_pos (by omega)]
def toA (x y:Nat) (f:Bool):Aff:=bif f then .far else .pt x y
theorem Ba {x y:Nat} {f:Bool} (h:Sm x y f=true):onP (toA x y f)∧ptc (toA x y f)=pcell x y f:=by
 cases f with
 | true =>
  simp only [Sm,cond_true,Bool.and_eq_true,beq_iff_eq] at h
  obtain ⟨rfl,rfl⟩:=h
  exact ⟨trivial,rfl⟩
 | false =>
  simp only [Sm,cond_false,Bool.and_eq_true,Nat.blt_eq] at h
  exact ⟨⟨h.1.1,h.1.2,h.2⟩,rfl⟩
theorem Zin {k:Nat} (h:k<(18446744073709551616:Nat)^4):blen k≤256:=by
 unfold blen
 split
 ·omega
 ·rename_i hne
  have e:(18446744073709551616:Nat)^4=2^256:=by decide +kernel
  have:=(Nat.log2_lt hne).2 (e ▸ h)
  omega
theorem Zb8 {k:Nat} {a:Aff} (ha:onP a):jflat (115792089210356248762697446949407573530086143415290314195533631308867097853951:Nat) (jmk (115792089210356248762697446949407573530086143415290314195533631308867097853951:Nat) (lift a) (blen k) k)=mulA k a∧onP (mulA k a):=by
 haveI:NeZero (115792089210356248762697446949407573530086143415290314195533631308867097853951:Nat):=⟨by decide⟩
 obtain ⟨h1,h2⟩:=Ztt (p:=(115792089210356248762697446949407573530086143415290314195533631308867097853951:Nat)) Zbw (by decide) (b:=(41058363725152142129326129780047268409114441015993725554835256314039467401291:Nat)) (by decide) (Ou (by decide) ha) ha (Nx a) (blen k) k
 exact ⟨Ai (p:=(115792089210356248762697446949407573530086143415290314195533631308867097853951:Nat)) Zbw (b:=(41058363725152142129326129780047268409114441015993725554835256314039467401291:Nat)) (Ze8 (Ou (p:=(115792089210356248762697446949407573530086143415290314195533631308867097853951:Nat)) (b:=(41058363725152142129326129780047268409114441015993725554835256314039467401291:Nat)) (by decide) ha) _ _) h2 h1,h2⟩
end Go.Proofs.YtcgjlpdkobmpnaaGreat.Eng
namespace Go.Proofs.YtcgjlpdkobmpnaaGreat.Eng
open Go Go.Proofs
set_option linter.unusedVariables false
set_option linter.unusedSimpArgs false
set_option maxRecDepth 10000
theorem Zeu {H G:AH} {a:Aff}:low (renk H.length []) (H++G) (.tup [.agg (ptc a),nilE])=.tup [.agg (ptc a),nilE]:=by
 simp only [low,lowL,ptc,Zcc]
theorem Ztb {H:AH} {k x y:Nat} {f:Bool} (hk:k<(18446744073709551616:Nat)^4) (hx:x<(18446744073709551616:Nat)^4) (hy:y<(18446744073709551616:Nat)^4) (hon:Sm x y f=true):Called Tryz.prog F.point_Mul [.agg (num k),.agg (pcell x y f)] H (.tup [.agg (ptc (mulA k (toA x y f))),nilE]) H:=by
 refine Zc2 ?_
 have h0:0<(115792089210356248762697446949407573530086143415290314195533631308867097853951:Nat):=by decide
 obtain ⟨ha,hp⟩:=Ba hon
 obtain ⟨hm,_⟩:=Zb8 (k:=k) ha
 have hl:jok (115792089210356248762697446949407573530086143415290314195533631308867097853951:Nat) (lift (toA x y f)):=Ou (p:=(115792089210356248762697446949407573530086143415290314195533631308867097853951:Nat)) (b:=(41058363725152142129326129780047268409114441015993725554835256314039467401291:Nat)) (by decide) ha
 have hb:=Zin hk
 simp only [Ks,go_sem,Zg,Xf,Xk,S1]
 refine Za t_of (fun h => by cases h) ?_
 simp only [go_sem,Q9,Vq,Zo,Zj,Yb,Yk,Zb]
 have hF:∀ G,FF (H++(⟨num k,0,true⟩::⟨pcell x y f,0,true⟩::⟨ZP,0,true⟩::⟨fcells (115792089210356248762697446949407573530086143415290314195533631308867097853951:Nat),0,true⟩::G)) (H.length+3) (115792089210356248762697446949407573530086143415290314195533631308867097853951:Nat):=fun G => ⟨by simp,by simp only [go_sem]⟩
 refine Za (O6 (hF _) hx hy) (fun _ => rfl) ?_
 rw [hon]
 simp only [go_sem,Q9,Vq,Yb,Yk]
 refine Za Zjc (fun _ => rfl) ?_
 rw [show (bif f then Aff.far else Aff.pt x y)=toA x y f from rfl]
 generalize ht:lift (toA x y f)=t at *
 have ez:ZJ=jc ⟨0,0,0⟩:=rfl
 simp only [go_sem,Ko,U9,Zw,Zf,Zb]
 refine Za (Ztf hk) (fun _ => rfl) ?_
 have w1:IntKind.i64.wrap ((blen k:Int) - 1)=(blen k:Int) - 1:=by rw [w64 _ (by omega) (by omega)]
 simp only [go_sem,w1]
 refine Z1 _ (fun (s:Nat) => ([(2,.ptr H.length 0),(4,.ptr (H.length+2) 0),(6,.ptr (H.length+4) 0),(7,.ptr (H.length+5) 0),(8,.ptr (H.length+6) 0),(9,I ((blen k:Int) - 1 - (s:Int)))],H++[⟨num k,0,true⟩,⟨pcell x y f,0,true⟩,⟨ZP,0,true⟩,⟨fcells (115792089210356248762697446949407573530086143415290314195533631308867097853951:Nat),0,true⟩,⟨crv (H.length+3),0,true⟩,⟨jc (jmk (115792089210356248762697446949407573530086143415290314195533631308867097853951:Nat) t s (k / 2^(blen k - s))),0,true⟩,⟨jc t,0,true⟩])) (fun s => s≤blen k) (fun s => blen k - s) 0 (Nat.zero_le _) ?_ ?_
 ·simp only [jmk,← ez,Int.natCast_zero,Int.sub_zero]
 intro s hs
 simp only [go_sem]
 refine ⟨fun hh => ?_,fun hh => ?_⟩
 ·obtain ⟨i,hi,his⟩:∃ i:Nat,(blen k:Int) - 1 - (s:Int)=i∧i+s+1=blen k:=⟨blen k - 1 - s,by omega,by omega⟩
  have e1:blen k - s=i+1:=by omega
  have w2:IntKind.i64.wrap ((i:Int) - 1)=(blen k:Int) - 1 - ((s+1:Nat):Int):=by rw [w64 _ (by omega) (by omega)]; omega
  have e2:blen k - (s+1)=i:=by omega
  have e3:k / 2^i / 2=k / 2^(i+1):=by rw [Nat.div_div_eq_div_mul,Nat.pow_succ]
  have js:=Zqy (115792089210356248762697446949407573530086143415290314195533631308867097853951:Nat) t s (k / 2^i)
  rw [e3] at js
  rw [e1]
  have jo:=Ze8 (p:=(115792089210356248762697446949407573530086143415290314195533631308867097853951:Nat)) hl s (k / 2^(i+1))
  generalize jmk (115792089210356248762697446949407573530086143415290314195533631308867097853951:Nat) t s (k / 2^(i+1))=T at *
  have jo2:jok (115792089210356248762697446949407573530086143415290314195533631308867097853951:Nat) (jtw (115792089210356248762697446949407573530086143415290314195533631308867097853951:Nat) T):=Ah h0
  simp only [hi,go_sem,Zo,Zj,Zw,Zs]
  refine Za (t_tw (hF _) jo) (fun _ => rfl) ?_
  simp only [go_sem,D5,U9,Zw,Zf,Zb]
  refine Za (Zz9 hk (by omega)) (fun _ => rfl) ?_
  simp only [go_sem]
  refine ⟨fun hbit => ?_,fun hbit => ?_⟩
  ·rw [if_pos hbit] at js
   simp only [go_sem,Zo,Zj,Zw,Zs]
   refine Za (Zzy (hF _) jo2 hl) (fun _ => rfl) ?_
   simp only [go_sem,D5,U9,Zw,Zf,Zb,w2]
   exact ⟨s+1,rfl,by rw [e2,js],by omega,by omega⟩
  ·rw [if_neg hbit] at js
   simp only [go_sem,w2]
   exact ⟨s+1,rfl,by rw [e2,js],by omega,by omega⟩
 ·obtain rfl:s=blen k:=by omega
  rw [Nat.sub_self,Nat.pow_zero,Nat.div_one]
  simp only [go_sem,Zo,Zj,Zw,Zs]
  refine Za (Zth (hF _) (Ze8 (p:=(115792089210356248762697446949407573530086143415290314195533631308867097853951:Nat)) hl _ _)) (fun _ => rfl) ?_
  rw [hm]
  simp only [go_sem,ptc,Pw,Xk,Yb,Yk]
  exact Zc Zeu
theorem Zz2 {H:AH} {x y x' y':Nat} {f f':Bool} (hx:x<(18446744073709551616:Nat)^4) (hy:y<(18446744073709551616:Nat)^4) (hx':x'<(18446744073709551616:Nat)^4) (hy':y'<(18446744073709551616:Nat)^4) (hon:Sm x y f=true) (hon':Sm x' y' f'=true):Called Tryz.prog F.point_Add [.agg (pcell x y f),.agg (pcell x' y' f')] H (.tup [.agg (ptc (aadd (115792089210356248762697446949407573530086143415290314195533631308867097853951:Nat) (toA x y f) (toA x' y' f'))),nilE]) H:=by
 refine Zc3 ?_
 have h0:0<(115792089210356248762697446949407573530086143415290314195533631308867097853951:Nat):=by decide
 obtain ⟨ha,hp⟩:=Ba hon
 obtain ⟨ha',hp'⟩:=Ba hon'
 have hl:jok (115792089210356248762697446949407573530086143415290314195533631308867097853951:Nat) (lift (toA x y f)):=Ou (p:=(115792089210356248762697446949407573530086143415290314195533631308867097853951:Nat)) (b:=(41058363725152142129326129780047268409114441015993725554835256314039467401291:Nat)) (by decide) ha
 have hl':jok (115792089210356248762697446949407573530086143415290314195533631308867097853951:Nat) (lift (toA x' y' f')):=Ou (p:=(115792089210356248762697446949407573530086143415290314195533631308867097853951:Nat)) (b:=(41058363725152142129326129780047268409114441015993725554835256314039467401291:Nat)) (by decide) ha'
 haveI:NeZero (115792089210356248762697446949407573530086143415290314195533631308867097853951:Nat):=⟨by decide⟩
 obtain ⟨r1,r2⟩:=Zbq (p:=(115792089210356248762697446949407573530086143415290314195533631308867097853951:Nat)) Zbw (by decide) (b:=(41058363725152142129326129780047268409114441015993725554835256314039467401291:Nat)) (by decide) hl hl' ha ha' (Nx _) (Nx _)
 have r3:=Ai (p:=(115792089210356248762697446949407573530086143415290314195533631308867097853951:Nat)) Zbw (b:=(41058363725152142129326129780047268409114441015993725554835256314039467401291:Nat)) (Zcg hl hl' h0) r2 r1
 have hF:∀ G,FF (H++(⟨pcell x y f,0,true⟩::⟨pcell x' y' f',0,true⟩::⟨ZP,0,true⟩::⟨fcells (115792089210356248762697446949407573530086143415290314195533631308867097853951:Nat),0,true⟩::G)) (H.length+3) (115792089210356248762697446949407573530086143415290314195533631308867097853951:Nat):=fun G => ⟨by simp,by simp only [go_sem]⟩
 simp only [Kt,go_sem,Xk,S1]
 refine Za t_of (fun h => by cases h) ?_
 simp only [go_sem,Q9,Vq,Zo,Zj,Yb,Yk]
 refine Za (O6 (hF _) hx hy) (fun _ => rfl) ?_
 rw [hon]
 simp only [go_sem,Q9,Vq,Zo,Zj,Yb,Yk]
 refine Zq (fun _ => O6 (hF _) hx' hy') ?_
 rw [hon']
 simp only [go_sem,Q9,Vq,Zo,Zj,Yb,Yk]
 refine Za Zjc (fun _ => rfl) ?_
 rw [show (bif f then Aff.far else Aff.pt x y)=toA x y f from rfl]
 simp only [go_sem,Q9,Vq,Zo,Zj,Yb,Yk]
 refine Za Zjc (fun _ => rfl) ?_
 rw [show (bif f' then Aff.far else Aff.pt x' y')=toA x' y' f' from rfl]
 simp only [go_sem,Q9,Vq,Zo,Zj,Yb,Yk]
 refine Za (Zzy (hF _) hl hl') (fun _ => rfl) ?_
 simp only [go_sem,Q9,Vq,Zo,Zj,Yb,Yk]
 refine Za (Zth (hF _) (Zcg hl hl' h0)) (fun _ => rfl) ?_
 rw [r3]
 simp only [go_sem,ptc,Pw,Xk,Yb,Yk]
 exact Zc Zeu
end Go.Proofs.YtcgjlpdkobmpnaaGreat.Eng

