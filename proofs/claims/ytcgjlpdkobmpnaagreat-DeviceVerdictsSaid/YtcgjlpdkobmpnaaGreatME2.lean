/- Each operation of the model does what the abstract one says. -/
import Derived.Test.YtcgjlpdkobmpnaaGreatME1
namespace Go.Proofs.YtcgjlpdkobmpnaaGreat.Eng
open Go
set_option linter.unusedVariables false
set_option linter.unusedSimpArgs false
def cx (φ:Nat→Option Nat) (H:AH) (w:World):Cx:=⟨φ,H,w.heap⟩
def Same (w w':World):Prop:=w'.os=w.os∧w'.tape=w.tape∧w'.output=w.output
theorem Same.refl (w:World):Same w w:=⟨rfl,rfl,rfl⟩
theorem Same.trans {a b c:World} (h:Same a b) (h':Same b c):Same a c:=⟨h'.1.trans h.1,h'.2.1.trans h.2.1,h'.2.2.trans h.2.2⟩
def PostV (φ:Nat→Option Nat) (H:AH) (w:World) (v:AV) (H':AH) (y:Value) (w':World):Prop :=
 ∃ φ',St (cx φ' H' w')∧Ext (cx φ H w) (cx φ' H' w')∧Same w w'∧R (cx φ' H' w') v y
def Sat (P:Program) (K:Value→World→Prop):Result Next→Prop
 | .ok (.value y) w' => K y w'
 | .ok .skip w' => K undef w'
 | .ok (.enter f args) w' => Calls P f args w' (fun e w'' => ∃ y,e=.returned y∧K y w'')
 | _ => False
section
variable {P:Program} {φ:Nat→Option Nat} {H:AH} {w:World}
theorem Zo (hs:St (cx φ H w)) {v:AV} {y:Value} (h:R (cx φ H w) v y):PostV φ H w v H y w:=⟨φ,hs,.refl _,.refl _,h⟩
theorem X6 {K:Value→World→Prop} {s:Sem Value} {y:Value} {w':World} (h:s.run P w=.ok y w') (hk:K y w'):Sat P K (Sem.run P (do pure (Next.value (← s))) w):=by
 simp only [Sem.run_bind,h,Result.andThen_ok,Sem.run_pure,Sat]; exact hk
theorem Z4o {K:Value→World→Prop} {s:Sem Unit} {w':World} (h:s.run P w=.ok () w') (hk:K undef w'):Sat P K (Sem.run P (do s; pure Next.skip) w):=by
 simp only [Sem.run_bind,h,Result.andThen_ok,Sem.run_pure,Sat]; exact hk
theorem Zoi {op:BinOp} {x y:AV} {a b:Value} (hx:R (cx φ H w) x a) (hy:R (cx φ H w) y b) (hok:Zdf op x y) (t:TypeId) (X Y:Operand) :
  ∃ u,(do eqGuard op t X Y a b; binOp op t a b:Sem Value).run P w=.ok u w∧R (cx φ H w) (binv op x y) u:=by
 unfold Zdf at hok
 split at hok
 ·rename_i k i k' j
  cases hx; cases hy
  refine ⟨ibin op k i j,?_,rfl⟩
  cases op <;> simp only [Zfd] at hok <;>
   simp [eqGuard,binOp,ibin,bAnd,bOr,bXor,Zor,hok,Op.intArith,Op.intDiv,Op.intBits,Op.intCmp,Op.shift,Int.not_lt.2]
 ·rename_i s t'
  cases hx; cases hy
  refine ⟨sbin op s t',?_,rfl⟩
  cases op <;> simp only [Zek] at hok <;> first
   | exact hok.elim
   | (have h':¬ ((9223372036854775807:Int)<(s.size:Int)+(t'.size:Int)):=by omega
      simp [eqGuard,binOp,sbin,Op.stringOp,IntKind.max,IntKind.signed,IntKind.bits,h'])
   | simp [eqGuard,binOp,sbin,Op.stringOp]
 ·exact hok.elim
def cmpT (P:Program) (t:TypeId):Bool:=(match P.underlying t with | some (.int _) => true | _ => false)&&(match P.info? t with | some i => i.comparable | none => false)
section
variable {t:TypeId} (n:Nat)
theorem Zfo (h:P.underlying t=some .bool) (a b:Bool):(Op.equalIn (n+1) t (.bool a) (.bool b)).run P w=.ok (a == b) w:=by simp [Op.equalIn,run_underlying h]
theorem Znk {k:IntKind} (h:P.underlying t=some (.int k)) (k':IntKind) (a b:Int):(Op.equalIn (n+1) t (.int k' a) (.int k' b)).run P w=.ok (a == b) w:=by simp [Op.equalIn,run_underlying h]
theorem Z2y {e:TypeId} (h:P.underlying t=some (.pointer e)):(Op.equalIn (n+1) t (.pointer none) (.pointer none)).run P w=.ok true w:=by simp [Op.equalIn,run_underlying h]
theorem Znj {e:TypeId} (h:P.underlying t=some (.pointer e)) (a:Addr):(Op.equalIn (n+1) t (.pointer none) (.pointer (some a))).run P w=.ok false w:=by simp [Op.equalIn,run_underlying h]
theorem Znm {e:TypeId} (h:P.underlying t=some (.pointer e)) (a:Addr):(Op.equalIn (n+1) t (.pointer (some a)) (.pointer none)).run P w=.ok false w:=by simp [Op.equalIn,run_underlying h]
theorem Zni {e:TypeId} (h:P.underlying t=some (.slice e)) (a:Option Addr) (l c:Nat):(Op.equalIn (n+1) t (.slice none 0 0) (.slice a l c)).run P w=.ok a.isNone w:=by simp [Op.equalIn,run_underlying h]
theorem Znl {e:TypeId} (h:P.underlying t=some (.slice e)) (a:Option Addr) (l c:Nat):(Op.equalIn (n+1) t (.slice a l c) (.slice none 0 0)).run P w=.ok a.isNone w:=by cases a <;> simp [Op.equalIn,run_underlying h]
theorem Z26 {p q:Array TypeId} {r:Bool} (h:P.underlying t=some (.func p q r)):(Op.equalIn (n+1) t .nilFunc .nilFunc).run P w=.ok true w:=by simp [Op.equalIn,run_underlying h]
theorem Z25 {p q:Array TypeId} {r:Bool} (h:P.underlying t=some (.func p q r)) (f:Fn) (a b:Array Value):(Op.equalIn (n+1) t .nilFunc (.func f a b)).run P w=.ok false w:=by simp [Op.equalIn,run_underlying h]
theorem Z24 {p q:Array TypeId} {r:Bool} (h:P.underlying t=some (.func p q r)) (f:Fn) (a b:Array Value):(Op.equalIn (n+1) t (.func f a b) .nilFunc).run P w=.ok false w:=by simp [Op.equalIn,run_underlying h]
theorem Z2z {m:Array (String × TypeId)} (h:P.underlying t=some (.interface m)):(Op.equalIn (n+1) t .nilIface .nilIface).run P w=.ok true w:=by simp [Op.equalIn,run_underlying h]
theorem Z20 {m:Array (String × TypeId)} (h:P.underlying t=some (.interface m)) (u:TypeId) (v:Value):(Op.equalIn (n+1) t .nilIface (.iface u v)).run P w=.ok false w:=by simp [Op.equalIn,run_underlying h]
theorem Z21 {m:Array (String × TypeId)} (h:P.underlying t=some (.interface m)) (u:TypeId) (v:Value):(Op.equalIn (n+1) t (.iface u v) .nilIface).run P w=.ok false w:=by simp [Op.equalIn,run_underlying h]
theorem Z22 {m:Array (String × TypeId)} (h:P.underlying t=some (.interface m)) (u u':TypeId) (v v':Value) (hu:u≠u'):(Op.equalIn (n+1) t (.iface u v) (.iface u' v')).run P w=.ok false w:=by simp [Op.equalIn,run_underlying h,hu]
theorem Z23 {m:Array (String × TypeId)} (h:P.underlying t=some (.interface m)) {u:TypeId} (hu:cmpT P u=true) (k:IntKind) (a b:Int):(Op.equalIn (n+1+1) t (.iface u (.int k a)) (.iface u (.int k b))).run P w=.ok (a == b) w:=by
 simp only [cmpT,Bool.and_eq_true] at hu
 obtain ⟨h4,h5⟩:=hu
 cases hk:P.underlying u with
 | none => rw [hk] at h4; cases h4
 | some dd =>
  cases hi:P.info? u with
  | none => rw [hi] at h5; cases h5
  | some ii =>
   rw [hk] at h4; rw [hi] at h5
   cases dd <;> simp at h4
   rw [Op.equalIn]
   simp [run_underlying h,typeInfo,hi,h5,Znk n hk]
end
theorem Wl {neq:Bool} {t:TypeId} {X Y:Operand} {a b:Value} {r:Bool} (h1:binOp .eql t a b=(do pure (.bool (← Op.equal t a b)))) (h2:binOp .neq t a b=(do pure (.bool (!(← Op.equal t a b)))))
  (hG:(eqGuard (if neq then .neq else .eql) t X Y a b).run P w=.ok () w) (hE:(Op.equalIn (9998+1+1) t a b).run P w=.ok r w) :
  (do eqGuard (if neq then .neq else .eql) t X Y a b; binOp (if neq then .neq else .eql) t a b:Sem Value).run P w=.ok (.bool (r != neq)) w:=by
 have hE':(Op.equal t a b).run P w=.ok r w:=hE
 rw [Sem.run_bind,hG]
 cases neq
 ·simp only [Result.andThen_ok,Bool.false_eq_true,if_false,h1,Sem.run_bind,hE',Sem.run_pure]; simp
 ·simp only [Result.andThen_ok,if_true,h2,Sem.run_bind,hE',Sem.run_pure]; cases r <;> rfl
theorem Sn {cmp:TypeId→Bool} (hcmp:∀ t,cmp t=true→cmpT P t=true) {tk:TK} {neq:Bool} {x y:AV} {a b:Value} {X Y:Operand} {x' y':IArg} (hX:arg? X=some x') (hY:arg? Y=some y') (hx:R (cx φ H w) x a) (hy:R (cx φ H w) y b) (hok:eqOk cmp tk (isC x' || isC y') x y) (t:TypeId) {d:TypeDesc}
  (hd:P.underlying t=some d) (htk:match tk with | .b => d=.bool | .i => ∃ m,d=.interface m | .p => ∃ e,d=.pointer e | .s => ∃ e,d=.slice e | .f => ∃ p q r,d=.func p q r) :
  (do eqGuard (if neq then .neq else .eql) t X Y a b; binOp (if neq then .neq else .eql) t a b:Sem Value).run P w=.ok (.bool (eqv tk x y != neq)) w:=by
 have hC:(isC x' || isC y')=true→(∃ v,X=.const v)∨∃ v,Y=.const v:=by
  intro h
  cases X <;> cases Y <;> simp [arg?] at hX hY <;> subst hX <;> subst hY <;> simp_all [isC]
 have g0:∀ (op:BinOp) (u v:Value),(∀ m n,(u,v)≠(.agg m,.agg n))→((u,v)≠(.nilIface,.nilIface))→(eqGuard op t X Y u v).run P w=.ok () w:=by
  intro op u v h1 h2
  unfold eqGuard
  cases op <;> try rfl
  all_goals (cases u <;> cases v <;> first | rfl | exact absurd rfl h2 | exact absurd rfl (h1 _ _))
 unfold eqOk at hok
 split at hok
 ·cases hx; cases hy; subst hok; cases htk
  exact Wl rfl rfl (g0 _ _ _ (by simp) (by simp)) (Zfo _ hd _ _)
 ·rename_i t1 k i u k' j
  cases hx; cases hy
  obtain ⟨rfl,h2⟩:=hok
  obtain ⟨m,rfl⟩:=htk
  by_cases htu:t1=u
  ·subst htu
   obtain ⟨rfl,h3⟩:=h2 rfl
   have:=Wl (neq:=neq) (X:=X) (Y:=Y) rfl rfl (g0 _ _ _ (by simp) (by simp)) (Z23 (w:=w) 9998 hd (hcmp _ h3) k i j)
   have e:eqv .i (.lit (.iface t1 (.int k i))) (.lit (.iface t1 (.int k j)))=(i == j):=by simp [eqv]
   rw [e]; exact this
  ·have:=Wl (neq:=neq) (X:=X) (Y:=Y) rfl rfl (g0 _ _ _ (by simp) (by simp)) (Z22 (w:=w) 9999 hd t1 u (.int k i) (.int k' j) htu)
   have e:eqv .i (.lit (.iface t1 (.int k i))) (.lit (.iface u (.int k' j)))=false:=by simp [eqv,htu]
   rw [e]; exact this
 ·cases hx; cases hy
  obtain ⟨rfl,h2⟩:=hok
  obtain ⟨m,rfl⟩:=htk
  have h3:=hC h2
  refine Wl rfl rfl ?_ (Z2z _ hd)
  rcases h3 with ⟨v,rfl⟩ | ⟨v,rfl⟩
  ·cases neq <;> rfl
  ·cases neq <;> cases X <;> rfl
 ·cases hx; cases hy; subst hok; obtain ⟨m,rfl⟩:=htk
  exact Wl rfl rfl (g0 _ _ _ (by simp) (by simp)) (Z20 _ hd _ _)
 ·cases hx; cases hy; subst hok; obtain ⟨m,rfl⟩:=htk
  have e:∀ (u:TypeId) (v:Value),eqv .i (.lit (.iface u v)) (.lit .nilIface)=false:=fun u v => by cases v <;> rfl
  rw [e]
  exact Wl rfl rfl (g0 _ _ _ (by simp) (by simp)) (Z21 _ hd _ _)
 ·cases hx; cases hy; subst hok; obtain ⟨m,rfl⟩:=htk
  exact Wl rfl rfl (g0 _ _ _ (by simp) (by simp)) (Z2y _ hd)
 ·obtain ⟨_,_,_,_,_,rfl⟩:=hy; cases hx; subst hok; obtain ⟨m,rfl⟩:=htk
  exact Wl rfl rfl (g0 _ _ _ (by simp) (by simp)) (Znj _ hd _)
 ·obtain ⟨_,rfl,_⟩:=hy; cases hx; subst hok; obtain ⟨m,rfl⟩:=htk
  exact Wl rfl rfl (g0 _ _ _ (by simp) (by simp)) (Znj _ hd _)
 ·obtain ⟨_,_,_,rfl,_⟩:=hy; cases hx; subst hok; obtain ⟨m,rfl⟩:=htk
  exact Wl rfl rfl (g0 _ _ _ (by simp) (by simp)) (Znj _ hd _)
 ·obtain ⟨_,_,_,_,_,rfl⟩:=hx; cases hy; subst hok; obtain ⟨m,rfl⟩:=htk
  exact Wl rfl rfl (g0 _ _ _ (by simp) (by simp)) (Znm _ hd _)
 ·obtain ⟨_,rfl,_⟩:=hx; cases hy; subst hok; obtain ⟨m,rfl⟩:=htk
  exact Wl rfl rfl (g0 _ _ _ (by simp) (by simp)) (Znm _ hd _)
 ·obtain ⟨_,_,_,rfl,_⟩:=hx; cases hy; subst hok; obtain ⟨m,rfl⟩:=htk
  exact Wl rfl rfl (g0 _ _ _ (by simp) (by simp)) (Znm _ hd _)
 ·cases hx; cases hy; subst hok; obtain ⟨m,rfl⟩:=htk
  exact Wl rfl rfl (g0 _ _ _ (by simp) (by simp)) (Zni _ hd _ _ _)
 ·cases hx; obtain ⟨rfl,h2⟩:=hok; obtain ⟨m,rfl⟩:=htk
  obtain ⟨a,cap,rfl,_,h3,_⟩:=hy
  obtain ⟨a0,rfl⟩:∃ a0,a=some a0:=by cases a <;> simp_all <;> omega
  exact Wl rfl rfl (g0 _ _ _ (by simp) (by simp)) (Zni _ hd _ _ _)
 ·cases hx; obtain ⟨rfl,h2⟩:=hok; obtain ⟨m,rfl⟩:=htk
  obtain ⟨a,cap,rfl,_,h3,_⟩:=hy
  obtain ⟨a0,rfl⟩:∃ a0,a=some a0:=by cases a <;> simp_all <;> omega
  exact Wl rfl rfl (g0 _ _ _ (by simp) (by simp)) (Zni _ hd _ _ _)
 ·cases hy; obtain ⟨rfl,h2⟩:=hok; obtain ⟨m,rfl⟩:=htk
  obtain ⟨a,cap,rfl,_,h3,_⟩:=hx
  obtain ⟨a0,rfl⟩:∃ a0,a=some a0:=by cases a <;> simp_all <;> omega
  exact Wl rfl rfl (g0 _ _ _ (by simp) (by simp)) (Znl _ hd _ _ _)
 ·cases hy; obtain ⟨rfl,h2⟩:=hok; obtain ⟨m,rfl⟩:=htk
  obtain ⟨a,cap,rfl,_,h3,_⟩:=hx
  obtain ⟨a0,rfl⟩:∃ a0,a=some a0:=by cases a <;> simp_all <;> omega
  exact Wl rfl rfl (g0 _ _ _ (by simp) (by simp)) (Znl _ hd _ _ _)
 ·cases hx; cases hy; subst hok; obtain ⟨p,q,r,rfl⟩:=htk
  exact Wl rfl rfl (g0 _ _ _ (by simp) (by simp)) (Z26 _ hd)
 ·cases hx; subst hok; obtain ⟨p,q,r,rfl⟩:=htk; obtain ⟨fs,cps,rfl,_⟩:=hy
  exact Wl rfl rfl (g0 _ _ _ (by simp) (by simp)) (Z25 _ hd _ _ _)
 ·cases hy; subst hok; obtain ⟨p,q,r,rfl⟩:=htk; obtain ⟨fs,cps,rfl,_⟩:=hx
  exact Wl rfl rfl (g0 _ _ _ (by simp) (by simp)) (Z24 _ hd _ _ _)
 ·exact hok.elim
end
section
variable {φ φ1:Nat→Option Nat} {H:AH} {w w1:World} {ob D:AObj} {d:Nat}
def movφ (φ1:Nat→Option Nat) (n d:Nat):Nat→Option Nat:=fun i => if i=d then φ1 n else φ1 i
theorem Zr6 (hs:St (cx φ H w)) (hd:H[d]? = some D) (hD:isD D):φ d=none:=by
 rcases hs.ok d D hd with ⟨g1,_⟩ | ⟨b,c,e,fr,g1,g2,g3,_⟩
 ·exact g1
 ·exact absurd hD g3.2.1
theorem Z16 (hd:H[d]? = some D) {b:Nat} (hw:Wr (cx (movφ φ1 H.length d) (H.set d ob) w1) b):Wr (cx φ1 (H++[ob]) w1) b:=by
 obtain ⟨i,o,h1,h2,h3⟩:=hw
 have h1:(H.set d ob)[i]? = some o:=h1
 have h3:movφ φ1 H.length d i=some b:=h3
 have hlt:=Zv hd
 by_cases hi:i=d
 ·subst hi
  rw [List.getElem?_set_self hlt] at h1
  cases h1
  simp only [movφ,if_true] at h3
  exact ⟨H.length,ob,(by show (H++[ob])[H.length]? = _; simp),h2,h3⟩
 ·rw [List.getElem?_set_ne (Ne.symm hi)] at h1
  simp only [movφ,if_neg hi] at h3
  exact ⟨i,o,(by show (H++[ob])[i]? = _; rw [List.getElem?_append_left (Zv h1)]; exact h1),h2,h3⟩
theorem Zlz (hd:H[d]? = some D) {b off:Nat} {us:List Value} (h:Imm (cx φ1 (H++[ob]) w1) b off us):Imm (cx (movφ φ1 H.length d) (H.set d ob) w1) b off us:=⟨h.1,fun hw => h.2 (Z16 hd hw)⟩
theorem Hr (hd:H[d]? = some D) {i:Nat} {o:AObj} (hi:H[i]? = some o) (hne:i≠d):(H++[ob])[i]? = some o∧(H.set d ob)[i]? = some o∧movφ φ1 H.length d i=φ1 i :=
 ⟨by rw [List.getElem?_append_left (Zv hi)]; exact hi,by rw [List.getElem?_set_ne (Ne.symm hne)]; exact hi,by simp [movφ,hne]⟩
mutual
theorem Z18 (hd:H[d]? = some D) (hD:isD D) (hp:φ d=none):∀ (v:AV) {y0 y:Value},R (cx φ H w) v y0→R (cx φ1 (H++[ob]) w1) v y→R (cx (movφ φ1 H.length d) (H.set d ob) w1) v y
 | .lit v,y0,y,_,h => h
 | .ptr id off,y0,y,h0,h => by
  obtain ⟨o0,b0,a1,a2,a3,a4⟩:=h0
  have hne:id≠d:=fun e => by
   subst e
   have a3:φ id=some b0:=a3
   rw [hp] at a3; cases a3
  obtain ⟨g1,g2,g3⟩:=Hr (ob:=ob) (φ1:=φ1) hd a1 hne
  obtain ⟨o,b,b1,b2,b3,b4⟩:=h
  have b1:(H++[ob])[id]? = some o:=b1
  rw [g1] at b1; cases b1
  exact ⟨o0,b,g2,b2,by show movφ φ1 H.length d id=_; rw [g3]; exact b3,b4⟩
 | .rptr id off L,y0,y,h0,h => by
  obtain ⟨a0,_,o0,a1,a2,a3⟩:=h0
  have a1:H[id]? = some o0:=a1
  have hne:id≠d:=fun e => by
   subst e
   rw [hd] at a1; cases a1
   obtain ⟨b,a4,_⟩:=a3 (by have:=hD.1; rw [this] at a2 ⊢; simp at a2 ⊢; exact a2)
   have a4:φ id=some b:=a4
   rw [hp] at a4; cases a4
  obtain ⟨g1,g2,g3⟩:=Hr (ob:=ob) (φ1:=φ1) hd a1 hne
  obtain ⟨a,e,o,b1,b2,b3⟩:=h
  have b1:(H++[ob])[id]? = some o:=b1
  rw [g1] at b1; cases b1
  refine ⟨a,e,o0,g2,b2,fun hL => ?_⟩
  obtain ⟨b,b4,b5⟩:=b3 hL
  exact ⟨b,by show movφ φ1 H.length d id=_; rw [g3]; exact b4,b5⟩
 | .vptr cs,y0,y,h0,h => by
  obtain ⟨_,_,us0,_,_,_,k0⟩:=h0
  obtain ⟨b,off,us,e,h1,h2,h3⟩:=h
  exact ⟨b,off,us,e,Zlz hd h1,h2,Mr hd hD hp cs k0 h3⟩
 | .row id off n L,y0,y,h0,h => by
  obtain ⟨_,cap0,_,_,_,o0,a1,a2,a3⟩:=h0
  have a1:H[id]? = some o0:=a1
  have hne:id≠d:=fun e => by
   subst e
   rw [hd] at a1; cases a1
   rcases a3 (by have:=hD.1; rw [this] at a2 ⊢; simp at a2 ⊢; exact a2) with ⟨_,_,a4⟩ | ⟨b,a4,_⟩
   ·have:=hD.2; omega
   ·have a4:φ id=some b:=a4
    rw [hp] at a4; cases a4
  obtain ⟨g1,g2,g3⟩:=Hr (ob:=ob) (φ1:=φ1) hd a1 hne
  obtain ⟨a,cap,e,h1,h2,o,b1,b2,b3⟩:=h
  have b1:(H++[ob])[id]? = some o:=b1
  rw [g1] at b1; cases b1
  refine ⟨a,cap,e,h1,h2,o0,g2,b2,fun hL => ?_⟩
  have g3':(cx (movφ φ1 H.length d) (H.set d ob) w1).φ id=(cx φ1 (H++[ob]) w1).φ id:=g3
  rw [g3']
  exact b3 hL
 | .view cs n full,y0,y,h0,h => by
  obtain ⟨_,_,_,_,_,_,_,k0⟩:=h0
  obtain ⟨a,cap,h1,h2,h3,h4,h5,h6⟩:=h
  refine ⟨a,cap,h1,h2,h3,h4,h5,?_⟩
  rcases h6 with h6 | ⟨b,off,us,k1,k2,k3⟩
  ·exact .inl h6
  ·rcases k0 with k0 | ⟨_,_,us0,_,_,k4⟩
   ·exact .inl k0
   ·exact .inr ⟨b,off,us,k1,Zlz hd k2,Mr hd hD hp cs k4 k3⟩
 | .fn f first cap,y0,y,h0,h => by
  obtain ⟨fs0,cps0,_,k1,k2⟩:=h0
  obtain ⟨fs,cps,h1,h2,h3⟩:=h
  exact ⟨fs,cps,h1,Mr hd hD hp first k1 h2,Mr hd hD hp cap k2 h3⟩
 | .agg cs,y0,y,h0,h => by
  obtain ⟨vs0,_,k1⟩:=h0
  obtain ⟨vs,h1,h2⟩:=h
  exact ⟨vs,h1,Mr hd hD hp cs k1 h2⟩
 | .tup cs,y0,y,h0,h => by
  obtain ⟨vs0,_,k1⟩:=h0
  obtain ⟨vs,h1,h2⟩:=h
  exact ⟨vs,h1,Mr hd hD hp cs k1 h2⟩
 | .may g v,y0,y,h0,h => ⟨fun hg => Z18 hd hD hp v (h0.1 hg) (h.1 hg),h.2⟩
 | .anyb,y0,y,_,h => h
 | .junk,y0,y,_,_ => trivial
theorem Mr (hd:H[d]? = some D) (hD:isD D) (hp:φ d=none):∀ (l:List AV) {ys0 ys:List Value},RL (cx φ H w) l ys0→RL (cx φ1 (H++[ob]) w1) l ys→RL (cx (movφ φ1 H.length d) (H.set d ob) w1) l ys
 | [],ys0,ys,_,h => h
 | a::r,ys0,ys,h0,h => by
  obtain ⟨u0,t0,_,k1,k2⟩:=h0
  obtain ⟨u,t,h1,h2,h3⟩:=h
  exact ⟨u,t,h1,Z18 hd hD hp a k1 h2,Mr hd hD hp r k2 h3⟩
end
theorem Z17 (hs:St (cx φ H w)) (hd:H[d]? = some D) (hD:isD D) (hob:∃ ys0,RL (cx φ H w) ob.cs ys0) (h1:St (cx φ1 (H++[ob]) w1)) (hx:Ext (cx φ H w) (cx φ1 (H++[ob]) w1)) :
  St (cx (movφ φ1 H.length d) (H.set d ob) w1)∧Ext (cx φ H w) (cx (movφ φ1 H.length d) (H.set d ob) w1):=by
 have hp:=Zr6 hs hd hD
 have hlt:=Zv hd
 refine ⟨⟨fun i o hi => ?_,fun i j b hi hj e1 e2 => ?_⟩,⟨hx.size,fun b hb hw => hx.frame b hb hw,hx.shape,fun i o hi => ?_,fun i b hi hp2 hb => ?_⟩⟩
 ·have hi:(H.set d ob)[i]? = some o:=hi
  by_cases hid:i=d
  ·subst hid
   rw [List.getElem?_set_self hlt] at hi
   cases hi
   obtain ⟨ys0,hy⟩:=hob
   have e:(cx (movφ φ1 H.length i) (H.set i ob) w1).φ i=φ1 H.length:=by simp [cx,movφ]
   rcases h1.ok H.length ob (by show (H++[ob])[H.length]? = _; simp) with ⟨g1,g2⟩ | ⟨b,c,ee,fr,g1,g2,g3,g4,g5⟩
   ·exact .inl ⟨by rw [e]; exact g1,g2⟩
   ·exact .inr ⟨b,c,ee,fr,by rw [e]; exact g1,g2,g3,g4,Mr hd hD hp _ hy g5⟩
  ·rw [List.getElem?_set_ne (Ne.symm hid)] at hi
   obtain ⟨k1,k2,k3⟩:=Hr (ob:=ob) (φ1:=φ1) hd hi hid
   have e:(cx (movφ φ1 H.length d) (H.set d ob) w1).φ i=φ1 i:=k3
   have h0:∃ ys0,RL (cx φ H w) o.cs ys0:=by
    rcases hs.ok i o hi with ⟨_,g2⟩ | ⟨b,c,ee,fr,g1,g2,g3,g4,g5⟩
    ·exact ⟨[],by rw [g2]; rfl⟩
    ·exact ⟨_,g5⟩
   obtain ⟨ys0,hy⟩:=h0
   rcases h1.ok i o k1 with ⟨g1,g2⟩ | ⟨b,c,ee,fr,g1,g2,g3,g4,g5⟩
   ·exact .inl ⟨by rw [e]; exact g1,g2⟩
   ·exact .inr ⟨b,c,ee,fr,by rw [e]; exact g1,g2,g3,g4,Mr hd hD hp _ hy g5⟩
 ·have hi:i<H.length:=by simpa [cx] using hi
  have hj:j<H.length:=by simpa [cx] using hj
  have e1:movφ φ1 H.length d i=some b:=e1
  have e2:movφ φ1 H.length d j=some b:=e2
  have hl:∀ k,k<H.length→k<(cx φ1 (H++[ob]) w1).H.length:=fun k hk => by simp [cx]; omega
  have hl2:H.length<(cx φ1 (H++[ob]) w1).H.length:=by simp [cx]
  simp only [movφ] at e1 e2
  by_cases hid:i=d <;> by_cases hjd:j=d
  ·omega
  ·rw [if_pos hid] at e1; rw [if_neg hjd] at e2
   have:=h1.inj _ _ b hl2 (hl j hj) e1 e2
   omega
  ·rw [if_neg hid] at e1; rw [if_pos hjd] at e2
   have:=h1.inj _ _ b (hl i hi) hl2 e1 e2
   omega
  ·rw [if_neg hid] at e1; rw [if_neg hjd] at e2
   exact h1.inj _ _ b (hl i hi) (hl j hj) e1 e2
 ·have hi:H[i]? = some o:=hi
  by_cases hid:i=d
  ·subst hid
   rw [hd] at hi; cases hi
   exact ⟨ob,by show (H.set i ob)[i]? = _; rw [List.getElem?_set_self hlt],.inl ⟨hD,hp⟩⟩
  ·obtain ⟨k1,k2,k3⟩:=Hr (ob:=ob) (φ1:=φ1) hd hi hid
   obtain ⟨o',g1,g2⟩:=hx.objs i o hi
   have g1:(H++[ob])[i]? = some o':=g1
   rw [k1] at g1; cases g1
   refine ⟨o,k2,?_⟩
   rcases g2 with g2 | ⟨a1,a2,a3,a4,a5,a6⟩
   ·exact .inl g2
   ·exact .inr ⟨a1,a2,a3,a4,a5,fun hh => k3.trans (a6 hh)⟩
 ·have hi:i<H.length:=by simpa [cx] using hi
  have hp2:movφ φ1 H.length d i=some b:=hp2
  have hl2:H.length<(cx φ1 (H++[ob]) w1).H.length:=by simp [cx]
  simp only [movφ] at hp2
  by_cases hid:i=d
  ·rw [if_pos hid] at hp2
   have:=(hx.fresh _ b hl2 hp2 hb).1
   simp [cx] at this
  ·rw [if_neg hid] at hp2
   exact hx.fresh i b (by simp [cx]; omega) hp2 hb
theorem Zly (hd:H[d]? = some D) {y:Value} (h:R (cx φ1 (H++[ob]) w1) (.ptr H.length 0) y):R (cx (movφ φ1 H.length d) (H.set d ob) w1) (.ptr d 0) y:=by
 obtain ⟨o,b,h1,h2,h3,h4⟩:=h
 have h1:(H++[ob])[H.length]? = some o:=h1
 simp at h1; subst h1
 exact ⟨ob,b,(by show (H.set d ob)[d]? = _; rw [List.getElem?_set_self (Zv hd)]),h2,(by show movφ φ1 H.length d d=_; simp only [movφ,if_true]; exact h3),h4⟩
theorem Zcb (hd:H[d]? = some D) {y:Value} {n L:Nat} (h:R (cx φ1 (H++[ob]) w1) (.row H.length 0 n L) y):R (cx (movφ φ1 H.length d) (H.set d ob) w1) (.row d 0 n L) y:=by
 obtain ⟨a,cap,e,h1,h2,o,h3,h4,h5⟩:=h
 have h3:(H++[ob])[H.length]? = some o:=h3
 simp at h3; subst h3
 refine ⟨a,cap,e,h1,h2,ob,(by show (H.set d ob)[d]? = _; rw [List.getElem?_set_self (Zv hd)]),h4,fun hL => ?_⟩
 have e:(cx (movφ φ1 H.length d) (H.set d ob) w1).φ d=(cx φ1 (H++[ob]) w1).φ H.length:=by simp [cx,movφ]
 rw [e]
 exact h5 hL
end
section
variable {P:Program} {φ:Nat→Option Nat} {H:AH} {w:World}
theorem Zpk {op:UnOp} {x:AV} {a:Value} (hx:R (cx φ H w) x a) (hok:unOk op x):∃ u,(Op.unary op a).run P w=.ok u w∧R (cx φ H w) (unv op x) u:=by
 unfold unOk at hok
 split at hok
 ·cases hx; subst hok; exact ⟨_,rfl,rfl⟩
 ·cases hx
  rcases hok with rfl | rfl
  ·exact ⟨_,rfl,rfl⟩
  ·exact ⟨_,rfl,rfl⟩
 ·exact hok.elim
theorem Ig {S:Cx} {x:AV} {a:Value} (hx:R S x a) (h:isI x):∃ k,a=.int k (asI x):=by
 cases x with
 | lit v => cases v <;> first | (cases hx; exact ⟨_,rfl⟩) | exact h.elim
 | _ => exact h.elim
theorem Zio {k kk:IntKind} {s d:TypeId} {x:AV} {a:Value} (hs:P.underlying s=some (.int kk)) (hd:P.underlying d=some (.int k)) (hx:R (cx φ H w) x a) (hok:isI x) :
  (convert s d a).run P w=.ok (.int k (k.wrap (asI x))) w:=by
 obtain ⟨k',rfl⟩:=Ig hx hok
 simp [convert,run_underlying hs,run_underlying hd,Conv.intToInt]
theorem Ztj {S:Cx} {x:AV} {a:Value} (hx:R S x a) (h:Mb x):∃ s,a=.string s∧x=.lit (.string s):=by
 cases x with
 | lit v => cases v <;> first | (cases hx; exact ⟨_,rfl,rfl⟩) | exact h.elim
 | _ => exact h.elim
theorem Zgp {s d:TypeId} {x:AV} {a:Value} (hs:P.underlying s=some .string) (hd:P.underlying d=some .string) (hx:R (cx φ H w) x a) (hok:Mb x) :
  (convert s d a).run P w=.ok a w:=by
 obtain ⟨k',rfl,_⟩:=Ztj hx hok
 simp [convert,run_underlying hs,run_underlying hd]
theorem Ml (hs:St (cx φ H w)) {v:AV} {y:Value} {o:Obj} {w':World} (hw:Same w w') (hh:w'.heap=w.heap.push o) (h:∀ φ',Ext (cx φ H w) (cx φ' H w')→φ'=φ→R (cx φ' H w') v y):PostV φ H w v H y w':=by
 obtain ⟨h1,h2⟩:=Zj3 hs o
 have e:cx φ H w'={ cx φ H w with h:=(cx φ H w).h.push o }:=by simp [cx,hh]
 refine ⟨φ,by rw [e]; exact h1,by rw [e]; exact h2,hw,h φ (by rw [e]; exact h2) rfl⟩
theorem Mi {α:Type} (f:α→Value):∀ l:List α,Yg (l.map fun x => AV.lit (f x))=true
 | [] => rfl
 | a::r => by simp [Yg,AV.pure,Mi f r]
theorem Tz {S:Cx}:∀ l:List Value,RL S (l.map AV.lit) l
 | [] => rfl
 | a::r => ⟨a,r,rfl,rfl,Tz r⟩
theorem Zg2 (hs:St (cx φ H w)) {w':World} (hw:w.heap.size≤w'.heap.size):¬ Wr (cx φ H w') w.heap.size:=by
 rintro ⟨id,o,h1,_,h3⟩
 exact absurd (hs.lt (Zv h1) h3) (Nat.lt_irrefl _)
theorem Lz (hs:St (cx φ H w)) {cs:List AV} {us:List Value} {n cap:Nat} {full:Bool} {w':World} {c:Array Value} {e:TypeId} {fr:Nat × Nat}
  (hh:w'.heap=w.heap.push (.cells c e fr)) (hp:Yg cs=true) (hr:RL (cx φ H w') cs us) (hc:∀ (j:Nat) (u:Value),us[j]? = some u→c[j]? = some u) (hn:n≤cap) (hf:full=true→cap=n) :
  R (cx φ H w') (.view cs n full) (.slice (some ⟨w.heap.size,0,none⟩) n cap):=by
 refine ⟨_,cap,rfl,hn,by simp,hf,hp,.inr ⟨w.heap.size,0,us,rfl,⟨⟨c,e,fr,?_,fun j u h => by simpa using hc j u h⟩,Zg2 hs (by rw [hh]; simp)⟩,hr⟩⟩
 show w'.heap[w.heap.size]? = _
 rw [hh]; simp
theorem P9 (hs:St (cx φ H w)) {ob:AObj} {c:Array Value} {e:TypeId} {fr:Nat × Nat} {w':World} (hw:Same w w') (hh:w'.heap=w.heap.push (.cells c e fr)) (hfr:FrOk c.size fr) (hnd:¬ isD ob)
  (hl:ob.cs.length≤c.size) (hr:RL (cx φ H w) ob.cs (c.toList.take ob.cs.length)) {v:AV} {y:Value} (h:∀ φ',φ' H.length=some w.heap.size→Ext (cx φ H w) (cx φ' (H++[ob]) w')→R (cx φ' (H++[ob]) w') v y) (hfz:1<ob.sz→fr.1=fr.2:=by first | exact fun _ => rfl | exact fun h => absurd h (Nat.lt_irrefl 1)):PostV φ H w v (H++[ob]) y w':=by
 obtain ⟨φ',h1,h2,h3⟩:=Zp0 hs (c:=c) (e:=e) (fr:=fr) hfr hnd hl hr hfz
 have e:cx φ' (H++[ob]) w'=⟨φ',(cx φ H w).H++[ob],(cx φ H w).h.push (.cells c e fr)⟩:=by simp [cx,hh]
 refine ⟨φ',by rw [e]; exact h2,by rw [e]; exact h3,hw,h φ' h1 (by rw [e]; exact h3)⟩
theorem Lh {H:AH} {ob:AObj}:(H++[ob])[H.length]? = some ob:=by simp
theorem L3 {φ':Nat→Option Nat} {ob:AObj} {c:Array Value} {e:TypeId} {fr:Nat × Nat} {w':World} (hh:w'.heap=w.heap.push (.cells c e fr)) (hp:φ' H.length=some w.heap.size) {n cap L:Nat} (hL:L=ob.cs.length) (hn:n≤cap) (hc:cap*ob.sz≤c.size) (hlo:0<ob.sz→L≤cap*ob.sz) :
  R (cx φ' (H++[ob]) w') (.row H.length 0 n L) (.slice (some ⟨w.heap.size,0,none⟩) n cap):=by
 refine ⟨_,cap,rfl,hn,by simp,ob,Lh,by omega,fun _ => .inr ⟨w.heap.size,hp,by simp,.inl rfl,fun hz => ⟨?_,by have:=hlo hz; omega⟩⟩⟩
 have:X9 (cx φ' (H++[ob]) w') w.heap.size=c.size:=by
  unfold X9
  have:(cx φ' (H++[ob]) w').h[w.heap.size]? = some (.cells c e fr):=by show w'.heap[w.heap.size]? = _; rw [hh]; simp
  rw [this]
 omega
theorem Oj (s:ByteArray):bytesOf s=(byteCells s).map AV.lit:=by simp [bytesOf,byteCells]
theorem C2 (s:ByteArray):∀ u ∈ byteCells s,u.oneCell'=true:=by
 intro u hu
 obtain ⟨_,_,rfl⟩:=List.mem_map.1 hu; rfl
theorem J2 (s:ByteArray) (cap:Nat) (j:Nat) (u:Value) (h:(byteCells s)[j]? = some u):(bytesRow s cap)[j]? = some u:=by
 have hj:j<s.data.size:=by have:=Zv h; simpa [byteCells] using this
 unfold bytesRow
 rw [Array.getElem?_append_left (by simpa using hj)]
 simpa [byteCells] using h
theorem Zkn (hs:St (cx φ H w)) {own:Bool} {s d e:TypeId} {x:AV} {a:Value} (h1:P.underlying s=some .string) (h2:P.underlying d=some (.slice e)) (h3:P.underlying e=some (.int .u8)) (hx:R (cx φ H w) x a) (hok:Zko x) :
  ∃ u w',(convert s d a).run P w=.ok u w'∧PostV φ H w (s2bV own H x) (s2bH own H x) u w':=by
 have hstr:Mb x:=by
  cases x with
  | lit v => cases v <;> first | trivial | exact hok
  | _ => exact hok
 obtain ⟨t,rfl,rfl⟩:=Ztj hx hstr
 refine ⟨_,_,run_bytes_of_string w s d e t h1 h2 h3,?_⟩
 have hcap:t.size≤grownCap w t.size 0 e:=by simp only [grownCap,Question.cut]; omega
 have hsz:(bytesRow t (grownCap w t.size 0 e)).size=grownCap w t.size 0 e:=by
  simp only [bytesRow,Array.size_append,Array.size_map,Array.size_replicate]
  have:t.data.size=t.size:=rfl
  omega
 cases own
 ·refine Ml (o:=.cells _ e _) hs ⟨rfl,rfl,rfl⟩ rfl fun φ' _ hφ => ?_
  subst hφ
  refine Lz hs (us:=byteCells t) rfl ?_ ?_ (J2 t _) hcap (fun h => by cases h)
  ·exact Mi _ _
  ·rw [Oj]; exact Tz _
 ·show PostV φ H w (.row H.length 0 t.size t.size) (H++[⟨bytesOf t,1,true⟩]) _ _
  refine P9 (w':=w.drew.alloc (.cells (bytesRow t (grownCap w t.size 0 e)) e ((bytesRow t (grownCap w t.size 0 e)).size,(bytesRow t (grownCap w t.size 0 e)).size+1))) (c:=bytesRow t (grownCap w t.size 0 e)) (e:=e) (fr:=((bytesRow t (grownCap w t.size 0 e)).size,(bytesRow t (grownCap w t.size 0 e)).size+1)) hs (ob:=⟨bytesOf t,1,true⟩) ⟨rfl,rfl,rfl⟩ rfl (.inr (Nat.le_refl _)) (fun h => Nat.one_ne_zero h.2) ?_ ?_ fun φ' hφ _ => ?_
  ·rw [hsz]; simpa [bytesOf] using hcap
  ·rw [Oj]
   have:(bytesRow t (grownCap w t.size 0 e)).toList.take ((byteCells t).map AV.lit).length=byteCells t:=by
    apply List.ext_getElem?
    intro j
    rw [List.getElem?_take]
    by_cases hj:j<(byteCells t).length
    ·obtain ⟨u,hu⟩:=Yd hj
     rw [if_pos (by simpa using hj),hu]
     simpa using J2 t _ j u hu
    ·rw [if_neg (by simpa using hj),List.getElem?_eq_none (by omega)]
   dsimp only
   rw [this]; exact Tz _
  ·exact L3 rfl hφ (by simp [bytesOf]) hcap (by show _*1≤_; rw [hsz]; omega) (fun _ => by show _≤_*1; omega)
theorem Zhq {a:AV} (h:Aj a=true):∃ n,a=.lit (.int .u8 n):=by
 unfold Aj at h
 split at h
 ·exact ⟨_,rfl⟩
 ·cases h
theorem Zf4 {S:Cx}:∀ {cs:List AV} {us:List Value},RL S cs us→cs.all Aj=true→∃ ns:List Int,us=ns.map (Value.int .u8)∧cs.map Bc=ns.map fun n => UInt8.ofNat n.toNat
 | [],us,h,_ => ⟨[],by cases h; rfl,rfl⟩
 | a::r,us,h,hb => by
  obtain ⟨u,t,rfl,h2,h3⟩:=h
  simp only [List.all_cons,Bool.and_eq_true] at hb
  obtain ⟨n,rfl⟩:=Zhq hb.1
  cases h2
  obtain ⟨ns,rfl,h4⟩:=Zf4 h3 hb.2
  exact ⟨n::ns,rfl,by simp [Bc,h4]⟩
theorem T6 {H:AH} {id:Nat} {o:AObj} (h:H[id]? = some o):obj H id=o:=by simp [obj,List.getD_eq_getElem?_getD,h]
theorem Q7 {H:AH} {id:Nat} (h:id<H.length):H[id]? = some (obj H id):=by
 obtain ⟨o,ho⟩:=Yd h
 rw [ho,T6 ho]
theorem Mo (hs:St (cx φ H w)) {id b:Nat} (hid:id<H.length) (hp:φ id=some b):∃ c e fr,w.heap[b]? = some (Obj.cells c e fr)∧(∀ k,k<c.size→¬ (fr.1≤k∧k<fr.2))∧(obj H id).cs.length≤c.size∧RL (cx φ H w) (obj H id).cs (c.toList.take (obj H id).cs.length):=by
 rcases hs.ok id _ (Q7 hid) with ⟨g1,_⟩ | ⟨b',c,e,fr,g1,g2,g3,g4,g5⟩
 ·rw [show (cx φ H w).φ=φ from rfl,hp] at g1; cases g1
 ·rw [show (cx φ H w).φ=φ from rfl,hp] at g1; cases g1
  exact ⟨c,e,fr,g2,g3.1.no,g4,g5⟩
theorem Fa {b j:Nat} {c:Array Value} {e:TypeId} {fr:Nat × Nat} (h:w.heap[b]? = some (Obj.cells c e fr)):w.cell? ⟨b,j,none⟩=c[j]? := by simp [World.cell?,h]
theorem Xq (b o j:Nat):(⟨b,o,none⟩:Addr).add j=⟨b,o+j,none⟩:=Addr.add_mid b o j
theorem Hp (hs:St (cx φ H w)) {id b off k:Nat} (hid:id<H.length) (hp:φ id=some b) (hk:off+k≤(obj H id).cs.length) :
  ∃ us,RL (cx φ H w) (((obj H id).cs.drop off).take k) us∧w.rangeAt b off us:=by
 obtain ⟨c,e,fr,h1,h2,h3,h4⟩:=Mo hs hid hp
 refine ⟨((c.toList.take (obj H id).cs.length).drop off).take k,(h4.drop off).take k,fun j v hj => ?_⟩
 rw [Fa h1]
 rw [List.getElem?_take] at hj
 split at hj
 ·rw [List.getElem?_drop,List.getElem?_take] at hj
  split at hj
  ·simpa using hj
  ·cases hj
 ·cases hj
theorem Mz {S:Cx} {b off:Nat} {us:List Value} (h:Imm S b off us) (hw:S.h=w.heap):w.rangeAt b off us:=by
 obtain ⟨⟨c,e,fr,h1,h2⟩,_⟩:=h
 intro j v hj
 rw [hw] at h1
 rw [Fa h1]; exact h2 j v hj
theorem Ec {b off:Nat} {us:List Value} (h:w.rangeAt b off us) (n:Nat):w.rangeAt b off (us.take n):=fun j v hj => by
 rw [List.getElem?_take] at hj
 split at hj
 ·exact h j v hj
 ·cases hj
theorem Zj9 {sz:Nat} {v:Value} (h:Wy sz H (.lit v)) (hn:¬ Mb (.lit v)):v=.slice none 0 0:=by
 unfold Wy at h
 split at h <;> simp_all [Mb]
theorem I3 (hs:St (cx φ H w)) {sz:Nat} {x:AV} {a:Value} (hx:R (cx φ H w) x a) (hok:Wy sz H x) (hns:¬ Mb x) :
  ∃ base cap us,a=.slice base (srcN x) cap∧RL (cx φ H w) (srcC sz H x) us∧us.length=srcN x*sz∧(us=[]∨∃ b off,base=some ⟨b,off,none⟩∧w.rangeAt b off us)∧(base=none→srcN x=0):=by
 cases x with
 | lit v =>
  obtain rfl:=Zj9 hok hns
  cases hx
  exact ⟨none,0,[],rfl,rfl,by simp [srcN],.inl rfl,fun _ => rfl⟩
 | view cs n full =>
  obtain ⟨base,cap,rfl,h2,h3,h4,h5,h6⟩:=hx
  rcases h6 with rfl | ⟨b,off,us,rfl,h7,h8⟩
  ·refine ⟨base,cap,[],rfl,rfl,?_,.inl rfl,fun h => (h3 h).1⟩
   simp only [Wy] at hok
   simpa [srcN] using hok
  ·refine ⟨_,cap,us,rfl,h8,?_,.inr ⟨b,off,rfl,Mz h7 rfl⟩,fun h => by cases h⟩
   rw [h8.length]; exact hok
 | row id off n L =>
  obtain ⟨base,cap,rfl,h2,h3,o,h4,h5,h6⟩:=hx
  obtain ⟨g1,g2,g3⟩:=hok
  have ho:obj H id=o:=T6 h4
  rw [ho] at g2
  rcases h6 g2 with ⟨h7,hc0⟩ | ⟨b,h7,h8,h9,h10⟩
  ·have hn:n=0:=by omega
   subst hn
   refine ⟨base,cap,[],rfl,?_,?_,.inl rfl,fun _ => rfl⟩
   ·simp [srcC,RL]
   ·simp [srcN]
  ·obtain ⟨us,r1,r2⟩:=Hp hs (k:=n*sz) g1 h7 (by rw [ho,← g2]; exact g3)
   have hl:us.length=n*sz:=by rw [r1.length,List.length_take,List.length_drop,ho,← g2]; omega
   rcases h9 with rfl | h9
   ·exact ⟨_,cap,us,rfl,r1,hl,.inr ⟨b,off,rfl,r2⟩,fun h => by cases h⟩
   ·have hn:n=0:=by omega
    subst hn
    refine ⟨_,cap,[],rfl,?_,by simp [srcN],.inl rfl,fun h => absurd h h8⟩
    simp [srcC,RL]
 | _ => exact hok.elim
theorem Zos (hs:St (cx φ H w)) {s d e:TypeId} {x:AV} {a:Value} (h1:P.underlying s=some (.slice e)) (h2:P.underlying e=some (.int .u8)) (h3:P.underlying d=some .string) (hx:R (cx φ H w) x a) (hok:Zi2 H x) :
  ∃ u,(convert s d a).run P w=.ok u w∧R (cx φ H w) (b2sV H x) u:=by
 obtain ⟨g1,g2,g3⟩:=hok
 obtain ⟨base,cap,us,rfl,r1,r2,r3,r4⟩:=I3 hs hx g2 g1
 obtain ⟨ns,rfl,e2⟩:=Zf4 r1 g3
 rw [run_convert_bytes_string w s d e base _ cap h1 h2 h3]
 rcases r3 with r3 | ⟨b,off,rfl,r5⟩
 ·have hns:ns=[]:=by simpa using r3
  subst hns
  have h0:srcN x=0:=by simpa using r2.symm
  have hv:b2sV H x=.lit (.string .empty):=by simp [b2sV,e2]; rfl
  rw [hv,h0]
  cases base with
  | none => exact ⟨_,rfl,rfl⟩
  | some ad =>
   have hl:=run_loadCells_list (P:=P) w ad [] (by simp)
   rw [run_bytesToString w ad 0 cap [] (by simpa using hl)]
   exact ⟨_,rfl,rfl⟩
 ·have hl:=run_loadCells_list (P:=P) w ⟨b,off,none⟩ (ns.map (Value.int .u8)) (fun j v hj => by rw [Xq]; exact r5 j v hj)
  have hlen:srcN x=(ns.map (Value.int .u8)).length:=by rw [r2]; omega
  rw [← hlen] at hl
  rw [run_bytesToString w _ _ cap ns hl]
  refine ⟨_,rfl,?_⟩
  show Value.string _=Value.string _
  congr 1
  rw [e2]
  have key:∀ (ns:List Int) (r:ByteArray),ns.foldl (fun r n => r.push (UInt8.ofNat n.toNat)) r=⟨r.data++(ns.map fun n => UInt8.ofNat n.toNat).toArray⟩:=by
   intro ns
   induction ns with
   | nil => intro r; simp
   | cons n ns ih => intro r; simp only [List.foldl_cons,ih,List.map_cons]; simp [ByteArray.push]
  have he0:ByteArray.empty.data=#[]:=rfl
  rw [key,he0]; simp
end
section
variable {P:Program} {φ:Nat→Option Nat} {H:AH} {w:World}
theorem Z2 {t:TypeId} (h:P.cellsOf t≠0):∃ i,P.info? t=some i∧i.size=P.cellsOf t:=by
 unfold Program.cellsOf at *
 cases hi:P.info? t with
 | none => rw [hi] at h; simp at h
 | some i => exact ⟨i,rfl,by simp⟩
theorem S3 {t:TypeId} (h:(P.underlying t).isNone=false):(isAgg t).run P w=.ok (Yk P t) w:=by
 unfold isAgg Yk
 cases hu:P.underlying t with
 | none => rw [hu] at h; cases h
 | some d => rw [Sem.run_bind,run_underlying hu]; cases d <;> rfl
theorem Jh {t:TypeId} (hc:P.cellsOf t≠0) (hu:(P.underlying t).isNone=false) {b off:Nat} {us:List Value} (hr:w.rangeAt b off us) (hl:us.length=P.cellsOf t) :
  (Instr.loadAt t (.pointer (some ⟨b,off,none⟩))).run P w=.ok (if Yk P t then .agg us.toArray else us.getD 0 undef) w:=by
 obtain ⟨i,hi,hsz⟩:=Z2 hc
 simp only [Instr.loadAt,Instr.sureAddr,Sem.run_bind,Sem.run_pure,Result.andThen_ok,loadVar,S3 hu]
 cases hA:Yk P t
 ·obtain ⟨u,hu0⟩:=Yd (l:=us) (i:=0) (by omega)
  have:=hr 0 u hu0
  simp only [Nat.add_zero] at this
  simp [this,List.getD_eq_getElem?_getD,hu0]
 ·have hl':=run_loadCells_list (P:=P) w ⟨b,off,none⟩ us (fun j v hv => by rw [Xq]; exact hr j v hv)
  simp [sizeOf,typeInfo,hi,hsz,← hl,hl']
theorem Ze7 {S:Cx} {cs:List AV} {us:List Value} (h:RL S cs us) (hn:0<cs.length) (agg:Bool):R S (if agg then .agg cs else cs.getD 0 .junk) (if agg then .agg us.toArray else us.getD 0 undef):=by
 cases agg
 ·exact h.getD 0 hn _
 ·exact ⟨us.toArray,rfl,by simpa using h⟩
theorem Ek (hs:St (cx φ H w)) {t:TypeId} (hc:P.cellsOf t≠0) (hu:(P.underlying t).isNone=false) {x:AV} {a:Value} (hx:R (cx φ H w) x a) (hok:Ys (P.cellsOf t) H x) :
  ∃ u,(Instr.loadAt t a).run P w=.ok u w∧R (cx φ H w) (Y8 (Yk P t) (P.cellsOf t) H x) u:=by
 have go:∀ {id b off:Nat},id<H.length→φ id=some b→off+P.cellsOf t≤(obj H id).cs.length→a=.pointer (some ⟨b,off,none⟩) →
   ∃ u,(Instr.loadAt t a).run P w=.ok u w∧R (cx φ H w) (if Yk P t then .agg (((obj H id).cs.drop off).take (P.cellsOf t)) else (obj H id).cs.getD off .junk) u:=by
  rintro id b off h1 h2 h3 rfl
  obtain ⟨us,r1,r2⟩:=Hp hs h1 h2 h3
  have hl:us.length=P.cellsOf t:=by rw [r1.length,List.length_take,List.length_drop]; omega
  refine ⟨_,Jh hc hu r2 hl,?_⟩
  have:=Ze7 r1 (by rw [← r1.length]; omega) (Yk P t)
  have e:(((obj H id).cs.drop off).take (P.cellsOf t)).getD 0 .junk=(obj H id).cs.getD off .junk:=by
   rw [List.getD_eq_getElem?_getD,List.getD_eq_getElem?_getD,List.getElem?_take,if_pos (by omega),List.getElem?_drop,Nat.add_zero]
  rw [e] at this; exact this
 cases x with
 | ptr id off =>
  obtain ⟨o,b,h1,h2,h3,h4⟩:=hx
  exact go hok.1 h3 hok.2 h4
 | rptr id off L =>
  obtain ⟨ad,rfl,o,h1,h2,h3⟩:=hx
  obtain ⟨g1,g2,g3⟩:=hok
  have h1:H[id]? = some o:=h1
  rw [T6 h1] at g2
  obtain ⟨b,h4,rfl⟩:=h3 g2
  exact go g1 h4 (by rw [T6 h1,← g2]; exact g3) rfl
 | vptr cs =>
  obtain ⟨b,off,us,rfl,h1,h2,h3⟩:=hx
  have hk:P.cellsOf t≤cs.length:=hok
  have hl:(us.take (P.cellsOf t)).length=P.cellsOf t:=by rw [List.length_take,h3.length]; omega
  refine ⟨_,Jh hc hu (Ec (Mz h1 rfl) _) hl,?_⟩
  have:=Ze7 (h3.take (P.cellsOf t)) (by rw [List.length_take]; omega) (Yk P t)
  have e:(cs.take (P.cellsOf t)).getD 0 .junk=cs.getD 0 .junk:=by
   rw [List.getD_eq_getElem?_getD,List.getD_eq_getElem?_getD,List.getElem?_take,if_pos (by omega)]
  rw [e] at this; exact this
 | _ => exact hok.elim
/-! ### Cells written -/
def T4 (c:Array Value):Nat→List Value→Array Value
 | _,[] => c
 | o,v::r => T4 (c.setIfInBounds o v) (o+1) r
theorem X4:∀ (vs:List Value) (o:Nat) (c:Array Value),(T4 c o vs).size=c.size
 | [],_,_ => rfl
 | v::r,o,c => by rw [T4,X4 r]; simp
theorem P7:∀ (vs:List Value) (o:Nat) (c:Array Value) (j:Nat),o+vs.length≤c.size→(T4 c o vs)[j]? = if o≤j∧j<o+vs.length then vs[j - o]? else c[j]?
 | [],o,c,j,_ => by rw [if_neg (by simp only [List.length_nil]; omega)]; rfl
 | v::r,o,c,j,h => by
  simp only [List.length_cons] at h ⊢
  rw [T4,P7 r (o+1) _ j (by simp; omega)]
  by_cases hj:j=o
  ·subst hj
   rw [if_neg (by omega),if_pos (by omega)]
   simp [show j<c.size by omega]
  ·by_cases h2:o+1≤j∧j<o+1+r.length
   ·rw [if_pos h2,if_pos (by omega),show j - o=(j - (o+1))+1 by omega]; simp
   ·rw [if_neg h2,if_neg (by omega),Array.getElem?_setIfInBounds_ne (Ne.symm hj)]
theorem Rv:∀ (vs:List Value) (b o:Nat) (w:World) {c:Array Value} {e:TypeId} {fr:Nat × Nat},w.heap[b]? = some (Obj.cells c e fr) →
  (w.setCells b o vs).heap[b]? = some (Obj.cells (T4 c o vs) e fr)∧(∀ i:Nat,i≠b→(w.setCells b o vs).heap[i]? = w.heap[i]?)∧(w.setCells b o vs).heap.size=w.heap.size∧Same w (w.setCells b o vs)
 | [],b,o,w,c,e,fr,h => ⟨h,fun _ _ => rfl,rfl,.refl _⟩
 | v::r,b,o,w,c,e,fr,h => by
  have h1:(w.setCell ⟨b,o,none⟩ v).heap[b]? = some (Obj.cells (c.setIfInBounds o v) e fr):=by
   simp [World.setCell,Array.getElem?_modify,h]
  obtain ⟨g1,g2,g3,g4⟩:=Rv r b (o+1) (w.setCell ⟨b,o,none⟩ v) h1
  refine ⟨g1,fun i hi => ?_,?_,?_⟩
  ·rw [World.setCells,g2 i hi]
   simp [World.setCell,Array.getElem?_modify,Ne.symm hi]
  ·rw [World.setCells,g3]; simp [World.setCell]
  ·exact Same.trans (⟨rfl,rfl,rfl⟩:Same w (w.setCell ⟨b,o,none⟩ v)) g4
theorem Ea (cs new:List AV) (off:Nat) (h:off+new.length≤cs.length) (j:Nat):(splice cs off new)[j]? = if off≤j∧j<off+new.length then new[j - off]? else cs[j]? := by
 unfold splice
 split
 ·rename_i v
  rw [List.getElem?_set]
  simp only [List.length_cons,List.length_nil] at h ⊢
  by_cases hj:off=j
  ·subst hj; rw [if_pos rfl,if_pos (by omega),if_pos (by omega)]; simp
  ·rw [if_neg hj,if_neg (by omega)]
 ·rw [List.append_assoc,List.getElem?_append,List.getElem?_append,List.length_take]
  by_cases h1:j<off
  ·rw [if_pos (by omega),if_neg (by omega),List.getElem?_take,if_pos h1]
  ·rw [if_neg (by omega)]
   by_cases h2:j<off+new.length
   ·rw [if_pos (by omega),if_pos (by omega)]
    congr 1; omega
   ·rw [if_neg (by omega),if_neg (by omega),List.getElem?_drop]
    congr 1; omega
theorem Wn (cs new:List AV) (off:Nat) (h:off+new.length≤cs.length):(splice cs off new).length=cs.length:=by
 unfold splice
 split
 ·simp
 ·simp only [List.length_append,List.length_take,List.length_drop]; omega
theorem Nf (hs:St (cx φ H w)) {id b off:Nat} {new:List AV} {vs:List Value} (hid:id<H.length) (hrw:(obj H id).rw=true) (hp:φ id=some b) (hfit:off+new.length≤(obj H id).cs.length) (hr:RL (cx φ H w) new vs) :
  w.there b off vs.length∧St (cx φ (setO H id (splice (obj H id).cs off new)) (w.setCells b off vs))∧Ext (cx φ H w) (cx φ (setO H id (splice (obj H id).cs off new)) (w.setCells b off vs))∧Same w (w.setCells b off vs):=by
 obtain ⟨c,e,fr,h1,h2,h3,h4⟩:=Mo hs hid hp
 have hl:=hr.length
 obtain ⟨g1,g2,g3,g4⟩:=Rv vs b off w h1
 have key:=Zec (S:=cx φ H w) hs (id:=id) (b:=b) (o:=obj H id) (cs':=splice (obj H id).cs off new) (c:=c) (c':=T4 c off vs) (e:=e) (fr:=fr) (h':=(w.setCells b off vs).heap)
  (Q7 hid) hrw hp h1 g3 g2 g1 (X4 _ _ _) (by rw [Wn _ _ _ hfit]; exact Nat.le_refl _) (fun _ => Wn _ _ _ hfit) (by rw [Wn _ _ _ hfit,X4]; exact h3) ?_
 ·exact ⟨fun j hj => ⟨by rw [Fa h1]; simp [show off+j<c.size by omega],by
   have:=h2 (off+j) (by omega)
   simp only [World.frozen?,h1]
   obtain ⟨lo,hi⟩:=fr
   simp only at this ⊢
   simp; omega⟩,key.1,key.2,g4⟩
 ·rw [Wn _ _ _ hfit]
  refine RL.of (by rw [List.length_take,Array.length_toList,X4,Wn _ _ _ hfit]; omega) fun j x u k1 k2 => ?_
  rw [Ea _ _ _ hfit] at k1
  rw [List.getElem?_take] at k2
  split at k2
  ·rw [Array.getElem?_toList,P7 _ _ _ _ (by omega),hl] at k2
   by_cases hj:off≤j∧j<off+new.length
   ·rw [if_pos hj] at k1 k2
    obtain ⟨v,m1,m2⟩:=hr.get k1
    rw [m1] at k2; cases k2; exact m2
   ·rw [if_neg hj] at k1 k2
    obtain ⟨v,m1,m2⟩:=h4.get k1
    rw [List.getElem?_take,if_pos (Zv k1)] at m1
    have e1:c[j]? = some v:=by simpa using m1
    have e2:some v=some u:=e1.symm.trans k2
    cases e2; exact m2
  ·cases k2
theorem Dr {t:TypeId} (hc:P.cellsOf t≠0) {b off:Nat} {y:Value} (hl:y.cells.size=P.cellsOf t) (h1:∀ u ∈ y.cells.toList,u.oneCell'=true) (ht:w.there b off y.cells.size) :
  (Instr.storeAt t (.pointer (some ⟨b,off,none⟩)) y).run P w=.ok () (w.setCells b off y.cells.toList):=by
 obtain ⟨i,hi,hsz⟩:=Z2 hc
 have:=run_storeCells_cells (P:=P) b off y.cells.toList 0 w (fun j hj => by simpa using (ht j (by simpa using hj)).1) (fun j hj => by simpa using (ht j (by simpa using hj)).2) h1
 simp only [Nat.add_zero] at this
 simp [Instr.storeAt,Instr.sureAddr,storeVar,sizeOf,typeInfo,hi,hsz,hl,this]
theorem Zbh (hs:St (cx φ H w)) {t:TypeId} (hc:P.cellsOf t≠0) {x a:AV} {y z:Value} (hx:R (cx φ H w) x y) (ha:R (cx φ H w) a z) (hok:Dj (P.cellsOf t) H a x) :
  ∃ w',(Instr.storeAt t z y).run P w=.ok () w'∧PostV φ H w .junk (F9 H x a) undef w':=by
 obtain ⟨k1,k2,k3⟩:=hok
 obtain ⟨r1,r2⟩:=hx.cells k2
 have hl:y.cells.size=P.cellsOf t:=by rw [← Array.length_toList,r1.length,k1]
 have go:∀ {id b off:Nat},id<H.length→(obj H id).rw=true→φ id=some b→off+P.cellsOf t≤(obj H id).cs.length→z=.pointer (some ⟨b,off,none⟩) →
   ∃ w',(Instr.storeAt t z y).run P w=.ok () w'∧PostV φ H w .junk (setO H id (splice (obj H id).cs off x.cells)) undef w':=by
  rintro id b off h1 h2 h3 h4 rfl
  obtain ⟨m1,m2,m3,m4⟩:=Nf hs h1 h2 h3 (by rw [k1]; exact h4) r1
  exact ⟨_,Dr hc hl r2 (by rw [Array.length_toList] at m1; exact m1),φ,m2,m3,m4,trivial⟩
 cases a with
 | ptr id off =>
  obtain ⟨o,b,h1,h2,h3,h4⟩:=ha
  exact go k3.1 k3.2.1 h3 k3.2.2 h4
 | rptr id off L =>
  obtain ⟨ad,rfl,o,h1,h2,h3⟩:=ha
  obtain ⟨g1,g2,g3,g4⟩:=k3
  have h1:H[id]? = some o:=h1
  rw [T6 h1] at g3
  obtain ⟨b,h4,rfl⟩:=h3 g3
  exact go g1 g2 h4 (by rw [T6 h1,← g3]; exact g4) rfl
 | _ => exact k3.elim
/-! ### New variables -/
theorem Zev (hs:St (cx φ H w)) {ob:AObj} {c:Array Value} {e:TypeId} (hz:ob.sz=0) (hne:ob.cs≠[]) (hr:RL (cx φ H w) ob.cs c.toList) :
  PostV φ H w (.ptr H.length 0) (H++[ob]) (.pointer (some ⟨w.heap.size,0,none⟩)) (w.alloc (.cells c e)):=by
 have hl:=hr.length
 rw [Array.length_toList] at hl
 refine P9 (w':=w.alloc (.cells c e)) (ob:=ob) (c:=c) (e:=e) (fr:=(0,0)) hs ⟨rfl,rfl,rfl⟩ rfl (.inl rfl) (fun h => hne h.1) (by omega) (by rw [← hl,← Array.length_toList,List.take_length]; exact hr) fun φ' hφ _ => ?_
 exact ⟨ob,w.heap.size,Lh,hz,hφ,rfl⟩
theorem Zdl (hs:St (cx φ H w)) {t:TypeId} {z:List Value} (hz:S1 P t=some z) (hne:z.isEmpty=false) :
  ∃ u w',(Instr.alloc t true (.tuple #[])).run P w=.ok u w'∧PostV φ H w (.ptr H.length 0) (H++[⟨zlit z,0,true⟩]) u w':=by
 unfold S1 at hz
 cases hi:P.info? t with
 | none => rw [hi] at hz; simp at hz
 | some i =>
  rw [hi] at hz
  cases hv:i.zero with
  | none => simp [hv] at hz
  | some v =>
   simp [hv] at hz
   refine ⟨.pointer (some ⟨w.heap.size,0,none⟩),w.alloc (.cells v.cells t),?_,?_⟩
   ·simp [Instr.alloc,zeroValue,typeInfo,hi,hv,newVar,newRow]
   ·refine Zev hs rfl (by intro h; simp [zlit] at h; rw [h] at hne; cases hne) ?_
    rw [← hz]; exact Tz _
theorem Zof (hs:St (cx φ H w)) {t:TypeId} {x:AV} {y:Value} (hx:R (cx φ H w) x y) (hok:x.cells.isEmpty=false∧x.cells.all AV.one=true) :
  ∃ u w',(Instr.box t y).run P w=.ok u w'∧PostV φ H w (.ptr H.length 0) (H++[⟨x.cells,0,true⟩]) u w':=by
 refine ⟨.pointer (some ⟨w.heap.size,0,none⟩),w.alloc (.cells y.cells t),?_,Zev hs rfl (by intro h; have h1:=hok.1; rw [show x.cells=[] from h] at h1; cases h1) (hx.cells hok.2).1⟩
 simp [Instr.box,newVar,newRow]
end
section
variable {P:Program} {φ:Nat→Option Nat} {H:AH} {w:World}
theorem Ar (off:Nat):∀ (l:List Value) (k:Nat) (c:Array Value),(l.zipIdx k).foldl (fun cs (p:Value × Nat) => cs.setIfInBounds (off+p.2) p.1) c=T4 c (off+k) l
 | [],_,_ => rfl
 | v::r,k,c => by
  rw [List.zipIdx_cons,List.foldl_cons,Ar off r (k+1)]
  rfl
theorem Zpd {S:Cx} {cs new:List AV} {c:Array Value} {vs:List Value} {off:Nat} (h:RL S cs c.toList) (hn:RL S new vs) (hfit:off+new.length≤cs.length):RL S (splice cs off new) (T4 c off vs).toList:=by
 have hl:=h.length
 have hl2:=hn.length
 rw [Array.length_toList] at hl
 refine RL.of (by rw [Array.length_toList,X4,Wn _ _ _ hfit]; exact hl) fun j x u k1 k2 => ?_
 rw [Ea _ _ _ hfit] at k1
 rw [Array.getElem?_toList,P7 _ _ _ _ (by omega),hl2] at k2
 by_cases hj:off≤j∧j<off+new.length
 ·rw [if_pos hj] at k1 k2
  obtain ⟨v,m1,m2⟩:=hn.get k1
  rw [m1] at k2; cases k2; exact m2
 ·rw [if_neg hj] at k1 k2
  obtain ⟨v,m1,m2⟩:=h.get k1
  have e1:c[j]? = some v:=by simpa using m1
  have e2:some v=some u:=e1.symm.trans k2
  cases e2; exact m2
theorem Ku {S:Cx} {place:Nat→Option (Nat × Nat)} {ρ:IArg→AV} {η:Operand→Value} (hρ:∀ x y,arg? x=some y→R S (ρ y) (η x)) :
  ∀ (ps:List (Nat × Operand)) (qs:List (Nat × Nat × IArg)) (cs:List AV) (c:Array Value),ps.mapM (fun (p:Nat × Operand) => (do let (o,k) ← place p.1; let y ← arg? p.2; pure (o,k,y):Option (Nat × Nat × IArg)))=some qs→RL S cs c.toList →
   Zq cs.length (qs.map fun p => (p.1,p.2.1,ρ p.2.2))→∃ out,Instr.fill place c (ps.map fun p => (p.1,η p.2))=some out∧RL S (fillv cs (qs.map fun p => (p.1,ρ p.2.2))) out.toList
 | [],qs,cs,c,hm,hr,hok => by
  simp at hm; subst hm
  exact ⟨c,rfl,hr⟩
 | (i,x)::ps,qs,cs,c,hm,hr,hok => by
  simp only [List.mapM_cons,Option.bind_eq_bind,Option.pure_def] at hm
  cases hp:place i with
  | none => simp [hp] at hm
  | some ok =>
   obtain ⟨o,k⟩:=ok
   cases hy:arg? x with
   | none => simp [hp,hy] at hm
   | some y =>
    simp only [hp,hy,Option.bind_some] at hm
    cases hq:ps.mapM (fun (p:Nat × Operand) => (do let (o,k) ← place p.1; let y ← arg? p.2; pure (o,k,y):Option (Nat × Nat × IArg))) with
    | none => simp only [Option.bind_eq_bind,Option.pure_def] at hq; rw [hq] at hm; simp at hm
    | some qs' =>
     have hq':=hq
     simp only [Option.bind_eq_bind,Option.pure_def] at hq'
     rw [hq'] at hm
     simp at hm; subst hm
     simp only [List.map_cons,Zq] at hok
     obtain ⟨⟨h1,h2,h3⟩,h4⟩:=hok
     have hR:=hρ x y hy
     obtain ⟨r1,_⟩:=hR.cells h3
     have hsz:(η x).cells.size=k:=by rw [← Array.length_toList,r1.length,h1]
     have hc:=hr.length
     rw [Array.length_toList] at hc
     have hfit:o+(ρ y).cells.length≤cs.length:=by rw [h1]; exact h2
     obtain ⟨out,g1,g2⟩:=Ku hρ ps qs' (splice cs o (ρ y).cells) (T4 c o (η x).cells.toList) hq (Zpd hr r1 hfit) (by rw [Wn _ _ _ hfit]; exact h4)
     refine ⟨out,?_,g2⟩
     simp only [List.map_cons,Instr.fill,hp,hsz]
     rw [if_neg (by simp; omega)]
     have e:(η x).cells.zipIdx.foldl (fun cs (p:Value × Nat) => cs.setIfInBounds (o+p.2) p.1) c=T4 c o (η x).cells.toList:=by
      rw [← Array.foldl_toList,Array.toList_zipIdx]
      have:=Ar o (η x).cells.toList 0 c
      simpa using this
     rw [← g1,← e]
theorem Vv {t:TypeId} {z:List Value} (hz:S1 P t=some z):∃ i v,P.info? t=some i∧i.zero=some v∧v.cells.toList=z:=by
 unfold S1 at hz
 cases hi:P.info? t with
 | none => rw [hi] at hz; simp at hz
 | some i =>
  rw [hi] at hz
  cases hv:i.zero with
  | none => simp [hv] at hz
  | some v => simp [hv] at hz; exact ⟨i,v,rfl,hv,hz⟩
theorem Zdd (hs:St (cx φ H w)) {ρ:IArg→AV} {η:Operand→Value} (hρ:∀ x y,arg? x=some y→R (cx φ H w) (ρ y) (η x)) {t:TypeId} {z:List Value} {ps:Array (Nat × Operand)} {qs:List (Nat × Nat × IArg)} (hz:S1 P t=some z)
  (hq:(match P.underlying t with
   | some (.struct fs) => if fs.toList.all (fun f => (P.info? f.type).isSome) then parts? (fun i => (fs[i]?).map fun f => (f.offset,P.cellsOf f.type)) ps else none
   | some (.array _ e) => if P.cellsOf e=0 then none else parts? (fun i => some (i*P.cellsOf e,P.cellsOf e)) ps
   | _ => none)=some qs) (hok:Zq z.length (qs.map fun p => (p.1,p.2.1,ρ p.2.2))) :
  ∃ u,(Instr.build t (ps.map fun (i,x) => (i,η x))).run P w=.ok u w∧R (cx φ H w) (.agg (fillv (zlit z) (qs.map fun p => (p.1,ρ p.2.2)))) u:=by
 obtain ⟨it,v,hi,hv,hzc⟩:=Vv hz
 have hzr:RL (cx φ H w) (zlit z) v.cells.toList:=by rw [hzc]; exact Tz _
 have hlen:(zlit z).length=z.length:=by simp [zlit]
 have fin:∀ place,parts? place ps=some qs→(∀ out,Instr.fill place v.cells (ps.toList.map fun p => (p.1,η p.2))=some out→P.built t (ps.map fun (p:Nat × Operand) => (p.1,η p.2)).toList=some out) →
   ∃ u,(Instr.build t (ps.map fun (p:Nat × Operand) => (p.1,η p.2))).run P w=.ok u w∧R (cx φ H w) (.agg (fillv (zlit z) (qs.map fun p => (p.1,ρ p.2.2)))) u:=by
  intro place hp hb
  obtain ⟨out,g1,g2⟩:=Ku hρ ps.toList qs (zlit z) v.cells hp hzr (by rw [hlen]; exact hok)
  exact ⟨_,run_build w t _ out (hb out g1),out,rfl,g2⟩
 cases hu:P.underlying t with
 | none => rw [hu] at hq; cases hq
 | some d =>
  rw [hu] at hq
  cases d <;> try (cases hq; done)
  case array n e =>
   dsimp only at hq
   split at hq
   ·cases hq
   ·rename_i he
    obtain ⟨ie,hie,hsz⟩:=Z2 he
    refine fin _ hq fun out g1 => ?_
    simp only [Program.built,hi,hu,hv,hie,hsz,Array.toList_map]
    exact g1
  case struct fs =>
   dsimp only at hq
   split at hq
   ·rename_i hall
    refine fin _ hq fun out g1 => ?_
    have hm:fs.toList.mapM (fun f => (P.info? f.type).map fun i => (f.offset,i.size))=some (fs.toList.map fun f => (f.offset,P.cellsOf f.type)):=by
     have:∀ l:List Field,l.all (fun f => (P.info? f.type).isSome)=true→l.mapM (fun f => (P.info? f.type).map fun i => (f.offset,i.size))=some (l.map fun f => (f.offset,P.cellsOf f.type)):=by
      intro l
      induction l with
      | nil => intro _; rfl
      | cons f r ih =>
       intro h
       simp only [List.all_cons,Bool.and_eq_true] at h
       obtain ⟨i,hi⟩:=Option.isSome_iff_exists.1 h.1
       simp [List.mapM_cons,hi,ih h.2,Program.cellsOf]
     exact this _ hall
    simp only [Program.built,hi,hu,hv,hm,Array.toList_map]
    have e:(fun (i:Nat) => (fs.toList.map fun (f:Field) => (f.offset,P.cellsOf f.type)).toArray[i]?)=fun (i:Nat) => (fs[i]?).map fun (f:Field) => (f.offset,P.cellsOf f.type):=by
     funext i; simp
    rw [e]; exact g1
   ·cases hq
theorem Rw {α:Type} (l:List α):∀ (n i:Nat),(List.replicate n l).flatten[i]? = if i<n*l.length then l[i%l.length]? else none
 | 0,i => by simp
 | n+1,i => by
  rw [List.replicate_succ,List.flatten_cons,List.getElem?_append]
  by_cases h:i<l.length
  ·rw [if_pos h,if_pos (by rw [Nat.succ_mul]; omega),Nat.mod_eq_of_lt h]
  ·rw [if_neg h,Rw l n,Nat.succ_mul]
   by_cases h2:i - l.length<n*l.length
   ·rw [if_pos h2,if_pos (by omega),← Nat.mod_eq_sub_mod (by omega)]
   ·rw [if_neg h2,if_neg (by omega)]
theorem Mg (n:Nat) (z:List Value):repl n (zlit z)=(List.replicate n z).flatten.map AV.lit:=by
 simp [repl,zlit,List.map_flatten]
theorem Mv (z:Array Value) (n sz:Nat) (hz:z.size=sz):((Array.range (n*sz)).map (z[·%z.size]!)).toList=(List.replicate n z.toList).flatten:=by
 apply List.ext_getElem?
 intro i
 rw [Rw,Array.toList_map,Array.toList_range,List.getElem?_map]
 simp only [Array.length_toList,hz]
 by_cases h:i<n*sz
 ·have hpos:0<sz:=by
   rcases Nat.eq_zero_or_pos sz with h0 | h0
   ·subst h0; simp at h
   ·exact h0
  have hlt:i%sz<z.size:=by rw [hz]; exact Nat.mod_lt _ hpos
  rw [if_pos h,List.getElem?_range h]
  simp [hlt]
 ·rw [if_neg h,List.getElem?_eq_none (by simpa using h)]
  rfl
theorem Zar (hs:St (cx φ H w)) {ρ:IArg→AV} {η:Operand→Value} (hρ:∀ x y,arg? x=some y→R (cx φ H w) (ρ y) (η x)) {t e:TypeId} {len:Nat} {own:Bool} {z:List Value} {ps:Array (Nat × Operand)} {qs:List (Nat × Nat × IArg)}
  (hu:P.underlying t=some (.slice e)) (hz:S1 P e=some z) (hc:¬ (P.cellsOf e=0 || len*P.cellsOf e > 2^24 || z.length != P.cellsOf e)=true) (hq:parts? (fun i => some (i*P.cellsOf e,P.cellsOf e)) ps=some qs)
  (hok:Zq (len*P.cellsOf e) (qs.map fun p => (p.1,p.2.1,ρ p.2.2))∧(own=false→Yg (fillv (repl len (zlit z)) (qs.map fun p => (p.1,ρ p.2.2)))=true)) :
  ∃ u w',(Instr.buildSlice t len (ps.map fun (i,x) => (i,η x))).run P w=.ok u w' ∧
   PostV φ H w (if own then .row H.length 0 len (len*P.cellsOf e) else .view (fillv (repl len (zlit z)) (qs.map fun p => (p.1,ρ p.2.2))) len true)
    (if own then H++[⟨fillv (repl len (zlit z)) (qs.map fun p => (p.1,ρ p.2.2)),P.cellsOf e,true⟩] else H) u w':=by
 have hc0:=hc
 obtain ⟨it,v,hi,hv,hzc⟩:=Vv hz
 simp only [Bool.or_eq_true,decide_eq_true_eq,bne_iff_ne,ne_eq,not_or,gt_iff_lt,Nat.not_lt,Decidable.not_not] at hc
 obtain ⟨⟨h0,hbig⟩,hzl⟩:=hc
 obtain ⟨it',hi',hsz⟩:=Z2 h0
 rw [hi] at hi'; cases hi'
 have hvs:v.cells.size=P.cellsOf e:=by rw [← Array.length_toList,hzc,hzl]
 have hbase:RL (cx φ H w) (repl len (zlit z)) ((Array.range (len*it.size)).map (v.cells[·%v.cells.size]!)).toList:=by
  rw [Mv v.cells len it.size (by rw [hvs,hsz]),hzc,Mg]; exact Tz _
 have hlen:(repl len (zlit z)).length=len*P.cellsOf e:=by simp [repl,zlit,List.length_flatten,hzl]
 obtain ⟨out,g1,g2⟩:=Ku (place:=fun i => some (i*P.cellsOf e,P.cellsOf e)) hρ ps.toList qs _ _ hq hbase (by rw [hlen]; exact hok.1)
 have hrun:(Instr.buildSlice t len (ps.map fun (i,x) => (i,η x))).run P w=.ok (.slice (some ⟨w.heap.size,0,none⟩) len len) (w.alloc (.cells out e)):=by
  have hsmall:¬ len*it.size > 2^24:=by rw [hsz]; omega
  have g1':Instr.fill (fun i => some (i*it.size,it.size)) ((Array.range (len*it.size)).map (v.cells[·%v.cells.size]!)) (ps.map fun (i,x) => (i,η x)).toList=some out:=by
   rw [Array.toList_map,hsz]; rw [hsz] at g1; exact g1
  by_cases hpos:len*it.size=0
  ·have hl0:len=0:=by
    rcases Nat.mul_eq_zero.1 hpos with h | h
    ·exact h
    ·omega
   subst hl0
   rw [Nat.zero_mul] at g1'
   simp [Instr.buildSlice,run_underlying hu,sizeOf,typeInfo,zeroValue,hi,hv,newRow]
   simp at g1'
   have e0:∀ f:Nat→Value,(Array.range 0).map f=#[]:=fun f => by apply Array.ext'; simp
   rw [e0] at g1'
   rw [e0,g1']
   rfl
  ·exact run_buildSlice w t e len _ out it v hu hi hv hsmall hpos g1'
 have hol:=g2.length
 refine ⟨_,_,hrun,?_⟩
 have hfl:∀ (ls:List (Nat × Nat × AV)) (cs:List AV),Zq cs.length ls→(fillv cs (ls.map fun p => (p.1,p.2.2))).length=cs.length:=by
  intro ls
  induction ls with
  | nil => intro cs _; rfl
  | cons p r ih =>
   obtain ⟨o,k,v⟩:=p
   intro cs h
   simp only [Zq] at h
   have hf:o+v.cells.length≤cs.length:=by omega
   simp only [List.map_cons,fillv]
   rw [ih _ (by rw [Wn _ _ _ hf]; exact h.2),Wn _ _ _ hf]
 have hlen2:(fillv (repl len (zlit z)) (qs.map fun p => (p.1,ρ p.2.2))).length=len*P.cellsOf e:=by
  have:=hfl (qs.map fun p => (p.1,p.2.1,ρ p.2.2)) (repl len (zlit z)) (by rw [hlen]; exact hok.1)
  rw [List.map_map] at this
  rw [← hlen,← this]; rfl
 cases own
 ·have hp:=hok.2 rfl
  refine Ml (o:=.cells out e) hs ⟨rfl,rfl,rfl⟩ rfl fun φ' hx hφ => ?_
  subst hφ
  exact Lz hs (us:=out.toList) rfl hp (g2.mono hx) (fun j u h => by simpa using h) (Nat.le_refl _) (fun _ => rfl)
 ·rw [hlen2] at hol
  rw [Array.length_toList] at hol
  show PostV φ H w (.row H.length 0 len (len*P.cellsOf e)) (H++[⟨fillv (repl len (zlit z)) (qs.map fun p => (p.1,ρ p.2.2)),P.cellsOf e,true⟩]) _ _
  refine P9 (w':=w.alloc (.cells out e)) (ob:=⟨fillv (repl len (zlit z)) (qs.map fun p => (p.1,ρ p.2.2)),P.cellsOf e,true⟩) (c:=out) (e:=e) (fr:=(0,0)) hs ⟨rfl,rfl,rfl⟩ rfl (.inl rfl) (fun h => by simp only [Bool.or_eq_true,decide_eq_true_eq,not_or] at hc0; exact hc0.1.1 h.2) (by dsimp only; omega) ?_ fun φ' hφ _ => ?_
  ·dsimp only
   rw [hlen2,← hol,← Array.length_toList,List.take_length]; exact g2
  ·exact L3 rfl hφ (by dsimp only; rw [hlen2]) (Nat.le_refl _) (by dsimp only; omega) (fun _ => Nat.le_refl _)
/-! ### Parts -/
theorem I7 {t:TypeId} {fs:Array Field} {i:Nat} {f:Field} (hu:P.underlying t=some (.struct fs)) (hf:fs[i]? = some f) (hc:P.cellsOf f.type≠0) (b off:Nat):(Instr.fieldAt t (.pointer (some ⟨b,off,none⟩)) i).run P w=.ok (.pointer (some ⟨b,off+f.offset,none⟩)) w:=by
 obtain ⟨it,hi,hsz⟩:=Z2 hc
 have h0:¬ it.size=0:=by omega
 simp [Instr.fieldAt,run_underlying hu,hf,Instr.sureAddr,fieldPlace,sizeOf,typeInfo,hi,h0,Xq]
theorem Zm6 {t:TypeId} {fs:Array Field} {i:Nat} {f:Field} (hu:P.underlying t=some (.struct fs)) (hf:fs[i]? = some f) (hc:P.cellsOf f.type≠0) {x:AV} {a:Value} (hx:R (cx φ H w) x a) (hok:Fs x) :
  ∃ u,(Instr.fieldAt t a i).run P w=.ok u w∧R (cx φ H w) (fldV f.offset x) u:=by
 cases x with
 | ptr id off =>
  obtain ⟨o,b,h1,h2,h3,rfl⟩:=hx
  exact ⟨_,I7 hu hf hc b off,o,b,h1,h2,h3,rfl⟩
 | rptr id off L =>
  obtain ⟨⟨b,of,sp⟩,rfl,o,h1,h2,h3⟩:=hx
  obtain ⟨it,hi,hsz⟩:=Z2 hc
  have h0:¬ it.size=0:=by omega
  refine ⟨.pointer (some ((⟨b,of,sp⟩:Addr).add f.offset)),by simp [Instr.fieldAt,run_underlying hu,hf,Instr.sureAddr,fieldPlace,sizeOf,typeInfo,hi,h0],_,rfl,o,h1,h2,fun hL => ?_⟩
  obtain ⟨b',h4,h5⟩:=h3 hL
  cases h5
  exact ⟨b,h4,Xq _ _ _⟩
 | vptr cs =>
  obtain ⟨b,off,us,rfl,h1,h2,h3⟩:=hx
  refine ⟨_,I7 hu hf hc b off,b,off+f.offset,us.drop f.offset,rfl,⟨?_,h1.2⟩,?_,h3.drop _⟩
  ·obtain ⟨c,e,fr,g1,g2⟩:=h1.1
   exact ⟨c,e,fr,g1,fun j u h => by
    rw [List.getElem?_drop] at h
    have:=g2 _ _ h
    rwa [← Nat.add_assoc] at this⟩
  ·have:∀ (l:List AV) (n:Nat),Yg l=true→Yg (l.drop n)=true:=by
    intro l
    induction l with
    | nil => intro n h; simpa using h
    | cons a r ih => intro n h; cases n with
     | zero => exact h
     | succ n => simp only [Yg,Bool.and_eq_true] at h; exact ih n h.2
   exact this _ _ h2
 | _ => exact hok.elim
theorem pureL_mem {l:List AV}:Yg l=true↔∀ a ∈ l,a.pure=true:=by
 induction l with
 | nil => simp [Yg]
 | cons a r ih => simp [Yg,ih]
theorem Kk {l:List AV} (h:Yg l=true) (n:Nat):Yg (l.drop n)=true:=pureL_mem.2 fun a ha => pureL_mem.1 h a (List.mem_of_mem_drop ha)
theorem Kj {l:List AV} (h:Yg l=true) (n:Nat):Yg (l.take n)=true:=pureL_mem.2 fun a ha => pureL_mem.1 h a (List.mem_of_mem_take ha)
theorem Y7 {l r:List AV} (h:Yg l=true) (h':Yg r=true):Yg (l++r)=true:=pureL_mem.2 fun a ha => by
 rcases List.mem_append.1 ha with h1 | h1
 ·exact pureL_mem.1 h a h1
 ·exact pureL_mem.1 h' a h1
theorem Imm.shift {S:Cx} {b off:Nat} {us:List Value} (h:Imm S b off us) (n k:Nat):Imm S b (off+n) ((us.drop n).take k):=by
 obtain ⟨⟨c,e,fr,g1,g2⟩,hw⟩:=h
 refine ⟨⟨c,e,fr,g1,fun j u h => ?_⟩,hw⟩
 rw [List.getElem?_take] at h
 split at h
 ·rw [List.getElem?_drop] at h
  have:=g2 _ _ h
  rwa [← Nat.add_assoc] at this
 ·cases h
theorem Eg {t:TypeId} (hA:(P.underlying t).isNone=false) (hc:P.cellsOf t≠0) {off:Nat} {cs:List AV} {vs:Array Value} (h:RL (cx φ H w) cs vs.toList) (hok:off+P.cellsOf t≤cs.length) :
  ∃ u,(part t vs off).run P w=.ok u w∧R (cx φ H w) (if Yk P t then .agg ((cs.drop off).take (P.cellsOf t)) else cs.getD off .junk) u:=by
 obtain ⟨i,hi,hsz⟩:=Z2 hc
 have hl:=h.length
 rw [Array.length_toList] at hl
 unfold part
 cases hg:Yk P t
 ·have hlt:off<vs.size:=by omega
  obtain ⟨a,ha⟩:=Yd (l:=cs) (i:=off) (by omega)
  obtain ⟨u,h1,h2⟩:=h.get ha
  have h1':vs[off]? = some u:=by simpa using h1
  refine ⟨u,by simp [S3 hA,hg,h1'],?_⟩
  simp [List.getD_eq_getElem?_getD,ha,h2]
 ·refine ⟨.agg (vs.extract off (off+P.cellsOf t)),by simp [S3 hA,hg,sizeOf,typeInfo,hi,hsz],_,rfl,?_⟩
  rw [Array.toList_extract,List.extract_eq_take_drop]
  have:=(h.drop off).take (P.cellsOf t)
  simpa using this
theorem Zcv {t:TypeId} {fs:Array Field} {i:Nat} {f:Field} (hu:P.underlying t=some (.struct fs)) (hf:fs[i]? = some f) (hA:(P.underlying f.type).isNone=false) (hc:P.cellsOf f.type≠0) {x:AV} {a:Value} (hx:R (cx φ H w) x a) (hok:B1 (P.cellsOf f.type) f.offset x) :
  ∃ u,(Instr.field t a i).run P w=.ok u w∧R (cx φ H w) (Zla (Yk P f.type) (P.cellsOf f.type) f.offset x) u:=by
 cases x with
 | agg cs =>
  obtain ⟨vs,rfl,h1⟩:=hx
  obtain ⟨u,h2,h3⟩:=Eg (P:=P) hA hc h1 hok
  exact ⟨u,by simp [Instr.field,run_underlying hu,hf,asAgg,h2],h3⟩
 | _ => exact hok.elim
theorem Zng {i:Nat} {x:AV} {a:Value} (hx:R (cx φ H w) x a) (hok:Znh i x):∃ u,(Instr.extract a i).run P w=.ok u w∧R (cx φ H w) (extV i x) u:=by
 cases x with
 | tup cs =>
  obtain ⟨vs,rfl,h1⟩:=hx
  obtain ⟨b,hb⟩:=Yd (show i<cs.length from hok)
  obtain ⟨u,h2,h3⟩:=h1.get hb
  have h2':vs[i]? = some u:=by simpa using h2
  refine ⟨u,by simp [Instr.extract,h2'],?_⟩
  simp [extV,List.getD_eq_getElem?_getD,hb,h3]
 | _ => exact hok.elim
theorem Zhc {t:TypeId} (ht:∀ m,P.underlying t≠some (.interface m)) (ht':(P.underlying t).isNone=false) {x:AV} {a:Value} (hx:R (cx φ H w) x a) (hok:Aa x):∃ u,(Instr.makeInterface t a).run P w=.ok u w∧R (cx φ H w) (Zl0 t x) u:=by
 cases x with
 | lit v =>
  cases hx
  refine ⟨.iface t _,?_,rfl⟩
  cases hu:P.underlying t with
  | none => rw [hu] at ht'; cases ht'
  | some d => cases d <;> first | (simp [Instr.makeInterface,run_underlying hu]; done) | exact absurd hu (ht _)
 | _ => exact hok.elim
end
section
variable {P:Program} {φ:Nat→Option Nat} {H:AH} {w:World}
theorem Ox {t e:TypeId} (hu:P.underlying t=some (.slice e)) (hc:P.cellsOf e≠0) (a:Addr) (n cap:Nat) (k:IntKind) (i:Int) (h0:0≤i) (h1:i<n) :
  (Instr.indexAt t (.slice (some a) n cap) (.int k i)).run P w=.ok (.pointer (some (a.add (i.toNat*P.cellsOf e)))) w:=by
 obtain ⟨it,hi,hsz⟩:=Z2 hc
 simp [Instr.indexAt,asIntOf,run_underlying hu,h0,h1,sizeOf,typeInfo,hi,hsz]
theorem Sq {t e:TypeId} {m:Nat} (hu:P.underlying t=some (.array m e)) (hc:P.cellsOf e≠0) (a:Addr) (k:IntKind) (i:Int) (h0:0≤i) (h1:i<m) :
  (Instr.indexAt t (.pointer (some a)) (.int k i)).run P w=.ok (.pointer (some (a.add (i.toNat*P.cellsOf e)))) w:=by
 obtain ⟨it,hi,hsz⟩:=Z2 hc
 simp [Instr.indexAt,asIntOf,run_underlying hu,Instr.sureAddr,h0,h1,sizeOf,typeInfo,hi,hsz]
theorem El {t e:TypeId} {arr:Option Nat} (hu:match arr with | none => P.underlying t=some (.slice e) | some m => P.underlying t=some (.array m e)) (hc:P.cellsOf e≠0) {x i:AV} {a b:Value} (hx:R (cx φ H w) x a) (hi:R (cx φ H w) i b) (hok:Tj (P.cellsOf e) i arr x) :
  ∃ u,(Instr.indexAt t a b).run P w=.ok u w∧R (cx φ H w) (Xn (P.cellsOf e) i x) u:=by
 have hII:isI i∧0≤asI i:=by
  unfold Tj at hok
  split at hok <;> first | exact ⟨hok.1,hok.2.1⟩ | exact hok.elim
 obtain ⟨k,rfl⟩:=Ig hi hII.1
 have h0:=hII.2
 have hcast:((asI i).toNat:Int)=asI i:=Int.toNat_of_nonneg h0
 cases arr with
 | none =>
  cases x with
  | view cs n full =>
   obtain ⟨_,_,h1,h2⟩:=hok
   obtain ⟨base,cap,rfl,g1,g2,g3,g4,g5⟩:=hx
   have hlt:(asI i).toNat<n:=by omega
   have hmul:(asI i).toNat*P.cellsOf e+P.cellsOf e≤n*P.cellsOf e:=by rw [← Nat.succ_mul]; exact Nat.mul_le_mul_right _ hlt
   rcases g5 with rfl | ⟨b,off,us,rfl,g6,g7⟩
   ·simp only [List.length_nil] at h2
    omega
   ·refine ⟨_,Ox hu hc _ n cap k _ h0 h1,b,off+(asI i).toNat*P.cellsOf e,(us.drop ((asI i).toNat*P.cellsOf e)).take (P.cellsOf e),by rw [Xq],g6.shift _ _,Kj (Kk g4 _) _,(g7.drop _).take _⟩
  | row id off n L =>
   obtain ⟨_,_,h1⟩:=hok
   obtain ⟨base,cap,rfl,g1,g2,o,g3,g4,g5⟩:=hx
   obtain ⟨ad,rfl⟩:∃ ad,base=some ad:=by
    cases base with
    | none => have:=(g2 rfl).1; omega
    | some ad => exact ⟨ad,rfl⟩
   refine ⟨_,Ox hu hc _ n cap k _ h0 h1,_,rfl,o,g3,g4,fun hL => ?_⟩
   rcases g5 hL with ⟨_,h⟩ | ⟨b,h2,h3,h4,h5⟩
   ·omega
   ·rcases h4 with h4 | h4
    ·cases h4
     exact ⟨b,h2,Xq _ _ _⟩
    ·omega
  | _ => exact hok.elim
 | some m =>
  cases x with
  | ptr id off =>
   obtain ⟨_,_,h1⟩:=hok
   obtain ⟨o,b,g1,g2,g3,rfl⟩:=hx
   exact ⟨_,Sq hu hc _ k _ h0 h1,o,b,g1,g2,g3,by rw [Xq]⟩
  | rptr id off L =>
   obtain ⟨_,_,h1⟩:=hok
   obtain ⟨ad,rfl,o,g1,g2,g3⟩:=hx
   refine ⟨_,Sq hu hc _ k _ h0 h1,_,rfl,o,g1,g2,fun hL => ?_⟩
   obtain ⟨b,h2,rfl⟩:=g3 hL
   exact ⟨b,h2,Xq _ _ _⟩
  | vptr cs =>
   obtain ⟨_,_,h1,h2⟩:=hok
   obtain ⟨b,off,us,rfl,g6,g4,g7⟩:=hx
   exact ⟨_,Sq hu hc _ k _ h0 h1,b,off+(asI i).toNat*P.cellsOf e,(us.drop ((asI i).toNat*P.cellsOf e)).take (P.cellsOf e),by rw [Xq],g6.shift _ _,Kj (Kk g4 _) _,(g7.drop _).take _⟩
  | _ => exact hok.elim
theorem Zms {t e:TypeId} {m:Nat} (hu:P.underlying t=some (.array m e)) (hA:(P.underlying e).isNone=false) (hc:P.cellsOf e≠0) (hsc:Yk P e=true∨P.cellsOf e=1) {x i:AV} {a b:Value} (hx:R (cx φ H w) x a) (hi:R (cx φ H w) i b) (hok:Zmt (P.cellsOf e) m i x) :
  ∃ u,(Instr.index t a b).run P w=.ok u w∧R (cx φ H w) (idxV (Yk P e) (P.cellsOf e) i x) u:=by
 cases x with
 | agg cs =>
  obtain ⟨h1,h2,h3,h4⟩:=hok
  obtain ⟨k,rfl⟩:=Ig hi h1
  obtain ⟨vs,rfl,r⟩:=hx
  have hlt:(asI i).toNat<m:=by omega
  have hmul:(asI i).toNat*P.cellsOf e+P.cellsOf e≤m*P.cellsOf e:=by rw [← Nat.succ_mul]; exact Nat.mul_le_mul_right _ hlt
  obtain ⟨u,g1,g2⟩:=Eg (P:=P) hA hc (off:=(asI i).toNat*P.cellsOf e) r (by omega)
  obtain ⟨it,hii,hsz⟩:=Z2 hc
  refine ⟨u,by simp [Instr.index,asIntOf,run_underlying hu,h2,h3,sizeOf,typeInfo,hii,hsz,g1],?_⟩
  cases hg:Yk P e
  ·have h1c:(asI i).toNat*P.cellsOf e=(asI i).toNat:=by
    rcases hsc with h | h
    ·rw [hg] at h; cases h
    ·rw [h,Nat.mul_one]
   rw [hg,h1c] at g2
   simpa [idxV] using g2
  ·rw [hg] at g2
   simpa [idxV,elt] using g2
 | _ => exact hok.elim
theorem Zgl {t:TypeId} (hu:P.underlying t=some .string) {x i:AV} {a b:Value} (hx:R (cx φ H w) x a) (hi:R (cx φ H w) i b) (hok:Bo i x) :
  ∃ u,(Instr.index t a b).run P w=.ok u w∧R (cx φ H w) (Zkf i x) u:=by
 cases x with
 | lit v =>
  cases v <;> first | exact hok.elim | skip
  rename_i s
  obtain ⟨h1,h2,h3⟩:=hok
  obtain ⟨k,rfl⟩:=Ig hi h1
  cases hx
  have hlt:(asI i).toNat<s.size:=by omega
  have hg:s[(asI i).toNat]? = some s[(asI i).toNat]:=by simp [hlt]
  refine ⟨.int .u8 (s[(asI i).toNat]).toNat,by simp [Instr.index,asIntOf,run_underlying hu,h2,hg],?_⟩
  show Value.int .u8 _=Value.int .u8 _
  congr 2
  rw [Array.getD_eq_getD_getElem?]
  have:s.data[(asI i).toNat]? = some s[(asI i).toNat]:=by
   rw [Array.getElem?_eq_getElem (show (asI i).toNat<s.data.size from hlt)]; rfl
  rw [this]; rfl
 | _ => exact hok.elim
/-! ### Slice expressions -/
def RO (S:Cx):Option AV→Option Value→Prop
 | none,none => True
 | some v,some y => R S v y
 | _,_ => False
theorem R5 (d:Int):bnd d none=d:=rfl
theorem S4 {y:Value} {k:IntKind} {i:Int} {n:Nat} {code:BoundsCode} (h0:0≤i) (h1:i≤n):(Instr.sliceBound (.int k i) n code).run P w=.ok i.toNat w:=by
 simp [Instr.sliceBound,asIntOf,h0,h1]
theorem U4 {b:Bool} {len cap c:Nat} {lo hi mx:Option AV} {lo' hi' mx':Option Value} (h1:RO (cx φ H w) lo lo') (h2:RO (cx φ H w) hi hi') (h3:RO (cx φ H w) mx mx') (hn:c≤cap) (hok:bndR len c lo hi mx) (hm:mx=none∨hi≠none) :
  ∃ m,(Instr.sliceBounds b len cap lo' hi' mx').run P w=.ok ((bnd 0 lo).toNat,(bnd len hi).toNat,m) w∧(mx=none→m=cap)∧(mx≠none→m=(bnd len mx).toNat)∧(bnd 0 lo).toNat≤(bnd len hi).toNat∧(bnd len hi).toNat≤m∧m≤cap:=by
 obtain ⟨i1,i2,i3,g0,g1,g2,g3⟩:=hok
 have one:∀ {o:Option AV} {o':Option Value} {d:Int},RO (cx φ H w) o o'→bndI o→o≠none→∃ k,o'=some (.int k (bnd d o)):=by
  intro o o' d h hI hne
  cases o with
  | none => exact absurd rfl hne
  | some v =>
   cases o' with
   | none => exact h.elim
   | some y => obtain ⟨k,rfl⟩:=Ig h hI; exact ⟨k,rfl⟩
 have hlo:(lo=none∧lo'=none)∨∃ k,lo'=some (.int k (bnd 0 lo)):=by
  cases lo with
  | none => cases lo' with
   | none => exact .inl ⟨rfl,rfl⟩
   | some y => exact h1.elim
  | some v => exact .inr (one (d:=0) h1 i1 (by simp))
 have hhi:(hi=none∧hi'=none)∨(hi≠none∧∃ k,hi'=some (.int k (bnd len hi))):=by
  cases hi with
  | none => cases hi' with
   | none => exact .inl ⟨rfl,rfl⟩
   | some y => exact h2.elim
  | some v => exact .inr ⟨by simp,one (d:=len) h2 i2 (by simp)⟩
 cases mx with
 | none =>
  cases mx' with
  | some y => exact h3.elim
  | none =>
   rw [R5] at g2 g3
   refine ⟨cap,?_,fun _ => rfl,fun h => absurd rfl h,by omega,by omega,Nat.le_refl _⟩
   rcases hhi with ⟨rfl,rfl⟩ | ⟨hne,k,rfl⟩
   ·rcases hlo with ⟨rfl,rfl⟩ | ⟨k,rfl⟩
    ·simp [Instr.sliceBounds,R5]
    ·have e:=S4 (P:=P) (w:=w) (y:=.nilFunc) (k:=k) (i:=bnd 0 lo) (n:=len) (code:=.sliceB) g0 (by simpa [R5] using g1)
     simp [Instr.sliceBounds,e,R5]
   ·have e1:=S4 (P:=P) (w:=w) (y:=.nilFunc) (k:=k) (i:=bnd len hi) (n:=cap) (code:=if b then .sliceAcap else .sliceAlen) (by omega) (by omega)
    rcases hlo with ⟨rfl,rfl⟩ | ⟨k',rfl⟩
    ·simp [Instr.sliceBounds,e1,R5]
    ·have e:=S4 (P:=P) (w:=w) (y:=.nilFunc) (k:=k') (i:=bnd 0 lo) (n:=(bnd len hi).toNat) (code:=.sliceB) g0 (by omega)
     simp [Instr.sliceBounds,e1,e]
 | some mv =>
  obtain ⟨km,rfl⟩:=one (d:=len) h3 i3 (by simp)
  rcases hhi with ⟨rfl,_⟩ | ⟨hne,k,rfl⟩
  ·rcases hm with h | h
   ·cases h
   ·exact absurd rfl h
  have g2:bnd len hi≤bnd len (some mv):=g2
  have g3:bnd len (some mv)≤c:=g3
  have e0:=S4 (P:=P) (w:=w) (y:=.nilFunc) (k:=km) (i:=bnd len (some mv)) (n:=cap) (code:=if b then .slice3Acap else .slice3Alen) (by omega) (by omega)
  have e1:=S4 (P:=P) (w:=w) (y:=.nilFunc) (k:=k) (i:=bnd len hi) (n:=(bnd len (some mv)).toNat) (code:=.slice3B) (by omega) (by omega)
  refine ⟨(bnd len (some mv)).toNat,?_,fun h => (by cases h),fun _ => rfl,by omega,by omega,by omega⟩
  rcases hlo with ⟨rfl,rfl⟩ | ⟨k',rfl⟩
  ·simp [Instr.sliceBounds,e0,e1,R5]
  ·have e:=S4 (P:=P) (w:=w) (y:=.nilFunc) (k:=k') (i:=bnd 0 lo) (n:=(bnd len hi).toNat) (code:=.slice3C) g0 (by omega)
   simp [Instr.sliceBounds,e0,e1,e]
theorem Jc {n:Nat} {lo hi mx:Option AV} (h:T2 n lo hi mx):0≤bnd 0 lo∧bnd 0 lo≤bnd n hi∧bnd n hi≤bnd n mx∧bnd n mx≤n:=h.2.2.2
theorem Eb {S:Cx} {cs:List AV} {us:List Value} {b off sz l h m:Nat} {base:Option Addr} {full:Bool} (hsz:sz≠0) (hp:Yg cs=true) (hcs:h*sz≤cs.length) (hbase:base=some ⟨b,off,none⟩) (hI:Imm S b off us) (hr:RL S cs us) (hl:l≤h) (hm:h≤m) (hf:full=true→m=h) :
  R S (.view (cut cs sz l h) (h - l) full) (.slice (if m=l then base else base.map (·.add (l*sz))) (h - l) (m - l)):=by
 refine ⟨_,m - l,rfl,by omega,?_,fun h' => by have:=hf h'; omega,Kj (Kk hp _) _,?_⟩
 ·subst hbase; intro h'; split at h' <;> simp at h'
 ·by_cases hlh:l=h
  ·left; subst hlh; simp [cut]
  ·right
   refine ⟨b,off+l*sz,(us.drop (l*sz)).take ((h - l)*sz),?_,hI.shift _ _,(hr.drop _).take _⟩
   rw [if_neg (by omega),hbase]
   simp [Xq]
theorem I5 (hs:St (cx φ H w)) {t e:TypeId} {arr:Option Nat} (hu:match arr with | none => P.underlying t=some (.slice e) | some m => P.underlying t=some (.array m e)) (hc:P.cellsOf e≠0) {x:AV} {a:Value} {lo hi mx:Option AV} {lo' hi' mx':Option Value}
  (h1:RO (cx φ H w) lo lo') (h2:RO (cx φ H w) hi hi') (h3:RO (cx φ H w) mx mx') (hm:mx=none∨hi≠none) (hx:R (cx φ H w) x a) (hok:Xx (P.cellsOf e) H lo hi mx arr x) :
  ∃ u,(Instr.sliceAt t a lo' hi' mx').run P w=.ok u w∧R (cx φ H w) (Xl (P.cellsOf e) H lo hi mx arr x) u:=by
 obtain ⟨it,hii,hsz⟩:=Z2 hc
 cases arr with
 | none =>
  have run1:∀ (base:Option Addr) (len cap l h m:Nat),(Instr.sliceBounds true len cap lo' hi' mx').run P w=.ok (l,h,m) w→(Instr.sliceAt t (.slice base len cap) lo' hi' mx').run P w=.ok (.slice (if m=l then base else base.map (·.add (l*P.cellsOf e))) (h - l) (m - l)) w:=by
   intro base len cap l h m hb
   simp [Instr.sliceAt,Instr.slice,run_underlying hu,hb,sizeOf,typeInfo,hii,hsz]
  cases x with
  | view cs n full =>
   obtain ⟨hb,hl⟩:=hok
   obtain ⟨base,cap,rfl,g1,g2,g3,g4,g5⟩:=hx
   obtain ⟨m,r1,r2,r3,r4,r5,r6⟩:=U4 (b:=true) h1 h2 h3 g1 hb hm
   obtain ⟨k0,k1,k2,k3⟩:=Jc hb
   refine ⟨_,run1 base n cap _ _ _ r1,?_⟩
   have hfull:((mx.isSome || full)&&decide (bnd n hi=bnd n mx))=true→m=(bnd n hi).toNat:=by
    intro hh
    simp only [Bool.and_eq_true,Bool.or_eq_true,decide_eq_true_eq] at hh
    rcases hh with ⟨h4 | h4,h5⟩
    ·rw [r3 (by intro h; subst h; cases h4),h5]
    ·cases mx with
     | none => rw [r2 rfl,g3 h4,h5]; simp [R5]
     | some mv => rw [r3 (by simp),h5]
   rcases g5 with rfl | ⟨b,off,us,hbase,g6,g7⟩
   ·have hn:n=0:=by
     simp only [List.length_nil] at hl
     rcases Nat.mul_eq_zero.1 hl.symm with h | h
     ·exact h
     ·exact absurd h hc
    subst hn
    have e1:(bnd 0 lo).toNat=0:=by omega
    have e2:(bnd ((0:Nat):Int) hi).toNat=0:=by omega
    refine ⟨_,m - (bnd 0 lo).toNat,rfl,by omega,?_,(fun h => by have:=hfull h; omega),(by simp [cut,Yg]),.inl (by simp [cut])⟩
    intro h
    split at h
    ·have:=g2 h; omega
    ·cases base with
     | none => have:=(g2 rfl).2; omega
     | some ad => simp at h
   ·exact Eb hc g4 (by rw [hl]; exact Nat.mul_le_mul_right _ (by omega)) hbase g6 g7 r4 r5 hfull
  | row id off n L =>
   obtain ⟨hid,hLc,hz,hb⟩:=hok
   obtain ⟨base,cap,rfl,g1,g2,o,g3,g4,g5⟩:=hx
   have g3':H[id]? = some o:=g3
   rw [T6 g3'] at hz hLc hb
   have hcap:Mf o.sz (P.cellsOf e) n off L≤cap:=by
    unfold Mf
    split
    ·exact g1
    ·rename_i hosz
     have hz':o.sz=P.cellsOf e:=hz.resolve_right hosz
     refine Nat.max_le.2 ⟨g1,?_⟩
     rcases g5 hLc with ⟨h4,_⟩ | ⟨b,_,_,_,h7⟩
     ·rcases hs.ok id o g3 with ⟨_,hcs⟩ | ⟨b',_,_,_,hb',_⟩
      ·rw [hLc,hcs]; simp
      ·rw [h4] at hb'; cases hb'
     ·have h8:=(h7 (Nat.pos_of_ne_zero hosz)).2
      rw [hz'] at h8
      exact Nat.div_le_of_le_mul (by rw [Nat.mul_comm]; exact Nat.sub_le_iff_le_add'.2 h8)
   obtain ⟨m,r1,r2,r3,r4,r5,r6⟩:=U4 (b:=true) h1 h2 h3 hcap hb hm
   obtain ⟨_,_,_,k0,k1,k2,k3⟩:=hb
   refine ⟨_,run1 base n cap _ _ _ r1,?_⟩
   have hnil:(if m=(bnd 0 lo).toNat then base else base.map (·.add ((bnd 0 lo).toNat*P.cellsOf e)))=none→n=0∧cap=0:=by
    intro h
    cases base with
    | none => exact g2 rfl
    | some ad => split at h <;> simp at h
   show R _ (if (mx.isSome&&decide (bnd n mx=bnd 0 lo))=true then _ else if (mx.isSome&&!decide (L≤off+(bnd n mx).toNat*P.cellsOf e))=true then _ else _) _
   by_cases hcase:(mx.isSome&&decide (bnd n mx=bnd 0 lo))=true
   ·rw [if_pos hcase]
    simp only [Bool.and_eq_true,decide_eq_true_eq] at hcase
    have e1:=r3 (by intro h; rw [h] at hcase; exact absurd hcase.1 (by decide))
    refine ⟨_,m - (bnd 0 lo).toNat,?_,by omega,fun h => ⟨rfl,by have:=hnil h; omega⟩,fun _ => by omega,rfl,.inl rfl⟩
    rw [show (bnd n hi).toNat - (bnd 0 lo).toNat=0 by omega]
   rw [if_neg hcase]
   by_cases hjk:(mx.isSome&&!decide (L≤off+(bnd n mx).toNat*P.cellsOf e))=true
   ·rw [if_pos hjk]; trivial
   rw [if_neg hjk]
   have hmx:mx=none∨L≤off+(bnd n mx).toNat*P.cellsOf e:=by
    cases mx with
    | none => exact .inl rfl
    | some mv => right; simpa using hjk
   have hlow:L≤off+cap*P.cellsOf e→L≤off+m*P.cellsOf e:=by
    intro h
    rcases hmx with h' | h'
    ·rw [r2 h']; exact h
    ·cases mx with
     | none => rw [r2 rfl]; exact h
     | some mv => rw [r3 (by simp)]; exact h'
   refine ⟨_,m - (bnd 0 lo).toNat,rfl,by omega,?_,o,g3,g4,fun hL => ?_⟩
   ·intro h
    have:=hnil h; omega
   ·rcases g5 hL with ⟨h4,rfl,h9⟩ | ⟨b,h4,h5,h6,h7⟩
    ·left; exact ⟨h4,Nat.le_zero.1 (Nat.le_trans (Nat.sub_le _ _) r6),h9⟩
    ·right
     refine ⟨b,h4,?_,?_,fun hp => ?_⟩
     ·obtain ⟨ad,rfl⟩:∃ ad,base=some ad:=by cases base with | none => exact absurd rfl h5
                                                            | some ad => exact ⟨ad,rfl⟩
      split <;> simp
     ·by_cases hml:m=(bnd 0 lo).toNat
      ·right; omega
      ·left
       rw [if_neg hml]
       rcases h6 with rfl | h6
       ·simp [Xq]
       ·omega
     ·rcases hz with hz | hz
      ·rw [hz] at h7 ⊢
       have h8:=h7 (by omega)
       have:(bnd 0 lo).toNat*P.cellsOf e+(m - (bnd 0 lo).toNat)*P.cellsOf e=m*P.cellsOf e:=by rw [← Nat.add_mul]; congr 1; omega
       have:m*P.cellsOf e≤cap*P.cellsOf e:=Nat.mul_le_mul_right _ r6
       have:=hlow h8.2
       omega
      ·omega
  | lit v =>
   unfold Xx at hok
   split at hok <;> first | exact hok.elim | skip
   all_goals rename_i heq1 heq2
   all_goals first | (cases heq2; done) | skip
   cases heq2
   cases hx
   have hb:T2 (0:Nat) lo hi mx:=hok
   obtain ⟨m,r1,r2,r3,r4,r5,r6⟩:=U4 (b:=true) (len:=0) (cap:=0) h1 h2 h3 (Nat.le_refl _) hb hm
   obtain ⟨k0,k1,k2,k3⟩:=Jc hb
   refine ⟨_,run1 none 0 0 _ _ _ r1,?_⟩
   have e1:(bnd 0 lo).toNat=0:=by omega
   have e2:(bnd ((0:Nat):Int) hi).toNat=0:=by omega
   have e3:m=0:=by omega
   rw [e1,e2,e3]
   rfl
  | _ => exact hok.elim
 | some len =>
  have run1:∀ (ad:Addr) (l h m:Nat),(Instr.sliceBounds false len len lo' hi' mx').run P w=.ok (l,h,m) w→(Instr.sliceAt t (.pointer (some ad)) lo' hi' mx').run P w=.ok (.slice (some (if m=l then ad else ad.add (l*P.cellsOf e))) (h - l) (m - l)) w:=by
   intro ad l h m hb
   simp [Instr.sliceAt,run_underlying hu,Instr.sureAddr,hb,sizeOf,typeInfo,hii,hsz]
  cases x with
  | ptr id off =>
   obtain ⟨o,b,g1,g2,g3,rfl⟩:=hx
   obtain ⟨_,hb⟩:id<H.length∧T2 len lo hi mx:=hok
   obtain ⟨m,r1,r2,r3,r4,r5,r6⟩:=U4 (b:=false) h1 h2 h3 (Nat.le_refl _) hb hm
   have g1':H[id]? = some o:=g1
   refine ⟨_,run1 _ _ _ _ r1,_,m - (bnd 0 lo).toNat,rfl,by omega,(fun h => by cases h),o,g1,(by rw [T6 g1']; exact Nat.le_refl _),fun _ => .inr ⟨b,g3,by simp,?_,fun h => absurd h (by omega)⟩⟩
   by_cases hml:m=(bnd 0 lo).toNat
   ·right; omega
   ·left; rw [if_neg hml,Xq]
  | vptr cs =>
   obtain ⟨hb,hl⟩:=hok
   obtain ⟨b,off,us,rfl,g6,g4,g7⟩:=hx
   obtain ⟨m,r1,r2,r3,r4,r5,r6⟩:=U4 (b:=false) h1 h2 h3 (Nat.le_refl _) hb hm
   obtain ⟨k0,k1,k2,k3⟩:=Jc hb
   refine ⟨_,run1 _ _ _ _ r1,?_⟩
   have:=Eb (full:=false) hc g4 (Nat.le_trans (Nat.mul_le_mul_right _ (by omega)) hl) rfl g6 g7 r4 r5 (fun h => by cases h)
   have e:(if m=(bnd 0 lo).toNat then some (⟨b,off,none⟩:Addr) else (some (⟨b,off,none⟩:Addr)).map (·.add ((bnd 0 lo).toNat*P.cellsOf e)))=some (if m=(bnd 0 lo).toNat then ⟨b,off,none⟩ else (⟨b,off,none⟩:Addr).add ((bnd 0 lo).toNat*P.cellsOf e)):=by split <;> rfl
   rw [e] at this
   exact this
  | _ => exact hok.elim
theorem Bj {t:TypeId} (hu:P.underlying t=some .string) {x:AV} {a:Value} {lo hi:Option AV} {lo' hi':Option Value}
  (h1:RO (cx φ H w) lo lo') (h2:RO (cx φ H w) hi hi') (hx:R (cx φ H w) x a) (hok:Ij lo hi x) :
  ∃ u,(Instr.sliceAt t a lo' hi' none).run P w=.ok u w∧R (cx φ H w) (Dk lo hi x) u:=by
 cases x with
 | lit v =>
  cases v <;> first | exact hok.elim | skip
  rename_i s
  cases hx
  have hb:T2 s.size lo hi none:=hok
  obtain ⟨m,r1,r2,r3,r4,r5,r6⟩:=U4 (P:=P) (b:=false) (mx':=none) h1 h2 (show RO (cx φ H w) none none from trivial) (Nat.le_refl _) hb (.inl rfl)
  refine ⟨_,?_,rfl⟩
  simp [Instr.sliceAt,Instr.slice,run_underlying hu,r1]
 | _ => exact hok.elim
end
end Go.Proofs.YtcgjlpdkobmpnaaGreat.Eng

