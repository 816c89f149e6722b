/- Layer 2: a number below twice the modulus, modulo it. -/
import Derived.Test.YtcgjlpdkobmpnaaGreatMNum
import Derived.Test.YtcgjlpdkobmpnaaGreatME6
namespace Go.Proofs.YtcgjlpdkobmpnaaGreat.Eng
open Go Go.Proofs
set_option linter.unusedVariables false
set_option linter.unusedSimpArgs false
set_option maxRecDepth 10000
def FD (H:AH) (p m:Nat):Prop:=p<H.length∧∃ r,obj H p=⟨num m++r,0,true⟩∧r.length=9
theorem Z0v {H:AH} {p m a:Nat} (hf:FD H p m) (hm:m<(18446744073709551616:Nat)^4) (ha:a<(18446744073709551616:Nat)^4) (over:Bool) (hlt:a+(if over then (18446744073709551616:Nat)^4 else 0)<2*m) :
  Called Tryz.prog F.field_Field_less [.ptr p 0,.agg (num a),Bl over] H (.agg (num (if m≤a+(if over then (18446744073709551616:Nat)^4 else 0) then a+(if over then (18446744073709551616:Nat)^4 else 0) - m else a))) H:=by
 obtain ⟨hp,r,ho,hr⟩:=hf
 refine Ls ?_
 have l1:=Zb 4 a
 have l2:=Zb 4 m
 have n1:∀ n,(num n).isEmpty=false:=fun n => rfl
 have t1:(num m++r).take 4=num m:=List.take_left' l2
 have t2:(num a).take 4=num a:=List.take_of_length_le (by rw [Zb]; exact Nat.le_refl _)
 have hp1:p<H.length+2:=by omega
 simp only [Tq,go_sem,Zg,n1,Z1 _ _ hp,ho,hp1,t1,t2,l1,l2]
 refine ⟨fun _ => by omega,Zs (fun _ => I0 ha hm) ?_⟩
 have s1:splice (num a) 0 (num (a+(18446744073709551616:Nat)^4 - m))=num (a+(18446744073709551616:Nat)^4 - m):=Zu (by rw [Zb,Zb])
 have s2:∀ n,splice [AV.lit (.int .u64 0),AV.lit (.int .u64 0),AV.lit (.int .u64 0),AV.lit (.int .u64 0)] 0 (num n)=num n:=fun n => Zu (Zb _ _)
 have t3:∀ n,(num n).take 4=num n:=fun n => List.take_of_length_le (by rw [Zb]; exact Nat.le_refl _)
 simp only [go_sem,Z1 _ _ hp,ho,hp1,t1,t2,l1,l2]
 have hge:(over || decide (0≤cmpN a m))=decide (m≤a+if over=true then (18446744073709551616:Nat)^4 else 0):=by
  cases over
  ·simp only [cmpN,Bool.false_or,Bool.false_eq_true,if_false,Nat.add_zero]
   congr 1
   apply propext
   split
   ·omega
   ·split <;> omega
  ·simp only [Bool.true_or,if_true]
   exact (decide_eq_true (by omega)).symm
 rw [hge]
 refine ⟨fun h => ⟨by omega,Za (Zd4 ha hm) (fun _ => rfl) ?_⟩,fun h => ?_⟩
 ·have h:=of_decide_eq_true h
  rw [if_pos h]
  have e:num (a+(18446744073709551616:Nat)^4 - m)=num ((a+if over=true then (18446744073709551616:Nat)^4 else 0) - m):=by
   cases over
   ·simp only [Bool.false_eq_true,if_false,Nat.add_zero] at h ⊢
    rw [show a+(18446744073709551616:Nat)^4 - m=(a - m)+(18446744073709551616:Nat)^4 by omega]
    show (dig (18446744073709551616:Nat) 4 _).map W=(dig (18446744073709551616:Nat) 4 _).map W; rw [← Nx 4 (a - m+(18446744073709551616:Nat)^4) (by decide),Nat.add_mod_right,Nx 4 _ (by decide)]
   ·simp only [if_true]
  simp only [go_sem,Zg,Zb,s1,s2,t3,l1]
  rw [e]
  exact Zc rfl
 ·have h:=of_decide_eq_false h
  rw [if_neg h]
  simp only [go_sem,Zg,Zb,s2,t3,l1]
  exact Zc rfl
set_option maxRecDepth 10000
theorem FD.app {H G:AH} {p m:Nat} (h:FD H p m):FD (H++G) p m:=by
 obtain ⟨hp,r,ho,hr⟩:=h
 exact ⟨by simp; omega,r,by rw [Z1 _ _ hp]; exact ho,hr⟩
theorem Nm (n:Nat):num (n%(18446744073709551616:Nat)^4)=num n:=by show List.map W _=List.map W _; rw [Nx 4 n (by decide)]
theorem Zd (n:Nat):(num n).take 4=num n:=List.take_of_length_le (by rw [Zb]; exact Nat.le_refl _)
abbrev Z0:AV:=.lit (.int .u64 0)
theorem Ze (n:Nat):splice [Z0,Z0,Z0,Z0] 0 (num n)=num n:=Zu (Zb _ _)
theorem Hq (n:Nat):splice [W 0,W 0,W 0,W 0] 0 (num n)=num n:=Zu (Zb _ _)
theorem V3 (m n:Nat):splice (num m) 0 (num n)=num n:=Zu (by rw [Zb,Zb])
theorem Yf (n:Nat):(num n).isEmpty=false:=rfl
theorem Im (n:Nat):(num n).getD 0 .junk=W (n%(18446744073709551616:Nat)):=rfl
theorem Zwy {w b:Nat} (hw:w<(18446744073709551616:Nat)) (h2:w%2=0) (hb:b<2):bOr .u64 (w:Int) (b:Int)=((w+b:Nat):Int):=by
 have:=@Zub b (w / 2) 1 hb (by omega)
 rw [show w / 2*2^1=w by omega] at this
 rw [show w+b=b+w by omega,← this]
 show IntKind.u64.wrap ((_:BitVec 64).toNat:Int)=IntKind.u64.wrap ((_:BitVec 64).toNat:Int)
 rw [BitVec.or_comm]
theorem Zbd {H:AH} {p m t:Nat} {over:Bool} (hf:FD H p m) (hm:m<(18446744073709551616:Nat)^4) (ht:t<2*m) (ho:over=decide ((18446744073709551616:Nat)^4≤t)) :
  Called Tryz.prog F.field_Field_less [.ptr p 0,.agg (num t),Bl over] H (.agg (num (t%m))) H:=by
 have e:t%(18446744073709551616:Nat)^4+(if over then (18446744073709551616:Nat)^4 else 0)=t:=by
  subst ho
  by_cases h:(18446744073709551616:Nat)^4≤t
  ·rw [decide_eq_true h,if_pos rfl]; omega
  ·rw [decide_eq_false h,if_neg (by decide)]; omega
 have:=Z0v hf hm (a:=t%(18446744073709551616:Nat)^4) (Nat.mod_lt _ (by decide)) over (by rw [e]; exact ht)
 rw [e,Nm] at this
 have e2:(if m≤t then t - m else t%(18446744073709551616:Nat)^4)=t%m:=by
  split
  ·rename_i h
   rw [Nat.mod_eq_sub_mod h,Nat.mod_eq_of_lt (by omega)]
  ·rename_i h
   rw [Nat.mod_eq_of_lt (show t<m by omega),Nat.mod_eq_of_lt (by omega)]
 rwa [e2] at this
theorem Zv2 {H:AH} {p m X:Nat} (hf:FD H p m) (hm:m<(18446744073709551616:Nat)^4) (h0:0<m) (hX:X<(18446744073709551616:Nat)^8):Called Tryz.prog F.field_Field_Cut [.ptr p 0,.agg (wd 8 X)] H (.agg (num (X%m))) H:=by
 refine K9 ?_
 have n1:(wd 8 X).isEmpty=false:=rfl
 simp only [Sj,go_sem,Zg,n1]
 refine Z4 _ (fun (s:Nat × AH) => ([(0,.ptr p 0),(3,.ptr H.length 0),(4,.ptr (H.length+1) 0),(5,.ptr (H.length+2) 0),(6,I (511 - (s.1:Int)))],H++(⟨wd 8 X,0,true⟩::⟨[W 0,W 0,W 0,W 0],0,true⟩::⟨num (X / 2^(512 - s.1)%m),0,true⟩::s.2))) (fun s => s.1≤512) (fun s => 512 - s.1) (0,[]) (Nat.zero_le _) ?_ ?_
 ·have:X / 2^512%m=0:=by
   have e:(2:Nat)^512=(18446744073709551616:Nat)^8:=by decide +kernel
   rw [e,Nat.div_eq_of_lt hX,Nat.zero_mod]
  simp only [Nat.sub_zero,this]; rfl
 rintro ⟨k,G⟩ hk
 simp only at hk
 simp only [go_sem]
 refine ⟨fun hh => ?_,fun hh => ?_⟩
 ·obtain ⟨i,hi,hi4⟩:∃ i:Nat,511 - (k:Int)=i∧i+k=511:=⟨511 - k,by omega,by omega⟩
  rw [show 512 - k=i+1 by omega]
  generalize ho:X / 2^(i+1)%m=o
  have holt:o<m:=ho ▸ Nat.mod_lt _ h0
  have hob:o<(18446744073709551616:Nat)^4:=Nat.lt_trans holt hm
  have w3:IntKind.i64.wrap ((i:Int).tdiv 64)=((i / 64:Nat):Int):=by rw [Int.tdiv_eq_ediv_of_nonneg (by omega),w64 _ (by omega) (by omega)]; omega
  have w4:(i:Int).tmod 64=((i%64:Nat):Int):=by rw [Int.tmod_eq_emod_of_nonneg (by omega)]; omega
  have w2:IntKind.i64.wrap ((i:Int) - 1)=511 - ((k+1:Nat):Int):=by rw [w64 _ (by omega) (by omega)]; omega
  have h8:i / 64<8:=by omega
  have hm64:min (i%64) 64=i%64:=by omega
  have hb2:X / 2^i%2<2:=Nat.mod_lt _ (by decide)
  have hev:(o+o)%(18446744073709551616:Nat)%2=0:=by omega
  have hset:(num (o+o)).set 0 (W ((o+o)%(18446744073709551616:Nat)+X / 2^i%2))=num (o+o+X / 2^i%2):=by
   have:=@Zje 4 (o+o) 0 (X / 2^i%2) (by decide) (by rw [Nat.pow_zero,Nat.div_one]; omega)
   rwa [Nat.pow_zero,Nat.div_one,Nat.mul_one] at this
  have hx1:X / (18446744073709551616:Nat)^(i / 64)%(18446744073709551616:Nat) / 2^(i%64)<(18446744073709551616:Nat):=Nat.lt_of_le_of_lt (Nat.div_le_self _ _) (Nat.mod_lt _ (by decide))
  have hd:decide ((18446744073709551616:Nat)^4≤o+o)=decide ((18446744073709551616:Nat)^4≤o+o+X / 2^i%2):=by
   congr 1; apply propext
   constructor
   ·omega
   ·intro h
    have:(18446744073709551616:Nat)^4%2=0:=by decide
    omega
  have hnext:(o+o+X / 2^i%2)%m=X / 2^i%m:=by
   have e1:X / 2^i=2*(X / 2^(i+1))+X / 2^i%2:=by rw [Nat.pow_succ,← Nat.div_div_eq_div_mul]; omega
   conv => rhs; rw [e1]
   rw [← ho,Nat.add_mod,Nat.add_mod (2*_),Nat.two_mul,← Nat.add_mod (X / 2^(i+1))]
  simp only [hi,go_sem,Zb,Zd,Zg]
  refine ⟨by omega,by omega,Za (Zd5 hob hob) (fun _ => rfl) ?_⟩
  simp only [go_sem,Zb,Zd,Zg,Ze,Hq,V3,Im,w2,w3,w4,Uc h8,hm64,Ui,and1 _ hx1,Zav,Zwy (Nat.mod_lt _ (by decide)) hev hb2,hset,IntKind.bits]
  refine ⟨by decide,by decide,⟨by omega,by omega⟩,⟨by omega,by omega⟩,by decide,by omega,by decide,Za (Zbd hf.app hm (by omega) hd) (fun _ => rfl) ?_⟩
  rw [hnext]
  simp only [go_sem,Zb,Zg,V3]
  exact ⟨by omega,(k+1,G++[⟨num (o+o+X / 2^i%2),0,true⟩]),by rw [w2],by rw [show 512 - (k+1)=i by omega],by omega,by omega⟩
 ·obtain rfl:k=512:=by omega
  simp only [go_sem,Zb,Zd,Zg,Ze,Hq,Nat.sub_self,Nat.pow_zero,Nat.div_one]
  exact ⟨by omega,by omega,by omega,Zc rfl⟩
end Go.Proofs.YtcgjlpdkobmpnaaGreat.Eng
namespace Go.Proofs.YtcgjlpdkobmpnaaGreat.Eng
open Go
set_option linter.unusedVariables false
set_option linter.unusedSimpArgs false
def Prm (p:Nat):Prop:=2≤p∧∀ d,d ∣ p→d=1∨d=p
def powm (m a:Nat):Nat→Nat→Nat
 | 0,_ => 1%m
 | k+1,e => CheckFast.force (powm m a k (e / 2)) fun h => CheckFast.force (h*h%m) fun s => match e%2 with
  | 0 => s
  | _+1 => s*a%m
theorem Zb2 (m a:Nat):∀ k e,e<2^k→powm m a k e=a^e%m
 | 0,e,h => by
  obtain rfl:e=0:=by simpa using h
  rfl
 | k+1,e,h => by
  rw [Nat.pow_succ] at h
  rw [powm,CheckFast.force_eq,CheckFast.force_eq,Zb2 m a k (e / 2) (by omega)]
  have e1:(a^(e / 2)%m)*(a^(e / 2)%m)%m=a^(2*(e / 2))%m:=by
   rw [← Nat.mul_mod,← Nat.pow_add]; congr 2; omega
  rw [e1]
  have h2:=Nat.div_add_mod e 2
  have h3:=Nat.mod_lt e (show 0<2 by decide)
  split
  ·rename_i h0
   rw [h0,Nat.add_zero] at h2
   rw [h2]
  ·rename_i k' h0
   rw [Nat.mod_mul_mod,← Nat.pow_succ]
   congr 2
   omega
theorem pow_one {b r m:Nat} (h:b^m%r=1%r) (k:Nat):b^(m*k)%r=1%r:=by
 rw [Nat.pow_mul,Nat.pow_mod,h,← Nat.pow_mod,Nat.one_pow]
theorem Zwu {b r:Nat} (m n:Nat):b^m%r=1%r→b^n%r=1%r→b^Nat.gcd m n%r=1%r:=by
 induction m,n using Nat.gcd.induction with
 | H0 n => intro _ hn; rw [Nat.gcd_zero_left]; exact hn
 | H1 m n hpos ih =>
  intro hm hn
  rw [Nat.gcd_rec]
  refine ih ?_ hm
  have e:b^n=b^(m*(n / m))*b^(n%m):=by rw [← Nat.pow_add,Nat.div_add_mod]
  rw [e,Nat.mul_mod,pow_one hm,← Nat.mul_mod,Nat.one_mul] at hn
  exact hn
theorem php:∀ (n k:Nat) (f:Nat→Nat),(∀ i,i<n→f i<k)→(∀ i j,i<n→j<n→f i=f j→i=j)→n≤k
 | 0,k,f,_,_ => Nat.zero_le _
 | n+1,k,f,hb,hi => by
  have hv:=hb n (Nat.lt_succ_self n)
  obtain ⟨k,rfl⟩:∃ k',k=k'+1:=⟨k - 1,by omega⟩
  refine Nat.succ_le_succ (php n k (fun j => if f j=k then f n else f j) (fun j hj => ?_) (fun i j hi' hj' h => ?_))
  ·have h1:=hb j (by omega)
   by_cases h:f j=k
   ·have:f n≠k:=fun h' => by have:=hi j n (by omega) (by omega) (by omega); omega
    simp only [h,if_true]; omega
   ·simp only [h,if_false]; omega
  ·by_cases h1:f i=k
   ·by_cases h2:f j=k
    ·exact hi i j (by omega) (by omega) (by omega)
    ·simp only [h1,h2,if_true,if_false] at h
     have:=hi n j (by omega) (by omega) h; omega
   ·by_cases h2:f j=k
    ·simp only [h1,h2,if_true,if_false] at h
     have:=hi i n (by omega) (by omega) h; omega
    ·simp only [h1,h2,if_false] at h
     exact hi i j (by omega) (by omega) h
def Kl:List Nat→Nat
 | [] => 1
 | q::r => q*Kl r
theorem Zt0:∀ {qs:List Nat},(∀ q ∈ qs,Prm q)→∀ d,d ∣ Kl qs→d≠1→∃ q,q ∈ qs∧q ∣ d
 | [],_,d,hd,h1 => absurd (Nat.dvd_one.1 hd) h1
 | q::qs,hq,d,hd,h1 => by
  rcases (hq q (by simp)).2 _ (Nat.gcd_dvd_right d q) with h | h
  ·obtain ⟨q',hq',hd'⟩:=Zt0 (fun q hq' => hq q (by simp [hq'])) d (Nat.Coprime.dvd_of_dvd_mul_left (show Nat.Coprime d q from h) hd) h1
   exact ⟨q',by simp [hq'],hd'⟩
  ·exact ⟨q,by simp,h ▸ Nat.gcd_dvd_left d q⟩
theorem Zew {n b r:Nat} {qs:List Nat} (hq:∀ q ∈ qs,Prm q) (h0:0<Kl qs) (h1:b^Kl qs%n=1) (h2:∀ q ∈ qs,Nat.gcd (b^(Kl qs / q)+(n - 1)) n=1) (hn:1<n) (hr:r ∣ n) (hr1:1<r):Kl qs<r:=by
 generalize hF:Kl qs=F at *
 have hone:1%r=1:=Nat.mod_eq_of_lt hr1
 have hF1:b^F%r=1%r:=by
  have:=Nat.mod_mod_of_dvd (b^F) hr
  rw [← this,h1]
 have key:∀ d,0<d→d<F→b^d%r≠1%r:=by
  intro d hd hdF h
  have hg:=Zwu d F h hF1
  have gF:=Nat.gcd_dvd_right d F
  have gd:Nat.gcd d F≤d:=Nat.gcd_le_left _ hd
  have gp:0<Nat.gcd d F:=Nat.gcd_pos_of_pos_left _ hd
  generalize Nat.gcd d F=g at *
  obtain ⟨c,hc⟩:=gF
  have c1:c≠1:=by rintro rfl; omega
  obtain ⟨q,hqm,e,he⟩:=Zt0 hq c (by rw [hF,hc]; exact Nat.dvd_mul_left _ _) c1
  have q2:=(hq q hqm).1
  have e1:F / q=g*e:=by
   rw [hc,he,Nat.mul_left_comm,Nat.mul_div_cancel_left _ (by omega)]
  have e2:b^(F / q)%r=1%r:=by rw [e1]; exact pow_one hg e
  have e3:r ∣ b^(F / q)+(n - 1):=by
   obtain ⟨s,hs⟩:=hr
   have:(b^(F / q)+(n - 1))%r=0:=by
    rw [Nat.add_mod,e2,← Nat.add_mod,show 1+(n - 1)=n by omega,hs,Nat.mul_mod_right]
   exact Nat.dvd_of_mod_eq_zero this
  have:=Nat.dvd_gcd e3 hr
  rw [h2 q hqm] at this
  have:=Nat.le_of_dvd (by decide) this
  omega
 have nz:∀ i,i<F→b^i%r≠0:=by
  intro i hi h
  have e:b^F=b^i*b^(F - i):=by rw [← Nat.pow_add]; congr 1; omega
  rw [e,Nat.mul_mod,h,Nat.zero_mul,Nat.zero_mod,hone] at hF1
  cases hF1
 have inj:∀ i j,i<j→j<F→b^i%r≠b^j%r:=by
  intro i j hij hj h
  refine key (j - i) (by omega) (by omega) ?_
  have e1:b^i*b^(F - i)=b^F:=by rw [← Nat.pow_add]; congr 1; omega
  have e2:b^j*b^(F - i)=b^F*b^(j - i):=by rw [← Nat.pow_add,← Nat.pow_add]; congr 1; omega
  have:b^F%r=b^F*b^(j - i)%r:=by
   rw [← e2,← e1,Nat.mul_mod,h,← Nat.mul_mod]
  rw [Nat.mul_mod,hF1,← Nat.mul_mod,Nat.one_mul] at this
  exact this.symm
 have:=php F (r - 1) (fun i => b^i%r - 1) (fun i hi => by
  have a1:=nz i hi
  have a2:=Nat.mod_lt (b^i) (show 0<r by omega)
  show b^i%r - 1<r - 1
  omega) (fun i j hi hj h => by
  have a1:=nz i hi
  have a2:=nz j hj
  have h:b^i%r - 1=b^j%r - 1:=h
  rcases Nat.lt_trichotomy i j with h' | h' | h'
  ·exact absurd (show b^i%r=b^j%r by omega) (inj i j h' hj)
  ·exact h'
  ·exact absurd (show b^j%r=b^i%r by omega) (inj j i h' hi))
 omega
theorem pock {n b:Nat} (qs:List Nat) (hq:∀ q ∈ qs,Prm q) (hn:1<n) (h0:0<Kl qs) (h1:b^Kl qs%n=1) (h2:∀ q ∈ qs,Nat.gcd (b^(Kl qs / q)+(n - 1)) n=1) (h3:n<(Kl qs+1)*(Kl qs+1)):Prm n:=by
 refine ⟨hn,fun d hd => ?_⟩
 obtain ⟨c,hc⟩:=hd
 by_cases h:d=1∨d=n
 ·exact h
 ·exfalso
  rw [not_or] at h
  have d0:d≠0:=by rintro rfl; rw [Nat.zero_mul] at hc; omega
  have c0:c≠0:=by rintro rfl; rw [Nat.mul_zero] at hc; omega
  have c1:c≠1:=by rintro rfl; rw [Nat.mul_one] at hc; exact h.2 hc.symm
  have k1:=Zew hq h0 h1 h2 hn ⟨c,hc⟩ (by omega:1<d)
  have k2:=Zew hq h0 h1 h2 hn ⟨d,by rw [hc,Nat.mul_comm]⟩ (by omega:1<c)
  have:=Nat.mul_le_mul k1 k2
  simp only [Nat.succ_eq_add_one] at this
  omega
def Z1o (k n b:Nat) (qs:List Nat):Bool :=
 CheckFast.force (Kl qs) fun F => decide (1<n)&&decide (0<F)&&decide (F<2^k)&&(powm n b k F == 1)&&qs.all (fun q => decide (Nat.gcd (powm n b k (F / q)+(n - 1)) n=1))&&decide (n<(F+1)*(F+1))
theorem Zcq (x y n:Nat):Nat.gcd (x%n+y) n=Nat.gcd (x+y) n:=by
 have e:∀ z,Nat.gcd z n=Nat.gcd (z%n) n:=fun z => by rw [Nat.gcd_comm z n,Nat.gcd_rec]
 rw [e (x%n+y),e (x+y),Nat.mod_add_mod]
theorem Td {k n b:Nat} {qs:List Nat} (hq:∀ q ∈ qs,Prm q) (h:Z1o k n b qs=true):Prm n:=by
 unfold Z1o at h
 rw [CheckFast.force_eq] at h
 simp only [Bool.and_eq_true,decide_eq_true_eq,beq_iff_eq,List.all_eq_true] at h
 obtain ⟨⟨⟨⟨⟨h1,h2⟩,h3⟩,h4⟩,h5⟩,h6⟩:=h
 rw [Zb2 _ _ _ _ h3] at h4
 refine pock qs hq h1 h2 h4 (fun q hm => ?_) h6
 have:=h5 q hm
 rw [Zb2 _ _ _ _ (Nat.lt_of_le_of_lt (Nat.div_le_self _ _) h3),Zcq] at this
 exact this
def ndiv (n:Nat):Nat→Nat→Bool
 | 0,d => CheckFast.force d fun d => n%d != 0
 | k+1,d => CheckFast.force d fun d => ndiv n k d&&ndiv n k (d+2^k)
theorem Kq (n:Nat):∀ k d,ndiv n k d=true→∀ x,d≤x→x<d+2^k→n%x≠0
 | 0,d,h,x,h1,h2 => by
  rw [ndiv,CheckFast.force_eq] at h
  obtain rfl:x=d:=by simp at h2; omega
  simpa using h
 | k+1,d,h,x,h1,h2 => by
  rw [ndiv,CheckFast.force_eq,Bool.and_eq_true] at h
  rw [Nat.pow_succ] at h2
  by_cases hx:x<d+2^k
  ·exact Kq n k d h.1 x h1 hx
  ·exact Kq n k _ h.2 x (by omega) (by omega)
theorem Tb {q k:Nat} (h:(decide (2≤q)&&decide (q<2^k*2^k)&&decide (2+2^k≤q)&&ndiv q k 2)=true):Prm q:=by
 simp only [Bool.and_eq_true,decide_eq_true_eq] at h
 obtain ⟨⟨⟨h2,hk⟩,hk2⟩,hd⟩:=h
 refine ⟨h2,fun d ⟨c,hc⟩ => ?_⟩
 have nd:=Kq q k 2 hd
 by_cases h:d=1∨d=q
 ·exact h
 ·exfalso
  rw [not_or] at h
  have d0:d≠0:=by rintro rfl; rw [Nat.zero_mul] at hc; omega
  have c0:c≠0:=by rintro rfl; rw [Nat.mul_zero] at hc; omega
  have c1:c≠1:=by rintro rfl; rw [Nat.mul_one] at hc; exact h.2 hc.symm
  have k1:2+2^k≤d:=Nat.le_of_not_lt fun hh => nd d (by omega) hh (by rw [hc,Nat.mul_mod_right])
  have k2:2+2^k≤c:=Nat.le_of_not_lt fun hh => nd c (by omega) hh (by rw [hc,Nat.mul_mod_left])
  have:=Nat.mul_le_mul k1 k2
  rw [← hc] at this
  have:2^k*2^k≤(2+2^k)*(2+2^k):=Nat.mul_le_mul (by omega) (by omega)
  omega
end Go.Proofs.YtcgjlpdkobmpnaaGreat.Eng
namespace Go.Proofs.YtcgjlpdkobmpnaaGreat.Eng
open Go
set_option linter.unusedVariables false
set_option linter.unusedSimpArgs false
theorem Zwq:Prm 197:=Tb (k:=4) (by decide +kernel)
theorem Zqn:Prm 3677:=Tb (k:=6) (by decide +kernel)
theorem Hg:Prm 66417393611:=Td (k:=20) (b:=53548402212) (qs:=[3677,197]) (by simp only [List.mem_cons,List.not_mem_nil,or_false,forall_eq_or_imp,forall_eq]; exact ⟨Zqn,Zwq⟩) (by decide +kernel)
theorem Mk:Prm 11290956913871:=Td (k:=36) (b:=11005834445932) (qs:=[66417393611]) (by simp only [List.mem_cons,List.not_mem_nil,or_false,forall_eq_or_imp,forall_eq]; exact Hg) (by decide +kernel)
theorem Zgu:Prm 704251:=Tb (k:=10) (by decide +kernel)
theorem Zk8:Prm 78283:=Tb (k:=9) (by decide +kernel)
theorem Q0:Prm 46076956964474543:=Td (k:=36) (b:=13930916888883706) (qs:=[704251,78283]) (by simp only [List.mem_cons,List.not_mem_nil,or_false,forall_eq_or_imp,forall_eq]; exact ⟨Zgu,Zk8⟩) (by decide +kernel)
theorem Xr:Prm 774023187263532362759620327192479577272145303:=Td (k:=99) (b:=691112438322248612981607818439119884530153897) (qs:=[46076956964474543,11290956913871]) (by simp only [List.mem_cons,List.not_mem_nil,or_false,forall_eq_or_imp,forall_eq]; exact ⟨Q0,Mk⟩) (by decide +kernel)
theorem Xk:Prm 835945042244614951780389953367877943453916927241:=Td (k:=150) (b:=759074791811550622595041579907670563367995104130) (qs:=[774023187263532362759620327192479577272145303]) (by simp only [List.mem_cons,List.not_mem_nil,or_false,forall_eq_or_imp,forall_eq]; exact Xr) (by decide +kernel)
theorem Fk:Prm 115792089210356248762697446949407573530086143415290314195533631308867097853951:=Td (k:=160) (b:=49835480456766173544607506164699712169824023691580347094409044481755491731278) (qs:=[835945042244614951780389953367877943453916927241]) (by simp only [List.mem_cons,List.not_mem_nil,or_false,forall_eq_or_imp,forall_eq]; exact Xk) (by decide +kernel)
theorem Zbz:Prm 3969899:=Tb (k:=11) (by decide +kernel)
theorem Km:Prm 1002328039319:=Td (k:=22) (b:=221842812587) (qs:=[3969899]) (by simp only [List.mem_cons,List.not_mem_nil,or_false,forall_eq_or_imp,forall_eq]; exact Zbz) (by decide +kernel)
theorem Zqo:Prm 3023:=Tb (k:=6) (by decide +kernel)
theorem Zgv:Prm 155317:=Tb (k:=9) (by decide +kernel)
theorem D5:Prm 191039911:=Td (k:=18) (b:=76243073) (qs:=[155317]) (by simp only [List.mem_cons,List.not_mem_nil,or_false,forall_eq_or_imp,forall_eq]; exact Zgv) (by decide +kernel)
theorem Qn:Prm 208150935158385979:=Td (k:=40) (b:=21745587066933326) (qs:=[191039911,3023]) (by simp only [List.mem_cons,List.not_mem_nil,or_false,forall_eq_or_imp,forall_eq]; exact ⟨D5,Zqo⟩) (by decide +kernel)
theorem Vt:Prm 2624747550333869278416773953:=Td (k:=58) (b:=9274061155462587152010873) (qs:=[208150935158385979]) (by simp only [List.mem_cons,List.not_mem_nil,or_false,forall_eq_or_imp,forall_eq]; exact Qn) (by decide +kernel)
theorem Zqm:Prm 115792089210356248762697446949407573529996955224135760342422259061068512044369:=Td (k:=131) (b:=33422750357966337878331101054518575604830426967606952675588495505287672049735) (qs:=[2624747550333869278416773953,1002328039319]) (by simp only [List.mem_cons,List.not_mem_nil,or_false,forall_eq_or_imp,forall_eq]; exact ⟨Vt,Km⟩) (by decide +kernel)
end Go.Proofs.YtcgjlpdkobmpnaaGreat.Eng
namespace Go.Proofs.YtcgjlpdkobmpnaaGreat.Eng
open Go
set_option linter.unusedVariables false
set_option linter.unusedSimpArgs false
section
variable {p:Nat} [NeZero p]
theorem Z3u {X Y Z x y l:Fin p} (hX:X=x*(Z*Z)) (hY:Y=y*(Z*(Z*Z))) (hl:l*(y+y)=3*(x*x - 1))
  {d g be al X3 Y3 Z3 x3 y3:Fin p} (hd:d=Z*Z) (hg:g=Y*Y) (hb:be=X*g) (ha:al=((X - d)*(X+d))*3)
  (hX3:X3=al*al - be*8) (hZ3:Z3=(Y+Z)*(Y+Z) - g - d) (hY3:Y3=al*(be*4 - X3) - (g*g)*8)
  (hx3:x3=l*l - x - x) (hy3:y3=l*(x - x3) - y):X3=x3*(Z3*Z3)∧Y3=y3*(Z3*(Z3*Z3))∧Z3=(y+y)*(Z*Z*(Z*Z)):=by
 have z3:Z3=(y+y)*(Z*Z*(Z*Z)):=by subst hd hg hY hZ3; grobner
 have a3:al=l*Z3:=by
  have:al=(3*(x*x - 1))*(Z*Z*(Z*Z)):=by subst hd hX ha; grobner
  rw [this,← hl,z3]; grobner
 have b3:be*4=x*(Z3*Z3):=by subst hb hg hX hY; rw [z3]; grobner
 have g3:(g*g)*8=y*(Z3*(Z3*Z3)):=by subst hg hY; rw [z3]; grobner
 have x3':X3=x3*(Z3*Z3):=by
  have:be*8=be*4+be*4:=by grobner
  rw [hX3,this,b3,a3,hx3]; grobner
 refine ⟨x3',?_,z3⟩
 rw [hY3,g3,b3,x3',a3,hy3]; grobner
theorem Zy8 {X Y Z X' Y' Z' x y x' y' l:Fin p} (hX:X=x*(Z*Z)) (hY:Y=y*(Z*(Z*Z))) (hX':X'=x'*(Z'*Z')) (hY':Y'=y'*(Z'*(Z'*Z'))) (hl:l*(x' - x)=y' - y)
  {u h v r hh hhh uh X3 Y3 Z3 x3 y3:Fin p} (hu:u=X*(Z'*Z')) (hH:h=X'*(Z*Z) - u) (hv:v=Y*((Z'*Z')*Z')) (hr:r=Y'*((Z*Z)*Z) - v)
  (hhh':hh=h*h) (hhhh:hhh=hh*h) (huh:uh=u*hh) (hX3:X3=r*r - hhh - uh*2) (hY3:Y3=r*(uh - X3) - v*hhh) (hZ3:Z3=h*(Z*Z'))
  (hx3:x3=l*l - x - x') (hy3:y3=l*(x - x3) - y):X3=x3*(Z3*Z3)∧Y3=y3*(Z3*(Z3*Z3)):=by
 have h1:h=(x' - x)*(Z*Z*(Z'*Z')):=by subst hH hu hX hX'; grobner
 have r1:r=l*Z3:=by
  have:r=(y' - y)*(Z*Z*Z*(Z'*Z'*Z')):=by subst hr hv hY hY'; grobner
  rw [this,← hl,hZ3,h1]; grobner
 have u1:uh=x*(Z3*Z3):=by subst huh hhh' hu hX; rw [hZ3]; grobner
 have v1:v*hhh=y*(Z3*(Z3*Z3)):=by subst hhhh hhh' hv hY; rw [hZ3]; grobner
 have k1:hhh=(x' - x)*(Z3*Z3):=by subst hhhh hhh'; rw [hZ3]; rw [show h*h*h=h*(h*h) by grobner]; conv => lhs; lhs; rw [h1]
                                  grobner
 have x3':X3=x3*(Z3*Z3):=by rw [hX3,r1,k1,u1,hx3]; grobner
 refine ⟨x3',?_⟩
 rw [hY3,v1,u1,x3',r1,hy3]; grobner
theorem Z3v {x y x' y' l i b x3 y3:Fin p} (h1:y*y=x*x*x - 3*x+b) (h2:y'*y'=x'*x'*x' - 3*x'+b) (hl:l*(x' - x)=y' - y) (hi:(x' - x)*i=1)
  (hx3:x3=l*l - x - x') (hy3:y3=l*(x - x3) - y):y3*y3=x3*x3*x3 - 3*x3+b:=by
 have k:x*x+x*x'+x'*x' - 3=l*(y+y'):=by
  have:(x' - x)*(x*x+x*x'+x'*x' - 3)=(x' - x)*(l*(y+y')):=by
   have a1:(x' - x)*(l*(y+y'))=(y' - y)*(y+y'):=by rw [← hl]; clear hi hx3 hy3 h1 h2 hl; grobner
   have a2:(y' - y)*(y+y')=y'*y' - y*y:=by clear hi hx3 hy3 h1 h2 hl a1; grobner
   rw [a1,a2,h1,h2]; clear hi hx3 hy3 h1 h2 hl a1 a2; grobner
  have e2:∀ a:Fin p,((x' - x)*i)*a=i*((x' - x)*a):=fun a => by clear hi hx3 hy3 h1 h2 hl this; grobner
  have e:∀ a:Fin p,a=((x' - x)*i)*a:=fun a => by rw [hi]; clear hi hx3 hy3 h1 h2 hl this e2; grobner
  rw [e (x*x+x*x'+x'*x' - 3),e (l*(y+y')),e2,e2,this]
 have hy':y'=y+l*(x' - x):=by rw [hl]; clear hi hx3 hy3 h1 h2 hl k; grobner
 clear hi h2 hl
 subst hx3 hy3 hy'
 grobner
theorem Zy9 {x y l b x3 y3:Fin p} (h1:y*y=x*x*x - 3*x+b) (hl:l*(y+y)=3*(x*x - 1))
  (hx3:x3=l*l - x - x) (hy3:y3=l*(x - x3) - y):y3*y3=x3*x3*x3 - 3*x3+b:=by
 subst hx3 hy3
 grobner
end
end Go.Proofs.YtcgjlpdkobmpnaaGreat.Eng
namespace Go.Proofs.YtcgjlpdkobmpnaaGreat.Eng
open Go
set_option linter.unusedVariables false
set_option linter.unusedSimpArgs false
set_option linter.unusedSectionVars false
def fadd (m a b:Nat):Nat:=(a+b)%m
def fsub (m a b:Nat):Nat:=(a+(m - b))%m
def fmul (m a b:Nat):Nat:=a*b%m
theorem Zn {m:Nat} (h:0<m) (a b:Nat):fadd m a b<m:=Nat.mod_lt _ h
theorem Zh {m:Nat} (h:0<m) (a b:Nat):fsub m a b<m:=Nat.mod_lt _ h
theorem Zi {m:Nat} (h:0<m) (a b:Nat):fmul m a b<m:=Nat.mod_lt _ h
/-! ### Inverses -/
theorem bez (a m:Nat):∃ x y:Int,(a:Int)*x+(m:Int)*y=(Nat.gcd a m:Nat):=by
 induction a,m using Nat.gcd.induction with
 | H0 n => exact ⟨0,1,by simp⟩
 | H1 m n h ih =>
  obtain ⟨x,y,e⟩:=ih
  refine ⟨y - (n / m:Nat)*x,x,?_⟩
  rw [Nat.gcd_rec,← e]
  have:((n%m:Nat):Int)=n - m*(n / m:Nat):=by have:=Nat.div_add_mod n m; omega
  rw [this,Int.mul_sub,Int.sub_mul,Int.mul_assoc]
  omega
theorem Zmn {m a:Nat} (hm:1<m) (h:Nat.gcd a m=1):∃ y,y<m∧a*y%m=1:=by
 obtain ⟨x,y,e⟩:=bez a m
 rw [h] at e
 have h1:0≤x%(m:Int):=Int.emod_nonneg _ (by omega)
 have h2:x%(m:Int)<m:=Int.emod_lt_of_pos _ (by omega)
 refine ⟨(x%(m:Int)).toNat,by omega,?_⟩
 have:((a*(x%(m:Int)).toNat%m:Nat):Int)=1:=by
  rw [Int.natCast_emod,Int.natCast_mul,Int.toNat_of_nonneg h1,Int.mul_emod,Int.emod_emod_of_dvd _ (Int.dvd_refl _),← Int.mul_emod,show (a:Int)*x=1 - m*y by omega,Int.sub_emod,Int.mul_emod_right,Int.sub_zero,Int.emod_emod_of_dvd _ (Int.dvd_refl _)]
  exact Int.emod_eq_of_lt (by decide) (by omega)
 omega
open Classical in
noncomputable def minv (m a:Nat):Nat:=if h:∃ y,y<m∧a*y%m=1 then Classical.choose h else 0
theorem Ra {m a:Nat} (h:∃ y,y<m∧a*y%m=1):minv m a<m∧a*minv m a%m=1:=by
 unfold minv; rw [dif_pos h]; exact Classical.choose_spec h
theorem Zhr {m a y z:Nat} (hy:y<m) (hz:z<m) (h1:a*y%m=1) (h2:a*z%m=1):y=z:=by
 have e1:y*(a*z)%m=y:=by rw [Nat.mul_mod,h2,Nat.mul_one,Nat.mod_mod,Nat.mod_eq_of_lt hy]
 have e2:y*(a*z)%m=z:=by rw [show y*(a*z)=(a*y)*z by rw [Nat.mul_left_comm,Nat.mul_assoc],Nat.mul_mod,h1,Nat.one_mul,Nat.mod_mod,Nat.mod_eq_of_lt hz]
 exact e1.symm.trans e2
theorem Kr {m a y:Nat} (hy:y<m) (h:a*y%m=1):minv m a=y :=
 Zhr (Ra ⟨y,hy,h⟩).1 hy (Ra ⟨y,hy,h⟩).2 h
theorem He {p a:Nat} (hp:Prm p) (h:a%p≠0):Nat.gcd a p=1:=by
 rcases hp.2 _ (Nat.gcd_dvd_right a p) with h1 | h1
 ·exact h1
 ·exact absurd (Nat.mod_eq_zero_of_dvd (h1 ▸ Nat.gcd_dvd_left a p)) h
theorem D4 {p a:Nat} (hp:Prm p) (h0:0<a) (ha:a<p):∃ y,y<p∧a*y%p=1 :=
 Zmn hp.1 (He hp (by rw [Nat.mod_eq_of_lt ha]; omega))
/-! ### Numbers modulo p as a ring -/
section
variable {p:Nat} [NeZero p]
def fi (a:Nat):Fin p:=Fin.ofNat p a
theorem Gy (a:Nat):(fi a:Fin p).val=a%p:=rfl
theorem Zx3 (a:Fin p):fi a.val=a:=Fin.ext (Nat.mod_eq_of_lt a.2)
theorem Jy (a b:Nat):(fi (fadd p a b):Fin p)=fi a+fi b:=by
 apply Fin.ext; rw [Fin.val_add]; simp only [Gy,fadd,Nat.mod_mod,← Nat.add_mod]
theorem Z9 (a b:Nat):(fi (fmul p a b):Fin p)=fi a*fi b:=by
 apply Fin.ext; rw [Fin.val_mul]; simp only [Gy,fmul,Nat.mod_mod,← Nat.mul_mod]
theorem Yw {a b:Nat} (hb:b<p):(fi (fsub p a b):Fin p)=fi a - fi b:=by
 apply Fin.ext
 rw [Fin.sub_def]
 simp only [Gy,fsub,Nat.mod_mod]
 rw [Nat.mod_eq_of_lt hb,Nat.add_comm,Nat.add_mod,Nat.add_mod (p - b) (a%p),Nat.mod_mod]
theorem U0 {a b:Nat} (ha:a<p) (hb:b<p) (h:(fi a:Fin p)=fi b):a=b:=by
 have:=congrArg Fin.val h
 rwa [Gy,Gy,Nat.mod_eq_of_lt ha,Nat.mod_eq_of_lt hb] at this
theorem fi_zero:(fi 0:Fin p)=0:=rfl
theorem Zfm:(fi 1:Fin p)=1:=rfl
theorem Ll {a:Nat} (ha:a<p):(fi a:Fin p)=0↔a=0:=⟨fun h => U0 ha (Nat.pos_of_neZero p) (h.trans fi_zero.symm),fun h => h ▸ rfl⟩
theorem W6 (hp:Prm p) {a b:Fin p} (h:a*b=0):a=0∨b=0:=by
 by_cases ha:a=0
 ·exact .inl ha
 ·refine .inr ?_
  have hv:=congrArg Fin.val h
  rw [Fin.val_mul] at hv
  have h0:((0:Fin p):Nat)=0:=rfl
  rw [h0] at hv
  have ha':a.val%p≠0:=by rw [Nat.mod_eq_of_lt a.2]; exact fun h => ha (Fin.ext h)
  have:=(Nat.Coprime.dvd_of_dvd_mul_left (Nat.Coprime.symm (He hp ha')) (Nat.dvd_of_mod_eq_zero hv))
  exact Fin.ext (Nat.eq_zero_of_dvd_of_lt this b.2)
theorem Kv (hp:Prm p) {a:Nat} (h0:0<a) (ha:a<p):(fi a:Fin p)*fi (minv p a)=1:=by
 have:=(Ra (D4 hp h0 ha)).2
 rw [← Z9]
 apply Fin.ext
 rw [Gy,fmul,this,Nat.mod_eq_of_lt hp.1]
 have:((1:Fin p):Nat)=1%p:=rfl
 rw [this,Nat.mod_eq_of_lt hp.1]
end
/-! ### Points -/
structure J3 where
 x:Nat
 y:Nat
 z:Nat
inductive Aff where
 | far
 | pt (x y:Nat)
def jtw (m:Nat):J3→J3
 | ⟨x,y,z⟩ => CheckFast.force (fmul m z z) fun d => CheckFast.force (fmul m y y) fun g => CheckFast.force (fmul m x g) fun be =>
  CheckFast.force (fmul m (fmul m (fsub m x d) (fadd m x d)) 3) fun al => CheckFast.force (fsub m (fmul m al al) (fmul m be 8)) fun x' =>
  CheckFast.force (fsub m (fsub m (fmul m (fadd m y z) (fadd m y z)) g) d) fun z' =>
  CheckFast.force (fsub m (fmul m al (fsub m (fmul m be 4) x')) (fmul m (fmul m g g) 8)) fun y' => ⟨x',y',z'⟩
def jsum (m:Nat):J3→J3→J3
 | ⟨x,y,z⟩,⟨x',y',z'⟩ => bif z == 0 then ⟨x',y',z'⟩ else bif z' == 0 then ⟨x,y,z⟩ else
  CheckFast.force (fmul m z z) fun s => CheckFast.force (fmul m z' z') fun t => CheckFast.force (fmul m x t) fun u => CheckFast.force (fsub m (fmul m x' s) u) fun h =>
  CheckFast.force (fmul m y (fmul m t z')) fun v => CheckFast.force (fsub m (fmul m y' (fmul m s z)) v) fun r =>
  bif h == 0 then (bif r == 0 then jtw m ⟨x,y,z⟩ else ⟨0,0,0⟩) else
  CheckFast.force (fmul m h h) fun hh => CheckFast.force (fmul m hh h) fun hhh => CheckFast.force (fmul m u hh) fun uh =>
  CheckFast.force (fsub m (fsub m (fmul m r r) hhh) (fmul m uh 2)) fun x3 => CheckFast.force (fsub m (fmul m r (fsub m uh x3)) (fmul m v hhh)) fun y3 =>
  CheckFast.force (fmul m h (fmul m z z')) fun z3 => ⟨x3,y3,z3⟩
def jmk (m:Nat) (t:J3):Nat→Nat→J3
 | 0,_ => ⟨0,0,0⟩
 | n+1,k => match k%2 with
  | 0 => jtw m (jmk m t n (k / 2))
  | _+1 => jsum m (jtw m (jmk m t n (k / 2))) t
open Classical in
noncomputable def aadd (m:Nat):Aff→Aff→Aff
 | .far,c => c
 | .pt x y,.far => .pt x y
 | .pt x y,.pt x' y' =>
  if x=x'∧y=fsub m 0 y' then .far else
  let l:=if x=x'∧y=y' then fmul m (fmul m 3 (fsub m (fmul m x x) 1)) (minv m (fadd m y y)) else fmul m (fsub m y' y) (minv m (fsub m x' x))
  let x3:=fsub m (fsub m (fmul m l l) x) x'
  .pt x3 (fsub m (fmul m l (fsub m x x3)) y)
noncomputable def amk (m:Nat) (a:Aff):Nat→Nat→Aff
 | 0,_ => .far
 | n+1,k => if k%2=0 then aadd m (amk m a n (k / 2)) (amk m a n (k / 2)) else aadd m (aadd m (amk m a n (k / 2)) (amk m a n (k / 2))) a
def onB (m b x y:Nat):Bool:=fmul m y y == fadd m (fsub m (fmul m (fmul m x x) x) (fmul m 3 x)) b
def onA (m b:Nat):Aff→Prop
 | .far => True
 | .pt x y => x<m∧y<m∧onB m b x y=true
def jok (m:Nat) (t:J3):Prop:=t.x<m∧t.y<m∧t.z<m
section
variable {p:Nat} [NeZero p]
def rep (t:J3):Aff→Prop
 | .far => t.z=0
 | .pt x y => t.z≠0∧(fi t.x:Fin p)=fi x*(fi t.z*fi t.z)∧(fi t.y:Fin p)=fi y*(fi t.z*(fi t.z*fi t.z))
theorem Su {b x y:Nat} (hx:x<p) (hy:y<p) (hb:b<p):onB p b x y=true↔(fi y:Fin p)*fi y=fi x*fi x*fi x - 3*fi x+fi b:=by
 have h0:0<p:=Nat.pos_of_neZero p
 rw [onB,beq_iff_eq]
 have e:(fi (fmul p y y):Fin p)=fi (fadd p (fsub p (fmul p (fmul p x x) x) (fmul p 3 x)) b)↔(fi y:Fin p)*fi y=fi x*fi x*fi x - 3*fi x+fi b:=by
  rw [Z9,Jy,Yw (Zi h0 _ _),Z9,Z9,Z9]; rfl
 rw [← e]
 exact ⟨fun h => by rw [h],fun h => U0 (Zi h0 _ _) (Zn h0 _ _) h⟩
theorem Ah {t:J3} (h:0<p):jok p (jtw p t):=by
 obtain ⟨x,y,z⟩:=t
 simp only [jtw,CheckFast.force_eq]
 exact ⟨Zh h _ _,Zh h _ _,Zh h _ _⟩
theorem Zch {s t:J3} (hs:jok p s) (ht:jok p t) (h:0<p):jok p (jsum p s t):=by
 obtain ⟨x,y,z⟩:=s
 obtain ⟨x',y',z'⟩:=t
 simp only [jsum,CheckFast.force_eq]
 cases hz:z == 0
 ·cases hz':z' == 0
  ·simp only [cond_false]
   cases fsub p (fmul p x' (fmul p z z)) (fmul p x (fmul p z' z')) == 0
   ·exact ⟨Zh h _ _,Zh h _ _,Zi h _ _⟩
   ·cases fsub p (fmul p y' (fmul p (fmul p z z) z)) (fmul p y (fmul p (fmul p z' z') z')) == 0
    ·exact ⟨h,h,h⟩
    ·simp only [cond_true]; exact Ah h
  ·exact hs
 ·exact ht
theorem Zt3 (hp:Prm p) (h3:3<p) {b:Nat} (hb:b<p) {t:J3} {a:Aff} (ht:jok p t) (ha:onA p b a) (h:rep (p:=p) t a):rep (p:=p) (jtw p t) (aadd p a a)∧onA p b (aadd p a a):=by
 have h0:0<p:=Nat.pos_of_neZero p
 obtain ⟨X,Y,Z⟩:=t
 obtain ⟨tx,ty,tz⟩:=ht
 simp only at tx ty tz
 have two:(2:Fin p)≠0:=fun h => by
  have:=congrArg Fin.val h
  have e:((2:Fin p):Nat)=2%p:=rfl
  rw [e,Nat.mod_eq_of_lt (by omega)] at this
  cases this
 have ez:(fi (fsub p (fsub p (fmul p (fadd p Y Z) (fadd p Y Z)) (fmul p Y Y)) (fmul p Z Z)):Fin p)=(fi Y+fi Z)*(fi Y+fi Z) - fi Y*fi Y - fi Z*fi Z:=by
  rw [Yw (Zi h0 _ _),Yw (Zi h0 _ _)]; simp only [Z9,Jy]
 cases a with
 | far =>
  obtain rfl:Z=0:=h
  refine ⟨?_,trivial⟩
  show (jtw p ⟨X,Y,0⟩).z=0
  simp only [jtw,CheckFast.force_eq]
  refine (Ll (Zh h0 _ _)).1 ?_
  rw [ez]
  have:(fi 0:Fin p)=0:=rfl
  rw [this]; grobner
 | pt x y =>
  obtain ⟨hx,hy,hon⟩:=ha
  have hon':=(Su hx hy hb).1 hon
  obtain ⟨hz,hX,hY⟩:=h
  simp only at hz hX hY
  have hZ:(fi Z:Fin p)≠0:=fun h => hz ((Ll tz).1 h)
  by_cases hy0:y=0
  ·subst hy0
   have e:aadd p (.pt x 0) (.pt x 0)=.far:=by
    rw [aadd,if_pos ⟨rfl,by simp [fsub]⟩]
   rw [e]
   refine ⟨?_,trivial⟩
   show (jtw p ⟨X,Y,Z⟩).z=0
   simp only [jtw,CheckFast.force_eq]
   refine (Ll (Zh h0 _ _)).1 ?_
   rw [ez,hY,fi_zero]; grobner
  ·have hyy:(fi y:Fin p)+fi y≠0:=fun h => by
    have:(2:Fin p)*fi y=0:=by grobner
    rcases W6 hp this with h | h
    ·exact two h
    ·exact hy0 ((Ll hy).1 h)
   have hyn:¬ (x=x∧y=fsub p 0 y):=fun h => by
    have e:(fi y:Fin p)=fi 0 - fi y:=by conv => lhs; rw [h.2]
                                        rw [Yw hy]
    rw [fi_zero] at e
    exact hyy (by grobner)
   have e:aadd p (.pt x y) (.pt x y)=.pt (fsub p (fsub p (fmul p (fmul p (fmul p 3 (fsub p (fmul p x x) 1)) (minv p (fadd p y y))) (fmul p (fmul p 3 (fsub p (fmul p x x) 1)) (minv p (fadd p y y)))) x) x) (fsub p (fmul p (fmul p (fmul p 3 (fsub p (fmul p x x) 1)) (minv p (fadd p y y))) (fsub p x (fsub p (fsub p (fmul p (fmul p (fmul p 3 (fsub p (fmul p x x) 1)) (minv p (fadd p y y))) (fmul p (fmul p 3 (fsub p (fmul p x x) 1)) (minv p (fadd p y y)))) x) x))) y):=by
    rw [aadd,if_neg hyn,if_pos ⟨rfl,rfl⟩]
   rw [e]
   have hyy':fadd p y y≠0:=fun h => hyy (by rw [← Jy,h]; rfl)
   have hi:=Kv hp (Nat.pos_of_ne_zero hyy') (Zn h0 y y)
   rw [Jy] at hi
   generalize hm:minv p (fadd p y y)=i at *
   generalize hl:fmul p (fmul p 3 (fsub p (fmul p x x) 1)) i=l at *
   have hl':(fi l:Fin p)*(fi y+fi y)=3*(fi x*fi x - 1):=by
    rw [← hl,Z9,Z9,Yw (show 1<p by omega),Z9]
    have:(fi 3:Fin p)=3:=rfl
    rw [this,Zfm]
    have:∀ a:Fin p,a*fi i*(fi y+fi y)=a*((fi y+fi y)*fi i):=fun a => by grobner
    rw [this,hi]; grobner
   generalize hx3:fsub p (fsub p (fmul p l l) x) x=x3
   generalize hy3:fsub p (fmul p l (fsub p x x3)) y=y3
   have x3lt:x3<p:=hx3 ▸ Zh h0 _ _
   have y3lt:y3<p:=hy3 ▸ Zh h0 _ _
   have fx3:(fi x3:Fin p)=fi l*fi l - fi x - fi x:=by rw [← hx3,Yw hx,Yw hx,Z9]
   have fy3:(fi y3:Fin p)=fi l*(fi x - fi x3) - fi y:=by rw [← hy3,Yw hy,Z9,Yw x3lt]
   refine ⟨?_,x3lt,y3lt,(Su x3lt y3lt hb).2 (Zy9 hon' hl' fx3 fy3)⟩
   simp only [jtw,CheckFast.force_eq]
   generalize hd:fmul p Z Z=d
   generalize hg:fmul p Y Y=g
   generalize hbe:fmul p X g=be
   generalize hal:fmul p (fmul p (fsub p X d) (fadd p X d)) 3=al
   generalize hX3:fsub p (fmul p al al) (fmul p be 8)=X3
   generalize hY3:fsub p (fmul p al (fsub p (fmul p be 4) X3)) (fmul p (fmul p g g) 8)=Y3
   generalize hZ3:fsub p (fsub p (fmul p (fadd p Y Z) (fadd p Y Z)) g) d=Z3
   have ltd:d<p:=hd ▸ Zi h0 _ _
   have ltg:g<p:=hg ▸ Zi h0 _ _
   have ltX3:X3<p:=hX3 ▸ Zh h0 _ _
   have ltZ3:Z3<p:=hZ3 ▸ Zh h0 _ _
   obtain ⟨k1,k2,k3⟩:=Z3u (p:=p) hX hY hl' (d:=fi d) (g:=fi g) (be:=fi be) (al:=fi al) (X3:=fi X3) (Y3:=fi Y3) (Z3:=fi Z3) (by rw [← hd,Z9]) (by rw [← hg,Z9]) (by rw [← hbe,Z9])
    (by rw [← hal,Z9,Z9,Yw ltd,Jy]; rfl) (by rw [← hX3,Yw (Zi h0 _ _),Z9,Z9]; rfl) (by rw [← hZ3,Yw ltd,Yw ltg,Z9,Jy])
    (by rw [← hY3,Yw (Zi h0 _ _),Z9,Yw ltX3,Z9,Z9,Z9]; rfl) fx3 fy3
   refine ⟨fun h => ?_,k1,k2⟩
   rw [show (J3.mk X3 Y3 Z3).z=Z3 from rfl] at h
   rw [h,fi_zero] at k3
   rcases W6 hp k3.symm with h | h
   ·exact hyy h
   ·rcases W6 hp h with h | h <;> rcases W6 hp h with h | h <;> exact hZ h
end
end Go.Proofs.YtcgjlpdkobmpnaaGreat.Eng
namespace Go.Proofs.YtcgjlpdkobmpnaaGreat.Eng
open Go
set_option linter.unusedVariables false
set_option linter.unusedSimpArgs false
set_option linter.unusedSectionVars false
section
variable {p:Nat} [NeZero p]
theorem Zj1 {a b:Fin p} (h:a - b=0):a=b:=by grobner
theorem Z3x {a b:Fin p} (h:a+b=0):a=0 - b:=by grobner
theorem Zzf {a b:Fin p}:(a - a)*b=0:=by grobner
theorem Zkc {a b f:Fin p} (h1:a*a=f) (h2:b*b=f):(a - b)*(a+b)=0:=by grobner
theorem Dw (hp:Prm p) (h3:3<p) {b:Nat} (hb:b<p) {s t:J3} {a c:Aff} (hs:jok p s) (ht:jok p t) (ha:onA p b a) (hc:onA p b c) (h:rep (p:=p) s a) (h':rep (p:=p) t c):rep (p:=p) (jsum p s t) (aadd p a c)∧onA p b (aadd p a c):=by
 have h0:0<p:=Nat.pos_of_neZero p
 cases a with
 | far =>
  obtain ⟨X,Y,Z⟩:=s
  obtain rfl:Z=0:=h
  obtain ⟨X',Y',Z'⟩:=t
  have e:jsum p ⟨X,Y,0⟩ ⟨X',Y',Z'⟩=⟨X',Y',Z'⟩:=rfl
  rw [e]
  exact ⟨h',hc⟩
 | pt x y =>
  cases c with
  | far =>
   obtain ⟨X,Y,Z⟩:=s
   obtain ⟨X',Y',Z'⟩:=t
   obtain rfl:Z'=0:=h'
   have hz:(Z == 0)=false:=beq_eq_false_iff_ne.2 h.1
   have e:jsum p ⟨X,Y,Z⟩ ⟨X',Y',0⟩=⟨X,Y,Z⟩:=by simp only [jsum,hz,cond_false]; rfl
   rw [e]
   exact ⟨h,ha⟩
  | pt x' y' =>
   have rtw:=Zt3 hp h3 hb hs ha h
   obtain ⟨X,Y,Z⟩:=s
   obtain ⟨X',Y',Z'⟩:=t
   obtain ⟨tx,ty,tz⟩:=hs
   obtain ⟨tx',ty',tz'⟩:=ht
   obtain ⟨hx,hy,hon⟩:=ha
   obtain ⟨hx',hy',hon'⟩:=hc
   have on1:=(Su hx hy hb).1 hon
   have on2:=(Su hx' hy' hb).1 hon'
   obtain ⟨hz,hX,hY⟩:=h
   obtain ⟨hz',hX',hY'⟩:=h'
   simp only at tx ty tz tx' ty' tz' hz hX hY hz' hX' hY'
   have hZ:(fi Z:Fin p)≠0:=fun h => hz ((Ll tz).1 h)
   have hZ':(fi Z':Fin p)≠0:=fun h => hz' ((Ll tz').1 h)
   have nz:∀ {u v:Fin p},u≠0→v≠0→u*v≠0:=fun hu hv h => (W6 hp h).elim hu hv
   have z1:(Z == 0)=false:=beq_eq_false_iff_ne.2 hz
   have z2:(Z' == 0)=false:=beq_eq_false_iff_ne.2 hz'
   have e0:jsum p ⟨X,Y,Z⟩ ⟨X',Y',Z'⟩=jsum p ⟨X,Y,Z⟩ ⟨X',Y',Z'⟩:=rfl
   conv at e0 => rhs; simp only [jsum,CheckFast.force_eq,z1,z2,cond_false]
   rw [e0]
   generalize hs':fmul p Z Z=s' at *
   generalize ht':fmul p Z' Z'=t' at *
   generalize hu:fmul p X t'=u at *
   generalize hh:fsub p (fmul p X' s') u=h at *
   generalize hv:fmul p Y (fmul p t' Z')=v at *
   generalize hr:fsub p (fmul p Y' (fmul p s' Z)) v=r at *
   have ltu:u<p:=hu ▸ Zi h0 _ _
   have lth:h<p:=hh ▸ Zh h0 _ _
   have ltv:v<p:=hv ▸ Zi h0 _ _
   have ltr:r<p:=hr ▸ Zh h0 _ _
   have fs:(fi s':Fin p)=fi Z*fi Z:=by rw [← hs',Z9]
   have ft:(fi t':Fin p)=fi Z'*fi Z':=by rw [← ht',Z9]
   have fu:(fi u:Fin p)=fi X*(fi Z'*fi Z'):=by rw [← hu,Z9,ft]
   have fh:(fi h:Fin p)=fi X'*(fi Z*fi Z) - fi u:=by rw [← hh,Yw ltu,Z9,fs]
   have fv:(fi v:Fin p)=fi Y*((fi Z'*fi Z')*fi Z'):=by rw [← hv,Z9,Z9,ft]
   have fr:(fi r:Fin p)=fi Y'*((fi Z*fi Z)*fi Z) - fi v:=by rw [← hr,Yw ltv,Z9,Z9,fs]
   have gh:(fi h:Fin p)=(fi x' - fi x)*((fi Z*fi Z)*(fi Z'*fi Z')):=by rw [fh,fu,hX,hX']; grobner
   have gr:(fi r:Fin p)=(fi y' - fi y)*((fi Z*fi Z*fi Z)*(fi Z'*fi Z'*fi Z')):=by rw [fr,fv,hY,hY']; grobner
   have nz1:=nz (nz hZ hZ) (nz hZ' hZ')
   have nz2:=nz (nz (nz hZ hZ) hZ) (nz (nz hZ' hZ') hZ')
   have h_iff:h=0↔x=x':=by
    rw [← Ll (p:=p) lth,gh]
    constructor
    ·intro hh0
     rcases W6 hp hh0 with hh1 | hh1
     ·exact (U0 hx' hx (Zj1 hh1)).symm
     ·exact absurd hh1 nz1
    ·rintro rfl; exact Zzf
   have r_iff:r=0↔y=y':=by
    rw [← Ll (p:=p) ltr,gr]
    constructor
    ·intro hh0
     rcases W6 hp hh0 with hh1 | hh1
     ·exact (U0 hy' hy (Zj1 hh1)).symm
     ·exact absurd hh1 nz2
    ·rintro rfl; exact Zzf
   by_cases hh0:h=0
   ·have hxx:=h_iff.1 hh0
    subst hxx
    by_cases hr0:r=0
    ·have hyy:=r_iff.1 hr0
     subst hyy
     rw [hh0,hr0]
     exact rtw
    ·have hyy:y≠y':=fun h => hr0 (r_iff.2 h)
     have b1:(h == 0)=true:=beq_iff_eq.2 hh0
     have b2:(r == 0)=false:=beq_eq_false_iff_ne.2 hr0
     rw [b1,b2]
     simp only [cond_true,cond_false]
     have:((fi y:Fin p) - fi y')*(fi y+fi y')=0:=Zkc on1 on2
     have hneg:y=fsub p 0 y':=by
      refine U0 hy (Zh h0 _ _) ?_
      rw [Yw hy',fi_zero]
      rcases W6 hp this with hq | hq
      ·exact absurd (U0 hy hy' (Zj1 hq)) hyy
      ·exact Z3x hq
     have e:aadd p (.pt x y) (.pt x y')=.far:=by
      rw [aadd,if_pos ⟨rfl,hneg⟩]
     rw [e]
     exact ⟨rfl,trivial⟩
   ·have hxx:x≠x':=fun h => hh0 (h_iff.2 h)
    have b1:(h == 0)=false:=beq_eq_false_iff_ne.2 hh0
    rw [b1]
    simp only [cond_false]
    have e:aadd p (.pt x y) (.pt x' y')=.pt (fsub p (fsub p (fmul p (fmul p (fsub p y' y) (minv p (fsub p x' x))) (fmul p (fsub p y' y) (minv p (fsub p x' x)))) x) x') (fsub p (fmul p (fmul p (fsub p y' y) (minv p (fsub p x' x))) (fsub p x (fsub p (fsub p (fmul p (fmul p (fsub p y' y) (minv p (fsub p x' x))) (fmul p (fsub p y' y) (minv p (fsub p x' x)))) x) x'))) y):=by
     rw [aadd,if_neg (fun h => hxx h.1),if_neg (fun h => hxx h.1)]
    rw [e]
    have hd:(fi x':Fin p) - fi x≠0:=fun h => hxx (U0 hx' hx (Zj1 h)).symm
    have hd':fsub p x' x≠0:=fun h => hd (by rw [← Yw hx,h]; rfl)
    have hi:=Kv hp (Nat.pos_of_ne_zero hd') (Zh h0 x' x)
    rw [Yw hx] at hi
    generalize minv p (fsub p x' x)=i at *
    generalize hl:fmul p (fsub p y' y) i=l at *
    have hl':(fi l:Fin p)*(fi x' - fi x)=fi y' - fi y:=by
     rw [← hl,Z9,Yw hy]
     have:∀ a:Fin p,a*fi i*(fi x' - fi x)=a*((fi x' - fi x)*fi i):=fun a => by grobner
     rw [this,hi]; grobner
    generalize hx3:fsub p (fsub p (fmul p l l) x) x'=x3
    generalize hy3:fsub p (fmul p l (fsub p x x3)) y=y3
    have x3lt:x3<p:=hx3 ▸ Zh h0 _ _
    have y3lt:y3<p:=hy3 ▸ Zh h0 _ _
    have fx3:(fi x3:Fin p)=fi l*fi l - fi x - fi x':=by rw [← hx3,Yw hx',Yw hx,Z9]
    have fy3:(fi y3:Fin p)=fi l*(fi x - fi x3) - fi y:=by rw [← hy3,Yw hy,Z9,Yw x3lt]
    refine ⟨?_,x3lt,y3lt,(Su x3lt y3lt hb).2 (Z3v on1 on2 hl' hi fx3 fy3)⟩
    generalize hhh:fmul p h h=hh'
    generalize hhhh:fmul p hh' h=hhh'
    generalize huh:fmul p u hh'=uh
    generalize hX3:fsub p (fsub p (fmul p r r) hhh') (fmul p uh 2)=X3
    generalize hY3:fsub p (fmul p r (fsub p uh X3)) (fmul p v hhh')=Y3
    generalize hZ3:fmul p h (fmul p Z Z')=Z3
    have lt3:hhh'<p:=hhhh ▸ Zi h0 _ _
    have ltX3:X3<p:=hX3 ▸ Zh h0 _ _
    have ltZ3:Z3<p:=hZ3 ▸ Zi h0 _ _
    have fZ3:(fi Z3:Fin p)=fi h*(fi Z*fi Z'):=by rw [← hZ3,Z9,Z9]
    obtain ⟨k1,k2⟩:=Zy8 (p:=p) hX hY hX' hY' hl' (u:=fi u) (h:=fi h) (v:=fi v) (r:=fi r) (hh:=fi hh') (hhh:=fi hhh') (uh:=fi uh) (X3:=fi X3) (Y3:=fi Y3) (Z3:=fi Z3) fu fh fv fr (by rw [← hhh,Z9]) (by rw [← hhhh,Z9]) (by rw [← huh,Z9])
     (by rw [← hX3,Yw (Zi h0 _ _),Yw lt3,Z9,Z9]; rfl) (by rw [← hY3,Yw (Zi h0 _ _),Z9,Yw ltX3,Z9]) fZ3 fx3 fy3
    refine ⟨fun h => ?_,k1,k2⟩
    rw [show (J3.mk X3 Y3 Z3).z=Z3 from rfl] at h
    rw [h,fi_zero] at fZ3
    rcases W6 hp fZ3.symm with h | h
    ·exact hh0 ((Ll lth).1 h)
    ·rcases W6 hp h with h | h
     ·exact hZ h
     ·exact hZ' h
theorem Ai {t:J3} (ht:jok p t):∀ n k,jok p (jmk p t n k)
 | 0,k => by have h0:0<p:=Nat.pos_of_neZero p; exact ⟨h0,h0,h0⟩
 | n+1,k => by
  have h0:0<p:=Nat.pos_of_neZero p
  rw [jmk]
  split
  ·exact Ah h0
  ·exact Zch (Ah h0) ht h0
theorem Zku (hp:Prm p) (h3:3<p) {b:Nat} (hb:b<p) {t:J3} {a:Aff} (ht:jok p t) (ha:onA p b a) (h:rep (p:=p) t a):∀ n k,rep (p:=p) (jmk p t n k) (amk p a n k)∧onA p b (amk p a n k)
 | 0,k => ⟨rfl,trivial⟩
 | n+1,k => by
  have h0:0<p:=Nat.pos_of_neZero p
  obtain ⟨i1,i2⟩:=Zku hp h3 hb ht ha h n (k / 2)
  obtain ⟨j1,j2⟩:=Zt3 hp h3 hb (Ai ht n (k / 2)) i2 i1
  rw [jmk,amk]
  have h2:=Nat.mod_lt k (show 0<2 by decide)
  split
  ·rename_i e
   rw [if_pos e]
   exact ⟨j1,j2⟩
  ·rename_i j e
   rw [if_neg (by omega)]
   exact Dw hp h3 hb (Ah h0) ht j2 ha j1 h
noncomputable def jflat (m:Nat) (t:J3):Aff:=if t.z=0 then .far else .pt (fmul m t.x (fmul m (minv m t.z) (minv m t.z))) (fmul m t.y (fmul m (fmul m (minv m t.z) (minv m t.z)) (minv m t.z)))
theorem Hz (hp:Prm p) {b:Nat} {t:J3} {a:Aff} (ht:jok p t) (ha:onA p b a) (h:rep (p:=p) t a):jflat p t=a:=by
 have h0:0<p:=Nat.pos_of_neZero p
 obtain ⟨X,Y,Z⟩:=t
 cases a with
 | far => obtain rfl:Z=0:=h; rfl
 | pt x y =>
  obtain ⟨hz,hX,hY⟩:=h
  obtain ⟨tx,ty,tz⟩:=ht
  obtain ⟨hx,hy,hon⟩:=ha
  simp only at hz hX hY tx ty tz
  rw [jflat,if_neg hz]
  simp only
  have hi:=Kv hp (Nat.pos_of_ne_zero hz) tz
  generalize minv p Z=i at *
  have e1:fmul p X (fmul p i i)=x:=by
   refine U0 (Zi h0 _ _) hx ?_
   rw [Z9,Z9,hX]
   have:(fi x:Fin p)*(fi Z*fi Z)*(fi i*fi i)=fi x*((fi Z*fi i)*(fi Z*fi i)):=by grobner
   rw [this,hi]; grobner
  have e2:fmul p Y (fmul p (fmul p i i) i)=y:=by
   refine U0 (Zi h0 _ _) hy ?_
   rw [Z9,Z9,Z9,hY]
   have:(fi y:Fin p)*(fi Z*(fi Z*fi Z))*(fi i*fi i*fi i)=fi y*((fi Z*fi i)*(fi Z*fi i)*(fi Z*fi i)):=by grobner
   rw [this,hi]; grobner
  rw [e1,e2]
def lift:Aff→J3
 | .far => ⟨0,0,0⟩
 | .pt x y => ⟨x,y,1⟩
theorem Tg (h1:1<p) {b:Nat} {a:Aff} (ha:onA p b a):jok p (lift a):=by
 cases a with
 | far => have h0:0<p:=by omega
          exact ⟨h0,h0,h0⟩
 | pt x y => exact ⟨ha.1,ha.2.1,h1⟩
theorem T8 (a:Aff):rep (p:=p) (lift a) a:=by
 cases a with
 | far => rfl
 | pt x y =>
  refine ⟨Nat.one_ne_zero,?_,?_⟩
  ·show (fi x:Fin p)=fi x*(fi 1*fi 1); rw [Zfm]; grobner
  ·show (fi y:Fin p)=fi y*(fi 1*(fi 1*fi 1)); rw [Zfm]; grobner
end
set_option maxRecDepth 10000
theorem Zuq (a b:Nat):decide (cmpN a b<0)=decide (a<b):=by
 unfold cmpN
 split
 ·rename_i h; simp [h]
 ·rename_i h
  split <;> simp [h]
theorem num8 (a:Nat) (h:a<(18446744073709551616:Nat)^4):[W (a / (18446744073709551616:Nat)^0%(18446744073709551616:Nat)),W (a / (18446744073709551616:Nat)^1%(18446744073709551616:Nat)),W (a / (18446744073709551616:Nat)^2%(18446744073709551616:Nat)),W (a / (18446744073709551616:Nat)^3%(18446744073709551616:Nat)),Z0,Z0,Z0,Z0]=wd 8 a:=by
 have:=Dd (k:=8) (n:=a) (i:=4) (by decide)
 rw [T3 h] at this
 have e:num a=[W (a / (18446744073709551616:Nat)^0%(18446744073709551616:Nat)),W (a / (18446744073709551616:Nat)^1%(18446744073709551616:Nat)),W (a / (18446744073709551616:Nat)^2%(18446744073709551616:Nat)),W (a / (18446744073709551616:Nat)^3%(18446744073709551616:Nat))]:=by
  simp only [wd,dig,List.map_cons,List.map_nil,Nat.pow_zero,Nat.div_one,Nat.pow_one,Nat.div_div_eq_div_mul]
 rw [this,show wd 4 a=num a from rfl,e]; rfl
theorem Hu {p n:Nat} (h:p<n) (k:Nat):(p<n+k)=True:=by simp; omega
theorem t_in {H:AH} {p m a:Nat} (hf:FD H p m) (hm:m<(18446744073709551616:Nat)^4) (h0:0<m) (ha:a<(18446744073709551616:Nat)^4):Called Tryz.prog F.field_Field_in [.ptr p 0,.agg (num a)] H (.agg (num (a%m))) H:=by
 refine Id ?_
 have hf':∀ G,FD (H++G) p m:=fun G => hf.app
 obtain ⟨hp,r,ho,hr⟩:=hf
 have t2:(num m++r).take 4=num m:=List.take_left' (Zb 4 m)
 have g:∀ i,i<4→(num a).getD i .junk=W (a / (18446744073709551616:Nat)^i%(18446744073709551616:Nat)):=fun i hi => Uc hi
 simp only [Rg,go_sem,Zg,Yf,Zd,Zb,Z1 _ _ hp,ho,hr,t2,Hu hp]
 refine Za (I0 ha hm) (fun _ => rfl) ?_
 simp only [go_sem,Zd,Ze,Zg,Zb,Zuq]
 refine ⟨fun h => ?_,fun h => ?_⟩
 ·rw [Nat.mod_eq_of_lt h]
  exact Zc rfl
 ·simp only [g 0 (by decide),g 1 (by decide),g 2 (by decide),g 3 (by decide)]
  simp only [go_sem,Zq,fillv,num8 a ha]
  refine ⟨by decide,by decide,by decide,by decide,Za (Zv2 (hf' _) hm h0 (Nat.lt_trans ha (by decide))) (fun _ => rfl) ?_⟩
  simp only [go_sem,Zd,Ze,Zg,Zb]
  exact Zc rfl
theorem Bh {H:AH} {p m a b:Nat} (hf:FD H p m) (hm:m<(18446744073709551616:Nat)^4) (h0:0<m) (ha:a<(18446744073709551616:Nat)^4) (hb:b<(18446744073709551616:Nat)^4):Called Tryz.prog F.field_Field_Add [.ptr p 0,.agg (num a),.agg (num b)] H (.agg (num (fadd m a b))) H:=by
 refine Ja ?_
 have hf':∀ G,FD (H++G) p m:=fun G => hf.app
 have la:=Nat.mod_lt a h0
 have lb:=Nat.mod_lt b h0
 simp only [Sk,go_sem,Zg,Yf,Zd,Zb]
 refine Za ⟨rfl,fun G => t_in ((hf' _).app) hm h0 ha⟩ (fun _ => rfl) ?_
 simp only [go_sem,Zg,Yf,Zd,Zb]
 refine Za ⟨rfl,fun G => t_in ((hf' _).app) hm h0 hb⟩ (fun _ => rfl) ?_
 simp only [go_sem,Zg,Yf,Zd,Zb]
 refine Za ⟨rfl,fun G => Zd5 (Nat.lt_trans la hm) (Nat.lt_trans lb hm)⟩ (fun _ => rfl) ?_
 simp only [go_sem,Zg,Yf,Zd,Zb,Ze]
 refine Za (Zbd (hf' _) hm (by omega) rfl) (fun _ => rfl) ?_
 simp only [go_sem,Zg,Yf,Zd,Zb,Ze]
 refine Zc ?_
 show AV.agg (lowL _ _ (num _))=_
 rw [Tf,fadd,← Nat.add_mod]
theorem Zjw {H:AH} {p m a b:Nat} (hf:FD H p m) (hm:m<(18446744073709551616:Nat)^4) (h0:0<m) (ha:a<(18446744073709551616:Nat)^4) (hb:b<(18446744073709551616:Nat)^4):Called Tryz.prog F.field_Field_Sub [.ptr p 0,.agg (num a),.agg (num b)] H (.agg (num (fsub m (a%m) (b%m)))) H:=by
 refine K6 ?_
 have hf':∀ G,FD (H++G) p m:=fun G => hf.app
 have la:=Nat.mod_lt a h0
 have lb:=Nat.mod_lt b h0
 have la':=Nat.lt_trans la hm
 have lb':=Nat.lt_trans lb hm
 obtain ⟨hp,r,ho,hr⟩:=hf
 have t2:(num m++r).take 4=num m:=List.take_left' (Zb 4 m)
 simp only [Sg,go_sem,Zg,Yf,Zd,Zb]
 refine Za ⟨rfl,fun G => t_in ((hf' _).app) hm h0 ha⟩ (fun _ => rfl) ?_
 simp only [go_sem,Zg,Yf,Zd,Zb]
 refine Za ⟨rfl,fun G => t_in ((hf' _).app) hm h0 hb⟩ (fun _ => rfl) ?_
 simp only [go_sem,Zg,Yf,Zd,Zb]
 refine Za ⟨rfl,fun G => Zd4 la' lb'⟩ (fun _ => rfl) ?_
 simp only [go_sem,Zg,Yf,Zd,Zb,Ze]
 generalize a%m=a at *
 generalize b%m=b at *
 refine ⟨fun h => ?_,fun h => ?_⟩
 ·have e:num (fsub m a b)=num ((a+(18446744073709551616:Nat)^4 - b)%(18446744073709551616:Nat)^4+m):=by
   rw [← Nm ((a+(18446744073709551616:Nat)^4 - b)%(18446744073709551616:Nat)^4+m),fsub,Nat.mod_eq_of_lt (show a+(m - b)<m by omega)]
   congr 2; omega
  rw [← Nm (a+(18446744073709551616:Nat)^4 - b)]
  simp only [go_sem,Zg,Yf,Zd,Zb,Ze,Z1 _ _ hp,ho,hr,t2,Hu hp]
  refine Za (Zd5 (Nat.mod_lt _ (by decide)) hm) (fun _ => rfl) ?_
  simp only [go_sem,Zg,Yf,Zd,Zb,Ze,V3,← e]
  exact Zc rfl
 ·have e:num (fsub m a b)=num (a+(18446744073709551616:Nat)^4 - b):=by
   rw [← Nm (a+(18446744073709551616:Nat)^4 - b),fsub,show a+(m - b)=(a - b)+m by omega,Nat.add_mod_right,Nat.mod_eq_of_lt (by omega)]
   congr 1; omega
  simp only [go_sem,Zg,Yf,Zd,Zb,Ze,V3,← e]
  exact Zc rfl
def hlf (m a:Nat):Nat:=if a%2=0 then a / 2 else (a+m) / 2
theorem Zuj {m a:Nat} (ha:a<m):hlf m a<m:=by unfold hlf; split <;> omega
theorem Cm (a:Nat):((((a%(18446744073709551616:Nat)%2:Nat):Int) == 0):Bool)=decide (a%2=0):=by
 have:a%(18446744073709551616:Nat)%2=a%2:=by omega
 rw [this]
 rcases (show a%2=0∨a%2=1 by omega) with h | h <;> rw [h] <;> rfl
theorem Z4y {w:Nat} (hw:w<9223372036854775808):bOr .u64 (w:Int) 9223372036854775808=((w+9223372036854775808:Nat):Int):=Zua (b:=1) hw (by decide)
theorem Z01 {H:AH} {p m a:Nat} (hf:FD H p m) (hm:m<(18446744073709551616:Nat)^4) (h0:0<m) (ha:a<m):Called Tryz.prog F.field_Field_half [.ptr p 0,.agg (num a)] H (.agg (num (hlf m a))) H:=by
 refine Lt ?_
 have hf':∀ G,FD (H++G) p m:=fun G => hf.app
 have ha':=Nat.lt_trans ha hm
 obtain ⟨hp,r,ho,hr⟩:=hf
 have t2:(num m++r).take 4=num m:=List.take_left' (Zb 4 m)
 simp only [Tr,go_sem,Zg,Yf,Zd,Zb,Im,and1 _ (Nat.mod_lt a (show 0<(18446744073709551616:Nat) by decide)),Cm]
 refine ⟨by omega,fun h => ?_,fun h => ?_⟩
 ·refine Za (Zbc ha') (fun _ => rfl) ?_
  simp only [go_sem,Zg,Yf,Zd,Zb,Ze]
  refine Zc ?_
  rw [hlf,if_pos h]; rfl
 ·simp only [go_sem,Zg,Yf,Zd,Zb,Z1 _ _ hp,ho,hr,t2,Hu hp]
  refine Za ⟨rfl,fun G => Zd5 ha' hm⟩ (fun _ => rfl) ?_
  rw [← Nm (a+m)]
  simp only [go_sem,Zg,Yf,Zd,Zb,Ze]
  refine Za (Zbc (Nat.mod_lt _ (by decide))) (fun _ => rfl) ?_
  simp only [go_sem,Zg,Yf,Zd,Zb,Ze,V3]
  have e:hlf m a=(a+m) / 2:=by rw [hlf,if_neg h]
  refine ⟨fun h => ?_,fun h => ?_⟩
  ·have hs:=@Zje 4 ((a+m)%(18446744073709551616:Nat)^4 / 2) 3 9223372036854775808 (by decide)
   have hlt:(a+m)%(18446744073709551616:Nat)^4 / 2 / (18446744073709551616:Nat)^3<9223372036854775808:=by
    rw [Nat.div_lt_iff_lt_mul (bpos 3)]; omega
   have hmod:(a+m)%(18446744073709551616:Nat)^4 / 2 / (18446744073709551616:Nat)^3%(18446744073709551616:Nat)=(a+m)%(18446744073709551616:Nat)^4 / 2 / (18446744073709551616:Nat)^3:=Nat.mod_eq_of_lt (by omega)
   have hs:=hs (by omega)
   rw [hmod] at hs
   have e2:(a+m)%(18446744073709551616:Nat)^4 / 2+9223372036854775808*(18446744073709551616:Nat)^3=hlf m a:=by rw [e]; omega
   rw [e2] at hs
   simp only [go_sem,Zg,Yf,Zd,Zb,Uc (show 3<4 by decide),hmod,Z4y hlt,hs,Ze]
   exact ⟨by omega,by omega,Zc rfl⟩
  ·have e2:(a+m)%(18446744073709551616:Nat)^4 / 2=hlf m a:=by rw [e,Nat.mod_eq_of_lt (by omega)]
   simp only [go_sem,Zg,Yf,Zd,Zb,Ze,e2]
   exact Zc rfl
set_option maxRecDepth 10000
theorem Iv:∀ (k a b:Nat),Wb (wd k a) (wd k b)=decide (a%(18446744073709551616:Nat)^k=b%(18446744073709551616:Nat)^k)
 | 0,a,b => by simp [wd,dig,Wb,Nat.mod_one]
 | k+1,a,b => by
  have ih:=Iv k (a / (18446744073709551616:Nat)) (b / (18446744073709551616:Nat))
  have e:∀ c:Nat,c%(18446744073709551616:Nat)^(k+1)=c%(18446744073709551616:Nat)+(18446744073709551616:Nat)*(c / (18446744073709551616:Nat)%(18446744073709551616:Nat)^k):=fun c => by rw [Nat.pow_succ,Nat.mul_comm,Nat.mod_mul]
  rw [e,e]
  show (((a%(18446744073709551616:Nat):Nat):Int) == ((b%(18446744073709551616:Nat):Nat):Int)&&Wb (wd k (a / (18446744073709551616:Nat))) (wd k (b / (18446744073709551616:Nat))))=_
  rw [ih,Bool.eq_iff_iff,Bool.and_eq_true,beq_iff_eq,decide_eq_true_eq,decide_eq_true_eq]
  generalize a / (18446744073709551616:Nat)%(18446744073709551616:Nat)^k=u
  generalize b / (18446744073709551616:Nat)%(18446744073709551616:Nat)^k=v
  omega
theorem Da {a b:Nat} (ha:a<(18446744073709551616:Nat)^4) (hb:b<(18446744073709551616:Nat)^4):C6 (.agg (num a)) (.agg (num b))=decide (a=b):=by
 show Wb _ _=_
 rw [Iv,Nat.mod_eq_of_lt ha,Nat.mod_eq_of_lt hb]
theorem Ff {a:Nat} (ha:a<(18446744073709551616:Nat)^4):C6 (.agg (num a)) (.agg [Z0,Z0,Z0,Z0])=decide (a=0):=Da ha (b:=0) (by decide)
theorem Zzb {a:Nat} (ha:a<(18446744073709551616:Nat)^4):C6 (.agg (num a)) (.agg [.lit (.int .u64 1),Z0,Z0,Z0])=decide (a=1):=Da ha (b:=1) (by decide)
theorem E9 (a b:Nat):Us [some IntKind.u64,some IntKind.u64,some IntKind.u64,some IntKind.u64] (.agg (num a)) (.agg (num b))=True:=by
 simp [Us,wd,dig,Th,List.replicate]
theorem C5 (a:Nat):Us [some IntKind.u64,some IntKind.u64,some IntKind.u64,some IntKind.u64] (.agg (num a)) (.agg [Z0,Z0,Z0,Z0])=True:=E9 a 0
theorem Zza (a:Nat):Us [some IntKind.u64,some IntKind.u64,some IntKind.u64,some IntKind.u64] (.agg (num a)) (.agg [.lit (.int .u64 1),Z0,Z0,Z0])=True:=E9 a 1
/-! ### The plain law -/
def oddS (m n y:Nat):Nat × Nat:=if h:n≠0∧n%2=0 then oddS m (n / 2) (hlf m y) else (n,y)
termination_by n
decreasing_by omega
def Cg (m x y:Nat):Prop:=(m:Int) ∣ (x:Int) - (y:Int)
theorem Zg0 {m:Nat} (ho:m%2=1) {z:Int} (h:(m:Int) ∣ 2*z):(m:Int) ∣ z:=by
 obtain ⟨c,hc⟩:=h
 obtain ⟨k,hk⟩:∃ k:Nat,m=2*k+1:=⟨m / 2,by omega⟩
 refine ⟨(k+1)*c - z,?_⟩
 have e1:(m:Int)=2*k+1:=by omega
 clear hk ho
 grobner
theorem Z2e {m y n a:Nat} (ho:m%2=1) (h:Cg m (2*n) (y*a)):Cg m n (hlf m y*a):=by
 unfold Cg at *
 apply Zg0 ho
 obtain ⟨c,hc⟩:=h
 unfold hlf
 split
 ·refine ⟨c,?_⟩
  have e:((y:Nat):Int)=2*((y / 2:Nat):Int):=by omega
  rw [Int.natCast_mul,Int.natCast_mul,e] at hc
  rw [Int.natCast_mul,← hc]
  generalize ((y / 2:Nat):Int)=z
  clear e hc
  grobner
 ·refine ⟨c - a,?_⟩
  have e:((y:Nat):Int)+m=2*(((y+m) / 2:Nat):Int):=by omega
  rw [Int.natCast_mul,Int.natCast_mul] at hc
  rw [Int.natCast_mul]
  generalize (((y+m) / 2:Nat):Int)=z at *
  clear ho
  grobner
theorem Vc {m:Nat} (ho:m%2=1):∀ (n y:Nat),y<m→(oddS m n y).2<m∧(oddS m n y).1≤n∧((oddS m n y).1=0∨(oddS m n y).1%2=1)∧(∀ w,w%2=1→Nat.gcd (oddS m n y).1 w=Nat.gcd n w)∧∀ a,Cg m n (y*a)→Cg m (oddS m n y).1 ((oddS m n y).2*a):=by
 intro n
 induction n using Nat.strongRecOn with
 | _ n ih =>
  intro y hy
  rw [oddS]
  split
  ·rename_i h
   obtain ⟨g1,g2,g3,g4,g5⟩:=ih (n / 2) (by omega) (hlf m y) (Zuj hy)
   refine ⟨g1,by omega,g3,fun w hw => ?_,fun a ha => g5 a (Z2e ho (by rwa [show 2*(n / 2)=n by omega]))⟩
   rw [g4 w hw]
   conv => rhs; rw [show n=2*(n / 2) by omega]
   have:Nat.Coprime 2 w:=by
    show Nat.gcd 2 w=1
    rw [Nat.gcd_rec,hw]; rfl
   rw [this.gcd_mul_left_cancel]
  ·rename_i h
   exact ⟨hy,Nat.le_refl _,by omega,fun _ _ => rfl,fun _ h => h⟩
def invS (m un uy vn vy:Nat):Nat × Nat :=
 if h:un≠0∧un%2=1∧vn%2=1∧m%2=1∧uy<m∧vy<m then
  if un<vn then invS m (oddS m (vn - un) (fsub m vy uy)).1 (oddS m (vn - un) (fsub m vy uy)).2 un uy
  else invS m (oddS m (un - vn) (fsub m uy vy)).1 (oddS m (un - vn) (fsub m uy vy)).2 vn vy
 else (vn,vy)
termination_by un+vn
decreasing_by
 ·have:=(Vc h.2.2.2.1 (vn - un) (fsub m vy uy) (Nat.mod_lt _ (by omega))).2.1
  omega
 ·have:=(Vc h.2.2.2.1 (un - vn) (fsub m uy vy) (Nat.mod_lt _ (by omega))).2.1
  omega
theorem Zfu {m u v x y a:Nat} (hvu:v≤u) (hy:y<m) (h1:Cg m u (x*a)) (h2:Cg m v (y*a)):Cg m (u - v) (fsub m x y*a):=by
 unfold Cg at *
 obtain ⟨c,hc⟩:=h1
 obtain ⟨d,hd⟩:=h2
 have e1:((fsub m x y:Nat):Int)=x+(m - y) - m*((x+(m - y)) / m:Nat):=by
  have:=Nat.div_add_mod (x+(m - y)) m
  unfold fsub
  omega
 generalize ((x+(m - y)) / m:Nat)=k at e1
 refine ⟨c - d - a+k*a,?_⟩
 rw [Int.natCast_mul,e1,Int.mul_add,Int.mul_sub,Int.mul_sub,← hc,← hd,Int.sub_mul,Int.add_mul,Int.sub_mul,Int.mul_assoc]
 rw [Int.natCast_mul,Int.natCast_mul]
 omega
theorem Zhs {m a:Nat} (ho:m%2=1):∀ (s un uy vn vy:Nat),un+vn≤s→(un=0∨un%2=1)→vn%2=1→uy<m→vy<m→Cg m un (uy*a)→Cg m vn (vy*a) →
  (invS m un uy vn vy).1=Nat.gcd un vn∧(invS m un uy vn vy).2<m∧Cg m (invS m un uy vn vy).1 ((invS m un uy vn vy).2*a):=by
 intro s
 induction s with
 | zero => intro un uy vn vy hs _ hv; omega
 | succ s ih =>
  intro un uy vn vy hs hu hv hy hy' h1 h2
  rw [invS]
  by_cases h0:un=0
  ·rw [dif_neg (fun h => h.1 h0)]
   subst h0
   exact ⟨(Nat.gcd_zero_left vn).symm,hy',h2⟩
  ·have hu1:un%2=1:=by omega
   rw [dif_pos ⟨h0,hu1,hv,ho,hy,hy'⟩]
   split
   ·rename_i hlt
    obtain ⟨g1,g2,g3,g4,g5⟩:=Vc ho (vn - un) (fsub m vy uy) (Nat.mod_lt _ (by omega))
    obtain ⟨k1,k2,k3⟩:=ih _ _ un uy (by omega) g3 hu1 g1 hy (g5 a (Zfu (by omega) hy h2 h1)) h1
    refine ⟨?_,k2,k3⟩
    rw [k1,g4 un hu1,Nat.gcd_comm]
    have:=Nat.gcd_sub_self_right (m:=un) (n:=vn) (by omega)
    rw [this]
   ·rename_i hlt
    obtain ⟨g1,g2,g3,g4,g5⟩:=Vc ho (un - vn) (fsub m uy vy) (Nat.mod_lt _ (by omega))
    obtain ⟨k1,k2,k3⟩:=ih _ _ vn vy (by omega) g3 hv g1 hy' (g5 a (Zfu (by omega) hy' h1 h2)) h2
    refine ⟨?_,k2,k3⟩
    rw [k1,g4 vn hv,Nat.gcd_comm]
    have:=Nat.gcd_sub_self_right (m:=vn) (n:=un) (by omega)
    rw [this,Nat.gcd_comm]
theorem Zxv {m a:Nat} (ho:m%2=1) (hm:1<m) (ha:a<m):(invS m (oddS m a 1).1 (oddS m a 1).2 m 0).1=Nat.gcd a m∧(Nat.gcd a m=1→(invS m (oddS m a 1).1 (oddS m a 1).2 m 0).2=minv m a):=by
 have c0:Cg m a (1*a):=by rw [Nat.one_mul]; exact ⟨0,by omega⟩
 have c1:Cg m m (0*a):=by rw [Nat.zero_mul]; exact ⟨1,by omega⟩
 obtain ⟨g1,g2,g3,g4,g5⟩:=Vc ho a 1 hm
 obtain ⟨k1,k2,k3⟩:=Zhs (a:=a) ho _ _ _ m 0 (Nat.le_refl _) g3 ho g1 (by omega) (g5 a c0) c1
 rw [g4 m ho] at k1
 refine ⟨k1,fun h => (Kr k2 ?_).symm⟩
 rw [k1,h] at k3
 obtain ⟨c,hc⟩:=k3
 generalize (invS m (oddS m a 1).1 (oddS m a 1).2 m 0).2=y at *
 have:(((a*y:Nat)%m:Nat):Int)=1:=by
  rw [Int.natCast_emod,Nat.mul_comm a y,show ((y*a:Nat):Int)=1+m*(-c) by rw [Int.mul_neg,← hc]; omega,Int.add_mul_emod_self_left]
  exact Int.emod_eq_of_lt (by decide) (by omega)
 omega
set_option maxRecDepth 10000
abbrev pr (n y:Nat):List AV:=num n++num y
theorem W0 (n y:Nat):(pr n y).length=8:=by rw [List.length_append,Zb,Zb]
theorem Oz (n y:Nat):(pr n y).all AV.one=true:=by rw [List.all_append,Zg,Zg]; rfl
theorem Tc (n y:Nat):(pr n y).take 4=num n:=List.take_left' (Zb 4 n)
theorem Rn (n y:Nat):(pr n y).take 8=pr n y:=List.take_of_length_le (by rw [W0]; exact Nat.le_refl _)
theorem Hh (n y:Nat):((pr n y).drop 4).take 4=num y:=by rw [List.drop_left' (Zb 4 n),Zd]
theorem Zwt (n y:Nat):(pr n y).getD 0 .junk=W (n%(18446744073709551616:Nat)):=rfl
theorem Z4v (n y:Nat):(pr n y).isEmpty=false:=rfl
theorem Zb1 (n y k:Nat):splice (pr n y) 0 (num k)=pr k y:=by
 rw [Xd _ _ _ (by rw [W0,Zb]; decide),List.take_zero,Zb,List.drop_left' (Zb 4 n)]; rfl
theorem D7 (n y k:Nat):splice (pr n y) 4 (num k)=pr n k:=by
 rw [Xd _ _ _ (by rw [W0,Zb]; decide),Tc,Zb,List.drop_eq_nil_of_le (by rw [W0]; decide),List.append_nil]
theorem Kn (n y a b:Nat):splice (pr n y) 0 (pr a b)=pr a b:=Zu (by rw [W0,W0])
theorem Zb0 (a b:Nat):splice [Z0,Z0,Z0,Z0,Z0,Z0,Z0,Z0] 0 (pr a b)=pr a b:=Zu (by rw [W0]; rfl)
theorem D6 (n:Nat):splice [Z0,Z0,Z0,Z0,Z0,Z0,Z0,Z0] 0 (num n)=pr n 0:=Zb1 0 0 n
theorem Zws (n:Nat):splice [Z0,Z0,Z0,Z0,Z0,Z0,Z0,Z0] 0 (num n++[Z0,Z0,Z0,Z0])=pr n 0:=Zb0 n 0
theorem Zt8 (n y:Nat):(pr n y).drop 8=[]:=List.drop_eq_nil_of_le (by rw [W0]; decide)
theorem Wg (ren:Nat→Option Nat) (H:AH):∀ a b:List AV,lowL ren H (a++b)=lowL ren H a++lowL ren H b
 | [],b => rfl
 | x::a,b => by simp only [List.cons_append,lowL,Wg ren H a b]
theorem Zw6 {m n y:Nat} (h:n≠0∧n%2=0):oddS m n y=oddS m (n / 2) (hlf m y):=by rw [oddS,dif_pos h]
theorem Zqv {m n y:Nat} (h:¬ (n≠0∧n%2=0)):oddS m n y=(n,y):=by rw [oddS,dif_neg h]
theorem Zvs {H:AH} {p m n y:Nat} (hf:FD H p m) (hm:m<(18446744073709551616:Nat)^4) (h0:0<m) (hn:n<(18446744073709551616:Nat)^4) (hy:y<m):Called Tryz.prog F.field_Field_odd [.ptr p 0,.agg (pr n y)] H (.agg (pr (oddS m n y).1 (oddS m n y).2)) H:=by
 refine K5 ?_
 have hf':∀ G,FD (H++G) p m:=fun G => hf.app
 simp only [Sf,go_sem,Oz,Z4v]
 refine Z4 _ (fun (s:Nat × Nat) => ([(0,.ptr p 0),(3,.ptr H.length 0),(4,.ptr (H.length+1) 0)],H++[⟨pr s.1 s.2,0,true⟩,⟨[Z0,Z0,Z0,Z0,Z0,Z0,Z0,Z0],0,true⟩])) (fun s => s.1<(18446744073709551616:Nat)^4∧s.2<m∧oddS m s.1 s.2=oddS m n y) (fun s => s.1) (n,y) ⟨hn,hy,rfl⟩ rfl ?_
 rintro ⟨a,b⟩ ⟨ha,hb,hab⟩
 simp only at ha hb hab
 simp only [go_sem,W0,Tc,C5,Ff ha,Zwt,and1 _ (Nat.mod_lt a (show 0<(18446744073709551616:Nat) by decide)),Cm,fillv,Rn,Zb0,Oz]
 refine ⟨fun _ => by decide,fun h => ?_,fun h => ?_⟩
 ·have h:a≠0∧a%2=0:=by simpa using h
  refine Za (Zbc ha) (fun _ => rfl) ?_
  simp only [go_sem,Hh,W0]
  refine Za (Z01 (hf' _) hm h0 hb) (fun _ => rfl) ?_
  simp only [go_sem,W0,Zb1,D7,Zg,Zb]
  exact ⟨(a / 2,hlf m b),rfl,⟨by show a / 2<_; omega,Zuj hb,by rw [← hab,Zw6 h]⟩,by show a / 2<a; omega⟩
 ·have h:¬ (a≠0∧a%2=0):=by simpa using h
  refine Zc ?_
  rw [← hab,Zqv h]
  show AV.agg (lowL _ _ (num a++num b))=_
  rw [Wg,Tf,Tf]
theorem Zmo {m un uy vn vy:Nat} (h:un≠0∧un%2=1∧vn%2=1∧m%2=1∧uy<m∧vy<m):invS m un uy vn vy=if un<vn then invS m (oddS m (vn - un) (fsub m vy uy)).1 (oddS m (vn - un) (fsub m vy uy)).2 un uy else invS m (oddS m (un - vn) (fsub m uy vy)).1 (oddS m (un - vn) (fsub m uy vy)).2 vn vy:=by
 rw [invS,dif_pos h]
theorem Zrj {m uy vn vy:Nat}:invS m 0 uy vn vy=(vn,vy):=by rw [invS,dif_neg (fun h => h.1 rfl)]
abbrev errV (n:Int):AV:=.lit (.iface T.api_Code (.int .i64 n))
theorem Zvx {H:AH} {p m a:Nat} (hf:FD H p m) (hm:m<(18446744073709551616:Nat)^4) (h1:1<m) (ho:m%2=1) (ha:a<(18446744073709551616:Nat)^4):Called Tryz.prog F.field_Field_Inv [.ptr p 0,.agg (num a)] H (if Nat.gcd (a%m) m=1 then .tup [.agg (num (minv m (a%m))),nilE] else .tup [.agg (num 0),errV 4]) H:=by
 refine K8 ?_
 have hf':∀ G,FD (H++G) p m:=fun G => hf.app
 have h0:0<m:=by omega
 have la:=Nat.mod_lt a h0
 obtain ⟨L1,L2⟩:=Zxv ho h1 la
 obtain ⟨f1,f2,f3,f4,f5⟩:=Vc ho (a%m) 1 h1
 obtain ⟨hp,r,hob,hr⟩:=hf
 have t2:(num m++r).take 4=num m:=List.take_left' (Zb 4 m)
 simp only [Si,go_sem,Zg,Yf,Zd,Zb,fillv,Zq]
 refine Za ⟨rfl,fun G => t_in ((hf' _).app) hm h0 ha⟩ (fun _ => rfl) ?_
 simp only [go_sem,Zg,Yf,Zd,Zb,fillv,Zq,D6,Tc,Zt8]
 refine Za ⟨rfl,fun G => Zvs (n:=a%m) (y:=1) ((hf' _).app) hm h0 (Nat.lt_trans la hm) h1⟩ (fun _ => rfl) ?_
 simp only [go_sem,Zg,Yf,Zd,Zb,fillv,Zq,D6,Tc,Zt8,Z1 _ _ hp,hob,hr,t2,Hu hp,W0,Oz,Nat.add_assoc,Zb0,Zws]
 refine ⟨Oz m 0,?_⟩
 refine Z4 _ (fun (s:(Nat × Nat) × (Nat × Nat) × AH) => ([(0,.ptr p 0),(4,.ptr (H.length+1) 0),(6,.ptr (H.length+2) 0),(7,.ptr (H.length+3) 0)],H++(⟨num a,0,true⟩::⟨[Z0,Z0,Z0,Z0],0,true⟩::⟨pr s.1.1 s.1.2,0,true⟩::⟨pr s.2.1.1 s.2.1.2,0,true⟩::s.2.2)))
  (fun s => s.1.1<(18446744073709551616:Nat)^4∧s.2.1.1<(18446744073709551616:Nat)^4∧(s.1.1=0∨s.1.1%2=1)∧s.2.1.1%2=1∧s.1.2<m∧s.2.1.2<m∧invS m s.1.1 s.1.2 s.2.1.1 s.2.1.2=invS m (oddS m (a%m) 1).1 (oddS m (a%m) 1).2 m 0) (fun s => s.1.1+s.2.1.1) (((oddS m (a%m) 1).1,(oddS m (a%m) 1).2),(m,0),[])
  ⟨by have:=f2; show (oddS m (a%m) 1).1<_; omega,hm,f3,ho,f1,h0,rfl⟩ ?_ ?_
 ·rfl
 rintro ⟨⟨un,uy⟩,⟨vn,vy⟩,G⟩ ⟨i1,i2,i3,i4,i5,i6,i7⟩
 simp only at i1 i2 i3 i4 i5 i6 i7
 simp only [go_sem,W0,Tc,C5,Ff i1,fillv]
 refine ⟨by omega,fun h => ?_,fun h => ?_⟩
 ·have hun:un≠0:=by simpa using h
  have hu:un≠0∧un%2=1∧vn%2=1∧m%2=1∧uy<m∧vy<m:=⟨hun,by omega,i4,ho,i5,i6⟩
  have hst:=Zmo hu
  have d4:=Hh
  refine ⟨by omega,by omega,Za (I0 i1 i2) (fun _ => rfl) ?_⟩
  simp only [go_sem,Zuq,W0,Tc,Rn,Kn,Oz]
  refine ⟨fun hlt => ?_,fun hlt => ?_⟩
  ·rw [if_pos hlt] at hst
   have n1:num (vn+(18446744073709551616:Nat)^4 - un)=num (vn - un):=by rw [← Nm (vn+(18446744073709551616:Nat)^4 - un)]; congr 1; omega
   have fS:∀ G':AH,Called Tryz.prog F.field_Field_Sub [.ptr p 0,.agg (num vy),.agg (num uy)] (H++G') (.agg (num (fsub m vy uy))) (H++G'):=fun G' => by
    have:=Zjw (hf' G') hm h0 (Nat.lt_trans i6 hm) (Nat.lt_trans i5 hm)
    rwa [Nat.mod_eq_of_lt i6,Nat.mod_eq_of_lt i5] at this
   refine ⟨by omega,by omega,by omega,by omega,by omega,by omega,Za (Zd4 i2 i1) (fun _ => rfl) ?_⟩
   rw [n1]
   simp only [go_sem,W0,Tc,Rn,Kn,Oz,Hh,Zd,Ze,Zb,Zg]
   refine ⟨by omega,by omega,Za (fS _) (fun _ => rfl) ?_⟩
   simp only [go_sem,Zb,Zq,fillv,D6,D7,Zg]
   refine Za (Zvs (hf' _) hm h0 (by omega) (Zh h0 _ _)) (fun _ => rfl) ?_
   obtain ⟨g1,g2,g3,g4,g5⟩:=Vc ho (vn - un) (fsub m vy uy) (Zh h0 _ _)
   simp only [go_sem,W0,Tc,Rn,Kn,Oz]
   exact ⟨by omega,((oddS m (vn - un) (fsub m vy uy)),(un,uy),G++[⟨num (vn - un),0,true⟩]),rfl,⟨by show (oddS m (vn - un) (fsub m vy uy)).1<_; omega,i1,g3,hu.2.1,g1,i5,by rw [← i7,hst]⟩,by show (oddS m (vn - un) (fsub m vy uy)).1+un<_; omega⟩
  ·rw [if_neg hlt] at hst
   have n1:num (un+(18446744073709551616:Nat)^4 - vn)=num (un - vn):=by rw [← Nm (un+(18446744073709551616:Nat)^4 - vn)]; congr 1; omega
   have fS:∀ G':AH,Called Tryz.prog F.field_Field_Sub [.ptr p 0,.agg (num uy),.agg (num vy)] (H++G') (.agg (num (fsub m uy vy))) (H++G'):=fun G' => by
    have:=Zjw (hf' G') hm h0 (Nat.lt_trans i5 hm) (Nat.lt_trans i6 hm)
    rwa [Nat.mod_eq_of_lt i5,Nat.mod_eq_of_lt i6] at this
   refine ⟨by omega,by omega,Za (Zd4 i1 i2) (fun _ => rfl) ?_⟩
   rw [n1]
   simp only [go_sem,W0,Tc,Rn,Kn,Oz,Hh,Zd,Ze,Zb,Zg]
   refine ⟨by omega,by omega,Za (fS _) (fun _ => rfl) ?_⟩
   simp only [go_sem,Zb,Zq,fillv,D6,D7,Zg]
   refine Za (Zvs (hf' _) hm h0 (by omega) (Zh h0 _ _)) (fun _ => rfl) ?_
   obtain ⟨g1,g2,g3,g4,g5⟩:=Vc ho (un - vn) (fsub m uy vy) (Zh h0 _ _)
   simp only [go_sem,W0,Tc,Rn,Kn,Oz]
   exact ⟨by omega,((oddS m (un - vn) (fsub m uy vy)),(vn,vy),G++[⟨num (un - vn),0,true⟩]),rfl,⟨by show (oddS m (un - vn) (fsub m uy vy)).1<_; omega,i2,g3,i4,g1,i6,by rw [← i7,hst]⟩,by show (oddS m (un - vn) (fsub m uy vy)).1+vn<_; omega⟩
 ·have hun:un=0:=by simpa using h
  subst hun
  rw [Zrj] at i7
  rw [← i7] at L1 L2
  simp only at L1 L2
  simp only [go_sem,W0,Tc,Zza,Zzb i2,fillv]
  refine ⟨by omega,fun h => ?_,fun h => ?_⟩
  ·have hv:vn≠1:=by simpa using h
   rw [if_neg (by omega)]
   exact ⟨by omega,by omega,Zc rfl⟩
  ·have hv:vn=1:=by simpa using h
   rw [if_pos (by omega),← L2 (by omega)]
   simp only [go_sem,Hh,W0,Zd,Ze,Zg,Zb]
   exact ⟨by omega,by omega,by omega,Zc rfl⟩
def newt (m0 x:Nat):Nat:=x*((2+(18446744073709551616:Nat) - m0*x%(18446744073709551616:Nat))%(18446744073709551616:Nat))%(18446744073709551616:Nat)
def Zlp (m0:Nat):Nat→Nat
 | 0 => 1
 | k+1 => newt m0 (Zlp m0 k)
def trn (m:Nat):Nat:=((18446744073709551616:Nat) - Zlp (m%(18446744073709551616:Nat)) 6)%(18446744073709551616:Nat)
def fcells (m:Nat):List AV:=num m++W (trn m)::(num ((18446744073709551616:Nat)^4%m)++num ((18446744073709551616:Nat)^8%m))
def FF (H:AH) (p m:Nat):Prop:=p<H.length∧obj H p=⟨fcells m,0,true⟩
theorem FF.fd {H:AH} {p m:Nat} (h:FF H p m):FD H p m:=⟨h.1,_,h.2,by simp [Zb]⟩
theorem FF.app {H G:AH} {p m:Nat} (h:FF H p m):FF (H++G) p m:=⟨by have:=h.1; simp; omega,by rw [Z1 _ _ h.1]; exact h.2⟩
theorem Iy (k n:Nat):wd (k+1) n=wd k n++[W (n / (18446744073709551616:Nat)^k%(18446744073709551616:Nat))]:=by rw [wd,Iu,List.map_append]; rfl
theorem Zjf {k n i:Nat} (h:i<k) (R:List AV):(wd k n++R).getD i .junk=W (n / (18446744073709551616:Nat)^i%(18446744073709551616:Nat)):=by
 rw [List.getD_eq_getElem?_getD,List.getElem?_append_left (by rw [Zb]; exact h),← List.getD_eq_getElem?_getD,Uc h]
theorem Zks {m a b T i tr:Nat} (hm:m<(18446744073709551616:Nat)^4) (ha:a<m) (htr:(tr*m+1)%(18446744073709551616:Nat)=0) (hT:T<2*m) (hc:T*(18446744073709551616:Nat)^i%m=a*(b%(18446744073709551616:Nat)^i)%m) :
  let y:=b / (18446744073709551616:Nat)^i%(18446744073709551616:Nat)
  let U:=T+y*a
  let q:=U%(18446744073709551616:Nat)*tr%(18446744073709551616:Nat)
  (U+q*m)%(18446744073709551616:Nat)=0∧(U+q*m) / (18446744073709551616:Nat)<2*m∧(U+q*m) / (18446744073709551616:Nat)*(18446744073709551616:Nat)^(i+1)%m=a*(b%(18446744073709551616:Nat)^(i+1))%m:=by
 intro y U q
 have h1:(U+q*m)%(18446744073709551616:Nat)=0:=by
  have e1:q*m%(18446744073709551616:Nat)=U*(tr*m)%(18446744073709551616:Nat):=by
   show (U%(18446744073709551616:Nat)*tr%(18446744073709551616:Nat))*m%(18446744073709551616:Nat)=_
   rw [Nat.mod_mul_mod,Nat.mul_assoc,Nat.mod_mul_mod]
  have e2:U*(tr*m+1)%(18446744073709551616:Nat)=0:=by rw [Nat.mul_mod,htr,Nat.mul_zero,Nat.zero_mod]
  rw [Nat.mul_add,Nat.mul_one] at e2
  rw [Nat.add_mod,e1,← Nat.add_mod,Nat.add_comm]; exact e2
 have hy:y≤18446744073709551615:=by have:y<(18446744073709551616:Nat):=Nat.mod_lt _ (by decide); omega
 have hq:q≤18446744073709551615:=by have:q<(18446744073709551616:Nat):=Nat.mod_lt _ (by decide); omega
 have hya:y*a≤18446744073709551615*m:=Nat.mul_le_mul hy (by omega)
 have hqm:q*m≤18446744073709551615*m:=Nat.mul_le_mul_right _ hq
 have h2:(U+q*m) / (18446744073709551616:Nat)<2*m:=by
  rw [Nat.div_lt_iff_lt_mul (by decide)]
  show T+y*a+q*m<_
  omega
 refine ⟨h1,h2,?_⟩
 have e3:(U+q*m) / (18446744073709551616:Nat)*(18446744073709551616:Nat)=U+q*m:=by omega
 rw [T7,Nat.pow_succ',← Nat.mul_assoc,e3,Nat.add_mul,Nat.mul_right_comm,Nat.add_mul_mod_self_right]
 show (T+y*a)*(18446744073709551616:Nat)^i%m=_
 rw [Nat.mul_add,Nat.add_mul,Nat.add_mod,hc,← Nat.add_mod]
 congr 2
 show b / (18446744073709551616:Nat)^i%(18446744073709551616:Nat)*a*(18446744073709551616:Nat)^i=a*(b / (18446744073709551616:Nat)^i%(18446744073709551616:Nat)*(18446744073709551616:Nat)^i)
 rw [Nat.mul_comm _ a,Nat.mul_assoc]
noncomputable def mon (m a b:Nat):Nat:=a*b*minv m ((18446744073709551616:Nat)^4%m)%m
theorem Zue {m a b r:Nat} (h1:1<m) (ho:m%2=1) (hr:r<m) (h:r*(18446744073709551616:Nat)^4%m=a*b%m):r=mon m a b:=by
 have hg:Nat.gcd ((18446744073709551616:Nat)^4%m) m=1:=by
  have c2:Nat.Coprime 2 m:=by show Nat.gcd 2 m=1; rw [Nat.gcd_rec,ho]; rfl
  have c:Nat.Coprime ((18446744073709551616:Nat)^4) m:=by
   rw [show (18446744073709551616:Nat)^4=2^256 by decide +kernel]
   exact Nat.Coprime.pow_left _ c2
  rw [← Nat.gcd_rec,Nat.gcd_comm]; exact c
 obtain ⟨k1,k2⟩:=Ra (Zmn h1 hg)
 unfold mon
 rw [Nat.mul_mod,← h,← Nat.mul_mod,Nat.mul_assoc,Nat.mul_mod,Nat.mul_mod ((18446744073709551616:Nat)^4)]
 generalize minv m ((18446744073709551616:Nat)^4%m)=z at *
 rw [Nat.mod_eq_of_lt k1,k2,Nat.mul_one,Nat.mod_mod,Nat.mod_eq_of_lt hr]
theorem Ztp {H:AH} {p m a b:Nat} (hf:FF H p m) (hm:m<(18446744073709551616:Nat)^4) (h1:1<m) (ho:m%2=1) (htr:(trn m*m+1)%(18446744073709551616:Nat)=0) (ha:a<m) (hb:b<m):Called Tryz.prog F.field_Field_mont [.ptr p 0,.agg (num a),.agg (num b)] H (.agg (num (mon m a b))) H:=by
 refine Lr ?_
 have hfd:=hf.fd
 have hfd':∀ G,FD (H++G) p m:=fun G => hfd.app
 obtain ⟨hp,hob⟩:=hf
 have ha4:=Nat.lt_trans ha hm
 have hb4:=Nat.lt_trans hb hm
 have f4:(fcells m).getD 4 .junk=W (trn m):=Yi (j:=0) (Zb 4 m) _
 have fi:∀ i,i<4→(fcells m).getD i .junk=W (m / (18446744073709551616:Nat)^i%(18446744073709551616:Nat)):=fun i hi => Zjf hi _
 have fl:(fcells m).length=13:=by simp [fcells,Zb]
 simp only [Tp,go_sem,Zg,Yf,Zd,Zb]
 refine Z4 _ (fun (s:Nat × Nat × Nat) => ([(0,.ptr p 0),(4,.ptr H.length 0),(6,.ptr (H.length+2) 0),(7,.ptr (H.length+3) 0),(16,.agg (num b)),(17,I s.1)],H++[⟨num a,0,true⟩,⟨num b,0,true⟩,⟨[Z0,Z0,Z0,Z0],0,true⟩,⟨wd 5 s.2.1++[W s.2.2],0,true⟩])) (fun s => s.1≤4∧s.2.1<2*m∧s.2.1*(18446744073709551616:Nat)^s.1%m=a*(b%(18446744073709551616:Nat)^s.1)%m) (fun s => 4 - s.1) (0,0,0) ⟨Nat.zero_le _,by show 0<_; omega,by simp [Nat.mod_one]⟩ rfl ?_
 rintro ⟨i,T,c⟩ ⟨hi,hT,hc⟩
 simp only at hi hT hc
 simp only [go_sem]
 refine ⟨fun hh => ?_,fun hh => ?_⟩
 ·have hi:i<4:=by omega
  obtain ⟨R1,R2,R3⟩:=Zks hm ha htr hT hc
  simp only [go_sem,Zb,Zd,Uc hi]
  refine ⟨by omega,?_⟩
  generalize hy:b / (18446744073709551616:Nat)^i%(18446744073709551616:Nat)=y at *
  have hy':y<(18446744073709551616:Nat):=hy ▸ Nat.mod_lt _ (by decide)
  have hT5:T<(18446744073709551616:Nat)^5:=by omega
  refine Z4 _ (fun (k:Nat) => ([(0,.ptr p 0),(4,.ptr H.length 0),(6,.ptr (H.length+2) 0),(7,.ptr (H.length+3) 0),(9,W y),(10,W ((T%(18446744073709551616:Nat)^k+y*(a%(18446744073709551616:Nat)^k)) / (18446744073709551616:Nat)^k)),(16,.agg (num b)),(17,I i),(20,.agg (num a)),(21,I k)],H++[⟨num a,0,true⟩,⟨num b,0,true⟩,⟨[Z0,Z0,Z0,Z0],0,true⟩,⟨wd k (T%(18446744073709551616:Nat)^k+y*(a%(18446744073709551616:Nat)^k))++((wd 5 T).drop k++[W c]),0,true⟩])) (fun k => k≤4∧(T%(18446744073709551616:Nat)^k+y*(a%(18446744073709551616:Nat)^k)) / (18446744073709551616:Nat)^k<(18446744073709551616:Nat)) (fun k => 4 - k) 0 ?_ ?_ ?_
  ·simp [Nat.mod_one]
  ·simp [Nat.mod_one,wd,dig]
  ·rintro k ⟨hk,hov⟩
   simp only [go_sem]
   refine ⟨fun hh2 => ?_,fun hh2 => ?_⟩
   ·have hk:k<4:=by omega
    have e2:IntKind.i64.wrap ((k:Int)+1)=((k+1:Nat):Int):=by rw [w64 _ (by omega) (by omega)]; omega
    have hS':T%(18446744073709551616:Nat)^(k+1)+y*(a%(18446744073709551616:Nat)^(k+1))=(T%(18446744073709551616:Nat)^k+y*(a%(18446744073709551616:Nat)^k))+(T / (18446744073709551616:Nat)^k%(18446744073709551616:Nat)+y*(a / (18446744073709551616:Nat)^k%(18446744073709551616:Nat)))*(18446744073709551616:Nat)^k:=by
     rw [T7,T7,Nat.mul_add,Nat.add_mul,Nat.mul_assoc]; omega
    have hx':a / (18446744073709551616:Nat)^k%(18446744073709551616:Nat)<(18446744073709551616:Nat):=Nat.mod_lt _ (by decide)
    have ht':T / (18446744073709551616:Nat)^k%(18446744073709551616:Nat)<(18446744073709551616:Nat):=Nat.mod_lt _ (by decide)
    have hw1:=Zpb (T%(18446744073709551616:Nat)^k+y*(a%(18446744073709551616:Nat)^k)) (T / (18446744073709551616:Nat)^k%(18446744073709551616:Nat)+y*(a / (18446744073709551616:Nat)^k%(18446744073709551616:Nat))) k
    have hw2:=C8 (T%(18446744073709551616:Nat)^k+y*(a%(18446744073709551616:Nat)^k)) (T / (18446744073709551616:Nat)^k%(18446744073709551616:Nat)+y*(a / (18446744073709551616:Nat)^k%(18446744073709551616:Nat))) k
    simp only [go_sem,Uc hk,Zb,Zov rfl,Jg rfl,Vq (show k<5 by omega),e2]
    generalize hS:T%(18446744073709551616:Nat)^k+y*(a%(18446744073709551616:Nat)^k)=S at *
    generalize a / (18446744073709551616:Nat)^k%(18446744073709551616:Nat)=x at *
    generalize T / (18446744073709551616:Nat)^k%(18446744073709551616:Nat)=t at *
    generalize hov':S / (18446744073709551616:Nat)^k=ov at *
    refine ⟨by omega,by omega,by omega,Za (Zjm hx' hy' ht' hov) (fun _ => rfl) ?_⟩
    have e3:x*y+t+ov=ov+(t+y*x):=by rw [Nat.mul_comm x y]; omega
    have hq:y*x≤18446744073709551615*18446744073709551615:=Nat.mul_le_mul (by omega) (by omega)
    rw [e3]
    simp only [go_sem,Zb,Zov rfl,Jg rfl,e2]
    refine ⟨by omega,by omega,k+1,?_,?_,⟨by omega,?_⟩,by omega⟩
    ·rw [hS',hw2]
    ·rw [hS',hw1,List.append_assoc]; rfl
    ·rw [hS',hw2]; omega
   ·obtain rfl:k=4:=by omega
    clear hh2
    generalize hU:T+y*a=U at *
    have u1:T%(18446744073709551616:Nat)^4+y*(a%(18446744073709551616:Nat)^4)=U%(18446744073709551616:Nat)^4+(U / (18446744073709551616:Nat)^4 - T / (18446744073709551616:Nat)^4)*(18446744073709551616:Nat)^4:=by
     rw [Nat.mod_eq_of_lt ha4,← hU]
     have:=Nat.div_add_mod T ((18446744073709551616:Nat)^4)
     have:=Nat.div_add_mod (T+y*a) ((18446744073709551616:Nat)^4)
     have:T / (18446744073709551616:Nat)^4≤(T+y*a) / (18446744073709551616:Nat)^4:=Nat.div_le_div_right (by omega)
     generalize T / (18446744073709551616:Nat)^4=q1 at *
     generalize (T+y*a) / (18446744073709551616:Nat)^4=q2 at *
     rw [Nat.sub_mul]
     have:q1*(18446744073709551616:Nat)^4≤q2*(18446744073709551616:Nat)^4:=Nat.mul_le_mul_right _ this
     omega
    have u2:wd 4 (T%(18446744073709551616:Nat)^4+y*(a%(18446744073709551616:Nat)^4))=wd 4 U:=by
     rw [u1]; show (dig (18446744073709551616:Nat) 4 _).map W=(dig (18446744073709551616:Nat) 4 _).map W; rw [Zdo,Nx 4 U (by decide)]
    have u3:(T%(18446744073709551616:Nat)^4+y*(a%(18446744073709551616:Nat)^4)) / (18446744073709551616:Nat)^4+T / (18446744073709551616:Nat)^4=U / (18446744073709551616:Nat)^4:=by
     rw [u1,Fg,Nat.div_eq_of_lt (Nat.mod_lt _ (bpos 4))]
     have:T / (18446744073709551616:Nat)^4≤U / (18446744073709551616:Nat)^4:=Nat.div_le_div_right (by omega)
     omega
    have hU6:U<(18446744073709551616:Nat)^6:=by
     have:y*a≤18446744073709551615*a:=Nat.mul_le_mul_right _ (by omega)
     omega
    have ht4:T / (18446744073709551616:Nat)^4%(18446744073709551616:Nat)=T / (18446744073709551616:Nat)^4:=Nat.mod_eq_of_lt (by rw [Nat.div_lt_iff_lt_mul (bpos 4)]; omega)
    have ht4':T / (18446744073709551616:Nat)^4<(18446744073709551616:Nat):=by rw [Nat.div_lt_iff_lt_mul (bpos 4)]; omega
    rw [u2]
    generalize hov':(T%(18446744073709551616:Nat)^4+y*(a%(18446744073709551616:Nat)^4)) / (18446744073709551616:Nat)^4=ov at *
    have v1:U / (18446744073709551616:Nat)^4%(18446744073709551616:Nat)=(T / (18446744073709551616:Nat)^4+ov)%(18446744073709551616:Nat):=by rw [← u3,Nat.add_comm]
    have v2:U / (18446744073709551616:Nat)^5=(T / (18446744073709551616:Nat)^4+ov) / (18446744073709551616:Nat):=by rw [show (18446744073709551616:Nat)^5=(18446744073709551616:Nat)^4*(18446744073709551616:Nat) from rfl,← Nat.div_div_eq_div_mul,← u3,Nat.add_comm]
    have v3:U / (18446744073709551616:Nat)^5%(18446744073709551616:Nat)=U / (18446744073709551616:Nat)^5:=Nat.mod_eq_of_lt (by rw [Nat.div_lt_iff_lt_mul (bpos 5)]; omega)
    have d5:(wd 5 T).drop 4=[W (T / (18446744073709551616:Nat)^4)]:=by rw [Vq (by decide),ht4,List.drop_eq_nil_of_le (by rw [Zb]; exact Nat.le_refl _)]
    have z0:(0:Int)=((0:Nat):Int):=rfl
    simp only [go_sem,d5,Zb,Zov rfl,Jg rfl,Uq,Py]
    simp (disch:=omega) only [Int.add_zero,← Int.natCast_add,natdiv,natmod]
    have w6:wd 4 U++[W ((T / (18446744073709551616:Nat)^4+ov)%(18446744073709551616:Nat)),W ((T / (18446744073709551616:Nat)^4+ov) / (18446744073709551616:Nat))]=wd 6 U:=by
     rw [Iy 5,Iy 4,v1,v3,v2,List.append_assoc]; rfl
    have s5:∀ v c w:AV,(wd 4 U++[v,c]).set 5 w=wd 4 U++[v,w]:=fun v c w => by
     rw [List.set_append_right _ _ (by rw [Zb]; decide),Zb]; rfl
    have g0:(wd 6 U).getD 0 .junk=W (U%(18446744073709551616:Nat)):=rfl
    have hq0:U%(18446744073709551616:Nat)*trn m<(18446744073709551616:Nat)*(18446744073709551616:Nat):=Nat.mul_lt_mul'' (Nat.mod_lt _ (by decide)) (Nat.mod_lt _ (by decide))
    have fm0:(fcells m).getD 0 .junk=W (m%(18446744073709551616:Nat)):=rfl
    simp only [s5,w6,Z1 _ _ hp,hob,fl,f4,g0,Hu hp,go_sem,fm0,Zb,← Int.natCast_mul,wumod]
    generalize hq:U%(18446744073709551616:Nat)*trn m%(18446744073709551616:Nat)=q at *
    have hq':q<(18446744073709551616:Nat):=hq ▸ Nat.mod_lt _ (by decide)
    have hm0:m%(18446744073709551616:Nat)<(18446744073709551616:Nat):=Nat.mod_lt _ (by decide)
    have hu0:U%(18446744073709551616:Nat)<(18446744073709551616:Nat):=Nat.mod_lt _ (by decide)
    refine ⟨by omega,by omega,by omega,by omega,by omega,by omega,by omega,Za (Zjm (b:=0) hq' hm0 hu0 (by decide)) (fun _ => rfl) ?_⟩
    have h10:(q*(m%(18446744073709551616:Nat))+U%(18446744073709551616:Nat)+0) / (18446744073709551616:Nat)=(U%(18446744073709551616:Nat)^(0+1)+q*(m%(18446744073709551616:Nat)^(0+1))) / (18446744073709551616:Nat)^(0+1):=by
     rw [Nat.zero_add,Nat.pow_one,Nat.add_zero,Nat.add_comm]
    have hqm0:q*(m%(18446744073709551616:Nat))≤18446744073709551615*18446744073709551615:=Nat.mul_le_mul (by omega) (by omega)
    have hov0:(U%(18446744073709551616:Nat)^(0+1)+q*(m%(18446744073709551616:Nat)^(0+1))) / (18446744073709551616:Nat)^(0+1)<(18446744073709551616:Nat):=by rw [← h10]; omega
    rw [h10]
    simp only [go_sem]
    refine Z4 _ (fun (j:Nat) => ([(0,.ptr p 0),(4,.ptr H.length 0),(6,.ptr (H.length+2) 0),(7,.ptr (H.length+3) 0),(10,W ((U%(18446744073709551616:Nat)^(j+1)+q*(m%(18446744073709551616:Nat)^(j+1))) / (18446744073709551616:Nat)^(j+1))),(14,W q),(15,I ((j:Int)+1)),(16,.agg (num b)),(17,I i)],H++[⟨num a,0,true⟩,⟨num b,0,true⟩,⟨[Z0,Z0,Z0,Z0],0,true⟩,⟨wd j ((U%(18446744073709551616:Nat)^(j+1)+q*(m%(18446744073709551616:Nat)^(j+1))) / (18446744073709551616:Nat))++(wd 6 U).drop j,0,true⟩])) (fun j => j≤3∧(U%(18446744073709551616:Nat)^(j+1)+q*(m%(18446744073709551616:Nat)^(j+1))) / (18446744073709551616:Nat)^(j+1)<(18446744073709551616:Nat)) (fun j => 3 - j) 0 ⟨by decide,hov0⟩ rfl ?_
    rintro j ⟨hj,hov2⟩
    simp only [go_sem]
    refine ⟨fun hh3 => ?_,fun hh3 => ?_⟩
    ·have hj:j<3:=by omega
     have e1:IntKind.i64.wrap (((j+1:Nat):Int) - 1)=((j:Nat):Int):=by rw [w64 _ (by omega) (by omega)]; omega
     have e2:IntKind.i64.wrap (((j+1:Nat):Int)+1)=((j+1:Nat):Int)+1:=by rw [w64 _ (by omega) (by omega)]
     have e3:((j:Int)+1)=((j+1:Nat):Int):=by omega
     have gt:∀ l:List AV,l.length=j→(l++(wd 6 U).drop j).getD (j+1) .junk=W (U / (18446744073709551616:Nat)^(j+1)%(18446744073709551616:Nat)):=fun l hl => by
      rw [Yi hl,Vq (show j<6 by omega),Vq (show j+1<6 by omega)]; rfl
     have dj:(wd 6 U).drop j=W (U / (18446744073709551616:Nat)^j%(18446744073709551616:Nat))::(wd 6 U).drop (j+1):=Vq (by omega)
     have hV':U%(18446744073709551616:Nat)^(j+1+1)+q*(m%(18446744073709551616:Nat)^(j+1+1))=(U%(18446744073709551616:Nat)^(j+1)+q*(m%(18446744073709551616:Nat)^(j+1)))+(U / (18446744073709551616:Nat)^(j+1)%(18446744073709551616:Nat)+q*(m / (18446744073709551616:Nat)^(j+1)%(18446744073709551616:Nat)))*(18446744073709551616:Nat)^(j+1):=by
      rw [T7 U,T7 m,Nat.mul_add,Nat.add_mul,Nat.mul_assoc]; omega
     have hx':m / (18446744073709551616:Nat)^(j+1)%(18446744073709551616:Nat)<(18446744073709551616:Nat):=Nat.mod_lt _ (by decide)
     have ht':U / (18446744073709551616:Nat)^(j+1)%(18446744073709551616:Nat)<(18446744073709551616:Nat):=Nat.mod_lt _ (by decide)
     rw [e3]
     simp only [go_sem,e1,e2,Z1 _ _ hp,hob,fl,Hu hp,fi (j+1) (by omega),gt _ (Zb j _),Zb,List.length_drop]
     generalize hV:U%(18446744073709551616:Nat)^(j+1)+q*(m%(18446744073709551616:Nat)^(j+1))=V at *
     generalize m / (18446744073709551616:Nat)^(j+1)%(18446744073709551616:Nat)=x at *
     generalize U / (18446744073709551616:Nat)^(j+1)%(18446744073709551616:Nat)=t at *
     have a1:=Fg V (t+q*x) (j+1)
     have a2:=C8 V (t+q*x) (j+1)
     have a3:(V+(t+q*x)*(18446744073709551616:Nat)^(j+1)) / (18446744073709551616:Nat)=V / (18446744073709551616:Nat)+(t+q*x)*(18446744073709551616:Nat)^j:=by
      rw [Nat.pow_succ,← Nat.mul_assoc,Nat.add_mul_div_right _ _ (by decide)]
     have a4:=Zpb (V / (18446744073709551616:Nat)) (t+q*x) j
     have a5:V / (18446744073709551616:Nat) / (18446744073709551616:Nat)^j=V / (18446744073709551616:Nat)^(j+1):=by rw [Nat.div_div_eq_div_mul,Nat.pow_succ']
     rw [a5] at a4
     generalize hov2':V / (18446744073709551616:Nat)^(j+1)=ov2 at *
     have hqx:q*x≤18446744073709551615*18446744073709551615:=Nat.mul_le_mul (by omega) (by omega)
     refine ⟨by omega,by omega,by omega,by omega,Za (Zjm hq' hx' ht' hov2) (fun _ => rfl) ?_⟩
     rw [show q*x+t+ov2=ov2+(t+q*x) by omega]
     simp only [go_sem,Zb,Zov rfl,Jg rfl,e1,dj,List.length_drop]
     refine ⟨by omega,by omega,j+1,?_,?_,⟨by omega,?_⟩,by omega⟩
     ·rw [hV',a2,e2]
     ·rw [hV',a3,a4,List.append_assoc]; rfl
     ·rw [hV',a2]; omega
    ·obtain rfl:j=3:=by omega
     clear hh3
     rw [Nat.mod_eq_of_lt hm] at *
     have hUd:=Nat.div_add_mod U ((18446744073709551616:Nat)^4)
     have hW:U+q*m=(U%(18446744073709551616:Nat)^4+q*m)+(U / (18446744073709551616:Nat)^4)*(18446744073709551616:Nat)^4:=by rw [Nat.mul_comm (U / (18446744073709551616:Nat)^4)]; omega
     have x1:=Fg (U%(18446744073709551616:Nat)^4+q*m) (U / (18446744073709551616:Nat)^4) 4
     have x3:(U+q*m) / (18446744073709551616:Nat)=(U%(18446744073709551616:Nat)^4+q*m) / (18446744073709551616:Nat)+(U / (18446744073709551616:Nat)^4)*(18446744073709551616:Nat)^3:=by
      rw [hW,show (U / (18446744073709551616:Nat)^4)*(18446744073709551616:Nat)^4=(U / (18446744073709551616:Nat)^4)*(18446744073709551616:Nat)^3*(18446744073709551616:Nat) by rw [Nat.mul_assoc],Nat.add_mul_div_right _ _ (by decide)]
     rw [← hW] at x1
     generalize hV:U%(18446744073709551616:Nat)^4+q*m=V at *
     generalize hov3:V / (18446744073709551616:Nat)^(3+1)=ov3 at *
     have x2:wd 3 ((U+q*m) / (18446744073709551616:Nat))=wd 3 (V / (18446744073709551616:Nat)):=by
      rw [x3]; show (dig (18446744073709551616:Nat) 3 _).map W=(dig (18446744073709551616:Nat) 3 _).map W; rw [Zdo]
     generalize hT':(U+q*m) / (18446744073709551616:Nat)=T' at *
     have y3:T' / (18446744073709551616:Nat)^3=ov3+U / (18446744073709551616:Nat)^4:=by rw [← hT',Nat.div_div_eq_div_mul]; exact x1
     have y4:T' / (18446744073709551616:Nat)^4=(ov3+U / (18446744073709551616:Nat)^4) / (18446744073709551616:Nat):=by rw [show (18446744073709551616:Nat)^4=(18446744073709551616:Nat)^3*(18446744073709551616:Nat) from rfl,← Nat.div_div_eq_div_mul,y3]
     have hu5:U / (18446744073709551616:Nat)^5=U / (18446744073709551616:Nat)^4 / (18446744073709551616:Nat):=by rw [show (18446744073709551616:Nat)^5=(18446744073709551616:Nat)^4*(18446744073709551616:Nat) from rfl,Nat.div_div_eq_div_mul]
     have hT5':T' / (18446744073709551616:Nat)^4<(18446744073709551616:Nat):=by rw [Nat.div_lt_iff_lt_mul (bpos 4)]; omega
     have d3:(wd 6 U).drop 3=[W (U / (18446744073709551616:Nat)^3%(18446744073709551616:Nat)),W (U / (18446744073709551616:Nat)^4%(18446744073709551616:Nat)),W (U / (18446744073709551616:Nat)^5)]:=by
      rw [Vq (by decide),Vq (by decide),Vq (by decide),v3,List.drop_eq_nil_of_le (by rw [Zb]; exact Nat.le_refl _)]
     have w5:wd 5 T'=wd 3 (V / (18446744073709551616:Nat))++[W ((U / (18446744073709551616:Nat)^4%(18446744073709551616:Nat)+ov3)%(18446744073709551616:Nat)),W (U / (18446744073709551616:Nat)^5+(U / (18446744073709551616:Nat)^4%(18446744073709551616:Nat)+ov3) / (18446744073709551616:Nat))]:=by
      rw [Iy 4,Iy 3,x2,y3,Nat.mod_eq_of_lt hT5',y4,List.append_assoc]
      rw [show (ov3+U / (18446744073709551616:Nat)^4)%(18446744073709551616:Nat)=(U / (18446744073709551616:Nat)^4%(18446744073709551616:Nat)+ov3)%(18446744073709551616:Nat) by omega,show (ov3+U / (18446744073709551616:Nat)^4) / (18446744073709551616:Nat)=U / (18446744073709551616:Nat)^5+(U / (18446744073709551616:Nat)^4%(18446744073709551616:Nat)+ov3) / (18446744073709551616:Nat) by rw [hu5]; omega]; rfl
     have c5:U / (18446744073709551616:Nat)^5+(U / (18446744073709551616:Nat)^4%(18446744073709551616:Nat)+ov3) / (18446744073709551616:Nat)<(18446744073709551616:Nat):=by
      have:T' / (18446744073709551616:Nat)^4=U / (18446744073709551616:Nat)^5+(U / (18446744073709551616:Nat)^4%(18446744073709551616:Nat)+ov3) / (18446744073709551616:Nat):=by rw [y4,hu5]; omega
      omega
     generalize U / (18446744073709551616:Nat)^3%(18446744073709551616:Nat)=u3' at *
     have u4':U / (18446744073709551616:Nat)^4%(18446744073709551616:Nat)<(18446744073709551616:Nat):=Nat.mod_lt _ (by decide)
     generalize U / (18446744073709551616:Nat)^4%(18446744073709551616:Nat)=u4 at *
     generalize U / (18446744073709551616:Nat)^5=u5 at *
     have e2:IntKind.i64.wrap ((i:Int)+1)=((i+1:Nat):Int):=by rw [w64 _ (by omega) (by omega)]; omega
     have g4:∀ a b c:AV,(wd 3 (V / (18446744073709551616:Nat))++[a,b,c]).getD 4 .junk=b:=fun a b c => Yi (j:=1) (Zb 3 _) _
     have g5:∀ a b c:AV,(wd 3 (V / (18446744073709551616:Nat))++[a,b,c]).getD 5 .junk=c:=fun a b c => Yi (j:=2) (Zb 3 _) _
     have s4:∀ a b c w:AV,(wd 3 (V / (18446744073709551616:Nat))++[a,b,c]).set 4 w=wd 3 (V / (18446744073709551616:Nat))++[a,w,c]:=fun a b c w => by
      rw [List.set_append_right _ _ (by rw [Zb]; decide),Zb]; rfl
     simp only [go_sem,d3,g4,Zb,Jg rfl,Uq,Py]
     simp (disch:=omega) only [Int.add_zero,← Int.natCast_add,natdiv,natmod]
     simp only [go_sem,g4,g5,s4,Zb,Jg rfl,e2]
     simp (disch:=omega) only [Int.add_zero,← Int.natCast_add,natdiv,natmod,wu]
     refine ⟨by omega,by omega,by omega,by omega,by omega,(i+1,T',u5),rfl,?_,⟨by show i+1≤4; omega,R2,R3⟩,by show 4 - (i+1)<4 - i; omega⟩
     show _=H++[_,_,_,⟨wd 5 T'++[W u5],0,true⟩]
     rw [w5,List.append_assoc]; rfl
 ·obtain rfl:i=4:=by omega
  rw [Nat.mod_eq_of_lt hb4] at hc
  have hT5:T<(18446744073709551616:Nat)^5:=by omega
  have e5:wd 5 T++[W c]=num T++[W (T / (18446744073709551616:Nat)^4),W c]:=by
   rw [Iy 4,Nat.mod_eq_of_lt (show T / (18446744073709551616:Nat)^4<(18446744073709551616:Nat) by rw [Nat.div_lt_iff_lt_mul (bpos 4)]; omega),List.append_assoc]; rfl
  have g:∀ i,i<4→(num T++[W (T / (18446744073709551616:Nat)^4),W c]).getD i .junk=W (T / (18446744073709551616:Nat)^i%(18446744073709551616:Nat)):=fun i hi => Zjf hi _
  have g4:(num T++[W (T / (18446744073709551616:Nat)^4),W c]).getD 4 .junk=W (T / (18446744073709551616:Nat)^4):=Yi (j:=0) (Zb 4 T) _
  have en:[W (T / (18446744073709551616:Nat)^0%(18446744073709551616:Nat)),W (T / (18446744073709551616:Nat)^1%(18446744073709551616:Nat)),W (T / (18446744073709551616:Nat)^2%(18446744073709551616:Nat)),W (T / (18446744073709551616:Nat)^3%(18446744073709551616:Nat))]=num T:=by
   simp only [wd,dig,List.map_cons,List.map_nil,Nat.pow_zero,Nat.div_one,Nat.pow_one,Nat.div_div_eq_div_mul]
  rw [e5]
  simp only [go_sem,g 0 (by decide),g 1 (by decide),g 2 (by decide),g 3 (by decide),g4,Zq,fillv,en,Zb]
  have ho4:decide ((0:Int)<((T / (18446744073709551616:Nat)^4:Nat):Int))=decide ((18446744073709551616:Nat)^4≤T):=by
   congr 1; apply propext
   have:=Nat.div_pos_iff (a:=T) (b:=(18446744073709551616:Nat)^4)
   omega
  refine ⟨by omega,by omega,by omega,by omega,by omega,Za (Zbd (hfd' _) hm hT ho4) (fun _ => rfl) ?_⟩
  have hr:T%m=mon m a b:=Zue h1 ho (Nat.mod_lt _ (by omega)) (by rw [Nat.mod_mul_mod]; exact hc)
  rw [hr]
  simp only [go_sem,Zd,Ze,Zg,Zb]
  exact Zc rfl
structure MO (m:Nat):Prop where
 lt:m<(18446744073709551616:Nat)^4
 gt:1<m
 odd:m%2=1
 tr:(trn m*m+1)%(18446744073709551616:Nat)=0
theorem mo_P:MO (115792089210356248762697446949407573530086143415290314195533631308867097853951:Nat):=⟨by decide,by decide,by decide,by decide +kernel⟩
theorem mo_N:MO (115792089210356248762697446949407573529996955224135760342422259061068512044369:Nat):=⟨by decide,by decide,by decide,by decide +kernel⟩
theorem Zq2 {m a b:Nat} (h1:1<m) (ho:m%2=1):mon m a b*(18446744073709551616:Nat)^4%m=a*b%m:=by
 have hg:Nat.gcd ((18446744073709551616:Nat)^4%m) m=1:=by
  have c2:Nat.Coprime 2 m:=by show Nat.gcd 2 m=1; rw [Nat.gcd_rec,ho]; rfl
  have c:Nat.Coprime ((18446744073709551616:Nat)^4) m:=by
   rw [show (18446744073709551616:Nat)^4=2^256 by decide +kernel]
   exact Nat.Coprime.pow_left _ c2
  rw [← Nat.gcd_rec,Nat.gcd_comm]; exact c
 obtain ⟨k1,k2⟩:=Ra (Zmn h1 hg)
 unfold mon
 rw [Nat.mod_mul_mod,Nat.mul_assoc,Nat.mul_mod,Nat.mul_comm (minv m _),Nat.mul_mod ((18446744073709551616:Nat)^4)]
 generalize minv m ((18446744073709551616:Nat)^4%m)=z at *
 rw [Nat.mod_eq_of_lt k1,k2,Nat.mul_one,Nat.mod_mod]
theorem Z19 {m:Nat} (h1:1<m) (a b:Nat):mon m a b<m:=Nat.mod_lt _ (by omega)
theorem Zxj {m a b:Nat} (h1:1<m) (ho:m%2=1):mon m (mon m (a%m) (b%m)) ((18446744073709551616:Nat)^8%m)=fmul m a b:=by
 refine (Zue h1 ho (Zi (by omega) a b) ?_).symm
 have h:=Zq2 (a:=a%m) (b:=b%m) h1 ho
 rw [← Nat.mul_mod] at h
 rw [fmul,← h,Nat.mod_mul_mod]
 generalize mon m (a%m) (b%m)=z at *
 rw [Nat.mul_assoc,show (18446744073709551616:Nat)^4*(18446744073709551616:Nat)^4=(18446744073709551616:Nat)^8 by decide +kernel,Nat.mul_mod,Nat.mul_mod z ((18446744073709551616:Nat)^8%m),Nat.mod_mod]
theorem Bg {H:AH} {p m a b:Nat} (hf:FF H p m) (hm:MO m) (ha:a<(18446744073709551616:Nat)^4) (hb:b<(18446744073709551616:Nat)^4):Called Tryz.prog F.field_Field_Mul [.ptr p 0,.agg (num a),.agg (num b)] H (.agg (num (fmul m a b))) H:=by
 refine K7 ?_
 have hf':∀ G,FF (H++G) p m:=fun G => hf.app
 have h0:0<m:=by have:=hm.gt; omega
 obtain ⟨hp,hob⟩:=hf
 have fl:(fcells m).length=13:=by simp [fcells,Zb]
 have f9:((fcells m).drop 9).take 4=num ((18446744073709551616:Nat)^8%m):=by
  have:fcells m=(num m++W (trn m)::num ((18446744073709551616:Nat)^4%m))++num ((18446744073709551616:Nat)^8%m):=by simp [fcells]
  rw [this,List.drop_left' (by simp [Zb]),Zd]
 simp only [Sh,go_sem,Zg,Yf,Zd,Zb]
 refine Za (t_in (hf' _).fd hm.lt h0 ha) (fun _ => rfl) ?_
 simp only [go_sem,Zg,Yf,Zd,Zb]
 refine Za (t_in (hf' _).fd hm.lt h0 hb) (fun _ => rfl) ?_
 simp only [go_sem,Zg,Yf,Zd,Zb]
 refine Za (Ztp (hf' _) hm.lt hm.gt hm.odd hm.tr (Nat.mod_lt _ h0) (Nat.mod_lt _ h0)) (fun _ => rfl) ?_
 simp only [go_sem,Zg,Yf,Zd,Zb,Z1 _ _ hp,hob,fl,f9,Hu hp]
 refine Za (Ztp (hf' _) hm.lt hm.gt hm.odd hm.tr (Z19 hm.gt _ _) (Nat.mod_lt _ h0)) (fun _ => rfl) ?_
 rw [Zxj hm.gt hm.odd]
 simp only [go_sem,Zd,Ze,Zg,Zb]
 exact Zc rfl
theorem Zpp {H:AH} {m:Nat} (hm:MO m):Called Tryz.prog F.field_New [.agg (num m)] H (.tup [.ptr H.length 0,nilE]) (H++[⟨fcells m,0,true⟩]):=by
 refine Zc6 ?_
 have h0:0<m:=by have:=hm.gt; omega
 have hb2:2≤blen m:=by
  have:=hm.gt
  unfold blen; rw [if_neg (by omega)]
  have:1≤m.log2:=(Nat.le_log2 (by omega)).2 (by omega)
  omega
 have he:decide (m%2=0)=false:=by rw [hm.odd]; rfl
 simp only [Jv,go_sem,Zg,Yf,Zd,Zb,Im,and1 _ (Nat.mod_lt m (show 0<(18446744073709551616:Nat) by decide)),Cm,he]
 refine ⟨by decide,Zs (fun _ => Ztq hm.lt) ?_⟩
 have hd:decide ((blen m:Int)<2)=false:=decide_eq_false (by omega)
 have nb:∀ x,newt (m%(18446744073709551616:Nat)) x<(18446744073709551616:Nat):=fun x => Nat.mod_lt _ (by decide)
 have hnx:∀ x:Nat,x<(18446744073709551616:Nat)→IntKind.u64.wrap ((x:Int)*IntKind.u64.wrap (2 - IntKind.u64.wrap (((m%(18446744073709551616:Nat):Nat):Int)*(x:Int))))=((newt (m%(18446744073709551616:Nat)) x:Nat):Int):=by
  intro x hx
  rw [← Int.natCast_mul,wumod]
  have e:IntKind.u64.wrap (2 - ((m%(18446744073709551616:Nat)*x%(18446744073709551616:Nat):Nat):Int))=(((2+(18446744073709551616:Nat) - m%(18446744073709551616:Nat)*x%(18446744073709551616:Nat))%(18446744073709551616:Nat):Nat):Int):=by
   have hw:∀ z:Int,IntKind.u64.wrap z=z%18446744073709551616:=fun z => by simp only [IntKind.wrap,IntKind.bits,IntKind.signed]; simp
   rw [hw]; omega
  rw [e,← Int.natCast_mul,wumod]; rfl
 simp only [go_sem,hd]
 refine Z4 _ (fun (i:Nat) => ([(1,.ptr H.length 0),(4,W (Zlp (m%(18446744073709551616:Nat)) i)),(16,I i)],H++[⟨num m,0,true⟩])) (fun i => i≤6) (fun i => 6 - i) 0 (Nat.zero_le _) rfl ?_
 intro i hi
 have hxi:Zlp (m%(18446744073709551616:Nat)) i<(18446744073709551616:Nat):=by
  cases i with
  | zero => exact (by decide:(1:Nat)<(18446744073709551616:Nat))
  | succ i => exact nb _
 simp only [go_sem]
 refine ⟨fun hh => ?_,fun hh => ?_⟩
 ·have w2:IntKind.i64.wrap ((i:Int)+1)=((i+1:Nat):Int):=by rw [w64 _ (by omega) (by omega)]; omega
  simp only [go_sem,Zb,Im,hnx _ hxi,w2]
  exact ⟨by decide,i+1,rfl,by omega,by omega⟩
 ·obtain rfl:i=6:=by omega
  have hneg:IntKind.u64.wrap (0 - ((Zlp (m%(18446744073709551616:Nat)) 6:Nat):Int))=((trn m:Nat):Int):=by
   have hw:∀ z:Int,IntKind.u64.wrap z=z%18446744073709551616:=fun z => by simp only [IntKind.wrap,IntKind.bits,IntKind.signed]; simp
   rw [hw]; unfold trn; omega
  have c0:splice [Z0,Z0,Z0,Z0,Z0,Z0,Z0,Z0,Z0,Z0,Z0,Z0,Z0] 0 (num m)=num m++[Z0,Z0,Z0,Z0,Z0,Z0,Z0,Z0,Z0]:=by
   rw [Xd _ _ _ (by rw [Zb]; decide),Zb]; rfl
  have c1:(num m++[Z0,Z0,Z0,Z0,Z0,Z0,Z0,Z0,Z0]).set 4 (W (trn m))=num m++[W (trn m),Z0,Z0,Z0,Z0,Z0,Z0,Z0,Z0]:=by
   rw [List.set_append_right _ _ (by rw [Zb]; decide),Zb]; rfl
  simp only [go_sem,Zb,Zd,Zq,fillv,hneg,c0,c1,Zg]
  have hF:∀ r:List AV,r.length=9→FD (H++[⟨num m,0,true⟩,⟨num m++r,0,true⟩]) (H.length+1) m:=fun r hr => ⟨by simp,r,by simp only [go_sem],hr⟩
  have c2:splice (num m++[W (trn m),Z0,Z0,Z0,Z0,Z0,Z0,Z0,Z0]) 5 (num ((18446744073709551616:Nat)^4%m))=num m++(W (trn m)::(num ((18446744073709551616:Nat)^4%m)++[Z0,Z0,Z0,Z0])):=by
   rw [Xd _ _ _ (by simp [Zb]),Zb]
   have e1:(num m++[W (trn m),Z0,Z0,Z0,Z0,Z0,Z0,Z0,Z0]).take 5=num m++[W (trn m)]:=by
    rw [List.take_append,Zb,List.take_of_length_le (by rw [Zb]; decide)]; rfl
   have e2:(num m++[W (trn m),Z0,Z0,Z0,Z0,Z0,Z0,Z0,Z0]).drop (5+4)=[Z0,Z0,Z0,Z0]:=by
    rw [List.drop_append,Zb,List.drop_eq_nil_of_le (by rw [Zb]; decide)]; rfl
   rw [e1,e2]; simp
  have c3:((num m++(W (trn m)::(num ((18446744073709551616:Nat)^4%m)++[Z0,Z0,Z0,Z0]))).drop 5).take 4=num ((18446744073709551616:Nat)^4%m):=by
   have:num m++(W (trn m)::(num ((18446744073709551616:Nat)^4%m)++[Z0,Z0,Z0,Z0]))=(num m++[W (trn m)])++(num ((18446744073709551616:Nat)^4%m)++[Z0,Z0,Z0,Z0]):=by simp
   rw [this,List.drop_left' (by simp [Zb]),List.take_left' (Zb _ _)]
  have c4:splice (num m++(W (trn m)::(num ((18446744073709551616:Nat)^4%m)++[Z0,Z0,Z0,Z0]))) 9 (num ((18446744073709551616:Nat)^8%m))=fcells m:=by
   have:num m++(W (trn m)::(num ((18446744073709551616:Nat)^4%m)++[Z0,Z0,Z0,Z0]))=(num m++W (trn m)::num ((18446744073709551616:Nat)^4%m))++[Z0,Z0,Z0,Z0]:=by simp
   rw [this,Xd _ _ _ (by simp [Zb]),Zb,List.take_left' (by simp [Zb]),List.drop_eq_nil_of_le (by simp [Zb])]
   simp [fcells]
  have one4:=Nat.mod_lt ((18446744073709551616:Nat)^4) h0
  have cX:[Z0,Z0,Z0,Z0,AV.lit (.int .u64 1),Z0,Z0,Z0]=wd 8 ((18446744073709551616:Nat)^4):=rfl
  rw [cX]
  refine ⟨⟨rfl,by rw [List.all_append,Zg]; rfl⟩,Za (Zv2 (X:=(18446744073709551616:Nat)^4) (hF [W (trn m),Z0,Z0,Z0,Z0,Z0,Z0,Z0,Z0] rfl) hm.lt h0 (by decide)) (fun _ => rfl) ?_⟩
  simp only [go_sem,Zb,Zd,c2,c3,Zg]
  refine Za (Z0u (Nat.lt_trans one4 hm.lt) (Nat.lt_trans one4 hm.lt)) (fun _ => rfl) ?_
  simp only [go_sem,Zb,Zd,c2,c3,Zg]
  refine Za (Zv2 (hF _ (by simp [Zb])) hm.lt h0 (by rw [show (18446744073709551616:Nat)^8=(18446744073709551616:Nat)^4*(18446744073709551616:Nat)^4 by decide +kernel]; exact Nat.mul_lt_mul'' (Nat.lt_trans one4 hm.lt) (Nat.lt_trans one4 hm.lt))) (fun _ => rfl) ?_
  have e8:(18446744073709551616:Nat)^4%m*((18446744073709551616:Nat)^4%m)%m=(18446744073709551616:Nat)^8%m:=by rw [← Nat.mul_mod,show (18446744073709551616:Nat)^4*(18446744073709551616:Nat)^4=(18446744073709551616:Nat)^8 by decide +kernel]
  rw [e8]
  simp only [go_sem,Zb,Zd,c4,Zg]
  refine Oc [1] (by decide) (by simp) ?_ ?_
  ·simp [low,lowL,Dy,List.idxOf?_cons]
  ·simp [Wu,Wg,Tf,fcells,lowL,low,obj]
end Go.Proofs.YtcgjlpdkobmpnaaGreat.Eng

