/- Primes by Pocklington's test. (No program in sight.) -/
import Derived.Test.YtcgjlpdkobmpnaaGreatME6
namespace Go.Proofs.YtcgjlpdkobmpnaaGreat.Eng
open Go
set_option linter.unusedVariables false
set_option linter.unusedSimpArgs false
def Prm (p:Nat):Prop:=2≤p∧∀ d,d ∣ p→d=1∨d=p
def powm (m a:Nat):Nat→Nat→Nat
 | 0,_ => 1%m
 | k+1,e => CheckFast.force (powm m a k (e / 2)) fun h => CheckFast.force (h*h%m) fun s => match e%2 with
  | 0 => s
  | _+1 => s*a%m
theorem Zb0 (m a:Nat):∀ k e,e<2^k→powm m a k e=a^e%m
 | 0,e,h => by
  obtain rfl:e=0:=by simpa using h
  rfl
 | k+1,e,h => by
  rw [Nat.pow_succ] at h
  rw [powm,CheckFast.force_eq,CheckFast.force_eq,Zb0 m a k (e / 2) (by omega)]
  have e1:(a^(e / 2)%m)*(a^(e / 2)%m)%m=a^(2*(e / 2))%m:=by
   rw [← Nat.mul_mod,← Nat.pow_add]; congr 2; omega
  rw [e1]
  have h2:=Nat.div_add_mod e 2
  have h3:=Nat.mod_lt e (show 0<2 by decide)
  split
  ·rename_i h0
   rw [h0,Nat.add_zero] at h2
   rw [h2]
  ·rename_i k' h0
   rw [Nat.mod_mul_mod,← Nat.pow_succ]
   congr 2
   omega
theorem pow_one {b r m:Nat} (h:b^m%r=1%r) (k:Nat):b^(m*k)%r=1%r:=by
 rw [Nat.pow_mul,Nat.pow_mod,h,← Nat.pow_mod,Nat.one_pow]
theorem Zwf {b r:Nat} (m n:Nat):b^m%r=1%r→b^n%r=1%r→b^Nat.gcd m n%r=1%r:=by
 induction m,n using Nat.gcd.induction with
 | H0 n => intro _ hn; rw [Nat.gcd_zero_left]; exact hn
 | H1 m n hpos ih =>
  intro hm hn
  rw [Nat.gcd_rec]
  refine ih ?_ hm
  have e:b^n=b^(m*(n / m))*b^(n%m):=by rw [← Nat.pow_add,Nat.div_add_mod]
  rw [e,Nat.mul_mod,pow_one hm,← Nat.mul_mod,Nat.one_mul] at hn
  exact hn
theorem php:∀ (n k:Nat) (f:Nat→Nat),(∀ i,i<n→f i<k)→(∀ i j,i<n→j<n→f i=f j→i=j)→n≤k
 | 0,k,f,_,_ => Nat.zero_le _
 | n+1,k,f,hb,hi => by
  have hv:=hb n (Nat.lt_succ_self n)
  obtain ⟨k,rfl⟩:∃ k',k=k'+1:=⟨k - 1,by omega⟩
  refine Nat.succ_le_succ (php n k (fun j => if f j=k then f n else f j) (fun j hj => ?_) (fun i j hi' hj' h => ?_))
  ·have h1:=hb j (by omega)
   by_cases h:f j=k
   ·have:f n≠k:=fun h' => by have:=hi j n (by omega) (by omega) (by omega); omega
    simp only [h,if_true]; omega
   ·simp only [h,if_false]; omega
  ·by_cases h1:f i=k
   ·by_cases h2:f j=k
    ·exact hi i j (by omega) (by omega) (by omega)
    ·simp only [h1,h2,if_true,if_false] at h
     have:=hi n j (by omega) (by omega) h; omega
   ·by_cases h2:f j=k
    ·simp only [h1,h2,if_true,if_false] at h
     have:=hi i n (by omega) (by omega) h; omega
    ·simp only [h1,h2,if_false] at h
     exact hi i j (by omega) (by omega) h
def Li:List Nat→Nat
 | [] => 1
 | q::r => q*Li r
theorem Ztp:∀ {qs:List Nat},(∀ q ∈ qs,Prm q)→∀ d,d ∣ Li qs→d≠1→∃ q,q ∈ qs∧q ∣ d
 | [],_,d,hd,h1 => absurd (Nat.dvd_one.1 hd) h1
 | q::qs,hq,d,hd,h1 => by
  rcases (hq q (by simp)).2 _ (Nat.gcd_dvd_right d q) with h | h
  ·obtain ⟨q',hq',hd'⟩:=Ztp (fun q hq' => hq q (by simp [hq'])) d (Nat.Coprime.dvd_of_dvd_mul_left (show Nat.Coprime d q from h) hd) h1
   exact ⟨q',by simp [hq'],hd'⟩
  ·exact ⟨q,by simp,h ▸ Nat.gcd_dvd_left d q⟩
theorem Zet {n b r:Nat} {qs:List Nat} (hq:∀ q ∈ qs,Prm q) (h0:0<Li qs) (h1:b^Li qs%n=1) (h2:∀ q ∈ qs,Nat.gcd (b^(Li qs / q)+(n - 1)) n=1) (hn:1<n) (hr:r ∣ n) (hr1:1<r):Li qs<r:=by
 generalize hF:Li qs=F at *
 have hone:1%r=1:=Nat.mod_eq_of_lt hr1
 have hF1:b^F%r=1%r:=by
  have:=Nat.mod_mod_of_dvd (b^F) hr
  rw [← this,h1]
 have key:∀ d,0<d→d<F→b^d%r≠1%r:=by
  intro d hd hdF h
  have hg:=Zwf d F h hF1
  have gF:=Nat.gcd_dvd_right d F
  have gd:Nat.gcd d F≤d:=Nat.gcd_le_left _ hd
  have gp:0<Nat.gcd d F:=Nat.gcd_pos_of_pos_left _ hd
  generalize Nat.gcd d F=g at *
  obtain ⟨c,hc⟩:=gF
  have c1:c≠1:=by rintro rfl; omega
  obtain ⟨q,hqm,e,he⟩:=Ztp hq c (by rw [hF,hc]; exact Nat.dvd_mul_left _ _) c1
  have q2:=(hq q hqm).1
  have e1:F / q=g*e:=by
   rw [hc,he,Nat.mul_left_comm,Nat.mul_div_cancel_left _ (by omega)]
  have e2:b^(F / q)%r=1%r:=by rw [e1]; exact pow_one hg e
  have e3:r ∣ b^(F / q)+(n - 1):=by
   obtain ⟨s,hs⟩:=hr
   have:(b^(F / q)+(n - 1))%r=0:=by
    rw [Nat.add_mod,e2,← Nat.add_mod,show 1+(n - 1)=n by omega,hs,Nat.mul_mod_right]
   exact Nat.dvd_of_mod_eq_zero this
  have:=Nat.dvd_gcd e3 hr
  rw [h2 q hqm] at this
  have:=Nat.le_of_dvd (by decide) this
  omega
 have nz:∀ i,i<F→b^i%r≠0:=by
  intro i hi h
  have e:b^F=b^i*b^(F - i):=by rw [← Nat.pow_add]; congr 1; omega
  rw [e,Nat.mul_mod,h,Nat.zero_mul,Nat.zero_mod,hone] at hF1
  cases hF1
 have inj:∀ i j,i<j→j<F→b^i%r≠b^j%r:=by
  intro i j hij hj h
  refine key (j - i) (by omega) (by omega) ?_
  have e1:b^i*b^(F - i)=b^F:=by rw [← Nat.pow_add]; congr 1; omega
  have e2:b^j*b^(F - i)=b^F*b^(j - i):=by rw [← Nat.pow_add,← Nat.pow_add]; congr 1; omega
  have:b^F%r=b^F*b^(j - i)%r:=by
   rw [← e2,← e1,Nat.mul_mod,h,← Nat.mul_mod]
  rw [Nat.mul_mod,hF1,← Nat.mul_mod,Nat.one_mul] at this
  exact this.symm
 have:=php F (r - 1) (fun i => b^i%r - 1) (fun i hi => by
  have a1:=nz i hi
  have a2:=Nat.mod_lt (b^i) (show 0<r by omega)
  show b^i%r - 1<r - 1
  omega) (fun i j hi hj h => by
  have a1:=nz i hi
  have a2:=nz j hj
  have h:b^i%r - 1=b^j%r - 1:=h
  rcases Nat.lt_trichotomy i j with h' | h' | h'
  ·exact absurd (show b^i%r=b^j%r by omega) (inj i j h' hj)
  ·exact h'
  ·exact absurd (show b^j%r=b^i%r by omega) (inj j i h' hi))
 omega
theorem pock {n b:Nat} (qs:List Nat) (hq:∀ q ∈ qs,Prm q) (hn:1<n) (h0:0<Li qs) (h1:b^Li qs%n=1) (h2:∀ q ∈ qs,Nat.gcd (b^(Li qs / q)+(n - 1)) n=1) (h3:n<(Li qs+1)*(Li qs+1)):Prm n:=by
 refine ⟨hn,fun d hd => ?_⟩
 obtain ⟨c,hc⟩:=hd
 by_cases h:d=1∨d=n
 ·exact h
 ·exfalso
  rw [not_or] at h
  have d0:d≠0:=by rintro rfl; rw [Nat.zero_mul] at hc; omega
  have c0:c≠0:=by rintro rfl; rw [Nat.mul_zero] at hc; omega
  have c1:c≠1:=by rintro rfl; rw [Nat.mul_one] at hc; exact h.2 hc.symm
  have k1:=Zet hq h0 h1 h2 hn ⟨c,hc⟩ (by omega:1<d)
  have k2:=Zet hq h0 h1 h2 hn ⟨d,by rw [hc,Nat.mul_comm]⟩ (by omega:1<c)
  have:=Nat.mul_le_mul k1 k2
  simp only [Nat.succ_eq_add_one] at this
  omega
def Z1b (k n b:Nat) (qs:List Nat):Bool :=
 CheckFast.force (Li qs) fun F => decide (1<n)&&decide (0<F)&&decide (F<2^k)&&(powm n b k F == 1)&&qs.all (fun q => decide (Nat.gcd (powm n b k (F / q)+(n - 1)) n=1))&&decide (n<(F+1)*(F+1))
theorem Zcp (x y n:Nat):Nat.gcd (x%n+y) n=Nat.gcd (x+y) n:=by
 have e:∀ z,Nat.gcd z n=Nat.gcd (z%n) n:=fun z => by rw [Nat.gcd_comm z n,Nat.gcd_rec]
 rw [e (x%n+y),e (x+y),Nat.mod_add_mod]
theorem U4 {k n b:Nat} {qs:List Nat} (hq:∀ q ∈ qs,Prm q) (h:Z1b k n b qs=true):Prm n:=by
 unfold Z1b at h
 rw [CheckFast.force_eq] at h
 simp only [Bool.and_eq_true,decide_eq_true_eq,beq_iff_eq,List.all_eq_true] at h
 obtain ⟨⟨⟨⟨⟨h1,h2⟩,h3⟩,h4⟩,h5⟩,h6⟩:=h
 rw [Zb0 _ _ _ _ h3] at h4
 refine pock qs hq h1 h2 h4 (fun q hm => ?_) h6
 have:=h5 q hm
 rw [Zb0 _ _ _ _ (Nat.lt_of_le_of_lt (Nat.div_le_self _ _) h3),Zcp] at this
 exact this
def ndiv (n:Nat):Nat→Nat→Bool
 | 0,d => CheckFast.force d fun d => n%d != 0
 | k+1,d => CheckFast.force d fun d => ndiv n k d&&ndiv n k (d+2^k)
theorem Lr (n:Nat):∀ k d,ndiv n k d=true→∀ x,d≤x→x<d+2^k→n%x≠0
 | 0,d,h,x,h1,h2 => by
  rw [ndiv,CheckFast.force_eq] at h
  obtain rfl:x=d:=by simp at h2; omega
  simpa using h
 | k+1,d,h,x,h1,h2 => by
  rw [ndiv,CheckFast.force_eq,Bool.and_eq_true] at h
  rw [Nat.pow_succ] at h2
  by_cases hx:x<d+2^k
  ·exact Lr n k d h.1 x h1 hx
  ·exact Lr n k _ h.2 x (by omega) (by omega)
theorem U2 {q k:Nat} (h:(decide (2≤q)&&decide (q<2^k*2^k)&&decide (2+2^k≤q)&&ndiv q k 2)=true):Prm q:=by
 simp only [Bool.and_eq_true,decide_eq_true_eq] at h
 obtain ⟨⟨⟨h2,hk⟩,hk2⟩,hd⟩:=h
 refine ⟨h2,fun d ⟨c,hc⟩ => ?_⟩
 have nd:=Lr q k 2 hd
 by_cases h:d=1∨d=q
 ·exact h
 ·exfalso
  rw [not_or] at h
  have d0:d≠0:=by rintro rfl; rw [Nat.zero_mul] at hc; omega
  have c0:c≠0:=by rintro rfl; rw [Nat.mul_zero] at hc; omega
  have c1:c≠1:=by rintro rfl; rw [Nat.mul_one] at hc; exact h.2 hc.symm
  have k1:2+2^k≤d:=Nat.le_of_not_lt fun hh => nd d (by omega) hh (by rw [hc,Nat.mul_mod_right])
  have k2:2+2^k≤c:=Nat.le_of_not_lt fun hh => nd c (by omega) hh (by rw [hc,Nat.mul_mod_left])
  have:=Nat.mul_le_mul k1 k2
  rw [← hc] at this
  have:2^k*2^k≤(2+2^k)*(2+2^k):=Nat.mul_le_mul (by omega) (by omega)
  omega
set_option linter.unusedSimpArgs false
theorem Zwa:Prm 197:=U2 (k:=4) (by decide +kernel)
theorem Zpz:Prm 3677:=U2 (k:=6) (by decide +kernel)
theorem Iu:Prm 66417393611:=U4 (k:=20) (b:=53548402212) (qs:=[3677,197]) (by simp only [List.mem_cons,List.not_mem_nil,or_false,forall_eq_or_imp,forall_eq]; exact ⟨Zpz,Zwa⟩) (by decide +kernel)
theorem Ni:Prm 11290956913871:=U4 (k:=36) (b:=11005834445932) (qs:=[66417393611]) (by simp only [List.mem_cons,List.not_mem_nil,or_false,forall_eq_or_imp,forall_eq]; exact Iu) (by decide +kernel)
theorem Zgl:Prm 704251:=U2 (k:=10) (by decide +kernel)
theorem Zkh:Prm 78283:=U2 (k:=9) (by decide +kernel)
theorem Qj:Prm 46076956964474543:=U4 (k:=36) (b:=13930916888883706) (qs:=[704251,78283]) (by simp only [List.mem_cons,List.not_mem_nil,or_false,forall_eq_or_imp,forall_eq]; exact ⟨Zgl,Zkh⟩) (by decide +kernel)
theorem Xt:Prm 774023187263532362759620327192479577272145303:=U4 (k:=99) (b:=691112438322248612981607818439119884530153897) (qs:=[46076956964474543,11290956913871]) (by simp only [List.mem_cons,List.not_mem_nil,or_false,forall_eq_or_imp,forall_eq]; exact ⟨Qj,Ni⟩) (by decide +kernel)
theorem Xm:Prm 835945042244614951780389953367877943453916927241:=U4 (k:=150) (b:=759074791811550622595041579907670563367995104130) (qs:=[774023187263532362759620327192479577272145303]) (by simp only [List.mem_cons,List.not_mem_nil,or_false,forall_eq_or_imp,forall_eq]; exact Xt) (by decide +kernel)
theorem Zbw:Prm 115792089210356248762697446949407573530086143415290314195533631308867097853951:=U4 (k:=160) (b:=49835480456766173544607506164699712169824023691580347094409044481755491731278) (qs:=[835945042244614951780389953367877943453916927241]) (by simp only [List.mem_cons,List.not_mem_nil,or_false,forall_eq_or_imp,forall_eq]; exact Xm) (by decide +kernel)
theorem Zbx:Prm 3969899:=U2 (k:=11) (by decide +kernel)
theorem Lj:Prm 1002328039319:=U4 (k:=22) (b:=221842812587) (qs:=[3969899]) (by simp only [List.mem_cons,List.not_mem_nil,or_false,forall_eq_or_imp,forall_eq]; exact Zbx) (by decide +kernel)
theorem Zp0:Prm 3023:=U2 (k:=6) (by decide +kernel)
theorem Zgm:Prm 155317:=U2 (k:=9) (by decide +kernel)
theorem Dr:Prm 191039911:=U4 (k:=18) (b:=76243073) (qs:=[155317]) (by simp only [List.mem_cons,List.not_mem_nil,or_false,forall_eq_or_imp,forall_eq]; exact Zgm) (by decide +kernel)
theorem R8:Prm 208150935158385979:=U4 (k:=40) (b:=21745587066933326) (qs:=[191039911,3023]) (by simp only [List.mem_cons,List.not_mem_nil,or_false,forall_eq_or_imp,forall_eq]; exact ⟨Dr,Zp0⟩) (by decide +kernel)
theorem Vs:Prm 2624747550333869278416773953:=U4 (k:=58) (b:=9274061155462587152010873) (qs:=[208150935158385979]) (by simp only [List.mem_cons,List.not_mem_nil,or_false,forall_eq_or_imp,forall_eq]; exact R8) (by decide +kernel)
theorem Z1a:Prm 115792089210356248762697446949407573529996955224135760342422259061068512044369:=U4 (k:=131) (b:=33422750357966337878331101054518575604830426967606952675588495505287672049735) (qs:=[2624747550333869278416773953,1002328039319]) (by simp only [List.mem_cons,List.not_mem_nil,or_false,forall_eq_or_imp,forall_eq]; exact ⟨Vs,Lj⟩) (by decide +kernel)
section
variable {p:Nat} [NeZero p]
theorem Z3g {X Y Z x y l:Fin p} (hX:X=x*(Z*Z)) (hY:Y=y*(Z*(Z*Z))) (hl:l*(y+y)=3*(x*x - 1))
  {d g be al X3 Y3 Z3 x3 y3:Fin p} (hd:d=Z*Z) (hg:g=Y*Y) (hb:be=X*g) (ha:al=((X - d)*(X+d))*3)
  (hX3:X3=al*al - be*8) (hZ3:Z3=(Y+Z)*(Y+Z) - g - d) (hY3:Y3=al*(be*4 - X3) - (g*g)*8)
  (hx3:x3=l*l - x - x) (hy3:y3=l*(x - x3) - y):X3=x3*(Z3*Z3)∧Y3=y3*(Z3*(Z3*Z3))∧Z3=(y+y)*(Z*Z*(Z*Z)):=by
 have z3:Z3=(y+y)*(Z*Z*(Z*Z)):=by subst hd hg hY hZ3; grobner
 have a3:al=l*Z3:=by
  have:al=(3*(x*x - 1))*(Z*Z*(Z*Z)):=by subst hd hX ha; grobner
  rw [this,← hl,z3]; grobner
 have b3:be*4=x*(Z3*Z3):=by subst hb hg hX hY; rw [z3]; grobner
 have g3:(g*g)*8=y*(Z3*(Z3*Z3)):=by subst hg hY; rw [z3]; grobner
 have x3':X3=x3*(Z3*Z3):=by
  have:be*8=be*4+be*4:=by grobner
  rw [hX3,this,b3,a3,hx3]; grobner
 refine ⟨x3',?_,z3⟩
 rw [hY3,g3,b3,x3',a3,hy3]; grobner
theorem Zyq {X Y Z X' Y' Z' x y x' y' l:Fin p} (hX:X=x*(Z*Z)) (hY:Y=y*(Z*(Z*Z))) (hX':X'=x'*(Z'*Z')) (hY':Y'=y'*(Z'*(Z'*Z'))) (hl:l*(x' - x)=y' - y)
  {u h v r hh hhh uh X3 Y3 Z3 x3 y3:Fin p} (hu:u=X*(Z'*Z')) (hH:h=X'*(Z*Z) - u) (hv:v=Y*((Z'*Z')*Z')) (hr:r=Y'*((Z*Z)*Z) - v)
  (hhh':hh=h*h) (hhhh:hhh=hh*h) (huh:uh=u*hh) (hX3:X3=r*r - hhh - uh*2) (hY3:Y3=r*(uh - X3) - v*hhh) (hZ3:Z3=h*(Z*Z'))
  (hx3:x3=l*l - x - x') (hy3:y3=l*(x - x3) - y):X3=x3*(Z3*Z3)∧Y3=y3*(Z3*(Z3*Z3)):=by
 have h1:h=(x' - x)*(Z*Z*(Z'*Z')):=by subst hH hu hX hX'; grobner
 have r1:r=l*Z3:=by
  have:r=(y' - y)*(Z*Z*Z*(Z'*Z'*Z')):=by subst hr hv hY hY'; grobner
  rw [this,← hl,hZ3,h1]; grobner
 have u1:uh=x*(Z3*Z3):=by subst huh hhh' hu hX; rw [hZ3]; grobner
 have v1:v*hhh=y*(Z3*(Z3*Z3)):=by subst hhhh hhh' hv hY; rw [hZ3]; grobner
 have k1:hhh=(x' - x)*(Z3*Z3):=by subst hhhh hhh'; rw [hZ3]; rw [show h*h*h=h*(h*h) by grobner]; conv => lhs; lhs; rw [h1]
                                  grobner
 have x3':X3=x3*(Z3*Z3):=by rw [hX3,r1,k1,u1,hx3]; grobner
 refine ⟨x3',?_⟩
 rw [hY3,v1,u1,x3',r1,hy3]; grobner
theorem Z3h {x y x' y' l i b x3 y3:Fin p} (h1:y*y=x*x*x - 3*x+b) (h2:y'*y'=x'*x'*x' - 3*x'+b) (hl:l*(x' - x)=y' - y) (hi:(x' - x)*i=1)
  (hx3:x3=l*l - x - x') (hy3:y3=l*(x - x3) - y):y3*y3=x3*x3*x3 - 3*x3+b:=by
 have k:x*x+x*x'+x'*x' - 3=l*(y+y'):=by
  have:(x' - x)*(x*x+x*x'+x'*x' - 3)=(x' - x)*(l*(y+y')):=by
   have a1:(x' - x)*(l*(y+y'))=(y' - y)*(y+y'):=by rw [← hl]; clear hi hx3 hy3 h1 h2 hl; grobner
   have a2:(y' - y)*(y+y')=y'*y' - y*y:=by clear hi hx3 hy3 h1 h2 hl a1; grobner
   rw [a1,a2,h1,h2]; clear hi hx3 hy3 h1 h2 hl a1 a2; grobner
  have e2:∀ a:Fin p,((x' - x)*i)*a=i*((x' - x)*a):=fun a => by clear hi hx3 hy3 h1 h2 hl this; grobner
  have e:∀ a:Fin p,a=((x' - x)*i)*a:=fun a => by rw [hi]; clear hi hx3 hy3 h1 h2 hl this e2; grobner
  rw [e (x*x+x*x'+x'*x' - 3),e (l*(y+y')),e2,e2,this]
 have hy':y'=y+l*(x' - x):=by rw [hl]; clear hi hx3 hy3 h1 h2 hl k; grobner
 clear hi h2 hl
 subst hx3 hy3 hy'
 grobner
theorem Zyr {x y l b x3 y3:Fin p} (h1:y*y=x*x*x - 3*x+b) (hl:l*(y+y)=3*(x*x - 1))
  (hx3:x3=l*l - x - x) (hy3:y3=l*(x - x3) - y):y3*y3=x3*x3*x3 - 3*x3+b:=by
 subst hx3 hy3
 grobner
end
set_option linter.unusedSectionVars false
def fadd (m a b:Nat):Nat:=(a+b)%m
def fsub (m a b:Nat):Nat:=(a+(m - b))%m
def fmul (m a b:Nat):Nat:=a*b%m
theorem Zm {m:Nat} (h:0<m) (a b:Nat):fadd m a b<m:=Nat.mod_lt _ h
theorem Zi {m:Nat} (h:0<m) (a b:Nat):fsub m a b<m:=Nat.mod_lt _ h
theorem Zh {m:Nat} (h:0<m) (a b:Nat):fmul m a b<m:=Nat.mod_lt _ h
/-! ### Inverses -/
theorem bez (a m:Nat):∃ x y:Int,(a:Int)*x+(m:Int)*y=(Nat.gcd a m:Nat):=by
 induction a,m using Nat.gcd.induction with
 | H0 n => exact ⟨0,1,by simp⟩
 | H1 m n h ih =>
  obtain ⟨x,y,e⟩:=ih
  refine ⟨y - (n / m:Nat)*x,x,?_⟩
  rw [Nat.gcd_rec,← e]
  have:((n%m:Nat):Int)=n - m*(n / m:Nat):=by have:=Nat.div_add_mod n m; omega
  rw [this,Int.mul_sub,Int.sub_mul,Int.mul_assoc]
  omega
theorem Zlw {m a:Nat} (hm:1<m) (h:Nat.gcd a m=1):∃ y,y<m∧a*y%m=1:=by
 obtain ⟨x,y,e⟩:=bez a m
 rw [h] at e
 have h1:0≤x%(m:Int):=Int.emod_nonneg _ (by omega)
 have h2:x%(m:Int)<m:=Int.emod_lt_of_pos _ (by omega)
 refine ⟨(x%(m:Int)).toNat,by omega,?_⟩
 have:((a*(x%(m:Int)).toNat%m:Nat):Int)=1:=by
  rw [Int.natCast_emod,Int.natCast_mul,Int.toNat_of_nonneg h1,Int.mul_emod,Int.emod_emod_of_dvd _ (Int.dvd_refl _),← Int.mul_emod,show (a:Int)*x=1 - m*y by omega,Int.sub_emod,Int.mul_emod_right,Int.sub_zero,Int.emod_emod_of_dvd _ (Int.dvd_refl _)]
  exact Int.emod_eq_of_lt (by decide) (by omega)
 omega
open Classical in
noncomputable def minv (m a:Nat):Nat:=if h:∃ y,y<m∧a*y%m=1 then Classical.choose h else 0
theorem S2 {m a:Nat} (h:∃ y,y<m∧a*y%m=1):minv m a<m∧a*minv m a%m=1:=by
 unfold minv; rw [dif_pos h]; exact Classical.choose_spec h
theorem Zhi {m a y z:Nat} (hy:y<m) (hz:z<m) (h1:a*y%m=1) (h2:a*z%m=1):y=z:=by
 have e1:y*(a*z)%m=y:=by rw [Nat.mul_mod,h2,Nat.mul_one,Nat.mod_mod,Nat.mod_eq_of_lt hy]
 have e2:y*(a*z)%m=z:=by rw [show y*(a*z)=(a*y)*z by rw [Nat.mul_left_comm,Nat.mul_assoc],Nat.mul_mod,h1,Nat.one_mul,Nat.mod_mod,Nat.mod_eq_of_lt hz]
 exact e1.symm.trans e2
theorem Zca {m a y:Nat} (hy:y<m) (h:a*y%m=1):minv m a=y :=
 Zhi (S2 ⟨y,hy,h⟩).1 hy (S2 ⟨y,hy,h⟩).2 h
theorem Dq {p a:Nat} (hp:Prm p) (h:a%p≠0):Nat.gcd a p=1:=by
 rcases hp.2 _ (Nat.gcd_dvd_right a p) with h1 | h1
 ·exact h1
 ·exact absurd (Nat.mod_eq_zero_of_dvd (h1 ▸ Nat.gcd_dvd_left a p)) h
theorem Zbv {p a:Nat} (hp:Prm p) (h0:0<a) (ha:a<p):∃ y,y<p∧a*y%p=1 :=
 Zlw hp.1 (Dq hp (by rw [Nat.mod_eq_of_lt ha]; omega))
/-! ### Numbers modulo p as a ring -/
section
variable {p:Nat} [NeZero p]
def fi (a:Nat):Fin p:=Fin.ofNat p a
theorem El (a:Nat):(fi a:Fin p).val=a%p:=rfl
theorem Em (a b:Nat):(fi (fadd p a b):Fin p)=fi a+fi b:=by
 apply Fin.ext; rw [Fin.val_add]; simp only [El,fadd,Nat.mod_mod,← Nat.add_mod]
theorem Yp (a b:Nat):(fi (fmul p a b):Fin p)=fi a*fi b:=by
 apply Fin.ext; rw [Fin.val_mul]; simp only [El,fmul,Nat.mod_mod,← Nat.mul_mod]
theorem Xy {a b:Nat} (hb:b<p):(fi (fsub p a b):Fin p)=fi a - fi b:=by
 apply Fin.ext
 rw [Fin.sub_def]
 simp only [El,fsub,Nat.mod_mod]
 rw [Nat.mod_eq_of_lt hb,Nat.add_comm,Nat.add_mod,Nat.add_mod (p - b) (a%p),Nat.mod_mod]
theorem Mn {a b:Nat} (ha:a<p) (hb:b<p) (h:(fi a:Fin p)=fi b):a=b:=by
 have:=congrArg Fin.val h
 rwa [El,El,Nat.mod_eq_of_lt ha,Nat.mod_eq_of_lt hb] at this
theorem fi_zero:(fi 0:Fin p)=0:=rfl
theorem Zmp:(fi 1:Fin p)=1:=rfl
theorem Mo {a:Nat} (ha:a<p):(fi a:Fin p)=0↔a=0:=⟨fun h => Mn ha (Nat.pos_of_neZero p) (h.trans fi_zero.symm),fun h => h ▸ rfl⟩
theorem V3 (hp:Prm p) {a b:Fin p} (h:a*b=0):a=0∨b=0:=by
 by_cases ha:a=0
 ·exact .inl ha
 ·refine .inr ?_
  have hv:=congrArg Fin.val h
  rw [Fin.val_mul] at hv
  have h0:((0:Fin p):Nat)=0:=rfl
  rw [h0] at hv
  have ha':a.val%p≠0:=by rw [Nat.mod_eq_of_lt a.2]; exact fun h => ha (Fin.ext h)
  have:=(Nat.Coprime.dvd_of_dvd_mul_left (Nat.Coprime.symm (Dq hp ha')) (Nat.dvd_of_mod_eq_zero hv))
  exact Fin.ext (Nat.eq_zero_of_dvd_of_lt this b.2)
theorem Zcv (hp:Prm p) {a:Nat} (h0:0<a) (ha:a<p):(fi a:Fin p)*fi (minv p a)=1:=by
 have:=(S2 (Zbv hp h0 ha)).2
 rw [← Yp]
 apply Fin.ext
 rw [El,fmul,this,Nat.mod_eq_of_lt hp.1]
 have:((1:Fin p):Nat)=1%p:=rfl
 rw [this,Nat.mod_eq_of_lt hp.1]
end
/-! ### Points -/
structure J3 where
 x:Nat
 y:Nat
 z:Nat
inductive Aff where
 | far
 | pt (x y:Nat)
def jtw (m:Nat):J3→J3
 | ⟨x,y,z⟩ => CheckFast.force (fmul m z z) fun d => CheckFast.force (fmul m y y) fun g => CheckFast.force (fmul m x g) fun be =>
  CheckFast.force (fmul m (fmul m (fsub m x d) (fadd m x d)) 3) fun al => CheckFast.force (fsub m (fmul m al al) (fmul m be 8)) fun x' =>
  CheckFast.force (fsub m (fsub m (fmul m (fadd m y z) (fadd m y z)) g) d) fun z' =>
  CheckFast.force (fsub m (fmul m al (fsub m (fmul m be 4) x')) (fmul m (fmul m g g) 8)) fun y' => ⟨x',y',z'⟩
def jsum (m:Nat):J3→J3→J3
 | ⟨x,y,z⟩,⟨x',y',z'⟩ => bif z == 0 then ⟨x',y',z'⟩ else bif z' == 0 then ⟨x,y,z⟩ else
  CheckFast.force (fmul m z z) fun s => CheckFast.force (fmul m z' z') fun t => CheckFast.force (fmul m x t) fun u => CheckFast.force (fsub m (fmul m x' s) u) fun h =>
  CheckFast.force (fmul m y (fmul m t z')) fun v => CheckFast.force (fsub m (fmul m y' (fmul m s z)) v) fun r =>
  bif h == 0 then (bif r == 0 then jtw m ⟨x,y,z⟩ else ⟨0,0,0⟩) else
  CheckFast.force (fmul m h h) fun hh => CheckFast.force (fmul m hh h) fun hhh => CheckFast.force (fmul m u hh) fun uh =>
  CheckFast.force (fsub m (fsub m (fmul m r r) hhh) (fmul m uh 2)) fun x3 => CheckFast.force (fsub m (fmul m r (fsub m uh x3)) (fmul m v hhh)) fun y3 =>
  CheckFast.force (fmul m h (fmul m z z')) fun z3 => ⟨x3,y3,z3⟩
def jmk (m:Nat) (t:J3):Nat→Nat→J3
 | 0,_ => ⟨0,0,0⟩
 | n+1,k => match k%2 with
  | 0 => jtw m (jmk m t n (k / 2))
  | _+1 => jsum m (jtw m (jmk m t n (k / 2))) t
open Classical in
noncomputable def aadd (m:Nat):Aff→Aff→Aff
 | .far,c => c
 | .pt x y,.far => .pt x y
 | .pt x y,.pt x' y' =>
  if x=x'∧y=fsub m 0 y' then .far else
  let l:=if x=x'∧y=y' then fmul m (fmul m 3 (fsub m (fmul m x x) 1)) (minv m (fadd m y y)) else fmul m (fsub m y' y) (minv m (fsub m x' x))
  let x3:=fsub m (fsub m (fmul m l l) x) x'
  .pt x3 (fsub m (fmul m l (fsub m x x3)) y)
noncomputable def amk (m:Nat) (a:Aff):Nat→Nat→Aff
 | 0,_ => .far
 | n+1,k => if k%2=0 then aadd m (amk m a n (k / 2)) (amk m a n (k / 2)) else aadd m (aadd m (amk m a n (k / 2)) (amk m a n (k / 2))) a
def onB (m b x y:Nat):Bool:=fmul m y y == fadd m (fsub m (fmul m (fmul m x x) x) (fmul m 3 x)) b
def onA (m b:Nat):Aff→Prop
 | .far => True
 | .pt x y => x<m∧y<m∧onB m b x y=true
def jok (m:Nat) (t:J3):Prop:=t.x<m∧t.y<m∧t.z<m
section
variable {p:Nat} [NeZero p]
def rep (t:J3):Aff→Prop
 | .far => t.z=0
 | .pt x y => t.z≠0∧(fi t.x:Fin p)=fi x*(fi t.z*fi t.z)∧(fi t.y:Fin p)=fi y*(fi t.z*(fi t.z*fi t.z))
theorem I2 {b x y:Nat} (hx:x<p) (hy:y<p) (hb:b<p):onB p b x y=true↔(fi y:Fin p)*fi y=fi x*fi x*fi x - 3*fi x+fi b:=by
 have h0:0<p:=Nat.pos_of_neZero p
 rw [onB,beq_iff_eq]
 have e:(fi (fmul p y y):Fin p)=fi (fadd p (fsub p (fmul p (fmul p x x) x) (fmul p 3 x)) b)↔(fi y:Fin p)*fi y=fi x*fi x*fi x - 3*fi x+fi b:=by
  rw [Yp,Em,Xy (Zh h0 _ _),Yp,Yp,Yp]; rfl
 rw [← e]
 exact ⟨fun h => by rw [h],fun h => Mn (Zh h0 _ _) (Zm h0 _ _) h⟩
theorem Ah {t:J3} (h:0<p):jok p (jtw p t):=by
 obtain ⟨x,y,z⟩:=t
 simp only [jtw,CheckFast.force_eq]
 exact ⟨Zi h _ _,Zi h _ _,Zi h _ _⟩
theorem Zcg {s t:J3} (hs:jok p s) (ht:jok p t) (h:0<p):jok p (jsum p s t):=by
 obtain ⟨x,y,z⟩:=s
 obtain ⟨x',y',z'⟩:=t
 simp only [jsum,CheckFast.force_eq]
 cases hz:z == 0
 ·cases hz':z' == 0
  ·simp only [cond_false]
   cases fsub p (fmul p x' (fmul p z z)) (fmul p x (fmul p z' z')) == 0
   ·exact ⟨Zi h _ _,Zi h _ _,Zh h _ _⟩
   ·cases fsub p (fmul p y' (fmul p (fmul p z z) z)) (fmul p y (fmul p (fmul p z' z') z')) == 0
    ·exact ⟨h,h,h⟩
    ·simp only [cond_true]; exact Ah h
  ·exact hs
 ·exact ht
theorem Zts (hp:Prm p) (h3:3<p) {b:Nat} (hb:b<p) {t:J3} {a:Aff} (ht:jok p t) (ha:onA p b a) (h:rep (p:=p) t a):rep (p:=p) (jtw p t) (aadd p a a)∧onA p b (aadd p a a):=by
 have h0:0<p:=Nat.pos_of_neZero p
 obtain ⟨X,Y,Z⟩:=t
 obtain ⟨tx,ty,tz⟩:=ht
 simp only at tx ty tz
 have two:(2:Fin p)≠0:=fun h => by
  have:=congrArg Fin.val h
  have e:((2:Fin p):Nat)=2%p:=rfl
  rw [e,Nat.mod_eq_of_lt (by omega)] at this
  cases this
 have ez:(fi (fsub p (fsub p (fmul p (fadd p Y Z) (fadd p Y Z)) (fmul p Y Y)) (fmul p Z Z)):Fin p)=(fi Y+fi Z)*(fi Y+fi Z) - fi Y*fi Y - fi Z*fi Z:=by
  rw [Xy (Zh h0 _ _),Xy (Zh h0 _ _)]; simp only [Yp,Em]
 cases a with
 | far =>
  obtain rfl:Z=0:=h
  refine ⟨?_,trivial⟩
  show (jtw p ⟨X,Y,0⟩).z=0
  simp only [jtw,CheckFast.force_eq]
  refine (Mo (Zi h0 _ _)).1 ?_
  rw [ez]
  have:(fi 0:Fin p)=0:=rfl
  rw [this]; grobner
 | pt x y =>
  obtain ⟨hx,hy,hon⟩:=ha
  have hon':=(I2 hx hy hb).1 hon
  obtain ⟨hz,hX,hY⟩:=h
  simp only at hz hX hY
  have hZ:(fi Z:Fin p)≠0:=fun h => hz ((Mo tz).1 h)
  by_cases hy0:y=0
  ·subst hy0
   have e:aadd p (.pt x 0) (.pt x 0)=.far:=by
    rw [aadd,if_pos ⟨rfl,by simp [fsub]⟩]
   rw [e]
   refine ⟨?_,trivial⟩
   show (jtw p ⟨X,Y,Z⟩).z=0
   simp only [jtw,CheckFast.force_eq]
   refine (Mo (Zi h0 _ _)).1 ?_
   rw [ez,hY,fi_zero]; grobner
  ·have hyy:(fi y:Fin p)+fi y≠0:=fun h => by
    have:(2:Fin p)*fi y=0:=by grobner
    rcases V3 hp this with h | h
    ·exact two h
    ·exact hy0 ((Mo hy).1 h)
   have hyn:¬ (x=x∧y=fsub p 0 y):=fun h => by
    have e:(fi y:Fin p)=fi 0 - fi y:=by conv => lhs; rw [h.2]
                                        rw [Xy hy]
    rw [fi_zero] at e
    exact hyy (by grobner)
   have e:aadd p (.pt x y) (.pt x y)=.pt (fsub p (fsub p (fmul p (fmul p (fmul p 3 (fsub p (fmul p x x) 1)) (minv p (fadd p y y))) (fmul p (fmul p 3 (fsub p (fmul p x x) 1)) (minv p (fadd p y y)))) x) x) (fsub p (fmul p (fmul p (fmul p 3 (fsub p (fmul p x x) 1)) (minv p (fadd p y y))) (fsub p x (fsub p (fsub p (fmul p (fmul p (fmul p 3 (fsub p (fmul p x x) 1)) (minv p (fadd p y y))) (fmul p (fmul p 3 (fsub p (fmul p x x) 1)) (minv p (fadd p y y)))) x) x))) y):=by
    rw [aadd,if_neg hyn,if_pos ⟨rfl,rfl⟩]
   rw [e]
   have hyy':fadd p y y≠0:=fun h => hyy (by rw [← Em,h]; rfl)
   have hi:=Zcv hp (Nat.pos_of_ne_zero hyy') (Zm h0 y y)
   rw [Em] at hi
   generalize hm:minv p (fadd p y y)=i at *
   generalize hl:fmul p (fmul p 3 (fsub p (fmul p x x) 1)) i=l at *
   have hl':(fi l:Fin p)*(fi y+fi y)=3*(fi x*fi x - 1):=by
    rw [← hl,Yp,Yp,Xy (show 1<p by omega),Yp]
    have:(fi 3:Fin p)=3:=rfl
    rw [this,Zmp]
    have:∀ a:Fin p,a*fi i*(fi y+fi y)=a*((fi y+fi y)*fi i):=fun a => by grobner
    rw [this,hi]; grobner
   generalize hx3:fsub p (fsub p (fmul p l l) x) x=x3
   generalize hy3:fsub p (fmul p l (fsub p x x3)) y=y3
   have x3lt:x3<p:=hx3 ▸ Zi h0 _ _
   have y3lt:y3<p:=hy3 ▸ Zi h0 _ _
   have fx3:(fi x3:Fin p)=fi l*fi l - fi x - fi x:=by rw [← hx3,Xy hx,Xy hx,Yp]
   have fy3:(fi y3:Fin p)=fi l*(fi x - fi x3) - fi y:=by rw [← hy3,Xy hy,Yp,Xy x3lt]
   refine ⟨?_,x3lt,y3lt,(I2 x3lt y3lt hb).2 (Zyr hon' hl' fx3 fy3)⟩
   simp only [jtw,CheckFast.force_eq]
   generalize hd:fmul p Z Z=d
   generalize hg:fmul p Y Y=g
   generalize hbe:fmul p X g=be
   generalize hal:fmul p (fmul p (fsub p X d) (fadd p X d)) 3=al
   generalize hX3:fsub p (fmul p al al) (fmul p be 8)=X3
   generalize hY3:fsub p (fmul p al (fsub p (fmul p be 4) X3)) (fmul p (fmul p g g) 8)=Y3
   generalize hZ3:fsub p (fsub p (fmul p (fadd p Y Z) (fadd p Y Z)) g) d=Z3
   have ltd:d<p:=hd ▸ Zh h0 _ _
   have ltg:g<p:=hg ▸ Zh h0 _ _
   have ltX3:X3<p:=hX3 ▸ Zi h0 _ _
   have ltZ3:Z3<p:=hZ3 ▸ Zi h0 _ _
   obtain ⟨k1,k2,k3⟩:=Z3g (p:=p) hX hY hl' (d:=fi d) (g:=fi g) (be:=fi be) (al:=fi al) (X3:=fi X3) (Y3:=fi Y3) (Z3:=fi Z3) (by rw [← hd,Yp]) (by rw [← hg,Yp]) (by rw [← hbe,Yp])
    (by rw [← hal,Yp,Yp,Xy ltd,Em]; rfl) (by rw [← hX3,Xy (Zh h0 _ _),Yp,Yp]; rfl) (by rw [← hZ3,Xy ltd,Xy ltg,Yp,Em])
    (by rw [← hY3,Xy (Zh h0 _ _),Yp,Xy ltX3,Yp,Yp,Yp]; rfl) fx3 fy3
   refine ⟨fun h => ?_,k1,k2⟩
   rw [show (J3.mk X3 Y3 Z3).z=Z3 from rfl] at h
   rw [h,fi_zero] at k3
   rcases V3 hp k3.symm with h | h
   ·exact hyy h
   ·rcases V3 hp h with h | h <;> rcases V3 hp h with h | h <;> exact hZ h
end
set_option linter.unusedSectionVars false
section
variable {p:Nat} [NeZero p]
theorem Zpc {a b:Fin p} (h:a - b=0):a=b:=by grobner
theorem Z4w {a b:Fin p} (h:a+b=0):a=0 - b:=by grobner
theorem Zyy {a b:Fin p}:(a - a)*b=0:=by grobner
theorem Zvw {a b f:Fin p} (h1:a*a=f) (h2:b*b=f):(a - b)*(a+b)=0:=by grobner
theorem Zbq (hp:Prm p) (h3:3<p) {b:Nat} (hb:b<p) {s t:J3} {a c:Aff} (hs:jok p s) (ht:jok p t) (ha:onA p b a) (hc:onA p b c) (h:rep (p:=p) s a) (h':rep (p:=p) t c):rep (p:=p) (jsum p s t) (aadd p a c)∧onA p b (aadd p a c):=by
 have h0:0<p:=Nat.pos_of_neZero p
 cases a with
 | far =>
  obtain ⟨X,Y,Z⟩:=s
  obtain rfl:Z=0:=h
  obtain ⟨X',Y',Z'⟩:=t
  have e:jsum p ⟨X,Y,0⟩ ⟨X',Y',Z'⟩=⟨X',Y',Z'⟩:=rfl
  rw [e]
  exact ⟨h',hc⟩
 | pt x y =>
  cases c with
  | far =>
   obtain ⟨X,Y,Z⟩:=s
   obtain ⟨X',Y',Z'⟩:=t
   obtain rfl:Z'=0:=h'
   have hz:(Z == 0)=false:=beq_eq_false_iff_ne.2 h.1
   have e:jsum p ⟨X,Y,Z⟩ ⟨X',Y',0⟩=⟨X,Y,Z⟩:=by simp only [jsum,hz,cond_false]; rfl
   rw [e]
   exact ⟨h,ha⟩
  | pt x' y' =>
   have rtw:=Zts hp h3 hb hs ha h
   obtain ⟨X,Y,Z⟩:=s
   obtain ⟨X',Y',Z'⟩:=t
   obtain ⟨tx,ty,tz⟩:=hs
   obtain ⟨tx',ty',tz'⟩:=ht
   obtain ⟨hx,hy,hon⟩:=ha
   obtain ⟨hx',hy',hon'⟩:=hc
   have on1:=(I2 hx hy hb).1 hon
   have on2:=(I2 hx' hy' hb).1 hon'
   obtain ⟨hz,hX,hY⟩:=h
   obtain ⟨hz',hX',hY'⟩:=h'
   simp only at tx ty tz tx' ty' tz' hz hX hY hz' hX' hY'
   have hZ:(fi Z:Fin p)≠0:=fun h => hz ((Mo tz).1 h)
   have hZ':(fi Z':Fin p)≠0:=fun h => hz' ((Mo tz').1 h)
   have nz:∀ {u v:Fin p},u≠0→v≠0→u*v≠0:=fun hu hv h => (V3 hp h).elim hu hv
   have z1:(Z == 0)=false:=beq_eq_false_iff_ne.2 hz
   have z2:(Z' == 0)=false:=beq_eq_false_iff_ne.2 hz'
   have e0:jsum p ⟨X,Y,Z⟩ ⟨X',Y',Z'⟩=jsum p ⟨X,Y,Z⟩ ⟨X',Y',Z'⟩:=rfl
   conv at e0 => rhs; simp only [jsum,CheckFast.force_eq,z1,z2,cond_false]
   rw [e0]
   generalize hs':fmul p Z Z=s' at *
   generalize ht':fmul p Z' Z'=t' at *
   generalize hu:fmul p X t'=u at *
   generalize hh:fsub p (fmul p X' s') u=h at *
   generalize hv:fmul p Y (fmul p t' Z')=v at *
   generalize hr:fsub p (fmul p Y' (fmul p s' Z)) v=r at *
   have ltu:u<p:=hu ▸ Zh h0 _ _
   have lth:h<p:=hh ▸ Zi h0 _ _
   have ltv:v<p:=hv ▸ Zh h0 _ _
   have ltr:r<p:=hr ▸ Zi h0 _ _
   have fs:(fi s':Fin p)=fi Z*fi Z:=by rw [← hs',Yp]
   have ft:(fi t':Fin p)=fi Z'*fi Z':=by rw [← ht',Yp]
   have fu:(fi u:Fin p)=fi X*(fi Z'*fi Z'):=by rw [← hu,Yp,ft]
   have fh:(fi h:Fin p)=fi X'*(fi Z*fi Z) - fi u:=by rw [← hh,Xy ltu,Yp,fs]
   have fv:(fi v:Fin p)=fi Y*((fi Z'*fi Z')*fi Z'):=by rw [← hv,Yp,Yp,ft]
   have fr:(fi r:Fin p)=fi Y'*((fi Z*fi Z)*fi Z) - fi v:=by rw [← hr,Xy ltv,Yp,Yp,fs]
   have gh:(fi h:Fin p)=(fi x' - fi x)*((fi Z*fi Z)*(fi Z'*fi Z')):=by rw [fh,fu,hX,hX']; grobner
   have gr:(fi r:Fin p)=(fi y' - fi y)*((fi Z*fi Z*fi Z)*(fi Z'*fi Z'*fi Z')):=by rw [fr,fv,hY,hY']; grobner
   have nz1:=nz (nz hZ hZ) (nz hZ' hZ')
   have nz2:=nz (nz (nz hZ hZ) hZ) (nz (nz hZ' hZ') hZ')
   have h_iff:h=0↔x=x':=by
    rw [← Mo (p:=p) lth,gh]
    constructor
    ·intro hh0
     rcases V3 hp hh0 with hh1 | hh1
     ·exact (Mn hx' hx (Zpc hh1)).symm
     ·exact absurd hh1 nz1
    ·rintro rfl; exact Zyy
   have r_iff:r=0↔y=y':=by
    rw [← Mo (p:=p) ltr,gr]
    constructor
    ·intro hh0
     rcases V3 hp hh0 with hh1 | hh1
     ·exact (Mn hy' hy (Zpc hh1)).symm
     ·exact absurd hh1 nz2
    ·rintro rfl; exact Zyy
   by_cases hh0:h=0
   ·have hxx:=h_iff.1 hh0
    subst hxx
    by_cases hr0:r=0
    ·have hyy:=r_iff.1 hr0
     subst hyy
     rw [hh0,hr0]
     exact rtw
    ·have hyy:y≠y':=fun h => hr0 (r_iff.2 h)
     have b1:(h == 0)=true:=beq_iff_eq.2 hh0
     have b2:(r == 0)=false:=beq_eq_false_iff_ne.2 hr0
     rw [b1,b2]
     simp only [cond_true,cond_false]
     have:((fi y:Fin p) - fi y')*(fi y+fi y')=0:=Zvw on1 on2
     have hneg:y=fsub p 0 y':=by
      refine Mn hy (Zi h0 _ _) ?_
      rw [Xy hy',fi_zero]
      rcases V3 hp this with hq | hq
      ·exact absurd (Mn hy hy' (Zpc hq)) hyy
      ·exact Z4w hq
     have e:aadd p (.pt x y) (.pt x y')=.far:=by
      rw [aadd,if_pos ⟨rfl,hneg⟩]
     rw [e]
     exact ⟨rfl,trivial⟩
   ·have hxx:x≠x':=fun h => hh0 (h_iff.2 h)
    have b1:(h == 0)=false:=beq_eq_false_iff_ne.2 hh0
    rw [b1]
    simp only [cond_false]
    have e:aadd p (.pt x y) (.pt x' y')=.pt (fsub p (fsub p (fmul p (fmul p (fsub p y' y) (minv p (fsub p x' x))) (fmul p (fsub p y' y) (minv p (fsub p x' x)))) x) x') (fsub p (fmul p (fmul p (fsub p y' y) (minv p (fsub p x' x))) (fsub p x (fsub p (fsub p (fmul p (fmul p (fsub p y' y) (minv p (fsub p x' x))) (fmul p (fsub p y' y) (minv p (fsub p x' x)))) x) x'))) y):=by
     rw [aadd,if_neg (fun h => hxx h.1),if_neg (fun h => hxx h.1)]
    rw [e]
    have hd:(fi x':Fin p) - fi x≠0:=fun h => hxx (Mn hx' hx (Zpc h)).symm
    have hd':fsub p x' x≠0:=fun h => hd (by rw [← Xy hx,h]; rfl)
    have hi:=Zcv hp (Nat.pos_of_ne_zero hd') (Zi h0 x' x)
    rw [Xy hx] at hi
    generalize minv p (fsub p x' x)=i at *
    generalize hl:fmul p (fsub p y' y) i=l at *
    have hl':(fi l:Fin p)*(fi x' - fi x)=fi y' - fi y:=by
     rw [← hl,Yp,Xy hy]
     have:∀ a:Fin p,a*fi i*(fi x' - fi x)=a*((fi x' - fi x)*fi i):=fun a => by grobner
     rw [this,hi]; grobner
    generalize hx3:fsub p (fsub p (fmul p l l) x) x'=x3
    generalize hy3:fsub p (fmul p l (fsub p x x3)) y=y3
    have x3lt:x3<p:=hx3 ▸ Zi h0 _ _
    have y3lt:y3<p:=hy3 ▸ Zi h0 _ _
    have fx3:(fi x3:Fin p)=fi l*fi l - fi x - fi x':=by rw [← hx3,Xy hx',Xy hx,Yp]
    have fy3:(fi y3:Fin p)=fi l*(fi x - fi x3) - fi y:=by rw [← hy3,Xy hy,Yp,Xy x3lt]
    refine ⟨?_,x3lt,y3lt,(I2 x3lt y3lt hb).2 (Z3h on1 on2 hl' hi fx3 fy3)⟩
    generalize hhh:fmul p h h=hh'
    generalize hhhh:fmul p hh' h=hhh'
    generalize huh:fmul p u hh'=uh
    generalize hX3:fsub p (fsub p (fmul p r r) hhh') (fmul p uh 2)=X3
    generalize hY3:fsub p (fmul p r (fsub p uh X3)) (fmul p v hhh')=Y3
    generalize hZ3:fmul p h (fmul p Z Z')=Z3
    have lt3:hhh'<p:=hhhh ▸ Zh h0 _ _
    have ltX3:X3<p:=hX3 ▸ Zi h0 _ _
    have ltZ3:Z3<p:=hZ3 ▸ Zh h0 _ _
    have fZ3:(fi Z3:Fin p)=fi h*(fi Z*fi Z'):=by rw [← hZ3,Yp,Yp]
    obtain ⟨k1,k2⟩:=Zyq (p:=p) hX hY hX' hY' hl' (u:=fi u) (h:=fi h) (v:=fi v) (r:=fi r) (hh:=fi hh') (hhh:=fi hhh') (uh:=fi uh) (X3:=fi X3) (Y3:=fi Y3) (Z3:=fi Z3) fu fh fv fr (by rw [← hhh,Yp]) (by rw [← hhhh,Yp]) (by rw [← huh,Yp])
     (by rw [← hX3,Xy (Zh h0 _ _),Xy lt3,Yp,Yp]; rfl) (by rw [← hY3,Xy (Zh h0 _ _),Yp,Xy ltX3,Yp]) fZ3 fx3 fy3
    refine ⟨fun h => ?_,k1,k2⟩
    rw [show (J3.mk X3 Y3 Z3).z=Z3 from rfl] at h
    rw [h,fi_zero] at fZ3
    rcases V3 hp fZ3.symm with h | h
    ·exact hh0 ((Mo lth).1 h)
    ·rcases V3 hp h with h | h
     ·exact hZ h
     ·exact hZ' h
theorem Ze8 {t:J3} (ht:jok p t):∀ n k,jok p (jmk p t n k)
 | 0,k => by have h0:0<p:=Nat.pos_of_neZero p; exact ⟨h0,h0,h0⟩
 | n+1,k => by
  have h0:0<p:=Nat.pos_of_neZero p
  rw [jmk]
  split
  ·exact Ah h0
  ·exact Zcg (Ah h0) ht h0
theorem Ztt (hp:Prm p) (h3:3<p) {b:Nat} (hb:b<p) {t:J3} {a:Aff} (ht:jok p t) (ha:onA p b a) (h:rep (p:=p) t a):∀ n k,rep (p:=p) (jmk p t n k) (amk p a n k)∧onA p b (amk p a n k)
 | 0,k => ⟨rfl,trivial⟩
 | n+1,k => by
  have h0:0<p:=Nat.pos_of_neZero p
  obtain ⟨i1,i2⟩:=Ztt hp h3 hb ht ha h n (k / 2)
  obtain ⟨j1,j2⟩:=Zts hp h3 hb (Ze8 ht n (k / 2)) i2 i1
  rw [jmk,amk]
  have h2:=Nat.mod_lt k (show 0<2 by decide)
  split
  ·rename_i e
   rw [if_pos e]
   exact ⟨j1,j2⟩
  ·rename_i j e
   rw [if_neg (by omega)]
   exact Zbq hp h3 hb (Ah h0) ht j2 ha j1 h
noncomputable def jflat (m:Nat) (t:J3):Aff:=if t.z=0 then .far else .pt (fmul m t.x (fmul m (minv m t.z) (minv m t.z))) (fmul m t.y (fmul m (fmul m (minv m t.z) (minv m t.z)) (minv m t.z)))
theorem Ai (hp:Prm p) {b:Nat} {t:J3} {a:Aff} (ht:jok p t) (ha:onA p b a) (h:rep (p:=p) t a):jflat p t=a:=by
 have h0:0<p:=Nat.pos_of_neZero p
 obtain ⟨X,Y,Z⟩:=t
 cases a with
 | far => obtain rfl:Z=0:=h; rfl
 | pt x y =>
  obtain ⟨hz,hX,hY⟩:=h
  obtain ⟨tx,ty,tz⟩:=ht
  obtain ⟨hx,hy,hon⟩:=ha
  simp only at hz hX hY tx ty tz
  rw [jflat,if_neg hz]
  simp only
  have hi:=Zcv hp (Nat.pos_of_ne_zero hz) tz
  generalize minv p Z=i at *
  have e1:fmul p X (fmul p i i)=x:=by
   refine Mn (Zh h0 _ _) hx ?_
   rw [Yp,Yp,hX]
   have:(fi x:Fin p)*(fi Z*fi Z)*(fi i*fi i)=fi x*((fi Z*fi i)*(fi Z*fi i)):=by grobner
   rw [this,hi]; grobner
  have e2:fmul p Y (fmul p (fmul p i i) i)=y:=by
   refine Mn (Zh h0 _ _) hy ?_
   rw [Yp,Yp,Yp,hY]
   have:(fi y:Fin p)*(fi Z*(fi Z*fi Z))*(fi i*fi i*fi i)=fi y*((fi Z*fi i)*(fi Z*fi i)*(fi Z*fi i)):=by grobner
   rw [this,hi]; grobner
  rw [e1,e2]
def lift:Aff→J3
 | .far => ⟨0,0,0⟩
 | .pt x y => ⟨x,y,1⟩
theorem Ou (h1:1<p) {b:Nat} {a:Aff} (ha:onA p b a):jok p (lift a):=by
 cases a with
 | far => have h0:0<p:=by omega
          exact ⟨h0,h0,h0⟩
 | pt x y => exact ⟨ha.1,ha.2.1,h1⟩
theorem Nx (a:Aff):rep (p:=p) (lift a) a:=by
 cases a with
 | far => rfl
 | pt x y =>
  refine ⟨Nat.one_ne_zero,?_,?_⟩
  ·show (fi x:Fin p)=fi x*(fi 1*fi 1); rw [Zmp]; grobner
  ·show (fi y:Fin p)=fi y*(fi 1*(fi 1*fi 1)); rw [Zmp]; grobner
end
end Go.Proofs.YtcgjlpdkobmpnaaGreat.Eng

