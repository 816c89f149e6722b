/- The group law of the curve, by slopes. (No program in sight.) -/
import Derived.Test.YtcgjlpdkobmpnaaGreatMEc
import Derived.Test.YtcgjlpdkobmpnaaGreatMRf
import Derived.Test.YtcgjlpdkobmpnaaGreatMPt
import Derived.Test.YtcgjlpdkobmpnaaGreatMPu
namespace Go.Proofs.YtcgjlpdkobmpnaaGreat.Eng
open Go
set_option linter.unusedVariables false
set_option linter.unusedSimpArgs false
set_option linter.unusedSectionVars false
inductive Pt (p:Nat) where
 | far
 | pt (x y:Fin p)
section
variable {p:Nat} [NeZero p]
structure Sp (x y x' y' l:Fin p):Prop where
 c:l*(x' - x)=y' - y
 t:l*(y+y')=x*x+x*x'+x'*x' - 3
def Pt.neg:Pt p→Pt p
 | .far => .far
 | .pt x y => .pt x (0 - y)
def OnC (b:Fin p):Pt p→Prop
 | .far => True
 | .pt x y => y*y=x*x*x - 3*x+b
def Sm:Pt p→Pt p→Pt p→Prop
 | .far,c,d => d=c
 | .pt x y,.far,d => d=.pt x y
 | .pt x y,.pt x' y',d => (x=x'∧y=0 - y'∧d=.far)∨(¬ (x=x'∧y=0 - y')∧∃ l,Sp x y x' y' l∧d=.pt (l*l - x - x') (l*(x - (l*l - x - x')) - y))
structure Fd (p:Nat) [NeZero p] (b:Fin p):Prop where
 nz:∀ a c:Fin p,a*c=0→a=0∨c=0
 inv:∀ a:Fin p,a≠0→∃ i,a*i=1
 two:(2:Fin p)≠0
 three:(3:Fin p)≠0
 sing:b*b≠4
variable {b:Fin p} {x y x' y' x1 y1 x2 y2 x3 y3 l k:Fin p} {A B C D E D' E':Pt p}
theorem Rk {a c:Fin p} (h:a - c=0):a=c:=by grobner
theorem Ob (a:Fin p):0 - (0 - a)=a:=by grobner
theorem OnC.neg (h:OnC b A):OnC b A.neg:=by
 cases A with
 | far => trivial
 | pt x y =>
  show (0 - y)*(0 - y)=_
  have h:y*y=x*x*x - 3*x+b:=h
  rw [← h]; grobner
theorem Sp.symm (h:Sp x y x' y' l):Sp x' y' x y l:=by
 obtain ⟨h1,h2⟩:=h
 exact ⟨by grobner,by grobner⟩
theorem Sp.neg (h:Sp x y x' y' l):Sp x (0 - y) x' (0 - y') (0 - l):=by
 obtain ⟨h1,h2⟩:=h
 exact ⟨by grobner,by grobner⟩
theorem Sp.uniq (K:Fd p b) (h:Sp x y x' y' l) (h':Sp x y x' y' k) (hn:¬ (x=x'∧y=0 - y')):l=k:=by
 obtain ⟨h1,h2⟩:=h
 obtain ⟨h3,h4⟩:=h'
 have e1:(l - k)*(x' - x)=0:=by grobner
 have e2:(l - k)*(y+y')=0:=by grobner
 rcases K.nz _ _ e1 with h | h
 ·exact Rk h
 rcases K.nz _ _ e2 with h' | h'
 ·exact Rk h'
 ·exact absurd ⟨(Rk h).symm,by grobner⟩ hn
theorem Sp.third (h:Sp x y x' y' l):l*(x - (l*l - x - x')) - y=l*(x' - (l*l - x - x')) - y':=by
 obtain ⟨h1,h2⟩:=h
 grobner
theorem Sm.comm (h:Sm A B C):Sm B A C:=by
 cases A with
 | far =>
  cases B with
  | far => exact h
  | pt x y => exact h
 | pt x y =>
  cases B with
  | far => exact h
  | pt x' y' =>
   rcases h with ⟨h1,h2,h3⟩ | ⟨h1,l,h2,h3⟩
   ·exact .inl ⟨h1.symm,by rw [h2,Ob],h3⟩
   ·refine .inr ⟨fun h => h1 ⟨h.1.symm,by rw [h.2,Ob]⟩,l,h2.symm,?_⟩
    rw [h3,h2.third,show l*l - x - x'=l*l - x' - x by grobner]
theorem Sm.func (K:Fd p b) (h:Sm A B C) (h':Sm A B D):C=D:=by
 cases A with
 | far => exact Eq.trans h (Eq.symm h')
 | pt x y =>
  cases B with
  | far => exact Eq.trans h (Eq.symm h')
  | pt x' y' =>
   rcases h with ⟨h1,h2,h3⟩ | ⟨h1,l,h2,h3⟩ <;> rcases h' with ⟨g1,g2,g3⟩ | ⟨g1,k,g2,g3⟩
   ·rw [h3,g3]
   ·exact absurd ⟨h1,h2⟩ g1
   ·exact absurd ⟨g1,g2⟩ h1
   ·rw [h3,g3,h2.uniq K g2 h1]
theorem Sm.neg (h:Sm A B C):Sm A.neg B.neg C.neg:=by
 cases A with
 | far => have h:C=B:=h
          subst h; rfl
 | pt x y =>
  cases B with
  | far => have h:C=.pt x y:=h
           subst h; rfl
  | pt x' y' =>
   rcases h with ⟨h1,h2,h3⟩ | ⟨h1,l,h2,h3⟩
   ·subst h3
    exact .inl ⟨h1,by rw [h2],rfl⟩
   ·subst h3
    refine .inr ⟨fun h => h1 ⟨h.1,?_⟩,0 - l,h2.neg,?_⟩
    ·have:=h.2; grobner
    ·show Pt.pt _ _=Pt.pt _ _
     rw [show (0 - l)*(0 - l)=l*l by grobner]
     congr 1
     grobner
theorem Sp.on (h:Sp x y x' y' l) (h1:y*y=x*x*x - 3*x+b) (hx:x3=l*l - x - x') (hy:y3=l*(x - x3) - y):y3*y3=x3*x3*x3 - 3*x3+b:=by
 obtain ⟨g1,g2⟩:=h
 have e:l*l*(x' - x)+2*l*y=x*x+x*x'+x'*x' - 3:=by
  rw [← g2]
  have:l*l*(x' - x)=l*(y' - y):=by rw [← g1]; clear g1 g2 hx hy h1; grobner
  rw [this]; clear g1 g2 hx hy h1 this; grobner
 have hx':x'=l*l - x - x3:=by clear g1 g2 hy h1 e; grobner
 clear g1 g2 hx
 subst hx' hy
 grobner
theorem Sm.on (ha:OnC b A) (hb:OnC b B) (h:Sm A B C):OnC b C:=by
 cases A with
 | far => have h:C=B:=h
          subst h; exact hb
 | pt x y =>
  cases B with
  | far => have h:C=.pt x y:=h
           subst h; exact ha
  | pt x' y' =>
   rcases h with ⟨h1,h2,h3⟩ | ⟨h1,l,h2,h3⟩
   ·subst h3; trivial
   ·subst h3; exact h2.on ha rfl rfl
theorem Zlm (K:Fd p b) (h:y*y=x*x*x - 3*x+b) (hy:y=0 - y) (hx:3*(x*x - 1)=0):False:=by
 have e0:2*y=0:=by clear h hx; grobner
 rcases K.nz _ _ e0 with h2 | h2
 ·exact K.two h2
 rcases K.nz _ _ hx with h3 | h3
 ·exact K.three h3
 subst h2
 apply K.sing
 clear hx hy e0
 have hb:b=3*x - x*x*x:=by grobner
 have hx1:x*x=1:=by grobner
 rw [hx1] at hb
 subst hb
 grobner
theorem Sm.cancel (K:Fd p b) (ha:OnC b A) (h:Sm A B C):Sm A.neg C B:=by
 cases A with
 | far => exact Eq.symm h
 | pt x y =>
  cases B with
  | far =>
   have h:C=.pt x y:=h
   subst h
   exact .inl ⟨rfl,rfl,rfl⟩
  | pt x' y' =>
   rcases h with ⟨h1,h2,h3⟩ | ⟨h1,l,h2,h3⟩
   ·subst h3
    show Pt.pt x' y'=Pt.pt x (0 - y)
    rw [h1,h2,Ob]
   ·subst h3
    obtain ⟨x3,hx3⟩:∃ x3,x3=l*l - x - x':=⟨_,rfl⟩
    rw [← hx3]
    obtain ⟨y3,hy3⟩:∃ y3,y3=l*(x - x3) - y:=⟨_,rfl⟩
    rw [← hy3]
    have ha:y*y=x*x*x - 3*x+b:=ha
    obtain ⟨g1,g2⟩:=h2
    have e:l*l*(x' - x)+2*l*y=x*x+x*x'+x'*x' - 3:=by
     rw [← g2]
     have:l*l*(x' - x)=l*(y' - y):=by rw [← g1]; clear g1 g2 hx3 hy3 ha; grobner
     rw [this]; clear g1 g2 hx3 hy3 ha this; grobner
    have hx':x'=l*l - x - x3:=by clear g1 g2 hy3 ha e; grobner
    have hy':y'=y+l*(x' - x):=by rw [g1]; clear g1 g2 hx3 hy3 ha e hx'; grobner
    refine .inr ⟨?_,0 - l,⟨?_,?_⟩,?_⟩
    ·rintro ⟨k1,k2⟩
     have k3:y=0 - y:=by
      have:y3=0 - y:=by rw [hy3,← k1]; clear k1 k2 g1 g2 hx3 hy3 ha e hx' hy'; grobner
      rw [this] at k2; clear g1 g2 hx3 hy3 ha e hx' hy' this; grobner
     refine Zlm K ha k3 ?_
     have e0:2*y=0:=by clear ha k1 k2 g1 g2 hx3 hy3 e hx' hy'; grobner
     rw [← k1] at hx'
     clear k1 k2 k3 g1 g2 hx3 hy3 hy' ha
     subst hx'
     grobner
    ·rw [hy3]; clear g1 g2 hx3 hy3 ha e hx' hy'; grobner
    ·rw [hy3]; clear g1 g2 hx3 hy3 ha hy'; subst hx'; grobner
    ·have q1:(0 - l)*(0 - l) - x - x3=x':=by rw [hx']; clear g1 g2 hx3 hy3 ha e hx' hy'; grobner
     rw [q1,hy']
     congr 1
     clear g1 g2 hx3 hy3 ha e hx' hy' q1; grobner
theorem slopes (K:Fd p b) {r:Fin p} (h1:Sp x1 y1 x2 y2 l) (h2:Sp x2 y2 x3 y3 k) (hd:l - k≠0) (hr:r*(l - k)=x3 - x1)
  {xa ya:Fin p} (ha:xa=l*l - x1 - x2) (hya:ya=l*(x1 - xa) - y1):Sp xa ya x3 y3 (0 - (l+r))∧(0 - (l+r))*(0 - (l+r)) - xa - x3 - x2=r*(l+k+r):=by
 obtain ⟨g1,g2⟩:=h1
 obtain ⟨g3,g4⟩:=h2
 -- all from the middle point
 obtain ⟨u,hu⟩:∃ u,u=x1 - x2:=⟨_,rfl⟩
 obtain ⟨v,hv⟩:∃ v,v=x3 - x2:=⟨_,rfl⟩
 obtain ⟨X,hX⟩:∃ X,X=xa - x2:=⟨_,rfl⟩
 have e1:x1=x2+u:=by rw [hu]; clear g1 g2 g3 g4 hr ha hya hu hv hX; grobner
 have e3:x3=x2+v:=by rw [hv]; clear g1 g2 g3 g4 hr ha hya hu hv hX e1; grobner
 have ea:xa=x2+X:=by rw [hX]; clear g1 g2 g3 g4 hr ha hya hu hv hX e1 e3; grobner
 have f1:y1=y2+l*u:=by
  have:l*u=y1 - y2:=by rw [hu]; clear g2 g3 g4 hr ha hya hu hv hX e1 e3 ea; grobner
  rw [this]; clear g1 g2 g3 g4 hr ha hya hu hv hX e1 e3 ea this; grobner
 have f3:y3=y2+k*v:=by
  rw [hv,g3]; clear g1 g2 g3 g4 hr ha hya hu hv hX e1 e3 ea f1; grobner
 clear hu hv hX
 subst e1 e3 ea f1 f3
 have E1:2*y2*l+l*l*u=3*(x2*x2) - 3+3*x2*u+u*u:=by clear g1 g3 g4 hr ha hya; grobner
 have E2:2*y2*k+k*k*v=3*(x2*x2) - 3+3*x2*v+v*v:=by clear g1 g2 g3 hr ha hya E1; grobner
 have hr':r*(l - k)=v - u:=by rw [hr]; clear g1 g2 g3 g4 hr ha hya E1 E2; grobner
 have hX':X=l*l - 3*x2 - u:=by clear g1 g2 g3 g4 hr hr' hya E1 E2; grobner
 have hY':ya=0 - (y2+l*X):=by rw [hya]; clear g1 g2 g3 g4 hr hr' hya E1 E2 hX' ha; grobner
 clear g1 g2 g3 g4 hr ha hya
 -- r A=w+s v
 have key:r*(X - v)=2*y2+(l+k)*v:=by
  have:(l - k)*(r*(X - v) - (2*y2+(l+k)*v))=0:=by
   have q1:(l - k)*(r*(X - v) - (2*y2+(l+k)*v))=(r*(l - k))*(X - v) - (l - k)*(2*y2+(l+k)*v):=by clear E1 E2 hr' hX' hY'; grobner
   rw [q1,hr',hX']
   clear hr' hX' hY' q1
   grobner
  rcases K.nz _ _ this with h | h
  ·exact absurd h hd
  ·exact Rk h
 refine ⟨⟨?_,?_⟩,?_⟩
 ·rw [hY']; clear E1 E2 hr' hX' hY'; grobner
 ·rw [hY']
  have q1:(0 - (l+r))*(0 - (y2+l*X)+(y2+k*v))=l*l*X - l*k*v+r*(l*X - k*v):=by clear E1 E2 hr' hX' hY' key; grobner
  have q2:r*(l*X - k*v)=X*(r*(l - k))+k*(r*(X - v)):=by clear E1 E2 hr' hX' hY' key q1; grobner
  rw [q1,q2,hr',key,hX']
  clear hr' hX' hY' key q1 q2 E1
  grobner
 ·rw [hX']
  have q1:(l+k+r)*r=(2*l+r)*r - r*(l - k):=by clear E1 E2 hr' hX' hY' key; grobner
  have q2:r*(l+k+r)=(l+k+r)*r:=by clear E1 E2 hr' hX' hY' key q1; grobner
  rw [q2,q1,hr']
  clear E1 E2 hr' hX' hY' key q1 q2
  grobner
theorem Sp.noneg (K:Fd p b) (h:Sp x y x' y' l) (hon:y*y=x*x*x - 3*x+b):¬ (x=x'∧y=0 - y'):=by
 rintro ⟨rfl,h2⟩
 obtain ⟨g1,g2⟩:=h
 have e:y'=0 - y:=by rw [h2,Ob]
 subst e
 refine Zlm K hon ?_ ?_
 ·clear hon g2 h2; grobner
 ·clear hon g1 h2; grobner
theorem Sm.assoc (K:Fd p b) (ha:OnC b A) (hb:OnC b B) (hc:OnC b C) (h1:Sm A B D) (h2:Sm D C E) (h3:Sm B C D') (h4:Sm A D' E'):E=E':=by
 cases A with
 | far =>
  have h1:D=B:=h1
  have h4:E'=D':=h4
  subst h1 h4
  exact h2.func K h3
 | pt x1 y1 =>
  cases B with
  | far =>
   have h1:D=.pt x1 y1:=h1
   have h3:D'=C:=h3
   subst h1 h3
   exact h2.func K h4
  | pt x2 y2 =>
   cases C with
   | far =>
    have h3:D'=.pt x2 y2:=h3
    subst h3
    have h2':E=D:=h2.comm
    subst h2'
    exact h1.func K h4
   | pt x3 y3 =>
    have hD:=h1.on ha hb
    have hD':=h3.on hb hc
    have h1c:=h1
    have h3c:=h3
    rcases h1 with ⟨a1,a2,a3⟩ | ⟨a1,l,a2,a3⟩
    ·subst a3
     have h2:E=.pt x3 y3:=h2
     subst h2
     have:=h3c.cancel K hb
     have e:(Pt.pt x2 y2).neg=.pt x1 y1:=by rw [a1,a2]; rfl
     rw [e] at this
     exact this.func K h4
    ·rcases h3 with ⟨b1,b2,b3⟩ | ⟨b1,k,b2,b3⟩
     ·subst b3
      have h4:E'=.pt x1 y1:=h4
      subst h4
      have:=h1c.comm.cancel K hb
      have e:(Pt.pt x2 y2).neg=.pt x3 y3:=by rw [b1,b2]; show Pt.pt x3 (0 - (0 - y3))=_; rw [Ob]
      rw [e] at this
      exact h2.func K this.comm
     ·by_cases hd:l - k=0
      ·have hlk:l=k:=Rk hd
       subst hlk
       by_cases hx:x1=x3
       ·have hy:y1=y3:=by
         subst hx
         have g1:=a2.c; clear a2
         have g3:=b2.c; clear b2
         clear h2 h4 h1c h3c a1 a3 b1 b3 ha hb hc hd hD hD'
         grobner
        subst hx hy
        have:=h1c.comm.func K h3c
        subst this
        exact (h2.comm).func K h4
       ·-- three points of one line
        have hs:l*l=x1+x2+x3:=by
         obtain ⟨g1,g2⟩:=a2
         obtain ⟨g3,g4⟩:=b2
         have:(x3 - x1)*(l*l - (x1+x2+x3))=0:=by
          clear h2 h4 h1c h3c a1 a3 b1 b3 ha hb hc hd hD hD' hx
          have y1e:y1=y2 - l*(x2 - x1):=by clear g2 g3 g4; grobner
          have y3e:y3=y2+l*(x3 - x2):=by clear g1 g2 g4 y1e; grobner
          clear g1 g3
          subst y1e y3e
          grobner
         rcases K.nz _ _ this with h | h
         ·exact absurd (Rk h).symm hx
         ·exact Rk h
        have e1:E=.far:=by
         subst a3
         have q1:l*l - x1 - x2=x3:=by rw [hs]; clear h2 h4 h1c h3c b3 ha hb hc hD hD' hs; grobner
         have q2:l*(x1 - x3) - y1=0 - y3:=by
          have g1:=a2.c; clear a2
          have g3:=b2.c; clear b2
          clear h2 h4 h1c h3c b3 ha hb hc hD hD' hs q1
          grobner
         rw [q1,q2] at h2
         exact h2.func K (.inl ⟨rfl,rfl,rfl⟩)
        have e2:E'=.far:=by
         subst b3
         have q1:l*l - x2 - x3=x1:=by rw [hs]; clear h2 h4 h1c h3c a3 ha hb hc hD hD' hs; grobner
         have q2:l*(x2 - x1) - y2=0 - y1:=by
          have g1:=a2.c; clear a2
          clear h2 h4 h1c h3c a3 ha hb hc hD hD' hs q1
          grobner
         rw [q1,q2] at h4
         exact h4.func K (.inl ⟨rfl,by rw [Ob],rfl⟩)
        rw [e1,e2]
      ·obtain ⟨i,hi⟩:=K.inv _ hd
       have hr:(x3 - x1)*i*(l - k)=x3 - x1:=by
        have:(x3 - x1)*i*(l - k)=(x3 - x1)*((l - k)*i):=by clear h2 h4 h1c h3c a3 b3 ha hb hc hD hD' hi; grobner
        rw [this,hi]; clear h2 h4 h1c h3c a3 b3 ha hb hc hD hD' hi this; grobner
       generalize (x3 - x1)*i=r at hr
       subst a3 b3
       obtain ⟨s1,s2⟩:=slopes K a2 b2 hd hr rfl rfl
       have hd':k - l≠0:=fun h => hd (by clear h2 h4 h1c h3c ha hb hc hD hD' hi hr s1 s2; grobner)
       have hr':r*(k - l)=x1 - x3:=by clear h2 h4 h1c h3c ha hb hc hD hD' hi s1 s2; grobner
       have sw:k*k - x3 - x2=k*k - x2 - x3:=by clear h2 h4 h1c h3c ha hb hc hD hD' hi hr hr' s1 s2; grobner
       have t3:k*(x3 - (k*k - x3 - x2)) - y3=k*(x2 - (k*k - x2 - x3)) - y2:=by rw [b2.third,sw]
       obtain ⟨s3,s4⟩:=slopes K b2.symm a2.symm hd' hr' rfl rfl
       rw [t3,sw] at s3
       rw [sw] at s4
       generalize hxa:l*l - x1 - x2=xa at *
       generalize hya:l*(x1 - xa) - y1=ya at *
       generalize hxb:k*k - x2 - x3=xb at *
       generalize hyb:k*(x2 - xb) - y2=yb at *
       have n1:=s1.noneg K hD
       have n2:=s3.symm.noneg K ha
       have m1:=h2.func K (.inr ⟨n1,_,s1,rfl⟩)
       have m2:=h4.func K (.inr ⟨n2,_,s3.symm,rfl⟩)
       rw [m1,m2,s1.third]
       have q:(0 - (l+r))*(0 - (l+r)) - xa - x3=(0 - (k+r))*(0 - (k+r)) - x1 - xb:=by
        clear h2 h4 h1c h3c ha hb hc hD hD' hi hr hr' s1 s3 t3 m1 m2 hxa hya hxb hyb n1 n2
        grobner
       rw [← q]
       congr 1
       obtain ⟨xe,hxe⟩:∃ xe,xe=(0 - (l+r))*(0 - (l+r)) - xa - x3:=⟨_,rfl⟩
       rw [← hxe] at s2 ⊢
       have q3:xe=x2+r*(l+k+r):=by clear h2 h4 h1c h3c ha hb hc hD hD' hi hr hr' s1 s3 s4 t3 m1 m2 hxa hya hxb hyb n1 n2 q hxe; grobner
       have g1:=a2.c; clear a2
       have g3:=b2.c; clear b2
       clear h2 h4 h1c h3c ha hb hc hD hD' hi hr' s1 s2 s3 s4 t3 m1 m2 hxa hya hxb hyb n1 n2 q hxe
       have y1e:y1=y2 - l*(x2 - x1):=by clear hr g3 q3; grobner
       have y3e:y3=y2+k*(x3 - x2):=by clear hr g1 q3 y1e; grobner
       clear g1 g3
       have x3e:x3=x1+r*(l - k):=by rw [hr]; clear hr q3 y1e y3e; grobner
       clear hr
       subst y1e y3e q3 x3e
       grobner
end
section
variable {p:Nat} [NeZero p]
def cv:Aff→Pt p
 | .far => .far
 | .pt x y => .pt (fi x) (fi y)
structure Crv (p b:Nat) [NeZero p]:Prop where
 hp:Prm p
 h3:3<p
 hb:b<p
 hs:b*b%p≠4%p
variable {b:Nat} {a c d:Aff}
theorem Crv.fd (h:Crv p b):Fd p (fi b) where
 nz:=fun _ _ => W6 h.hp
 inv:=fun a ha => by
  refine ⟨fi (minv p a.val),?_⟩
  have:=Kv (p:=p) h.hp (a:=a.val) (Nat.pos_of_ne_zero fun e => ha (Fin.ext e)) a.2
  rwa [Zx3] at this
 two:=fun e => by
  have:=congrArg Fin.val e
  have e2:((2:Fin p):Nat)=2%p:=rfl
  rw [e2,Nat.mod_eq_of_lt (by have:=h.h3; omega)] at this
  cases this
 three:=fun e => by
  have:=congrArg Fin.val e
  have e2:((3:Fin p):Nat)=3%p:=rfl
  rw [e2,Nat.mod_eq_of_lt (by have:=h.h3; omega)] at this
  cases this
 sing:=fun e => by
  have:=congrArg Fin.val e
  rw [Fin.val_mul,Gy,← Nat.mul_mod] at this
  exact h.hs this
theorem Zyi (h:Crv p b) (ha:onA p b a):OnC (fi b) (cv (p:=p) a):=by
 cases a with
 | far => trivial
 | pt x y => exact (Su ha.1 ha.2.1 h.hb).1 ha.2.2
theorem Z3h (ha:onA p b a) (hc:onA p b c) (h:cv (p:=p) a=cv c):a=c:=by
 cases a with
 | far =>
  cases c with
  | far => rfl
  | pt x y => cases h
 | pt x y =>
  cases c with
  | far => cases h
  | pt x' y' =>
   have h:Pt.pt (fi x:Fin p) (fi y)=Pt.pt (fi x') (fi y'):=h
   injection h with h1 h2
   rw [U0 ha.1 hc.1 h1,U0 ha.2.1 hc.2.1 h2]
theorem R7 (h:Crv p b) (ha:onA p b a) (hc:onA p b c):onA p b (aadd p a c) :=
 (Dw h.hp h.h3 h.hb (Tg h.hp.1 ha) (Tg h.hp.1 hc) ha hc (T8 a) (T8 c)).2
theorem Zsd (h:Crv p b) (ha:onA p b a) (hc:onA p b c):Sm (cv (p:=p) a) (cv c) (cv (aadd p a c)):=by
 have h0:0<p:=Nat.pos_of_neZero p
 have K:=h.fd
 cases a with
 | far => rfl
 | pt x y =>
  cases c with
  | far => rfl
  | pt x' y' =>
   obtain ⟨hx,hy,hon⟩:=ha
   obtain ⟨hx',hy',hon'⟩:=hc
   have on1:=(Su hx hy h.hb).1 hon
   have on2:=(Su hx' hy' h.hb).1 hon'
   by_cases h1:x=x'∧y=fsub p 0 y'
   ·rw [aadd,if_pos h1]
    exact .inl ⟨by rw [h1.1],by rw [h1.2,Yw hy',fi_zero],rfl⟩
   ·have h1':¬ ((fi x:Fin p)=fi x'∧(fi y:Fin p)=0 - fi y'):=fun hh => h1 ⟨U0 hx hx' hh.1,U0 hy (Zh h0 _ _) (by rw [Yw hy',fi_zero]; exact hh.2)⟩
    rw [aadd,if_neg h1]
    -- the slope
    generalize hl:(if x=x'∧y=y' then fmul p (fmul p 3 (fsub p (fmul p x x) 1)) (minv p (fadd p y y)) else fmul p (fsub p y' y) (minv p (fsub p x' x)))=l
    have hs:Sp (fi x:Fin p) (fi y) (fi x') (fi y') (fi l):=by
     by_cases h2:x=x'∧y=y'
     ·rw [if_pos h2] at hl
      obtain ⟨rfl,rfl⟩:=h2
      have hyy:(fi y:Fin p)+fi y≠0:=fun hh => h1' ⟨rfl,by grobner⟩
      have hyy':fadd p y y≠0:=fun hh => hyy (by rw [← Jy,hh]; rfl)
      have hi:=Kv h.hp (Nat.pos_of_ne_zero hyy') (Zn h0 y y)
      rw [Jy] at hi
      generalize minv p (fadd p y y)=i at *
      refine ⟨by grobner,?_⟩
      rw [← hl,Z9,Z9,Yw (show 1<p by have:=h.h3; omega),Z9]
      have:(fi 3:Fin p)=3:=rfl
      rw [this,Zfm]
      have:∀ a:Fin p,a*fi i*(fi y+fi y)=a*((fi y+fi y)*fi i):=fun a => by grobner
      rw [this,hi]; grobner
     ·rw [if_neg h2] at hl
      have hxx:x≠x':=fun hxx => by
       subst hxx
       rcases Zwf h.hp hx hy hy' h.hb hon hon' with hh | hh
       ·exact h2 ⟨rfl,hh⟩
       ·exact h1 ⟨rfl,hh⟩
      have hd:(fi x':Fin p) - fi x≠0:=fun hh => hxx (U0 hx' hx (Rk hh)).symm
      have hd':fsub p x' x≠0:=fun hh => hd (by rw [← Yw hx,hh]; rfl)
      have hi:=Kv h.hp (Nat.pos_of_ne_zero hd') (Zh h0 x' x)
      rw [Yw hx] at hi
      generalize minv p (fsub p x' x)=i at *
      have hl':(fi l:Fin p)*(fi x' - fi x)=fi y' - fi y:=by
       rw [← hl,Z9,Yw hy]
       have:∀ a:Fin p,a*fi i*(fi x' - fi x)=a*((fi x' - fi x)*fi i):=fun a => by grobner
       rw [this,hi]; grobner
      refine ⟨hl',?_⟩
      have e:(fi x' - fi x:Fin p)*(fi l*(fi y+fi y') - (fi x*fi x+fi x*fi x'+fi x'*fi x' - 3))=0:=by
       have q1:(fi x' - fi x:Fin p)*(fi l*(fi y+fi y') - (fi x*fi x+fi x*fi x'+fi x'*fi x' - 3))=(fi l*(fi x' - fi x))*(fi y+fi y') - (fi x' - fi x)*(fi x*fi x+fi x*fi x'+fi x'*fi x' - 3):=by clear hl' hi on1 on2; grobner
       rw [q1,hl']
       clear q1 hl' hi
       grobner
      rcases K.nz _ _ e with hh | hh
      ·exact absurd hh hd
      ·exact Rk hh
    refine .inr ⟨h1',fi l,hs,?_⟩
    show Pt.pt _ _=Pt.pt _ _
    rw [Yw hx',Yw hx,Z9,Yw hy,Z9,Yw (Zh h0 _ _),Yw hx',Yw hx,Z9]
theorem Zjb (h:Crv p b) (ha:onA p b a) (hc:onA p b c) (hd:onA p b d):aadd p (aadd p a c) d=aadd p a (aadd p c d) :=
 Z3h (R7 h (R7 h ha hc) hd) (R7 h ha (R7 h hc hd)) (Sm.assoc h.fd (Zyi h ha) (Zyi h hc) (Zyi h hd) (Zsd h ha hc) (Zsd h (R7 h ha hc) hd) (Zsd h hc hd) (Zsd h ha (R7 h hc hd)))
theorem Zti (a:Aff):aadd p a .far=a:=by cases a <;> rfl
/-! ### Multiples -/
noncomputable def nm (p:Nat) (a:Aff):Nat→Aff
 | 0 => .far
 | k+1 => aadd p (nm p a k) a
theorem Zqx (h:Crv p b) (ha:onA p b a):∀ k,onA p b (nm p a k)
 | 0 => trivial
 | k+1 => R7 h (Zqx h ha k) ha
theorem Zud (h:Crv p b) (ha:onA p b a) (j:Nat):∀ k,nm p a (j+k)=aadd p (nm p a j) (nm p a k)
 | 0 => (Zti _).symm
 | k+1 => by
  show aadd p (nm p a (j+k)) a=aadd p (nm p a j) (aadd p (nm p a k) a)
  rw [Zud h ha j k,Zjb h (Zqx h ha j) (Zqx h ha k) ha]
theorem Zo5 (h:Crv p b) (ha:onA p b a):∀ n k,k<2^n→amk p a n k=nm p a k
 | 0,k,hk => by
  obtain rfl:k=0:=by simpa using hk
  rfl
 | n+1,k,hk => by
  rw [Nat.pow_succ] at hk
  have h2:=Nat.div_add_mod k 2
  have h3:=Nat.mod_lt k (show 0<2 by decide)
  rw [amk,Zo5 h ha n (k / 2) (by omega),← Zud h ha]
  split
  ·congr 1; omega
  ·have:k=(k / 2+k / 2)+1:=by omega
   conv => rhs; rw [this]
   rfl
end
/-! ### Fermat's little theorem -/
/-! ### Numbers of three parts: modulo the cubic -/
structure N3 where
 a:Nat
 b:Nat
 c:Nat
 deriving DecidableEq
section
variable {p:Nat} [NeZero p]
def tv (r:Fin p) (t:N3):Fin p:=fi t.a+fi t.b*r+fi t.c*(r*r)
end
section
variable {p b n:Nat} [NeZero p] {g q:Aff}
def code (p:Nat):Aff→Nat
 | .far => 2*p
 | .pt x y => if 2*y<p then x else p+x
end
set_option maxRecDepth 10000
instance nzP:NeZero (115792089210356248762697446949407573530086143415290314195533631308867097853951:Nat):=⟨by decide⟩
theorem Zyl:Crv (115792089210356248762697446949407573530086143415290314195533631308867097853951:Nat) (41058363725152142129326129780047268409114441015993725554835256314039467401291:Nat):=⟨Fk,by decide,by decide,by decide +kernel⟩
theorem R6:onP Wt:=⟨by decide,by decide,by decide +kernel⟩
theorem Zyq (k:Nat):k<2^blen k:=by
 unfold blen
 split
 ·omega
 ·rename_i h; exact Nat.lt_log2_self
theorem Zlx {a:Aff} (ha:onP a) (k:Nat):mulA k a=nm (115792089210356248762697446949407573530086143415290314195533631308867097853951:Nat) a k:=Zo5 Zyl ha _ _ (Zyq k)
theorem Zlw {a:Aff} (ha:onP a) (k:Nat):onP (mulA k a):=by rw [Zlx ha]; exact Zqx Zyl ha k
theorem Z4q (n k:Nat):rep (p:=(115792089210356248762697446949407573530086143415290314195533631308867097853951:Nat)) (jmk (115792089210356248762697446949407573530086143415290314195533631308867097853951:Nat) (lift Wt) n k) (amk (115792089210356248762697446949407573530086143415290314195533631308867097853951:Nat) Wt n k) :=
 (Zku (p:=(115792089210356248762697446949407573530086143415290314195533631308867097853951:Nat)) Fk (by decide) (b:=(41058363725152142129326129780047268409114441015993725554835256314039467401291:Nat)) (by decide) (Tg (by decide) R6) R6 (T8 Wt) n k).1
instance nzN:NeZero (115792089210356248762697446949407573529996955224135760342422259061068512044369:Nat):=⟨by decide⟩
end Go.Proofs.YtcgjlpdkobmpnaaGreat.Eng
namespace Go.Proofs.YtcgjlpdkobmpnaaGreat.Eng
open Go Go.Proofs
set_option linter.unusedVariables false
set_option linter.unusedSimpArgs false
set_option maxRecDepth 10000
theorem Z1f (r s:Nat) (hr:r<(18446744073709551616:Nat)^4):be ((sgB r s).take 32)=r:=by
 rw [sgB,List.take_left' (Zm 32 r),Zaw]; exact Nat.mod_eq_of_lt (Nat.lt_of_lt_of_le hr (by decide))
theorem Z1g (r s:Nat) (hs:s<(18446744073709551616:Nat)^4):be ((sgB r s).drop 32)=s:=by
 rw [sgB,List.drop_left' (Zm 32 r),Zaw]; exact Nat.mod_eq_of_lt (Nat.lt_of_lt_of_le hs (by decide))
end Go.Proofs.YtcgjlpdkobmpnaaGreat.Eng
namespace Go.Proofs.YtcgjlpdkobmpnaaGreat.Eng
open Go Go.Proofs
set_option linter.unusedVariables false
set_option linter.unusedSimpArgs false
set_option maxRecDepth 10000
set_option maxRecDepth 10000
def nrm (f:Fld):Fld:=⟨f.tag,f.b,vB f.b false⟩
theorem Zmy (k:Nat):getF k []=some []:=by cases k <;> rfl
theorem Zrx (f:Fld):(fldB f).length=3+f.b.length:=by simp [fldB]; omega
theorem Zff:∀ (l:List Fld) (k:Nat),(∀ f ∈ l,0≤f.tag∧f.tag≤255∧f.b.length≤65535)→(putB l).length≤k→getF k (putB l)=some (l.map nrm)
 | [],k,_,_ => Zmy k
 | f::l,k,hw,hk => by
  obtain ⟨t1,t2,t3⟩:=hw f (by simp)
  have e:putB (f::l)=fldB f++putB l:=rfl
  have hl:=Zrx f
  rw [e,List.length_append] at hk
  obtain ⟨k,rfl⟩:∃ j,k=j+1:=⟨k - 1,by omega⟩
  have g0:(fldB f++putB l).getD 0 0=UInt8.ofNat f.tag.toNat:=rfl
  have g1:(fldB f++putB l).getD 1 0=UInt8.ofNat (f.b.length / 256):=rfl
  have g2:(fldB f++putB l).getD 2 0=UInt8.ofNat f.b.length:=rfl
  have d3:(fldB f++putB l).drop 3=f.b++putB l:=rfl
  have hf:flen (fldB f++putB l)=f.b.length:=by
   rw [flen,g1,g2]
   simp
   omega
  have dn:(fldB f++putB l).drop (3+f.b.length)=putB l:=by rw [← hl,List.drop_left]
  rw [e,getF,if_neg (by rw [List.length_append]; omega),hf,if_neg (by rw [List.length_append]; omega),dn,Zff l k (fun g hg => hw g (by simp [hg])) (by omega)]
  have ef:fld1 (fldB f++putB l)=nrm f:=by
   have tk:(f.b++putB l).take f.b.length=f.b:=List.take_left' rfl
   rw [fld1,hf,d3,g0,tk,nrm]
   congr 1
   have:(UInt8.ofNat f.tag.toNat).toNat=f.tag.toNat:=by simp; omega
   rw [this]; omega
  rw [ef]; rfl
theorem Mp (l:List Fld) (i:Nat):((l.map nrm).getD i noF).tag=(l.getD i noF).tag∧((l.map nrm).getD i noF).b=(l.getD i noF).b:=by
 rw [List.getD_eq_getElem?_getD,List.getElem?_map,List.getD_eq_getElem?_getD]
 cases l[i]? <;> exact ⟨rfl,rfl⟩
theorem Zm4 (l:List Fld):V4 (l.map nrm)=V4 l:=by
 have e:∀ i,Tu (l.map nrm) i=Tu l i:=fun i => by
  simp only [Tu,(Mp l i).1,(Mp l i).2,(Mp l (i - 1)).1]
 simp only [V4,List.length_map,e]
theorem Zfe {l:List Fld} (h:V4 l=true):getS (putB l)=some (l.map nrm):=by
 obtain ⟨h1,h2⟩:=As h
 rw [getS,Zff l _ (fun f hf => ?_) (Nat.le_refl _)]
 ·show (if V4 (l.map nrm) then some (l.map nrm) else none)=_
  rw [Zm4,if_pos h]
 ·obtain ⟨i,hi,rfl⟩:=List.mem_iff_getElem.1 hf
  have:=h2 i hi
  rw [List.getD_eq_getElem?_getD,List.getElem?_eq_getElem hi] at this
  have this:1≤l[i].tag∧l[i].tag≤255∧l[i].b.length≤65535:=this
  omega
/-! ### Signed ones -/
theorem Zgy {B:List UInt8} {r s:Nat} (hB:B.length≤65535) (hr:r<(18446744073709551616:Nat)^4) (hs:s<(18446744073709551616:Nat)^4):Xj (sgnd B r s)=some (B,r,s):=by
 rw [Xj,sgnd,Zfe (Zt1 hB)]
 show (if ((1:Int)=1∧(2:Int)=2)∧(sgB r s).length=64 then some (B,be ((sgB r s).take 32),be ((sgB r s).drop 32)) else none)=_
 rw [if_pos ⟨⟨rfl,rfl⟩,Ke r s⟩,Z1f r s hr,Z1g r s hs]
/-! ### Numbers -/
theorem Rq {n:Int} (h0:0≤n) (h1:n<9223372036854775808):numO (beN 8 n.toNat)=n:=by
 rw [numO,Zm,Zaw,Nat.mod_eq_of_lt (by omega),if_pos ⟨rfl,by omega⟩]; omega
end Go.Proofs.YtcgjlpdkobmpnaaGreat.Eng
namespace Go.Proofs.YtcgjlpdkobmpnaaGreat.Eng
open Go Go.Proofs
set_option linter.unusedVariables false
set_option linter.unusedSimpArgs false
set_option maxRecDepth 10000
noncomputable def Bu (r:Rec) (d:Nat):AV:=if recB r=true then issV (recP r) d else .tup [nilS,errA 1]
theorem Ik {r:Rec} (hr:r.ok) (hl:r.b.length≤500):(recP r).length≤10000:=by
 have:=Zet (recF r nilS) 500 fun f hf => ?_
 ·exact Nat.le_trans this (by rw [Il]; decide)
 ·rw [recF,List.mem_append] at hf
  rcases hf with hf | hf
  ·obtain ⟨i,n,rfl⟩:=B8 hf
   show (beN 8 _).length≤_
   rw [Zm]; decide
  ·simp only [List.mem_cons,List.not_mem_nil,or_false] at hf
   rcases hf with rfl | rfl
   ·show r.prev.length≤_; have:=hr.1; omega
   ·exact hl
theorem Dg {H:AH} {r:Rec} {d:Nat} (hr:r.ok) (hd:d<(18446744073709551616:Nat)^4):Called Tryz.prog F.record_Issue [.agg r.cells,.agg (num d)] H (Bu r d) H:=by
 have n4:∀ a,(num a).length=4:=fun a => Zb _ _
 have e4:[Z0,Z0,Z0,Z0]=num 0:=rfl
 have e84:Z0::Z0::Z0::Z0::num 0=sgc 0 0:=rfl
 refine Fy ?_
 simp only [Pl,go_sem,Zg,Yf,Zd,n4,Rm hr,Zkv,Xm hr,Mh hr]
 refine Za (Zvq hr _) (fun _ => rfl) ?_
 rw [Zes,Bu]
 cases hb:recB r
 ·simp only [go_sem]
  exact Zc rfl
 ·have hl5:=(Nj hb).2
  have lB:=Ik hr hl5
  rw [if_pos rfl,if_pos rfl,Hd hr hl5]
  generalize recP r=B at *
  simp only [go_sem,Zg,Yf,Zd,n4]
  refine Za ⟨rfl,fun G => Zd0 (Sl.vB B false) (by omega)⟩ (fun _ => rfl) ?_
  have hsl:=Rl B
  rw [issV]
  generalize sha B=h at *
  simp only [go_sem]
  refine Za ⟨rfl,fun G => Z05 hd hsl⟩ (fun _ => rfl) ?_
  cases hm:Xa d
  ·simp only [go_sem,e4,e84,Yu,Yy,Ya,Yo]
   exact Zc rfl
  ·rw [if_pos rfl,if_pos rfl]
   cases hS:Kc d h with
   | none =>
    simp only [sigV,go_sem,e4,e84,Yu,Yy,Ya,Yo]
    exact Zc rfl
   | some rs =>
    obtain ⟨r',s⟩:=rs
    obtain ⟨m1,m2⟩:=Zbs hS
    simp only [sigV,go_sem,e4,e84,Yu,Yy,Ya,Yo,Zq,fillv]
    refine Za (Zpo (Ht m1) (Ht m2)) (fun _ => rfl) ?_
    have sl:=Ke r' s
    simp only [go_sem,Zq,fillv,Y1]
    refine ⟨by decide,Za (Z07 (l:=sgF B r' s) (.view rfl _) (fun f hf => Z1e B r' s f hf _) (Nat.le_of_ble_eq_true rfl)) (fun _ => rfl) ?_⟩
    rw [Zql (by omega)]
    simp only [go_sem]
    exact Zc (by simp only [low,lowL,vB,Pc])
end Go.Proofs.YtcgjlpdkobmpnaaGreat.Eng
namespace Go.Proofs.YtcgjlpdkobmpnaaGreat.Eng
open Go Go.Proofs
set_option linter.unusedVariables false
set_option linter.unusedSimpArgs false
set_option maxRecDepth 10000
def ownR (r:Rec):Rec:={ r with e:=if 0<r.b.length then vB r.b false else nilS }
theorem Zqr (r:Rec):recB (ownR r)=recB r:=rfl
theorem Zw7 (l:List Fld) (i:Nat):((l.map nrm).getD i noF).tag=(l.getD i noF).tag:=(Mp l i).1
theorem Z1y (l:List Fld) (i:Nat):((l.map nrm).getD i noF).b=(l.getD i noF).b:=(Mp l i).2
theorem Zh7 {l:List Fld} {n:Nat} (h:V4 l=true) (hl:l.length=n) (ht:∀ i,i<n→(l.getD i noF).tag=(i:Int)+1):Wk (putB l) n=some (l.map nrm):=by
 rw [Wk,Zfe h]
 have e:Qx (l.map nrm) n=true:=by
  simp only [Qx,Bool.and_eq_true,decide_eq_true_eq,List.length_map]
  exact ⟨hl,fun i hi => by rw [Zw7]; exact ht i (by omega)⟩
 show (if Qx (l.map nrm) n then some (l.map nrm) else none)=_
 rw [if_pos e]
theorem Zqh {r:Rec} (h:recB r=true):recL ((recF r nilS).map nrm)=ownR r:=by
 obtain ⟨hw,hl5⟩:=Nj h
 have w0:=hw 0
 have w1:=hw 1
 have w2:=hw 2
 have w3:=hw 3
 have w4:=hw 4
 have w5:=hw 5
 have w6:=hw 6
 have w7:=hw 7
 have n0:numO (beN 8 r.dev.toNat)=r.dev:=Rq w0.1 w0.2
 have n1:numO (beN 8 r.seq.toNat)=r.seq:=Rq w1.1 w1.2
 have n2:numO (beN 8 r.min_.toNat)=r.min_:=Rq w2.1 w2.2
 have n3:numO (beN 8 r.kind.toNat)=r.kind:=Rq w3.1 w3.2
 have n4:numO (beN 8 r.stop.toNat)=r.stop:=Rq w4.1 w4.2
 have n5:numO (beN 8 r.zone.toNat)=r.zone:=Rq w5.1 w5.2
 have n6:numO (beN 8 r.serial.toNat)=r.serial:=Rq w6.1 w6.2
 have n7:numO (beN 8 r.verdict.toNat)=r.verdict:=Rq w7.1 w7.2
 show Rec.mk (numO (beN 8 r.dev.toNat)) (numO (beN 8 r.seq.toNat)) (numO (beN 8 r.min_.toNat)) (numO (beN 8 r.kind.toNat)) (numO (beN 8 r.stop.toNat)) (numO (beN 8 r.zone.toNat)) (numO (beN 8 r.serial.toNat)) (numO (beN 8 r.verdict.toNat)) r.prev r.b (if 0<r.b.length then vB r.b false else nilS)=_
 rw [n0,n1,n2,n3,n4,n5,n6,n7]
 rfl
theorem Zk1 {r:Rec} (hr:r.ok) (h:recB r=true):Vz (recP r)=ownR r:=by
 obtain ⟨hw,hl5⟩:=Nj h
 have hf:=Zh7 (Bs hr hl5 nilS) (Il r nilS) fun i hi => (Zeo r hr hl5 nilS i hi).1
 have ok:T5 ((recF r nilS).map nrm)=true:=by
  simp only [T5,Bool.and_eq_true,decide_eq_true_eq]
  refine ⟨?_,fun i hi => ?_⟩
  ·rw [Z1y]; exact hr.1
  ·rw [Z1y]
   have g:((recF r nilS).getD i noF).b=beN 8 (r.ns.getD i 0).toNat:=by
    match i,hi with
    | 0,_ => rfl
    | 1,_ => rfl
    | 2,_ => rfl
    | 3,_ => rfl
    | 4,_ => rfl
    | 5,_ => rfl
    | 6,_ => rfl
    | 7,_ => rfl
   rw [g,Rq (hw i).1 (hw i).2]; exact (hw i).1
 rw [Vz,recP,hf]
 show (if T5 ((recF r nilS).map nrm) then recL ((recF r nilS).map nrm) else noRec)=_
 rw [if_pos ok,Zqh h]
theorem D3 {r:Rec} {a c:Nat} (hr:r.ok) (h:recB r=true) (ha:a<(18446744073709551616:Nat)^4) (hc:c<(18446744073709551616:Nat)^4):Qz (sgnd (recP r) a c)=some (ownR r,sha (recP r),a,c):=by
 have hp:=Zgy (B:=recP r) (by have:=Ik hr (Nj h).2; omega) ha hc
 rw [Qz,hp]
 show (if recB (Vz (recP r)) then some (Vz (recP r),sha (recP r),a,c) else none)=_
 rw [Zk1 hr h,Zqr,if_pos h]
end Go.Proofs.YtcgjlpdkobmpnaaGreat.Eng

