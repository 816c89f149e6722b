/- The group law of the curve, by slopes. (No program in sight.) -/
import Derived.Test.YtgfploghjpbcaaaMEc
import Derived.Test.YtgfploghjpbcaaaMPt
namespace Go.Proofs.Ytgfploghjpbcaaa.Eng
open Go
set_option linter.unusedVariables false
set_option linter.unusedSimpArgs false
set_option linter.unusedSectionVars false
inductive Pt (p:Nat) where
 | far
 | pt (x y:Fin p)
section
variable {p:Nat} [NeZero p]
structure Sp (x y x' y' l:Fin p):Prop where
 c:l*(x' - x)=y' - y
 t:l*(y+y')=x*x+x*x'+x'*x' - 3
def Pt.neg:Pt p→Pt p
 | .far => .far
 | .pt x y => .pt x (0 - y)
def OnC (b:Fin p):Pt p→Prop
 | .far => True
 | .pt x y => y*y=x*x*x - 3*x+b
def Sm:Pt p→Pt p→Pt p→Prop
 | .far,c,d => d=c
 | .pt x y,.far,d => d=.pt x y
 | .pt x y,.pt x' y',d => (x=x'∧y=0 - y'∧d=.far)∨(¬ (x=x'∧y=0 - y')∧∃ l,Sp x y x' y' l∧d=.pt (l*l - x - x') (l*(x - (l*l - x - x')) - y))
structure Fd (p:Nat) [NeZero p] (b:Fin p):Prop where
 nz:∀ a c:Fin p,a*c=0→a=0∨c=0
 inv:∀ a:Fin p,a≠0→∃ i,a*i=1
 two:(2:Fin p)≠0
 three:(3:Fin p)≠0
 sing:b*b≠4
variable {b:Fin p} {x y x' y' x1 y1 x2 y2 x3 y3 l k:Fin p} {A B C D E D' E':Pt p}
theorem sub_eq0 {a c:Fin p} (h:a - c=0):a=c:=by grobner
theorem neg_neg0 (a:Fin p):0 - (0 - a)=a:=by grobner
theorem Pt.neg_neg (A:Pt p):A.neg.neg=A:=by
 cases A with
 | far => rfl
 | pt x y => show Pt.pt x (0 - (0 - y))=_; rw [neg_neg0]
theorem OnC.neg (h:OnC b A):OnC b A.neg:=by
 cases A with
 | far => trivial
 | pt x y =>
  show (0 - y)*(0 - y)=_
  have h:y*y=x*x*x - 3*x+b:=h
  rw [← h]; grobner
theorem Sp.symm (h:Sp x y x' y' l):Sp x' y' x y l:=by
 obtain ⟨h1,h2⟩:=h
 exact ⟨by grobner,by grobner⟩
theorem Sp.neg (h:Sp x y x' y' l):Sp x (0 - y) x' (0 - y') (0 - l):=by
 obtain ⟨h1,h2⟩:=h
 exact ⟨by grobner,by grobner⟩
theorem Sp.uniq (K:Fd p b) (h:Sp x y x' y' l) (h':Sp x y x' y' k) (hn:¬ (x=x'∧y=0 - y')):l=k:=by
 obtain ⟨h1,h2⟩:=h
 obtain ⟨h3,h4⟩:=h'
 have e1:(l - k)*(x' - x)=0:=by grobner
 have e2:(l - k)*(y+y')=0:=by grobner
 rcases K.nz _ _ e1 with h | h
 ·exact sub_eq0 h
 rcases K.nz _ _ e2 with h' | h'
 ·exact sub_eq0 h'
 ·exact absurd ⟨(sub_eq0 h).symm,by grobner⟩ hn
theorem Sp.third (h:Sp x y x' y' l):l*(x - (l*l - x - x')) - y=l*(x' - (l*l - x - x')) - y':=by
 obtain ⟨h1,h2⟩:=h
 grobner
theorem Sm.comm (h:Sm A B C):Sm B A C:=by
 cases A with
 | far =>
  cases B with
  | far => exact h
  | pt x y => exact h
 | pt x y =>
  cases B with
  | far => exact h
  | pt x' y' =>
   rcases h with ⟨h1,h2,h3⟩ | ⟨h1,l,h2,h3⟩
   ·exact .inl ⟨h1.symm,by rw [h2,neg_neg0],h3⟩
   ·refine .inr ⟨fun h => h1 ⟨h.1.symm,by rw [h.2,neg_neg0]⟩,l,h2.symm,?_⟩
    rw [h3,h2.third,show l*l - x - x'=l*l - x' - x by grobner]
theorem Sm.func (K:Fd p b) (h:Sm A B C) (h':Sm A B D):C=D:=by
 cases A with
 | far => exact Eq.trans h (Eq.symm h')
 | pt x y =>
  cases B with
  | far => exact Eq.trans h (Eq.symm h')
  | pt x' y' =>
   rcases h with ⟨h1,h2,h3⟩ | ⟨h1,l,h2,h3⟩ <;> rcases h' with ⟨g1,g2,g3⟩ | ⟨g1,k,g2,g3⟩
   ·rw [h3,g3]
   ·exact absurd ⟨h1,h2⟩ g1
   ·exact absurd ⟨g1,g2⟩ h1
   ·rw [h3,g3,h2.uniq K g2 h1]
theorem Sm.neg (h:Sm A B C):Sm A.neg B.neg C.neg:=by
 cases A with
 | far => have h:C=B:=h
          subst h; rfl
 | pt x y =>
  cases B with
  | far => have h:C=.pt x y:=h
           subst h; rfl
  | pt x' y' =>
   rcases h with ⟨h1,h2,h3⟩ | ⟨h1,l,h2,h3⟩
   ·subst h3
    exact .inl ⟨h1,by rw [h2],rfl⟩
   ·subst h3
    refine .inr ⟨fun h => h1 ⟨h.1,?_⟩,0 - l,h2.neg,?_⟩
    ·have:=h.2; grobner
    ·show Pt.pt _ _=Pt.pt _ _
     rw [show (0 - l)*(0 - l)=l*l by grobner]
     congr 1
     grobner
theorem Sp.on (h:Sp x y x' y' l) (h1:y*y=x*x*x - 3*x+b) (hx:x3=l*l - x - x') (hy:y3=l*(x - x3) - y):y3*y3=x3*x3*x3 - 3*x3+b:=by
 obtain ⟨g1,g2⟩:=h
 have e:l*l*(x' - x)+2*l*y=x*x+x*x'+x'*x' - 3:=by
  rw [← g2]
  have:l*l*(x' - x)=l*(y' - y):=by rw [← g1]; clear g1 g2 hx hy h1; grobner
  rw [this]; clear g1 g2 hx hy h1 this; grobner
 have hx':x'=l*l - x - x3:=by clear g1 g2 hy h1 e; grobner
 clear g1 g2 hx
 subst hx' hy
 grobner
theorem Sm.on (ha:OnC b A) (hb:OnC b B) (h:Sm A B C):OnC b C:=by
 cases A with
 | far => have h:C=B:=h
          subst h; exact hb
 | pt x y =>
  cases B with
  | far => have h:C=.pt x y:=h
           subst h; exact ha
  | pt x' y' =>
   rcases h with ⟨h1,h2,h3⟩ | ⟨h1,l,h2,h3⟩
   ·subst h3; trivial
   ·subst h3; exact h2.on ha rfl rfl
theorem no_sing (K:Fd p b) (h:y*y=x*x*x - 3*x+b) (hy:y=0 - y) (hx:3*(x*x - 1)=0):False:=by
 have e0:2*y=0:=by clear h hx; grobner
 rcases K.nz _ _ e0 with h2 | h2
 ·exact K.two h2
 rcases K.nz _ _ hx with h3 | h3
 ·exact K.three h3
 subst h2
 apply K.sing
 clear hx hy e0
 have hb:b=3*x - x*x*x:=by grobner
 have hx1:x*x=1:=by grobner
 rw [hx1] at hb
 subst hb
 grobner
theorem Sm.cancel (K:Fd p b) (ha:OnC b A) (h:Sm A B C):Sm A.neg C B:=by
 cases A with
 | far => exact Eq.symm h
 | pt x y =>
  cases B with
  | far =>
   have h:C=.pt x y:=h
   subst h
   exact .inl ⟨rfl,rfl,rfl⟩
  | pt x' y' =>
   rcases h with ⟨h1,h2,h3⟩ | ⟨h1,l,h2,h3⟩
   ·subst h3
    show Pt.pt x' y'=Pt.pt x (0 - y)
    rw [h1,h2,neg_neg0]
   ·subst h3
    obtain ⟨x3,hx3⟩:∃ x3,x3=l*l - x - x':=⟨_,rfl⟩
    rw [← hx3]
    obtain ⟨y3,hy3⟩:∃ y3,y3=l*(x - x3) - y:=⟨_,rfl⟩
    rw [← hy3]
    have ha:y*y=x*x*x - 3*x+b:=ha
    obtain ⟨g1,g2⟩:=h2
    have e:l*l*(x' - x)+2*l*y=x*x+x*x'+x'*x' - 3:=by
     rw [← g2]
     have:l*l*(x' - x)=l*(y' - y):=by rw [← g1]; clear g1 g2 hx3 hy3 ha; grobner
     rw [this]; clear g1 g2 hx3 hy3 ha this; grobner
    have hx':x'=l*l - x - x3:=by clear g1 g2 hy3 ha e; grobner
    have hy':y'=y+l*(x' - x):=by rw [g1]; clear g1 g2 hx3 hy3 ha e hx'; grobner
    refine .inr ⟨?_,0 - l,⟨?_,?_⟩,?_⟩
    ·rintro ⟨k1,k2⟩
     have k3:y=0 - y:=by
      have:y3=0 - y:=by rw [hy3,← k1]; clear k1 k2 g1 g2 hx3 hy3 ha e hx' hy'; grobner
      rw [this] at k2; clear g1 g2 hx3 hy3 ha e hx' hy' this; grobner
     refine no_sing K ha k3 ?_
     have e0:2*y=0:=by clear ha k1 k2 g1 g2 hx3 hy3 e hx' hy'; grobner
     rw [← k1] at hx'
     clear k1 k2 k3 g1 g2 hx3 hy3 hy' ha
     subst hx'
     grobner
    ·rw [hy3]; clear g1 g2 hx3 hy3 ha e hx' hy'; grobner
    ·rw [hy3]; clear g1 g2 hx3 hy3 ha hy'; subst hx'; grobner
    ·have q1:(0 - l)*(0 - l) - x - x3=x':=by rw [hx']; clear g1 g2 hx3 hy3 ha e hx' hy'; grobner
     rw [q1,hy']
     congr 1
     clear g1 g2 hx3 hy3 ha e hx' hy' q1; grobner
theorem slopes (K:Fd p b) {r:Fin p} (h1:Sp x1 y1 x2 y2 l) (h2:Sp x2 y2 x3 y3 k) (hd:l - k≠0) (hr:r*(l - k)=x3 - x1)
  {xa ya:Fin p} (ha:xa=l*l - x1 - x2) (hya:ya=l*(x1 - xa) - y1):Sp xa ya x3 y3 (0 - (l+r))∧(0 - (l+r))*(0 - (l+r)) - xa - x3 - x2=r*(l+k+r):=by
 obtain ⟨g1,g2⟩:=h1
 obtain ⟨g3,g4⟩:=h2
 -- all from the middle point
 obtain ⟨u,hu⟩:∃ u,u=x1 - x2:=⟨_,rfl⟩
 obtain ⟨v,hv⟩:∃ v,v=x3 - x2:=⟨_,rfl⟩
 obtain ⟨X,hX⟩:∃ X,X=xa - x2:=⟨_,rfl⟩
 have e1:x1=x2+u:=by rw [hu]; clear g1 g2 g3 g4 hr ha hya hu hv hX; grobner
 have e3:x3=x2+v:=by rw [hv]; clear g1 g2 g3 g4 hr ha hya hu hv hX e1; grobner
 have ea:xa=x2+X:=by rw [hX]; clear g1 g2 g3 g4 hr ha hya hu hv hX e1 e3; grobner
 have f1:y1=y2+l*u:=by
  have:l*u=y1 - y2:=by rw [hu]; clear g2 g3 g4 hr ha hya hu hv hX e1 e3 ea; grobner
  rw [this]; clear g1 g2 g3 g4 hr ha hya hu hv hX e1 e3 ea this; grobner
 have f3:y3=y2+k*v:=by
  rw [hv,g3]; clear g1 g2 g3 g4 hr ha hya hu hv hX e1 e3 ea f1; grobner
 clear hu hv hX
 subst e1 e3 ea f1 f3
 have E1:2*y2*l+l*l*u=3*(x2*x2) - 3+3*x2*u+u*u:=by clear g1 g3 g4 hr ha hya; grobner
 have E2:2*y2*k+k*k*v=3*(x2*x2) - 3+3*x2*v+v*v:=by clear g1 g2 g3 hr ha hya E1; grobner
 have hr':r*(l - k)=v - u:=by rw [hr]; clear g1 g2 g3 g4 hr ha hya E1 E2; grobner
 have hX':X=l*l - 3*x2 - u:=by clear g1 g2 g3 g4 hr hr' hya E1 E2; grobner
 have hY':ya=0 - (y2+l*X):=by rw [hya]; clear g1 g2 g3 g4 hr hr' hya E1 E2 hX' ha; grobner
 clear g1 g2 g3 g4 hr ha hya
 -- r A=w+s v
 have key:r*(X - v)=2*y2+(l+k)*v:=by
  have:(l - k)*(r*(X - v) - (2*y2+(l+k)*v))=0:=by
   have q1:(l - k)*(r*(X - v) - (2*y2+(l+k)*v))=(r*(l - k))*(X - v) - (l - k)*(2*y2+(l+k)*v):=by clear E1 E2 hr' hX' hY'; grobner
   rw [q1,hr',hX']
   clear hr' hX' hY' q1
   grobner
  rcases K.nz _ _ this with h | h
  ·exact absurd h hd
  ·exact sub_eq0 h
 refine ⟨⟨?_,?_⟩,?_⟩
 ·rw [hY']; clear E1 E2 hr' hX' hY'; grobner
 ·rw [hY']
  have q1:(0 - (l+r))*(0 - (y2+l*X)+(y2+k*v))=l*l*X - l*k*v+r*(l*X - k*v):=by clear E1 E2 hr' hX' hY' key; grobner
  have q2:r*(l*X - k*v)=X*(r*(l - k))+k*(r*(X - v)):=by clear E1 E2 hr' hX' hY' key q1; grobner
  rw [q1,q2,hr',key,hX']
  clear hr' hX' hY' key q1 q2 E1
  grobner
 ·rw [hX']
  have q1:(l+k+r)*r=(2*l+r)*r - r*(l - k):=by clear E1 E2 hr' hX' hY' key; grobner
  have q2:r*(l+k+r)=(l+k+r)*r:=by clear E1 E2 hr' hX' hY' key q1; grobner
  rw [q2,q1,hr']
  clear E1 E2 hr' hX' hY' key q1 q2
  grobner
theorem Sp.noneg (K:Fd p b) (h:Sp x y x' y' l) (hon:y*y=x*x*x - 3*x+b):¬ (x=x'∧y=0 - y'):=by
 rintro ⟨rfl,h2⟩
 obtain ⟨g1,g2⟩:=h
 have e:y'=0 - y:=by rw [h2,neg_neg0]
 subst e
 refine no_sing K hon ?_ ?_
 ·clear hon g2 h2; grobner
 ·clear hon g1 h2; grobner
theorem Sm.assoc (K:Fd p b) (ha:OnC b A) (hb:OnC b B) (hc:OnC b C) (h1:Sm A B D) (h2:Sm D C E) (h3:Sm B C D') (h4:Sm A D' E'):E=E':=by
 cases A with
 | far =>
  have h1:D=B:=h1
  have h4:E'=D':=h4
  subst h1 h4
  exact h2.func K h3
 | pt x1 y1 =>
  cases B with
  | far =>
   have h1:D=.pt x1 y1:=h1
   have h3:D'=C:=h3
   subst h1 h3
   exact h2.func K h4
  | pt x2 y2 =>
   cases C with
   | far =>
    have h3:D'=.pt x2 y2:=h3
    subst h3
    have h2':E=D:=h2.comm
    subst h2'
    exact h1.func K h4
   | pt x3 y3 =>
    have hD:=h1.on ha hb
    have hD':=h3.on hb hc
    have h1c:=h1
    have h3c:=h3
    rcases h1 with ⟨a1,a2,a3⟩ | ⟨a1,l,a2,a3⟩
    ·subst a3
     have h2:E=.pt x3 y3:=h2
     subst h2
     have:=h3c.cancel K hb
     have e:(Pt.pt x2 y2).neg=.pt x1 y1:=by rw [a1,a2]; rfl
     rw [e] at this
     exact this.func K h4
    ·rcases h3 with ⟨b1,b2,b3⟩ | ⟨b1,k,b2,b3⟩
     ·subst b3
      have h4:E'=.pt x1 y1:=h4
      subst h4
      have:=h1c.comm.cancel K hb
      have e:(Pt.pt x2 y2).neg=.pt x3 y3:=by rw [b1,b2]; show Pt.pt x3 (0 - (0 - y3))=_; rw [neg_neg0]
      rw [e] at this
      exact h2.func K this.comm
     ·by_cases hd:l - k=0
      ·have hlk:l=k:=sub_eq0 hd
       subst hlk
       by_cases hx:x1=x3
       ·have hy:y1=y3:=by
         subst hx
         have g1:=a2.c; clear a2
         have g3:=b2.c; clear b2
         clear h2 h4 h1c h3c a1 a3 b1 b3 ha hb hc hd hD hD'
         grobner
        subst hx hy
        have:=h1c.comm.func K h3c
        subst this
        exact (h2.comm).func K h4
       ·-- three points of one line
        have hs:l*l=x1+x2+x3:=by
         obtain ⟨g1,g2⟩:=a2
         obtain ⟨g3,g4⟩:=b2
         have:(x3 - x1)*(l*l - (x1+x2+x3))=0:=by
          clear h2 h4 h1c h3c a1 a3 b1 b3 ha hb hc hd hD hD' hx
          have y1e:y1=y2 - l*(x2 - x1):=by clear g2 g3 g4; grobner
          have y3e:y3=y2+l*(x3 - x2):=by clear g1 g2 g4 y1e; grobner
          clear g1 g3
          subst y1e y3e
          grobner
         rcases K.nz _ _ this with h | h
         ·exact absurd (sub_eq0 h).symm hx
         ·exact sub_eq0 h
        have e1:E=.far:=by
         subst a3
         have q1:l*l - x1 - x2=x3:=by rw [hs]; clear h2 h4 h1c h3c b3 ha hb hc hD hD' hs; grobner
         have q2:l*(x1 - x3) - y1=0 - y3:=by
          have g1:=a2.c; clear a2
          have g3:=b2.c; clear b2
          clear h2 h4 h1c h3c b3 ha hb hc hD hD' hs q1
          grobner
         rw [q1,q2] at h2
         exact h2.func K (.inl ⟨rfl,rfl,rfl⟩)
        have e2:E'=.far:=by
         subst b3
         have q1:l*l - x2 - x3=x1:=by rw [hs]; clear h2 h4 h1c h3c a3 ha hb hc hD hD' hs; grobner
         have q2:l*(x2 - x1) - y2=0 - y1:=by
          have g1:=a2.c; clear a2
          clear h2 h4 h1c h3c a3 ha hb hc hD hD' hs q1
          grobner
         rw [q1,q2] at h4
         exact h4.func K (.inl ⟨rfl,by rw [neg_neg0],rfl⟩)
        rw [e1,e2]
      ·obtain ⟨i,hi⟩:=K.inv _ hd
       have hr:(x3 - x1)*i*(l - k)=x3 - x1:=by
        have:(x3 - x1)*i*(l - k)=(x3 - x1)*((l - k)*i):=by clear h2 h4 h1c h3c a3 b3 ha hb hc hD hD' hi; grobner
        rw [this,hi]; clear h2 h4 h1c h3c a3 b3 ha hb hc hD hD' hi this; grobner
       generalize (x3 - x1)*i=r at hr
       subst a3 b3
       obtain ⟨s1,s2⟩:=slopes K a2 b2 hd hr rfl rfl
       have hd':k - l≠0:=fun h => hd (by clear h2 h4 h1c h3c ha hb hc hD hD' hi hr s1 s2; grobner)
       have hr':r*(k - l)=x1 - x3:=by clear h2 h4 h1c h3c ha hb hc hD hD' hi s1 s2; grobner
       have sw:k*k - x3 - x2=k*k - x2 - x3:=by clear h2 h4 h1c h3c ha hb hc hD hD' hi hr hr' s1 s2; grobner
       have t3:k*(x3 - (k*k - x3 - x2)) - y3=k*(x2 - (k*k - x2 - x3)) - y2:=by rw [b2.third,sw]
       obtain ⟨s3,s4⟩:=slopes K b2.symm a2.symm hd' hr' rfl rfl
       rw [t3,sw] at s3
       rw [sw] at s4
       generalize hxa:l*l - x1 - x2=xa at *
       generalize hya:l*(x1 - xa) - y1=ya at *
       generalize hxb:k*k - x2 - x3=xb at *
       generalize hyb:k*(x2 - xb) - y2=yb at *
       have n1:=s1.noneg K hD
       have n2:=s3.symm.noneg K ha
       have m1:=h2.func K (.inr ⟨n1,_,s1,rfl⟩)
       have m2:=h4.func K (.inr ⟨n2,_,s3.symm,rfl⟩)
       rw [m1,m2,s1.third]
       have q:(0 - (l+r))*(0 - (l+r)) - xa - x3=(0 - (k+r))*(0 - (k+r)) - x1 - xb:=by
        clear h2 h4 h1c h3c ha hb hc hD hD' hi hr hr' s1 s3 t3 m1 m2 hxa hya hxb hyb n1 n2
        grobner
       rw [← q]
       congr 1
       obtain ⟨xe,hxe⟩:∃ xe,xe=(0 - (l+r))*(0 - (l+r)) - xa - x3:=⟨_,rfl⟩
       rw [← hxe] at s2 ⊢
       have q3:xe=x2+r*(l+k+r):=by clear h2 h4 h1c h3c ha hb hc hD hD' hi hr hr' s1 s3 s4 t3 m1 m2 hxa hya hxb hyb n1 n2 q hxe; grobner
       have g1:=a2.c; clear a2
       have g3:=b2.c; clear b2
       clear h2 h4 h1c h3c ha hb hc hD hD' hi hr' s1 s2 s3 s4 t3 m1 m2 hxa hya hxb hyb n1 n2 q hxe
       have y1e:y1=y2 - l*(x2 - x1):=by clear hr g3 q3; grobner
       have y3e:y3=y2+k*(x3 - x2):=by clear hr g1 q3 y1e; grobner
       clear g1 g3
       have x3e:x3=x1+r*(l - k):=by rw [hr]; clear hr q3 y1e y3e; grobner
       clear hr
       subst y1e y3e q3 x3e
       grobner
end
section
variable {p:Nat} [NeZero p]
def cv:Aff→Pt p
 | .far => .far
 | .pt x y => .pt (fi x) (fi y)
def aneg (m:Nat):Aff→Aff
 | .far => .far
 | .pt x y => .pt x (fsub m 0 y)
structure Crv (p b:Nat) [NeZero p]:Prop where
 hp:Prm p
 h3:3<p
 hb:b<p
 hs:b*b%p≠4%p
variable {b:Nat} {a c d:Aff}
theorem Crv.fd (h:Crv p b):Fd p (fi b) where
 nz:=fun _ _ => fin_nozd h.hp
 inv:=fun a ha => by
  refine ⟨fi (minv p a.val),?_⟩
  have:=fi_minv (p:=p) h.hp (a:=a.val) (Nat.pos_of_ne_zero fun e => ha (Fin.ext e)) a.2
  rwa [fi_self] at this
 two:=fun e => by
  have:=congrArg Fin.val e
  have e2:((2:Fin p):Nat)=2%p:=rfl
  rw [e2,Nat.mod_eq_of_lt (by have:=h.h3; omega)] at this
  cases this
 three:=fun e => by
  have:=congrArg Fin.val e
  have e2:((3:Fin p):Nat)=3%p:=rfl
  rw [e2,Nat.mod_eq_of_lt (by have:=h.h3; omega)] at this
  cases this
 sing:=fun e => by
  have:=congrArg Fin.val e
  rw [Fin.val_mul,fi_val,← Nat.mul_mod] at this
  exact h.hs this
theorem cv_on (h:Crv p b) (ha:onA p b a):OnC (fi b) (cv (p:=p) a):=by
 cases a with
 | far => trivial
 | pt x y => exact (onB_iff ha.1 ha.2.1 h.hb).1 ha.2.2
theorem cv_inj (ha:onA p b a) (hc:onA p b c) (h:cv (p:=p) a=cv c):a=c:=by
 cases a with
 | far =>
  cases c with
  | far => rfl
  | pt x y => cases h
 | pt x y =>
  cases c with
  | far => cases h
  | pt x' y' =>
   have h:Pt.pt (fi x:Fin p) (fi y)=Pt.pt (fi x') (fi y'):=h
   injection h with h1 h2
   rw [fi_inj ha.1 hc.1 h1,fi_inj ha.2.1 hc.2.1 h2]
theorem aaddC_on (h:Crv p b) (ha:onA p b a) (hc:onA p b c):onA p b (aadd p a c) :=
 (rep_sum h.hp h.h3 h.hb (lift_ok h.hp.1 ha) (lift_ok h.hp.1 hc) ha hc (lift_rep a) (lift_rep c)).2
theorem aneg_on (h:Crv p b) (ha:onA p b a):onA p b (aneg p a):=by
 cases a with
 | far => trivial
 | pt x y =>
  have h0:0<p:=Nat.pos_of_neZero p
  refine ⟨ha.1,fsub_lt h0 _ _,(onB_iff ha.1 (fsub_lt h0 _ _) h.hb).2 ?_⟩
  have:=(onB_iff ha.1 ha.2.1 h.hb).1 ha.2.2
  rw [fi_sub ha.2.1,fi_zero,← this]
  grobner
theorem cv_neg (ha:onA p b a):cv (p:=p) (aneg p a)=(cv a).neg:=by
 cases a with
 | far => rfl
 | pt x y => show Pt.pt _ _=Pt.pt _ _; rw [fi_sub ha.2.1,fi_zero]
theorem cv_sm (h:Crv p b) (ha:onA p b a) (hc:onA p b c):Sm (cv (p:=p) a) (cv c) (cv (aadd p a c)):=by
 have h0:0<p:=Nat.pos_of_neZero p
 have K:=h.fd
 cases a with
 | far => rfl
 | pt x y =>
  cases c with
  | far => rfl
  | pt x' y' =>
   obtain ⟨hx,hy,hon⟩:=ha
   obtain ⟨hx',hy',hon'⟩:=hc
   have on1:=(onB_iff hx hy h.hb).1 hon
   have on2:=(onB_iff hx' hy' h.hb).1 hon'
   by_cases h1:x=x'∧y=fsub p 0 y'
   ·rw [aadd,if_pos h1]
    exact .inl ⟨by rw [h1.1],by rw [h1.2,fi_sub hy',fi_zero],rfl⟩
   ·have h1':¬ ((fi x:Fin p)=fi x'∧(fi y:Fin p)=0 - fi y'):=fun hh => h1 ⟨fi_inj hx hx' hh.1,fi_inj hy (fsub_lt h0 _ _) (by rw [fi_sub hy',fi_zero]; exact hh.2)⟩
    rw [aadd,if_neg h1]
    -- the slope
    generalize hl:(if x=x'∧y=y' then fmul p (fmul p 3 (fsub p (fmul p x x) 1)) (minv p (fadd p y y)) else fmul p (fsub p y' y) (minv p (fsub p x' x)))=l
    have hs:Sp (fi x:Fin p) (fi y) (fi x') (fi y') (fi l):=by
     by_cases h2:x=x'∧y=y'
     ·rw [if_pos h2] at hl
      obtain ⟨rfl,rfl⟩:=h2
      have hyy:(fi y:Fin p)+fi y≠0:=fun hh => h1' ⟨rfl,by grobner⟩
      have hyy':fadd p y y≠0:=fun hh => hyy (by rw [← fi_add,hh]; rfl)
      have hi:=fi_minv h.hp (Nat.pos_of_ne_zero hyy') (fadd_lt h0 y y)
      rw [fi_add] at hi
      generalize minv p (fadd p y y)=i at *
      refine ⟨by grobner,?_⟩
      rw [← hl,fi_mul,fi_mul,fi_sub (show 1<p by have:=h.h3; omega),fi_mul]
      have:(fi 3:Fin p)=3:=rfl
      rw [this,fi_one]
      have:∀ a:Fin p,a*fi i*(fi y+fi y)=a*((fi y+fi y)*fi i):=fun a => by grobner
      rw [this,hi]; grobner
     ·rw [if_neg h2] at hl
      have hxx:x≠x':=fun hxx => by
       subst hxx
       rcases same_xp h.hp hx hy hy' h.hb hon hon' with hh | hh
       ·exact h2 ⟨rfl,hh⟩
       ·exact h1 ⟨rfl,hh⟩
      have hd:(fi x':Fin p) - fi x≠0:=fun hh => hxx (fi_inj hx' hx (sub_eq0 hh)).symm
      have hd':fsub p x' x≠0:=fun hh => hd (by rw [← fi_sub hx,hh]; rfl)
      have hi:=fi_minv h.hp (Nat.pos_of_ne_zero hd') (fsub_lt h0 x' x)
      rw [fi_sub hx] at hi
      generalize minv p (fsub p x' x)=i at *
      have hl':(fi l:Fin p)*(fi x' - fi x)=fi y' - fi y:=by
       rw [← hl,fi_mul,fi_sub hy]
       have:∀ a:Fin p,a*fi i*(fi x' - fi x)=a*((fi x' - fi x)*fi i):=fun a => by grobner
       rw [this,hi]; grobner
      refine ⟨hl',?_⟩
      have e:(fi x' - fi x:Fin p)*(fi l*(fi y+fi y') - (fi x*fi x+fi x*fi x'+fi x'*fi x' - 3))=0:=by
       have q1:(fi x' - fi x:Fin p)*(fi l*(fi y+fi y') - (fi x*fi x+fi x*fi x'+fi x'*fi x' - 3))=(fi l*(fi x' - fi x))*(fi y+fi y') - (fi x' - fi x)*(fi x*fi x+fi x*fi x'+fi x'*fi x' - 3):=by clear hl' hi on1 on2; grobner
       rw [q1,hl']
       clear q1 hl' hi
       grobner
      rcases K.nz _ _ e with hh | hh
      ·exact absurd hh hd
      ·exact sub_eq0 hh
    refine .inr ⟨h1',fi l,hs,?_⟩
    show Pt.pt _ _=Pt.pt _ _
    rw [fi_sub hx',fi_sub hx,fi_mul,fi_sub hy,fi_mul,fi_sub (fsub_lt h0 _ _),fi_sub hx',fi_sub hx,fi_mul]
theorem aadd_comm (h:Crv p b) (ha:onA p b a) (hc:onA p b c):aadd p a c=aadd p c a :=
 cv_inj (aaddC_on h ha hc) (aaddC_on h hc ha) ((cv_sm h ha hc).comm.func h.fd (cv_sm h hc ha)) |>.symm ▸ rfl
theorem aadd_assoc (h:Crv p b) (ha:onA p b a) (hc:onA p b c) (hd:onA p b d):aadd p (aadd p a c) d=aadd p a (aadd p c d) :=
 cv_inj (aaddC_on h (aaddC_on h ha hc) hd) (aaddC_on h ha (aaddC_on h hc hd)) (Sm.assoc h.fd (cv_on h ha) (cv_on h hc) (cv_on h hd) (cv_sm h ha hc) (cv_sm h (aaddC_on h ha hc) hd) (cv_sm h hc hd) (cv_sm h ha (aaddC_on h hc hd)))
theorem aadd_far (a:Aff):aadd p a .far=a:=by cases a <;> rfl
theorem far_aadd (a:Aff):aadd p .far a=a:=rfl
theorem aadd_neg (h:Crv p b) (ha:onA p b a):aadd p a (aneg p a)=.far:=by
 have h1:=cv_sm h ha (aneg_on h ha)
 rw [cv_neg ha] at h1
 refine cv_inj (p:=p) (b:=b) (aaddC_on h ha (aneg_on h ha)) trivial (h1.func h.fd ?_)
 cases a with
 | far => rfl
 | pt x y => exact .inl ⟨rfl,by rw [neg_neg0],rfl⟩
theorem aneg_aneg (h:Crv p b) (ha:onA p b a):aneg p (aneg p a)=a:=by
 refine cv_inj (aneg_on h (aneg_on h ha)) ha ?_
 rw [cv_neg (aneg_on h ha),cv_neg ha,Pt.neg_neg]
theorem aadd_cancel (h:Crv p b) (ha:onA p b a) (hc:onA p b c) (hd:onA p b d) (e:aadd p a c=aadd p a d):c=d:=by
 have:∀ {c:Aff},onA p b c→aadd p (aneg p a) (aadd p a c)=c:=fun hc => by
  rw [← aadd_assoc h (aneg_on h ha) ha hc,aadd_comm h (aneg_on h ha) ha,aadd_neg h ha]; rfl
 rw [← this hc,← this hd,e]
theorem neg_uniq (h:Crv p b) (ha:onA p b a) (hc:onA p b c) (e:aadd p a c=.far):c=aneg p a :=
 aadd_cancel h ha hc (aneg_on h ha) (by rw [e,aadd_neg h ha])
/-! ### Multiples -/
noncomputable def nm (p:Nat) (a:Aff):Nat→Aff
 | 0 => .far
 | k+1 => aadd p (nm p a k) a
theorem nm_on (h:Crv p b) (ha:onA p b a):∀ k,onA p b (nm p a k)
 | 0 => trivial
 | k+1 => aaddC_on h (nm_on h ha k) ha
theorem nm_add (h:Crv p b) (ha:onA p b a) (j:Nat):∀ k,nm p a (j+k)=aadd p (nm p a j) (nm p a k)
 | 0 => (aadd_far _).symm
 | k+1 => by
  show aadd p (nm p a (j+k)) a=aadd p (nm p a j) (aadd p (nm p a k) a)
  rw [nm_add h ha j k,aadd_assoc h (nm_on h ha j) (nm_on h ha k) ha]
theorem nm_far:∀ k,nm p .far k=.far
 | 0 => rfl
 | k+1 => by rw [nm,nm_far k]; rfl
theorem nm_mul (h:Crv p b) (ha:onA p b a) (j:Nat):∀ k,nm p a (j*k)=nm p (nm p a j) k
 | 0 => rfl
 | k+1 => by rw [Nat.mul_succ,nm_add h ha,nm_mul h ha j k,nm]
theorem amk_nm (h:Crv p b) (ha:onA p b a):∀ n k,k<2^n→amk p a n k=nm p a k
 | 0,k,hk => by
  obtain rfl:k=0:=by simpa using hk
  rfl
 | n+1,k,hk => by
  rw [Nat.pow_succ] at hk
  have h2:=Nat.div_add_mod k 2
  have h3:=Nat.mod_lt k (show 0<2 by decide)
  rw [amk,amk_nm h ha n (k / 2) (by omega),← nm_add h ha]
  split
  ·congr 1; omega
  ·have:k=(k / 2+k / 2)+1:=by omega
   conv => rhs; rw [this]
   rfl
end
/-! ### Fermat's little theorem -/
theorem perm_of:∀ {l2 l1:List Nat},l2.Nodup→(∀ x ∈ l2,x ∈ l1)→l1.length≤l2.length→l2.Perm l1
 | [],l1,_,_,hl => by
  obtain rfl:l1=[]:=List.eq_nil_of_length_eq_zero (by simpa using hl)
  exact .refl _
 | x::r,l1,hn,hs,hl => by
  have hx:=hs x (by simp)
  rw [List.nodup_cons] at hn
  have h1:l1.Perm (x::l1.erase x):=List.perm_cons_erase hx
  refine (List.Perm.cons x (perm_of hn.2 (fun y hy => ?_) ?_)).trans h1.symm
  ·have hne:y≠x:=fun e => hn.1 (e ▸ hy)
   exact (List.mem_erase_of_ne hne).2 (hs y (by simp [hy]))
  ·have:=h1.length_eq
   simp only [List.length_cons] at this hl
   omega
theorem prodL_perm {l1 l2:List Nat} (h:l1.Perm l2):prodL l1=prodL l2:=by
 induction h with
 | nil => rfl
 | cons x _ ih => simp only [prodL,ih]
 | swap x y l => simp only [prodL,Nat.mul_left_comm]
 | trans _ _ h1 h2 => exact h1.trans h2
theorem prodL_map (a p:Nat):∀ l:List Nat,prodL (l.map fun i => a*i%p)%p=a^l.length*prodL l%p
 | [] => by simp [prodL]
 | x::r => by
  rw [List.map_cons,prodL,prodL,Nat.mod_mul_mod,Nat.mul_mod,prodL_map a p r,← Nat.mul_mod,List.length_cons,Nat.pow_succ]
  congr 1
  rw [Nat.mul_mul_mul_comm,Nat.mul_comm a (a^_)]
theorem prodL_cop {p:Nat}:∀ {l:List Nat},(∀ x ∈ l,Nat.gcd x p=1)→Nat.gcd (prodL l) p=1
 | [],_ => by simp [prodL]
 | x::r,h => by
  have h1:Nat.Coprime x p:=h x (by simp)
  have h2:Nat.Coprime (prodL r) p:=prodL_cop fun y hy => h y (by simp [hy])
  exact Nat.Coprime.mul_left h1 h2
theorem fermat {p:Nat} (hp:Prm p) (a:Nat) (ha:a<p):a^p%p=a:=by
 have hp1:=hp.1
 by_cases h0:a=0
 ·subst h0
  rw [Nat.zero_pow (by omega),Nat.zero_mod]
 have hg:Nat.gcd a p=1:=prm_gcd hp (by rw [Nat.mod_eq_of_lt ha]; exact h0)
 obtain ⟨l,hl⟩:∃ l,l=(List.range (p - 1)).map (·+1):=⟨_,rfl⟩
 have hlen:l.length=p - 1:=by rw [hl,List.length_map,List.length_range]
 have hm:∀ x,x ∈ l↔0<x∧x<p:=fun x => by
  rw [hl,List.mem_map]
  constructor
  ·rintro ⟨i,hi,rfl⟩; rw [List.mem_range] at hi; omega
  ·rintro ⟨h1,h2⟩; exact ⟨x - 1,by rw [List.mem_range]; omega,by omega⟩
 have hnd:l.Nodup:=by
  rw [hl,List.Nodup,List.pairwise_map]
  exact List.Pairwise.imp (fun h e => h (by omega)) (List.nodup_range (n:=p - 1))
 have hnd2:(l.map fun i => a*i%p).Nodup:=by
  rw [List.Nodup,List.pairwise_map]
  refine List.Pairwise.imp_of_mem (fun {x y} hx hy hne e => hne ?_) hnd
  have hx:=(hm x).1 hx
  have hy:=(hm y).1 hy
  obtain ⟨i,hi,hai⟩:=prm_inv hp (Nat.pos_of_ne_zero h0) ha
  have e1:∀ z,z<p→i*(a*z%p)%p=z:=fun z hz => by
   rw [Nat.mul_mod_mod,← Nat.mul_assoc,Nat.mul_comm i a,Nat.mul_mod,hai,Nat.one_mul,Nat.mod_mod,Nat.mod_eq_of_lt hz]
  rw [← e1 x hx.2,← e1 y hy.2,e]
 have hpm:=perm_of hnd2 (fun x hx => by
  obtain ⟨i,hi,rfl⟩:=List.mem_map.1 hx
  have hi:=(hm i).1 hi
  refine (hm _).2 ⟨Nat.pos_of_ne_zero fun e => ?_,Nat.mod_lt _ (by omega)⟩
  have:=Nat.Coprime.dvd_of_dvd_mul_left (Nat.Coprime.symm hg) (Nat.dvd_of_mod_eq_zero e)
  have:=Nat.le_of_dvd hi.1 this
  omega) (by rw [List.length_map]; exact Nat.le_refl _)
 have e:=prodL_map a p l
 rw [prodL_perm hpm,hlen] at e
 have hc:Nat.gcd (prodL l) p=1:=prodL_cop fun x hx => by
  have:=(hm x).1 hx
  exact prm_gcd hp (by rw [Nat.mod_eq_of_lt this.2]; omega)
 obtain ⟨y,hy,hpy⟩:=inv_ex hp.1 hc
 have key:a^(p - 1)%p=1:=by
  have e1:prodL l*y%p=a^(p - 1)*prodL l*y%p:=by rw [Nat.mul_mod,e,← Nat.mul_mod]
  rw [hpy,Nat.mul_assoc,Nat.mul_mod,hpy,Nat.mul_one,Nat.mod_mod] at e1
  exact e1.symm
 have:a^p=a^(p - 1)*a:=by rw [← Nat.pow_succ]; congr 1; omega
 rw [this,Nat.mul_mod,key,Nat.one_mul,Nat.mod_mod,Nat.mod_eq_of_lt ha]
/-! ### Numbers of three parts: modulo the cubic -/
structure N3 where
 a:Nat
 b:Nat
 c:Nat
 deriving DecidableEq
def tmul (m b:Nat):N3→N3→N3
 | ⟨x0,x1,x2⟩,⟨y0,y1,y2⟩ =>
  CheckFast.force (fadd m (fmul m x1 y2) (fmul m x2 y1)) fun d3 => CheckFast.force (fmul m x2 y2) fun d4 =>
  CheckFast.force (fsub m (fmul m x0 y0) (fmul m b d3)) fun a => CheckFast.force (fsub m (fadd m (fadd m (fmul m x0 y1) (fmul m x1 y0)) (fmul m 3 d3)) (fmul m b d4)) fun c =>
  CheckFast.force (fadd m (fadd m (fadd m (fmul m x0 y2) (fmul m x1 y1)) (fmul m x2 y0)) (fmul m 3 d4)) fun e => ⟨a,c,e⟩
def tpow (m b:Nat):Nat→Nat→N3
 | 0,_ => ⟨1,0,0⟩
 | k+1,e => match e%2 with
  | 0 => tmul m b (tpow m b k (e / 2)) (tpow m b k (e / 2))
  | _+1 => tmul m b (tmul m b (tpow m b k (e / 2)) (tpow m b k (e / 2))) ⟨0,1,0⟩
section
variable {p:Nat} [NeZero p]
def tv (r:Fin p) (t:N3):Fin p:=fi t.a+fi t.b*r+fi t.c*(r*r)
theorem tmul_val {b:Nat} {r:Fin p} (hr:r*r*r - 3*r+fi b=0) (s t:N3):tv r (tmul p b s t)=tv r s*tv r t:=by
 have h0:0<p:=Nat.pos_of_neZero p
 obtain ⟨x0,x1,x2⟩:=s
 obtain ⟨y0,y1,y2⟩:=t
 have e3:(fi 3:Fin p)=3:=rfl
 simp only [tmul,CheckFast.force_eq,tv,fi_sub (fmul_lt h0 _ _),fi_add,fi_mul,e3]
 have h3:r*r*r=3*r - fi b:=by grobner
 have h4:r*r*r*r=3*(r*r) - fi b*r:=by rw [h3]; clear hr h3; grobner
 clear hr
 generalize (fi x0:Fin p)=x0 at *
 generalize (fi x1:Fin p)=x1 at *
 generalize (fi x2:Fin p)=x2 at *
 generalize (fi y0:Fin p)=y0 at *
 generalize (fi y1:Fin p)=y1 at *
 generalize (fi y2:Fin p)=y2 at *
 have q:(x0+x1*r+x2*(r*r))*(y0+y1*r+y2*(r*r))=x0*y0+(x0*y1+x1*y0)*r+(x0*y2+x1*y1+x2*y0)*(r*r)+(x1*y2+x2*y1)*(r*r*r)+x2*y2*(r*r*r*r):=by clear h3 h4; grobner
 rw [q,h4,h3]
 clear q h3 h4
 grobner
theorem fi_mul' (a c:Nat):(fi (a*c):Fin p)=fi a*fi c:=by
 apply Fin.ext; rw [Fin.val_mul]; simp only [fi_val,← Nat.mul_mod]
theorem tpow_val {b r:Nat} (hr:(fi r:Fin p)*fi r*fi r - 3*fi r+fi b=0):∀ k e,e<2^k→tv (fi r:Fin p) (tpow p b k e)=fi (r^e)
 | 0,e,h => by
  obtain rfl:e=0:=by simpa using h
  show fi 1+fi 0*fi r+fi 0*(fi r*fi r)=(fi 1:Fin p)
  rw [fi_zero]; clear hr; grobner
 | k+1,e,h => by
  rw [Nat.pow_succ] at h
  have ih:=tpow_val hr k (e / 2) (by omega)
  have h2:=Nat.div_add_mod e 2
  have h3:=Nat.mod_lt e (show 0<2 by decide)
  have hx:tv (fi r:Fin p) ⟨0,1,0⟩=fi r:=by
   show fi 0+fi 1*fi r+fi 0*(fi r*fi r)=(fi r:Fin p)
   rw [fi_zero,fi_one]; clear hr ih; grobner
  rw [tpow]
  split
  ·rename_i h0
   rw [tmul_val hr,ih,← fi_mul',← Nat.pow_add]
   congr 2; omega
  ·rename_i j h0
   rw [tmul_val hr,tmul_val hr,ih,hx,← fi_mul',← fi_mul',← Nat.pow_add,← Nat.pow_succ]
   congr 2; omega
def cubB (p b:Nat) (s:N3):Bool :=
 match tpow p b 256 p with
 | ⟨x0,x1,x2⟩ => decide (tmul p b ⟨x0,fsub p x1 1,x2⟩ s=⟨1,0,0⟩)
theorem no_root (hp:Prm p) {b:Nat} {s:N3} (h256:p<2^256) (h:cubB p b s=true) {r:Nat} (hrp:r<p):(fi r:Fin p)*fi r*fi r - 3*fi r+fi b≠0:=by
 intro hr
 have e:=tpow_val hr 256 p h256
 rw [cubB] at h
 revert h e
 generalize tpow p b 256 p=t
 obtain ⟨x0,x1,x2⟩:=t
 intro h e
 have h:=of_decide_eq_true h
 have hm:=tmul_val hr ⟨x0,fsub p x1 1,x2⟩ s
 rw [h] at hm
 have hf:(fi (r^p):Fin p)=fi r:=by
  apply Fin.ext; rw [fi_val,fi_val,fermat hp r hrp,Nat.mod_eq_of_lt hrp]
 rw [hf] at e
 have z:tv (fi r:Fin p) ⟨x0,fsub p x1 1,x2⟩=0:=by
  show fi x0+fi (fsub p x1 1)*fi r+fi x2*(fi r*fi r)=0
  have e:fi x0+fi x1*fi r+fi x2*(fi r*fi r)=(fi r:Fin p):=e
  rw [fi_sub hp.1,fi_one]
  clear hm h hr hf
  grobner
 have o:tv (fi r:Fin p) ⟨1,0,0⟩=1:=by
  show fi 1+fi 0*fi r+fi 0*(fi r*fi r)=(1:Fin p)
  rw [fi_zero,fi_one]; clear hr hm z e hf h; grobner
 rw [z,o] at hm
 have h1:(1:Fin p)=0:=by rw [hm]; clear hm z o e hf h hr; grobner
 have:=congrArg Fin.val h1
 have e1:((1:Fin p):Nat)=1%p:=rfl
 rw [e1,Nat.mod_eq_of_lt hp.1] at this
 cases this
end
theorem cub_P:cubB (115792089210356248762697446949407573530086143415290314195533631308867097853951:Nat) (41058363725152142129326129780047268409114441015993725554835256314039467401291:Nat) ⟨76626890310466861426869089647039036757962535851890885406097439786770458211455,74462945259064871768191128030512052509059297803194871526163573358218695456204,34768139465301476436978405170953382516735956999154666452188405812258086013549⟩=true:=by decide +kernel
section
variable {p b n:Nat} [NeZero p] {g q:Aff}
theorem nm_mod (h:Crv p b) (hg:onA p b g) (hn:nm p g n=.far) (k:Nat):nm p g k=nm p g (k%n):=by
 conv => lhs; rw [← Nat.div_add_mod k n]
 rw [nm_add h hg,nm_mul h hg,hn,nm_far]; rfl
theorem nm_modq (h:Crv p b) (hg:onA p b g) (hn:nm p g n=.far) {j k:Nat} (e:j%n=k%n):nm p g j=nm p g k:=by
 rw [nm_mod h hg hn j,nm_mod h hg hn k,e]
theorem nm_ne (h:Crv p b) (hg:onA p b g) (hn:nm p g n=.far) (hp:Prm n) (h0:g≠.far) {k:Nat} (k0:0<k) (kn:k<n):nm p g k≠.far:=by
 intro e
 obtain ⟨y,hy,h1⟩:=prm_inv hp k0 kn
 have e1:nm p g (k*y)=.far:=by rw [nm_mul h hg,e,nm_far]
 rw [nm_mod h hg hn,h1] at e1
 exact h0 e1
theorem nm_inj (h:Crv p b) (hg:onA p b g) (hn:nm p g n=.far) (hp:Prm n) (h0:g≠.far) {j k:Nat} (hj:j<n) (hk:k<n) (e:nm p g j=nm p g k):j=k:=by
 have key:∀ {j k:Nat},j<n→k<n→j<k→nm p g j≠nm p g k:=fun {j k} hj hk hjk e => by
  have e1:nm p g (j+(k - j))=nm p g j:=by rw [show j+(k - j)=k by omega,e]
  rw [nm_add h hg] at e1
  have e2:aadd p (nm p g j) .far=nm p g j:=aadd_far _
  exact nm_ne h hg hn hp h0 (show 0<k - j by omega) (by omega) (aadd_cancel h (nm_on h hg j) (nm_on h hg _) trivial (e1.trans e2.symm))
 rcases Nat.lt_trichotomy j k with h1 | h1 | h1
 ·exact absurd e (key hj hk h1)
 ·exact h1
 ·exact absurd e.symm (key hk hj h1)
theorem nm_neg (h:Crv p b) (hg:onA p b g) (hn:nm p g n=.far) {j k:Nat} (e:(j+k)%n=0):nm p g k=aneg p (nm p g j):=by
 refine neg_uniq h (nm_on h hg j) (nm_on h hg k) ?_
 rw [← nm_add h hg,nm_mod h hg hn,e]; rfl
def code (p:Nat):Aff→Nat
 | .far => 2*p
 | .pt x y => if 2*y<p then x else p+x
theorem code_lt (ha:onA p b q):code p q<2*p+1:=by
 cases q with
 | far => show 2*p<_; omega
 | pt x y =>
  have:=ha.1
  show (if 2*y<p then x else p+x)<2*p+1
  split <;> omega
theorem code_inj (h:Crv p b) (ho:p%2=1) (hg:onA p b g) (hq:onA p b q) (e:code p g=code p q):g=q:=by
 cases g with
 | far =>
  cases q with
  | far => rfl
  | pt x y =>
   have:=hq.1
   have e:2*p=if 2*y<p then x else p+x:=e
   exfalso
   by_cases hy:2*y<p
   ·rw [if_pos hy] at e; omega
   ·rw [if_neg hy] at e; omega
 | pt x y =>
  cases q with
  | far =>
   have:=hg.1
   have e:(if 2*y<p then x else p+x)=2*p:=e
   exfalso
   by_cases hy:2*y<p
   ·rw [if_pos hy] at e; omega
   ·rw [if_neg hy] at e; omega
  | pt x' y' =>
   obtain ⟨hx,hy,hon⟩:=hg
   obtain ⟨hx',hy',hon'⟩:=hq
   have e:(if 2*y<p then x else p+x)=if 2*y'<p then x' else p+x':=e
   have hxx:x=x'∧(2*y<p↔2*y'<p):=by
    by_cases h1:2*y<p
    ·by_cases h2:2*y'<p
     ·rw [if_pos h1,if_pos h2] at e; exact ⟨e,⟨fun _ => h2,fun _ => h1⟩⟩
     ·rw [if_pos h1,if_neg h2] at e; omega
    ·by_cases h2:2*y'<p
     ·rw [if_neg h1,if_pos h2] at e; omega
     ·rw [if_neg h1,if_neg h2] at e; exact ⟨by omega,⟨fun h => absurd h h1,fun h => absurd h h2⟩⟩
   obtain ⟨rfl,hyy⟩:=hxx
   rcases same_xp h.hp hx hy hy' h.hb hon hon' with h1 | h1
   ·rw [h1]
   ·have:y=y':=by
     have h2:y=(p - y')%p:=by rw [h1,fsub,Nat.zero_add]
     rcases Nat.eq_zero_or_pos y' with h3 | h3
     ·subst h3; rw [Nat.sub_zero,Nat.mod_self] at h2; exact h2
     ·rw [Nat.mod_eq_of_lt (by omega)] at h2; omega
    rw [this]
def NoTwo (p b:Nat):Prop:=∀ a,onA p b a→aadd p a a=.far→a=.far
theorem no_two (h:Crv p b) {s:N3} (h256:p<2^256) (hs:cubB p b s=true):NoTwo p b:=by
 intro a ha e
 cases a with
 | far => rfl
 | pt x y =>
  exfalso
  have e1:=neg_uniq h ha ha e
  obtain ⟨hx,hy,hon⟩:=ha
  have e2:Aff.pt x y=.pt x (fsub p 0 y):=e1
  injection e2 with _ e3
  have e4:(fi y:Fin p)=0 - fi y:=by conv => lhs; rw [e3]
                                    rw [fi_sub hy,fi_zero]
  have e5:(2:Fin p)*fi y=0:=by clear e e1 hon e3; grobner
  have on:=(onB_iff hx hy h.hb).1 hon
  rcases h.fd.nz _ _ e5 with h1 | h1
  ·exact h.fd.two h1
  ·rw [h1] at on
   refine no_root (p:=p) h.hp h256 hs hx ?_
   rw [← on]; clear on e e1 e3 e4 e5; grobner
theorem all_order (h:Crv p b) (ho:p%2=1) (hn2:n%2=1) (h2:NoTwo p b) (hg:onA p b g) (h0:g≠.far) (hn:nm p g n=.far) (hp:Prm n) (hc:2*p+1<3*n) (hq:onA p b q):nm p q n=.far:=by
 have hnp:0<n:=by have:=hp.1; omega
 by_cases c1:∃ i,q=nm p g i
 ·obtain ⟨i,rfl⟩:=c1
  rw [← nm_mul h hg,Nat.mul_comm,nm_mul h hg,hn,nm_far]
 ·exfalso
  -- minus a multiple is a multiple
  have hneg:∀ i,∃ j,aneg p (nm p g i)=nm p g j:=fun i => by
   have hlt:=Nat.mod_lt i hnp
   refine ⟨n - i%n,(nm_neg h hg hn ?_).symm⟩
   rw [Nat.add_mod]
   rcases Nat.eq_zero_or_pos (i%n) with hz | hz
   ·rw [hz,Nat.sub_zero,Nat.mod_self,Nat.zero_add,Nat.zero_mod]
   ·rw [Nat.mod_eq_of_lt (show n - i%n<n by omega),show i%n+(n - i%n)=n by omega,Nat.mod_self]
  by_cases c2:∃ i,aadd p q q=nm p g i
  ·obtain ⟨i,hi⟩:=c2
   obtain ⟨j,hj⟩:=hneg (i*((n+1) / 2))
   have e:aadd p (aadd p q (nm p g j)) (aadd p q (nm p g j))=.far:=by
    have n1:=nm_on h hg j
    rw [aadd_assoc h hq n1 (aaddC_on h hq n1),← aadd_assoc h n1 hq n1,aadd_comm h n1 hq,aadd_assoc h hq n1 n1,← aadd_assoc h hq hq (aaddC_on h n1 n1),hi]
    have n2:=nm_on h hg (i*((n+1) / 2))
    rw [← hj]
    have e3:nm p g i=aadd p (nm p g (i*((n+1) / 2))) (nm p g (i*((n+1) / 2))):=by
     rw [← nm_add h hg]
     refine nm_modq h hg hn ?_
     rw [← Nat.mul_add,show (n+1) / 2+(n+1) / 2=n+1 by omega,Nat.mul_add,Nat.mul_one,Nat.mul_comm,Nat.mul_add_mod]
    rw [e3]
    generalize nm p g (i*((n+1) / 2))=m at n2
    have n3:=aneg_on h n2
    rw [aadd_assoc h n2 n2 (aaddC_on h n3 n3),← aadd_assoc h n2 n3 n3,aadd_neg h n2,far_aadd,aadd_neg h n2]
   have e2:=h2 _ (aaddC_on h hq (nm_on h hg j)) e
   rw [aadd_comm h hq (nm_on h hg j)] at e2
   have e4:=neg_uniq h (nm_on h hg j) hq e2
   obtain ⟨m,hm⟩:=hneg j
   exact c1 ⟨m,e4.trans hm⟩
  ·have hnq:=aneg_on h hq
   -- three times n points
   let f:Nat→Aff:=fun i => if i<n then nm p g i else if i<2*n then aadd p (nm p g (i - n)) q else aadd p (nm p g (i - 2*n)) (aneg p q)
   have fon:∀ i,onA p b (f i):=fun i => by
    show onA p b (if _ then _ else _)
    split
    ·exact nm_on h hg _
    ·split
     ·exact aaddC_on h (nm_on h hg _) hq
     ·exact aaddC_on h (nm_on h hg _) hnq
   -- a point is the difference of two
   have diff:∀ i j c,onA p b c→nm p g i=aadd p (nm p g j) c→∃ m,c=nm p g m:=fun i j c hc e => by
    obtain ⟨k,hk⟩:=hneg j
    refine ⟨k+i,?_⟩
    have n1:=nm_on h hg j
    rw [nm_add h hg,e,← hk,← aadd_assoc h (aneg_on h n1) n1 hc,aadd_comm h (aneg_on h n1) n1,aadd_neg h n1]; rfl
   have x1:∀ i j,nm p g i≠aadd p (nm p g j) q:=fun i j e => c1 (diff i j q hq e)
   have x2:∀ i j,nm p g i≠aadd p (nm p g j) (aneg p q):=fun i j e => by
    obtain ⟨m,hm⟩:=diff i j _ hnq e
    obtain ⟨k,hk⟩:=hneg m
    refine c1 ⟨k,?_⟩
    rw [← hk,← hm,aneg_aneg h hq]
   have x3:∀ i j,aadd p (nm p g i) q≠aadd p (nm p g j) (aneg p q):=fun i j e => by
    have n1:=nm_on h hg i
    have n2:=nm_on h hg j
    have e1:nm p g j=aadd p (nm p g i) (aadd p q q):=by
     rw [← aadd_assoc h n1 hq hq,e,aadd_assoc h n2 hnq hq,aadd_comm h hnq hq,aadd_neg h hq,aadd_far]
    exact c2 (diff j i _ (aaddC_on h hq hq) e1)
   have y1:∀ {i j c},i<n→j<n→onA p b c→aadd p (nm p g i) c=aadd p (nm p g j) c→i=j:=fun {i j c} hi hj hc e => by
    rw [aadd_comm h (nm_on h hg i) hc,aadd_comm h (nm_on h hg j) hc] at e
    exact nm_inj h hg hn hp h0 hi hj (aadd_cancel h hc (nm_on h hg i) (nm_on h hg j) e)
   have:=php (3*n) (2*p+1) (fun i => code p (f i)) (fun i hi => code_lt (fon i)) (fun i j hi hj e => by
    have e:f i=f j:=code_inj h ho (fon i) (fon j) e
    have e:(if i<n then nm p g i else if i<2*n then aadd p (nm p g (i - n)) q else aadd p (nm p g (i - 2*n)) (aneg p q))=(if j<n then nm p g j else if j<2*n then aadd p (nm p g (j - n)) q else aadd p (nm p g (j - 2*n)) (aneg p q)):=e
    by_cases i1:i<n
    ·rw [if_pos i1] at e
     by_cases j1:j<n
     ·rw [if_pos j1] at e
      exact nm_inj h hg hn hp h0 i1 j1 e
     ·rw [if_neg j1] at e
      by_cases j2:j<2*n
      ·rw [if_pos j2] at e; exact absurd e (x1 _ _)
      ·rw [if_neg j2] at e; exact absurd e (x2 _ _)
    ·rw [if_neg i1] at e
     by_cases i2:i<2*n
     ·rw [if_pos i2] at e
      by_cases j1:j<n
      ·rw [if_pos j1] at e; exact absurd e.symm (x1 _ _)
      ·rw [if_neg j1] at e
       by_cases j2:j<2*n
       ·rw [if_pos j2] at e
        have:=y1 (show i - n<n by omega) (show j - n<n by omega) hq e
        omega
       ·rw [if_neg j2] at e; exact absurd e (x3 _ _)
     ·rw [if_neg i2] at e
      by_cases j1:j<n
      ·rw [if_pos j1] at e; exact absurd e.symm (x2 _ _)
      ·rw [if_neg j1] at e
       by_cases j2:j<2*n
       ·rw [if_pos j2] at e; exact absurd e.symm (x3 _ _)
       ·rw [if_neg j2] at e
        have:=y1 (show i - 2*n<n by omega) (show j - 2*n<n by omega) hnq e
        omega)
   omega
end
set_option maxRecDepth 10000
instance nzP:NeZero (115792089210356248762697446949407573530086143415290314195533631308867097853951:Nat):=⟨by decide⟩
theorem crv_P:Crv (115792089210356248762697446949407573530086143415290314195533631308867097853951:Nat) (41058363725152142129326129780047268409114441015993725554835256314039467401291:Nat):=⟨prm_P,by decide,by decide,by decide +kernel⟩
theorem baseP_on:onP baseA:=⟨by decide,by decide,by decide +kernel⟩
theorem base_nf:baseA≠.far:=fun h => by cases h
theorem blen_lt (k:Nat):k<2^blen k:=by
 unfold blen
 split
 ·omega
 ·rename_i h; exact Nat.lt_log2_self
theorem mulA_nm {a:Aff} (ha:onP a) (k:Nat):mulA k a=nm (115792089210356248762697446949407573530086143415290314195533631308867097853951:Nat) a k:=amk_nm crv_P ha _ _ (blen_lt k)
theorem mulA_on {a:Aff} (ha:onP a) (k:Nat):onP (mulA k a):=by rw [mulA_nm ha]; exact nm_on crv_P ha k
theorem jn_P:((jmk (115792089210356248762697446949407573530086143415290314195533631308867097853951:Nat) ⟨(48439561293906451759052585252797914202762949526041747995844080717082404635286:Nat),(36134250956749795798585127919587881956611106672985015071877198253568414405109:Nat),1⟩ 256 (115792089210356248762697446949407573529996955224135760342422259061068512044369:Nat)).z == 0)=true:=by decide +kernel
theorem n_256:(115792089210356248762697446949407573529996955224135760342422259061068512044369:Nat)<2^256:=by decide +kernel
theorem p_256:(115792089210356248762697446949407573530086143415290314195533631308867097853951:Nat)<2^256:=by decide +kernel
theorem amk_n:amk (115792089210356248762697446949407573530086143415290314195533631308867097853951:Nat) baseA 256 (115792089210356248762697446949407573529996955224135760342422259061068512044369:Nat)=nm (115792089210356248762697446949407573530086143415290314195533631308867097853951:Nat) baseA (115792089210356248762697446949407573529996955224135760342422259061068512044369:Nat):=amk_nm crv_P baseP_on 256 (115792089210356248762697446949407573529996955224135760342422259061068512044369:Nat) n_256
theorem rep_k (n k:Nat):rep (p:=(115792089210356248762697446949407573530086143415290314195533631308867097853951:Nat)) (jmk (115792089210356248762697446949407573530086143415290314195533631308867097853951:Nat) (lift baseA) n k) (amk (115792089210356248762697446949407573530086143415290314195533631308867097853951:Nat) baseA n k) :=
 (rep_mk (p:=(115792089210356248762697446949407573530086143415290314195533631308867097853951:Nat)) prm_P (by decide) (b:=(41058363725152142129326129780047268409114441015993725554835256314039467401291:Nat)) (by decide) (lift_ok (by decide) baseP_on) baseP_on (lift_rep baseA) n k).1
theorem rep_far {t:J3} {a:Aff} (h:rep (p:=(115792089210356248762697446949407573530086143415290314195533631308867097853951:Nat)) t a) (hz:t.z=0):a=.far:=by
 cases a with
 | far => rfl
 | pt x y => exact absurd hz h.1
theorem jn_0:(jmk (115792089210356248762697446949407573530086143415290314195533631308867097853951:Nat) (lift baseA) 256 (115792089210356248762697446949407573529996955224135760342422259061068512044369:Nat)).z=0:=beq_iff_eq.1 jn_P
theorem base_aux (n k:Nat) (h1:amk (115792089210356248762697446949407573530086143415290314195533631308867097853951:Nat) baseA n k=nm (115792089210356248762697446949407573530086143415290314195533631308867097853951:Nat) baseA k) (h2:(jmk (115792089210356248762697446949407573530086143415290314195533631308867097853951:Nat) (lift baseA) n k).z=0):nm (115792089210356248762697446949407573530086143415290314195533631308867097853951:Nat) baseA k=.far:=h1.symm.trans (rep_far (rep_k n k) h2)
theorem base_n:nm (115792089210356248762697446949407573530086143415290314195533631308867097853951:Nat) baseA (115792089210356248762697446949407573529996955224135760342422259061068512044369:Nat)=.far:=base_aux 256 (115792089210356248762697446949407573529996955224135760342422259061068512044369:Nat) amk_n jn_0
theorem two_P:NoTwo (115792089210356248762697446949407573530086143415290314195533631308867097853951:Nat) (41058363725152142129326129780047268409114441015993725554835256314039467401291:Nat):=no_two crv_P p_256 cub_P
theorem all_n {q:Aff} (hq:onP q):nm (115792089210356248762697446949407573530086143415290314195533631308867097853951:Nat) q (115792089210356248762697446949407573529996955224135760342422259061068512044369:Nat)=.far:=all_order crv_P (by decide) (by decide) two_P baseP_on base_nf base_n prm_N (by decide) hq
theorem isFar_iff (a:Aff):a.isFar=true↔a=.far:=by
 cases a with
 | far => exact ⟨fun _ => rfl,fun _ => rfl⟩
 | pt x y => exact ⟨fun h => (by cases h),fun h => (by cases h)⟩
theorem isFar_false {a:Aff} (h:a≠.far):a.isFar=false:=by
 cases hh:a.isFar
 ·rfl
 ·exact absurd ((isFar_iff a).1 hh) h
theorem base_mul_nf {k:Nat} (h:maySc k=true):mulA k baseA≠.far:=by
 rw [mulA_nm baseP_on]
 have:=(maySc_iff k).1 h
 exact nm_ne crv_P baseP_on base_n prm_N base_nf this.1 this.2
theorem fmodn {a c:Nat} (h:(fi a:Fin (115792089210356248762697446949407573529996955224135760342422259061068512044369:Nat))=fi c):a%(115792089210356248762697446949407573529996955224135760342422259061068512044369:Nat)=c%(115792089210356248762697446949407573529996955224135760342422259061068512044369:Nat):=by
 have:=congrArg Fin.val h
 rwa [fi_val,fi_val] at this
instance nzN:NeZero (115792089210356248762697446949407573529996955224135760342422259061068512044369:Nat):=⟨by decide⟩
theorem minv_N {s:Nat} (h:maySc s=true):(fi s:Fin (115792089210356248762697446949407573529996955224135760342422259061068512044369:Nat))*fi (minv (115792089210356248762697446949407573529996955224135760342422259061068512044369:Nat) s)=1∧minv (115792089210356248762697446949407573529996955224135760342422259061068512044369:Nat) s<(115792089210356248762697446949407573529996955224135760342422259061068512044369:Nat):=by
 have:=(maySc_iff s).1 h
 exact ⟨fi_minv prm_N this.1 this.2,(minv_spec (prm_inv prm_N this.1 this.2)).1⟩
theorem sign_holds {d k:Nat} {h:List UInt8} (hd:maySc d=true) (hk:maySc k=true) (hg:goodS d (be h%(115792089210356248762697446949407573529996955224135760342422259061068512044369:Nat)) k=true):verS (mulA d baseA) h (rOf k) (sOf d k (be h%(115792089210356248762697446949407573529996955224135760342422259061068512044369:Nat)))=true:=by
 unfold goodS at hg
 rw [Bool.and_eq_true] at hg
 obtain ⟨hr,hs⟩:=hg
 have o1:=mulA_on baseP_on d
 have f1:=isFar_false (base_mul_nf hd)
 rw [verS]
 simp only [o1,decide_true,f1,hr,hs,Bool.not_false,Bool.and_true,Bool.true_and]
 have key:aadd (115792089210356248762697446949407573530086143415290314195533631308867097853951:Nat) (mulA (fmul (115792089210356248762697446949407573529996955224135760342422259061068512044369:Nat) (be h%(115792089210356248762697446949407573529996955224135760342422259061068512044369:Nat)) (minv (115792089210356248762697446949407573529996955224135760342422259061068512044369:Nat) (sOf d k (be h%(115792089210356248762697446949407573529996955224135760342422259061068512044369:Nat))))) baseA) (mulA (fmul (115792089210356248762697446949407573529996955224135760342422259061068512044369:Nat) (rOf k) (minv (115792089210356248762697446949407573529996955224135760342422259061068512044369:Nat) (sOf d k (be h%(115792089210356248762697446949407573529996955224135760342422259061068512044369:Nat))))) (mulA d baseA))=mulA k baseA:=by
  rw [mulA_nm o1,mulA_nm baseP_on,mulA_nm baseP_on,mulA_nm baseP_on,← nm_mul crv_P baseP_on,← nm_add crv_P baseP_on]
  refine nm_modq crv_P baseP_on base_n (fmodn ?_)
  generalize hm:be h%(115792089210356248762697446949407573529996955224135760342422259061068512044369:Nat)=m
  rw [hm] at hs
  obtain ⟨k1,_⟩:=minv_N hk
  obtain ⟨s1,_⟩:=minv_N hs
  have se:(fi (sOf d k m):Fin (115792089210356248762697446949407573529996955224135760342422259061068512044369:Nat))=fi (minv (115792089210356248762697446949407573529996955224135760342422259061068512044369:Nat) k)*(fi m+fi (rOf k)*fi d):=by rw [sOf,fi_mul,fi_add,fi_mul]
  have fa:∀ a c:Nat,(fi (a+c):Fin (115792089210356248762697446949407573529996955224135760342422259061068512044369:Nat))=fi a+fi c:=fun a c => by
   apply Fin.ext; rw [Fin.val_add]; simp only [fi_val,← Nat.add_mod]
  rw [fa,fi_mul',fi_mul,fi_mul]
  generalize (fi (sOf d k m):Fin (115792089210356248762697446949407573529996955224135760342422259061068512044369:Nat))=s at *
  generalize (fi (minv (115792089210356248762697446949407573529996955224135760342422259061068512044369:Nat) (sOf d k m)):Fin (115792089210356248762697446949407573529996955224135760342422259061068512044369:Nat))=w at *
  generalize (fi (minv (115792089210356248762697446949407573529996955224135760342422259061068512044369:Nat) k):Fin (115792089210356248762697446949407573529996955224135760342422259061068512044369:Nat))=kk at *
  generalize (fi (rOf k):Fin (115792089210356248762697446949407573529996955224135760342422259061068512044369:Nat))=r at *
  generalize (fi m:Fin (115792089210356248762697446949407573529996955224135760342422259061068512044369:Nat))=mm at *
  generalize (fi d:Fin (115792089210356248762697446949407573529996955224135760342422259061068512044369:Nat))=dd at *
  generalize (fi k:Fin (115792089210356248762697446949407573529996955224135760342422259061068512044369:Nat))=kv at *
  have e1:kv*s=mm+r*dd:=by
   rw [se]
   have:kv*(kk*(mm+r*dd))=(kv*kk)*(mm+r*dd):=by clear se s1 k1; grobner
   rw [this,k1]; clear se s1 k1 this; grobner
  have e2:mm*w+dd*(r*w)=(mm+r*dd)*w:=by clear se s1 k1 e1; grobner
  rw [e2,← e1]
  have e3:kv*s*w=kv*(s*w):=by clear se s1 k1 e1 e2; grobner
  rw [e3,s1]; clear se s1 k1 e1 e2 e3; grobner
 rw [key,isFar_false (base_mul_nf hk)]
 simp [rOf]
theorem aneg_x (a:Aff):(aneg (115792089210356248762697446949407573530086143415290314195533631308867097853951:Nat) a).x=a.x:=by cases a <;> rfl
theorem aneg_far (a:Aff):(aneg (115792089210356248762697446949407573530086143415290314195533631308867097853951:Nat) a).isFar=a.isFar:=by cases a <;> rfl
theorem aneg_add {p b:Nat} [NeZero p] {a c:Aff} (h:Crv p b) (ha:onA p b a) (hc:onA p b c):aadd p (aneg p a) (aneg p c)=aneg p (aadd p a c):=by
 have n1:=aneg_on h ha
 have n2:=aneg_on h hc
 refine neg_uniq h (aaddC_on h ha hc) (aaddC_on h n1 n2) ?_
 rw [aadd_assoc h ha hc (aaddC_on h n1 n2),← aadd_assoc h hc n1 n2,aadd_comm h hc n1,aadd_assoc h n1 hc n2,aadd_neg h hc,aadd_far,aadd_neg h ha]
theorem sign_turns {q:Aff} {h:List UInt8} {r s:Nat} (hs:maySc s=true):verS q h r ((115792089210356248762697446949407573529996955224135760342422259061068512044369:Nat) - s)=verS q h r s:=by
 have h1:=(maySc_iff s).1 hs
 have hs':maySc ((115792089210356248762697446949407573529996955224135760342422259061068512044369:Nat) - s)=true:=(maySc_iff _).2 ⟨by omega,by omega⟩
 by_cases hq:onP q
 ·rw [verS,verS,hs,hs']
  obtain ⟨i1,l1⟩:=minv_N hs
  obtain ⟨i2,l2⟩:=minv_N hs'
  have fa:∀ a c:Nat,(fi (a+c):Fin (115792089210356248762697446949407573529996955224135760342422259061068512044369:Nat))=fi a+fi c:=fun a c => by
   apply Fin.ext; rw [Fin.val_add]; simp only [fi_val,← Nat.add_mod]
  have hz:(fi s:Fin (115792089210356248762697446949407573529996955224135760342422259061068512044369:Nat))+fi ((115792089210356248762697446949407573529996955224135760342422259061068512044369:Nat) - s)=0:=by
   rw [← fa,show s+((115792089210356248762697446949407573529996955224135760342422259061068512044369:Nat) - s)=(115792089210356248762697446949407573529996955224135760342422259061068512044369:Nat) by omega]
   apply Fin.ext; rw [fi_val,Nat.mod_self]; rfl
  have key:∀ a:Nat,(fmul (115792089210356248762697446949407573529996955224135760342422259061068512044369:Nat) a (minv (115792089210356248762697446949407573529996955224135760342422259061068512044369:Nat) s)+fmul (115792089210356248762697446949407573529996955224135760342422259061068512044369:Nat) a (minv (115792089210356248762697446949407573529996955224135760342422259061068512044369:Nat) ((115792089210356248762697446949407573529996955224135760342422259061068512044369:Nat) - s)))%(115792089210356248762697446949407573529996955224135760342422259061068512044369:Nat)=0:=fun a => by
   have:(fi (fmul (115792089210356248762697446949407573529996955224135760342422259061068512044369:Nat) a (minv (115792089210356248762697446949407573529996955224135760342422259061068512044369:Nat) s)+fmul (115792089210356248762697446949407573529996955224135760342422259061068512044369:Nat) a (minv (115792089210356248762697446949407573529996955224135760342422259061068512044369:Nat) ((115792089210356248762697446949407573529996955224135760342422259061068512044369:Nat) - s))):Fin (115792089210356248762697446949407573529996955224135760342422259061068512044369:Nat))=fi 0:=by
    rw [fa,fi_mul,fi_mul,fi_zero]
    generalize (fi (minv (115792089210356248762697446949407573529996955224135760342422259061068512044369:Nat) ((115792089210356248762697446949407573529996955224135760342422259061068512044369:Nat) - s)):Fin (115792089210356248762697446949407573529996955224135760342422259061068512044369:Nat))=w' at *
    generalize (fi (minv (115792089210356248762697446949407573529996955224135760342422259061068512044369:Nat) s):Fin (115792089210356248762697446949407573529996955224135760342422259061068512044369:Nat))=w at *
    generalize (fi ((115792089210356248762697446949407573529996955224135760342422259061068512044369:Nat) - s):Fin (115792089210356248762697446949407573529996955224135760342422259061068512044369:Nat))=s' at *
    generalize (fi s:Fin (115792089210356248762697446949407573529996955224135760342422259061068512044369:Nat))=sv at *
    generalize (fi a:Fin (115792089210356248762697446949407573529996955224135760342422259061068512044369:Nat))=av at *
    have e1:s'=0 - sv:=by clear i1 i2; grobner
    subst e1
    have e2:w'=0 - w:=by
     have:w'=(sv*w)*w':=by rw [i1]; clear i1 i2 hz; grobner
     rw [this]
     have:sv*w*w'=0 - ((0 - sv)*w')*w:=by clear i1 i2 hz this; grobner
     rw [this,i2]; clear i1 i2 hz this; grobner
    rw [e2]; clear i1 i2 hz e2; grobner
   exact fmodn this
  have m1:=nm_neg crv_P baseP_on base_n (key (be h%(115792089210356248762697446949407573529996955224135760342422259061068512044369:Nat)))
  have m2:=nm_neg crv_P hq (all_n hq) (key r)
  simp only [mulA_nm baseP_on,mulA_nm hq]
  rw [m1,m2,aneg_add crv_P (nm_on crv_P baseP_on _) (nm_on crv_P hq _)]
  simp only [aneg_x,aneg_far]
 ·rw [verS,verS]
  simp only [hq,decide_false,Bool.false_and]
end Go.Proofs.Ytgfploghjpbcaaa.Eng

