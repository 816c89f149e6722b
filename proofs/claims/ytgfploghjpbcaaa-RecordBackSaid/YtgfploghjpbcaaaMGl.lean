/- The group law of the curve, by slopes. (No program in sight.) -/
import Derived.Test.YtgfploghjpbcaaaMEc
import Derived.Test.YtgfploghjpbcaaaMPt
namespace Go.Proofs.Ytgfploghjpbcaaa.Eng
open Go
set_option linter.unusedVariables false
set_option linter.unusedSimpArgs false
set_option linter.unusedSectionVars false
inductive Pt (p:Nat) where
 | far
 | pt (x y:Fin p)
section
variable {p:Nat} [NeZero p]
structure Sp (x y x' y' l:Fin p):Prop where
 c:l*(x' - x)=y' - y
 t:l*(y+y')=x*x+x*x'+x'*x' - 3
def Pt.neg:Pt p→Pt p
 | .far => .far
 | .pt x y => .pt x (0 - y)
def OnC (b:Fin p):Pt p→Prop
 | .far => True
 | .pt x y => y*y=x*x*x - 3*x+b
def Sm:Pt p→Pt p→Pt p→Prop
 | .far,c,d => d=c
 | .pt x y,.far,d => d=.pt x y
 | .pt x y,.pt x' y',d => (x=x'∧y=0 - y'∧d=.far)∨(¬ (x=x'∧y=0 - y')∧∃ l,Sp x y x' y' l∧d=.pt (l*l - x - x') (l*(x - (l*l - x - x')) - y))
structure Fd (p:Nat) [NeZero p] (b:Fin p):Prop where
 nz:∀ a c:Fin p,a*c=0→a=0∨c=0
 inv:∀ a:Fin p,a≠0→∃ i,a*i=1
 two:(2:Fin p)≠0
 three:(3:Fin p)≠0
 sing:b*b≠4
variable {b:Fin p} {x y x' y' x1 y1 x2 y2 x3 y3 l k:Fin p} {A B C D E D' E':Pt p}
theorem sub_eq0 {a c:Fin p} (h:a - c=0):a=c:=by grobner
theorem neg_neg0 (a:Fin p):0 - (0 - a)=a:=by grobner
theorem OnC.neg (h:OnC b A):OnC b A.neg:=by
 cases A with
 | far => trivial
 | pt x y =>
  show (0 - y)*(0 - y)=_
  have h:y*y=x*x*x - 3*x+b:=h
  rw [← h]; grobner
theorem Sp.symm (h:Sp x y x' y' l):Sp x' y' x y l:=by
 obtain ⟨h1,h2⟩:=h
 exact ⟨by grobner,by grobner⟩
theorem Sp.neg (h:Sp x y x' y' l):Sp x (0 - y) x' (0 - y') (0 - l):=by
 obtain ⟨h1,h2⟩:=h
 exact ⟨by grobner,by grobner⟩
theorem Sp.uniq (K:Fd p b) (h:Sp x y x' y' l) (h':Sp x y x' y' k) (hn:¬ (x=x'∧y=0 - y')):l=k:=by
 obtain ⟨h1,h2⟩:=h
 obtain ⟨h3,h4⟩:=h'
 have e1:(l - k)*(x' - x)=0:=by grobner
 have e2:(l - k)*(y+y')=0:=by grobner
 rcases K.nz _ _ e1 with h | h
 ·exact sub_eq0 h
 rcases K.nz _ _ e2 with h' | h'
 ·exact sub_eq0 h'
 ·exact absurd ⟨(sub_eq0 h).symm,by grobner⟩ hn
theorem Sp.third (h:Sp x y x' y' l):l*(x - (l*l - x - x')) - y=l*(x' - (l*l - x - x')) - y':=by
 obtain ⟨h1,h2⟩:=h
 grobner
theorem Sm.comm (h:Sm A B C):Sm B A C:=by
 cases A with
 | far =>
  cases B with
  | far => exact h
  | pt x y => exact h
 | pt x y =>
  cases B with
  | far => exact h
  | pt x' y' =>
   rcases h with ⟨h1,h2,h3⟩ | ⟨h1,l,h2,h3⟩
   ·exact .inl ⟨h1.symm,by rw [h2,neg_neg0],h3⟩
   ·refine .inr ⟨fun h => h1 ⟨h.1.symm,by rw [h.2,neg_neg0]⟩,l,h2.symm,?_⟩
    rw [h3,h2.third,show l*l - x - x'=l*l - x' - x by grobner]
theorem Sm.func (K:Fd p b) (h:Sm A B C) (h':Sm A B D):C=D:=by
 cases A with
 | far => exact Eq.trans h (Eq.symm h')
 | pt x y =>
  cases B with
  | far => exact Eq.trans h (Eq.symm h')
  | pt x' y' =>
   rcases h with ⟨h1,h2,h3⟩ | ⟨h1,l,h2,h3⟩ <;> rcases h' with ⟨g1,g2,g3⟩ | ⟨g1,k,g2,g3⟩
   ·rw [h3,g3]
   ·exact absurd ⟨h1,h2⟩ g1
   ·exact absurd ⟨g1,g2⟩ h1
   ·rw [h3,g3,h2.uniq K g2 h1]
theorem Sm.neg (h:Sm A B C):Sm A.neg B.neg C.neg:=by
 cases A with
 | far => have h:C=B:=h
          subst h; rfl
 | pt x y =>
  cases B with
  | far => have h:C=.pt x y:=h
           subst h; rfl
  | pt x' y' =>
   rcases h with ⟨h1,h2,h3⟩ | ⟨h1,l,h2,h3⟩
   ·subst h3
    exact .inl ⟨h1,by rw [h2],rfl⟩
   ·subst h3
    refine .inr ⟨fun h => h1 ⟨h.1,?_⟩,0 - l,h2.neg,?_⟩
    ·have:=h.2; grobner
    ·show Pt.pt _ _=Pt.pt _ _
     rw [show (0 - l)*(0 - l)=l*l by grobner]
     congr 1
     grobner
theorem Sp.on (h:Sp x y x' y' l) (h1:y*y=x*x*x - 3*x+b) (hx:x3=l*l - x - x') (hy:y3=l*(x - x3) - y):y3*y3=x3*x3*x3 - 3*x3+b:=by
 obtain ⟨g1,g2⟩:=h
 have e:l*l*(x' - x)+2*l*y=x*x+x*x'+x'*x' - 3:=by
  rw [← g2]
  have:l*l*(x' - x)=l*(y' - y):=by rw [← g1]; clear g1 g2 hx hy h1; grobner
  rw [this]; clear g1 g2 hx hy h1 this; grobner
 have hx':x'=l*l - x - x3:=by clear g1 g2 hy h1 e; grobner
 clear g1 g2 hx
 subst hx' hy
 grobner
theorem Sm.on (ha:OnC b A) (hb:OnC b B) (h:Sm A B C):OnC b C:=by
 cases A with
 | far => have h:C=B:=h
          subst h; exact hb
 | pt x y =>
  cases B with
  | far => have h:C=.pt x y:=h
           subst h; exact ha
  | pt x' y' =>
   rcases h with ⟨h1,h2,h3⟩ | ⟨h1,l,h2,h3⟩
   ·subst h3; trivial
   ·subst h3; exact h2.on ha rfl rfl
theorem no_sing (K:Fd p b) (h:y*y=x*x*x - 3*x+b) (hy:y=0 - y) (hx:3*(x*x - 1)=0):False:=by
 have e0:2*y=0:=by clear h hx; grobner
 rcases K.nz _ _ e0 with h2 | h2
 ·exact K.two h2
 rcases K.nz _ _ hx with h3 | h3
 ·exact K.three h3
 subst h2
 apply K.sing
 clear hx hy e0
 have hb:b=3*x - x*x*x:=by grobner
 have hx1:x*x=1:=by grobner
 rw [hx1] at hb
 subst hb
 grobner
theorem Sm.cancel (K:Fd p b) (ha:OnC b A) (h:Sm A B C):Sm A.neg C B:=by
 cases A with
 | far => exact Eq.symm h
 | pt x y =>
  cases B with
  | far =>
   have h:C=.pt x y:=h
   subst h
   exact .inl ⟨rfl,rfl,rfl⟩
  | pt x' y' =>
   rcases h with ⟨h1,h2,h3⟩ | ⟨h1,l,h2,h3⟩
   ·subst h3
    show Pt.pt x' y'=Pt.pt x (0 - y)
    rw [h1,h2,neg_neg0]
   ·subst h3
    obtain ⟨x3,hx3⟩:∃ x3,x3=l*l - x - x':=⟨_,rfl⟩
    rw [← hx3]
    obtain ⟨y3,hy3⟩:∃ y3,y3=l*(x - x3) - y:=⟨_,rfl⟩
    rw [← hy3]
    have ha:y*y=x*x*x - 3*x+b:=ha
    obtain ⟨g1,g2⟩:=h2
    have e:l*l*(x' - x)+2*l*y=x*x+x*x'+x'*x' - 3:=by
     rw [← g2]
     have:l*l*(x' - x)=l*(y' - y):=by rw [← g1]; clear g1 g2 hx3 hy3 ha; grobner
     rw [this]; clear g1 g2 hx3 hy3 ha this; grobner
    have hx':x'=l*l - x - x3:=by clear g1 g2 hy3 ha e; grobner
    have hy':y'=y+l*(x' - x):=by rw [g1]; clear g1 g2 hx3 hy3 ha e hx'; grobner
    refine .inr ⟨?_,0 - l,⟨?_,?_⟩,?_⟩
    ·rintro ⟨k1,k2⟩
     have k3:y=0 - y:=by
      have:y3=0 - y:=by rw [hy3,← k1]; clear k1 k2 g1 g2 hx3 hy3 ha e hx' hy'; grobner
      rw [this] at k2; clear g1 g2 hx3 hy3 ha e hx' hy' this; grobner
     refine no_sing K ha k3 ?_
     have e0:2*y=0:=by clear ha k1 k2 g1 g2 hx3 hy3 e hx' hy'; grobner
     rw [← k1] at hx'
     clear k1 k2 k3 g1 g2 hx3 hy3 hy' ha
     subst hx'
     grobner
    ·rw [hy3]; clear g1 g2 hx3 hy3 ha e hx' hy'; grobner
    ·rw [hy3]; clear g1 g2 hx3 hy3 ha hy'; subst hx'; grobner
    ·have q1:(0 - l)*(0 - l) - x - x3=x':=by rw [hx']; clear g1 g2 hx3 hy3 ha e hx' hy'; grobner
     rw [q1,hy']
     congr 1
     clear g1 g2 hx3 hy3 ha e hx' hy' q1; grobner
theorem slopes (K:Fd p b) {r:Fin p} (h1:Sp x1 y1 x2 y2 l) (h2:Sp x2 y2 x3 y3 k) (hd:l - k≠0) (hr:r*(l - k)=x3 - x1)
  {xa ya:Fin p} (ha:xa=l*l - x1 - x2) (hya:ya=l*(x1 - xa) - y1):Sp xa ya x3 y3 (0 - (l+r))∧(0 - (l+r))*(0 - (l+r)) - xa - x3 - x2=r*(l+k+r):=by
 obtain ⟨g1,g2⟩:=h1
 obtain ⟨g3,g4⟩:=h2
 -- all from the middle point
 obtain ⟨u,hu⟩:∃ u,u=x1 - x2:=⟨_,rfl⟩
 obtain ⟨v,hv⟩:∃ v,v=x3 - x2:=⟨_,rfl⟩
 obtain ⟨X,hX⟩:∃ X,X=xa - x2:=⟨_,rfl⟩
 have e1:x1=x2+u:=by rw [hu]; clear g1 g2 g3 g4 hr ha hya hu hv hX; grobner
 have e3:x3=x2+v:=by rw [hv]; clear g1 g2 g3 g4 hr ha hya hu hv hX e1; grobner
 have ea:xa=x2+X:=by rw [hX]; clear g1 g2 g3 g4 hr ha hya hu hv hX e1 e3; grobner
 have f1:y1=y2+l*u:=by
  have:l*u=y1 - y2:=by rw [hu]; clear g2 g3 g4 hr ha hya hu hv hX e1 e3 ea; grobner
  rw [this]; clear g1 g2 g3 g4 hr ha hya hu hv hX e1 e3 ea this; grobner
 have f3:y3=y2+k*v:=by
  rw [hv,g3]; clear g1 g2 g3 g4 hr ha hya hu hv hX e1 e3 ea f1; grobner
 clear hu hv hX
 subst e1 e3 ea f1 f3
 have E1:2*y2*l+l*l*u=3*(x2*x2) - 3+3*x2*u+u*u:=by clear g1 g3 g4 hr ha hya; grobner
 have E2:2*y2*k+k*k*v=3*(x2*x2) - 3+3*x2*v+v*v:=by clear g1 g2 g3 hr ha hya E1; grobner
 have hr':r*(l - k)=v - u:=by rw [hr]; clear g1 g2 g3 g4 hr ha hya E1 E2; grobner
 have hX':X=l*l - 3*x2 - u:=by clear g1 g2 g3 g4 hr hr' hya E1 E2; grobner
 have hY':ya=0 - (y2+l*X):=by rw [hya]; clear g1 g2 g3 g4 hr hr' hya E1 E2 hX' ha; grobner
 clear g1 g2 g3 g4 hr ha hya
 -- r A=w+s v
 have key:r*(X - v)=2*y2+(l+k)*v:=by
  have:(l - k)*(r*(X - v) - (2*y2+(l+k)*v))=0:=by
   have q1:(l - k)*(r*(X - v) - (2*y2+(l+k)*v))=(r*(l - k))*(X - v) - (l - k)*(2*y2+(l+k)*v):=by clear E1 E2 hr' hX' hY'; grobner
   rw [q1,hr',hX']
   clear hr' hX' hY' q1
   grobner
  rcases K.nz _ _ this with h | h
  ·exact absurd h hd
  ·exact sub_eq0 h
 refine ⟨⟨?_,?_⟩,?_⟩
 ·rw [hY']; clear E1 E2 hr' hX' hY'; grobner
 ·rw [hY']
  have q1:(0 - (l+r))*(0 - (y2+l*X)+(y2+k*v))=l*l*X - l*k*v+r*(l*X - k*v):=by clear E1 E2 hr' hX' hY' key; grobner
  have q2:r*(l*X - k*v)=X*(r*(l - k))+k*(r*(X - v)):=by clear E1 E2 hr' hX' hY' key q1; grobner
  rw [q1,q2,hr',key,hX']
  clear hr' hX' hY' key q1 q2 E1
  grobner
 ·rw [hX']
  have q1:(l+k+r)*r=(2*l+r)*r - r*(l - k):=by clear E1 E2 hr' hX' hY' key; grobner
  have q2:r*(l+k+r)=(l+k+r)*r:=by clear E1 E2 hr' hX' hY' key q1; grobner
  rw [q2,q1,hr']
  clear E1 E2 hr' hX' hY' key q1 q2
  grobner
theorem Sp.noneg (K:Fd p b) (h:Sp x y x' y' l) (hon:y*y=x*x*x - 3*x+b):¬ (x=x'∧y=0 - y'):=by
 rintro ⟨rfl,h2⟩
 obtain ⟨g1,g2⟩:=h
 have e:y'=0 - y:=by rw [h2,neg_neg0]
 subst e
 refine no_sing K hon ?_ ?_
 ·clear hon g2 h2; grobner
 ·clear hon g1 h2; grobner
theorem Sm.assoc (K:Fd p b) (ha:OnC b A) (hb:OnC b B) (hc:OnC b C) (h1:Sm A B D) (h2:Sm D C E) (h3:Sm B C D') (h4:Sm A D' E'):E=E':=by
 cases A with
 | far =>
  have h1:D=B:=h1
  have h4:E'=D':=h4
  subst h1 h4
  exact h2.func K h3
 | pt x1 y1 =>
  cases B with
  | far =>
   have h1:D=.pt x1 y1:=h1
   have h3:D'=C:=h3
   subst h1 h3
   exact h2.func K h4
  | pt x2 y2 =>
   cases C with
   | far =>
    have h3:D'=.pt x2 y2:=h3
    subst h3
    have h2':E=D:=h2.comm
    subst h2'
    exact h1.func K h4
   | pt x3 y3 =>
    have hD:=h1.on ha hb
    have hD':=h3.on hb hc
    have h1c:=h1
    have h3c:=h3
    rcases h1 with ⟨a1,a2,a3⟩ | ⟨a1,l,a2,a3⟩
    ·subst a3
     have h2:E=.pt x3 y3:=h2
     subst h2
     have:=h3c.cancel K hb
     have e:(Pt.pt x2 y2).neg=.pt x1 y1:=by rw [a1,a2]; rfl
     rw [e] at this
     exact this.func K h4
    ·rcases h3 with ⟨b1,b2,b3⟩ | ⟨b1,k,b2,b3⟩
     ·subst b3
      have h4:E'=.pt x1 y1:=h4
      subst h4
      have:=h1c.comm.cancel K hb
      have e:(Pt.pt x2 y2).neg=.pt x3 y3:=by rw [b1,b2]; show Pt.pt x3 (0 - (0 - y3))=_; rw [neg_neg0]
      rw [e] at this
      exact h2.func K this.comm
     ·by_cases hd:l - k=0
      ·have hlk:l=k:=sub_eq0 hd
       subst hlk
       by_cases hx:x1=x3
       ·have hy:y1=y3:=by
         subst hx
         have g1:=a2.c; clear a2
         have g3:=b2.c; clear b2
         clear h2 h4 h1c h3c a1 a3 b1 b3 ha hb hc hd hD hD'
         grobner
        subst hx hy
        have:=h1c.comm.func K h3c
        subst this
        exact (h2.comm).func K h4
       ·-- three points of one line
        have hs:l*l=x1+x2+x3:=by
         obtain ⟨g1,g2⟩:=a2
         obtain ⟨g3,g4⟩:=b2
         have:(x3 - x1)*(l*l - (x1+x2+x3))=0:=by
          clear h2 h4 h1c h3c a1 a3 b1 b3 ha hb hc hd hD hD' hx
          have y1e:y1=y2 - l*(x2 - x1):=by clear g2 g3 g4; grobner
          have y3e:y3=y2+l*(x3 - x2):=by clear g1 g2 g4 y1e; grobner
          clear g1 g3
          subst y1e y3e
          grobner
         rcases K.nz _ _ this with h | h
         ·exact absurd (sub_eq0 h).symm hx
         ·exact sub_eq0 h
        have e1:E=.far:=by
         subst a3
         have q1:l*l - x1 - x2=x3:=by rw [hs]; clear h2 h4 h1c h3c b3 ha hb hc hD hD' hs; grobner
         have q2:l*(x1 - x3) - y1=0 - y3:=by
          have g1:=a2.c; clear a2
          have g3:=b2.c; clear b2
          clear h2 h4 h1c h3c b3 ha hb hc hD hD' hs q1
          grobner
         rw [q1,q2] at h2
         exact h2.func K (.inl ⟨rfl,rfl,rfl⟩)
        have e2:E'=.far:=by
         subst b3
         have q1:l*l - x2 - x3=x1:=by rw [hs]; clear h2 h4 h1c h3c a3 ha hb hc hD hD' hs; grobner
         have q2:l*(x2 - x1) - y2=0 - y1:=by
          have g1:=a2.c; clear a2
          clear h2 h4 h1c h3c a3 ha hb hc hD hD' hs q1
          grobner
         rw [q1,q2] at h4
         exact h4.func K (.inl ⟨rfl,by rw [neg_neg0],rfl⟩)
        rw [e1,e2]
      ·obtain ⟨i,hi⟩:=K.inv _ hd
       have hr:(x3 - x1)*i*(l - k)=x3 - x1:=by
        have:(x3 - x1)*i*(l - k)=(x3 - x1)*((l - k)*i):=by clear h2 h4 h1c h3c a3 b3 ha hb hc hD hD' hi; grobner
        rw [this,hi]; clear h2 h4 h1c h3c a3 b3 ha hb hc hD hD' hi this; grobner
       generalize (x3 - x1)*i=r at hr
       subst a3 b3
       obtain ⟨s1,s2⟩:=slopes K a2 b2 hd hr rfl rfl
       have hd':k - l≠0:=fun h => hd (by clear h2 h4 h1c h3c ha hb hc hD hD' hi hr s1 s2; grobner)
       have hr':r*(k - l)=x1 - x3:=by clear h2 h4 h1c h3c ha hb hc hD hD' hi s1 s2; grobner
       have sw:k*k - x3 - x2=k*k - x2 - x3:=by clear h2 h4 h1c h3c ha hb hc hD hD' hi hr hr' s1 s2; grobner
       have t3:k*(x3 - (k*k - x3 - x2)) - y3=k*(x2 - (k*k - x2 - x3)) - y2:=by rw [b2.third,sw]
       obtain ⟨s3,s4⟩:=slopes K b2.symm a2.symm hd' hr' rfl rfl
       rw [t3,sw] at s3
       rw [sw] at s4
       generalize hxa:l*l - x1 - x2=xa at *
       generalize hya:l*(x1 - xa) - y1=ya at *
       generalize hxb:k*k - x2 - x3=xb at *
       generalize hyb:k*(x2 - xb) - y2=yb at *
       have n1:=s1.noneg K hD
       have n2:=s3.symm.noneg K ha
       have m1:=h2.func K (.inr ⟨n1,_,s1,rfl⟩)
       have m2:=h4.func K (.inr ⟨n2,_,s3.symm,rfl⟩)
       rw [m1,m2,s1.third]
       have q:(0 - (l+r))*(0 - (l+r)) - xa - x3=(0 - (k+r))*(0 - (k+r)) - x1 - xb:=by
        clear h2 h4 h1c h3c ha hb hc hD hD' hi hr hr' s1 s3 t3 m1 m2 hxa hya hxb hyb n1 n2
        grobner
       rw [← q]
       congr 1
       obtain ⟨xe,hxe⟩:∃ xe,xe=(0 - (l+r))*(0 - (l+r)) - xa - x3:=⟨_,rfl⟩
       rw [← hxe] at s2 ⊢
       have q3:xe=x2+r*(l+k+r):=by clear h2 h4 h1c h3c ha hb hc hD hD' hi hr hr' s1 s3 s4 t3 m1 m2 hxa hya hxb hyb n1 n2 q hxe; grobner
       have g1:=a2.c; clear a2
       have g3:=b2.c; clear b2
       clear h2 h4 h1c h3c ha hb hc hD hD' hi hr' s1 s2 s3 s4 t3 m1 m2 hxa hya hxb hyb n1 n2 q hxe
       have y1e:y1=y2 - l*(x2 - x1):=by clear hr g3 q3; grobner
       have y3e:y3=y2+k*(x3 - x2):=by clear hr g1 q3 y1e; grobner
       clear g1 g3
       have x3e:x3=x1+r*(l - k):=by rw [hr]; clear hr q3 y1e y3e; grobner
       clear hr
       subst y1e y3e q3 x3e
       grobner
end
section
variable {p:Nat} [NeZero p]
def cv:Aff→Pt p
 | .far => .far
 | .pt x y => .pt (fi x) (fi y)
structure Crv (p b:Nat) [NeZero p]:Prop where
 hp:Prm p
 h3:3<p
 hb:b<p
 hs:b*b%p≠4%p
variable {b:Nat} {a c d:Aff}
theorem Crv.fd (h:Crv p b):Fd p (fi b) where
 nz:=fun _ _ => fin_nozd h.hp
 inv:=fun a ha => by
  refine ⟨fi (minv p a.val),?_⟩
  have:=fi_minv (p:=p) h.hp (a:=a.val) (Nat.pos_of_ne_zero fun e => ha (Fin.ext e)) a.2
  rwa [fi_self] at this
 two:=fun e => by
  have:=congrArg Fin.val e
  have e2:((2:Fin p):Nat)=2%p:=rfl
  rw [e2,Nat.mod_eq_of_lt (by have:=h.h3; omega)] at this
  cases this
 three:=fun e => by
  have:=congrArg Fin.val e
  have e2:((3:Fin p):Nat)=3%p:=rfl
  rw [e2,Nat.mod_eq_of_lt (by have:=h.h3; omega)] at this
  cases this
 sing:=fun e => by
  have:=congrArg Fin.val e
  rw [Fin.val_mul,fi_val,← Nat.mul_mod] at this
  exact h.hs this
theorem cv_on (h:Crv p b) (ha:onA p b a):OnC (fi b) (cv (p:=p) a):=by
 cases a with
 | far => trivial
 | pt x y => exact (onB_iff ha.1 ha.2.1 h.hb).1 ha.2.2
theorem cv_inj (ha:onA p b a) (hc:onA p b c) (h:cv (p:=p) a=cv c):a=c:=by
 cases a with
 | far =>
  cases c with
  | far => rfl
  | pt x y => cases h
 | pt x y =>
  cases c with
  | far => cases h
  | pt x' y' =>
   have h:Pt.pt (fi x:Fin p) (fi y)=Pt.pt (fi x') (fi y'):=h
   injection h with h1 h2
   rw [fi_inj ha.1 hc.1 h1,fi_inj ha.2.1 hc.2.1 h2]
theorem aaddC_on (h:Crv p b) (ha:onA p b a) (hc:onA p b c):onA p b (aadd p a c) :=
 (rep_sum h.hp h.h3 h.hb (lift_ok h.hp.1 ha) (lift_ok h.hp.1 hc) ha hc (lift_rep a) (lift_rep c)).2
theorem cv_sm (h:Crv p b) (ha:onA p b a) (hc:onA p b c):Sm (cv (p:=p) a) (cv c) (cv (aadd p a c)):=by
 have h0:0<p:=Nat.pos_of_neZero p
 have K:=h.fd
 cases a with
 | far => rfl
 | pt x y =>
  cases c with
  | far => rfl
  | pt x' y' =>
   obtain ⟨hx,hy,hon⟩:=ha
   obtain ⟨hx',hy',hon'⟩:=hc
   have on1:=(onB_iff hx hy h.hb).1 hon
   have on2:=(onB_iff hx' hy' h.hb).1 hon'
   by_cases h1:x=x'∧y=fsub p 0 y'
   ·rw [aadd,if_pos h1]
    exact .inl ⟨by rw [h1.1],by rw [h1.2,fi_sub hy',fi_zero],rfl⟩
   ·have h1':¬ ((fi x:Fin p)=fi x'∧(fi y:Fin p)=0 - fi y'):=fun hh => h1 ⟨fi_inj hx hx' hh.1,fi_inj hy (fsub_lt h0 _ _) (by rw [fi_sub hy',fi_zero]; exact hh.2)⟩
    rw [aadd,if_neg h1]
    -- the slope
    generalize hl:(if x=x'∧y=y' then fmul p (fmul p 3 (fsub p (fmul p x x) 1)) (minv p (fadd p y y)) else fmul p (fsub p y' y) (minv p (fsub p x' x)))=l
    have hs:Sp (fi x:Fin p) (fi y) (fi x') (fi y') (fi l):=by
     by_cases h2:x=x'∧y=y'
     ·rw [if_pos h2] at hl
      obtain ⟨rfl,rfl⟩:=h2
      have hyy:(fi y:Fin p)+fi y≠0:=fun hh => h1' ⟨rfl,by grobner⟩
      have hyy':fadd p y y≠0:=fun hh => hyy (by rw [← fi_add,hh]; rfl)
      have hi:=fi_minv h.hp (Nat.pos_of_ne_zero hyy') (fadd_lt h0 y y)
      rw [fi_add] at hi
      generalize minv p (fadd p y y)=i at *
      refine ⟨by grobner,?_⟩
      rw [← hl,fi_mul,fi_mul,fi_sub (show 1<p by have:=h.h3; omega),fi_mul]
      have:(fi 3:Fin p)=3:=rfl
      rw [this,fi_one]
      have:∀ a:Fin p,a*fi i*(fi y+fi y)=a*((fi y+fi y)*fi i):=fun a => by grobner
      rw [this,hi]; grobner
     ·rw [if_neg h2] at hl
      have hxx:x≠x':=fun hxx => by
       subst hxx
       rcases same_xp h.hp hx hy hy' h.hb hon hon' with hh | hh
       ·exact h2 ⟨rfl,hh⟩
       ·exact h1 ⟨rfl,hh⟩
      have hd:(fi x':Fin p) - fi x≠0:=fun hh => hxx (fi_inj hx' hx (sub_eq0 hh)).symm
      have hd':fsub p x' x≠0:=fun hh => hd (by rw [← fi_sub hx,hh]; rfl)
      have hi:=fi_minv h.hp (Nat.pos_of_ne_zero hd') (fsub_lt h0 x' x)
      rw [fi_sub hx] at hi
      generalize minv p (fsub p x' x)=i at *
      have hl':(fi l:Fin p)*(fi x' - fi x)=fi y' - fi y:=by
       rw [← hl,fi_mul,fi_sub hy]
       have:∀ a:Fin p,a*fi i*(fi x' - fi x)=a*((fi x' - fi x)*fi i):=fun a => by grobner
       rw [this,hi]; grobner
      refine ⟨hl',?_⟩
      have e:(fi x' - fi x:Fin p)*(fi l*(fi y+fi y') - (fi x*fi x+fi x*fi x'+fi x'*fi x' - 3))=0:=by
       have q1:(fi x' - fi x:Fin p)*(fi l*(fi y+fi y') - (fi x*fi x+fi x*fi x'+fi x'*fi x' - 3))=(fi l*(fi x' - fi x))*(fi y+fi y') - (fi x' - fi x)*(fi x*fi x+fi x*fi x'+fi x'*fi x' - 3):=by clear hl' hi on1 on2; grobner
       rw [q1,hl']
       clear q1 hl' hi
       grobner
      rcases K.nz _ _ e with hh | hh
      ·exact absurd hh hd
      ·exact sub_eq0 hh
    refine .inr ⟨h1',fi l,hs,?_⟩
    show Pt.pt _ _=Pt.pt _ _
    rw [fi_sub hx',fi_sub hx,fi_mul,fi_sub hy,fi_mul,fi_sub (fsub_lt h0 _ _),fi_sub hx',fi_sub hx,fi_mul]
theorem aadd_assoc (h:Crv p b) (ha:onA p b a) (hc:onA p b c) (hd:onA p b d):aadd p (aadd p a c) d=aadd p a (aadd p c d) :=
 cv_inj (aaddC_on h (aaddC_on h ha hc) hd) (aaddC_on h ha (aaddC_on h hc hd)) (Sm.assoc h.fd (cv_on h ha) (cv_on h hc) (cv_on h hd) (cv_sm h ha hc) (cv_sm h (aaddC_on h ha hc) hd) (cv_sm h hc hd) (cv_sm h ha (aaddC_on h hc hd)))
theorem aadd_far (a:Aff):aadd p a .far=a:=by cases a <;> rfl
/-! ### Multiples -/
noncomputable def nm (p:Nat) (a:Aff):Nat→Aff
 | 0 => .far
 | k+1 => aadd p (nm p a k) a
theorem nm_on (h:Crv p b) (ha:onA p b a):∀ k,onA p b (nm p a k)
 | 0 => trivial
 | k+1 => aaddC_on h (nm_on h ha k) ha
theorem nm_add (h:Crv p b) (ha:onA p b a) (j:Nat):∀ k,nm p a (j+k)=aadd p (nm p a j) (nm p a k)
 | 0 => (aadd_far _).symm
 | k+1 => by
  show aadd p (nm p a (j+k)) a=aadd p (nm p a j) (aadd p (nm p a k) a)
  rw [nm_add h ha j k,aadd_assoc h (nm_on h ha j) (nm_on h ha k) ha]
theorem nm_far:∀ k,nm p .far k=.far
 | 0 => rfl
 | k+1 => by rw [nm,nm_far k]; rfl
theorem nm_mul (h:Crv p b) (ha:onA p b a) (j:Nat):∀ k,nm p a (j*k)=nm p (nm p a j) k
 | 0 => rfl
 | k+1 => by rw [Nat.mul_succ,nm_add h ha,nm_mul h ha j k,nm]
theorem amk_nm (h:Crv p b) (ha:onA p b a):∀ n k,k<2^n→amk p a n k=nm p a k
 | 0,k,hk => by
  obtain rfl:k=0:=by simpa using hk
  rfl
 | n+1,k,hk => by
  rw [Nat.pow_succ] at hk
  have h2:=Nat.div_add_mod k 2
  have h3:=Nat.mod_lt k (show 0<2 by decide)
  rw [amk,amk_nm h ha n (k / 2) (by omega),← nm_add h ha]
  split
  ·congr 1; omega
  ·have:k=(k / 2+k / 2)+1:=by omega
   conv => rhs; rw [this]
   rfl
end
/-! ### Fermat's little theorem -/
/-! ### Numbers of three parts: modulo the cubic -/
structure N3 where
 a:Nat
 b:Nat
 c:Nat
 deriving DecidableEq
section
variable {p:Nat} [NeZero p]
theorem fi_mul' (a c:Nat):(fi (a*c):Fin p)=fi a*fi c:=by
 apply Fin.ext; rw [Fin.val_mul]; simp only [fi_val,← Nat.mul_mod]
end
section
variable {p b n:Nat} [NeZero p] {g q:Aff}
theorem nm_mod (h:Crv p b) (hg:onA p b g) (hn:nm p g n=.far) (k:Nat):nm p g k=nm p g (k%n):=by
 conv => lhs; rw [← Nat.div_add_mod k n]
 rw [nm_add h hg,nm_mul h hg,hn,nm_far]; rfl
theorem nm_modq (h:Crv p b) (hg:onA p b g) (hn:nm p g n=.far) {j k:Nat} (e:j%n=k%n):nm p g j=nm p g k:=by
 rw [nm_mod h hg hn j,nm_mod h hg hn k,e]
theorem nm_ne (h:Crv p b) (hg:onA p b g) (hn:nm p g n=.far) (hp:Prm n) (h0:g≠.far) {k:Nat} (k0:0<k) (kn:k<n):nm p g k≠.far:=by
 intro e
 obtain ⟨y,hy,h1⟩:=prm_inv hp k0 kn
 have e1:nm p g (k*y)=.far:=by rw [nm_mul h hg,e,nm_far]
 rw [nm_mod h hg hn,h1] at e1
 exact h0 e1
def code (p:Nat):Aff→Nat
 | .far => 2*p
 | .pt x y => if 2*y<p then x else p+x
end
set_option maxRecDepth 10000
instance nzP:NeZero (115792089210356248762697446949407573530086143415290314195533631308867097853951:Nat):=⟨by decide⟩
theorem crv_P:Crv (115792089210356248762697446949407573530086143415290314195533631308867097853951:Nat) (41058363725152142129326129780047268409114441015993725554835256314039467401291:Nat):=⟨prm_P,by decide,by decide,by decide +kernel⟩
theorem baseP_on:onP baseA:=⟨by decide,by decide,by decide +kernel⟩
theorem base_nf:baseA≠.far:=fun h => by cases h
theorem blen_lt (k:Nat):k<2^blen k:=by
 unfold blen
 split
 ·omega
 ·rename_i h; exact Nat.lt_log2_self
theorem mulA_nm {a:Aff} (ha:onP a) (k:Nat):mulA k a=nm (115792089210356248762697446949407573530086143415290314195533631308867097853951:Nat) a k:=amk_nm crv_P ha _ _ (blen_lt k)
theorem mulA_on {a:Aff} (ha:onP a) (k:Nat):onP (mulA k a):=by rw [mulA_nm ha]; exact nm_on crv_P ha k
theorem jn_P:((jmk (115792089210356248762697446949407573530086143415290314195533631308867097853951:Nat) ⟨(48439561293906451759052585252797914202762949526041747995844080717082404635286:Nat),(36134250956749795798585127919587881956611106672985015071877198253568414405109:Nat),1⟩ 256 (115792089210356248762697446949407573529996955224135760342422259061068512044369:Nat)).z == 0)=true:=by decide +kernel
theorem n_256:(115792089210356248762697446949407573529996955224135760342422259061068512044369:Nat)<2^256:=by decide +kernel
theorem amk_n:amk (115792089210356248762697446949407573530086143415290314195533631308867097853951:Nat) baseA 256 (115792089210356248762697446949407573529996955224135760342422259061068512044369:Nat)=nm (115792089210356248762697446949407573530086143415290314195533631308867097853951:Nat) baseA (115792089210356248762697446949407573529996955224135760342422259061068512044369:Nat):=amk_nm crv_P baseP_on 256 (115792089210356248762697446949407573529996955224135760342422259061068512044369:Nat) n_256
theorem rep_k (n k:Nat):rep (p:=(115792089210356248762697446949407573530086143415290314195533631308867097853951:Nat)) (jmk (115792089210356248762697446949407573530086143415290314195533631308867097853951:Nat) (lift baseA) n k) (amk (115792089210356248762697446949407573530086143415290314195533631308867097853951:Nat) baseA n k) :=
 (rep_mk (p:=(115792089210356248762697446949407573530086143415290314195533631308867097853951:Nat)) prm_P (by decide) (b:=(41058363725152142129326129780047268409114441015993725554835256314039467401291:Nat)) (by decide) (lift_ok (by decide) baseP_on) baseP_on (lift_rep baseA) n k).1
theorem rep_far {t:J3} {a:Aff} (h:rep (p:=(115792089210356248762697446949407573530086143415290314195533631308867097853951:Nat)) t a) (hz:t.z=0):a=.far:=by
 cases a with
 | far => rfl
 | pt x y => exact absurd hz h.1
theorem jn_0:(jmk (115792089210356248762697446949407573530086143415290314195533631308867097853951:Nat) (lift baseA) 256 (115792089210356248762697446949407573529996955224135760342422259061068512044369:Nat)).z=0:=beq_iff_eq.1 jn_P
theorem base_aux (n k:Nat) (h1:amk (115792089210356248762697446949407573530086143415290314195533631308867097853951:Nat) baseA n k=nm (115792089210356248762697446949407573530086143415290314195533631308867097853951:Nat) baseA k) (h2:(jmk (115792089210356248762697446949407573530086143415290314195533631308867097853951:Nat) (lift baseA) n k).z=0):nm (115792089210356248762697446949407573530086143415290314195533631308867097853951:Nat) baseA k=.far:=h1.symm.trans (rep_far (rep_k n k) h2)
theorem base_n:nm (115792089210356248762697446949407573530086143415290314195533631308867097853951:Nat) baseA (115792089210356248762697446949407573529996955224135760342422259061068512044369:Nat)=.far:=base_aux 256 (115792089210356248762697446949407573529996955224135760342422259061068512044369:Nat) amk_n jn_0
theorem isFar_iff (a:Aff):a.isFar=true↔a=.far:=by
 cases a with
 | far => exact ⟨fun _ => rfl,fun _ => rfl⟩
 | pt x y => exact ⟨fun h => (by cases h),fun h => (by cases h)⟩
theorem isFar_false {a:Aff} (h:a≠.far):a.isFar=false:=by
 cases hh:a.isFar
 ·rfl
 ·exact absurd ((isFar_iff a).1 hh) h
theorem base_mul_nf {k:Nat} (h:maySc k=true):mulA k baseA≠.far:=by
 rw [mulA_nm baseP_on]
 have:=(maySc_iff k).1 h
 exact nm_ne crv_P baseP_on base_n prm_N base_nf this.1 this.2
theorem fmodn {a c:Nat} (h:(fi a:Fin (115792089210356248762697446949407573529996955224135760342422259061068512044369:Nat))=fi c):a%(115792089210356248762697446949407573529996955224135760342422259061068512044369:Nat)=c%(115792089210356248762697446949407573529996955224135760342422259061068512044369:Nat):=by
 have:=congrArg Fin.val h
 rwa [fi_val,fi_val] at this
instance nzN:NeZero (115792089210356248762697446949407573529996955224135760342422259061068512044369:Nat):=⟨by decide⟩
theorem minv_N {s:Nat} (h:maySc s=true):(fi s:Fin (115792089210356248762697446949407573529996955224135760342422259061068512044369:Nat))*fi (minv (115792089210356248762697446949407573529996955224135760342422259061068512044369:Nat) s)=1∧minv (115792089210356248762697446949407573529996955224135760342422259061068512044369:Nat) s<(115792089210356248762697446949407573529996955224135760342422259061068512044369:Nat):=by
 have:=(maySc_iff s).1 h
 exact ⟨fi_minv prm_N this.1 this.2,(minv_spec (prm_inv prm_N this.1 this.2)).1⟩
theorem sign_holds {d k:Nat} {h:List UInt8} (hd:maySc d=true) (hk:maySc k=true) (hg:goodS d (be h%(115792089210356248762697446949407573529996955224135760342422259061068512044369:Nat)) k=true):verS (mulA d baseA) h (rOf k) (sOf d k (be h%(115792089210356248762697446949407573529996955224135760342422259061068512044369:Nat)))=true:=by
 unfold goodS at hg
 rw [Bool.and_eq_true] at hg
 obtain ⟨hr,hs⟩:=hg
 have o1:=mulA_on baseP_on d
 have f1:=isFar_false (base_mul_nf hd)
 rw [verS]
 simp only [o1,decide_true,f1,hr,hs,Bool.not_false,Bool.and_true,Bool.true_and]
 have key:aadd (115792089210356248762697446949407573530086143415290314195533631308867097853951:Nat) (mulA (fmul (115792089210356248762697446949407573529996955224135760342422259061068512044369:Nat) (be h%(115792089210356248762697446949407573529996955224135760342422259061068512044369:Nat)) (minv (115792089210356248762697446949407573529996955224135760342422259061068512044369:Nat) (sOf d k (be h%(115792089210356248762697446949407573529996955224135760342422259061068512044369:Nat))))) baseA) (mulA (fmul (115792089210356248762697446949407573529996955224135760342422259061068512044369:Nat) (rOf k) (minv (115792089210356248762697446949407573529996955224135760342422259061068512044369:Nat) (sOf d k (be h%(115792089210356248762697446949407573529996955224135760342422259061068512044369:Nat))))) (mulA d baseA))=mulA k baseA:=by
  rw [mulA_nm o1,mulA_nm baseP_on,mulA_nm baseP_on,mulA_nm baseP_on,← nm_mul crv_P baseP_on,← nm_add crv_P baseP_on]
  refine nm_modq crv_P baseP_on base_n (fmodn ?_)
  generalize hm:be h%(115792089210356248762697446949407573529996955224135760342422259061068512044369:Nat)=m
  rw [hm] at hs
  obtain ⟨k1,_⟩:=minv_N hk
  obtain ⟨s1,_⟩:=minv_N hs
  have se:(fi (sOf d k m):Fin (115792089210356248762697446949407573529996955224135760342422259061068512044369:Nat))=fi (minv (115792089210356248762697446949407573529996955224135760342422259061068512044369:Nat) k)*(fi m+fi (rOf k)*fi d):=by rw [sOf,fi_mul,fi_add,fi_mul]
  have fa:∀ a c:Nat,(fi (a+c):Fin (115792089210356248762697446949407573529996955224135760342422259061068512044369:Nat))=fi a+fi c:=fun a c => by
   apply Fin.ext; rw [Fin.val_add]; simp only [fi_val,← Nat.add_mod]
  rw [fa,fi_mul',fi_mul,fi_mul]
  generalize (fi (sOf d k m):Fin (115792089210356248762697446949407573529996955224135760342422259061068512044369:Nat))=s at *
  generalize (fi (minv (115792089210356248762697446949407573529996955224135760342422259061068512044369:Nat) (sOf d k m)):Fin (115792089210356248762697446949407573529996955224135760342422259061068512044369:Nat))=w at *
  generalize (fi (minv (115792089210356248762697446949407573529996955224135760342422259061068512044369:Nat) k):Fin (115792089210356248762697446949407573529996955224135760342422259061068512044369:Nat))=kk at *
  generalize (fi (rOf k):Fin (115792089210356248762697446949407573529996955224135760342422259061068512044369:Nat))=r at *
  generalize (fi m:Fin (115792089210356248762697446949407573529996955224135760342422259061068512044369:Nat))=mm at *
  generalize (fi d:Fin (115792089210356248762697446949407573529996955224135760342422259061068512044369:Nat))=dd at *
  generalize (fi k:Fin (115792089210356248762697446949407573529996955224135760342422259061068512044369:Nat))=kv at *
  have e1:kv*s=mm+r*dd:=by
   rw [se]
   have:kv*(kk*(mm+r*dd))=(kv*kk)*(mm+r*dd):=by clear se s1 k1; grobner
   rw [this,k1]; clear se s1 k1 this; grobner
  have e2:mm*w+dd*(r*w)=(mm+r*dd)*w:=by clear se s1 k1 e1; grobner
  rw [e2,← e1]
  have e3:kv*s*w=kv*(s*w):=by clear se s1 k1 e1 e2; grobner
  rw [e3,s1]; clear se s1 k1 e1 e2 e3; grobner
 rw [key,isFar_false (base_mul_nf hk)]
 simp [rOf]
end Go.Proofs.Ytgfploghjpbcaaa.Eng

