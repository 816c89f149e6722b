/- Layer 12 for the fares: as Ser1, without On; the day runs by the document. (Ser1, Ser2 turned to this seat.) -/
import Derived.Test.YtcgjlpdkobmpnaaGreatMCc
import Derived.Test.YtcgjlpdkobmpnaaGreatME6
import Derived.Test.YtcgjlpdkobmpnaaGreatMTl
import Derived.Test.YtcgjlpdkobmpnaaGreatMPt
import Derived.Test.YtcgjlpdkobmpnaaGreatMTr
namespace Go.Proofs.YtcgjlpdkobmpnaaGreat.Eng
open Go Go.Proofs
set_option linter.unusedVariables false
set_option linter.unusedSimpArgs false
set_option maxRecDepth 10000
theorem Zrr {l:List Int} {i:Nat} (h:i<l.length):l.getD i 0 ∈ l:=by
 rw [List.getD_eq_getElem?_getD,List.getElem?_eq_getElem h]; exact List.getElem_mem h
theorem Zq4 {l:List Int} {d:Int} (h:d ∈ l):∃ i,i<l.length∧l.getD i 0=d:=by
 obtain ⟨i,hi,e⟩:=List.mem_iff_getElem.1 h
 exact ⟨i,hi,by rw [List.getD_eq_getElem?_getD,List.getElem?_eq_getElem hi]; exact e⟩
def Jx (p:Int→Bool) (l:List Int):Int:=match l.findIdx? p with | some i => i | none => -1
theorem Gu {p:Int→Bool} {l:List Int} {i:Nat} (hi:i<l.length) (h:p (l.getD i 0)=true) (hj:∀ j,j<i→p (l.getD j 0)=false):Jx p l=i:=by
 have:l.findIdx? p=some i:=by
  rw [List.findIdx?_eq_some_iff_getElem]
  refine ⟨hi,?_,fun j hj' => ?_⟩
  ·rw [List.getD_eq_getElem?_getD,List.getElem?_eq_getElem hi] at h; exact h
  ·have:=hj j hj'
   rw [List.getD_eq_getElem?_getD,List.getElem?_eq_getElem (by omega)] at this
   simpa using this
 simp [Jx,this]
theorem Gv {p:Int→Bool} {l:List Int} (hj:∀ j,j<l.length→p (l.getD j 0)=false):Jx p l=-1:=by
 have:l.findIdx? p=none:=by
  rw [List.findIdx?_eq_none_iff]
  intro x hx
  obtain ⟨i,h1,h2⟩:=Zq4 hx
  rw [← h2]; exact hj i h1
 simp [Jx,this]
theorem Aw (p:Int→Bool) (l:List Int):decide (0≤Jx p l)=l.any p:=by
 unfold Jx
 cases h:l.findIdx? p with
 | none =>
  rw [List.findIdx?_eq_none_iff] at h
  have:l.any p=false:=by rw [List.any_eq_false]; intro x hx; simp [h x hx]
  rw [this]; rfl
 | some i =>
  rw [List.findIdx?_eq_some_iff_getElem] at h
  obtain ⟨hi,h1,_⟩:=h
  have:l.any p=true:=by rw [List.any_eq_true]; exact ⟨_,List.getElem_mem hi,h1⟩
  rw [this]; simp
theorem Zvy (l:List Int) (full:Bool) (d:Int) (H:AH) (hl:l.length≤1000000):Called Tryz.prog F.slices_Index_int_int [vI l full,I d] H (I (Jx (fun x => d == x) l)) H:=by
 refine Qr ?_
 simp only [Vn,go_sem,vI]
 refine Z4 _ (fun (i:Nat) => ([(0,vI l full),(1,I d),(7,I l.length),(8,I i)],H)) (fun i => i≤l.length∧∀ j,j<i→(d == l.getD j 0)=false) (fun i => l.length - i) 0 ⟨Nat.zero_le _,fun j hj => by omega⟩ rfl ?_
 rintro i ⟨hi,hj⟩
 simp only [go_sem,vI]
 refine ⟨fun h => ?_,fun h => ?_⟩
 ·have hlt:i<l.length:=by omega
  simp only [go_sem,Znn l i hlt]
  refine ⟨⟨by omega,by omega,by simp⟩,fun he => ?_,fun he => ?_⟩
  ·exact Zl (by rw [Gu hlt he hj])
  ·refine ⟨i+1,by rw [w64 _ (by omega) (by omega)]; rfl,⟨by omega,fun j hj' => ?_⟩,by omega⟩
   rcases Nat.lt_succ_iff_lt_or_eq.1 hj' with h1 | rfl
   ·exact hj j h1
   ·exact he
 ·exact Zl (by rw [Gv fun j hj' => hj j (by omega)])
theorem L8 (l:List Int) (full:Bool) (d:Int) (H:AH) (hl:l.length≤1000000):Called Tryz.prog F.slices_Contains_int_int [vI l full,I d] H (Bl (decide (d ∈ l))) H:=by
 refine Sw ?_
 simp only [Wv,go_sem]
 refine Za (Zvy l full d H hl) (fun _ => rfl) ?_
 simp only [go_sem]
 refine Zl ?_
 rw [Aw]
 congr 2
 rw [Bool.eq_iff_iff,List.any_eq_true,decide_eq_true_eq]
 exact ⟨fun ⟨x,h1,h2⟩ => by rw [beq_iff_eq] at h2; exact h2 ▸ h1,fun h => ⟨d,h,by simp⟩⟩
theorem Zbe (l:List Int) (full:Bool) (g:FuncId) (a b:List AV) (p:Int→Bool) (H:AH) (hl:l.length≤1000000) (hg:∀ x ∈ l,Called Tryz.prog g (a++[I x]++b) H (Bl (p x)) H) :
  Called Tryz.prog F.slices_IndexFunc_int_int [vI l full,.fn (.func g) a b] H (I (Jx p l)) H:=by
 refine T1 ?_
 simp only [Wh,go_sem,vI]
 refine Z4 _ (fun (i:Nat) => ([(0,vI l full),(1,.fn (.func g) a b),(7,I l.length),(8,I i)],H)) (fun i => i≤l.length∧∀ j,j<i→p (l.getD j 0)=false) (fun i => l.length - i) 0 ⟨Nat.zero_le _,fun j hj => by omega⟩ rfl ?_
 rintro i ⟨hi,hj⟩
 simp only [go_sem,vI]
 refine ⟨fun h => ?_,fun h => ?_⟩
 ·have hlt:i<l.length:=by omega
  simp only [go_sem,Znn l i hlt]
  refine ⟨⟨by omega,by omega,by simp⟩,Za (by simpa using hg _ (Zrr hlt)) (fun _ => rfl) ?_⟩
  simp only [go_sem]
  refine ⟨fun he => ?_,fun he => ?_⟩
  ·exact Zl (by rw [Gu hlt he hj])
  ·refine ⟨i+1,by rw [w64 _ (by omega) (by omega)]; rfl,⟨by omega,fun j hj' => ?_⟩,by omega⟩
   rcases Nat.lt_succ_iff_lt_or_eq.1 hj' with h1 | rfl
   ·exact hj j h1
   ·exact he
 ·exact Zl (by rw [Gv fun j hj' => hj j (by omega)])
theorem Fi (l:List Int) (full:Bool) (g:FuncId) (a b:List AV) (p:Int→Bool) (H:AH) (hl:l.length≤1000000) (hg:∀ x ∈ l,Called Tryz.prog g (a++[I x]++b) H (Bl (p x)) H) :
  Called Tryz.prog F.slices_ContainsFunc_int_int [vI l full,.fn (.func g) a b] H (Bl (l.any p)) H:=by
 refine Uo ?_
 simp only [X2,go_sem]
 refine Za (Zbe l full g a b p H hl hg) (fun _ => rfl) ?_
 simp only [go_sem]
 refine Zl ?_
 rw [Aw]
def Jz (l:List Int) (i:Nat):Prop:=l.getD i 0<0∨1048576<l.getD i 0∨(0<i∧l.getD i 0≤l.getD (i - 1) 0)
def Zai (l:List Int):Bool:=decide (l.length≤100)&&decide (∀ i,i<l.length→0≤l.getD i 0∧l.getD i 0≤1048576∧(0<i→l.getD (i - 1) 0<l.getD i 0))
theorem Zah {l:List Int} {i:Nat} (hi:i<l.length) (h:Jz l i):Zai l=false:=by
 unfold Zai
 rw [Bool.and_eq_false_iff]
 right
 rw [decide_eq_false_iff_not]
 intro hh
 have:=hh i hi
 rcases h with h | h | ⟨h0,h⟩
 ·omega
 ·omega
 ·have:=this.2.2 h0; omega
theorem Zsc {l:List Int} (h:∀ i,i<l.length→¬ Jz l i):Zai l=decide (l.length≤100):=by
 unfold Zai
 have:∀ i,i<l.length→0≤l.getD i 0∧l.getD i 0≤1048576∧(0<i→l.getD (i - 1) 0<l.getD i 0):=by
  intro i hi
  have:=h i hi
  simp only [Jz,not_or,not_and] at this
  exact ⟨by omega,by omega,fun h0 => by have:=this.2.2 h0; omega⟩
 rw [decide_eq_true this,Bool.and_true]
theorem Oi (l:List Int) (i:Nat):Jz l i↔((decide (l.getD i 0<0) || decide (1048576<l.getD i 0)) || (decide (0<i)&&decide (l.getD i 0≤l.getD (i - 1) 0)))=true:=by
 simp [Jz,or_assoc]
theorem Ztw (l:List Int) (full:Bool) (H:AH) (hl:l.length≤1000000):Called Tryz.prog F.service_days [vI l full] H (Bl (Zai l)) H:=by
 refine Fw ?_
 simp only [Pj,go_sem,vI]
 refine Z4 _ (fun (i:Nat) => ([(0,vI l full),(5,vI l full),(6,I l.length),(7,I i)],H)) (fun i => i≤l.length∧∀ j,j<i→¬ Jz l j) (fun i => l.length - i) 0 ⟨Nat.zero_le _,fun j hj => by omega⟩ rfl ?_
 rintro i ⟨hi,hj⟩
 simp only [go_sem,vI]
 refine ⟨fun h => ?_,fun h => ?_⟩
 ·have hlt:i<l.length:=by omega
  have next:¬ Jz l i→∃ a',look [(0,AV.view (l.map I) l.length full),(5,AV.view (l.map I) l.length full),(6,I l.length),(7,AV.lit (Value.int IntKind.i64 (IntKind.i64.wrap (↑i+1))))]=look [(0,AV.view (l.map I) l.length full),(5,AV.view (l.map I) l.length full),(6,I l.length),(7,I (a':Nat))]∧(a'≤l.length∧∀ j,j<a'→¬ Jz l j)∧l.length - a'<l.length - i:=by
   intro hb
   refine ⟨i+1,by rw [w64 _ (by omega) (by omega)]; rfl,⟨by omega,fun j hj' => ?_⟩,by omega⟩
   rcases Nat.lt_succ_iff_lt_or_eq.1 hj' with h1 | rfl
   ·exact hj j h1
   ·exact hb
  rcases Nat.eq_zero_or_pos i with rfl | h0
  ·simp only [go_sem,Znn l 0 hlt]
   simp only [go_sem,Int.ofNat_zero,Int.cast_ofNat_Int,Int.lt_irrefl,decide_false,Bool.and_false]
   refine ⟨by rw [List.length_map]; omega,fun hb => ?_,fun hb => ?_⟩
   ·exact Zl (by rw [Zah hlt ((Oi l 0).2 (by rw [hb]; rfl))])
   ·exact next fun hh => by rw [Oi,hb] at hh; simp at hh
  ·have e1:IntKind.i64.wrap ((i:Int) - 1)=((i - 1:Nat):Int):=by rw [w64 _ (by omega) (by omega)]; omega
   have e2:decide ((0:Int)<i)=true:=by simp; omega
   have e3:decide (0<i)=true:=by simp; omega
   simp only [go_sem,Znn l i hlt,e1,e2,Znn l (i - 1) (by omega)]
   refine ⟨⟨by omega,by omega,by simp⟩,fun _ => ⟨by omega,by omega,by simp⟩,fun hb => ?_,fun hb => ?_⟩
   ·exact Zl (by rw [Zah hlt ((Oi l i).2 (by rw [e3,Bool.true_and]; exact hb))])
   ·exact next fun hh => by rw [Oi,e3,Bool.true_and,hb] at hh; cases hh
 ·exact Zl (by rw [Zsc fun j hj' => hj j (by omega)]; simp; omega)
structure Srv where
 week:Int
 from_:Int
 to:Int
 extra:List Int
 except:List Int
def Srv.ok (s:Srv):Prop:=ok64 s.week∧ok64 s.from_∧ok64 s.to∧s.extra.length≤1000000∧s.except.length≤1000000
def Srv.cells (s:Srv) (f g:Bool):List AV:=[I s.week,I s.from_,I s.to,vI s.extra f,vI s.except g]
def Srv.av (s:Srv) (f g:Bool):AV:=.agg (s.cells f g)
theorem Z08 (s:Srv) (f g:Bool) (p:Nat) (d:Int) (H:AH) (hs:s.ok) (hp:p<H.length) (ho:obj H p=⟨s.cells f g,0,true⟩):Called Tryz.prog F.service_May_1 [I d,.ptr p 0] H (Bl (decide (d ∈ s.except))) H:=by
 refine G4 ?_
 simp only [Srv.cells] at ho
 simp only [Qg,go_sem,hp,ho]
 refine Za (L8 s.except g d H hs.2.2.2.2) (fun _ => rfl) ?_
 simp only [go_sem]
 exact Zl rfl
def mayB (s:Srv):Bool:=decide (0≤s.week)&&decide (s.week<128)&&decide (0≤s.from_)&&decide (s.from_≤s.to)&&decide (s.to≤1048576)&&Zai s.extra&&Zai s.except&&!(s.extra.any fun d => decide (d ∈ s.except))
theorem Z09 (s:Srv) (f g:Bool) (H:AH) (hs:s.ok):Called Tryz.prog F.service_May [s.av f g] H (Bl (mayB s)) H:=by
 refine Cr ?_
 simp only [O5,go_sem,Srv.av,Srv.cells]
 refine Zs (fun _ => Ztw s.extra f _ hs.2.2.2.1) ?_
 simp only [go_sem]
 refine Zs (fun _ => Ztw s.except g _ hs.2.2.2.2) ?_
 simp only [go_sem]
 refine Zs (fun _ => Fi s.extra f _ [] [.ptr H.length 0] (fun d => decide (d ∈ s.except)) _ hs.2.2.2.1 fun x hx => Z08 s f g H.length x _ hs (by simp) (by simp [Z7,Q8,Srv.cells])) ?_
 simp only [go_sem]
 refine Zc ?_
 simp only [low,mayB]
def bitB (w d:Int):Bool:=(w / 2^(d%7).toNat)%2 == 1
def Zgr (s:Srv) (d:Int):Bool:=decide (d ∈ s.extra) || (decide (s.from_≤d)&&decide (d<s.to)&&bitB s.week d&&!decide (d ∈ s.except))
theorem Zl1 {s:Srv} (h:mayB s=true):0≤s.from_∧s.from_≤s.to∧s.to≤1048576∧0≤s.week∧s.week<128∧s.extra.length≤100∧s.except.length≤100:=by
 simp only [mayB,Zai,Bool.and_eq_true,decide_eq_true_eq] at h
 obtain ⟨⟨⟨⟨⟨⟨⟨h1,h2⟩,h3⟩,h4⟩,h5⟩,h6⟩,h7⟩,h8⟩:=h
 exact ⟨h3,h4,h5,h1,h2,h6.1,h7.1⟩
theorem Z0p (s:Srv) (f g:Bool) (d:Int) (H:AH) (hs:s.ok) (hm:mayB s=true):Called Tryz.prog F.service_runs [s.av f g,I d] H (Bl (Zgr s d)) H:=by
 obtain ⟨m1,_⟩:=Zl1 hm
 refine Fv ?_
 simp only [Pi,go_sem,Srv.av,Srv.cells]
 refine Za (L8 s.extra f d _ hs.2.2.2.1) (fun _ => rfl) ?_
 simp only [go_sem]
 refine ⟨fun h => Zc (by simp [low,Zgr,h]),fun h => ⟨fun _ => by decide,fun hh => ?_,Zs (fun _ => L8 s.except g d _ hs.2.2.2.2) ?_⟩⟩
 ·simp only [Bool.and_eq_true,decide_eq_true_eq] at hh
  rw [Int.tmod_eq_emod_of_nonneg (by omega)]; omega
 ·simp only [go_sem]
  refine Zc ?_
  simp only [low,Zgr,h,decide_false,Bool.false_or]
  by_cases h1:s.from_≤d
  ·rw [Zo3,Zrz _ _ (by omega)]; rfl
  ·simp [h1]
theorem Z06 (s:Srv) (f g:Bool) (d:Int) (H:AH) (hs:s.ok):Called Tryz.prog F.service_Runs [s.av f g,I d] H (Bl (mayB s&&Zgr s d)) H:=by
 refine Fx ?_
 simp only [Pk,go_sem,Srv.av,Srv.cells]
 refine Za (Z09 s f g _ hs) (fun _ => rfl) ?_
 simp only [go_sem]
 refine Zs (fun h => Z0p s f g d _ hs h) ?_
 simp only [go_sem]
 refine Zc ?_
 simp only [low]
set_option maxRecDepth 10000
theorem Zrv (a b:Nat) (x:AV):fldV a (fldV b x)=fldV (b+a) x:=by
 cases x <;> simp [fldV,Nat.add_assoc]
theorem Zm9 (b:Nat) (x:AV):Fs (fldV b x)=Fs x:=by
 cases x <;> rfl
def isv (e:AV) (l:List Int):Prop:=(∃ f,e=vI l f)∨(e=nilS∧l=[])
theorem Zuh {e:AV} {l:List Int} (h:isv e l):∃ f,Le e (vI l f):=by
 rcases h with ⟨f,rfl⟩ | ⟨rfl,rfl⟩
 ·exact ⟨f,.refl _⟩
 ·exact ⟨true,O0 true⟩
theorem Vm {e:AV} {l:List Int} (h:isv e l):Ks false e=True∧srcN e=l.length∧e.one=true∧e.cells=[e]∧e.un=e∧(∀ g,Yp g e=True):=by
 rcases h with ⟨f,rfl⟩ | ⟨rfl,rfl⟩
 ·exact ⟨rfl,by simp [vI,srcN],rfl,rfl,rfl,fun _ => rfl⟩
 ·exact ⟨rfl,rfl,rfl,rfl,rfl,fun _ => rfl⟩
structure Prd where
 id:Int
 mins:Int
 s:Srv
 e:AV
 x:AV
def Prd.ok (p:Prd):Prop:=ok64 p.id∧ok64 p.mins∧ok64 p.s.week∧ok64 p.s.from_∧ok64 p.s.to∧isv p.e p.s.extra∧isv p.x p.s.except
def Prd.few (p:Prd):Prop:=p.s.extra.length≤300∧p.s.except.length≤300
instance (p:Prd):Decidable p.few:=inferInstanceAs (Decidable (_∧_))
def Prd.sv (p:Prd):List AV:=[I p.s.week,I p.s.from_,I p.s.to,p.e,p.x]
def Prd.cells (p:Prd):List AV:=[I p.id,I p.mins,I p.s.week,I p.s.from_,I p.s.to,p.e,p.x]
theorem Prd.len (p:Prd):p.cells.length=7:=rfl
theorem Prd.sok {p:Prd} (h:p.ok) (hf:p.few):p.s.ok:=⟨h.2.2.1,h.2.2.2.1,h.2.2.2.2.1,by have:=hf.1; omega,by have:=hf.2; omega⟩
theorem Zxm {a b:List AV} (h:LeL a b):Le (.agg a) (.agg b):=fun S y ⟨vs,h1,h2⟩ => ⟨vs,h1,h.rl h2⟩
theorem Prd.le {p:Prd} (h:p.ok):∃ f g,Le (.agg p.sv) (p.s.av f g):=by
 obtain ⟨f,hf⟩:=Zuh h.2.2.2.2.2.1
 obtain ⟨g,hg⟩:=Zuh h.2.2.2.2.2.2
 exact ⟨f,g,Zxm ⟨.refl _,.refl _,.refl _,hf,hg,trivial⟩⟩
theorem Z4p {p:Prd} (H:AH) (h:p.ok) (hf:p.few):Called Tryz.prog F.service_May [.agg p.sv] H (Bl (mayB p.s)) H:=by
 obtain ⟨f,g,hl⟩:=Prd.le h
 exact (Z09 p.s f g H (Prd.sok h hf)).weak ⟨hl,trivial⟩
theorem Z1j {p:Prd} (d:Int) (H:AH) (h:p.ok) (hf:p.few):Called Tryz.prog F.service_Runs [.agg p.sv,I d] H (Bl (mayB p.s&&Zgr p.s d)) H:=by
 obtain ⟨f,g,hl⟩:=Prd.le h
 exact (Z06 p.s f g d H (Prd.sok h hf)).weak ⟨hl,.refl _,trivial⟩
def noP:Prd:=⟨0,0,⟨0,0,0,[],[]⟩,nilS,nilS⟩
abbrev pcs (l:List Prd):List AV:=l.flatMap Prd.cells
def Oy (l:List Prd) (i:Nat):Bool:=let p:=l.getD i noP
 (((decide (p.id<1) || decide (16<p.id)) || (decide (0<i)&&decide (p.id≤(l.getD (i - 1) noP).id))) || decide (p.mins<1) || decide (1048576<p.mins)) || !mayB p.s
def prdsB (l:List Prd):Bool:=decide (l.length≤16)&&decide (∀ i,i<l.length→Oy l i=false)
theorem Bv {l:List Prd} {i:Nat} (hi:i<l.length) (h:Oy l i=true):prdsB l=false:=by
 rw [prdsB,Bool.and_eq_false_iff]
 right
 rw [decide_eq_false_iff_not]
 exact fun hh => by have:=hh i hi; rw [h] at this; cases this
theorem Zqp {l:List Prd} (h:∀ i,i<l.length→Oy l i=false):prdsB l=decide (l.length≤16):=by
 rw [prdsB,decide_eq_true h,Bool.and_true]
section
variable {H:AH} {x:AV} {l:List Prd}
theorem Sl.prd (h:Sl 7 H x (pcs l) l.length) {i:Nat} (hi:i<l.length):Y8 true 7 H (Xn 7 (.lit (.int .i64 i)) x)=.agg (l.getD i noP).cells:=by
 rw [h.ldA _ hi (by decide),V7 _ 7 Prd.len _ _ noP hi]
theorem Sl.prd1 (h:Sl 7 H x (pcs l) l.length) {i:Nat} (hi:i<l.length) (o:Nat) (ho:o<7):Y8 false 1 H (fldV o (Xn 7 (.lit (.int .i64 i)) x))=(l.getD i noP).cells.getD o .junk:=by
 rw [h.fd _ hi (by omega) (by decide),if_neg (by decide),Li _ 7 Prd.len _ _ _ noP hi ho]
end
theorem Z4m {H:AH} {x:AV} {l:List Prd} (hx:Sl 7 H x (pcs l) l.length) (hl:∀ p ∈ l,p.ok) (hn:l.length≤140737488355328):Called Tryz.prog F.clapperref14_Few [x] H (Bl (decide (l.length≤60)&&decide (∀ p ∈ l,p.few))) H:=by
 refine Lu ?_
 simp only [Ts,go_sem]
 refine Z4 _ (fun (i:Nat) => ([(0,x),(3,I i)],H)) (fun i => i≤l.length∧∀ j,j<i→(l.getD j noP).few) (fun i => l.length - i) 0 ⟨Nat.zero_le _,fun j hj => by omega⟩ rfl ?_
 rintro i ⟨hi,hj⟩
 simp only [go_sem,hx.lenT,hx.n]
 refine ⟨fun h => ?_,fun h => ?_⟩
 ·have hlt:i<l.length:=by omega
  have hp:=hl _ (Yn noP hlt)
  have e1:=Vm hp.2.2.2.2.2.1
  have e2:=Vm hp.2.2.2.2.2.2
  have f1:=hx.fdOk .i64 hlt (o:=5) (m:=1) (by omega)
  have f2:=hx.fdOk .i64 hlt (o:=6) (m:=1) (by omega)
  simp only [go_sem,hx.idx,hx.un,hx.may,Zrv,Zm9,Nat.reduceAdd,f1,f2,hx.prd1 hlt 5 (by omega),hx.prd1 hlt 6 (by omega),Prd.cells,e1,e2]
  refine ⟨⟨by omega,by omega⟩,fun _ => ⟨by omega,by omega⟩,fun hb => ?_,fun hb => ?_⟩
  ·refine Zl ?_
   rw [show decide (∀ p ∈ l,p.few)=false from ?_,Bool.and_false]
   rw [decide_eq_false_iff_not]
   intro hh
   have:=hh _ (Yn noP hlt)
   simp only [Bool.or_eq_true,decide_eq_true_eq] at hb
   simp only [Prd.few] at this
   omega
  ·refine ⟨i+1,by rw [w64 _ (by omega) (by omega)]; rfl,⟨by omega,fun j hj' => ?_⟩,by omega⟩
   rcases Nat.lt_succ_iff_lt_or_eq.1 hj' with h1 | rfl
   ·exact hj j h1
   ·simp only [Bool.or_eq_false_iff,decide_eq_false_iff_not] at hb
    simp only [Prd.few]
    omega
 ·have:∀ p ∈ l,p.few:=fun p hp => by
   obtain ⟨j,hj',rfl⟩:=List.mem_iff_getElem.1 hp
   have:=hj j (by omega)
   rwa [List.getD_eq_getElem?_getD,List.getElem?_eq_getElem hj'] at this
  refine Zl ?_
  rw [decide_eq_true this,Bool.and_true]
  congr 2
  simp; omega
theorem Bw (l:List Prd) (i:Nat):Oy l i=((((decide ((l.getD i noP).id<1) || decide (16<(l.getD i noP).id)) || (decide (0<i)&&decide ((l.getD i noP).id≤(l.getD (i - 1) noP).id))) || decide ((l.getD i noP).mins<1) || decide (1048576<(l.getD i noP).mins)) || !mayB (l.getD i noP).s):=rfl
theorem Ztn {H:AH} {x:AV} {l:List Prd} (hx:Sl 7 H x (pcs l) l.length) (hl:∀ p ∈ l,p.ok∧p.few) (hn:l.length≤1000000):Called Tryz.prog F.fare_May [x] H (Bl (prdsB l)) H:=by
 refine Zik ?_
 simp only [Gn,go_sem,hx.lenT,hx.n]
 refine Z4 _ (fun (s:Nat × AH) => ([(0,x),(5,x),(6,I l.length),(7,I s.1)],H++s.2)) (fun s => s.1≤l.length∧∀ j,j<s.1→Oy l j=false) (fun s => l.length - s.1) (0,[]) ⟨Nat.zero_le _,fun j hj => by omega⟩ (by rw [List.append_nil]; rfl) ?_
 rintro ⟨i,G⟩ ⟨hi,hj⟩
 dsimp only at hi hj
 simp only [go_sem]
 refine ⟨fun h => ?_,fun h => ?_⟩
 ·have hlt:i<l.length:=by omega
  obtain ⟨hp,hf⟩:=hl _ (Yn noP hlt)
  have v1:=Vm hp.2.2.2.2.2.1
  have v2:=Vm hp.2.2.2.2.2.2
  have hG:Sl 7 (H++G) x (pcs l) l.length:=hx.app
  have hK:∀ K,Sl 7 (H++(G++K)) x (pcs l) l.length:=fun K => hx.app
  have f7:=hG.ldOk .i64 hlt (Nat.le_refl 7)
  have sv:=fun H => Z4p H hp hf
  have next:∀ K,Oy l i=false→∃ a':Nat × AH,look [(0,x),(5,x),(6,I l.length),(7,AV.lit (Value.int IntKind.i64 (IntKind.i64.wrap (↑i+1))))]=look [(0,x),(5,x),(6,I l.length),(7,I a'.1)]∧H++K=H++a'.2∧(a'.1≤l.length∧∀ j,j<a'.1→Oy l j=false)∧l.length - a'.1<l.length - i:=by
   intro K hb
   refine ⟨(i+1,K),by rw [w64 _ (by omega) (by omega)]; rfl,rfl,⟨by show i+1≤_; omega,fun j hj' => ?_⟩,by show _ - (i+1)<_; omega⟩
   rcases Nat.lt_succ_iff_lt_or_eq.1 hj' with h1 | rfl
   ·exact hj j h1
   ·exact hb
  have pb:=Bw l i
  have ib:(0:Int)≤i∧(i:Int)<l.length:=⟨by omega,by omega⟩
  have hP:(l.getD i noP).cells=[I (l.getD i noP).id,I (l.getD i noP).mins,I (l.getD i noP).s.week,I (l.getD i noP).s.from_,I (l.getD i noP).s.to,(l.getD i noP).e,(l.getD i noP).x]:=rfl
  have hS:(l.getD i noP).sv=[I (l.getD i noP).s.week,I (l.getD i noP).s.from_,I (l.getD i noP).s.to,(l.getD i noP).e,(l.getD i noP).x]:=rfl
  simp only [go_sem,hG.idx,hG.un,f7,hG.prd hlt,hP,v1,v2]
  rcases Nat.eq_zero_or_pos i with h0 | h0
  ·have z0:decide ((0:Int)<i)=false:=by simp; omega
   have z1:decide (0<i)=false:=by simp; omega
   simp only [go_sem,z0]
   rw [z1] at pb
   simp only [Bool.false_and,Bool.or_false] at pb
   refine ⟨ib,hx.may _ ▸ trivial,Zs (fun _ => sv _) ?_⟩
   simp only [go_sem]
   exact ⟨fun hb => Zc (by rw [Bv hlt (pb.trans hb)]; rfl),fun hb => next _ (pb.trans hb)⟩
  ·have e1:IntKind.i64.wrap ((i:Int) - 1)=((i - 1:Nat):Int):=by rw [w64 _ (by omega) (by omega)]; omega
   have z0:decide ((0:Int)<i)=true:=by simp; omega
   have z1:decide (0<i)=true:=by simp; omega
   have lt1:i - 1<l.length:=by omega
   simp only [go_sem,z0,hx.may,hx.un,e1,(hK _).idx,(hx.fdOk .i64 lt1 (o:=0) (m:=1) (by omega)).1,((hK _).fdOk .i64 lt1 (o:=0) (m:=1) (by omega)).2,(hK _).prd1 lt1 0 (by omega),Prd.cells]
   rw [z1] at pb
   simp only [Bool.true_and] at pb
   refine ⟨ib,fun _ => ⟨by omega,by omega⟩,Zs (fun _ => sv _) ?_⟩
   simp only [go_sem]
   exact ⟨fun hb => Zc (by rw [Bv hlt (pb.trans hb)]; rfl),fun hb => next _ (pb.trans hb)⟩
 ·rw [hx.lenT,hx.n]
  refine ⟨trivial,Zc ?_⟩
  rw [Zqp fun j hj' => hj j (by omega)]
  simp only [low]
  congr 2
  simp; omega
def At (l:List Prd) (n k:Int):Prop:=(k=-1∧∀ j,j<l.length→(l.getD j noP).id≠n)∨∃ j,j<l.length∧k=((j:Nat):Int)∧(l.getD j noP).id=n
theorem Zul (l:List Prd) (n:Int):At l n (fstA (fun p => p.id == n) l):=by
 unfold fstA
 cases h:l.findIdx? (fun p => p.id == n) with
 | none =>
  rw [List.findIdx?_eq_none_iff] at h
  refine .inl ⟨rfl,fun j hj => ?_⟩
  simpa using h _ (Yn noP hj)
 | some i =>
  rw [List.findIdx?_eq_some_iff_getElem] at h
  obtain ⟨hi,h1,_⟩:=h
  exact .inr ⟨i,hi,rfl,by rw [List.getD_eq_getElem?_getD,List.getElem?_eq_getElem hi]; simpa using h1⟩
set_option maxRecDepth 10000
def plcB (z m:Int):Bool:=(inB 0 7 z&&decide (0≤m))&&decide (m≤1073741824)
theorem Z4k (z m:Int) (H:AH):Called Tryz.prog F.fare_place [I z,I m] H (Bl (plcB z m)) H:=by
 refine Zad ?_
 simp only [Lf,go_sem]
 refine Zl ?_
 rw [plcB,inB,show decide (z≤7)=decide (z<8) by simp; omega]
def Zu0 (n z:Int):Bool:=(n / 2^z.toNat)%2 == 1
theorem Z0h (t:Tkt) (z:Int) (H:AH) (hz:0≤z) (hz7:z≤7) (ht:0≤t.zones):Called Tryz.prog F.fare_in [.agg t.cells,I z] H (Bl (Zu0 t.zones z)) H:=by
 refine Znx ?_
 simp only [Ew,go_sem]
 refine ⟨hz,Zc ?_⟩
 simp only [low]
 rw [show min z.toNat 64=z.toNat by omega,Zo3,Int.fdiv_eq_ediv_of_nonneg _ (by exact Int.le_of_lt (Int.pow_pos (by decide)))]; rfl
def Za7 (p:Prd) (t:Tkt) (m:Int):Bool:=(decide (t.from_≤m)&&decide (m<t.from_+p.mins))&&Zgr p.s (m / 1440)
theorem Z0k {p:Prd} (t:Tkt) (m:Int) (H:AH) (hp:p.ok) (hf:p.few) (hm:mayB p.s=true) (h0:0≤m) (h1:m≤1073741824) (h2:0≤t.from_) (h3:t.from_≤1073741824) (h4:1≤p.mins) (h5:p.mins≤1048576):Called Tryz.prog F.fare_then [.agg p.cells,.agg t.cells,I m] H (Bl (Za7 p t m)) H:=by
 have v1:=Vm hp.2.2.2.2.2.1
 have v2:=Vm hp.2.2.2.2.2.2
 have sr:=fun d H => Z1j d H hp hf
 simp only [hm,Bool.true_and,Prd.sv] at sr
 refine Zc7 ?_
 simp only [Jw,go_sem,Prd.cells,v1,v2]
 have e1:IntKind.i64.wrap (m.tdiv 1440)=m / 1440:=by rw [Int.tdiv_eq_ediv_of_nonneg h0,w64 _ (by omega) (by omega)]
 rw [e1]
 refine ⟨fun _ => by decide,Zs (fun _ => sr _ _) ?_⟩
 simp only [go_sem]
 refine Zc ?_
 rw [w64 (t.from_+p.mins) (by omega) (by omega)]
 rfl
theorem Zvr {p:Prd} (t:Tkt) (q:Nat) (H:AH) (hp:p.ok) (hq:q<H.length) (ho:obj H q=⟨t.cells,0,true⟩):Called Tryz.prog F.fare_product_1 [.agg p.cells,.ptr q 0] H (Bl (p.id == t.product)) H:=by
 have v1:=Vm hp.2.2.2.2.2.1
 have v2:=Vm hp.2.2.2.2.2.2
 refine Ie ?_
 simp only [Rh,go_sem,Prd.cells,v1,v2,Z1 _ _ hq,ho]
 exact ⟨by omega,Zc rfl⟩
theorem Z0z {H:AH} {x:AV} {l:List Prd} (hx:Sl 7 H x (pcs l) l.length) (hn:l.length≤1000000) (g:FuncId) (a b:List AV) (p:Prd→Bool) (hg:∀ r ∈ l,Called Tryz.prog g (a++[.agg r.cells]++b) H (Bl (p r)) H) :
  Called Tryz.prog F.slices_IndexFunc_api_Product_api_Product [x,.fn (.func g) a b] H (I (fstA p l)) H:=by
 refine X8 ?_
 simp only [Y5,go_sem,hx.lenT,hx.n]
 refine Z4 _ (fun (i:Nat) => ([(0,x),(1,.fn (.func g) a b),(7,I l.length),(8,I i)],H)) (fun i => i≤l.length∧∀ j,j<i→p (l.getD j noP)=false) (fun i => l.length - i) 0 ⟨Nat.zero_le _,fun j hj => by omega⟩ rfl ?_
 rintro i ⟨hi,hj⟩
 simp only [go_sem]
 refine ⟨fun h => ?_,fun h => ?_⟩
 ·have hlt:i<l.length:=by omega
  simp only [go_sem,hx.idx,hx.un,hx.ldOk .i64 hlt (Nat.le_refl 7),hx.prd hlt]
  refine ⟨⟨by omega,by omega⟩,Za (by simpa using hg _ (Yn noP hlt)) (fun _ => rfl) ?_⟩
  simp only [go_sem]
  refine ⟨fun he => ?_,fun he => ?_⟩
  ·exact Zl (by rw [Gq noP hlt he hj])
  ·refine ⟨i+1,by rw [w64 _ (by omega) (by omega)]; rfl,⟨by omega,fun j hj' => ?_⟩,by omega⟩
   rcases Nat.lt_succ_iff_lt_or_eq.1 hj' with h1 | rfl
   ·exact hj j h1
   ·exact he
 ·exact Zl (by rw [Gr noP fun j hj' => hj j (by omega)])
theorem Zml {e:AV} {l:List Int} (h:isv e l) (ren:Nat→Option Nat) (H:AH):low ren H e=e:=by
 rcases h with ⟨f,rfl⟩ | ⟨rfl,_⟩
 ·have:∀ l:List Int,lowL ren H (l.map I)=l.map I:=fun l => by
   induction l with
   | nil => rfl
   | cons a r ih => simp only [List.map_cons,lowL,ih]; rfl
  simp only [vI,low,this]
 ·rfl
def kOf (l:List Prd) (n:Int):Int:=fstA (fun p => p.id == n) l
def pOf (l:List Prd) (k:Int):Prd:=if k<0 then noP else l.getD k.toNat noP
theorem Zt9 {l:List Prd} (hl:∀ p ∈ l,p.ok∧p.few) {n k:Int} (h:At l n k):(pOf l k).ok∧(pOf l k).few:=by
 rcases h with ⟨rfl,_⟩ | ⟨j,hj,rfl,_⟩
 ·rw [show pOf l (-1)=noP from rfl]
  have z:ok64 0:=⟨by decide,by decide⟩
  exact ⟨⟨z,z,z,z,z,.inr ⟨rfl,rfl⟩,.inr ⟨rfl,rfl⟩⟩,by decide⟩
 ·rw [pOf,if_neg (by omega)]; exact hl _ (Yn noP hj)
theorem Zjp {H:AH} {x:AV} {l:List Prd} (hx:Sl 7 H x (pcs l) l.length) (hl:∀ p ∈ l,p.ok∧p.few) (hn:l.length≤1000000) (t:Tkt):Called Tryz.prog F.fare_product [x,.agg t.cells] H (.tup [.agg (pOf l (kOf l t.product)).cells,Bl (decide (0≤kOf l t.product))]) H:=by
 refine F2 ?_
 simp only [Pp,go_sem]
 have hG:∀ K,Sl 7 (H++K) x (pcs l) l.length:=fun K => hx.app
 have hk:=Zul l t.product
 have hpk:=Zt9 hl hk
 have hi:=fun K => Z0z (hG K) hn F.fare_product_1 [] [.ptr H.length 0] (fun p => p.id == t.product)
 rw [show fstA (fun p => p.id == t.product) l=kOf l t.product from rfl] at hk hi hpk
 generalize kOf l t.product=k at hk hi hpk ⊢
 refine Za (hi _ fun r hr => Zvr t H.length _ (hl r hr).1 (by simp) (by simp [Z7,Q8])) (fun _ => rfl) ?_
 simp only [go_sem,Zq,fillv,hx.un,AV.one,Value.oneCell',List.all_cons,List.all_nil]
 rcases hk with ⟨rfl,_⟩ | ⟨j,hj,rfl,_⟩
 ·refine ⟨fun _ => Zc rfl,fun h => absurd h (by decide)⟩
 ·have v1:=Vm hpk.1.2.2.2.2.2.1
  have v2:=Vm hpk.1.2.2.2.2.2.2
  have w1:=Zml hpk.1.2.2.2.2.2.1
  have w2:=Zml hpk.1.2.2.2.2.2.2
  rw [pOf,if_neg (by omega),Int.toNat_natCast] at v1 v2 w1 w2 ⊢
  simp only [go_sem,hx.idx,(hG _).ldOk .i64 hj (Nat.le_refl 7),(hG _).prd hj,Prd.cells,v1,v2]
  refine ⟨fun h => absurd h (by simp),fun h => ⟨⟨by omega,by omega⟩,Zc ?_⟩⟩
  simp only [low,lowL,w1,w2]
  rfl
theorem Bd {t:Tkt} (h:tktB t=true):0≤t.from_∧t.from_≤1073741824∧1≤t.zones∧t.zones≤255:=by
 simp only [tktB,inB,Bool.and_eq_true,decide_eq_true_eq] at h; omega
theorem Zk9 {z m:Int} (h:plcB z m=true):0≤z∧z≤7∧0≤m∧m≤1073741824:=by
 simp only [plcB,inB,Bool.and_eq_true,decide_eq_true_eq] at h; omega
theorem Zgw {l:List Prd} (h:prdsB l=true) {j:Nat} (hj:j<l.length):1≤(l.getD j noP).mins∧(l.getD j noP).mins≤1048576∧mayB (l.getD j noP).s=true:=by
 simp only [prdsB,Bool.and_eq_true,decide_eq_true_eq] at h
 have h1:=h.2 j hj
 rw [Bw] at h1
 simp only [Bool.or_eq_false_iff,Bool.and_eq_false_iff,decide_eq_false_iff_not,Bool.not_eq_false'] at h1
 exact ⟨by omega,by omega,h1.2⟩
set_option maxRecDepth 10000
def whyV (l:List Prd) (t:Tkt) (z m:Int):Int :=
 if kOf l t.product<0 then 7 else if Zu0 t.zones z=false then 5 else if Za7 (pOf l (kOf l t.product)) t m=false then 6 else 1
set_option maxRecDepth 10000
theorem Zle {b:List UInt8} {t:Tkt} {r s:Nat} (h:Te b=some (t,r,s)):tktB t=true:=by
 unfold Te at h
 cases hp:Xj b with
 | none => rw [hp] at h; cases h
 | some p =>
  rw [hp] at h
  obtain ⟨body,r',s'⟩:=p
  have h:((Nl body 5).bind fun l => if tktB (Nh l) then some (Nh l,r',s') else none)=some (t,r,s):=h
  cases hn:Nl body 5 with
  | none => rw [hn] at h; cases h
  | some l =>
   rw [hn] at h
   have h:(if tktB (Nh l) then some (Nh l,r',s') else none)=some (t,r,s):=h
   split at h
   ·rename_i h2
    cases h; exact h2
   ·cases h
theorem Zir {b:List UInt8} {X Y:Nat} {f:Bool} (h:(U1 b X Y f).2=0):tktB (U1 b X Y f).1=true:=by
 unfold U1 at h ⊢
 split at h
 ·cases h
 ·rename_i t r s ho
  generalize verB X Y f (sha ((Xj b).getD ([],0,0)).1) r s=v at *
  cases v
  ·cases h
  ·exact Zle ho
theorem Zcf {l:List Key} {b:List UInt8} {m:Int} (h:(Xs l b m).2=0):tktB (Xs l b m).1=true:=by
 unfold Xs at h ⊢
 split at h
 ·cases h
 ·rename_i t r s ho
  split at h
  ·cases h
  ·rename_i k hk
   exact Zir h
noncomputable def verN (c:Tkt × Int) (r:List Rvk) (l:List Prd) (z m:Int):Int :=
 if c.2=2 then 2 else if c.2≠0 then 3 else if Zro r c.1.serial m then 4 else whyV l c.1 z m
theorem Z5g (n:Int):(n=0∧errO n=nilE)∨(n≠0∧errO n=.lit (.iface T.api_Code (.int .i64 n))):=by
 unfold errO
 split
 ·rename_i h; exact .inl ⟨h,rfl⟩
 ·rename_i h; exact .inr ⟨h,rfl⟩
section
variable {H:AH} {xk xr xl xb:AV} {k:List Key} {r:List Rvk} {l:List Prd} {b:List UInt8}
theorem I1 (hk:Sl 12 H xk (kcs k) k.length) (ko:∀ p ∈ k,p.ok) (kn:k.length≤1000000) (hr:Sl 2 H xr (rcs r) r.length) (rn:r.length≤1000000) (hl:Sl 7 H xl (pcs l) l.length) (lo:∀ p ∈ l,p.ok∧p.few) (ln:l.length≤1000000) (hb:Sl 1 H xb (bs b) b.length) (bn:b.length≤100000) (z m:Int) :
  Called Tryz.prog F.fare_Verdict [xk,xr,xl,xb,I z,I m] H (if ((Uk k&&revB r)&&prdsB l)&&plcB z m then .tup [I (verN (Xs k b m) r l z m),nilE] else .tup [I 0,errA 1]) H:=by
 refine F3 ?_
 simp only [Pq,go_sem,hk.s,hr.s,hl.s,hb.s]
 refine Za (Zjv hk ko kn) (fun _ => rfl) ?_
 simp only [go_sem,hk.s,hr.s,hl.s,hb.s]
 refine Zs (fun _ => Zbb hr rn) ?_
 simp only [go_sem,hk.s,hr.s,hl.s,hb.s]
 refine Zs (fun _ => Ztn hl lo ln) ?_
 simp only [go_sem,hk.s,hr.s,hl.s,hb.s]
 refine Zs (fun _ => Z4k _ _ _) ?_
 simp only [go_sem,hk.s,hr.s,hl.s,hb.s]
 cases h1:Uk k
 ·simp only [go_sem]
  exact Zl rfl
 cases h2:revB r
 ·simp only [go_sem]
  exact Zl rfl
 cases h3:prdsB l
 ·simp only [go_sem]
  exact Zl rfl
 cases h4:plcB z m
 ·simp only [go_sem]
  exact Zl rfl
 simp only [go_sem,hk.s,hr.s,hl.s,hb.s]
 obtain ⟨b1,b2,b3,b4⟩:=Zk9 h4
 refine Za (Zpq hk ko kn hb bn m) (fun _ => rfl) ?_
 rw [h1,if_pos rfl]
 have kt:=@Zcf k b m
 have ke:=Zcg k b m
 generalize Xs k b m=c at *
 obtain ⟨t,n⟩:=c
 dsimp only at kt ke
 simp only [go_sem,hk.s,hr.s,hl.s,hb.s,e5,Z0f,Z0g,Z0e,Za6,Zz9]
 refine Za (Zjp hl.app lo ln t) (fun _ => rfl) ?_
 have hkk:At l t.product (kOf l t.product):=Zul l t.product
 have hpk:=Zt9 lo hkk
 have v1:=Vm hpk.1.2.2.2.2.2.1
 have v2:=Vm hpk.1.2.2.2.2.2.2
 have tt:0≤kOf l t.product→tktB t=true→∀ H,Called Tryz.prog F.fare_then [.agg (pOf l (kOf l t.product)).cells,.agg t.cells,I m] H (Bl (Za7 (pOf l (kOf l t.product)) t m)) H:=fun h ht H => by
  obtain ⟨a1,a2,a3,a4⟩:=Bd ht
  have:1≤(pOf l (kOf l t.product)).mins∧(pOf l (kOf l t.product)).mins≤1048576∧mayB (pOf l (kOf l t.product)).s=true:=by
   rcases hkk with ⟨e,_⟩ | ⟨j,hj,e,_⟩
   ·omega
   ·rw [e,pOf,if_neg (by omega)]; exact Zgw h3 hj
  exact Z0k t m H hpk.1 hpk.2 this.2.2 b3 b4 a1 a2 this.1 this.2.1
 have hw:whyV l t z m=if kOf l t.product<0 then 7 else if Zu0 t.zones z=false then 5 else if Za7 (pOf l (kOf l t.product)) t m=false then 6 else 1:=rfl
 have hv:verN (t,n) r l z m=if n=2 then 2 else if n≠0 then 3 else if Zro r t.serial m then 4 else whyV l t z m:=rfl
 rw [hv,hw]
 generalize kOf l t.product=kk at *
 generalize pOf l kk=p at *
 rcases Z5g n with ⟨rfl,en⟩ | ⟨hn0,en⟩
 ·rw [en]
  have ht:=kt rfl
  obtain ⟨a1,a2,a3,a4⟩:=Bd ht
  simp only [go_sem,hr.s,Prd.cells,v1,v2]
  refine Za (t_Is hr.app rn t.serial m) (fun _ => rfl) ?_
  rw [h2,Bool.true_and,if_neg (show ¬ (0:Int)=2 by decide),if_neg (show ¬ (0:Int)≠0 by decide)]
  simp only [go_sem,hr.s,Za6]
  refine ⟨fun hg => ?_,fun hg => ?_⟩
  ·rw [if_pos hg]
   exact Zc rfl
  ·rw [if_neg (by rw [hg]; decide)]
   refine ⟨fun hk0 => ?_,fun hk0 => ?_⟩
   ·have hk0:kk<0:=by simpa using hk0
    rw [if_pos hk0]
    exact Zc rfl
   ·have hk0:0≤kk:=by simpa using hk0
    rw [if_neg (show ¬ kk<0 by omega)]
    refine Za (Z0h t z _ b1 b2 (by omega)) (fun _ => rfl) ?_
    simp only [go_sem,Za6]
    refine ⟨fun hz => ?_,fun hz => ?_⟩
    ·rw [if_pos (by simpa using hz)]
     exact Zc rfl
    ·rw [if_neg (by simpa using hz)]
     refine Za (tt hk0 ht _) (fun _ => rfl) ?_
     simp only [go_sem]
     refine ⟨fun hh => ?_,fun hh => ?_⟩
     ·rw [if_pos (by simpa using hh)]
      exact Zc rfl
     ·rw [if_neg (by simpa using hh)]
      exact Zc rfl
 ·rw [en]
  have tc:(T.api_Code == T.api_Code)=true:=by simp
  simp only [go_sem,hr.s,Prd.cells,v1,v2]
  refine ⟨rfl,fun h => ?_,fun h => ?_⟩
  ·rw [tc,Bool.true_and,beq_iff_eq] at h
   rw [if_pos h]
   exact Zc rfl
  ·rw [tc,Bool.true_and,beq_eq_false_iff_ne] at h
   rw [if_neg h,if_pos hn0]
   exact Zc rfl
end
end Go.Proofs.YtcgjlpdkobmpnaaGreat.Eng

