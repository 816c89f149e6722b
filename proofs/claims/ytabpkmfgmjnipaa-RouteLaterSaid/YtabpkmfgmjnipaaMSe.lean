/- Layer 12 for the fares: as Ser1, without On; the day runs by the document. (Ser1, Ser2 turned to this seat.) -/
import Derived.Test.YtabpkmfgmjnipaaMCa
import Derived.Test.YtabpkmfgmjnipaaME6
namespace Go.Proofs.Ytabpkmfgmjnipaa.Eng
open Go Go.Proofs
set_option linter.unusedVariables false
set_option linter.unusedSimpArgs false
set_option maxRecDepth 10000
theorem getD_mem {l:List Int} {i:Nat} (h:i<l.length):l.getD i 0 ∈ l:=by
 rw [List.getD_eq_getElem?_getD,List.getElem?_eq_getElem h]; exact List.getElem_mem h
theorem mem_getD {l:List Int} {d:Int} (h:d ∈ l):∃ i,i<l.length∧l.getD i 0=d:=by
 obtain ⟨i,hi,e⟩:=List.mem_iff_getElem.1 h
 exact ⟨i,hi,by rw [List.getD_eq_getElem?_getD,List.getElem?_eq_getElem hi]; exact e⟩
def firstP (p:Int→Bool) (l:List Int):Int:=match l.findIdx? p with | some i => i | none => -1
theorem firstP_some {p:Int→Bool} {l:List Int} {i:Nat} (hi:i<l.length) (h:p (l.getD i 0)=true) (hj:∀ j,j<i→p (l.getD j 0)=false):firstP p l=i:=by
 have:l.findIdx? p=some i:=by
  rw [List.findIdx?_eq_some_iff_getElem]
  refine ⟨hi,?_,fun j hj' => ?_⟩
  ·rw [List.getD_eq_getElem?_getD,List.getElem?_eq_getElem hi] at h; exact h
  ·have:=hj j hj'
   rw [List.getD_eq_getElem?_getD,List.getElem?_eq_getElem (by omega)] at this
   simpa using this
 simp [firstP,this]
theorem firstP_none {p:Int→Bool} {l:List Int} (hj:∀ j,j<l.length→p (l.getD j 0)=false):firstP p l=-1:=by
 have:l.findIdx? p=none:=by
  rw [List.findIdx?_eq_none_iff]
  intro x hx
  obtain ⟨i,h1,h2⟩:=mem_getD hx
  rw [← h2]; exact hj i h1
 simp [firstP,this]
theorem firstP_ge (p:Int→Bool) (l:List Int):decide (0≤firstP p l)=l.any p:=by
 unfold firstP
 cases h:l.findIdx? p with
 | none =>
  rw [List.findIdx?_eq_none_iff] at h
  have:l.any p=false:=by rw [List.any_eq_false]; intro x hx; simp [h x hx]
  rw [this]; rfl
 | some i =>
  rw [List.findIdx?_eq_some_iff_getElem] at h
  obtain ⟨hi,h1,_⟩:=h
  have:l.any p=true:=by rw [List.any_eq_true]; exact ⟨_,List.getElem_mem hi,h1⟩
  rw [this]; simp
theorem t_index (l:List Int) (full:Bool) (d:Int) (H:AH) (hl:l.length≤1000000):Called Try.prog F.slices_Index_int_int [vI l full,I d] H (I (firstP (fun x => d == x) l)) H:=by
 refine e_slices_Index_int_int ?_
 simp only [ic_slices_Index_int_int,go_sem,vI]
 refine w_loop _ (fun (i:Nat) => ([(0,vI l full),(1,I d),(7,I l.length),(8,I i)],H)) (fun i => i≤l.length∧∀ j,j<i→(d == l.getD j 0)=false) (fun i => l.length - i) 0 ⟨Nat.zero_le _,fun j hj => by omega⟩ rfl ?_
 rintro i ⟨hi,hj⟩
 simp only [go_sem,vI]
 refine ⟨fun h => ?_,fun h => ?_⟩
 ·have hlt:i<l.length:=by omega
  simp only [go_sem,elt_I l i hlt]
  refine ⟨⟨by omega,by omega,by simp⟩,fun he => ?_,fun he => ?_⟩
  ·exact leave_same (by rw [firstP_some hlt he hj])
  ·refine ⟨i+1,by rw [w64 _ (by omega) (by omega)]; rfl,⟨by omega,fun j hj' => ?_⟩,by omega⟩
   rcases Nat.lt_succ_iff_lt_or_eq.1 hj' with h1 | rfl
   ·exact hj j h1
   ·exact he
 ·exact leave_same (by rw [firstP_none fun j hj' => hj j (by omega)])
theorem t_contains (l:List Int) (full:Bool) (d:Int) (H:AH) (hl:l.length≤1000000):Called Try.prog F.slices_Contains_int_int [vI l full,I d] H (Bl (decide (d ∈ l))) H:=by
 refine e_slices_Contains_int_int ?_
 simp only [ic_slices_Contains_int_int,go_sem]
 refine callW_some (t_index l full d H hl) (fun _ => rfl) ?_
 simp only [go_sem]
 refine leave_same ?_
 rw [firstP_ge]
 congr 2
 rw [Bool.eq_iff_iff,List.any_eq_true,decide_eq_true_eq]
 exact ⟨fun ⟨x,h1,h2⟩ => by rw [beq_iff_eq] at h2; exact h2 ▸ h1,fun h => ⟨d,h,by simp⟩⟩
theorem t_indexfunc (l:List Int) (full:Bool) (g:FuncId) (a b:List AV) (p:Int→Bool) (H:AH) (hl:l.length≤1000000) (hg:∀ x ∈ l,Called Try.prog g (a++[I x]++b) H (Bl (p x)) H) :
  Called Try.prog F.slices_IndexFunc_int_int [vI l full,.fn (.func g) a b] H (I (firstP p l)) H:=by
 refine e_slices_IndexFunc_int_int ?_
 simp only [ic_slices_IndexFunc_int_int,go_sem,vI]
 refine w_loop _ (fun (i:Nat) => ([(0,vI l full),(1,.fn (.func g) a b),(7,I l.length),(8,I i)],H)) (fun i => i≤l.length∧∀ j,j<i→p (l.getD j 0)=false) (fun i => l.length - i) 0 ⟨Nat.zero_le _,fun j hj => by omega⟩ rfl ?_
 rintro i ⟨hi,hj⟩
 simp only [go_sem,vI]
 refine ⟨fun h => ?_,fun h => ?_⟩
 ·have hlt:i<l.length:=by omega
  simp only [go_sem,elt_I l i hlt]
  refine ⟨⟨by omega,by omega,by simp⟩,callW_some (by simpa using hg _ (getD_mem hlt)) (fun _ => rfl) ?_⟩
  simp only [go_sem]
  refine ⟨fun he => ?_,fun he => ?_⟩
  ·exact leave_same (by rw [firstP_some hlt he hj])
  ·refine ⟨i+1,by rw [w64 _ (by omega) (by omega)]; rfl,⟨by omega,fun j hj' => ?_⟩,by omega⟩
   rcases Nat.lt_succ_iff_lt_or_eq.1 hj' with h1 | rfl
   ·exact hj j h1
   ·exact he
 ·exact leave_same (by rw [firstP_none fun j hj' => hj j (by omega)])
theorem t_containsfunc (l:List Int) (full:Bool) (g:FuncId) (a b:List AV) (p:Int→Bool) (H:AH) (hl:l.length≤1000000) (hg:∀ x ∈ l,Called Try.prog g (a++[I x]++b) H (Bl (p x)) H) :
  Called Try.prog F.slices_ContainsFunc_int_int [vI l full,.fn (.func g) a b] H (Bl (l.any p)) H:=by
 refine e_slices_ContainsFunc_int_int ?_
 simp only [ic_slices_ContainsFunc_int_int,go_sem]
 refine callW_some (t_indexfunc l full g a b p H hl hg) (fun _ => rfl) ?_
 simp only [go_sem]
 refine leave_same ?_
 rw [firstP_ge]
def dayBad (l:List Int) (i:Nat):Prop:=l.getD i 0<0∨1048576<l.getD i 0∨(0<i∧l.getD i 0≤l.getD (i - 1) 0)
def daysB (l:List Int):Bool:=decide (l.length≤100)&&decide (∀ i,i<l.length→0≤l.getD i 0∧l.getD i 0≤1048576∧(0<i→l.getD (i - 1) 0<l.getD i 0))
theorem daysB_bad {l:List Int} {i:Nat} (hi:i<l.length) (h:dayBad l i):daysB l=false:=by
 unfold daysB
 rw [Bool.and_eq_false_iff]
 right
 rw [decide_eq_false_iff_not]
 intro hh
 have:=hh i hi
 rcases h with h | h | ⟨h0,h⟩
 ·omega
 ·omega
 ·have:=this.2.2 h0; omega
theorem daysB_ok {l:List Int} (h:∀ i,i<l.length→¬ dayBad l i):daysB l=decide (l.length≤100):=by
 unfold daysB
 have:∀ i,i<l.length→0≤l.getD i 0∧l.getD i 0≤1048576∧(0<i→l.getD (i - 1) 0<l.getD i 0):=by
  intro i hi
  have:=h i hi
  simp only [dayBad,not_or,not_and] at this
  exact ⟨by omega,by omega,fun h0 => by have:=this.2.2 h0; omega⟩
 rw [decide_eq_true this,Bool.and_true]
theorem dayBad_iff (l:List Int) (i:Nat):dayBad l i↔((decide (l.getD i 0<0) || decide (1048576<l.getD i 0)) || (decide (0<i)&&decide (l.getD i 0≤l.getD (i - 1) 0)))=true:=by
 simp [dayBad,or_assoc]
theorem t_days (l:List Int) (full:Bool) (H:AH) (hl:l.length≤1000000):Called Try.prog F.service_days [vI l full] H (Bl (daysB l)) H:=by
 refine e_service_days ?_
 simp only [ic_service_days,go_sem,vI]
 refine w_loop _ (fun (i:Nat) => ([(0,vI l full),(5,vI l full),(6,I l.length),(7,I i)],H)) (fun i => i≤l.length∧∀ j,j<i→¬ dayBad l j) (fun i => l.length - i) 0 ⟨Nat.zero_le _,fun j hj => by omega⟩ rfl ?_
 rintro i ⟨hi,hj⟩
 simp only [go_sem,vI]
 refine ⟨fun h => ?_,fun h => ?_⟩
 ·have hlt:i<l.length:=by omega
  have next:¬ dayBad l i→∃ a',look [(0,AV.view (l.map I) l.length full),(5,AV.view (l.map I) l.length full),(6,I l.length),(7,AV.lit (Value.int IntKind.i64 (IntKind.i64.wrap (↑i+1))))]=look [(0,AV.view (l.map I) l.length full),(5,AV.view (l.map I) l.length full),(6,I l.length),(7,I (a':Nat))]∧(a'≤l.length∧∀ j,j<a'→¬ dayBad l j)∧l.length - a'<l.length - i:=by
   intro hb
   refine ⟨i+1,by rw [w64 _ (by omega) (by omega)]; rfl,⟨by omega,fun j hj' => ?_⟩,by omega⟩
   rcases Nat.lt_succ_iff_lt_or_eq.1 hj' with h1 | rfl
   ·exact hj j h1
   ·exact hb
  rcases Nat.eq_zero_or_pos i with rfl | h0
  ·simp only [go_sem,elt_I l 0 hlt]
   simp only [go_sem,Int.ofNat_zero,Int.cast_ofNat_Int,Int.lt_irrefl,decide_false,Bool.and_false]
   refine ⟨by rw [List.length_map]; omega,fun hb => ?_,fun hb => ?_⟩
   ·exact leave_same (by rw [daysB_bad hlt ((dayBad_iff l 0).2 (by rw [hb]; rfl))])
   ·exact next fun hh => by rw [dayBad_iff,hb] at hh; simp at hh
  ·have e1:IntKind.i64.wrap ((i:Int) - 1)=((i - 1:Nat):Int):=by rw [w64 _ (by omega) (by omega)]; omega
   have e2:decide ((0:Int)<i)=true:=by simp; omega
   have e3:decide (0<i)=true:=by simp; omega
   simp only [go_sem,elt_I l i hlt,e1,e2,elt_I l (i - 1) (by omega)]
   refine ⟨⟨by omega,by omega,by simp⟩,fun _ => ⟨by omega,by omega,by simp⟩,fun hb => ?_,fun hb => ?_⟩
   ·exact leave_same (by rw [daysB_bad hlt ((dayBad_iff l i).2 (by rw [e3,Bool.true_and]; exact hb))])
   ·exact next fun hh => by rw [dayBad_iff,e3,Bool.true_and,hb] at hh; cases hh
 ·exact leave_same (by rw [daysB_ok fun j hj' => hj j (by omega)]; simp; omega)
structure Srv where
 week:Int
 from_:Int
 to:Int
 extra:List Int
 except:List Int
def Srv.ok (s:Srv):Prop:=ok64 s.week∧ok64 s.from_∧ok64 s.to∧s.extra.length≤1000000∧s.except.length≤1000000
def Srv.cells (s:Srv) (f g:Bool):List AV:=[I s.week,I s.from_,I s.to,vI s.extra f,vI s.except g]
def Srv.av (s:Srv) (f g:Bool):AV:=.agg (s.cells f g)
theorem t_May1 (s:Srv) (f g:Bool) (p:Nat) (d:Int) (H:AH) (hs:s.ok) (hp:p<H.length) (ho:obj H p=⟨s.cells f g,0,true⟩):Called Try.prog F.service_May_1 [I d,.ptr p 0] H (Bl (decide (d ∈ s.except))) H:=by
 refine e_service_May_1 ?_
 simp only [Srv.cells] at ho
 simp only [ic_service_May_1,go_sem,hp,ho]
 refine callW_some (t_contains s.except g d H hs.2.2.2.2) (fun _ => rfl) ?_
 simp only [go_sem]
 exact leave_same rfl
def mayB (s:Srv):Bool:=decide (0≤s.week)&&decide (s.week<128)&&decide (0≤s.from_)&&decide (s.from_≤s.to)&&decide (s.to≤1048576)&&daysB s.extra&&daysB s.except&&!(s.extra.any fun d => decide (d ∈ s.except))
theorem t_May (s:Srv) (f g:Bool) (H:AH) (hs:s.ok):Called Try.prog F.service_May [s.av f g] H (Bl (mayB s)) H:=by
 refine e_service_May ?_
 simp only [ic_service_May,go_sem,Srv.av,Srv.cells]
 refine callG_of (fun _ => t_days s.extra f _ hs.2.2.2.1) ?_
 simp only [go_sem]
 refine callG_of (fun _ => t_days s.except g _ hs.2.2.2.2) ?_
 simp only [go_sem]
 refine callG_of (fun _ => t_containsfunc s.extra f _ [] [.ptr H.length 0] (fun d => decide (d ∈ s.except)) _ hs.2.2.2.1 fun x hx => t_May1 s f g H.length x _ hs (by simp) (by simp [obj_app0,obj_cons0,Srv.cells])) ?_
 simp only [go_sem]
 refine leave_drop ?_
 simp only [low,mayB]
def bitB (w d:Int):Bool:=(w / 2^(d%7).toNat)%2 == 1
def runsB (s:Srv) (d:Int):Bool:=decide (d ∈ s.extra) || (decide (s.from_≤d)&&decide (d<s.to)&&bitB s.week d&&!decide (d ∈ s.except))
theorem mayB_from {s:Srv} (h:mayB s=true):0≤s.from_∧s.from_≤s.to∧s.to≤1048576∧0≤s.week∧s.week<128∧s.extra.length≤100∧s.except.length≤100:=by
 simp only [mayB,daysB,Bool.and_eq_true,decide_eq_true_eq] at h
 obtain ⟨⟨⟨⟨⟨⟨⟨h1,h2⟩,h3⟩,h4⟩,h5⟩,h6⟩,h7⟩,h8⟩:=h
 exact ⟨h3,h4,h5,h1,h2,h6.1,h7.1⟩
theorem t_runs (s:Srv) (f g:Bool) (d:Int) (H:AH) (hs:s.ok) (hm:mayB s=true):Called Try.prog F.service_runs [s.av f g,I d] H (Bl (runsB s d)) H:=by
 obtain ⟨m1,_⟩:=mayB_from hm
 refine e_service_runs ?_
 simp only [ic_service_runs,go_sem,Srv.av,Srv.cells]
 refine callW_some (t_contains s.extra f d _ hs.2.2.2.1) (fun _ => rfl) ?_
 simp only [go_sem]
 refine ⟨fun h => leave_drop (by simp [low,runsB,h]),fun h => ⟨fun _ => by decide,fun hh => ?_,callG_of (fun _ => t_contains s.except g d _ hs.2.2.2.2) ?_⟩⟩
 ·simp only [Bool.and_eq_true,decide_eq_true_eq] at hh
  rw [Int.tmod_eq_emod_of_nonneg (by omega)]; omega
 ·simp only [go_sem]
  refine leave_drop ?_
  simp only [low,runsB,h,decide_false,Bool.false_or]
  by_cases h1:s.from_≤d
  ·rw [and_one,fdiv_pow _ _ (by omega)]; rfl
  ·simp [h1]
theorem t_Runs (s:Srv) (f g:Bool) (d:Int) (H:AH) (hs:s.ok):Called Try.prog F.service_Runs [s.av f g,I d] H (Bl (mayB s&&runsB s d)) H:=by
 refine e_service_Runs ?_
 simp only [ic_service_Runs,go_sem,Srv.av,Srv.cells]
 refine callW_some (t_May s f g _ hs) (fun _ => rfl) ?_
 simp only [go_sem]
 refine callG_of (fun h => t_runs s f g d _ hs h) ?_
 simp only [go_sem]
 refine leave_drop ?_
 simp only [low]
end Go.Proofs.Ytabpkmfgmjnipaa.Eng
namespace Go.Proofs.Ytabpkmfgmjnipaa.Eng
open Go
set_option linter.unusedVariables false
set_option linter.unusedSimpArgs false
theorem elt_flat {α:Type} (f:α→List AV) (k:Nat) (hk:∀ a,(f a).length=k):∀ (l:List α) (i:Nat) (d:α),i<l.length→elt (l.flatMap f) k i=f (l.getD i d)
 | [],i,d,h => absurd h (Nat.not_lt_zero _)
 | a::l,0,d,h => by
  show ((f a++l.flatMap f).drop (0*k)).take k=f a
  rw [Nat.zero_mul,List.drop_zero,List.take_left' (hk a)]
 | a::l,i+1,d,h => by
  have:=elt_flat f k hk l i d (Nat.lt_of_succ_lt_succ h)
  show ((f a++l.flatMap f).drop ((i+1)*k)).take k=f (l.getD i d)
  rw [← this,elt,Nat.succ_mul,Nat.add_comm,← List.drop_drop,List.drop_left' (hk a)]
theorem getD_flat {α:Type} (f:α→List AV) (k:Nat) (hk:∀ a,(f a).length=k) (l:List α) (i o:Nat) (d:α) (hi:i<l.length) (ho:o<k):(l.flatMap f).getD (i*k+o) .junk=(f (l.getD i d)).getD o .junk:=by
 rw [← elt_flat f k hk l i d hi,elt]
 simp only [List.getD_eq_getElem?_getD,List.getElem?_take,List.getElem?_drop,if_pos ho]
theorem getD_memP {α:Type} {l:List α} {i:Nat} (d:α) (h:i<l.length):l.getD i d ∈ l:=by
 rw [List.getD_eq_getElem?_getD,List.getElem?_eq_getElem h]; exact List.getElem_mem h
def fstA {α:Type} (p:α→Bool) (l:List α):Int:=match l.findIdx? p with | some i => i | none => -1
theorem fstA_some {α:Type} {p:α→Bool} {l:List α} {i:Nat} (d:α) (hi:i<l.length) (h:p (l.getD i d)=true) (hj:∀ j,j<i→p (l.getD j d)=false):fstA p l=i:=by
 have:l.findIdx? p=some i:=by
  rw [List.findIdx?_eq_some_iff_getElem]
  refine ⟨hi,?_,fun j hj' => ?_⟩
  ·rw [List.getD_eq_getElem?_getD,List.getElem?_eq_getElem hi] at h; exact h
  ·have:=hj j hj'
   rw [List.getD_eq_getElem?_getD,List.getElem?_eq_getElem (by omega)] at this
   simpa using this
 simp [fstA,this]
theorem fstA_none {α:Type} {p:α→Bool} {l:List α} (d:α) (hj:∀ j,j<l.length→p (l.getD j d)=false):fstA p l=-1:=by
 have:l.findIdx? p=none:=by
  rw [List.findIdx?_eq_none_iff]
  intro x hx
  obtain ⟨j,hj',rfl⟩:=List.mem_iff_getElem.1 hx
  have:=hj j hj'
  rwa [List.getD_eq_getElem?_getD,List.getElem?_eq_getElem hj'] at this
 simp [fstA,this]
def GRs (sz:Nat) (H:AH) (x:AV) (vs:List AV) (n:Nat):Prop :=
 (x=nilS∧vs=[]∧n=0)∨∃ q L cs,x=.row q 0 n L∧q<H.length∧obj H q=⟨cs,sz,true⟩∧L=cs.length∧vs.length=n*sz∧n*sz≤L∧cs.take (n*sz)=vs
section
variable {sz n:Nat} {H H':AH} {x s:AV} {vs ws:List AV} {b:Nat}
theorem GRs.frame (h:GRs sz H x vs n) {S:Nat→Prop} (hf:Fr H H' S) (hs:∀ q,rid x=some q→¬ S q):GRs sz H' x vs n:=by
 rcases h with h | ⟨q,L,cs,rfl,h1,h2,h3⟩
 ·exact .inl h
 ·exact .inr ⟨q,L,cs,rfl,Nat.lt_of_lt_of_le h1 hf.1,(hf.2 q h1 (hs q rfl)).trans h2,h3⟩
theorem GRs.sl (h:GRs sz H x vs n):Sl sz H x vs n:=by
 rcases h with ⟨rfl,rfl,rfl⟩ | ⟨q,L,cs,rfl,h1,h2,h3,h4,h5,h6⟩
 ·exact .nil
 ·exact .row h1 (by rw [h2,h3]) (by omega) (by rw [h2]; simpa using h6) (.inl (by rw [h2]))
theorem GRs.lt (h:GRs sz H x vs n) {q:Nat} (hq:rid x=some q):q<H.length:=by
 rcases h with ⟨rfl,rfl,_⟩ | ⟨q',L,cs,rfl,h1,_⟩
 ·cases hq
 ·cases hq; exact h1
theorem GRs.app (h:GRs sz H x vs n) (h1:srcOk sz H s) (h2:srcC sz H s=ws) (h3:srcN s=1) (h4:ws.length=sz) (hv:ws.all AV.one=true) (hb:(n+1)*b≤140737488355328) :
  appOk sz b H x s∧GRs sz (appH sz H s x) (appV sz H s x) (vs++ws) (n+1)∧New H x (appV sz H s x)∧Fr H (appH sz H s x) (fun i => rid x=some i):=by
 have hs:(n+1)*sz=n*sz+sz:=Nat.succ_mul n sz
 rcases h with ⟨rfl,rfl,rfl⟩ | ⟨q,L,cs,rfl,g1,g2,g3,g0,g4,g5⟩
 ·refine ⟨⟨h1,by rw [h2]; exact hv,by rw [h3]; simpa [srcN] using hb,trivial⟩,?_,?_,?_⟩
  ·rw [appV_nil,appH_nil,h2,h3]
   exact .inr ⟨H.length,ws.length,ws,rfl,by simp,by rw [obj_app0]; rfl,rfl,by rw [List.nil_append,h4]; omega,by rw [h4]; omega,List.take_of_length_le (by rw [h4]; omega)⟩
  ·intro q hq; rw [appV_nil] at hq; cases hq; exact .inr (Nat.le_refl _)
  ·rw [appH_nil]; exact Fr.app _ _ _
 ·refine ⟨⟨h1,by rw [h2]; exact hv,by rw [h3]; exact hb,g1,by rw [g2,g3],by rw [g2],by rw [g2],by omega,.inl rfl⟩,?_,?_,?_⟩
  ·rw [appV_row,appH_row,h2,h3,g2]
   refine .inr ⟨q,_,_,rfl,by rw [setO_length]; exact g1,by rw [obj_setO _ _ g1,g2],?_,by rw [List.length_append,g0,h4]; omega,?_,?_⟩
   ·simp only [appL,appC,Nat.zero_add]
    split
    ·simp [g3]
    ·simp only [List.length_append,List.length_take,List.length_drop]; omega
   ·simp only [appL,Nat.zero_add]
    split <;> omega
   ·simp only [appC,Nat.zero_add]
    split
    ·rename_i hh
     have:cs=vs:=by rw [← g5,List.take_of_length_le (by omega)]
     subst this
     rw [List.take_of_length_le (by rw [List.length_append]; omega)]
    ·rw [g5,List.take_append_of_le_length (by rw [List.length_append]; omega),List.take_of_length_le (by rw [List.length_append]; omega)]
  ·intro q' hq; rw [appV_row] at hq; exact .inl hq
  ·rw [appH_row]; exact Fr.set _ _ rfl
theorem GRs.step {K:AH} (h:GRs sz (H++K) x vs n) (hq:∀ q,rid x=some q→H.length≤q) (h1:srcOk sz (H++K) s) (h2:srcC sz (H++K) s=ws) (h3:srcN s=1) (h4:ws.length=sz) (hv:ws.all AV.one=true) (hb:(n+1)*b≤140737488355328) :
  appOk sz b (H++K) x s∧∃ K',appH sz (H++K) s x=H++K'∧GRs sz (H++K') (appV sz (H++K) s x) (vs++ws) (n+1)∧∀ q,rid (appV sz (H++K) s x)=some q→H.length≤q:=by
 obtain ⟨a1,a2,a3,a4⟩:=h.app (b:=b) h1 h2 h3 h4 hv hb
 have f1:Fr H (H++K) (fun i => rid x=some i):=Fr.app _ _ _
 have f2:Fr H (appH sz (H++K) s x) (fun _ => False):=(f1.trans a4).mono fun i hi h => by have:=hq i h; omega
 obtain ⟨K',e⟩:=f2.split fun _ h => h
 refine ⟨a1,K',e,e ▸ a2,fun q h => ?_⟩
 rcases a3 q h with h | h
 ·exact hq q h
 ·rw [List.length_append] at h; omega
theorem GRs.more {K:AH} (h:GRs sz (H++K) x vs n) (o:AObj):GRs sz (H++(K++[o])) x vs n:=by
 rw [← List.append_assoc]
 exact h.frame (Fr.app _ _ (fun _ => False)) fun _ _ h => h
theorem GRs.view {K:AH} (hz:0<sz) (h:GRs sz (H++K) x vs n) (hq:∀ q,rid x=some q→H.length≤q) (hp:pureL vs=true):Le (low (renk H.length []) (H++K) x) (.view vs n false):=by
 rcases h with ⟨rfl,rfl,rfl⟩ | ⟨q,L,cs,rfl,h1,h2,h3,h0,h4,h5⟩
 ·exact le_nil false
 ·have h6:=hq q rfl
  have e:renk H.length [] q=none:=by
   rw [renk,if_neg (by omega)]; rfl
  have e2:low (renk H.length []) (H++K) (.row q 0 n L)=.view vs n false:=by
   simp only [low,e,rowView,h2,if_neg (show ¬ sz=0 by omega),List.drop_zero,h5]
   rw [if_pos ⟨h3,by omega,hp⟩]
  rw [e2]; exact Le.refl _
end
end Go.Proofs.Ytabpkmfgmjnipaa.Eng

