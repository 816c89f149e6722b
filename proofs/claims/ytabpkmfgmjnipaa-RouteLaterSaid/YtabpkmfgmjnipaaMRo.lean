/- How soon one can be somewhere: plain. (No program in sight.) -/
namespace Go.Proofs.Ytabpkmfgmjnipaa.Eng
set_option linter.unusedVariables false
set_option linter.unusedSimpArgs false
structure Rid where
 f:Nat
 d:Int
 t:Nat
 a:Int
inductive Can (U:Rid→Prop) (s:Nat) (m:Int):Nat→Int→Prop
 | here {u:Int}:m≤u→Can U s m s u
 | ride {r:Rid} {u:Int}:U r→Can U s m r.f r.d→r.a≤u→Can U s m r.t u
section
variable {U:Rid→Prop} {s:Nat} {m:Int}
theorem Can.mono {x:Nat} {u v:Int} (h:Can U s m x u) (huv:u≤v):Can U s m x v:=by
 cases h with
 | here h => exact .here (by omega)
 | ride a b c => exact .ride a b (by omega)
theorem Can.ge (hU:∀ r,U r→r.d<r.a) {x:Nat} {u:Int} (h:Can U s m x u):m≤u:=by
 induction h with
 | here h => exact h
 | ride a b c ih => have:=hU _ a; omega
theorem Can.later {m':Int} (hm:m≤m') {x:Nat} {u:Int} (h:Can U s m' x u):Can U s m x u:=by
 induction h with
 | here h => exact .here (by omega)
 | ride a b c ih => exact .ride a ih c
theorem Can.more {V:Rid→Prop} (hV:∀ r,U r→V r) {x:Nat} {u:Int} (h:Can U s m x u):Can V s m x u:=by
 induction h with
 | here h => exact .here h
 | ride a b c ih => exact .ride (hV _ a) ih c
theorem Can.on {y x:Nat} {v u:Int} (h1:Can U s m y v) (h:Can U y v x u):Can U s m x u:=by
 induction h with
 | here h => exact h1.mono h
 | ride a b c ih => exact .ride a ih c
end
def IsE (U:Rid→Prop) (s:Nat) (m:Int) (x:Nat) (till:Int):Option Int→Prop
 | none => ∀ u,u≤till→¬ Can U s m x u
 | some v => v≤till∧Can U s m x v∧∀ u,Can U s m x u→v≤u
theorem IsE.uniq {U:Rid→Prop} {s:Nat} {m:Int} {x:Nat} {till:Int}:∀ {o o':Option Int},IsE U s m x till o→IsE U s m x till o'→o=o'
 | none,none,_,_ => rfl
 | none,some v,h,h' => absurd h'.2.1 (h v h'.1)
 | some v,none,h,h' => absurd h.2.1 (h' v h.1)
 | some v,some w,h,h' => by
  have:=h.2.2 w h'.2.1
  have:=h'.2.2 v h.2.1
  rw [show v=w by omega]
/-! ### One pass over the rides by their beginnings -/
def stepB (b:List Int) (r:Rid):List Int:=if b.getD r.f 0≤r.d then b.set r.t (min (b.getD r.t 0) r.a) else b
theorem getD_set' (b:List Int) (i j:Nat) (v:Int):(b.set i v).getD j 0=if i=j∧i<b.length then v else b.getD j 0:=by
 rw [List.getD_eq_getElem?_getD,List.getElem?_set,List.getD_eq_getElem?_getD]
 by_cases h:i=j
 ·subst h
  by_cases hi:i<b.length
  ·rw [if_pos rfl,if_pos hi,if_pos ⟨rfl,hi⟩]; rfl
  ·rw [if_pos rfl,if_neg hi,if_neg (fun h => hi h.2),List.getElem?_eq_none (by omega)]
 ·rw [if_neg h,if_neg (fun h' => h h'.1)]
theorem stepB_len (b:List Int) (r:Rid):(stepB b r).length=b.length:=by
 unfold stepB; split
 ·rw [List.length_set]
 ·rfl
theorem stepB_le (b:List Int) (r:Rid) (j:Nat):(stepB b r).getD j 0≤b.getD j 0:=by
 unfold stepB; split
 ·rw [getD_set']; split
  ·rename_i h; rw [← h.1]; omega
  ·exact Int.le_refl _
 ·exact Int.le_refl _
theorem foldB_len:∀ (L:List Rid) (b:List Int),(L.foldl stepB b).length=b.length
 | [],b => rfl
 | r::L,b => by rw [List.foldl_cons,foldB_len L,stepB_len]
theorem foldB_le:∀ (L:List Rid) (b:List Int) (j:Nat),(L.foldl stepB b).getD j 0≤b.getD j 0
 | [],b,j => Int.le_refl _
 | r::L,b,j => Int.le_trans (foldB_le L _ j) (stepB_le b r j)
def startB (s:Nat) (m till:Int):List Int:=(List.replicate 32 (till+1)).set s m
theorem startB_len (s:Nat) (m till:Int):(startB s m till).length=32:=by rw [startB,List.length_set,List.length_replicate]
theorem startB_get {s:Nat} {m till:Int} (hs:s<32) {j:Nat} (hj:j<32):(startB s m till).getD j 0=if s=j then m else till+1:=by
 rw [startB,getD_set',List.length_replicate]
 by_cases h:s=j
 ·rw [if_pos ⟨h,hs⟩,if_pos h]
 ·rw [if_neg (fun h' => h h'.1),if_neg h,List.getD_eq_getElem?_getD,List.getElem?_replicate,if_pos hj]; rfl
section
variable {U:Rid→Prop} {s:Nat} {m till:Int} {L:List Rid}
theorem foldB_sound (hL:∀ r,r ∈ L→U r∧r.f<32∧r.t<32∧r.d<r.a∧r.a≤till):∀ (M:List Rid) (b:List Int),(∀ r ∈ M,r ∈ L)→b.length=32→(∀ j,j<32→b.getD j 0≤till→Can U s m j (b.getD j 0))→∀ j,j<32→(M.foldl stepB b).getD j 0≤till→Can U s m j ((M.foldl stepB b).getD j 0)
 | [],b,_,_,h => h
 | r::M,b,hM,hb,h => by
  obtain ⟨u1,u2,u3,u4,u5⟩:=hL r (hM r (by simp))
  refine foldB_sound hL M (stepB b r) (fun x hx => hM x (by simp [hx])) (by rw [stepB_len,hb]) fun j hj => ?_
  unfold stepB
  split
  ·rename_i hc
   rw [getD_set']
   split
   ·rename_i he
    intro hle
    have hf:Can U s m r.f r.d:=(h r.f u2 (by omega)).mono hc
    rw [← he.1]
    by_cases hm:b.getD r.t 0≤r.a
    ·rw [Int.min_eq_left hm]
     exact h r.t u3 (by omega)
    ·rw [Int.min_eq_right (by omega)]
     exact .ride u1 hf (Int.le_refl _)
   ·exact h j hj
  ·exact h j hj
theorem foldB_comp (hs:s<32) (hU:∀ r,U r→r.f<32∧r.t<32∧r.d<r.a) (hL:∀ r,U r→m≤r.d→r.a≤till→r ∈ L) (hp:L.Pairwise fun x y => x.d≤y.d) {x:Nat} {u:Int} (hc:Can U s m x u):x<32→∀ A B,L=A++B→(∀ r ∈ B,u≤r.d)→u≤till→(A.foldl stepB (startB s m till)).getD x 0≤u:=by
 induction hc with
 | here h =>
  intro hx A B _ _ _
  have:=foldB_le A (startB s m till) s
  rw [startB_get hs hs,if_pos rfl] at this
  omega
 | @ride r u h1 h2 h3 ih =>
  intro hx A B e hB hu
  obtain ⟨u1,u2,u3⟩:=hU r h1
  have hd:=h2.ge fun r h => (hU r h).2.2
  have hr:=hL r h1 hd (by omega)
  rw [e,List.mem_append] at hr
  have hA:r ∈ A:=by
   rcases hr with h | h
   ·exact h
   ·have:=hB r h; omega
  obtain ⟨A1,A2,rfl⟩:=List.append_of_mem hA
  have e':L=A1++(r::A2++B):=by rw [e]; simp
  have i1:=ih u1 A1 (r::A2++B) e' (fun y hy => by
   rw [e',List.pairwise_append] at hp
   rcases hp with ⟨_,hp,_⟩
   rw [List.cons_append,List.pairwise_cons] at hp
   rw [List.cons_append,List.mem_cons] at hy
   rcases hy with rfl | hy
   ·exact Int.le_refl _
   ·exact hp.1 y hy) (by omega)
  rw [List.foldl_append,List.foldl_cons]
  refine Int.le_trans (foldB_le A2 _ _) ?_
  generalize hb:A1.foldl stepB (startB s m till)=b at i1
  have lb:b.length=32:=by rw [← hb,foldB_len,startB_len]
  unfold stepB
  rw [if_pos i1,getD_set',if_pos ⟨rfl,by omega⟩]
  omega
def earlB (L:List Rid) (s:Nat) (m:Int) (x:Nat) (till:Int):Int:=(L.foldl stepB (startB s m till)).getD x 0
theorem earlB_is (hs:s<32) {x:Nat} (hx:x<32) (hm:m≤till) (hU:∀ r,U r→r.f<32∧r.t<32∧r.d<r.a) (hL:∀ r,r ∈ L↔U r∧m≤r.d∧r.a≤till) (hp:L.Pairwise fun x y => x.d≤y.d) :
  IsE U s m x till (if till<earlB L s m x till then none else some (earlB L s m x till)):=by
 have snd:∀ j,j<32→earlB L s m j till≤till→Can U s m j (earlB L s m j till):=by
  refine foldB_sound (fun r hr => ?_) L (startB s m till) (fun _ h => h) (startB_len _ _ _) fun j hj => ?_
  ·have:=(hL r).1 hr
   exact ⟨this.1,(hU r this.1).1,(hU r this.1).2.1,(hU r this.1).2.2,this.2.2⟩
  ·rw [startB_get hs hj]
   split
   ·rename_i h; subst h; intro _; exact .here (Int.le_refl _)
   ·intro h; omega
 have cmp:∀ u,u≤till→Can U s m x u→earlB L s m x till≤u:=fun u hu hc =>
  foldB_comp hs hU (fun r h1 h2 h3 => (hL r).2 ⟨h1,h2,h3⟩) hp hc hx L [] (by simp) (fun r h => by cases h) hu
 split
 ·rename_i h
  intro u hu hc
  have:=cmp u hu hc
  omega
 ·rename_i h
  refine ⟨by omega,snd x hx (by omega),fun u hc => ?_⟩
  by_cases hu:u≤till
  ·exact cmp u hu hc
  ·omega
end
/-! ### Again and again,till nothing is sooner -/
section
variable {U:Rid→Prop} {s:Nat} {m till:Int}
end
structure Cn where
 svc:Int
 from_:Int
 dep:Int
 to:Int
 arr:Int
def cnB (n:Nat) (c:Cn):Bool:=decide (0≤c.svc)&&decide (c.svc<n)&&(decide (0≤c.from_)&&decide (c.from_<32))&&(decide (0≤c.to)&&decide (c.to<32))&&decide (0≤c.dep)&&decide (c.dep<1440)&&decide (c.dep<c.arr)&&decide (c.arr≤2879)
theorem cnB_iff {n:Nat} {c:Cn}:cnB n c=true↔(0≤c.svc∧c.svc<n)∧(0≤c.from_∧c.from_<32)∧(0≤c.to∧c.to<32)∧(0≤c.dep∧c.dep<1440)∧c.dep<c.arr∧c.arr≤2879:=by
 simp only [cnB,Bool.and_eq_true,decide_eq_true_eq]; omega
def Cn.rid (c:Cn) (day:Int):Rid:=⟨c.from_.toNat,1440*day+c.dep,c.to.toNat,1440*day+c.arr⟩
section
variable (rn:Int→Int→Bool)
def NU (cs:List Cn):Rid→Prop:=fun r => ∃ c ∈ cs,∃ day:Int,0≤day∧rn c.svc day=true∧r=c.rid day
def keptB (m till:Int) (day:Int) (c:Cn):Bool:=decide (m≤1440*day+c.dep)&&decide (1440*day+c.arr≤till)&&rn c.svc day
def dayR (m till:Int) (cs:List Cn) (day:Int):List Rid:=(cs.filter (keptB rn m till day)).map (·.rid day)
def daysN (m till:Int):Nat:=(till / 1440 - m / 1440+1).toNat
def ridesL (m till:Int) (cs:List Cn):List Rid:=(List.range (daysN m till)).flatMap fun (k:Nat) => dayR rn m till cs (m / 1440+k)
end
section
variable {rn:Int→Int→Bool} {cs:List Cn} {n:Nat} {m till:Int}
theorem NU_ok (hc:∀ c ∈ cs,cnB n c=true):∀ r,NU rn cs r→r.f<32∧r.t<32∧r.d<r.a:=by
 rintro r ⟨c,h1,day,h2,h3,rfl⟩
 have:=cnB_iff.1 (hc c h1)
 show c.from_.toNat<32∧c.to.toNat<32∧1440*day+c.dep<1440*day+c.arr
 omega
theorem mem_days {day:Int} (h0:0≤m):(∃ k,k<daysN m till∧day=m / 1440+(k:Nat))↔m / 1440≤day∧day≤till / 1440:=by
 unfold daysN
 constructor
 ·rintro ⟨k,hk,rfl⟩; omega
 ·rintro ⟨h1,h2⟩
  exact ⟨(day - m / 1440).toNat,by omega,by omega⟩
theorem ridesL_iff (hc:∀ c ∈ cs,cnB n c=true) (h0:0≤m) (r:Rid):r ∈ ridesL rn m till cs↔NU rn cs r∧m≤r.d∧r.a≤till:=by
 simp only [ridesL,List.mem_flatMap,List.mem_range,dayR,List.mem_map,List.mem_filter,keptB,Bool.and_eq_true,decide_eq_true_eq]
 constructor
 ·rintro ⟨k,hk,c,⟨h1,⟨h2,h3⟩,h4⟩,rfl⟩
  exact ⟨⟨c,h1,_,by omega,h4,rfl⟩,h2,h3⟩
 ·rintro ⟨⟨c,h1,day,h2,h3,rfl⟩,h4,h5⟩
  have ok:=cnB_iff.1 (hc c h1)
  have h4:m≤1440*day+c.dep:=h4
  have h5:1440*day+c.arr≤till:=h5
  obtain ⟨k,hk,e⟩:=(mem_days (till:=till) (day:=day) h0).2 ⟨by omega,by omega⟩
  subst e
  exact ⟨k,hk,c,⟨h1,⟨h4,h5⟩,h3⟩,rfl⟩
def earlO (L:List Rid) (s:Nat) (m:Int) (x:Nat) (till:Int):Option Int:=if till<earlB L s m x till then none else some (earlB L s m x till)
theorem earlO_is (hc:∀ c ∈ cs,cnB n c=true) {s x:Nat} (hs:s<32) (hx:x<32) (h0:0≤m) (hm:m≤till) {L:List Rid} (hL:L.Perm (ridesL rn m till cs)) (hp:L.Pairwise fun x y => x.d≤y.d):IsE (NU rn cs) s m x till (earlO L s m x till) :=
 earlB_is hs hx hm (NU_ok hc) (fun r => by rw [hL.mem_iff]; exact ridesL_iff hc h0 r) hp
end
/-! ### The document's passes -/
theorem fold_take {α β:Type} (f:β→α→β) (z:β) (l:List α) {i:Nat} (hi:i<l.length):(l.take (i+1)).foldl f z=f ((l.take i).foldl f z) l[i]:=by
 rw [List.take_succ_eq_append_getElem hi,List.foldl_append]; rfl
section
variable {rn:Int→Int→Bool} {cs:List Cn} {n:Nat} {m till:Int}
end
end Go.Proofs.Ytabpkmfgmjnipaa.Eng

