/- Layer 8: a number's bytes; fields' bytes: the program's walks. -/
import Derived.Test.YtgfploghjpbcaaaMTk
import Derived.Test.YtgfploghjpbcaaaMFv
import Derived.Test.YtgfploghjpbcaaaMFc
namespace Go.Proofs.Ytgfploghjpbcaaa.Eng
open Go Go.Proofs
set_option linter.unusedVariables false
set_option linter.unusedSimpArgs false
set_option maxRecDepth 10000
section
variable {H K:AH} {x s:AV} {vs ws:List AV} {b:Nat}
end
def mrgF:Nat→List Rvk→List Rvk→List Rvk
 | 0,_,_ => []
 | n+1,[],[] => []
 | n+1,x::a,[] => x::mrgF n a []
 | n+1,[],y::b => y::mrgF n [] b
 | n+1,x::a,y::b => if x.serial<y.serial then x::mrgF n a (y::b) else if y.serial<x.serial then y::mrgF n (x::a) b else ⟨x.serial,min x.from_ y.from_⟩::mrgF n a b
def mrg (a b:List Rvk):List Rvk:=mrgF (a.length+b.length) a b
theorem mrgF_nil:∀ n,mrgF n [] []=[]
 | 0 => rfl
 | _+1 => rfl
def sg:Int→List Rvk→Prop
 | _,[] => True
 | lo,r::l => lo<r.serial∧r.serial≤2147483647∧0≤r.from_∧r.from_≤1073741824∧sg r.serial l
theorem sg_mrg:∀ (n:Nat) (lo:Int) (a b:List Rvk),sg lo a→sg lo b→sg lo (mrgF n a b)
 | 0,_,_,_,_,_ => trivial
 | n+1,lo,[],[],_,_ => trivial
 | n+1,lo,x::a,[],⟨h1,h2,h3,h4,h5⟩,_ => ⟨h1,h2,h3,h4,sg_mrg n _ a [] h5 trivial⟩
 | n+1,lo,[],y::b,_,⟨h1,h2,h3,h4,h5⟩ => ⟨h1,h2,h3,h4,sg_mrg n _ [] b trivial h5⟩
 | n+1,lo,x::a,y::b,⟨h1,h2,h3,h4,h5⟩,⟨g1,g2,g3,g4,g5⟩ => by
  rw [mrgF]
  split
  ·rename_i h
   exact ⟨h1,h2,h3,h4,sg_mrg n _ a (y::b) h5 ⟨h,g2,g3,g4,g5⟩⟩
  ·split
   ·rename_i h
    exact ⟨g1,g2,g3,g4,sg_mrg n _ (x::a) b ⟨h,h2,h3,h4,h5⟩ g5⟩
   ·have e:x.serial=y.serial:=by omega
    exact ⟨h1,h2,by show 0≤min _ _; omega,by show min _ _≤_; omega,sg_mrg n _ a b h5 (e ▸ g5)⟩
def gn (s m:Int) (l:List Rvk):Prop:=∃ r ∈ l,r.serial=s∧r.from_≤m
theorem gn_mrg (s m:Int):∀ (n:Nat) (a b:List Rvk),a.length+b.length≤n→gn s m a→gn s m (mrgF n a b)
 | 0,a,b,h,⟨r,hr,_⟩ => by
  have:a=[]:=List.eq_nil_of_length_eq_zero (by omega)
  subst this; cases hr
 | n+1,[],b,_,⟨r,hr,_⟩ => by cases hr
 | n+1,x::a,[],h,⟨r,hr,h2⟩ => by
  rw [mrgF]
  rcases List.mem_cons.1 hr with rfl | hr
  ·exact ⟨_,List.mem_cons_self ..,h2⟩
  ·obtain ⟨q,hq,hq2⟩:=gn_mrg s m n a [] (by simp only [List.length_cons,List.length_nil] at *; omega) ⟨r,hr,h2⟩
   exact ⟨q,List.mem_cons_of_mem _ hq,hq2⟩
 | n+1,x::a,y::b,h,⟨r,hr,h2⟩ => by
  simp only [List.length_cons] at h
  rw [mrgF]
  split
  ·rcases List.mem_cons.1 hr with rfl | hr
   ·exact ⟨_,List.mem_cons_self ..,h2⟩
   ·obtain ⟨q,hq,hq2⟩:=gn_mrg s m n a (y::b) (by simp only [List.length_cons]; omega) ⟨r,hr,h2⟩
    exact ⟨q,List.mem_cons_of_mem _ hq,hq2⟩
  ·split
   ·obtain ⟨q,hq,hq2⟩:=gn_mrg s m n (x::a) b (by simp only [List.length_cons]; omega) ⟨r,hr,h2⟩
    exact ⟨q,List.mem_cons_of_mem _ hq,hq2⟩
   ·rcases List.mem_cons.1 hr with rfl | hr
    ·exact ⟨_,List.mem_cons_self ..,h2.1,by show min _ _≤_; omega⟩
    ·obtain ⟨q,hq,hq2⟩:=gn_mrg s m n a b (by omega) ⟨r,hr,h2⟩
     exact ⟨q,List.mem_cons_of_mem _ hq,hq2⟩
set_option maxRecDepth 10000
def prevS (lo:Int) (l:List Rvk) (i:Nat):Int:=if i=0 then lo else (l.getD (i - 1) noRv).serial
theorem sg_iff:∀ (l:List Rvk) (lo:Int),sg lo l↔∀ i,i<l.length→prevS lo l i<(l.getD i noRv).serial∧(l.getD i noRv).serial≤2147483647∧0≤(l.getD i noRv).from_∧(l.getD i noRv).from_≤1073741824
 | [],lo => ⟨fun _ i hi => absurd hi (Nat.not_lt_zero _),fun _ => trivial⟩
 | r::l,lo => by
  rw [sg,sg_iff l r.serial]
  constructor
  ·rintro ⟨h1,h2,h3,h4,h5⟩ i hi
   match i with
   | 0 => exact ⟨h1,h2,h3,h4⟩
   | i+1 =>
    have:=h5 i (Nat.lt_of_succ_lt_succ hi)
    refine ⟨?_,this.2⟩
    have h6:=this.1
    match i with
    | 0 => exact h6
    | j+1 => exact h6
  ·intro h
   obtain ⟨h1,h2,h3,h4⟩:=h 0 (Nat.zero_lt_succ _)
   refine ⟨h1,h2,h3,h4,fun i hi => ?_⟩
   have:=h (i+1) (Nat.succ_lt_succ hi)
   refine ⟨?_,this.2⟩
   have h6:=this.1
   match i with
   | 0 => exact h6
   | j+1 => exact h6
theorem sg_gt:∀ (l:List Rvk) (lo:Int),sg lo l→∀ r ∈ l,lo<r.serial
 | [],_,_,r,hr => by cases hr
 | x::l,lo,⟨h1,_,_,_,h5⟩,r,hr => by
  rcases List.mem_cons.1 hr with rfl | hr
  ·exact h1
  ·have:=sg_gt l _ h5 r hr; omega
theorem revB_sg (l:List Rvk):revB l=true↔l.length≤200∧sg 0 l:=by
 simp only [revB,Bool.and_eq_true,decide_eq_true_eq]
 refine and_congr_right fun _ => ⟨fun h => (sg_iff l 0).2 fun i hi => ?_,fun h i hi => ?_⟩
 ·have:=h i hi
  rw [rvBad_eq] at this
  simp only [Bool.or_eq_false_iff,Bool.and_eq_false_iff,decide_eq_false_iff_not] at this
  unfold prevS
  split <;> omega
 ·have h1:=(sg_iff l 0).1 h i hi
  have h2:=sg_gt l 0 h _ (getD_memP noRv hi)
  rw [rvBad_eq]
  simp only [Bool.or_eq_false_iff,Bool.and_eq_false_iff,decide_eq_false_iff_not]
  unfold prevS at h1
  split at h1 <;> omega
theorem goneB_gn (l:List Rvk) (s m:Int):goneB l s m=true↔gn s m l:=by
 rw [goneB,decide_eq_true_eq]
 rcases fstA_at noRv (fun r => r.serial == s&&decide (r.from_≤m)) l with ⟨h1,h2⟩ | ⟨j,hj,h1,h2⟩
 ·rw [h1]
  refine ⟨fun h => absurd h (by decide),fun ⟨r,hr,h3,h4⟩ => ?_⟩
  obtain ⟨j,hj,rfl⟩:=List.mem_iff_getElem.1 hr
  have:=h2 j hj
  rw [List.getD_eq_getElem?_getD,List.getElem?_eq_getElem hj] at this
  simp only [Option.getD_some,Bool.and_eq_false_iff,beq_eq_false_iff_ne,decide_eq_false_iff_not] at this
  rcases this with h | h
  ·exact absurd h3 h
  ·exact absurd h4 h
 ·rw [h1]
  simp only [Bool.and_eq_true,beq_iff_eq,decide_eq_true_eq] at h2
  exact ⟨fun _ => ⟨_,getD_memP noRv hj,h2⟩,fun _ => by omega⟩
theorem revB_mrg {a b:List Rvk} (ha:revB a=true) (hb:revB b=true) (h:(mrg a b).length≤200):revB (mrg a b)=true :=
 (revB_sg _).2 ⟨h,sg_mrg _ _ _ _ ((revB_sg a).1 ha).2 ((revB_sg b).1 hb).2⟩
theorem goneB_mrg {a b:List Rvk} {s m:Int} (h:goneB a s m=true):goneB (mrg a b) s m=true :=
 (goneB_gn _ _ _).2 (gn_mrg s m _ a b (Nat.le_refl _) ((goneB_gn _ _ _).1 h))
theorem rcs_len:∀ l:List Rvk,(rcs l).length=l.length*2
 | [] => rfl
 | a::l => by
  have:=rcs_len l
  show ([I a.serial,I a.from_]++rcs l).length=(l.length+1)*2
  rw [List.length_append,this]; simp; omega
theorem rcs_cons (a:Rvk) (l:List Rvk):rcs (a::l)=I a.serial::I a.from_::rcs l:=rfl
theorem rcs_cut (a:Rvk) (l:List Rvk):cut (rcs (a::l)) 2 1 (l.length+1)=rcs l:=by
 rw [cut,rcs_cons]
 show ((rcs l).take ((l.length+1 - 1)*2))=rcs l
 exact List.take_of_length_le (by rw [rcs_len]; omega)
theorem rcs_snoc (l:List Rvk) (a:Rvk):rcs l++[I a.serial,I a.from_]=rcs (l++[a]):=by
 show rcs l++rcs [a]=rcs (l++[a])
 rw [show rcs (l++[a])=rcs l++rcs [a] from List.flatMap_append]
theorem rcs_pure:∀ l:List Rvk,pureL (rcs l)=true
 | [] => rfl
 | a::l => rcs_pure l
def mrgV (a b:List Rvk):AV:=if revB a=true∧revB b=true then (if (mrg a b).length≤200 then .tup [.view (rcs (mrg a b)) (mrg a b).length false,nilE] else .tup [nilS,errA 3]) else .tup [nilS,errA 1]
theorem t_Merge {H:AH} {a b:List Rvk} {ga gb:Bool} (an:a.length≤1000000) (bn:b.length≤1000000):Called Try.prog F.revoke_Merge [.view (rcs a) a.length ga,.view (rcs b) b.length gb] H (mrgV a b) H:=by
 have sv:=fun (l:List Rvk) g G => Sl.view (H:=G) (sz:=2) (cs:=rcs l) (n:=l.length) (rcs_len l) g
 refine e_revoke_Merge ?_
 simp only [ic_revoke_Merge,go_sem]
 refine callW_some (t_rvMay (sv a ga _) an) (fun _ => rfl) ?_
 simp only [go_sem]
 refine callG_of (fun _ => t_rvMay (sv b gb _) bn) ?_
 simp only [go_sem]
 refine ⟨fun h => ?_,fun h => ?_⟩
 ·have:¬ (revB a=true∧revB b=true):=by
   rintro ⟨h1,h2⟩
   rw [h1,h2] at h; exact absurd h (by decide)
  rw [mrgV,if_neg this]
  exact leave_same rfl
 ·have hab:revB a=true∧revB b=true:=by
   cases h1:revB a <;> cases h2:revB b <;> rw [h1,h2] at h <;> first | exact ⟨rfl,rfl⟩ | exact absurd h (by decide)
  rw [mrgV,if_pos hab]
  have la:=((revB_sg a).1 hab.1).1
  have lb:=((revB_sg b).1 hab.2).1
  refine w_loop _ (fun (s:Nat × (List Rvk × Bool) × (List Rvk × Bool) × List Rvk) => ([(0,.view (rcs s.2.1.1) s.2.1.1.length s.2.1.2),(1,.view (rcs s.2.2.1.1) s.2.2.1.1.length s.2.2.1.2),(6,rA H (rcs s.2.2.2) s.2.2.2.length)],hA 2 H (rcs s.2.2.2) s.2.2.2.length))
   (fun s => mrg a b=s.2.2.2++mrgF s.1 s.2.1.1 s.2.2.1.1∧s.2.1.1.length+s.2.2.1.1.length≤s.1∧s.2.2.2.length+s.1≤400) (fun s => s.1) (a.length+b.length,(a,ga),(b,gb),[]) ⟨rfl,Nat.le_refl _,by show 0+_≤_; omega⟩ rfl ?_
  rintro ⟨n,⟨a',g1⟩,⟨b',g2⟩,out⟩ ⟨he,hl,ho⟩
  dsimp only at he hl ho
  have z0:((0:Int) == 0)=true:=rfl
  have p0:decide ((0:Int)<0)=false:=rfl
  have zn:∀ k:Nat,(((k+1:Nat):Int) == 0)=false:=fun k => by rw [beq_eq_false_iff_ne]; omega
  have pn:∀ k:Nat,decide ((0:Int)<((k+1:Nat):Int))=true:=fun k => by rw [decide_eq_true_eq]; omega
  have w0:IntKind.i64.wrap (0+0)=0:=by decide
  have app:=fun (r:Rvk) => build_app (H:=H) (sz:=2) (n:=out.length) (vs:=rcs out) (rcs_len out) (s:=.view [I r.serial,I r.from_] 1 true) (cs:=[I r.serial,I r.from_]) (b:=16) rfl rfl rfl rfl (by omega)
  have ec:∀ (r:Rvk) l,elt (rcs (r::l)) 2 0=[I r.serial,I r.from_]:=fun _ _ => rfl
  cases a' with
  | nil =>
   cases b' with
   | nil =>
    rw [mrgF_nil,List.append_nil] at he
    simp only [go_sem,w0]
    refine ⟨fun h => absurd h (by decide),fun _ => ?_⟩
    have bsl:=build_sl (H:=H) (sz:=2) (n:=out.length) (vs:=rcs out) (rcs_len out)
    rw [he]
    simp only [bsl.s]
    refine ⟨trivial,fun h => ?_,fun h => ?_⟩
    ·rw [if_neg (by omega)]
     exact leave_hA fun _ _ => rfl
    ·rw [if_pos (by omega)]
     exact leave_buildT (by decide) (rcs_len out) (rcs_pure out) (fun _ _ => rfl)
   | cons y b' =>
    have w1:IntKind.i64.wrap (0+((b'.length+1:Nat):Int))=((b'.length+1:Nat):Int):=by
     simp only [List.length_cons,List.length_nil] at hl
     rw [w64 _ (by omega) (by omega)]; omega
    obtain ⟨a1,a2,a3⟩:=app y
    simp only [go_sem] at a1
    simp only [go_sem,w1,z0,p0,zn,pn,ec,rcs_len,rcs_cut,a2,a3]
    obtain ⟨k,rfl⟩:∃ k,n=k+1:=⟨n - 1,by simp only [List.length_cons] at hl; omega⟩
    refine ⟨by omega,a1,⟨by omega,by omega⟩,(k,([],g1),(b',g2),out++[y]),by rw [← rcs_snoc,List.length_append]; rfl,by rw [← rcs_snoc,List.length_append]; rfl,⟨?_,?_,?_⟩,by show k<k+1; omega⟩
    ·show mrg a b=(out++[y])++_
     rw [he,List.append_assoc]; rfl
    ·simp only [List.length_cons,List.length_nil] at hl ⊢; omega
    ·simp only [List.length_append,List.length_cons,List.length_nil] at ho ⊢; omega
  | cons x a' =>
   cases b' with
   | nil =>
    have w1:IntKind.i64.wrap (((a'.length+1:Nat):Int)+0)=((a'.length+1:Nat):Int):=by
     simp only [List.length_cons,List.length_nil] at hl
     rw [w64 _ (by omega) (by omega)]; omega
    obtain ⟨a1,a2,a3⟩:=app x
    simp only [go_sem] at a1
    simp only [go_sem,w1,z0,p0,zn,pn,ec,rcs_len,rcs_cut,a2,a3]
    obtain ⟨k,rfl⟩:∃ k,n=k+1:=⟨n - 1,by simp only [List.length_cons] at hl; omega⟩
    refine ⟨by omega,a1,⟨by omega,by omega⟩,(k,(a',g1),([],g2),out++[x]),by rw [← rcs_snoc,List.length_append]; rfl,by rw [← rcs_snoc,List.length_append]; rfl,⟨?_,?_,?_⟩,by show k<k+1; omega⟩
    ·show mrg a b=(out++[x])++_
     rw [he,List.append_assoc]; rfl
    ·simp only [List.length_cons,List.length_nil] at hl ⊢; omega
    ·simp only [List.length_append,List.length_cons,List.length_nil] at ho ⊢; omega
   | cons y b' =>
    have w1:IntKind.i64.wrap (((a'.length+1:Nat):Int)+((b'.length+1:Nat):Int))=((a'.length+b'.length+2:Nat):Int):=by
     simp only [List.length_cons,List.length_nil] at hl
     rw [w64 _ (by omega) (by omega)]; omega
    have a1:=fun r => (app r).1
    have a2:=fun r => (app r).2.1
    have a3:=fun r => (app r).2.2
    simp only [go_sem] at a1
    simp only [go_sem,w1,z0,p0,zn,pn,ec,rcs_len,rcs_cut]
    obtain ⟨k,rfl⟩:∃ k,n=k+1:=⟨n - 1,by simp only [List.length_cons] at hl; omega⟩
    rw [mrgF] at he
    refine ⟨by omega,by omega,fun h1 => ?_,fun h1 => ⟨by omega,by omega,fun h2 => ?_,fun h2 => ?_⟩⟩
    ·rw [if_pos h1] at he
     rw [a2,a3]
     refine ⟨by omega,a1 x,⟨by omega,by omega⟩,(k,(a',g1),(y::b',g2),out++[x]),by rw [← rcs_snoc,List.length_append]; rfl,by rw [← rcs_snoc,List.length_append]; rfl,⟨?_,?_,?_⟩,by show k<k+1; omega⟩
     ·show mrg a b=(out++[x])++_
      rw [he,List.append_assoc]; rfl
     ·simp only [List.length_cons,List.length_nil] at hl ⊢; omega
     ·simp only [List.length_append,List.length_cons,List.length_nil] at ho ⊢; omega
    ·rw [if_neg h1,if_pos h2] at he
     rw [a2,a3]
     refine ⟨by omega,a1 y,⟨by omega,by omega⟩,(k,(x::a',g1),(b',g2),out++[y]),by rw [← rcs_snoc,List.length_append]; rfl,by rw [← rcs_snoc,List.length_append]; rfl,⟨?_,?_,?_⟩,by show k<k+1; omega⟩
     ·show mrg a b=(out++[y])++_
      rw [he,List.append_assoc]; rfl
     ·simp only [List.length_cons,List.length_nil] at hl ⊢; omega
     ·simp only [List.length_append,List.length_cons,List.length_nil] at ho ⊢; omega
    ·rw [if_neg h1,if_neg h2] at he
     have em:(if y.from_<x.from_ then y.from_ else x.from_)=min x.from_ y.from_:=by split <;> omega
     have ar:=app ⟨x.serial,min x.from_ y.from_⟩
     dsimp only at ar
     obtain ⟨q1,q2,q3⟩:=ar
     simp only [go_sem] at q1
     rw [em,q2,q3]
     refine ⟨by omega,by omega,by omega,q1,⟨by omega,by omega⟩,⟨by omega,by omega⟩,(k,(a',g1),(b',g2),out++[⟨x.serial,min x.from_ y.from_⟩]),by rw [← rcs_snoc,List.length_append]; rfl,by rw [← rcs_snoc,List.length_append]; rfl,⟨?_,?_,?_⟩,by show k<k+1; omega⟩
     ·show mrg a b=(out++[⟨x.serial,min x.from_ y.from_⟩])++_
      rw [he,List.append_assoc]; rfl
     ·simp only [List.length_cons,List.length_nil] at hl ⊢; omega
     ·simp only [List.length_append,List.length_cons,List.length_nil] at ho ⊢; omega
set_option maxRecDepth 10000
theorem verN_mrg {c:Tkt × Int} {r mo:List Rvk} {l:List Prd} {z m:Int} (h:verN c (mrg r mo) l z m=1):verN c r l z m=1:=by
 unfold verN at h ⊢
 split at h
 ·cases h
 ·rename_i h2
  rw [if_neg h2]
  split at h
  ·cases h
  ·rename_i h3
   rw [if_neg h3]
   split at h
   ·cases h
   ·rename_i h4
    rw [if_neg (fun hg => h4 (goneB_mrg hg))]
    exact h
theorem few_of' {l:List Prd} (lo:∀ p ∈ l,p.ok) (h:(decide (l.length≤60)&&decide (∀ p ∈ l,p.few))=true):(∀ p ∈ l,p.ok∧p.few)∧l.length≤60:=by
 simp only [Bool.and_eq_true,decide_eq_true_eq] at h
 exact ⟨fun p hp => ⟨lo p hp,h.2 p hp⟩,h.1⟩
theorem why_covers {l:List Prd} {t:Tkt} {z m:Int} (h1:prdsB l=true) (h2:tktB t=true) (h3:plcB z m=true):(whyV l t z m == 1)=coversB l t z m:=by
 unfold whyV coversB
 rw [h1,h2,h3]
 unfold covB
 generalize kOf l t.product=kk
 generalize thenB (pOf l kk) t m=b1
 generalize zoneB t.zones z=b2
 by_cases hk:kk<0
 ·rw [if_pos hk]
  have:decide (0≤kk)=false:=by rw [decide_eq_false_iff_not]; omega
  simp [this]
 ·rw [if_neg hk]
  have:decide (0≤kk)=true:=by rw [decide_eq_true_eq]; omega
  cases b1 <;> cases b2 <;> simp [this]
theorem t_FareValid {xk xl xb:AV} {k:List Key} {r mo:List Rvk} {gr gm:Bool} {l:List Prd} {b:List UInt8} (hk:Sl 12 [] xk (kcs k) k.length) (ko:∀ p ∈ k,p.ok) (hl:Sl 7 [] xl (pcs l) l.length) (lo:∀ p ∈ l,p.ok) (ln:l.length≤140737488355328) (hb:Sl 1 [] xb (bs b) b.length) (z m:Int) :
  Called Try.prog F.clapperlaw14_FareValid [xk,.view (rcs r) r.length gr,.view (rcs mo) mo.length gm,xl,xb,I z,I m] [] (Bl true) []:=by
 refine e_clapperlaw14_FareValid ?_
 have hK:∀ G,Sl 12 G xk (kcs k) k.length:=fun G => hk.app (G:=G)
 have hR:∀ G,Sl 2 G (.view (rcs r) r.length gr) (rcs r) r.length:=fun G => Sl.view (rcs_len r) gr
 have hL:∀ G,Sl 7 G xl (pcs l) l.length:=fun G => hl.app (G:=G)
 have hB:∀ G,Sl 1 G xb (bs b) b.length:=fun G => hb.app (G:=G)
 simp only [ic_clapperlaw14_FareValid,go_sem,hk.s,hl.s,hb.s]
 refine callW_some (t_up14 _) (fun _ => rfl) ?_
 simp only [go_sem,hk.s,hl.s,hb.s]
 refine callW_some (t_Few (hL _) lo ln) (fun _ => rfl) ?_
 have fo:=@few_of' l lo
 generalize (decide (l.length≤60)&&decide (∀ p ∈ l,p.few))=few at *
 simp only [go_sem,hk.s,hl.s,hb.s]
 refine ⟨fun h => leave_same rfl,fun h => ?_⟩
 have hh:few=true∧¬ (60:Int)<k.length∧¬ (300:Int)<r.length∧¬ (300:Int)<mo.length∧¬ (5000:Int)<b.length:=by
  cases few
  ·simp at h
  ·refine ⟨rfl,?_⟩
   have h:¬ (60:Int)<k.length∧¬ (300:Int)<r.length∧¬ (300:Int)<mo.length∧¬ (5000:Int)<b.length:=by simpa [and_assoc] using h
   exact h
 obtain ⟨rfl,q1,q2,q4,q3⟩:=hh
 obtain ⟨lo',l60⟩:=fo rfl
 have tv:=fun G => t_Verdict (H:=G) (hK _) ko (by omega) (hR _) (by omega) (hL _) lo' (by omega) (hB _) (by omega) z m
 have tw:=fun G (rr:List Rvk) (hrr:rr.length≤1000000) => t_Verdict (H:=G) (hK _) ko (by omega) (Sl.view (H:=G) (sz:=2) (cs:=rcs rr) (n:=rr.length) (rcs_len rr) false) hrr (hL _) lo' (by omega) (hB _) (by omega) z m
 refine callW_some (tv _) (fun _ => rfl) ?_
 have e1:errA 1=.lit (.iface T.api_Code (.int .i64 1)):=rfl
 have tcc:(T.api_Code == T.api_Code&&(1:Int) == 1)=true:=by simp
 by_cases he:(((keysB k&&revB r)&&prdsB l)&&plcB z m)=true
 ·rw [if_pos he]
  simp only [Bool.and_eq_true] at he
  obtain ⟨⟨⟨hk1,hr1⟩,hp1⟩,hz1⟩:=he
  simp only [go_sem,hk.s,hl.s,hb.s]
  have tk:=fun G => t_kCheck (H:=G) (hK _) ko (by omega) (hB _) (by omega) m
  rw [if_pos hk1] at tk
  refine callW_some (tk _) (fun _ => rfl) ?_
  have kt:=@kcheckN_tkt k b m
  have vm:=fun (h:verN (kcheckN k b m) (mrg r mo) l z m=1) => verN_mrg h
  generalize kcheckN k b m=c at *
  obtain ⟨t,n⟩:=c
  dsimp only at kt ⊢
  have vv:(verN (t,n) r l z m == 1)=(decide (n=0)&&(!goneB r t.serial m&&coversB l t z m)):=by
   by_cases h0:n=0
   ·subst h0
    rw [← why_covers hp1 (kt rfl) hz1]
    have e:verN (t,0) r l z m=if goneB r t.serial m then 4 else whyV l t z m:=rfl
    rw [e]
    cases goneB r t.serial m
    ·simp
    ·rfl
   ·have e:verN (t,n) r l z m=if n=2 then 2 else 3:=by
     show (if n=2 then (2:Int) else if n≠0 then 3 else _)=_
     rw [if_pos h0]
    rw [e,decide_eq_false h0,Bool.false_and]
    split <;> rfl
  generalize hvv:verN (t,n) r l z m=v at vv vm ⊢
  have tmg:=fun G => t_Merge (H:=G) (a:=r) (b:=mo) (ga:=gr) (gb:=gm) (by omega) (by omega)
  rcases err_2 n with ⟨rfl,en⟩ | ⟨hn0,en⟩
  ·rw [en]
   simp only [go_sem,hk.s,hl.s,hb.s,e5,tk_one,tk_len,tk_spl,tk_take]
   refine callG_of (fun _ => t_Is (hR _) (by omega) t.serial m) ?_
   rw [hr1,Bool.true_and]
   simp only [go_sem,hk.s,hl.s,hb.s,tk_take]
   refine callG_of (fun _ => t_Covers (hL _) lo' (by omega) t z m) ?_
   simp only [go_sem,hk.s,hl.s,hb.s]
   have vv:(v == 1)=(!goneB r t.serial m&&coversB l t z m):=by rw [vv]; rfl
   rw [vv,beq_self_eq_true]
   refine ⟨fun h => absurd h (by decide),fun _ => callW_some (tmg _) (fun _ => rfl) ?_⟩
   unfold mrgV
   by_cases hab:revB r=true∧revB mo=true
   ·rw [if_pos hab]
    by_cases h200:(mrg r mo).length≤200
    ·rw [if_pos h200]
     have hm1:=revB_mrg hab.1 hab.2 h200
     have tw':=fun G => tw G (mrg r mo) (by omega)
     rw [if_pos (by rw [hk1,hm1,hp1,hz1]; rfl)] at tw'
     simp only [go_sem,hk.s,hl.s,hb.s]
     refine callW_some (tw' _) (fun _ => rfl) ?_
     generalize verN (t,0) (mrg r mo) l z m=w at vm ⊢
     simp only [go_sem]
     have hw:((w != 1) || (v == 1))=true:=by
      by_cases h1:w=1
      ·rw [vm h1]; simp
      ·rw [(bne_iff_ne).2 h1]; rfl
     rw [hw]
     exact leave_drop (H:=[]) rfl
    ·rw [if_neg h200]
     simp only [errA,go_sem]
     exact leave_drop (H:=[]) rfl
   ·rw [if_neg hab]
    simp only [errA,go_sem]
    exact leave_drop (H:=[]) rfl
  ·rw [en]
   simp only [go_sem,hk.s,hl.s,hb.s,e5,tk_one,tk_len,tk_spl,tk_take]
   refine callG_of (v:=Bl false) (fun h => by cases h) ?_
   simp only [go_sem,hk.s,hl.s,hb.s,tk_take]
   refine callG_of (v:=Bl false) (fun h => by cases h) ?_
   simp only [go_sem,hk.s,hl.s,hb.s]
   have vv:(v == 1)=false:=by rw [vv,decide_eq_false hn0,Bool.false_and]
   rw [vv]
   refine ⟨fun h => absurd h (by decide),fun _ => callW_some (tmg _) (fun _ => rfl) ?_⟩
   unfold mrgV
   by_cases hab:revB r=true∧revB mo=true
   ·rw [if_pos hab]
    by_cases h200:(mrg r mo).length≤200
    ·rw [if_pos h200]
     have hm1:=revB_mrg hab.1 hab.2 h200
     have tw':=fun G => tw G (mrg r mo) (by omega)
     rw [if_pos (by rw [hk1,hm1,hp1,hz1]; rfl)] at tw'
     simp only [go_sem,hk.s,hl.s,hb.s]
     refine callW_some (tw' _) (fun _ => rfl) ?_
     generalize verN (t,n) (mrg r mo) l z m=w at vm ⊢
     simp only [go_sem]
     have hw:((w != 1) || (v == 1))=true:=by
      by_cases h1:w=1
      ·rw [vm h1]; simp
      ·rw [(bne_iff_ne).2 h1]; rfl
     rw [hw]
     exact leave_drop (H:=[]) rfl
    ·rw [if_neg h200]
     simp only [errA,go_sem]
     exact leave_drop (H:=[]) rfl
   ·rw [if_neg hab]
    simp only [errA,go_sem]
    exact leave_drop (H:=[]) rfl
 ·rw [if_neg he]
  simp only [e1,go_sem,hk.s,hl.s,hb.s]
  exact leave_same rfl
end Go.Proofs.Ytgfploghjpbcaaa.Eng

