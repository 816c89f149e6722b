/- Layer 14: verdicts: both sides. -/
import Derived.Test.YtgfploghjpbcaaaMKc
import Derived.Test.YtgfploghjpbcaaaMRv
import Derived.Test.YtgfploghjpbcaaaMFc
namespace Go.Proofs.Ytgfploghjpbcaaa.Eng
open Go Go.Proofs
set_option linter.unusedVariables false
set_option linter.unusedSimpArgs false
set_option maxRecDepth 10000
theorem openO_tkt {b:List UInt8} {t:Tkt} {r s:Nat} (h:openO b=some (t,r,s)):tktB t=true:=by
 unfold openO at h
 cases hp:partsO b with
 | none => rw [hp] at h; cases h
 | some p =>
  rw [hp] at h
  obtain ⟨body,r',s'⟩:=p
  have h:((numsO body 5).bind fun l => if tktB (tktOf l) then some (tktOf l,r',s') else none)=some (t,r,s):=h
  cases hn:numsO body 5 with
  | none => rw [hn] at h; cases h
  | some l =>
   rw [hn] at h
   have h:(if tktB (tktOf l) then some (tktOf l,r',s') else none)=some (t,r,s):=h
   split at h
   ·rename_i h2
    cases h; exact h2
   ·cases h
theorem checkN_tkt {b:List UInt8} {X Y:Nat} {f:Bool} (h:(checkN b X Y f).2=0):tktB (checkN b X Y f).1=true:=by
 unfold checkN at h ⊢
 split at h
 ·cases h
 ·rename_i t r s ho
  generalize verB X Y f (sha ((partsO b).getD ([],0,0)).1) r s=v at *
  cases v
  ·cases h
  ·exact openO_tkt ho
theorem kcheckN_tkt {l:List Key} {b:List UInt8} {m:Int} (h:(kcheckN l b m).2=0):tktB (kcheckN l b m).1=true:=by
 unfold kcheckN at h ⊢
 split at h
 ·cases h
 ·rename_i t r s ho
  split at h
  ·cases h
  ·rename_i k hk
   exact checkN_tkt h
noncomputable def verN (c:Tkt × Int) (r:List Rvk) (l:List Prd) (z m:Int):Int :=
 if c.2=2 then 2 else if c.2≠0 then 3 else if goneB r c.1.serial m then 4 else whyV l c.1 z m
theorem err_2 (n:Int):(n=0∧errO n=nilE)∨(n≠0∧errO n=.lit (.iface T.api_Code (.int .i64 n))):=by
 unfold errO
 split
 ·rename_i h; exact .inl ⟨h,rfl⟩
 ·rename_i h; exact .inr ⟨h,rfl⟩
section
variable {H:AH} {xk xr xl xb:AV} {k:List Key} {r:List Rvk} {l:List Prd} {b:List UInt8}
theorem t_Verdict (hk:Sl 12 H xk (kcs k) k.length) (ko:∀ p ∈ k,p.ok) (kn:k.length≤1000000) (hr:Sl 2 H xr (rcs r) r.length) (rn:r.length≤1000000) (hl:Sl 7 H xl (pcs l) l.length) (lo:∀ p ∈ l,p.ok∧p.few) (ln:l.length≤1000000) (hb:Sl 1 H xb (bs b) b.length) (bn:b.length≤100000) (z m:Int) :
  Called Try.prog F.fare_Verdict [xk,xr,xl,xb,I z,I m] H (if ((keysB k&&revB r)&&prdsB l)&&plcB z m then .tup [I (verN (kcheckN k b m) r l z m),nilE] else .tup [I 0,errA 1]) H:=by
 refine e_fare_Verdict ?_
 simp only [ic_fare_Verdict,go_sem,hk.s,hr.s,hl.s,hb.s]
 refine callW_some (t_kMay hk ko kn) (fun _ => rfl) ?_
 simp only [go_sem,hk.s,hr.s,hl.s,hb.s]
 refine callG_of (fun _ => t_rvMay hr rn) ?_
 simp only [go_sem,hk.s,hr.s,hl.s,hb.s]
 refine callG_of (fun _ => t_pMay hl lo ln) ?_
 simp only [go_sem,hk.s,hr.s,hl.s,hb.s]
 refine callG_of (fun _ => t_plc _ _ _) ?_
 simp only [go_sem,hk.s,hr.s,hl.s,hb.s]
 cases h1:keysB k
 ·simp only [go_sem]
  exact leave_same rfl
 cases h2:revB r
 ·simp only [go_sem]
  exact leave_same rfl
 cases h3:prdsB l
 ·simp only [go_sem]
  exact leave_same rfl
 cases h4:plcB z m
 ·simp only [go_sem]
  exact leave_same rfl
 simp only [go_sem,hk.s,hr.s,hl.s,hb.s]
 obtain ⟨b1,b2,b3,b4⟩:=plcB_from h4
 refine callW_some (t_kCheck hk ko kn hb bn m) (fun _ => rfl) ?_
 rw [h1,if_pos rfl]
 have kt:=@kcheckN_tkt k b m
 have ke:=kcheckN_err k b m
 generalize kcheckN k b m=c at *
 obtain ⟨t,n⟩:=c
 dsimp only at kt ke
 simp only [go_sem,hk.s,hr.s,hl.s,hb.s,e5,tk_one,tk_len,tk_spl,tk_take,un_err]
 refine callW_some (t_product hl.app lo ln t) (fun _ => rfl) ?_
 have hkk:At l t.product (kOf l t.product):=fst_at l t.product
 have hpk:=pOf_ok lo hkk
 have v1:=isv_len hpk.1.2.2.2.2.2.1
 have v2:=isv_len hpk.1.2.2.2.2.2.2
 have tt:0≤kOf l t.product→tktB t=true→∀ H,Called Try.prog F.fare_then [.agg (pOf l (kOf l t.product)).cells,.agg t.cells,I m] H (Bl (thenB (pOf l (kOf l t.product)) t m)) H:=fun h ht H => by
  obtain ⟨a1,a2,a3,a4⟩:=tktB_from ht
  have:1≤(pOf l (kOf l t.product)).mins∧(pOf l (kOf l t.product)).mins≤1048576∧mayB (pOf l (kOf l t.product)).s=true:=by
   rcases hkk with ⟨e,_⟩ | ⟨j,hj,e,_⟩
   ·omega
   ·rw [e,pOf,if_neg (by omega)]; exact prdsB_from h3 hj
  exact t_then t m H hpk.1 hpk.2 this.2.2 b3 b4 a1 a2 this.1 this.2.1
 have hw:whyV l t z m=if kOf l t.product<0 then 7 else if zoneB t.zones z=false then 5 else if thenB (pOf l (kOf l t.product)) t m=false then 6 else 1:=rfl
 have hv:verN (t,n) r l z m=if n=2 then 2 else if n≠0 then 3 else if goneB r t.serial m then 4 else whyV l t z m:=rfl
 rw [hv,hw]
 generalize kOf l t.product=kk at *
 generalize pOf l kk=p at *
 rcases err_2 n with ⟨rfl,en⟩ | ⟨hn0,en⟩
 ·rw [en]
  have ht:=kt rfl
  obtain ⟨a1,a2,a3,a4⟩:=tktB_from ht
  simp only [go_sem,hr.s,Prd.cells,v1,v2]
  refine callW_some (t_Is hr.app rn t.serial m) (fun _ => rfl) ?_
  rw [h2,Bool.true_and,if_neg (show ¬ (0:Int)=2 by decide),if_neg (show ¬ (0:Int)≠0 by decide)]
  simp only [go_sem,hr.s,tk_take]
  refine ⟨fun hg => ?_,fun hg => ?_⟩
  ·rw [if_pos hg]
   exact leave_drop rfl
  ·rw [if_neg (by rw [hg]; decide)]
   refine ⟨fun hk0 => ?_,fun hk0 => ?_⟩
   ·have hk0:kk<0:=by simpa using hk0
    rw [if_pos hk0]
    exact leave_drop rfl
   ·have hk0:0≤kk:=by simpa using hk0
    rw [if_neg (show ¬ kk<0 by omega)]
    refine callW_some (t_zone t z _ b1 b2 (by omega)) (fun _ => rfl) ?_
    simp only [go_sem,tk_take]
    refine ⟨fun hz => ?_,fun hz => ?_⟩
    ·rw [if_pos (by simpa using hz)]
     exact leave_drop rfl
    ·rw [if_neg (by simpa using hz)]
     refine callW_some (tt hk0 ht _) (fun _ => rfl) ?_
     simp only [go_sem]
     refine ⟨fun hh => ?_,fun hh => ?_⟩
     ·rw [if_pos (by simpa using hh)]
      exact leave_drop rfl
     ·rw [if_neg (by simpa using hh)]
      exact leave_drop rfl
 ·rw [en]
  have tc:(T.api_Code == T.api_Code)=true:=by simp
  simp only [go_sem,hr.s,Prd.cells,v1,v2]
  refine ⟨rfl,fun h => ?_,fun h => ?_⟩
  ·rw [tc,Bool.true_and,beq_iff_eq] at h
   rw [if_pos h]
   exact leave_drop rfl
  ·rw [tc,Bool.true_and,beq_eq_false_iff_ne] at h
   rw [if_neg h,if_pos hn0]
   exact leave_drop rfl
end
end Go.Proofs.Ytgfploghjpbcaaa.Eng

