/- What numbers, points, signatures, digests, bytes decode to. -/
import Derived.Test.YtgfploghjpbcaaaRows
import Derived.Test.YtgfploghjpbcaaaMPt
import Derived.Test.YtgfploghjpbcaaaME6
import Derived.Test.YtgfploghjpbcaaaMKy
import Derived.Test.YtgfploghjpbcaaaMFc
import Derived.Test.YtgfploghjpbcaaaMRv
namespace Go.Proofs.Ytgfploghjpbcaaa
open Go Go.ChangeShapes Go.WideShapes Go.ChangeAt Go.RowKit Go.Proofs.Ytgfploghjpbcaaa.Eng
set_option linter.unusedVariables false
theorem map_list {α:Type} {f:α→List AV} {Q:α→Prop}:∀ {els:List (List AV)},(∀ y ∈ els,∃ a,y=f a∧Q a)→∃ l:List α,els=l.map f∧∀ a ∈ l,Q a
 | [],_ => ⟨[],rfl,fun a h => by cases h⟩
 | y::els,h => by
  obtain ⟨a,rfl,ha⟩:=h y (by simp)
  obtain ⟨l,rfl,hl⟩:=map_list (els:=els) fun z hz => h z (by simp [hz])
  refine ⟨a::l,rfl,fun b hb => ?_⟩
  rcases List.mem_cons.1 hb with rfl | hb
  ·exact ha
  ·exact hl b hb
theorem u64_of {n:Int} (h:(Lit.int .u64 n).wf=true):∃ m:Nat,n=m∧m<18446744073709551616:=by
 simp [Lit.wf,IntKind.min,IntKind.max,IntKind.signed,IntKind.bits] at h
 exact ⟨n.toNat,by omega,by omega⟩
set_option maxRecDepth 100000 in
theorem dec_num {d:Nat} {x:List AV} (h:Eng.shape Try.prog (d+2) 24 x):∃ n:Nat,x=num n∧n<18446744073709551616^4:=by
 obtain ⟨els,rfl,h1,h2⟩:=shape_array Try.underlying24 h
 obtain ⟨l,rfl,hl⟩:=map_list (f:=fun m:Nat => [W m]) (Q:=fun m => m<18446744073709551616) fun y hy => by
  obtain ⟨n,rfl,w⟩:=shape_int Try.underlying22 (h2 y hy).2
  obtain ⟨m,rfl,hm⟩:=u64_of w
  exact ⟨m,rfl,hm⟩
 rw [List.length_map] at h1
 have e:=dig_val (B:=18446744073709551616) (by decide) l hl
 rw [h1] at e
 have hv:=val_lt (B:=18446744073709551616) (by decide) l hl
 rw [h1] at hv
 refine ⟨val 18446744073709551616 l,?_,hv⟩
 show _=(dig 18446744073709551616 4 (val 18446744073709551616 l)).map W
 rw [e]
 clear e hv hl h1 h2 h
 induction l with
 | nil => rfl
 | cons a r ih => rw [List.map_cons,List.flatten_cons,ih]; rfl
set_option maxRecDepth 100000 in
theorem dec_pt {d:Nat} {x:List AV} (h:Eng.shape Try.prog (d+4) 38 x):∃ a b f,x=pcell a b f∧a<18446744073709551616^4∧b<18446744073709551616^4:=by
 have h:=shape_struct Try.underlying38 h
 obtain ⟨x1,r1,rfl,_,h1,x2,r2,rfl,_,h2,x3,r3,rfl,_,h3,rfl⟩:=h
 obtain ⟨a,rfl,ha⟩:=dec_num h1
 obtain ⟨b,rfl,hb⟩:=dec_num h2
 obtain ⟨f,rfl⟩:=shape_bool Try.underlying4 h3
 exact ⟨a,b,f,by simp only [pcell,List.cons_append,List.nil_append],ha,hb⟩
set_option maxRecDepth 100000 in
theorem dec_bs {d:Nat} {x:List AV} (h:Eng.shape Try.prog (d+2) 27 x):∃ (l:List UInt8) (f:Bool),x=[vB l f]∧l.length≤140737488351232:=dec_bytes Try.underlying27 Try.underlying5 (by kernel_rfl) h
set_option maxRecDepth 100000 in
theorem dec_key {d:Nat} {x:List AV} (h:Eng.shape Try.prog (d+5) 117 x):∃ k:Key,x=k.cells∧k.ok:=by
 have h:=shape_struct Try.underlying117 h
 obtain ⟨y1,s1,rfl,_,g1,y2,s2,rfl,_,g2,y3,s3,rfl,_,g3,y4,s4,rfl,_,g4,rfl⟩:=h
 obtain ⟨i1,rfl,z1⟩:=shape_int Try.underlying3 g1
 obtain ⟨i3,rfl,z3⟩:=shape_int Try.underlying3 g3
 obtain ⟨i4,rfl,z4⟩:=shape_int Try.underlying3 g4
 obtain ⟨a,b,f,rfl,ha,hb⟩:=dec_pt g2
 refine ⟨⟨i1,a,b,f,i3,i4⟩,?_,ok64_of z1,ha,hb,ok64_of z3,ok64_of z4⟩
 simp only [Key.cells,List.cons_append,List.nil_append]
set_option maxRecDepth 100000 in
theorem dec_keys {d:Nat} {x:List AV} (h:Eng.shape Try.prog (d+6) 54 x):∃ (l:List Key) (f:Bool),x=[.view (kcs l) l.length f]∧(∀ p ∈ l,p.ok)∧l.length≤140737488355328:=by
 obtain ⟨els,full,rfl,h1,h2⟩:=shape_slice Try.underlying54 h
 obtain ⟨l,rfl,hl⟩:=map_list (f:=Key.cells) (Q:=Key.ok) fun y hy => dec_key (h2 y hy).2
 have hb:Try.prog.bytesOf 117=96:=by kernel_rfl
 rw [hb,List.length_map] at h1
 refine ⟨l,full,by rw [List.length_map,kcs,List.flatMap_def],hl,?_⟩
 have:reachBytes≤140737488355328:=by decide
 omega
theorem keys_sl (l:List Key) (f:Bool):Sl 12 [] (.view (kcs l) l.length f) (kcs l) l.length:=by
 refine .view ?_ f
 induction l with
 | nil => rfl
 | cons a r ih => rw [kcs,List.flatMap_cons,List.length_append,ih,Key.len,List.length_cons]; omega
set_option maxRecDepth 100000 in
theorem dec_ints {d:Nat} {x:List AV} (h:Eng.shape Try.prog (d+2) 95 x):∃ l f,x=[vI l f]:=by
 obtain ⟨els,full,rfl,h1,h2⟩:=shape_slice Try.underlying95 h
 obtain ⟨l,e1,e2⟩:=one_list' (f:=I) (fun y hy => (h2 y hy).2) fun y hy => by
  obtain ⟨n,rfl,w⟩:=shape_int Try.underlying3 hy
  exact ⟨n,rfl⟩
 exact ⟨l,full,by rw [e1,← e2]; rfl⟩
set_option maxRecDepth 100000 in
theorem dec_prd {d:Nat} {x:List AV} (h:Eng.shape Try.prog (d+4) 133 x):∃ p:Prd,x=p.cells∧p.ok:=by
 have h:=shape_struct Try.underlying133 h
 obtain ⟨y1,s1,rfl,_,g1,y2,s2,rfl,_,g2,y3,s3,rfl,_,g3,rfl⟩:=h
 obtain ⟨i1,rfl,z1⟩:=shape_int Try.underlying3 g1
 obtain ⟨i2,rfl,z2⟩:=shape_int Try.underlying3 g2
 have h:=shape_struct Try.underlying131 g3
 obtain ⟨x1,r1,rfl,_,h1,x2,r2,rfl,_,h2,x3,r3,rfl,_,h3,x4,r4,rfl,_,h4,x5,r5,rfl,_,h5,rfl⟩:=h
 obtain ⟨n1,rfl,w1⟩:=shape_int Try.underlying3 h1
 obtain ⟨n2,rfl,w2⟩:=shape_int Try.underlying3 h2
 obtain ⟨n3,rfl,w3⟩:=shape_int Try.underlying3 h3
 obtain ⟨l4,f,rfl⟩:=dec_ints h4
 obtain ⟨l5,g,rfl⟩:=dec_ints h5
 exact ⟨⟨i1,i2,⟨n1,n2,n3,l4,l5⟩,vI l4 f,vI l5 g⟩,rfl,ok64_of z1,ok64_of z2,ok64_of w1,ok64_of w2,ok64_of w3,.inl ⟨f,rfl⟩,.inl ⟨g,rfl⟩⟩
set_option maxRecDepth 100000 in
theorem dec_prds {d:Nat} {x:List AV} (h:Eng.shape Try.prog (d+5) 71 x):∃ (l:List Prd) (f:Bool),x=[.view (pcs l) l.length f]∧(∀ p ∈ l,p.ok)∧l.length≤140737488355328:=by
 obtain ⟨els,full,rfl,h1,h2⟩:=shape_slice Try.underlying71 h
 obtain ⟨l,rfl,hl⟩:=map_list (f:=Prd.cells) (Q:=Prd.ok) fun y hy => dec_prd (h2 y hy).2
 have hb:Try.prog.bytesOf 133=88:=by kernel_rfl
 rw [hb,List.length_map] at h1
 refine ⟨l,full,by rw [List.length_map,pcs,List.flatMap_def],hl,?_⟩
 have:reachBytes≤140737488355328:=by decide
 omega
theorem prds_sl (l:List Prd) (f:Bool):Sl 7 [] (.view (pcs l) l.length f) (pcs l) l.length:=by
 refine .view ?_ f
 induction l with
 | nil => rfl
 | cons a r ih => rw [pcs,List.flatMap_cons,List.length_append,ih,Prd.len,List.length_cons]; omega
set_option maxRecDepth 100000 in
theorem dec_rv {d:Nat} {x:List AV} (h:Eng.shape Try.prog (d+2) 142 x):∃ r:Rvk,x=r.cells∧True:=by
 have h:=shape_struct Try.underlying142 h
 obtain ⟨x1,r1,rfl,_,h1,x2,r2,rfl,_,h2,rfl⟩:=h
 obtain ⟨n1,rfl,w1⟩:=shape_int Try.underlying3 h1
 obtain ⟨n2,rfl,w2⟩:=shape_int Try.underlying3 h2
 exact ⟨⟨n1,n2⟩,rfl,trivial⟩
set_option maxRecDepth 100000 in
theorem dec_rvs {d:Nat} {x:List AV} (h:Eng.shape Try.prog (d+3) 70 x):∃ (l:List Rvk) (f:Bool),x=[.view (rcs l) l.length f]:=by
 obtain ⟨els,full,rfl,h1,h2⟩:=shape_slice Try.underlying70 h
 obtain ⟨l,rfl,hl⟩:=map_list (f:=Rvk.cells) (Q:=fun _ => True) fun y hy => dec_rv (h2 y hy).2
 exact ⟨l,full,by rw [List.length_map,rcs,List.flatMap_def]⟩
end Go.Proofs.Ytgfploghjpbcaaa

