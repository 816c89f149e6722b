/- What numbers, points, signatures, digests, bytes decode to. -/
import Derived.Test.YtcgjlpdkobmpnaaGreatRows
import Derived.Test.YtcgjlpdkobmpnaaGreatMPt
import Derived.Test.YtcgjlpdkobmpnaaGreatME6
import Derived.Test.YtcgjlpdkobmpnaaGreatMTr
import Derived.Test.YtcgjlpdkobmpnaaGreatMFc
namespace Go.Proofs.YtcgjlpdkobmpnaaGreat
open Go Go.ChangeShapes Go.WideShapes Go.ChangeAt Go.RowKit Go.Proofs.YtcgjlpdkobmpnaaGreat.Eng
set_option linter.unusedVariables false
theorem Mu {α:Type} {f:α→List AV} {Q:α→Prop}:∀ {els:List (List AV)},(∀ y ∈ els,∃ a,y=f a∧Q a)→∃ l:List α,els=l.map f∧∀ a ∈ l,Q a
 | [],_ => ⟨[],rfl,fun a h => by cases h⟩
 | y::els,h => by
  obtain ⟨a,rfl,ha⟩:=h y (by simp)
  obtain ⟨l,rfl,hl⟩:=Mu (els:=els) fun z hz => h z (by simp [hz])
  refine ⟨a::l,rfl,fun b hb => ?_⟩
  rcases List.mem_cons.1 hb with rfl | hb
  ·exact ha
  ·exact hl b hb
theorem Z0c {n:Int} (h:(Lit.int .u64 n).wf=true):∃ m:Nat,n=m∧m<18446744073709551616:=by
 simp [Lit.wf,IntKind.min,IntKind.max,IntKind.signed,IntKind.bits] at h
 exact ⟨n.toNat,by omega,by omega⟩
set_option maxRecDepth 100000 in
theorem Zn4 {d:Nat} {x:List AV} (h:Eng.shape Tryz.prog (d+2) 53 x):∃ n:Nat,x=num n∧n<18446744073709551616^4:=by
 obtain ⟨els,rfl,h1,h2⟩:=Zbt Tryz.underlying53 h
 obtain ⟨l,rfl,hl⟩:=Mu (f:=fun m:Nat => [W m]) (Q:=fun m => m<18446744073709551616) fun y hy => by
  obtain ⟨n,rfl,w⟩:=Xg Tryz.underlying51 (h2 y hy).2
  obtain ⟨m,rfl,hm⟩:=Z0c w
  exact ⟨m,rfl,hm⟩
 rw [List.length_map] at h1
 have e:=Zc8 (B:=18446744073709551616) (by decide) l hl
 rw [h1] at e
 have hv:=Ztl (B:=18446744073709551616) (by decide) l hl
 rw [h1] at hv
 refine ⟨val 18446744073709551616 l,?_,hv⟩
 show _=(dig 18446744073709551616 4 (val 18446744073709551616 l)).map W
 rw [e]
 clear e hv hl h1 h2 h
 induction l with
 | nil => rfl
 | cons a r ih => rw [List.map_cons,List.flatten_cons,ih]; rfl
set_option maxRecDepth 100000 in
theorem Z3f {d:Nat} {x:List AV} (h:Eng.shape Tryz.prog (d+4) 69 x):∃ a b f,x=pcell a b f∧a<18446744073709551616^4∧b<18446744073709551616^4:=by
 have h:=Vb Tryz.underlying69 h
 obtain ⟨x1,r1,rfl,_,h1,x2,r2,rfl,_,h2,x3,r3,rfl,_,h3,rfl⟩:=h
 obtain ⟨a,rfl,ha⟩:=Zn4 h1
 obtain ⟨b,rfl,hb⟩:=Zn4 h2
 obtain ⟨f,rfl⟩:=Zgm Tryz.underlying4 h3
 exact ⟨a,b,f,by simp only [pcell,List.cons_append,List.nil_append],ha,hb⟩
set_option maxRecDepth 100000 in
theorem Z3g {d:Nat} {x:List AV} (h:Eng.shape Tryz.prog (d+2) 37 x):∃ (l:List UInt8) (f:Bool),x=[vB l f]∧l.length≤140737488351232:=Zn5 Tryz.underlying37 Tryz.underlying5 (by kernel_rfl) h
set_option maxRecDepth 100000 in
theorem Zyg {d:Nat} {x:List AV} (h:Eng.shape Tryz.prog (d+5) 165 x):∃ k:Key,x=k.cells∧k.ok:=by
 have h:=Vb Tryz.underlying165 h
 obtain ⟨y1,s1,rfl,_,g1,y2,s2,rfl,_,g2,y3,s3,rfl,_,g3,y4,s4,rfl,_,g4,rfl⟩:=h
 obtain ⟨i1,rfl,z1⟩:=Xg Tryz.underlying3 g1
 obtain ⟨i3,rfl,z3⟩:=Xg Tryz.underlying3 g3
 obtain ⟨i4,rfl,z4⟩:=Xg Tryz.underlying3 g4
 obtain ⟨a,b,f,rfl,ha,hb⟩:=Z3f g2
 refine ⟨⟨i1,a,b,f,i3,i4⟩,?_,Q6 z1,ha,hb,Q6 z3,Q6 z4⟩
 simp only [Key.cells,List.cons_append,List.nil_append]
set_option maxRecDepth 100000 in
theorem Zsb {d:Nat} {x:List AV} (h:Eng.shape Tryz.prog (d+6) 22 x):∃ (l:List Key) (f:Bool),x=[.view (kcs l) l.length f]∧(∀ p ∈ l,p.ok)∧l.length≤140737488355328:=by
 obtain ⟨els,full,rfl,h1,h2⟩:=U9 Tryz.underlying22 h
 obtain ⟨l,rfl,hl⟩:=Mu (f:=Key.cells) (Q:=Key.ok) fun y hy => Zyg (h2 y hy).2
 have hb:Tryz.prog.bytesOf 165=96:=by kernel_rfl
 rw [hb,List.length_map] at h1
 refine ⟨l,full,by rw [List.length_map,kcs,List.flatMap_def],hl,?_⟩
 have:reachBytes≤140737488355328:=by decide
 omega
set_option maxRecDepth 100000 in
theorem Zfp {d:Nat} {x:List AV} (h:Eng.shape Tryz.prog (d+2) 170 x):∃ l f,x=[vI l f]:=by
 obtain ⟨els,full,rfl,h1,h2⟩:=U9 Tryz.underlying170 h
 obtain ⟨l,e1,e2⟩:=B3 (f:=I) (fun y hy => (h2 y hy).2) fun y hy => by
  obtain ⟨n,rfl,w⟩:=Xg Tryz.underlying3 hy
  exact ⟨n,rfl⟩
 exact ⟨l,full,by rw [e1,← e2]; rfl⟩
set_option maxRecDepth 100000 in
theorem Zyf {d:Nat} {x:List AV} (h:Eng.shape Tryz.prog (d+4) 174 x):∃ p:Prd,x=p.cells∧p.ok:=by
 have h:=Vb Tryz.underlying174 h
 obtain ⟨y1,s1,rfl,_,g1,y2,s2,rfl,_,g2,y3,s3,rfl,_,g3,rfl⟩:=h
 obtain ⟨i1,rfl,z1⟩:=Xg Tryz.underlying3 g1
 obtain ⟨i2,rfl,z2⟩:=Xg Tryz.underlying3 g2
 have h:=Vb Tryz.underlying172 g3
 obtain ⟨x1,r1,rfl,_,h1,x2,r2,rfl,_,h2,x3,r3,rfl,_,h3,x4,r4,rfl,_,h4,x5,r5,rfl,_,h5,rfl⟩:=h
 obtain ⟨n1,rfl,w1⟩:=Xg Tryz.underlying3 h1
 obtain ⟨n2,rfl,w2⟩:=Xg Tryz.underlying3 h2
 obtain ⟨n3,rfl,w3⟩:=Xg Tryz.underlying3 h3
 obtain ⟨l4,f,rfl⟩:=Zfp h4
 obtain ⟨l5,g,rfl⟩:=Zfp h5
 exact ⟨⟨i1,i2,⟨n1,n2,n3,l4,l5⟩,vI l4 f,vI l5 g⟩,rfl,Q6 z1,Q6 z2,Q6 w1,Q6 w2,Q6 w3,.inl ⟨f,rfl⟩,.inl ⟨g,rfl⟩⟩
set_option maxRecDepth 100000 in
theorem Zsa {d:Nat} {x:List AV} (h:Eng.shape Tryz.prog (d+5) 24 x):∃ (l:List Prd) (f:Bool),x=[.view (pcs l) l.length f]∧(∀ p ∈ l,p.ok)∧l.length≤140737488355328:=by
 obtain ⟨els,full,rfl,h1,h2⟩:=U9 Tryz.underlying24 h
 obtain ⟨l,rfl,hl⟩:=Mu (f:=Prd.cells) (Q:=Prd.ok) fun y hy => Zyf (h2 y hy).2
 have hb:Tryz.prog.bytesOf 174=88:=by kernel_rfl
 rw [hb,List.length_map] at h1
 refine ⟨l,full,by rw [List.length_map,pcs,List.flatMap_def],hl,?_⟩
 have:reachBytes≤140737488355328:=by decide
 omega
set_option maxRecDepth 100000 in
theorem Z3e {d:Nat} {x:List AV} (h:Eng.shape Tryz.prog (d+2) 168 x):∃ r:Rvk,x=r.cells∧True:=by
 have h:=Vb Tryz.underlying168 h
 obtain ⟨x1,r1,rfl,_,h1,x2,r2,rfl,_,h2,rfl⟩:=h
 obtain ⟨n1,rfl,w1⟩:=Xg Tryz.underlying3 h1
 obtain ⟨n2,rfl,w2⟩:=Xg Tryz.underlying3 h2
 exact ⟨⟨n1,n2⟩,rfl,trivial⟩
set_option maxRecDepth 100000 in
theorem Zye {d:Nat} {x:List AV} (h:Eng.shape Tryz.prog (d+3) 23 x):∃ (l:List Rvk) (f:Bool),x=[.view (rcs l) l.length f]:=by
 obtain ⟨els,full,rfl,h1,h2⟩:=U9 Tryz.underlying23 h
 obtain ⟨l,rfl,hl⟩:=Mu (f:=Rvk.cells) (Q:=fun _ => True) fun y hy => Z3e (h2 y hy).2
 exact ⟨l,full,by rw [List.length_map,rcs,List.flatMap_def]⟩
set_option maxRecDepth 100000 in
theorem Zfq {d:Nat} {x:List AV} (h:Eng.shape Tryz.prog (d+7) 26 x):∃ (K:List Key) (R:List Rvk) (P:List Prd) (f g e:Bool),x=[.view (kcs K) K.length f,.view (rcs R) R.length g,.view (pcs P) P.length e]∧(∀ p ∈ K,p.ok)∧(∀ p ∈ P,p.ok)∧P.length≤140737488355328:=by
 have h:=Vb Tryz.underlying26 h
 obtain ⟨y1,s1,rfl,_,g1,y2,s2,rfl,_,g2,y3,s3,rfl,_,g3,rfl⟩:=h
 obtain ⟨k,f1,rfl,ko,kn⟩:=Zsb (d:=d) g1
 obtain ⟨r,f2,rfl⟩:=Zye (d:=d+3) g2
 obtain ⟨l,f3,rfl,lo,ln⟩:=Zsa (d:=d+1) g3
 exact ⟨k,r,l,f1,f2,f3,rfl,ko,lo,ln⟩
theorem Zfa (l:List Key) (f:Bool) (G:AH):Sl 12 G (.view (kcs l) l.length f) (kcs l) l.length:=by
 refine .view ?_ f
 induction l with
 | nil => rfl
 | cons a r ih => rw [kcs,List.flatMap_cons,List.length_append,ih,Key.len,List.length_cons]; omega
theorem Zeu (l:List Prd) (f:Bool) (G:AH):Sl 7 G (.view (pcs l) l.length f) (pcs l) l.length:=by
 refine .view ?_ f
 induction l with
 | nil => rfl
 | cons a r ih => rw [pcs,List.flatMap_cons,List.length_append,ih,Prd.len,List.length_cons]; omega
theorem Zkq (l:List Rvk) (f:Bool) (G:AH):Sl 2 G (.view (rcs l) l.length f) (rcs l) l.length:=by
 refine .view ?_ f
 induction l with
 | nil => rfl
 | cons a r ih => rw [rcs,List.flatMap_cons,List.length_append,ih,Rvk.len,List.length_cons]; omega
end Go.Proofs.YtcgjlpdkobmpnaaGreat

