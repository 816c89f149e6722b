/- What numbers, points, signatures, digests, bytes decode to. -/
import Derived.Test.YtcgjlpdkobmpnaaGreatRows
import Derived.Test.YtcgjlpdkobmpnaaGreatMPt
import Derived.Test.YtcgjlpdkobmpnaaGreatME6
import Derived.Test.YtcgjlpdkobmpnaaGreatMKy
import Derived.Test.YtcgjlpdkobmpnaaGreatMRc
import Derived.Test.YtcgjlpdkobmpnaaGreatMFy
namespace Go.Proofs.YtcgjlpdkobmpnaaGreat
open Go Go.ChangeShapes Go.WideShapes Go.ChangeAt Go.RowKit Go.Proofs.YtcgjlpdkobmpnaaGreat.Eng
set_option linter.unusedVariables false
theorem Uo {α:Type} {f:α→List AV} {Q:α→Prop}:∀ {els:List (List AV)},(∀ y ∈ els,∃ a,y=f a∧Q a)→∃ l:List α,els=l.map f∧∀ a ∈ l,Q a
 | [],_ => ⟨[],rfl,fun a h => by cases h⟩
 | y::els,h => by
  obtain ⟨a,rfl,ha⟩:=h y (by simp)
  obtain ⟨l,rfl,hl⟩:=Uo (els:=els) fun z hz => h z (by simp [hz])
  refine ⟨a::l,rfl,fun b hb => ?_⟩
  rcases List.mem_cons.1 hb with rfl | hb
  ·exact ha
  ·exact hl b hb
theorem Zzr {n:Int} (h:(Lit.int .u64 n).wf=true):∃ m:Nat,n=m∧m<18446744073709551616:=by
 simp [Lit.wf,IntKind.min,IntKind.max,IntKind.signed,IntKind.bits] at h
 exact ⟨n.toNat,by omega,by omega⟩
set_option maxRecDepth 100000 in
theorem Zni {d:Nat} {x:List AV} (h:Eng.shape Tryz.prog (d+2) 53 x):∃ n:Nat,x=num n∧n<18446744073709551616^4:=by
 obtain ⟨els,rfl,h1,h2⟩:=Zbo Tryz.underlying53 h
 obtain ⟨l,rfl,hl⟩:=Uo (f:=fun m:Nat => [W m]) (Q:=fun m => m<18446744073709551616) fun y hy => by
  obtain ⟨n,rfl,w⟩:=Ya Tryz.underlying51 (h2 y hy).2
  obtain ⟨m,rfl,hm⟩:=Zzr w
  exact ⟨m,rfl,hm⟩
 rw [List.length_map] at h1
 have e:=Zda (B:=18446744073709551616) (by decide) l hl
 rw [h1] at e
 have hv:=Zs8 (B:=18446744073709551616) (by decide) l hl
 rw [h1] at hv
 refine ⟨val 18446744073709551616 l,?_,hv⟩
 show _=(dig 18446744073709551616 4 (val 18446744073709551616 l)).map W
 rw [e]
 clear e hv hl h1 h2 h
 induction l with
 | nil => rfl
 | cons a r ih => rw [List.map_cons,List.flatten_cons,ih]; rfl
set_option maxRecDepth 100000 in
theorem Z23 {d:Nat} {x:List AV} (h:Eng.shape Tryz.prog (d+4) 69 x):∃ a b f,x=pcell a b f∧a<18446744073709551616^4∧b<18446744073709551616^4:=by
 have h:=Yy Tryz.underlying69 h
 obtain ⟨x1,r1,rfl,_,h1,x2,r2,rfl,_,h2,x3,r3,rfl,_,h3,rfl⟩:=h
 obtain ⟨a,rfl,ha⟩:=Zni h1
 obtain ⟨b,rfl,hb⟩:=Zni h2
 obtain ⟨f,rfl⟩:=Fu Tryz.underlying4 h3
 exact ⟨a,b,f,by simp only [pcell,List.cons_append,List.nil_append],ha,hb⟩
set_option maxRecDepth 100000 in
theorem Z25 {d:Nat} {x:List AV} (h:Eng.shape Tryz.prog (d+2) 37 x):∃ (l:List UInt8) (f:Bool),x=[vB l f]∧l.length≤140737488351232:=Zai Tryz.underlying37 Tryz.underlying5 (by kernel_rfl) h
set_option maxRecDepth 100000 in
theorem Zx2 {d:Nat} {x:List AV} (h:Eng.shape Tryz.prog (d+5) 165 x):∃ k:Key,x=k.cells∧k.ok:=by
 have h:=Yy Tryz.underlying165 h
 obtain ⟨y1,s1,rfl,_,g1,y2,s2,rfl,_,g2,y3,s3,rfl,_,g3,y4,s4,rfl,_,g4,rfl⟩:=h
 obtain ⟨i1,rfl,z1⟩:=Ya Tryz.underlying3 g1
 obtain ⟨i3,rfl,z3⟩:=Ya Tryz.underlying3 g3
 obtain ⟨i4,rfl,z4⟩:=Ya Tryz.underlying3 g4
 obtain ⟨a,b,f,rfl,ha,hb⟩:=Z23 g2
 refine ⟨⟨i1,a,b,f,i3,i4⟩,?_,Wy z1,ha,hb,Wy z3,Wy z4⟩
 simp only [Key.cells,List.cons_append,List.nil_append]
set_option maxRecDepth 100000 in
theorem Zfh {d:Nat} {x:List AV} (h:Eng.shape Tryz.prog (d+6) 22 x):∃ (l:List Key) (f:Bool),x=[.view (kcs l) l.length f]∧(∀ p ∈ l,p.ok)∧l.length≤140737488355328:=by
 obtain ⟨els,full,rfl,h1,h2⟩:=Wb Tryz.underlying22 h
 obtain ⟨l,rfl,hl⟩:=Uo (f:=Key.cells) (Q:=Key.ok) fun y hy => Zx2 (h2 y hy).2
 have hb:Tryz.prog.bytesOf 165=96:=by kernel_rfl
 rw [hb,List.length_map] at h1
 refine ⟨l,full,by rw [List.length_map,kcs,List.flatMap_def],hl,?_⟩
 have:reachBytes≤140737488355328:=by decide
 omega
theorem Zll (l:List Key) (f:Bool):Sl 12 [] (.view (kcs l) l.length f) (kcs l) l.length:=by
 refine .view ?_ f
 induction l with
 | nil => rfl
 | cons a r ih => rw [kcs,List.flatMap_cons,List.length_append,ih,Key.len,List.length_cons]; omega
set_option maxRecDepth 100000 in
theorem J5 {d:Nat} {x:List AV} (h:Eng.shape Tryz.prog (d+2) 170 x):∃ l f,x=[vI l f]:=by
 obtain ⟨els,full,rfl,h1,h2⟩:=Wb Tryz.underlying170 h
 obtain ⟨l,e1,e2⟩:=B4 (f:=I) (fun y hy => (h2 y hy).2) fun y hy => by
  obtain ⟨n,rfl,w⟩:=Ya Tryz.underlying3 hy
  exact ⟨n,rfl⟩
 exact ⟨l,full,by rw [e1,← e2]; rfl⟩
set_option maxRecDepth 100000 in
theorem Zx0 {d:Nat} {x:List AV} (h:Eng.shape Tryz.prog (d+4) 174 x):∃ p:Prd,x=p.cells∧p.ok:=by
 have h:=Yy Tryz.underlying174 h
 obtain ⟨y1,s1,rfl,_,g1,y2,s2,rfl,_,g2,y3,s3,rfl,_,g3,rfl⟩:=h
 obtain ⟨i1,rfl,z1⟩:=Ya Tryz.underlying3 g1
 obtain ⟨i2,rfl,z2⟩:=Ya Tryz.underlying3 g2
 have h:=Yy Tryz.underlying172 g3
 obtain ⟨x1,r1,rfl,_,h1,x2,r2,rfl,_,h2,x3,r3,rfl,_,h3,x4,r4,rfl,_,h4,x5,r5,rfl,_,h5,rfl⟩:=h
 obtain ⟨n1,rfl,w1⟩:=Ya Tryz.underlying3 h1
 obtain ⟨n2,rfl,w2⟩:=Ya Tryz.underlying3 h2
 obtain ⟨n3,rfl,w3⟩:=Ya Tryz.underlying3 h3
 obtain ⟨l4,f,rfl⟩:=J5 h4
 obtain ⟨l5,g,rfl⟩:=J5 h5
 exact ⟨⟨i1,i2,⟨n1,n2,n3,l4,l5⟩,vI l4 f,vI l5 g⟩,rfl,Wy z1,Wy z2,Wy w1,Wy w2,Wy w3,.inl ⟨f,rfl⟩,.inl ⟨g,rfl⟩⟩
set_option maxRecDepth 100000 in
theorem Zry {d:Nat} {x:List AV} (h:Eng.shape Tryz.prog (d+5) 24 x):∃ (l:List Prd) (f:Bool),x=[.view (pcs l) l.length f]∧(∀ p ∈ l,p.ok)∧l.length≤140737488355328:=by
 obtain ⟨els,full,rfl,h1,h2⟩:=Wb Tryz.underlying24 h
 obtain ⟨l,rfl,hl⟩:=Uo (f:=Prd.cells) (Q:=Prd.ok) fun y hy => Zx0 (h2 y hy).2
 have hb:Tryz.prog.bytesOf 174=88:=by kernel_rfl
 rw [hb,List.length_map] at h1
 refine ⟨l,full,by rw [List.length_map,pcs,List.flatMap_def],hl,?_⟩
 have:reachBytes≤140737488355328:=by decide
 omega
theorem Zwc (l:List Prd) (f:Bool):Sl 7 [] (.view (pcs l) l.length f) (pcs l) l.length:=by
 refine .view ?_ f
 induction l with
 | nil => rfl
 | cons a r ih => rw [pcs,List.flatMap_cons,List.length_append,ih,Prd.len,List.length_cons]; omega
set_option maxRecDepth 100000 in
theorem Z22 {d:Nat} {x:List AV} (h:Eng.shape Tryz.prog (d+2) 168 x):∃ r:Rvk,x=r.cells∧True:=by
 have h:=Yy Tryz.underlying168 h
 obtain ⟨x1,r1,rfl,_,h1,x2,r2,rfl,_,h2,rfl⟩:=h
 obtain ⟨n1,rfl,w1⟩:=Ya Tryz.underlying3 h1
 obtain ⟨n2,rfl,w2⟩:=Ya Tryz.underlying3 h2
 exact ⟨⟨n1,n2⟩,rfl,trivial⟩
set_option maxRecDepth 100000 in
theorem Znf {d:Nat} {x:List AV} (h:Eng.shape Tryz.prog (d+3) 23 x):∃ (l:List Rvk) (f:Bool),x=[.view (rcs l) l.length f]:=by
 obtain ⟨els,full,rfl,h1,h2⟩:=Wb Tryz.underlying23 h
 obtain ⟨l,rfl,hl⟩:=Uo (f:=Rvk.cells) (Q:=fun _ => True) fun y hy => Z22 (h2 y hy).2
 exact ⟨l,full,by rw [List.length_map,rcs,List.flatMap_def]⟩
theorem Z05 (l:List Rvk) (f:Bool):Sl 2 [] (.view (rcs l) l.length f) (rcs l) l.length:=by
 refine .view ?_ f
 induction l with
 | nil => rfl
 | cons a r ih => rw [rcs,List.flatMap_cons,List.length_append,ih,Rvk.len,List.length_cons]; omega
set_option maxRecDepth 100000 in
theorem Z21 {d:Nat} {x:List AV} (h:Eng.shape Tryz.prog (d+3) 172 x):∃ p:Sv,x=p.cells∧p.ok:=by
 have h:=Yy Tryz.underlying172 h
 obtain ⟨x1,r1,rfl,_,h1,x2,r2,rfl,_,h2,x3,r3,rfl,_,h3,x4,r4,rfl,_,h4,x5,r5,rfl,_,h5,rfl⟩:=h
 obtain ⟨n1,rfl,w1⟩:=Ya Tryz.underlying3 h1
 obtain ⟨n2,rfl,w2⟩:=Ya Tryz.underlying3 h2
 obtain ⟨n3,rfl,w3⟩:=Ya Tryz.underlying3 h3
 obtain ⟨l4,f,rfl⟩:=J5 h4
 obtain ⟨l5,g,rfl⟩:=J5 h5
 exact ⟨⟨⟨n1,n2,n3,l4,l5⟩,vI l4 f,vI l5 g⟩,rfl,Wy w1,Wy w2,Wy w3,.inl ⟨f,rfl⟩,.inl ⟨g,rfl⟩⟩
set_option maxRecDepth 100000 in
theorem Z24 {d:Nat} {x:List AV} (h:Eng.shape Tryz.prog (d+3) 244 x):∃ c:Cn,x=c.cells∧c.ok:=by
 have h:=Yy Tryz.underlying244 h
 obtain ⟨x1,r1,rfl,_,h1,x2,r2,rfl,_,h2,x3,r3,rfl,_,h3,x4,r4,rfl,_,h4,x5,r5,rfl,_,h5,rfl⟩:=h
 obtain ⟨n1,rfl,w1⟩:=Ya Tryz.underlying3 h1
 obtain ⟨n2,rfl,w2⟩:=Ya Tryz.underlying3 h2
 obtain ⟨n3,rfl,w3⟩:=Ya Tryz.underlying3 h3
 obtain ⟨n4,rfl,w4⟩:=Ya Tryz.underlying3 h4
 obtain ⟨n5,rfl,w5⟩:=Ya Tryz.underlying3 h5
 exact ⟨⟨n1,n2,n3,n4,n5⟩,rfl,Wy w1,Wy w2,Wy w3,Wy w4,Wy w5⟩
theorem Z0x (l:List Sv) (f:Bool) (H:AH):Sl 5 H (.view (svcs l) l.length f) (svcs l) l.length:=by
 refine .view ?_ f
 induction l with
 | nil => rfl
 | cons a r ih => rw [svcs,List.flatMap_cons,List.length_append,ih,Sv.len,List.length_cons]; omega
theorem Z29 (l:List Cn) (f:Bool) (H:AH):Sl 5 H (.view (cncs l) l.length f) (cncs l) l.length:=by
 refine .view ?_ f
 induction l with
 | nil => rfl
 | cons a r ih => rw [cncs,List.flatMap_cons,List.length_append,ih,Cn.len,List.length_cons]; omega
set_option maxRecDepth 100000 in
theorem Zx1 {d:Nat} {x:List AV} (h:Eng.shape Tryz.prog (d+5) 30 x):∃ (S:List Sv) (C:List Cn) (f g:Bool),x=net (.view (svcs S) S.length f) (.view (cncs C) C.length g)∧(∀ p ∈ S,p.ok)∧∀ c ∈ C,c.ok:=by
 have h:=Yy Tryz.underlying30 h
 obtain ⟨y1,s1,rfl,_,g1,y2,s2,rfl,_,g2,rfl⟩:=h
 obtain ⟨els,f,rfl,_,h2⟩:=Wb Tryz.underlying27 g1
 obtain ⟨S,rfl,hS⟩:=Uo (f:=Sv.cells) (Q:=Sv.ok) fun y hy => Z21 (h2 y hy).2
 obtain ⟨els,g,rfl,_,h3⟩:=Wb Tryz.underlying28 g2
 obtain ⟨C,rfl,hC⟩:=Uo (f:=Cn.cells) (Q:=Cn.ok) fun y hy => Z24 (h3 y hy).2
 exact ⟨S,C,f,g,by simp only [net,List.length_map,svcs,cncs,List.flatMap_def,List.cons_append,List.nil_append,List.append_nil],hS,hC⟩
set_option maxRecDepth 100000 in
theorem Znl {d:Nat} {x:List AV} (h:Eng.shape Tryz.prog (d+4) 133 x):∃ c:Chx,x=c.n.cells∧c.wk:=by
 have h:=Yy Tryz.underlying133 h
 obtain ⟨x1,r1,rfl,_,h1,x2,r2,rfl,_,h2,rfl⟩:=h
 obtain ⟨n1,rfl,w1⟩:=Ya Tryz.underlying3 h1
 obtain ⟨l,f,rfl,hq,hl⟩:=Zaj Tryz.underlying63 Tryz.underlying37 Tryz.underlying5 (by kernel_rfl) (by kernel_rfl) h2
 refine ⟨⟨n1,l.map fun y => ⟨y.1,vB y.1 y.2⟩,.view (l.map fun y => vB y.1 y.2) l.length f⟩,rfl,fun H => ?_,fun y hy => ?_,?_⟩
 ·show Sl 1 H (.view (l.map fun y => vB y.1 y.2) l.length f) ((l.map fun y => (⟨y.1,vB y.1 y.2⟩:Bt)).map Bt.e) (l.map fun y => (⟨y.1,vB y.1 y.2⟩:Bt)).length
  rw [List.map_map,List.length_map]
  exact .view (by simp) f
 ·obtain ⟨z,_,rfl⟩:=List.mem_map.1 hy
  exact ⟨fun H => Sl.vB _ _,Wi _,rfl⟩
 ·show (l.map _).length≤_
  rw [List.length_map]; omega
set_option maxRecDepth 100000 in
theorem Zia {d:Nat} {x:List AV} (h:Eng.shape Tryz.prog (d+5) 33 x):∃ (C:List Chx) (f:Bool),x=[.view (chcs (nx C)) C.length f]∧∀ c ∈ C,c.wk:=by
 obtain ⟨els,full,rfl,h1,h2⟩:=Wb Tryz.underlying33 h
 obtain ⟨l,rfl,hl⟩:=Uo (f:=fun c:Chx => c.n.cells) (Q:=Chx.wk) fun y hy => Znl (h2 y hy).2
 exact ⟨l,full,by rw [List.length_map,chcs,List.flatMap_map,List.flatMap_def],hl⟩
set_option maxRecDepth 100000 in
theorem Znk {d:Nat} {x:List AV} (h:Eng.shape Tryz.prog (d+3) 47 x):∃ e:Ent,x=e.cells∧e.wk:=by
 have h:=Yy Tryz.underlying47 h
 obtain ⟨y1,s1,rfl,_,g1,y2,s2,rfl,_,g2,y3,s3,rfl,_,g3,y4,s4,rfl,_,g4,y5,s5,rfl,_,g5,y6,s6,rfl,_,g6,y7,s7,rfl,_,g7,rfl⟩:=h
 obtain ⟨i1,rfl,z1⟩:=Ya Tryz.underlying3 g1
 obtain ⟨i2,rfl,z2⟩:=Ya Tryz.underlying3 g2
 obtain ⟨i3,rfl,z3⟩:=Ya Tryz.underlying3 g3
 obtain ⟨i4,rfl,z4⟩:=Ya Tryz.underlying3 g4
 obtain ⟨i5,rfl,z5⟩:=Ya Tryz.underlying3 g5
 obtain ⟨b,f,rfl,hb⟩:=Z25 g6
 obtain ⟨u,rfl⟩:=Fu Tryz.underlying4 g7
 exact ⟨⟨i1,i2,i3,i4,i5,b,vB b f,u⟩,rfl,fun H => Sl.vB b f⟩
set_option maxRecDepth 100000 in
theorem Zdb {d:Nat} {x:List AV} (h:Eng.shape Tryz.prog (d+4) 34 x):∃ (E:List Ent) (f:Bool),x=[.view (ecs E) E.length f]∧∀ e ∈ E,e.wk:=by
 obtain ⟨els,full,rfl,h1,h2⟩:=Wb Tryz.underlying34 h
 obtain ⟨l,rfl,hl⟩:=Uo (f:=Ent.cells) (Q:=Ent.wk) fun y hy => Znk (h2 y hy).2
 exact ⟨l,full,by rw [List.length_map,ecs,List.flatMap_def],hl⟩
theorem Zrr (E:List Ent):(ecs E).length=E.length*7:=by
 induction E with
 | nil => rfl
 | cons c E ih =>
  show (c.cells++ecs E).length=_
  rw [List.length_append,ih,Ent.len,List.length_cons]; omega
set_option maxRecDepth 100000 in
theorem Zng {d:Nat} {x:List AV} (h:Eng.shape Tryz.prog (d+8) 32 x):∃ (D K:List Key) (R:List Rvk) (P:List Prd) (S:List Sv) (N:List Cn) (dv kv rv pv sv cv:AV) (pen:Int),x=[dv,kv,rv,pv,sv,cv,I pen]∧RW dv kv rv pv sv cv D K R P S N:=by
 have h:=Yy Tryz.underlying32 h
 obtain ⟨x1,r1,rfl,_,h1,x2,r2,rfl,_,h2,x3,r3,rfl,_,h3,x4,r4,rfl,_,h4,rfl⟩:=h
 obtain ⟨D,f1,rfl,hD,_⟩:=Zfh (d:=d+1) h1
 have h2:=Yy Tryz.underlying26 h2
 obtain ⟨y1,s1,rfl,_,g1,y2,s2,rfl,_,g2,y3,s3,rfl,_,g3,rfl⟩:=h2
 obtain ⟨K,f2,rfl,hK,_⟩:=Zfh (d:=d) g1
 obtain ⟨R,f3,rfl⟩:=Znf (d:=d+3) g2
 obtain ⟨P,f4,rfl,hP,hPn⟩:=Zry (d:=d+1) g3
 obtain ⟨S,N,f5,f6,rfl,hS,hN⟩:=Zx1 (d:=d+2) h3
 obtain ⟨n4,rfl,w4⟩:=Ya Tryz.underlying3 h4
 exact ⟨D,K,R,P,S,N,_,_,_,_,_,_,n4,rfl,⟨fun G => .view (Zll D f1).length f1,hD,fun G => .view (Zll K f2).length f2,hK,fun G => .view (Z05 R f3).length f3,fun G => .view (Zwc P f4).length f4,hP,hPn,fun G => Z0x S f5 G,hS,fun G => Z29 N f6 G⟩⟩
set_option maxRecDepth 100000 in
theorem Znj {d:Nat} {x:List AV} (h:Eng.shape Tryz.prog (d+9) 36 x):∃ (D K:List Key) (R:List Rvk) (P:List Prd) (S:List Sv) (N:List Cn) (C:List Chx) (E:List Ent) (dv kv rv pv sv cv ch en:AV) (pen:Int),x=fct dv kv rv pv sv cv pen ch en∧RW dv kv rv pv sv cv D K R P S N∧(∀ G,Sl 2 G ch (chcs (nx C)) C.length)∧(∀ c ∈ C,c.wk)∧(∀ G,Sl 7 G en (ecs E) E.length)∧∀ e ∈ E,e.wk:=by
 have h:=Yy Tryz.underlying36 h
 obtain ⟨x1,r1,rfl,_,h1,x2,r2,rfl,_,h2,x3,r3,rfl,_,h3,rfl⟩:=h
 obtain ⟨D,K,R,P,S,N,dv,kv,rv,pv,sv,cv,pen,rfl,hR⟩:=Zng h1
 obtain ⟨C,f1,rfl,hC⟩:=Zia (d:=d+3) h2
 obtain ⟨E,f2,rfl,hE⟩:=Zdb (d:=d+4) h3
 exact ⟨D,K,R,P,S,N,C,E,dv,kv,rv,pv,sv,cv,_,_,pen,rfl,hR,fun G => .view (Pn C) f1,hC,fun G => .view (Zrr E) f2,hE⟩
end Go.Proofs.YtcgjlpdkobmpnaaGreat

