/- What networks decode to. -/
import Derived.Test.YtabpkmfgmjnipaaME6
import Derived.Test.YtabpkmfgmjnipaaMRw
namespace Go.Proofs.Ytabpkmfgmjnipaa
open Go Go.ChangeShapes Go.WideShapes Go.ChangeAt Go.RowKit Go.Proofs.Ytabpkmfgmjnipaa.Eng
set_option linter.unusedVariables false
theorem map_list {α:Type} {f:α→List AV} {Q:α→Prop}:∀ {els:List (List AV)},(∀ y ∈ els,∃ a,y=f a∧Q a)→∃ l:List α,els=l.map f∧∀ a ∈ l,Q a
 | [],_ => ⟨[],rfl,fun a h => by cases h⟩
 | y::els,h => by
  obtain ⟨a,rfl,ha⟩:=h y (by simp)
  obtain ⟨l,rfl,hl⟩:=map_list (els:=els) fun z hz => h z (by simp [hz])
  refine ⟨a::l,rfl,fun b hb => ?_⟩
  rcases List.mem_cons.1 hb with rfl | hb
  ·exact ha
  ·exact hl b hb
set_option maxRecDepth 100000 in
theorem dec_ints {d:Nat} {x:List AV} (h:Eng.shape Try.prog (d+2) 60 x):∃ l f,x=[vI l f]:=by
 obtain ⟨els,full,rfl,h1,h2⟩:=shape_slice Try.underlying60 h
 obtain ⟨l,e1,e2⟩:=one_list' (f:=I) (fun y hy => (h2 y hy).2) fun y hy => by
  obtain ⟨n,rfl,w⟩:=shape_int Try.underlying3 hy
  exact ⟨n,rfl⟩
 exact ⟨l,full,by rw [e1,← e2]; rfl⟩
set_option maxRecDepth 100000 in
theorem dec_sv {d:Nat} {x:List AV} (h:Eng.shape Try.prog (d+3) 62 x):∃ p:Sv,x=p.cells∧p.ok:=by
 have h:=shape_struct Try.underlying62 h
 obtain ⟨x1,r1,rfl,_,h1,x2,r2,rfl,_,h2,x3,r3,rfl,_,h3,x4,r4,rfl,_,h4,x5,r5,rfl,_,h5,rfl⟩:=h
 obtain ⟨n1,rfl,w1⟩:=shape_int Try.underlying3 h1
 obtain ⟨n2,rfl,w2⟩:=shape_int Try.underlying3 h2
 obtain ⟨n3,rfl,w3⟩:=shape_int Try.underlying3 h3
 obtain ⟨l4,f,rfl⟩:=dec_ints h4
 obtain ⟨l5,g,rfl⟩:=dec_ints h5
 exact ⟨⟨⟨n1,n2,n3,l4,l5⟩,vI l4 f,vI l5 g⟩,rfl,ok64_of w1,ok64_of w2,ok64_of w3,.inl ⟨f,rfl⟩,.inl ⟨g,rfl⟩⟩
set_option maxRecDepth 100000 in
theorem dec_cn {d:Nat} {x:List AV} (h:Eng.shape Try.prog (d+3) 50 x):∃ c:Cn,x=c.cells∧c.ok:=by
 have h:=shape_struct Try.underlying50 h
 obtain ⟨x1,r1,rfl,_,h1,x2,r2,rfl,_,h2,x3,r3,rfl,_,h3,x4,r4,rfl,_,h4,x5,r5,rfl,_,h5,rfl⟩:=h
 obtain ⟨n1,rfl,w1⟩:=shape_int Try.underlying3 h1
 obtain ⟨n2,rfl,w2⟩:=shape_int Try.underlying3 h2
 obtain ⟨n3,rfl,w3⟩:=shape_int Try.underlying3 h3
 obtain ⟨n4,rfl,w4⟩:=shape_int Try.underlying3 h4
 obtain ⟨n5,rfl,w5⟩:=shape_int Try.underlying3 h5
 exact ⟨⟨n1,n2,n3,n4,n5⟩,rfl,ok64_of w1,ok64_of w2,ok64_of w3,ok64_of w4,ok64_of w5⟩
theorem svs_sl (l:List Sv) (f:Bool) (H:AH):Sl 5 H (.view (svcs l) l.length f) (svcs l) l.length:=by
 refine .view ?_ f
 induction l with
 | nil => rfl
 | cons a r ih => rw [svcs,List.flatMap_cons,List.length_append,ih,Sv.len,List.length_cons]; omega
theorem cns_sl (l:List Cn) (f:Bool) (H:AH):Sl 5 H (.view (cncs l) l.length f) (cncs l) l.length:=by
 refine .view ?_ f
 induction l with
 | nil => rfl
 | cons a r ih => rw [cncs,List.flatMap_cons,List.length_append,ih,Cn.len,List.length_cons]; omega
set_option maxRecDepth 100000 in
theorem dec_net {d:Nat} {x:List AV} (h:Eng.shape Try.prog (d+5) 43 x):∃ (S:List Sv) (C:List Cn) (f g:Bool),x=net (.view (svcs S) S.length f) (.view (cncs C) C.length g)∧(∀ p ∈ S,p.ok)∧∀ c ∈ C,c.ok:=by
 have h:=shape_struct Try.underlying43 h
 obtain ⟨y1,s1,rfl,_,g1,y2,s2,rfl,_,g2,rfl⟩:=h
 obtain ⟨els,f,rfl,_,h2⟩:=shape_slice Try.underlying40 g1
 obtain ⟨S,rfl,hS⟩:=map_list (f:=Sv.cells) (Q:=Sv.ok) fun y hy => dec_sv (h2 y hy).2
 obtain ⟨els,g,rfl,_,h3⟩:=shape_slice Try.underlying41 g2
 obtain ⟨C,rfl,hC⟩:=map_list (f:=Cn.cells) (Q:=Cn.ok) fun y hy => dec_cn (h3 y hy).2
 exact ⟨S,C,f,g,by simp only [net,List.length_map,svcs,cncs,List.flatMap_def,List.cons_append,List.nil_append,List.append_nil],hS,hC⟩
end Go.Proofs.Ytabpkmfgmjnipaa

