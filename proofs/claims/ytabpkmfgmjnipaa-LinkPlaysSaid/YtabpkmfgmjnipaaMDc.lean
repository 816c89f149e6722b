/- What is done with a link: what it decodes to. -/
import Derived.Test.YtabpkmfgmjnipaaRows
import Derived.Test.YtabpkmfgmjnipaaME6
import Derived.Test.YtabpkmfgmjnipaaMLk
namespace Go.Proofs.Ytabpkmfgmjnipaa
open Go Go.ChangeShapes Go.WideShapes Go.ChangeAt Go.RowKit Go.Proofs.Ytabpkmfgmjnipaa.Eng
set_option linter.unusedVariables false
theorem list_of {α:Type} {f:α→List AV}:∀ {els:List (List AV)},(∀ y ∈ els,∃ a,y=f a)→∃ l:List α,els=l.map f
 | [],_ => ⟨[],rfl⟩
 | y::els,h => by
  obtain ⟨a,rfl⟩:=h y (by simp)
  obtain ⟨l,rfl⟩:=list_of (els:=els) fun z hz => h z (by simp [hz])
  exact ⟨a::l,rfl⟩
set_option maxRecDepth 100000 in
theorem dec_dd {d:Nat} {x:List AV} (h:Eng.shape Try.prog (d+3) 29 x):∃ p:Dd,x=p.cells:=by
 have h:=shape_struct Try.underlying29 h
 obtain ⟨x1,r1,rfl,_,h1,x2,r2,rfl,_,h2,x3,r3,rfl,_,h3,x4,r4,rfl,_,h4,x5,r5,rfl,_,h5,rfl⟩:=h
 obtain ⟨n1,rfl,w1⟩:=shape_int Try.underlying3 h1
 obtain ⟨n2,rfl,w2⟩:=shape_int Try.underlying3 h2
 obtain ⟨n3,rfl,w3⟩:=shape_int Try.underlying3 h3
 obtain ⟨n4,rfl,w4⟩:=shape_int Try.underlying5 h4
 obtain ⟨b,rfl⟩:=u8_of w4
 obtain ⟨l,f,rfl,_⟩:=dec_bytes Try.underlying27 Try.underlying5 (by kernel_rfl) h5
 exact ⟨⟨n1,n2,n3,b,l,f⟩,rfl⟩
set_option maxRecDepth 100000 in
theorem dec_dds {d:Nat} {x:List AV} (h:Eng.shape Try.prog (d+4) 22 x):∃ (l:List Dd) (f:Bool),x=[.view (l.flatMap Dd.cells) l.length f]:=by
 obtain ⟨els,f,rfl,_,h2⟩:=shape_slice Try.underlying22 h
 obtain ⟨l,rfl⟩:=list_of (f:=Dd.cells) fun y hy => dec_dd (h2 y hy).2
 exact ⟨l,f,by simp only [List.length_map,List.flatMap_def]⟩
end Go.Proofs.Ytabpkmfgmjnipaa

