/- What numbers, points, signatures, digests, bytes decode to. -/
import Derived.Test.YtgfploghjpbcaaaRows
import Derived.Test.YtgfploghjpbcaaaMPt
import Derived.Test.YtgfploghjpbcaaaME6
import Derived.Test.YtgfploghjpbcaaaMTk
import Derived.Test.YtgfploghjpbcaaaMPu
namespace Go.Proofs.Ytgfploghjpbcaaa
open Go Go.ChangeShapes Go.WideShapes Go.ChangeAt Go.RowKit Go.Proofs.Ytgfploghjpbcaaa.Eng
set_option linter.unusedVariables false
theorem map_list {α:Type} {f:α→List AV} {Q:α→Prop}:∀ {els:List (List AV)},(∀ y ∈ els,∃ a,y=f a∧Q a)→∃ l:List α,els=l.map f∧∀ a ∈ l,Q a
 | [],_ => ⟨[],rfl,fun a h => by cases h⟩
 | y::els,h => by
  obtain ⟨a,rfl,ha⟩:=h y (by simp)
  obtain ⟨l,rfl,hl⟩:=map_list (els:=els) fun z hz => h z (by simp [hz])
  refine ⟨a::l,rfl,fun b hb => ?_⟩
  rcases List.mem_cons.1 hb with rfl | hb
  ·exact ha
  ·exact hl b hb
theorem u64_of {n:Int} (h:(Lit.int .u64 n).wf=true):∃ m:Nat,n=m∧m<18446744073709551616:=by
 simp [Lit.wf,IntKind.min,IntKind.max,IntKind.signed,IntKind.bits] at h
 exact ⟨n.toNat,by omega,by omega⟩
set_option maxRecDepth 100000 in
theorem dec_num {d:Nat} {x:List AV} (h:Eng.shape Try.prog (d+2) 24 x):∃ n:Nat,x=num n∧n<18446744073709551616^4:=by
 obtain ⟨els,rfl,h1,h2⟩:=shape_array Try.underlying24 h
 obtain ⟨l,rfl,hl⟩:=map_list (f:=fun m:Nat => [W m]) (Q:=fun m => m<18446744073709551616) fun y hy => by
  obtain ⟨n,rfl,w⟩:=shape_int Try.underlying22 (h2 y hy).2
  obtain ⟨m,rfl,hm⟩:=u64_of w
  exact ⟨m,rfl,hm⟩
 rw [List.length_map] at h1
 have e:=dig_val (B:=18446744073709551616) (by decide) l hl
 rw [h1] at e
 have hv:=val_lt (B:=18446744073709551616) (by decide) l hl
 rw [h1] at hv
 refine ⟨val 18446744073709551616 l,?_,hv⟩
 show _=(dig 18446744073709551616 4 (val 18446744073709551616 l)).map W
 rw [e]
 clear e hv hl h1 h2 h
 induction l with
 | nil => rfl
 | cons a r ih => rw [List.map_cons,List.flatten_cons,ih]; rfl
theorem u8_list:∀ {els:List (List AV)},(∀ y ∈ els,∃ b,y=[u8 b])→∃ l:List UInt8,els.flatten=bs l∧l.length=els.length
 | [],_ => ⟨[],rfl,rfl⟩
 | y::els,h => by
  obtain ⟨a,rfl⟩:=h y (by simp)
  obtain ⟨l,h1,h2⟩:=u8_list (els:=els) fun z hz => h z (by simp [hz])
  exact ⟨a::l,by rw [List.flatten_cons,h1]; rfl,by simp [h2]⟩
set_option maxRecDepth 100000 in
theorem dec_dig {d:Nat} {x:List AV} (h:Eng.shape Try.prog (d+2) 40 x):∃ l:List UInt8,x=bs l∧l.length=32:=by
 obtain ⟨els,rfl,h1,h2⟩:=shape_array Try.underlying40 h
 obtain ⟨l,e1,e2⟩:=u8_list (els:=els) fun y hy => by
  obtain ⟨n,rfl,w⟩:=shape_int Try.underlying5 (h2 y hy).2
  obtain ⟨b,rfl⟩:=u8_of w
  exact ⟨b,rfl⟩
 exact ⟨l,e1,by rw [e2,h1]⟩
set_option maxRecDepth 100000 in
theorem dec_bs {d:Nat} {x:List AV} (h:Eng.shape Try.prog (d+2) 27 x):∃ (l:List UInt8) (f:Bool),x=[vB l f]∧l.length≤140737488351232:=dec_bytes Try.underlying27 Try.underlying5 (by kernel_rfl) h
set_option maxRecDepth 100000 in
theorem dec_tkt {d:Nat} {x:List AV} (h:Eng.shape Try.prog (d+4) 60 x):∃ t:Tkt,x=t.cells:=by
 have h:=shape_struct Try.underlying60 h
 obtain ⟨y1,s1,rfl,_,g1,y2,s2,rfl,_,g2,y3,s3,rfl,_,g3,y4,s4,rfl,_,g4,y5,s5,rfl,_,g5,rfl⟩:=h
 obtain ⟨i1,rfl,z1⟩:=shape_int Try.underlying3 g1
 obtain ⟨i2,rfl,z2⟩:=shape_int Try.underlying3 g2
 obtain ⟨i3,rfl,z3⟩:=shape_int Try.underlying3 g3
 obtain ⟨i4,rfl,z4⟩:=shape_int Try.underlying3 g4
 obtain ⟨i5,rfl,z5⟩:=shape_int Try.underlying3 g5
 exact ⟨⟨i1,i2,i3,i4,i5⟩,by simp only [Tkt.cells,List.cons_append,List.nil_append]⟩
set_option maxRecDepth 100000 in
theorem dec_rec {d:Nat} {x:List AV} (h:Eng.shape Try.prog (d+4) 82 x):∃ r:Rec,x=r.cells∧r.prev.length=32∧∀ H,Sl 1 H r.e (bs r.b) r.b.length:=by
 have h:=shape_struct Try.underlying82 h
 obtain ⟨y1,s1,rfl,_,g1,y2,s2,rfl,_,g2,y3,s3,rfl,_,g3,y4,s4,rfl,_,g4,y5,s5,rfl,_,g5,y6,s6,rfl,_,g6,y7,s7,rfl,_,g7,y8,s8,rfl,_,g8,y9,s9,rfl,_,g9,y10,s10,rfl,_,g10,rfl⟩:=h
 obtain ⟨i1,rfl,z1⟩:=shape_int Try.underlying3 g1
 obtain ⟨i2,rfl,z2⟩:=shape_int Try.underlying3 g2
 obtain ⟨i3,rfl,z3⟩:=shape_int Try.underlying3 g3
 obtain ⟨i4,rfl,z4⟩:=shape_int Try.underlying3 g4
 obtain ⟨i5,rfl,z5⟩:=shape_int Try.underlying3 g5
 obtain ⟨i6,rfl,z6⟩:=shape_int Try.underlying3 g6
 obtain ⟨i7,rfl,z7⟩:=shape_int Try.underlying3 g7
 obtain ⟨i8,rfl,z8⟩:=shape_int Try.underlying3 g8
 obtain ⟨p,rfl,hp⟩:=dec_dig g9
 obtain ⟨b,f,rfl,hb⟩:=dec_bs g10
 exact ⟨⟨i1,i2,i3,i4,i5,i6,i7,i8,p,b,vB b f⟩,by simp only [Rec.cells,Rec.nums,List.cons_append,List.nil_append,List.append_nil],hp,fun H => Sl.vB b f⟩
end Go.Proofs.Ytgfploghjpbcaaa

