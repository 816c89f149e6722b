/- What numbers, points, signatures, digests, bytes decode to. -/
import Derived.Test.YtgfploghjpbcaaaRows
import Derived.Test.YtgfploghjpbcaaaMPt
import Derived.Test.YtgfploghjpbcaaaME6
namespace Go.Proofs.Ytgfploghjpbcaaa
open Go Go.ChangeShapes Go.WideShapes Go.ChangeAt Go.RowKit Go.Proofs.Ytgfploghjpbcaaa.Eng
set_option linter.unusedVariables false
theorem map_list {α:Type} {f:α→List AV} {Q:α→Prop}:∀ {els:List (List AV)},(∀ y ∈ els,∃ a,y=f a∧Q a)→∃ l:List α,els=l.map f∧∀ a ∈ l,Q a
 | [],_ => ⟨[],rfl,fun a h => by cases h⟩
 | y::els,h => by
  obtain ⟨a,rfl,ha⟩:=h y (by simp)
  obtain ⟨l,rfl,hl⟩:=map_list (els:=els) fun z hz => h z (by simp [hz])
  refine ⟨a::l,rfl,fun b hb => ?_⟩
  rcases List.mem_cons.1 hb with rfl | hb
  ·exact ha
  ·exact hl b hb
theorem u64_of {n:Int} (h:(Lit.int .u64 n).wf=true):∃ m:Nat,n=m∧m<18446744073709551616:=by
 simp [Lit.wf,IntKind.min,IntKind.max,IntKind.signed,IntKind.bits] at h
 exact ⟨n.toNat,by omega,by omega⟩
set_option maxRecDepth 100000 in
theorem dec_num {d:Nat} {x:List AV} (h:Eng.shape Try.prog (d+2) 24 x):∃ n:Nat,x=num n∧n<18446744073709551616^4:=by
 obtain ⟨els,rfl,h1,h2⟩:=shape_array Try.underlying24 h
 obtain ⟨l,rfl,hl⟩:=map_list (f:=fun m:Nat => [W m]) (Q:=fun m => m<18446744073709551616) fun y hy => by
  obtain ⟨n,rfl,w⟩:=shape_int Try.underlying22 (h2 y hy).2
  obtain ⟨m,rfl,hm⟩:=u64_of w
  exact ⟨m,rfl,hm⟩
 rw [List.length_map] at h1
 have e:=dig_val (B:=18446744073709551616) (by decide) l hl
 rw [h1] at e
 have hv:=val_lt (B:=18446744073709551616) (by decide) l hl
 rw [h1] at hv
 refine ⟨val 18446744073709551616 l,?_,hv⟩
 show _=(dig 18446744073709551616 4 (val 18446744073709551616 l)).map W
 rw [e]
 clear e hv hl h1 h2 h
 induction l with
 | nil => rfl
 | cons a r ih => rw [List.map_cons,List.flatten_cons,ih]; rfl
set_option maxRecDepth 100000 in
theorem dec_pt {d:Nat} {x:List AV} (h:Eng.shape Try.prog (d+4) 38 x):∃ a b f,x=pcell a b f∧a<18446744073709551616^4∧b<18446744073709551616^4:=by
 have h:=shape_struct Try.underlying38 h
 obtain ⟨x1,r1,rfl,_,h1,x2,r2,rfl,_,h2,x3,r3,rfl,_,h3,rfl⟩:=h
 obtain ⟨a,rfl,ha⟩:=dec_num h1
 obtain ⟨b,rfl,hb⟩:=dec_num h2
 obtain ⟨f,rfl⟩:=shape_bool Try.underlying4 h3
 exact ⟨a,b,f,by simp only [pcell,List.cons_append,List.nil_append],ha,hb⟩
theorem u8_list:∀ {els:List (List AV)},(∀ y ∈ els,∃ b,y=[u8 b])→∃ l:List UInt8,els.flatten=bs l∧l.length=els.length
 | [],_ => ⟨[],rfl,rfl⟩
 | y::els,h => by
  obtain ⟨a,rfl⟩:=h y (by simp)
  obtain ⟨l,h1,h2⟩:=u8_list (els:=els) fun z hz => h z (by simp [hz])
  exact ⟨a::l,by rw [List.flatten_cons,h1]; rfl,by simp [h2]⟩
set_option maxRecDepth 100000 in
theorem dec_dig {d:Nat} {x:List AV} (h:Eng.shape Try.prog (d+2) 40 x):∃ l:List UInt8,x=bs l∧l.length=32:=by
 obtain ⟨els,rfl,h1,h2⟩:=shape_array Try.underlying40 h
 obtain ⟨l,e1,e2⟩:=u8_list (els:=els) fun y hy => by
  obtain ⟨n,rfl,w⟩:=shape_int Try.underlying5 (h2 y hy).2
  obtain ⟨b,rfl⟩:=u8_of w
  exact ⟨b,rfl⟩
 exact ⟨l,e1,by rw [e2,h1]⟩
set_option maxRecDepth 100000 in
theorem dec_sig {d:Nat} {x:List AV} (h:Eng.shape Try.prog (d+4) 26 x):∃ r s,x=num r++num s∧r<18446744073709551616^4∧s<18446744073709551616^4:=by
 have h:=shape_struct Try.underlying26 h
 obtain ⟨x1,r1,rfl,_,h1,x2,r2,rfl,_,h2,rfl⟩:=h
 obtain ⟨a,rfl,ha⟩:=dec_num h1
 obtain ⟨b,rfl,hb⟩:=dec_num h2
 exact ⟨a,b,by simp,ha,hb⟩
set_option maxRecDepth 100000 in
theorem dec_bs {d:Nat} {x:List AV} (h:Eng.shape Try.prog (d+2) 27 x):∃ (l:List UInt8) (f:Bool),x=[vB l f]∧l.length≤140737488351232:=dec_bytes Try.underlying27 Try.underlying5 (by kernel_rfl) h
end Go.Proofs.Ytgfploghjpbcaaa

