/- What numbers, points, signatures, digests, bytes decode to. -/
import Derived.Test.YtgfploghjpbcaaaGreatRows
import Derived.Test.YtgfploghjpbcaaaGreatMPt
import Derived.Test.YtgfploghjpbcaaaGreatME6
import Derived.Test.YtgfploghjpbcaaaGreatMTk
namespace Go.Proofs.YtgfploghjpbcaaaGreat
open Go Go.ChangeShapes Go.WideShapes Go.ChangeAt Go.RowKit Go.Proofs.YtgfploghjpbcaaaGreat.Eng
set_option linter.unusedVariables false
theorem map_list {α:Type} {f:α→List AV} {Q:α→Prop}:∀ {els:List (List AV)},(∀ y ∈ els,∃ a,y=f a∧Q a)→∃ l:List α,els=l.map f∧∀ a ∈ l,Q a
 | [],_ => ⟨[],rfl,fun a h => by cases h⟩
 | y::els,h => by
  obtain ⟨a,rfl,ha⟩:=h y (by simp)
  obtain ⟨l,rfl,hl⟩:=map_list (els:=els) fun z hz => h z (by simp [hz])
  refine ⟨a::l,rfl,fun b hb => ?_⟩
  rcases List.mem_cons.1 hb with rfl | hb
  ·exact ha
  ·exact hl b hb
theorem u64_of {n:Int} (h:(Lit.int .u64 n).wf=true):∃ m:Nat,n=m∧m<18446744073709551616:=by
 simp [Lit.wf,IntKind.min,IntKind.max,IntKind.signed,IntKind.bits] at h
 exact ⟨n.toNat,by omega,by omega⟩
set_option maxRecDepth 100000 in
theorem dec_num {d:Nat} {x:List AV} (h:Eng.shape Tryz.prog (d+2) 24 x):∃ n:Nat,x=num n∧n<18446744073709551616^4:=by
 obtain ⟨els,rfl,h1,h2⟩:=shape_array Tryz.underlying24 h
 obtain ⟨l,rfl,hl⟩:=map_list (f:=fun m:Nat => [W m]) (Q:=fun m => m<18446744073709551616) fun y hy => by
  obtain ⟨n,rfl,w⟩:=shape_int Tryz.underlying22 (h2 y hy).2
  obtain ⟨m,rfl,hm⟩:=u64_of w
  exact ⟨m,rfl,hm⟩
 rw [List.length_map] at h1
 have e:=dig_val (B:=18446744073709551616) (by decide) l hl
 rw [h1] at e
 have hv:=val_lt (B:=18446744073709551616) (by decide) l hl
 rw [h1] at hv
 refine ⟨val 18446744073709551616 l,?_,hv⟩
 show _=(dig 18446744073709551616 4 (val 18446744073709551616 l)).map W
 rw [e]
 clear e hv hl h1 h2 h
 induction l with
 | nil => rfl
 | cons a r ih => rw [List.map_cons,List.flatten_cons,ih]; rfl
set_option maxRecDepth 100000 in
theorem dec_tkt {d:Nat} {x:List AV} (h:Eng.shape Tryz.prog (d+4) 47 x):∃ t:Tkt,x=t.cells:=by
 have h:=shape_struct Tryz.underlying47 h
 obtain ⟨y1,s1,rfl,_,g1,y2,s2,rfl,_,g2,y3,s3,rfl,_,g3,y4,s4,rfl,_,g4,y5,s5,rfl,_,g5,rfl⟩:=h
 obtain ⟨i1,rfl,z1⟩:=shape_int Tryz.underlying3 g1
 obtain ⟨i2,rfl,z2⟩:=shape_int Tryz.underlying3 g2
 obtain ⟨i3,rfl,z3⟩:=shape_int Tryz.underlying3 g3
 obtain ⟨i4,rfl,z4⟩:=shape_int Tryz.underlying3 g4
 obtain ⟨i5,rfl,z5⟩:=shape_int Tryz.underlying3 g5
 exact ⟨⟨i1,i2,i3,i4,i5⟩,by simp only [Tkt.cells,List.cons_append,List.nil_append]⟩
end Go.Proofs.YtgfploghjpbcaaaGreat

