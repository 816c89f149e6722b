/- The document's layer 2: sums, differences, which is less. -/
import Derived.Test.YtgfploghjpbcaaaGreatMNum
import Derived.Test.YtgfploghjpbcaaaGreatMCa
import Derived.Test.YtgfploghjpbcaaaGreatMEc
import Derived.Test.YtgfploghjpbcaaaGreatMPt
import Derived.Test.YtgfploghjpbcaaaGreatMVf
namespace Go.Proofs.YtgfploghjpbcaaaGreat.Eng
open Go Go.Proofs
set_option linter.unusedVariables false
set_option linter.unusedSimpArgs false
set_option maxRecDepth 10000
theorem r_add {H:AH} {a b c:Nat} (ha:a<(18446744073709551616:Nat)) (hb:b<(18446744073709551616:Nat)) (hc:c≤1):Called Tryz.prog F.clapperref02_add [W a,W b,W c] H (.tup [W ((a+b+c)%(18446744073709551616:Nat)),W ((a+b+c) / (18446744073709551616:Nat))]) H:=by
 refine e_clapperref02_add ?_
 have w1:∀ a b:Nat,IntKind.u64.wrap ((a:Int)+(b:Int))=(((a+b)%(18446744073709551616:Nat):Nat):Int):=fun a b => by rw [← Int.natCast_add,wumod]
 have t1:((a+b)%(18446744073709551616:Nat)+c)%(18446744073709551616:Nat)=(a+b+c)%(18446744073709551616:Nat):=by omega
 simp only [ic_clapperref02_add,go_sem,w1,t1]
 refine ⟨fun h1 => ⟨fun h2 => leave_same ?_,fun h2 => leave_same ?_⟩,fun h1 => ⟨fun h2 => leave_same ?_,fun h2 => leave_same ?_⟩⟩
 ·rw [show (a+b+c) / (18446744073709551616:Nat)=1 by omega]; rfl
 ·rw [show (a+b+c) / (18446744073709551616:Nat)=1 by omega]; rfl
 ·rw [show (a+b+c) / (18446744073709551616:Nat)=1 by omega]; rfl
 ·rw [show (a+b+c) / (18446744073709551616:Nat)=0 by omega]; rfl
theorem set_part {k n a i:Nat} (hi:i<k) (v:Nat) (hv:n / (18446744073709551616:Nat)^i%(18446744073709551616:Nat)=v):(wd i n++(wd k a).drop i).set i (W v)=wd (i+1) n++(wd k a).drop (i+1):=by
 have hl:i<(wd k a).length:=by rw [wd_length]; exact hi
 rw [List.set_append_right _ _ (by rw [wd_length]; exact Nat.le_refl _),wd_length,Nat.sub_self,List.drop_eq_getElem_cons hl,List.set_cons_zero]
 have:wd (i+1) n=wd i n++[W v]:=by rw [wd,dig_succ,List.map_append,hv]; rfl
 rw [this]
 simp
theorem get_part {k n a i:Nat} (hi:i<k):(wd i n++(wd k a).drop i).getD i .junk=W (a / (18446744073709551616:Nat)^i%(18446744073709551616:Nat)):=by
 rw [List.getD_eq_getElem?_getD,List.getElem?_append_right (by rw [wd_length]; exact Nat.le_refl _),wd_length,Nat.sub_self,List.getElem?_drop,Nat.add_zero,← List.getD_eq_getElem?_getD,wd_get hi]
theorem len_part {k n a i:Nat} (hi:i≤k):(wd i n++(wd k a).drop i).length=k:=by
 rw [List.length_append,List.length_drop,wd_length,wd_length]; omega
theorem r_plus {H:AH} {a b:Nat} (ha:a<(18446744073709551616:Nat)^4) (hb:b<(18446744073709551616:Nat)^4):Called Tryz.prog F.clapperref02_plus [.agg (num a),.agg (num b)] H (.tup [.agg (num (a+b)),Bl (decide ((18446744073709551616:Nat)^4≤a+b))]) H:=by
 refine e_clapperref02_plus ?_
 have l2:=wd_length 4 b
 simp only [ic_clapperref02_plus,go_sem,one_wd,num_ne]
 refine w_loop _ (fun (i:Nat) => ([(2,.ptr H.length 0),(3,.ptr (H.length+1) 0),(4,.ptr (H.length+2) 0),(6,W ((a%(18446744073709551616:Nat)^i+b%(18446744073709551616:Nat)^i) / (18446744073709551616:Nat)^i)),(7,I i)],H++[⟨wd i (a+b)++(num a).drop i,0,true⟩,⟨num b,0,true⟩,⟨[W 0,W 0,W 0,W 0],0,true⟩])) (fun i => i≤4) (fun i => 4 - i) 0 (Nat.zero_le _) ?_ ?_
 ·simp [Nat.mod_one,wd,dig]
 intro i hi
 simp only [go_sem]
 refine ⟨fun hh => ?_,fun hh => ?_⟩
 ·have hi:i<4:=by omega
  obtain ⟨d1,d2⟩:=add_digit (B:=(18446744073709551616:Nat)) (by decide) a b i
  have x1:a / (18446744073709551616:Nat)^i%(18446744073709551616:Nat)<(18446744073709551616:Nat):=Nat.mod_lt _ (by decide)
  have x2:b / (18446744073709551616:Nat)^i%(18446744073709551616:Nat)<(18446744073709551616:Nat):=Nat.mod_lt _ (by decide)
  have w2:IntKind.i64.wrap ((i:Int)+1)=((i+1:Nat):Int):=by rw [w64 _ (by omega) (by omega)]; omega
  have hp:0<(18446744073709551616:Nat)^i:=Nat.pow_pos (by decide)
  have c1:(a%(18446744073709551616:Nat)^i+b%(18446744073709551616:Nat)^i) / (18446744073709551616:Nat)^i≤1:=by
   have h1:=Nat.mod_lt a hp
   have h2:=Nat.mod_lt b hp
   have:(a%(18446744073709551616:Nat)^i+b%(18446744073709551616:Nat)^i) / (18446744073709551616:Nat)^i<2:=by rw [Nat.div_lt_iff_lt_mul hp]; omega
   omega
  simp only [go_sem,len_part (Nat.le_of_lt hi),get_part hi,l2,wd_get hi]
  have ib:((0:Int)≤i)∧(i:Int)<4:=⟨by clear d1 d2 c1 x1 x2; omega,by clear d1 d2 c1 x1 x2; omega⟩
  have i3:i≤3:=by clear d1 d2 c1 x1 x2; omega
  have i5:i+1≤(wd i (a+b)).length+((num a).drop i).length:=by rw [wd_length,List.length_drop,wd_length]; clear d1 d2 c1 x1 x2; omega
  refine ⟨ib,i5,ib,i3,callW_some (r_add x1 x2 c1) (fun _ => rfl) ?_⟩
  rw [← d1,← d2]
  simp only [go_sem,len_part (Nat.le_of_lt hi),set_part hi _ rfl,w2]
  exact ⟨ib,i3,i+1,rfl,rfl,hi,by clear d1 d2 c1 x1 x2; omega⟩
 ·obtain rfl:i=4:=by omega
  have e1:wd 4 (a+b)++(num a).drop 4=num (a+b):=by
   rw [List.drop_of_length_le (by rw [wd_length]; exact Nat.le_refl _),List.append_nil]
  have e4:((((a%(18446744073709551616:Nat)^4+b%(18446744073709551616:Nat)^4) / (18446744073709551616:Nat)^4:Nat):Int) == 1)=decide ((18446744073709551616:Nat)^4≤a+b):=by
   rw [Nat.mod_eq_of_lt ha,Nat.mod_eq_of_lt hb]
   by_cases h:(18446744073709551616:Nat)^4≤a+b
   ·rw [show (a+b) / (18446744073709551616:Nat)^4=1 by omega,decide_eq_true h]; rfl
   ·rw [show (a+b) / (18446744073709551616:Nat)^4=0 by omega,decide_eq_false h]; rfl
  simp only [e1,e4,go_sem,num_take,one_wd,wd_length,num_spliceW,num_splice]
  exact ⟨by omega,leave_drop rfl⟩
theorem r_less {H:AH} {a b:Nat} (ha:a<(18446744073709551616:Nat)^4) (hb:b<(18446744073709551616:Nat)^4):Called Tryz.prog F.clapperref02_less [.agg (num a),.agg (num b)] H (Bl (decide (a<b))) H:=by
 refine e_clapperref02_less ?_
 have l1:=wd_length 4 a
 have l2:=wd_length 4 b
 simp only [ic_clapperref02_less,go_sem,one_wd,num_ne]
 refine w_loop _ (fun (k:Nat) => ([(2,.ptr H.length 0),(3,.ptr (H.length+1) 0),(5,I (3 - (k:Int)))],H++[⟨num a,0,true⟩,⟨num b,0,true⟩])) (fun k => k≤4∧a / (18446744073709551616:Nat)^(4 - k)=b / (18446744073709551616:Nat)^(4 - k)) (fun k => 4 - k) 0 ⟨by decide,by rw [Nat.div_eq_of_lt ha,Nat.div_eq_of_lt hb]⟩ rfl ?_
 rintro k ⟨hk,heq⟩
 simp only [go_sem]
 refine ⟨fun hh => ?_,fun hh => ?_⟩
 ·obtain ⟨i,hi,hi4⟩:∃ i:Nat,3 - (k:Int)=i∧i<4:=⟨3 - k,by omega,by omega⟩
  have e4:4 - k=i+1:=by omega
  rw [e4] at heq
  obtain ⟨c1,c2⟩:=cmp_digit heq
  obtain ⟨c3,_⟩:=cmp_digit heq.symm
  have w2:IntKind.i64.wrap ((i:Int) - 1)=3 - ((k+1:Nat):Int):=by rw [w64 _ (by omega) (by omega)]; omega
  simp only [hi,go_sem,l1,l2,wd_get hi4,w2]
  have q1:∀ x y:Nat,((x:Int)<(y:Int))=(x<y):=fun x y => propext Int.ofNat_lt
  have q2:∀ x y:Nat,(((x:Int) != (y:Int))=true)=(x≠y):=fun x y => by simp only [bne_iff_ne,ne_eq,eq_iff_iff]; omega
  have q3:∀ x y:Nat,(((x:Int) != (y:Int))=false)=(x=y):=fun x y => by simp only [bne_eq_false_iff_eq,eq_iff_iff]; omega
  simp only [q1,q2,q3]
  have ib:((0:Int)≤i)∧i<4:=⟨Int.natCast_nonneg _,hi4⟩
  have i3:i≤3:=Nat.le_of_lt_succ hi4
  refine ⟨ib,i3,ib,i3,fun hne => ⟨ib,i3,ib,i3,leave_drop ?_⟩,fun he => ⟨k+1,rfl,⟨by omega,?_⟩,by omega⟩⟩
  ·simp only [low]
   congr 2
   rcases Nat.lt_or_gt_of_ne hne with h | h
   ·rw [decide_eq_true h,decide_eq_true (c1 h)]
   ·rw [decide_eq_false (by omega),decide_eq_false (by have:=c3 h; omega)]
  ·rw [show 4 - (k+1)=i by omega]
   exact c2 he
 ·obtain rfl:k=4:=by omega
  rw [Nat.sub_self,Nat.pow_zero,Nat.div_one,Nat.div_one] at heq
  subst heq
  refine leave_drop ?_
  simp [low]
theorem comp_digit {b:Nat} (hb:b<(18446744073709551616:Nat)^4) {i:Nat} (hi:i<4):((18446744073709551616:Nat)^4 - 1 - b) / (18446744073709551616:Nat)^i%(18446744073709551616:Nat)=(18446744073709551616:Nat) - 1 - b / (18446744073709551616:Nat)^i%(18446744073709551616:Nat):=by
 have e1:(18446744073709551616:Nat)^4=(18446744073709551616:Nat)^i*((18446744073709551616:Nat)*(18446744073709551616:Nat)^(3 - i)):=by rw [← Nat.pow_succ',← Nat.pow_add]; congr 1; omega
 have hp:0<(18446744073709551616:Nat)^i:=Nat.pow_pos (by decide)
 have e2:=Nat.div_add_mod b ((18446744073709551616:Nat)^i)
 have e3:=Nat.mod_lt b hp
 have e4:b / (18446744073709551616:Nat)^i<(18446744073709551616:Nat)*(18446744073709551616:Nat)^(3 - i):=by
  rw [Nat.div_lt_iff_lt_mul hp,Nat.mul_comm,← e1]; exact hb
 rw [e1]
 generalize (18446744073709551616:Nat)^i=P at *
 generalize (18446744073709551616:Nat)^(3 - i)=M at *
 generalize hq:b / P=q at *
 generalize b%P=r at *
 obtain ⟨d,hd⟩:∃ d,(18446744073709551616:Nat)*M=q+1+d:=⟨(18446744073709551616:Nat)*M - q - 1,by omega⟩
 have e5:P*((18446744073709551616:Nat)*M) - 1 - b=P*((18446744073709551616:Nat)*M - 1 - q)+(P - 1 - r):=by
  rw [hd,← e2,show q+1+d - 1 - q=d by omega,Nat.mul_add,Nat.mul_add,Nat.mul_one]
  omega
 rw [e5,Nat.mul_add_div hp,Nat.div_eq_of_lt (show P - 1 - r<P by omega)]
 omega
theorem r_minus {H:AH} {a b:Nat} (ha:a<(18446744073709551616:Nat)^4) (hb:b<(18446744073709551616:Nat)^4):Called Tryz.prog F.clapperref02_minus [.agg (num a),.agg (num b)] H (.agg (num (a+(18446744073709551616:Nat)^4 - b))) H:=by
 refine e_clapperref02_minus ?_
 have l1:=wd_length 4 a
 have l2:=wd_length 4 b
 simp only [ic_clapperref02_minus,go_sem,one_wd,num_ne]
 refine w_loop _ (fun (i:Nat) => ([(2,.ptr H.length 0),(3,.ptr (H.length+1) 0),(4,.ptr (H.length+2) 0),(5,I i)],H++[⟨num a,0,true⟩,⟨wd i ((18446744073709551616:Nat)^4 - 1 - b)++(num b).drop i,0,true⟩,⟨[W 0,W 0,W 0,W 0],0,true⟩])) (fun i => i≤4) (fun i => 4 - i) 0 (Nat.zero_le _) ?_ ?_
 ·simp [wd,dig]
 intro i hi
 simp only [go_sem]
 refine ⟨fun hh => ?_,fun hh => ?_⟩
 ·have hi:i<4:=by omega
  have x2:b / (18446744073709551616:Nat)^i%(18446744073709551616:Nat)<(18446744073709551616:Nat):=Nat.mod_lt _ (by decide)
  have w2:IntKind.i64.wrap ((i:Int)+1)=((i+1:Nat):Int):=by rw [w64 _ (by omega) (by omega)]; omega
  have w3:IntKind.u64.wrap (18446744073709551615 - ((b / (18446744073709551616:Nat)^i%(18446744073709551616:Nat):Nat):Int))=(((18446744073709551616:Nat) - 1 - b / (18446744073709551616:Nat)^i%(18446744073709551616:Nat):Nat):Int):=by rw [wu64 _ (by omega) (by omega)]; omega
  have ib:((0:Int)≤i)∧(i:Int)<4:=⟨by omega,by omega⟩
  simp only [go_sem,len_part (Nat.le_of_lt hi),get_part hi,w2,w3,set_part hi _ (comp_digit hb hi)]
  have i5:i+1≤(wd i ((18446744073709551616:Nat)^4 - 1 - b)).length+((num b).drop i).length:=by rw [wd_length,List.length_drop,wd_length]; omega
  refine ⟨ib,i5,ib,by first | omega | exact i5,i+1,rfl,rfl,hi,by omega⟩
 ·obtain rfl:i=4:=by omega
  have hC:(18446744073709551616:Nat)^4 - 1 - b<(18446744073709551616:Nat)^4:=by omega
  have e1:wd 4 ((18446744073709551616:Nat)^4 - 1 - b)++(num b).drop 4=num ((18446744073709551616:Nat)^4 - 1 - b):=by
   rw [List.drop_of_length_le (by rw [wd_length]; exact Nat.le_refl _),List.append_nil]
  have e2:[W 1,W 0,W 0,W 0]=num 1:=rfl
  simp only [e1,go_sem,num_take,one_wd,wd_length,num_spliceW,num_splice,l1]
  refine ⟨by rw [List.length_drop,wd_length]; decide,callW_some (r_plus ha hC) (fun _ => rfl) ?_⟩
  simp only [go_sem,num_take,one_wd,wd_length,num_spliceW,num_splice,l1,fillOk,fillv]
  rw [show [AV.lit (Value.int IntKind.u64 1),AV.lit (Value.int IntKind.u64 0),AV.lit (Value.int IntKind.u64 0),AV.lit (Value.int IntKind.u64 0)]=num 1 from rfl,← num_mod (a+_)]
  refine callW_some (r_plus (Nat.mod_lt _ (by decide)) (by decide)) (fun _ => rfl) ?_
  have e6:num ((a+((18446744073709551616:Nat)^4 - 1 - b))%(18446744073709551616:Nat)^4+1)=num (a+(18446744073709551616:Nat)^4 - b):=by
   rw [← num_mod (_+1),← num_mod (a+(18446744073709551616:Nat)^4 - b)]
   congr 1
   omega
  rw [e6]
  simp only [go_sem,num_take,one_wd,wd_length,num_spliceW,num_splice,num_splice',l1]
  exact leave_drop rfl
theorem r_Add {H:AH} {a b m:Nat} (ha:a<m) (hb:b<m) (hm:m<(18446744073709551616:Nat)^4):Called Tryz.prog F.clapperref02_Add [.agg (num a),.agg (num b),.agg (num m)] H (.agg (num (fadd m a b))) H:=by
 refine e_clapperref02_Add ?_
 have lw:=wd_length 4
 have ha':=Nat.lt_trans ha hm
 have hb':=Nat.lt_trans hb hm
 simp only [ic_clapperref02_Add,go_sem,one_wd,num_ne,num_take,lw]
 refine callW_some (r_plus ha' hb') (fun _ => rfl) ?_
 simp only [go_sem,one_wd,num_ne,num_take,lw,num_spliceW,num_splice,num_splice']
 have hs:num (a+b)=num ((a+b)%(18446744073709551616:Nat)^4):=(num_mod _).symm
 rw [hs]
 have hsl:(a+b)%(18446744073709551616:Nat)^4<(18446744073709551616:Nat)^4:=Nat.mod_lt _ (by decide)
 refine callG_of (fun _ => r_less hsl hm) ?_
 simp only [go_sem,one_wd,num_ne,num_take,lw,num_spliceW,num_splice,num_splice']
 refine ⟨fun h => callW_some (r_minus hsl hm) (fun _ => rfl) ?_,fun h => ?_⟩
 ·simp only [go_sem,one_wd,num_ne,num_take,lw,num_spliceW,num_splice,num_splice']
  have:num ((a+b)%(18446744073709551616:Nat)^4+(18446744073709551616:Nat)^4 - m)=num (fadd m a b):=by
   rw [← num_mod (_ - m),← num_mod (fadd m a b),fadd]
   simp only [Bool.or_eq_true,decide_eq_true_eq,Bool.not_eq_true',decide_eq_false_iff_not] at h
   congr 1
   have:m≤a+b:=by omega
   rw [Nat.mod_eq_sub_mod this,Nat.mod_eq_of_lt (show a+b - m<m by omega)]
   omega
  rw [this]
  exact leave_drop rfl
 ·have:num ((a+b)%(18446744073709551616:Nat)^4)=num (fadd m a b):=by
   simp only [Bool.or_eq_false_iff,decide_eq_false_iff_not,Bool.not_eq_false',decide_eq_true_eq] at h
   rw [fadd]
   congr 1
   rw [Nat.mod_eq_of_lt (show a+b<(18446744073709551616:Nat)^4 by omega),Nat.mod_eq_of_lt (show a+b<m by omega)]
  rw [this]
  exact leave_drop rfl
theorem r_Sub {H:AH} {a b m:Nat} (ha:a<m) (hb:b<m) (hm:m<(18446744073709551616:Nat)^4):Called Tryz.prog F.clapperref02_Sub [.agg (num a),.agg (num b),.agg (num m)] H (.agg (num (fsub m a b))) H:=by
 refine e_clapperref02_Sub ?_
 have lw:=wd_length 4
 have ha':=Nat.lt_trans ha hm
 have hb':=Nat.lt_trans hb hm
 simp only [ic_clapperref02_Sub,go_sem,one_wd,num_ne,num_take,lw]
 refine callW_some (r_less ha' hb') (fun _ => rfl) ?_
 simp only [go_sem,one_wd,num_ne,num_take,lw,num_spliceW,num_splice,num_splice']
 have hs:num (a+(18446744073709551616:Nat)^4 - b)=num ((a+(18446744073709551616:Nat)^4 - b)%(18446744073709551616:Nat)^4):=(num_mod _).symm
 have hsl:(a+(18446744073709551616:Nat)^4 - b)%(18446744073709551616:Nat)^4<(18446744073709551616:Nat)^4:=Nat.mod_lt _ (by decide)
 refine ⟨fun h => ?_,fun h => ?_⟩
 ·have h:a<b:=by simpa using h
  refine callW_some ⟨rfl,fun G => r_minus ha' hb'⟩ (fun _ => rfl) ?_
  simp only [go_sem,one_wd,num_ne,num_take,lw,num_spliceW,num_splice,num_splice']
  rw [hs]
  refine callW_some ⟨rfl,fun G => r_plus hsl hm⟩ (fun _ => rfl) ?_
  have:num ((a+(18446744073709551616:Nat)^4 - b)%(18446744073709551616:Nat)^4+m)=num (fsub m a b):=by
   rw [← num_mod (_+m),← num_mod (fsub m a b),fsub]
   congr 1
   rw [Nat.mod_eq_of_lt (show a+(m - b)<m by omega)]
   omega
  rw [this]
  simp only [go_sem,one_wd,num_ne,num_take,lw,num_spliceW,num_splice,num_splice']
  exact leave_drop rfl
 ·refine callW_some (r_minus ha' hb') (fun _ => rfl) ?_
  have:num (a+(18446744073709551616:Nat)^4 - b)=num (fsub m a b):=by
   rw [hs,fsub]
   congr 1
   have h:¬ a<b:=by simpa using h
   rw [show a+(m - b)=(a - b)+m by omega,Nat.add_mod_right,Nat.mod_eq_of_lt (show a - b<m by omega)]
   omega
  rw [this]
  simp only [go_sem,one_wd,num_ne,num_take,lw,num_spliceW,num_splice,num_splice']
  exact leave_drop rfl
theorem grow (m a b i:Nat):fadd m (fadd m (fmul m a (b / 2^(i+1))) (fmul m a (b / 2^(i+1)))) (if b / 2^i%2=1 then a else 0)=fmul m a (b / 2^i):=by
 have e:b / 2^i=2*(b / 2^(i+1))+b / 2^i%2:=by rw [Nat.pow_succ,← Nat.div_div_eq_div_mul]; omega
 generalize b / 2^(i+1)=q at *
 generalize b / 2^i=y at *
 rw [e]
 have h2:y%2=0∨y%2=1:=by omega
 unfold fadd fmul
 have e1:(if (2*q+y%2)%2=1 then a else 0)=a*(y%2):=by
  rcases h2 with h | h <;> rw [h]
  ·rw [if_neg (by omega),Nat.mul_zero]
  ·rw [if_pos (by omega),Nat.mul_one]
 rw [e1,← Nat.add_mod,Nat.mod_add_mod,Nat.mul_add,← Nat.two_mul,Nat.mul_left_comm]
theorem top_of {w j:Nat} (hj:j<64):(9223372036854775808≤((w*2^j%(18446744073709551616:Nat):Nat):Int))=(w / 2^(63 - j)%2=1):=by
 have h1:w*2^j%(18446744073709551616:Nat) / 2^63=w / 2^(63 - j)%2:=by
  rw [show (18446744073709551616:Nat)=2*2^63 by decide,Nat.mod_mul_left_div_self]
  congr 1
  rw [show (2:Nat)^63=2^(63 - j)*2^j by rw [← Nat.pow_add]; congr 1; omega,Nat.mul_div_mul_right _ _ (Nat.pow_pos (by decide))]
 apply propext
 rw [← h1]
 have:=Nat.mod_lt (w*2^j) (show 0<(18446744073709551616:Nat) by decide)
 omega
theorem fadd0 {m a:Nat} (h:a<m):fadd m a 0=a:=by rw [fadd,Nat.add_zero,Nat.mod_eq_of_lt h]
theorem r_Mul {H:AH} {a b m:Nat} (ha:a<m) (hb:b<(18446744073709551616:Nat)^4) (hm:m<(18446744073709551616:Nat)^4):Called Tryz.prog F.clapperref02_Mul [.agg (num a),.agg (num b),.agg (num m)] H (.agg (num (fmul m a b))) H:=by
 refine e_clapperref02_Mul ?_
 have lw:=wd_length 4
 have ha':=Nat.lt_trans ha hm
 have h0:0<m:=by omega
 simp only [ic_clapperref02_Mul,go_sem,one_wd,num_ne,num_take,lw]
 refine w_loop _ (fun (k:Nat) => ([(3,.ptr H.length 0),(4,.ptr (H.length+1) 0),(5,.ptr (H.length+2) 0),(6,.ptr (H.length+3) 0),(7,.ptr (H.length+4) 0),(8,I (3 - (k:Int)))],H++[⟨num a,0,true⟩,⟨num b,0,true⟩,⟨num m,0,true⟩,⟨[W 0,W 0,W 0,W 0],0,true⟩,⟨num (fmul m a (b / 2^(256 - 64*k))),0,true⟩])) (fun k => k≤4) (fun k => 4 - k) 0 (Nat.zero_le _) ?_ ?_
 ·have:b / 2^256=0:=Nat.div_eq_of_lt (by rw [show (2:Nat)^256=(18446744073709551616:Nat)^4 by decide]; exact hb)
  simp only [Nat.mul_zero,Nat.sub_zero,this,fmul,Nat.zero_mod]; rfl
 intro k hk
 simp only [go_sem]
 refine ⟨fun hh => ?_,fun hh => ?_⟩
 ·obtain ⟨i,hi,hi4⟩:∃ i:Nat,3 - (k:Int)=i∧i<4:=⟨3 - k,by omega,by omega⟩
  have w2:IntKind.i64.wrap ((i:Int) - 1)=3 - ((k+1:Nat):Int):=by rw [w64 _ (by omega) (by omega)]; omega
  simp only [hi,go_sem,lw,wd_get hi4]
  refine ⟨⟨by omega,by omega⟩,by omega,?_⟩
  have hw:b / (18446744073709551616:Nat)^i%(18446744073709551616:Nat)<(18446744073709551616:Nat):=Nat.mod_lt _ (by decide)
  refine w_loop _ (fun (j:Nat) => ([(3,.ptr H.length 0),(4,.ptr (H.length+1) 0),(5,.ptr (H.length+2) 0),(6,.ptr (H.length+3) 0),(7,.ptr (H.length+4) 0),(8,I i),(9,W (b / (18446744073709551616:Nat)^i%(18446744073709551616:Nat)*2^j%(18446744073709551616:Nat))),(10,I j)],H++[⟨num a,0,true⟩,⟨num b,0,true⟩,⟨num m,0,true⟩,⟨[W 0,W 0,W 0,W 0],0,true⟩,⟨num (fmul m a (b / 2^(64*(i+1) - j))),0,true⟩])) (fun j => j≤64) (fun j => 64 - j) 0 (Nat.zero_le _) ?_ ?_
  ·rw [show 256 - 64*k=64*(i+1) - 0 by omega,Nat.pow_zero,Nat.mul_one,Nat.mod_mod]; rfl
  intro j hj
  simp only [go_sem]
  refine ⟨fun hh => ?_,fun hh => ?_⟩
  ·have hj:j<64:=by omega
   simp only [go_sem,one_wd,num_ne,num_take,lw]
   have hf:=fmul_lt h0 a (b / 2^(64*(i+1) - j))
   refine callW_some (r_Add hf hf hm) (fun _ => rfl) ?_
   simp only [go_sem,one_wd,num_ne,num_take,lw,num_spliceW,num_splice,num_splice']
   have tb:(9223372036854775808≤((b / (18446744073709551616:Nat)^i%(18446744073709551616:Nat)*2^j%(18446744073709551616:Nat):Nat):Int))=(b / 2^(64*(i+1) - (j+1))%2=1):=by
    rw [top_of hj]
    have:=bit_digit b (64*(i+1) - (j+1))
    rw [show (64*(i+1) - (j+1)) / 64=i by omega,show (64*(i+1) - (j+1))%64=63 - j by omega] at this
    rw [this]
   have g:=grow m a b (64*(i+1) - (j+1))
   rw [show 64*(i+1) - (j+1)+1=64*(i+1) - j by omega] at g
   have w3:IntKind.u64.wrap (((b / (18446744073709551616:Nat)^i%(18446744073709551616:Nat)*2^j%(18446744073709551616:Nat):Nat):Int)+((b / (18446744073709551616:Nat)^i%(18446744073709551616:Nat)*2^j%(18446744073709551616:Nat):Nat):Int))=((b / (18446744073709551616:Nat)^i%(18446744073709551616:Nat)*2^(j+1)%(18446744073709551616:Nat):Nat):Int):=by
    rw [← Int.natCast_add,wumod,← Nat.two_mul,Nat.mul_mod_mod,Nat.pow_succ]
    congr 2
    generalize b / (18446744073709551616:Nat)^i%(18446744073709551616:Nat)=u
    rw [Nat.mul_comm 2,Nat.mul_assoc]
   have w4:IntKind.i64.wrap ((j:Int)+1)=((j+1:Nat):Int):=by rw [w64 _ (by omega) (by omega)]; omega
   have fl:=fadd_lt h0 (fmul m a (b / 2^(64*(i+1) - j))) (fmul m a (b / 2^(64*(i+1) - j)))
   simp only [tb]
   refine ⟨fun h => callW_some (r_Add fl ha hm) (fun _ => rfl) ?_,fun h => ?_⟩
   ·rw [if_pos h] at g
    rw [g]
    simp only [go_sem,one_wd,num_ne,num_take,lw,num_spliceW,num_splice,num_splice',w3,w4]
    exact ⟨j+1,rfl,rfl,hj,by omega⟩
   ·rw [if_neg h,fadd0 fl] at g
    rw [g]
    simp only [go_sem,w3,w4]
    exact ⟨j+1,rfl,rfl,hj,by omega⟩
  ·obtain rfl:j=64:=by omega
   simp only [w2]
   exact ⟨k+1,rfl,by rw [show 64*(i+1) - 64=256 - 64*(k+1) by omega],by omega,by omega⟩
 ·obtain rfl:k=4:=by omega
  simp only [go_sem,one_wd,num_ne,num_take,lw,num_spliceW,num_splice,num_splice',Nat.reduceMul,Nat.sub_self,Nat.pow_zero,Nat.div_one]
  exact leave_drop rfl
set_option maxRecDepth 10000
abbrev pt16 (k n:Nat):List AV:=(dig (65536:Nat) k n).map fun d => I ((d:Nat):Int)
theorem pt_len (k n:Nat):(pt16 k n).length=k:=by simp [pt16,dig_length]
theorem pt_succ (k n:Nat):pt16 (k+1) n=pt16 k n++[I ((n / (65536:Nat)^k%(65536:Nat):Nat):Int)]:=by
 rw [pt16,dig_succ,List.map_append]; rfl
theorem pt_get {k n i:Nat} (h:i<k):(pt16 k n).getD i .junk=I ((n / (65536:Nat)^i%(65536:Nat):Nat):Int):=by
 have:=dig_get (B:=(65536:Nat)) k n i h
 rw [List.getD_eq_getElem?_getD] at this ⊢
 have hl:i<(dig (65536:Nat) k n).length:=by rw [dig_length]; exact h
 rw [List.getElem?_eq_getElem hl,Option.getD_some] at this
 rw [pt16,List.getElem?_map,List.getElem?_eq_getElem hl,Option.map_some,Option.getD_some,this]
theorem part_digit (a i k:Nat) (hk:k<4):a / (18446744073709551616:Nat)^i%(18446744073709551616:Nat) / (65536:Nat)^k%(65536:Nat)=a / (65536:Nat)^(4*i+k)%(65536:Nat):=by
 have e1:(18446744073709551616:Nat)^i=(65536:Nat)^(4*i):=by rw [Nat.pow_mul]
 have e2:(18446744073709551616:Nat)=(65536:Nat)^k*(65536:Nat)^(4 - k):=by rw [← Nat.pow_add,show k+(4 - k)=4 by omega]
 have e3:(65536:Nat)^(4 - k)=(65536:Nat)*(65536:Nat)^(3 - k):=by rw [← Nat.pow_succ']; congr 1; omega
 rw [e1,Nat.pow_add,← Nat.div_div_eq_div_mul]
 generalize a / (65536:Nat)^(4*i)=x
 conv => lhs; rw [e2]
 rw [Nat.mod_mul_right_div_self,e3,Nat.mod_mul_right_mod]
theorem r_partsL {H:AH} (a:Nat) {v:AV} {H':AH} (hl:Leave H (.row (H.length+1) 0 16 16) (H++[⟨num a,0,true⟩,⟨pt16 16 a,1,true⟩]) v H'):Called Tryz.prog F.clapperref01_Parts [.agg (num a)] H v H':=by
 refine e_clapperref01_Parts ?_
 have lw:=wd_length 4 a
 simp only [ic_clapperref01_Parts,go_sem,one_wd,num_ne]
 refine w_loop _ (fun (i:Nat) => ([(1,.ptr H.length 0),(3,rA (H++[⟨num a,0,true⟩]) (pt16 (4*i) a) (4*i)),(4,I i)],hA 1 (H++[⟨num a,0,true⟩]) (pt16 (4*i) a) (4*i))) (fun i => i≤4) (fun i => 4 - i) 0 (Nat.zero_le _) rfl ?_
 intro i hi
 have hH:H.length<(H++[(⟨num a,0,true⟩:AObj)]).length:=by simp
 have oH:∀ vs n,obj (hA 1 (H++[⟨num a,0,true⟩]) vs n) H.length=⟨num a,0,true⟩:=fun vs n => by rw [hA_old hH,obj_app0]; rfl
 have lH:∀ vs n,H.length<(hA 1 (H++[⟨num a,0,true⟩]) vs n).length:=fun vs n => Nat.lt_of_lt_of_le hH hA_len
 simp only [go_sem]
 refine ⟨fun hh => ?_,fun hh => ?_⟩
 ·have hi:i<4:=by omega
  simp only [go_sem,oH,lH,lw,wd_get hi]
  refine ⟨⟨by omega,by omega⟩,by omega,?_⟩
  refine w_loop _ (fun (k:Nat) => ([(1,.ptr H.length 0),(3,rA (H++[⟨num a,0,true⟩]) (pt16 (4*i+k) a) (4*i+k)),(4,I i),(5,W (a / (18446744073709551616:Nat)^i%(18446744073709551616:Nat) / (65536:Nat)^k)),(6,I k)],hA 1 (H++[⟨num a,0,true⟩]) (pt16 (4*i+k) a) (4*i+k))) (fun k => k≤4) (fun k => 4 - k) 0 (Nat.zero_le _) (by rw [Nat.pow_zero,Nat.div_one]; rfl) ?_
  intro k hk
  simp only [go_sem]
  refine ⟨fun hh => ?_,fun hh => ?_⟩
  ·have hk:k<4:=by omega
   have dg:=part_digit a i k hk
   have w1:IntKind.i64.wrap (((a / (18446744073709551616:Nat)^i%(18446744073709551616:Nat) / (65536:Nat)^k:Nat):Int).tmod 65536)=((a / (65536:Nat)^(4*i+k)%(65536:Nat):Nat):Int):=by
    rw [Int.tmod_eq_emod_of_nonneg (Int.natCast_nonneg _),← dg,w64 _ (by omega) (by omega)]; omega
   have w3:IntKind.u64.wrap (((a / (18446744073709551616:Nat)^i%(18446744073709551616:Nat) / (65536:Nat)^k:Nat):Int).tdiv 65536)=((a / (18446744073709551616:Nat)^i%(18446744073709551616:Nat) / (65536:Nat)^(k+1):Nat):Int):=by
    have hlt:a / (18446744073709551616:Nat)^i%(18446744073709551616:Nat) / (65536:Nat)^k<(18446744073709551616:Nat):=Nat.lt_of_le_of_lt (Nat.div_le_self _ _) (Nat.mod_lt _ (by decide))
    rw [Int.tdiv_eq_ediv_of_nonneg (Int.natCast_nonneg _),Nat.pow_succ,← Nat.div_div_eq_div_mul]
    generalize a / (18446744073709551616:Nat)^i%(18446744073709551616:Nat) / (65536:Nat)^k=x at *
    rw [wu64 _ (by omega) (by omega)]; omega
   have w4:IntKind.i64.wrap ((k:Int)+1)=((k+1:Nat):Int):=by rw [w64 _ (by omega) (by omega)]; omega
   rw [w1]
   obtain ⟨⟨_,_,b3,b4⟩,q2,q3⟩:=build_app (sz:=1) (H:=H++[⟨num a,0,true⟩]) (vs:=pt16 (4*i+k) a) (n:=4*i+k) (b:=8) (s:=.view [I ((a / (65536:Nat)^(4*i+k)%(65536:Nat):Nat):Int)] 1 true) (cs:=[I ((a / (65536:Nat)^(4*i+k)%(65536:Nat):Nat):Int)]) (by rw [pt_len]; omega) rfl rfl rfl rfl (by omega)
   refine ⟨by decide,⟨b3,b4⟩,by decide,k+1,?_,?_,hk,by omega⟩
   ·rw [w3,w4,q2,← pt_succ]; rfl
   ·rw [q3,← pt_succ]; rfl
  ·obtain rfl:k=4:=by omega
   have w4:IntKind.i64.wrap ((i:Int)+1)=((i+1:Nat):Int):=by rw [w64 _ (by omega) (by omega)]; omega
   exact ⟨i+1,by rw [w4]; rfl,rfl,hi,by omega⟩
 ·obtain rfl:i=4:=by omega
  have e:hA 1 (H++[⟨num a,0,true⟩]) (pt16 (4*4) a) (4*4)=H++[⟨num a,0,true⟩,⟨pt16 16 a,1,true⟩]:=by
   simp only [hA,List.append_assoc]; rfl
  have e2:rA (H++[(⟨num a,0,true⟩:AObj)]) (pt16 (4*4) a) (4*4)=.row (H.length+1) 0 16 16:=by
   rw [rA,if_neg (by decide),pt_len,List.length_append]; rfl
  rw [e2,e]
  exact hl
theorem pure_pt (k n:Nat):pureL (pt16 k n)=true:=pure_map (fun d:Nat => I ((d:Nat):Int)) (fun _ => rfl) _
theorem r_parts {H:AH} (a:Nat):Called Tryz.prog F.clapperref01_Parts [.agg (num a)] H (.view (pt16 16 a) 16 false) H:=by
 refine r_partsL a (leave_drop (G:=[⟨num a,0,true⟩,⟨pt16 16 a,1,true⟩]) ?_)
 have e:H++[⟨num a,0,true⟩,⟨pt16 16 a,1,true⟩]=(H++[⟨num a,0,true⟩])++[⟨pt16 16 a,1,true⟩]:=by rw [List.append_assoc]; rfl
 have e2:AV.row (H.length+1) 0 16 16=.row (H++[(⟨num a,0,true⟩:AObj)]).length 0 16 16:=by rw [List.length_append]; rfl
 rw [e2,e]
 refine low_newrow (sz:=1) (n:=16) ?_ (by decide) (by rw [pt_len]) (pure_pt _ _) true 16 (by rw [pt_len])
 rw [List.length_append]; exact renk_none_add _ _
theorem cmp_step (a b i:Nat):cmpN (a%(65536:Nat)^(i+1)) (b%(65536:Nat)^(i+1))=if a / (65536:Nat)^i%(65536:Nat)<b / (65536:Nat)^i%(65536:Nat) then -1 else if b / (65536:Nat)^i%(65536:Nat)<a / (65536:Nat)^i%(65536:Nat) then 1 else cmpN (a%(65536:Nat)^i) (b%(65536:Nat)^i):=by
 have hp:0<(65536:Nat)^i:=Nat.pow_pos (by decide)
 have ha:=Nat.mod_lt a hp
 have hb:=Nat.mod_lt b hp
 rw [Nat.pow_succ,Nat.mod_mul,Nat.mod_mul]
 generalize a / (65536:Nat)^i%(65536:Nat)=x at *
 generalize b / (65536:Nat)^i%(65536:Nat)=y at *
 generalize a%(65536:Nat)^i=r at *
 generalize b%(65536:Nat)^i=s at *
 generalize (65536:Nat)^i=P at *
 have lt:∀ x y r s:Nat,r<P→x<y→r+P*x<s+P*y:=fun x y r s hr h => by
  have:=Nat.mul_le_mul_left P (show x+1≤y from h)
  rw [Nat.mul_add] at this
  omega
 split
 ·rename_i h
  have:=lt x y r s ha h
  rw [cmpN,if_pos this]
 ·split
  ·rename_i h
   have:=lt y x s r hb h
   rw [cmpN,if_neg (by omega),if_pos this]
  ·obtain rfl:x=y:=by omega
   unfold cmpN
   simp only [Nat.add_lt_add_iff_right]
theorem r_Cmp {H:AH} {a b:Nat} (ha:a<(18446744073709551616:Nat)^4) (hb:b<(18446744073709551616:Nat)^4):Called Tryz.prog F.clapperref01_Cmp [.agg (num a),.agg (num b)] H (I (cmpN a b)) H:=by
 refine e_clapperref01_Cmp ?_
 have lw:=wd_length 4
 simp only [ic_clapperref01_Cmp,go_sem,one_wd,num_ne,num_take,lw]
 refine callW_some (r_parts a) (fun _ => rfl) ?_
 simp only [go_sem,one_wd,num_ne,num_take,lw]
 refine callW_some (r_parts b) (fun _ => rfl) ?_
 simp only [go_sem]
 refine w_loop _ (fun (i:Nat) => ([(5,.view (pt16 16 a) 16 false),(6,.view (pt16 16 b) 16 false),(7,I (cmpN (a%(65536:Nat)^i) (b%(65536:Nat)^i))),(8,I i)],H++[⟨num a,0,true⟩,⟨num b,0,true⟩])) (fun i => i≤16) (fun i => 16 - i) 0 (Nat.zero_le _) (by simp [Nat.mod_one,cmpN]) ?_
 intro i hi
 simp only [go_sem]
 refine ⟨fun hh => ?_,fun hh => ?_⟩
 ·have hi:i<16:=by omega
  have el:∀ n,elt (pt16 16 n) 1 i=[I ((n / (65536:Nat)^i%(65536:Nat):Nat):Int)]:=fun n => by
   have:=pt_get (n:=n) hi
   rw [elt,Nat.mul_one,drop_cons (show i<(pt16 16 n).length by rw [pt_len]; exact hi) .junk,this]; rfl
  have w4:IntKind.i64.wrap ((i:Int)+1)=((i+1:Nat):Int):=by rw [w64 _ (by omega) (by omega)]; omega
  have st:=cmp_step a b i
  have q1:∀ x y:Nat,((x:Int)<(y:Int))=(x<y):=fun x y => propext Int.ofNat_lt
  simp only [go_sem,el,w4,pt_len,q1]
  have ib:((0:Int)≤i)∧i<16:=⟨by omega,hi⟩
  have nx:∀ v,v=cmpN (a%(65536:Nat)^(i+1)) (b%(65536:Nat)^(i+1))→∃ a':Nat,look [(5,AV.view (pt16 16 a) 16 false),(6,AV.view (pt16 16 b) 16 false),(7,I v),(8,AV.lit (Value.int IntKind.i64 ↑(i+1)))]=look [(5,AV.view (pt16 16 a) 16 false),(6,AV.view (pt16 16 b) 16 false),(7,I (cmpN (a%65536^a') (b%65536^a'))),(8,I ↑a')]∧a'≤16∧16 - a'<16 - i:=fun v hv => ⟨i+1,by rw [hv],hi,by omega⟩
  rw [st] at nx
  refine ⟨ib,ib,fun h1 => ⟨ib,ib,fun h2 => absurd h1 (by omega),fun h2 => nx _ (by rw [if_pos h1])⟩,fun h1 => ⟨ib,ib,fun h2 => nx _ (by rw [if_neg h1,if_pos h2]),fun h2 => nx _ (by rw [if_neg h1,if_neg h2])⟩⟩
 ·obtain rfl:i=16:=by omega
  refine leave_drop ?_
  rw [show (65536:Nat)^16=(18446744073709551616:Nat)^4 by decide,Nat.mod_eq_of_lt ha,Nat.mod_eq_of_lt hb]; rfl
set_option maxRecDepth 10000
theorem r_P {H:AH}:Called Tryz.prog F.clapperref05_P [] H (.agg (num (115792089210356248762697446949407573530086143415290314195533631308867097853951:Nat))) H:=by
 refine e_clapperref05_P ?_
 simp only [ic_clapperref05_P,go_sem,fillOk,fillv]
 have e:[AV.lit (.int .u64 18446744073709551615),.lit (.int .u64 4294967295),Z0,.lit (.int .u64 18446744069414584321)]=num (115792089210356248762697446949407573530086143415290314195533631308867097853951:Nat):=rfl
 simp only [e,num_splice,num_take,one_wd,wd_length,go_sem]
 exact leave_drop rfl
theorem r_mul {H:AH} {x y:Nat} (hx:x<(115792089210356248762697446949407573530086143415290314195533631308867097853951:Nat)) (hy:y<(115792089210356248762697446949407573530086143415290314195533631308867097853951:Nat)):Called Tryz.prog F.clapperref05_mul [.agg (num x),.agg (num y)] H (.agg (num (fmul (115792089210356248762697446949407573530086143415290314195533631308867097853951:Nat) x y))) H:=by
 have hPP:(115792089210356248762697446949407573530086143415290314195533631308867097853951:Nat)<(18446744073709551616:Nat)^4:=mo_P.lt
 refine e_clapperref05_mul ?_
 simp only [ic_clapperref05_mul,go_sem,one_wd,num_ne,num_take,wd_length]
 refine callW_some r_P (fun _ => rfl) ?_
 simp only [go_sem,one_wd,num_ne,num_take,wd_length]
 refine callW_some (r_Mul hx (Nat.lt_trans hy hPP) hPP) (fun _ => rfl) ?_
 generalize fmul (115792089210356248762697446949407573530086143415290314195533631308867097853951:Nat) x y=z
 simp only [go_sem,one_wd,num_ne,num_take,wd_length,num_splice,num_spliceW]
 exact leave_drop rfl
theorem r_sub {H:AH} {x y:Nat} (hx:x<(115792089210356248762697446949407573530086143415290314195533631308867097853951:Nat)) (hy:y<(115792089210356248762697446949407573530086143415290314195533631308867097853951:Nat)):Called Tryz.prog F.clapperref05_sub [.agg (num x),.agg (num y)] H (.agg (num (fsub (115792089210356248762697446949407573530086143415290314195533631308867097853951:Nat) x y))) H:=by
 have hPP:(115792089210356248762697446949407573530086143415290314195533631308867097853951:Nat)<(18446744073709551616:Nat)^4:=mo_P.lt
 refine e_clapperref05_sub ?_
 simp only [ic_clapperref05_sub,go_sem,one_wd,num_ne,num_take,wd_length]
 refine callW_some r_P (fun _ => rfl) ?_
 simp only [go_sem,one_wd,num_ne,num_take,wd_length]
 refine callW_some (r_Sub hx hy hPP) (fun _ => rfl) ?_
 generalize fsub (115792089210356248762697446949407573530086143415290314195533631308867097853951:Nat) x y=z
 simp only [go_sem,one_wd,num_ne,num_take,wd_length,num_splice,num_spliceW]
 exact leave_drop rfl
end Go.Proofs.YtgfploghjpbcaaaGreat.Eng
namespace Go.Proofs.YtgfploghjpbcaaaGreat.Eng
open Go
set_option linter.unusedVariables false
set_option linter.unusedSimpArgs false
theorem blen_half {u:Nat} (h:u≠0):blen (u / 2)+1=blen u:=by
 by_cases h1:u=1
 ·subst h1; decide
 ·have:=blen_shift (x:=u) (k:=1) (by omega)
  rw [Nat.pow_one] at this
  omega
theorem blen_mono {a b:Nat} (h:a≤b):blen a≤blen b:=by
 unfold blen
 split
 ·omega
 ·rename_i h0
  rw [if_neg (show ¬ b=0 by omega)]
  have h1:b<2^(b.log2+1):=Nat.lt_log2_self
  have:=(Nat.log2_lt h0).2 (Nat.lt_of_le_of_lt h h1)
  omega
theorem blen_pos {a:Nat} (h:a≠0):0<blen a:=by unfold blen; rw [if_neg h]; omega
theorem blen_le_of {a k:Nat} (h:a<2^k):blen a≤k:=by
 unfold blen
 split
 ·omega
 ·rename_i h0
  have:=(Nat.log2_lt h0).2 h
  omega
def mI (u v:Nat):Nat:=2*(blen u+blen v)+u%2
structure InvI (m a u v x y:Nat):Prop where
 vo:v%2=1
 xl:x<m
 yl:y<m
 cu:Cg m u (x*a)
 cv:Cg m v (y*a)
 g:Nat.gcd u v=Nat.gcd a m
 ub:u≤m
 vb:v≤m
section
variable {m a u v x y:Nat}
theorem InvI.start (ho:m%2=1) (hm:1<m) (ha:a<m):InvI m a a m 1 0 :=
 ⟨ho,hm,by omega,by rw [Nat.one_mul]; exact ⟨0,by omega⟩,by rw [Nat.zero_mul]; exact ⟨1,by omega⟩,rfl,by omega,Nat.le_refl _⟩
theorem InvI.even (h:InvI m a u v x y) (ho:m%2=1) (h0:u≠0) (he:u%2=0):InvI m a (u / 2) v (hlf m x) y∧mI (u / 2) v<mI u v:=by
 refine ⟨⟨h.vo,hlf_lt h.xl,h.yl,hlf_cg ho (by rw [show 2*(u / 2)=u by omega]; exact h.cu),h.cv,?_,by have:=h.ub; omega,h.vb⟩,?_⟩
 ·rw [← h.g]
  conv => rhs; rw [show u=2*(u / 2) by omega]
  have:Nat.Coprime 2 v:=by
   show Nat.gcd 2 v=1
   rw [Nat.gcd_rec,h.vo]; rfl
  rw [this.gcd_mul_left_cancel]
 ·have:=blen_half h0
  unfold mI
  omega
theorem InvI.less (h:InvI m a u v x y) (ho:m%2=1) (h1:u%2=1) (hl:u<v):InvI m a (v - u) u (fsub m y x) x∧mI (v - u) u<mI u v:=by
 have hv:=h.vo
 refine ⟨⟨h1,Nat.mod_lt _ (by have:=h.xl; omega),h.xl,cg_sub (by omega) h.xl h.cv h.cu,h.cu,?_,by have:=h.vb; omega,h.ub⟩,?_⟩
 ·rw [← h.g,Nat.gcd_comm,Nat.gcd_sub_self_right (m:=u) (n:=v) (by omega)]
 ·have h2:blen (v - u)≤blen v:=blen_mono (by omega)
  unfold mI
  omega
theorem InvI.more (h:InvI m a u v x y) (ho:m%2=1) (h1:u%2=1) (hl:¬ u<v):InvI m a (u - v) v (fsub m x y) y∧mI (u - v) v<mI u v:=by
 have hv:=h.vo
 refine ⟨⟨hv,Nat.mod_lt _ (by have:=h.xl; omega),h.yl,cg_sub (by omega) h.yl h.cu h.cv,h.cv,?_,by have:=h.ub; omega,h.vb⟩,?_⟩
 ·rw [← h.g,Nat.gcd_comm,Nat.gcd_sub_self_right (m:=v) (n:=u) (by omega),Nat.gcd_comm]
 ·have h2:blen (u - v)≤blen u:=blen_mono (by omega)
  unfold mI
  omega
theorem InvI.done (h:InvI m a 0 v x y) (hm:1<m) (hg:Nat.gcd a m=1):v=1∧y=minv m a:=by
 have hv:v=1:=by have:=h.g; rw [Nat.gcd_zero_left,hg] at this; exact this
 refine ⟨hv,(minv_eq h.yl ?_).symm⟩
 obtain ⟨c,hc⟩:=h.cv
 rw [hv] at hc
 have:(((a*y:Nat)%m:Nat):Int)=1:=by
  rw [Int.natCast_emod,Nat.mul_comm a y,show ((y*a:Nat):Int)=1+m*(-c) by rw [Int.mul_neg,← hc]; omega,Int.add_mul_emod_self_left]
  exact Int.emod_eq_of_lt (by decide) (by omega)
 omega
theorem mI_top (hm:m<2^256) (ha:a<m):mI a m≤1025:=by
 have h1:=blen_le_of (a:=a) (k:=256) (by omega)
 have h2:=blen_le_of hm
 unfold mI
 omega
theorem mI_low (h:u≠0) (hv:v%2=1):4≤mI u v:=by
 have h1:=blen_pos h
 have h2:=blen_pos (a:=v) (by omega)
 unfold mI
 omega
end
abbrev hl (n i:Nat):List AV:=wd i (n / 2)++(wd 4 n).drop i
section
variable {n i:Nat}
theorem hl_set (hi:i<4) (v:AV):((hl n i).set i v).getD i .junk=v:=by
 have:=len_part (n:=n / 2) (a:=n) (Nat.le_of_lt hi)
 rw [List.getD_eq_getElem?_getD,List.getElem?_set_self (by rw [this]; exact hi)]; rfl
theorem hl_get1 (hi:i<3) (v:AV):((hl n i).set i v).getD (i+1) .junk=W (n / (18446744073709551616:Nat)^(i+1)%(18446744073709551616:Nat)):=by
 rw [List.getD_eq_getElem?_getD,List.getElem?_set_ne (by omega),List.getElem?_append_right (by rw [wd_length]; omega),wd_length,List.getElem?_drop,show i+(i+1 - i)=i+1 by omega,← List.getD_eq_getElem?_getD,wd_get (by omega)]
theorem hl_len1 (hi:i<4) (v:AV):((hl n i).set i v).length=4:=by rw [List.length_set,len_part (Nat.le_of_lt hi)]
theorem hl_next (hi:i<4) (v:Nat) (hv:n / 2 / (18446744073709551616:Nat)^i%(18446744073709551616:Nat)=v):(hl n i).set i (W v)=hl n (i+1):=set_part hi v hv
theorem hl_next2 (hi:i<4) (x:AV) (v:Nat) (hv:n / 2 / (18446744073709551616:Nat)^i%(18446744073709551616:Nat)=v):((hl n i).set i x).set i (W v)=hl n (i+1):=by rw [List.set_set]; exact set_part hi v hv
theorem hl_four:hl n 4=num (n / 2):=by
 show wd 4 (n / 2)++(wd 4 n).drop 4=_
 rw [List.drop_of_length_le (by rw [wd_length]; exact Nat.le_refl _),List.append_nil]
end
theorem wquo2 (d:Nat) (h:d<(18446744073709551616:Nat)):IntKind.u64.wrap ((d:Int).tdiv 2)=((d / 2:Nat):Int):=by
 rw [Int.tdiv_eq_ediv_of_nonneg (Int.natCast_nonneg _),wu64 _ (by omega) (by omega)]; omega
theorem rem2 (d:Nat):(((d:Int).tmod 2 == 1):Bool)=decide (d%2=1):=by
 rw [Int.tmod_eq_emod_of_nonneg (Int.natCast_nonneg _),Bool.eq_iff_iff,beq_iff_eq,decide_eq_true_eq]; omega
theorem wtop (d:Nat) (h:d<9223372036854775808):IntKind.u64.wrap ((d:Int)+9223372036854775808)=((d+9223372036854775808:Nat):Int):=by
 rw [wu64 _ (by omega) (by omega)]; omega
theorem half_dig {n i:Nat}:n / 2 / (18446744073709551616:Nat)^i%(18446744073709551616:Nat)=(n / (18446744073709551616:Nat)^i%(18446744073709551616:Nat)) / 2+(n / (18446744073709551616:Nat)^(i+1)%(18446744073709551616:Nat))%2*9223372036854775808:=half_digit n i
theorem half_last {n:Nat} (h:n<(18446744073709551616:Nat)^4):n / 2 / (18446744073709551616:Nat)^3%(18446744073709551616:Nat)=(n / (18446744073709551616:Nat)^3%(18446744073709551616:Nat)) / 2:=by
 rw [half_digit,Nat.div_eq_of_lt h]; simp
theorem num_top {n:Nat} (h:n<(18446744073709551616:Nat)^4):(num (n / 2)).set 3 (W (n / 2 / (18446744073709551616:Nat)^3%(18446744073709551616:Nat)+9223372036854775808))=num ((n+(18446744073709551616:Nat)^4) / 2):=by
 have hb:n / 2 / (18446744073709551616:Nat)^3%(18446744073709551616:Nat)+9223372036854775808<(18446744073709551616:Nat):=by rw [half_last h]; omega
 have:=wd_set (k:=4) (n:=n / 2) (j:=3) (c:=9223372036854775808) (by decide) hb
 rw [this]
 congr 1
 omega
theorem half_tail {H:AH} {n m:Nat} {top:Bool} {v:AV} (hn:n<(18446744073709551616:Nat)^4) (hv:v=.agg (num ((n+(if top then (18446744073709551616:Nat)^4 else 0)) / 2))):iwp (pfx false) (Called Tryz.prog) ic_clapperref02_half_6 (retQ [.c 4 true 4] H v H) (look [(2,.ptr H.length 0),(4,.ptr (H.length+2) 0),(5,Bl top)]) (H++[⟨num n,0,true⟩,⟨num m,0,true⟩,⟨[W 0,W 0,W 0,W 0],0,true⟩]):=by
 have lw:=wd_length 4
 have g3:(num (n / 2)).getD 3 .junk=W (n / 2 / (18446744073709551616:Nat)^3%(18446744073709551616:Nat)):=wd_get (by decide)
 simp only [ic_clapperref02_half_6,go_sem]
 refine w_loop _ (fun (i:Nat) => ([(2,.ptr H.length 0),(4,.ptr (H.length+2) 0),(5,Bl top),(6,I i)],H++[⟨hl n i,0,true⟩,⟨num m,0,true⟩,⟨[W 0,W 0,W 0,W 0],0,true⟩])) (fun i => i≤4) (fun i => 4 - i) 0 (Nat.zero_le _) rfl ?_
 intro i hi
 simp only [go_sem]
 refine ⟨fun hh => ?_,fun hh => ?_⟩
 ·have hi:i<4:=by omega
  have ib:((0:Int)≤i)∧(i:Int)<4:=⟨by omega,by omega⟩
  have i5:i+1≤(wd i (n / 2)).length+((num n).drop i).length:=by rw [wd_length,List.length_drop,wd_length]; omega
  have d1:n / (18446744073709551616:Nat)^i%(18446744073709551616:Nat)<(18446744073709551616:Nat):=Nat.mod_lt _ (by decide)
  have w4:IntKind.i64.wrap ((i:Int)+1)=((i+1:Nat):Int):=by rw [w64 _ (by omega) (by omega)]; omega
  have next:∀ L,L=hl n (i+1)→∃ a':Nat,look [(2,AV.ptr H.length 0),(4,AV.ptr (H.length+2) 0),(5,Bl top),(6,AV.lit (Value.int IntKind.i64 ↑(i+1)))]=look [(2,AV.ptr H.length 0),(4,AV.ptr (H.length+2) 0),(5,Bl top),(6,I ↑a')]∧H++[⟨L,0,true⟩,⟨num m,0,true⟩,⟨[W 0,W 0,W 0,W 0],0,true⟩]=H++[⟨hl n a',0,true⟩,⟨num m,0,true⟩,⟨[W 0,W 0,W 0,W 0],0,true⟩]∧a'≤4∧4 - a'<4 - i:=fun L hL => ⟨i+1,rfl,by rw [hL],by omega,by omega⟩
  have hd:=half_dig (n:=n) (i:=i)
  by_cases h3:i<3
  ·have z:decide ((i:Int)<3)=true:=by rw [decide_eq_true_eq]; omega
   have d2:n / (18446744073709551616:Nat)^i%(18446744073709551616:Nat) / 2<9223372036854775808:=by omega
   simp only [go_sem,len_part (Nat.le_of_lt hi),get_part hi,hl_set hi,hl_len1 hi,hl_get1 h3,wquo2 _ d1,w4,z,rem2,wtop _ d2]
   refine ⟨ib,i5,by decide,ib,i5,fun _ => ⟨by omega,by omega⟩,fun _ => by omega,fun _ => by decide,fun hb => ⟨ib,by omega,ib,by omega,next _ ?_⟩,fun hb => next _ ?_⟩
   ·exact hl_next2 hi _ _ (by rw [hd,hb])
   ·exact hl_next hi _ (by rw [hd,show n / (18446744073709551616:Nat)^(i+1)%(18446744073709551616:Nat)%2=0 by omega]; simp)
  ·obtain rfl:i=3:=by omega
   have z:decide (((3:Nat):Int)<3)=false:=by decide
   have zz:(((3:Nat):Int)<3)=False:=by simp
   simp only [go_sem,len_part (Nat.le_of_lt hi),get_part hi,hl_set hi,hl_len1 hi,wquo2 _ d1,w4,z,zz,decide_false]
   exact ⟨ib,i5,by decide,ib,i5,next _ (hl_next hi _ (by rw [half_last hn]))⟩
 ·obtain rfl:i=4:=by omega
  simp only [go_sem,hl_four,lw,g3]
  subst hv
  refine ⟨fun ht => ?_,fun ht => ?_⟩
  ·subst ht
   have d3:n / 2 / (18446744073709551616:Nat)^3%(18446744073709551616:Nat)<9223372036854775808:=by rw [half_last hn]; omega
   simp only [wtop _ d3,num_top hn,go_sem,if_true,one_wd,num_ne,num_take,lw,num_spliceW]
   exact ⟨by decide,Nat.le_add_right _ _,by decide,Nat.le_add_right _ _,leave_drop (by simp only [low,lowL_wd])⟩
  ·subst ht
   rw [if_neg (by decide),Nat.add_zero]
   try simp only [go_sem,one_wd,num_ne,num_take,lw,num_spliceW,Nat.add_zero,Bool.false_eq_true,if_false]
   exact ⟨Nat.le_add_right _ _,leave_drop (by simp only [low,lowL_wd])⟩
theorem r_half {H:AH} {a m:Nat} (ha:a<m) (hm:m<(18446744073709551616:Nat)^4):Called Tryz.prog F.clapperref02_half [.agg (num a),.agg (num m)] H (.agg (num (hlf m a))) H:=by
 have ha':=Nat.lt_trans ha hm
 refine e_clapperref02_half ?_
 have lw:=wd_length 4
 have g0:(num a).getD 0 .junk=W (a%(18446744073709551616:Nat)):=rfl
 simp only [ic_clapperref02_half,go_sem,one_wd,num_ne,num_take,lw,g0,rem2]
 refine ⟨by decide,by decide,fun h => callW_some (r_plus ha' hm) (fun _ => rfl) ?_,fun h => half_tail ha' ?_⟩
 ·simp only [go_sem,one_wd,num_ne,num_take,lw,num_spliceW,num_splice,num_splice']
  rw [show num (a+m)=num ((a+m)%(18446744073709551616:Nat)^4) from (num_mod _).symm]
  refine half_tail (Nat.mod_lt _ (by decide)) ?_
  congr 2
  unfold hlf
  rw [if_neg (by omega)]
  by_cases hb:(18446744073709551616:Nat)^4≤a+m
  ·rw [decide_eq_true hb,if_pos rfl]; omega
  ·rw [decide_eq_false hb,if_neg (by decide)]; omega
 ·congr 2
  unfold hlf
  rw [if_pos (by omega)]
  simp
set_option maxRecDepth 10000
theorem r_Inv {H:AH} {a m:Nat} (ha:a<m) (hm:m<(18446744073709551616:Nat)^4) (h1:1<m) (ho:m%2=1) (hg:Nat.gcd a m=1):Called Tryz.prog F.clapperref02_Inv [.agg (num a),.agg (num m)] H (.tup [.agg (num (minv m a)),Bl true]) H:=by
 have ha':=Nat.lt_trans ha hm
 have lw:=wd_length 4
 have e0:[Z0,Z0,Z0,Z0]=num 0:=rfl
 have e1:(num 0).set 0 (AV.lit (.int .u64 1))=num 1:=rfl
 have e1':[AV.lit (.int .u64 1),Z0,Z0,Z0]=num 1:=rfl
 have hm2:m<2^256:=Nat.lt_of_lt_of_le hm (by decide +kernel)
 refine e_clapperref02_Inv ?_
 simp only [ic_clapperref02_Inv,go_sem,one_wd,num_ne,num_take,lw,fillOk,fillv,e0,e1,num_splice']
 refine w_loop _ (fun (s:Nat × Nat × Nat × Nat × Nat × AH) => ([(3,.ptr (H.length+1) 0),(4,.ptr (H.length+2) 0),(6,.ptr (H.length+3) 0),(7,.ptr (H.length+4) 0),(8,.ptr (H.length+5) 0),(9,.ptr (H.length+6) 0),(10,.ptr (H.length+7) 0),(11,I s.1)],H++(⟨num a,0,true⟩::⟨num m,0,true⟩::⟨num 0,0,true⟩::⟨num s.2.1,0,true⟩::⟨num s.2.2.1,0,true⟩::⟨num s.2.2.2.1,0,true⟩::⟨num s.2.2.2.2.1,0,true⟩::⟨num 0,0,true⟩::s.2.2.2.2.2)))
  (fun s => InvI m a s.2.1 s.2.2.1 s.2.2.2.1 s.2.2.2.2.1∧s.1+mI s.2.1 s.2.2.1≤1025) (fun s => 1100 - s.1) (0,a,m,1,0,[]) ⟨InvI.start ho h1 ha,by show 0+mI a m≤1025; have:=mI_top hm2 ha; omega⟩ ?_ ?_
 ·rfl
 rintro ⟨r,u,v,x,y,G⟩ ⟨hI,hr⟩
 dsimp only at hI hr
 have hu:u<(18446744073709551616:Nat)^4:=Nat.lt_of_le_of_lt hI.ub hm
 have hv:v<(18446744073709551616:Nat)^4:=Nat.lt_of_le_of_lt hI.vb hm
 have hx:=Nat.lt_trans hI.xl hm
 have hy:=Nat.lt_trans hI.yl hm
 have ge:u≠0→r+4≤1025:=fun h => by have:=mI_low h hI.vo; omega
 have wr:IntKind.i64.wrap ((r:Int)+1)=((r+1:Nat):Int):=by rw [w64 _ (by omega) (by omega)]; omega
 have zr:decide ((r:Int)<1100)=true:=by rw [decide_eq_true_eq]; omega
 have lk:∀ k,k<8→k<G.length+1+1+1+1+1+1+1+1:=fun k _ => by omega
 have l0:=eq_true (lk 0 (by decide))
 have l1:=eq_true (lk 1 (by decide))
 have l2:=eq_true (lk 2 (by decide))
 have l3:=eq_true (lk 3 (by decide))
 have l4:=eq_true (lk 4 (by decide))
 have l5:=eq_true (lk 5 (by decide))
 have l6:=eq_true (lk 6 (by decide))
 have l7:=eq_true (lk 7 (by decide))
 have g0:(num u).getD 0 .junk=W (u%(18446744073709551616:Nat)):=rfl
 have r2:(((u%(18446744073709551616:Nat):Nat):Int).tmod 2 == 0)=decide (u%2=0):=by
  rw [Int.tmod_eq_emod_of_nonneg (Int.natCast_nonneg _),Bool.eq_iff_iff,beq_iff_eq,decide_eq_true_eq]; omega
 simp only [go_sem,agg_ok,agg_eq hu (show 0<(18446744073709551616:Nat)^4 by decide),zr,lw,num_take,l0,l1,l2,l3,l4,l5,l6,l7]
 refine ⟨fun h => ?_,fun h => ?_⟩
 ·have h0:u≠0:=by simpa using h
  simp only [go_sem,lw,num_take,l0,l1,l2,l3,l4,l5,l6,l7,g0,r2]
  have ms:∀ p q:Nat,q≤p→p<(18446744073709551616:Nat)^4→num (p+(18446744073709551616:Nat)^4 - q)=num (p - q):=fun p q h1 h2 => by
   rw [← num_mod (p+_ - q),← num_mod (p - q)]; congr 1; omega
  have nx:∀ u' v' x' y' G',InvI m a u' v' x' y'∧mI u' v'<mI u v→∃ a':Nat × Nat × Nat × Nat × Nat × AH,look [(3,AV.ptr (H.length+1) 0),(4,AV.ptr (H.length+2) 0),(6,AV.ptr (H.length+3) 0),(7,AV.ptr (H.length+4) 0),(8,AV.ptr (H.length+5) 0),(9,AV.ptr (H.length+6) 0),(10,AV.ptr (H.length+7) 0),(11,AV.lit (.int .i64 ((r+1:Nat):Int)))]=look [(3,AV.ptr (H.length+1) 0),(4,AV.ptr (H.length+2) 0),(6,AV.ptr (H.length+3) 0),(7,AV.ptr (H.length+4) 0),(8,AV.ptr (H.length+5) 0),(9,AV.ptr (H.length+6) 0),(10,AV.ptr (H.length+7) 0),(11,I a'.1)] ∧
    H++(⟨num a,0,true⟩::⟨num m,0,true⟩::⟨num 0,0,true⟩::⟨num u',0,true⟩::⟨num v',0,true⟩::⟨num x',0,true⟩::⟨num y',0,true⟩::⟨num 0,0,true⟩::G')=H++(⟨num a,0,true⟩::⟨num m,0,true⟩::⟨num 0,0,true⟩::⟨num a'.2.1,0,true⟩::⟨num a'.2.2.1,0,true⟩::⟨num a'.2.2.2.1,0,true⟩::⟨num a'.2.2.2.2.1,0,true⟩::⟨num 0,0,true⟩::a'.2.2.2.2.2) ∧
    (InvI m a a'.2.1 a'.2.2.1 a'.2.2.2.1 a'.2.2.2.2.1∧a'.1+mI a'.2.1 a'.2.2.1≤1025)∧1100 - a'.1<1100 - r :=
   fun u' v' x' y' G' h => ⟨(r+1,u',v',x',y',G'),rfl,rfl,⟨h.1,by show r+1+mI u' v'≤1025; have:=h.2; omega⟩,by show 1100 - (r+1)<_; have:=ge h0; omega⟩
  refine ⟨by decide,by decide,fun he => ?_,fun he => ?_⟩
  ·have st:=nx _ _ _ _ G (hI.even ho h0 he)
   refine callW_some (r_half hI.xl hm) (fun _ => rfl) ?_
   have hh:=Nat.lt_trans (hlf_lt (m:=m) hI.xl) hm
   generalize hlf m x=x' at *
   simp only [go_sem,lw,num_take,l0,l1,l2,l3,l4,l5,l6,l7,one_wd,num_splice']
   refine w_loop _ (fun (i:Nat) => ([(3,.ptr (H.length+1) 0),(4,.ptr (H.length+2) 0),(6,.ptr (H.length+3) 0),(7,.ptr (H.length+4) 0),(8,.ptr (H.length+5) 0),(9,.ptr (H.length+6) 0),(10,.ptr (H.length+7) 0),(11,I r),(12,I i)],H++(⟨num a,0,true⟩::⟨num m,0,true⟩::⟨num 0,0,true⟩::⟨hl u i,0,true⟩::⟨num v,0,true⟩::⟨num x',0,true⟩::⟨num y,0,true⟩::⟨num 0,0,true⟩::G))) (fun i => i≤4) (fun i => 4 - i) 0 (Nat.zero_le _) rfl ?_
   intro i hi
   simp only [go_sem]
   refine ⟨fun hh => ?_,fun hh => ?_⟩
   ·have hi:i<4:=by omega
    have ib:((0:Int)≤i)∧(i:Int)<4:=⟨by omega,by omega⟩
    have i5:i+1≤(wd i (u / 2)).length+((num u).drop i).length:=by rw [wd_length,List.length_drop,wd_length]; omega
    have d1:u / (18446744073709551616:Nat)^i%(18446744073709551616:Nat)<(18446744073709551616:Nat):=Nat.mod_lt _ (by decide)
    have w4:IntKind.i64.wrap ((i:Int)+1)=((i+1:Nat):Int):=by rw [w64 _ (by omega) (by omega)]; omega
    have next:∀ L,L=hl u (i+1)→∃ a':Nat,look [(3,AV.ptr (H.length+1) 0),(4,AV.ptr (H.length+2) 0),(6,AV.ptr (H.length+3) 0),(7,AV.ptr (H.length+4) 0),(8,AV.ptr (H.length+5) 0),(9,AV.ptr (H.length+6) 0),(10,AV.ptr (H.length+7) 0),(11,I r),(12,AV.lit (Value.int IntKind.i64 ↑(i+1)))]=look [(3,AV.ptr (H.length+1) 0),(4,AV.ptr (H.length+2) 0),(6,AV.ptr (H.length+3) 0),(7,AV.ptr (H.length+4) 0),(8,AV.ptr (H.length+5) 0),(9,AV.ptr (H.length+6) 0),(10,AV.ptr (H.length+7) 0),(11,I r),(12,I ↑a')] ∧
      H++(⟨num a,0,true⟩::⟨num m,0,true⟩::⟨num 0,0,true⟩::⟨L,0,true⟩::⟨num v,0,true⟩::⟨num x',0,true⟩::⟨num y,0,true⟩::⟨num 0,0,true⟩::G)=H++(⟨num a,0,true⟩::⟨num m,0,true⟩::⟨num 0,0,true⟩::⟨hl u a',0,true⟩::⟨num v,0,true⟩::⟨num x',0,true⟩::⟨num y,0,true⟩::⟨num 0,0,true⟩::G)∧a'≤4∧4 - a'<4 - i:=fun L hL => ⟨i+1,rfl,by rw [hL],by omega,by omega⟩
    have hd:=half_dig (n:=u) (i:=i)
    clear nx st ms ge
    by_cases h3:i<3
    ·have z:decide ((i:Int)<3)=true:=by rw [decide_eq_true_eq]; omega
     have d2:u / (18446744073709551616:Nat)^i%(18446744073709551616:Nat) / 2<9223372036854775808:=by omega
     simp only [go_sem,len_part (Nat.le_of_lt hi),get_part hi,hl_set hi,hl_len1 hi,hl_get1 h3,wquo2 _ d1,w4,z,rem2,wtop _ d2,l0,l1,l2,l3,l4,l5,l6,l7]
     refine ⟨ib,i5,by decide,ib,i5,fun _ => ⟨by omega,by omega⟩,fun _ => by omega,fun _ => by decide,fun hb => ⟨ib,by omega,ib,by omega,next _ ?_⟩,fun hb => next _ ?_⟩
     ·exact hl_next2 hi _ _ (by rw [hd,hb])
     ·exact hl_next hi _ (by rw [hd,show u / (18446744073709551616:Nat)^(i+1)%(18446744073709551616:Nat)%2=0 by omega]; simp)
    ·obtain rfl:i=3:=by omega
     have z:decide (((3:Nat):Int)<3)=false:=by decide
     have zz:(((3:Nat):Int)<3)=False:=by simp
     simp only [go_sem,len_part (Nat.le_of_lt hi),get_part hi,hl_set hi,hl_len1 hi,wquo2 _ d1,w4,z,zz,decide_false,l0,l1,l2,l3,l4,l5,l6,l7]
     exact ⟨ib,i5,by decide,ib,i5,next _ (hl_next hi _ (by rw [half_last hu]))⟩
   ·obtain rfl:i=4:=by omega
    simp only [go_sem,hl_four,wr]
    exact st
  ·refine callW_some (r_less hu hv) (fun _ => rfl) ?_
   simp only [go_sem]
   refine ⟨fun hl => ?_,fun hl => ?_⟩
   ·have hl:u<v:=by simpa using hl
    simp only [go_sem,lw,num_take,l0,l1,l2,l3,l4,l5,l6,l7,one_wd,num_splice,num_splice']
    repeat (refine And.intro (by omega) ?_)
    refine callW_some (r_minus hv hu) (fun _ => rfl) ?_
    rw [ms v u (by omega) hv]
    simp only [go_sem,lw,num_take,one_wd,num_splice,num_splice']
    repeat (refine And.intro (by omega) ?_)
    refine callW_some (r_Sub hI.yl hI.xl hm) (fun _ => rfl) ?_
    have st:=fun G' => nx _ _ _ _ G' (hI.less ho (by omega) hl)
    generalize fsub m y x=z at *
    simp only [go_sem,lw,num_take,one_wd,num_splice,num_splice',wr]
    repeat (refine And.intro (by omega) ?_)
    exact st _
   ·have hl:¬ u<v:=by simpa using hl
    simp only [go_sem,lw,num_take,l0,l1,l2,l3,l4,l5,l6,l7,one_wd,num_splice,num_splice']
    refine callW_some (r_minus hu hv) (fun _ => rfl) ?_
    rw [ms u v (by omega) hu]
    simp only [go_sem,lw,num_take,l0,l1,l2,l3,l4,l5,l6,l7,one_wd,num_splice,num_splice']
    refine callW_some (r_Sub hI.xl hI.yl hm) (fun _ => rfl) ?_
    have st:=nx _ _ _ _ G (hI.more ho (by omega) hl)
    generalize fsub m x y=z at *
    simp only [go_sem,lw,num_take,l0,l1,l2,l3,l4,l5,l6,l7,one_wd,num_splice,num_splice',wr]
    exact st
 ·have h0:u=0:=by simpa using h
  subst h0
  obtain ⟨rfl,rfl⟩:=hI.done h1 hg
  simp only [go_sem,lw,num_take,l0,l1,l2,l3,l4,l5,l6,l7,fillOk,fillv,one_wd,num_splice',List.take_length,e1',agg_ok,agg_eq (show 1<(18446744073709551616:Nat)^4 by decide) (show 1<(18446744073709551616:Nat)^4 by decide)]
  exact ⟨by omega,leave_drop (by simp only [low,lowL,lowL_wd])⟩
set_option maxRecDepth 10000
theorem r_InS {H:AH} {a m:Nat} (ha:a<m) (hm:m<(18446744073709551616:Nat)^4):Called Tryz.prog F.clapperref02_In [.agg (num a),.agg (num m)] H (.agg (num a)) H:=by
 have ha':=Nat.lt_trans ha hm
 have lw:=wd_length 4
 refine e_clapperref02_In ?_
 simp only [ic_clapperref02_In,go_sem,one_wd,num_ne,num_take,lw]
 refine callW_some (r_less ha' hm) (fun _ => rfl) ?_
 rw [decide_eq_true ha]
 simp only [go_sem,one_wd,num_ne,num_take,lw,num_spliceW,num_splice]
 exact leave_drop (by simp only [low,lowL_wd])
theorem grow1 (m b i:Nat) (h1:1<m):fadd m (fadd m (b / 2^(i+1)%m) (b / 2^(i+1)%m)) (if b / 2^i%2=1 then 1 else 0)=b / 2^i%m:=by
 have:=grow m 1 b i
 simpa only [fmul,Nat.one_mul] using this
theorem r_Cut {H:AH} {b m:Nat} (h1:1<m) (hm:m<(18446744073709551616:Nat)^4) (hb:b<(18446744073709551616:Nat)^8):Called Tryz.prog F.clapperref02_Cut [.agg (wd 8 b),.agg (num m)] H (.agg (num (b%m))) H:=by
 have lw:=wd_length 4
 have lw8:=wd_length 8 b
 have h0:0<m:=by omega
 have ne8:(wd 8 b).isEmpty=false:=rfl
 have e1:[AV.lit (.int .u64 1),Z0,Z0,Z0]=num 1:=rfl
 refine e_clapperref02_Cut ?_
 simp only [ic_clapperref02_Cut,go_sem,one_wd,num_ne,num_take,lw,ne8,fillOk,fillv]
 rw [show [AV.lit (Value.int IntKind.u64 1),AV.lit (Value.int IntKind.u64 0),AV.lit (Value.int IntKind.u64 0),AV.lit (Value.int IntKind.u64 0)]=num 1 from rfl]
 refine callW_some (r_InS h1 hm) (fun _ => rfl) ?_
 simp only [go_sem,one_wd,num_ne,num_take,lw,num_spliceW,num_splice]
 refine w_loop _ (fun (k:Nat) => ([(2,.ptr H.length 0),(3,.ptr (H.length+1) 0),(4,.ptr (H.length+2) 0),(5,.ptr (H.length+3) 0),(6,.ptr (H.length+4) 0),(7,I (7 - (k:Int)))],H++[⟨wd 8 b,0,true⟩,⟨num m,0,true⟩,⟨[W 0,W 0,W 0,W 0],0,true⟩,⟨num (b / 2^(512 - 64*k)%m),0,true⟩,⟨num 1,0,true⟩])) (fun k => k≤8) (fun k => 8 - k) 0 (Nat.zero_le _) ?_ ?_
 ·have:b / 2^512=0:=Nat.div_eq_of_lt (by rw [show (2:Nat)^512=(18446744073709551616:Nat)^8 by decide +kernel]; exact hb)
  simp only [Nat.mul_zero,Nat.sub_zero,this,Nat.zero_mod]; rfl
 intro k hk
 simp only [go_sem]
 refine ⟨fun hh => ?_,fun hh => ?_⟩
 ·obtain ⟨i,hi,hi4⟩:∃ i:Nat,7 - (k:Int)=i∧i<8:=⟨7 - k,by omega,by omega⟩
  have w2:IntKind.i64.wrap ((i:Int) - 1)=7 - ((k+1:Nat):Int):=by rw [w64 _ (by omega) (by omega)]; omega
  simp only [hi,go_sem,lw,lw8,wd_get hi4]
  refine ⟨⟨by omega,by omega⟩,by omega,?_⟩
  have hw:b / (18446744073709551616:Nat)^i%(18446744073709551616:Nat)<(18446744073709551616:Nat):=Nat.mod_lt _ (by decide)
  refine w_loop _ (fun (j:Nat) => ([(2,.ptr H.length 0),(3,.ptr (H.length+1) 0),(4,.ptr (H.length+2) 0),(5,.ptr (H.length+3) 0),(6,.ptr (H.length+4) 0),(7,I i),(8,W (b / (18446744073709551616:Nat)^i%(18446744073709551616:Nat)*2^j%(18446744073709551616:Nat))),(9,I j)],H++[⟨wd 8 b,0,true⟩,⟨num m,0,true⟩,⟨[W 0,W 0,W 0,W 0],0,true⟩,⟨num (b / 2^(64*(i+1) - j)%m),0,true⟩,⟨num 1,0,true⟩])) (fun j => j≤64) (fun j => 64 - j) 0 (Nat.zero_le _) ?_ ?_
  ·rw [show 512 - 64*k=64*(i+1) - 0 by omega,Nat.pow_zero,Nat.mul_one,Nat.mod_mod]; rfl
  intro j hj
  simp only [go_sem]
  refine ⟨fun hh => ?_,fun hh => ?_⟩
  ·have hj:j<64:=by omega
   simp only [go_sem,one_wd,num_ne,num_take,lw]
   have hf:b / 2^(64*(i+1) - j)%m<m:=Nat.mod_lt _ h0
   refine callW_some (r_Add hf hf hm) (fun _ => rfl) ?_
   simp only [go_sem,one_wd,num_ne,num_take,lw,num_spliceW,num_splice,num_splice']
   have tb:(9223372036854775808≤((b / (18446744073709551616:Nat)^i%(18446744073709551616:Nat)*2^j%(18446744073709551616:Nat):Nat):Int))=(b / 2^(64*(i+1) - (j+1))%2=1):=by
    rw [top_of hj]
    have:=bit_digit b (64*(i+1) - (j+1))
    rw [show (64*(i+1) - (j+1)) / 64=i by omega,show (64*(i+1) - (j+1))%64=63 - j by omega] at this
    rw [this]
   have g:=grow1 m b (64*(i+1) - (j+1)) h1
   rw [show 64*(i+1) - (j+1)+1=64*(i+1) - j by omega] at g
   have w3:IntKind.u64.wrap (((b / (18446744073709551616:Nat)^i%(18446744073709551616:Nat)*2^j%(18446744073709551616:Nat):Nat):Int)+((b / (18446744073709551616:Nat)^i%(18446744073709551616:Nat)*2^j%(18446744073709551616:Nat):Nat):Int))=((b / (18446744073709551616:Nat)^i%(18446744073709551616:Nat)*2^(j+1)%(18446744073709551616:Nat):Nat):Int):=by
    rw [← Int.natCast_add,wumod,← Nat.two_mul,Nat.mul_mod_mod,Nat.pow_succ]
    congr 2
    generalize b / (18446744073709551616:Nat)^i%(18446744073709551616:Nat)=u
    rw [Nat.mul_comm 2,Nat.mul_assoc]
   have w4:IntKind.i64.wrap ((j:Int)+1)=((j+1:Nat):Int):=by rw [w64 _ (by omega) (by omega)]; omega
   have fl:=fadd_lt h0 (b / 2^(64*(i+1) - j)%m) (b / 2^(64*(i+1) - j)%m)
   simp only [tb]
   refine ⟨fun h => callW_some (r_Add fl h1 hm) (fun _ => rfl) ?_,fun h => ?_⟩
   ·rw [if_pos h] at g
    rw [g]
    simp only [go_sem,one_wd,num_ne,num_take,lw,num_spliceW,num_splice,num_splice',w3,w4]
    exact ⟨j+1,rfl,rfl,hj,by omega⟩
   ·rw [if_neg h,fadd0 fl] at g
    rw [g]
    simp only [go_sem,w3,w4]
    exact ⟨j+1,rfl,rfl,hj,by omega⟩
  ·obtain rfl:j=64:=by omega
   simp only [w2]
   exact ⟨k+1,rfl,by rw [show 64*(i+1) - 64=512 - 64*(k+1) by omega],by omega,by omega⟩
 ·obtain rfl:k=8:=by omega
  simp only [go_sem,one_wd,num_ne,num_take,lw,num_spliceW,num_splice,num_splice',Nat.reduceMul,Nat.sub_self,Nat.pow_zero,Nat.div_one]
  exact leave_drop (by simp only [low,lowL_wd])
theorem r_In {H:AH} {a m:Nat} (h1:1<m) (hm:m<(18446744073709551616:Nat)^4) (ha:a<(18446744073709551616:Nat)^4):Called Tryz.prog F.clapperref02_In [.agg (num a),.agg (num m)] H (.agg (num (a%m))) H:=by
 by_cases hlt:a<m
 ·rw [Nat.mod_eq_of_lt hlt]; exact r_InS hlt hm
 have lw:=wd_length 4
 have n8:=num8 a ha
 refine e_clapperref02_In ?_
 simp only [ic_clapperref02_In,go_sem,one_wd,num_ne,num_take,lw]
 refine callW_some (r_less ha hm) (fun _ => rfl) ?_
 rw [decide_eq_false hlt]
 simp only [go_sem,one_wd,num_ne,num_take,lw,num_spliceW,num_splice,wd_get (show 0<4 by decide),wd_get (show 1<4 by decide),wd_get (show 2<4 by decide),wd_get (show 3<4 by decide),fillOk,fillv,Int.toNat_zero,n8]
 refine ⟨by omega,by omega,by omega,by omega,callW_some (r_Cut h1 hm (Nat.lt_of_lt_of_le ha (by decide))) (fun _ => rfl) ?_⟩
 simp only [go_sem,one_wd,num_ne,num_take,lw,num_spliceW,num_splice]
 exact leave_drop (by simp only [low,lowL_wd])
set_option maxRecDepth 10000
theorem bit_digit16 (a i:Nat):a / (65536:Nat)^(i / 16)%(65536:Nat) / 2^(i%16)%2=a / 2^i%2:=by
 have e1:(65536:Nat)^(i / 16)=2^(16*(i / 16)):=by rw [show (65536:Nat)=2^16 by decide,← Nat.pow_mul]
 have e2:(65536:Nat)=2^(i%16)*(2*2^(15 - i%16)):=by rw [← Nat.pow_succ',← Nat.pow_add,show i%16+(15 - i%16+1)=16 by omega]
 rw [e1]
 generalize hx:a / 2^(16*(i / 16))=x
 conv => lhs; rw [e2]
 rw [Nat.mod_mul_right_div_self,Nat.mod_mul_right_mod,← hx,Nat.div_div_eq_div_mul,← Nat.pow_add,show 16*(i / 16)+i%16=i by omega]
theorem r_Bit {H:AH} {a i:Nat} (hi:i<256):Called Tryz.prog F.clapperref01_Bit [.agg (num a),I i] H (Bl (decide (a / 2^i%2=1))) H:=by
 have lw:=wd_length 4
 refine e_clapperref01_Bit ?_
 have z1:decide ((i:Int)<0)=false:=by rw [decide_eq_false_iff_not]; omega
 have z2:decide (255<(i:Int))=false:=by rw [decide_eq_false_iff_not]; omega
 have q16:((i:Int).tdiv 16)=((i / 16:Nat):Int):=by rw [Int.tdiv_eq_ediv_of_nonneg (Int.natCast_nonneg _)]; omega
 have r16:((i:Int).tmod 16)=((i%16:Nat):Int):=by rw [Int.tmod_eq_emod_of_nonneg (Int.natCast_nonneg _)]; omega
 have wq:IntKind.i64.wrap ((i / 16:Nat):Int)=((i / 16:Nat):Int):=by rw [w64 _ (by omega) (by omega)]
 have h16:i / 16<16:=by omega
 have el:elt (pt16 16 a) 1 (i / 16)=[I ((a / (65536:Nat)^(i / 16)%(65536:Nat):Nat):Int)]:=by
  rw [elt,Nat.mul_one,drop_cons (show i / 16<(pt16 16 a).length by rw [pt_len]; exact h16) .junk,pt_get h16]; rfl
 simp only [ic_clapperref01_Bit,go_sem,one_wd,num_ne,num_take,lw,z1,z2]
 refine callW_some (r_parts a) (fun _ => rfl) ?_
 simp only [go_sem,q16,wq,pt_len,el]
 refine ⟨by decide,⟨by omega,by omega⟩,?_⟩
 refine w_loop _ (fun (k:Nat) => ([(1,I i),(5,I ((a / (65536:Nat)^(i / 16)%(65536:Nat) / 2^k:Nat):Int)),(6,I k)],H++[⟨num a,0,true⟩])) (fun k => k≤i%16) (fun k => i%16 - k) 0 (Nat.zero_le _) (by rw [Nat.pow_zero,Nat.div_one]; rfl) ?_
 intro k hk
 have hd:a / (65536:Nat)^(i / 16)%(65536:Nat) / 2^k<(65536:Nat):=Nat.lt_of_le_of_lt (Nat.div_le_self _ _) (Nat.mod_lt _ (by decide))
 have hp:a / (65536:Nat)^(i / 16)%(65536:Nat) / 2^(k+1)=a / (65536:Nat)^(i / 16)%(65536:Nat) / 2^k / 2:=by rw [Nat.pow_succ,Nat.div_div_eq_div_mul]
 have hb:=bit_digit16 a i
 simp only [go_sem,r16]
 refine ⟨by decide,fun hh => ?_,fun hh => ?_⟩
 ·have w1:IntKind.i64.wrap (((a / (65536:Nat)^(i / 16)%(65536:Nat) / 2^k:Nat):Int).tdiv 2)=((a / (65536:Nat)^(i / 16)%(65536:Nat) / 2^(k+1):Nat):Int):=by
   rw [hp,Int.tdiv_eq_ediv_of_nonneg (Int.natCast_nonneg _)]
   generalize a / (65536:Nat)^(i / 16)%(65536:Nat) / 2^k=x at *
   rw [w64 _ (by omega) (by omega)]; omega
  have w2:IntKind.i64.wrap ((k:Int)+1)=((k+1:Nat):Int):=by rw [w64 _ (by omega) (by omega)]; omega
  rw [w1,w2]
  exact ⟨by decide,k+1,rfl,by omega,by omega⟩
 ·obtain rfl:k=i%16:=by omega
  refine ⟨by decide,leave_drop ?_⟩
  rw [← hb]
  have r2:((((a / (65536:Nat)^(i / 16)%(65536:Nat) / 2^(i%16):Nat):Int).tmod 2 == 1):Bool)=decide (a / (65536:Nat)^(i / 16)%(65536:Nat) / 2^(i%16)%2=1):=by
   rw [Int.tmod_eq_emod_of_nonneg (Int.natCast_nonneg _),Bool.eq_iff_iff,beq_iff_eq,decide_eq_true_eq]; omega
  rw [r2]; rfl
theorem blen_bit (a i:Nat):blen (a%2^(i+1))=if a / 2^i%2=1 then i+1 else blen (a%2^i):=by
 have e:a%2^(i+1)=a%2^i+2^i*(a / 2^i%2):=by rw [Nat.pow_succ,Nat.mod_mul]
 have hl:a%2^i<2^i:=Nat.mod_lt _ (Nat.pow_pos (by decide))
 split
 ·rename_i h
  rw [e,h,Nat.mul_one]
  have h1:=blen_le_of (a:=a%2^i+2^i) (k:=i+1) (by rw [Nat.pow_succ]; omega)
  have h2:=blen_shift (x:=a%2^i+2^i) (k:=i) (by omega)
  have h3:(a%2^i+2^i) / 2^i=1:=by
   rw [Nat.add_div_right _ (Nat.pow_pos (by decide)),Nat.div_eq_of_lt hl]
  have h4:blen 1=1:=by decide
  rw [h3,h4] at h2
  omega
 ·rename_i h
  have:a / 2^i%2=0:=by omega
  rw [e,this,Nat.mul_zero,Nat.add_zero]
theorem pt_val (n:Nat) (i:Nat):n / (65536:Nat)^(4*i)%(65536:Nat)+65536*(n / (65536:Nat)^(4*i+1)%(65536:Nat))+4294967296*(n / (65536:Nat)^(4*i+2)%(65536:Nat))+281474976710656*(n / (65536:Nat)^(4*i+3)%(65536:Nat))=n / (18446744073709551616:Nat)^i%(18446744073709551616:Nat):=by
 have e:(18446744073709551616:Nat)^i=(65536:Nat)^(4*i):=by rw [Nat.pow_mul]
 rw [e,Nat.pow_add,Nat.pow_add,Nat.pow_add,← Nat.div_div_eq_div_mul,← Nat.div_div_eq_div_mul,← Nat.div_div_eq_div_mul]
 generalize n / (65536:Nat)^(4*i)=x
 omega
theorem r_word {H:AH} {x:AV} {n i:Nat} (hx:Sl 1 H x (pt16 16 n) 16) (hi:i<4):Called Tryz.prog F.clapperref01_word [x,I ((4*i:Nat):Int)] H (W (n / (18446744073709551616:Nat)^i%(18446744073709551616:Nat))) H:=by
 refine e_clapperref01_word ?_
 have g:∀ k,k<4→loadOk 1 H (idxaV 1 (.lit (.int .i64 ((4*i+k:Nat):Int))) x)=True:=fun k hk => hx.ldOk .i64 (by omega) (Nat.le_refl 1)
 have v:∀ k,k<4→loadV false 1 H (idxaV 1 (.lit (.int .i64 ((4*i+k:Nat):Int))) x)=I ((n / (65536:Nat)^(4*i+k)%(65536:Nat):Nat):Int):=fun k hk => by rw [hx.ld1 .i64 (by omega),pt_get (by omega)]
 have c:∀ k:Nat,k<4→IntKind.i64.wrap (((4*i:Nat):Int)+(k:Int))=((4*i+k:Nat):Int):=fun k hk => by rw [w64 _ (by omega) (by omega)]; omega
 have c1:=c 1 (by decide)
 have c2:=c 2 (by decide)
 have c3:=c 3 (by decide)
 have m:∀ k,k<4→(((n / (65536:Nat)^(4*i+k)%(65536:Nat):Nat):Int))<65536:=fun k hk => by have:=Nat.mod_lt (n / (65536:Nat)^(4*i+k)) (show 0<(65536:Nat) by decide); omega
 have pv:=pt_val n i
 have g0:=g 0 (by decide)
 have v0:=v 0 (by decide)
 have m0:=m 0 (by decide)
 rw [Nat.add_zero] at g0 v0 m0
 have m1:=m 1 (by decide)
 have m2:=m 2 (by decide)
 have m3:=m 3 (by decide)
 simp only [Int.natCast_one,Int.cast_ofNat_Int] at c1 c2 c3
 simp only [ic_clapperref01_word,go_sem,hx.idx,hx.un,hx.may,c1,c2,c3,g0,v0,g 1 (by decide),g 2 (by decide),g 3 (by decide),v 1 (by decide),v 2 (by decide),v 3 (by decide)]
 rw [← pv]
 generalize n / (65536:Nat)^(4*i)%(65536:Nat)=x0 at *
 generalize n / (65536:Nat)^(4*i+1)%(65536:Nat)=x1 at *
 generalize n / (65536:Nat)^(4*i+2)%(65536:Nat)=x2 at *
 generalize n / (65536:Nat)^(4*i+3)%(65536:Nat)=x3 at *
 refine ⟨⟨by omega,by omega⟩,⟨by omega,by omega⟩,⟨by omega,by omega⟩,⟨by omega,by omega⟩,leave_same ?_⟩
 have u:∀ z:Int,0≤z→z≤18446744073709551615→IntKind.u64.wrap z=z:=fun z h1 h2 => wu64 z h1 h2
 rw [u x0 (by omega) (by omega),u x1 (by omega) (by omega),u x2 (by omega) (by omega),u x3 (by omega) (by omega),u (65536*(x1:Int)) (by omega) (by omega),u ((x0:Int)+65536*(x1:Int)) (by omega) (by omega),u (4294967296*(x2:Int)) (by omega) (by omega),u ((x0:Int)+65536*(x1:Int)+4294967296*(x2:Int)) (by omega) (by omega),u (281474976710656*(x3:Int)) (by omega) (by omega),u ((x0:Int)+65536*(x1:Int)+4294967296*(x2:Int)+281474976710656*(x3:Int)) (by omega) (by omega)]
 rfl
theorem r_Num {H:AH} {x:AV} {n:Nat} (hx:Sl 1 H x (pt16 16 n) 16) (hn:n<(18446744073709551616:Nat)^4):Called Tryz.prog F.clapperref01_Num [x] H (.agg (num n)) H:=by
 have hG:∀ G,Sl 1 (H++G) x (pt16 16 n) 16:=fun G => hx.app
 have lw:=wd_length 4
 have e4:[W (n / (18446744073709551616:Nat)^0%(18446744073709551616:Nat)),W (n / (18446744073709551616:Nat)^1%(18446744073709551616:Nat)),W (n / (18446744073709551616:Nat)^2%(18446744073709551616:Nat)),W (n / (18446744073709551616:Nat)^3%(18446744073709551616:Nat))]=num n:=by simp only [wd,dig,List.map_cons,List.map_nil,Nat.div_div_eq_div_mul,Nat.pow_zero,Nat.div_one,Nat.pow_one]
 refine e_clapperref01_Num ?_
 simp only [ic_clapperref01_Num,go_sem,hx.un]
 refine callW_some (r_word (i:=0) (hG _) (by decide)) (fun _ => rfl) ?_
 simp only [go_sem,hx.un]
 refine callW_some (r_word (i:=1) (hG _) (by decide)) (fun _ => rfl) ?_
 simp only [go_sem,hx.un]
 refine callW_some (r_word (i:=2) (hG _) (by decide)) (fun _ => rfl) ?_
 simp only [go_sem,hx.un]
 refine callW_some (r_word (i:=3) (hG _) (by decide)) (fun _ => rfl) ?_
 simp only [go_sem,fillOk,fillv,e4,one_wd,lw,num_spliceW,num_splice,num_take]
 exact leave_drop (by simp only [low,lowL_wd])
theorem dig_setB {B:Nat} (hB:0<B) (k:Nat):∀ (n j c:Nat),j<k→n / B^j%B+c<B→dig B k (n+c*B^j)=(dig B k n).set j (n / B^j%B+c):=by
 induction k with
 | zero => intro n j c h; omega
 | succ k ih =>
  intro n j c hj hc
  cases j with
  | zero =>
   simp only [Nat.pow_zero,Nat.mul_one,Nat.div_one] at *
   have h1:(n+c)%B=n%B+c:=by
    have e:=Nat.div_add_mod n B
    rw [← e,Nat.add_assoc,Nat.mul_add_mod,Nat.mul_add_mod,Nat.mod_mod,Nat.mod_eq_of_lt hc]
   have h2:(n+c) / B=n / B:=by
    have e:=Nat.div_add_mod n B
    conv => lhs; rw [← e]
    rw [Nat.add_assoc,Nat.mul_add_div hB,Nat.div_eq_of_lt hc,Nat.add_zero]
   rw [dig,dig,List.set_cons_zero,h1,h2]
  | succ j =>
   have e1:n / B^(j+1)=n / B / B^j:=by rw [Nat.pow_succ,Nat.mul_comm,Nat.div_div_eq_div_mul]
   have e2:c*B^(j+1)=B*(c*B^j):=by rw [Nat.pow_succ,← Nat.mul_assoc,Nat.mul_comm]
   rw [e1] at hc ⊢
   rw [dig,dig,List.set_cons_succ,e2,Nat.add_mul_mod_self_left,Nat.add_mul_div_left _ _ hB,ih _ _ _ (by omega) hc]
theorem pt_set {k n j c:Nat} (hj:j<k) (hc:n / (65536:Nat)^j%(65536:Nat)+c<(65536:Nat)):(pt16 k n).set j (I ((n / (65536:Nat)^j%(65536:Nat)+c:Nat):Int))=pt16 k (n+c*(65536:Nat)^j):=by
 rw [pt16,pt16,dig_setB (by decide) k n j c hj hc,List.map_set]
theorem r_Of {H:AH} {x:AV} {l:List UInt8} (hx:Sl 1 H x (bs l) l.length) (hl:l.length≤32):Called Tryz.prog F.clapperref01_Of [x] H (.agg (num (be l))) H:=by
 have lw:=wd_length 4
 refine e_clapperref01_Of ?_
 simp only [ic_clapperref01_Of,go_sem,mkslOk]
 refine ⟨by decide,?_⟩
 refine w_loop _ (fun (i:Nat) => ([(0,x),(2,.ptr H.length 0),(3,.row (H.length+1) 0 16 16),(4,I i)],H++[⟨[W 0,W 0,W 0,W 0],0,true⟩,⟨pt16 16 (be l%256^i),1,true⟩])) (fun i => i≤l.length) (fun i => l.length - i) 0 (Nat.zero_le _) ?_ ?_
 ·rw [Nat.pow_zero,Nat.mod_one]; rfl
 intro i hi
 simp only [go_sem,hx.lenT,hx.n]
 refine ⟨fun hh => ?_,fun hh => ?_⟩
 ·have hi:i<l.length:=by omega
  have hx':=fun G => hx.app (G:=G)
  have w1:IntKind.i64.wrap ((l.length:Int) - 1)=((l.length - 1:Nat):Int):=by rw [w64 _ (by omega) (by omega)]; omega
  have w1':IntKind.i64.wrap (((l.length - 1:Nat):Int) - (i:Int))=((l.length - 1 - i:Nat):Int):=by rw [w64 _ (by omega) (by omega)]; omega
  have w2:IntKind.i64.wrap ((i:Int)+1)=((i+1:Nat):Int):=by rw [w64 _ (by omega) (by omega)]; omega
  have w3:IntKind.i64.wrap ((i:Int).tdiv 2)=((i / 2:Nat):Int):=by rw [Int.tdiv_eq_ediv_of_nonneg (by omega),w64 _ (by omega) (by omega)]; omega
  have w4:(((i:Int).tmod 2 == 0):Bool)=decide (i%2=0):=by
   rw [Int.tmod_eq_emod_of_nonneg (by omega),Bool.eq_iff_iff,beq_iff_eq,decide_eq_true_eq]; omega
  have h4:i / 2<16:=by omega
  have hk:l.length - 1 - i<l.length:=by omega
  have hy:be l / 256^i%256<256:=Nat.mod_lt _ (by decide)
  have dg:=be_digit l i hi
  have vlt:be l%256^i<256^i:=Nat.mod_lt _ (Nat.pow_pos (by decide))
  have vs:be l%256^(i+1)=be l%256^i+256^i*(be l / 256^i%256):=by rw [Nat.pow_succ,Nat.mod_mul]
  have pg:=pt_get (n:=be l%256^i) h4
  have cy:IntKind.i64.wrap ((be l / 256^i%256:Nat):Int)=((be l / 256^i%256:Nat):Int):=w64 _ (by omega) (by omega)
  have cy2:IntKind.i64.wrap (256*((be l / 256^i%256:Nat):Int))=((256*(be l / 256^i%256):Nat):Int):=by rw [w64 _ (by omega) (by omega)]; omega
  simp only [go_sem,hx.lenT,hx.n,w1,w1',w2,w3,w4,hx.idx,hx.un,(hx' _).ldOk .i64 hk (Nat.le_refl 1),(hx' _).ld1 .i64 hk,bs_get l _ hk,dg,pt_len,pg,cy,cy2]
  have ib:(0:Int)≤((i / 2:Nat):Int)∧((i / 2:Nat):Int)<((16:Nat):Int):=⟨by omega,by omega⟩
  have ik:(0:Int)≤((l.length - 1 - i:Nat):Int)∧((l.length - 1 - i:Nat):Int)<l.length:=⟨by omega,by omega⟩
  have nx:∀ L,L=pt16 16 (be l%256^(i+1))→∃ a':Nat,look [(0,x),(2,AV.ptr H.length 0),(3,AV.row (H.length+1) 0 16 16),(4,AV.lit (.int .i64 ((i+1:Nat):Int)))]=look [(0,x),(2,AV.ptr H.length 0),(3,AV.row (H.length+1) 0 16 16),(4,I a')]∧H++[⟨[W 0,W 0,W 0,W 0],0,true⟩,⟨L,1,true⟩]=H++[⟨[W 0,W 0,W 0,W 0],0,true⟩,⟨pt16 16 (be l%256^a'),1,true⟩]∧a'≤l.length∧l.length - a'<l.length - i:=fun L hL => ⟨i+1,rfl,by rw [hL],by omega,by omega⟩
  have i15:i / 2≤15:=by omega
  generalize be l / 256^i%256=y at *
  generalize be l%256^i=v at *
  generalize be l%256^(i+1)=v' at *
  refine ⟨by decide,fun he => ⟨by decide,by decide,ib,i15,ik,ib,i15,nx _ ?_⟩,fun he => ⟨by decide,by decide,ib,i15,ik,ib,i15,nx _ ?_⟩⟩
  ·have e:256^i=(65536:Nat)^(i / 2):=by rw [show (65536:Nat)=256^2 by decide,← Nat.pow_mul]; congr 1; omega
   rw [e] at vlt vs
   have z:v / (65536:Nat)^(i / 2)=0:=Nat.div_eq_of_lt vlt
   have:=pt_set (k:=16) (n:=v) (j:=i / 2) (c:=y) h4 (by rw [z]; omega)
   rw [vs,Nat.mul_comm,← this]
   congr 3
   rw [w64 _ (by rw [z]; omega) (by rw [z]; omega),Int.natCast_add]
  ·have e:256^i=256*(65536:Nat)^(i / 2):=by rw [show (65536:Nat)=256^2 by decide,← Nat.pow_mul,← Nat.pow_succ']; congr 1; omega
   rw [e] at vlt vs
   have z:v / (65536:Nat)^(i / 2)<256:=by rw [Nat.div_lt_iff_lt_mul (Nat.pow_pos (by decide))]; exact vlt
   have ps:=pt_set (k:=16) (n:=v) (j:=i / 2) (c:=256*y) h4 (by
    clear vs dg nx pg cy cy2 vlt
    generalize v / (65536:Nat)^(i / 2)=q at *
    omega)
   rw [vs,show 256*(65536:Nat)^(i / 2)*y=256*y*(65536:Nat)^(i / 2) by rw [Nat.mul_right_comm],← ps]
   generalize v / (65536:Nat)^(i / 2)=q at *
   congr 3
   rw [w64 _ (by omega) (by omega),Int.natCast_add]
 ·obtain rfl:i=l.length:=by omega
  have hlt:=be_lt l
  have h32:be l<(18446744073709551616:Nat)^4:=Nat.lt_of_lt_of_le hlt (Nat.le_trans (Nat.pow_le_pow_right (by decide) hl) (by decide +kernel))
  rw [Nat.mod_eq_of_lt hlt]
  have ob:obj (H++[⟨[W 0,W 0,W 0,W 0],0,true⟩,⟨pt16 16 (be l),1,true⟩]) (H.length+1)=⟨pt16 16 (be l),1,true⟩:=by rw [obj_appk]; rfl
  refine callW_some (r_Num (.row (by simp) (by rw [ob,pt_len]) (by decide) (by rw [ob]; exact List.take_of_length_le (by rw [List.drop_zero,pt_len]; decide)) (by rw [ob]; exact .inl rfl)) h32) (fun _ => rfl) ?_
  simp only [go_sem,one_wd,num_ne,num_take,lw,num_spliceW,num_splice]
  exact leave_drop (by simp only [low,lowL_wd])
theorem r_Len {H:AH} {a:Nat} (ha:a<(18446744073709551616:Nat)^4):Called Tryz.prog F.clapperref01_Len [.agg (num a)] H (I (blen a)) H:=by
 have lw:=wd_length 4
 refine e_clapperref01_Len ?_
 simp only [ic_clapperref01_Len,go_sem,one_wd,num_ne,num_take,lw]
 refine w_loop _ (fun (k:Nat) => ([(1,.ptr H.length 0),(3,I ((blen (a%2^k):Nat):Int)),(4,I k)],H++[⟨num a,0,true⟩])) (fun k => k≤256) (fun k => 256 - k) 0 (Nat.zero_le _) (by rw [Nat.pow_zero,Nat.mod_one]; rfl) ?_
 intro k hk
 simp only [go_sem]
 refine ⟨fun hh => ?_,fun hh => ?_⟩
 ·have hk:k<256:=by omega
  have w2:IntKind.i64.wrap ((k:Int)+1)=((k+1:Nat):Int):=by rw [w64 _ (by omega) (by omega)]; omega
  have bb:=blen_bit a k
  simp only [go_sem,num_take,lw]
  refine callW_some (r_Bit hk) (fun _ => rfl) ?_
  simp only [go_sem,w2]
  refine ⟨fun h => ?_,fun h => ?_⟩
  ·rw [if_pos h] at bb
   exact ⟨k+1,by rw [bb],by omega,by omega⟩
  ·rw [if_neg h] at bb
   exact ⟨k+1,by rw [bb],by omega,by omega⟩
 ·obtain rfl:k=256:=by omega
  rw [show (2:Nat)^256=(18446744073709551616:Nat)^4 by decide +kernel,Nat.mod_eq_of_lt ha]
  exact leave_drop rfl
set_option maxRecDepth 10000
theorem r_N {H:AH}:Called Tryz.prog F.clapperref05_N [] H (.agg (num (115792089210356248762697446949407573529996955224135760342422259061068512044369:Nat))) H:=by
 refine e_clapperref05_N ?_
 simp only [ic_clapperref05_N,go_sem,fillOk,fillv]
 have e:[AV.lit (.int .u64 17562291160714782033),.lit (.int .u64 13611842547513532036),.lit (.int .u64 18446744073709551615),.lit (.int .u64 18446744069414584320)]=num (115792089210356248762697446949407573529996955224135760342422259061068512044369:Nat):=rfl
 simp only [e,num_splice,num_take,one_wd,wd_length,go_sem]
 exact leave_drop rfl
theorem r_Base {H:AH}:Called Tryz.prog F.clapperref05_Base [] H (.agg (pcell (48439561293906451759052585252797914202762949526041747995844080717082404635286:Nat) (36134250956749795798585127919587881956611106672985015071877198253568414405109:Nat) false)) H:=by
 refine e_clapperref05_Base ?_
 have ex:[AV.lit (.int .u64 17627433388654248598),.lit (.int .u64 8575836109218198432),.lit (.int .u64 17923454489921339634),.lit (.int .u64 7716867327612699207)]=num (48439561293906451759052585252797914202762949526041747995844080717082404635286:Nat):=rfl
 have ey:[AV.lit (.int .u64 14678990851816772085),.lit (.int .u64 3156516839386865358),.lit (.int .u64 10297457778147434006),.lit (.int .u64 5756518291402817435)]=num (36134250956749795798585127919587881956611106672985015071877198253568414405109:Nat):=rfl
 simp only [ic_clapperref05_Base,go_sem,fillOk,fillv,ex,ey,num_splice,num_take,one_wd,wd_length,pc_splx,pc_sply,pc_spl,pc_one,pc_len,pc_take]
 exact leave_drop (by simp only [low,lowL_pc])
theorem ptc_eq (a:Aff):ptc a=pcell a.x a.y a.isFar:=rfl
theorem pc_set8 (x y:Nat) (f g:Bool):(pcell x y f).set 8 (Bl g)=pcell x y g:=rfl
theorem r_Neg {H:AH} {x y:Nat} {f:Bool} (hy:y<(115792089210356248762697446949407573530086143415290314195533631308867097853951:Nat)):Called Tryz.prog F.clapperref05_Neg [.agg (pcell x y f)] H (.agg (pcell x (fsub (115792089210356248762697446949407573530086143415290314195533631308867097853951:Nat) 0 y) f)) H:=by
 refine e_clapperref05_Neg ?_
 have lw:=wd_length 4
 simp only [ic_clapperref05_Neg,go_sem,pc_one,pc_ne,pc_len,pc_x,pc_y,fillOk,fillv]
 rw [show [AV.lit (Value.int IntKind.u64 0),AV.lit (Value.int IntKind.u64 0),AV.lit (Value.int IntKind.u64 0),AV.lit (Value.int IntKind.u64 0)]=num 0 from rfl]
 refine callW_some (r_sub (by decide) hy) (fun _ => rfl) ?_
 generalize fsub (115792089210356248762697446949407573530086143415290314195533631308867097853951:Nat) 0 y=z
 simp only [go_sem,pc_one,pc_ne,pc_len,pc_x,pc_y,pc_f,fillOk,fillv,lw,one_wd,pc_splx,pc_sply,pc_set8,pc_spl,pc_one,pc_len,pc_take]
 exact leave_drop (by simp only [low,lowL_pc])
theorem add_tail {H:AH} {x y x' y' up dn:Nat} {f f':Bool} (hx:x<(115792089210356248762697446949407573530086143415290314195533631308867097853951:Nat)) (hy:y<(115792089210356248762697446949407573530086143415290314195533631308867097853951:Nat)) (hx':x'<(115792089210356248762697446949407573530086143415290314195533631308867097853951:Nat)) (hu:up<(115792089210356248762697446949407573530086143415290314195533631308867097853951:Nat)) (hd:dn<(115792089210356248762697446949407573530086143415290314195533631308867097853951:Nat)) (h0:dn≠0) {v:AV} (ex:List (Nat × AV))
  (hv:v=.agg (pcell (fsub (115792089210356248762697446949407573530086143415290314195533631308867097853951:Nat) (fsub (115792089210356248762697446949407573530086143415290314195533631308867097853951:Nat) (fmul (115792089210356248762697446949407573530086143415290314195533631308867097853951:Nat) (fmul (115792089210356248762697446949407573530086143415290314195533631308867097853951:Nat) up (minv (115792089210356248762697446949407573530086143415290314195533631308867097853951:Nat) dn)) (fmul (115792089210356248762697446949407573530086143415290314195533631308867097853951:Nat) up (minv (115792089210356248762697446949407573530086143415290314195533631308867097853951:Nat) dn))) x) x') (fsub (115792089210356248762697446949407573530086143415290314195533631308867097853951:Nat) (fmul (115792089210356248762697446949407573530086143415290314195533631308867097853951:Nat) (fmul (115792089210356248762697446949407573530086143415290314195533631308867097853951:Nat) up (minv (115792089210356248762697446949407573530086143415290314195533631308867097853951:Nat) dn)) (fsub (115792089210356248762697446949407573530086143415290314195533631308867097853951:Nat) x (fsub (115792089210356248762697446949407573530086143415290314195533631308867097853951:Nat) (fsub (115792089210356248762697446949407573530086143415290314195533631308867097853951:Nat) (fmul (115792089210356248762697446949407573530086143415290314195533631308867097853951:Nat) (fmul (115792089210356248762697446949407573530086143415290314195533631308867097853951:Nat) up (minv (115792089210356248762697446949407573530086143415290314195533631308867097853951:Nat) dn)) (fmul (115792089210356248762697446949407573530086143415290314195533631308867097853951:Nat) up (minv (115792089210356248762697446949407573530086143415290314195533631308867097853951:Nat) dn))) x) x'))) y) false)) :
  iwp (pfx false) (Called Tryz.prog) ic_clapperref05_Add_51 (retQ [.c 4 true 9] H v H) (look ((2,.ptr H.length 0)::(3,.ptr (H.length+1) 0)::(4,.ptr (H.length+2) 0)::(5,.ptr (H.length+3) 0)::(6,.ptr (H.length+4) 0)::ex)) (H++[⟨pcell x y f,0,true⟩,⟨pcell x' y' f',0,true⟩,⟨ZP,0,true⟩,⟨num up,0,true⟩,⟨num dn,0,true⟩]):=by
 have lw:=wd_length 4
 have z0:0<(115792089210356248762697446949407573530086143415290314195533631308867097853951:Nat):=by decide
 have hi:minv (115792089210356248762697446949407573530086143415290314195533631308867097853951:Nat) dn<(115792089210356248762697446949407573530086143415290314195533631308867097853951:Nat):=(minv_spec (prm_inv prm_P (Nat.pos_of_ne_zero h0) hd)).1
 have ri:=fun H => r_Inv (H:=H) hd mo_P.lt mo_P.gt mo_P.odd (inv_okP hd h0)
 generalize minv (115792089210356248762697446949407573530086143415290314195533631308867097853951:Nat) dn=i at *
 simp only [ic_clapperref05_Add_51,go_sem,num_take,lw]
 refine callW_some ⟨rfl,fun G => r_P⟩ (fun _ => rfl) ?_
 simp only [go_sem,num_take,lw]
 refine callW_some ⟨rfl,fun G => ri _⟩ (fun _ => rfl) ?_
 simp only [go_sem,num_take,lw,one_wd,num_spliceW,num_splice]
 refine callW_some (r_mul hu hi) (fun _ => rfl) ?_
 have hl:=fmul_lt z0 up i
 generalize fmul (115792089210356248762697446949407573530086143415290314195533631308867097853951:Nat) up i=l at *
 simp only [go_sem,num_take,lw,one_wd,num_spliceW,num_splice,pc_x,pc_y,pc_len]
 refine callW_some ⟨rfl,fun G => r_mul hl hl⟩ (fun _ => rfl) ?_
 have hll:=fmul_lt z0 l l
 generalize fmul (115792089210356248762697446949407573530086143415290314195533631308867097853951:Nat) l l=ll at *
 simp only [go_sem,num_take,lw,one_wd,num_spliceW,num_splice,pc_x,pc_y,pc_len]
 refine callW_some ⟨rfl,fun G => r_sub hll hx⟩ (fun _ => rfl) ?_
 have h1:=fsub_lt z0 ll x
 generalize fsub (115792089210356248762697446949407573530086143415290314195533631308867097853951:Nat) ll x=s1 at *
 simp only [go_sem,num_take,lw,one_wd,num_spliceW,num_splice,pc_x,pc_y,pc_len]
 refine callW_some ⟨rfl,fun G => r_sub h1 hx'⟩ (fun _ => rfl) ?_
 have h3:=fsub_lt z0 s1 x'
 generalize fsub (115792089210356248762697446949407573530086143415290314195533631308867097853951:Nat) s1 x'=x3 at *
 simp only [go_sem,num_take,lw,one_wd,num_spliceW,num_splice,pc_x,pc_y,pc_len]
 refine callW_some (r_sub hx h3) (fun _ => rfl) ?_
 have h4:=fsub_lt z0 x x3
 generalize fsub (115792089210356248762697446949407573530086143415290314195533631308867097853951:Nat) x x3=d at *
 simp only [go_sem,num_take,lw,one_wd,num_spliceW,num_splice,pc_x,pc_y,pc_len]
 refine callW_some (r_mul hl h4) (fun _ => rfl) ?_
 have h5:=fmul_lt z0 l d
 generalize fmul (115792089210356248762697446949407573530086143415290314195533631308867097853951:Nat) l d=ld at *
 simp only [go_sem,num_take,lw,one_wd,num_spliceW,num_splice,pc_x,pc_y,pc_len]
 refine callW_some (r_sub h5 hy) (fun _ => rfl) ?_
 generalize fsub (115792089210356248762697446949407573530086143415290314195533631308867097853951:Nat) ld y=y3 at *
 subst hv
 simp only [go_sem,num_take,lw,one_wd,num_spliceW,num_splice,fillOk,fillv,pc_splx,pc_sply,pc_spl,pc_one,pc_len,pc_take]
 exact leave_drop (by simp only [low,lowL_pc])
theorem r_padd {H:AH} {a c:Aff} (ha:onP a) (hc:onP c):Called Tryz.prog F.clapperref05_Add [.agg (ptc a),.agg (ptc c)] H (.agg (ptc (aadd (115792089210356248762697446949407573530086143415290314195533631308867097853951:Nat) a c))) H:=by
 have lw:=wd_length 4
 have z0:0<(115792089210356248762697446949407573530086143415290314195533631308867097853951:Nat):=by decide
 refine e_clapperref05_Add ?_
 cases a with
 | far =>
  rw [show aadd (115792089210356248762697446949407573530086143415290314195533631308867097853951:Nat) .far c=c by rfl,ptc_far,ptc_eq]
  simp only [ic_clapperref05_Add,go_sem,pc_one,pc_ne,pc_len,pc_f,pc_take,pc_spl]
  exact leave_drop (by simp only [low,lowL_pc])
 | pt x y =>
  cases c with
  | far =>
   rw [show aadd (115792089210356248762697446949407573530086143415290314195533631308867097853951:Nat) (.pt x y) .far=.pt x y by rfl,ptc_far,ptc_pt]
   simp only [ic_clapperref05_Add,go_sem,pc_one,pc_ne,pc_len,pc_f,pc_take,pc_spl]
   exact leave_drop (by simp only [low,lowL_pc])
  | pt x' y' =>
   obtain ⟨hx,hy,ho⟩:=ha
   obtain ⟨hx',hy',ho'⟩:=hc
   have hn:=fsub_lt z0 0 y'
   rw [ptc_pt,ptc_pt]
   simp only [ic_clapperref05_Add,go_sem,pc_one,pc_ne,pc_len,pc_f,pc_take,pc_spl]
   refine callW_some (r_Neg hy') (fun _ => rfl) ?_
   have sx:=same_x hx hy hy'
   have ad:aadd (115792089210356248762697446949407573530086143415290314195533631308867097853951:Nat) (.pt x y) (.pt x' y')=if x=x'∧y=fsub (115792089210356248762697446949407573530086143415290314195533631308867097853951:Nat) 0 y' then .far else .pt (fsub (115792089210356248762697446949407573530086143415290314195533631308867097853951:Nat) (fsub (115792089210356248762697446949407573530086143415290314195533631308867097853951:Nat) (fmul (115792089210356248762697446949407573530086143415290314195533631308867097853951:Nat) (if x=x'∧y=y' then fmul (115792089210356248762697446949407573530086143415290314195533631308867097853951:Nat) (fmul (115792089210356248762697446949407573530086143415290314195533631308867097853951:Nat) 3 (fsub (115792089210356248762697446949407573530086143415290314195533631308867097853951:Nat) (fmul (115792089210356248762697446949407573530086143415290314195533631308867097853951:Nat) x x) 1)) (minv (115792089210356248762697446949407573530086143415290314195533631308867097853951:Nat) (fadd (115792089210356248762697446949407573530086143415290314195533631308867097853951:Nat) y y)) else fmul (115792089210356248762697446949407573530086143415290314195533631308867097853951:Nat) (fsub (115792089210356248762697446949407573530086143415290314195533631308867097853951:Nat) y' y) (minv (115792089210356248762697446949407573530086143415290314195533631308867097853951:Nat) (fsub (115792089210356248762697446949407573530086143415290314195533631308867097853951:Nat) x' x))) (if x=x'∧y=y' then fmul (115792089210356248762697446949407573530086143415290314195533631308867097853951:Nat) (fmul (115792089210356248762697446949407573530086143415290314195533631308867097853951:Nat) 3 (fsub (115792089210356248762697446949407573530086143415290314195533631308867097853951:Nat) (fmul (115792089210356248762697446949407573530086143415290314195533631308867097853951:Nat) x x) 1)) (minv (115792089210356248762697446949407573530086143415290314195533631308867097853951:Nat) (fadd (115792089210356248762697446949407573530086143415290314195533631308867097853951:Nat) y y)) else fmul (115792089210356248762697446949407573530086143415290314195533631308867097853951:Nat) (fsub (115792089210356248762697446949407573530086143415290314195533631308867097853951:Nat) y' y) (minv (115792089210356248762697446949407573530086143415290314195533631308867097853951:Nat) (fsub (115792089210356248762697446949407573530086143415290314195533631308867097853951:Nat) x' x)))) x) x') (fsub (115792089210356248762697446949407573530086143415290314195533631308867097853951:Nat) (fmul (115792089210356248762697446949407573530086143415290314195533631308867097853951:Nat) (if x=x'∧y=y' then fmul (115792089210356248762697446949407573530086143415290314195533631308867097853951:Nat) (fmul (115792089210356248762697446949407573530086143415290314195533631308867097853951:Nat) 3 (fsub (115792089210356248762697446949407573530086143415290314195533631308867097853951:Nat) (fmul (115792089210356248762697446949407573530086143415290314195533631308867097853951:Nat) x x) 1)) (minv (115792089210356248762697446949407573530086143415290314195533631308867097853951:Nat) (fadd (115792089210356248762697446949407573530086143415290314195533631308867097853951:Nat) y y)) else fmul (115792089210356248762697446949407573530086143415290314195533631308867097853951:Nat) (fsub (115792089210356248762697446949407573530086143415290314195533631308867097853951:Nat) y' y) (minv (115792089210356248762697446949407573530086143415290314195533631308867097853951:Nat) (fsub (115792089210356248762697446949407573530086143415290314195533631308867097853951:Nat) x' x))) (fsub (115792089210356248762697446949407573530086143415290314195533631308867097853951:Nat) x (fsub (115792089210356248762697446949407573530086143415290314195533631308867097853951:Nat) (fsub (115792089210356248762697446949407573530086143415290314195533631308867097853951:Nat) (fmul (115792089210356248762697446949407573530086143415290314195533631308867097853951:Nat) (if x=x'∧y=y' then fmul (115792089210356248762697446949407573530086143415290314195533631308867097853951:Nat) (fmul (115792089210356248762697446949407573530086143415290314195533631308867097853951:Nat) 3 (fsub (115792089210356248762697446949407573530086143415290314195533631308867097853951:Nat) (fmul (115792089210356248762697446949407573530086143415290314195533631308867097853951:Nat) x x) 1)) (minv (115792089210356248762697446949407573530086143415290314195533631308867097853951:Nat) (fadd (115792089210356248762697446949407573530086143415290314195533631308867097853951:Nat) y y)) else fmul (115792089210356248762697446949407573530086143415290314195533631308867097853951:Nat) (fsub (115792089210356248762697446949407573530086143415290314195533631308867097853951:Nat) y' y) (minv (115792089210356248762697446949407573530086143415290314195533631308867097853951:Nat) (fsub (115792089210356248762697446949407573530086143415290314195533631308867097853951:Nat) x' x))) (if x=x'∧y=y' then fmul (115792089210356248762697446949407573530086143415290314195533631308867097853951:Nat) (fmul (115792089210356248762697446949407573530086143415290314195533631308867097853951:Nat) 3 (fsub (115792089210356248762697446949407573530086143415290314195533631308867097853951:Nat) (fmul (115792089210356248762697446949407573530086143415290314195533631308867097853951:Nat) x x) 1)) (minv (115792089210356248762697446949407573530086143415290314195533631308867097853951:Nat) (fadd (115792089210356248762697446949407573530086143415290314195533631308867097853951:Nat) y y)) else fmul (115792089210356248762697446949407573530086143415290314195533631308867097853951:Nat) (fsub (115792089210356248762697446949407573530086143415290314195533631308867097853951:Nat) y' y) (minv (115792089210356248762697446949407573530086143415290314195533631308867097853951:Nat) (fsub (115792089210356248762697446949407573530086143415290314195533631308867097853951:Nat) x' x)))) x) x'))) y):=rfl
   rw [ad]
   clear ad
   have bx:=ltP hx
   have by':=ltP hy
   have bx':=ltP hx'
   have byn:=ltP hn
   have e1:=pc_eq (f:=false) (f':=false) bx by' bx' byn
   have e2:=pc_eq (f:=false) (f':=false) bx by' bx' (ltP hy')
   have dy:=down_yg mo_P.odd hy
   have dx:=down_xg hx hx'
   generalize hnn:fsub (115792089210356248762697446949407573530086143415290314195533631308867097853951:Nat) 0 y'=n at *
   have z3:[AV.lit (Value.int IntKind.u64 3),Z0,Z0,Z0]=num 3:=rfl
   have z1:[AV.lit (Value.int IntKind.u64 1),Z0,Z0,Z0]=num 1:=rfl
   simp only [go_sem,pc_one,pc_ne,pc_len,pc_f,pc_x,pc_y,pc_take,pc_spl,pc_ok,e1]
   refine ⟨fun h => ?_,fun h => ?_⟩
   ·have h:x=x'∧y=n:=by simpa using h
    rw [if_pos h]
    have eF:[Z0,Z0,Z0,Z0,Z0,Z0,Z0,Z0,Bl true]=pcell 0 0 true:=rfl
    simp only [eF,pc_spl,pc_one,pc_len,pc_take,go_sem]
    exact leave_drop (by rw [ptc_far]; simp only [low,lowL_pc])
   ·have h:¬ (x=x'∧y=n):=by simpa using h
    rw [if_neg h]
    refine callW_some (r_sub hy' hy) (fun _ => rfl) ?_
    simp only [go_sem,pc_one,pc_ne,pc_len,pc_f,pc_x,pc_y,pc_take,pc_spl,one_wd,num_spliceW,num_splice,lw]
    refine callW_some (r_sub hx' hx) (fun _ => rfl) ?_
    simp only [go_sem,pc_one,pc_ne,pc_len,pc_f,pc_x,pc_y,pc_take,pc_spl,pc_ok,e2,one_wd,num_spliceW,num_splice,lw]
    refine ⟨fun h2 => ?_,fun h2 => ?_⟩
    ·have h2:x=x'∧y=y':=by simpa using h2
     rw [if_pos h2,ptc_pt]
     obtain ⟨rfl,rfl⟩:=h2
     refine callW_some (r_mul hx hx) (fun _ => rfl) ?_
     simp only [go_sem,fillOk,fillv,z1,z3,pc_one,pc_ne,pc_len,pc_f,pc_x,pc_y,pc_take,pc_spl,one_wd,num_spliceW,num_splice,num_splice',lw]
     refine callW_some (r_sub (fmul_lt z0 _ _) (by decide)) (fun _ => rfl) ?_
     simp only [go_sem,pc_one,pc_ne,pc_len,pc_f,pc_x,pc_y,pc_take,pc_spl,one_wd,num_spliceW,num_splice,num_splice',lw]
     refine callW_some (r_mul (by decide) (fsub_lt z0 _ _)) (fun _ => rfl) ?_
     simp only [go_sem,pc_one,pc_ne,pc_len,pc_f,pc_x,pc_y,pc_take,pc_spl,one_wd,num_spliceW,num_splice,num_splice',lw]
     refine callW_some r_P (fun _ => rfl) ?_
     simp only [go_sem,pc_one,pc_ne,pc_len,pc_f,pc_x,pc_y,pc_take,pc_spl,one_wd,num_spliceW,num_splice,num_splice',lw]
     refine callW_some (r_Add hy hy mo_P.lt) (fun _ => rfl) ?_
     simp only [go_sem,pc_one,pc_ne,pc_len,pc_f,pc_x,pc_y,pc_take,pc_spl,one_wd,num_spliceW,num_splice,num_splice',lw]
     refine add_tail hx hy hx (fmul_lt z0 _ _) (fadd_lt z0 _ _) (dy fun e => h ⟨rfl,e.trans hnn⟩) _ rfl
    ·have h2:¬ (x=x'∧y=y'):=by simpa using h2
     rw [if_neg h2,ptc_pt]
     refine add_tail hx hy hx' (fsub_lt z0 _ _) (fsub_lt z0 _ _) (dx fun e => ?_) _ rfl
     subst e
     rcases sx ho ho' with h3 | h3
     ·exact h2 ⟨rfl,h3⟩
     ·exact h ⟨rfl,h3⟩
theorem amk_succ (m:Nat) (a:Aff) (n k:Nat):amk m a (n+1) k=if k%2=0 then aadd m (amk m a n (k / 2)) (amk m a n (k / 2)) else aadd m (aadd m (amk m a n (k / 2)) (amk m a n (k / 2))) a:=rfl
theorem add_on {a c:Aff} (ha:onP a) (hc:onP c):onP (aadd (115792089210356248762697446949407573530086143415290314195533631308867097853951:Nat) a c):=by
 haveI:NeZero (115792089210356248762697446949407573530086143415290314195533631308867097853951:Nat):=⟨by decide⟩
 have hl:jok (115792089210356248762697446949407573530086143415290314195533631308867097853951:Nat) (lift a):=lift_ok (p:=(115792089210356248762697446949407573530086143415290314195533631308867097853951:Nat)) (b:=(41058363725152142129326129780047268409114441015993725554835256314039467401291:Nat)) (by decide) ha
 have hl':jok (115792089210356248762697446949407573530086143415290314195533631308867097853951:Nat) (lift c):=lift_ok (p:=(115792089210356248762697446949407573530086143415290314195533631308867097853951:Nat)) (b:=(41058363725152142129326129780047268409114441015993725554835256314039467401291:Nat)) (by decide) hc
 exact (rep_sum (p:=(115792089210356248762697446949407573530086143415290314195533631308867097853951:Nat)) prm_P (by decide) (b:=(41058363725152142129326129780047268409114441015993725554835256314039467401291:Nat)) (by decide) hl hl' ha hc (lift_rep _) (lift_rep _)).2
theorem amk_on {a:Aff} (ha:onP a):∀ n k,onP (amk (115792089210356248762697446949407573530086143415290314195533631308867097853951:Nat) a n k)
 | 0,_ => trivial
 | n+1,k => by
  rw [amk_succ]
  have:=amk_on ha n (k / 2)
  split
  ·exact add_on this this
  ·exact add_on (add_on this this) ha
theorem ptc_len (a:Aff):(ptc a).length=9:=pc_len _ _ _
theorem ptc_one (a:Aff):(ptc a).all AV.one=true:=pc_one _ _ _
theorem ptc_ne (a:Aff):(ptc a).isEmpty=false:=rfl
theorem ptc_take (a:Aff):(ptc a).take 9=ptc a:=pc_take _ _ _
theorem ptc_spl (a c:Aff):splice (ptc a) 0 (ptc c)=ptc c:=splice_all (by rw [ptc_len,ptc_len])
theorem ptc_splZ (c:Aff):splice ZP 0 (ptc c)=ptc c:=splice_all (by rw [ptc_len]; rfl)
theorem lowL_ptc (ren:Nat→Option Nat) (H:AH) (a:Aff):lowL ren H (ptc a)=ptc a:=lowL_pc _ _ _ _ _
theorem r_pmul {H:AH} {k:Nat} {a:Aff} (hk:k<(18446744073709551616:Nat)^4) (ha:onP a):Called Tryz.prog F.clapperref05_Mul [.agg (num k),.agg (ptc a)] H (.agg (ptc (mulA k a))) H:=by
 have lw:=wd_length 4
 have hb:=blen_le256 hk
 have eF:[Z0,Z0,Z0,Z0,Z0,Z0,Z0,Z0,Bl true]=ptc .far:=rfl
 refine e_clapperref05_Mul ?_
 simp only [ic_clapperref05_Mul,go_sem,one_wd,num_ne,ptc_one,ptc_ne,ptc_len,num_take,lw,fillOk,fillv,eF,ptc_splZ]
 refine callW_some (r_Len hk) (fun _ => rfl) ?_
 have w1:IntKind.i64.wrap ((blen k:Int) - 1)=(blen k:Int) - 1:=by rw [w64 _ (by omega) (by omega)]
 simp only [go_sem,w1]
 refine w_loop _ (fun (s:Nat) => ([(2,.ptr H.length 0),(3,.ptr (H.length+1) 0),(4,.ptr (H.length+2) 0),(5,.ptr (H.length+3) 0),(6,I ((blen k:Int) - 1 - (s:Int)))],H++[⟨num k,0,true⟩,⟨ptc a,0,true⟩,⟨ZP,0,true⟩,⟨ptc (amk (115792089210356248762697446949407573530086143415290314195533631308867097853951:Nat) a s (k / 2^(blen k - s))),0,true⟩])) (fun s => s≤blen k) (fun s => blen k - s) 0 (Nat.zero_le _) ?_ ?_
 ·simp only [amk,Int.natCast_zero,Int.sub_zero]
 intro s hs
 simp only [go_sem]
 refine ⟨fun hh => ?_,fun hh => ?_⟩
 ·obtain ⟨i,hi,his⟩:∃ i:Nat,(blen k:Int) - 1 - (s:Int)=i∧i+s+1=blen k:=⟨blen k - 1 - s,by omega,by omega⟩
  have e1:blen k - s=i+1:=by omega
  have w2:IntKind.i64.wrap ((i:Int) - 1)=(blen k:Int) - 1 - ((s+1:Nat):Int):=by rw [w64 _ (by omega) (by omega)]; omega
  have e2:blen k - (s+1)=i:=by omega
  have e3:k / 2^i / 2=k / 2^(i+1):=by rw [Nat.div_div_eq_div_mul,Nat.pow_succ]
  have js:=amk_succ (115792089210356248762697446949407573530086143415290314195533631308867097853951:Nat) a s (k / 2^i)
  rw [e3] at js
  rw [e1]
  have jo:=amk_on ha s (k / 2^(i+1))
  generalize amk (115792089210356248762697446949407573530086143415290314195533631308867097853951:Nat) a s (k / 2^(i+1))=T at *
  have jo2:=add_on jo jo
  simp only [hi,go_sem,ptc_len,ptc_take]
  refine callW_some (r_padd jo jo) (fun _ => rfl) ?_
  generalize aadd (115792089210356248762697446949407573530086143415290314195533631308867097853951:Nat) T T=T2 at *
  simp only [go_sem,ptc_one,ptc_len,ptc_spl,num_take,lw]
  refine callW_some (r_Bit (by omega)) (fun _ => rfl) ?_
  simp only [go_sem]
  refine ⟨fun hbit => ?_,fun hbit => ?_⟩
  ·rw [if_neg (by omega)] at js
   simp only [go_sem,ptc_len,ptc_take]
   refine callW_some (r_padd jo2 ha) (fun _ => rfl) ?_
   simp only [go_sem,ptc_one,ptc_len,ptc_spl,num_take,lw,w2]
   exact ⟨s+1,rfl,by rw [e2,js],by omega,by omega⟩
  ·rw [if_pos (by omega)] at js
   simp only [go_sem,w2]
   exact ⟨s+1,rfl,by rw [e2,js],by omega,by omega⟩
 ·obtain rfl:s=blen k:=by omega
  rw [Nat.sub_self,Nat.pow_zero,Nat.div_one]
  rw [show amk (115792089210356248762697446949407573530086143415290314195533631308867097853951:Nat) a (blen k) k=mulA k a from rfl]
  generalize mulA k a=T
  simp only [go_sem,ptc_one,ptc_len,ptc_take,ptc_splZ]
  exact leave_drop (by simp only [low,lowL_ptc])
set_option maxRecDepth 10000
theorem r_may {H:AH} {a:Nat} (ha:a<(18446744073709551616:Nat)^4):Called Tryz.prog F.clapperref06_May [.agg (num a)] H (Bl (maySc a)) H:=by
 have hN:(115792089210356248762697446949407573529996955224135760342422259061068512044369:Nat)<(18446744073709551616:Nat)^4:=mo_N.lt
 have e0:[Z0,Z0,Z0,Z0]=num 0:=rfl
 refine e_clapperref06_May ?_
 simp only [ic_clapperref06_May,go_sem,one_wd,num_ne,num_take,wd_length,fillOk,fillv,e0,agg_ok,agg_eq ha (show 0<(18446744073709551616:Nat)^4 by decide)]
 refine callG_of (fun _ => r_N) ?_
 simp only [go_sem]
 refine callG_of (fun _ => r_Cmp ha hN) ?_
 simp only [go_sem]
 refine leave_drop ?_
 have e:decide (cmpN a (115792089210356248762697446949407573529996955224135760342422259061068512044369:Nat)<0)=Nat.blt a (115792089210356248762697446949407573529996955224135760342422259061068512044369:Nat):=by
  rw [Bool.eq_iff_iff,decide_eq_true_eq,Nat.blt_eq]
  unfold cmpN; split <;> (try split) <;> omega
 simp only [low,maySc,e]
 rfl
theorem r_nmul {H:AH} {x y:Nat} (hx:x<(115792089210356248762697446949407573529996955224135760342422259061068512044369:Nat)) (hy:y<(18446744073709551616:Nat)^4):Called Tryz.prog F.clapperref07_mul [.agg (num x),.agg (num y)] H (.agg (num (fmul (115792089210356248762697446949407573529996955224135760342422259061068512044369:Nat) x y))) H:=by
 have hN:(115792089210356248762697446949407573529996955224135760342422259061068512044369:Nat)<(18446744073709551616:Nat)^4:=mo_N.lt
 refine e_clapperref07_mul ?_
 simp only [ic_clapperref07_mul,go_sem,one_wd,num_ne,num_take,wd_length]
 refine callW_some r_N (fun _ => rfl) ?_
 simp only [go_sem,one_wd,num_ne,num_take,wd_length]
 refine callW_some (r_Mul hx hy hN) (fun _ => rfl) ?_
 generalize fmul (115792089210356248762697446949407573529996955224135760342422259061068512044369:Nat) x y=z
 simp only [go_sem,one_wd,num_ne,num_take,wd_length,num_splice,num_spliceW]
 exact leave_drop (by simp only [low,lowL_wd])
theorem r_number {H:AH} {l:List UInt8} (hl:l.length=32):Called Tryz.prog F.clapperref07_number [.agg (bs l)] H (.agg (num (be l%(115792089210356248762697446949407573529996955224135760342422259061068512044369:Nat)))) H:=by
 have hN:(115792089210356248762697446949407573529996955224135760342422259061068512044369:Nat)<(18446744073709551616:Nat)^4:=mo_N.lt
 have bl:(bs l).length=32:=by rw [bs_len,hl]
 refine e_clapperref07_number ?_
 simp only [ic_clapperref07_number,go_sem,one_bs,bl]
 have ne:(bs l).isEmpty=false:=by
  cases hh:bs l with
  | nil => rw [hh] at bl; cases bl
  | cons => rfl
 have ob:∀ G,obj (H++(⟨bs l,0,true⟩::G)) H.length=⟨bs l,0,true⟩:=fun G => by rw [obj_app0]; rfl
 have hx:∀ G,Sl 1 (H++(⟨bs l,0,true⟩::G)) (.row H.length 0 32 32) (bs l) l.length:=fun G => by
  rw [hl]
  exact .row (by simp) (by rw [ob]; exact bl.symm) (by decide) (by rw [ob,List.drop_zero,List.take_of_length_le (by show (bs l).length≤_; omega)]) (.inr (by rw [ob]))
 have hbe:be l<(18446744073709551616:Nat)^4:=by
  have:=be_lt l
  rw [hl] at this
  exact Nat.lt_of_lt_of_le this (by decide)
 refine ⟨ne,by decide,callW_some (r_Of (hx _) (by omega)) (fun _ => rfl) ?_⟩
 simp only [go_sem]
 refine callW_some r_N (fun _ => rfl) ?_
 simp only [go_sem]
 refine callW_some (r_In (by decide) hN hbe) (fun _ => rfl) ?_
 generalize be l%(115792089210356248762697446949407573529996955224135760342422259061068512044369:Nat)=z
 simp only [go_sem,one_wd,num_ne,num_take,wd_length,num_splice,num_spliceW]
 exact leave_drop (by simp only [low,lowL_wd])
end Go.Proofs.YtgfploghjpbcaaaGreat.Eng

