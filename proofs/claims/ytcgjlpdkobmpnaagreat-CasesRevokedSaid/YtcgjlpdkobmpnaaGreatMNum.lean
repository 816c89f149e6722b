/- Digits, the lowest first. (No program in sight.) -/
import Derived.Test.YtcgjlpdkobmpnaaGreatME6
import Derived.Test.YtcgjlpdkobmpnaaGreatMCa
import Derived.Test.YtcgjlpdkobmpnaaGreatMEc
namespace Go.Proofs.YtcgjlpdkobmpnaaGreat.Eng
open Go
set_option linter.unusedVariables false
set_option linter.unusedSimpArgs false
def dig (B:Nat):Nat→Nat→List Nat
 | 0,_ => []
 | k+1,n => n%B::dig B k (n / B)
def val (B:Nat):List Nat→Nat
 | [] => 0
 | d::r => d+B*val B r
section
variable {B:Nat}
theorem Pl (k n:Nat):(dig B k n).length=k:=by
 induction k generalizing n with
 | zero => rfl
 | succ k ih => simp [dig,ih]
theorem Zxz (k n i:Nat) (h:i<k):(dig B k n).getD i 0=n / B^i%B:=by
 induction k generalizing n i with
 | zero => omega
 | succ k ih =>
  cases i with
  | zero => simp [dig]
  | succ i =>
   simp only [dig,List.getD_cons_succ]
   rw [ih _ _ (by omega),Nat.pow_succ,Nat.mul_comm,Nat.div_div_eq_div_mul]
theorem Zne (a b n:Nat):dig B (a+b) n=dig B a n++dig B b (n / B^a):=by
 induction a generalizing n with
 | zero => simp [dig]
 | succ a ih =>
  rw [show a+1+b=(a+b)+1 by omega,dig,ih,dig,Nat.pow_succ,Nat.mul_comm (B^a),← Nat.div_div_eq_div_mul]
  rfl
theorem J4 (k n:Nat):dig B (k+1) n=dig B k n++[n / B^k%B]:=by
 rw [Zne]; rfl
theorem Zuv (k n:Nat):val B (dig B k n)=n%B^k:=by
 induction k generalizing n with
 | zero => simp [dig,val,Nat.mod_one]
 | succ k ih => rw [dig,val,ih,Nat.pow_succ,Nat.mul_comm (B^k),Nat.mod_mul]
theorem Zda (hB:0<B):∀ l:List Nat,(∀ d ∈ l,d<B)→dig B l.length (val B l)=l
 | [],_ => rfl
 | d::r,h => by
  have hd:=h d (by simp)
  have e1:(d+B*val B r)%B=d:=by rw [Nat.add_mul_mod_self_left,Nat.mod_eq_of_lt hd]
  have e2:(d+B*val B r) / B=val B r:=by rw [Nat.add_mul_div_left _ _ hB,Nat.div_eq_of_lt hd,Nat.zero_add]
  rw [List.length_cons,dig,val,e1,e2,Zda hB r fun d hd => h d (by simp [hd])]
theorem Zs8 (hB:0<B):∀ l:List Nat,(∀ d ∈ l,d<B)→val B l<B^l.length
 | [],_ => by simp [val]
 | d::r,h => by
  have hd:=h d (by simp)
  have ih:=Zs8 hB r fun d hd => h d (by simp [hd])
  rw [val,List.length_cons,Nat.pow_succ,Nat.mul_comm (B^r.length)]
  have:B*(val B r+1)≤B*B^r.length:=Nat.mul_le_mul_left _ ih
  rw [Nat.mul_add] at this
  omega
theorem Z20 (hB:0<B) (k n:Nat):∀ d ∈ dig B k n,d<B:=by
 induction k generalizing n with
 | zero => intro d h; cases h
 | succ k ih =>
  intro d h
  rcases List.mem_cons.1 h with h | h
  ·exact h ▸ Nat.mod_lt _ hB
  ·exact ih _ _ h
theorem Ox (k n:Nat) (hB:0<B):dig B k (n%B^k)=dig B k n:=by
 have:=Zda hB (dig B k n) (Z20 hB k n)
 rwa [Pl,Zuv] at this
theorem Zop (hB:0<B) (a b i:Nat) :
  (a+b) / B^i%B=(a / B^i%B+b / B^i%B+(a%B^i+b%B^i) / B^i)%B ∧
  (a%B^(i+1)+b%B^(i+1)) / B^(i+1)=(a / B^i%B+b / B^i%B+(a%B^i+b%B^i) / B^i) / B:=by
 have hp:0<B^i:=Nat.pow_pos hB
 have ea:=Nat.div_add_mod a (B^i)
 have eb:=Nat.div_add_mod b (B^i)
 have ha2:a%B^(i+1)=a%B^i+B^i*(a / B^i%B):=by rw [Nat.pow_succ,Nat.mod_mul]
 have hb2:b%B^(i+1)=b%B^i+B^i*(b / B^i%B):=by rw [Nat.pow_succ,Nat.mod_mul]
 constructor
 ·have:(a+b) / B^i=a / B^i+b / B^i+(a%B^i+b%B^i) / B^i:=by
   rw [← Nat.mul_add_div hp,Nat.mul_add]
   congr 1
   omega
  rw [this,Nat.add_mod,Nat.add_mod (a / B^i),← Nat.add_mod,Nat.add_assoc,← Nat.add_mod_mod]
 ·rw [ha2,hb2,show a%B^i+B^i*(a / B^i%B)+(b%B^i+B^i*(b / B^i%B))=B^i*(a / B^i%B+b / B^i%B)+(a%B^i+b%B^i) by rw [Nat.mul_add]; omega,Nat.pow_succ,← Nat.div_div_eq_div_mul,Nat.mul_add_div hp]
def bor (B a b i:Nat):Nat:=if a%B^i<b%B^i then 1 else 0
theorem Zsc (hB:0<B) (a b i:Nat):bor B a b (i+1)=if a / B^i%B<b / B^i%B+bor B a b i then 1 else 0:=by
 have hp:0<B^i:=Nat.pow_pos hB
 have ha2:a%B^(i+1)=a%B^i+B^i*(a / B^i%B):=by rw [Nat.pow_succ,Nat.mod_mul]
 have hb2:b%B^(i+1)=b%B^i+B^i*(b / B^i%B):=by rw [Nat.pow_succ,Nat.mod_mul]
 have h1:a%B^i<B^i:=Nat.mod_lt _ hp
 have h2:b%B^i<B^i:=Nat.mod_lt _ hp
 unfold bor
 rw [ha2,hb2]
 generalize a / B^i%B=x at *
 generalize b / B^i%B=y at *
 generalize a%B^i=u at *
 generalize b%B^i=v at *
 generalize B^i=P at *
 congr 1
 apply propext
 rcases Nat.lt_trichotomy x y with h | h | h
 ·have:P*(x+1)≤P*y:=Nat.mul_le_mul_left _ h
  rw [Nat.mul_add] at this
  split <;> constructor <;> intro _ <;> omega
 ·subst h
  split <;> constructor <;> intro _ <;> omega
 ·have:P*(y+1)≤P*x:=Nat.mul_le_mul_left _ h
  rw [Nat.mul_add] at this
  split <;> constructor <;> intro _ <;> omega
theorem Zji (hB:0<B) {a b k i:Nat} (hb:b<B^k) (hi:i<k):∃ t,(a+B^k - b) / B^i=t∧t+b / B^i+bor B a b i=a / B^i+B*B^(k - i - 1):=by
 have hp:0<B^i:=Nat.pow_pos hB
 have hk:B^k=B^i*(B*B^(k - i - 1)):=by rw [← Nat.pow_succ',← Nat.pow_add]; congr 1; omega
 refine ⟨_,rfl,?_⟩
 have ea:=Nat.div_add_mod a (B^i)
 have eb:=Nat.div_add_mod b (B^i)
 have h1:a%B^i<B^i:=Nat.mod_lt _ hp
 have h2:b%B^i<B^i:=Nat.mod_lt _ hp
 rw [hk] at hb ⊢
 unfold bor
 generalize a / B^i=x at *
 generalize b / B^i=y at *
 generalize a%B^i=u at *
 generalize b%B^i=v at *
 generalize B^i=P at *
 generalize B*B^(k - i - 1)=Q at *
 subst ea; subst eb
 have hyQ:y<Q:=by
  refine Nat.lt_of_not_le fun h => ?_
  have:=Nat.mul_le_mul_left P h
  omega
 split
 ·have e:P*x+u+P*Q - (P*y+v)=P*(x+Q - y - 1)+(P+u - v):=by
   rw [Nat.mul_sub,Nat.mul_sub,Nat.mul_add,Nat.mul_one]
   have:=Nat.mul_le_mul_left P hyQ
   rw [Nat.mul_succ] at this
   omega
  rw [e,Nat.mul_add_div hp,Nat.div_eq_of_lt (by omega)]
  omega
 ·have e:P*x+u+P*Q - (P*y+v)=P*(x+Q - y)+(u - v):=by
   rw [Nat.mul_sub,Nat.mul_add]
   have:=Nat.mul_le_mul_left P hyQ
   rw [Nat.mul_succ] at this
   omega
  rw [e,Nat.mul_add_div hp,Nat.div_eq_of_lt (by omega)]
  omega
end
end Go.Proofs.YtcgjlpdkobmpnaaGreat.Eng
namespace Go.Proofs.YtcgjlpdkobmpnaaGreat.Eng
open Go Go.Proofs
set_option linter.unusedVariables false
set_option linter.unusedSimpArgs false
set_option maxRecDepth 10000
abbrev W (n:Nat):AV:=.lit (.int .u64 (n:Nat))
def wd (k n:Nat):List AV:=(dig (18446744073709551616:Nat) k n).map W
abbrev num (n:Nat):List AV:=wd 4 n
theorem Zb (k n:Nat):(wd k n).length=k:=by simp [wd,Pl]
theorem Ul {k n i:Nat} (h:i<k):(wd k n).getD i .junk=W (n / (18446744073709551616:Nat)^i%(18446744073709551616:Nat)):=by
 have:=Zxz (B:=(18446744073709551616:Nat)) k n i h
 rw [List.getD_eq_getElem?_getD] at this ⊢
 have hl:i<(dig (18446744073709551616:Nat) k n).length:=by rw [Pl]; exact h
 rw [List.getElem?_eq_getElem hl,Option.getD_some] at this
 rw [wd,List.getElem?_map,List.getElem?_eq_getElem hl,Option.map_some,Option.getD_some,this]
theorem Zg (k n:Nat):(wd k n).all AV.one=true:=Zb3 W (fun _ => rfl) _
theorem Xe (cs:List AV) (a:Nat) (l:List AV) (h:a+l.length≤cs.length):splice cs a l=cs.take a++l++cs.drop (a+l.length):=by
 unfold splice
 split
 ·rename_i v
  simp only [List.length_cons,List.length_nil] at *
  rw [List.set_eq_take_append_cons_drop,if_pos (by omega)]
  simp
 ·rfl
theorem Zy {cs l:List AV} (h:l.length=cs.length):splice cs 0 l=l:=by
 rw [Xe _ _ _ (by omega)]
 simp [h]
theorem Zeg {k n i:Nat} (hi:i<k) (v:Nat) (hv:n / (18446744073709551616:Nat)^i%(18446744073709551616:Nat)=v):(wd i n++List.replicate (k - i) (W 0)).set i (W v)=wd (i+1) n++List.replicate (k - (i+1)) (W 0):=by
 rw [List.set_append_right _ _ (by rw [Zb]; exact Nat.le_refl _),Zb,Nat.sub_self,show k - i=(k - (i+1))+1 by omega,List.replicate_succ,List.set_cons_zero]
 rw [wd,wd,J4,List.map_append,hv]
 simp
theorem Zd4 {H:AH} {a b:Nat} (ha:a<(18446744073709551616:Nat)^4) (hb:b<(18446744073709551616:Nat)^4):Called Tryz.prog F.limb_Add [.agg (num a),.agg (num b)] H (.tup [.agg (num (a+b)),Bl (decide ((18446744073709551616:Nat)^4≤a+b))]) H:=by
 refine Zh6 ?_
 have l1:=Zb 4 a
 have l2:=Zb 4 b
 have n1:∀ n,(num n).isEmpty=false:=fun n => rfl
 simp only [Hs,go_sem,Zg,n1]
 refine Z1 _ (fun (i:Nat) => ([(2,.ptr H.length 0),(3,.ptr (H.length+1) 0),(4,.ptr (H.length+2) 0),(6,.ptr (H.length+3) 0),(7,W ((a%(18446744073709551616:Nat)^i+b%(18446744073709551616:Nat)^i) / (18446744073709551616:Nat)^i)),(9,I i)],H++[⟨num a,0,true⟩,⟨num b,0,true⟩,⟨[W 0,W 0,W 0,W 0],0,true⟩,⟨wd i (a+b)++List.replicate (4 - i) (W 0),0,true⟩])) (fun i => i≤4) (fun i => 4 - i) 0 (Nat.zero_le _) ?_ ?_
 ·simp [Nat.mod_one,wd,dig]
 intro i hi
 simp only [go_sem]
 refine ⟨fun hh => ?_,fun hh => ?_⟩
 ·have hi:i<4:=by omega
  have l3:(wd i (a+b)++List.replicate (4 - i) (W 0)).length=4:=by rw [List.length_append,Zb,List.length_replicate]; omega
  obtain ⟨d1,d2⟩:=Zop (B:=(18446744073709551616:Nat)) (by decide) a b i
  have x1:a / (18446744073709551616:Nat)^i%(18446744073709551616:Nat)<(18446744073709551616:Nat):=Nat.mod_lt _ (by decide)
  have x2:b / (18446744073709551616:Nat)^i%(18446744073709551616:Nat)<(18446744073709551616:Nat):=Nat.mod_lt _ (by decide)
  have w2:IntKind.i64.wrap ((i:Int)+1)=((i+1:Nat):Int):=by rw [w64 _ (by omega) (by omega)]; omega
  have hp:0<(18446744073709551616:Nat)^i:=Nat.pow_pos (by decide)
  have c1:(a%(18446744073709551616:Nat)^i+b%(18446744073709551616:Nat)^i) / (18446744073709551616:Nat)^i≤1:=by
   have h1:=Nat.mod_lt a hp
   have h2:=Nat.mod_lt b hp
   have:(a%(18446744073709551616:Nat)^i+b%(18446744073709551616:Nat)^i) / (18446744073709551616:Nat)^i<2:=by rw [Nat.div_lt_iff_lt_mul hp]; omega
   omega
  simp only [go_sem,l1,l2,l3,Ul hi,Ug,Pb,w2]
  have e1:((a / (18446744073709551616:Nat)^i%(18446744073709551616:Nat):Nat):Int)+((b / (18446744073709551616:Nat)^i%(18446744073709551616:Nat):Nat):Int)+(((a%(18446744073709551616:Nat)^i+b%(18446744073709551616:Nat)^i) / (18446744073709551616:Nat)^i:Nat):Int)=((a / (18446744073709551616:Nat)^i%(18446744073709551616:Nat)+b / (18446744073709551616:Nat)^i%(18446744073709551616:Nat)+(a%(18446744073709551616:Nat)^i+b%(18446744073709551616:Nat)^i) / (18446744073709551616:Nat)^i:Nat):Int):=by omega
  have e2:∀ m:Nat,((m:Nat):Int) / 18446744073709551616=((m / (18446744073709551616:Nat):Nat):Int):=fun m => by omega
  have e3:∀ m:Nat,((m:Nat):Int)%18446744073709551616=((m%(18446744073709551616:Nat):Nat):Int):=fun m => by omega
  rw [e1,e2,e3,← d1,← d2]
  refine ⟨⟨by omega,by omega⟩,by omega,⟨by omega,by omega⟩,by omega,⟨Int.natCast_nonneg _,Int.ofNat_lt.2 x1,Int.natCast_nonneg _,Int.ofNat_lt.2 x2,Int.natCast_nonneg _,Int.ofNat_le.2 c1⟩,⟨by omega,by omega⟩,by rw [Zb,List.length_replicate]; omega,i+1,rfl,?_,by omega,by omega⟩
  rw [Zeg hi _ rfl]
 ·obtain rfl:i=4:=by omega
  have e1:(wd 4 (a+b)++List.replicate (4 - 4) (W 0))=wd 4 (a+b):=by simp
  have e2:(wd 4 (a+b)).take 4=wd 4 (a+b):=List.take_of_length_le (by rw [Zb]; exact Nat.le_refl _)
  have e3:splice [W 0,W 0,W 0,W 0] 0 (wd 4 (a+b))=wd 4 (a+b):=Zy (Zb _ _)
  have e4:decide ((0:Int)<(((a%(18446744073709551616:Nat)^4+b%(18446744073709551616:Nat)^4) / (18446744073709551616:Nat)^4:Nat):Int))=decide ((18446744073709551616:Nat)^4≤a+b):=by
   rw [Nat.mod_eq_of_lt ha,Nat.mod_eq_of_lt hb]
   congr 1
   apply propext
   have:=Nat.div_pos_iff (a:=a+b) (b:=(18446744073709551616:Nat)^4)
   omega
  simp only [List.length_replicate,Zb,e1,e2,e3,e4,Zg]
  exact ⟨by decide,⟨trivial,trivial⟩,by decide,Zc rfl⟩
theorem Zd3 {H:AH} {a b:Nat} (ha:a<(18446744073709551616:Nat)^4) (hb:b<(18446744073709551616:Nat)^4):Called Tryz.prog F.limb_Sub [.agg (num a),.agg (num b)] H (.tup [.agg (num (a+(18446744073709551616:Nat)^4 - b)),Bl (decide (a<b))]) H:=by
 refine Zh1 ?_
 have l1:=Zb 4 a
 have l2:=Zb 4 b
 have n1:∀ n,(num n).isEmpty=false:=fun n => rfl
 simp only [Hl,go_sem,Zg,n1]
 refine Z1 _ (fun (i:Nat) => ([(2,.ptr H.length 0),(3,.ptr (H.length+1) 0),(4,.ptr (H.length+2) 0),(6,.ptr (H.length+3) 0),(7,W (bor (18446744073709551616:Nat) a b i)),(9,I i)],H++[⟨num a,0,true⟩,⟨num b,0,true⟩,⟨[W 0,W 0,W 0,W 0],0,true⟩,⟨wd i (a+(18446744073709551616:Nat)^4 - b)++List.replicate (4 - i) (W 0),0,true⟩])) (fun i => i≤4) (fun i => 4 - i) 0 (Nat.zero_le _) ?_ ?_
 ·simp [Nat.mod_one,wd,dig,bor]
 intro i hi
 simp only [go_sem]
 refine ⟨fun hh => ?_,fun hh => ?_⟩
 ·have hi:i<4:=by omega
  have l3:(wd i (a+(18446744073709551616:Nat)^4 - b)++List.replicate (4 - i) (W 0)).length=4:=by rw [List.length_append,Zb,List.length_replicate]; omega
  have d2:=Zsc (B:=(18446744073709551616:Nat)) (by decide) a b i
  obtain ⟨t,ht,d1⟩:=Zji (B:=(18446744073709551616:Nat)) (by decide) (a:=a) hb hi
  have x1:a / (18446744073709551616:Nat)^i%(18446744073709551616:Nat)<(18446744073709551616:Nat):=Nat.mod_lt _ (by decide)
  have x2:b / (18446744073709551616:Nat)^i%(18446744073709551616:Nat)<(18446744073709551616:Nat):=Nat.mod_lt _ (by decide)
  have w2:IntKind.i64.wrap ((i:Int)+1)=((i+1:Nat):Int):=by rw [w64 _ (by omega) (by omega)]; omega
  have c1:bor (18446744073709551616:Nat) a b i≤1:=by unfold bor; split <;> omega
  have e2:(if ((a / (18446744073709551616:Nat)^i%(18446744073709551616:Nat):Nat):Int)<((b / (18446744073709551616:Nat)^i%(18446744073709551616:Nat):Nat):Int)+((bor (18446744073709551616:Nat) a b i:Nat):Int) then (1:Int) else 0)=((bor (18446744073709551616:Nat) a b (i+1):Nat):Int):=by
   rw [d2]
   by_cases h:a / (18446744073709551616:Nat)^i%(18446744073709551616:Nat)<b / (18446744073709551616:Nat)^i%(18446744073709551616:Nat)+bor (18446744073709551616:Nat) a b i
   ·rw [if_pos h,if_pos (by exact_mod_cast h)]; rfl
   ·rw [if_neg h,if_neg (by exact_mod_cast h)]; rfl
  have e3:(((a / (18446744073709551616:Nat)^i%(18446744073709551616:Nat):Nat):Int) - ((b / (18446744073709551616:Nat)^i%(18446744073709551616:Nat):Nat):Int) - ((bor (18446744073709551616:Nat) a b i:Nat):Int))%18446744073709551616=(((a+(18446744073709551616:Nat)^4 - b) / (18446744073709551616:Nat)^i%(18446744073709551616:Nat):Nat):Int):=by
   rw [ht]
   generalize a / (18446744073709551616:Nat)^i=x at *
   generalize b / (18446744073709551616:Nat)^i=y at *
   generalize bor (18446744073709551616:Nat) a b i=c at *
   generalize (18446744073709551616:Nat)^(4 - i - 1)=Q at *
   omega
  simp only [go_sem,l1,l2,l3,Ul hi,Ug,Pb,w2,e2,e3]
  refine ⟨⟨by omega,by omega⟩,by omega,⟨by omega,by omega⟩,by omega,⟨Int.natCast_nonneg _,Int.ofNat_lt.2 x1,Int.natCast_nonneg _,Int.ofNat_lt.2 x2,Int.natCast_nonneg _,Int.ofNat_le.2 c1⟩,⟨by omega,by omega⟩,by rw [Zb,List.length_replicate]; omega,i+1,rfl,?_,by omega,by omega⟩
  rw [Zeg hi _ rfl]
 ·obtain rfl:i=4:=by omega
  have e1:(wd 4 (a+(18446744073709551616:Nat)^4 - b)++List.replicate (4 - 4) (W 0))=wd 4 (a+(18446744073709551616:Nat)^4 - b):=by simp
  have e2:(wd 4 (a+(18446744073709551616:Nat)^4 - b)).take 4=wd 4 (a+(18446744073709551616:Nat)^4 - b):=List.take_of_length_le (by rw [Zb]; exact Nat.le_refl _)
  have e3:splice [W 0,W 0,W 0,W 0] 0 (wd 4 (a+(18446744073709551616:Nat)^4 - b))=wd 4 (a+(18446744073709551616:Nat)^4 - b):=Zy (Zb _ _)
  have e4:decide ((0:Int)<((bor (18446744073709551616:Nat) a b 4:Nat):Int))=decide (a<b):=by
   unfold bor
   rw [Nat.mod_eq_of_lt ha,Nat.mod_eq_of_lt hb]
   by_cases h:a<b
   ·rw [if_pos h]; simp [h]
   ·rw [if_neg h]; simp [h]
  simp only [List.length_replicate,Zb,e1,e2,e3,e4,Zg]
  exact ⟨by decide,⟨trivial,trivial⟩,by decide,Zc rfl⟩
end Go.Proofs.YtcgjlpdkobmpnaaGreat.Eng
namespace Go.Proofs.YtcgjlpdkobmpnaaGreat.Eng
open Go Go.Proofs
set_option linter.unusedVariables false
set_option linter.unusedSimpArgs false
set_option maxRecDepth 10000
def cmpN (a b:Nat):Int:=if a<b then -1 else if b<a then 1 else 0
theorem Zan {a b i:Nat} (h:a / (18446744073709551616:Nat)^(i+1)=b / (18446744073709551616:Nat)^(i+1)):(a / (18446744073709551616:Nat)^i%(18446744073709551616:Nat)<b / (18446744073709551616:Nat)^i%(18446744073709551616:Nat)→a<b)∧(a / (18446744073709551616:Nat)^i%(18446744073709551616:Nat)=b / (18446744073709551616:Nat)^i%(18446744073709551616:Nat)→a / (18446744073709551616:Nat)^i=b / (18446744073709551616:Nat)^i):=by
 have e:∀ c,c / (18446744073709551616:Nat)^(i+1)=c / (18446744073709551616:Nat)^i / (18446744073709551616:Nat):=fun c => by rw [Nat.pow_succ,Nat.div_div_eq_div_mul]
 rw [e,e] at h
 refine ⟨fun hx => ?_,fun hx => ?_⟩
 ·have:a / (18446744073709551616:Nat)^i<b / (18446744073709551616:Nat)^i:=by omega
  refine Nat.lt_of_not_le fun hle => ?_
  have:=Nat.div_le_div_right (c:=(18446744073709551616:Nat)^i) hle
  omega
 ·omega
theorem Fo {H:AH} {a b:Nat} (ha:a<(18446744073709551616:Nat)^4) (hb:b<(18446744073709551616:Nat)^4):Called Tryz.prog F.limb_Cmp [.agg (num a),.agg (num b)] H (I (cmpN a b)) H:=by
 refine Zh4 ?_
 have l1:=Zb 4 a
 have l2:=Zb 4 b
 have n1:∀ n,(num n).isEmpty=false:=fun n => rfl
 simp only [Hq,go_sem,Zg,n1]
 refine Z1 _ (fun (k:Nat) => ([(2,.ptr H.length 0),(3,.ptr (H.length+1) 0),(5,I (3 - (k:Int)))],H++[⟨num a,0,true⟩,⟨num b,0,true⟩])) (fun k => k≤4∧a / (18446744073709551616:Nat)^(4 - k)=b / (18446744073709551616:Nat)^(4 - k)) (fun k => 4 - k) 0 ⟨by decide,by rw [Nat.div_eq_of_lt ha,Nat.div_eq_of_lt hb]⟩ rfl ?_
 rintro k ⟨hk,heq⟩
 simp only [go_sem]
 refine ⟨fun hh => ?_,fun hh => ?_⟩
 ·obtain ⟨i,hi,hi4⟩:∃ i:Nat,3 - (k:Int)=i∧i<4:=⟨3 - k,by omega,by omega⟩
  have e4:4 - k=i+1:=by omega
  rw [e4] at heq
  obtain ⟨c1,c2⟩:=Zan heq
  obtain ⟨c3,_⟩:=Zan heq.symm
  have w2:IntKind.i64.wrap ((i:Int) - 1)=3 - ((k+1:Nat):Int):=by rw [w64 _ (by omega) (by omega)]; omega
  simp only [hi,go_sem,l1,l2,Ul hi4,w2]
  have q1:∀ x y:Nat,((x:Int)<(y:Int))=(x<y):=fun x y => propext Int.ofNat_lt
  simp only [q1]
  refine ⟨⟨by omega,by omega⟩,by omega,⟨by omega,by omega⟩,by omega,fun hlt => Zc ?_,fun hlt => ⟨⟨by omega,by omega⟩,by omega,⟨by omega,by omega⟩,by omega,fun hgt => Zc ?_,fun hgt => ⟨k+1,rfl,⟨by omega,?_⟩,by omega⟩⟩⟩
  ·rw [cmpN,if_pos (c1 hlt)]; rfl
  ·have:=c3 hgt
   rw [cmpN,if_neg (by omega),if_pos this]; rfl
  ·rw [show 4 - (k+1)=i by omega]
   exact c2 (by omega)
 ·obtain rfl:k=4:=by omega
  rw [Nat.sub_self,Nat.pow_zero,Nat.div_one,Nat.div_one] at heq
  subst heq
  refine Zc ?_
  rw [cmpN,if_neg (by omega),if_neg (by omega)]; rfl
end Go.Proofs.YtcgjlpdkobmpnaaGreat.Eng
namespace Go.Proofs.YtcgjlpdkobmpnaaGreat.Eng
open Go Go.Proofs
set_option linter.unusedVariables false
set_option linter.unusedSimpArgs false
set_option maxRecDepth 10000
theorem wu (x:Nat) (h:x<(18446744073709551616:Nat)):IntKind.u64.wrap (x:Int)=(x:Int):=wu64 _ (by omega) (by omega)
theorem wumod (x:Nat):IntKind.u64.wrap (x:Int)=((x%(18446744073709551616:Nat):Nat):Int):=by
 simp only [IntKind.wrap,IntKind.bits,IntKind.signed]
 simp
theorem C2 (x:Nat) (h:x<(18446744073709551616:Nat)):bAnd .u64 (x:Int) 4294967295=((x%4294967296:Nat):Int):=by
 show IntKind.u64.wrap ((BitVec.ofInt 64 (x:Int) &&& BitVec.ofInt 64 4294967295).toNat:Int)=_
 have e:(BitVec.ofInt 64 (x:Int) &&& BitVec.ofInt 64 4294967295).toNat=x%4294967296:=by
  rw [BitVec.toNat_and,BitVec.toNat_ofInt,BitVec.toNat_ofInt]
  have e1:((x:Int)%((2^64:Nat):Int)).toNat=x:=by omega
  have e2:((4294967295:Int)%((2^64:Nat):Int)).toNat=2^32 - 1:=by decide
  rw [e1,e2,Nat.and_two_pow_sub_one_eq_mod]
 rw [e,wu _ (by omega)]
theorem Uy (x k:Nat):((x:Nat):Int).fdiv (2^k)=((x / 2^k:Nat):Int):=by
 rw [Int.fdiv_eq_ediv_of_nonneg _ (Int.le_of_lt (Int.pow_pos (by decide))),Int.natCast_ediv]
 simp
theorem Zvx (x:Nat):((x:Nat):Int).fdiv (2^min 32 64)=((x / 4294967296:Nat):Int):=Uy x 32
theorem Zqe (x y:Nat):x*y / (18446744073709551616:Nat)=(x / 4294967296)*(y / 4294967296)+((x / 4294967296)*(y%4294967296)+(x%4294967296)*(y%4294967296) / 4294967296) / 4294967296+(((x / 4294967296)*(y%4294967296)+(x%4294967296)*(y%4294967296) / 4294967296)%4294967296+(x%4294967296)*(y / 4294967296)) / 4294967296:=by
 have hx:x=4294967296*(x / 4294967296)+x%4294967296:=(Nat.div_add_mod _ _).symm
 have hy:y=4294967296*(y / 4294967296)+y%4294967296:=(Nat.div_add_mod _ _).symm
 have e:x*y=18446744073709551616*((x / 4294967296)*(y / 4294967296))+4294967296*((x / 4294967296)*(y%4294967296))+4294967296*((x%4294967296)*(y / 4294967296))+(x%4294967296)*(y%4294967296):=by
  conv => lhs; rw [hx,hy]
  generalize x / 4294967296=a
  generalize x%4294967296=b
  generalize y / 4294967296=c
  generalize y%4294967296=d
  rw [Nat.add_mul,Nat.mul_add,Nat.mul_add,Nat.mul_assoc 4294967296 a,Nat.mul_left_comm a,← Nat.mul_assoc 4294967296 4294967296,Nat.mul_assoc 4294967296 a d,Nat.mul_left_comm b]
  omega
 rw [e]
 generalize (x / 4294967296)*(y / 4294967296)=p
 generalize (x / 4294967296)*(y%4294967296)=q
 generalize (x%4294967296)*(y / 4294967296)=r
 generalize (x%4294967296)*(y%4294967296)=s
 omega
theorem Zjb {H:AH} {x y:Nat} (hx:x<(18446744073709551616:Nat)) (hy:y<(18446744073709551616:Nat)):Called Tryz.prog F.math_bits_Mul64 [W x,W y] H (.tup [W (x*y / (18446744073709551616:Nat)),W (x*y%(18446744073709551616:Nat))]) H:=by
 refine Lz ?_
 have hb:∀ u v:Nat,u<4294967296→v<4294967296→u*v≤4294967295*4294967295:=fun u v h1 h2 => Nat.mul_le_mul (by omega) (by omega)
 have h1:=hb (x%4294967296) (y%4294967296) (by omega) (by omega)
 have h2:=hb (x / 4294967296) (y%4294967296) (by omega) (by omega)
 have h3:=hb (x%4294967296) (y / 4294967296) (by omega) (by omega)
 have h4:=hb (x / 4294967296) (y / 4294967296) (by omega) (by omega)
 have e:=Zqe x y
 simp only [Ty,go_sem,C2 _ hx,C2 _ hy,Zvx,← Int.natCast_mul,← Int.natCast_add]
 rw [wumod (x*y),e]
 generalize x / 4294967296*(y / 4294967296)=p at *
 generalize x / 4294967296*(y%4294967296)=q at *
 generalize x%4294967296*(y / 4294967296)=r at *
 generalize x%4294967296*(y%4294967296)=u at *
 have hxy:x*y / (18446744073709551616:Nat)<(18446744073709551616:Nat):=by
  rw [Nat.div_lt_iff_lt_mul (by decide)]
  exact Nat.mul_lt_mul'' hx hy
 rw [e] at hxy
 simp (disch:=omega) only [wu,Zvx,C2,← Int.natCast_add]
 exact ⟨by decide,by decide,by decide,by decide,by decide,Leave.refl _ _ _⟩
end Go.Proofs.YtcgjlpdkobmpnaaGreat.Eng
namespace Go.Proofs.YtcgjlpdkobmpnaaGreat.Eng
open Go Go.Proofs
set_option linter.unusedVariables false
set_option linter.unusedSimpArgs false
set_option maxRecDepth 10000
theorem Zt0 {a b:Nat} (ha:a<9223372036854775808) (hb:b<2):bOr .u64 (a:Int) ((b*9223372036854775808:Nat):Int)=((a+b*9223372036854775808:Nat):Int):=by
 have h1:(BitVec.ofInt 64 (a:Int) ||| BitVec.ofInt 64 ((b*9223372036854775808:Nat):Int)).toNat=a+b*9223372036854775808:=by
  rw [BitVec.toNat_or,BitVec.toNat_ofInt,BitVec.toNat_ofInt]
  have e1:((a:Int)%((2^64:Nat):Int)).toNat=a:=by omega
  have e2:(((b*9223372036854775808:Nat):Int)%((2^64:Nat):Int)).toNat=b*9223372036854775808:=by omega
  rw [e1,e2,Nat.or_comm]
  have:=Nat.shiftLeft_add_eq_or_of_lt (i:=63) (b:=a) (by omega) b
  rw [Nat.shiftLeft_eq] at this
  rw [← show 2^63=9223372036854775808 from rfl,← this]
  omega
 show IntKind.u64.wrap ((BitVec.ofInt 64 _ ||| BitVec.ofInt 64 _).toNat:Int)=_
 rw [h1,wu _ (by omega)]
theorem Zhr (a i:Nat):a / 2 / (18446744073709551616:Nat)^i%(18446744073709551616:Nat)=(a / (18446744073709551616:Nat)^i%(18446744073709551616:Nat)) / 2+(a / (18446744073709551616:Nat)^(i+1)%(18446744073709551616:Nat))%2*9223372036854775808:=by
 have e:a / (18446744073709551616:Nat)^(i+1)=a / (18446744073709551616:Nat)^i / (18446744073709551616:Nat):=by rw [Nat.pow_succ,Nat.div_div_eq_div_mul]
 rw [e,Nat.div_div_eq_div_mul,Nat.mul_comm 2,← Nat.div_div_eq_div_mul]
 generalize a / (18446744073709551616:Nat)^i=x
 omega
theorem Vp {k n i:Nat} (h:i<k):(wd k n).drop i=W (n / (18446744073709551616:Nat)^i%(18446744073709551616:Nat))::(wd k n).drop (i+1):=by
 rw [Xr (by rw [Zb]; exact h) .junk,Ul h]
theorem Yo {α:Type} {l r:List α} {n j:Nat} (h:l.length=n) (d:α):(l++r).getD (n+j) d=r.getD j d:=by
 subst h
 rw [List.getD_eq_getElem?_getD,List.getD_eq_getElem?_getD,List.getElem?_append_right (Nat.le_add_right _ _),Nat.add_sub_cancel_left]
theorem Za8 {H:AH} {a:Nat} (ha:a<(18446744073709551616:Nat)^4):Called Tryz.prog F.limb_Half [.agg (num a)] H (.agg (num (a / 2))) H:=by
 refine Zc4 ?_
 have l1:=Zb 4 a
 have n1:∀ n,(num n).isEmpty=false:=fun n => rfl
 simp only [Ku,go_sem,Zg,n1]
 refine Z1 _ (fun (i:Nat) => ([(1,.ptr H.length 0),(2,.ptr (H.length+1) 0),(4,I i)],H++[⟨wd i (a / 2)++(num a).drop i,0,true⟩,⟨[W 0,W 0,W 0,W 0],0,true⟩])) (fun i => i≤4) (fun i => 4 - i) 0 (Nat.zero_le _) rfl ?_
 intro i hi
 simp only [go_sem]
 refine ⟨fun hh => ?_,fun hh => ?_⟩
 ·have hi:i<4:=by omega
  have l3:(wd i (a / 2)++(num a).drop i).length=4:=by rw [List.length_append,Zb,List.length_drop,l1]; omega
  have w2:IntKind.i64.wrap ((i:Int)+1)=((i+1:Nat):Int):=by rw [w64 _ (by omega) (by omega)]; omega
  have g0:(wd i (a / 2)++(num a).drop i).getD i .junk=W (a / (18446744073709551616:Nat)^i%(18446744073709551616:Nat)):=by
   rw [Vp hi]; exact Yo (j:=0) (Zb i (a / 2)) _
  have s0:∀ v,(wd i (a / 2)++(num a).drop i).set i v=wd i (a / 2)++v::(num a).drop (i+1):=fun v => by
   rw [Vp hi,List.set_append_right _ _ (by rw [Zb]; exact Nat.le_refl _),Zb,Nat.sub_self,List.set_cons_zero]
  have s1:∀ v v',(wd i (a / 2)++v::(num a).drop (i+1)).set i v'=wd i (a / 2)++v'::(num a).drop (i+1):=fun v v' => by
   rw [List.set_append_right _ _ (by rw [Zb]; exact Nat.le_refl _),Zb,Nat.sub_self,List.set_cons_zero]
  have g1:∀ v,(wd i (a / 2)++v::(num a).drop (i+1)).getD i .junk=v:=fun v => by
   exact Yo (j:=0) (Zb i (a / 2)) _
  have sh1:((a / (18446744073709551616:Nat)^i%(18446744073709551616:Nat):Nat):Int).fdiv (2^min 1 64)=((a / (18446744073709551616:Nat)^i%(18446744073709551616:Nat) / 2:Nat):Int):=Uy _ 1
  have wf:wd (i+1) (a / 2)=wd i (a / 2)++[W (a / 2 / (18446744073709551616:Nat)^i%(18446744073709551616:Nat))]:=by rw [wd,wd,J4,List.map_append]; rfl
  have hd:=Zhr a i
  by_cases h4:i+1<4
  ·have g2:∀ v,(wd i (a / 2)++v::(num a).drop (i+1)).getD (i+1) .junk=W (a / (18446744073709551616:Nat)^(i+1)%(18446744073709551616:Nat)):=fun v => by
    rw [Vp h4]; exact Yo (j:=1) (Zb i (a / 2)) _
   have x1:a / (18446744073709551616:Nat)^i%(18446744073709551616:Nat)<(18446744073709551616:Nat):=Nat.mod_lt _ (by decide)
   have x2:a / (18446744073709551616:Nat)^(i+1)%(18446744073709551616:Nat)<(18446744073709551616:Nat):=Nat.mod_lt _ (by decide)
   generalize hx:a / (18446744073709551616:Nat)^i%(18446744073709551616:Nat)=x at *
   generalize hy:a / (18446744073709551616:Nat)^(i+1)%(18446744073709551616:Nat)=y at *
   have sh2:IntKind.u64.wrap ((y:Int)*2^min 63 64)=((y%2*9223372036854775808:Nat):Int):=by
    rw [show ((y:Int)*2^min 63 64)=((y*9223372036854775808:Nat):Int) by rw [Int.natCast_mul]; rfl,wumod]
    omega
   have h8:((i+1:Nat):Int)<4:=by omega
   simp only [go_sem,l3,w2,g0,sh1,s0,s1,g1,g2,sh2,Zt0 (show x / 2<9223372036854775808 by omega) (show y%2<2 by omega),h8,List.length_drop,Zb]
   refine ⟨by omega,by omega,by decide,by omega,by omega,⟨⟨by omega,by omega,by omega,by omega,by decide,by omega,by omega,i+1,rfl,?_,by omega,by omega⟩,fun h => absurd trivial h⟩⟩
   rw [wf,hd,List.append_assoc]; rfl
  ·have hz:a / (18446744073709551616:Nat)^(i+1)%(18446744073709551616:Nat)=0:=by
    obtain rfl:i=3:=by omega
    rw [Nat.div_eq_of_lt ha,Nat.zero_mod]
   rw [hz,Nat.zero_mod,Nat.zero_mul,Nat.add_zero] at hd
   have h8:¬ ((i+1:Nat):Int)<4:=by omega
   simp only [go_sem,l3,w2,g0,sh1,s0,s1,g1,h8,List.length_drop,Zb]
   refine ⟨by omega,by omega,by decide,by omega,by omega,fun _ => ⟨i+1,rfl,?_,by omega,by omega⟩⟩
   rw [wf,hd,List.append_assoc]; rfl
 ·obtain rfl:i=4:=by omega
  have e1:wd 4 (a / 2)++(num a).drop 4=num (a / 2):=by rw [List.drop_eq_nil_of_le (by rw [l1]; exact Nat.le_refl _),List.append_nil]
  have e2:(num (a / 2)).take 4=num (a / 2):=List.take_of_length_le (by rw [Zb]; exact Nat.le_refl _)
  have e3:splice [W 0,W 0,W 0,W 0] 0 (num (a / 2))=num (a / 2):=Zy (Zb _ _)
  simp only [go_sem,e1,e2,e3,Zb,Zg,List.length_drop]
  exact Zc rfl
end Go.Proofs.YtcgjlpdkobmpnaaGreat.Eng
namespace Go.Proofs.YtcgjlpdkobmpnaaGreat.Eng
open Go Go.Proofs
set_option linter.unusedVariables false
set_option linter.unusedSimpArgs false
set_option maxRecDepth 10000
theorem Zav (a i:Nat):a / (18446744073709551616:Nat)^(i / 64)%(18446744073709551616:Nat) / 2^(i%64)%2=a / 2^i%2:=by
 have e1:(18446744073709551616:Nat)^(i / 64)=2^(64*(i / 64)):=by rw [Nat.pow_mul]
 have e2:(2:Nat)^i=2^(64*(i / 64))*2^(i%64):=by rw [← Nat.pow_add,Nat.div_add_mod]
 rw [e1,e2,← Nat.div_div_eq_div_mul]
 generalize a / 2^(64*(i / 64))=n
 have hr:i%64<64:=Nat.mod_lt _ (by decide)
 generalize i%64=r at *
 have h:(18446744073709551616:Nat)=2^r*(2*2^(63 - r)):=by
  rw [← Nat.pow_succ',← Nat.pow_add,show r+(63 - r).succ=64 by omega]
 rw [h,Nat.mod_mul_right_div_self,Nat.mod_mul_right_mod]
theorem and1 (x:Nat) (h:x<(18446744073709551616:Nat)):bAnd .u64 (x:Int) 1=((x%2:Nat):Int):=by
 show IntKind.u64.wrap ((BitVec.ofInt 64 (x:Int) &&& BitVec.ofInt 64 1).toNat:Int)=_
 have e:(BitVec.ofInt 64 (x:Int) &&& BitVec.ofInt 64 1).toNat=x%2:=by
  rw [BitVec.toNat_and,BitVec.toNat_ofInt,BitVec.toNat_ofInt]
  have e1:((x:Int)%((2^64:Nat):Int)).toNat=x:=by omega
  have e2:((1:Int)%((2^64:Nat):Int)).toNat=1:=by decide
  rw [e1,e2,Nat.and_one_is_mod]
 rw [e,wu _ (by omega)]
theorem Zz9 {H:AH} {a i:Nat} (ha:a<(18446744073709551616:Nat)^4) (hi:i<256):Called Tryz.prog F.limb_Bit [.agg (num a),I i] H (Bl (decide (a / 2^i%2=1))) H:=by
 refine Zh5 ?_
 have l1:=Zb 4 a
 have n1:∀ n,(num n).isEmpty=false:=fun n => rfl
 have q1:(decide ((0:Int)≤(i:Int))&&decide ((i:Int)<256))=true:=by simp; omega
 have w1:IntKind.i64.wrap ((i:Int).tdiv 64)=((i / 64:Nat):Int):=by rw [Int.tdiv_eq_ediv_of_nonneg (by omega),w64 _ (by omega) (by omega)]; omega
 have w2:(i:Int).tmod 64=((i%64:Nat):Int):=by rw [Int.tmod_eq_emod_of_nonneg (by omega)]; omega
 have h4:i / 64<4:=by omega
 simp only [Hr,go_sem,Zg,n1,q1,w1,w2,l1,Ul h4]
 refine ⟨by decide,⟨by omega,by omega⟩,by omega,by decide,by omega,Zc ?_⟩
 rw [Nat.min_eq_left (by omega),Uy,and1 _ (Nat.lt_of_le_of_lt (Nat.div_le_self _ _) (Nat.mod_lt _ (by decide))),Zav]
 show (AV.lit (.bool _))=AV.lit (.bool _)
 congr 2
 generalize a / 2^i%2=x
 by_cases h:x=1
 ·subst h; rfl
 ·rw [decide_eq_false h,beq_eq_false_iff_ne]; omega
end Go.Proofs.YtcgjlpdkobmpnaaGreat.Eng
namespace Go.Proofs.YtcgjlpdkobmpnaaGreat.Eng
open Go Go.Proofs
set_option linter.unusedVariables false
set_option linter.unusedSimpArgs false
set_option maxRecDepth 10000
def blen (a:Nat):Nat:=if a=0 then 0 else a.log2+1
theorem Pp {x k:Nat} (h:2^k≤x):blen x=blen (x / 2^k)+k:=by
 have hx:x≠0:=by have:=Nat.pow_pos (n:=k) (show 0<2 by decide); omega
 have hd:x / 2^k≠0:=by have:=Nat.div_pos h (Nat.pow_pos (show 0<2 by decide)); omega
 rw [blen,if_neg hx,blen,if_neg hd]
 have h2:k≤x.log2:=(Nat.le_log2 hx).2 h
 have a1:=Nat.log2_self_le hx
 have a2:=Nat.lt_log2_self (n:=x)
 have:(x / 2^k).log2=x.log2 - k:=by
  rw [Nat.log2_eq_iff hd]
  constructor
  ·rw [Nat.le_div_iff_mul_le (Nat.pow_pos (by decide)),← Nat.pow_add]
   rwa [Nat.sub_add_cancel h2]
  ·rw [Nat.div_lt_iff_lt_mul (Nat.pow_pos (by decide)),← Nat.pow_add]
   rwa [show x.log2 - k+1+k=x.log2+1 by omega]
 omega
theorem Zu5 {y:Nat} (h:y<256):((#[0,1,2,2,3,3,3,3,4,4,4,4,4,4,4,4,5,5,5,5,5,5,5,5,5,5,5,5,5,5,5,5,6,6,6,6,6,6,6,6,6,6,6,6,6,6,6,6,6,6,6,6,6,6,6,6,6,6,6,6,6,6,6,6,7,7,7,7,7,7,7,7,7,7,7,7,7,7,7,7,7,7,7,7,7,7,7,7,7,7,7,7,7,7,7,7,7,7,7,7,7,7,7,7,7,7,7,7,7,7,7,7,7,7,7,7,7,7,7,7,7,7,7,7,7,7,7,7,8,8,8,8,8,8,8,8,8,8,8,8,8,8,8,8,8,8,8,8,8,8,8,8,8,8,8,8,8,8,8,8,8,8,8,8,8,8,8,8,8,8,8,8,8,8,8,8,8,8,8,8,8,8,8,8,8,8,8,8,8,8,8,8,8,8,8,8,8,8,8,8,8,8,8,8,8,8,8,8,8,8,8,8,8,8,8,8,8,8,8,8,8,8,8,8,8,8,8,8,8,8,8,8,8,8,8,8,8,8,8,8,8,8,8,8,8,8,8,8,8,8,8,8,8,8,8,8]:Array UInt8).getD y 0).toNat=blen y:=by
 have:∀ y:Fin 256,((#[0,1,2,2,3,3,3,3,4,4,4,4,4,4,4,4,5,5,5,5,5,5,5,5,5,5,5,5,5,5,5,5,6,6,6,6,6,6,6,6,6,6,6,6,6,6,6,6,6,6,6,6,6,6,6,6,6,6,6,6,6,6,6,6,7,7,7,7,7,7,7,7,7,7,7,7,7,7,7,7,7,7,7,7,7,7,7,7,7,7,7,7,7,7,7,7,7,7,7,7,7,7,7,7,7,7,7,7,7,7,7,7,7,7,7,7,7,7,7,7,7,7,7,7,7,7,7,7,8,8,8,8,8,8,8,8,8,8,8,8,8,8,8,8,8,8,8,8,8,8,8,8,8,8,8,8,8,8,8,8,8,8,8,8,8,8,8,8,8,8,8,8,8,8,8,8,8,8,8,8,8,8,8,8,8,8,8,8,8,8,8,8,8,8,8,8,8,8,8,8,8,8,8,8,8,8,8,8,8,8,8,8,8,8,8,8,8,8,8,8,8,8,8,8,8,8,8,8,8,8,8,8,8,8,8,8,8,8,8,8,8,8,8,8,8,8,8,8,8,8,8,8,8,8,8,8]:Array UInt8).getD y.1 0).toNat=blen y.1:=by decide +kernel
 exact this ⟨y,h⟩
theorem Zyc {y:Nat} (h:y<256):blen y≤8:=by
 have:∀ y:Fin 256,blen y.1≤8:=by decide +kernel
 exact this ⟨y,h⟩
theorem wu8n (y:Nat) (h:y<256):IntKind.u8.wrap (y:Int)=(y:Int):=wu8 _ (by omega) (by omega)
theorem Z36 (x:Nat):((x:Nat):Int).fdiv (2^min 16 64)=((x / 65536:Nat):Int):=Uy x 16
theorem shr8 (x:Nat):((x:Nat):Int).fdiv (2^8)=((x / 256:Nat):Int):=Uy x 8
theorem Tu {H:AH} {x y c:Nat} (hy:y<256) (hc:c≤56) (h:blen x=blen y+c):(0≤IntKind.u8.wrap (y:Int)∧IntKind.u8.wrap (y:Int)<((256:Nat):Int))∧Leave H (.lit (.int .i64 (IntKind.i64.wrap ((c:Int)+IntKind.i64.wrap (((#[0,1,2,2,3,3,3,3,4,4,4,4,4,4,4,4,5,5,5,5,5,5,5,5,5,5,5,5,5,5,5,5,6,6,6,6,6,6,6,6,6,6,6,6,6,6,6,6,6,6,6,6,6,6,6,6,6,6,6,6,6,6,6,6,7,7,7,7,7,7,7,7,7,7,7,7,7,7,7,7,7,7,7,7,7,7,7,7,7,7,7,7,7,7,7,7,7,7,7,7,7,7,7,7,7,7,7,7,7,7,7,7,7,7,7,7,7,7,7,7,7,7,7,7,7,7,7,7,8,8,8,8,8,8,8,8,8,8,8,8,8,8,8,8,8,8,8,8,8,8,8,8,8,8,8,8,8,8,8,8,8,8,8,8,8,8,8,8,8,8,8,8,8,8,8,8,8,8,8,8,8,8,8,8,8,8,8,8,8,8,8,8,8,8,8,8,8,8,8,8,8,8,8,8,8,8,8,8,8,8,8,8,8,8,8,8,8,8,8,8,8,8,8,8,8,8,8,8,8,8,8,8,8,8,8,8,8,8,8,8,8,8,8,8,8,8,8,8,8,8,8,8,8,8,8,8]:Array UInt8).getD (IntKind.u8.wrap (y:Int)).toNat 0).toNat:Int))))) H (I (blen x)) H:=by
 have h1:=Zyc hy
 rw [wu8n y hy,Int.toNat_natCast,Zu5 hy,w64 (blen y:Int) (by omega) (by omega),w64 _ (by omega) (by omega)]
 refine ⟨by omega,Zk ?_⟩
 rw [h,show (c:Int)+(blen y:Int)=((blen y+c:Nat):Int) by omega]
theorem Zvd {H:AH} {x:Nat} (hx:x<(18446744073709551616:Nat)):Called Tryz.prog F.math_bits_Len64 [W x] H (I (blen x)) H:=by
 have b1:∀ z,4294967296≤z→blen z=blen (z / 4294967296)+32:=fun z h => Pp (k:=32) h
 have b2:∀ z,65536≤z→blen z=blen (z / 65536)+16:=fun z h => Pp (k:=16) h
 have b3:∀ z,256≤z→blen z=blen (z / 256)+8:=fun z h => Pp (k:=8) h
 have c1:IntKind.i64.wrap (32+16)=48:=by decide
 have c2:IntKind.i64.wrap (48+8)=56:=by decide
 have c3:IntKind.i64.wrap (32+8)=40:=by decide
 have c4:IntKind.i64.wrap (16+8)=24:=by decide
 have c5:IntKind.i64.wrap (0+8)=8:=by decide
 have c6:IntKind.i64.wrap (0+16)=16:=by decide
 refine L4 ?_
 simp only [Tz,go_sem,Zvx,Z36,shr8,c1,c2,c3,c4,c5,c6]
 refine ⟨fun h1 => ⟨by decide,fun h2 => ⟨by decide,fun h3 => ⟨by decide,Tu (c:=56) (by omega) (by decide) ?_⟩,fun h3 => Tu (c:=48) (by omega) (by decide) ?_⟩,fun h2 => ⟨fun h3 => ⟨by decide,Tu (c:=40) (by omega) (by decide) ?_⟩,fun h3 => Tu (c:=32) (by omega) (by decide) ?_⟩⟩,
  fun h1 => ⟨fun h2 => ⟨by decide,fun h3 => ⟨by decide,Tu (c:=24) (by omega) (by decide) ?_⟩,fun h3 => Tu (c:=16) (by omega) (by decide) ?_⟩,fun h2 => ⟨fun h3 => ⟨by decide,Tu (c:=8) (by omega) (by decide) ?_⟩,fun h3 => Tu (c:=0) (by omega) (by decide) rfl⟩⟩⟩
 ·rw [b1 x (by omega),b2 _ (by omega),b3 _ (by omega)]
 ·rw [b1 x (by omega),b2 _ (by omega)]
 ·rw [b1 x (by omega),b3 _ (by omega)]
 ·rw [b1 x (by omega)]
 ·rw [b2 x (by omega),b3 _ (by omega)]
 ·rw [b2 x (by omega)]
 ·rw [b3 x (by omega)]
end Go.Proofs.YtcgjlpdkobmpnaaGreat.Eng
namespace Go.Proofs.YtcgjlpdkobmpnaaGreat.Eng
open Go Go.Proofs
set_option linter.unusedVariables false
set_option linter.unusedSimpArgs false
set_option maxRecDepth 10000
theorem Ztf {H:AH} {a:Nat} (ha:a<(18446744073709551616:Nat)^4):Called Tryz.prog F.limb_Len [.agg (num a)] H (I (blen a)) H:=by
 refine Zh3 ?_
 have l1:=Zb 4 a
 have n1:∀ n,(num n).isEmpty=false:=fun n => rfl
 simp only [Hp,go_sem,Zg,n1]
 refine Z1 _ (fun (k:Nat) => ([(1,.ptr H.length 0),(3,I (3 - (k:Int)))],H++[⟨num a,0,true⟩])) (fun k => k≤4∧a<(18446744073709551616:Nat)^(4 - k)) (fun k => 4 - k) 0 ⟨by decide,ha⟩ rfl ?_
 rintro k ⟨hk,hlt⟩
 simp only [go_sem]
 refine ⟨fun hh => ?_,fun hh => ?_⟩
 ·obtain ⟨i,hi,hi4⟩:∃ i:Nat,3 - (k:Int)=i∧i<4:=⟨3 - k,by omega,by omega⟩
  have e4:4 - k=i+1:=by omega
  rw [e4,Nat.pow_succ] at hlt
  have hp:0<(18446744073709551616:Nat)^i:=Nat.pow_pos (by decide)
  have hd:a / (18446744073709551616:Nat)^i%(18446744073709551616:Nat)=a / (18446744073709551616:Nat)^i:=Nat.mod_eq_of_lt ((Nat.div_lt_iff_lt_mul hp).2 (by rwa [Nat.mul_comm]))
  have hd2:a / (18446744073709551616:Nat)^i<(18446744073709551616:Nat):=hd ▸ Nat.mod_lt _ (by decide)
  have w2:IntKind.i64.wrap ((i:Int) - 1)=3 - ((k+1:Nat):Int):=by rw [w64 _ (by omega) (by omega)]; omega
  have w3:IntKind.i64.wrap (64*(i:Int))=((64*i:Nat):Int):=by rw [w64 _ (by omega) (by omega)]; omega
  simp only [hi,go_sem,l1,Ul hi4,w2,w3,hd]
  refine ⟨⟨by omega,by omega⟩,by omega,fun h0 => ⟨⟨by omega,by omega⟩,by omega,Za (Zvd hd2) (fun _ => rfl) ?_⟩,fun h0 => ⟨k+1,rfl,⟨by omega,?_⟩,by omega⟩⟩
  ·have h0:0<a / (18446744073709551616:Nat)^i:=Int.ofNat_lt.1 h0
   have hle:(18446744073709551616:Nat)^i≤a:=Nat.le_of_not_lt fun h => by rw [Nat.div_eq_of_lt h] at h0; exact absurd h0 (by decide)
   have e1:(18446744073709551616:Nat)^i=2^(64*i):=by rw [Nat.pow_mul]
   have e2:blen a=blen (a / (18446744073709551616:Nat)^i)+64*i:=by rw [e1]; exact Pp (e1 ▸ hle)
   have h5:blen (a / (18446744073709551616:Nat)^i)≤64:=by
    unfold blen
    split
    ·omega
    ·rename_i hne
     have:=(Nat.log2_lt hne).2 (show a / (18446744073709551616:Nat)^i<2^64 from hd2)
     omega
   simp only [go_sem]
   refine Zc ?_
   rw [w64 _ (by omega) (by omega),e2]
   show AV.lit (.int .i64 _)=AV.lit (.int .i64 _)
   congr 2
   omega
  ·rw [show 4 - (k+1)=i by omega]
   refine Nat.lt_of_not_le fun h => h0 (Int.ofNat_lt.2 (Nat.div_pos h hp))
 ·obtain rfl:k=4:=by omega
  have:a=0:=by rw [Nat.sub_self,Nat.pow_zero] at hlt; omega
  subst this
  exact Zc rfl
end Go.Proofs.YtcgjlpdkobmpnaaGreat.Eng
namespace Go.Proofs.YtcgjlpdkobmpnaaGreat.Eng
open Go Go.Proofs
set_option linter.unusedVariables false
set_option linter.unusedSimpArgs false
set_option maxRecDepth 10000
theorem natdiv (m:Nat):((m:Nat):Int) / 18446744073709551616=((m / (18446744073709551616:Nat):Nat):Int):=by omega
theorem natmod (m:Nat):((m:Nat):Int)%18446744073709551616=((m%(18446744073709551616:Nat):Nat):Int):=by omega
theorem Zi8 {H:AH} {x y a b:Nat} (hx:x<(18446744073709551616:Nat)) (hy:y<(18446744073709551616:Nat)) (ha:a<(18446744073709551616:Nat)) (hb:b<(18446744073709551616:Nat)):Called Tryz.prog F.field_step [W x,W y,W a,W b] H (.tup [W ((x*y+a+b)%(18446744073709551616:Nat)),W ((x*y+a+b) / (18446744073709551616:Nat))]) H:=by
 refine Zab ?_
 have hxy:x*y≤18446744073709551615*18446744073709551615:=Nat.mul_le_mul (by omega) (by omega)
 simp only [Md,go_sem]
 refine Za (Zjb hx hy) (fun _ => rfl) ?_
 generalize x*y=p at *
 have z0:(0:Int)=((0:Nat):Int):=rfl
 simp only [go_sem,Ug,Pb]
 simp (disch:=omega) only [Int.add_zero,← Int.natCast_add,natdiv,natmod,wu]
 refine ⟨by omega,by omega,?_⟩
 have e1:∀ m m':Nat,m=m'→W m=W m':=fun _ _ h => by rw [h]
 refine Zk (congrArg AV.tup ?_)
 refine List.cons_eq_cons.2 ⟨e1 _ _ ?_,List.cons_eq_cons.2 ⟨e1 _ _ ?_,rfl⟩⟩ <;> omega
end Go.Proofs.YtcgjlpdkobmpnaaGreat.Eng
namespace Go.Proofs.YtcgjlpdkobmpnaaGreat.Eng
open Go Go.Proofs
set_option linter.unusedVariables false
set_option linter.unusedSimpArgs false
set_option maxRecDepth 10000
theorem bpos (k:Nat):0<(18446744073709551616:Nat)^k:=Nat.pow_pos (by decide)
theorem Gv (S c k:Nat):(S+c*(18446744073709551616:Nat)^k) / (18446744073709551616:Nat)^k=S / (18446744073709551616:Nat)^k+c:=Nat.add_mul_div_right _ _ (bpos k)
theorem Zdp (S c k:Nat):dig (18446744073709551616:Nat) k (S+c*(18446744073709551616:Nat)^k)=dig (18446744073709551616:Nat) k S:=by
 rw [← Ox k (S+c*(18446744073709551616:Nat)^k) (by decide),Nat.add_mul_mod_self_right,Ox k S (by decide)]
theorem Zor (S c k:Nat):wd (k+1) (S+c*(18446744073709551616:Nat)^k)=wd k S++[W ((S / (18446744073709551616:Nat)^k+c)%(18446744073709551616:Nat))]:=by
 rw [wd,J4,Zdp,Gv,List.map_append]; rfl
theorem C5 (S c k:Nat):(S+c*(18446744073709551616:Nat)^k) / (18446744073709551616:Nat)^(k+1)=(S / (18446744073709551616:Nat)^k+c) / (18446744073709551616:Nat):=by
 rw [Nat.pow_succ,← Nat.div_div_eq_div_mul,Gv]
theorem Tt (a k:Nat):a%(18446744073709551616:Nat)^(k+1)=a%(18446744073709551616:Nat)^k+(a / (18446744073709551616:Nat)^k%(18446744073709551616:Nat))*(18446744073709551616:Nat)^k:=by
 rw [Nat.pow_succ,Nat.mod_mul,Nat.mul_comm ((18446744073709551616:Nat)^k)]
theorem Zoc {k n i:Nat} (h:i=k) {R:List AV} (d:AV):(wd k n++R).getD i d=R.getD 0 d:=by
 subst h; exact Yo (j:=0) (Zb i n) d
theorem Kk {k n i:Nat} (h:i=k) {R:List AV} (v:AV):(wd k n++R).set i v=wd k n++R.set 0 v:=by
 subst h
 rw [List.set_append_right _ _ (by rw [Zb]; exact Nat.le_refl _),Zb,Nat.sub_self]
theorem Tr {k n i:Nat} (h:n<(18446744073709551616:Nat)^i):(wd k n).drop i=List.replicate (k - i) (W 0):=by
 apply List.ext_getElem?
 intro j
 rw [List.getElem?_drop,List.getElem?_replicate]
 by_cases hj:i+j<k
 ·have e:=Ul (n:=n) hj
  rw [List.getD_eq_getElem?_getD] at e
  have hl:i+j<(wd k n).length:=by rw [Zb]; exact hj
  rw [List.getElem?_eq_getElem hl,Option.getD_some] at e
  rw [List.getElem?_eq_getElem hl,e,if_pos (by omega),Nat.div_eq_of_lt (Nat.lt_of_lt_of_le h (Nat.pow_le_pow_right (by decide) (Nat.le_add_right _ _)))]
 ·rw [List.getElem?_eq_none (by rw [Zb]; omega),if_neg (by omega)]
theorem Zul (k:Nat):wd k 0=List.replicate k (W 0):=by
 have:=Tr (k:=k) (n:=0) (i:=0) (by decide)
 simpa using this
theorem Ew {k n i:Nat} (h:i≤k):wd k n=wd i n++(wd k n).drop i:=by
 obtain ⟨j,rfl⟩:=Nat.le.dest h
 rw [wd,Zne,List.map_append]
 have:(List.map W (dig (18446744073709551616:Nat) i n)).length=i:=by rw [List.length_map,Pl]
 rw [List.drop_left' this]; rfl
theorem Zz7 {H:AH} {a b:Nat} (ha:a<(18446744073709551616:Nat)^4) (hb:b<(18446744073709551616:Nat)^4):Called Tryz.prog F.limb_Mul [.agg (num a),.agg (num b)] H (.agg (wd 8 (a*b))) H:=by
 refine Zh2 ?_
 have l1:=Zb 4 a
 have l2:=Zb 4 b
 have n1:∀ n,(num n).isEmpty=false:=fun n => rfl
 have t1:(num a).take 4=num a:=List.take_of_length_le (by rw [l1]; exact Nat.le_refl _)
 have t2:(num b).take 4=num b:=List.take_of_length_le (by rw [l2]; exact Nat.le_refl _)
 simp only [Hm,go_sem,Zg,n1,l1,l2,t1,t2]
 refine Z1 _ (fun (i:Nat) => ([(3,.ptr (H.length+1) 0),(4,.ptr (H.length+2) 0),(5,.ptr (H.length+3) 0),(14,.agg (num a)),(15,I i)],H++[⟨num a,0,true⟩,⟨num b,0,true⟩,⟨List.replicate 8 (W 0),0,true⟩,⟨wd 8 (a%(18446744073709551616:Nat)^i*b),0,true⟩])) (fun i => i≤4) (fun i => 4 - i) 0 (Nat.zero_le _) ?_ ?_
 ·rw [Nat.pow_zero,Nat.mod_one,Nat.zero_mul,Zul]; rfl
 intro i hi
 simp only [go_sem]
 refine ⟨fun hh => ?_,fun hh => ?_⟩
 ·have hi:i<4:=by omega
  simp only [go_sem,l1,l2,t2,Ul hi]
  refine ⟨by omega,?_⟩
  generalize hP:a%(18446744073709551616:Nat)^i*b=P
  generalize hx:a / (18446744073709551616:Nat)^i%(18446744073709551616:Nat)=x
  have hP':P<(18446744073709551616:Nat)^(i+4):=by
   rw [← hP,Nat.pow_add]; exact Nat.mul_lt_mul'' (Nat.mod_lt _ (bpos i)) hb
  have hx':x<(18446744073709551616:Nat):=hx ▸ Nat.mod_lt _ (by decide)
  have q0:P%(18446744073709551616:Nat)^i+x*(b%(18446744073709551616:Nat)^0)*(18446744073709551616:Nat)^i=P%(18446744073709551616:Nat)^i:=by simp [Nat.mod_one]
  refine Z1 _ (fun (k:Nat) => ([(3,.ptr (H.length+1) 0),(4,.ptr (H.length+2) 0),(5,.ptr (H.length+3) 0),(6,I i),(7,W x),(8,W ((P%(18446744073709551616:Nat)^(i+k)+x*(b%(18446744073709551616:Nat)^k)*(18446744073709551616:Nat)^i) / (18446744073709551616:Nat)^(i+k))),(14,.agg (num a)),(15,I i),(19,.agg (num b)),(20,I k)],H++[⟨num a,0,true⟩,⟨num b,0,true⟩,⟨List.replicate 8 (W 0),0,true⟩,⟨wd (i+k) (P%(18446744073709551616:Nat)^(i+k)+x*(b%(18446744073709551616:Nat)^k)*(18446744073709551616:Nat)^i)++(wd 8 P).drop (i+k),0,true⟩])) (fun k => k≤4∧(P%(18446744073709551616:Nat)^(i+k)+x*(b%(18446744073709551616:Nat)^k)*(18446744073709551616:Nat)^i) / (18446744073709551616:Nat)^(i+k)<(18446744073709551616:Nat)) (fun k => 4 - k) 0 ?_ ?_ ?_
  ·simp only [Nat.add_zero,q0,Nat.div_eq_of_lt (Nat.mod_lt P (bpos i))]; decide
  ·have:wd i (P%(18446744073709551616:Nat)^i)=wd i P:=by rw [wd,Ox i P (by decide)]; rfl
   simp only [Nat.add_zero,q0,Nat.div_eq_of_lt (Nat.mod_lt P (bpos i)),this,← Ew (show i≤8 by omega)]; rfl
  rintro k ⟨hk,hov⟩
  simp only [go_sem]
  refine ⟨fun hh2 => ?_,fun hh2 => ?_⟩
  ·have hk:k<4:=by omega
   generalize hS:P%(18446744073709551616:Nat)^(i+k)+x*(b%(18446744073709551616:Nat)^k)*(18446744073709551616:Nat)^i=S at *
   have hS':P%(18446744073709551616:Nat)^(i+(k+1))+x*(b%(18446744073709551616:Nat)^(k+1))*(18446744073709551616:Nat)^i=S+(P / (18446744073709551616:Nat)^(i+k)%(18446744073709551616:Nat)+x*(b / (18446744073709551616:Nat)^k%(18446744073709551616:Nat)))*(18446744073709551616:Nat)^(i+k):=by
    rw [← hS,← Nat.add_assoc i k 1,Tt,Tt,Nat.mul_add,Nat.add_mul,Nat.add_mul,Nat.pow_add (18446744073709551616:Nat) i k]
    have:x*(b / (18446744073709551616:Nat)^k%(18446744073709551616:Nat)*(18446744073709551616:Nat)^k)*(18446744073709551616:Nat)^i=x*(b / (18446744073709551616:Nat)^k%(18446744073709551616:Nat))*((18446744073709551616:Nat)^i*(18446744073709551616:Nat)^k):=by
     rw [Nat.mul_comm ((18446744073709551616:Nat)^i),← Nat.mul_assoc,← Nat.mul_assoc]
    omega
   have e1:IntKind.i64.wrap ((i:Int)+(k:Int))=((i+k:Nat):Int):=by rw [w64 _ (by omega) (by omega)]; omega
   have e2:IntKind.i64.wrap ((k:Int)+1)=((k+1:Nat):Int):=by rw [w64 _ (by omega) (by omega)]; omega
   have hy':b / (18446744073709551616:Nat)^k%(18446744073709551616:Nat)<(18446744073709551616:Nat):=Nat.mod_lt _ (by decide)
   have hp':P / (18446744073709551616:Nat)^(i+k)%(18446744073709551616:Nat)<(18446744073709551616:Nat):=Nat.mod_lt _ (by decide)
   have hik:i+k<8:=by omega
   simp only [go_sem,l2,Ul hk]
   refine ⟨by omega,Za (Zjb hx' hy') (fun _ => rfl) ?_⟩
   have hxy:x*(b / (18446744073709551616:Nat)^k%(18446744073709551616:Nat))≤18446744073709551615*18446744073709551615:=Nat.mul_le_mul (by omega) (by omega)
   generalize b / (18446744073709551616:Nat)^k%(18446744073709551616:Nat)=y at *
   simp only [go_sem,e1,e2,Zoc rfl,Kk rfl,Vp hik,List.length_append,Zb,List.length_drop,Ug,Pb]
   have z0:(0:Int)=((0:Nat):Int):=rfl
   have hw1:=Zor S (P / (18446744073709551616:Nat)^(i+k)%(18446744073709551616:Nat)+x*y) (i+k)
   have hw2:=C5 S (P / (18446744073709551616:Nat)^(i+k)%(18446744073709551616:Nat)+x*y) (i+k)
   generalize x*y=p at *
   generalize P / (18446744073709551616:Nat)^(i+k)%(18446744073709551616:Nat)=pw at *
   generalize hov':S / (18446744073709551616:Nat)^(i+k)=ov at *
   simp (disch:=omega) only [Int.add_zero,← Int.natCast_add,natdiv,natmod,wu]
   refine ⟨by omega,by omega,by omega,by omega,by omega,by omega,k+1,?_,?_,⟨by omega,?_⟩,by omega⟩
   ·rw [hS',← Nat.add_assoc i k 1,hw2]
    rw [show p / (18446744073709551616:Nat)+(p%(18446744073709551616:Nat)+pw) / (18446744073709551616:Nat)+((p%(18446744073709551616:Nat)+pw)%(18446744073709551616:Nat)+ov) / (18446744073709551616:Nat)=(ov+(pw+p)) / (18446744073709551616:Nat) by omega]
   ·rw [hS',← Nat.add_assoc i k 1,hw1,List.append_assoc]
    rw [show ((p%(18446744073709551616:Nat)+pw)%(18446744073709551616:Nat)+ov)%(18446744073709551616:Nat)=(ov+(pw+p))%(18446744073709551616:Nat) by omega]; rfl
   ·rw [hS',← Nat.add_assoc i k 1,hw2]; omega
  ·obtain rfl:k=4:=by omega
   have e1:IntKind.i64.wrap ((i:Int)+4)=((i+4:Nat):Int):=by rw [w64 _ (by omega) (by omega)]; omega
   have e2:IntKind.i64.wrap ((i:Int)+1)=((i+1:Nat):Int):=by rw [w64 _ (by omega) (by omega)]; omega
   have q4:P%(18446744073709551616:Nat)^(i+4)+x*(b%(18446744073709551616:Nat)^4)*(18446744073709551616:Nat)^i=a%(18446744073709551616:Nat)^(i+1)*b:=by
    rw [Nat.mod_eq_of_lt hP',Nat.mod_eq_of_lt hb,Tt,Nat.add_mul,hP,hx,Nat.mul_right_comm]
   have hP1:a%(18446744073709551616:Nat)^(i+1)*b<(18446744073709551616:Nat)^(i+5):=by
    rw [show i+5=(i+1)+4 by omega,Nat.pow_add (18446744073709551616:Nat) (i+1)]; exact Nat.mul_lt_mul'' (Nat.mod_lt _ (bpos _)) hb
   rw [q4] at hov
   have d1:(wd 8 P).drop (i+4)=W (P / (18446744073709551616:Nat)^(i+4)%(18446744073709551616:Nat))::(wd 8 P).drop (i+4+1):=Vp (by omega)
   have d2:(wd 8 P).drop (i+4+1)=(wd 8 (a%(18446744073709551616:Nat)^(i+1)*b)).drop (i+4+1):=by
    rw [Tr (Nat.lt_trans hP' (Nat.pow_lt_pow_right (by decide) (by omega))),Tr hP1]
   have d3:(wd 8 (a%(18446744073709551616:Nat)^(i+1)*b))=wd (i+4) (a%(18446744073709551616:Nat)^(i+1)*b)++W (a%(18446744073709551616:Nat)^(i+1)*b / (18446744073709551616:Nat)^(i+4))::(wd 8 (a%(18446744073709551616:Nat)^(i+1)*b)).drop (i+4+1):=by
    conv => lhs; rw [Ew (show i+4≤8 by omega),Vp (show i+4<8 by omega),Nat.mod_eq_of_lt hov]
   simp only [go_sem,q4,e1,e2,Kk rfl,d1,List.length_append,Zb,List.length_drop]
   refine ⟨by omega,by omega,i+1,rfl,?_,by omega,by omega⟩
   rw [d2,← d3]
 ·obtain rfl:i=4:=by omega
  have e1:(wd 8 (a%(18446744073709551616:Nat)^4*b)).take 8=wd 8 (a*b):=by rw [Nat.mod_eq_of_lt ha]; exact List.take_of_length_le (by rw [Zb]; exact Nat.le_refl _)
  have e3:splice [W 0,W 0,W 0,W 0,W 0,W 0,W 0,W 0] 0 (wd 8 (a*b))=wd 8 (a*b):=Zy (Zb _ _)
  have e4:(wd 8 (a*b)).take 8=wd 8 (a*b):=List.take_of_length_le (by rw [Zb]; exact Nat.le_refl _)
  simp only [go_sem,e1,e3,e4,Zb,Zg,List.length_replicate]
  exact Zc rfl
end Go.Proofs.YtcgjlpdkobmpnaaGreat.Eng
namespace Go.Proofs.YtcgjlpdkobmpnaaGreat.Eng
open Go Go.Proofs
set_option linter.unusedVariables false
set_option linter.unusedSimpArgs false
set_option maxRecDepth 10000
theorem F8 {H G K:AH} {v2 v:AV} (ks:List Nat) (hnd:ks.Nodup) (hlt:∀ k ∈ ks,k<G.length) (h:low (renk H.length ks) (H++G) v2=v) (hK:(ks.map fun k => Wl (renk H.length ks) (H++G) (obj G k))=K):Leave H v2 (H++G) v (H++K):=by
 have:=S4 (H:=H) (H1:=H) (H1':=H) (G:=G) ks hnd hlt rfl rfl (fun i o' hi => .inl ⟨hi,hi⟩) v2
 rwa [h,hK] at this
theorem Zkb (n:Nat) (ks:List Nat) (k:Nat):renk n ks (n+k)=(ks.idxOf? k).map (n+·):=by
 unfold renk; rw [if_neg (by omega),Nat.add_sub_cancel_left]
theorem Jx {α:Type} (ren:Nat→Option Nat) (H:AH) (f:α→AV) (hf:∀ a,low ren H (f a)=f a):∀ l:List α,lowL ren H (l.map f)=l.map f
 | [] => rfl
 | a::r => by simp only [List.map_cons,lowL,hf,Jx ren H f hf r]
theorem I9 (ren:Nat→Option Nat) (H:AH) (l:List UInt8):lowL ren H (bs l)=bs l:=Jx ren H u8 (fun _ => rfl) l
theorem Sn (ren:Nat→Option Nat) (H:AH) (k n:Nat):lowL ren H (wd k n)=wd k n:=Jx ren H W (fun _ => rfl) _
theorem Zs6 (x:Nat):IntKind.u8.wrap (x:Int)=((x%256:Nat):Int):=by
 simp only [IntKind.wrap,IntKind.bits,IntKind.signed]
 simp
theorem Zoy (n:Nat):u8 (UInt8.ofNat n)=.lit (.int .u8 ((n%256:Nat):Int)):=by simp [u8]
/-! ### Numbers of bytes -/
theorem Zxy (k:Nat):∀ (n j c:Nat),j<k→n / (18446744073709551616:Nat)^j%(18446744073709551616:Nat)+c<(18446744073709551616:Nat)→dig (18446744073709551616:Nat) k (n+c*(18446744073709551616:Nat)^j)=(dig (18446744073709551616:Nat) k n).set j (n / (18446744073709551616:Nat)^j%(18446744073709551616:Nat)+c):=by
 induction k with
 | zero => intro n j c h; omega
 | succ k ih =>
  intro n j c hj hc
  cases j with
  | zero =>
   simp only [Nat.pow_zero,Nat.mul_one,Nat.div_one] at *
   rw [dig,dig,List.set_cons_zero,show (n+c)%(18446744073709551616:Nat)=n%(18446744073709551616:Nat)+c by omega,show (n+c) / (18446744073709551616:Nat)=n / (18446744073709551616:Nat) by omega]
  | succ j =>
   have e1:n / (18446744073709551616:Nat)^(j+1)=n / (18446744073709551616:Nat) / (18446744073709551616:Nat)^j:=by rw [Nat.pow_succ,Nat.mul_comm,Nat.div_div_eq_div_mul]
   have e2:c*(18446744073709551616:Nat)^(j+1)=(18446744073709551616:Nat)*(c*(18446744073709551616:Nat)^j):=by rw [Nat.pow_succ,Nat.mul_left_comm,Nat.mul_comm ((18446744073709551616:Nat)^j),← Nat.mul_assoc,Nat.mul_comm]; rw [Nat.mul_comm (18446744073709551616:Nat),Nat.mul_comm,Nat.mul_assoc]
   rw [e1] at hc ⊢
   rw [dig,dig,List.set_cons_succ,e2,Nat.add_mul_mod_self_left,Nat.add_mul_div_left _ _ (show 0<(18446744073709551616:Nat) by decide),ih _ _ _ (by omega) hc]
theorem Ziy {k n j c:Nat} (hj:j<k) (hc:n / (18446744073709551616:Nat)^j%(18446744073709551616:Nat)+c<(18446744073709551616:Nat)):(wd k n).set j (W (n / (18446744073709551616:Nat)^j%(18446744073709551616:Nat)+c))=wd k (n+c*(18446744073709551616:Nat)^j):=by
 rw [wd,wd,Zxy k n j c hj hc,List.map_set]
theorem Zt1 {w y k:Nat} (hw:w<2^k) (hk:w+y*2^k<(18446744073709551616:Nat)):bOr .u64 (w:Int) ((y*2^k:Nat):Int)=((w+y*2^k:Nat):Int):=by
 have h1:(BitVec.ofInt 64 (w:Int) ||| BitVec.ofInt 64 ((y*2^k:Nat):Int)).toNat=w+y*2^k:=by
  rw [BitVec.toNat_or,BitVec.toNat_ofInt,BitVec.toNat_ofInt]
  generalize hz:y*2^k=z at *
  have e1:((w:Int)%((2^64:Nat):Int)).toNat=w:=by omega
  have e2:((z:Int)%((2^64:Nat):Int)).toNat=z:=by omega
  rw [e1,e2,Nat.or_comm,← hz]
  have:=Nat.shiftLeft_add_eq_or_of_lt (i:=k) (b:=w) hw y
  rw [Nat.shiftLeft_eq] at this
  rw [← this]
  omega
 show IntKind.u64.wrap ((BitVec.ofInt 64 _ ||| BitVec.ofInt 64 _).toNat:Int)=_
 rw [h1,wu _ hk]
theorem Zsi (l:List UInt8) (i:Nat) (h:i<l.length):(l.getD (l.length - 1 - i) 0).toNat=be l / 256^i%256:=by
 have e:=Z3b l
 have:(beN l.length (be l)).getD (l.length - 1 - i) 0=UInt8.ofNat (be l / 256^i):=by
  rw [beN,List.getD_eq_getElem?_getD,List.getElem?_map,List.getElem?_range (by omega)]
  show UInt8.ofNat _=_
  rw [show l.length - 1 - (l.length - 1 - i)=i by omega]
 rw [e] at this
 rw [this]; simp
theorem Zvc {H:AH} {x:AV} {l:List UInt8} (hx:Sl 1 H x (bs l) l.length) (hl:l.length≤32):Called Tryz.prog F.limb_Of [x] H (.tup [.agg (num (be l)),nilE]) H:=by
 refine Zna ?_
 have n1:∀ n,(num n).isEmpty=false:=fun n => rfl
 simp only [Eh,go_sem,hx.lenT,hx.n]
 refine ⟨fun h => by omega,fun _ => ?_⟩
 refine Z1 _ (fun (i:Nat) => ([(0,x),(2,.ptr H.length 0),(4,.ptr (H.length+1) 0),(12,I l.length),(13,I i)],H++[⟨[W 0,W 0,W 0,W 0],0,true⟩,⟨num (be l%256^i),0,true⟩])) (fun i => i≤l.length) (fun i => l.length - i) 0 (Nat.zero_le _) ?_ ?_
 ·rw [Nat.pow_zero,Nat.mod_one]; rfl
 intro i hi
 simp only [go_sem]
 refine ⟨fun hh => ?_,fun hh => ?_⟩
 ·have hi:i<l.length:=by omega
  have hx':=hx.app (G:=[⟨[W 0,W 0,W 0,W 0],0,true⟩,⟨num (be l%256^i),0,true⟩])
  have w1:IntKind.i64.wrap ((l.length:Int) - 1)=((l.length - 1:Nat):Int):=by rw [w64 _ (by omega) (by omega)]; omega
  have w1':IntKind.i64.wrap (((l.length - 1:Nat):Int) - (i:Int))=((l.length - 1 - i:Nat):Int):=by rw [w64 _ (by omega) (by omega)]; omega
  have w2:IntKind.i64.wrap ((i:Int)+1)=((i+1:Nat):Int):=by rw [w64 _ (by omega) (by omega)]; omega
  have w3:IntKind.i64.wrap ((i:Int).tdiv 8)=((i / 8:Nat):Int):=by rw [Int.tdiv_eq_ediv_of_nonneg (by omega),w64 _ (by omega) (by omega)]; omega
  have w4:(i:Int).tmod 8=((i%8:Nat):Int):=by rw [Int.tmod_eq_emod_of_nonneg (by omega)]; omega
  have w5:IntKind.i64.wrap (8*((i%8:Nat):Int))=((8*(i%8):Nat):Int):=by rw [w64 _ (by omega) (by omega)]; omega
  have h4:i / 8<4:=by omega
  have hm:min (8*(i%8)) 64=8*(i%8):=by omega
  have hk:l.length - 1 - i<l.length:=by omega
  simp only [go_sem,hx'.lenT,hx'.n,w1,w1',w2,w3,w4,w5,hx'.idx,hx'.ldOk .i64 hk (Nat.le_refl 1),hx'.ld1 .i64 hk,Eu l _ hk,Zsi l i hi,Zb,Ul h4,hm,IntKind.bits]
  have hy:be l / 256^i%256<256:=Nat.mod_lt _ (by decide)
  have h256:(256:Nat)^i=2^(8*(i%8))*(18446744073709551616:Nat)^(i / 8):=by
   have e1:(18446744073709551616:Nat)^(i / 8)=256^(8*(i / 8)):=by rw [Nat.pow_mul]
   have e3:(2:Nat)^(8*(i%8))=256^(i%8):=by rw [Nat.pow_mul]
   rw [e1,e3,← Nat.pow_add,Nat.mod_add_div]
  have hn:be l%256^i / (18446744073709551616:Nat)^(i / 8)<2^(8*(i%8)):=by
   rw [Nat.div_lt_iff_lt_mul (bpos _),← h256]; exact Nat.mod_lt _ (Nat.pow_pos (by decide))
  have hp2:(2:Nat)^(8*(i%8))≤2^56:=Nat.pow_le_pow_right (by decide) (by omega)
  have hn2:be l%256^i / (18446744073709551616:Nat)^(i / 8)%(18446744073709551616:Nat)=be l%256^i / (18446744073709551616:Nat)^(i / 8):=Nat.mod_eq_of_lt (by omega)
  have hnext:be l%256^(i+1)=be l%256^i+(be l / 256^i%256*2^(8*(i%8)))*(18446744073709551616:Nat)^(i / 8):=by
   rw [Nat.pow_succ,Nat.mod_mul,h256,Nat.mul_assoc,Nat.mul_comm (be l / _%256),Nat.mul_assoc,Nat.mul_comm ((18446744073709551616:Nat)^_)]
  have hset:=@Ziy 4 (be l%256^i) (i / 8) (be l / 256^i%256*2^(8*(i%8))) h4
  generalize hY:be l / 256^i%256=y at *
  generalize hN:be l%256^i=n at *
  have hyk:y*2^(8*(i%8))≤255*2^(8*(i%8)):=Nat.mul_le_mul_right _ (by omega)
  have w6:IntKind.u64.wrap ((y:Int)*2^(8*(i%8)))=((y*2^(8*(i%8)):Nat):Int):=by
   rw [← wu (y*2^(8*(i%8))) (by omega)]; congr 1
  have hs:=hset (by rw [hn2]; omega)
  rw [hn2] at hs ⊢
  rw [wu y (by omega),w6,Zt1 hn (by omega),hs,← hnext]
  exact ⟨by decide,by omega,by omega,by omega,by decide,by omega,by omega,by omega,i+1,rfl,rfl,by omega,by omega⟩
 ·obtain rfl:i=l.length:=by omega
  have e1:(num (be l%256^l.length)).take 4=num (be l):=by rw [Nat.mod_eq_of_lt (Zio l)]; exact List.take_of_length_le (by rw [Zb]; exact Nat.le_refl _)
  have e3:splice [W 0,W 0,W 0,W 0] 0 (num (be l))=num (be l):=Zy (Zb _ _)
  have e4:(num (be l)).take 4=num (be l):=List.take_of_length_le (by rw [Zb]; exact Nat.le_refl _)
  simp only [go_sem,e1,e3,e4,Zb,Zg,List.length_replicate]
  exact Zc rfl
end Go.Proofs.YtcgjlpdkobmpnaaGreat.Eng
namespace Go.Proofs.YtcgjlpdkobmpnaaGreat.Eng
open Go Go.Proofs
set_option linter.unusedVariables false
set_option linter.unusedSimpArgs false
set_option maxRecDepth 10000
def FD (H:AH) (p m:Nat):Prop:=p<H.length∧∃ r,obj H p=⟨num m++r,0,true⟩∧r.length=9
theorem Zz8 {H:AH} {p m a:Nat} (hf:FD H p m) (hm:m<(18446744073709551616:Nat)^4) (ha:a<(18446744073709551616:Nat)^4) (over:Bool) (hlt:a+(if over then (18446744073709551616:Nat)^4 else 0)<2*m) :
  Called Tryz.prog F.field_Field_less [.ptr p 0,.agg (num a),Bl over] H (.agg (num (if m≤a+(if over then (18446744073709551616:Nat)^4 else 0) then a+(if over then (18446744073709551616:Nat)^4 else 0) - m else a))) H:=by
 obtain ⟨hp,r,ho,hr⟩:=hf
 refine Ms ?_
 have l1:=Zb 4 a
 have l2:=Zb 4 m
 have n1:∀ n,(num n).isEmpty=false:=fun n => rfl
 have t1:(num m++r).take 4=num m:=List.take_left' l2
 have t2:(num a).take 4=num a:=List.take_of_length_le (by rw [Zb]; exact Nat.le_refl _)
 have hp1:p<H.length+2:=by omega
 simp only [Td,go_sem,Zg,n1,Yf _ _ hp,ho,hp1,t1,t2,l1,l2]
 refine ⟨fun _ => by omega,Zq (fun _ => Fo ha hm) ?_⟩
 have s1:splice (num a) 0 (num (a+(18446744073709551616:Nat)^4 - m))=num (a+(18446744073709551616:Nat)^4 - m):=Zy (by rw [Zb,Zb])
 have s2:∀ n,splice [AV.lit (.int .u64 0),AV.lit (.int .u64 0),AV.lit (.int .u64 0),AV.lit (.int .u64 0)] 0 (num n)=num n:=fun n => Zy (Zb _ _)
 have t3:∀ n,(num n).take 4=num n:=fun n => List.take_of_length_le (by rw [Zb]; exact Nat.le_refl _)
 simp only [go_sem,Yf _ _ hp,ho,hp1,t1,t2,l1,l2]
 have hge:(over || decide (0≤cmpN a m))=decide (m≤a+if over=true then (18446744073709551616:Nat)^4 else 0):=by
  cases over
  ·simp only [cmpN,Bool.false_or,Bool.false_eq_true,if_false,Nat.add_zero]
   congr 1
   apply propext
   split
   ·omega
   ·split <;> omega
  ·simp only [Bool.true_or,if_true]
   exact (decide_eq_true (by omega)).symm
 rw [hge]
 refine ⟨fun h => ⟨by omega,Za (Zd3 ha hm) (fun _ => rfl) ?_⟩,fun h => ?_⟩
 ·have h:=of_decide_eq_true h
  rw [if_pos h]
  have e:num (a+(18446744073709551616:Nat)^4 - m)=num ((a+if over=true then (18446744073709551616:Nat)^4 else 0) - m):=by
   cases over
   ·simp only [Bool.false_eq_true,if_false,Nat.add_zero] at h ⊢
    rw [show a+(18446744073709551616:Nat)^4 - m=(a - m)+(18446744073709551616:Nat)^4 by omega]
    show (dig (18446744073709551616:Nat) 4 _).map W=(dig (18446744073709551616:Nat) 4 _).map W; rw [← Ox 4 (a - m+(18446744073709551616:Nat)^4) (by decide),Nat.add_mod_right,Ox 4 _ (by decide)]
   ·simp only [if_true]
  simp only [go_sem,Zg,Zb,s1,s2,t3,l1]
  rw [e]
  exact Zc rfl
 ·have h:=of_decide_eq_false h
  rw [if_neg h]
  simp only [go_sem,Zg,Zb,s2,t3,l1]
  exact Zc rfl
end Go.Proofs.YtcgjlpdkobmpnaaGreat.Eng
namespace Go.Proofs.YtcgjlpdkobmpnaaGreat.Eng
open Go Go.Proofs
set_option linter.unusedVariables false
set_option linter.unusedSimpArgs false
set_option maxRecDepth 10000
theorem FD.app {H G:AH} {p m:Nat} (h:FD H p m):FD (H++G) p m:=by
 obtain ⟨hp,r,ho,hr⟩:=h
 exact ⟨by simp; omega,r,by rw [Yf _ _ hp]; exact ho,hr⟩
theorem Oo (n:Nat):num (n%(18446744073709551616:Nat)^4)=num n:=by show List.map W _=List.map W _; rw [Ox 4 n (by decide)]
theorem Zf (n:Nat):(num n).take 4=num n:=List.take_of_length_le (by rw [Zb]; exact Nat.le_refl _)
abbrev Z0:AV:=.lit (.int .u64 0)
theorem Ze (n:Nat):splice [Z0,Z0,Z0,Z0] 0 (num n)=num n:=Zy (Zb _ _)
theorem I5 (n:Nat):splice [W 0,W 0,W 0,W 0] 0 (num n)=num n:=Zy (Zb _ _)
theorem Vy (m n:Nat):splice (num m) 0 (num n)=num n:=Zy (by rw [Zb,Zb])
theorem Xf (n:Nat):(num n).isEmpty=false:=rfl
theorem Jw (n:Nat):(num n).getD 0 .junk=W (n%(18446744073709551616:Nat)):=rfl
theorem Zwi {w b:Nat} (hw:w<(18446744073709551616:Nat)) (h2:w%2=0) (hb:b<2):bOr .u64 (w:Int) (b:Int)=((w+b:Nat):Int):=by
 have:=@Zt1 b (w / 2) 1 hb (by omega)
 rw [show w / 2*2^1=w by omega] at this
 rw [show w+b=b+w by omega,← this]
 show IntKind.u64.wrap ((_:BitVec 64).toNat:Int)=IntKind.u64.wrap ((_:BitVec 64).toNat:Int)
 rw [BitVec.or_comm]
theorem Za9 {H:AH} {p m t:Nat} {over:Bool} (hf:FD H p m) (hm:m<(18446744073709551616:Nat)^4) (ht:t<2*m) (ho:over=decide ((18446744073709551616:Nat)^4≤t)) :
  Called Tryz.prog F.field_Field_less [.ptr p 0,.agg (num t),Bl over] H (.agg (num (t%m))) H:=by
 have e:t%(18446744073709551616:Nat)^4+(if over then (18446744073709551616:Nat)^4 else 0)=t:=by
  subst ho
  by_cases h:(18446744073709551616:Nat)^4≤t
  ·rw [decide_eq_true h,if_pos rfl]; omega
  ·rw [decide_eq_false h,if_neg (by decide)]; omega
 have:=Zz8 hf hm (a:=t%(18446744073709551616:Nat)^4) (Nat.mod_lt _ (by decide)) over (by rw [e]; exact ht)
 rw [e,Oo] at this
 have e2:(if m≤t then t - m else t%(18446744073709551616:Nat)^4)=t%m:=by
  split
  ·rename_i h
   rw [Nat.mod_eq_sub_mod h,Nat.mod_eq_of_lt (by omega)]
  ·rename_i h
   rw [Nat.mod_eq_of_lt (show t<m by omega),Nat.mod_eq_of_lt (by omega)]
 rwa [e2] at this
theorem Zvl {H:AH} {p m X:Nat} (hf:FD H p m) (hm:m<(18446744073709551616:Nat)^4) (h0:0<m) (hX:X<(18446744073709551616:Nat)^8):Called Tryz.prog F.field_Field_Cut [.ptr p 0,.agg (wd 8 X)] H (.agg (num (X%m))) H:=by
 refine L9 ?_
 have n1:(wd 8 X).isEmpty=false:=rfl
 simp only [T4,go_sem,Zg,n1]
 refine Z1 _ (fun (s:Nat × AH) => ([(0,.ptr p 0),(3,.ptr H.length 0),(4,.ptr (H.length+1) 0),(5,.ptr (H.length+2) 0),(6,I (511 - (s.1:Int)))],H++(⟨wd 8 X,0,true⟩::⟨[W 0,W 0,W 0,W 0],0,true⟩::⟨num (X / 2^(512 - s.1)%m),0,true⟩::s.2))) (fun s => s.1≤512) (fun s => 512 - s.1) (0,[]) (Nat.zero_le _) ?_ ?_
 ·have:X / 2^512%m=0:=by
   have e:(2:Nat)^512=(18446744073709551616:Nat)^8:=by decide +kernel
   rw [e,Nat.div_eq_of_lt hX,Nat.zero_mod]
  simp only [Nat.sub_zero,this]; rfl
 rintro ⟨k,G⟩ hk
 simp only at hk
 simp only [go_sem]
 refine ⟨fun hh => ?_,fun hh => ?_⟩
 ·obtain ⟨i,hi,hi4⟩:∃ i:Nat,511 - (k:Int)=i∧i+k=511:=⟨511 - k,by omega,by omega⟩
  rw [show 512 - k=i+1 by omega]
  generalize ho:X / 2^(i+1)%m=o
  have holt:o<m:=ho ▸ Nat.mod_lt _ h0
  have hob:o<(18446744073709551616:Nat)^4:=Nat.lt_trans holt hm
  have w3:IntKind.i64.wrap ((i:Int).tdiv 64)=((i / 64:Nat):Int):=by rw [Int.tdiv_eq_ediv_of_nonneg (by omega),w64 _ (by omega) (by omega)]; omega
  have w4:(i:Int).tmod 64=((i%64:Nat):Int):=by rw [Int.tmod_eq_emod_of_nonneg (by omega)]; omega
  have w2:IntKind.i64.wrap ((i:Int) - 1)=511 - ((k+1:Nat):Int):=by rw [w64 _ (by omega) (by omega)]; omega
  have h8:i / 64<8:=by omega
  have hm64:min (i%64) 64=i%64:=by omega
  have hb2:X / 2^i%2<2:=Nat.mod_lt _ (by decide)
  have hev:(o+o)%(18446744073709551616:Nat)%2=0:=by omega
  have hset:(num (o+o)).set 0 (W ((o+o)%(18446744073709551616:Nat)+X / 2^i%2))=num (o+o+X / 2^i%2):=by
   have:=@Ziy 4 (o+o) 0 (X / 2^i%2) (by decide) (by rw [Nat.pow_zero,Nat.div_one]; omega)
   rwa [Nat.pow_zero,Nat.div_one,Nat.mul_one] at this
  have hx1:X / (18446744073709551616:Nat)^(i / 64)%(18446744073709551616:Nat) / 2^(i%64)<(18446744073709551616:Nat):=Nat.lt_of_le_of_lt (Nat.div_le_self _ _) (Nat.mod_lt _ (by decide))
  have hd:decide ((18446744073709551616:Nat)^4≤o+o)=decide ((18446744073709551616:Nat)^4≤o+o+X / 2^i%2):=by
   congr 1; apply propext
   constructor
   ·omega
   ·intro h
    have:(18446744073709551616:Nat)^4%2=0:=by decide
    omega
  have hnext:(o+o+X / 2^i%2)%m=X / 2^i%m:=by
   have e1:X / 2^i=2*(X / 2^(i+1))+X / 2^i%2:=by rw [Nat.pow_succ,← Nat.div_div_eq_div_mul]; omega
   conv => rhs; rw [e1]
   rw [← ho,Nat.add_mod,Nat.add_mod (2*_),Nat.two_mul,← Nat.add_mod (X / 2^(i+1))]
  simp only [hi,go_sem,Zb,Zf,Zg]
  refine ⟨by omega,by omega,Za (Zd4 hob hob) (fun _ => rfl) ?_⟩
  simp only [go_sem,Zb,Zf,Zg,Ze,I5,Vy,Jw,w2,w3,w4,Ul h8,hm64,Uy,and1 _ hx1,Zav,Zwi (Nat.mod_lt _ (by decide)) hev hb2,hset,IntKind.bits]
  refine ⟨by decide,by decide,⟨by omega,by omega⟩,⟨by omega,by omega⟩,by decide,by omega,by decide,Za (Za9 hf.app hm (by omega) hd) (fun _ => rfl) ?_⟩
  rw [hnext]
  simp only [go_sem,Zb,Zg,Vy]
  exact ⟨by omega,(k+1,G++[⟨num (o+o+X / 2^i%2),0,true⟩]),by rw [w2],by rw [show 512 - (k+1)=i by omega],by omega,by omega⟩
 ·obtain rfl:k=512:=by omega
  simp only [go_sem,Zb,Zf,Zg,Ze,I5,Nat.sub_self,Nat.pow_zero,Nat.div_one]
  exact ⟨by omega,by omega,by omega,Zc rfl⟩
end Go.Proofs.YtcgjlpdkobmpnaaGreat.Eng
namespace Go.Proofs.YtcgjlpdkobmpnaaGreat.Eng
open Go Go.Proofs
set_option linter.unusedVariables false
set_option linter.unusedSimpArgs false
set_option maxRecDepth 10000
theorem Zuc (a b:Nat):decide (cmpN a b<0)=decide (a<b):=by
 unfold cmpN
 split
 ·rename_i h; simp [h]
 ·rename_i h
  split <;> simp [h]
theorem num8 (a:Nat) (h:a<(18446744073709551616:Nat)^4):[W (a / (18446744073709551616:Nat)^0%(18446744073709551616:Nat)),W (a / (18446744073709551616:Nat)^1%(18446744073709551616:Nat)),W (a / (18446744073709551616:Nat)^2%(18446744073709551616:Nat)),W (a / (18446744073709551616:Nat)^3%(18446744073709551616:Nat)),Z0,Z0,Z0,Z0]=wd 8 a:=by
 have:=Ew (k:=8) (n:=a) (i:=4) (by decide)
 rw [Tr h] at this
 have e:num a=[W (a / (18446744073709551616:Nat)^0%(18446744073709551616:Nat)),W (a / (18446744073709551616:Nat)^1%(18446744073709551616:Nat)),W (a / (18446744073709551616:Nat)^2%(18446744073709551616:Nat)),W (a / (18446744073709551616:Nat)^3%(18446744073709551616:Nat))]:=by
  simp only [wd,dig,List.map_cons,List.map_nil,Nat.pow_zero,Nat.div_one,Nat.pow_one,Nat.div_div_eq_div_mul]
 rw [this,show wd 4 a=num a from rfl,e]; rfl
theorem I7 {p n:Nat} (h:p<n) (k:Nat):(p<n+k)=True:=by simp; omega
theorem t_in {H:AH} {p m a:Nat} (hf:FD H p m) (hm:m<(18446744073709551616:Nat)^4) (h0:0<m) (ha:a<(18446744073709551616:Nat)^4):Called Tryz.prog F.field_Field_in [.ptr p 0,.agg (num a)] H (.agg (num (a%m))) H:=by
 refine Jl ?_
 have hf':∀ G,FD (H++G) p m:=fun G => hf.app
 obtain ⟨hp,r,ho,hr⟩:=hf
 have t2:(num m++r).take 4=num m:=List.take_left' (Zb 4 m)
 have g:∀ i,i<4→(num a).getD i .junk=W (a / (18446744073709551616:Nat)^i%(18446744073709551616:Nat)):=fun i hi => Ul hi
 simp only [Rc,go_sem,Zg,Xf,Zf,Zb,Yf _ _ hp,ho,hr,t2,I7 hp]
 refine Za (Fo ha hm) (fun _ => rfl) ?_
 simp only [go_sem,Zf,Ze,Zg,Zb,Zuc]
 refine ⟨fun h => ?_,fun h => ?_⟩
 ·rw [Nat.mod_eq_of_lt h]
  exact Zc rfl
 ·simp only [g 0 (by decide),g 1 (by decide),g 2 (by decide),g 3 (by decide)]
  simp only [go_sem,Zr,fillv,num8 a ha]
  refine ⟨by decide,by decide,by decide,by decide,Za (Zvl (hf' _) hm h0 (Nat.lt_trans ha (by decide))) (fun _ => rfl) ?_⟩
  simp only [go_sem,Zf,Ze,Zg,Zb]
  exact Zc rfl
theorem Ztj {H:AH} {p m a b:Nat} (hf:FD H p m) (hm:m<(18446744073709551616:Nat)^4) (h0:0<m) (ha:a<(18446744073709551616:Nat)^4) (hb:b<(18446744073709551616:Nat)^4):Called Tryz.prog F.field_Field_Add [.ptr p 0,.agg (num a),.agg (num b)] H (.agg (num (fadd m a b))) H:=by
 refine Ka ?_
 have hf':∀ G,FD (H++G) p m:=fun G => hf.app
 have la:=Nat.mod_lt a h0
 have lb:=Nat.mod_lt b h0
 simp only [T5,go_sem,Zg,Xf,Zf,Zb]
 refine Za ⟨rfl,fun G => t_in ((hf' _).app) hm h0 ha⟩ (fun _ => rfl) ?_
 simp only [go_sem,Zg,Xf,Zf,Zb]
 refine Za ⟨rfl,fun G => t_in ((hf' _).app) hm h0 hb⟩ (fun _ => rfl) ?_
 simp only [go_sem,Zg,Xf,Zf,Zb]
 refine Za ⟨rfl,fun G => Zd4 (Nat.lt_trans la hm) (Nat.lt_trans lb hm)⟩ (fun _ => rfl) ?_
 simp only [go_sem,Zg,Xf,Zf,Zb,Ze]
 refine Za (Za9 (hf' _) hm (by omega) rfl) (fun _ => rfl) ?_
 simp only [go_sem,Zg,Xf,Zf,Zb,Ze]
 refine Zc ?_
 show AV.agg (lowL _ _ (num _))=_
 rw [Sn,fadd,← Nat.add_mod]
theorem Zjd {H:AH} {p m a b:Nat} (hf:FD H p m) (hm:m<(18446744073709551616:Nat)^4) (h0:0<m) (ha:a<(18446744073709551616:Nat)^4) (hb:b<(18446744073709551616:Nat)^4):Called Tryz.prog F.field_Field_Sub [.ptr p 0,.agg (num a),.agg (num b)] H (.agg (num (fsub m (a%m) (b%m)))) H:=by
 refine L6 ?_
 have hf':∀ G,FD (H++G) p m:=fun G => hf.app
 have la:=Nat.mod_lt a h0
 have lb:=Nat.mod_lt b h0
 have la':=Nat.lt_trans la hm
 have lb':=Nat.lt_trans lb hm
 obtain ⟨hp,r,ho,hr⟩:=hf
 have t2:(num m++r).take 4=num m:=List.take_left' (Zb 4 m)
 simp only [T1,go_sem,Zg,Xf,Zf,Zb]
 refine Za ⟨rfl,fun G => t_in ((hf' _).app) hm h0 ha⟩ (fun _ => rfl) ?_
 simp only [go_sem,Zg,Xf,Zf,Zb]
 refine Za ⟨rfl,fun G => t_in ((hf' _).app) hm h0 hb⟩ (fun _ => rfl) ?_
 simp only [go_sem,Zg,Xf,Zf,Zb]
 refine Za ⟨rfl,fun G => Zd3 la' lb'⟩ (fun _ => rfl) ?_
 simp only [go_sem,Zg,Xf,Zf,Zb,Ze]
 generalize a%m=a at *
 generalize b%m=b at *
 refine ⟨fun h => ?_,fun h => ?_⟩
 ·have e:num (fsub m a b)=num ((a+(18446744073709551616:Nat)^4 - b)%(18446744073709551616:Nat)^4+m):=by
   rw [← Oo ((a+(18446744073709551616:Nat)^4 - b)%(18446744073709551616:Nat)^4+m),fsub,Nat.mod_eq_of_lt (show a+(m - b)<m by omega)]
   congr 2; omega
  rw [← Oo (a+(18446744073709551616:Nat)^4 - b)]
  simp only [go_sem,Zg,Xf,Zf,Zb,Ze,Yf _ _ hp,ho,hr,t2,I7 hp]
  refine Za (Zd4 (Nat.mod_lt _ (by decide)) hm) (fun _ => rfl) ?_
  simp only [go_sem,Zg,Xf,Zf,Zb,Ze,Vy,← e]
  exact Zc rfl
 ·have e:num (fsub m a b)=num (a+(18446744073709551616:Nat)^4 - b):=by
   rw [← Oo (a+(18446744073709551616:Nat)^4 - b),fsub,show a+(m - b)=(a - b)+m by omega,Nat.add_mod_right,Nat.mod_eq_of_lt (by omega)]
   congr 1; omega
  simp only [go_sem,Zg,Xf,Zf,Zb,Ze,Vy,← e]
  exact Zc rfl
def hlf (m a:Nat):Nat:=if a%2=0 then a / 2 else (a+m) / 2
theorem Zt7 {m a:Nat} (ha:a<m):hlf m a<m:=by unfold hlf; split <;> omega
theorem Ca (a:Nat):((((a%(18446744073709551616:Nat)%2:Nat):Int) == 0):Bool)=decide (a%2=0):=by
 have:a%(18446744073709551616:Nat)%2=a%2:=by omega
 rw [this]
 rcases (show a%2=0∨a%2=1 by omega) with h | h <;> rw [h] <;> rfl
theorem Z4f {w:Nat} (hw:w<9223372036854775808):bOr .u64 (w:Int) 9223372036854775808=((w+9223372036854775808:Nat):Int):=Zt0 (b:=1) hw (by decide)
theorem Z0l {H:AH} {p m a:Nat} (hf:FD H p m) (hm:m<(18446744073709551616:Nat)^4) (h0:0<m) (ha:a<m):Called Tryz.prog F.field_Field_half [.ptr p 0,.agg (num a)] H (.agg (num (hlf m a))) H:=by
 refine Mt ?_
 have hf':∀ G,FD (H++G) p m:=fun G => hf.app
 have ha':=Nat.lt_trans ha hm
 obtain ⟨hp,r,ho,hr⟩:=hf
 have t2:(num m++r).take 4=num m:=List.take_left' (Zb 4 m)
 simp only [Te,go_sem,Zg,Xf,Zf,Zb,Jw,and1 _ (Nat.mod_lt a (show 0<(18446744073709551616:Nat) by decide)),Ca]
 refine ⟨by omega,fun h => ?_,fun h => ?_⟩
 ·refine Za (Za8 ha') (fun _ => rfl) ?_
  simp only [go_sem,Zg,Xf,Zf,Zb,Ze]
  refine Zc ?_
  rw [hlf,if_pos h]; rfl
 ·simp only [go_sem,Zg,Xf,Zf,Zb,Yf _ _ hp,ho,hr,t2,I7 hp]
  refine Za ⟨rfl,fun G => Zd4 ha' hm⟩ (fun _ => rfl) ?_
  rw [← Oo (a+m)]
  simp only [go_sem,Zg,Xf,Zf,Zb,Ze]
  refine Za (Za8 (Nat.mod_lt _ (by decide))) (fun _ => rfl) ?_
  simp only [go_sem,Zg,Xf,Zf,Zb,Ze,Vy]
  have e:hlf m a=(a+m) / 2:=by rw [hlf,if_neg h]
  refine ⟨fun h => ?_,fun h => ?_⟩
  ·have hs:=@Ziy 4 ((a+m)%(18446744073709551616:Nat)^4 / 2) 3 9223372036854775808 (by decide)
   have hlt:(a+m)%(18446744073709551616:Nat)^4 / 2 / (18446744073709551616:Nat)^3<9223372036854775808:=by
    rw [Nat.div_lt_iff_lt_mul (bpos 3)]; omega
   have hmod:(a+m)%(18446744073709551616:Nat)^4 / 2 / (18446744073709551616:Nat)^3%(18446744073709551616:Nat)=(a+m)%(18446744073709551616:Nat)^4 / 2 / (18446744073709551616:Nat)^3:=Nat.mod_eq_of_lt (by omega)
   have hs:=hs (by omega)
   rw [hmod] at hs
   have e2:(a+m)%(18446744073709551616:Nat)^4 / 2+9223372036854775808*(18446744073709551616:Nat)^3=hlf m a:=by rw [e]; omega
   rw [e2] at hs
   simp only [go_sem,Zg,Xf,Zf,Zb,Ul (show 3<4 by decide),hmod,Z4f hlt,hs,Ze]
   exact ⟨by omega,by omega,Zc rfl⟩
  ·have e2:(a+m)%(18446744073709551616:Nat)^4 / 2=hlf m a:=by rw [e,Nat.mod_eq_of_lt (by omega)]
   simp only [go_sem,Zg,Xf,Zf,Zb,Ze,e2]
   exact Zc rfl
end Go.Proofs.YtcgjlpdkobmpnaaGreat.Eng
namespace Go.Proofs.YtcgjlpdkobmpnaaGreat.Eng
open Go Go.Proofs
set_option linter.unusedVariables false
set_option linter.unusedSimpArgs false
set_option maxRecDepth 10000
theorem J6:∀ (k a b:Nat),Wj (wd k a) (wd k b)=decide (a%(18446744073709551616:Nat)^k=b%(18446744073709551616:Nat)^k)
 | 0,a,b => by simp [wd,dig,Wj,Nat.mod_one]
 | k+1,a,b => by
  have ih:=J6 k (a / (18446744073709551616:Nat)) (b / (18446744073709551616:Nat))
  have e:∀ c:Nat,c%(18446744073709551616:Nat)^(k+1)=c%(18446744073709551616:Nat)+(18446744073709551616:Nat)*(c / (18446744073709551616:Nat)%(18446744073709551616:Nat)^k):=fun c => by rw [Nat.pow_succ,Nat.mul_comm,Nat.mod_mul]
  rw [e,e]
  show (((a%(18446744073709551616:Nat):Nat):Int) == ((b%(18446744073709551616:Nat):Nat):Int)&&Wj (wd k (a / (18446744073709551616:Nat))) (wd k (b / (18446744073709551616:Nat))))=_
  rw [ih,Bool.eq_iff_iff,Bool.and_eq_true,beq_iff_eq,decide_eq_true_eq,decide_eq_true_eq]
  generalize a / (18446744073709551616:Nat)%(18446744073709551616:Nat)^k=u
  generalize b / (18446744073709551616:Nat)%(18446744073709551616:Nat)^k=v
  omega
theorem Za1 {a b:Nat} (ha:a<(18446744073709551616:Nat)^4) (hb:b<(18446744073709551616:Nat)^4):C4 (.agg (num a)) (.agg (num b))=decide (a=b):=by
 show Wj _ _=_
 rw [J6,Nat.mod_eq_of_lt ha,Nat.mod_eq_of_lt hb]
theorem Gu {a:Nat} (ha:a<(18446744073709551616:Nat)^4):C4 (.agg (num a)) (.agg [Z0,Z0,Z0,Z0])=decide (a=0):=Za1 ha (b:=0) (by decide)
theorem Zyt {a:Nat} (ha:a<(18446744073709551616:Nat)^4):C4 (.agg (num a)) (.agg [.lit (.int .u64 1),Z0,Z0,Z0])=decide (a=1):=Za1 ha (b:=1) (by decide)
theorem Za0 (a b:Nat):Uj [some IntKind.u64,some IntKind.u64,some IntKind.u64,some IntKind.u64] (.agg (num a)) (.agg (num b))=True:=by
 simp [Uj,wd,dig,U8,List.replicate]
theorem C3 (a:Nat):Uj [some IntKind.u64,some IntKind.u64,some IntKind.u64,some IntKind.u64] (.agg (num a)) (.agg [Z0,Z0,Z0,Z0])=True:=Za0 a 0
theorem Zys (a:Nat):Uj [some IntKind.u64,some IntKind.u64,some IntKind.u64,some IntKind.u64] (.agg (num a)) (.agg [.lit (.int .u64 1),Z0,Z0,Z0])=True:=Za0 a 1
/-! ### The plain law -/
def oddS (m n y:Nat):Nat × Nat:=if h:n≠0∧n%2=0 then oddS m (n / 2) (hlf m y) else (n,y)
termination_by n
decreasing_by omega
def Cg (m x y:Nat):Prop:=(m:Int) ∣ (x:Int) - (y:Int)
theorem Zgp {m:Nat} (ho:m%2=1) {z:Int} (h:(m:Int) ∣ 2*z):(m:Int) ∣ z:=by
 obtain ⟨c,hc⟩:=h
 obtain ⟨k,hk⟩:∃ k:Nat,m=2*k+1:=⟨m / 2,by omega⟩
 refine ⟨(k+1)*c - z,?_⟩
 have e1:(m:Int)=2*k+1:=by omega
 clear hk ho
 grobner
theorem Z17 {m y n a:Nat} (ho:m%2=1) (h:Cg m (2*n) (y*a)):Cg m n (hlf m y*a):=by
 unfold Cg at *
 apply Zgp ho
 obtain ⟨c,hc⟩:=h
 unfold hlf
 split
 ·refine ⟨c,?_⟩
  have e:((y:Nat):Int)=2*((y / 2:Nat):Int):=by omega
  rw [Int.natCast_mul,Int.natCast_mul,e] at hc
  rw [Int.natCast_mul,← hc]
  generalize ((y / 2:Nat):Int)=z
  clear e hc
  grobner
 ·refine ⟨c - a,?_⟩
  have e:((y:Nat):Int)+m=2*(((y+m) / 2:Nat):Int):=by omega
  rw [Int.natCast_mul,Int.natCast_mul] at hc
  rw [Int.natCast_mul]
  generalize (((y+m) / 2:Nat):Int)=z at *
  clear ho
  grobner
theorem Vd {m:Nat} (ho:m%2=1):∀ (n y:Nat),y<m→(oddS m n y).2<m∧(oddS m n y).1≤n∧((oddS m n y).1=0∨(oddS m n y).1%2=1)∧(∀ w,w%2=1→Nat.gcd (oddS m n y).1 w=Nat.gcd n w)∧∀ a,Cg m n (y*a)→Cg m (oddS m n y).1 ((oddS m n y).2*a):=by
 intro n
 induction n using Nat.strongRecOn with
 | _ n ih =>
  intro y hy
  rw [oddS]
  split
  ·rename_i h
   obtain ⟨g1,g2,g3,g4,g5⟩:=ih (n / 2) (by omega) (hlf m y) (Zt7 hy)
   refine ⟨g1,by omega,g3,fun w hw => ?_,fun a ha => g5 a (Z17 ho (by rwa [show 2*(n / 2)=n by omega]))⟩
   rw [g4 w hw]
   conv => rhs; rw [show n=2*(n / 2) by omega]
   have:Nat.Coprime 2 w:=by
    show Nat.gcd 2 w=1
    rw [Nat.gcd_rec,hw]; rfl
   rw [this.gcd_mul_left_cancel]
  ·rename_i h
   exact ⟨hy,Nat.le_refl _,by omega,fun _ _ => rfl,fun _ h => h⟩
def invS (m un uy vn vy:Nat):Nat × Nat :=
 if h:un≠0∧un%2=1∧vn%2=1∧m%2=1∧uy<m∧vy<m then
  if un<vn then invS m (oddS m (vn - un) (fsub m vy uy)).1 (oddS m (vn - un) (fsub m vy uy)).2 un uy
  else invS m (oddS m (un - vn) (fsub m uy vy)).1 (oddS m (un - vn) (fsub m uy vy)).2 vn vy
 else (vn,vy)
termination_by un+vn
decreasing_by
 ·have:=(Vd h.2.2.2.1 (vn - un) (fsub m vy uy) (Nat.mod_lt _ (by omega))).2.1
  omega
 ·have:=(Vd h.2.2.2.1 (un - vn) (fsub m uy vy) (Nat.mod_lt _ (by omega))).2.1
  omega
theorem Zfm {m u v x y a:Nat} (hvu:v≤u) (hy:y<m) (h1:Cg m u (x*a)) (h2:Cg m v (y*a)):Cg m (u - v) (fsub m x y*a):=by
 unfold Cg at *
 obtain ⟨c,hc⟩:=h1
 obtain ⟨d,hd⟩:=h2
 have e1:((fsub m x y:Nat):Int)=x+(m - y) - m*((x+(m - y)) / m:Nat):=by
  have:=Nat.div_add_mod (x+(m - y)) m
  unfold fsub
  omega
 generalize ((x+(m - y)) / m:Nat)=k at e1
 refine ⟨c - d - a+k*a,?_⟩
 rw [Int.natCast_mul,e1,Int.mul_add,Int.mul_sub,Int.mul_sub,← hc,← hd,Int.sub_mul,Int.add_mul,Int.sub_mul,Int.mul_assoc]
 rw [Int.natCast_mul,Int.natCast_mul]
 omega
theorem Zhj {m a:Nat} (ho:m%2=1):∀ (s un uy vn vy:Nat),un+vn≤s→(un=0∨un%2=1)→vn%2=1→uy<m→vy<m→Cg m un (uy*a)→Cg m vn (vy*a) →
  (invS m un uy vn vy).1=Nat.gcd un vn∧(invS m un uy vn vy).2<m∧Cg m (invS m un uy vn vy).1 ((invS m un uy vn vy).2*a):=by
 intro s
 induction s with
 | zero => intro un uy vn vy hs _ hv; omega
 | succ s ih =>
  intro un uy vn vy hs hu hv hy hy' h1 h2
  rw [invS]
  by_cases h0:un=0
  ·rw [dif_neg (fun h => h.1 h0)]
   subst h0
   exact ⟨(Nat.gcd_zero_left vn).symm,hy',h2⟩
  ·have hu1:un%2=1:=by omega
   rw [dif_pos ⟨h0,hu1,hv,ho,hy,hy'⟩]
   split
   ·rename_i hlt
    obtain ⟨g1,g2,g3,g4,g5⟩:=Vd ho (vn - un) (fsub m vy uy) (Nat.mod_lt _ (by omega))
    obtain ⟨k1,k2,k3⟩:=ih _ _ un uy (by omega) g3 hu1 g1 hy (g5 a (Zfm (by omega) hy h2 h1)) h1
    refine ⟨?_,k2,k3⟩
    rw [k1,g4 un hu1,Nat.gcd_comm]
    have:=Nat.gcd_sub_self_right (m:=un) (n:=vn) (by omega)
    rw [this]
   ·rename_i hlt
    obtain ⟨g1,g2,g3,g4,g5⟩:=Vd ho (un - vn) (fsub m uy vy) (Nat.mod_lt _ (by omega))
    obtain ⟨k1,k2,k3⟩:=ih _ _ vn vy (by omega) g3 hv g1 hy' (g5 a (Zfm (by omega) hy' h1 h2)) h2
    refine ⟨?_,k2,k3⟩
    rw [k1,g4 vn hv,Nat.gcd_comm]
    have:=Nat.gcd_sub_self_right (m:=vn) (n:=un) (by omega)
    rw [this,Nat.gcd_comm]
theorem Zxb {m a:Nat} (ho:m%2=1) (hm:1<m) (ha:a<m):(invS m (oddS m a 1).1 (oddS m a 1).2 m 0).1=Nat.gcd a m∧(Nat.gcd a m=1→(invS m (oddS m a 1).1 (oddS m a 1).2 m 0).2=minv m a):=by
 have c0:Cg m a (1*a):=by rw [Nat.one_mul]; exact ⟨0,by omega⟩
 have c1:Cg m m (0*a):=by rw [Nat.zero_mul]; exact ⟨1,by omega⟩
 obtain ⟨g1,g2,g3,g4,g5⟩:=Vd ho a 1 hm
 obtain ⟨k1,k2,k3⟩:=Zhj (a:=a) ho _ _ _ m 0 (Nat.le_refl _) g3 ho g1 (by omega) (g5 a c0) c1
 rw [g4 m ho] at k1
 refine ⟨k1,fun h => (Zca k2 ?_).symm⟩
 rw [k1,h] at k3
 obtain ⟨c,hc⟩:=k3
 generalize (invS m (oddS m a 1).1 (oddS m a 1).2 m 0).2=y at *
 have:(((a*y:Nat)%m:Nat):Int)=1:=by
  rw [Int.natCast_emod,Nat.mul_comm a y,show ((y*a:Nat):Int)=1+m*(-c) by rw [Int.mul_neg,← hc]; omega,Int.add_mul_emod_self_left]
  exact Int.emod_eq_of_lt (by decide) (by omega)
 omega
end Go.Proofs.YtcgjlpdkobmpnaaGreat.Eng
namespace Go.Proofs.YtcgjlpdkobmpnaaGreat.Eng
open Go Go.Proofs
set_option linter.unusedVariables false
set_option linter.unusedSimpArgs false
set_option maxRecDepth 10000
abbrev pr (n y:Nat):List AV:=num n++num y
theorem W0 (n y:Nat):(pr n y).length=8:=by rw [List.length_append,Zb,Zb]
theorem Pv (n y:Nat):(pr n y).all AV.one=true:=by rw [List.all_append,Zg,Zg]; rfl
theorem U3 (n y:Nat):(pr n y).take 4=num n:=List.take_left' (Zb 4 n)
theorem Rk (n y:Nat):(pr n y).take 8=pr n y:=List.take_of_length_le (by rw [W0]; exact Nat.le_refl _)
theorem Ix (n y:Nat):((pr n y).drop 4).take 4=num y:=by rw [List.drop_left' (Zb 4 n),Zf]
theorem Zwe (n y:Nat):(pr n y).getD 0 .junk=W (n%(18446744073709551616:Nat)):=rfl
theorem Z4c (n y:Nat):(pr n y).isEmpty=false:=rfl
theorem Zbz (n y k:Nat):splice (pr n y) 0 (num k)=pr k y:=by
 rw [Xe _ _ _ (by rw [W0,Zb]; decide),List.take_zero,Zb,List.drop_left' (Zb 4 n)]; rfl
theorem Dt (n y k:Nat):splice (pr n y) 4 (num k)=pr n k:=by
 rw [Xe _ _ _ (by rw [W0,Zb]; decide),U3,Zb,List.drop_eq_nil_of_le (by rw [W0]; decide),List.append_nil]
theorem Ll (n y a b:Nat):splice (pr n y) 0 (pr a b)=pr a b:=Zy (by rw [W0,W0])
theorem Zby (a b:Nat):splice [Z0,Z0,Z0,Z0,Z0,Z0,Z0,Z0] 0 (pr a b)=pr a b:=Zy (by rw [W0]; rfl)
theorem Ds (n:Nat):splice [Z0,Z0,Z0,Z0,Z0,Z0,Z0,Z0] 0 (num n)=pr n 0:=Zbz 0 0 n
theorem Zwd (n:Nat):splice [Z0,Z0,Z0,Z0,Z0,Z0,Z0,Z0] 0 (num n++[Z0,Z0,Z0,Z0])=pr n 0:=Zby n 0
theorem Ztx (n y:Nat):(pr n y).drop 8=[]:=List.drop_eq_nil_of_le (by rw [W0]; decide)
theorem Wp (ren:Nat→Option Nat) (H:AH):∀ a b:List AV,lowL ren H (a++b)=lowL ren H a++lowL ren H b
 | [],b => rfl
 | x::a,b => by simp only [List.cons_append,lowL,Wp ren H a b]
theorem Zwr {m n y:Nat} (h:n≠0∧n%2=0):oddS m n y=oddS m (n / 2) (hlf m y):=by rw [oddS,dif_pos h]
theorem Zp7 {m n y:Nat} (h:¬ (n≠0∧n%2=0)):oddS m n y=(n,y):=by rw [oddS,dif_neg h]
theorem Zvb {H:AH} {p m n y:Nat} (hf:FD H p m) (hm:m<(18446744073709551616:Nat)^4) (h0:0<m) (hn:n<(18446744073709551616:Nat)^4) (hy:y<m):Called Tryz.prog F.field_Field_odd [.ptr p 0,.agg (pr n y)] H (.agg (pr (oddS m n y).1 (oddS m n y).2)) H:=by
 refine L5 ?_
 have hf':∀ G,FD (H++G) p m:=fun G => hf.app
 simp only [T0,go_sem,Pv,Z4c]
 refine Z1 _ (fun (s:Nat × Nat) => ([(0,.ptr p 0),(3,.ptr H.length 0),(4,.ptr (H.length+1) 0)],H++[⟨pr s.1 s.2,0,true⟩,⟨[Z0,Z0,Z0,Z0,Z0,Z0,Z0,Z0],0,true⟩])) (fun s => s.1<(18446744073709551616:Nat)^4∧s.2<m∧oddS m s.1 s.2=oddS m n y) (fun s => s.1) (n,y) ⟨hn,hy,rfl⟩ rfl ?_
 rintro ⟨a,b⟩ ⟨ha,hb,hab⟩
 simp only at ha hb hab
 simp only [go_sem,W0,U3,C3,Gu ha,Zwe,and1 _ (Nat.mod_lt a (show 0<(18446744073709551616:Nat) by decide)),Ca,fillv,Rk,Zby,Pv]
 refine ⟨fun _ => by decide,fun h => ?_,fun h => ?_⟩
 ·have h:a≠0∧a%2=0:=by simpa using h
  refine Za (Za8 ha) (fun _ => rfl) ?_
  simp only [go_sem,Ix,W0]
  refine Za (Z0l (hf' _) hm h0 hb) (fun _ => rfl) ?_
  simp only [go_sem,W0,Zbz,Dt,Zg,Zb]
  exact ⟨(a / 2,hlf m b),rfl,⟨by show a / 2<_; omega,Zt7 hb,by rw [← hab,Zwr h]⟩,by show a / 2<a; omega⟩
 ·have h:¬ (a≠0∧a%2=0):=by simpa using h
  refine Zc ?_
  rw [← hab,Zp7 h]
  show AV.agg (lowL _ _ (num a++num b))=_
  rw [Wp,Sn,Sn]
theorem Zlx {m un uy vn vy:Nat} (h:un≠0∧un%2=1∧vn%2=1∧m%2=1∧uy<m∧vy<m):invS m un uy vn vy=if un<vn then invS m (oddS m (vn - un) (fsub m vy uy)).1 (oddS m (vn - un) (fsub m vy uy)).2 un uy else invS m (oddS m (un - vn) (fsub m uy vy)).1 (oddS m (un - vn) (fsub m uy vy)).2 vn vy:=by
 rw [invS,dif_pos h]
theorem Zq2 {m uy vn vy:Nat}:invS m 0 uy vn vy=(vn,vy):=by rw [invS,dif_neg (fun h => h.1 rfl)]
abbrev errV (n:Int):AV:=.lit (.iface T.api_Code (.int .i64 n))
theorem Z0c {H:AH} {p m a:Nat} (hf:FD H p m) (hm:m<(18446744073709551616:Nat)^4) (h1:1<m) (ho:m%2=1) (ha:a<(18446744073709551616:Nat)^4):Called Tryz.prog F.field_Field_Inv [.ptr p 0,.agg (num a)] H (if Nat.gcd (a%m) m=1 then .tup [.agg (num (minv m (a%m))),nilE] else .tup [.agg (num 0),errV 4]) H:=by
 refine L8 ?_
 have hf':∀ G,FD (H++G) p m:=fun G => hf.app
 have h0:0<m:=by omega
 have la:=Nat.mod_lt a h0
 obtain ⟨L1,L2⟩:=Zxb ho h1 la
 obtain ⟨f1,f2,f3,f4,f5⟩:=Vd ho (a%m) 1 h1
 obtain ⟨hp,r,hob,hr⟩:=hf
 have t2:(num m++r).take 4=num m:=List.take_left' (Zb 4 m)
 simp only [T3,go_sem,Zg,Xf,Zf,Zb,fillv,Zr]
 refine Za ⟨rfl,fun G => t_in ((hf' _).app) hm h0 ha⟩ (fun _ => rfl) ?_
 simp only [go_sem,Zg,Xf,Zf,Zb,fillv,Zr,Ds,U3,Ztx]
 refine Za ⟨rfl,fun G => Zvb (n:=a%m) (y:=1) ((hf' _).app) hm h0 (Nat.lt_trans la hm) h1⟩ (fun _ => rfl) ?_
 simp only [go_sem,Zg,Xf,Zf,Zb,fillv,Zr,Ds,U3,Ztx,Yf _ _ hp,hob,hr,t2,I7 hp,W0,Pv,Nat.add_assoc,Zby,Zwd]
 refine ⟨Pv m 0,?_⟩
 refine Z1 _ (fun (s:(Nat × Nat) × (Nat × Nat) × AH) => ([(0,.ptr p 0),(4,.ptr (H.length+1) 0),(6,.ptr (H.length+2) 0),(7,.ptr (H.length+3) 0)],H++(⟨num a,0,true⟩::⟨[Z0,Z0,Z0,Z0],0,true⟩::⟨pr s.1.1 s.1.2,0,true⟩::⟨pr s.2.1.1 s.2.1.2,0,true⟩::s.2.2)))
  (fun s => s.1.1<(18446744073709551616:Nat)^4∧s.2.1.1<(18446744073709551616:Nat)^4∧(s.1.1=0∨s.1.1%2=1)∧s.2.1.1%2=1∧s.1.2<m∧s.2.1.2<m∧invS m s.1.1 s.1.2 s.2.1.1 s.2.1.2=invS m (oddS m (a%m) 1).1 (oddS m (a%m) 1).2 m 0) (fun s => s.1.1+s.2.1.1) (((oddS m (a%m) 1).1,(oddS m (a%m) 1).2),(m,0),[])
  ⟨by have:=f2; show (oddS m (a%m) 1).1<_; omega,hm,f3,ho,f1,h0,rfl⟩ ?_ ?_
 ·rfl
 rintro ⟨⟨un,uy⟩,⟨vn,vy⟩,G⟩ ⟨i1,i2,i3,i4,i5,i6,i7⟩
 simp only at i1 i2 i3 i4 i5 i6 i7
 simp only [go_sem,W0,U3,C3,Gu i1,fillv]
 refine ⟨by omega,fun h => ?_,fun h => ?_⟩
 ·have hun:un≠0:=by simpa using h
  have hu:un≠0∧un%2=1∧vn%2=1∧m%2=1∧uy<m∧vy<m:=⟨hun,by omega,i4,ho,i5,i6⟩
  have hst:=Zlx hu
  have d4:=Ix
  refine ⟨by omega,by omega,Za (Fo i1 i2) (fun _ => rfl) ?_⟩
  simp only [go_sem,Zuc,W0,U3,Rk,Ll,Pv]
  refine ⟨fun hlt => ?_,fun hlt => ?_⟩
  ·rw [if_pos hlt] at hst
   have n1:num (vn+(18446744073709551616:Nat)^4 - un)=num (vn - un):=by rw [← Oo (vn+(18446744073709551616:Nat)^4 - un)]; congr 1; omega
   have fS:∀ G':AH,Called Tryz.prog F.field_Field_Sub [.ptr p 0,.agg (num vy),.agg (num uy)] (H++G') (.agg (num (fsub m vy uy))) (H++G'):=fun G' => by
    have:=Zjd (hf' G') hm h0 (Nat.lt_trans i6 hm) (Nat.lt_trans i5 hm)
    rwa [Nat.mod_eq_of_lt i6,Nat.mod_eq_of_lt i5] at this
   refine ⟨by omega,by omega,by omega,by omega,by omega,by omega,Za (Zd3 i2 i1) (fun _ => rfl) ?_⟩
   rw [n1]
   simp only [go_sem,W0,U3,Rk,Ll,Pv,Ix,Zf,Ze,Zb,Zg]
   refine ⟨by omega,by omega,Za (fS _) (fun _ => rfl) ?_⟩
   simp only [go_sem,Zb,Zr,fillv,Ds,Dt,Zg]
   refine Za (Zvb (hf' _) hm h0 (by omega) (Zi h0 _ _)) (fun _ => rfl) ?_
   obtain ⟨g1,g2,g3,g4,g5⟩:=Vd ho (vn - un) (fsub m vy uy) (Zi h0 _ _)
   simp only [go_sem,W0,U3,Rk,Ll,Pv]
   exact ⟨by omega,((oddS m (vn - un) (fsub m vy uy)),(un,uy),G++[⟨num (vn - un),0,true⟩]),rfl,⟨by show (oddS m (vn - un) (fsub m vy uy)).1<_; omega,i1,g3,hu.2.1,g1,i5,by rw [← i7,hst]⟩,by show (oddS m (vn - un) (fsub m vy uy)).1+un<_; omega⟩
  ·rw [if_neg hlt] at hst
   have n1:num (un+(18446744073709551616:Nat)^4 - vn)=num (un - vn):=by rw [← Oo (un+(18446744073709551616:Nat)^4 - vn)]; congr 1; omega
   have fS:∀ G':AH,Called Tryz.prog F.field_Field_Sub [.ptr p 0,.agg (num uy),.agg (num vy)] (H++G') (.agg (num (fsub m uy vy))) (H++G'):=fun G' => by
    have:=Zjd (hf' G') hm h0 (Nat.lt_trans i5 hm) (Nat.lt_trans i6 hm)
    rwa [Nat.mod_eq_of_lt i5,Nat.mod_eq_of_lt i6] at this
   refine ⟨by omega,by omega,Za (Zd3 i1 i2) (fun _ => rfl) ?_⟩
   rw [n1]
   simp only [go_sem,W0,U3,Rk,Ll,Pv,Ix,Zf,Ze,Zb,Zg]
   refine ⟨by omega,by omega,Za (fS _) (fun _ => rfl) ?_⟩
   simp only [go_sem,Zb,Zr,fillv,Ds,Dt,Zg]
   refine Za (Zvb (hf' _) hm h0 (by omega) (Zi h0 _ _)) (fun _ => rfl) ?_
   obtain ⟨g1,g2,g3,g4,g5⟩:=Vd ho (un - vn) (fsub m uy vy) (Zi h0 _ _)
   simp only [go_sem,W0,U3,Rk,Ll,Pv]
   exact ⟨by omega,((oddS m (un - vn) (fsub m uy vy)),(vn,vy),G++[⟨num (un - vn),0,true⟩]),rfl,⟨by show (oddS m (un - vn) (fsub m uy vy)).1<_; omega,i2,g3,i4,g1,i6,by rw [← i7,hst]⟩,by show (oddS m (un - vn) (fsub m uy vy)).1+vn<_; omega⟩
 ·have hun:un=0:=by simpa using h
  subst hun
  rw [Zq2] at i7
  rw [← i7] at L1 L2
  simp only at L1 L2
  simp only [go_sem,W0,U3,Zys,Zyt i2,fillv]
  refine ⟨by omega,fun h => ?_,fun h => ?_⟩
  ·have hv:vn≠1:=by simpa using h
   rw [if_neg (by omega)]
   exact ⟨by omega,by omega,Zc rfl⟩
  ·have hv:vn=1:=by simpa using h
   rw [if_pos (by omega),← L2 (by omega)]
   simp only [go_sem,Ix,W0,Zf,Ze,Zg,Zb]
   exact ⟨by omega,by omega,by omega,Zc rfl⟩
end Go.Proofs.YtcgjlpdkobmpnaaGreat.Eng
namespace Go.Proofs.YtcgjlpdkobmpnaaGreat.Eng
open Go Go.Proofs
set_option linter.unusedVariables false
set_option linter.unusedSimpArgs false
set_option maxRecDepth 10000
def newt (m0 x:Nat):Nat:=x*((2+(18446744073709551616:Nat) - m0*x%(18446744073709551616:Nat))%(18446744073709551616:Nat))%(18446744073709551616:Nat)
def Zk0 (m0:Nat):Nat→Nat
 | 0 => 1
 | k+1 => newt m0 (Zk0 m0 k)
def trn (m:Nat):Nat:=((18446744073709551616:Nat) - Zk0 (m%(18446744073709551616:Nat)) 6)%(18446744073709551616:Nat)
def fcells (m:Nat):List AV:=num m++W (trn m)::(num ((18446744073709551616:Nat)^4%m)++num ((18446744073709551616:Nat)^8%m))
def FF (H:AH) (p m:Nat):Prop:=p<H.length∧obj H p=⟨fcells m,0,true⟩
theorem FF.fd {H:AH} {p m:Nat} (h:FF H p m):FD H p m:=⟨h.1,_,h.2,by simp [Zb]⟩
theorem FF.app {H G:AH} {p m:Nat} (h:FF H p m):FF (H++G) p m:=⟨by have:=h.1; simp; omega,by rw [Yf _ _ h.1]; exact h.2⟩
theorem Ib (k n:Nat):wd (k+1) n=wd k n++[W (n / (18446744073709551616:Nat)^k%(18446744073709551616:Nat))]:=by rw [wd,J4,List.map_append]; rfl
theorem Ziz {k n i:Nat} (h:i<k) (R:List AV):(wd k n++R).getD i .junk=W (n / (18446744073709551616:Nat)^i%(18446744073709551616:Nat)):=by
 rw [List.getD_eq_getElem?_getD,List.getElem?_append_left (by rw [Zb]; exact h),← List.getD_eq_getElem?_getD,Ul h]
theorem Zj6 {m a b T i tr:Nat} (hm:m<(18446744073709551616:Nat)^4) (ha:a<m) (htr:(tr*m+1)%(18446744073709551616:Nat)=0) (hT:T<2*m) (hc:T*(18446744073709551616:Nat)^i%m=a*(b%(18446744073709551616:Nat)^i)%m) :
  let y:=b / (18446744073709551616:Nat)^i%(18446744073709551616:Nat)
  let U:=T+y*a
  let q:=U%(18446744073709551616:Nat)*tr%(18446744073709551616:Nat)
  (U+q*m)%(18446744073709551616:Nat)=0∧(U+q*m) / (18446744073709551616:Nat)<2*m∧(U+q*m) / (18446744073709551616:Nat)*(18446744073709551616:Nat)^(i+1)%m=a*(b%(18446744073709551616:Nat)^(i+1))%m:=by
 intro y U q
 have h1:(U+q*m)%(18446744073709551616:Nat)=0:=by
  have e1:q*m%(18446744073709551616:Nat)=U*(tr*m)%(18446744073709551616:Nat):=by
   show (U%(18446744073709551616:Nat)*tr%(18446744073709551616:Nat))*m%(18446744073709551616:Nat)=_
   rw [Nat.mod_mul_mod,Nat.mul_assoc,Nat.mod_mul_mod]
  have e2:U*(tr*m+1)%(18446744073709551616:Nat)=0:=by rw [Nat.mul_mod,htr,Nat.mul_zero,Nat.zero_mod]
  rw [Nat.mul_add,Nat.mul_one] at e2
  rw [Nat.add_mod,e1,← Nat.add_mod,Nat.add_comm]; exact e2
 have hy:y≤18446744073709551615:=by have:y<(18446744073709551616:Nat):=Nat.mod_lt _ (by decide); omega
 have hq:q≤18446744073709551615:=by have:q<(18446744073709551616:Nat):=Nat.mod_lt _ (by decide); omega
 have hya:y*a≤18446744073709551615*m:=Nat.mul_le_mul hy (by omega)
 have hqm:q*m≤18446744073709551615*m:=Nat.mul_le_mul_right _ hq
 have h2:(U+q*m) / (18446744073709551616:Nat)<2*m:=by
  rw [Nat.div_lt_iff_lt_mul (by decide)]
  show T+y*a+q*m<_
  omega
 refine ⟨h1,h2,?_⟩
 have e3:(U+q*m) / (18446744073709551616:Nat)*(18446744073709551616:Nat)=U+q*m:=by omega
 rw [Tt,Nat.pow_succ',← Nat.mul_assoc,e3,Nat.add_mul,Nat.mul_right_comm,Nat.add_mul_mod_self_right]
 show (T+y*a)*(18446744073709551616:Nat)^i%m=_
 rw [Nat.mul_add,Nat.add_mul,Nat.add_mod,hc,← Nat.add_mod]
 congr 2
 show b / (18446744073709551616:Nat)^i%(18446744073709551616:Nat)*a*(18446744073709551616:Nat)^i=a*(b / (18446744073709551616:Nat)^i%(18446744073709551616:Nat)*(18446744073709551616:Nat)^i)
 rw [Nat.mul_comm _ a,Nat.mul_assoc]
noncomputable def mon (m a b:Nat):Nat:=a*b*minv m ((18446744073709551616:Nat)^4%m)%m
theorem Zt3 {m a b r:Nat} (h1:1<m) (ho:m%2=1) (hr:r<m) (h:r*(18446744073709551616:Nat)^4%m=a*b%m):r=mon m a b:=by
 have hg:Nat.gcd ((18446744073709551616:Nat)^4%m) m=1:=by
  have c2:Nat.Coprime 2 m:=by show Nat.gcd 2 m=1; rw [Nat.gcd_rec,ho]; rfl
  have c:Nat.Coprime ((18446744073709551616:Nat)^4) m:=by
   rw [show (18446744073709551616:Nat)^4=2^256 by decide +kernel]
   exact Nat.Coprime.pow_left _ c2
  rw [← Nat.gcd_rec,Nat.gcd_comm]; exact c
 obtain ⟨k1,k2⟩:=S2 (Zlw h1 hg)
 unfold mon
 rw [Nat.mul_mod,← h,← Nat.mul_mod,Nat.mul_assoc,Nat.mul_mod,Nat.mul_mod ((18446744073709551616:Nat)^4)]
 generalize minv m ((18446744073709551616:Nat)^4%m)=z at *
 rw [Nat.mod_eq_of_lt k1,k2,Nat.mul_one,Nat.mod_mod,Nat.mod_eq_of_lt hr]
theorem Ztd {H:AH} {p m a b:Nat} (hf:FF H p m) (hm:m<(18446744073709551616:Nat)^4) (h1:1<m) (ho:m%2=1) (htr:(trn m*m+1)%(18446744073709551616:Nat)=0) (ha:a<m) (hb:b<m):Called Tryz.prog F.field_Field_mont [.ptr p 0,.agg (num a),.agg (num b)] H (.agg (num (mon m a b))) H:=by
 refine Mr ?_
 have hfd:=hf.fd
 have hfd':∀ G,FD (H++G) p m:=fun G => hfd.app
 obtain ⟨hp,hob⟩:=hf
 have ha4:=Nat.lt_trans ha hm
 have hb4:=Nat.lt_trans hb hm
 have f4:(fcells m).getD 4 .junk=W (trn m):=Yo (j:=0) (Zb 4 m) _
 have fi:∀ i,i<4→(fcells m).getD i .junk=W (m / (18446744073709551616:Nat)^i%(18446744073709551616:Nat)):=fun i hi => Ziz hi _
 have fl:(fcells m).length=13:=by simp [fcells,Zb]
 simp only [Tc,go_sem,Zg,Xf,Zf,Zb]
 refine Z1 _ (fun (s:Nat × Nat × Nat) => ([(0,.ptr p 0),(4,.ptr H.length 0),(6,.ptr (H.length+2) 0),(7,.ptr (H.length+3) 0),(16,.agg (num b)),(17,I s.1)],H++[⟨num a,0,true⟩,⟨num b,0,true⟩,⟨[Z0,Z0,Z0,Z0],0,true⟩,⟨wd 5 s.2.1++[W s.2.2],0,true⟩])) (fun s => s.1≤4∧s.2.1<2*m∧s.2.1*(18446744073709551616:Nat)^s.1%m=a*(b%(18446744073709551616:Nat)^s.1)%m) (fun s => 4 - s.1) (0,0,0) ⟨Nat.zero_le _,by show 0<_; omega,by simp [Nat.mod_one]⟩ rfl ?_
 rintro ⟨i,T,c⟩ ⟨hi,hT,hc⟩
 simp only at hi hT hc
 simp only [go_sem]
 refine ⟨fun hh => ?_,fun hh => ?_⟩
 ·have hi:i<4:=by omega
  obtain ⟨R1,R2,R3⟩:=Zj6 hm ha htr hT hc
  simp only [go_sem,Zb,Zf,Ul hi]
  refine ⟨by omega,?_⟩
  generalize hy:b / (18446744073709551616:Nat)^i%(18446744073709551616:Nat)=y at *
  have hy':y<(18446744073709551616:Nat):=hy ▸ Nat.mod_lt _ (by decide)
  have hT5:T<(18446744073709551616:Nat)^5:=by omega
  refine Z1 _ (fun (k:Nat) => ([(0,.ptr p 0),(4,.ptr H.length 0),(6,.ptr (H.length+2) 0),(7,.ptr (H.length+3) 0),(9,W y),(10,W ((T%(18446744073709551616:Nat)^k+y*(a%(18446744073709551616:Nat)^k)) / (18446744073709551616:Nat)^k)),(16,.agg (num b)),(17,I i),(20,.agg (num a)),(21,I k)],H++[⟨num a,0,true⟩,⟨num b,0,true⟩,⟨[Z0,Z0,Z0,Z0],0,true⟩,⟨wd k (T%(18446744073709551616:Nat)^k+y*(a%(18446744073709551616:Nat)^k))++((wd 5 T).drop k++[W c]),0,true⟩])) (fun k => k≤4∧(T%(18446744073709551616:Nat)^k+y*(a%(18446744073709551616:Nat)^k)) / (18446744073709551616:Nat)^k<(18446744073709551616:Nat)) (fun k => 4 - k) 0 ?_ ?_ ?_
  ·simp [Nat.mod_one]
  ·simp [Nat.mod_one,wd,dig]
  ·rintro k ⟨hk,hov⟩
   simp only [go_sem]
   refine ⟨fun hh2 => ?_,fun hh2 => ?_⟩
   ·have hk:k<4:=by omega
    have e2:IntKind.i64.wrap ((k:Int)+1)=((k+1:Nat):Int):=by rw [w64 _ (by omega) (by omega)]; omega
    have hS':T%(18446744073709551616:Nat)^(k+1)+y*(a%(18446744073709551616:Nat)^(k+1))=(T%(18446744073709551616:Nat)^k+y*(a%(18446744073709551616:Nat)^k))+(T / (18446744073709551616:Nat)^k%(18446744073709551616:Nat)+y*(a / (18446744073709551616:Nat)^k%(18446744073709551616:Nat)))*(18446744073709551616:Nat)^k:=by
     rw [Tt,Tt,Nat.mul_add,Nat.add_mul,Nat.mul_assoc]; omega
    have hx':a / (18446744073709551616:Nat)^k%(18446744073709551616:Nat)<(18446744073709551616:Nat):=Nat.mod_lt _ (by decide)
    have ht':T / (18446744073709551616:Nat)^k%(18446744073709551616:Nat)<(18446744073709551616:Nat):=Nat.mod_lt _ (by decide)
    have hw1:=Zor (T%(18446744073709551616:Nat)^k+y*(a%(18446744073709551616:Nat)^k)) (T / (18446744073709551616:Nat)^k%(18446744073709551616:Nat)+y*(a / (18446744073709551616:Nat)^k%(18446744073709551616:Nat))) k
    have hw2:=C5 (T%(18446744073709551616:Nat)^k+y*(a%(18446744073709551616:Nat)^k)) (T / (18446744073709551616:Nat)^k%(18446744073709551616:Nat)+y*(a / (18446744073709551616:Nat)^k%(18446744073709551616:Nat))) k
    simp only [go_sem,Ul hk,Zb,Zoc rfl,Kk rfl,Vp (show k<5 by omega),e2]
    generalize hS:T%(18446744073709551616:Nat)^k+y*(a%(18446744073709551616:Nat)^k)=S at *
    generalize a / (18446744073709551616:Nat)^k%(18446744073709551616:Nat)=x at *
    generalize T / (18446744073709551616:Nat)^k%(18446744073709551616:Nat)=t at *
    generalize hov':S / (18446744073709551616:Nat)^k=ov at *
    refine ⟨by omega,by omega,by omega,Za (Zi8 hx' hy' ht' hov) (fun _ => rfl) ?_⟩
    have e3:x*y+t+ov=ov+(t+y*x):=by rw [Nat.mul_comm x y]; omega
    have hq:y*x≤18446744073709551615*18446744073709551615:=Nat.mul_le_mul (by omega) (by omega)
    rw [e3]
    simp only [go_sem,Zb,Zoc rfl,Kk rfl,e2]
    refine ⟨by omega,by omega,k+1,?_,?_,⟨by omega,?_⟩,by omega⟩
    ·rw [hS',hw2]
    ·rw [hS',hw1,List.append_assoc]; rfl
    ·rw [hS',hw2]; omega
   ·obtain rfl:k=4:=by omega
    clear hh2
    generalize hU:T+y*a=U at *
    have u1:T%(18446744073709551616:Nat)^4+y*(a%(18446744073709551616:Nat)^4)=U%(18446744073709551616:Nat)^4+(U / (18446744073709551616:Nat)^4 - T / (18446744073709551616:Nat)^4)*(18446744073709551616:Nat)^4:=by
     rw [Nat.mod_eq_of_lt ha4,← hU]
     have:=Nat.div_add_mod T ((18446744073709551616:Nat)^4)
     have:=Nat.div_add_mod (T+y*a) ((18446744073709551616:Nat)^4)
     have:T / (18446744073709551616:Nat)^4≤(T+y*a) / (18446744073709551616:Nat)^4:=Nat.div_le_div_right (by omega)
     generalize T / (18446744073709551616:Nat)^4=q1 at *
     generalize (T+y*a) / (18446744073709551616:Nat)^4=q2 at *
     rw [Nat.sub_mul]
     have:q1*(18446744073709551616:Nat)^4≤q2*(18446744073709551616:Nat)^4:=Nat.mul_le_mul_right _ this
     omega
    have u2:wd 4 (T%(18446744073709551616:Nat)^4+y*(a%(18446744073709551616:Nat)^4))=wd 4 U:=by
     rw [u1]; show (dig (18446744073709551616:Nat) 4 _).map W=(dig (18446744073709551616:Nat) 4 _).map W; rw [Zdp,Ox 4 U (by decide)]
    have u3:(T%(18446744073709551616:Nat)^4+y*(a%(18446744073709551616:Nat)^4)) / (18446744073709551616:Nat)^4+T / (18446744073709551616:Nat)^4=U / (18446744073709551616:Nat)^4:=by
     rw [u1,Gv,Nat.div_eq_of_lt (Nat.mod_lt _ (bpos 4))]
     have:T / (18446744073709551616:Nat)^4≤U / (18446744073709551616:Nat)^4:=Nat.div_le_div_right (by omega)
     omega
    have hU6:U<(18446744073709551616:Nat)^6:=by
     have:y*a≤18446744073709551615*a:=Nat.mul_le_mul_right _ (by omega)
     omega
    have ht4:T / (18446744073709551616:Nat)^4%(18446744073709551616:Nat)=T / (18446744073709551616:Nat)^4:=Nat.mod_eq_of_lt (by rw [Nat.div_lt_iff_lt_mul (bpos 4)]; omega)
    have ht4':T / (18446744073709551616:Nat)^4<(18446744073709551616:Nat):=by rw [Nat.div_lt_iff_lt_mul (bpos 4)]; omega
    rw [u2]
    generalize hov':(T%(18446744073709551616:Nat)^4+y*(a%(18446744073709551616:Nat)^4)) / (18446744073709551616:Nat)^4=ov at *
    have v1:U / (18446744073709551616:Nat)^4%(18446744073709551616:Nat)=(T / (18446744073709551616:Nat)^4+ov)%(18446744073709551616:Nat):=by rw [← u3,Nat.add_comm]
    have v2:U / (18446744073709551616:Nat)^5=(T / (18446744073709551616:Nat)^4+ov) / (18446744073709551616:Nat):=by rw [show (18446744073709551616:Nat)^5=(18446744073709551616:Nat)^4*(18446744073709551616:Nat) from rfl,← Nat.div_div_eq_div_mul,← u3,Nat.add_comm]
    have v3:U / (18446744073709551616:Nat)^5%(18446744073709551616:Nat)=U / (18446744073709551616:Nat)^5:=Nat.mod_eq_of_lt (by rw [Nat.div_lt_iff_lt_mul (bpos 5)]; omega)
    have d5:(wd 5 T).drop 4=[W (T / (18446744073709551616:Nat)^4)]:=by rw [Vp (by decide),ht4,List.drop_eq_nil_of_le (by rw [Zb]; exact Nat.le_refl _)]
    have z0:(0:Int)=((0:Nat):Int):=rfl
    simp only [go_sem,d5,Zb,Zoc rfl,Kk rfl,Ug,Pb]
    simp (disch:=omega) only [Int.add_zero,← Int.natCast_add,natdiv,natmod]
    have w6:wd 4 U++[W ((T / (18446744073709551616:Nat)^4+ov)%(18446744073709551616:Nat)),W ((T / (18446744073709551616:Nat)^4+ov) / (18446744073709551616:Nat))]=wd 6 U:=by
     rw [Ib 5,Ib 4,v1,v3,v2,List.append_assoc]; rfl
    have s5:∀ v c w:AV,(wd 4 U++[v,c]).set 5 w=wd 4 U++[v,w]:=fun v c w => by
     rw [List.set_append_right _ _ (by rw [Zb]; decide),Zb]; rfl
    have g0:(wd 6 U).getD 0 .junk=W (U%(18446744073709551616:Nat)):=rfl
    have hq0:U%(18446744073709551616:Nat)*trn m<(18446744073709551616:Nat)*(18446744073709551616:Nat):=Nat.mul_lt_mul'' (Nat.mod_lt _ (by decide)) (Nat.mod_lt _ (by decide))
    have fm0:(fcells m).getD 0 .junk=W (m%(18446744073709551616:Nat)):=rfl
    simp only [s5,w6,Yf _ _ hp,hob,fl,f4,g0,I7 hp,go_sem,fm0,Zb,← Int.natCast_mul,wumod]
    generalize hq:U%(18446744073709551616:Nat)*trn m%(18446744073709551616:Nat)=q at *
    have hq':q<(18446744073709551616:Nat):=hq ▸ Nat.mod_lt _ (by decide)
    have hm0:m%(18446744073709551616:Nat)<(18446744073709551616:Nat):=Nat.mod_lt _ (by decide)
    have hu0:U%(18446744073709551616:Nat)<(18446744073709551616:Nat):=Nat.mod_lt _ (by decide)
    refine ⟨by omega,by omega,by omega,by omega,by omega,by omega,by omega,Za (Zi8 (b:=0) hq' hm0 hu0 (by decide)) (fun _ => rfl) ?_⟩
    have h10:(q*(m%(18446744073709551616:Nat))+U%(18446744073709551616:Nat)+0) / (18446744073709551616:Nat)=(U%(18446744073709551616:Nat)^(0+1)+q*(m%(18446744073709551616:Nat)^(0+1))) / (18446744073709551616:Nat)^(0+1):=by
     rw [Nat.zero_add,Nat.pow_one,Nat.add_zero,Nat.add_comm]
    have hqm0:q*(m%(18446744073709551616:Nat))≤18446744073709551615*18446744073709551615:=Nat.mul_le_mul (by omega) (by omega)
    have hov0:(U%(18446744073709551616:Nat)^(0+1)+q*(m%(18446744073709551616:Nat)^(0+1))) / (18446744073709551616:Nat)^(0+1)<(18446744073709551616:Nat):=by rw [← h10]; omega
    rw [h10]
    simp only [go_sem]
    refine Z1 _ (fun (j:Nat) => ([(0,.ptr p 0),(4,.ptr H.length 0),(6,.ptr (H.length+2) 0),(7,.ptr (H.length+3) 0),(10,W ((U%(18446744073709551616:Nat)^(j+1)+q*(m%(18446744073709551616:Nat)^(j+1))) / (18446744073709551616:Nat)^(j+1))),(14,W q),(15,I ((j:Int)+1)),(16,.agg (num b)),(17,I i)],H++[⟨num a,0,true⟩,⟨num b,0,true⟩,⟨[Z0,Z0,Z0,Z0],0,true⟩,⟨wd j ((U%(18446744073709551616:Nat)^(j+1)+q*(m%(18446744073709551616:Nat)^(j+1))) / (18446744073709551616:Nat))++(wd 6 U).drop j,0,true⟩])) (fun j => j≤3∧(U%(18446744073709551616:Nat)^(j+1)+q*(m%(18446744073709551616:Nat)^(j+1))) / (18446744073709551616:Nat)^(j+1)<(18446744073709551616:Nat)) (fun j => 3 - j) 0 ⟨by decide,hov0⟩ rfl ?_
    rintro j ⟨hj,hov2⟩
    simp only [go_sem]
    refine ⟨fun hh3 => ?_,fun hh3 => ?_⟩
    ·have hj:j<3:=by omega
     have e1:IntKind.i64.wrap (((j+1:Nat):Int) - 1)=((j:Nat):Int):=by rw [w64 _ (by omega) (by omega)]; omega
     have e2:IntKind.i64.wrap (((j+1:Nat):Int)+1)=((j+1:Nat):Int)+1:=by rw [w64 _ (by omega) (by omega)]
     have e3:((j:Int)+1)=((j+1:Nat):Int):=by omega
     have gt:∀ l:List AV,l.length=j→(l++(wd 6 U).drop j).getD (j+1) .junk=W (U / (18446744073709551616:Nat)^(j+1)%(18446744073709551616:Nat)):=fun l hl => by
      rw [Yo hl,Vp (show j<6 by omega),Vp (show j+1<6 by omega)]; rfl
     have dj:(wd 6 U).drop j=W (U / (18446744073709551616:Nat)^j%(18446744073709551616:Nat))::(wd 6 U).drop (j+1):=Vp (by omega)
     have hV':U%(18446744073709551616:Nat)^(j+1+1)+q*(m%(18446744073709551616:Nat)^(j+1+1))=(U%(18446744073709551616:Nat)^(j+1)+q*(m%(18446744073709551616:Nat)^(j+1)))+(U / (18446744073709551616:Nat)^(j+1)%(18446744073709551616:Nat)+q*(m / (18446744073709551616:Nat)^(j+1)%(18446744073709551616:Nat)))*(18446744073709551616:Nat)^(j+1):=by
      rw [Tt U,Tt m,Nat.mul_add,Nat.add_mul,Nat.mul_assoc]; omega
     have hx':m / (18446744073709551616:Nat)^(j+1)%(18446744073709551616:Nat)<(18446744073709551616:Nat):=Nat.mod_lt _ (by decide)
     have ht':U / (18446744073709551616:Nat)^(j+1)%(18446744073709551616:Nat)<(18446744073709551616:Nat):=Nat.mod_lt _ (by decide)
     rw [e3]
     simp only [go_sem,e1,e2,Yf _ _ hp,hob,fl,I7 hp,fi (j+1) (by omega),gt _ (Zb j _),Zb,List.length_drop]
     generalize hV:U%(18446744073709551616:Nat)^(j+1)+q*(m%(18446744073709551616:Nat)^(j+1))=V at *
     generalize m / (18446744073709551616:Nat)^(j+1)%(18446744073709551616:Nat)=x at *
     generalize U / (18446744073709551616:Nat)^(j+1)%(18446744073709551616:Nat)=t at *
     have a1:=Gv V (t+q*x) (j+1)
     have a2:=C5 V (t+q*x) (j+1)
     have a3:(V+(t+q*x)*(18446744073709551616:Nat)^(j+1)) / (18446744073709551616:Nat)=V / (18446744073709551616:Nat)+(t+q*x)*(18446744073709551616:Nat)^j:=by
      rw [Nat.pow_succ,← Nat.mul_assoc,Nat.add_mul_div_right _ _ (by decide)]
     have a4:=Zor (V / (18446744073709551616:Nat)) (t+q*x) j
     have a5:V / (18446744073709551616:Nat) / (18446744073709551616:Nat)^j=V / (18446744073709551616:Nat)^(j+1):=by rw [Nat.div_div_eq_div_mul,Nat.pow_succ']
     rw [a5] at a4
     generalize hov2':V / (18446744073709551616:Nat)^(j+1)=ov2 at *
     have hqx:q*x≤18446744073709551615*18446744073709551615:=Nat.mul_le_mul (by omega) (by omega)
     refine ⟨by omega,by omega,by omega,by omega,Za (Zi8 hq' hx' ht' hov2) (fun _ => rfl) ?_⟩
     rw [show q*x+t+ov2=ov2+(t+q*x) by omega]
     simp only [go_sem,Zb,Zoc rfl,Kk rfl,e1,dj,List.length_drop]
     refine ⟨by omega,by omega,j+1,?_,?_,⟨by omega,?_⟩,by omega⟩
     ·rw [hV',a2,e2]
     ·rw [hV',a3,a4,List.append_assoc]; rfl
     ·rw [hV',a2]; omega
    ·obtain rfl:j=3:=by omega
     clear hh3
     rw [Nat.mod_eq_of_lt hm] at *
     have hUd:=Nat.div_add_mod U ((18446744073709551616:Nat)^4)
     have hW:U+q*m=(U%(18446744073709551616:Nat)^4+q*m)+(U / (18446744073709551616:Nat)^4)*(18446744073709551616:Nat)^4:=by rw [Nat.mul_comm (U / (18446744073709551616:Nat)^4)]; omega
     have x1:=Gv (U%(18446744073709551616:Nat)^4+q*m) (U / (18446744073709551616:Nat)^4) 4
     have x3:(U+q*m) / (18446744073709551616:Nat)=(U%(18446744073709551616:Nat)^4+q*m) / (18446744073709551616:Nat)+(U / (18446744073709551616:Nat)^4)*(18446744073709551616:Nat)^3:=by
      rw [hW,show (U / (18446744073709551616:Nat)^4)*(18446744073709551616:Nat)^4=(U / (18446744073709551616:Nat)^4)*(18446744073709551616:Nat)^3*(18446744073709551616:Nat) by rw [Nat.mul_assoc],Nat.add_mul_div_right _ _ (by decide)]
     rw [← hW] at x1
     generalize hV:U%(18446744073709551616:Nat)^4+q*m=V at *
     generalize hov3:V / (18446744073709551616:Nat)^(3+1)=ov3 at *
     have x2:wd 3 ((U+q*m) / (18446744073709551616:Nat))=wd 3 (V / (18446744073709551616:Nat)):=by
      rw [x3]; show (dig (18446744073709551616:Nat) 3 _).map W=(dig (18446744073709551616:Nat) 3 _).map W; rw [Zdp]
     generalize hT':(U+q*m) / (18446744073709551616:Nat)=T' at *
     have y3:T' / (18446744073709551616:Nat)^3=ov3+U / (18446744073709551616:Nat)^4:=by rw [← hT',Nat.div_div_eq_div_mul]; exact x1
     have y4:T' / (18446744073709551616:Nat)^4=(ov3+U / (18446744073709551616:Nat)^4) / (18446744073709551616:Nat):=by rw [show (18446744073709551616:Nat)^4=(18446744073709551616:Nat)^3*(18446744073709551616:Nat) from rfl,← Nat.div_div_eq_div_mul,y3]
     have hu5:U / (18446744073709551616:Nat)^5=U / (18446744073709551616:Nat)^4 / (18446744073709551616:Nat):=by rw [show (18446744073709551616:Nat)^5=(18446744073709551616:Nat)^4*(18446744073709551616:Nat) from rfl,Nat.div_div_eq_div_mul]
     have hT5':T' / (18446744073709551616:Nat)^4<(18446744073709551616:Nat):=by rw [Nat.div_lt_iff_lt_mul (bpos 4)]; omega
     have d3:(wd 6 U).drop 3=[W (U / (18446744073709551616:Nat)^3%(18446744073709551616:Nat)),W (U / (18446744073709551616:Nat)^4%(18446744073709551616:Nat)),W (U / (18446744073709551616:Nat)^5)]:=by
      rw [Vp (by decide),Vp (by decide),Vp (by decide),v3,List.drop_eq_nil_of_le (by rw [Zb]; exact Nat.le_refl _)]
     have w5:wd 5 T'=wd 3 (V / (18446744073709551616:Nat))++[W ((U / (18446744073709551616:Nat)^4%(18446744073709551616:Nat)+ov3)%(18446744073709551616:Nat)),W (U / (18446744073709551616:Nat)^5+(U / (18446744073709551616:Nat)^4%(18446744073709551616:Nat)+ov3) / (18446744073709551616:Nat))]:=by
      rw [Ib 4,Ib 3,x2,y3,Nat.mod_eq_of_lt hT5',y4,List.append_assoc]
      rw [show (ov3+U / (18446744073709551616:Nat)^4)%(18446744073709551616:Nat)=(U / (18446744073709551616:Nat)^4%(18446744073709551616:Nat)+ov3)%(18446744073709551616:Nat) by omega,show (ov3+U / (18446744073709551616:Nat)^4) / (18446744073709551616:Nat)=U / (18446744073709551616:Nat)^5+(U / (18446744073709551616:Nat)^4%(18446744073709551616:Nat)+ov3) / (18446744073709551616:Nat) by rw [hu5]; omega]; rfl
     have c5:U / (18446744073709551616:Nat)^5+(U / (18446744073709551616:Nat)^4%(18446744073709551616:Nat)+ov3) / (18446744073709551616:Nat)<(18446744073709551616:Nat):=by
      have:T' / (18446744073709551616:Nat)^4=U / (18446744073709551616:Nat)^5+(U / (18446744073709551616:Nat)^4%(18446744073709551616:Nat)+ov3) / (18446744073709551616:Nat):=by rw [y4,hu5]; omega
      omega
     generalize U / (18446744073709551616:Nat)^3%(18446744073709551616:Nat)=u3' at *
     have u4':U / (18446744073709551616:Nat)^4%(18446744073709551616:Nat)<(18446744073709551616:Nat):=Nat.mod_lt _ (by decide)
     generalize U / (18446744073709551616:Nat)^4%(18446744073709551616:Nat)=u4 at *
     generalize U / (18446744073709551616:Nat)^5=u5 at *
     have e2:IntKind.i64.wrap ((i:Int)+1)=((i+1:Nat):Int):=by rw [w64 _ (by omega) (by omega)]; omega
     have g4:∀ a b c:AV,(wd 3 (V / (18446744073709551616:Nat))++[a,b,c]).getD 4 .junk=b:=fun a b c => Yo (j:=1) (Zb 3 _) _
     have g5:∀ a b c:AV,(wd 3 (V / (18446744073709551616:Nat))++[a,b,c]).getD 5 .junk=c:=fun a b c => Yo (j:=2) (Zb 3 _) _
     have s4:∀ a b c w:AV,(wd 3 (V / (18446744073709551616:Nat))++[a,b,c]).set 4 w=wd 3 (V / (18446744073709551616:Nat))++[a,w,c]:=fun a b c w => by
      rw [List.set_append_right _ _ (by rw [Zb]; decide),Zb]; rfl
     simp only [go_sem,d3,g4,Zb,Kk rfl,Ug,Pb]
     simp (disch:=omega) only [Int.add_zero,← Int.natCast_add,natdiv,natmod]
     simp only [go_sem,g4,g5,s4,Zb,Kk rfl,e2]
     simp (disch:=omega) only [Int.add_zero,← Int.natCast_add,natdiv,natmod,wu]
     refine ⟨by omega,by omega,by omega,by omega,by omega,(i+1,T',u5),rfl,?_,⟨by show i+1≤4; omega,R2,R3⟩,by show 4 - (i+1)<4 - i; omega⟩
     show _=H++[_,_,_,⟨wd 5 T'++[W u5],0,true⟩]
     rw [w5,List.append_assoc]; rfl
 ·obtain rfl:i=4:=by omega
  rw [Nat.mod_eq_of_lt hb4] at hc
  have hT5:T<(18446744073709551616:Nat)^5:=by omega
  have e5:wd 5 T++[W c]=num T++[W (T / (18446744073709551616:Nat)^4),W c]:=by
   rw [Ib 4,Nat.mod_eq_of_lt (show T / (18446744073709551616:Nat)^4<(18446744073709551616:Nat) by rw [Nat.div_lt_iff_lt_mul (bpos 4)]; omega),List.append_assoc]; rfl
  have g:∀ i,i<4→(num T++[W (T / (18446744073709551616:Nat)^4),W c]).getD i .junk=W (T / (18446744073709551616:Nat)^i%(18446744073709551616:Nat)):=fun i hi => Ziz hi _
  have g4:(num T++[W (T / (18446744073709551616:Nat)^4),W c]).getD 4 .junk=W (T / (18446744073709551616:Nat)^4):=Yo (j:=0) (Zb 4 T) _
  have en:[W (T / (18446744073709551616:Nat)^0%(18446744073709551616:Nat)),W (T / (18446744073709551616:Nat)^1%(18446744073709551616:Nat)),W (T / (18446744073709551616:Nat)^2%(18446744073709551616:Nat)),W (T / (18446744073709551616:Nat)^3%(18446744073709551616:Nat))]=num T:=by
   simp only [wd,dig,List.map_cons,List.map_nil,Nat.pow_zero,Nat.div_one,Nat.pow_one,Nat.div_div_eq_div_mul]
  rw [e5]
  simp only [go_sem,g 0 (by decide),g 1 (by decide),g 2 (by decide),g 3 (by decide),g4,Zr,fillv,en,Zb]
  have ho4:decide ((0:Int)<((T / (18446744073709551616:Nat)^4:Nat):Int))=decide ((18446744073709551616:Nat)^4≤T):=by
   congr 1; apply propext
   have:=Nat.div_pos_iff (a:=T) (b:=(18446744073709551616:Nat)^4)
   omega
  refine ⟨by omega,by omega,by omega,by omega,by omega,Za (Za9 (hfd' _) hm hT ho4) (fun _ => rfl) ?_⟩
  have hr:T%m=mon m a b:=Zt3 h1 ho (Nat.mod_lt _ (by omega)) (by rw [Nat.mod_mul_mod]; exact hc)
  rw [hr]
  simp only [go_sem,Zf,Ze,Zg,Zb]
  exact Zc rfl
end Go.Proofs.YtcgjlpdkobmpnaaGreat.Eng
namespace Go.Proofs.YtcgjlpdkobmpnaaGreat.Eng
open Go Go.Proofs
set_option linter.unusedVariables false
set_option linter.unusedSimpArgs false
set_option maxRecDepth 10000
structure MO (m:Nat):Prop where
 lt:m<(18446744073709551616:Nat)^4
 gt:1<m
 odd:m%2=1
 tr:(trn m*m+1)%(18446744073709551616:Nat)=0
theorem mo_P:MO (115792089210356248762697446949407573530086143415290314195533631308867097853951:Nat):=⟨by decide,by decide,by decide,by decide +kernel⟩
theorem mo_N:MO (115792089210356248762697446949407573529996955224135760342422259061068512044369:Nat):=⟨by decide,by decide,by decide,by decide +kernel⟩
theorem Zqg {m a b:Nat} (h1:1<m) (ho:m%2=1):mon m a b*(18446744073709551616:Nat)^4%m=a*b%m:=by
 have hg:Nat.gcd ((18446744073709551616:Nat)^4%m) m=1:=by
  have c2:Nat.Coprime 2 m:=by show Nat.gcd 2 m=1; rw [Nat.gcd_rec,ho]; rfl
  have c:Nat.Coprime ((18446744073709551616:Nat)^4) m:=by
   rw [show (18446744073709551616:Nat)^4=2^256 by decide +kernel]
   exact Nat.Coprime.pow_left _ c2
  rw [← Nat.gcd_rec,Nat.gcd_comm]; exact c
 obtain ⟨k1,k2⟩:=S2 (Zlw h1 hg)
 unfold mon
 rw [Nat.mod_mul_mod,Nat.mul_assoc,Nat.mul_mod,Nat.mul_comm (minv m _),Nat.mul_mod ((18446744073709551616:Nat)^4)]
 generalize minv m ((18446744073709551616:Nat)^4%m)=z at *
 rw [Nat.mod_eq_of_lt k1,k2,Nat.mul_one,Nat.mod_mod]
theorem Z1y {m:Nat} (h1:1<m) (a b:Nat):mon m a b<m:=Nat.mod_lt _ (by omega)
theorem Zwz {m a b:Nat} (h1:1<m) (ho:m%2=1):mon m (mon m (a%m) (b%m)) ((18446744073709551616:Nat)^8%m)=fmul m a b:=by
 refine (Zt3 h1 ho (Zh (by omega) a b) ?_).symm
 have h:=Zqg (a:=a%m) (b:=b%m) h1 ho
 rw [← Nat.mul_mod] at h
 rw [fmul,← h,Nat.mod_mul_mod]
 generalize mon m (a%m) (b%m)=z at *
 rw [Nat.mul_assoc,show (18446744073709551616:Nat)^4*(18446744073709551616:Nat)^4=(18446744073709551616:Nat)^8 by decide +kernel,Nat.mul_mod,Nat.mul_mod z ((18446744073709551616:Nat)^8%m),Nat.mod_mod]
theorem Zje {H:AH} {p m a b:Nat} (hf:FF H p m) (hm:MO m) (ha:a<(18446744073709551616:Nat)^4) (hb:b<(18446744073709551616:Nat)^4):Called Tryz.prog F.field_Field_Mul [.ptr p 0,.agg (num a),.agg (num b)] H (.agg (num (fmul m a b))) H:=by
 refine L7 ?_
 have hf':∀ G,FF (H++G) p m:=fun G => hf.app
 have h0:0<m:=by have:=hm.gt; omega
 obtain ⟨hp,hob⟩:=hf
 have fl:(fcells m).length=13:=by simp [fcells,Zb]
 have f9:((fcells m).drop 9).take 4=num ((18446744073709551616:Nat)^8%m):=by
  have:fcells m=(num m++W (trn m)::num ((18446744073709551616:Nat)^4%m))++num ((18446744073709551616:Nat)^8%m):=by simp [fcells]
  rw [this,List.drop_left' (by simp [Zb]),Zf]
 simp only [T2,go_sem,Zg,Xf,Zf,Zb]
 refine Za (t_in (hf' _).fd hm.lt h0 ha) (fun _ => rfl) ?_
 simp only [go_sem,Zg,Xf,Zf,Zb]
 refine Za (t_in (hf' _).fd hm.lt h0 hb) (fun _ => rfl) ?_
 simp only [go_sem,Zg,Xf,Zf,Zb]
 refine Za (Ztd (hf' _) hm.lt hm.gt hm.odd hm.tr (Nat.mod_lt _ h0) (Nat.mod_lt _ h0)) (fun _ => rfl) ?_
 simp only [go_sem,Zg,Xf,Zf,Zb,Yf _ _ hp,hob,fl,f9,I7 hp]
 refine Za (Ztd (hf' _) hm.lt hm.gt hm.odd hm.tr (Z1y hm.gt _ _) (Nat.mod_lt _ h0)) (fun _ => rfl) ?_
 rw [Zwz hm.gt hm.odd]
 simp only [go_sem,Zf,Ze,Zg,Zb]
 exact Zc rfl
theorem Zz3 {H:AH} {m:Nat} (hm:MO m):Called Tryz.prog F.field_New [.agg (num m)] H (.tup [.ptr H.length 0,nilE]) (H++[⟨fcells m,0,true⟩]):=by
 refine Zc7 ?_
 have h0:0<m:=by have:=hm.gt; omega
 have hb2:2≤blen m:=by
  have:=hm.gt
  unfold blen; rw [if_neg (by omega)]
  have:1≤m.log2:=(Nat.le_log2 (by omega)).2 (by omega)
  omega
 have he:decide (m%2=0)=false:=by rw [hm.odd]; rfl
 simp only [Kx,go_sem,Zg,Xf,Zf,Zb,Jw,and1 _ (Nat.mod_lt m (show 0<(18446744073709551616:Nat) by decide)),Ca,he]
 refine ⟨by decide,Zq (fun _ => Ztf hm.lt) ?_⟩
 have hd:decide ((blen m:Int)<2)=false:=decide_eq_false (by omega)
 have nb:∀ x,newt (m%(18446744073709551616:Nat)) x<(18446744073709551616:Nat):=fun x => Nat.mod_lt _ (by decide)
 have hnx:∀ x:Nat,x<(18446744073709551616:Nat)→IntKind.u64.wrap ((x:Int)*IntKind.u64.wrap (2 - IntKind.u64.wrap (((m%(18446744073709551616:Nat):Nat):Int)*(x:Int))))=((newt (m%(18446744073709551616:Nat)) x:Nat):Int):=by
  intro x hx
  rw [← Int.natCast_mul,wumod]
  have e:IntKind.u64.wrap (2 - ((m%(18446744073709551616:Nat)*x%(18446744073709551616:Nat):Nat):Int))=(((2+(18446744073709551616:Nat) - m%(18446744073709551616:Nat)*x%(18446744073709551616:Nat))%(18446744073709551616:Nat):Nat):Int):=by
   have hw:∀ z:Int,IntKind.u64.wrap z=z%18446744073709551616:=fun z => by simp only [IntKind.wrap,IntKind.bits,IntKind.signed]; simp
   rw [hw]; omega
  rw [e,← Int.natCast_mul,wumod]; rfl
 simp only [go_sem,hd]
 refine Z1 _ (fun (i:Nat) => ([(1,.ptr H.length 0),(4,W (Zk0 (m%(18446744073709551616:Nat)) i)),(16,I i)],H++[⟨num m,0,true⟩])) (fun i => i≤6) (fun i => 6 - i) 0 (Nat.zero_le _) rfl ?_
 intro i hi
 have hxi:Zk0 (m%(18446744073709551616:Nat)) i<(18446744073709551616:Nat):=by
  cases i with
  | zero => exact (by decide:(1:Nat)<(18446744073709551616:Nat))
  | succ i => exact nb _
 simp only [go_sem]
 refine ⟨fun hh => ?_,fun hh => ?_⟩
 ·have w2:IntKind.i64.wrap ((i:Int)+1)=((i+1:Nat):Int):=by rw [w64 _ (by omega) (by omega)]; omega
  simp only [go_sem,Zb,Jw,hnx _ hxi,w2]
  exact ⟨by decide,i+1,rfl,by omega,by omega⟩
 ·obtain rfl:i=6:=by omega
  have hneg:IntKind.u64.wrap (0 - ((Zk0 (m%(18446744073709551616:Nat)) 6:Nat):Int))=((trn m:Nat):Int):=by
   have hw:∀ z:Int,IntKind.u64.wrap z=z%18446744073709551616:=fun z => by simp only [IntKind.wrap,IntKind.bits,IntKind.signed]; simp
   rw [hw]; unfold trn; omega
  have c0:splice [Z0,Z0,Z0,Z0,Z0,Z0,Z0,Z0,Z0,Z0,Z0,Z0,Z0] 0 (num m)=num m++[Z0,Z0,Z0,Z0,Z0,Z0,Z0,Z0,Z0]:=by
   rw [Xe _ _ _ (by rw [Zb]; decide),Zb]; rfl
  have c1:(num m++[Z0,Z0,Z0,Z0,Z0,Z0,Z0,Z0,Z0]).set 4 (W (trn m))=num m++[W (trn m),Z0,Z0,Z0,Z0,Z0,Z0,Z0,Z0]:=by
   rw [List.set_append_right _ _ (by rw [Zb]; decide),Zb]; rfl
  simp only [go_sem,Zb,Zf,Zr,fillv,hneg,c0,c1,Zg]
  have hF:∀ r:List AV,r.length=9→FD (H++[⟨num m,0,true⟩,⟨num m++r,0,true⟩]) (H.length+1) m:=fun r hr => ⟨by simp,r,by simp only [go_sem],hr⟩
  have c2:splice (num m++[W (trn m),Z0,Z0,Z0,Z0,Z0,Z0,Z0,Z0]) 5 (num ((18446744073709551616:Nat)^4%m))=num m++(W (trn m)::(num ((18446744073709551616:Nat)^4%m)++[Z0,Z0,Z0,Z0])):=by
   rw [Xe _ _ _ (by simp [Zb]),Zb]
   have e1:(num m++[W (trn m),Z0,Z0,Z0,Z0,Z0,Z0,Z0,Z0]).take 5=num m++[W (trn m)]:=by
    rw [List.take_append,Zb,List.take_of_length_le (by rw [Zb]; decide)]; rfl
   have e2:(num m++[W (trn m),Z0,Z0,Z0,Z0,Z0,Z0,Z0,Z0]).drop (5+4)=[Z0,Z0,Z0,Z0]:=by
    rw [List.drop_append,Zb,List.drop_eq_nil_of_le (by rw [Zb]; decide)]; rfl
   rw [e1,e2]; simp
  have c3:((num m++(W (trn m)::(num ((18446744073709551616:Nat)^4%m)++[Z0,Z0,Z0,Z0]))).drop 5).take 4=num ((18446744073709551616:Nat)^4%m):=by
   have:num m++(W (trn m)::(num ((18446744073709551616:Nat)^4%m)++[Z0,Z0,Z0,Z0]))=(num m++[W (trn m)])++(num ((18446744073709551616:Nat)^4%m)++[Z0,Z0,Z0,Z0]):=by simp
   rw [this,List.drop_left' (by simp [Zb]),List.take_left' (Zb _ _)]
  have c4:splice (num m++(W (trn m)::(num ((18446744073709551616:Nat)^4%m)++[Z0,Z0,Z0,Z0]))) 9 (num ((18446744073709551616:Nat)^8%m))=fcells m:=by
   have:num m++(W (trn m)::(num ((18446744073709551616:Nat)^4%m)++[Z0,Z0,Z0,Z0]))=(num m++W (trn m)::num ((18446744073709551616:Nat)^4%m))++[Z0,Z0,Z0,Z0]:=by simp
   rw [this,Xe _ _ _ (by simp [Zb]),Zb,List.take_left' (by simp [Zb]),List.drop_eq_nil_of_le (by simp [Zb])]
   simp [fcells]
  have one4:=Nat.mod_lt ((18446744073709551616:Nat)^4) h0
  have cX:[Z0,Z0,Z0,Z0,AV.lit (.int .u64 1),Z0,Z0,Z0]=wd 8 ((18446744073709551616:Nat)^4):=rfl
  rw [cX]
  refine ⟨⟨rfl,by rw [List.all_append,Zg]; rfl⟩,Za (Zvl (X:=(18446744073709551616:Nat)^4) (hF [W (trn m),Z0,Z0,Z0,Z0,Z0,Z0,Z0,Z0] rfl) hm.lt h0 (by decide)) (fun _ => rfl) ?_⟩
  simp only [go_sem,Zb,Zf,c2,c3,Zg]
  refine Za (Zz7 (Nat.lt_trans one4 hm.lt) (Nat.lt_trans one4 hm.lt)) (fun _ => rfl) ?_
  simp only [go_sem,Zb,Zf,c2,c3,Zg]
  refine Za (Zvl (hF _ (by simp [Zb])) hm.lt h0 (by rw [show (18446744073709551616:Nat)^8=(18446744073709551616:Nat)^4*(18446744073709551616:Nat)^4 by decide +kernel]; exact Nat.mul_lt_mul'' (Nat.lt_trans one4 hm.lt) (Nat.lt_trans one4 hm.lt))) (fun _ => rfl) ?_
  have e8:(18446744073709551616:Nat)^4%m*((18446744073709551616:Nat)^4%m)%m=(18446744073709551616:Nat)^8%m:=by rw [← Nat.mul_mod,show (18446744073709551616:Nat)^4*(18446744073709551616:Nat)^4=(18446744073709551616:Nat)^8 by decide +kernel]
  rw [e8]
  simp only [go_sem,Zb,Zf,c4,Zg]
  refine F8 [1] (by decide) (by simp) ?_ ?_
  ·simp [low,lowL,Zkb,List.idxOf?_cons]
  ·simp [Wl,Wp,Sn,fcells,lowL,low,obj]
end Go.Proofs.YtcgjlpdkobmpnaaGreat.Eng

