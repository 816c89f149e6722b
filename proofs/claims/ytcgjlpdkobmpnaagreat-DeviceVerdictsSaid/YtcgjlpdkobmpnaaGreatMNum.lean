/- Digits, the lowest first. (No program in sight.) -/
import Derived.Test.YtcgjlpdkobmpnaaGreatME6
import Derived.Test.YtcgjlpdkobmpnaaGreatMCa
namespace Go.Proofs.YtcgjlpdkobmpnaaGreat.Eng
open Go
set_option linter.unusedVariables false
set_option linter.unusedSimpArgs false
def dig (B:Nat):Nat→Nat→List Nat
 | 0,_ => []
 | k+1,n => n%B::dig B k (n / B)
def val (B:Nat):List Nat→Nat
 | [] => 0
 | d::r => d+B*val B r
section
variable {B:Nat}
theorem Oh (k n:Nat):(dig B k n).length=k:=by
 induction k generalizing n with
 | zero => rfl
 | succ k ih => simp [dig,ih]
theorem Zyc (k n i:Nat) (h:i<k):(dig B k n).getD i 0=n / B^i%B:=by
 induction k generalizing n i with
 | zero => omega
 | succ k ih =>
  cases i with
  | zero => simp [dig]
  | succ i =>
   simp only [dig,List.getD_cons_succ]
   rw [ih _ _ (by omega),Nat.pow_succ,Nat.mul_comm,Nat.div_div_eq_div_mul]
theorem Zn2 (a b n:Nat):dig B (a+b) n=dig B a n++dig B b (n / B^a):=by
 induction a generalizing n with
 | zero => simp [dig]
 | succ a ih =>
  rw [show a+1+b=(a+b)+1 by omega,dig,ih,dig,Nat.pow_succ,Nat.mul_comm (B^a),← Nat.div_div_eq_div_mul]
  rfl
theorem Iu (k n:Nat):dig B (k+1) n=dig B k n++[n / B^k%B]:=by
 rw [Zn2]; rfl
theorem Zvf (k n:Nat):val B (dig B k n)=n%B^k:=by
 induction k generalizing n with
 | zero => simp [dig,val,Nat.mod_one]
 | succ k ih => rw [dig,val,ih,Nat.pow_succ,Nat.mul_comm (B^k),Nat.mod_mul]
theorem Zc8 (hB:0<B):∀ l:List Nat,(∀ d ∈ l,d<B)→dig B l.length (val B l)=l
 | [],_ => rfl
 | d::r,h => by
  have hd:=h d (by simp)
  have e1:(d+B*val B r)%B=d:=by rw [Nat.add_mul_mod_self_left,Nat.mod_eq_of_lt hd]
  have e2:(d+B*val B r) / B=val B r:=by rw [Nat.add_mul_div_left _ _ hB,Nat.div_eq_of_lt hd,Nat.zero_add]
  rw [List.length_cons,dig,val,e1,e2,Zc8 hB r fun d hd => h d (by simp [hd])]
theorem Ztl (hB:0<B):∀ l:List Nat,(∀ d ∈ l,d<B)→val B l<B^l.length
 | [],_ => by simp [val]
 | d::r,h => by
  have hd:=h d (by simp)
  have ih:=Ztl hB r fun d hd => h d (by simp [hd])
  rw [val,List.length_cons,Nat.pow_succ,Nat.mul_comm (B^r.length)]
  have:B*(val B r+1)≤B*B^r.length:=Nat.mul_le_mul_left _ ih
  rw [Nat.mul_add] at this
  omega
theorem Z3d (hB:0<B) (k n:Nat):∀ d ∈ dig B k n,d<B:=by
 induction k generalizing n with
 | zero => intro d h; cases h
 | succ k ih =>
  intro d h
  rcases List.mem_cons.1 h with h | h
  ·exact h ▸ Nat.mod_lt _ hB
  ·exact ih _ _ h
theorem Nx (k n:Nat) (hB:0<B):dig B k (n%B^k)=dig B k n:=by
 have:=Zc8 hB (dig B k n) (Z3d hB k n)
 rwa [Oh,Zvf] at this
theorem Zo8 (hB:0<B) (a b i:Nat) :
  (a+b) / B^i%B=(a / B^i%B+b / B^i%B+(a%B^i+b%B^i) / B^i)%B ∧
  (a%B^(i+1)+b%B^(i+1)) / B^(i+1)=(a / B^i%B+b / B^i%B+(a%B^i+b%B^i) / B^i) / B:=by
 have hp:0<B^i:=Nat.pow_pos hB
 have ea:=Nat.div_add_mod a (B^i)
 have eb:=Nat.div_add_mod b (B^i)
 have ha2:a%B^(i+1)=a%B^i+B^i*(a / B^i%B):=by rw [Nat.pow_succ,Nat.mod_mul]
 have hb2:b%B^(i+1)=b%B^i+B^i*(b / B^i%B):=by rw [Nat.pow_succ,Nat.mod_mul]
 constructor
 ·have:(a+b) / B^i=a / B^i+b / B^i+(a%B^i+b%B^i) / B^i:=by
   rw [← Nat.mul_add_div hp,Nat.mul_add]
   congr 1
   omega
  rw [this,Nat.add_mod,Nat.add_mod (a / B^i),← Nat.add_mod,Nat.add_assoc,← Nat.add_mod_mod]
 ·rw [ha2,hb2,show a%B^i+B^i*(a / B^i%B)+(b%B^i+B^i*(b / B^i%B))=B^i*(a / B^i%B+b / B^i%B)+(a%B^i+b%B^i) by rw [Nat.mul_add]; omega,Nat.pow_succ,← Nat.div_div_eq_div_mul,Nat.mul_add_div hp]
def bor (B a b i:Nat):Nat:=if a%B^i<b%B^i then 1 else 0
theorem Zsl (hB:0<B) (a b i:Nat):bor B a b (i+1)=if a / B^i%B<b / B^i%B+bor B a b i then 1 else 0:=by
 have hp:0<B^i:=Nat.pow_pos hB
 have ha2:a%B^(i+1)=a%B^i+B^i*(a / B^i%B):=by rw [Nat.pow_succ,Nat.mod_mul]
 have hb2:b%B^(i+1)=b%B^i+B^i*(b / B^i%B):=by rw [Nat.pow_succ,Nat.mod_mul]
 have h1:a%B^i<B^i:=Nat.mod_lt _ hp
 have h2:b%B^i<B^i:=Nat.mod_lt _ hp
 unfold bor
 rw [ha2,hb2]
 generalize a / B^i%B=x at *
 generalize b / B^i%B=y at *
 generalize a%B^i=u at *
 generalize b%B^i=v at *
 generalize B^i=P at *
 congr 1
 apply propext
 rcases Nat.lt_trichotomy x y with h | h | h
 ·have:P*(x+1)≤P*y:=Nat.mul_le_mul_left _ h
  rw [Nat.mul_add] at this
  split <;> constructor <;> intro _ <;> omega
 ·subst h
  split <;> constructor <;> intro _ <;> omega
 ·have:P*(y+1)≤P*x:=Nat.mul_le_mul_left _ h
  rw [Nat.mul_add] at this
  split <;> constructor <;> intro _ <;> omega
theorem Zj2 (hB:0<B) {a b k i:Nat} (hb:b<B^k) (hi:i<k):∃ t,(a+B^k - b) / B^i=t∧t+b / B^i+bor B a b i=a / B^i+B*B^(k - i - 1):=by
 have hp:0<B^i:=Nat.pow_pos hB
 have hk:B^k=B^i*(B*B^(k - i - 1)):=by rw [← Nat.pow_succ',← Nat.pow_add]; congr 1; omega
 refine ⟨_,rfl,?_⟩
 have ea:=Nat.div_add_mod a (B^i)
 have eb:=Nat.div_add_mod b (B^i)
 have h1:a%B^i<B^i:=Nat.mod_lt _ hp
 have h2:b%B^i<B^i:=Nat.mod_lt _ hp
 rw [hk] at hb ⊢
 unfold bor
 generalize a / B^i=x at *
 generalize b / B^i=y at *
 generalize a%B^i=u at *
 generalize b%B^i=v at *
 generalize B^i=P at *
 generalize B*B^(k - i - 1)=Q at *
 subst ea; subst eb
 have hyQ:y<Q:=by
  refine Nat.lt_of_not_le fun h => ?_
  have:=Nat.mul_le_mul_left P h
  omega
 split
 ·have e:P*x+u+P*Q - (P*y+v)=P*(x+Q - y - 1)+(P+u - v):=by
   rw [Nat.mul_sub,Nat.mul_sub,Nat.mul_add,Nat.mul_one]
   have:=Nat.mul_le_mul_left P hyQ
   rw [Nat.mul_succ] at this
   omega
  rw [e,Nat.mul_add_div hp,Nat.div_eq_of_lt (by omega)]
  omega
 ·have e:P*x+u+P*Q - (P*y+v)=P*(x+Q - y)+(u - v):=by
   rw [Nat.mul_sub,Nat.mul_add]
   have:=Nat.mul_le_mul_left P hyQ
   rw [Nat.mul_succ] at this
   omega
  rw [e,Nat.mul_add_div hp,Nat.div_eq_of_lt (by omega)]
  omega
end
end Go.Proofs.YtcgjlpdkobmpnaaGreat.Eng
namespace Go.Proofs.YtcgjlpdkobmpnaaGreat.Eng
open Go Go.Proofs
set_option linter.unusedVariables false
set_option linter.unusedSimpArgs false
set_option maxRecDepth 10000
abbrev W (n:Nat):AV:=.lit (.int .u64 (n:Nat))
def wd (k n:Nat):List AV:=(dig (18446744073709551616:Nat) k n).map W
abbrev num (n:Nat):List AV:=wd 4 n
theorem Zb (k n:Nat):(wd k n).length=k:=by simp [wd,Oh]
theorem Uc {k n i:Nat} (h:i<k):(wd k n).getD i .junk=W (n / (18446744073709551616:Nat)^i%(18446744073709551616:Nat)):=by
 have:=Zyc (B:=(18446744073709551616:Nat)) k n i h
 rw [List.getD_eq_getElem?_getD] at this ⊢
 have hl:i<(dig (18446744073709551616:Nat) k n).length:=by rw [Oh]; exact h
 rw [List.getElem?_eq_getElem hl,Option.getD_some] at this
 rw [wd,List.getElem?_map,List.getElem?_eq_getElem hl,Option.map_some,Option.getD_some,this]
theorem Zg (k n:Nat):(wd k n).all AV.one=true:=Zb6 W (fun _ => rfl) _
theorem Xd (cs:List AV) (a:Nat) (l:List AV) (h:a+l.length≤cs.length):splice cs a l=cs.take a++l++cs.drop (a+l.length):=by
 unfold splice
 split
 ·rename_i v
  simp only [List.length_cons,List.length_nil] at *
  rw [List.set_eq_take_append_cons_drop,if_pos (by omega)]
  simp
 ·rfl
theorem Zu {cs l:List AV} (h:l.length=cs.length):splice cs 0 l=l:=by
 rw [Xd _ _ _ (by omega)]
 simp [h]
theorem Zej {k n i:Nat} (hi:i<k) (v:Nat) (hv:n / (18446744073709551616:Nat)^i%(18446744073709551616:Nat)=v):(wd i n++List.replicate (k - i) (W 0)).set i (W v)=wd (i+1) n++List.replicate (k - (i+1)) (W 0):=by
 rw [List.set_append_right _ _ (by rw [Zb]; exact Nat.le_refl _),Zb,Nat.sub_self,show k - i=(k - (i+1))+1 by omega,List.replicate_succ,List.set_cons_zero]
 rw [wd,wd,Iu,List.map_append,hv]
 simp
theorem Zd5 {H:AH} {a b:Nat} (ha:a<(18446744073709551616:Nat)^4) (hb:b<(18446744073709551616:Nat)^4):Called Tryz.prog F.limb_Add [.agg (num a),.agg (num b)] H (.tup [.agg (num (a+b)),Bl (decide ((18446744073709551616:Nat)^4≤a+b))]) H:=by
 refine Zih ?_
 have l1:=Zb 4 a
 have l2:=Zb 4 b
 have n1:∀ n,(num n).isEmpty=false:=fun n => rfl
 simp only [Gi,go_sem,Zg,n1]
 refine Z4 _ (fun (i:Nat) => ([(2,.ptr H.length 0),(3,.ptr (H.length+1) 0),(4,.ptr (H.length+2) 0),(6,.ptr (H.length+3) 0),(7,W ((a%(18446744073709551616:Nat)^i+b%(18446744073709551616:Nat)^i) / (18446744073709551616:Nat)^i)),(9,I i)],H++[⟨num a,0,true⟩,⟨num b,0,true⟩,⟨[W 0,W 0,W 0,W 0],0,true⟩,⟨wd i (a+b)++List.replicate (4 - i) (W 0),0,true⟩])) (fun i => i≤4) (fun i => 4 - i) 0 (Nat.zero_le _) ?_ ?_
 ·simp [Nat.mod_one,wd,dig]
 intro i hi
 simp only [go_sem]
 refine ⟨fun hh => ?_,fun hh => ?_⟩
 ·have hi:i<4:=by omega
  have l3:(wd i (a+b)++List.replicate (4 - i) (W 0)).length=4:=by rw [List.length_append,Zb,List.length_replicate]; omega
  obtain ⟨d1,d2⟩:=Zo8 (B:=(18446744073709551616:Nat)) (by decide) a b i
  have x1:a / (18446744073709551616:Nat)^i%(18446744073709551616:Nat)<(18446744073709551616:Nat):=Nat.mod_lt _ (by decide)
  have x2:b / (18446744073709551616:Nat)^i%(18446744073709551616:Nat)<(18446744073709551616:Nat):=Nat.mod_lt _ (by decide)
  have w2:IntKind.i64.wrap ((i:Int)+1)=((i+1:Nat):Int):=by rw [w64 _ (by omega) (by omega)]; omega
  have hp:0<(18446744073709551616:Nat)^i:=Nat.pow_pos (by decide)
  have c1:(a%(18446744073709551616:Nat)^i+b%(18446744073709551616:Nat)^i) / (18446744073709551616:Nat)^i≤1:=by
   have h1:=Nat.mod_lt a hp
   have h2:=Nat.mod_lt b hp
   have:(a%(18446744073709551616:Nat)^i+b%(18446744073709551616:Nat)^i) / (18446744073709551616:Nat)^i<2:=by rw [Nat.div_lt_iff_lt_mul hp]; omega
   omega
  simp only [go_sem,l1,l2,l3,Uc hi,Uq,Py,w2]
  have e1:((a / (18446744073709551616:Nat)^i%(18446744073709551616:Nat):Nat):Int)+((b / (18446744073709551616:Nat)^i%(18446744073709551616:Nat):Nat):Int)+(((a%(18446744073709551616:Nat)^i+b%(18446744073709551616:Nat)^i) / (18446744073709551616:Nat)^i:Nat):Int)=((a / (18446744073709551616:Nat)^i%(18446744073709551616:Nat)+b / (18446744073709551616:Nat)^i%(18446744073709551616:Nat)+(a%(18446744073709551616:Nat)^i+b%(18446744073709551616:Nat)^i) / (18446744073709551616:Nat)^i:Nat):Int):=by omega
  have e2:∀ m:Nat,((m:Nat):Int) / 18446744073709551616=((m / (18446744073709551616:Nat):Nat):Int):=fun m => by omega
  have e3:∀ m:Nat,((m:Nat):Int)%18446744073709551616=((m%(18446744073709551616:Nat):Nat):Int):=fun m => by omega
  rw [e1,e2,e3,← d1,← d2]
  refine ⟨⟨by omega,by omega⟩,by omega,⟨by omega,by omega⟩,by omega,⟨Int.natCast_nonneg _,Int.ofNat_lt.2 x1,Int.natCast_nonneg _,Int.ofNat_lt.2 x2,Int.natCast_nonneg _,Int.ofNat_le.2 c1⟩,⟨by omega,by omega⟩,by rw [Zb,List.length_replicate]; omega,i+1,rfl,?_,by omega,by omega⟩
  rw [Zej hi _ rfl]
 ·obtain rfl:i=4:=by omega
  have e1:(wd 4 (a+b)++List.replicate (4 - 4) (W 0))=wd 4 (a+b):=by simp
  have e2:(wd 4 (a+b)).take 4=wd 4 (a+b):=List.take_of_length_le (by rw [Zb]; exact Nat.le_refl _)
  have e3:splice [W 0,W 0,W 0,W 0] 0 (wd 4 (a+b))=wd 4 (a+b):=Zu (Zb _ _)
  have e4:decide ((0:Int)<(((a%(18446744073709551616:Nat)^4+b%(18446744073709551616:Nat)^4) / (18446744073709551616:Nat)^4:Nat):Int))=decide ((18446744073709551616:Nat)^4≤a+b):=by
   rw [Nat.mod_eq_of_lt ha,Nat.mod_eq_of_lt hb]
   congr 1
   apply propext
   have:=Nat.div_pos_iff (a:=a+b) (b:=(18446744073709551616:Nat)^4)
   omega
  simp only [List.length_replicate,Zb,e1,e2,e3,e4,Zg]
  exact ⟨by decide,⟨trivial,trivial⟩,by decide,Zc rfl⟩
theorem Zd4 {H:AH} {a b:Nat} (ha:a<(18446744073709551616:Nat)^4) (hb:b<(18446744073709551616:Nat)^4):Called Tryz.prog F.limb_Sub [.agg (num a),.agg (num b)] H (.tup [.agg (num (a+(18446744073709551616:Nat)^4 - b)),Bl (decide (a<b))]) H:=by
 refine Zic ?_
 have l1:=Zb 4 a
 have l2:=Zb 4 b
 have n1:∀ n,(num n).isEmpty=false:=fun n => rfl
 simp only [Gc,go_sem,Zg,n1]
 refine Z4 _ (fun (i:Nat) => ([(2,.ptr H.length 0),(3,.ptr (H.length+1) 0),(4,.ptr (H.length+2) 0),(6,.ptr (H.length+3) 0),(7,W (bor (18446744073709551616:Nat) a b i)),(9,I i)],H++[⟨num a,0,true⟩,⟨num b,0,true⟩,⟨[W 0,W 0,W 0,W 0],0,true⟩,⟨wd i (a+(18446744073709551616:Nat)^4 - b)++List.replicate (4 - i) (W 0),0,true⟩])) (fun i => i≤4) (fun i => 4 - i) 0 (Nat.zero_le _) ?_ ?_
 ·simp [Nat.mod_one,wd,dig,bor]
 intro i hi
 simp only [go_sem]
 refine ⟨fun hh => ?_,fun hh => ?_⟩
 ·have hi:i<4:=by omega
  have l3:(wd i (a+(18446744073709551616:Nat)^4 - b)++List.replicate (4 - i) (W 0)).length=4:=by rw [List.length_append,Zb,List.length_replicate]; omega
  have d2:=Zsl (B:=(18446744073709551616:Nat)) (by decide) a b i
  obtain ⟨t,ht,d1⟩:=Zj2 (B:=(18446744073709551616:Nat)) (by decide) (a:=a) hb hi
  have x1:a / (18446744073709551616:Nat)^i%(18446744073709551616:Nat)<(18446744073709551616:Nat):=Nat.mod_lt _ (by decide)
  have x2:b / (18446744073709551616:Nat)^i%(18446744073709551616:Nat)<(18446744073709551616:Nat):=Nat.mod_lt _ (by decide)
  have w2:IntKind.i64.wrap ((i:Int)+1)=((i+1:Nat):Int):=by rw [w64 _ (by omega) (by omega)]; omega
  have c1:bor (18446744073709551616:Nat) a b i≤1:=by unfold bor; split <;> omega
  have e2:(if ((a / (18446744073709551616:Nat)^i%(18446744073709551616:Nat):Nat):Int)<((b / (18446744073709551616:Nat)^i%(18446744073709551616:Nat):Nat):Int)+((bor (18446744073709551616:Nat) a b i:Nat):Int) then (1:Int) else 0)=((bor (18446744073709551616:Nat) a b (i+1):Nat):Int):=by
   rw [d2]
   by_cases h:a / (18446744073709551616:Nat)^i%(18446744073709551616:Nat)<b / (18446744073709551616:Nat)^i%(18446744073709551616:Nat)+bor (18446744073709551616:Nat) a b i
   ·rw [if_pos h,if_pos (by exact_mod_cast h)]; rfl
   ·rw [if_neg h,if_neg (by exact_mod_cast h)]; rfl
  have e3:(((a / (18446744073709551616:Nat)^i%(18446744073709551616:Nat):Nat):Int) - ((b / (18446744073709551616:Nat)^i%(18446744073709551616:Nat):Nat):Int) - ((bor (18446744073709551616:Nat) a b i:Nat):Int))%18446744073709551616=(((a+(18446744073709551616:Nat)^4 - b) / (18446744073709551616:Nat)^i%(18446744073709551616:Nat):Nat):Int):=by
   rw [ht]
   generalize a / (18446744073709551616:Nat)^i=x at *
   generalize b / (18446744073709551616:Nat)^i=y at *
   generalize bor (18446744073709551616:Nat) a b i=c at *
   generalize (18446744073709551616:Nat)^(4 - i - 1)=Q at *
   omega
  simp only [go_sem,l1,l2,l3,Uc hi,Uq,Py,w2,e2,e3]
  refine ⟨⟨by omega,by omega⟩,by omega,⟨by omega,by omega⟩,by omega,⟨Int.natCast_nonneg _,Int.ofNat_lt.2 x1,Int.natCast_nonneg _,Int.ofNat_lt.2 x2,Int.natCast_nonneg _,Int.ofNat_le.2 c1⟩,⟨by omega,by omega⟩,by rw [Zb,List.length_replicate]; omega,i+1,rfl,?_,by omega,by omega⟩
  rw [Zej hi _ rfl]
 ·obtain rfl:i=4:=by omega
  have e1:(wd 4 (a+(18446744073709551616:Nat)^4 - b)++List.replicate (4 - 4) (W 0))=wd 4 (a+(18446744073709551616:Nat)^4 - b):=by simp
  have e2:(wd 4 (a+(18446744073709551616:Nat)^4 - b)).take 4=wd 4 (a+(18446744073709551616:Nat)^4 - b):=List.take_of_length_le (by rw [Zb]; exact Nat.le_refl _)
  have e3:splice [W 0,W 0,W 0,W 0] 0 (wd 4 (a+(18446744073709551616:Nat)^4 - b))=wd 4 (a+(18446744073709551616:Nat)^4 - b):=Zu (Zb _ _)
  have e4:decide ((0:Int)<((bor (18446744073709551616:Nat) a b 4:Nat):Int))=decide (a<b):=by
   unfold bor
   rw [Nat.mod_eq_of_lt ha,Nat.mod_eq_of_lt hb]
   by_cases h:a<b
   ·rw [if_pos h]; simp [h]
   ·rw [if_neg h]; simp [h]
  simp only [List.length_replicate,Zb,e1,e2,e3,e4,Zg]
  exact ⟨by decide,⟨trivial,trivial⟩,by decide,Zc rfl⟩
end Go.Proofs.YtcgjlpdkobmpnaaGreat.Eng
namespace Go.Proofs.YtcgjlpdkobmpnaaGreat.Eng
open Go Go.Proofs
set_option linter.unusedVariables false
set_option linter.unusedSimpArgs false
set_option maxRecDepth 10000
def cmpN (a b:Nat):Int:=if a<b then -1 else if b<a then 1 else 0
theorem Zam {a b i:Nat} (h:a / (18446744073709551616:Nat)^(i+1)=b / (18446744073709551616:Nat)^(i+1)):(a / (18446744073709551616:Nat)^i%(18446744073709551616:Nat)<b / (18446744073709551616:Nat)^i%(18446744073709551616:Nat)→a<b)∧(a / (18446744073709551616:Nat)^i%(18446744073709551616:Nat)=b / (18446744073709551616:Nat)^i%(18446744073709551616:Nat)→a / (18446744073709551616:Nat)^i=b / (18446744073709551616:Nat)^i):=by
 have e:∀ c,c / (18446744073709551616:Nat)^(i+1)=c / (18446744073709551616:Nat)^i / (18446744073709551616:Nat):=fun c => by rw [Nat.pow_succ,Nat.div_div_eq_div_mul]
 rw [e,e] at h
 refine ⟨fun hx => ?_,fun hx => ?_⟩
 ·have:a / (18446744073709551616:Nat)^i<b / (18446744073709551616:Nat)^i:=by omega
  refine Nat.lt_of_not_le fun hle => ?_
  have:=Nat.div_le_div_right (c:=(18446744073709551616:Nat)^i) hle
  omega
 ·omega
theorem I0 {H:AH} {a b:Nat} (ha:a<(18446744073709551616:Nat)^4) (hb:b<(18446744073709551616:Nat)^4):Called Tryz.prog F.limb_Cmp [.agg (num a),.agg (num b)] H (I (cmpN a b)) H:=by
 refine Zif ?_
 have l1:=Zb 4 a
 have l2:=Zb 4 b
 have n1:∀ n,(num n).isEmpty=false:=fun n => rfl
 simp only [Gg,go_sem,Zg,n1]
 refine Z4 _ (fun (k:Nat) => ([(2,.ptr H.length 0),(3,.ptr (H.length+1) 0),(5,I (3 - (k:Int)))],H++[⟨num a,0,true⟩,⟨num b,0,true⟩])) (fun k => k≤4∧a / (18446744073709551616:Nat)^(4 - k)=b / (18446744073709551616:Nat)^(4 - k)) (fun k => 4 - k) 0 ⟨by decide,by rw [Nat.div_eq_of_lt ha,Nat.div_eq_of_lt hb]⟩ rfl ?_
 rintro k ⟨hk,heq⟩
 simp only [go_sem]
 refine ⟨fun hh => ?_,fun hh => ?_⟩
 ·obtain ⟨i,hi,hi4⟩:∃ i:Nat,3 - (k:Int)=i∧i<4:=⟨3 - k,by omega,by omega⟩
  have e4:4 - k=i+1:=by omega
  rw [e4] at heq
  obtain ⟨c1,c2⟩:=Zam heq
  obtain ⟨c3,_⟩:=Zam heq.symm
  have w2:IntKind.i64.wrap ((i:Int) - 1)=3 - ((k+1:Nat):Int):=by rw [w64 _ (by omega) (by omega)]; omega
  simp only [hi,go_sem,l1,l2,Uc hi4,w2]
  have q1:∀ x y:Nat,((x:Int)<(y:Int))=(x<y):=fun x y => propext Int.ofNat_lt
  simp only [q1]
  refine ⟨⟨by omega,by omega⟩,by omega,⟨by omega,by omega⟩,by omega,fun hlt => Zc ?_,fun hlt => ⟨⟨by omega,by omega⟩,by omega,⟨by omega,by omega⟩,by omega,fun hgt => Zc ?_,fun hgt => ⟨k+1,rfl,⟨by omega,?_⟩,by omega⟩⟩⟩
  ·rw [cmpN,if_pos (c1 hlt)]; rfl
  ·have:=c3 hgt
   rw [cmpN,if_neg (by omega),if_pos this]; rfl
  ·rw [show 4 - (k+1)=i by omega]
   exact c2 (by omega)
 ·obtain rfl:k=4:=by omega
  rw [Nat.sub_self,Nat.pow_zero,Nat.div_one,Nat.div_one] at heq
  subst heq
  refine Zc ?_
  rw [cmpN,if_neg (by omega),if_neg (by omega)]; rfl
end Go.Proofs.YtcgjlpdkobmpnaaGreat.Eng
namespace Go.Proofs.YtcgjlpdkobmpnaaGreat.Eng
open Go Go.Proofs
set_option linter.unusedVariables false
set_option linter.unusedSimpArgs false
set_option maxRecDepth 10000
theorem wu (x:Nat) (h:x<(18446744073709551616:Nat)):IntKind.u64.wrap (x:Int)=(x:Int):=wu64 _ (by omega) (by omega)
theorem wumod (x:Nat):IntKind.u64.wrap (x:Int)=((x%(18446744073709551616:Nat):Nat):Int):=by
 simp only [IntKind.wrap,IntKind.bits,IntKind.signed]
 simp
theorem C4 (x:Nat) (h:x<(18446744073709551616:Nat)):bAnd .u64 (x:Int) 4294967295=((x%4294967296:Nat):Int):=by
 show IntKind.u64.wrap ((BitVec.ofInt 64 (x:Int) &&& BitVec.ofInt 64 4294967295).toNat:Int)=_
 have e:(BitVec.ofInt 64 (x:Int) &&& BitVec.ofInt 64 4294967295).toNat=x%4294967296:=by
  rw [BitVec.toNat_and,BitVec.toNat_ofInt,BitVec.toNat_ofInt]
  have e1:((x:Int)%((2^64:Nat):Int)).toNat=x:=by omega
  have e2:((4294967295:Int)%((2^64:Nat):Int)).toNat=2^32 - 1:=by decide
  rw [e1,e2,Nat.and_two_pow_sub_one_eq_mod]
 rw [e,wu _ (by omega)]
theorem Ui (x k:Nat):((x:Nat):Int).fdiv (2^k)=((x / 2^k:Nat):Int):=by
 rw [Int.fdiv_eq_ediv_of_nonneg _ (Int.le_of_lt (Int.pow_pos (by decide))),Int.natCast_ediv]
 simp
theorem Zwc (x:Nat):((x:Nat):Int).fdiv (2^min 32 64)=((x / 4294967296:Nat):Int):=Ui x 32
theorem Zq1 (x y:Nat):x*y / (18446744073709551616:Nat)=(x / 4294967296)*(y / 4294967296)+((x / 4294967296)*(y%4294967296)+(x%4294967296)*(y%4294967296) / 4294967296) / 4294967296+(((x / 4294967296)*(y%4294967296)+(x%4294967296)*(y%4294967296) / 4294967296)%4294967296+(x%4294967296)*(y / 4294967296)) / 4294967296:=by
 have hx:x=4294967296*(x / 4294967296)+x%4294967296:=(Nat.div_add_mod _ _).symm
 have hy:y=4294967296*(y / 4294967296)+y%4294967296:=(Nat.div_add_mod _ _).symm
 have e:x*y=18446744073709551616*((x / 4294967296)*(y / 4294967296))+4294967296*((x / 4294967296)*(y%4294967296))+4294967296*((x%4294967296)*(y / 4294967296))+(x%4294967296)*(y%4294967296):=by
  conv => lhs; rw [hx,hy]
  generalize x / 4294967296=a
  generalize x%4294967296=b
  generalize y / 4294967296=c
  generalize y%4294967296=d
  rw [Nat.add_mul,Nat.mul_add,Nat.mul_add,Nat.mul_assoc 4294967296 a,Nat.mul_left_comm a,← Nat.mul_assoc 4294967296 4294967296,Nat.mul_assoc 4294967296 a d,Nat.mul_left_comm b]
  omega
 rw [e]
 generalize (x / 4294967296)*(y / 4294967296)=p
 generalize (x / 4294967296)*(y%4294967296)=q
 generalize (x%4294967296)*(y / 4294967296)=r
 generalize (x%4294967296)*(y%4294967296)=s
 omega
theorem Zjs {H:AH} {x y:Nat} (hx:x<(18446744073709551616:Nat)) (hy:y<(18446744073709551616:Nat)):Called Tryz.prog F.math_bits_Mul64 [W x,W y] H (.tup [W (x*y / (18446744073709551616:Nat)),W (x*y%(18446744073709551616:Nat))]) H:=by
 refine Kz ?_
 have hb:∀ u v:Nat,u<4294967296→v<4294967296→u*v≤4294967295*4294967295:=fun u v h1 h2 => Nat.mul_le_mul (by omega) (by omega)
 have h1:=hb (x%4294967296) (y%4294967296) (by omega) (by omega)
 have h2:=hb (x / 4294967296) (y%4294967296) (by omega) (by omega)
 have h3:=hb (x%4294967296) (y / 4294967296) (by omega) (by omega)
 have h4:=hb (x / 4294967296) (y / 4294967296) (by omega) (by omega)
 have e:=Zq1 x y
 simp only [Sd,go_sem,C4 _ hx,C4 _ hy,Zwc,← Int.natCast_mul,← Int.natCast_add]
 rw [wumod (x*y),e]
 generalize x / 4294967296*(y / 4294967296)=p at *
 generalize x / 4294967296*(y%4294967296)=q at *
 generalize x%4294967296*(y / 4294967296)=r at *
 generalize x%4294967296*(y%4294967296)=u at *
 have hxy:x*y / (18446744073709551616:Nat)<(18446744073709551616:Nat):=by
  rw [Nat.div_lt_iff_lt_mul (by decide)]
  exact Nat.mul_lt_mul'' hx hy
 rw [e] at hxy
 simp (disch:=omega) only [wu,Zwc,C4,← Int.natCast_add]
 exact ⟨by decide,by decide,by decide,by decide,by decide,Leave.refl _ _ _⟩
end Go.Proofs.YtcgjlpdkobmpnaaGreat.Eng
namespace Go.Proofs.YtcgjlpdkobmpnaaGreat.Eng
open Go Go.Proofs
set_option linter.unusedVariables false
set_option linter.unusedSimpArgs false
set_option maxRecDepth 10000
theorem natdiv (m:Nat):((m:Nat):Int) / 18446744073709551616=((m / (18446744073709551616:Nat):Nat):Int):=by omega
theorem natmod (m:Nat):((m:Nat):Int)%18446744073709551616=((m%(18446744073709551616:Nat):Nat):Int):=by omega
theorem Zjm {H:AH} {x y a b:Nat} (hx:x<(18446744073709551616:Nat)) (hy:y<(18446744073709551616:Nat)) (ha:a<(18446744073709551616:Nat)) (hb:b<(18446744073709551616:Nat)):Called Tryz.prog F.field_step [W x,W y,W a,W b] H (.tup [W ((x*y+a+b)%(18446744073709551616:Nat)),W ((x*y+a+b) / (18446744073709551616:Nat))]) H:=by
 refine Zac ?_
 have hxy:x*y≤18446744073709551615*18446744073709551615:=Nat.mul_le_mul (by omega) (by omega)
 simp only [Ld,go_sem]
 refine Za (Zjs hx hy) (fun _ => rfl) ?_
 generalize x*y=p at *
 have z0:(0:Int)=((0:Nat):Int):=rfl
 simp only [go_sem,Uq,Py]
 simp (disch:=omega) only [Int.add_zero,← Int.natCast_add,natdiv,natmod,wu]
 refine ⟨by omega,by omega,?_⟩
 have e1:∀ m m':Nat,m=m'→W m=W m':=fun _ _ h => by rw [h]
 refine Zl (congrArg AV.tup ?_)
 refine List.cons_eq_cons.2 ⟨e1 _ _ ?_,List.cons_eq_cons.2 ⟨e1 _ _ ?_,rfl⟩⟩ <;> omega
end Go.Proofs.YtcgjlpdkobmpnaaGreat.Eng
namespace Go.Proofs.YtcgjlpdkobmpnaaGreat.Eng
open Go Go.Proofs
set_option linter.unusedVariables false
set_option linter.unusedSimpArgs false
set_option maxRecDepth 10000
theorem Zua {a b:Nat} (ha:a<9223372036854775808) (hb:b<2):bOr .u64 (a:Int) ((b*9223372036854775808:Nat):Int)=((a+b*9223372036854775808:Nat):Int):=by
 have h1:(BitVec.ofInt 64 (a:Int) ||| BitVec.ofInt 64 ((b*9223372036854775808:Nat):Int)).toNat=a+b*9223372036854775808:=by
  rw [BitVec.toNat_or,BitVec.toNat_ofInt,BitVec.toNat_ofInt]
  have e1:((a:Int)%((2^64:Nat):Int)).toNat=a:=by omega
  have e2:(((b*9223372036854775808:Nat):Int)%((2^64:Nat):Int)).toNat=b*9223372036854775808:=by omega
  rw [e1,e2,Nat.or_comm]
  have:=Nat.shiftLeft_add_eq_or_of_lt (i:=63) (b:=a) (by omega) b
  rw [Nat.shiftLeft_eq] at this
  rw [← show 2^63=9223372036854775808 from rfl,← this]
  omega
 show IntKind.u64.wrap ((BitVec.ofInt 64 _ ||| BitVec.ofInt 64 _).toNat:Int)=_
 rw [h1,wu _ (by omega)]
theorem Zhz (a i:Nat):a / 2 / (18446744073709551616:Nat)^i%(18446744073709551616:Nat)=(a / (18446744073709551616:Nat)^i%(18446744073709551616:Nat)) / 2+(a / (18446744073709551616:Nat)^(i+1)%(18446744073709551616:Nat))%2*9223372036854775808:=by
 have e:a / (18446744073709551616:Nat)^(i+1)=a / (18446744073709551616:Nat)^i / (18446744073709551616:Nat):=by rw [Nat.pow_succ,Nat.div_div_eq_div_mul]
 rw [e,Nat.div_div_eq_div_mul,Nat.mul_comm 2,← Nat.div_div_eq_div_mul]
 generalize a / (18446744073709551616:Nat)^i=x
 omega
theorem Vq {k n i:Nat} (h:i<k):(wd k n).drop i=W (n / (18446744073709551616:Nat)^i%(18446744073709551616:Nat))::(wd k n).drop (i+1):=by
 rw [Vr (by rw [Zb]; exact h) .junk,Uc h]
theorem Yi {α:Type} {l r:List α} {n j:Nat} (h:l.length=n) (d:α):(l++r).getD (n+j) d=r.getD j d:=by
 subst h
 rw [List.getD_eq_getElem?_getD,List.getD_eq_getElem?_getD,List.getElem?_append_right (Nat.le_add_right _ _),Nat.add_sub_cancel_left]
theorem Zbc {H:AH} {a:Nat} (ha:a<(18446744073709551616:Nat)^4):Called Tryz.prog F.limb_Half [.agg (num a)] H (.agg (num (a / 2))) H:=by
 refine Zc3 ?_
 have l1:=Zb 4 a
 have n1:∀ n,(num n).isEmpty=false:=fun n => rfl
 simp only [Js,go_sem,Zg,n1]
 refine Z4 _ (fun (i:Nat) => ([(1,.ptr H.length 0),(2,.ptr (H.length+1) 0),(4,I i)],H++[⟨wd i (a / 2)++(num a).drop i,0,true⟩,⟨[W 0,W 0,W 0,W 0],0,true⟩])) (fun i => i≤4) (fun i => 4 - i) 0 (Nat.zero_le _) rfl ?_
 intro i hi
 simp only [go_sem]
 refine ⟨fun hh => ?_,fun hh => ?_⟩
 ·have hi:i<4:=by omega
  have l3:(wd i (a / 2)++(num a).drop i).length=4:=by rw [List.length_append,Zb,List.length_drop,l1]; omega
  have w2:IntKind.i64.wrap ((i:Int)+1)=((i+1:Nat):Int):=by rw [w64 _ (by omega) (by omega)]; omega
  have g0:(wd i (a / 2)++(num a).drop i).getD i .junk=W (a / (18446744073709551616:Nat)^i%(18446744073709551616:Nat)):=by
   rw [Vq hi]; exact Yi (j:=0) (Zb i (a / 2)) _
  have s0:∀ v,(wd i (a / 2)++(num a).drop i).set i v=wd i (a / 2)++v::(num a).drop (i+1):=fun v => by
   rw [Vq hi,List.set_append_right _ _ (by rw [Zb]; exact Nat.le_refl _),Zb,Nat.sub_self,List.set_cons_zero]
  have s1:∀ v v',(wd i (a / 2)++v::(num a).drop (i+1)).set i v'=wd i (a / 2)++v'::(num a).drop (i+1):=fun v v' => by
   rw [List.set_append_right _ _ (by rw [Zb]; exact Nat.le_refl _),Zb,Nat.sub_self,List.set_cons_zero]
  have g1:∀ v,(wd i (a / 2)++v::(num a).drop (i+1)).getD i .junk=v:=fun v => by
   exact Yi (j:=0) (Zb i (a / 2)) _
  have sh1:((a / (18446744073709551616:Nat)^i%(18446744073709551616:Nat):Nat):Int).fdiv (2^min 1 64)=((a / (18446744073709551616:Nat)^i%(18446744073709551616:Nat) / 2:Nat):Int):=Ui _ 1
  have wf:wd (i+1) (a / 2)=wd i (a / 2)++[W (a / 2 / (18446744073709551616:Nat)^i%(18446744073709551616:Nat))]:=by rw [wd,wd,Iu,List.map_append]; rfl
  have hd:=Zhz a i
  by_cases h4:i+1<4
  ·have g2:∀ v,(wd i (a / 2)++v::(num a).drop (i+1)).getD (i+1) .junk=W (a / (18446744073709551616:Nat)^(i+1)%(18446744073709551616:Nat)):=fun v => by
    rw [Vq h4]; exact Yi (j:=1) (Zb i (a / 2)) _
   have x1:a / (18446744073709551616:Nat)^i%(18446744073709551616:Nat)<(18446744073709551616:Nat):=Nat.mod_lt _ (by decide)
   have x2:a / (18446744073709551616:Nat)^(i+1)%(18446744073709551616:Nat)<(18446744073709551616:Nat):=Nat.mod_lt _ (by decide)
   generalize hx:a / (18446744073709551616:Nat)^i%(18446744073709551616:Nat)=x at *
   generalize hy:a / (18446744073709551616:Nat)^(i+1)%(18446744073709551616:Nat)=y at *
   have sh2:IntKind.u64.wrap ((y:Int)*2^min 63 64)=((y%2*9223372036854775808:Nat):Int):=by
    rw [show ((y:Int)*2^min 63 64)=((y*9223372036854775808:Nat):Int) by rw [Int.natCast_mul]; rfl,wumod]
    omega
   have h8:((i+1:Nat):Int)<4:=by omega
   simp only [go_sem,l3,w2,g0,sh1,s0,s1,g1,g2,sh2,Zua (show x / 2<9223372036854775808 by omega) (show y%2<2 by omega),h8,List.length_drop,Zb]
   refine ⟨by omega,by omega,by decide,by omega,by omega,⟨⟨by omega,by omega,by omega,by omega,by decide,by omega,by omega,i+1,rfl,?_,by omega,by omega⟩,fun h => absurd trivial h⟩⟩
   rw [wf,hd,List.append_assoc]; rfl
  ·have hz:a / (18446744073709551616:Nat)^(i+1)%(18446744073709551616:Nat)=0:=by
    obtain rfl:i=3:=by omega
    rw [Nat.div_eq_of_lt ha,Nat.zero_mod]
   rw [hz,Nat.zero_mod,Nat.zero_mul,Nat.add_zero] at hd
   have h8:¬ ((i+1:Nat):Int)<4:=by omega
   simp only [go_sem,l3,w2,g0,sh1,s0,s1,g1,h8,List.length_drop,Zb]
   refine ⟨by omega,by omega,by decide,by omega,by omega,fun _ => ⟨i+1,rfl,?_,by omega,by omega⟩⟩
   rw [wf,hd,List.append_assoc]; rfl
 ·obtain rfl:i=4:=by omega
  have e1:wd 4 (a / 2)++(num a).drop 4=num (a / 2):=by rw [List.drop_eq_nil_of_le (by rw [l1]; exact Nat.le_refl _),List.append_nil]
  have e2:(num (a / 2)).take 4=num (a / 2):=List.take_of_length_le (by rw [Zb]; exact Nat.le_refl _)
  have e3:splice [W 0,W 0,W 0,W 0] 0 (num (a / 2))=num (a / 2):=Zu (Zb _ _)
  simp only [go_sem,e1,e2,e3,Zb,Zg,List.length_drop]
  exact Zc rfl
end Go.Proofs.YtcgjlpdkobmpnaaGreat.Eng
namespace Go.Proofs.YtcgjlpdkobmpnaaGreat.Eng
open Go Go.Proofs
set_option linter.unusedVariables false
set_option linter.unusedSimpArgs false
set_option maxRecDepth 10000
theorem Zav (a i:Nat):a / (18446744073709551616:Nat)^(i / 64)%(18446744073709551616:Nat) / 2^(i%64)%2=a / 2^i%2:=by
 have e1:(18446744073709551616:Nat)^(i / 64)=2^(64*(i / 64)):=by rw [Nat.pow_mul]
 have e2:(2:Nat)^i=2^(64*(i / 64))*2^(i%64):=by rw [← Nat.pow_add,Nat.div_add_mod]
 rw [e1,e2,← Nat.div_div_eq_div_mul]
 generalize a / 2^(64*(i / 64))=n
 have hr:i%64<64:=Nat.mod_lt _ (by decide)
 generalize i%64=r at *
 have h:(18446744073709551616:Nat)=2^r*(2*2^(63 - r)):=by
  rw [← Nat.pow_succ',← Nat.pow_add,show r+(63 - r).succ=64 by omega]
 rw [h,Nat.mod_mul_right_div_self,Nat.mod_mul_right_mod]
theorem and1 (x:Nat) (h:x<(18446744073709551616:Nat)):bAnd .u64 (x:Int) 1=((x%2:Nat):Int):=by
 show IntKind.u64.wrap ((BitVec.ofInt 64 (x:Int) &&& BitVec.ofInt 64 1).toNat:Int)=_
 have e:(BitVec.ofInt 64 (x:Int) &&& BitVec.ofInt 64 1).toNat=x%2:=by
  rw [BitVec.toNat_and,BitVec.toNat_ofInt,BitVec.toNat_ofInt]
  have e1:((x:Int)%((2^64:Nat):Int)).toNat=x:=by omega
  have e2:((1:Int)%((2^64:Nat):Int)).toNat=1:=by decide
  rw [e1,e2,Nat.and_one_is_mod]
 rw [e,wu _ (by omega)]
theorem Z0w {H:AH} {a i:Nat} (ha:a<(18446744073709551616:Nat)^4) (hi:i<256):Called Tryz.prog F.limb_Bit [.agg (num a),I i] H (Bl (decide (a / 2^i%2=1))) H:=by
 refine Zig ?_
 have l1:=Zb 4 a
 have n1:∀ n,(num n).isEmpty=false:=fun n => rfl
 have q1:(decide ((0:Int)≤(i:Int))&&decide ((i:Int)<256))=true:=by simp; omega
 have w1:IntKind.i64.wrap ((i:Int).tdiv 64)=((i / 64:Nat):Int):=by rw [Int.tdiv_eq_ediv_of_nonneg (by omega),w64 _ (by omega) (by omega)]; omega
 have w2:(i:Int).tmod 64=((i%64:Nat):Int):=by rw [Int.tmod_eq_emod_of_nonneg (by omega)]; omega
 have h4:i / 64<4:=by omega
 simp only [Gh,go_sem,Zg,n1,q1,w1,w2,l1,Uc h4]
 refine ⟨by decide,⟨by omega,by omega⟩,by omega,by decide,by omega,Zc ?_⟩
 rw [Nat.min_eq_left (by omega),Ui,and1 _ (Nat.lt_of_le_of_lt (Nat.div_le_self _ _) (Nat.mod_lt _ (by decide))),Zav]
 show (AV.lit (.bool _))=AV.lit (.bool _)
 congr 2
 generalize a / 2^i%2=x
 by_cases h:x=1
 ·subst h; rfl
 ·rw [decide_eq_false h,beq_eq_false_iff_ne]; omega
end Go.Proofs.YtcgjlpdkobmpnaaGreat.Eng
namespace Go.Proofs.YtcgjlpdkobmpnaaGreat.Eng
open Go Go.Proofs
set_option linter.unusedVariables false
set_option linter.unusedSimpArgs false
set_option maxRecDepth 10000
def blen (a:Nat):Nat:=if a=0 then 0 else a.log2+1
theorem Ok {x k:Nat} (h:2^k≤x):blen x=blen (x / 2^k)+k:=by
 have hx:x≠0:=by have:=Nat.pow_pos (n:=k) (show 0<2 by decide); omega
 have hd:x / 2^k≠0:=by have:=Nat.div_pos h (Nat.pow_pos (show 0<2 by decide)); omega
 rw [blen,if_neg hx,blen,if_neg hd]
 have h2:k≤x.log2:=(Nat.le_log2 hx).2 h
 have a1:=Nat.log2_self_le hx
 have a2:=Nat.lt_log2_self (n:=x)
 have:(x / 2^k).log2=x.log2 - k:=by
  rw [Nat.log2_eq_iff hd]
  constructor
  ·rw [Nat.le_div_iff_mul_le (Nat.pow_pos (by decide)),← Nat.pow_add]
   rwa [Nat.sub_add_cancel h2]
  ·rw [Nat.div_lt_iff_lt_mul (Nat.pow_pos (by decide)),← Nat.pow_add]
   rwa [show x.log2 - k+1+k=x.log2+1 by omega]
 omega
theorem Zvm {y:Nat} (h:y<256):((#[0,1,2,2,3,3,3,3,4,4,4,4,4,4,4,4,5,5,5,5,5,5,5,5,5,5,5,5,5,5,5,5,6,6,6,6,6,6,6,6,6,6,6,6,6,6,6,6,6,6,6,6,6,6,6,6,6,6,6,6,6,6,6,6,7,7,7,7,7,7,7,7,7,7,7,7,7,7,7,7,7,7,7,7,7,7,7,7,7,7,7,7,7,7,7,7,7,7,7,7,7,7,7,7,7,7,7,7,7,7,7,7,7,7,7,7,7,7,7,7,7,7,7,7,7,7,7,7,8,8,8,8,8,8,8,8,8,8,8,8,8,8,8,8,8,8,8,8,8,8,8,8,8,8,8,8,8,8,8,8,8,8,8,8,8,8,8,8,8,8,8,8,8,8,8,8,8,8,8,8,8,8,8,8,8,8,8,8,8,8,8,8,8,8,8,8,8,8,8,8,8,8,8,8,8,8,8,8,8,8,8,8,8,8,8,8,8,8,8,8,8,8,8,8,8,8,8,8,8,8,8,8,8,8,8,8,8,8,8,8,8,8,8,8,8,8,8,8,8,8,8,8,8,8,8,8]:Array UInt8).getD y 0).toNat=blen y:=by
 have:∀ y:Fin 256,((#[0,1,2,2,3,3,3,3,4,4,4,4,4,4,4,4,5,5,5,5,5,5,5,5,5,5,5,5,5,5,5,5,6,6,6,6,6,6,6,6,6,6,6,6,6,6,6,6,6,6,6,6,6,6,6,6,6,6,6,6,6,6,6,6,7,7,7,7,7,7,7,7,7,7,7,7,7,7,7,7,7,7,7,7,7,7,7,7,7,7,7,7,7,7,7,7,7,7,7,7,7,7,7,7,7,7,7,7,7,7,7,7,7,7,7,7,7,7,7,7,7,7,7,7,7,7,7,7,8,8,8,8,8,8,8,8,8,8,8,8,8,8,8,8,8,8,8,8,8,8,8,8,8,8,8,8,8,8,8,8,8,8,8,8,8,8,8,8,8,8,8,8,8,8,8,8,8,8,8,8,8,8,8,8,8,8,8,8,8,8,8,8,8,8,8,8,8,8,8,8,8,8,8,8,8,8,8,8,8,8,8,8,8,8,8,8,8,8,8,8,8,8,8,8,8,8,8,8,8,8,8,8,8,8,8,8,8,8,8,8,8,8,8,8,8,8,8,8,8,8,8,8,8,8,8,8]:Array UInt8).getD y.1 0).toNat=blen y.1:=by decide +kernel
 exact this ⟨y,h⟩
theorem Zyr {y:Nat} (h:y<256):blen y≤8:=by
 have:∀ y:Fin 256,blen y.1≤8:=by decide +kernel
 exact this ⟨y,h⟩
theorem wu8n (y:Nat) (h:y<256):IntKind.u8.wrap (y:Int)=(y:Int):=wu8 _ (by omega) (by omega)
theorem Z4n (x:Nat):((x:Nat):Int).fdiv (2^min 16 64)=((x / 65536:Nat):Int):=Ui x 16
theorem shr8 (x:Nat):((x:Nat):Int).fdiv (2^8)=((x / 256:Nat):Int):=Ui x 8
theorem T9 {H:AH} {x y c:Nat} (hy:y<256) (hc:c≤56) (h:blen x=blen y+c):(0≤IntKind.u8.wrap (y:Int)∧IntKind.u8.wrap (y:Int)<((256:Nat):Int))∧Leave H (.lit (.int .i64 (IntKind.i64.wrap ((c:Int)+IntKind.i64.wrap (((#[0,1,2,2,3,3,3,3,4,4,4,4,4,4,4,4,5,5,5,5,5,5,5,5,5,5,5,5,5,5,5,5,6,6,6,6,6,6,6,6,6,6,6,6,6,6,6,6,6,6,6,6,6,6,6,6,6,6,6,6,6,6,6,6,7,7,7,7,7,7,7,7,7,7,7,7,7,7,7,7,7,7,7,7,7,7,7,7,7,7,7,7,7,7,7,7,7,7,7,7,7,7,7,7,7,7,7,7,7,7,7,7,7,7,7,7,7,7,7,7,7,7,7,7,7,7,7,7,8,8,8,8,8,8,8,8,8,8,8,8,8,8,8,8,8,8,8,8,8,8,8,8,8,8,8,8,8,8,8,8,8,8,8,8,8,8,8,8,8,8,8,8,8,8,8,8,8,8,8,8,8,8,8,8,8,8,8,8,8,8,8,8,8,8,8,8,8,8,8,8,8,8,8,8,8,8,8,8,8,8,8,8,8,8,8,8,8,8,8,8,8,8,8,8,8,8,8,8,8,8,8,8,8,8,8,8,8,8,8,8,8,8,8,8,8,8,8,8,8,8,8,8,8,8,8,8]:Array UInt8).getD (IntKind.u8.wrap (y:Int)).toNat 0).toNat:Int))))) H (I (blen x)) H:=by
 have h1:=Zyr hy
 rw [wu8n y hy,Int.toNat_natCast,Zvm hy,w64 (blen y:Int) (by omega) (by omega),w64 _ (by omega) (by omega)]
 refine ⟨by omega,Zl ?_⟩
 rw [h,show (c:Int)+(blen y:Int)=((blen y+c:Nat):Int) by omega]
theorem Zvw {H:AH} {x:Nat} (hx:x<(18446744073709551616:Nat)):Called Tryz.prog F.math_bits_Len64 [W x] H (I (blen x)) H:=by
 have b1:∀ z,4294967296≤z→blen z=blen (z / 4294967296)+32:=fun z h => Ok (k:=32) h
 have b2:∀ z,65536≤z→blen z=blen (z / 65536)+16:=fun z h => Ok (k:=16) h
 have b3:∀ z,256≤z→blen z=blen (z / 256)+8:=fun z h => Ok (k:=8) h
 have c1:IntKind.i64.wrap (32+16)=48:=by decide
 have c2:IntKind.i64.wrap (48+8)=56:=by decide
 have c3:IntKind.i64.wrap (32+8)=40:=by decide
 have c4:IntKind.i64.wrap (16+8)=24:=by decide
 have c5:IntKind.i64.wrap (0+8)=8:=by decide
 have c6:IntKind.i64.wrap (0+16)=16:=by decide
 refine K4 ?_
 simp only [Se,go_sem,Zwc,Z4n,shr8,c1,c2,c3,c4,c5,c6]
 refine ⟨fun h1 => ⟨by decide,fun h2 => ⟨by decide,fun h3 => ⟨by decide,T9 (c:=56) (by omega) (by decide) ?_⟩,fun h3 => T9 (c:=48) (by omega) (by decide) ?_⟩,fun h2 => ⟨fun h3 => ⟨by decide,T9 (c:=40) (by omega) (by decide) ?_⟩,fun h3 => T9 (c:=32) (by omega) (by decide) ?_⟩⟩,
  fun h1 => ⟨fun h2 => ⟨by decide,fun h3 => ⟨by decide,T9 (c:=24) (by omega) (by decide) ?_⟩,fun h3 => T9 (c:=16) (by omega) (by decide) ?_⟩,fun h2 => ⟨fun h3 => ⟨by decide,T9 (c:=8) (by omega) (by decide) ?_⟩,fun h3 => T9 (c:=0) (by omega) (by decide) rfl⟩⟩⟩
 ·rw [b1 x (by omega),b2 _ (by omega),b3 _ (by omega)]
 ·rw [b1 x (by omega),b2 _ (by omega)]
 ·rw [b1 x (by omega),b3 _ (by omega)]
 ·rw [b1 x (by omega)]
 ·rw [b2 x (by omega),b3 _ (by omega)]
 ·rw [b2 x (by omega)]
 ·rw [b3 x (by omega)]
end Go.Proofs.YtcgjlpdkobmpnaaGreat.Eng
namespace Go.Proofs.YtcgjlpdkobmpnaaGreat.Eng
open Go Go.Proofs
set_option linter.unusedVariables false
set_option linter.unusedSimpArgs false
set_option maxRecDepth 10000
theorem Ztq {H:AH} {a:Nat} (ha:a<(18446744073709551616:Nat)^4):Called Tryz.prog F.limb_Len [.agg (num a)] H (I (blen a)) H:=by
 refine Zie ?_
 have l1:=Zb 4 a
 have n1:∀ n,(num n).isEmpty=false:=fun n => rfl
 simp only [Ge,go_sem,Zg,n1]
 refine Z4 _ (fun (k:Nat) => ([(1,.ptr H.length 0),(3,I (3 - (k:Int)))],H++[⟨num a,0,true⟩])) (fun k => k≤4∧a<(18446744073709551616:Nat)^(4 - k)) (fun k => 4 - k) 0 ⟨by decide,ha⟩ rfl ?_
 rintro k ⟨hk,hlt⟩
 simp only [go_sem]
 refine ⟨fun hh => ?_,fun hh => ?_⟩
 ·obtain ⟨i,hi,hi4⟩:∃ i:Nat,3 - (k:Int)=i∧i<4:=⟨3 - k,by omega,by omega⟩
  have e4:4 - k=i+1:=by omega
  rw [e4,Nat.pow_succ] at hlt
  have hp:0<(18446744073709551616:Nat)^i:=Nat.pow_pos (by decide)
  have hd:a / (18446744073709551616:Nat)^i%(18446744073709551616:Nat)=a / (18446744073709551616:Nat)^i:=Nat.mod_eq_of_lt ((Nat.div_lt_iff_lt_mul hp).2 (by rwa [Nat.mul_comm]))
  have hd2:a / (18446744073709551616:Nat)^i<(18446744073709551616:Nat):=hd ▸ Nat.mod_lt _ (by decide)
  have w2:IntKind.i64.wrap ((i:Int) - 1)=3 - ((k+1:Nat):Int):=by rw [w64 _ (by omega) (by omega)]; omega
  have w3:IntKind.i64.wrap (64*(i:Int))=((64*i:Nat):Int):=by rw [w64 _ (by omega) (by omega)]; omega
  simp only [hi,go_sem,l1,Uc hi4,w2,w3,hd]
  refine ⟨⟨by omega,by omega⟩,by omega,fun h0 => ⟨⟨by omega,by omega⟩,by omega,Za (Zvw hd2) (fun _ => rfl) ?_⟩,fun h0 => ⟨k+1,rfl,⟨by omega,?_⟩,by omega⟩⟩
  ·have h0:0<a / (18446744073709551616:Nat)^i:=Int.ofNat_lt.1 h0
   have hle:(18446744073709551616:Nat)^i≤a:=Nat.le_of_not_lt fun h => by rw [Nat.div_eq_of_lt h] at h0; exact absurd h0 (by decide)
   have e1:(18446744073709551616:Nat)^i=2^(64*i):=by rw [Nat.pow_mul]
   have e2:blen a=blen (a / (18446744073709551616:Nat)^i)+64*i:=by rw [e1]; exact Ok (e1 ▸ hle)
   have h5:blen (a / (18446744073709551616:Nat)^i)≤64:=by
    unfold blen
    split
    ·omega
    ·rename_i hne
     have:=(Nat.log2_lt hne).2 (show a / (18446744073709551616:Nat)^i<2^64 from hd2)
     omega
   simp only [go_sem]
   refine Zc ?_
   rw [w64 _ (by omega) (by omega),e2]
   show AV.lit (.int .i64 _)=AV.lit (.int .i64 _)
   congr 2
   omega
  ·rw [show 4 - (k+1)=i by omega]
   refine Nat.lt_of_not_le fun h => h0 (Int.ofNat_lt.2 (Nat.div_pos h hp))
 ·obtain rfl:k=4:=by omega
  have:a=0:=by rw [Nat.sub_self,Nat.pow_zero] at hlt; omega
  subst this
  exact Zc rfl
end Go.Proofs.YtcgjlpdkobmpnaaGreat.Eng
namespace Go.Proofs.YtcgjlpdkobmpnaaGreat.Eng
open Go Go.Proofs
set_option linter.unusedVariables false
set_option linter.unusedSimpArgs false
set_option maxRecDepth 10000
theorem bpos (k:Nat):0<(18446744073709551616:Nat)^k:=Nat.pow_pos (by decide)
theorem Fg (S c k:Nat):(S+c*(18446744073709551616:Nat)^k) / (18446744073709551616:Nat)^k=S / (18446744073709551616:Nat)^k+c:=Nat.add_mul_div_right _ _ (bpos k)
theorem Zdo (S c k:Nat):dig (18446744073709551616:Nat) k (S+c*(18446744073709551616:Nat)^k)=dig (18446744073709551616:Nat) k S:=by
 rw [← Nx k (S+c*(18446744073709551616:Nat)^k) (by decide),Nat.add_mul_mod_self_right,Nx k S (by decide)]
theorem Zpb (S c k:Nat):wd (k+1) (S+c*(18446744073709551616:Nat)^k)=wd k S++[W ((S / (18446744073709551616:Nat)^k+c)%(18446744073709551616:Nat))]:=by
 rw [wd,Iu,Zdo,Fg,List.map_append]; rfl
theorem C8 (S c k:Nat):(S+c*(18446744073709551616:Nat)^k) / (18446744073709551616:Nat)^(k+1)=(S / (18446744073709551616:Nat)^k+c) / (18446744073709551616:Nat):=by
 rw [Nat.pow_succ,← Nat.div_div_eq_div_mul,Fg]
theorem T7 (a k:Nat):a%(18446744073709551616:Nat)^(k+1)=a%(18446744073709551616:Nat)^k+(a / (18446744073709551616:Nat)^k%(18446744073709551616:Nat))*(18446744073709551616:Nat)^k:=by
 rw [Nat.pow_succ,Nat.mod_mul,Nat.mul_comm ((18446744073709551616:Nat)^k)]
theorem Zov {k n i:Nat} (h:i=k) {R:List AV} (d:AV):(wd k n++R).getD i d=R.getD 0 d:=by
 subst h; exact Yi (j:=0) (Zb i n) d
theorem Jg {k n i:Nat} (h:i=k) {R:List AV} (v:AV):(wd k n++R).set i v=wd k n++R.set 0 v:=by
 subst h
 rw [List.set_append_right _ _ (by rw [Zb]; exact Nat.le_refl _),Zb,Nat.sub_self]
theorem T3 {k n i:Nat} (h:n<(18446744073709551616:Nat)^i):(wd k n).drop i=List.replicate (k - i) (W 0):=by
 apply List.ext_getElem?
 intro j
 rw [List.getElem?_drop,List.getElem?_replicate]
 by_cases hj:i+j<k
 ·have e:=Uc (n:=n) hj
  rw [List.getD_eq_getElem?_getD] at e
  have hl:i+j<(wd k n).length:=by rw [Zb]; exact hj
  rw [List.getElem?_eq_getElem hl,Option.getD_some] at e
  rw [List.getElem?_eq_getElem hl,e,if_pos (by omega),Nat.div_eq_of_lt (Nat.lt_of_lt_of_le h (Nat.pow_le_pow_right (by decide) (Nat.le_add_right _ _)))]
 ·rw [List.getElem?_eq_none (by rw [Zb]; omega),if_neg (by omega)]
theorem Zu4 (k:Nat):wd k 0=List.replicate k (W 0):=by
 have:=T3 (k:=k) (n:=0) (i:=0) (by decide)
 simpa using this
theorem Dd {k n i:Nat} (h:i≤k):wd k n=wd i n++(wd k n).drop i:=by
 obtain ⟨j,rfl⟩:=Nat.le.dest h
 rw [wd,Zn2,List.map_append]
 have:(List.map W (dig (18446744073709551616:Nat) i n)).length=i:=by rw [List.length_map,Oh]
 rw [List.drop_left' this]; rfl
theorem Z0u {H:AH} {a b:Nat} (ha:a<(18446744073709551616:Nat)^4) (hb:b<(18446744073709551616:Nat)^4):Called Tryz.prog F.limb_Mul [.agg (num a),.agg (num b)] H (.agg (wd 8 (a*b))) H:=by
 refine Zid ?_
 have l1:=Zb 4 a
 have l2:=Zb 4 b
 have n1:∀ n,(num n).isEmpty=false:=fun n => rfl
 have t1:(num a).take 4=num a:=List.take_of_length_le (by rw [l1]; exact Nat.le_refl _)
 have t2:(num b).take 4=num b:=List.take_of_length_le (by rw [l2]; exact Nat.le_refl _)
 simp only [Gd,go_sem,Zg,n1,l1,l2,t1,t2]
 refine Z4 _ (fun (i:Nat) => ([(3,.ptr (H.length+1) 0),(4,.ptr (H.length+2) 0),(5,.ptr (H.length+3) 0),(14,.agg (num a)),(15,I i)],H++[⟨num a,0,true⟩,⟨num b,0,true⟩,⟨List.replicate 8 (W 0),0,true⟩,⟨wd 8 (a%(18446744073709551616:Nat)^i*b),0,true⟩])) (fun i => i≤4) (fun i => 4 - i) 0 (Nat.zero_le _) ?_ ?_
 ·rw [Nat.pow_zero,Nat.mod_one,Nat.zero_mul,Zu4]; rfl
 intro i hi
 simp only [go_sem]
 refine ⟨fun hh => ?_,fun hh => ?_⟩
 ·have hi:i<4:=by omega
  simp only [go_sem,l1,l2,t2,Uc hi]
  refine ⟨by omega,?_⟩
  generalize hP:a%(18446744073709551616:Nat)^i*b=P
  generalize hx:a / (18446744073709551616:Nat)^i%(18446744073709551616:Nat)=x
  have hP':P<(18446744073709551616:Nat)^(i+4):=by
   rw [← hP,Nat.pow_add]; exact Nat.mul_lt_mul'' (Nat.mod_lt _ (bpos i)) hb
  have hx':x<(18446744073709551616:Nat):=hx ▸ Nat.mod_lt _ (by decide)
  have q0:P%(18446744073709551616:Nat)^i+x*(b%(18446744073709551616:Nat)^0)*(18446744073709551616:Nat)^i=P%(18446744073709551616:Nat)^i:=by simp [Nat.mod_one]
  refine Z4 _ (fun (k:Nat) => ([(3,.ptr (H.length+1) 0),(4,.ptr (H.length+2) 0),(5,.ptr (H.length+3) 0),(6,I i),(7,W x),(8,W ((P%(18446744073709551616:Nat)^(i+k)+x*(b%(18446744073709551616:Nat)^k)*(18446744073709551616:Nat)^i) / (18446744073709551616:Nat)^(i+k))),(14,.agg (num a)),(15,I i),(19,.agg (num b)),(20,I k)],H++[⟨num a,0,true⟩,⟨num b,0,true⟩,⟨List.replicate 8 (W 0),0,true⟩,⟨wd (i+k) (P%(18446744073709551616:Nat)^(i+k)+x*(b%(18446744073709551616:Nat)^k)*(18446744073709551616:Nat)^i)++(wd 8 P).drop (i+k),0,true⟩])) (fun k => k≤4∧(P%(18446744073709551616:Nat)^(i+k)+x*(b%(18446744073709551616:Nat)^k)*(18446744073709551616:Nat)^i) / (18446744073709551616:Nat)^(i+k)<(18446744073709551616:Nat)) (fun k => 4 - k) 0 ?_ ?_ ?_
  ·simp only [Nat.add_zero,q0,Nat.div_eq_of_lt (Nat.mod_lt P (bpos i))]; decide
  ·have:wd i (P%(18446744073709551616:Nat)^i)=wd i P:=by rw [wd,Nx i P (by decide)]; rfl
   simp only [Nat.add_zero,q0,Nat.div_eq_of_lt (Nat.mod_lt P (bpos i)),this,← Dd (show i≤8 by omega)]; rfl
  rintro k ⟨hk,hov⟩
  simp only [go_sem]
  refine ⟨fun hh2 => ?_,fun hh2 => ?_⟩
  ·have hk:k<4:=by omega
   generalize hS:P%(18446744073709551616:Nat)^(i+k)+x*(b%(18446744073709551616:Nat)^k)*(18446744073709551616:Nat)^i=S at *
   have hS':P%(18446744073709551616:Nat)^(i+(k+1))+x*(b%(18446744073709551616:Nat)^(k+1))*(18446744073709551616:Nat)^i=S+(P / (18446744073709551616:Nat)^(i+k)%(18446744073709551616:Nat)+x*(b / (18446744073709551616:Nat)^k%(18446744073709551616:Nat)))*(18446744073709551616:Nat)^(i+k):=by
    rw [← hS,← Nat.add_assoc i k 1,T7,T7,Nat.mul_add,Nat.add_mul,Nat.add_mul,Nat.pow_add (18446744073709551616:Nat) i k]
    have:x*(b / (18446744073709551616:Nat)^k%(18446744073709551616:Nat)*(18446744073709551616:Nat)^k)*(18446744073709551616:Nat)^i=x*(b / (18446744073709551616:Nat)^k%(18446744073709551616:Nat))*((18446744073709551616:Nat)^i*(18446744073709551616:Nat)^k):=by
     rw [Nat.mul_comm ((18446744073709551616:Nat)^i),← Nat.mul_assoc,← Nat.mul_assoc]
    omega
   have e1:IntKind.i64.wrap ((i:Int)+(k:Int))=((i+k:Nat):Int):=by rw [w64 _ (by omega) (by omega)]; omega
   have e2:IntKind.i64.wrap ((k:Int)+1)=((k+1:Nat):Int):=by rw [w64 _ (by omega) (by omega)]; omega
   have hy':b / (18446744073709551616:Nat)^k%(18446744073709551616:Nat)<(18446744073709551616:Nat):=Nat.mod_lt _ (by decide)
   have hp':P / (18446744073709551616:Nat)^(i+k)%(18446744073709551616:Nat)<(18446744073709551616:Nat):=Nat.mod_lt _ (by decide)
   have hik:i+k<8:=by omega
   simp only [go_sem,l2,Uc hk]
   refine ⟨by omega,Za (Zjs hx' hy') (fun _ => rfl) ?_⟩
   have hxy:x*(b / (18446744073709551616:Nat)^k%(18446744073709551616:Nat))≤18446744073709551615*18446744073709551615:=Nat.mul_le_mul (by omega) (by omega)
   generalize b / (18446744073709551616:Nat)^k%(18446744073709551616:Nat)=y at *
   simp only [go_sem,e1,e2,Zov rfl,Jg rfl,Vq hik,List.length_append,Zb,List.length_drop,Uq,Py]
   have z0:(0:Int)=((0:Nat):Int):=rfl
   have hw1:=Zpb S (P / (18446744073709551616:Nat)^(i+k)%(18446744073709551616:Nat)+x*y) (i+k)
   have hw2:=C8 S (P / (18446744073709551616:Nat)^(i+k)%(18446744073709551616:Nat)+x*y) (i+k)
   generalize x*y=p at *
   generalize P / (18446744073709551616:Nat)^(i+k)%(18446744073709551616:Nat)=pw at *
   generalize hov':S / (18446744073709551616:Nat)^(i+k)=ov at *
   simp (disch:=omega) only [Int.add_zero,← Int.natCast_add,natdiv,natmod,wu]
   refine ⟨by omega,by omega,by omega,by omega,by omega,by omega,k+1,?_,?_,⟨by omega,?_⟩,by omega⟩
   ·rw [hS',← Nat.add_assoc i k 1,hw2]
    rw [show p / (18446744073709551616:Nat)+(p%(18446744073709551616:Nat)+pw) / (18446744073709551616:Nat)+((p%(18446744073709551616:Nat)+pw)%(18446744073709551616:Nat)+ov) / (18446744073709551616:Nat)=(ov+(pw+p)) / (18446744073709551616:Nat) by omega]
   ·rw [hS',← Nat.add_assoc i k 1,hw1,List.append_assoc]
    rw [show ((p%(18446744073709551616:Nat)+pw)%(18446744073709551616:Nat)+ov)%(18446744073709551616:Nat)=(ov+(pw+p))%(18446744073709551616:Nat) by omega]; rfl
   ·rw [hS',← Nat.add_assoc i k 1,hw2]; omega
  ·obtain rfl:k=4:=by omega
   have e1:IntKind.i64.wrap ((i:Int)+4)=((i+4:Nat):Int):=by rw [w64 _ (by omega) (by omega)]; omega
   have e2:IntKind.i64.wrap ((i:Int)+1)=((i+1:Nat):Int):=by rw [w64 _ (by omega) (by omega)]; omega
   have q4:P%(18446744073709551616:Nat)^(i+4)+x*(b%(18446744073709551616:Nat)^4)*(18446744073709551616:Nat)^i=a%(18446744073709551616:Nat)^(i+1)*b:=by
    rw [Nat.mod_eq_of_lt hP',Nat.mod_eq_of_lt hb,T7,Nat.add_mul,hP,hx,Nat.mul_right_comm]
   have hP1:a%(18446744073709551616:Nat)^(i+1)*b<(18446744073709551616:Nat)^(i+5):=by
    rw [show i+5=(i+1)+4 by omega,Nat.pow_add (18446744073709551616:Nat) (i+1)]; exact Nat.mul_lt_mul'' (Nat.mod_lt _ (bpos _)) hb
   rw [q4] at hov
   have d1:(wd 8 P).drop (i+4)=W (P / (18446744073709551616:Nat)^(i+4)%(18446744073709551616:Nat))::(wd 8 P).drop (i+4+1):=Vq (by omega)
   have d2:(wd 8 P).drop (i+4+1)=(wd 8 (a%(18446744073709551616:Nat)^(i+1)*b)).drop (i+4+1):=by
    rw [T3 (Nat.lt_trans hP' (Nat.pow_lt_pow_right (by decide) (by omega))),T3 hP1]
   have d3:(wd 8 (a%(18446744073709551616:Nat)^(i+1)*b))=wd (i+4) (a%(18446744073709551616:Nat)^(i+1)*b)++W (a%(18446744073709551616:Nat)^(i+1)*b / (18446744073709551616:Nat)^(i+4))::(wd 8 (a%(18446744073709551616:Nat)^(i+1)*b)).drop (i+4+1):=by
    conv => lhs; rw [Dd (show i+4≤8 by omega),Vq (show i+4<8 by omega),Nat.mod_eq_of_lt hov]
   simp only [go_sem,q4,e1,e2,Jg rfl,d1,List.length_append,Zb,List.length_drop]
   refine ⟨by omega,by omega,i+1,rfl,?_,by omega,by omega⟩
   rw [d2,← d3]
 ·obtain rfl:i=4:=by omega
  have e1:(wd 8 (a%(18446744073709551616:Nat)^4*b)).take 8=wd 8 (a*b):=by rw [Nat.mod_eq_of_lt ha]; exact List.take_of_length_le (by rw [Zb]; exact Nat.le_refl _)
  have e3:splice [W 0,W 0,W 0,W 0,W 0,W 0,W 0,W 0] 0 (wd 8 (a*b))=wd 8 (a*b):=Zu (Zb _ _)
  have e4:(wd 8 (a*b)).take 8=wd 8 (a*b):=List.take_of_length_le (by rw [Zb]; exact Nat.le_refl _)
  simp only [go_sem,e1,e3,e4,Zb,Zg,List.length_replicate]
  exact Zc rfl
end Go.Proofs.YtcgjlpdkobmpnaaGreat.Eng
namespace Go.Proofs.YtcgjlpdkobmpnaaGreat.Eng
open Go Go.Proofs
set_option linter.unusedVariables false
set_option linter.unusedSimpArgs false
set_option maxRecDepth 10000
theorem Oc {H G K:AH} {v2 v:AV} (ks:List Nat) (hnd:ks.Nodup) (hlt:∀ k ∈ ks,k<G.length) (h:low (renk H.length ks) (H++G) v2=v) (hK:(ks.map fun k => Wu (renk H.length ks) (H++G) (obj G k))=K):Leave H v2 (H++G) v (H++K):=by
 have:=Hw (H:=H) (H1:=H) (H1':=H) (G:=G) ks hnd hlt rfl rfl (fun i o' hi => .inl ⟨hi,hi⟩) v2
 rwa [h,hK] at this
theorem Dy (n:Nat) (ks:List Nat) (k:Nat):renk n ks (n+k)=(ks.idxOf? k).map (n+·):=by
 unfold renk; rw [if_neg (by omega),Nat.add_sub_cancel_left]
theorem Ip {α:Type} (ren:Nat→Option Nat) (H:AH) (f:α→AV) (hf:∀ a,low ren H (f a)=f a):∀ l:List α,lowL ren H (l.map f)=l.map f
 | [] => rfl
 | a::r => by simp only [List.map_cons,lowL,hf,Ip ren H f hf r]
theorem Pc (ren:Nat→Option Nat) (H:AH) (l:List UInt8):lowL ren H (bs l)=bs l:=Ip ren H u8 (fun _ => rfl) l
theorem Tf (ren:Nat→Option Nat) (H:AH) (k n:Nat):lowL ren H (wd k n)=wd k n:=Ip ren H W (fun _ => rfl) _
theorem Zsu (k n:Nat):beN (k+1) n=UInt8.ofNat (n / 256^k)::beN k n:=by
 rw [beN,List.range_succ_eq_map,List.map_cons,List.map_map,beN]
 congr 1
 apply List.map_congr_left
 intro i hi
 rw [List.mem_range] at hi
 show UInt8.ofNat (n / 256^(k+1 - 1 - (i+1)))=_
 rw [show k+1 - 1 - (i+1)=k - 1 - i by omega]
theorem Ziy (a i:Nat):a / (18446744073709551616:Nat)^(i / 8)%(18446744073709551616:Nat) / 2^(8*(i%8))%256=a / 256^i%256:=by
 have e1:(18446744073709551616:Nat)^(i / 8)=256^(8*(i / 8)):=by rw [Nat.pow_mul]
 have e2:(256:Nat)^i=256^(8*(i / 8))*256^(i%8):=by rw [← Nat.pow_add,Nat.div_add_mod]
 have e3:(2:Nat)^(8*(i%8))=256^(i%8):=by rw [Nat.pow_mul]
 rw [e1,e2,e3,← Nat.div_div_eq_div_mul]
 generalize a / 256^(8*(i / 8))=n
 have hr:i%8<8:=Nat.mod_lt _ (by decide)
 generalize i%8=r at *
 have h:(18446744073709551616:Nat)=256^r*(256*256^(7 - r)):=by
  rw [← Nat.pow_succ',← Nat.pow_add,show r+(7 - r).succ=8 by omega]
 rw [h,Nat.mod_mul_right_div_self,Nat.mod_mul_right_mod]
theorem Zjc (x:Nat):IntKind.u8.wrap (x:Int)=((x%256:Nat):Int):=by
 simp only [IntKind.wrap,IntKind.bits,IntKind.signed]
 simp
theorem Zdx (n:Nat):u8 (UInt8.ofNat n)=.lit (.int .u8 ((n%256:Nat):Int)):=by simp [u8]
theorem Dh {H:AH} {a:Nat} (ha:a<(18446744073709551616:Nat)^4):Called Tryz.prog F.limb_Bytes [.agg (num a)] H (.row H.length 0 32 32) (H++[⟨bs (beN 32 a),1,true⟩]):=by
 refine A9 ?_
 have l1:=Zb 4 a
 have n1:∀ n,(num n).isEmpty=false:=fun n => rfl
 simp only [La,go_sem,Zg,n1,Hs]
 refine ⟨by decide,?_⟩
 refine Z4 _ (fun (i:Nat) => ([(1,.ptr H.length 0),(3,.row (H.length+1) 0 32 32),(7,I 32),(8,I i)],H++[⟨num a,0,true⟩,⟨List.replicate (32 - i) (u8 0)++bs (beN i a),1,true⟩])) (fun i => i≤32) (fun i => 32 - i) 0 (Nat.zero_le _) rfl ?_
 intro i hi
 simp only [go_sem]
 refine ⟨fun hh => ?_,fun hh => ?_⟩
 ·have hi:i<32:=by omega
  have w1:IntKind.i64.wrap (31 - (i:Int))=((31 - i:Nat):Int):=by rw [w64 _ (by omega) (by omega)]; omega
  have w2:IntKind.i64.wrap ((i:Int)+1)=((i+1:Nat):Int):=by rw [w64 _ (by omega) (by omega)]; omega
  have w3:IntKind.i64.wrap ((i:Int).tdiv 8)=((i / 8:Nat):Int):=by rw [Int.tdiv_eq_ediv_of_nonneg (by omega),w64 _ (by omega) (by omega)]; omega
  have w4:(i:Int).tmod 8=((i%8:Nat):Int):=by rw [Int.tmod_eq_emod_of_nonneg (by omega)]; omega
  have w5:IntKind.i64.wrap (8*((i%8:Nat):Int))=((8*(i%8):Nat):Int):=by rw [w64 _ (by omega) (by omega)]; omega
  have h4:i / 8<4:=by omega
  have hm:min (8*(i%8)) 64=8*(i%8):=by omega
  have s0:∀ v,(List.replicate (32 - i) (u8 0)++bs (beN i a)).set (31 - i) v=List.replicate (32 - (i+1)) (u8 0)++v::bs (beN i a):=fun v => by
   rw [show 32 - i=(31 - i)+1 by omega,List.replicate_succ',List.append_assoc,List.set_append_right _ _ (by rw [List.length_replicate]; exact Nat.le_refl _),List.length_replicate,Nat.sub_self,show 32 - (i+1)=31 - i by omega]; rfl
  simp only [go_sem,w1,w2,w3,w4,w5,l1,Uc h4,hm,Ui,Zjc,Ziy,s0,IntKind.bits]
  refine ⟨by decide,by omega,by omega,by decide,by omega,by omega,⟨by rw [List.length_replicate,Zt,Zm]; omega,by omega⟩,i+1,rfl,?_,by omega,by omega⟩
  have:bs (UInt8.ofNat (a / 256^i)::beN i a)=AV.lit (.int .u8 ((a / 256^i%256:Nat):Int))::bs (beN i a):=by rw [← Zdx]; rfl
  rw [Zsu,this]
 ·obtain rfl:i=32:=by omega
  refine Oc [1] (by decide) (by simp) ?_ ?_
  ·simp [low,Dy,List.idxOf?_cons]
  ·simp [Wu,Pc,obj]
/-! ### Numbers of bytes -/
theorem Zyb (k:Nat):∀ (n j c:Nat),j<k→n / (18446744073709551616:Nat)^j%(18446744073709551616:Nat)+c<(18446744073709551616:Nat)→dig (18446744073709551616:Nat) k (n+c*(18446744073709551616:Nat)^j)=(dig (18446744073709551616:Nat) k n).set j (n / (18446744073709551616:Nat)^j%(18446744073709551616:Nat)+c):=by
 induction k with
 | zero => intro n j c h; omega
 | succ k ih =>
  intro n j c hj hc
  cases j with
  | zero =>
   simp only [Nat.pow_zero,Nat.mul_one,Nat.div_one] at *
   rw [dig,dig,List.set_cons_zero,show (n+c)%(18446744073709551616:Nat)=n%(18446744073709551616:Nat)+c by omega,show (n+c) / (18446744073709551616:Nat)=n / (18446744073709551616:Nat) by omega]
  | succ j =>
   have e1:n / (18446744073709551616:Nat)^(j+1)=n / (18446744073709551616:Nat) / (18446744073709551616:Nat)^j:=by rw [Nat.pow_succ,Nat.mul_comm,Nat.div_div_eq_div_mul]
   have e2:c*(18446744073709551616:Nat)^(j+1)=(18446744073709551616:Nat)*(c*(18446744073709551616:Nat)^j):=by rw [Nat.pow_succ,Nat.mul_left_comm,Nat.mul_comm ((18446744073709551616:Nat)^j),← Nat.mul_assoc,Nat.mul_comm]; rw [Nat.mul_comm (18446744073709551616:Nat),Nat.mul_comm,Nat.mul_assoc]
   rw [e1] at hc ⊢
   rw [dig,dig,List.set_cons_succ,e2,Nat.add_mul_mod_self_left,Nat.add_mul_div_left _ _ (show 0<(18446744073709551616:Nat) by decide),ih _ _ _ (by omega) hc]
theorem Zje {k n j c:Nat} (hj:j<k) (hc:n / (18446744073709551616:Nat)^j%(18446744073709551616:Nat)+c<(18446744073709551616:Nat)):(wd k n).set j (W (n / (18446744073709551616:Nat)^j%(18446744073709551616:Nat)+c))=wd k (n+c*(18446744073709551616:Nat)^j):=by
 rw [wd,wd,Zyb k n j c hj hc,List.map_set]
theorem Zub {w y k:Nat} (hw:w<2^k) (hk:w+y*2^k<(18446744073709551616:Nat)):bOr .u64 (w:Int) ((y*2^k:Nat):Int)=((w+y*2^k:Nat):Int):=by
 have h1:(BitVec.ofInt 64 (w:Int) ||| BitVec.ofInt 64 ((y*2^k:Nat):Int)).toNat=w+y*2^k:=by
  rw [BitVec.toNat_or,BitVec.toNat_ofInt,BitVec.toNat_ofInt]
  generalize hz:y*2^k=z at *
  have e1:((w:Int)%((2^64:Nat):Int)).toNat=w:=by omega
  have e2:((z:Int)%((2^64:Nat):Int)).toNat=z:=by omega
  rw [e1,e2,Nat.or_comm,← hz]
  have:=Nat.shiftLeft_add_eq_or_of_lt (i:=k) (b:=w) hw y
  rw [Nat.shiftLeft_eq] at this
  rw [← this]
  omega
 show IntKind.u64.wrap ((BitVec.ofInt 64 _ ||| BitVec.ofInt 64 _).toNat:Int)=_
 rw [h1,wu _ hk]
theorem Zst (l:List UInt8) (i:Nat) (h:i<l.length):(l.getD (l.length - 1 - i) 0).toNat=be l / 256^i%256:=by
 have e:=Z3p l
 have:(beN l.length (be l)).getD (l.length - 1 - i) 0=UInt8.ofNat (be l / 256^i):=by
  rw [beN,List.getD_eq_getElem?_getD,List.getElem?_map,List.getElem?_range (by omega)]
  show UInt8.ofNat _=_
  rw [show l.length - 1 - (l.length - 1 - i)=i by omega]
 rw [e] at this
 rw [this]; simp
theorem Zjt {H:AH} {x:AV} {l:List UInt8} (hx:Sl 1 H x (bs l) l.length) (hl:l.length≤32):Called Tryz.prog F.limb_Of [x] H (.tup [.agg (num (be l)),nilE]) H:=by
 refine Znw ?_
 have n1:∀ n,(num n).isEmpty=false:=fun n => rfl
 simp only [Ev,go_sem,hx.lenT,hx.n]
 refine ⟨fun h => by omega,fun _ => ?_⟩
 refine Z4 _ (fun (i:Nat) => ([(0,x),(2,.ptr H.length 0),(4,.ptr (H.length+1) 0),(12,I l.length),(13,I i)],H++[⟨[W 0,W 0,W 0,W 0],0,true⟩,⟨num (be l%256^i),0,true⟩])) (fun i => i≤l.length) (fun i => l.length - i) 0 (Nat.zero_le _) ?_ ?_
 ·rw [Nat.pow_zero,Nat.mod_one]; rfl
 intro i hi
 simp only [go_sem]
 refine ⟨fun hh => ?_,fun hh => ?_⟩
 ·have hi:i<l.length:=by omega
  have hx':=hx.app (G:=[⟨[W 0,W 0,W 0,W 0],0,true⟩,⟨num (be l%256^i),0,true⟩])
  have w1:IntKind.i64.wrap ((l.length:Int) - 1)=((l.length - 1:Nat):Int):=by rw [w64 _ (by omega) (by omega)]; omega
  have w1':IntKind.i64.wrap (((l.length - 1:Nat):Int) - (i:Int))=((l.length - 1 - i:Nat):Int):=by rw [w64 _ (by omega) (by omega)]; omega
  have w2:IntKind.i64.wrap ((i:Int)+1)=((i+1:Nat):Int):=by rw [w64 _ (by omega) (by omega)]; omega
  have w3:IntKind.i64.wrap ((i:Int).tdiv 8)=((i / 8:Nat):Int):=by rw [Int.tdiv_eq_ediv_of_nonneg (by omega),w64 _ (by omega) (by omega)]; omega
  have w4:(i:Int).tmod 8=((i%8:Nat):Int):=by rw [Int.tmod_eq_emod_of_nonneg (by omega)]; omega
  have w5:IntKind.i64.wrap (8*((i%8:Nat):Int))=((8*(i%8):Nat):Int):=by rw [w64 _ (by omega) (by omega)]; omega
  have h4:i / 8<4:=by omega
  have hm:min (8*(i%8)) 64=8*(i%8):=by omega
  have hk:l.length - 1 - i<l.length:=by omega
  simp only [go_sem,hx'.lenT,hx'.n,w1,w1',w2,w3,w4,w5,hx'.idx,hx'.ldOk .i64 hk (Nat.le_refl 1),hx'.ld1 .i64 hk,Fc l _ hk,Zst l i hi,Zb,Uc h4,hm,IntKind.bits]
  have hy:be l / 256^i%256<256:=Nat.mod_lt _ (by decide)
  have h256:(256:Nat)^i=2^(8*(i%8))*(18446744073709551616:Nat)^(i / 8):=by
   have e1:(18446744073709551616:Nat)^(i / 8)=256^(8*(i / 8)):=by rw [Nat.pow_mul]
   have e3:(2:Nat)^(8*(i%8))=256^(i%8):=by rw [Nat.pow_mul]
   rw [e1,e3,← Nat.pow_add,Nat.mod_add_div]
  have hn:be l%256^i / (18446744073709551616:Nat)^(i / 8)<2^(8*(i%8)):=by
   rw [Nat.div_lt_iff_lt_mul (bpos _),← h256]; exact Nat.mod_lt _ (Nat.pow_pos (by decide))
  have hp2:(2:Nat)^(8*(i%8))≤2^56:=Nat.pow_le_pow_right (by decide) (by omega)
  have hn2:be l%256^i / (18446744073709551616:Nat)^(i / 8)%(18446744073709551616:Nat)=be l%256^i / (18446744073709551616:Nat)^(i / 8):=Nat.mod_eq_of_lt (by omega)
  have hnext:be l%256^(i+1)=be l%256^i+(be l / 256^i%256*2^(8*(i%8)))*(18446744073709551616:Nat)^(i / 8):=by
   rw [Nat.pow_succ,Nat.mod_mul,h256,Nat.mul_assoc,Nat.mul_comm (be l / _%256),Nat.mul_assoc,Nat.mul_comm ((18446744073709551616:Nat)^_)]
  have hset:=@Zje 4 (be l%256^i) (i / 8) (be l / 256^i%256*2^(8*(i%8))) h4
  generalize hY:be l / 256^i%256=y at *
  generalize hN:be l%256^i=n at *
  have hyk:y*2^(8*(i%8))≤255*2^(8*(i%8)):=Nat.mul_le_mul_right _ (by omega)
  have w6:IntKind.u64.wrap ((y:Int)*2^(8*(i%8)))=((y*2^(8*(i%8)):Nat):Int):=by
   rw [← wu (y*2^(8*(i%8))) (by omega)]; congr 1
  have hs:=hset (by rw [hn2]; omega)
  rw [hn2] at hs ⊢
  rw [wu y (by omega),w6,Zub hn (by omega),hs,← hnext]
  exact ⟨by decide,by omega,by omega,by omega,by decide,by omega,by omega,by omega,i+1,rfl,rfl,by omega,by omega⟩
 ·obtain rfl:i=l.length:=by omega
  have e1:(num (be l%256^l.length)).take 4=num (be l):=by rw [Nat.mod_eq_of_lt (F5 l)]; exact List.take_of_length_le (by rw [Zb]; exact Nat.le_refl _)
  have e3:splice [W 0,W 0,W 0,W 0] 0 (num (be l))=num (be l):=Zu (Zb _ _)
  have e4:(num (be l)).take 4=num (be l):=List.take_of_length_le (by rw [Zb]; exact Nat.le_refl _)
  simp only [go_sem,e1,e3,e4,Zb,Zg,List.length_replicate]
  exact Zc rfl
end Go.Proofs.YtcgjlpdkobmpnaaGreat.Eng

