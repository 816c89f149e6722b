/- Several rows that grow, behind two objects of which the second holds them. -/
import Derived.Test.YtcgjlpdkobmpnaaGreatMCs
import Derived.Test.YtcgjlpdkobmpnaaGreatMFx
namespace Go.Proofs.YtcgjlpdkobmpnaaGreat.Eng
open Go Go.Proofs
set_option linter.unusedVariables false
set_option linter.unusedSimpArgs false
theorem Fr.midN (H:AH) (A B B':AObj) (K L:AH):Fr (H++A::B::K) (H++A::B'::(K++L)) (fun i => i=H.length+1):=by
 refine ⟨by simp,fun i hi hs => ?_⟩
 rcases Nat.lt_or_ge i H.length with h | h
 ·rw [Yf _ _ h,Yf _ _ h]
 ·obtain ⟨k,rfl⟩:∃ k,i=H.length+k:=⟨i - H.length,by omega⟩
  rw [Yu,Yu]
  match k with
  | 0 => rfl
  | 1 => exact absurd rfl hs
  | k+2 =>
   simp only [List.length_append,List.length_cons] at hi
   show obj (K++L) k=obj K k
   exact Yf _ _ (by omega)
def Lo (H:AH) (x:AV):Prop:=∀ q,rid x=some q→H.length+2≤q
section
variable {sz n b:Nat} {H G T:AH} {A V V':AObj} {x s:AV} {vs ws:List AV}
theorem GRs.mid (h:GRs sz (H++A::V::G) x vs n) (hq:Lo H x) (L:AH):GRs sz (H++A::V'::(G++L)) x vs n :=
 h.frame (Fr.midN H A V V' G L) fun q h1 h2 => by have:=hq q h1; omega
theorem GRs.mid0 (h:GRs sz (H++A::V::G) x vs n) (hq:Lo H x):GRs sz (H++A::V'::G) x vs n:=by
 have:=h.mid (V':=V') hq []
 rwa [List.append_nil] at this
theorem C1 (h:GRs sz (H++A::V::G) x vs n) (hq:Lo H x) (h1:Wz sz (H++A::V'::(G++T)) s) (h2:srcC sz (H++A::V'::(G++T)) s=ws) (h3:srcN s=1) (h4:ws.length=sz) (hv:ws.all AV.one=true) (hb:(n+1)*b≤140737488355328) :
  Rs sz b (H++A::V'::(G++T)) x s∧∃ G1,appH sz (H++A::V'::(G++T)) s x=H++A::V'::G1∧(∀ i,i<T.length→obj G1 (G.length+i)=obj T i)∧G.length+T.length≤G1.length ∧
   (∀ V'',GRs sz (H++A::V''::G1) (appV sz (H++A::V'::(G++T)) s x) (vs++ws) (n+1))∧Lo H (appV sz (H++A::V'::(G++T)) s x) ∧
   (∀ (sz' m:Nat) (y:AV) (us:List AV),GRs sz' (H++A::V::G) y us m→Lo H y→(∀ q,rid y=some q→rid x≠some q)→(∀ V'',GRs sz' (H++A::V''::G1) y us m)∧∀ q,rid y=some q→rid (appV sz (H++A::V'::(G++T)) s x)≠some q):=by
 have h':GRs sz (H++A::V'::(G++T)) x vs n:=h.mid hq T
 have hlt:∀ q,rid x=some q→q<H.length+2+G.length:=fun q h1 => by
  have:=h.lt h1; simp only [List.length_append,List.length_cons] at this; omega
 obtain ⟨a1,a2,a3,a4⟩:=h'.app (b:=b) h1 h2 h3 h4 hv hb
 have hq':Lo H (appV sz (H++A::V'::(G++T)) s x):=fun q h1 => by
  rcases a3 q h1 with h2 | h2
  ·exact hq q h2
  ·simp only [List.length_append,List.length_cons] at h2; omega
 have f1:Fr (H++[A,V']) (appH sz (H++A::V'::(G++T)) s x) (fun _ => False):=by
  have f0:Fr (H++[A,V']) (H++A::V'::(G++T)) (fun _ => False):=by
   have:=Fr.app (H++[A,V']) (G++T) (fun _ => False)
   rw [List.append_assoc] at this; exact this
  refine (Fr.trans (f0.mono fun _ _ h => h.elim) a4).mono fun i hi h => ?_
  have:=hq i h
  simp only [List.length_append,List.length_cons,List.length_nil] at hi
  omega
 obtain ⟨G1,e⟩:=f1.split fun _ h => h
 rw [List.append_assoc] at e
 have e:appH sz (H++A::V'::(G++T)) s x=H++A::V'::G1:=e
 refine ⟨a1,G1,e,fun i hi => ?_,?_,fun V'' => ?_,hq',fun sz' m y us hy hqy hne => ⟨fun V'' => ?_,fun q h1 h2 => ?_⟩⟩
 ·have g:=a4.2 (H.length+(G.length+i+2)) (by simp; omega) (fun h => by have:=hlt _ h; omega)
  rw [e,Yu,Yu] at g
  have g:obj G1 (G.length+i)=obj (G++T) (G.length+i):=g
  rw [g,Yu]
 ·have g:=a4.1
  rw [e] at g
  simp only [List.length_append,List.length_cons] at g
  omega
 ·rw [e] at a2
  exact a2.mid0 hq'
 ·have hy':GRs sz' (H++A::V'::(G++T)) y us m:=hy.mid hqy T
  have hy2:=hy'.frame a4 fun q h1 h2 => hne q h1 h2
  rw [e] at hy2
  exact hy2.mid0 hqy
 ·rcases a3 q h2 with h3 | h3
  ·exact hne q h1 h3
  ·have:=hy.lt h1
   simp only [List.length_append,List.length_cons] at this h3
   omega
end
def AllR {α:Type} (P:AV→α→Prop):List AV→List α→Prop
 | [],[] => True
 | y::xs,l::ls => P y l∧AllR P xs ls
 | _,_ => False
theorem AllR.mono {α:Type} {P Q:AV→α→Prop} (h:∀ y l,P y l→Q y l):∀ {xs:List AV} {ls:List α},AllR P xs ls→AllR Q xs ls
 | [],[],_ => trivial
 | y::xs,l::ls,ha => ⟨h y l ha.1,AllR.mono h ha.2⟩
 | [],_::_,ha => ha.elim
 | _::_,[],ha => ha.elim
theorem AllR.snoc {α:Type} {P:AV→α→Prop} {y:AV} {l:α}:∀ {xs:List AV} {ls:List α},AllR P xs ls→P y l→AllR P (xs++[y]) (ls++[l])
 | [],[],_,h => ⟨h,trivial⟩
 | a::xs,b::ls,ha,h => ⟨ha.1,AllR.snoc ha.2 h⟩
 | [],_::_,ha,h => ha.elim
 | _::_,[],ha,h => ha.elim
theorem AllR.len {α:Type} {P:AV→α→Prop}:∀ {xs:List AV} {ls:List α},AllR P xs ls→xs.length=ls.length
 | [],[],_ => rfl
 | a::xs,b::ls,ha => by rw [List.length_cons,List.length_cons,AllR.len ha.2]
 | [],_::_,ha => ha.elim
 | _::_,[],ha => ha.elim
theorem AllR.low {α:Type} {P:AV→α→Prop} {ren:Nat→Option Nat} {K:AH} {f:α→AV} (h:∀ y l,P y l→Eng.low ren K y=f l):∀ {xs:List AV} {ls:List α},AllR P xs ls→lowL ren K xs=ls.map f
 | [],[],_ => rfl
 | a::xs,b::ls,ha => by rw [lowL,h a b ha.1,AllR.low h ha.2]; rfl
 | [],_::_,ha => ha.elim
 | _::_,[],ha => ha.elim
theorem AllR.one {α:Type} {P:AV→α→Prop} (h:∀ y l,P y l→y.one=true):∀ {xs:List AV} {ls:List α},AllR P xs ls→xs.all AV.one=true
 | [],[],_ => rfl
 | a::xs,b::ls,ha => by rw [List.all_cons,h a b ha.1,AllR.one h ha.2]; rfl
 | [],_::_,ha => ha.elim
 | _::_,[],ha => ha.elim
theorem AllR.mem {α:Type} {P:AV→α→Prop} {Z:List α}:∀ {xs:List AV} {ls:List α},AllR P xs ls→(∀ l ∈ ls,l ∈ Z)→AllR (fun y l => P y l∧l ∈ Z) xs ls
 | [],[],_,_ => trivial
 | a::xs,b::ls,ha,h => ⟨⟨ha.1,h b (by simp)⟩,AllR.mem ha.2 fun l hl => h l (by simp [hl])⟩
 | [],_::_,ha,_ => ha.elim
 | _::_,[],ha,_ => ha.elim
set_option maxRecDepth 10000
structure LK (H:AH) (A:AObj) (G:AH) (x1 x2 x3:AV) (M:List Rec) (X:List Sgt) (xs:List AV) (Ls:List (List Rec)):Prop where
 g1:∀ V,GRs 41 (H++A::V::G) x1 (rls M) M.length
 g2:∀ V,GRs 46 (H++A::V::G) x2 (scs X) X.length
 g3:∀ V,GRs 1 (H++A::V::G) x3 xs xs.length
 ar:AllR (fun y L => (∀ V,GRs 41 (H++A::V::G) y (rls L) L.length)∧(L.length=0→y=nilS)∧Lo H y∧∀ q,rid y=some q→rid x1≠some q∧rid x2≠some q∧rid x3≠some q) xs Ls
 n1:M.length=0→x1=nilS
 n2:X.length=0→x2=nilS
 n3:xs.length=0→x3=nilS
 o1:Lo H x1
 o2:Lo H x2
 o3:Lo H x3
 d12:∀ q,rid x1=some q→rid x2≠some q
 d13:∀ q,rid x1=some q→rid x3≠some q
 d23:∀ q,rid x2=some q→rid x3≠some q
theorem Ad (H:AH):Lo H nilS:=fun q h => by cases h
theorem LK.nil (H:AH) (A:AObj) (G:AH):LK H A G nilS nilS nilS [] [] [] [] :=
 ⟨fun _ => .inl ⟨rfl,rfl,rfl⟩,fun _ => .inl ⟨rfl,rfl,rfl⟩,fun _ => .inl ⟨rfl,rfl,rfl⟩,trivial,fun _ => rfl,fun _ => rfl,fun _ => rfl,Ad H,Ad H,Ad H,fun q h => (by cases h),fun q h => (by cases h),fun q h => (by cases h)⟩
section
variable {H G T:AH} {A V':AObj} {x1 x2 x3 s:AV} {M:List Rec} {X:List Sgt} {xs:List AV} {Ls:List (List Rec)} {b:Nat}
theorem LK.more (h:LK H A G x1 x2 x3 M X xs Ls) (T:AH):LK H A (G++T) x1 x2 x3 M X xs Ls :=
 ⟨fun V => (h.g1 V).mid h.o1 T,fun V => (h.g2 V).mid h.o2 T,fun V => (h.g3 V).mid h.o3 T,h.ar.mono fun y L hy => ⟨fun V => (hy.1 V).mid hy.2.2.1 T,hy.2⟩,h.n1,h.n2,h.n3,h.o1,h.o2,h.o3,h.d12,h.d13,h.d23⟩
theorem Oq {x y:AV} (h:∀ q,rid x=some q→rid y≠some q):∀ q,rid y=some q→rid x≠some q:=fun q h1 h2 => h q h2 h1
theorem LK.app1 (h:LK H A G x1 x2 x3 M X xs Ls) {r:Rec} (hr:r.ok) (hb:(M.length+1)*b≤140737488355328) :
  Rs 41 b (H++A::V'::(G++T)) x1 (.view r.cells 1 true)∧∃ G1,appH 41 (H++A::V'::(G++T)) (.view r.cells 1 true) x1=H++A::V'::G1∧(∀ i,i<T.length→obj G1 (G.length+i)=obj T i)∧G.length+T.length≤G1.length ∧
   LK H A G1 (appV 41 (H++A::V'::(G++T)) (.view r.cells 1 true) x1) x2 x3 (M++[r]) X xs Ls:=by
 obtain ⟨a1,G1,e,t1,t2,g,lo,oth⟩:=C1 (V:=V') (V':=V') (T:=T) (s:=.view r.cells 1 true) (ws:=r.cells) (b:=b) (h.g1 V') h.o1 (by show r.cells.length=1*41; rw [Xn hr]) rfl rfl (Xn hr) (Ir hr) hb
 have p2:=oth 46 X.length x2 (scs X) (h.g2 V') h.o2 (Oq h.d12)
 have p3:=oth 1 xs.length x3 xs (h.g3 V') h.o3 (Oq h.d13)
 refine ⟨a1,G1,e,t1,t2,fun V => ?_,p2.1,p3.1,h.ar.mono fun y L hy => ?_,fun h0 => ?_,h.n2,h.n3,lo,h.o2,h.o3,Oq p2.2,Oq p3.2,h.d23⟩
 ·have:=g V
  rw [show rls (M++[r])=rls M++r.cells from by simp [rls],List.length_append]
  exact this
 ·have p:=oth 41 L.length y (rls L) (hy.1 V') hy.2.2.1 fun q hq => (hy.2.2.2 q hq).1
  exact ⟨p.1,hy.2.1,hy.2.2.1,fun q hq => ⟨p.2 q hq,(hy.2.2.2 q hq).2⟩⟩
 ·rw [List.length_append] at h0; simp at h0
theorem LK.app2 (h:LK H A G x1 x2 x3 M X xs Ls) {t:Sgt} (ht:t.ok) (hb:(X.length+1)*b≤140737488355328) :
  Rs 46 b (H++A::V'::(G++T)) x2 (.view t.cells 1 true)∧∃ G1,appH 46 (H++A::V'::(G++T)) (.view t.cells 1 true) x2=H++A::V'::G1∧(∀ i,i<T.length→obj G1 (G.length+i)=obj T i)∧G.length+T.length≤G1.length ∧
   LK H A G1 x1 (appV 46 (H++A::V'::(G++T)) (.view t.cells 1 true) x2) x3 M (X++[t]) xs Ls:=by
 obtain ⟨a1,G1,e,t1,t2,g,lo,oth⟩:=C1 (V:=V') (V':=V') (T:=T) (s:=.view t.cells 1 true) (ws:=t.cells) (b:=b) (h.g2 V') h.o2 (by show t.cells.length=1*46; rw [Sj ht]) rfl rfl (Sj ht) (sgf ht).one hb
 have p1:=oth 41 M.length x1 (rls M) (h.g1 V') h.o1 h.d12
 have p3:=oth 1 xs.length x3 xs (h.g3 V') h.o3 (Oq h.d23)
 refine ⟨a1,G1,e,t1,t2,p1.1,fun V => ?_,p3.1,h.ar.mono fun y L hy => ?_,h.n1,fun h0 => ?_,h.n3,h.o1,lo,h.o3,p1.2,h.d13,Oq p3.2⟩
 ·have:=g V
  rw [show scs (X++[t])=scs X++t.cells from by simp [scs],List.length_append]
  exact this
 ·have p:=oth 41 L.length y (rls L) (hy.1 V') hy.2.2.1 fun q hq => (hy.2.2.2 q hq).2.1
  exact ⟨p.1,hy.2.1,hy.2.2.1,fun q hq => ⟨(hy.2.2.2 q hq).1,p.2 q hq,(hy.2.2.2 q hq).2.2⟩⟩
 ·rw [List.length_append] at h0; simp at h0
theorem LK.app3 (h:LK H A G x1 x2 x3 M X xs Ls) (h1:Wz 1 (H++A::V'::(G++T)) s) (h2:srcC 1 (H++A::V'::(G++T)) s=[x1]) (h3:srcN s=1) (hb:(xs.length+1)*b≤140737488355328) :
  Rs 1 b (H++A::V'::(G++T)) x3 s∧∃ G1,appH 1 (H++A::V'::(G++T)) s x3=H++A::V'::G1∧LK H A G1 nilS x2 (appV 1 (H++A::V'::(G++T)) s x3) [] X (xs++[x1]) (Ls++[M]):=by
 have hone:x1.one=true:=(h.g1 V').sl.one
 obtain ⟨a1,G1,e,t1,t2,g,lo,oth⟩:=C1 (V:=V') (V':=V') (T:=T) (s:=s) (ws:=[x1]) (b:=b) (h.g3 V') h.o3 h1 h2 h3 rfl (by simp [hone]) hb
 have p1:=oth 41 M.length x1 (rls M) (h.g1 V') h.o1 h.d13
 have p2:=oth 46 X.length x2 (scs X) (h.g2 V') h.o2 h.d23
 refine ⟨a1,G1,e,fun V => .inl ⟨rfl,rfl,rfl⟩,p2.1,fun V => ?_,AllR.snoc (h.ar.mono fun y L hy => ?_) ⟨p1.1,h.n1,h.o1,fun q hq => ⟨fun h => (by cases h),h.d12 q hq,p1.2 q hq⟩⟩,fun _ => rfl,h.n2,fun h0 => ?_,Ad H,h.o2,lo,fun q h => (by cases h),fun q h => (by cases h),p2.2⟩
 ·have:=g V
  rw [List.length_append]
  exact this
 ·have p:=oth 41 L.length y (rls L) (hy.1 V') hy.2.2.1 fun q hq => (hy.2.2.2 q hq).2.2
  exact ⟨p.1,hy.2.1,hy.2.2.1,fun q hq => ⟨fun h => (by cases h),(hy.2.2.2 q hq).2.1,p.2 q hq⟩⟩
 ·rw [List.length_append] at h0; simp at h0
def lvs (Ls:List (List Rec)):List AV:=Ls.map fun L => rowN (rls L) L.length
theorem Zj5 {cs:List AV} {n:Nat} (h:Ye cs=true):(rowN cs n).pure=true:=by
 unfold rowN; split
 ·rfl
 ·exact h
theorem Rec.pur {r:Rec} (h:r.vok):Ye r.cells=true:=by
 rw [Rec.cells]
 refine Vl fun a ha => ?_
 rcases List.mem_append.1 ha with ha | ha
 ·simp only [Rec.nums,List.mem_cons,List.not_mem_nil,or_false] at ha
  rcases ha with rfl | rfl | rfl | rfl | rfl | rfl | rfl | rfl <;> rfl
 ·rcases List.mem_append.1 ha with ha | ha
  ·exact pureL_mem.1 (Wi r.prev) a ha
  ·rw [List.mem_singleton.1 ha]
   rcases h.2 with e | ⟨f,e⟩
   ·rw [e]; rfl
   ·rw [e]; exact Wi _
theorem Zej {L:List Rec} (h:∀ r ∈ L,r.vok):Ye (rls L)=true:=Vl fun a ha => by
 obtain ⟨r,hr,ha⟩:=List.mem_flatMap.1 ha
 exact pureL_mem.1 (Rec.pur (h r hr)) a ha
theorem Zeh {X:List Sgt} (h:∀ s ∈ X,s.ok):Ye (scs X)=true:=Vl fun a ha => by
 obtain ⟨s,hs,ha⟩:=List.mem_flatMap.1 ha
 rcases List.mem_append.1 ha with ha | ha
 ·exact pureL_mem.1 (Rec.pur (h s hs).1) a ha
 ·simp only [List.mem_cons,List.not_mem_nil,or_false] at ha
  rcases ha with rfl | rfl | rfl | rfl | rfl <;> rfl
theorem Zql {Ls:List (List Rec)} (h:∀ L ∈ Ls,∀ r ∈ L,r.vok):Ye (lvs Ls)=true:=Vl fun a ha => by
 obtain ⟨L,hL,rfl⟩:=List.mem_map.1 ha
 exact Zj5 (Zej (h L hL))
theorem Zhd {fc:List AV} (hfc:∀ ren K,lowL ren K fc=fc) (h:LK H A G nilS x2 x3 [] X xs Ls) (hX:∀ s ∈ X,s.ok) (hL:∀ L ∈ Ls,∀ r ∈ L,r.vok) (hm0:Ls=[]→X=[]) :
  Leave H (.ptr (H.length+1) 0) (H++A::⟨fc++[x3,x2],0,true⟩::G) (.ptr H.length 0) (H++[⟨fc++[rowN (lvs Ls) Ls.length,rowN (scs X) X.length],0,true⟩]):=by
 have hl:=h.ar.len
 have lo':∀ {x:AV},Lo H x→∀ q,rid x=some q→H.length≤q:=fun h q hq => by have:=h q hq; omega
 have ne1:∀ {x:AV},Lo H x→rid x≠some (H.length+1):=fun h hq => by have:=h _ hq; omega
 have h3:=(h.g3 ⟨fc++[x3,x2],0,true⟩).nrow (lo:=H.length) h.n3 (lo' h.o3)
 have h2:=(h.g2 ⟨fc++[x3,x2],0,true⟩).nrow (lo:=H.length) h.n2 (lo' h.o2)
 rw [← hl]
 refine Zhc (k0:=1) (G:=A::⟨fc++[x3,x2],0,true⟩::G) rfl (by simp) hfc (sz:=46) (by decide) (Zql hL) (Zeh hX) h3 h2 (Oq h.d23) (ne1 h.o3) (ne1 h.o2) (fun h0 => ?_) fun ren hr => ?_
 ·have:Ls=[]:=List.eq_nil_of_length_eq_zero (by omega)
  exact h.n2 (by rw [hm0 this]; rfl)
 ·refine (AllR.mem h.ar fun l hl => hl).low (f:=fun L => rowN (rls L) L.length) ?_
  rintro y L ⟨⟨h1,h2,h3,h4⟩,h5⟩
  have hn:=(h1 ⟨fc++[x3,x2],0,true⟩).nrow (lo:=H.length) h2 (lo' h3)
  rcases hn with ⟨rfl,e1,e2⟩ | ⟨q,Lq,cs,rfl,g1,g2,g3,g4,g5,g6,g7,g8⟩
  ·rw [e2]; rfl
  ·have hq:=hr q g1 (fun e => ne1 h3 (by rw [← e]; rfl)) (h4 q rfl).2.2 (h4 q rfl).2.1
   rw [Df hq g3 (by decide) g4 g6 g8 (Zej (hL L h5)),rowN,if_neg (by omega)]
end
set_option maxRecDepth 10000
section
variable {H:AH} {dv kv rv pv sv cv ch en:AV} {pen:Int} {D K:List Key} {R:List Rvk} {P:List Prd} {S:List Sv} {N:List Cn} {C:List Chx} {E:List Ent}
theorem Nl:∀ l:List Bt,(opens l).length≤l.length
 | [] => Nat.le_refl _
 | y::r => by
  rw [opens]
  split
  ·exact Nat.zero_le _
  ·have:=Nl r
   rw [List.length_cons,List.length_cons]; omega
theorem Ztw {r:Rec} (h:recB r=true):r.b.length≤500:=by
 simp only [recB,Bool.and_eq_true] at h
 have:=h.1.1.1.1.2
 split at this
 ·simp only [Bool.and_eq_true,decide_eq_true_eq] at this; omega
 ·simp only [Bool.and_eq_true,decide_eq_true_eq] at this; omega
theorem Rl:∀ {l:List Bt},(∀ y ∈ l,y.ok)→∀ r ∈ opens l,Dm r
 | [],h,r,hr => by cases hr
 | y::l,h,r,hr => by
  rw [opens] at hr
  cases ho:Xw y.b with
  | none => rw [ho] at hr; cases hr
  | some p =>
   obtain ⟨x,d,s,t⟩:=p
   rw [ho] at hr
   have hy:=h y (by simp)
   rcases List.mem_cons.1 hr with rfl | hr
   ·exact ⟨Us ho hy.1,Fy ho,by have:=Ztw (U1 ho hy.1).2.1; omega⟩
   ·exact Rl (fun z hz => h z (by simp [hz])) r hr
theorem Jt (K:List Key):∀ l:List Rec,(sees K l).length≤l.length
 | [] => Nat.le_refl _
 | r::l => by
  have:=Jt K l
  show (see1 K r++sees K l).length≤_
  rw [List.length_append,List.length_cons,see1]
  split
  ·rw [List.length_singleton]; omega
  ·rw [List.length_nil]; omega
theorem Zjw {l:List Rec} (h:∀ r ∈ l,Dm r):∀ s ∈ sees K l,s.ok:=fun s hs => by
 obtain ⟨r,hr,hs⟩:=List.mem_flatMap.1 hs
 rw [see1] at hs
 split at hs
 ·rw [List.mem_singleton.1 hs]
  have:=Qg (h r hr).2.1
  exact ⟨(h r hr).1,this.1,this.2.1⟩
 ·cases hs
noncomputable def Zg5 (dv kv rv pv sv cv:AV) (pen:Int) (ch en:AV) (K:List Key) (C:List Chx):AObj:=⟨fct dv kv rv pv sv cv pen ch en++[rowN (lvs (Wn C)) C.length,rowN (scs (viewS K C)) (viewS K C).length],0,true⟩
theorem Zpl {r:Rec} (hr:r.ok):(splice noSg.cells 0 r.cells).take 41=r.cells∧(splice noSg.cells 0 r.cells).drop 46=[]:=by
 have e:splice noSg.cells 0 r.cells=r.cells++noSg.cells.drop 41:=by
  rw [Xe _ _ _ (by rw [Xn hr,Sj Lp]; decide),Xn hr]; simp
 rw [e]
 refine ⟨List.take_left' (Xn hr),List.drop_of_length_le ?_⟩
 rw [List.length_append,Xn hr,List.length_drop,Sj Lp]; decide
theorem k_77 {A:AObj} {G:AH} {x1 x2 x3 f19 f20 f21:AV} {M:List Rec} {X:List Sgt} {xs:List AV} {Ls:List (List Rec)} {L:List (Nat × AV)} {Q:Ex→Env→AH→Prop} (h:LK H A G x1 x2 x3 M X xs Ls) (hn:xs.length≤100000)
  (l1:look L 1=.ptr H.length 0) (l3:look L 3=.ptr (H.length+1) 0) (l6:look L 6=x1) (l19:look L 19=f19) (l20:look L 20=f20) (l21:look L 21=f21)
  (hQ:∀ (x3':AV) (G':AH),LK H A G' nilS x2 x3' [] X (xs++[x1]) (Ls++[M])→Q .normal (look [(1,.ptr H.length 0),(3,.ptr (H.length+1) 0),(19,f19),(20,f20),(21,f21)]) (H++(A::⟨[dv,kv,rv,pv,sv,cv,I pen,ch,en,x3',x2],0,true⟩::G'))) :
  iwp (pfx false) (Called Tryz.prog) Ud Q (look L) (H++(A::⟨[dv,kv,rv,pv,sv,cv,I pen,ch,en,x3,x2],0,true⟩::G)):=by
 have r1:x1.one=true∧x1.cells=[x1]∧x1.un=x1∧∀ g,Yj g x1=True:=⟨(h.g1 A).sl.one,(h.g1 A).sl.cells,(h.g1 A).sl.un,(h.g1 A).sl.may⟩
 have r3:x3.one=true∧x3.cells=[x3]∧x3.un=x3∧∀ g,Yj g x3=True:=⟨(h.g3 A).sl.one,(h.g3 A).sl.cells,(h.g3 A).sl.un,(h.g3 A).sl.may⟩
 have st:=h.app3 (V':=⟨[dv,kv,rv,pv,sv,cv,I pen,ch,en,x3,x2],0,true⟩) (T:=[⟨[x1],1,true⟩]) (s:=.row (H.length+(G.length+1+1)) 0 1 1) (b:=24) (by
  refine ⟨by simp,?_,by simp⟩
  rw [show H.length+(G.length+1+1)=H.length+(G.length+2) from rfl,Yu]
  show 1=(obj (G++[_]) G.length).cs.length
  rw [Ym]; rfl) (by
  show ((obj _ _).cs.drop 0).take (1*1)=[x1]
  rw [show H.length+(G.length+1+1)=H.length+(G.length+2) from rfl,Yu]
  show ((obj (G++[_]) G.length).cs.drop 0).take (1*1)=[x1]
  rw [Ym]; rfl) rfl (by omega)
 obtain ⟨a1,G1,e,hk⟩:=st
 have g3:=(hk.g3 A).sl
 simp only [Ud,go_sem,l1,l3,l6,l19,l20,l21,r1,r3,Zr,fillv]
 rw [e]
 generalize appV 1 (H++A::⟨[dv,kv,rv,pv,sv,cv,I pen,ch,en,x3,x2],0,true⟩::(G++[⟨[x1],1,true⟩])) (.row (H.length+(G.length+1+1)) 0 1 1) x3=x3' at *
 simp only [g3.cells,g3.one,go_sem]
 exact ⟨by omega,⟨a1.2.2.1,a1.2.2.2⟩,by omega,hQ x3' G1 hk⟩
set_option maxHeartbeats 2000000 in
theorem Zte (h:RH dv kv rv pv sv cv D K R P S N) (hx:∀ G,Sl 2 G ch (chcs (nx C)) C.length) (hC:∀ c ∈ C,c.ok) (hn:C.length≤1000) (hev:Vw en) :
  Called Tryz.prog F.cases_look [.agg (fct dv kv rv pv sv cv pen ch en)] H (.ptr H.length 0) (H++[Zg5 dv kv rv pv sv cv pen ch en K C]):=by
 have hcv:Vw ch:=Y4 hx
 have hv:=h.fv hcv hev
 have e8:[Z0,Z0,Z0,Z0,Z0,Z0,Z0,Z0]=sgc 0 0:=rfl
 have no1:=Zp Zt
 have nospl:=Xj Zt Zt
 refine Zag ?_
 simp only [fct]
 simp only [Mi,V8,Zjs,Og]
 simp only [go_sem,hv.dv.s,hv.kv.s,hv.rv.s,hv.pv.s,hv.sv.s,hv.cv.s,hv.ch.s,hv.en.s,(hx []).lenT,(hx []).n,Zr,fillv]
 refine Z1 _ (fun (s:Nat × AV × AV × List AV × AH) => ([(1,.ptr H.length 0),(3,.ptr (H.length+1) 0),(19,ch),(20,I C.length),(21,I s.1)],
  H++(⟨[dv,kv,rv,pv,sv,cv,I pen,ch,en],0,true⟩::⟨[dv,kv,rv,pv,sv,cv,I pen,ch,en,s.2.1,s.2.2.1],0,true⟩::s.2.2.2.2)))
  (fun s => s.1≤C.length∧LK H ⟨[dv,kv,rv,pv,sv,cv,I pen,ch,en],0,true⟩ s.2.2.2.2 nilS s.2.2.1 s.2.1 [] (viewS K (C.take s.1)) s.2.2.2.1 (Wn (C.take s.1))∧(viewS K (C.take s.1)).length≤s.1*1000) (fun s => C.length - s.1) (0,nilS,nilS,[],[]) ⟨Nat.zero_le _,LK.nil _ _ _,Nat.zero_le _⟩ rfl ?_
 rintro ⟨i,x3,x2,xs,G⟩ ⟨hi,hk,hkn⟩
 dsimp only at hi hk hkn
 generalize hA:(⟨[dv,kv,rv,pv,sv,cv,I pen,ch,en],0,true⟩:AObj)=A at *
 have oA:A.cs=[dv,kv,rv,pv,sv,cv,I pen,ch,en]∧A.sz=0∧A.rw=true:=by rw [← hA]; exact ⟨rfl,rfl,rfl⟩
 simp only [go_sem]
 refine ⟨fun hh => ?_,fun hh => ?_⟩
 ·have hlt:i<C.length:=by omega
  have hco:=hC _ (Zl noX hlt)
  have ld:∀ K,Yc true 2 K (Z5 2 (I (i:Int)) ch)=.agg [I (C.getD i noX).dev,(C.getD i noX).s]:=fun K => by
   have hel:elt (chcs (nx C)) 2 i=(C.getD i noX).n.cells:=by
    rw [show chcs (nx C)=C.flatMap (fun c => c.n.cells) from by rw [chcs,List.flatMap_map]]
    exact Xg (fun c:Chx => c.n.cells) 2 (fun _ => rfl) C i noX hlt
   rw [(hx K).ldA .i64 hlt (by decide),hel]; rfl
  have lk:∀ K,Z6 2 K (Z5 2 (I (i:Int)) ch)=True:=fun K => (hx K).ldOk .i64 hlt (Nat.le_refl _)
  have tk:C.take (i+1)=C.take i++[C.getD i noX]:=Wd hlt noX
  have eL:Wn (C.take (i+1))=Wn (C.take i)++[opens (C.getD i noX).l]:=by rw [tk,Wn,List.map_append]; rfl
  have eS:viewS K (C.take (i+1))=viewS K (C.take i)++sees K (opens (C.getD i noX).l):=by rw [viewS,eL,List.flatMap_append]; simp [viewS]
  generalize C.getD i noX=c at *
  have csv:=Y4 hco.1
  have w1:IntKind.i64.wrap ((i:Int)+1)=((i+1:Nat):Int):=by rw [w64 _ (by omega) (by omega)]; omega
  have hcn:=hco.2.2
  have hok:=Rl fun y hy => (hco.2.1 y hy).1
  have hxn:xs.length≤1000:=by
   rw [hk.ar.len,Wn,List.length_map,List.length_take]; omega
  generalize viewS K (C.take i)=X0 at *
  generalize Wn (C.take i)=Ls at *
  simp only [go_sem,(hx []).idx,ld,lk,csv.s,hv.ch.s,(hco.1 []).lenT,(hco.1 []).n]
  refine ⟨⟨by omega,by omega⟩,?_⟩
  refine Z1 _ (fun (s:Nat × List Rec × AV × AV × AH) => ([(1,.ptr H.length 0),(3,.ptr (H.length+1) 0),(6,s.2.2.1),(19,ch),(20,I C.length),(21,I i),(26,c.s),(27,I c.l.length),(28,I s.1)],
   H++(A::⟨[dv,kv,rv,pv,sv,cv,I pen,ch,en,x3,s.2.2.2.1],0,true⟩::s.2.2.2.2)))
   (fun s => s.1≤c.l.length∧opens c.l=s.2.1++opens (c.l.drop s.1)∧s.2.1.length≤s.1∧LK H A s.2.2.2.2 s.2.2.1 s.2.2.2.1 x3 s.2.1 (X0++sees K s.2.1) xs Ls) (fun s => c.l.length - s.1) (0,[],nilS,x2,_) ⟨Nat.zero_le _,rfl,Nat.le_refl _,by rw [show sees K []=[] from rfl,List.append_nil]; exact hk.more [⟨[I c.dev,c.s],0,true⟩]⟩ rfl ?_
  clear hk x2 G
  rintro ⟨k,M,x1,x2,G⟩ ⟨hkl,ho,hMk,hk⟩
  dsimp only at hkl ho hMk hk
  have r1:x1.one=true∧x1.cells=[x1]∧x1.un=x1∧∀ g,Yj g x1=True:=⟨(hk.g1 A).sl.one,(hk.g1 A).sl.cells,(hk.g1 A).sl.un,(hk.g1 A).sl.may⟩
  have sl1000:∀ l:List Rec,l=opens c.l→(X0++sees K l).length≤(i+1)*1000:=fun l hl => by
   have h1:=Jt K l
   have h2:=Nl c.l
   rw [← hl] at h2
   rw [List.length_append]; omega
  simp only [go_sem]
  refine ⟨fun hh2 => ?_,fun hh2 => ?_⟩
  ·have hkt:k<c.l.length:=by omega
   have hyo:=hco.2.1 _ (Zl noB hkt)
   have ld2:∀ K,Yc false 1 K (Z5 1 (I (k:Int)) c.s)=(c.l.getD k noB).e:=fun K => by
    rw [(hco.1 K).ld1 .i64 hkt,List.getD_eq_getElem?_getD,List.getElem?_map,List.getD_eq_getElem?_getD,List.getElem?_eq_getElem hkt]; rfl
   have lk2:∀ K,Z6 1 K (Z5 1 (I (k:Int)) c.s)=True:=fun K => (hco.1 K).ldOk .i64 hkt (Nat.le_refl _)
   have dn:c.l.drop k=c.l.getD k noB::c.l.drop (k+1):=Xr hkt noB
   rw [dn] at ho
   generalize c.l.getD k noB=y at *
   obtain ⟨⟨hyn,hys⟩,hyp,hy1⟩:=hyo
   have yv:=Y4 hys
   have w2:IntKind.i64.wrap ((k:Int)+1)=((k+1:Nat):Int):=by rw [w64 _ (by omega) (by omega)]; omega
   simp only [go_sem,(hco.1 []).idx,ld2,lk2,yv.s]
   refine ⟨⟨by omega,by omega⟩,Za (Ie (hys _) hyn) (fun _ => rfl) ?_⟩
   rw [opens] at ho
   cases hop:Xw y.b with
   | none =>
    rw [hop] at ho
    have ho:opens c.l=M++[]:=ho
    rw [List.append_nil] at ho
    obtain ⟨n32,b32,t32⟩:=Uh (show zd.length=32 from rfl)
    have s3z:=Vr (show zd.length=32 from rfl) (show zd.length=32 from rfl)
    simp only [Sz,go_sem,Z7,Wu,Xv,no1.1,no1.2.1,no1.2.2.1,nospl,e8,Y1,Yv,Y2,Yd,b32,t32,s3z,Xx]
    refine ⟨by omega,by omega,?_⟩
    have hk2:=hk.more [⟨noRec.cells,0,true⟩,⟨bs zd,0,true⟩,⟨sgc 0 0,0,true⟩]
    refine k_77 hk2 (by omega) rfl rfl rfl rfl rfl rfl fun x3' G' hk3 => ?_
    simp only [go_sem]
    rw [← ho] at hk3
    exact ⟨(i+1,x3',x2,xs++[x1],G'),by rw [w1],rfl,⟨hlt,by rw [eL,eS]; exact hk3,by rw [eS]; exact sl1000 _ rfl⟩,by show C.length - (i+1)<C.length - i; omega⟩
   | some p =>
    obtain ⟨r,d,sa,sb⟩:=p
    rw [hop] at ho
    have ho:opens c.l=M++(r::opens (c.l.drop (k+1))):=ho
    have ho2:opens c.l=(M++[r])++opens (c.l.drop (k+1)):=by rw [ho,List.append_assoc]; rfl
    obtain ⟨hr,hrb,hd,hsa,hsb⟩:=U1 hop hyn
    have hrv:=Us hop hyn
    have hr5:=Ztw hrb
    obtain ⟨nd,bd,td⟩:=Uh hd
    have sd:=Vr (show zd.length=32 from rfl) hd
    have q1:=Zp hr
    have rspl:=Xj Zt hr
    have rsv:=Y4 hr.2.2
    have rm:=Qg hrb
    obtain ⟨a1,G1,e1,t1,t2,hk1⟩:=hk.app1 (V':=⟨[dv,kv,rv,pv,sv,cv,I pen,ch,en,x3,x2],0,true⟩) (T:=[⟨r.cells,0,true⟩,⟨bs d,0,true⟩,⟨sgc sa sb,0,true⟩]) (r:=r) (b:=120) hr (by omega)
    have g1:=(hk1.g1 A).sl
    have o9:obj G1 G.length=⟨r.cells,0,true⟩:=t1 0 (by simp)
    have t2:G.length+3≤G1.length:=t2
    have tkc:=fun G => Zd6 (H:=G) (h.k G) h.kk h.kn (hr.2.2 G) (by omega) r.min_
    have rpu:Ye r.cells=true:=Rec.pur hrv
    simp only [Sz,go_sem,Z7,Wu,Xv,no1.1,no1.2.1,no1.2.2.1,nospl,e8,Y1,Yv,Y2,Yd,q1.1,q1.2.1,q1.2.2.1,rspl,bd,td,sd,Xx,r1,repl,List.flatten_cons,List.flatten_nil,Zr,fillv,rpu]
    rw [e1]
    generalize appV 41 (H++A::⟨[dv,kv,rv,pv,sv,cv,I pen,ch,en,x3,x2],0,true⟩::(G++[⟨r.cells,0,true⟩,⟨bs d,0,true⟩,⟨sgc sa sb,0,true⟩])) (.view r.cells 1 true) x1=x1' at *
    simp only [g1.one,g1.un,g1.may,go_sem,o9,oA,hv.kv.s,rsv.s,q1.1,Dl hr,Qd]
    refine ⟨by omega,⟨by omega,by decide⟩,by omega,⟨a1.2.2.1,a1.2.2.2⟩,by omega,by omega,by omega,Za (tkc _) (fun _ => rfl) ?_⟩
    have hse:sees K (M++[r])=sees K M++see1 K r:=by simp [sees]
    rw [see1] at hse
    rw [show (if Rm K=true then Rn K r.b r.min_ else (noTk,1))=kck K r.b r.min_ from rfl]
    generalize kck K r.b r.min_=qc at *
    obtain ⟨tk,ev⟩:=qc
    dsimp only at hse ⊢
    have oT:obj (G1++[⟨tk.cells,0,true⟩]) G.length=⟨r.cells,0,true⟩:=by rw [Yf _ _ (by omega)]; exact o9
    have hk2:=hk1.more [⟨tk.cells,0,true⟩]
    have hX0:X0.length≤i*1000:=hkn
    have hsM:=Jt K M
    have sok:Sgt.ok ⟨r,tk⟩:=⟨hrv,rm.1,rm.2.1⟩
    have sg:=sgf sok
    have spl:=sg.spl _ Lp
    obtain ⟨b1,G2,e2,u1,u2,hk3⟩:=hk1.app2 (V':=⟨[dv,kv,rv,pv,sv,cv,I pen,ch,en,x3,x2],0,true⟩) (T:=[⟨tk.cells,0,true⟩]) (t:=⟨r,tk⟩) (b:=160) sok (by rw [List.length_append]; omega)
    have g2:=(hk3.g2 A).sl
    have r2:x2.one=true∧x2.cells=[x2]∧x2.un=x2∧∀ g,Yj g x2=True:=⟨(hk.g2 A).sl.one,(hk.g2 A).sl.cells,(hk.g2 A).sl.un,(hk.g2 A).sl.may⟩
    rcases Z2p ev with ⟨rfl,en'⟩ | ⟨hn0,en'⟩
    ·rw [en']
     simp only [go_sem,e5,Zdy,Zdz,Zdx,M7,oT,q1.1,Fw]
     refine ⟨by omega,fun hkd => ?_,fun hkd => ?_⟩
     ·rw [decide_eq_true rfl,hkd,Bool.true_and,if_pos rfl] at hse
      have sb:=Zpl hr
      have es:r.cells++[I tk.serial,I tk.product,I tk.zones,I tk.from_,I tk.key]=(⟨r,tk⟩:Sgt).cells:=rfl
      have spu:Ye (⟨r,tk⟩:Sgt).cells=true:=by
       have:=Zeh (X:=[⟨r,tk⟩]) (fun s hs => by rw [List.mem_singleton.1 hs]; exact sok)
       simpa [scs] using this
      have no46:=sgf Lp
      simp only [q1.2.2.1,Zef,Zpk,sb.1,sb.2,q1.1,q1.2.1,es,spl,sg.len,sg.one,spu,r2]
      rw [e2]
      generalize appV 46 (H++A::⟨[dv,kv,rv,pv,sv,cv,I pen,ch,en,x3,x2],0,true⟩::(G1++[⟨tk.cells,0,true⟩])) (.view (⟨r,tk⟩:Sgt).cells 1 true) x2=x2' at *
      simp only [g2.cells,g2.one,go_sem]
      refine ⟨by omega,by omega,⟨b1.2.2.1,b1.2.2.2⟩,by omega,?_⟩
      rw [List.append_assoc,← hse] at hk3
      exact ⟨(k+1,M++[r],x1',x2',G2),by rw [w2],rfl,⟨hkt,ho2,by rw [List.length_append,List.length_singleton]; omega,hk3⟩,by show c.l.length - (k+1)<c.l.length - k; omega⟩
     ·rw [hkd,Bool.and_false,if_neg (by decide),List.append_nil] at hse
      exact ⟨(k+1,M++[r],x1',x2,_),by rw [w2],rfl,⟨hkt,ho2,by rw [List.length_append,List.length_singleton]; omega,by rw [hse]; exact hk2⟩,by show c.l.length - (k+1)<c.l.length - k; omega⟩
    ·rw [en']
     rw [decide_eq_false hn0,Bool.false_and,if_neg (by decide),List.append_nil] at hse
     simp only [go_sem,e5,Zdy,Zdz,Zdx,M7,oT,q1.1,Fw]
     exact ⟨(k+1,M++[r],x1',x2,_),by rw [w2],rfl,⟨hkt,ho2,by rw [List.length_append,List.length_singleton]; omega,by rw [hse]; exact hk2⟩,by show c.l.length - (k+1)<c.l.length - k; omega⟩
  ·have hk2:k=c.l.length:=by omega
   subst hk2
   rw [List.drop_length,show opens []=[] from rfl,List.append_nil] at ho
   refine k_77 hk (by omega) rfl rfl rfl rfl rfl rfl fun x3' G' hk3 => ?_
   simp only [go_sem]
   rw [← ho] at hk3
   exact ⟨(i+1,x3',x2,xs++[x1],G'),by rw [w1],rfl,⟨hlt,by rw [eL,eS]; exact hk3,by rw [eS]; exact sl1000 _ rfl⟩,by show C.length - (i+1)<C.length - i; omega⟩
 ·have hi2:i=C.length:=by omega
  subst hi2
  rw [List.take_length] at hk hkn
  have hL:∀ L ∈ Wn C,∀ r ∈ L,Dm r:=fun L hL r hr => by
   obtain ⟨c,hc,rfl⟩:=List.mem_map.1 hL
   exact Rl (fun y hy => ((hC c hc).2.1 y hy).1) r hr
  have hS:∀ s ∈ viewS K C,s.ok:=fun s hs => by
   obtain ⟨L,h1,h2⟩:=List.mem_flatMap.1 hs
   exact Zjw (hL L h1) s h2
  have lv:(Wn C).length=C.length:=List.length_map _
  have:=Zhd (fc:=[dv,kv,rv,pv,sv,cv,I pen,ch,en]) (fun ren K => by
   simp only [lowL,hv.dv.s,hv.kv.s,hv.rv.s,hv.pv.s,hv.sv.s,hv.cv.s,hv.ch.s,hv.en.s]; rfl) hk hS (fun L h1 r h2 => (hL L h1 r h2).1) (fun h0 => by
   rw [viewS,h0]; rfl)
  rw [lv] at this
  exact this
end
set_option maxRecDepth 10000
def ccs (l:List Cse):List AV:=l.flatMap Cse.cells
theorem Zx8 (a b:List Cse):ccs (a++b)=ccs a++ccs b:=List.flatMap_append
theorem Zns (l:List Cse):(ccs l).length=l.length*6:=by
 induction l with
 | nil => rfl
 | cons a l ih =>
  show (a.cells++ccs l).length=_
  rw [List.length_append,ih,List.length_cons]
  show 6+_=_
  omega
theorem Zr6 (l:List Cse):Ye (ccs l)=true:=Vl fun a ha => by
 obtain ⟨c,_,ha⟩:=List.mem_flatMap.1 ha
 simp only [Cse.cells,List.mem_cons,List.not_mem_nil,or_false] at ha
 rcases ha with rfl | rfl | rfl | rfl | rfl | rfl <;> rfl
theorem Z1z {a b:List AV} (h:LeL a b):Le (.tup a) (.tup b):=fun S y ⟨vs,h1,h2⟩ => ⟨vs,h1,h.rl h2⟩
theorem Zw0 {Ls:List (List Rec)} {i:Nat} (h:i<Ls.length):elt (lvs Ls) 1 i=[rowN (rls (Ls.getD i [])) (Ls.getD i []).length]:=Cb (fun L => rowN (rls L) L.length) Ls i h []
theorem Ztq {cs:List AV} {n:Nat}:(rowN cs n).one=true∧(rowN cs n).cells=[rowN cs n]∧(rowN cs n).un=rowN cs n∧(∀ g,Yj g (rowN cs n)=True)∧∀ ren H,low ren H (rowN cs n)=rowN cs n:=by
 unfold rowN; split
 ·exact ⟨rfl,rfl,rfl,fun _ => rfl,fun _ _ => rfl⟩
 ·exact ⟨rfl,rfl,rfl,fun _ => rfl,fun _ _ => rfl⟩
section
variable {H:AH} {dv kv rv pv sv cv ch en:AV} {pen now:Int} {D K:List Key} {R:List Rvk} {P:List Prd} {S:List Sv} {N:List Cn} {C:List Chx} {E:List Ent}
noncomputable def outB (f:List Rec × Rec→Cse) (Ls:List (List Rec)) (L:List Rec) (k:Nat):List Cse:=(Ls.flatMap fun l => (prs l l).map f)++(prs L (L.take k)).map f
theorem Nk (f:List Rec × Rec→Cse) (Ls:List (List Rec)) (L:List Rec):outB f Ls L 0=Ls.flatMap fun l => (prs l l).map f:=by simp [outB,prs]
theorem Zp3 (f:List Rec × Rec→Cse) (Ls:List (List Rec)) (L:List Rec):outB f Ls L L.length=(Ls++[L]).flatMap fun l => (prs l l).map f:=by
 rw [outB,List.take_length,List.flatMap_append]; simp
theorem Zko (f:List Rec × Rec→Cse) (Ls:List (List Rec)) {L:List Rec} {k:Nat} (h:k<L.length):outB f Ls L (k+1)=if (L.getD k noRec).kind == 2 then outB f Ls L k++[f (L,L.getD k noRec)] else outB f Ls L k:=by
 rw [outB,outB,Wd h noRec,prs,prs,List.filter_append]
 split
 ·rename_i hk
  rw [List.filter_cons,if_pos hk]
  simp
 ·rename_i hk
  rw [List.filter_cons,if_neg hk]
  simp
theorem Zbu (l m:List Rec):(prs l m).length≤m.length:=by
 rw [prs,List.length_map]; exact List.length_filter_le ..
theorem Zew (f:List Rec × Rec→Cse):∀ (Ls:List (List Rec)) (L:List Rec) (k:Nat),(∀ l ∈ Ls,l.length≤1000)→L.length≤1000→(outB f Ls L k).length≤Ls.length*1000+1000
 | [],L,k,h,hL => by
  have:=Zbu L (L.take k)
  rw [List.length_take] at this
  simp only [outB,List.flatMap_nil,List.nil_append,List.length_map,List.length_nil]; omega
 | l::Ls,L,k,h,hL => by
  have ih:=Zew f Ls L k (fun x hx => h x (by simp [hx])) hL
  have h1:=h l (by simp)
  have h2:=Zbu l l
  have e:outB f (l::Ls) L k=(prs l l).map f++outB f Ls L k:=by simp [outB]
  rw [e,List.length_append,List.length_map,List.length_cons]; omega
noncomputable def He (D K:List Key) (R:List Rvk) (P:List Prd) (S:List Sv) (N:List Cn) (C:List Chx) (E:List Ent) (pen now:Int):Bool:=(mayF (U0 D K R P S N pen) D C E&&decide (0≤now))&&decide (now≤1073741824)
noncomputable def Zha (D K:List Key) (R:List Rvk) (P:List Prd) (S:List Sv) (N:List Cn) (C:List Chx) (E:List Ent) (pen now:Int):AV:=if He D K R P S N C E pen now then .tup [.view (ccs (R7 K R P S N C E pen now)) (R7 K R P S N C E pen now).length false,nilE] else .tup [nilS,.lit (.iface T.api_Code (.int .i64 1))]
set_option maxHeartbeats 2000000 in
theorem E4 (h:RH dv kv rv pv sv cv D K R P S N) (hx:∀ G,Sl 2 G ch (chcs (nx C)) C.length) (hC:∀ c ∈ C,c.ok) (hn:C.length≤1000) (he:∀ G,Sl 7 G en (ecs E) E.length) (hE:∀ e ∈ E,e.ok) (hEn:E.length≤1000) (now:Int) :
  Called Tryz.prog F.cases_List [.agg (fct dv kv rv pv sv cv pen ch en),I now] H (Zha D K R P S N C E pen now) H:=by
 have hcv:Vw ch:=Y4 hx
 have hev:Vw en:=Y4 he
 have hv:=h.fv hcv hev
 have tm:=fun G => Fp (H:=G) (pen:=pen) h hx hC hn he hE hEn
 have tl:=fun G => Zte (H:=G) (pen:=pen) (K:=K) (C:=C) h hx hC hn hev
 refine Zah ?_
 simp only [fct] at tm tl ⊢
 simp only [Mj,V8]
 simp only [go_sem,hv.dv.s,hv.kv.s,hv.rv.s,hv.pv.s,hv.sv.s,hv.cv.s,hv.ch.s,hv.en.s]
 refine Za (tm _) (fun _ => rfl) ?_
 simp only [go_sem]
 rw [Zha]
 have eb:He D K R P S N C E pen now = !((!mayF (U0 D K R P S N pen) D C E || decide (now<0)) || decide (1073741824<now)):=by
  rw [He]
  have e1:decide (0≤now) = !decide (now<0):=by rw [Bool.eq_iff_iff]; simp
  have e2:decide (now≤1073741824) = !decide (1073741824<now):=by rw [Bool.eq_iff_iff]; simp
  rw [e1,e2]
  generalize mayF (U0 D K R P S N pen) D C E=b
  cases b <;> simp
 refine ⟨fun h0 => ?_,fun h0 => ?_⟩
 ·rw [eb,h0,if_neg (by decide)]
  exact Zc rfl
 ·rw [eb,h0,if_pos (show (!false)=true from rfl)]
  simp only [Bool.or_eq_false_iff,Bool.not_eq_false',decide_eq_false_iff_not] at h0
  obtain ⟨⟨hm,hn0⟩,hn1⟩:=h0
  obtain ⟨hr,hc8,he1,hg,hent⟩:=mayF_iff.1 hm
  have hEb:∀ e ∈ E,e.ok∧entB e:=by
   cases hM:Xa C [] E with
   | none => rw [hM] at hent; cases hent
   | some M => exact fun e hee => ⟨hE e hee,Zmz E [] M hM (fun _ h => by cases h) e hee⟩
  have hL:∀ L ∈ Wn C,(∀ r ∈ L,Dm r)∧L.length≤1000:=fun L hL => by
   obtain ⟨c,hc,rfl⟩:=List.mem_map.1 hL
   have:=Nl c.l
   have:=(hC c hc).2.2
   exact ⟨Rl (fun y hy => ((hC c hc).2.1 y hy).1),by omega⟩
  have hS:∀ s ∈ viewS K C,s.ok:=fun s hs => by
   obtain ⟨L,h1,h2⟩:=List.mem_flatMap.1 hs
   exact Zjw (hL L h1).1 s h2
  have lv:(Wn C).length=C.length:=List.length_map _
  have hSn:(viewS K C).length≤100000:=by
   have:∀ Ls:List (List Rec),(∀ L ∈ Ls,L.length≤1000)→(Ls.flatMap (sees K)).length≤Ls.length*1000:=fun Ls => by
    induction Ls with
    | nil => intro _; exact Nat.zero_le _
    | cons L Ls ih =>
     intro hh
     have h1:=ih fun x hx => hh x (by simp [hx])
     have h2:=hh L (by simp)
     have h3:=Jt K L
     rw [List.flatMap_cons,List.length_append,List.length_cons]; omega
   have:=this (Wn C) fun L h1 => (hL L h1).2
   rw [lv] at this
   exact Nat.le_trans this (by omega)
  have slv:∀ G,Sl 1 G (rowN (lvs (Wn C)) C.length) (lvs (Wn C)) C.length:=fun G => Zbp (by rw [lvs,List.length_map,lv]; omega) G
  have sls:∀ G,Sl 46 G (rowN (scs (viewS K C)) (viewS K C).length) (scs (viewS K C)) (viewS K C).length:=fun G => Zbp (Zvz hS) G
  refine Za (tl _) (fun h => by cases h) ?_
  have rs:=@Ztq (lvs (Wn C)) C.length
  have oV:(Zg5 dv kv rv pv sv cv pen ch en K C).cs=[dv,kv,rv,pv,sv,cv,I pen,ch,en,rowN (lvs (Wn C)) C.length,rowN (scs (viewS K C)) (viewS K C).length]∧(Zg5 dv kv rv pv sv cv pen ch en K C).sz=0∧(Zg5 dv kv rv pv sv cv pen ch en K C).rw=true:=⟨rfl,rfl,rfl⟩
  generalize hVe:Zg5 dv kv rv pv sv cv pen ch en K C=V at *
  generalize hA:(⟨[dv,kv,rv,pv,sv,cv,I pen,ch,en],0,true⟩:AObj)=A at *
  simp only [go_sem,oV,rs,(slv []).lenT,(slv []).n]
  have ecl:R7 K R P S N C E pen now=(Wn C).flatMap fun l => (prs l l).map (Zii K R P S N C E pen now):=by
   rw [R7,pairs,List.map_flatMap]
  rw [ecl]
  clear ecl
  generalize hf:Zii K R P S N C E pen now=f
  refine Z1 _ (fun (s:Nat × AV × AH) => ([(1,I now),(6,.ptr (H.length+1) 0),(7,s.2.1),(29,rowN (lvs (Wn C)) C.length),(30,I C.length),(31,I s.1)],H++(A::V::s.2.2)))
   (fun s => s.1≤C.length∧GRs 6 (H++(A::V::s.2.2)) s.2.1 (ccs (outB f ((Wn C).take s.1) [] 0)) (outB f ((Wn C).take s.1) [] 0).length∧Lo H s.2.1) (fun s => C.length - s.1) (0,nilS,[]) ⟨Nat.zero_le _,.inl ⟨rfl,rfl,rfl⟩,Ad H⟩ rfl ?_
  rintro ⟨i,y,G⟩ ⟨hi,hg,hq⟩
  dsimp only at hi hg hq
  simp only [go_sem]
  refine ⟨fun hh => ?_,fun hh => ?_⟩
  ·have hlt:i<C.length:=by omega
   have hltL:i<(Wn C).length:=by omega
   obtain ⟨hro,hLn⟩:=hL _ (Zl [] hltL)
   have tkL:(Wn C).take (i+1)=(Wn C).take i++[(Wn C).getD i []]:=Wd hltL []
   have el:=Zw0 hltL
   have LsL:∀ l ∈ (Wn C).take i,l.length≤1000:=fun l hl => (hL l (List.mem_of_mem_take hl)).2
   have Ls8:((Wn C).take i).length≤8:=by rw [List.length_take]; omega
   generalize (Wn C).getD i []=L at *
   rw [Nk,← Nk f _ L] at hg
   generalize (Wn C).take i=Ls at *
   have ld:∀ G,Yc false 1 G (Z5 1 (I (i:Int)) (rowN (lvs (Wn C)) C.length))=rowN (rls L) L.length:=fun G => by
    rw [(slv G).ld1 .i64 hlt]
    have:=congrArg (fun y => y.getD 0 .junk) el
    simp only [elt,Nat.mul_one,List.getD_eq_getElem?_getD,List.getElem?_take,List.getElem?_drop] at this
    rw [if_pos (by decide)] at this
    rw [List.getD_eq_getElem?_getD]; exact this
   have lk:∀ G,Z6 1 G (Z5 1 (I (i:Int)) (rowN (lvs (Wn C)) C.length))=True:=fun G => (slv G).ldOk .i64 hlt (Nat.le_refl _)
   have slL:∀ G,Sl 41 G (rowN (rls L) L.length) (rls L) L.length:=fun G => Zbp (Zv2 hro) G
   have rL:=@Ztq (rls L) L.length
   have w1:IntKind.i64.wrap ((i:Int)+1)=((i+1:Nat):Int):=by rw [w64 _ (by omega) (by omega)]; omega
   simp only [go_sem,(slv []).idx,ld,lk,rL,(slL []).lenT,(slL []).n]
   generalize hxL:rowN (rls L) L.length=xL at *
   refine ⟨⟨by omega,by omega⟩,?_⟩
   refine Z1 _ (fun (s:Nat × AV × AH) => ([(1,I now),(6,.ptr (H.length+1) 0),(7,s.2.1),(9,xL),(29,rowN (lvs (Wn C)) C.length),(30,I C.length),(31,I i),(35,xL),(36,I L.length),(37,I s.1)],H++(A::V::s.2.2)))
    (fun s => s.1≤L.length∧GRs 6 (H++(A::V::s.2.2)) s.2.1 (ccs (outB f Ls L s.1)) (outB f Ls L s.1).length∧Lo H s.2.1) (fun s => L.length - s.1) (0,y,G) ⟨Nat.zero_le _,hg,hq⟩ rfl ?_
   clear hg hq y G
   rintro ⟨k,y,G⟩ ⟨hk,hg,hq⟩
   dsimp only at hk hg hq
   have ry:y.one=true∧y.cells=[y]∧y.un=y∧∀ g,Yj g y=True:=⟨hg.sl.one,hg.sl.cells,hg.sl.un,hg.sl.may⟩
   have on:=Zew f Ls L k LsL hLn
   simp only [go_sem]
   refine ⟨fun hh2 => ?_,fun hh2 => ?_⟩
   ·have hkt:k<L.length:=by omega
    have hrok:=hro _ (Zl noRec hkt)
    have el2:elt (rls L) 41 k=(L.getD k noRec).cells:=Mp Rec.cells 41 noRec L k (fun r hr => Xn (hro r hr).1.1) hkt
    have ld2:∀ K,Yc true 41 K (Z5 41 (I (k:Int)) xL)=.agg (L.getD k noRec).cells:=fun K => by
     rw [(slL K).ldA .i64 hkt (by decide),el2]
    have lk2:∀ K,Z6 41 K (Z5 41 (I (k:Int)) xL)=True:=fun K => (slL K).ldOk .i64 hkt (Nat.le_refl _)
    have os:=Zko f Ls hkt
    generalize L.getD k noRec=r at *
    have no1:=Zp Zt
    have q1:=Zp hrok.1.1
    have rspl:=Xj Zt hrok.1.1
    have w2:IntKind.i64.wrap ((k:Int)+1)=((k+1:Nat):Int):=by rw [w64 _ (by omega) (by omega)]; omega
    have tc:=fun G => Z0r (H:=H++A::V::G) (p:=H.length+1) (pen:=pen) (now:=now) (K:=K) (R:=R) (P:=P) (S:=S) (N:=N) (C:=C) (E:=E) (n:=r) (l:=L) (x:=xL) h hcv ⟨by simp,by rw [Yu]; exact hVe.symm⟩ sls hS hSn he hEb hEn ⟨by omega,by omega⟩ slL hro (by omega) hrok
    simp only [hf] at tc
    simp only [go_sem,(slL []).idx,ld2,lk2,Z7,Wu,no1.1,no1.2.1,no1.2.2.1,q1.1,q1.2.1,q1.2.2.1,rspl,Fw,ry,rL]
    generalize f (L,r)=c at *
    obtain ⟨a1,G1,e1,t1,t2,g1,g2,g3⟩:=C1 (V':=V) (T:=[⟨r.cells,0,true⟩]) (s:=.view c.cells 1 true) (ws:=c.cells) (b:=48) hg hq (show (6:Nat)=1*6 from rfl) rfl rfl rfl rfl (by omega)
    refine ⟨⟨by omega,by omega⟩,fun hkd => Za (tc _) (fun _ => rfl) ?_,fun hkd => ?_⟩
    ·rw [hkd,if_pos rfl] at os
     simp only [go_sem,Zr,fillv,Cse.cells]
     refine ⟨⟨a1.2.2.1,a1.2.2.2⟩,(k+1,appV 6 (H++A::V::(G++[⟨r.cells,0,true⟩])) (.view c.cells 1 true) y,G1),by rw [w2]; rfl,e1,⟨hkt,?_,g2⟩,by show L.length - (k+1)<L.length - k; omega⟩
     show GRs 6 (H++A::V::G1) _ (ccs (outB f Ls L (k+1))) (outB f Ls L (k+1)).length
     rw [os,Zx8,List.length_append]
     have:=g1 V
     simpa [ccs] using this
    ·rw [hkd,if_neg (by decide)] at os
     exact ⟨(k+1,y,G++[_]),by rw [w2],rfl,⟨hkt,by rw [os]; exact hg.mid hq _,hq⟩,by show L.length - (k+1)<L.length - k; omega⟩
   ·have hk2:k=L.length:=by omega
    subst hk2
    rw [Zp3,← tkL,← Nk f _ []] at hg
    exact ⟨(i+1,y,G),by rw [w1],rfl,⟨hlt,hg,hq⟩,by show C.length - (i+1)<C.length - i; omega⟩
  ·have hi2:i=C.length:=by omega
   subst hi2
   rw [Nk,← lv,List.take_length] at hg
   refine Ww ?_
   have hvw:=GRs.view (H:=H) (K:=A::V::G) (by decide) hg (fun q h => by have:=hq q h; omega) (Zr6 _)
   have e1:low (renk H.length []) (H++A::V::G) (.tup [y,.lit .nilIface])=.tup [low (renk H.length []) (H++A::V::G) y,nilE]:=rfl
   rw [e1]
   exact Z1z ⟨hvw,.refl _,trivial⟩
end
end Go.Proofs.YtcgjlpdkobmpnaaGreat.Eng

