/- slices.SortFunc on rides, in the engine's terms, out of the shelf's contract. -/
import Derived.Test.YtabpkmfgmjnipaaME6
import Derived.Test.YtabpkmfgmjnipaaMRo
import Derived.Shelf.SlSortCmp.WholeK
namespace Go.Proofs.Ytabpkmfgmjnipaa.Eng
open Go Go.Proofs Go.Shelf Go.RowKit Go.Sort
set_option linter.unusedVariables false
set_option linter.unusedSimpArgs false
instance:Inhabited Rid:=⟨⟨0,0,0,0⟩⟩
def encR (r:Rid):List Value:=[.int .i64 r.f,.int .i64 r.d,.int .i64 r.t,.int .i64 r.a]
def Rid.cells (r:Rid):List AV:=(encR r).map AV.lit
def rcells (l:List Rid):List AV:=l.flatMap Rid.cells
def cfR (x y:Rid):Int:=Lib.compareInt x.d y.d
def srtR (l:List Rid):List Rid:=(Sort.pdq (ltOf cfR) l.toArray 0 l.length (Lib.bitLen l.length) true true).toList
theorem ltR (x y:Rid):ltOf cfR x y=decide (x.d<y.d):=by
 unfold ltOf cfR Lib.compareInt
 by_cases h1:x.d<y.d
 ·simp [h1]
 ·by_cases h2:y.d<x.d <;> simp [h1,h2]
theorem swoR:SWO (ltOf cfR) where
 irrefl x:=by rw [ltR]; simp
 trans x y z h1 h2:=by rw [ltR] at *; simp at *; omega
 ntrans x y z h1 h2:=by rw [ltR] at *; simp at *; omega
theorem srtR_spec (l:List Rid):(srtR l).Perm l∧(srtR l).Pairwise fun x y => x.d≤y.d:=by
 have h:=pdq_sorts (ltOf cfR) swoR l.toArray 0 l.toArray.size (Lib.bitLen l.length) true true (Nat.zero_le _) (Nat.le_refl _) (Or.inl rfl)
 have hs:=h.1.1
 have hp:=h.1.2.2
 have ho:=h.2
 rw [show l.toArray.size=l.length from rfl] at hs hp ho
 unfold srtR
 generalize Sort.pdq (ltOf cfR) l.toArray 0 l.length (Lib.bitLen l.length) true true=d at hs hp ho ⊢
 constructor
 ·have e1:d.extract 0 l.length=d:=by rw [← hs]; exact Array.extract_size
  have e2:l.toArray.extract 0 l.length=l.toArray:=Array.extract_size
  rw [e1,e2] at hp; exact hp
 ·rw [List.pairwise_iff_getElem]
  intro i j hi hj hij
  have:=ho i j (Nat.zero_le _) hij (by rw [← hs]; simpa using hj)
  rw [ltR] at this
  simp only [decide_eq_false_iff_not] at this
  rw [getElem!_pos d j (by simpa using hj),getElem!_pos d i (by simpa using hi)] at this
  simp only [Array.getElem_toList]
  omega
theorem srtR_len (l:List Rid):(srtR l).length=l.length:=(srtR_spec l).1.length_eq
theorem rcells_eq (l:List Rid):rcells l=(l.flatMap encR).map AV.lit:=by
 rw [rcells,List.map_flatMap]; rfl
theorem encR_flat_len (l:List Rid):(l.flatMap encR).length=l.length*4:=by
 induction l with
 | nil => rfl
 | cons r l ih => rw [List.flatMap_cons,List.length_append,ih]; simp [encR]; omega
theorem flat_get:∀ (l:List Rid) (t:Nat),t<l.length*4→(l.flatMap encR)[t]? = some ((encR (l.toArray[t / 4]!))[t%4]!)
 | [],t,h => by simp at h
 | r::l,t,h => by
  match t with
  | 0 => rfl
  | 1 => rfl
  | 2 => rfl
  | 3 => rfl
  | t+4 =>
   have ih:=flat_get l t (by simp at h; omega)
   rw [List.flatMap_cons,List.getElem?_append_right (by simp [encR])]
   rw [show t+4 - (encR r).length=t from by simp [encR],ih,show (t+4) / 4=t / 4+1 by omega,show (t+4)%4=t%4 by omega]
   have:(r::l).toArray[t / 4+1]! = l.toArray[t / 4]! := by simp
   rw [this]
theorem flatK_R (l:List Rid):(Sort.flatK encR 4 l.toArray).toList=l.flatMap encR:=by
 apply List.ext_getElem?
 intro t
 by_cases ht:t<l.length*4
 ·rw [flat_get l t ht]
  have:=get_flatK encR 4 l.toArray t ht
  rw [getElem!_pos _ t (by rw [size_flatK]; exact ht)] at this
  rw [Array.getElem?_toList,Array.getElem?_eq_getElem (by rw [size_flatK]; exact ht),this]
 ·rw [List.getElem?_eq_none (by rw [Array.length_toList,size_flatK]; exact Nat.le_of_not_lt ht),List.getElem?_eq_none (by rw [encR_flat_len]; omega)]
theorem RL_lit {S:Cx}:∀ {l:List Value} {us:List Value},RL S (l.map AV.lit) us→us=l
 | [],us,h => h
 | v::l,us,h => by
  obtain ⟨u,t,rfl,h1,h2⟩:=h
  rw [show u=v from h1,RL_lit h2]
theorem step_grow {S:Cx} (hs:St S):∀ (os:List Obj),St { S with h:=S.h++os.toArray }∧Ext S { S with h:=S.h++os.toArray }
 | [] => by rw [show S.h++([]:List Obj).toArray=S.h by simp]; exact ⟨hs,.refl _⟩
 | o::os => by
  obtain ⟨h1,h2⟩:=step_push hs o
  obtain ⟨h3,h4⟩:=step_grow h1 os
  have e:S.h++(o::os).toArray=(S.h.push o)++os.toArray:=by
   apply Array.toList_inj.1; simp
  rw [e]
  exact ⟨h3,h2.trans h4⟩
theorem sort_called {P:Program} {ρ:Ren} (LL:SlLaysF0.n6 P ρ) (aE:∀ w,(isAgg (ρ.t 24)).run P w=.ok true w) (zE:∀ w,(Go.sizeOf (ρ.t 24)).run P w=.ok 4 w) (g:Nat) (eg:∀ args w,(callFunc g args).run P w=.ok (.enter g args) w)
  (hcmp:∀ (x y:Rid) (W:World),Calls P g #[.agg (encR x).toArray,.agg (encR y).toArray] W fun e w' => e=.returned (.int .i64 (cfR x y))∧∃ q os',w'=grow (W.drewN q) os')
  (hok:okCall P (ρ.f 6)=true) {H:AH} {p:Nat} {l:List Rid} {ds:List AV} (hp:p<H.length) (ho:obj H p=⟨rcells l++ds,4,true⟩) (h0:0<l.length) (h62:l.length<4611686018427387904) {L:Nat} (hL:L=(rcells l++ds).length) :
  Called P (ρ.f 6) [.row p 0 l.length L,.fn (.func g) [] []] H (.tup []) (H.set p ⟨rcells (srtR l)++ds,4,true⟩):=by
 subst hL
 refine ⟨hok,fun φ w vals hs hr => ?_⟩
 obtain ⟨vl⟩:=vals
 obtain ⟨x,t1,e1,hx,hr⟩:=hr
 obtain ⟨y,t2,e2,hy,hr⟩:=hr
 have e3:t2=[]:=hr
 subst e3; subst e2
 have e1:vl=[x,y]:=e1
 subst e1
 obtain ⟨fs,cps,rfl,hf,hc⟩:=hy
 have hf:fs.toList=[]:=hf
 have hc:cps.toList=[]:=hc
 have hf:fs=#[]:=Array.toList_inj.1 hf
 have hc:cps=#[]:=Array.toList_inj.1 hc
 subst hf; subst hc
 have hob:H[p]? = some ⟨rcells l++ds,4,true⟩:=by rw [obj_get hp,ho]
 have lc:(rcells l).length=4*l.length:=by rw [rcells_eq,List.length_map,encR_flat_len]; omega
 obtain ⟨a,cap,rfl,hcap,ha0,o,h1,h2,h3⟩:=hx
 have h1:H[p]? = some o:=h1
 rw [hob] at h1; cases h1
 rcases h3 rfl with ⟨_,hz,_⟩ | ⟨b,hb,han,ha,hfit⟩
 ·omega
 ·have ha:a=some ⟨b,0,none⟩:=by
   rcases ha with h | h
   ·exact h
   ·omega
  subst ha
  have hb:φ p=some b:=hb
  rcases hs.ok p _ hob with ⟨g1,_⟩ | ⟨b',c,e,fr,g1,g2,⟨g3,_⟩,g4,g5⟩
  ·rw [show (cx φ H w).φ p=φ p from rfl,hb] at g1; cases g1
  ·have g1:φ p=some b':=g1
   rw [hb] at g1; cases g1
   have g2:w.heap[b]? = some (.cells c e fr):=g2
   have g4:(rcells l++ds).length≤c.size:=g4
   have g5:RL (cx φ H w) (rcells l++ds) (c.toList.take (rcells l++ds).length):=g5
   rw [List.length_append] at g4
   have g7:RL (cx φ H w) ds ((c.toList.take (rcells l++ds).length).drop (rcells l).length):=by
    have:=g5.drop (rcells l).length
    rwa [List.drop_left' rfl] at this
   have g6:c.toList.take (rcells l).length=l.flatMap encR:=by
    have:=g5.take (rcells l).length
    rw [List.take_left' rfl,List.take_take,Nat.min_eq_left (by rw [List.length_append]; omega),rcells_eq] at this
    rw [rcells_eq]; exact RL_lit this
   have hbs:=heap_lt (S:=cx φ H w) g2
   have hH:HoldsK encR 4 w b 0 l.toArray:=by
    intro j hj
    rw [size_flatK] at hj
    have hj:j<l.length*4:=hj
    refine ⟨?_,?_⟩
    ·rw [World.cell?,g2]
     show c[0+j]? = some (Sort.flatK encR 4 l.toArray)[j]!
     rw [Nat.zero_add,get_flatK encR 4 _ _ hj]
     have e:=flat_get l j hj
     rw [← g6,List.getElem?_take,if_pos (by rw [lc]; omega),Array.getElem?_toList] at e
     exact e
    ·have:=g3.no (0+j) (by rw [lc] at g4; omega)
     simp only [World.frozen?,g2,Bool.and_eq_false_iff,decide_eq_false_iff_not]
     omega
   have hcon:=AnyQ.slices_SortFunc_eq LL 4 aE zE encR (fun _ => rfl) (fun x v hv => by simp [encR] at hv; rcases hv with rfl | rfl | rfl | rfl <;> rfl) cfR swoR g #[] b 0 cap l.toArray w eg (fun m os dk hdk x y => hcmp x y _) hH hbs h62
   refine hcon.mono fun e2 w' ⟨he,n,os,hw⟩ => ⟨_,he,?_⟩
   have hd:(Sort.pdq (ltOf cfR) l.toArray 0 l.toArray.size (Lib.bitLen l.toArray.size) true true)=(srtR l).toArray:=by simp [srtR]
   rw [hd] at hw
   subst hw
   have lS:=srtR_len l
   have sK:(Sort.flatK encR 4 (srtR l).toArray).size=l.length*4:=by rw [size_flatK]; show (srtR l).length*4=_; rw [lS]
   have hoth:∀ i:Nat,i≠b→(putRowK encR 4 w b 0 (srtR l).toArray).heap[i]? = w.heap[i]? := fun i hi => by
    show (putRow id w b 0 _).heap[i]? = _
    simp only [putRow,mapBlock,Array.getElem?_modify,if_neg (Ne.symm hi)]
   have hbb:(putRowK encR 4 w b 0 (srtR l).toArray).heap[b]? = some (Obj.cells (putCells id 0 (Sort.flatK encR 4 (srtR l).toArray) c) e fr):=by
    show (putRow id w b 0 _).heap[b]? = _
    simp only [putRow,mapBlock,Array.getElem?_modify,if_true,g2,Option.map_some,onCells]
   have hcel:RL (cx φ H w) (rcells (srtR l)++ds) ((putCells id 0 (Sort.flatK encR 4 (srtR l).toArray) c).toList.take (rcells (srtR l)++ds).length):=by
    have e:(putCells id 0 (Sort.flatK encR 4 (srtR l).toArray) c).toList.take (rcells (srtR l)).length=(srtR l).flatMap encR:=by
     rw [← flatK_R,rcells_eq,List.length_map,encR_flat_len,lS]
     apply List.ext_getElem?
     intro t
     by_cases ht:t<l.length*4
     ·rw [List.getElem?_take,if_pos ht,Array.getElem?_toList,Array.getElem?_toList]
      have hc:t<c.size:=by rw [lc] at g4; omega
      simp only [putCells,Array.getElem?_mapIdx,Array.getElem?_eq_getElem hc,Option.map_some]
      rw [if_pos ⟨Nat.zero_le _,by rw [sK]; omega⟩,Array.getElem?_eq_getElem (by rw [sK]; exact ht),getElem!_pos _ _ (by rw [sK]; exact ht)]
      rfl
     ·rw [List.getElem?_eq_none (by rw [List.length_take]; omega),List.getElem?_eq_none (by rw [Array.length_toList,sK]; omega)]
    have lq:(rcells (srtR l)).length=(rcells l).length:=by rw [rcells_eq,rcells_eq,List.length_map,List.length_map,encR_flat_len,encR_flat_len,lS]
    have e2:(putCells id 0 (Sort.flatK encR 4 (srtR l).toArray) c).toList.take (rcells (srtR l)++ds).length=(srtR l).flatMap encR++(c.toList.take (rcells l++ds).length).drop (rcells l).length:=by
     rw [← e,List.length_append,List.length_append,lq]
     apply List.ext_getElem?
     intro t
     have lt:((putCells id 0 (Sort.flatK encR 4 (srtR l).toArray) c).toList.take (rcells l).length).length=(rcells l).length:=by
      have sz:(putCells id 0 (Sort.flatK encR 4 (srtR l).toArray) c).toList.length=c.size:=by simp [putCells]
      rw [List.length_take,sz]; omega
     by_cases ht:t<(rcells l).length
     ·rw [List.getElem?_append_left (by rw [lt]; exact ht),List.getElem?_take,List.getElem?_take,if_pos (by omega),if_pos ht]
     ·rw [List.getElem?_append_right (by rw [lt]; omega),lt,List.getElem?_drop,List.getElem?_take,List.getElem?_take,show (rcells l).length+(t - (rcells l).length)=t by omega]
      by_cases h2:t<(rcells l).length+ds.length
      ·rw [if_pos h2,if_pos h2,Array.getElem?_toList,Array.getElem?_toList]
       have hc:t<c.size:=by omega
       simp only [putCells,Array.getElem?_mapIdx,Array.getElem?_eq_getElem hc,Option.map_some]
       rw [if_neg (by rw [sK]; rw [lc] at ht; omega)]
      ·rw [if_neg h2,if_neg h2]
    rw [e2]
    refine RL.append ?_ g7
    rw [rcells_eq]
    exact RL_lits _
   obtain ⟨u1,u2⟩:=step_upd (S:=cx φ H w) hs (cs':=rcells (srtR l)++ds) (c':=putCells id 0 (Sort.flatK encR 4 (srtR l).toArray) c) (h':=(putRowK encR 4 w b 0 (srtR l).toArray).heap) hob rfl hb g2 (size_putRow ..) hoth hbb (by simp [putCells]) (by show (rcells l++ds).length≤_; rw [List.length_append,List.length_append,lc,rcells_eq,List.length_map,encR_flat_len,lS]; omega) (fun h => by cases h) (by rw [List.length_append,rcells_eq,List.length_map,encR_flat_len,lS]; simp only [putCells,Array.size_mapIdx]; rw [lc] at g4; omega) hcel
   obtain ⟨u3,u4⟩:=step_grow u1 os.toList
   have eh:(putRowK encR 4 w b 0 (srtR l).toArray).heap++os.toList.toArray=(sortWorldK encR 4 w b 0 n (srtR l).toArray os).heap:=by
    rw [Array.toArray_toList]; rfl
   refine ⟨φ,?_,?_,⟨rfl,rfl,rfl⟩,?_⟩
   ·show St ⟨φ,_,(sortWorldK encR 4 w b 0 n (srtR l).toArray os).heap⟩
    rw [← eh]; exact u3
   ·show Ext _ ⟨φ,_,(sortWorldK encR 4 w b 0 n (srtR l).toArray os).heap⟩
    rw [← eh]; exact u2.trans u4
   ·exact ⟨#[],rfl,rfl⟩
end Go.Proofs.Ytabpkmfgmjnipaa.Eng

