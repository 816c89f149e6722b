/- slices.SortFunc on rides, in the engine's terms, out of the shelf's contract. -/
import Derived.Test.YtcgjlpdkobmpnaaGreatME6
import Derived.Test.YtcgjlpdkobmpnaaGreatMRo
import Derived.Shelf.SlSortCmp.WholeK
import Derived.Test.YtcgjlpdkobmpnaaGreatMCa
import Derived.Shelf.SlicesG.Cmp
import Derived.Shelf.SlSortCmp.NoneTotal
namespace Go.Proofs.YtcgjlpdkobmpnaaGreat.Eng
open Go Go.Proofs Go.Shelf Go.RowKit Go.Sort
set_option linter.unusedVariables false
set_option linter.unusedSimpArgs false
instance:Inhabited Rid:=⟨⟨0,0,0,0⟩⟩
def encR (r:Rid):List Value:=[.int .i64 r.f,.int .i64 r.d,.int .i64 r.t,.int .i64 r.a]
def Rid.cells (r:Rid):List AV:=(encR r).map AV.lit
def rcells (l:List Rid):List AV:=l.flatMap Rid.cells
def cfR (x y:Rid):Int:=Lib.compareInt x.d y.d
def srtR (l:List Rid):List Rid:=(Sort.pdq (ltOf cfR) l.toArray 0 l.length (Lib.bitLen l.length) true true).toList
theorem ltR (x y:Rid):ltOf cfR x y=decide (x.d<y.d):=by
 unfold ltOf cfR Lib.compareInt
 by_cases h1:x.d<y.d
 ·simp [h1]
 ·by_cases h2:y.d<x.d <;> simp [h1,h2]
theorem swoR:SWO (ltOf cfR) where
 irrefl x:=by rw [ltR]; simp
 trans x y z h1 h2:=by rw [ltR] at *; simp at *; omega
 ntrans x y z h1 h2:=by rw [ltR] at *; simp at *; omega
theorem Bk (l:List Rid):(srtR l).Perm l∧(srtR l).Pairwise fun x y => x.d≤y.d:=by
 have h:=pdq_sorts (ltOf cfR) swoR l.toArray 0 l.toArray.size (Lib.bitLen l.length) true true (Nat.zero_le _) (Nat.le_refl _) (Or.inl rfl)
 have hs:=h.1.1
 have hp:=h.1.2.2
 have ho:=h.2
 rw [show l.toArray.size=l.length from rfl] at hs hp ho
 unfold srtR
 generalize Sort.pdq (ltOf cfR) l.toArray 0 l.length (Lib.bitLen l.length) true true=d at hs hp ho ⊢
 constructor
 ·have e1:d.extract 0 l.length=d:=by rw [← hs]; exact Array.extract_size
  have e2:l.toArray.extract 0 l.length=l.toArray:=Array.extract_size
  rw [e1,e2] at hp; exact hp
 ·rw [List.pairwise_iff_getElem]
  intro i j hi hj hij
  have:=ho i j (Nat.zero_le _) hij (by rw [← hs]; simpa using hj)
  rw [ltR] at this
  simp only [decide_eq_false_iff_not] at this
  rw [getElem!_pos d j (by simpa using hj),getElem!_pos d i (by simpa using hi)] at this
  simp only [Array.getElem_toList]
  omega
theorem O8 (l:List Rid):(srtR l).length=l.length:=(Bk l).1.length_eq
theorem Wo (l:List Rid):rcells l=(l.flatMap encR).map AV.lit:=by
 rw [rcells,List.map_flatMap]; rfl
theorem Xz (l:List Rid):(l.flatMap encR).length=l.length*4:=by
 induction l with
 | nil => rfl
 | cons r l ih => rw [List.flatMap_cons,List.length_append,ih]; simp [encR]; omega
theorem D9:∀ (l:List Rid) (t:Nat),t<l.length*4→(l.flatMap encR)[t]? = some ((encR (l.toArray[t / 4]!))[t%4]!)
 | [],t,h => by simp at h
 | r::l,t,h => by
  match t with
  | 0 => rfl
  | 1 => rfl
  | 2 => rfl
  | 3 => rfl
  | t+4 =>
   have ih:=D9 l t (by simp at h; omega)
   rw [List.flatMap_cons,List.getElem?_append_right (by simp [encR])]
   rw [show t+4 - (encR r).length=t from by simp [encR],ih,show (t+4) / 4=t / 4+1 by omega,show (t+4)%4=t%4 by omega]
   have:(r::l).toArray[t / 4+1]! = l.toArray[t / 4]! := by simp
   rw [this]
theorem Zxn (l:List Rid):(Sort.flatK encR 4 l.toArray).toList=l.flatMap encR:=by
 apply List.ext_getElem?
 intro t
 by_cases ht:t<l.length*4
 ·rw [D9 l t ht]
  have:=get_flatK encR 4 l.toArray t ht
  rw [getElem!_pos _ t (by rw [size_flatK]; exact ht)] at this
  rw [Array.getElem?_toList,Array.getElem?_eq_getElem (by rw [size_flatK]; exact ht),this]
 ·rw [List.getElem?_eq_none (by rw [Array.length_toList,size_flatK]; exact Nat.le_of_not_lt ht),List.getElem?_eq_none (by rw [Xz]; omega)]
theorem Zuf {S:Cx}:∀ {l:List Value} {us:List Value},RL S (l.map AV.lit) us→us=l
 | [],us,h => h
 | v::l,us,h => by
  obtain ⟨u,t,rfl,h1,h2⟩:=h
  rw [show u=v from h1,Zuf h2]
theorem Bi {S:Cx} (hs:St S):∀ (os:List Obj),St { S with h:=S.h++os.toArray }∧Ext S { S with h:=S.h++os.toArray }
 | [] => by rw [show S.h++([]:List Obj).toArray=S.h by simp]; exact ⟨hs,.refl _⟩
 | o::os => by
  obtain ⟨h1,h2⟩:=Bg hs o
  obtain ⟨h3,h4⟩:=Bi h1 os
  have e:S.h++(o::os).toArray=(S.h.push o)++os.toArray:=by
   apply Array.toList_inj.1; simp
  rw [e]
  exact ⟨h3,h2.trans h4⟩
theorem Zbg {P:Program} {ρ:Ren} (LL:SlLaysF0.n6 P ρ) (aE:∀ w,(isAgg (ρ.t 24)).run P w=.ok true w) (zE:∀ w,(Go.sizeOf (ρ.t 24)).run P w=.ok 4 w) (g:Nat) (eg:∀ args w,(callFunc g args).run P w=.ok (.enter g args) w)
  (hcmp:∀ (x y:Rid) (W:World),Calls P g #[.agg (encR x).toArray,.agg (encR y).toArray] W fun e w' => e=.returned (.int .i64 (cfR x y))∧∃ q os',w'=grow (W.drewN q) os')
  (hok:Km P (ρ.f 6)=true) {H:AH} {p:Nat} {l:List Rid} {ds:List AV} (hp:p<H.length) (ho:obj H p=⟨rcells l++ds,4,true⟩) (h0:0<l.length) (h62:l.length<4611686018427387904) {L:Nat} (hL:L=(rcells l++ds).length) :
  Called P (ρ.f 6) [.row p 0 l.length L,.fn (.func g) [] []] H (.tup []) (H.set p ⟨rcells (srtR l)++ds,4,true⟩):=by
 subst hL
 refine ⟨hok,fun φ w vals hs hr => ?_⟩
 obtain ⟨vl⟩:=vals
 obtain ⟨x,t1,e1,hx,hr⟩:=hr
 obtain ⟨y,t2,e2,hy,hr⟩:=hr
 have e3:t2=[]:=hr
 subst e3; subst e2
 have e1:vl=[x,y]:=e1
 subst e1
 obtain ⟨fs,cps,rfl,hf,hc⟩:=hy
 have hf:fs.toList=[]:=hf
 have hc:cps.toList=[]:=hc
 have hf:fs=#[]:=Array.toList_inj.1 hf
 have hc:cps=#[]:=Array.toList_inj.1 hc
 subst hf; subst hc
 have hob:H[p]? = some ⟨rcells l++ds,4,true⟩:=by rw [U5 hp,ho]
 have lc:(rcells l).length=4*l.length:=by rw [Wo,List.length_map,Xz]; omega
 obtain ⟨a,cap,rfl,hcap,ha0,o,h1,h2,h3⟩:=hx
 have h1:H[p]? = some o:=h1
 rw [hob] at h1; cases h1
 rcases h3 rfl with ⟨_,hz,_⟩ | ⟨b,hb,han,ha,hfit⟩
 ·omega
 ·have ha:a=some ⟨b,0,none⟩:=by
   rcases ha with h | h
   ·exact h
   ·omega
  subst ha
  have hb:φ p=some b:=hb
  rcases hs.ok p _ hob with ⟨g1,_⟩ | ⟨b',c,e,fr,g1,g2,⟨g3,_⟩,g4,g5⟩
  ·rw [show (cx φ H w).φ p=φ p from rfl,hb] at g1; cases g1
  ·have g1:φ p=some b':=g1
   rw [hb] at g1; cases g1
   have g2:w.heap[b]? = some (.cells c e fr):=g2
   have g4:(rcells l++ds).length≤c.size:=g4
   have g5:RL (cx φ H w) (rcells l++ds) (c.toList.take (rcells l++ds).length):=g5
   rw [List.length_append] at g4
   have g7:RL (cx φ H w) ds ((c.toList.take (rcells l++ds).length).drop (rcells l).length):=by
    have:=g5.drop (rcells l).length
    rwa [List.drop_left' rfl] at this
   have g6:c.toList.take (rcells l).length=l.flatMap encR:=by
    have:=g5.take (rcells l).length
    rw [List.take_left' rfl,List.take_take,Nat.min_eq_left (by rw [List.length_append]; omega),Wo] at this
    rw [Wo]; exact Zuf this
   have hbs:=Va (S:=cx φ H w) g2
   have hH:HoldsK encR 4 w b 0 l.toArray:=by
    intro j hj
    rw [size_flatK] at hj
    have hj:j<l.length*4:=hj
    refine ⟨?_,?_⟩
    ·rw [World.cell?,g2]
     show c[0+j]? = some (Sort.flatK encR 4 l.toArray)[j]!
     rw [Nat.zero_add,get_flatK encR 4 _ _ hj]
     have e:=D9 l j hj
     rw [← g6,List.getElem?_take,if_pos (by rw [lc]; omega),Array.getElem?_toList] at e
     exact e
    ·have:=g3.no (0+j) (by rw [lc] at g4; omega)
     simp only [World.frozen?,g2,Bool.and_eq_false_iff,decide_eq_false_iff_not]
     omega
   have hcon:=AnyQ.slices_SortFunc_eq LL 4 aE zE encR (fun _ => rfl) (fun x v hv => by simp [encR] at hv; rcases hv with rfl | rfl | rfl | rfl <;> rfl) cfR swoR g #[] b 0 cap l.toArray w eg (fun m os dk hdk x y => hcmp x y _) hH hbs h62
   refine hcon.mono fun e2 w' ⟨he,n,os,hw⟩ => ⟨_,he,?_⟩
   have hd:(Sort.pdq (ltOf cfR) l.toArray 0 l.toArray.size (Lib.bitLen l.toArray.size) true true)=(srtR l).toArray:=by simp [srtR]
   rw [hd] at hw
   subst hw
   have lS:=O8 l
   have sK:(Sort.flatK encR 4 (srtR l).toArray).size=l.length*4:=by rw [size_flatK]; show (srtR l).length*4=_; rw [lS]
   have hoth:∀ i:Nat,i≠b→(putRowK encR 4 w b 0 (srtR l).toArray).heap[i]? = w.heap[i]? := fun i hi => by
    show (putRow id w b 0 _).heap[i]? = _
    simp only [putRow,mapBlock,Array.getElem?_modify,if_neg (Ne.symm hi)]
   have hbb:(putRowK encR 4 w b 0 (srtR l).toArray).heap[b]? = some (Obj.cells (putCells id 0 (Sort.flatK encR 4 (srtR l).toArray) c) e fr):=by
    show (putRow id w b 0 _).heap[b]? = _
    simp only [putRow,mapBlock,Array.getElem?_modify,if_true,g2,Option.map_some,onCells]
   have hcel:RL (cx φ H w) (rcells (srtR l)++ds) ((putCells id 0 (Sort.flatK encR 4 (srtR l).toArray) c).toList.take (rcells (srtR l)++ds).length):=by
    have e:(putCells id 0 (Sort.flatK encR 4 (srtR l).toArray) c).toList.take (rcells (srtR l)).length=(srtR l).flatMap encR:=by
     rw [← Zxn,Wo,List.length_map,Xz,lS]
     apply List.ext_getElem?
     intro t
     by_cases ht:t<l.length*4
     ·rw [List.getElem?_take,if_pos ht,Array.getElem?_toList,Array.getElem?_toList]
      have hc:t<c.size:=by rw [lc] at g4; omega
      simp only [putCells,Array.getElem?_mapIdx,Array.getElem?_eq_getElem hc,Option.map_some]
      rw [if_pos ⟨Nat.zero_le _,by rw [sK]; omega⟩,Array.getElem?_eq_getElem (by rw [sK]; exact ht),getElem!_pos _ _ (by rw [sK]; exact ht)]
      rfl
     ·rw [List.getElem?_eq_none (by rw [List.length_take]; omega),List.getElem?_eq_none (by rw [Array.length_toList,sK]; omega)]
    have lq:(rcells (srtR l)).length=(rcells l).length:=by rw [Wo,Wo,List.length_map,List.length_map,Xz,Xz,lS]
    have e2:(putCells id 0 (Sort.flatK encR 4 (srtR l).toArray) c).toList.take (rcells (srtR l)++ds).length=(srtR l).flatMap encR++(c.toList.take (rcells l++ds).length).drop (rcells l).length:=by
     rw [← e,List.length_append,List.length_append,lq]
     apply List.ext_getElem?
     intro t
     have lt:((putCells id 0 (Sort.flatK encR 4 (srtR l).toArray) c).toList.take (rcells l).length).length=(rcells l).length:=by
      have sz:(putCells id 0 (Sort.flatK encR 4 (srtR l).toArray) c).toList.length=c.size:=by simp [putCells]
      rw [List.length_take,sz]; omega
     by_cases ht:t<(rcells l).length
     ·rw [List.getElem?_append_left (by rw [lt]; exact ht),List.getElem?_take,List.getElem?_take,if_pos (by omega),if_pos ht]
     ·rw [List.getElem?_append_right (by rw [lt]; omega),lt,List.getElem?_drop,List.getElem?_take,List.getElem?_take,show (rcells l).length+(t - (rcells l).length)=t by omega]
      by_cases h2:t<(rcells l).length+ds.length
      ·rw [if_pos h2,if_pos h2,Array.getElem?_toList,Array.getElem?_toList]
       have hc:t<c.size:=by omega
       simp only [putCells,Array.getElem?_mapIdx,Array.getElem?_eq_getElem hc,Option.map_some]
       rw [if_neg (by rw [sK]; rw [lc] at ht; omega)]
      ·rw [if_neg h2,if_neg h2]
    rw [e2]
    refine RL.append ?_ g7
    rw [Wo]
    exact Uk _
   obtain ⟨u1,u2⟩:=Jq (S:=cx φ H w) hs (cs':=rcells (srtR l)++ds) (c':=putCells id 0 (Sort.flatK encR 4 (srtR l).toArray) c) (h':=(putRowK encR 4 w b 0 (srtR l).toArray).heap) hob rfl hb g2 (size_putRow ..) hoth hbb (by simp [putCells]) (by show (rcells l++ds).length≤_; rw [List.length_append,List.length_append,lc,Wo,List.length_map,Xz,lS]; omega) (fun h => by cases h) (by rw [List.length_append,Wo,List.length_map,Xz,lS]; simp only [putCells,Array.size_mapIdx]; rw [lc] at g4; omega) hcel
   obtain ⟨u3,u4⟩:=Bi u1 os.toList
   have eh:(putRowK encR 4 w b 0 (srtR l).toArray).heap++os.toList.toArray=(sortWorldK encR 4 w b 0 n (srtR l).toArray os).heap:=by
    rw [Array.toArray_toList]; rfl
   refine ⟨φ,?_,?_,⟨rfl,rfl,rfl⟩,?_⟩
   ·show St ⟨φ,_,(sortWorldK encR 4 w b 0 n (srtR l).toArray os).heap⟩
    rw [← eh]; exact u3
   ·show Ext _ ⟨φ,_,(sortWorldK encR 4 w b 0 n (srtR l).toArray os).heap⟩
    rw [← eh]; exact u2.trans u4
   ·exact ⟨#[],rfl,rfl⟩
end Go.Proofs.YtcgjlpdkobmpnaaGreat.Eng
namespace Go.Proofs
open Go.Shelf Go.RowKit Go.Lib Go.Sort
def YtcgjlpdkobmpnaaGreat.sortRide_ren:Go.Shelf.Ren where
 f:=fun x => match x with
  | 6 => 351
  | 15 => 356
  | 14 => 355
  | 28 => 366
  | 29 => 269
  | 20 => 358
  | 21 => 359
  | 22 => 360
  | 23 => 361
  | 24 => 362
  | 25 => 363
  | 26 => 364
  | 27 => 365
  | 46 => 367
  | 47 => 368
  | 48 => 369
  | 49 => 370
  | 50 => 371
  | 57 => 372
  | n => n
 t:=fun x => match x with
  | 22 => 443
  | 24 => 446
  | 25 => 454
  | 3 => 3
  | 39 => 341
  | 0 => 0
  | 53 => 353
  | 55 => 51
  | 4 => 4
  | 46 => 461
  | 45 => 460
  | 50 => 229
  | 5 => 5
  | 9 => 9
  | 66 => 467
  | 70 => 471
  | 76 => 473
  | 77 => 260
  | n => n
 g:=fun n => n
set_option maxRecDepth 100000 in
theorem YtcgjlpdkobmpnaaGreat.sortRide:SlLaysF0.n6 Tryz.prog YtcgjlpdkobmpnaaGreat.sortRide_ren where
 mixed:=by kernel_rfl
 f6:=⟨"slices.SortFunc[[]clapper/route.ride,clapper/route.ride]",by decide,Tryz.func351.trans (congrArg some (by kernel_rfl))⟩
 f14:=⟨"slices.pdqsortCmpFunc[clapper/route.ride]",by decide,Tryz.func355.trans (congrArg some (by kernel_rfl))⟩
 f15:=Tryz.func356.trans (congrArg some (by kernel_rfl))
 f20:=⟨"slices.insertionSortCmpFunc[clapper/route.ride]",by decide,Tryz.func358.trans (congrArg some (by kernel_rfl))⟩
 f21:=⟨"slices.heapSortCmpFunc[clapper/route.ride]",by decide,Tryz.func359.trans (congrArg some (by kernel_rfl))⟩
 f22:=⟨"slices.breakPatternsCmpFunc[clapper/route.ride]",by decide,Tryz.func360.trans (congrArg some (by kernel_rfl))⟩
 f23:=⟨"slices.choosePivotCmpFunc[clapper/route.ride]",by decide,Tryz.func361.trans (congrArg some (by kernel_rfl))⟩
 f24:=⟨"slices.reverseRangeCmpFunc[clapper/route.ride]",by decide,Tryz.func362.trans (congrArg some (by kernel_rfl))⟩
 f25:=⟨"slices.partialInsertionSortCmpFunc[clapper/route.ride]",by decide,Tryz.func363.trans (congrArg some (by kernel_rfl))⟩
 f26:=⟨"slices.partitionEqualCmpFunc[clapper/route.ride]",by decide,Tryz.func364.trans (congrArg some (by kernel_rfl))⟩
 f27:=⟨"slices.partitionCmpFunc[clapper/route.ride]",by decide,Tryz.func365.trans (congrArg some (by kernel_rfl))⟩
 f28:=Tryz.func366.trans (congrArg some (by kernel_rfl))
 f29:=Tryz.func269.trans (congrArg some (by kernel_rfl))
 f46:=⟨"slices.siftDownCmpFunc[clapper/route.ride]",by decide,Tryz.func367.trans (congrArg some (by kernel_rfl))⟩
 f47:=Tryz.func368.trans (congrArg some (by kernel_rfl))
 f48:=Tryz.func369.trans (congrArg some (by kernel_rfl))
 f49:=⟨"slices.medianAdjacentCmpFunc[clapper/route.ride]",by decide,Tryz.func370.trans (congrArg some (by kernel_rfl))⟩
 f50:=⟨"slices.medianCmpFunc[clapper/route.ride]",by decide,Tryz.func371.trans (congrArg some (by kernel_rfl))⟩
 f57:=⟨"slices.order2CmpFunc[clapper/route.ride]",by decide,Tryz.func372.trans (congrArg some (by kernel_rfl))⟩
 t0:=Tryz.underlying0
 a0:=Tryz.isAgg0
 z0:=Tryz.sizeOf0
 v0:=Tryz.zeroValue0
 t3:=Tryz.underlying3
 a3:=Tryz.isAgg3
 z3:=Tryz.sizeOf3
 v3:=Tryz.zeroValue3
 t4:=Tryz.underlying4
 a4:=Tryz.isAgg4
 z4:=Tryz.sizeOf4
 v4:=Tryz.zeroValue4
 t5:=Tryz.underlying5
 a5:=Tryz.isAgg5
 z5:=Tryz.sizeOf5
 v5:=Tryz.zeroValue5
 t9:=Tryz.underlying9
 a9:=Tryz.isAgg9
 z9:=Tryz.sizeOf9
 v9:=Tryz.zeroValue9
 t22:=Tryz.underlying443
 a22:=Tryz.isAgg443
 z22:=Tryz.sizeOf443
 v22:=Tryz.zeroValue443
 t25:=Tryz.underlying454
 a25:=Tryz.isAgg454
 z25:=Tryz.sizeOf454
 v25:=Tryz.zeroValue454
 t39:=Tryz.underlying341
 a39:=Tryz.isAgg341
 z39:=Tryz.sizeOf341
 v39:=Tryz.zeroValue341
 t45:=Tryz.underlying460
 a45:=Tryz.isAgg460
 z45:=Tryz.sizeOf460
 v45:=Tryz.zeroValue460
 t46:=Tryz.underlying461
 a46:=Tryz.isAgg461
 z46:=Tryz.sizeOf461
 v46:=Tryz.zeroValue461
 t50:=Tryz.underlying229
 a50:=Tryz.isAgg229
 z50:=Tryz.sizeOf229
 v50:=Tryz.zeroValue229
 t53:=Tryz.underlying353
 a53:=Tryz.isAgg353
 z53:=Tryz.sizeOf353
 v53:=Tryz.zeroValue353
 t55:=Tryz.underlying51
 a55:=Tryz.isAgg51
 z55:=Tryz.sizeOf51
 v55:=Tryz.zeroValue51
 t66:=Tryz.underlying467
 a66:=Tryz.isAgg467
 z66:=Tryz.sizeOf467
 v66:=Tryz.zeroValue467
 t70:=Tryz.underlying471
 a70:=Tryz.isAgg471
 z70:=Tryz.sizeOf471
 v70:=Tryz.zeroValue471
 t76:=Tryz.underlying473
 a76:=Tryz.isAgg473
 z76:=Tryz.sizeOf473
 v76:=Tryz.zeroValue473
 t77:=Tryz.underlying260
 a77:=Tryz.isAgg260
 z77:=Tryz.sizeOf260
 v77:=Tryz.zeroValue260
def YtcgjlpdkobmpnaaGreat.cmpInt_ren:Go.Shelf.Ren where
 f:=fun x => match x with
  | 5 => 216
  | 7 => 297
  | n => n
 t:=fun x => match x with
  | 22 => 3
  | 3 => 3
  | 4 => 4
  | n => n
 g:=fun n => n
set_option maxRecDepth 100000 in
theorem YtcgjlpdkobmpnaaGreat.cmpInt:SlLaysC2.n5 Tryz.prog YtcgjlpdkobmpnaaGreat.cmpInt_ren where
 mixed:=by kernel_rfl
 f5:=⟨"cmp.Compare[int]",by decide,Tryz.func216.trans (congrArg some (by kernel_rfl))⟩
 f7:=⟨"cmp.isNaN[int]",by decide,Tryz.func297.trans (congrArg some (by kernel_rfl))⟩
 t3:=Tryz.underlying3
 a3:=Tryz.isAgg3
 z3:=Tryz.sizeOf3
 v3:=Tryz.zeroValue3
 t4:=Tryz.underlying4
 a4:=Tryz.isAgg4
 z4:=Tryz.sizeOf4
 v4:=Tryz.zeroValue4
 t22:=Tryz.underlying3
 a22:=Tryz.isAgg3
 z22:=Tryz.sizeOf3
 v22:=Tryz.zeroValue3
set_option maxHeartbeats 1000000 in
theorem YtcgjlpdkobmpnaaGreat.closure38 (x1 x2 x3 x4 y1 y2 y3 y4:Int) (W:World):Calls Tryz.prog 352 #[.agg #[.int .i64 x1,.int .i64 x2,.int .i64 x3,.int .i64 x4],.agg #[.int .i64 y1,.int .i64 y2,.int .i64 y3,.int .i64 y4]] W fun e w' => e=.returned (.int .i64 (Lib.compareInt x2 y2))∧∃ q os',w'=grow (W.drewN q) os':=by
 have hcon:=fun W' => AnyG.cmp_Compare_int YtcgjlpdkobmpnaaGreat.cmpInt x2 y2 W'
 change ∀ W',Calls Tryz.prog 216 _ _ _ at hcon
 generalize Lib.compareInt x2 y2=r at hcon ⊢
 go_enter Tryz.func352,Tryz.ntmps352
 go_wp2_with (go_at_call 216; refine (hcon _).mono ?_; rintro e w' ⟨rfl,rfl⟩)
 go_ret
 exact ⟨rfl,0,_,by rw [alloc_eq_grow,alloc_eq_grow,grow_grow]; rfl⟩
end Go.Proofs
namespace Go.Proofs.YtcgjlpdkobmpnaaGreat.Eng
open Go Go.Proofs
set_option linter.unusedVariables false
set_option linter.unusedSimpArgs false
set_option maxRecDepth 10000
theorem Zzz {H:AH} {p:Nat} {l:List Rid} {ds:List AV} (hp:p<H.length) (ho:obj H p=⟨rcells l++ds,4,true⟩) (h0:0<l.length) (h62:l.length<4611686018427387904) {L:Nat} (hL:L=(rcells l++ds).length) :
  Called Tryz.prog F.slices_SortFunc_route_ride_route_ride [.row p 0 l.length L,.fn (.func F.route_rides_1) [] []] H (.tup []) (H.set p ⟨rcells (srtR l)++ds,4,true⟩):=by
 have eg:∀ args w,(callFunc 352 args).run Tryz.prog w=.ok (.enter 352 args) w:=enters_of Tryz.func352 (by kernel_rfl) rfl
 exact Zbg YtcgjlpdkobmpnaaGreat.sortRide Tryz.isAgg446 Tryz.sizeOf446 352 eg (fun x y W => YtcgjlpdkobmpnaaGreat.closure38 _ _ _ _ _ _ _ _ W) (by kernel_rfl) hp ho h0 h62 hL
end Go.Proofs.YtcgjlpdkobmpnaaGreat.Eng
namespace Go.Proofs.YtcgjlpdkobmpnaaGreat.Eng
open Go Go.Proofs
set_option linter.unusedVariables false
set_option linter.unusedSimpArgs false
def GRs (sz:Nat) (H:AH) (x:AV) (vs:List AV) (n:Nat):Prop :=
 (x=nilS∧vs=[]∧n=0)∨∃ q L cs,x=.row q 0 n L∧q<H.length∧obj H q=⟨cs,sz,true⟩∧L=cs.length∧vs.length=n*sz∧n*sz≤L∧cs.take (n*sz)=vs
section
variable {sz n:Nat} {H H':AH} {x s:AV} {vs ws:List AV} {b:Nat}
theorem GRs.frame (h:GRs sz H x vs n) {S:Nat→Prop} (hf:Fr H H' S) (hs:∀ q,rid x=some q→¬ S q):GRs sz H' x vs n:=by
 rcases h with h | ⟨q,L,cs,rfl,h1,h2,h3⟩
 ·exact .inl h
 ·exact .inr ⟨q,L,cs,rfl,Nat.lt_of_lt_of_le h1 hf.1,(hf.2 q h1 (hs q rfl)).trans h2,h3⟩
theorem GRs.sl (h:GRs sz H x vs n):Sl sz H x vs n:=by
 rcases h with ⟨rfl,rfl,rfl⟩ | ⟨q,L,cs,rfl,h1,h2,h3,h4,h5,h6⟩
 ·exact .nil
 ·exact .row h1 (by rw [h2,h3]) (by omega) (by rw [h2]; simpa using h6) (.inl (by rw [h2]))
theorem GRs.lt (h:GRs sz H x vs n) {q:Nat} (hq:rid x=some q):q<H.length:=by
 rcases h with ⟨rfl,rfl,_⟩ | ⟨q',L,cs,rfl,h1,_⟩
 ·cases hq
 ·cases hq; exact h1
theorem GRs.app (h:GRs sz H x vs n) (h1:Wz sz H s) (h2:srcC sz H s=ws) (h3:srcN s=1) (h4:ws.length=sz) (hv:ws.all AV.one=true) (hb:(n+1)*b≤140737488355328) :
  Rs sz b H x s∧GRs sz (appH sz H s x) (appV sz H s x) (vs++ws) (n+1)∧New H x (appV sz H s x)∧Fr H (appH sz H s x) (fun i => rid x=some i):=by
 have hs:(n+1)*sz=n*sz+sz:=Nat.succ_mul n sz
 rcases h with ⟨rfl,rfl,rfl⟩ | ⟨q,L,cs,rfl,g1,g2,g3,g0,g4,g5⟩
 ·refine ⟨⟨h1,by rw [h2]; exact hv,by rw [h3]; simpa [srcN] using hb,trivial⟩,?_,?_,?_⟩
  ·rw [Se,Sf,h2,h3]
   exact .inr ⟨H.length,ws.length,ws,rfl,by simp,by rw [Ym]; rfl,rfl,by rw [List.nil_append,h4]; omega,by rw [h4]; omega,List.take_of_length_le (by rw [h4]; omega)⟩
  ·intro q hq; rw [Se] at hq; cases hq; exact .inr (Nat.le_refl _)
  ·rw [Sf]; exact Fr.app _ _ _
 ·refine ⟨⟨h1,by rw [h2]; exact hv,by rw [h3]; exact hb,g1,by rw [g2,g3],by rw [g2],by rw [g2],by omega,.inl rfl⟩,?_,?_,?_⟩
  ·rw [Up,Uq,h2,h3,g2]
   refine .inr ⟨q,_,_,rfl,by rw [Zu]; exact g1,by rw [Vm _ _ g1,g2],?_,by rw [List.length_append,g0,h4]; omega,?_,?_⟩
   ·simp only [appL,appC,Nat.zero_add]
    split
    ·simp [g3]
    ·simp only [List.length_append,List.length_take,List.length_drop]; omega
   ·simp only [appL,Nat.zero_add]
    split <;> omega
   ·simp only [appC,Nat.zero_add]
    split
    ·rename_i hh
     have:cs=vs:=by rw [← g5,List.take_of_length_le (by omega)]
     subst this
     rw [List.take_of_length_le (by rw [List.length_append]; omega)]
    ·rw [g5,List.take_append_of_le_length (by rw [List.length_append]; omega),List.take_of_length_le (by rw [List.length_append]; omega)]
  ·intro q' hq; rw [Up] at hq; exact .inl hq
  ·rw [Uq]; exact Fr.set _ _ rfl
theorem GRs.step {K:AH} (h:GRs sz (H++K) x vs n) (hq:∀ q,rid x=some q→H.length≤q) (h1:Wz sz (H++K) s) (h2:srcC sz (H++K) s=ws) (h3:srcN s=1) (h4:ws.length=sz) (hv:ws.all AV.one=true) (hb:(n+1)*b≤140737488355328) :
  Rs sz b (H++K) x s∧∃ K',appH sz (H++K) s x=H++K'∧GRs sz (H++K') (appV sz (H++K) s x) (vs++ws) (n+1)∧∀ q,rid (appV sz (H++K) s x)=some q→H.length≤q:=by
 obtain ⟨a1,a2,a3,a4⟩:=h.app (b:=b) h1 h2 h3 h4 hv hb
 have f1:Fr H (H++K) (fun i => rid x=some i):=Fr.app _ _ _
 have f2:Fr H (appH sz (H++K) s x) (fun _ => False):=(f1.trans a4).mono fun i hi h => by have:=hq i h; omega
 obtain ⟨K',e⟩:=f2.split fun _ h => h
 refine ⟨a1,K',e,e ▸ a2,fun q h => ?_⟩
 rcases a3 q h with h | h
 ·exact hq q h
 ·rw [List.length_append] at h; omega
theorem GRs.more {K:AH} (h:GRs sz (H++K) x vs n) (o:AObj):GRs sz (H++(K++[o])) x vs n:=by
 rw [← List.append_assoc]
 exact h.frame (Fr.app _ _ (fun _ => False)) fun _ _ h => h
theorem GRs.view {K:AH} (hz:0<sz) (h:GRs sz (H++K) x vs n) (hq:∀ q,rid x=some q→H.length≤q) (hp:Ye vs=true):Le (low (renk H.length []) (H++K) x) (.view vs n false):=by
 rcases h with ⟨rfl,rfl,rfl⟩ | ⟨q,L,cs,rfl,h1,h2,h3,h0,h4,h5⟩
 ·exact Nz false
 ·have h6:=hq q rfl
  have e:renk H.length [] q=none:=by
   rw [renk,if_neg (by omega)]; rfl
  have e2:low (renk H.length []) (H++K) (.row q 0 n L)=.view vs n false:=by
   simp only [low,e,Ri,h2,if_neg (show ¬ sz=0 by omega),List.drop_zero,h5]
   rw [if_pos ⟨h3,by omega,hp⟩]
  rw [e2]; exact Le.refl _
end
end Go.Proofs.YtcgjlpdkobmpnaaGreat.Eng
namespace Go.Proofs.YtcgjlpdkobmpnaaGreat.Eng
open Go Go.Proofs
set_option linter.unusedVariables false
set_option linter.unusedSimpArgs false
set_option maxRecDepth 10000
def rnS (S:List Sv) (svc day:Int):Bool:=G4 (S.getD svc.toNat noSv).s day
theorem Nq {S:List Sv} {C:List Cn} (h:netB S C=true):S.length≤16∧C.length≤100∧(∀ p ∈ S,mayB p.s=true)∧∀ c ∈ C,cnB S.length c=true:=by
 simp only [netB,Bool.and_eq_true,decide_eq_true_eq,List.all_eq_true] at h
 exact ⟨h.1.1.1,h.1.1.2,h.1.2,h.2⟩
def outK (S:List Sv) (C:List Cn) (m till:Int) (k i:Nat):List Rid:=((List.range k).flatMap fun (j:Nat) => dayR (rnS S) m till C (m / 1440+j))++dayR (rnS S) m till (C.take i) (m / 1440+k)
section
variable {S:List Sv} {C:List Cn} {m till:Int}
theorem Zkn (k:Nat):outK S C m till k C.length=outK S C m till (k+1) 0:=by
 rw [outK,outK,List.take_length,List.range_succ,List.flatMap_append,List.take_zero]
 simp [dayR]
theorem Dw:outK S C m till (Pt m till) 0=Ts (rnS S) m till C:=by
 rw [outK,Ts,List.take_zero]; simp [dayR]
theorem Zkm {k i:Nat} (hi:i<C.length):outK S C m till k (i+1)=if Zqw (rnS S) m till (m / 1440+k) (C.getD i noCn)=true then outK S C m till k i++[(C.getD i noCn).rid (m / 1440+k)] else outK S C m till k i:=by
 have e:C.getD i noCn=C[i]:=by rw [List.getD_eq_getElem?_getD,List.getElem?_eq_getElem hi]; rfl
 rw [outK,outK,List.take_succ_eq_append_getElem hi,e,dayR,dayR,List.filter_append,List.map_append]
 split
 ·rename_i h
  rw [List.filter_cons,if_pos h,List.append_assoc]; rfl
 ·rename_i h
  rw [List.filter_cons,if_neg h]; simp
theorem Cv (day:Int):(dayR (rnS S) m till C day).length≤C.length:=by
 rw [dayR,List.length_map]; exact List.length_filter_le ..
theorem Dv {k i:Nat} (hC:C.length≤100):(outK S C m till k i).length≤k*100+100:=by
 rw [outK,List.length_append]
 have h1:(dayR (rnS S) m till (C.take i) (m / 1440+k)).length≤100:=Nat.le_trans (Cv _) (by rw [List.length_take]; omega)
 have h2:((List.range k).flatMap fun (j:Nat) => dayR (rnS S) m till C (m / 1440+j)).length≤k*100:=by
  induction k with
  | zero => simp
  | succ k ih =>
   rw [List.range_succ,List.flatMap_append,List.length_append]
   have:=Cv (S:=S) (C:=C) (m:=m) (till:=till) (m / 1440+(k:Nat))
   have ih:=ih (Nat.le_trans (Cv _) (by rw [List.length_take]; omega))
   simp only [List.flatMap_cons,List.flatMap_nil,List.append_nil]
   omega
 omega
end
theorem Zgk (a b:List Rid):rcells (a++b)=rcells a++rcells b:=List.flatMap_append
theorem Sy (l:List Rid):(rcells l).length=l.length*4:=by rw [Wo,List.length_map,Xz]
theorem Zbt (l:List Rid):Ye (rcells l)=true:=by rw [Wo]; exact Rj _ _
theorem Zgj (r:Rid):rcells [r]=[I r.f,I r.d,I r.t,I r.a]:=rfl
theorem Zu7 {H:AH} {x:AV} (hx:x=nilS∨∃ q L,x=.row q 0 0 L):Called Tryz.prog F.slices_SortFunc_route_ride_route_ride [x,.fn (.func F.route_rides_1) [] []] H (.tup []) H:=by
 refine ⟨by kernel_rfl,fun φ w vals hs hr => ?_⟩
 obtain ⟨vl⟩:=vals
 obtain ⟨u,t1,e1,hu,hr⟩:=hr
 obtain ⟨y,t2,e2,hy,hr⟩:=hr
 have e3:t2=[]:=hr
 subst e3; subst e2
 have e1:vl=[u,y]:=e1
 subst e1
 have e:∃ a cap,u=.slice a 0 cap:=by
  rcases hx with rfl | ⟨q,L,rfl⟩
  ·exact ⟨none,0,hu⟩
  ·obtain ⟨a,cap,h,_⟩:=hu
   exact ⟨a,cap,h⟩
 obtain ⟨a,cap,rfl⟩:=e
 exact (AnyF.slices_SortFunc_none YtcgjlpdkobmpnaaGreat.sortRide a cap y w).mono fun e w' ⟨he,hw⟩ => ⟨_,he,by subst hw; exact Zn hs ⟨#[],rfl,rfl⟩⟩
section
variable {H:AH} {sx cx:AV} {S:List Sv} {C:List Cn}
def Zj8 (S:List Sv) (C:List Cn) (m till:Int):AV:=.view (rcells (srtR (Ts (rnS S) m till C))) (Ts (rnS S) m till C).length false
theorem Zu9 (hs:Sl 5 H sx (svcs S) S.length) (hc:Sl 5 H cx (cncs C) C.length) (hS:∀ p ∈ S,p.ok∧p.few) (hN:netB S C=true) {m till:Int} (h0:0≤m) (h1:m≤1073741824) (h2:m≤till) (h3:till≤m+4320) :
  Called Tryz.prog F.route_rides [.agg (net sx cx),I m,I till] H (Zj8 S C m till) H:=by
 obtain ⟨n1,n2,n3,n4⟩:=Nq hN
 have hsK:∀ K,Sl 5 (H++K) sx (svcs S) S.length:=fun K => hs.app
 have hcK:∀ K,Sl 5 (H++K) cx (cncs C) C.length:=fun K => hc.app
 have q1:IntKind.i64.wrap (m.tdiv 1440)=m / 1440+((0:Nat):Int):=by rw [Int.tdiv_eq_ediv_of_nonneg h0,w64 _ (by omega) (by omega)]; omega
 have q2:IntKind.i64.wrap (till.tdiv 1440)=till / 1440:=by rw [Int.tdiv_eq_ediv_of_nonneg (by omega),w64 _ (by omega) (by omega)]
 have dn:Pt m till≤5:=by unfold Pt; omega
 refine Ch ?_
 simp only [P1,go_sem,net,hs.s,hc.s,hs.one,hc.one,q1]
 obtain ⟨N,hNo⟩:∃ N:AObj,N=⟨[sx,cx],0,true⟩:=⟨_,rfl⟩
 rw [← hNo]
 have oN:N.cs=[sx,cx]∧N.sz=0∧N.rw=true:=by rw [hNo]; exact ⟨rfl,rfl,rfl⟩
 clear hNo
 refine ⟨by decide,?_⟩
 refine Z1 _ (fun (s:Nat × AV × AH) => ([(1,I m),(2,I till),(3,.ptr H.length 0),(7,s.2.1),(8,I (m / 1440+s.1))],H++(N::s.2.2)))
  (fun s => s.1≤Pt m till∧GRs 4 (H++(N::s.2.2)) s.2.1 (rcells (outK S C m till s.1 0)) (outK S C m till s.1 0).length∧∀ q,rid s.2.1=some q→H.length+1≤q) (fun s => Pt m till - s.1) (0,nilS,[]) ⟨Nat.zero_le _,.inl ⟨rfl,by simp [outK,dayR,rcells],by simp [outK,dayR]⟩,fun q h => by cases h⟩ rfl ?_
 rintro ⟨k,y,G⟩ ⟨hk,hg,hq⟩
 simp only at hk hg hq
 simp only [go_sem,q2]
 refine ⟨by decide,fun hh => ?_,fun hh => ?_⟩
 ·have hlt:k<Pt m till:=by unfold Pt; omega
  obtain ⟨day,hday⟩:∃ day:Int,day=m / 1440+k:=⟨_,rfl⟩
  rw [← hday]
  simp only [go_sem,oN,hc.s]
  refine ⟨by simp,?_⟩
  refine Z1 _ (fun (s:Nat × AV × AH) => ([(1,I m),(2,I till),(3,.ptr H.length 0),(7,s.2.1),(8,I day),(21,cx),(22,I C.length),(23,I s.1)],H++(N::s.2.2)))
   (fun s => s.1≤C.length∧GRs 4 (H++(N::s.2.2)) s.2.1 (rcells (outK S C m till k s.1)) (outK S C m till k s.1).length∧∀ q,rid s.2.1=some q→H.length+1≤q) (fun s => C.length - s.1) (0,y,G) ⟨Nat.zero_le _,hg,hq⟩ rfl ?_
  clear hg hq y G
  rintro ⟨i,y,G⟩ ⟨hi,hg,hq⟩
  simp only at hi hg hq
  simp only [go_sem]
  refine ⟨fun hh => ?_,fun hh => ?_⟩
  ·have hi':i<C.length:=by omega
   have ck:=cnB_iff.1 (n4 _ (Zl noCn hi'))
   have ld:∀ K,Yc true 5 (H++K) (Z5 5 (.lit (.int .i64 i)) cx)=.agg (C.getD i noCn).cells:=fun K => (hcK K).cn hi'
   have lk:∀ K,Z6 5 (H++K) (Z5 5 (I (i:Int)) cx)=True:=fun K => (hcK K).ldOk .i64 hi' (Nat.le_refl _)
   have os:=Zkm (S:=S) (C:=C) (m:=m) (till:=till) (k:=k) hi'
   have ol:=Dv (S:=S) (C:=C) (m:=m) (till:=till) (k:=k) (i:=i) n2
   generalize C.getD i noCn=c at ck ld os
   obtain ⟨svc,from_,dep,to,arr⟩:=c
   simp only at ck
   obtain ⟨⟨c1,c2⟩,⟨c3,c4⟩,⟨c5,c6⟩,⟨c7,c8⟩,c9,c10⟩:=ck
   obtain ⟨v,rfl⟩:∃ v:Nat,svc=v:=⟨svc.toNat,by omega⟩
   obtain ⟨f,rfl⟩:∃ f:Nat,from_=f:=⟨from_.toNat,by omega⟩
   obtain ⟨w,rfl⟩:∃ w:Nat,to=w:=⟨to.toNat,by omega⟩
   have hv:v<S.length:=by omega
   have sok:=hS _ (Zl noSv hv)
   have sm:=n3 _ (Zl noSv hv)
   have ld2:∀ K,Yc true 5 (H++K) (Z5 5 (.lit (.int .i64 v)) sx)=.agg (S.getD v noSv).cells:=fun K => (hsK K).sv hv
   have lk2:∀ K,Z6 5 (H++K) (Z5 5 (I (v:Int)) sx)=True:=fun K => (hsK K).ldOk .i64 hv (Nat.le_refl _)
   have run:=fun K => Zvt day K sok.1 sok.2
   rw [sm,Bool.true_and] at run
   have ek:Zqw (rnS S) m till (m / 1440+k) ⟨v,f,dep,w,arr⟩=((decide (m≤1440*day+dep)&&decide (1440*day+arr≤till))&&G4 (S.getD v noSv).s day):=by rw [← hday]; rfl
   have er:Cn.rid ⟨v,f,dep,w,arr⟩ (m / 1440+k)=⟨f,1440*day+dep,w,1440*day+arr⟩:=by rw [← hday]; rfl
   rw [ek,er] at os
   have w0:IntKind.i64.wrap (day*1440)=1440*day:=by rw [w64 _ (by omega) (by omega)]; omega
   have w1:IntKind.i64.wrap (1440*day+dep)=1440*day+dep:=w64 _ (by omega) (by omega)
   have w2:IntKind.i64.wrap (1440*day+arr)=1440*day+arr:=w64 _ (by omega) (by omega)
   have w3:IntKind.i64.wrap ((i:Int)+1)=((i+1:Nat):Int):=by rw [w64 _ (by omega) (by omega)]; omega
   generalize G4 (S.getD v noSv).s day=rb at run os
   simp only [go_sem,hc.idx,ld,lk,hc.un,Cn.cells,w0,w1,w2,oN]
   refine ⟨⟨by omega,by omega⟩,?_⟩
   simp only [go_sem,hs.idx,ld2,lk2,hs.un,oN]
   refine ⟨fun _ => by omega,fun _ => by omega,Zq (fun _ => run _) ?_⟩
   have hg2:∀ o1 o2,GRs 4 (H++(N::(G++[o1,o2]))) y (rcells (outK S C m till k i)) (outK S C m till k i).length:=fun o1 o2 => by
    rw [show N::(G++[o1,o2])=((N::G)++[o1])++[o2] from by simp]
    exact (hg.more _).more _
   generalize ((decide (m≤1440*day+dep)&&decide (1440*day+arr≤till)):Bool)=kb at os ⊢
   simp only [go_sem]
   refine ⟨fun hb => ?_,fun hb => ?_⟩
   ·rw [if_pos hb] at os
    have hb32:((outK S C m till k i).length+1)*32≤140737488355328:=by have hk5:k<5:=(by omega); omega
    have st:=GRs.step (H:=H++[N]) (K:=G++[⟨[I v,I f,I dep,I w,I arr],0,true⟩,⟨[I f,I (1440*day+dep),I w,I (1440*day+arr)],0,true⟩]) (b:=32) (s:=.view [I f,I (1440*day+dep),I w,I (1440*day+arr)] 1 true) (ws:=[I f,I (1440*day+dep),I w,I (1440*day+arr)]) (by rw [List.append_assoc]; exact hg2 _ _) (fun q h => by have:=hq q h; simp; omega) (show (4:Nat)=1*4 from rfl) rfl rfl rfl rfl hb32
    simp only [List.append_assoc,List.singleton_append] at st
    obtain ⟨⟨a1,a2,a3,a4⟩,K',e1,g2,g3⟩:=st
    refine ⟨⟨a3,a4⟩,(i+1,appV 4 (H++N::(G++[⟨[I v,I f,I dep,I w,I arr],0,true⟩,⟨[I f,I (1440*day+dep),I w,I (1440*day+arr)],0,true⟩])) (.view [I f,I (1440*day+dep),I w,I (1440*day+arr)] 1 true) y,K'),?_,e1,⟨by show i+1≤_; omega,?_,fun q h => by have:=g3 q h; simpa using this⟩,by show _ - (i+1)<_; omega⟩
    ·rw [w3]
    ·show GRs 4 (H++N::K') (appV 4 _ _ y) (rcells (outK S C m till k (i+1))) (outK S C m till k (i+1)).length
     rw [os,Zgk,List.length_append,Zgj]; exact g2
   ·rw [if_neg (by rw [hb]; decide)] at os
    refine ⟨(i+1,y,_),?_,rfl,⟨by show i+1≤_; omega,?_,hq⟩,by show _ - (i+1)<_; omega⟩
    ·rw [w3]
    ·show GRs 4 _ y (rcells (outK S C m till k (i+1))) (outK S C m till k (i+1)).length
     rw [os]; exact hg2 _ _
  ·have hi':i=C.length:=by omega
   subst hi'
   rw [Zkn] at hg
   have w4:IntKind.i64.wrap (day+1)=m / 1440+((k+1:Nat):Int):=by rw [w64 _ (by omega) (by omega)]; omega
   exact ⟨(k+1,y,G),by rw [w4],rfl,⟨by show k+1≤_; omega,hg,hq⟩,by show _ - (k+1)<_; omega⟩
 ·have hk':k=Pt m till:=by unfold Pt at *; omega
  subst hk'
  rw [Dw] at hg
  have ll:(Ts (rnS S) m till C).length≤1000:=by rw [← Dw]; have:=Dv (S:=S) (C:=C) (m:=m) (till:=till) (k:=Pt m till) (i:=0) n2; omega
  rw [Zj8]
  generalize Ts (rnS S) m till C=l at hg ll ⊢
  by_cases hl:l.length=0
  ·have hl:l=[]:=List.eq_nil_of_length_eq_zero hl
   subst hl
   have e0:srtR []=[]:=List.eq_nil_of_length_eq_zero (O8 [])
   rw [e0]
   have hv:=GRs.view (H:=H) (K:=N::G) (by decide) hg (fun q h => by have:=hq q h; omega) rfl
   refine Za (Zu7 ?_) (fun h => by cases h) ?_
   ·rcases hg with ⟨rfl,_,_⟩ | ⟨q,L,cs,rfl,_⟩
    ·exact .inl rfl
    ·exact .inr ⟨q,L,rfl⟩
   ·simp only [go_sem]
    exact Ww hv
  ·rcases hg with ⟨_,_,h⟩ | ⟨q,L,cs,rfl,g1,g2,g3,g4,g5,g6⟩
   ·omega
   ·have gq:=hq q rfl
    have ec:cs=rcells l++cs.drop (l.length*4):=by rw [← g6,List.take_append_drop]
    generalize cs.drop (l.length*4)=ds at ec
    subst ec
    have ts:=Zzz (l:=l) (ds:=ds) g1 g2 (by omega) (by omega) g3
    have es:(H++N::G).set q ⟨rcells (srtR l)++ds,4,true⟩=H++((N::G).set (q - H.length) ⟨rcells (srtR l)++ds,4,true⟩):=by rw [List.set_append_right _ _ (by omega)]
    rw [es] at ts
    have sl:=O8 l
    have rl:=Sy (srtR l)
    have hv:=GRs.view (sz:=4) (n:=l.length) (x:=.row q 0 l.length L) (vs:=rcells (srtR l)) (H:=H) (K:=(N::G).set (q - H.length) ⟨rcells (srtR l)++ds,4,true⟩) (by decide) (.inr ⟨q,L,rcells (srtR l)++ds,rfl,by rw [List.length_append,List.length_set,← List.length_append]; exact g1,by
      rw [← es]
      exact U6 (by rw [List.getElem?_set,if_pos rfl,if_pos g1]),by rw [g3,List.length_append,List.length_append,rl,Sy,sl],by rw [rl,sl],by rw [g3,List.length_append,Sy]; omega,List.take_left' (by rw [rl,sl])⟩) (fun q' h => by cases h; omega) (Zbt _)
    refine Za ts (fun h => by cases h) ?_
    simp only [go_sem]
    exact Ww hv
end
end Go.Proofs.YtcgjlpdkobmpnaaGreat.Eng
namespace Go.Proofs.YtcgjlpdkobmpnaaGreat.Eng
open Go Go.Proofs
set_option linter.unusedVariables false
set_option linter.unusedSimpArgs false
set_option maxRecDepth 10000
def Fa (S:List Sv) (C:List Cn) (s m x till:Int):Bool:=(((((netB S C&&G0 s)&&G0 x)&&decide (0≤m))&&decide (m≤1073741824))&&decide (m≤till))&&decide (till≤m+4320)
theorem En {S:List Sv} {C:List Cn} {s m x till:Int} (h:Fa S C s m x till=true):netB S C=true∧(0≤s∧s<32)∧(0≤x∧x<32)∧0≤m∧m≤1073741824∧m≤till∧till≤m+4320:=by
 simp only [Fa,G0,Bool.and_eq_true,decide_eq_true_eq] at h
 exact ⟨h.1.1.1.1.1.1,h.1.1.1.1.1.2,h.1.1.1.1.2,h.1.1.1.2,h.1.1.2,h.1.2,h.2⟩
def Zcy (S:List Sv) (C:List Cn) (s m x till:Int):Option Int:=Zxv (srtR (Ts (rnS S) m till C)) s.toNat m x.toNat till
def Zrs (S:List Sv) (C:List Cn) (s m x till:Int):AV:=if Fa S C s m x till=true then (match Zcy S C s m x till with | none => .tup [I 0,Bl false,nilE] | some v => .tup [I v,Bl true,nilE]) else .tup [I 0,Bl false,.lit (.iface T.api_Code (.int .i64 1))]
def iniB (v:Int) (i:Nat):List Int:=List.replicate i v++List.replicate (32 - i) 0
theorem Ze9 (v:Int) {i:Nat} (h:i≤32):(iniB v i).length=32:=by rw [iniB,List.length_append,List.length_replicate,List.length_replicate]; omega
theorem Zq6 (v:Int) {i:Nat} (h:i<32):(iniB v i).set i v=iniB v (i+1):=by
 rw [iniB,iniB,List.set_append_right _ _ (by simp),List.length_replicate,Nat.sub_self,show 32 - i=(32 - (i+1))+1 by omega,List.replicate_succ,List.set_cons_zero,List.replicate_succ' (n:=i),List.append_assoc]; rfl
theorem Rid.len (r:Rid):r.cells.length=4:=rfl
def B6:Rid:=⟨0,0,0,0⟩
theorem Dz (b:List Int) (i:Nat) (v:Int):(b.map I).set i (I v)=(b.set i v).map I:=by rw [List.map_set]
theorem D0 (b:List Int) (i:Nat) (h:i<b.length):(b.map I).getD i .junk=I (b.getD i 0):=by
 rw [List.getD_eq_getElem?_getD,List.getElem?_map,List.getElem?_eq_getElem h,List.getD_eq_getElem?_getD,List.getElem?_eq_getElem h]; rfl
section
variable {H:AH} {sx cx:AV} {S:List Sv} {C:List Cn}
theorem Zfx (hs:Sl 5 H sx (svcs S) S.length) (hc:Sl 5 H cx (cncs C) C.length) (hS:∀ p ∈ S,p.ok∧p.few) {s m x till:Int} :
  Called Tryz.prog F.route_Earliest [.agg (net sx cx),I s,I m,I x,I till] H (Zrs S C s m x till) H:=by
 have hsK:∀ K,Sl 5 (H++K) sx (svcs S) S.length:=fun K => hs.app
 have hcK:∀ K,Sl 5 (H++K) cx (cncs C) C.length:=fun K => hc.app
 have rm:=fun K => Fm (hsK K) (hcK K) hS
 refine Jj ?_
 simp only [net] at rm ⊢
 simp only [Ra,go_sem,hs.one,hc.one]
 refine Za (rm _) (fun _ => rfl) ?_
 simp only [go_sem]
 refine Zq (fun _ => Zd2 _ _) ?_
 simp only [go_sem]
 refine Zq (fun _ => Zd2 _ _) ?_
 simp only [go_sem]
 refine ⟨fun h => ?_,fun h => ?_⟩
 ·have hf:Fa S C s m x till=false:=by
   rw [Bool.eq_false_iff]
   intro hf
   obtain ⟨h1,h2,h3,h4,h5,h6,h7⟩:=En hf
   rw [w64 (m+4320) (by omega) (by omega)] at h
   simp [h1,G0] at h
   omega
  rw [Zrs,hf]
  exact Zc rfl
 ·have hf:Fa S C s m x till=true:=by
   simp only [Bool.or_eq_true,not_or,Bool.not_eq_true',Bool.not_eq_false,decide_eq_true_eq,Bool.or_eq_false_iff,Bool.not_eq_true,decide_eq_false_iff_not] at h
   obtain ⟨⟨⟨⟨⟨⟨h1,h2⟩,h3⟩,h4⟩,h5⟩,h6⟩,h7⟩:=h
   rw [w64 (m+4320) (by omega) (by omega)] at h7
   simp only [Fa,Bool.and_eq_true,decide_eq_true_eq]
   simp at h1 h2 h3
   exact ⟨⟨⟨⟨⟨⟨h1,h2⟩,h3⟩,by omega⟩,by omega⟩,by omega⟩,by omega⟩
  obtain ⟨h1,h2,h3,h4,h5,h6,h7⟩:=En hf
  rw [Zrs,if_pos hf]
  obtain ⟨N,hNo⟩:∃ N:AObj,N=⟨[sx,cx],0,true⟩:=⟨_,rfl⟩
  have oN:N.cs=[sx,cx]∧N.sz=0∧N.rw=true:=by rw [hNo]; exact ⟨rfl,rfl,rfl⟩
  rw [← hNo]
  clear hNo
  have wt:IntKind.i64.wrap (till+1)=till+1:=w64 _ (by omega) (by omega)
  refine Z1 _ (fun (i:Nat) => ([(1,I s),(2,I m),(3,I x),(4,I till),(5,.ptr H.length 0),(13,.ptr (H.length+1) 0),(50,I i)],H++[N,⟨(iniB (till+1) i).map I,0,true⟩])) (fun i => i≤32) (fun i => 32 - i) 0 (Nat.zero_le _) rfl ?_
  intro i hi
  simp only [go_sem]
  refine ⟨fun hh => ?_,fun hh => ?_⟩
  ·have hi':i<32:=by omega
   simp only [go_sem,wt,List.length_map,Ze9 _ hi]
   refine ⟨⟨by omega,by omega⟩,by omega,i+1,?_,?_,by omega,by omega⟩
   ·rw [w64 _ (by omega) (by omega)]; rfl
   ·rw [← Zq6 _ hi',← Dz]
  ·have hi':i=32:=by omega
   subst hi'
   obtain ⟨sn,rfl⟩:∃ sn:Nat,s=sn:=⟨s.toNat,by omega⟩
   obtain ⟨xn,rfl⟩:∃ xn:Nat,x=xn:=⟨x.toNat,by omega⟩
   have hsn:sn<32:=by omega
   have hxn:xn<32:=by omega
   have rr:=fun K => Zu9 (H:=H++K) (hsK K) (hcK K) hS h1 h4 h5 h6 h7
   have hR:=Bk (Ts (rnS S) m till C)
   have hU:∀ r ∈ srtR (Ts (rnS S) m till C),r.f<32∧r.t<32∧-9223372036854775808≤r.d∧True:=fun r hr => by
    have h:=(Zgg (Nq h1).2.2.2 h4 r).1 (hR.1.mem_iff.1 hr)
    have:=Z4z (Nq h1).2.2.2 r h.1
    exact ⟨this.1,this.2.1,by omega,trivial⟩
   rw [Zj8,← O8] at rr
   have lL:(srtR (Ts (rnS S) m till C)).length≤1000:=by
    rw [O8,← Dw]
    have:=Dv (S:=S) (C:=C) (m:=m) (till:=till) (k:=Pt m till) (i:=0) (Nq h1).2.1
    have:Pt m till≤5:=by unfold Pt; omega
    omega
   have er:Zcy S C sn m xn till=Zxv (srtR (Ts (rnS S) m till C)) sn m xn till:=by rw [Zcy]; simp only [Int.toNat_natCast]
   rw [er]
   clear er hR
   generalize srtR (Ts (rnS S) m till C)=L at rr hU lL ⊢
   have eB:((iniB (till+1) 32).map I).set sn (I m)=(Su sn m till).map I:=by
    rw [Dz,iniB,Su]; simp
   simp only [net] at rr
   simp only [go_sem,List.length_map,Ze9 _ hi,Int.toNat_natCast,oN,List.take,eB]
   refine ⟨⟨by omega,by omega⟩,by omega,?_⟩
   refine Za (rr _) (fun h => by cases h) ?_
   have sv:∀ K,Sl 4 K (.view (rcells L) L.length false) (rcells L) L.length:=fun K => .view (Sy L) _
   simp only [go_sem]
   have sB:=Zf2 sn m till
   refine Z1 _ (fun (z:Nat × AH) => ([(3,I xn),(4,I till),(13,.ptr (H.length+1) 0),(64,.view (rcells L) L.length false),(65,I L.length),(66,I z.1)],H++(N::⟨((L.take z.1).foldl Oj (Su sn m till)).map I,0,true⟩::z.2)))
    (fun z => z.1≤L.length) (fun z => L.length - z.1) (0,[]) (Nat.zero_le _) rfl ?_
   rintro ⟨i,G⟩ hi
   simp only at hi
   have bl:((L.take i).foldl Oj (Su sn m till)).length=32:=by rw [Ax,sB]
   rcases Nat.lt_or_ge i L.length with hi' | hi'
   ·have hr:=hU _ (Zl B6 hi')
    have ec:elt (rcells L) 4 i=[I (L.getD i B6).f,I (L.getD i B6).d,I (L.getD i B6).t,I (L.getD i B6).a]:=Xg Rid.cells 4 Rid.len L i B6 hi'
    have ft:(L.take (i+1)).foldl Oj (Su sn m till)=Oj ((L.take i).foldl Oj (Su sn m till)) (L.getD i B6):=by
     rw [Zme _ _ _ hi',List.getD_eq_getElem?_getD,List.getElem?_eq_getElem hi']; rfl
    have w3:IntKind.i64.wrap ((i:Int)+1)=((i+1:Nat):Int):=by rw [w64 _ (by omega) (by omega)]; omega
    generalize L.getD i B6=r at hr ec ft
    generalize (L.take i).foldl Oj (Su sn m till)=b at bl ft
    have g1:=D0 b r.f (by omega)
    have g2:=D0 b r.t (by omega)
    have rl:=Sy L
    simp only [go_sem,ec,Int.toNat_natCast,g1,g2,List.length_map,bl,w3]
    refine ⟨fun _ => ⟨⟨by omega,by omega,by omega⟩,⟨by omega,by omega⟩,⟨by omega,by omega⟩,fun hc => ⟨⟨by omega,by omega⟩,⟨by omega,by omega⟩,⟨by omega,by omega⟩,⟨by omega,by omega⟩,(i+1,G++[⟨[I r.f,I r.d,I r.t,I r.a],0,true⟩]),rfl,?_,by show i+1≤_; omega,by show _ - (i+1)<_; omega⟩,fun hc => ⟨(i+1,G++[⟨[I r.f,I r.d,I r.t,I r.a],0,true⟩]),rfl,?_,by show i+1≤_; omega,by show _ - (i+1)<_; omega⟩⟩,fun h => absurd (by omega) h⟩
    ·show _=H++(N::⟨((L.take (i+1)).foldl Oj (Su sn m till)).map I,0,true⟩::_)
     rw [ft,Oj,if_pos hc]
     have e:min (b.getD r.t 0) r.a=if r.a<b.getD r.t 0 then r.a else b.getD r.t 0:=by split <;> omega
     rw [e,← Dz]
    ·show _=H++(N::⟨((L.take (i+1)).foldl Oj (Su sn m till)).map I,0,true⟩::_)
     rw [ft,Oj,if_neg hc]
   ·have hi':i=L.length:=by omega
    subst hi'
    rw [List.take_length] at bl ⊢
    rw [Zxv,Zxw]
    generalize L.foldl Oj (Su sn m till)=b at bl ⊢
    have g1:=D0 b xn (by omega)
    simp only [go_sem,Int.toNat_natCast,g1,List.length_map,bl]
    refine ⟨fun h => absurd h (by omega),fun _ => ⟨⟨by omega,by omega⟩,⟨by omega,by omega⟩,fun hc => ?_,fun hc => ⟨⟨by omega,by omega⟩,⟨by omega,by omega⟩,?_⟩⟩⟩
    ·rw [if_pos hc]; exact Zc rfl
    ·rw [if_neg hc]; exact Zc rfl
def Zxo (S:List Sv) (C:List Cn) (s m x till:Int):AV:=if Fa S C s m x till=true then .tup [Bl (Zcy S C s m x till).isSome,nilE] else .tup [Bl false,.lit (.iface T.api_Code (.int .i64 1))]
theorem Zfw (hs:Sl 5 H sx (svcs S) S.length) (hc:Sl 5 H cx (cncs C) C.length) (hS:∀ p ∈ S,p.ok∧p.few) {s m x till:Int} :
  Called Tryz.prog F.route_Feasible [.agg (net sx cx),I s,I m,I x,I till] H (Zxo S C s m x till) H:=by
 have hsK:∀ K,Sl 5 (H++K) sx (svcs S) S.length:=fun K => hs.app
 have hcK:∀ K,Sl 5 (H++K) cx (cncs C) C.length:=fun K => hc.app
 have re:=fun K => Zfx (s:=s) (m:=m) (x:=x) (till:=till) (hsK K) (hcK K) hS
 refine Ji ?_
 simp only [net] at re ⊢
 simp only [S9,go_sem,hs.one,hc.one]
 refine Za (re _) (fun _ => rfl) ?_
 unfold Zrs Zxo
 cases Fa S C s m x till
 ·rw [if_neg (by decide),if_neg (by decide)]
  simp only [go_sem]; exact Zc rfl
 ·rw [if_pos rfl,if_pos rfl]
  cases Zcy S C s m x till
  ·simp only [go_sem]; exact Zc rfl
  ·simp only [go_sem]; exact Zc rfl
end
end Go.Proofs.YtcgjlpdkobmpnaaGreat.Eng

