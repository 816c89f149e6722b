/- slices.SortFunc's contract laid at this program; the comparator's walk. -/
import Derived.Test.YtabpkmfgmjnipaaMCa
import Derived.Shelf.SlicesG.Cmp
import Derived.Shelf.SlSortCmp.WholeK
namespace Go.Proofs
open Go.Shelf Go.RowKit Go.Lib Go.Sort
def Ytabpkmfgmjnipaa.sortRide_ren:Go.Shelf.Ren where
 f:=fun x => match x with
  | 6 => 37
  | 15 => 50
  | 14 => 49
  | 28 => 62
  | 29 => 63
  | 20 => 54
  | 21 => 55
  | 22 => 56
  | 23 => 57
  | 24 => 58
  | 25 => 59
  | 26 => 60
  | 27 => 61
  | 46 => 64
  | 47 => 65
  | 48 => 66
  | 49 => 67
  | 50 => 68
  | 57 => 69
  | n => n
 t:=fun x => match x with
  | 22 => 64
  | 24 => 67
  | 25 => 75
  | 3 => 3
  | 39 => 83
  | 0 => 0
  | 53 => 95
  | 55 => 97
  | 4 => 4
  | 46 => 88
  | 45 => 87
  | 50 => 92
  | 5 => 5
  | 9 => 9
  | 66 => 98
  | 70 => 102
  | 76 => 104
  | 77 => 105
  | n => n
 g:=fun n => n
set_option maxRecDepth 100000 in
theorem Ytabpkmfgmjnipaa.sortRide:SlLaysF0.n6 Try.prog Ytabpkmfgmjnipaa.sortRide_ren where
 mixed:=by kernel_rfl
 f6:=⟨"slices.SortFunc[[]clapper/route.ride,clapper/route.ride]",by decide,Try.func37.trans (congrArg some (by kernel_rfl))⟩
 f14:=⟨"slices.pdqsortCmpFunc[clapper/route.ride]",by decide,Try.func49.trans (congrArg some (by kernel_rfl))⟩
 f15:=Try.func50.trans (congrArg some (by kernel_rfl))
 f20:=⟨"slices.insertionSortCmpFunc[clapper/route.ride]",by decide,Try.func54.trans (congrArg some (by kernel_rfl))⟩
 f21:=⟨"slices.heapSortCmpFunc[clapper/route.ride]",by decide,Try.func55.trans (congrArg some (by kernel_rfl))⟩
 f22:=⟨"slices.breakPatternsCmpFunc[clapper/route.ride]",by decide,Try.func56.trans (congrArg some (by kernel_rfl))⟩
 f23:=⟨"slices.choosePivotCmpFunc[clapper/route.ride]",by decide,Try.func57.trans (congrArg some (by kernel_rfl))⟩
 f24:=⟨"slices.reverseRangeCmpFunc[clapper/route.ride]",by decide,Try.func58.trans (congrArg some (by kernel_rfl))⟩
 f25:=⟨"slices.partialInsertionSortCmpFunc[clapper/route.ride]",by decide,Try.func59.trans (congrArg some (by kernel_rfl))⟩
 f26:=⟨"slices.partitionEqualCmpFunc[clapper/route.ride]",by decide,Try.func60.trans (congrArg some (by kernel_rfl))⟩
 f27:=⟨"slices.partitionCmpFunc[clapper/route.ride]",by decide,Try.func61.trans (congrArg some (by kernel_rfl))⟩
 f28:=Try.func62.trans (congrArg some (by kernel_rfl))
 f29:=Try.func63.trans (congrArg some (by kernel_rfl))
 f46:=⟨"slices.siftDownCmpFunc[clapper/route.ride]",by decide,Try.func64.trans (congrArg some (by kernel_rfl))⟩
 f47:=Try.func65.trans (congrArg some (by kernel_rfl))
 f48:=Try.func66.trans (congrArg some (by kernel_rfl))
 f49:=⟨"slices.medianAdjacentCmpFunc[clapper/route.ride]",by decide,Try.func67.trans (congrArg some (by kernel_rfl))⟩
 f50:=⟨"slices.medianCmpFunc[clapper/route.ride]",by decide,Try.func68.trans (congrArg some (by kernel_rfl))⟩
 f57:=⟨"slices.order2CmpFunc[clapper/route.ride]",by decide,Try.func69.trans (congrArg some (by kernel_rfl))⟩
 t0:=Try.underlying0
 a0:=Try.isAgg0
 z0:=Try.sizeOf0
 v0:=Try.zeroValue0
 t3:=Try.underlying3
 a3:=Try.isAgg3
 z3:=Try.sizeOf3
 v3:=Try.zeroValue3
 t4:=Try.underlying4
 a4:=Try.isAgg4
 z4:=Try.sizeOf4
 v4:=Try.zeroValue4
 t5:=Try.underlying5
 a5:=Try.isAgg5
 z5:=Try.sizeOf5
 v5:=Try.zeroValue5
 t9:=Try.underlying9
 a9:=Try.isAgg9
 z9:=Try.sizeOf9
 v9:=Try.zeroValue9
 t22:=Try.underlying64
 a22:=Try.isAgg64
 z22:=Try.sizeOf64
 v22:=Try.zeroValue64
 t25:=Try.underlying75
 a25:=Try.isAgg75
 z25:=Try.sizeOf75
 v25:=Try.zeroValue75
 t39:=Try.underlying83
 a39:=Try.isAgg83
 z39:=Try.sizeOf83
 v39:=Try.zeroValue83
 t45:=Try.underlying87
 a45:=Try.isAgg87
 z45:=Try.sizeOf87
 v45:=Try.zeroValue87
 t46:=Try.underlying88
 a46:=Try.isAgg88
 z46:=Try.sizeOf88
 v46:=Try.zeroValue88
 t50:=Try.underlying92
 a50:=Try.isAgg92
 z50:=Try.sizeOf92
 v50:=Try.zeroValue92
 t53:=Try.underlying95
 a53:=Try.isAgg95
 z53:=Try.sizeOf95
 v53:=Try.zeroValue95
 t55:=Try.underlying97
 a55:=Try.isAgg97
 z55:=Try.sizeOf97
 v55:=Try.zeroValue97
 t66:=Try.underlying98
 a66:=Try.isAgg98
 z66:=Try.sizeOf98
 v66:=Try.zeroValue98
 t70:=Try.underlying102
 a70:=Try.isAgg102
 z70:=Try.sizeOf102
 v70:=Try.zeroValue102
 t76:=Try.underlying104
 a76:=Try.isAgg104
 z76:=Try.sizeOf104
 v76:=Try.zeroValue104
 t77:=Try.underlying105
 a77:=Try.isAgg105
 z77:=Try.sizeOf105
 v77:=Try.zeroValue105
def Ytabpkmfgmjnipaa.cmpInt_ren:Go.Shelf.Ren where
 f:=fun x => match x with
  | 5 => 39
  | 7 => 51
  | n => n
 t:=fun x => match x with
  | 22 => 3
  | 3 => 3
  | 4 => 4
  | n => n
 g:=fun n => n
set_option maxRecDepth 100000 in
theorem Ytabpkmfgmjnipaa.cmpInt:SlLaysC2.n5 Try.prog Ytabpkmfgmjnipaa.cmpInt_ren where
 mixed:=by kernel_rfl
 f5:=⟨"cmp.Compare[int]",by decide,Try.func39.trans (congrArg some (by kernel_rfl))⟩
 f7:=⟨"cmp.isNaN[int]",by decide,Try.func51.trans (congrArg some (by kernel_rfl))⟩
 t3:=Try.underlying3
 a3:=Try.isAgg3
 z3:=Try.sizeOf3
 v3:=Try.zeroValue3
 t4:=Try.underlying4
 a4:=Try.isAgg4
 z4:=Try.sizeOf4
 v4:=Try.zeroValue4
 t22:=Try.underlying3
 a22:=Try.isAgg3
 z22:=Try.sizeOf3
 v22:=Try.zeroValue3
set_option maxHeartbeats 1000000 in
theorem Ytabpkmfgmjnipaa.closure38 (x1 x2 x3 x4 y1 y2 y3 y4:Int) (W:World):Calls Try.prog 38 #[.agg #[.int .i64 x1,.int .i64 x2,.int .i64 x3,.int .i64 x4],.agg #[.int .i64 y1,.int .i64 y2,.int .i64 y3,.int .i64 y4]] W fun e w' => e=.returned (.int .i64 (Lib.compareInt x2 y2))∧∃ q os',w'=grow (W.drewN q) os':=by
 have hcon:=fun W' => AnyG.cmp_Compare_int Ytabpkmfgmjnipaa.cmpInt x2 y2 W'
 change ∀ W',Calls Try.prog 39 _ _ _ at hcon
 generalize Lib.compareInt x2 y2=r at hcon ⊢
 go_enter Try.func38,Try.ntmps38
 go_wp2_with (go_at_call 39; refine (hcon _).mono ?_; rintro e w' ⟨rfl,rfl⟩)
 go_ret
 exact ⟨rfl,0,_,by rw [alloc_eq_grow,alloc_eq_grow,grow_grow]; rfl⟩
end Go.Proofs

