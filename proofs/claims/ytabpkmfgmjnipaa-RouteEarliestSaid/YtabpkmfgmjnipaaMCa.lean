/- The numbers of functions and types, by name. Printed by program. -/
import Derived.Test.YtabpkmfgmjnipaaME6
import Derived.Test.YtabpkmfgmjnipaaChecked
namespace Go.Proofs.Ytabpkmfgmjnipaa.Eng
open Go Go.Proofs
abbrev F.clapperlaw13_RouteEarliest:FuncId:=4
abbrev F.clapperlaw13_RouteOn:FuncId:=6
abbrev F.clapperlaw13_RouteBy:FuncId:=7
abbrev F.clapperlaw13_up:FuncId:=15
abbrev F.clapperref13_Few:FuncId:=16
abbrev F.route_Earliest:FuncId:=17
abbrev F.clapperref13_May:FuncId:=18
abbrev F.clapperref13_Fair:FuncId:=19
abbrev F.route_May:FuncId:=20
abbrev F.clapperref13_Earliest:FuncId:=21
abbrev F.route_Feasible:FuncId:=22
abbrev F.route_stop:FuncId:=26
abbrev F.route_rides:FuncId:=27
abbrev F.clapperref12_May:FuncId:=28
abbrev F.clapperref13_stop:FuncId:=29
abbrev F.route_May_1:FuncId:=30
abbrev F.service_May:FuncId:=31
abbrev F.route_May_2:FuncId:=32
abbrev F.slices_ContainsFunc_api_Service_api_Service:FuncId:=33
abbrev F.slices_ContainsFunc_api_Conn_api_Conn:FuncId:=34
abbrev F.clapperref12_Runs:FuncId:=35
abbrev F.service_Runs:FuncId:=36
abbrev F.slices_SortFunc_route_ride_route_ride:FuncId:=37
abbrev F.route_rides_1:FuncId:=38
abbrev F.cmp_Compare_int:FuncId:=39
abbrev F.clapperref12_days:FuncId:=40
abbrev F.clapperref12_in:FuncId:=41
abbrev F.service_May_1:FuncId:=42
abbrev F.slices_Contains_int_int:FuncId:=43
abbrev F.service_days:FuncId:=44
abbrev F.slices_ContainsFunc_int_int:FuncId:=45
abbrev F.slices_IndexFunc_api_Service_api_Service:FuncId:=46
abbrev F.slices_IndexFunc_api_Conn_api_Conn:FuncId:=47
abbrev F.service_runs:FuncId:=48
abbrev F.slices_Index_int_int:FuncId:=52
abbrev F.slices_IndexFunc_int_int:FuncId:=53
abbrev T.t:TypeId:=0
abbrev T.func:TypeId:=1
abbrev T.int:TypeId:=3
abbrev T.bool:TypeId:=4
abbrev T.string:TypeId:=9
abbrev T.interface:TypeId:=20
abbrev T.api_Code:TypeId:=33
def pfx (v:Bool):Pf:=⟨fun f => !([9,10,11,12,13,25,27,37].contains f),v,fun t => [33].contains t⟩
theorem mixed:Try.prog.follows .mixedOrders=true:=by kernel_rfl
theorem cmpok (v:Bool):∀ t,(pfx v).c t=true→cmpT Try.prog t=true:=by
 intro t h
 simp [pfx] at h
 subst h; kernel_rfl
abbrev EF (v:Bool) (f:FuncId) (ic:IC) (rs:List IRes):Prop:=∀ {args:List AV} {H:AH} {w:AV} {H':AH},iwp (pfx v) (Called Try.prog) ic (retQ rs H w H') (look (enterL 0 args)) H→Called Try.prog f args H w H'
theorem ef {v:Bool} {f:FuncId} {fn:Func} {ic:IC} {rs:List IRes} (own:List Nat) (hf:Try.prog.funcs[f]? = some fn) (hok:okCall Try.prog f=true) (hc:compF Try.prog (pfx v) (fun d => own.contains d) fn=some ic) (hr:fn.results.toList.mapM (res? Try.prog)=some rs):EF v f ic rs:=fun h =>
 fn_called mixed (cmpok v) hf hok hc hr h
set_option maxRecDepth 20000
def ic_clapperref12_May : IC :=
 q 1 (.box (.t 0)) <|
 q 2 (.mv (cb false)) <|
 .keep [1] <|
 q 7 (.fld 3 (.t 1)) <|
 q 8 (.load false 1 (.t 7)) <|
 q 9 (.len false (.t 8)) <|
 q 10 (.bin .gtr (.t 9) (ci 100)) <|
 q 11 (.mv (.t 10)) <|
 qg 12 11 false (.fld 4 (.t 1)) <|
 qg 13 11 false (.load false 1 (.t 12)) <|
 qg 14 11 false (.len false (.t 13)) <|
 qg 15 11 false (.bin .gtr (.t 14) (ci 100)) <|
 q 16 (.pick (.t 11) (cb true) (.t 15)) <|
 .keep [1, 16] <|
 .ite (.t 16)
 (q 2 (.mv (cb false)) <|
 .keep [2] <|
 .ret)
 (.done) <|
 q 17 (.fld 3 (.t 1)) <|
 q 18 (.load false 1 (.t 17)) <|
 q 19 (.call F.clapperref12_days [(.t 18)]) <|
 q 3 (.mv (.t 19)) <|
 .keep [1, 3] <|
 q 20 (.fld 4 (.t 1)) <|
 q 21 (.load false 1 (.t 20)) <|
 q 22 (.call F.clapperref12_days [(.t 21)]) <|
 q 4 (.mv (.t 22)) <|
 .keep [1, 3, 4] <|
 q 5 (.mv (ci 0)) <|
 .keep [1, 3, 4, 5] <|
 .block 0
 (.keep [1, 3, 4, 5] <|
 .loop
 (q 23 (.mv (.t 5)) <|
 q 24 (.fld 3 (.t 1)) <|
 q 25 (.load false 1 (.t 24)) <|
 q 26 (.len false (.t 25)) <|
 q 27 (.bin .lss (.t 23) (.t 26)) <|
 .keep [1, 3, 4, 5, 27] <|
 .ite (.t 27)
 (.done)
 (.exit 0) <|
 .block 1
 (q 30 (.fld 4 (.t 1)) <|
 q 31 (.load false 1 (.t 30)) <|
 q 32 (.fld 3 (.t 1)) <|
 q 33 (.load false 1 (.t 32)) <|
 q 34 (.mv (.t 5)) <|
 q 35 (.idxa 1 none (.t 33) (.t 34)) <|
 q 36 (.load false 1 (.t 35)) <|
 q 37 (.call F.clapperref12_in [(.t 31), (.t 36)]) <|
 q 6 (.mv (.t 37)) <|
 .keep [1, 3, 4, 5, 6] <|
 q 38 (.mv (.t 6)) <|
 .keep [1, 3, 4, 5, 38] <|
 .ite (.t 38)
 (q 2 (.mv (cb false)) <|
 .keep [2] <|
 .ret)
 (.done) <|
 .done) <|
 q 28 (.mv (.t 5)) <|
 q 29 (.bin .add (.t 28) (ci 1)) <|
 q 5 (.mv (.t 29)) <|
 .keep [1, 3, 4, 5] <|
 .keep [1, 3, 4, 5] <|
 .done)) <|
 q 39 (.mv (.t 3)) <|
 q 40 (.mv (.t 39)) <|
 qg 41 40 true (.mv (.t 4)) <|
 q 42 (.pick (.t 40) (.t 41) (cb false)) <|
 q 43 (.mv (.t 42)) <|
 qg 44 43 true (.fld 0 (.t 1)) <|
 qg 45 43 true (.load false 1 (.t 44)) <|
 qg 46 43 true (.bin .geq (.t 45) (ci 0)) <|
 q 47 (.pick (.t 43) (.t 46) (cb false)) <|
 q 48 (.mv (.t 47)) <|
 qg 49 48 true (.fld 0 (.t 1)) <|
 qg 50 48 true (.load false 1 (.t 49)) <|
 qg 51 48 true (.bin .leq (.t 50) (ci 127)) <|
 q 52 (.pick (.t 48) (.t 51) (cb false)) <|
 q 53 (.mv (.t 52)) <|
 qg 54 53 true (.fld 1 (.t 1)) <|
 qg 55 53 true (.load false 1 (.t 54)) <|
 qg 56 53 true (.bin .geq (.t 55) (ci 0)) <|
 q 57 (.pick (.t 53) (.t 56) (cb false)) <|
 q 58 (.mv (.t 57)) <|
 qg 59 58 true (.fld 1 (.t 1)) <|
 qg 60 58 true (.load false 1 (.t 59)) <|
 qg 61 58 true (.fld 2 (.t 1)) <|
 qg 62 58 true (.load false 1 (.t 61)) <|
 qg 63 58 true (.bin .leq (.t 60) (.t 62)) <|
 q 64 (.pick (.t 58) (.t 63) (cb false)) <|
 q 65 (.mv (.t 64)) <|
 qg 66 65 true (.fld 2 (.t 1)) <|
 qg 67 65 true (.load false 1 (.t 66)) <|
 qg 68 65 true (.bin .leq (.t 67) (ci 1048576)) <|
 q 69 (.pick (.t 65) (.t 68) (cb false)) <|
 q 2 (.mv (.t 69)) <|
 .keep [2] <|
 .ret
theorem e_clapperref12_May:EF false F.clapperref12_May ic_clapperref12_May [.t 2]:=ef [] Try.func28 (by kernel_rfl) (by kernel_rfl) (by kernel_rfl)
def ic_service_May : IC :=
 q 1 (.box (.t 0)) <|
 q 2 (.mv (cb false)) <|
 .keep [1] <|
 q 4 (.mkfn (.func F.service_May_1) [] [(.t 1)]) <|
 q 3 (.mv (.t 4)) <|
 .keep [1, 3] <|
 q 5 (.fld 0 (.t 1)) <|
 q 6 (.load false 1 (.t 5)) <|
 q 7 (.bin .geq (.t 6) (ci 0)) <|
 q 8 (.mv (.t 7)) <|
 qg 9 8 true (.fld 0 (.t 1)) <|
 qg 10 8 true (.load false 1 (.t 9)) <|
 qg 11 8 true (.bin .lss (.t 10) (ci 128)) <|
 q 12 (.pick (.t 8) (.t 11) (cb false)) <|
 q 13 (.mv (.t 12)) <|
 qg 14 13 true (.fld 1 (.t 1)) <|
 qg 15 13 true (.load false 1 (.t 14)) <|
 qg 16 13 true (.bin .geq (.t 15) (ci 0)) <|
 q 17 (.pick (.t 13) (.t 16) (cb false)) <|
 q 18 (.mv (.t 17)) <|
 qg 19 18 true (.fld 1 (.t 1)) <|
 qg 20 18 true (.load false 1 (.t 19)) <|
 qg 21 18 true (.fld 2 (.t 1)) <|
 qg 22 18 true (.load false 1 (.t 21)) <|
 qg 23 18 true (.bin .leq (.t 20) (.t 22)) <|
 q 24 (.pick (.t 18) (.t 23) (cb false)) <|
 q 25 (.mv (.t 24)) <|
 qg 26 25 true (.fld 2 (.t 1)) <|
 qg 27 25 true (.load false 1 (.t 26)) <|
 qg 28 25 true (.bin .leq (.t 27) (ci 1048576)) <|
 q 29 (.pick (.t 25) (.t 28) (cb false)) <|
 q 30 (.mv (.t 29)) <|
 qg 31 30 true (.fld 3 (.t 1)) <|
 qg 32 30 true (.load false 1 (.t 31)) <|
 qg 33 30 true (.call F.service_days [(.t 32)]) <|
 q 34 (.pick (.t 30) (.t 33) (cb false)) <|
 q 35 (.mv (.t 34)) <|
 qg 36 35 true (.fld 4 (.t 1)) <|
 qg 37 35 true (.load false 1 (.t 36)) <|
 qg 38 35 true (.call F.service_days [(.t 37)]) <|
 q 39 (.pick (.t 35) (.t 38) (cb false)) <|
 q 40 (.mv (.t 39)) <|
 qg 41 40 true (.fld 3 (.t 1)) <|
 qg 42 40 true (.load false 1 (.t 41)) <|
 qg 43 40 true (.mv (.t 3)) <|
 qg 44 40 true (.call F.slices_ContainsFunc_int_int [(.t 42), (.t 43)]) <|
 qg 45 40 true (.un .not (.t 44)) <|
 q 46 (.pick (.t 40) (.t 45) (cb false)) <|
 q 2 (.mv (.t 46)) <|
 .keep [2] <|
 .ret
theorem e_service_May:EF false F.service_May ic_service_May [.t 2]:=ef [] Try.func31 (by kernel_rfl) (by kernel_rfl) (by kernel_rfl)
def ic_clapperref12_Runs : IC :=
 q 2 (.box (.t 0)) <|
 q 4 (.mv (cb false)) <|
 .keep [1, 2] <|
 q 9 (.fld 3 (.t 2)) <|
 q 10 (.load false 1 (.t 9)) <|
 q 11 (.mv (.t 1)) <|
 q 12 (.call F.clapperref12_in [(.t 10), (.t 11)]) <|
 q 5 (.mv (.t 12)) <|
 .keep [1, 2, 5] <|
 q 13 (.fld 4 (.t 2)) <|
 q 14 (.load false 1 (.t 13)) <|
 q 15 (.mv (.t 1)) <|
 q 16 (.call F.clapperref12_in [(.t 14), (.t 15)]) <|
 q 6 (.mv (.t 16)) <|
 .keep [1, 2, 5, 6] <|
 q 17 (.mv (.t 5)) <|
 .keep [1, 2, 6, 17] <|
 .ite (.t 17)
 (q 4 (.mv (cb true)) <|
 .keep [4] <|
 .ret)
 (.done) <|
 q 18 (.mv (.t 6)) <|
 q 19 (.mv (.t 18)) <|
 qg 20 19 false (.mv (.t 1)) <|
 qg 21 19 false (.fld 1 (.t 2)) <|
 qg 22 19 false (.load false 1 (.t 21)) <|
 qg 23 19 false (.bin .lss (.t 20) (.t 22)) <|
 q 24 (.pick (.t 19) (cb true) (.t 23)) <|
 q 25 (.mv (.t 24)) <|
 qg 26 25 false (.mv (.t 1)) <|
 qg 27 25 false (.fld 2 (.t 2)) <|
 qg 28 25 false (.load false 1 (.t 27)) <|
 qg 29 25 false (.bin .geq (.t 26) (.t 28)) <|
 q 30 (.pick (.t 25) (cb true) (.t 29)) <|
 .keep [1, 2, 30] <|
 .ite (.t 30)
 (q 4 (.mv (cb false)) <|
 .keep [4] <|
 .ret)
 (.done) <|
 q 31 (.fld 0 (.t 2)) <|
 q 32 (.load false 1 (.t 31)) <|
 q 7 (.mv (.t 32)) <|
 .keep [1, 7] <|
 q 8 (.mv (ci 0)) <|
 .keep [1, 7, 8] <|
 .block 0
 (.keep [1, 7, 8] <|
 .loop
 (q 33 (.mv (.t 8)) <|
 q 34 (.mv (.t 1)) <|
 q 35 (.bin .rem (.t 34) (ci 7)) <|
 q 36 (.bin .lss (.t 33) (.t 35)) <|
 .keep [1, 7, 8, 36] <|
 .ite (.t 36)
 (.done)
 (.exit 0) <|
 .block 1
 (q 39 (.mv (.t 7)) <|
 q 40 (.bin .quo (.t 39) (ci 2)) <|
 q 7 (.mv (.t 40)) <|
 .keep [1, 7, 8] <|
 .done) <|
 q 37 (.mv (.t 8)) <|
 q 38 (.bin .add (.t 37) (ci 1)) <|
 q 8 (.mv (.t 38)) <|
 .keep [1, 7, 8] <|
 .keep [1, 7, 8] <|
 .done)) <|
 q 41 (.mv (.t 7)) <|
 q 42 (.bin .rem (.t 41) (ci 2)) <|
 q 43 (.bin .eql (.t 42) (ci 1)) <|
 q 4 (.mv (.t 43)) <|
 .keep [4] <|
 .ret
theorem e_clapperref12_Runs:EF false F.clapperref12_Runs ic_clapperref12_Runs [.t 4]:=ef [] Try.func35 (by kernel_rfl) (by kernel_rfl) (by kernel_rfl)
def ic_service_Runs : IC :=
 q 2 (.box (.t 0)) <|
 q 4 (.mv (cb false)) <|
 .keep [1, 2] <|
 q 5 (.load true 5 (.t 2)) <|
 q 6 (.call F.service_May [(.t 5)]) <|
 q 7 (.mv (.t 6)) <|
 qg 8 7 true (.load true 5 (.t 2)) <|
 qg 9 7 true (.mv (.t 1)) <|
 qg 10 7 true (.call F.service_runs [(.t 8), (.t 9)]) <|
 q 11 (.pick (.t 7) (.t 10) (cb false)) <|
 q 4 (.mv (.t 11)) <|
 .keep [4] <|
 .ret
theorem e_service_Runs:EF false F.service_Runs ic_service_Runs [.t 4]:=ef [] Try.func36 (by kernel_rfl) (by kernel_rfl) (by kernel_rfl)
def ic_clapperref12_days : IC :=
 q 2 (.mv (cb false)) <|
 .keep [0] <|
 q 3 (.mv (ci 0)) <|
 .keep [0, 3] <|
 .block 0
 (.keep [0, 3] <|
 .loop
 (q 4 (.mv (.t 3)) <|
 q 5 (.mv (.t 0)) <|
 q 6 (.len false (.t 5)) <|
 q 7 (.bin .lss (.t 4) (.t 6)) <|
 .keep [0, 3, 7] <|
 .ite (.t 7)
 (.done)
 (.exit 0) <|
 .block 1
 (q 10 (.mv (.t 0)) <|
 q 11 (.mv (.t 3)) <|
 q 12 (.idxa 1 none (.t 10) (.t 11)) <|
 q 13 (.load false 1 (.t 12)) <|
 q 14 (.bin .lss (.t 13) (ci 0)) <|
 q 15 (.mv (.t 14)) <|
 qg 16 15 false (.mv (.t 0)) <|
 qg 17 15 false (.mv (.t 3)) <|
 qg 18 15 false (.idxa 1 none (.t 16) (.t 17)) <|
 qg 19 15 false (.load false 1 (.t 18)) <|
 qg 20 15 false (.bin .gtr (.t 19) (ci 1048576)) <|
 q 21 (.pick (.t 15) (cb true) (.t 20)) <|
 q 22 (.mv (.t 21)) <|
 qg 23 22 false (.mv (.t 3)) <|
 qg 24 22 false (.bin .gtr (.t 23) (ci 0)) <|
 qg 25 22 false (.mv (.t 24)) <|
 qg 26 25 true (.mv (.t 0)) <|
 qg 27 25 true (.mv (.t 3)) <|
 qg 28 25 true (.idxa 1 none (.t 26) (.t 27)) <|
 qg 29 25 true (.load false 1 (.t 28)) <|
 qg 30 25 true (.mv (.t 0)) <|
 qg 31 25 true (.mv (.t 3)) <|
 qg 32 25 true (.bin .sub (.t 31) (ci 1)) <|
 qg 33 25 true (.idxa 1 none (.t 30) (.t 32)) <|
 qg 34 25 true (.load false 1 (.t 33)) <|
 qg 35 25 true (.bin .leq (.t 29) (.t 34)) <|
 qg 36 22 false (.pick (.t 25) (.t 35) (cb false)) <|
 q 37 (.pick (.t 22) (cb true) (.t 36)) <|
 .keep [0, 3, 37] <|
 .ite (.t 37)
 (q 2 (.mv (cb false)) <|
 .keep [2] <|
 .ret)
 (.done) <|
 .done) <|
 q 8 (.mv (.t 3)) <|
 q 9 (.bin .add (.t 8) (ci 1)) <|
 q 3 (.mv (.t 9)) <|
 .keep [0, 3] <|
 .keep [0, 3] <|
 .done)) <|
 q 38 (.mv (.t 0)) <|
 q 39 (.len false (.t 38)) <|
 q 40 (.bin .leq (.t 39) (ci 100)) <|
 q 2 (.mv (.t 40)) <|
 .keep [2] <|
 .ret
theorem e_clapperref12_days:EF false F.clapperref12_days ic_clapperref12_days [.t 2]:=ef [] Try.func40 (by kernel_rfl) (by kernel_rfl) (by kernel_rfl)
def ic_clapperref12_in : IC :=
 q 4 (.mv (cb false)) <|
 .keep [0, 1] <|
 q 5 (.mv (ci 0)) <|
 .keep [0, 1, 5] <|
 .block 0
 (.keep [0, 1, 5] <|
 .loop
 (q 6 (.mv (.t 5)) <|
 q 7 (.mv (.t 0)) <|
 q 8 (.len false (.t 7)) <|
 q 9 (.bin .lss (.t 6) (.t 8)) <|
 .keep [0, 1, 5, 9] <|
 .ite (.t 9)
 (.done)
 (.exit 0) <|
 .block 1
 (q 12 (.mv (.t 0)) <|
 q 13 (.mv (.t 5)) <|
 q 14 (.idxa 1 none (.t 12) (.t 13)) <|
 q 15 (.load false 1 (.t 14)) <|
 q 16 (.mv (.t 1)) <|
 q 17 (.bin .eql (.t 15) (.t 16)) <|
 .keep [0, 1, 5, 17] <|
 .ite (.t 17)
 (q 4 (.mv (cb true)) <|
 .keep [4] <|
 .ret)
 (.done) <|
 .done) <|
 q 10 (.mv (.t 5)) <|
 q 11 (.bin .add (.t 10) (ci 1)) <|
 q 5 (.mv (.t 11)) <|
 .keep [0, 1, 5] <|
 .keep [0, 1, 5] <|
 .done)) <|
 q 4 (.mv (cb false)) <|
 .keep [4] <|
 .ret
theorem e_clapperref12_in:EF false F.clapperref12_in ic_clapperref12_in [.t 4]:=ef [] Try.func41 (by kernel_rfl) (by kernel_rfl) (by kernel_rfl)
def ic_service_May_1 : IC :=
 q 3 (.mv (cb false)) <|
 .keep [0, 1] <|
 q 4 (.fld 4 (.t 1)) <|
 q 5 (.load false 1 (.t 4)) <|
 q 6 (.mv (.t 0)) <|
 q 7 (.call F.slices_Contains_int_int [(.t 5), (.t 6)]) <|
 q 3 (.mv (.t 7)) <|
 .keep [3] <|
 .ret
theorem e_service_May_1:EF false F.service_May_1 ic_service_May_1 [.t 3]:=ef [] Try.func42 (by kernel_rfl) (by kernel_rfl) (by kernel_rfl)
def ic_slices_Contains_int_int : IC :=
 q 4 (.mv (cb false)) <|
 .keep [0, 1] <|
 q 5 (.mv (.t 0)) <|
 q 6 (.mv (.t 1)) <|
 q 7 (.call F.slices_Index_int_int [(.t 5), (.t 6)]) <|
 q 8 (.bin .geq (.t 7) (ci 0)) <|
 q 4 (.mv (.t 8)) <|
 .keep [4] <|
 .ret
theorem e_slices_Contains_int_int:EF false F.slices_Contains_int_int ic_slices_Contains_int_int [.t 4]:=ef [] Try.func43 (by kernel_rfl) (by kernel_rfl) (by kernel_rfl)
def ic_service_days : IC :=
 q 2 (.mv (cb false)) <|
 .keep [0] <|
 q 5 (.mv (.t 0)) <|
 q 6 (.len false (.t 5)) <|
 q 7 (.mv (ci 0)) <|
 .keep [0, 5, 6, 7] <|
 .block 0
 (.keep [0, 5, 6, 7] <|
 .loop
 (q 8 (.bin .lss (.t 7) (.t 6)) <|
 .keep [0, 5, 6, 7, 8] <|
 .ite (.t 8)
 (.done)
 (.exit 0) <|
 .block 1
 (q 9 (.mv (.t 7)) <|
 q 10 (.idxa 1 none (.t 5) (.t 7)) <|
 q 11 (.load false 1 (.t 10)) <|
 q 3 (.mv (.t 9)) <|
 q 4 (.mv (.t 11)) <|
 .keep [0, 3, 4, 5, 6, 7] <|
 q 12 (.mv (.t 4)) <|
 q 13 (.bin .lss (.t 12) (ci 0)) <|
 q 14 (.mv (.t 13)) <|
 qg 15 14 false (.mv (.t 4)) <|
 qg 16 14 false (.bin .gtr (.t 15) (ci 1048576)) <|
 q 17 (.pick (.t 14) (cb true) (.t 16)) <|
 q 18 (.mv (.t 17)) <|
 qg 19 18 false (.mv (.t 3)) <|
 qg 20 18 false (.bin .gtr (.t 19) (ci 0)) <|
 qg 21 18 false (.mv (.t 20)) <|
 qg 22 21 true (.mv (.t 0)) <|
 qg 23 21 true (.mv (.t 3)) <|
 qg 24 21 true (.bin .sub (.t 23) (ci 1)) <|
 qg 25 21 true (.idxa 1 none (.t 22) (.t 24)) <|
 qg 26 21 true (.load false 1 (.t 25)) <|
 qg 27 21 true (.mv (.t 4)) <|
 qg 28 21 true (.bin .geq (.t 26) (.t 27)) <|
 qg 29 18 false (.pick (.t 21) (.t 28) (cb false)) <|
 q 30 (.pick (.t 18) (cb true) (.t 29)) <|
 .keep [0, 5, 6, 7, 30] <|
 .ite (.t 30)
 (q 2 (.mv (cb false)) <|
 .keep [2] <|
 .ret)
 (.done) <|
 .done) <|
 q 31 (.bin .add (.t 7) (ci 1)) <|
 q 7 (.mv (.t 31)) <|
 .keep [0, 5, 6, 7] <|
 .keep [0, 5, 6, 7] <|
 .done)) <|
 q 32 (.mv (.t 0)) <|
 q 33 (.len false (.t 32)) <|
 q 34 (.bin .leq (.t 33) (ci 100)) <|
 q 2 (.mv (.t 34)) <|
 .keep [2] <|
 .ret
theorem e_service_days:EF false F.service_days ic_service_days [.t 2]:=ef [] Try.func44 (by kernel_rfl) (by kernel_rfl) (by kernel_rfl)
def ic_slices_ContainsFunc_int_int : IC :=
 q 4 (.mv (cb false)) <|
 .keep [0, 1] <|
 q 5 (.mv (.t 0)) <|
 q 6 (.mv (.t 1)) <|
 q 7 (.call F.slices_IndexFunc_int_int [(.t 5), (.t 6)]) <|
 q 8 (.bin .geq (.t 7) (ci 0)) <|
 q 4 (.mv (.t 8)) <|
 .keep [4] <|
 .ret
theorem e_slices_ContainsFunc_int_int:EF false F.slices_ContainsFunc_int_int ic_slices_ContainsFunc_int_int [.t 4]:=ef [] Try.func45 (by kernel_rfl) (by kernel_rfl) (by kernel_rfl)
def ic_service_runs : IC :=
 q 2 (.box (.t 0)) <|
 q 4 (.mv (cb false)) <|
 .keep [1, 2] <|
 q 5 (.fld 3 (.t 2)) <|
 q 6 (.load false 1 (.t 5)) <|
 q 7 (.mv (.t 1)) <|
 q 8 (.call F.slices_Contains_int_int [(.t 6), (.t 7)]) <|
 .keep [1, 2, 8] <|
 .ite (.t 8)
 (q 4 (.mv (cb true)) <|
 .keep [4] <|
 .ret)
 (.done) <|
 q 9 (.mv (.t 1)) <|
 q 10 (.fld 1 (.t 2)) <|
 q 11 (.load false 1 (.t 10)) <|
 q 12 (.bin .geq (.t 9) (.t 11)) <|
 q 13 (.mv (.t 12)) <|
 qg 14 13 true (.mv (.t 1)) <|
 qg 15 13 true (.fld 2 (.t 2)) <|
 qg 16 13 true (.load false 1 (.t 15)) <|
 qg 17 13 true (.bin .lss (.t 14) (.t 16)) <|
 q 18 (.pick (.t 13) (.t 17) (cb false)) <|
 q 19 (.mv (.t 18)) <|
 qg 20 19 true (.fld 0 (.t 2)) <|
 qg 21 19 true (.load false 1 (.t 20)) <|
 qg 22 19 true (.mv (.t 1)) <|
 qg 23 19 true (.bin .rem (.t 22) (ci 7)) <|
 qg 24 19 true (.bin .shr (.t 21) (.t 23)) <|
 qg 25 19 true (.bin .and (.t 24) (ci 1)) <|
 qg 26 19 true (.bin .eql (.t 25) (ci 1)) <|
 q 27 (.pick (.t 19) (.t 26) (cb false)) <|
 q 28 (.mv (.t 27)) <|
 qg 29 28 true (.fld 4 (.t 2)) <|
 qg 30 28 true (.load false 1 (.t 29)) <|
 qg 31 28 true (.mv (.t 1)) <|
 qg 32 28 true (.call F.slices_Contains_int_int [(.t 30), (.t 31)]) <|
 qg 33 28 true (.un .not (.t 32)) <|
 q 34 (.pick (.t 28) (.t 33) (cb false)) <|
 q 4 (.mv (.t 34)) <|
 .keep [4] <|
 .ret
theorem e_service_runs:EF false F.service_runs ic_service_runs [.t 4]:=ef [] Try.func48 (by kernel_rfl) (by kernel_rfl) (by kernel_rfl)
def ic_slices_Index_int_int : IC :=
 q 4 (.mv (ci 0)) <|
 .keep [0, 1] <|
 q 6 (.mv (.t 0)) <|
 q 7 (.len false (.t 6)) <|
 q 8 (.mv (ci 0)) <|
 .keep [0, 1, 7, 8] <|
 .block 0
 (.keep [0, 1, 7, 8] <|
 .loop
 (q 9 (.bin .lss (.t 8) (.t 7)) <|
 .keep [0, 1, 7, 8, 9] <|
 .ite (.t 9)
 (.done)
 (.exit 0) <|
 .block 1
 (q 10 (.mv (.t 8)) <|
 q 5 (.mv (.t 10)) <|
 .keep [0, 1, 5, 7, 8] <|
 q 11 (.mv (.t 1)) <|
 q 12 (.mv (.t 0)) <|
 q 13 (.mv (.t 5)) <|
 q 14 (.idxa 1 none (.t 12) (.t 13)) <|
 q 15 (.load false 1 (.t 14)) <|
 q 16 (.bin .eql (.t 11) (.t 15)) <|
 .keep [0, 1, 5, 7, 8, 16] <|
 .ite (.t 16)
 (q 17 (.mv (.t 5)) <|
 q 4 (.mv (.t 17)) <|
 .keep [4] <|
 .ret)
 (.done) <|
 .done) <|
 q 18 (.bin .add (.t 8) (ci 1)) <|
 q 8 (.mv (.t 18)) <|
 .keep [0, 1, 7, 8] <|
 .keep [0, 1, 7, 8] <|
 .done)) <|
 q 4 (.mv (ci (-1))) <|
 .keep [4] <|
 .ret
theorem e_slices_Index_int_int:EF false F.slices_Index_int_int ic_slices_Index_int_int [.t 4]:=ef [] Try.func52 (by kernel_rfl) (by kernel_rfl) (by kernel_rfl)
def ic_slices_IndexFunc_int_int : IC :=
 q 4 (.mv (ci 0)) <|
 .keep [0, 1] <|
 q 6 (.mv (.t 0)) <|
 q 7 (.len false (.t 6)) <|
 q 8 (.mv (ci 0)) <|
 .keep [0, 1, 7, 8] <|
 .block 0
 (.keep [0, 1, 7, 8] <|
 .loop
 (q 9 (.bin .lss (.t 8) (.t 7)) <|
 .keep [0, 1, 7, 8, 9] <|
 .ite (.t 9)
 (.done)
 (.exit 0) <|
 .block 1
 (q 10 (.mv (.t 8)) <|
 q 5 (.mv (.t 10)) <|
 .keep [0, 1, 5, 7, 8] <|
 q 11 (.mv (.t 1)) <|
 q 12 (.mv (.t 0)) <|
 q 13 (.mv (.t 5)) <|
 q 14 (.idxa 1 none (.t 12) (.t 13)) <|
 q 15 (.load false 1 (.t 14)) <|
 q 16 (.callv (.t 11) [(.t 15)]) <|
 .keep [0, 1, 5, 7, 8, 16] <|
 .ite (.t 16)
 (q 17 (.mv (.t 5)) <|
 q 4 (.mv (.t 17)) <|
 .keep [4] <|
 .ret)
 (.done) <|
 .done) <|
 q 18 (.bin .add (.t 8) (ci 1)) <|
 q 8 (.mv (.t 18)) <|
 .keep [0, 1, 7, 8] <|
 .keep [0, 1, 7, 8] <|
 .done)) <|
 q 4 (.mv (ci (-1))) <|
 .keep [4] <|
 .ret
theorem e_slices_IndexFunc_int_int:EF false F.slices_IndexFunc_int_int ic_slices_IndexFunc_int_int [.t 4]:=ef [] Try.func53 (by kernel_rfl) (by kernel_rfl) (by kernel_rfl)
set_option maxRecDepth 20000
def ic_clapperlaw13_RouteEarliest : IC :=
 q 5 (.box (.t 0)) <|
 q 10 (.mv (cb false)) <|
 .keep [1, 2, 3, 4, 5] <|
 q 19 (.call F.clapperlaw13_up []) <|
 q 11 (.mv (.t 19)) <|
 .keep [1, 2, 3, 4, 5, 11] <|
 q 20 (.load true 2 (.t 5)) <|
 q 21 (.call F.clapperref13_Few [(.t 20)]) <|
 q 12 (.mv (.t 21)) <|
 .keep [1, 2, 3, 4, 5, 11, 12] <|
 q 22 (.mv (.t 12)) <|
 q 23 (.un .not (.t 22)) <|
 .keep [1, 2, 3, 4, 5, 11, 23] <|
 .ite (.t 23)
 (q 24 (.mv (.t 11)) <|
 q 10 (.mv (.t 24)) <|
 .keep [10] <|
 .ret)
 (.done) <|
 q 26 (.load true 2 (.t 5)) <|
 q 27 (.mv (.t 1)) <|
 q 28 (.mv (.t 2)) <|
 q 29 (.mv (.t 3)) <|
 q 30 (.mv (.t 4)) <|
 q 31 (.call F.route_Earliest [(.t 26), (.t 27), (.t 28), (.t 29), (.t 30)]) <|
 q 25 (.mv (.t 31)) <|
 q 32 (.ext (.t 25) 0) <|
 q 33 (.ext (.t 25) 1) <|
 q 34 (.ext (.t 25) 2) <|
 q 13 (.mv (.t 32)) <|
 q 14 (.mv (.t 33)) <|
 q 15 (.mv (.t 34)) <|
 .keep [1, 2, 3, 4, 5, 11, 13, 14, 15] <|
 q 35 (.load true 2 (.t 5)) <|
 q 36 (.call F.clapperref13_May [(.t 35)]) <|
 q 16 (.mv (.t 36)) <|
 .keep [1, 2, 3, 4, 5, 11, 13, 14, 15, 16] <|
 q 37 (.mv (.t 16)) <|
 q 38 (.mv (.t 37)) <|
 qg 39 38 true (.load true 2 (.t 5)) <|
 qg 40 38 true (.mv (.t 1)) <|
 qg 41 38 true (.mv (.t 2)) <|
 qg 42 38 true (.mv (.t 3)) <|
 qg 43 38 true (.mv (.t 4)) <|
 qg 44 38 true (.call F.clapperref13_Fair [(.t 39), (.t 40), (.t 41), (.t 42), (.t 43)]) <|
 q 45 (.pick (.t 38) (.t 44) (cb false)) <|
 q 17 (.mv (.t 45)) <|
 .keep [1, 2, 3, 4, 5, 11, 13, 14, 15, 16, 17] <|
 q 46 (.load true 2 (.t 5)) <|
 q 47 (.call F.route_May [(.t 46)]) <|
 q 48 (.mv (.t 16)) <|
 q 49 (.eq true .b (.t 47) (.t 48)) <|
 .keep [1, 2, 3, 4, 5, 11, 13, 14, 15, 17, 49] <|
 .ite (.t 49)
 (q 10 (.mv (cb false)) <|
 .keep [10] <|
 .ret)
 (.done) <|
 q 50 (.mv (.t 17)) <|
 q 51 (.un .not (.t 50)) <|
 .keep [1, 2, 3, 4, 5, 11, 13, 14, 15, 51] <|
 .ite (.t 51)
 (q 52 (.mv (.t 11)) <|
 q 53 (.mv (.t 52)) <|
 qg 54 53 true (.mv (.t 15)) <|
 qg 55 53 true (.mkif T.api_Code (ci 1)) <|
 qg 56 53 true (.eq false .i (.t 54) (.t 55)) <|
 q 57 (.pick (.t 53) (.t 56) (cb false)) <|
 q 58 (.mv (.t 57)) <|
 qg 59 58 true (.mv (.t 14)) <|
 qg 60 58 true (.un .not (.t 59)) <|
 q 61 (.pick (.t 58) (.t 60) (cb false)) <|
 q 62 (.mv (.t 61)) <|
 qg 63 62 true (.mv (.t 13)) <|
 qg 64 62 true (.bin .eql (.t 63) (ci 0)) <|
 q 65 (.pick (.t 62) (.t 64) (cb false)) <|
 q 10 (.mv (.t 65)) <|
 .keep [10] <|
 .ret)
 (.done) <|
 q 66 (.load true 2 (.t 5)) <|
 q 67 (.mv (.t 1)) <|
 q 68 (.mv (.t 2)) <|
 q 69 (.mv (.t 3)) <|
 q 70 (.mv (.t 4)) <|
 q 71 (.call F.clapperref13_Earliest [(.t 66), (.t 67), (.t 68), (.t 69), (.t 70)]) <|
 q 18 (.mv (.t 71)) <|
 .keep [11, 13, 14, 15, 18] <|
 q 72 (.mv (.t 18)) <|
 q 73 (.bin .lss (.t 72) (ci 0)) <|
 .keep [11, 13, 14, 15, 18, 73] <|
 .ite (.t 73)
 (q 74 (.mv (.t 11)) <|
 q 75 (.mv (.t 74)) <|
 qg 76 75 true (.mv (.t 15)) <|
 qg 77 75 true (.eq false .i (.t 76) (.c (.nilIface))) <|
 q 78 (.pick (.t 75) (.t 77) (cb false)) <|
 q 79 (.mv (.t 78)) <|
 qg 80 79 true (.mv (.t 14)) <|
 qg 81 79 true (.un .not (.t 80)) <|
 q 82 (.pick (.t 79) (.t 81) (cb false)) <|
 q 83 (.mv (.t 82)) <|
 qg 84 83 true (.mv (.t 13)) <|
 qg 85 83 true (.bin .eql (.t 84) (ci 0)) <|
 q 86 (.pick (.t 83) (.t 85) (cb false)) <|
 q 10 (.mv (.t 86)) <|
 .keep [10] <|
 .ret)
 (.done) <|
 q 87 (.mv (.t 11)) <|
 q 88 (.mv (.t 87)) <|
 qg 89 88 true (.mv (.t 15)) <|
 qg 90 88 true (.eq false .i (.t 89) (.c (.nilIface))) <|
 q 91 (.pick (.t 88) (.t 90) (cb false)) <|
 q 92 (.mv (.t 91)) <|
 qg 93 92 true (.mv (.t 14)) <|
 q 94 (.pick (.t 92) (.t 93) (cb false)) <|
 q 95 (.mv (.t 94)) <|
 qg 96 95 true (.mv (.t 13)) <|
 qg 97 95 true (.mv (.t 18)) <|
 qg 98 95 true (.bin .eql (.t 96) (.t 97)) <|
 q 99 (.pick (.t 95) (.t 98) (cb false)) <|
 q 10 (.mv (.t 99)) <|
 .keep [10] <|
 .ret
theorem e_clapperlaw13_RouteEarliest:EF false F.clapperlaw13_RouteEarliest ic_clapperlaw13_RouteEarliest [.t 10]:=ef [] Try.func4 (by kernel_rfl) (by kernel_rfl) (by kernel_rfl)
def ic_clapperlaw13_RouteOn : IC :=
 q 6 (.box (.t 0)) <|
 q 12 (.mv (cb false)) <|
 .keep [1, 2, 3, 4, 5, 6] <|
 q 24 (.call F.clapperlaw13_up []) <|
 q 13 (.mv (.t 24)) <|
 .keep [1, 2, 3, 4, 5, 6, 13] <|
 q 25 (.load true 2 (.t 6)) <|
 q 26 (.call F.clapperref13_Few [(.t 25)]) <|
 q 14 (.mv (.t 26)) <|
 .keep [1, 2, 3, 4, 5, 6, 13, 14] <|
 q 27 (.mv (.t 14)) <|
 q 28 (.un .not (.t 27)) <|
 .keep [1, 2, 3, 4, 5, 6, 13, 28] <|
 .ite (.t 28)
 (q 29 (.mv (.t 13)) <|
 q 12 (.mv (.t 29)) <|
 .keep [12] <|
 .ret)
 (.done) <|
 q 31 (.load true 2 (.t 6)) <|
 q 32 (.mv (.t 1)) <|
 q 33 (.mv (.t 2)) <|
 q 34 (.mv (.t 3)) <|
 q 35 (.mv (.t 5)) <|
 q 36 (.call F.route_Earliest [(.t 31), (.t 32), (.t 33), (.t 34), (.t 35)]) <|
 q 30 (.mv (.t 36)) <|
 q 37 (.ext (.t 30) 0) <|
 q 38 (.ext (.t 30) 1) <|
 q 39 (.ext (.t 30) 2) <|
 q 15 (.mv (.t 37)) <|
 q 16 (.mv (.t 38)) <|
 q 17 (.mv (.t 39)) <|
 .keep [1, 2, 3, 4, 5, 6, 13, 15, 16, 17] <|
 q 40 (.mv (.t 17)) <|
 q 41 (.eq true .i (.t 40) (.c (.nilIface))) <|
 q 42 (.mv (.t 41)) <|
 qg 43 42 false (.mv (.t 16)) <|
 qg 44 42 false (.un .not (.t 43)) <|
 q 45 (.pick (.t 42) (cb true) (.t 44)) <|
 .keep [1, 2, 3, 4, 5, 6, 13, 15, 45] <|
 .ite (.t 45)
 (q 46 (.mv (.t 13)) <|
 q 12 (.mv (.t 46)) <|
 .keep [12] <|
 .ret)
 (.done) <|
 q 48 (.load true 2 (.t 6)) <|
 q 49 (.mv (.t 3)) <|
 q 50 (.mv (.t 15)) <|
 q 51 (.mv (.t 4)) <|
 q 52 (.mv (.t 5)) <|
 q 53 (.call F.route_Earliest [(.t 48), (.t 49), (.t 50), (.t 51), (.t 52)]) <|
 q 47 (.mv (.t 53)) <|
 q 54 (.ext (.t 47) 0) <|
 q 55 (.ext (.t 47) 1) <|
 q 56 (.ext (.t 47) 2) <|
 q 18 (.mv (.t 54)) <|
 q 19 (.mv (.t 55)) <|
 q 20 (.mv (.t 56)) <|
 .keep [1, 2, 4, 5, 6, 13, 18, 19, 20] <|
 q 57 (.mv (.t 20)) <|
 q 58 (.eq true .i (.t 57) (.c (.nilIface))) <|
 q 59 (.mv (.t 58)) <|
 qg 60 59 false (.mv (.t 19)) <|
 qg 61 59 false (.un .not (.t 60)) <|
 q 62 (.pick (.t 59) (cb true) (.t 61)) <|
 .keep [1, 2, 4, 5, 6, 13, 18, 62] <|
 .ite (.t 62)
 (q 63 (.mv (.t 13)) <|
 q 12 (.mv (.t 63)) <|
 .keep [12] <|
 .ret)
 (.done) <|
 q 65 (.load true 2 (.t 6)) <|
 q 66 (.mv (.t 1)) <|
 q 67 (.mv (.t 2)) <|
 q 68 (.mv (.t 4)) <|
 q 69 (.mv (.t 5)) <|
 q 70 (.call F.route_Earliest [(.t 65), (.t 66), (.t 67), (.t 68), (.t 69)]) <|
 q 64 (.mv (.t 70)) <|
 q 71 (.ext (.t 64) 0) <|
 q 72 (.ext (.t 64) 1) <|
 q 73 (.ext (.t 64) 2) <|
 q 21 (.mv (.t 71)) <|
 q 22 (.mv (.t 72)) <|
 q 23 (.mv (.t 73)) <|
 .keep [13, 18, 21, 22, 23] <|
 q 74 (.mv (.t 13)) <|
 q 75 (.mv (.t 74)) <|
 qg 76 75 true (.mv (.t 23)) <|
 qg 77 75 true (.eq false .i (.t 76) (.c (.nilIface))) <|
 q 78 (.pick (.t 75) (.t 77) (cb false)) <|
 q 79 (.mv (.t 78)) <|
 qg 80 79 true (.mv (.t 22)) <|
 q 81 (.pick (.t 79) (.t 80) (cb false)) <|
 q 82 (.mv (.t 81)) <|
 qg 83 82 true (.mv (.t 21)) <|
 qg 84 82 true (.mv (.t 18)) <|
 qg 85 82 true (.bin .leq (.t 83) (.t 84)) <|
 q 86 (.pick (.t 82) (.t 85) (cb false)) <|
 q 12 (.mv (.t 86)) <|
 .keep [12] <|
 .ret
theorem e_clapperlaw13_RouteOn:EF false F.clapperlaw13_RouteOn ic_clapperlaw13_RouteOn [.t 12]:=ef [] Try.func6 (by kernel_rfl) (by kernel_rfl) (by kernel_rfl)
def ic_clapperlaw13_RouteBy : IC :=
 q 6 (.box (.t 0)) <|
 q 12 (.mv (cb false)) <|
 .keep [1, 2, 3, 4, 5, 6] <|
 q 23 (.call F.clapperlaw13_up []) <|
 q 13 (.mv (.t 23)) <|
 .keep [1, 2, 3, 4, 5, 6, 13] <|
 q 24 (.load true 2 (.t 6)) <|
 q 25 (.call F.clapperref13_Few [(.t 24)]) <|
 q 14 (.mv (.t 25)) <|
 .keep [1, 2, 3, 4, 5, 6, 13, 14] <|
 q 26 (.mv (.t 14)) <|
 q 27 (.un .not (.t 26)) <|
 q 28 (.mv (.t 27)) <|
 qg 29 28 false (.mv (.t 5)) <|
 qg 30 28 false (.bin .lss (.t 29) (ci 0)) <|
 q 31 (.pick (.t 28) (cb true) (.t 30)) <|
 q 32 (.mv (.t 31)) <|
 qg 33 32 false (.mv (.t 5)) <|
 qg 34 32 false (.bin .gtr (.t 33) (ci 4320)) <|
 q 35 (.pick (.t 32) (cb true) (.t 34)) <|
 .keep [1, 2, 3, 4, 5, 6, 13, 35] <|
 .ite (.t 35)
 (q 36 (.mv (.t 13)) <|
 q 12 (.mv (.t 36)) <|
 .keep [12] <|
 .ret)
 (.done) <|
 q 38 (.load true 2 (.t 6)) <|
 q 39 (.mv (.t 1)) <|
 q 40 (.mv (.t 2)) <|
 q 41 (.mv (.t 3)) <|
 q 42 (.mv (.t 4)) <|
 q 43 (.call F.route_Feasible [(.t 38), (.t 39), (.t 40), (.t 41), (.t 42)]) <|
 q 37 (.mv (.t 43)) <|
 q 44 (.ext (.t 37) 0) <|
 q 45 (.ext (.t 37) 1) <|
 q 15 (.mv (.t 44)) <|
 q 16 (.mv (.t 45)) <|
 .keep [1, 2, 3, 4, 5, 6, 13, 15, 16] <|
 q 47 (.load true 2 (.t 6)) <|
 q 48 (.mv (.t 1)) <|
 q 49 (.mv (.t 2)) <|
 q 50 (.mv (.t 3)) <|
 q 51 (.mv (.t 4)) <|
 q 52 (.call F.route_Earliest [(.t 47), (.t 48), (.t 49), (.t 50), (.t 51)]) <|
 q 46 (.mv (.t 52)) <|
 q 53 (.ext (.t 46) 0) <|
 q 54 (.ext (.t 46) 1) <|
 q 55 (.ext (.t 46) 2) <|
 q 17 (.mv (.t 53)) <|
 q 18 (.mv (.t 54)) <|
 q 19 (.mv (.t 55)) <|
 .keep [1, 2, 3, 4, 5, 6, 13, 15, 16, 17, 18, 19] <|
 q 56 (.mv (.t 16)) <|
 q 57 (.eq true .i (.t 56) (.c (.nilIface))) <|
 q 58 (.mv (.t 57)) <|
 qg 59 58 false (.mv (.t 19)) <|
 qg 60 58 false (.eq true .i (.t 59) (.c (.nilIface))) <|
 q 61 (.pick (.t 58) (cb true) (.t 60)) <|
 .keep [1, 2, 3, 4, 5, 6, 13, 15, 16, 17, 18, 19, 61] <|
 .ite (.t 61)
 (q 62 (.mv (.t 13)) <|
 q 63 (.mv (.t 62)) <|
 qg 64 63 true (.mv (.t 16)) <|
 qg 65 63 true (.mkif T.api_Code (ci 1)) <|
 qg 66 63 true (.eq false .i (.t 64) (.t 65)) <|
 q 67 (.pick (.t 63) (.t 66) (cb false)) <|
 q 68 (.mv (.t 67)) <|
 qg 69 68 true (.mv (.t 19)) <|
 qg 70 68 true (.mkif T.api_Code (ci 1)) <|
 qg 71 68 true (.eq false .i (.t 69) (.t 70)) <|
 q 72 (.pick (.t 68) (.t 71) (cb false)) <|
 q 73 (.mv (.t 72)) <|
 qg 74 73 true (.mv (.t 15)) <|
 qg 75 73 true (.un .not (.t 74)) <|
 q 76 (.pick (.t 73) (.t 75) (cb false)) <|
 q 12 (.mv (.t 76)) <|
 .keep [12] <|
 .ret)
 (.done) <|
 q 77 (.mv (.t 15)) <|
 q 78 (.mv (.t 18)) <|
 q 79 (.eq true .b (.t 77) (.t 78)) <|
 q 80 (.mv (.t 79)) <|
 qg 81 80 false (.mv (.t 18)) <|
 qg 82 80 false (.mv (.t 81)) <|
 qg 83 82 true (.mv (.t 17)) <|
 qg 84 82 true (.mv (.t 4)) <|
 qg 85 82 true (.bin .gtr (.t 83) (.t 84)) <|
 qg 86 80 false (.pick (.t 82) (.t 85) (cb false)) <|
 q 87 (.pick (.t 80) (cb true) (.t 86)) <|
 q 88 (.mv (.t 87)) <|
 qg 89 88 false (.mv (.t 18)) <|
 qg 90 88 false (.mv (.t 89)) <|
 qg 91 90 true (.mv (.t 17)) <|
 qg 92 90 true (.mv (.t 2)) <|
 qg 93 90 true (.bin .lss (.t 91) (.t 92)) <|
 qg 94 88 false (.pick (.t 90) (.t 93) (cb false)) <|
 q 95 (.pick (.t 88) (cb true) (.t 94)) <|
 .keep [1, 2, 3, 4, 5, 6, 13, 17, 18, 95] <|
 .ite (.t 95)
 (q 12 (.mv (cb false)) <|
 .keep [12] <|
 .ret)
 (.done) <|
 q 97 (.load true 2 (.t 6)) <|
 q 98 (.mv (.t 1)) <|
 q 99 (.mv (.t 2)) <|
 q 100 (.mv (.t 3)) <|
 q 101 (.mv (.t 4)) <|
 q 102 (.mv (.t 5)) <|
 q 103 (.bin .add (.t 101) (.t 102)) <|
 q 104 (.call F.route_Earliest [(.t 97), (.t 98), (.t 99), (.t 100), (.t 103)]) <|
 q 96 (.mv (.t 104)) <|
 q 105 (.ext (.t 96) 0) <|
 q 106 (.ext (.t 96) 1) <|
 q 107 (.ext (.t 96) 2) <|
 q 20 (.mv (.t 105)) <|
 q 21 (.mv (.t 106)) <|
 q 22 (.mv (.t 107)) <|
 .keep [13, 17, 18, 20, 21, 22] <|
 q 108 (.mv (.t 13)) <|
 q 109 (.mv (.t 108)) <|
 qg 110 109 true (.mv (.t 22)) <|
 qg 111 109 true (.eq true .i (.t 110) (.c (.nilIface))) <|
 qg 112 109 true (.mv (.t 111)) <|
 qg 113 112 false (.mv (.t 18)) <|
 qg 114 112 false (.un .not (.t 113)) <|
 qg 115 109 true (.pick (.t 112) (cb true) (.t 114)) <|
 qg 116 109 true (.mv (.t 115)) <|
 qg 117 116 false (.mv (.t 21)) <|
 qg 118 116 false (.mv (.t 117)) <|
 qg 119 118 true (.mv (.t 20)) <|
 qg 120 118 true (.mv (.t 17)) <|
 qg 121 118 true (.bin .eql (.t 119) (.t 120)) <|
 qg 122 116 false (.pick (.t 118) (.t 121) (cb false)) <|
 qg 123 109 true (.pick (.t 116) (cb true) (.t 122)) <|
 q 124 (.pick (.t 109) (.t 123) (cb false)) <|
 q 12 (.mv (.t 124)) <|
 .keep [12] <|
 .ret
theorem e_clapperlaw13_RouteBy:EF false F.clapperlaw13_RouteBy ic_clapperlaw13_RouteBy [.t 12]:=ef [] Try.func7 (by kernel_rfl) (by kernel_rfl) (by kernel_rfl)
def ic_clapperlaw13_up : IC :=
 q 0 (.mv (cb false)) <|
 .keep [] <|
 q 8 (.build [.int .i64 0, .int .i64 0, .int .i64 0, .slice none 0 0, .slice none 0 0] [(0, 1, (ci 127)), (2, 1, (ci 9))]) <|
 q 9 (.bslice false 5 1 [.int .i64 0, .int .i64 0, .int .i64 0, .slice none 0 0, .slice none 0 0] [(0, 5, (.t 8))]) <|
 q 10 (.build (List.replicate 5 (.int .i64 0)) [(1, 1, (ci 0)), (2, 1, (ci 10)), (3, 1, (ci 1)), (4, 1, (ci 20))]) <|
 q 11 (.build (List.replicate 5 (.int .i64 0)) [(1, 1, (ci 1)), (2, 1, (ci 20)), (3, 1, (ci 2)), (4, 1, (ci 30))]) <|
 q 12 (.bslice false 5 2 (List.replicate 5 (.int .i64 0)) [(0, 5, (.t 10)), (5, 5, (.t 11))]) <|
 q 13 (.build [.slice none 0 0, .slice none 0 0] [(0, 1, (.t 9)), (1, 1, (.t 12))]) <|
 q 1 (.alloc [.slice none 0 0, .slice none 0 0]) <|
 qn (.store 2 (.t 1) (.t 13)) <|
 .keep [1] <|
 q 15 (.load true 2 (.t 1)) <|
 q 16 (.call F.route_Earliest [(.t 15), (ci 0), (ci 0), (ci 2), (ci 100)]) <|
 q 14 (.mv (.t 16)) <|
 q 17 (.ext (.t 14) 0) <|
 q 18 (.ext (.t 14) 1) <|
 q 19 (.ext (.t 14) 2) <|
 q 2 (.mv (.t 17)) <|
 q 3 (.mv (.t 18)) <|
 q 4 (.mv (.t 19)) <|
 .keep [1, 2, 3, 4] <|
 q 21 (.load true 2 (.t 1)) <|
 q 22 (.call F.route_Earliest [(.t 21), (ci 0), (ci 0), (ci 3), (ci 100)]) <|
 q 20 (.mv (.t 22)) <|
 q 23 (.ext (.t 20) 0) <|
 q 24 (.ext (.t 20) 1) <|
 q 25 (.ext (.t 20) 2) <|
 q 5 (.mv (.t 23)) <|
 q 6 (.mv (.t 24)) <|
 q 7 (.mv (.t 25)) <|
 .keep [2, 3, 4, 6, 7] <|
 q 26 (.mv (.t 4)) <|
 q 27 (.eq false .i (.t 26) (.c (.nilIface))) <|
 q 28 (.mv (.t 27)) <|
 qg 29 28 true (.mv (.t 3)) <|
 q 30 (.pick (.t 28) (.t 29) (cb false)) <|
 q 31 (.mv (.t 30)) <|
 qg 32 31 true (.mv (.t 2)) <|
 qg 33 31 true (.bin .eql (.t 32) (ci 30)) <|
 q 34 (.pick (.t 31) (.t 33) (cb false)) <|
 q 35 (.mv (.t 34)) <|
 qg 36 35 true (.mv (.t 7)) <|
 qg 37 35 true (.eq false .i (.t 36) (.c (.nilIface))) <|
 q 38 (.pick (.t 35) (.t 37) (cb false)) <|
 q 39 (.mv (.t 38)) <|
 qg 40 39 true (.mv (.t 6)) <|
 qg 41 39 true (.un .not (.t 40)) <|
 q 42 (.pick (.t 39) (.t 41) (cb false)) <|
 q 0 (.mv (.t 42)) <|
 .keep [0] <|
 .ret
theorem e_clapperlaw13_up:EF false F.clapperlaw13_up ic_clapperlaw13_up [.t 0]:=ef [] Try.func15 (by kernel_rfl) (by kernel_rfl) (by kernel_rfl)
def ic_clapperref13_Few : IC :=
 q 1 (.box (.t 0)) <|
 q 2 (.mv (cb false)) <|
 .keep [1] <|
 q 4 (.fld 0 (.t 1)) <|
 q 5 (.load false 1 (.t 4)) <|
 q 6 (.len false (.t 5)) <|
 q 7 (.bin .gtr (.t 6) (ci 40)) <|
 q 8 (.mv (.t 7)) <|
 qg 9 8 false (.fld 1 (.t 1)) <|
 qg 10 8 false (.load false 1 (.t 9)) <|
 qg 11 8 false (.len false (.t 10)) <|
 qg 12 8 false (.bin .gtr (.t 11) (ci 200)) <|
 q 13 (.pick (.t 8) (cb true) (.t 12)) <|
 .keep [1, 13] <|
 .ite (.t 13)
 (q 2 (.mv (cb false)) <|
 .keep [2] <|
 .ret)
 (.done) <|
 q 3 (.mv (ci 0)) <|
 .keep [1, 3] <|
 .block 0
 (.keep [1, 3] <|
 .loop
 (q 14 (.mv (.t 3)) <|
 q 15 (.fld 0 (.t 1)) <|
 q 16 (.load false 1 (.t 15)) <|
 q 17 (.len false (.t 16)) <|
 q 18 (.bin .lss (.t 14) (.t 17)) <|
 .keep [1, 3, 18] <|
 .ite (.t 18)
 (.done)
 (.exit 0) <|
 .block 1
 (q 21 (.fld 0 (.t 1)) <|
 q 22 (.load false 1 (.t 21)) <|
 q 23 (.mv (.t 3)) <|
 q 24 (.idxa 5 none (.t 22) (.t 23)) <|
 q 25 (.fld 3 (.t 24)) <|
 q 26 (.load false 1 (.t 25)) <|
 q 27 (.len false (.t 26)) <|
 q 28 (.bin .gtr (.t 27) (ci 300)) <|
 q 29 (.mv (.t 28)) <|
 qg 30 29 false (.fld 0 (.t 1)) <|
 qg 31 29 false (.load false 1 (.t 30)) <|
 qg 32 29 false (.mv (.t 3)) <|
 qg 33 29 false (.idxa 5 none (.t 31) (.t 32)) <|
 qg 34 29 false (.fld 4 (.t 33)) <|
 qg 35 29 false (.load false 1 (.t 34)) <|
 qg 36 29 false (.len false (.t 35)) <|
 qg 37 29 false (.bin .gtr (.t 36) (ci 300)) <|
 q 38 (.pick (.t 29) (cb true) (.t 37)) <|
 .keep [1, 3, 38] <|
 .ite (.t 38)
 (q 2 (.mv (cb false)) <|
 .keep [2] <|
 .ret)
 (.done) <|
 .done) <|
 q 19 (.mv (.t 3)) <|
 q 20 (.bin .add (.t 19) (ci 1)) <|
 q 3 (.mv (.t 20)) <|
 .keep [1, 3] <|
 .keep [1, 3] <|
 .done)) <|
 q 2 (.mv (cb true)) <|
 .keep [2] <|
 .ret
theorem e_clapperref13_Few:EF false F.clapperref13_Few ic_clapperref13_Few [.t 2]:=ef [] Try.func16 (by kernel_rfl) (by kernel_rfl) (by kernel_rfl)
def ic_route_Earliest : IC :=
 q 5 (.box (.t 0)) <|
 q 10 (.mv (ci 0)) <|
 q 11 (.mv (cb false)) <|
 q 12 (.mv (.c (.nilIface))) <|
 .keep [1, 2, 3, 4, 5] <|
 q 17 (.load true 2 (.t 5)) <|
 q 18 (.call F.route_May [(.t 17)]) <|
 q 19 (.un .not (.t 18)) <|
 q 20 (.mv (.t 19)) <|
 qg 21 20 false (.mv (.t 1)) <|
 qg 22 20 false (.call F.route_stop [(.t 21)]) <|
 qg 23 20 false (.un .not (.t 22)) <|
 q 24 (.pick (.t 20) (cb true) (.t 23)) <|
 q 25 (.mv (.t 24)) <|
 qg 26 25 false (.mv (.t 3)) <|
 qg 27 25 false (.call F.route_stop [(.t 26)]) <|
 qg 28 25 false (.un .not (.t 27)) <|
 q 29 (.pick (.t 25) (cb true) (.t 28)) <|
 q 30 (.mv (.t 29)) <|
 qg 31 30 false (.mv (.t 2)) <|
 qg 32 30 false (.bin .lss (.t 31) (ci 0)) <|
 q 33 (.pick (.t 30) (cb true) (.t 32)) <|
 q 34 (.mv (.t 33)) <|
 qg 35 34 false (.mv (.t 2)) <|
 qg 36 34 false (.bin .gtr (.t 35) (ci 1073741824)) <|
 q 37 (.pick (.t 34) (cb true) (.t 36)) <|
 q 38 (.mv (.t 37)) <|
 qg 39 38 false (.mv (.t 4)) <|
 qg 40 38 false (.mv (.t 2)) <|
 qg 41 38 false (.bin .lss (.t 39) (.t 40)) <|
 q 42 (.pick (.t 38) (cb true) (.t 41)) <|
 q 43 (.mv (.t 42)) <|
 qg 44 43 false (.mv (.t 4)) <|
 qg 45 43 false (.mv (.t 2)) <|
 qg 46 43 false (.bin .add (.t 45) (ci 4320)) <|
 qg 47 43 false (.bin .gtr (.t 44) (.t 46)) <|
 q 48 (.pick (.t 43) (cb true) (.t 47)) <|
 .keep [1, 2, 3, 4, 5, 48] <|
 .ite (.t 48)
 (q 49 (.mkif T.api_Code (ci 1)) <|
 q 10 (.mv (ci 0)) <|
 q 11 (.mv (cb false)) <|
 q 12 (.mv (.t 49)) <|
 .keep [10, 11, 12] <|
 .ret)
 (.done) <|
 q 13 (.alloc (List.replicate 32 (.int .i64 0))) <|
 .keep [1, 2, 3, 4, 5, 13] <|
 q 50 (.mv (ci 0)) <|
 .keep [1, 2, 3, 4, 5, 13, 50] <|
 .block 0
 (.keep [1, 2, 3, 4, 5, 13, 50] <|
 .loop
 (q 51 (.bin .lss (.t 50) (ci 32)) <|
 .keep [1, 2, 3, 4, 5, 13, 50, 51] <|
 .ite (.t 51)
 (.done)
 (.exit 0) <|
 .block 1
 (q 52 (.mv (.t 50)) <|
 q 14 (.mv (.t 52)) <|
 .keep [1, 2, 3, 4, 5, 13, 14, 50] <|
 q 53 (.mv (.t 14)) <|
 q 54 (.mv (.t 4)) <|
 q 55 (.bin .add (.t 54) (ci 1)) <|
 q 56 (.idxa 1 (some 32) (.t 13) (.t 53)) <|
 qn (.store 1 (.t 56) (.t 55)) <|
 .keep [1, 2, 3, 4, 5, 13, 50] <|
 .done) <|
 q 57 (.bin .add (.t 50) (ci 1)) <|
 q 50 (.mv (.t 57)) <|
 .keep [1, 2, 3, 4, 5, 13, 50] <|
 .keep [1, 2, 3, 4, 5, 13, 50] <|
 .done)) <|
 q 58 (.mv (.t 1)) <|
 q 59 (.mv (.t 2)) <|
 q 60 (.idxa 1 (some 32) (.t 13) (.t 58)) <|
 qn (.store 1 (.t 60) (.t 59)) <|
 .keep [2, 3, 4, 5, 13] <|
 q 61 (.load true 2 (.t 5)) <|
 q 62 (.mv (.t 2)) <|
 q 63 (.mv (.t 4)) <|
 q 64 (.call F.route_rides [(.t 61), (.t 62), (.t 63)]) <|
 q 65 (.len false (.t 64)) <|
 q 66 (.mv (ci 0)) <|
 .keep [3, 4, 13, 64, 65, 66] <|
 .block 2
 (.keep [3, 4, 13, 64, 65, 66] <|
 .loop
 (q 67 (.bin .lss (.t 66) (.t 65)) <|
 .keep [3, 4, 13, 64, 65, 66, 67] <|
 .ite (.t 67)
 (.done)
 (.exit 2) <|
 .block 3
 (q 68 (.idxa 4 none (.t 64) (.t 66)) <|
 q 69 (.load true 4 (.t 68)) <|
 q 16 (.alloc (List.replicate 4 (.int .i64 0))) <|
 qn (.store 4 (.t 16) (.t 69)) <|
 .keep [3, 4, 13, 16, 64, 65, 66] <|
 q 70 (.fld 0 (.t 16)) <|
 q 71 (.load false 1 (.t 70)) <|
 q 72 (.idxa 1 (some 32) (.t 13) (.t 71)) <|
 q 73 (.load false 1 (.t 72)) <|
 q 74 (.fld 1 (.t 16)) <|
 q 75 (.load false 1 (.t 74)) <|
 q 76 (.bin .leq (.t 73) (.t 75)) <|
 .keep [3, 4, 13, 16, 64, 65, 66, 76] <|
 .ite (.t 76)
 (q 77 (.fld 2 (.t 16)) <|
 q 78 (.load false 1 (.t 77)) <|
 q 79 (.fld 2 (.t 16)) <|
 q 80 (.load false 1 (.t 79)) <|
 q 81 (.idxa 1 (some 32) (.t 13) (.t 80)) <|
 q 82 (.load false 1 (.t 81)) <|
 q 83 (.fld 3 (.t 16)) <|
 q 84 (.load false 1 (.t 83)) <|
 q 85 (.mn (.t 82) (.t 84)) <|
 q 86 (.idxa 1 (some 32) (.t 13) (.t 78)) <|
 qn (.store 1 (.t 86) (.t 85)) <|
 .keep [3, 4, 13, 64, 65, 66] <|
 .done)
 (.done) <|
 .done) <|
 q 87 (.bin .add (.t 66) (ci 1)) <|
 q 66 (.mv (.t 87)) <|
 .keep [3, 4, 13, 64, 65, 66] <|
 .keep [3, 4, 13, 64, 65, 66] <|
 .done)) <|
 q 88 (.mv (.t 3)) <|
 q 89 (.idxa 1 (some 32) (.t 13) (.t 88)) <|
 q 90 (.load false 1 (.t 89)) <|
 q 91 (.mv (.t 4)) <|
 q 92 (.bin .gtr (.t 90) (.t 91)) <|
 .keep [3, 13, 92] <|
 .ite (.t 92)
 (q 10 (.mv (ci 0)) <|
 q 11 (.mv (cb false)) <|
 q 12 (.mv (.c (.nilIface))) <|
 .keep [10, 11, 12] <|
 .ret)
 (.done) <|
 q 93 (.mv (.t 3)) <|
 q 94 (.idxa 1 (some 32) (.t 13) (.t 93)) <|
 q 95 (.load false 1 (.t 94)) <|
 q 10 (.mv (.t 95)) <|
 q 11 (.mv (cb true)) <|
 q 12 (.mv (.c (.nilIface))) <|
 .keep [10, 11, 12] <|
 .ret
theorem e_route_Earliest:EF false F.route_Earliest ic_route_Earliest [.t 10,.t 11,.t 12]:=ef [] Try.func17 (by kernel_rfl) (by kernel_rfl) (by kernel_rfl)
def ic_clapperref13_May : IC :=
 q 1 (.box (.t 0)) <|
 q 2 (.mv (cb false)) <|
 .keep [1] <|
 q 9 (.fld 0 (.t 1)) <|
 q 10 (.load false 1 (.t 9)) <|
 q 11 (.len false (.t 10)) <|
 q 12 (.bin .gtr (.t 11) (ci 16)) <|
 q 13 (.mv (.t 12)) <|
 qg 14 13 false (.fld 1 (.t 1)) <|
 qg 15 13 false (.load false 1 (.t 14)) <|
 qg 16 13 false (.len false (.t 15)) <|
 qg 17 13 false (.bin .gtr (.t 16) (ci 100)) <|
 q 18 (.pick (.t 13) (cb true) (.t 17)) <|
 .keep [1, 18] <|
 .ite (.t 18)
 (q 2 (.mv (cb false)) <|
 .keep [2] <|
 .ret)
 (.done) <|
 q 3 (.mv (ci 0)) <|
 .keep [1, 3] <|
 .block 0
 (.keep [1, 3] <|
 .loop
 (q 19 (.mv (.t 3)) <|
 q 20 (.fld 0 (.t 1)) <|
 q 21 (.load false 1 (.t 20)) <|
 q 22 (.len false (.t 21)) <|
 q 23 (.bin .lss (.t 19) (.t 22)) <|
 .keep [1, 3, 23] <|
 .ite (.t 23)
 (.done)
 (.exit 0) <|
 .block 1
 (q 26 (.fld 0 (.t 1)) <|
 q 27 (.load false 1 (.t 26)) <|
 q 28 (.mv (.t 3)) <|
 q 29 (.idxa 5 none (.t 27) (.t 28)) <|
 q 30 (.load true 5 (.t 29)) <|
 q 31 (.call F.clapperref12_May [(.t 30)]) <|
 q 4 (.mv (.t 31)) <|
 .keep [1, 3, 4] <|
 q 32 (.mv (.t 4)) <|
 q 33 (.un .not (.t 32)) <|
 .keep [1, 3, 33] <|
 .ite (.t 33)
 (q 2 (.mv (cb false)) <|
 .keep [2] <|
 .ret)
 (.done) <|
 .done) <|
 q 24 (.mv (.t 3)) <|
 q 25 (.bin .add (.t 24) (ci 1)) <|
 q 3 (.mv (.t 25)) <|
 .keep [1, 3] <|
 .keep [1, 3] <|
 .done)) <|
 q 5 (.mv (ci 0)) <|
 .keep [1, 5] <|
 .block 2
 (.keep [1, 5] <|
 .loop
 (q 34 (.mv (.t 5)) <|
 q 35 (.fld 1 (.t 1)) <|
 q 36 (.load false 1 (.t 35)) <|
 q 37 (.len false (.t 36)) <|
 q 38 (.bin .lss (.t 34) (.t 37)) <|
 .keep [1, 5, 38] <|
 .ite (.t 38)
 (.done)
 (.exit 2) <|
 .block 3
 (q 41 (.fld 1 (.t 1)) <|
 q 42 (.load false 1 (.t 41)) <|
 q 43 (.mv (.t 5)) <|
 q 44 (.idxa 5 none (.t 42) (.t 43)) <|
 q 45 (.load true 5 (.t 44)) <|
 q 6 (.alloc (List.replicate 5 (.int .i64 0))) <|
 qn (.store 5 (.t 6) (.t 45)) <|
 .keep [1, 5, 6] <|
 q 46 (.fld 1 (.t 6)) <|
 q 47 (.load false 1 (.t 46)) <|
 q 48 (.call F.clapperref13_stop [(.t 47)]) <|
 q 7 (.mv (.t 48)) <|
 .keep [1, 5, 6, 7] <|
 q 49 (.fld 3 (.t 6)) <|
 q 50 (.load false 1 (.t 49)) <|
 q 51 (.call F.clapperref13_stop [(.t 50)]) <|
 q 8 (.mv (.t 51)) <|
 .keep [1, 5, 6, 7, 8] <|
 q 52 (.fld 0 (.t 6)) <|
 q 53 (.load false 1 (.t 52)) <|
 q 54 (.bin .lss (.t 53) (ci 0)) <|
 q 55 (.mv (.t 54)) <|
 qg 56 55 false (.fld 0 (.t 6)) <|
 qg 57 55 false (.load false 1 (.t 56)) <|
 qg 58 55 false (.fld 0 (.t 1)) <|
 qg 59 55 false (.load false 1 (.t 58)) <|
 qg 60 55 false (.len false (.t 59)) <|
 qg 61 55 false (.bin .geq (.t 57) (.t 60)) <|
 q 62 (.pick (.t 55) (cb true) (.t 61)) <|
 q 63 (.mv (.t 62)) <|
 qg 64 63 false (.mv (.t 7)) <|
 qg 65 63 false (.un .not (.t 64)) <|
 q 66 (.pick (.t 63) (cb true) (.t 65)) <|
 q 67 (.mv (.t 66)) <|
 qg 68 67 false (.mv (.t 8)) <|
 qg 69 67 false (.un .not (.t 68)) <|
 q 70 (.pick (.t 67) (cb true) (.t 69)) <|
 q 71 (.mv (.t 70)) <|
 qg 72 71 false (.fld 2 (.t 6)) <|
 qg 73 71 false (.load false 1 (.t 72)) <|
 qg 74 71 false (.bin .lss (.t 73) (ci 0)) <|
 q 75 (.pick (.t 71) (cb true) (.t 74)) <|
 q 76 (.mv (.t 75)) <|
 qg 77 76 false (.fld 2 (.t 6)) <|
 qg 78 76 false (.load false 1 (.t 77)) <|
 qg 79 76 false (.bin .gtr (.t 78) (ci 1439)) <|
 q 80 (.pick (.t 76) (cb true) (.t 79)) <|
 q 81 (.mv (.t 80)) <|
 qg 82 81 false (.fld 4 (.t 6)) <|
 qg 83 81 false (.load false 1 (.t 82)) <|
 qg 84 81 false (.fld 2 (.t 6)) <|
 qg 85 81 false (.load false 1 (.t 84)) <|
 qg 86 81 false (.bin .leq (.t 83) (.t 85)) <|
 q 87 (.pick (.t 81) (cb true) (.t 86)) <|
 q 88 (.mv (.t 87)) <|
 qg 89 88 false (.fld 4 (.t 6)) <|
 qg 90 88 false (.load false 1 (.t 89)) <|
 qg 91 88 false (.bin .gtr (.t 90) (ci 2879)) <|
 q 92 (.pick (.t 88) (cb true) (.t 91)) <|
 .keep [1, 5, 92] <|
 .ite (.t 92)
 (q 2 (.mv (cb false)) <|
 .keep [2] <|
 .ret)
 (.done) <|
 .done) <|
 q 39 (.mv (.t 5)) <|
 q 40 (.bin .add (.t 39) (ci 1)) <|
 q 5 (.mv (.t 40)) <|
 .keep [1, 5] <|
 .keep [1, 5] <|
 .done)) <|
 q 2 (.mv (cb true)) <|
 .keep [2] <|
 .ret
theorem e_clapperref13_May:EF false F.clapperref13_May ic_clapperref13_May [.t 2]:=ef [] Try.func18 (by kernel_rfl) (by kernel_rfl) (by kernel_rfl)
def ic_clapperref13_Fair : IC :=
 q 5 (.box (.t 0)) <|
 q 10 (.mv (cb false)) <|
 .keep [1, 2, 3, 4, 5] <|
 q 14 (.load true 2 (.t 5)) <|
 q 15 (.call F.clapperref13_May [(.t 14)]) <|
 q 11 (.mv (.t 15)) <|
 .keep [1, 2, 3, 4, 11] <|
 q 16 (.mv (.t 1)) <|
 q 17 (.call F.clapperref13_stop [(.t 16)]) <|
 q 12 (.mv (.t 17)) <|
 .keep [2, 3, 4, 11, 12] <|
 q 18 (.mv (.t 3)) <|
 q 19 (.call F.clapperref13_stop [(.t 18)]) <|
 q 13 (.mv (.t 19)) <|
 .keep [2, 4, 11, 12, 13] <|
 q 20 (.mv (.t 11)) <|
 q 21 (.mv (.t 20)) <|
 qg 22 21 true (.mv (.t 12)) <|
 q 23 (.pick (.t 21) (.t 22) (cb false)) <|
 q 24 (.mv (.t 23)) <|
 qg 25 24 true (.mv (.t 13)) <|
 q 26 (.pick (.t 24) (.t 25) (cb false)) <|
 q 27 (.mv (.t 26)) <|
 qg 28 27 true (.mv (.t 2)) <|
 qg 29 27 true (.bin .geq (.t 28) (ci 0)) <|
 q 30 (.pick (.t 27) (.t 29) (cb false)) <|
 q 31 (.mv (.t 30)) <|
 qg 32 31 true (.mv (.t 2)) <|
 qg 33 31 true (.bin .leq (.t 32) (ci 1073741824)) <|
 q 34 (.pick (.t 31) (.t 33) (cb false)) <|
 q 35 (.mv (.t 34)) <|
 qg 36 35 true (.mv (.t 4)) <|
 qg 37 35 true (.mv (.t 2)) <|
 qg 38 35 true (.bin .geq (.t 36) (.t 37)) <|
 q 39 (.pick (.t 35) (.t 38) (cb false)) <|
 q 40 (.mv (.t 39)) <|
 qg 41 40 true (.mv (.t 4)) <|
 qg 42 40 true (.mv (.t 2)) <|
 qg 43 40 true (.bin .sub (.t 41) (.t 42)) <|
 qg 44 40 true (.bin .leq (.t 43) (ci 4320)) <|
 q 45 (.pick (.t 40) (.t 44) (cb false)) <|
 q 10 (.mv (.t 45)) <|
 .keep [10] <|
 .ret
theorem e_clapperref13_Fair:EF false F.clapperref13_Fair ic_clapperref13_Fair [.t 10]:=ef [] Try.func19 (by kernel_rfl) (by kernel_rfl) (by kernel_rfl)
def ic_route_May : IC :=
 q 1 (.box (.t 0)) <|
 q 2 (.mv (cb false)) <|
 .keep [1] <|
 q 3 (.mv (.f F.route_May_1)) <|
 .keep [1, 3] <|
 q 5 (.mkfn (.func F.route_May_2) [] [(.t 1)]) <|
 q 4 (.mv (.t 5)) <|
 .keep [1, 3, 4] <|
 q 6 (.fld 0 (.t 1)) <|
 q 7 (.load false 1 (.t 6)) <|
 q 8 (.len false (.t 7)) <|
 q 9 (.bin .leq (.t 8) (ci 16)) <|
 q 10 (.mv (.t 9)) <|
 qg 11 10 true (.fld 1 (.t 1)) <|
 qg 12 10 true (.load false 1 (.t 11)) <|
 qg 13 10 true (.len false (.t 12)) <|
 qg 14 10 true (.bin .leq (.t 13) (ci 100)) <|
 q 15 (.pick (.t 10) (.t 14) (cb false)) <|
 q 16 (.mv (.t 15)) <|
 qg 17 16 true (.fld 0 (.t 1)) <|
 qg 18 16 true (.load false 1 (.t 17)) <|
 qg 19 16 true (.mv (.t 3)) <|
 qg 20 16 true (.call F.slices_ContainsFunc_api_Service_api_Service [(.t 18), (.t 19)]) <|
 qg 21 16 true (.un .not (.t 20)) <|
 q 22 (.pick (.t 16) (.t 21) (cb false)) <|
 q 23 (.mv (.t 22)) <|
 qg 24 23 true (.fld 1 (.t 1)) <|
 qg 25 23 true (.load false 1 (.t 24)) <|
 qg 26 23 true (.mv (.t 4)) <|
 qg 27 23 true (.call F.slices_ContainsFunc_api_Conn_api_Conn [(.t 25), (.t 26)]) <|
 qg 28 23 true (.un .not (.t 27)) <|
 q 29 (.pick (.t 23) (.t 28) (cb false)) <|
 q 2 (.mv (.t 29)) <|
 .keep [2] <|
 .ret
theorem e_route_May:EF false F.route_May ic_route_May [.t 2]:=ef [] Try.func20 (by kernel_rfl) (by kernel_rfl) (by kernel_rfl)
def ic_clapperref13_Earliest : IC :=
 q 5 (.box (.t 0)) <|
 q 10 (.mv (ci 0)) <|
 .keep [1, 2, 3, 4, 5] <|
 q 20 (.mksl 1 8 [.int .i64 0] (ci 32) (ci 32)) <|
 q 11 (.mv (.t 20)) <|
 .keep [1, 2, 3, 4, 5, 11] <|
 q 12 (.mv (ci 0)) <|
 .keep [1, 2, 3, 4, 5, 11, 12] <|
 .block 0
 (.keep [1, 2, 3, 4, 5, 11, 12] <|
 .loop
 (q 21 (.mv (.t 12)) <|
 q 22 (.bin .lss (.t 21) (ci 32)) <|
 .keep [1, 2, 3, 4, 5, 11, 12, 22] <|
 .ite (.t 22)
 (.done)
 (.exit 0) <|
 .block 1
 (q 25 (.mv (.t 11)) <|
 q 26 (.mv (.t 12)) <|
 q 27 (.idxa 1 none (.t 25) (.t 26)) <|
 qn (.store 1 (.t 27) (ci (-1))) <|
 .keep [1, 2, 3, 4, 5, 11, 12] <|
 .done) <|
 q 23 (.mv (.t 12)) <|
 q 24 (.bin .add (.t 23) (ci 1)) <|
 q 12 (.mv (.t 24)) <|
 .keep [1, 2, 3, 4, 5, 11, 12] <|
 .keep [1, 2, 3, 4, 5, 11, 12] <|
 .done)) <|
 q 28 (.mv (.t 11)) <|
 q 29 (.mv (.t 1)) <|
 q 30 (.mv (.t 2)) <|
 q 31 (.idxa 1 none (.t 28) (.t 29)) <|
 qn (.store 1 (.t 31) (.t 30)) <|
 .keep [2, 3, 4, 5, 11] <|
 q 13 (.mv (cb true)) <|
 .keep [2, 3, 4, 5, 11, 13] <|
 .block 2
 (.keep [2, 3, 4, 5, 11, 13] <|
 .loop
 (q 32 (.mv (.t 13)) <|
 .keep [2, 3, 4, 5, 11, 32] <|
 .ite (.t 32)
 (.done)
 (.exit 2) <|
 .block 3
 (q 13 (.mv (cb false)) <|
 .keep [2, 3, 4, 5, 11, 13] <|
 q 33 (.mv (.t 2)) <|
 q 34 (.bin .quo (.t 33) (ci 1440)) <|
 q 14 (.mv (.t 34)) <|
 .keep [2, 3, 4, 5, 11, 13, 14] <|
 .block 4
 (.keep [2, 3, 4, 5, 11, 13, 14] <|
 .loop
 (q 35 (.mv (.t 14)) <|
 q 36 (.mv (.t 4)) <|
 q 37 (.bin .quo (.t 36) (ci 1440)) <|
 q 38 (.bin .leq (.t 35) (.t 37)) <|
 .keep [2, 3, 4, 5, 11, 13, 14, 38] <|
 .ite (.t 38)
 (.done)
 (.exit 4) <|
 .block 5
 (q 15 (.mv (ci 0)) <|
 .keep [2, 3, 4, 5, 11, 13, 14, 15] <|
 .block 6
 (.keep [2, 3, 4, 5, 11, 13, 14, 15] <|
 .loop
 (q 41 (.mv (.t 15)) <|
 q 42 (.fld 1 (.t 5)) <|
 q 43 (.load false 1 (.t 42)) <|
 q 44 (.len false (.t 43)) <|
 q 45 (.bin .lss (.t 41) (.t 44)) <|
 .keep [2, 3, 4, 5, 11, 13, 14, 15, 45] <|
 .ite (.t 45)
 (.done)
 (.exit 6) <|
 .block 7
 (q 48 (.fld 1 (.t 5)) <|
 q 49 (.load false 1 (.t 48)) <|
 q 50 (.mv (.t 15)) <|
 q 51 (.idxa 5 none (.t 49) (.t 50)) <|
 q 52 (.load true 5 (.t 51)) <|
 q 16 (.alloc (List.replicate 5 (.int .i64 0))) <|
 qn (.store 5 (.t 16) (.t 52)) <|
 .keep [2, 3, 4, 5, 11, 13, 14, 15, 16] <|
 q 53 (.fld 0 (.t 5)) <|
 q 54 (.load false 1 (.t 53)) <|
 q 55 (.fld 0 (.t 16)) <|
 q 56 (.load false 1 (.t 55)) <|
 q 57 (.idxa 5 none (.t 54) (.t 56)) <|
 q 58 (.load true 5 (.t 57)) <|
 q 59 (.mv (.t 14)) <|
 q 60 (.call F.clapperref12_Runs [(.t 58), (.t 59)]) <|
 q 17 (.mv (.t 60)) <|
 .keep [2, 3, 4, 5, 11, 13, 14, 15, 16, 17] <|
 q 61 (.mv (.t 14)) <|
 q 62 (.bin .mul (ci 1440) (.t 61)) <|
 q 63 (.fld 2 (.t 16)) <|
 q 64 (.load false 1 (.t 63)) <|
 q 65 (.bin .add (.t 62) (.t 64)) <|
 q 18 (.mv (.t 65)) <|
 .keep [2, 3, 4, 5, 11, 13, 14, 15, 16, 17, 18] <|
 q 66 (.mv (.t 14)) <|
 q 67 (.bin .mul (ci 1440) (.t 66)) <|
 q 68 (.fld 4 (.t 16)) <|
 q 69 (.load false 1 (.t 68)) <|
 q 70 (.bin .add (.t 67) (.t 69)) <|
 q 19 (.mv (.t 70)) <|
 .keep [2, 3, 4, 5, 11, 13, 14, 15, 16, 17, 18, 19] <|
 q 71 (.mv (.t 17)) <|
 q 72 (.un .not (.t 71)) <|
 q 73 (.mv (.t 72)) <|
 qg 74 73 false (.mv (.t 11)) <|
 qg 75 73 false (.fld 1 (.t 16)) <|
 qg 76 73 false (.load false 1 (.t 75)) <|
 qg 77 73 false (.idxa 1 none (.t 74) (.t 76)) <|
 qg 78 73 false (.load false 1 (.t 77)) <|
 qg 79 73 false (.bin .lss (.t 78) (ci 0)) <|
 q 80 (.pick (.t 73) (cb true) (.t 79)) <|
 q 81 (.mv (.t 80)) <|
 qg 82 81 false (.mv (.t 11)) <|
 qg 83 81 false (.fld 1 (.t 16)) <|
 qg 84 81 false (.load false 1 (.t 83)) <|
 qg 85 81 false (.idxa 1 none (.t 82) (.t 84)) <|
 qg 86 81 false (.load false 1 (.t 85)) <|
 qg 87 81 false (.mv (.t 18)) <|
 qg 88 81 false (.bin .gtr (.t 86) (.t 87)) <|
 q 89 (.pick (.t 81) (cb true) (.t 88)) <|
 q 90 (.mv (.t 89)) <|
 qg 91 90 false (.mv (.t 19)) <|
 qg 92 90 false (.mv (.t 4)) <|
 qg 93 90 false (.bin .gtr (.t 91) (.t 92)) <|
 q 94 (.pick (.t 90) (cb true) (.t 93)) <|
 .keep [2, 3, 4, 5, 11, 13, 14, 15, 16, 19, 94] <|
 .ite (.t 94)
 (.exit 7)
 (.done) <|
 q 95 (.mv (.t 11)) <|
 q 96 (.fld 3 (.t 16)) <|
 q 97 (.load false 1 (.t 96)) <|
 q 98 (.idxa 1 none (.t 95) (.t 97)) <|
 q 99 (.load false 1 (.t 98)) <|
 q 100 (.bin .lss (.t 99) (ci 0)) <|
 q 101 (.mv (.t 100)) <|
 qg 102 101 false (.mv (.t 19)) <|
 qg 103 101 false (.mv (.t 11)) <|
 qg 104 101 false (.fld 3 (.t 16)) <|
 qg 105 101 false (.load false 1 (.t 104)) <|
 qg 106 101 false (.idxa 1 none (.t 103) (.t 105)) <|
 qg 107 101 false (.load false 1 (.t 106)) <|
 qg 108 101 false (.bin .lss (.t 102) (.t 107)) <|
 q 109 (.pick (.t 101) (cb true) (.t 108)) <|
 .keep [2, 3, 4, 5, 11, 13, 14, 15, 16, 19, 109] <|
 .ite (.t 109)
 (q 110 (.mv (.t 11)) <|
 q 111 (.fld 3 (.t 16)) <|
 q 112 (.load false 1 (.t 111)) <|
 q 113 (.mv (.t 19)) <|
 q 114 (.idxa 1 none (.t 110) (.t 112)) <|
 qn (.store 1 (.t 114) (.t 113)) <|
 .keep [2, 3, 4, 5, 11, 14, 15] <|
 q 13 (.mv (cb true)) <|
 .keep [2, 3, 4, 5, 11, 13, 14, 15] <|
 .done)
 (.done) <|
 .done) <|
 q 46 (.mv (.t 15)) <|
 q 47 (.bin .add (.t 46) (ci 1)) <|
 q 15 (.mv (.t 47)) <|
 .keep [2, 3, 4, 5, 11, 13, 14, 15] <|
 .keep [2, 3, 4, 5, 11, 13, 14, 15] <|
 .done)) <|
 .done) <|
 q 39 (.mv (.t 14)) <|
 q 40 (.bin .add (.t 39) (ci 1)) <|
 q 14 (.mv (.t 40)) <|
 .keep [2, 3, 4, 5, 11, 13, 14] <|
 .keep [2, 3, 4, 5, 11, 13, 14] <|
 .done)) <|
 .done) <|
 .keep [2, 3, 4, 5, 11, 13] <|
 .done)) <|
 q 115 (.mv (.t 11)) <|
 q 116 (.mv (.t 3)) <|
 q 117 (.idxa 1 none (.t 115) (.t 116)) <|
 q 118 (.load false 1 (.t 117)) <|
 q 10 (.mv (.t 118)) <|
 .keep [10] <|
 .ret
theorem e_clapperref13_Earliest:EF false F.clapperref13_Earliest ic_clapperref13_Earliest [.t 10]:=ef [] Try.func21 (by kernel_rfl) (by kernel_rfl) (by kernel_rfl)
def ic_route_Feasible : IC :=
 q 5 (.box (.t 0)) <|
 q 10 (.mv (cb false)) <|
 q 11 (.mv (.c (.nilIface))) <|
 .keep [1, 2, 3, 4, 5] <|
 q 16 (.load true 2 (.t 5)) <|
 q 17 (.mv (.t 1)) <|
 q 18 (.mv (.t 2)) <|
 q 19 (.mv (.t 3)) <|
 q 20 (.mv (.t 4)) <|
 q 21 (.call F.route_Earliest [(.t 16), (.t 17), (.t 18), (.t 19), (.t 20)]) <|
 q 15 (.mv (.t 21)) <|
 q 22 (.ext (.t 15) 0) <|
 q 23 (.ext (.t 15) 1) <|
 q 24 (.ext (.t 15) 2) <|
 q 12 (.mv (.t 22)) <|
 q 13 (.mv (.t 23)) <|
 q 14 (.mv (.t 24)) <|
 .keep [13, 14] <|
 q 25 (.mv (.t 13)) <|
 q 26 (.mv (.t 14)) <|
 q 10 (.mv (.t 25)) <|
 q 11 (.mv (.t 26)) <|
 .keep [10, 11] <|
 .ret
theorem e_route_Feasible:EF false F.route_Feasible ic_route_Feasible [.t 10,.t 11]:=ef [] Try.func22 (by kernel_rfl) (by kernel_rfl) (by kernel_rfl)
def ic_route_stop : IC :=
 q 2 (.mv (cb false)) <|
 .keep [0] <|
 q 3 (.mv (.t 0)) <|
 q 4 (.bin .geq (.t 3) (ci 0)) <|
 q 5 (.mv (.t 4)) <|
 qg 6 5 true (.mv (.t 0)) <|
 qg 7 5 true (.bin .lss (.t 6) (ci 32)) <|
 q 8 (.pick (.t 5) (.t 7) (cb false)) <|
 q 2 (.mv (.t 8)) <|
 .keep [2] <|
 .ret
theorem e_route_stop:EF false F.route_stop ic_route_stop [.t 2]:=ef [] Try.func26 (by kernel_rfl) (by kernel_rfl) (by kernel_rfl)
def ic_route_rides : IC :=
 q 3 (.box (.t 0)) <|
 q 6 (.mv (.c (.slice none 0 0))) <|
 .keep [1, 2, 3] <|
 q 7 (.mv (.c (.slice none 0 0))) <|
 .keep [1, 2, 3, 7] <|
 q 12 (.mv (.t 1)) <|
 q 13 (.bin .quo (.t 12) (ci 1440)) <|
 q 8 (.mv (.t 13)) <|
 .keep [1, 2, 3, 7, 8] <|
 .block 0
 (.keep [1, 2, 3, 7, 8] <|
 .loop
 (q 14 (.mv (.t 8)) <|
 q 15 (.mv (.t 2)) <|
 q 16 (.bin .quo (.t 15) (ci 1440)) <|
 q 17 (.bin .leq (.t 14) (.t 16)) <|
 .keep [1, 2, 3, 7, 8, 17] <|
 .ite (.t 17)
 (.done)
 (.exit 0) <|
 .block 1
 (q 20 (.fld 1 (.t 3)) <|
 q 21 (.load false 1 (.t 20)) <|
 q 22 (.len false (.t 21)) <|
 q 23 (.mv (ci 0)) <|
 .keep [1, 2, 3, 7, 8, 21, 22, 23] <|
 .block 2
 (.keep [1, 2, 3, 7, 8, 21, 22, 23] <|
 .loop
 (q 24 (.bin .lss (.t 23) (.t 22)) <|
 .keep [1, 2, 3, 7, 8, 21, 22, 23, 24] <|
 .ite (.t 24)
 (.done)
 (.exit 2) <|
 .block 3
 (q 25 (.idxa 5 none (.t 21) (.t 23)) <|
 q 26 (.load true 5 (.t 25)) <|
 q 10 (.alloc (List.replicate 5 (.int .i64 0))) <|
 qn (.store 5 (.t 10) (.t 26)) <|
 .keep [1, 2, 3, 7, 8, 10, 21, 22, 23] <|
 q 27 (.fld 1 (.t 10)) <|
 q 28 (.load false 1 (.t 27)) <|
 q 29 (.mv (.t 8)) <|
 q 30 (.bin .mul (.t 29) (ci 1440)) <|
 q 31 (.fld 2 (.t 10)) <|
 q 32 (.load false 1 (.t 31)) <|
 q 33 (.bin .add (.t 30) (.t 32)) <|
 q 34 (.fld 3 (.t 10)) <|
 q 35 (.load false 1 (.t 34)) <|
 q 36 (.mv (.t 8)) <|
 q 37 (.bin .mul (.t 36) (ci 1440)) <|
 q 38 (.fld 4 (.t 10)) <|
 q 39 (.load false 1 (.t 38)) <|
 q 40 (.bin .add (.t 37) (.t 39)) <|
 q 41 (.build (List.replicate 4 (.int .i64 0)) [(0, 1, (.t 28)), (1, 1, (.t 33)), (2, 1, (.t 35)), (3, 1, (.t 40))]) <|
 q 11 (.alloc (List.replicate 4 (.int .i64 0))) <|
 qn (.store 4 (.t 11) (.t 41)) <|
 .keep [1, 2, 3, 7, 8, 10, 11, 21, 22, 23] <|
 q 42 (.fld 1 (.t 11)) <|
 q 43 (.load false 1 (.t 42)) <|
 q 44 (.mv (.t 1)) <|
 q 45 (.bin .geq (.t 43) (.t 44)) <|
 q 46 (.mv (.t 45)) <|
 qg 47 46 true (.fld 3 (.t 11)) <|
 qg 48 46 true (.load false 1 (.t 47)) <|
 qg 49 46 true (.mv (.t 2)) <|
 qg 50 46 true (.bin .leq (.t 48) (.t 49)) <|
 q 51 (.pick (.t 46) (.t 50) (cb false)) <|
 q 52 (.mv (.t 51)) <|
 qg 53 52 true (.fld 0 (.t 3)) <|
 qg 54 52 true (.load false 1 (.t 53)) <|
 qg 55 52 true (.fld 0 (.t 10)) <|
 qg 56 52 true (.load false 1 (.t 55)) <|
 qg 57 52 true (.idxa 5 none (.t 54) (.t 56)) <|
 qg 58 52 true (.load true 5 (.t 57)) <|
 qg 59 52 true (.mv (.t 8)) <|
 qg 60 52 true (.call F.service_Runs [(.t 58), (.t 59)]) <|
 q 61 (.pick (.t 52) (.t 60) (cb false)) <|
 .keep [1, 2, 3, 7, 8, 11, 21, 22, 23, 61] <|
 .ite (.t 61)
 (q 62 (.mv (.t 7)) <|
 q 63 (.load true 4 (.t 11)) <|
 q 64 (.bslice false 4 1 (List.replicate 4 (.int .i64 0)) [(0, 4, (.t 63))]) <|
 q 65 (.append 4 32 (.t 62) (.t 64)) <|
 q 7 (.mv (.t 65)) <|
 .keep [1, 2, 3, 7, 8, 21, 22, 23] <|
 .done)
 (.done) <|
 .done) <|
 q 66 (.bin .add (.t 23) (ci 1)) <|
 q 23 (.mv (.t 66)) <|
 .keep [1, 2, 3, 7, 8, 21, 22, 23] <|
 .keep [1, 2, 3, 7, 8, 21, 22, 23] <|
 .done)) <|
 .done) <|
 q 18 (.mv (.t 8)) <|
 q 19 (.bin .add (.t 18) (ci 1)) <|
 q 8 (.mv (.t 19)) <|
 .keep [1, 2, 3, 7, 8] <|
 .keep [1, 2, 3, 7, 8] <|
 .done)) <|
 q 67 (.mv (.t 7)) <|
 q 68 (.call F.slices_SortFunc_route_ride_route_ride [(.t 67), (.f F.route_rides_1)]) <|
 .keep [7] <|
 q 69 (.mv (.t 7)) <|
 q 6 (.mv (.t 69)) <|
 .keep [6] <|
 .ret
theorem e_route_rides:EF false F.route_rides ic_route_rides [.t 6]:=ef [] Try.func27 (by kernel_rfl) (by kernel_rfl) (by kernel_rfl)
def ic_clapperref13_stop : IC :=
 q 2 (.mv (cb false)) <|
 .keep [0] <|
 q 3 (.mv (.t 0)) <|
 q 4 (.bin .geq (.t 3) (ci 0)) <|
 q 5 (.mv (.t 4)) <|
 qg 6 5 true (.mv (.t 0)) <|
 qg 7 5 true (.bin .lss (.t 6) (ci 32)) <|
 q 8 (.pick (.t 5) (.t 7) (cb false)) <|
 q 2 (.mv (.t 8)) <|
 .keep [2] <|
 .ret
theorem e_clapperref13_stop:EF false F.clapperref13_stop ic_clapperref13_stop [.t 2]:=ef [] Try.func29 (by kernel_rfl) (by kernel_rfl) (by kernel_rfl)
def ic_route_May_1 : IC :=
 q 1 (.box (.t 0)) <|
 q 2 (.mv (cb false)) <|
 .keep [1] <|
 q 3 (.load true 5 (.t 1)) <|
 q 4 (.call F.service_May [(.t 3)]) <|
 q 5 (.un .not (.t 4)) <|
 q 2 (.mv (.t 5)) <|
 .keep [2] <|
 .ret
theorem e_route_May_1:EF false F.route_May_1 ic_route_May_1 [.t 2]:=ef [] Try.func30 (by kernel_rfl) (by kernel_rfl) (by kernel_rfl)
def ic_route_May_2 : IC :=
 q 2 (.box (.t 0)) <|
 q 3 (.mv (cb false)) <|
 .keep [1, 2] <|
 q 4 (.fld 0 (.t 2)) <|
 q 5 (.load false 1 (.t 4)) <|
 q 6 (.bin .lss (.t 5) (ci 0)) <|
 q 7 (.mv (.t 6)) <|
 qg 8 7 false (.fld 0 (.t 2)) <|
 qg 9 7 false (.load false 1 (.t 8)) <|
 qg 10 7 false (.fld 0 (.t 1)) <|
 qg 11 7 false (.load false 1 (.t 10)) <|
 qg 12 7 false (.len false (.t 11)) <|
 qg 13 7 false (.bin .geq (.t 9) (.t 12)) <|
 q 14 (.pick (.t 7) (cb true) (.t 13)) <|
 q 15 (.mv (.t 14)) <|
 qg 16 15 false (.fld 1 (.t 2)) <|
 qg 17 15 false (.load false 1 (.t 16)) <|
 qg 18 15 false (.call F.route_stop [(.t 17)]) <|
 qg 19 15 false (.un .not (.t 18)) <|
 q 20 (.pick (.t 15) (cb true) (.t 19)) <|
 q 21 (.mv (.t 20)) <|
 qg 22 21 false (.fld 3 (.t 2)) <|
 qg 23 21 false (.load false 1 (.t 22)) <|
 qg 24 21 false (.call F.route_stop [(.t 23)]) <|
 qg 25 21 false (.un .not (.t 24)) <|
 q 26 (.pick (.t 21) (cb true) (.t 25)) <|
 q 27 (.mv (.t 26)) <|
 qg 28 27 false (.fld 2 (.t 2)) <|
 qg 29 27 false (.load false 1 (.t 28)) <|
 qg 30 27 false (.bin .lss (.t 29) (ci 0)) <|
 q 31 (.pick (.t 27) (cb true) (.t 30)) <|
 q 32 (.mv (.t 31)) <|
 qg 33 32 false (.fld 2 (.t 2)) <|
 qg 34 32 false (.load false 1 (.t 33)) <|
 qg 35 32 false (.bin .geq (.t 34) (ci 1440)) <|
 q 36 (.pick (.t 32) (cb true) (.t 35)) <|
 q 37 (.mv (.t 36)) <|
 qg 38 37 false (.fld 4 (.t 2)) <|
 qg 39 37 false (.load false 1 (.t 38)) <|
 qg 40 37 false (.fld 2 (.t 2)) <|
 qg 41 37 false (.load false 1 (.t 40)) <|
 qg 42 37 false (.bin .leq (.t 39) (.t 41)) <|
 q 43 (.pick (.t 37) (cb true) (.t 42)) <|
 q 44 (.mv (.t 43)) <|
 qg 45 44 false (.fld 4 (.t 2)) <|
 qg 46 44 false (.load false 1 (.t 45)) <|
 qg 47 44 false (.bin .gtr (.t 46) (ci 2879)) <|
 q 48 (.pick (.t 44) (cb true) (.t 47)) <|
 q 3 (.mv (.t 48)) <|
 .keep [3] <|
 .ret
theorem e_route_May_2:EF false F.route_May_2 ic_route_May_2 [.t 3]:=ef [] Try.func32 (by kernel_rfl) (by kernel_rfl) (by kernel_rfl)
def ic_slices_ContainsFunc_api_Service_api_Service : IC :=
 q 4 (.mv (cb false)) <|
 .keep [0, 1] <|
 q 5 (.mv (.t 0)) <|
 q 6 (.mv (.t 1)) <|
 q 7 (.call F.slices_IndexFunc_api_Service_api_Service [(.t 5), (.t 6)]) <|
 q 8 (.bin .geq (.t 7) (ci 0)) <|
 q 4 (.mv (.t 8)) <|
 .keep [4] <|
 .ret
theorem e_slices_ContainsFunc_api_Service_api_Service:EF false F.slices_ContainsFunc_api_Service_api_Service ic_slices_ContainsFunc_api_Service_api_Service [.t 4]:=ef [] Try.func33 (by kernel_rfl) (by kernel_rfl) (by kernel_rfl)
def ic_slices_ContainsFunc_api_Conn_api_Conn : IC :=
 q 4 (.mv (cb false)) <|
 .keep [0, 1] <|
 q 5 (.mv (.t 0)) <|
 q 6 (.mv (.t 1)) <|
 q 7 (.call F.slices_IndexFunc_api_Conn_api_Conn [(.t 5), (.t 6)]) <|
 q 8 (.bin .geq (.t 7) (ci 0)) <|
 q 4 (.mv (.t 8)) <|
 .keep [4] <|
 .ret
theorem e_slices_ContainsFunc_api_Conn_api_Conn:EF false F.slices_ContainsFunc_api_Conn_api_Conn ic_slices_ContainsFunc_api_Conn_api_Conn [.t 4]:=ef [] Try.func34 (by kernel_rfl) (by kernel_rfl) (by kernel_rfl)
def ic_slices_IndexFunc_api_Service_api_Service : IC :=
 q 4 (.mv (ci 0)) <|
 .keep [0, 1] <|
 q 6 (.mv (.t 0)) <|
 q 7 (.len false (.t 6)) <|
 q 8 (.mv (ci 0)) <|
 .keep [0, 1, 7, 8] <|
 .block 0
 (.keep [0, 1, 7, 8] <|
 .loop
 (q 9 (.bin .lss (.t 8) (.t 7)) <|
 .keep [0, 1, 7, 8, 9] <|
 .ite (.t 9)
 (.done)
 (.exit 0) <|
 .block 1
 (q 10 (.mv (.t 8)) <|
 q 5 (.mv (.t 10)) <|
 .keep [0, 1, 5, 7, 8] <|
 q 11 (.mv (.t 1)) <|
 q 12 (.mv (.t 0)) <|
 q 13 (.mv (.t 5)) <|
 q 14 (.idxa 5 none (.t 12) (.t 13)) <|
 q 15 (.load true 5 (.t 14)) <|
 q 16 (.callv (.t 11) [(.t 15)]) <|
 .keep [0, 1, 5, 7, 8, 16] <|
 .ite (.t 16)
 (q 17 (.mv (.t 5)) <|
 q 4 (.mv (.t 17)) <|
 .keep [4] <|
 .ret)
 (.done) <|
 .done) <|
 q 18 (.bin .add (.t 8) (ci 1)) <|
 q 8 (.mv (.t 18)) <|
 .keep [0, 1, 7, 8] <|
 .keep [0, 1, 7, 8] <|
 .done)) <|
 q 4 (.mv (ci (-1))) <|
 .keep [4] <|
 .ret
theorem e_slices_IndexFunc_api_Service_api_Service:EF false F.slices_IndexFunc_api_Service_api_Service ic_slices_IndexFunc_api_Service_api_Service [.t 4]:=ef [] Try.func46 (by kernel_rfl) (by kernel_rfl) (by kernel_rfl)
def ic_slices_IndexFunc_api_Conn_api_Conn : IC :=
 q 4 (.mv (ci 0)) <|
 .keep [0, 1] <|
 q 6 (.mv (.t 0)) <|
 q 7 (.len false (.t 6)) <|
 q 8 (.mv (ci 0)) <|
 .keep [0, 1, 7, 8] <|
 .block 0
 (.keep [0, 1, 7, 8] <|
 .loop
 (q 9 (.bin .lss (.t 8) (.t 7)) <|
 .keep [0, 1, 7, 8, 9] <|
 .ite (.t 9)
 (.done)
 (.exit 0) <|
 .block 1
 (q 10 (.mv (.t 8)) <|
 q 5 (.mv (.t 10)) <|
 .keep [0, 1, 5, 7, 8] <|
 q 11 (.mv (.t 1)) <|
 q 12 (.mv (.t 0)) <|
 q 13 (.mv (.t 5)) <|
 q 14 (.idxa 5 none (.t 12) (.t 13)) <|
 q 15 (.load true 5 (.t 14)) <|
 q 16 (.callv (.t 11) [(.t 15)]) <|
 .keep [0, 1, 5, 7, 8, 16] <|
 .ite (.t 16)
 (q 17 (.mv (.t 5)) <|
 q 4 (.mv (.t 17)) <|
 .keep [4] <|
 .ret)
 (.done) <|
 .done) <|
 q 18 (.bin .add (.t 8) (ci 1)) <|
 q 8 (.mv (.t 18)) <|
 .keep [0, 1, 7, 8] <|
 .keep [0, 1, 7, 8] <|
 .done)) <|
 q 4 (.mv (ci (-1))) <|
 .keep [4] <|
 .ret
theorem e_slices_IndexFunc_api_Conn_api_Conn:EF false F.slices_IndexFunc_api_Conn_api_Conn ic_slices_IndexFunc_api_Conn_api_Conn [.t 4]:=ef [] Try.func47 (by kernel_rfl) (by kernel_rfl) (by kernel_rfl)
end Go.Proofs.Ytabpkmfgmjnipaa.Eng

