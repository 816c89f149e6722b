/- The numbers of functions and types, by name. Printed by program. -/
import Derived.Test.YtabpkmfgmjnipaaME6
import Derived.Test.YtabpkmfgmjnipaaChecked
namespace Go.Proofs.Ytabpkmfgmjnipaa.Eng
open Go Go.Proofs
abbrev F.clapperlaw13_RouteLater:FuncId:=5
abbrev F.clapperlaw13_up:FuncId:=15
abbrev F.clapperref13_Few:FuncId:=16
abbrev F.route_Earliest:FuncId:=17
abbrev F.route_May:FuncId:=20
abbrev F.route_stop:FuncId:=26
abbrev F.route_rides:FuncId:=27
abbrev F.route_May_1:FuncId:=30
abbrev F.service_May:FuncId:=31
abbrev F.route_May_2:FuncId:=32
abbrev F.slices_ContainsFunc_api_Service_api_Service:FuncId:=33
abbrev F.slices_ContainsFunc_api_Conn_api_Conn:FuncId:=34
abbrev F.service_Runs:FuncId:=36
abbrev F.slices_SortFunc_route_ride_route_ride:FuncId:=37
abbrev F.route_rides_1:FuncId:=38
abbrev F.cmp_Compare_int:FuncId:=39
abbrev F.service_May_1:FuncId:=42
abbrev F.slices_Contains_int_int:FuncId:=43
abbrev F.service_days:FuncId:=44
abbrev F.slices_ContainsFunc_int_int:FuncId:=45
abbrev F.slices_IndexFunc_api_Service_api_Service:FuncId:=46
abbrev F.slices_IndexFunc_api_Conn_api_Conn:FuncId:=47
abbrev F.service_runs:FuncId:=48
abbrev F.slices_Index_int_int:FuncId:=52
abbrev F.slices_IndexFunc_int_int:FuncId:=53
abbrev T.t:TypeId:=0
abbrev T.func:TypeId:=1
abbrev T.int:TypeId:=3
abbrev T.bool:TypeId:=4
abbrev T.string:TypeId:=9
abbrev T.interface:TypeId:=20
abbrev T.api_Code:TypeId:=33
def pfx (v:Bool):Pf:=⟨fun f => !([9,10,11,12,13,23,25,27,37].contains f),v,fun t => [33].contains t⟩
theorem mixed:Try.prog.follows .mixedOrders=true:=by kernel_rfl
theorem cmpok (v:Bool):∀ t,(pfx v).c t=true→cmpT Try.prog t=true:=by
 intro t h
 simp [pfx] at h
 subst h; kernel_rfl
abbrev EF (v:Bool) (f:FuncId) (ic:IC) (rs:List IRes):Prop:=∀ {args:List AV} {H:AH} {w:AV} {H':AH},iwp (pfx v) (Called Try.prog) ic (retQ rs H w H') (look (enterL 0 args)) H→Called Try.prog f args H w H'
theorem ef {v:Bool} {f:FuncId} {fn:Func} {ic:IC} {rs:List IRes} (own:List Nat) (hf:Try.prog.funcs[f]? = some fn) (hok:okCall Try.prog f=true) (hc:compF Try.prog (pfx v) (fun d => own.contains d) fn=some ic) (hr:fn.results.toList.mapM (res? Try.prog)=some rs):EF v f ic rs:=fun h =>
 fn_called mixed (cmpok v) hf hok hc hr h
set_option maxRecDepth 20000
def ic_service_May : IC :=
 q 1 (.box (.t 0)) <|
 q 2 (.mv (cb false)) <|
 .keep [1] <|
 q 4 (.mkfn (.func F.service_May_1) [] [(.t 1)]) <|
 q 3 (.mv (.t 4)) <|
 .keep [1, 3] <|
 q 5 (.fld 0 (.t 1)) <|
 q 6 (.load false 1 (.t 5)) <|
 q 7 (.bin .geq (.t 6) (ci 0)) <|
 q 8 (.mv (.t 7)) <|
 qg 9 8 true (.fld 0 (.t 1)) <|
 qg 10 8 true (.load false 1 (.t 9)) <|
 qg 11 8 true (.bin .lss (.t 10) (ci 128)) <|
 q 12 (.pick (.t 8) (.t 11) (cb false)) <|
 q 13 (.mv (.t 12)) <|
 qg 14 13 true (.fld 1 (.t 1)) <|
 qg 15 13 true (.load false 1 (.t 14)) <|
 qg 16 13 true (.bin .geq (.t 15) (ci 0)) <|
 q 17 (.pick (.t 13) (.t 16) (cb false)) <|
 q 18 (.mv (.t 17)) <|
 qg 19 18 true (.fld 1 (.t 1)) <|
 qg 20 18 true (.load false 1 (.t 19)) <|
 qg 21 18 true (.fld 2 (.t 1)) <|
 qg 22 18 true (.load false 1 (.t 21)) <|
 qg 23 18 true (.bin .leq (.t 20) (.t 22)) <|
 q 24 (.pick (.t 18) (.t 23) (cb false)) <|
 q 25 (.mv (.t 24)) <|
 qg 26 25 true (.fld 2 (.t 1)) <|
 qg 27 25 true (.load false 1 (.t 26)) <|
 qg 28 25 true (.bin .leq (.t 27) (ci 1048576)) <|
 q 29 (.pick (.t 25) (.t 28) (cb false)) <|
 q 30 (.mv (.t 29)) <|
 qg 31 30 true (.fld 3 (.t 1)) <|
 qg 32 30 true (.load false 1 (.t 31)) <|
 qg 33 30 true (.call F.service_days [(.t 32)]) <|
 q 34 (.pick (.t 30) (.t 33) (cb false)) <|
 q 35 (.mv (.t 34)) <|
 qg 36 35 true (.fld 4 (.t 1)) <|
 qg 37 35 true (.load false 1 (.t 36)) <|
 qg 38 35 true (.call F.service_days [(.t 37)]) <|
 q 39 (.pick (.t 35) (.t 38) (cb false)) <|
 q 40 (.mv (.t 39)) <|
 qg 41 40 true (.fld 3 (.t 1)) <|
 qg 42 40 true (.load false 1 (.t 41)) <|
 qg 43 40 true (.mv (.t 3)) <|
 qg 44 40 true (.call F.slices_ContainsFunc_int_int [(.t 42), (.t 43)]) <|
 qg 45 40 true (.un .not (.t 44)) <|
 q 46 (.pick (.t 40) (.t 45) (cb false)) <|
 q 2 (.mv (.t 46)) <|
 .keep [2] <|
 .ret
theorem e_service_May:EF false F.service_May ic_service_May [.t 2]:=ef [] Try.func31 (by kernel_rfl) (by kernel_rfl) (by kernel_rfl)
def ic_service_Runs : IC :=
 q 2 (.box (.t 0)) <|
 q 4 (.mv (cb false)) <|
 .keep [1, 2] <|
 q 5 (.load true 5 (.t 2)) <|
 q 6 (.call F.service_May [(.t 5)]) <|
 q 7 (.mv (.t 6)) <|
 qg 8 7 true (.load true 5 (.t 2)) <|
 qg 9 7 true (.mv (.t 1)) <|
 qg 10 7 true (.call F.service_runs [(.t 8), (.t 9)]) <|
 q 11 (.pick (.t 7) (.t 10) (cb false)) <|
 q 4 (.mv (.t 11)) <|
 .keep [4] <|
 .ret
theorem e_service_Runs:EF false F.service_Runs ic_service_Runs [.t 4]:=ef [] Try.func36 (by kernel_rfl) (by kernel_rfl) (by kernel_rfl)
def ic_service_May_1 : IC :=
 q 3 (.mv (cb false)) <|
 .keep [0, 1] <|
 q 4 (.fld 4 (.t 1)) <|
 q 5 (.load false 1 (.t 4)) <|
 q 6 (.mv (.t 0)) <|
 q 7 (.call F.slices_Contains_int_int [(.t 5), (.t 6)]) <|
 q 3 (.mv (.t 7)) <|
 .keep [3] <|
 .ret
theorem e_service_May_1:EF false F.service_May_1 ic_service_May_1 [.t 3]:=ef [] Try.func42 (by kernel_rfl) (by kernel_rfl) (by kernel_rfl)
def ic_slices_Contains_int_int : IC :=
 q 4 (.mv (cb false)) <|
 .keep [0, 1] <|
 q 5 (.mv (.t 0)) <|
 q 6 (.mv (.t 1)) <|
 q 7 (.call F.slices_Index_int_int [(.t 5), (.t 6)]) <|
 q 8 (.bin .geq (.t 7) (ci 0)) <|
 q 4 (.mv (.t 8)) <|
 .keep [4] <|
 .ret
theorem e_slices_Contains_int_int:EF false F.slices_Contains_int_int ic_slices_Contains_int_int [.t 4]:=ef [] Try.func43 (by kernel_rfl) (by kernel_rfl) (by kernel_rfl)
def ic_service_days : IC :=
 q 2 (.mv (cb false)) <|
 .keep [0] <|
 q 5 (.mv (.t 0)) <|
 q 6 (.len false (.t 5)) <|
 q 7 (.mv (ci 0)) <|
 .keep [0, 5, 6, 7] <|
 .block 0
 (.keep [0, 5, 6, 7] <|
 .loop
 (q 8 (.bin .lss (.t 7) (.t 6)) <|
 .keep [0, 5, 6, 7, 8] <|
 .ite (.t 8)
 (.done)
 (.exit 0) <|
 .block 1
 (q 9 (.mv (.t 7)) <|
 q 10 (.idxa 1 none (.t 5) (.t 7)) <|
 q 11 (.load false 1 (.t 10)) <|
 q 3 (.mv (.t 9)) <|
 q 4 (.mv (.t 11)) <|
 .keep [0, 3, 4, 5, 6, 7] <|
 q 12 (.mv (.t 4)) <|
 q 13 (.bin .lss (.t 12) (ci 0)) <|
 q 14 (.mv (.t 13)) <|
 qg 15 14 false (.mv (.t 4)) <|
 qg 16 14 false (.bin .gtr (.t 15) (ci 1048576)) <|
 q 17 (.pick (.t 14) (cb true) (.t 16)) <|
 q 18 (.mv (.t 17)) <|
 qg 19 18 false (.mv (.t 3)) <|
 qg 20 18 false (.bin .gtr (.t 19) (ci 0)) <|
 qg 21 18 false (.mv (.t 20)) <|
 qg 22 21 true (.mv (.t 0)) <|
 qg 23 21 true (.mv (.t 3)) <|
 qg 24 21 true (.bin .sub (.t 23) (ci 1)) <|
 qg 25 21 true (.idxa 1 none (.t 22) (.t 24)) <|
 qg 26 21 true (.load false 1 (.t 25)) <|
 qg 27 21 true (.mv (.t 4)) <|
 qg 28 21 true (.bin .geq (.t 26) (.t 27)) <|
 qg 29 18 false (.pick (.t 21) (.t 28) (cb false)) <|
 q 30 (.pick (.t 18) (cb true) (.t 29)) <|
 .keep [0, 5, 6, 7, 30] <|
 .ite (.t 30)
 (q 2 (.mv (cb false)) <|
 .keep [2] <|
 .ret)
 (.done) <|
 .done) <|
 q 31 (.bin .add (.t 7) (ci 1)) <|
 q 7 (.mv (.t 31)) <|
 .keep [0, 5, 6, 7] <|
 .keep [0, 5, 6, 7] <|
 .done)) <|
 q 32 (.mv (.t 0)) <|
 q 33 (.len false (.t 32)) <|
 q 34 (.bin .leq (.t 33) (ci 100)) <|
 q 2 (.mv (.t 34)) <|
 .keep [2] <|
 .ret
theorem e_service_days:EF false F.service_days ic_service_days [.t 2]:=ef [] Try.func44 (by kernel_rfl) (by kernel_rfl) (by kernel_rfl)
def ic_slices_ContainsFunc_int_int : IC :=
 q 4 (.mv (cb false)) <|
 .keep [0, 1] <|
 q 5 (.mv (.t 0)) <|
 q 6 (.mv (.t 1)) <|
 q 7 (.call F.slices_IndexFunc_int_int [(.t 5), (.t 6)]) <|
 q 8 (.bin .geq (.t 7) (ci 0)) <|
 q 4 (.mv (.t 8)) <|
 .keep [4] <|
 .ret
theorem e_slices_ContainsFunc_int_int:EF false F.slices_ContainsFunc_int_int ic_slices_ContainsFunc_int_int [.t 4]:=ef [] Try.func45 (by kernel_rfl) (by kernel_rfl) (by kernel_rfl)
def ic_service_runs : IC :=
 q 2 (.box (.t 0)) <|
 q 4 (.mv (cb false)) <|
 .keep [1, 2] <|
 q 5 (.fld 3 (.t 2)) <|
 q 6 (.load false 1 (.t 5)) <|
 q 7 (.mv (.t 1)) <|
 q 8 (.call F.slices_Contains_int_int [(.t 6), (.t 7)]) <|
 .keep [1, 2, 8] <|
 .ite (.t 8)
 (q 4 (.mv (cb true)) <|
 .keep [4] <|
 .ret)
 (.done) <|
 q 9 (.mv (.t 1)) <|
 q 10 (.fld 1 (.t 2)) <|
 q 11 (.load false 1 (.t 10)) <|
 q 12 (.bin .geq (.t 9) (.t 11)) <|
 q 13 (.mv (.t 12)) <|
 qg 14 13 true (.mv (.t 1)) <|
 qg 15 13 true (.fld 2 (.t 2)) <|
 qg 16 13 true (.load false 1 (.t 15)) <|
 qg 17 13 true (.bin .lss (.t 14) (.t 16)) <|
 q 18 (.pick (.t 13) (.t 17) (cb false)) <|
 q 19 (.mv (.t 18)) <|
 qg 20 19 true (.fld 0 (.t 2)) <|
 qg 21 19 true (.load false 1 (.t 20)) <|
 qg 22 19 true (.mv (.t 1)) <|
 qg 23 19 true (.bin .rem (.t 22) (ci 7)) <|
 qg 24 19 true (.bin .shr (.t 21) (.t 23)) <|
 qg 25 19 true (.bin .and (.t 24) (ci 1)) <|
 qg 26 19 true (.bin .eql (.t 25) (ci 1)) <|
 q 27 (.pick (.t 19) (.t 26) (cb false)) <|
 q 28 (.mv (.t 27)) <|
 qg 29 28 true (.fld 4 (.t 2)) <|
 qg 30 28 true (.load false 1 (.t 29)) <|
 qg 31 28 true (.mv (.t 1)) <|
 qg 32 28 true (.call F.slices_Contains_int_int [(.t 30), (.t 31)]) <|
 qg 33 28 true (.un .not (.t 32)) <|
 q 34 (.pick (.t 28) (.t 33) (cb false)) <|
 q 4 (.mv (.t 34)) <|
 .keep [4] <|
 .ret
theorem e_service_runs:EF false F.service_runs ic_service_runs [.t 4]:=ef [] Try.func48 (by kernel_rfl) (by kernel_rfl) (by kernel_rfl)
def ic_slices_Index_int_int : IC :=
 q 4 (.mv (ci 0)) <|
 .keep [0, 1] <|
 q 6 (.mv (.t 0)) <|
 q 7 (.len false (.t 6)) <|
 q 8 (.mv (ci 0)) <|
 .keep [0, 1, 7, 8] <|
 .block 0
 (.keep [0, 1, 7, 8] <|
 .loop
 (q 9 (.bin .lss (.t 8) (.t 7)) <|
 .keep [0, 1, 7, 8, 9] <|
 .ite (.t 9)
 (.done)
 (.exit 0) <|
 .block 1
 (q 10 (.mv (.t 8)) <|
 q 5 (.mv (.t 10)) <|
 .keep [0, 1, 5, 7, 8] <|
 q 11 (.mv (.t 1)) <|
 q 12 (.mv (.t 0)) <|
 q 13 (.mv (.t 5)) <|
 q 14 (.idxa 1 none (.t 12) (.t 13)) <|
 q 15 (.load false 1 (.t 14)) <|
 q 16 (.bin .eql (.t 11) (.t 15)) <|
 .keep [0, 1, 5, 7, 8, 16] <|
 .ite (.t 16)
 (q 17 (.mv (.t 5)) <|
 q 4 (.mv (.t 17)) <|
 .keep [4] <|
 .ret)
 (.done) <|
 .done) <|
 q 18 (.bin .add (.t 8) (ci 1)) <|
 q 8 (.mv (.t 18)) <|
 .keep [0, 1, 7, 8] <|
 .keep [0, 1, 7, 8] <|
 .done)) <|
 q 4 (.mv (ci (-1))) <|
 .keep [4] <|
 .ret
theorem e_slices_Index_int_int:EF false F.slices_Index_int_int ic_slices_Index_int_int [.t 4]:=ef [] Try.func52 (by kernel_rfl) (by kernel_rfl) (by kernel_rfl)
def ic_slices_IndexFunc_int_int : IC :=
 q 4 (.mv (ci 0)) <|
 .keep [0, 1] <|
 q 6 (.mv (.t 0)) <|
 q 7 (.len false (.t 6)) <|
 q 8 (.mv (ci 0)) <|
 .keep [0, 1, 7, 8] <|
 .block 0
 (.keep [0, 1, 7, 8] <|
 .loop
 (q 9 (.bin .lss (.t 8) (.t 7)) <|
 .keep [0, 1, 7, 8, 9] <|
 .ite (.t 9)
 (.done)
 (.exit 0) <|
 .block 1
 (q 10 (.mv (.t 8)) <|
 q 5 (.mv (.t 10)) <|
 .keep [0, 1, 5, 7, 8] <|
 q 11 (.mv (.t 1)) <|
 q 12 (.mv (.t 0)) <|
 q 13 (.mv (.t 5)) <|
 q 14 (.idxa 1 none (.t 12) (.t 13)) <|
 q 15 (.load false 1 (.t 14)) <|
 q 16 (.callv (.t 11) [(.t 15)]) <|
 .keep [0, 1, 5, 7, 8, 16] <|
 .ite (.t 16)
 (q 17 (.mv (.t 5)) <|
 q 4 (.mv (.t 17)) <|
 .keep [4] <|
 .ret)
 (.done) <|
 .done) <|
 q 18 (.bin .add (.t 8) (ci 1)) <|
 q 8 (.mv (.t 18)) <|
 .keep [0, 1, 7, 8] <|
 .keep [0, 1, 7, 8] <|
 .done)) <|
 q 4 (.mv (ci (-1))) <|
 .keep [4] <|
 .ret
theorem e_slices_IndexFunc_int_int:EF false F.slices_IndexFunc_int_int ic_slices_IndexFunc_int_int [.t 4]:=ef [] Try.func53 (by kernel_rfl) (by kernel_rfl) (by kernel_rfl)
set_option maxRecDepth 20000
def ic_clapperlaw13_RouteLater : IC :=
 q 7 (.box (.t 0)) <|
 q 13 (.box (.t 6)) <|
 q 14 (.mv (cb false)) <|
 .keep [1, 2, 3, 4, 5, 7, 13] <|
 q 27 (.call F.clapperlaw13_up []) <|
 q 15 (.mv (.t 27)) <|
 .keep [1, 2, 3, 4, 5, 7, 13, 15] <|
 q 28 (.load true 2 (.t 7)) <|
 q 29 (.call F.clapperref13_Few [(.t 28)]) <|
 q 16 (.mv (.t 29)) <|
 .keep [1, 2, 3, 4, 5, 7, 13, 15, 16] <|
 q 30 (.mv (.t 16)) <|
 q 31 (.un .not (.t 30)) <|
 q 32 (.mv (.t 31)) <|
 qg 33 32 false (.mv (.t 3)) <|
 qg 34 32 false (.bin .lss (.t 33) (ci 0)) <|
 q 35 (.pick (.t 32) (cb true) (.t 34)) <|
 q 36 (.mv (.t 35)) <|
 qg 37 36 false (.mv (.t 3)) <|
 qg 38 36 false (.bin .gtr (.t 37) (ci 4320)) <|
 q 39 (.pick (.t 36) (cb true) (.t 38)) <|
 .keep [1, 2, 3, 4, 5, 7, 13, 15, 39] <|
 .ite (.t 39)
 (q 40 (.mv (.t 15)) <|
 q 14 (.mv (.t 40)) <|
 .keep [14] <|
 .ret)
 (.done) <|
 q 42 (.load true 2 (.t 7)) <|
 q 43 (.mv (.t 1)) <|
 q 44 (.mv (.t 2)) <|
 q 45 (.mv (.t 4)) <|
 q 46 (.mv (.t 5)) <|
 q 47 (.call F.route_Earliest [(.t 42), (.t 43), (.t 44), (.t 45), (.t 46)]) <|
 q 41 (.mv (.t 47)) <|
 q 48 (.ext (.t 41) 0) <|
 q 49 (.ext (.t 41) 1) <|
 q 50 (.ext (.t 41) 2) <|
 q 17 (.mv (.t 48)) <|
 q 18 (.mv (.t 49)) <|
 q 19 (.mv (.t 50)) <|
 .keep [1, 2, 3, 4, 5, 7, 13, 15, 17, 18, 19] <|
 q 52 (.load true 2 (.t 7)) <|
 q 53 (.mv (.t 1)) <|
 q 54 (.mv (.t 2)) <|
 q 55 (.mv (.t 3)) <|
 q 56 (.bin .add (.t 54) (.t 55)) <|
 q 57 (.mv (.t 4)) <|
 q 58 (.mv (.t 5)) <|
 q 59 (.call F.route_Earliest [(.t 52), (.t 53), (.t 56), (.t 57), (.t 58)]) <|
 q 51 (.mv (.t 59)) <|
 q 60 (.ext (.t 51) 0) <|
 q 61 (.ext (.t 51) 1) <|
 q 62 (.ext (.t 51) 2) <|
 q 20 (.mv (.t 60)) <|
 q 21 (.mv (.t 61)) <|
 q 22 (.mv (.t 62)) <|
 .keep [1, 2, 4, 5, 7, 13, 15, 17, 18, 19, 20, 21, 22] <|
 q 63 (.mv (.t 19)) <|
 q 64 (.eq true .i (.t 63) (.c (.nilIface))) <|
 .keep [1, 2, 4, 5, 7, 13, 15, 17, 18, 20, 21, 22, 64] <|
 .ite (.t 64)
 (q 65 (.mv (.t 15)) <|
 q 14 (.mv (.t 65)) <|
 .keep [14] <|
 .ret)
 (.done) <|
 q 66 (.mv (.t 22)) <|
 q 67 (.eq false .i (.t 66) (.c (.nilIface))) <|
 q 68 (.mv (.t 67)) <|
 qg 69 68 true (.mv (.t 21)) <|
 q 70 (.pick (.t 68) (.t 69) (cb false)) <|
 q 71 (.mv (.t 70)) <|
 qg 72 71 true (.mv (.t 18)) <|
 qg 73 71 true (.un .not (.t 72)) <|
 qg 74 71 true (.mv (.t 73)) <|
 qg 75 74 false (.mv (.t 20)) <|
 qg 76 74 false (.mv (.t 17)) <|
 qg 77 74 false (.bin .lss (.t 75) (.t 76)) <|
 qg 78 71 true (.pick (.t 74) (cb true) (.t 77)) <|
 q 79 (.pick (.t 71) (.t 78) (cb false)) <|
 .keep [1, 2, 4, 5, 7, 13, 15, 17, 18, 79] <|
 .ite (.t 79)
 (q 14 (.mv (cb false)) <|
 .keep [14] <|
 .ret)
 (.done) <|
 .reg 2
 [xe 80 (.fld 0 (.t 7)) [],
 xe 81 (.load false 1 (.t 80)) [],
 xe 82 (.bslice false 5 0 (List.replicate 5 (.int .i64 0)) []) [],
 xe 83 (.fld 1 (.t 7)) [],
 xe 84 (.load false 1 (.t 83)) [],
 xa 0 85 (.append 5 40 (.t 82) (.t 84)),
 xe 86 (.load true 5 (.t 13)) [],
 xe 87 (.bslice false 5 1 (List.replicate 5 (.int .i64 0)) [(0, 5, (.t 86))]) [],
 xw 88 (.append 5 40 (.t 85) (.t 87)) [(.t 80)],
 xl 89 (.build [.slice none 0 0, .slice none 0 0] [(0, 1, (.t 81)), (1, 1, (.t 88))]) [],
 xa 1 23 (.alloc [.slice none 0 0, .slice none 0 0]),
 xln (.store 2 (.t 23) (.t 89)) []] <|
 .keep [1, 2, 4, 5, 15, 17, 18, 23] <|
 q 91 (.load true 2 (.t 23)) <|
 q 92 (.mv (.t 1)) <|
 q 93 (.mv (.t 2)) <|
 q 94 (.mv (.t 4)) <|
 q 95 (.mv (.t 5)) <|
 q 96 (.call F.route_Earliest [(.t 91), (.t 92), (.t 93), (.t 94), (.t 95)]) <|
 q 90 (.mv (.t 96)) <|
 q 97 (.ext (.t 90) 0) <|
 q 98 (.ext (.t 90) 1) <|
 q 99 (.ext (.t 90) 2) <|
 q 24 (.mv (.t 97)) <|
 q 25 (.mv (.t 98)) <|
 q 26 (.mv (.t 99)) <|
 .keep [15, 17, 18, 24, 25, 26] <|
 q 100 (.mv (.t 15)) <|
 q 101 (.mv (.t 100)) <|
 qg 102 101 true (.mv (.t 26)) <|
 qg 103 101 true (.eq true .i (.t 102) (.c (.nilIface))) <|
 qg 104 101 true (.mv (.t 103)) <|
 qg 105 104 false (.mv (.t 18)) <|
 qg 106 104 false (.un .not (.t 105)) <|
 qg 107 101 true (.pick (.t 104) (cb true) (.t 106)) <|
 qg 108 101 true (.mv (.t 107)) <|
 qg 109 108 false (.mv (.t 25)) <|
 qg 110 108 false (.mv (.t 109)) <|
 qg 111 110 true (.mv (.t 24)) <|
 qg 112 110 true (.mv (.t 17)) <|
 qg 113 110 true (.bin .leq (.t 111) (.t 112)) <|
 qg 114 108 false (.pick (.t 110) (.t 113) (cb false)) <|
 qg 115 101 true (.pick (.t 108) (cb true) (.t 114)) <|
 q 116 (.pick (.t 101) (.t 115) (cb false)) <|
 q 14 (.mv (.t 116)) <|
 .keep [14] <|
 .ret
theorem e_clapperlaw13_RouteLater:EF false F.clapperlaw13_RouteLater ic_clapperlaw13_RouteLater [.t 14]:=ef [] Try.func5 (by kernel_rfl) (by kernel_rfl) (by kernel_rfl)
def ic_clapperlaw13_up : IC :=
 q 0 (.mv (cb false)) <|
 .keep [] <|
 q 8 (.build [.int .i64 0, .int .i64 0, .int .i64 0, .slice none 0 0, .slice none 0 0] [(0, 1, (ci 127)), (2, 1, (ci 9))]) <|
 q 9 (.bslice false 5 1 [.int .i64 0, .int .i64 0, .int .i64 0, .slice none 0 0, .slice none 0 0] [(0, 5, (.t 8))]) <|
 q 10 (.build (List.replicate 5 (.int .i64 0)) [(1, 1, (ci 0)), (2, 1, (ci 10)), (3, 1, (ci 1)), (4, 1, (ci 20))]) <|
 q 11 (.build (List.replicate 5 (.int .i64 0)) [(1, 1, (ci 1)), (2, 1, (ci 20)), (3, 1, (ci 2)), (4, 1, (ci 30))]) <|
 q 12 (.bslice false 5 2 (List.replicate 5 (.int .i64 0)) [(0, 5, (.t 10)), (5, 5, (.t 11))]) <|
 q 13 (.build [.slice none 0 0, .slice none 0 0] [(0, 1, (.t 9)), (1, 1, (.t 12))]) <|
 q 1 (.alloc [.slice none 0 0, .slice none 0 0]) <|
 qn (.store 2 (.t 1) (.t 13)) <|
 .keep [1] <|
 q 15 (.load true 2 (.t 1)) <|
 q 16 (.call F.route_Earliest [(.t 15), (ci 0), (ci 0), (ci 2), (ci 100)]) <|
 q 14 (.mv (.t 16)) <|
 q 17 (.ext (.t 14) 0) <|
 q 18 (.ext (.t 14) 1) <|
 q 19 (.ext (.t 14) 2) <|
 q 2 (.mv (.t 17)) <|
 q 3 (.mv (.t 18)) <|
 q 4 (.mv (.t 19)) <|
 .keep [1, 2, 3, 4] <|
 q 21 (.load true 2 (.t 1)) <|
 q 22 (.call F.route_Earliest [(.t 21), (ci 0), (ci 0), (ci 3), (ci 100)]) <|
 q 20 (.mv (.t 22)) <|
 q 23 (.ext (.t 20) 0) <|
 q 24 (.ext (.t 20) 1) <|
 q 25 (.ext (.t 20) 2) <|
 q 5 (.mv (.t 23)) <|
 q 6 (.mv (.t 24)) <|
 q 7 (.mv (.t 25)) <|
 .keep [2, 3, 4, 6, 7] <|
 q 26 (.mv (.t 4)) <|
 q 27 (.eq false .i (.t 26) (.c (.nilIface))) <|
 q 28 (.mv (.t 27)) <|
 qg 29 28 true (.mv (.t 3)) <|
 q 30 (.pick (.t 28) (.t 29) (cb false)) <|
 q 31 (.mv (.t 30)) <|
 qg 32 31 true (.mv (.t 2)) <|
 qg 33 31 true (.bin .eql (.t 32) (ci 30)) <|
 q 34 (.pick (.t 31) (.t 33) (cb false)) <|
 q 35 (.mv (.t 34)) <|
 qg 36 35 true (.mv (.t 7)) <|
 qg 37 35 true (.eq false .i (.t 36) (.c (.nilIface))) <|
 q 38 (.pick (.t 35) (.t 37) (cb false)) <|
 q 39 (.mv (.t 38)) <|
 qg 40 39 true (.mv (.t 6)) <|
 qg 41 39 true (.un .not (.t 40)) <|
 q 42 (.pick (.t 39) (.t 41) (cb false)) <|
 q 0 (.mv (.t 42)) <|
 .keep [0] <|
 .ret
theorem e_clapperlaw13_up:EF false F.clapperlaw13_up ic_clapperlaw13_up [.t 0]:=ef [] Try.func15 (by kernel_rfl) (by kernel_rfl) (by kernel_rfl)
def ic_clapperref13_Few : IC :=
 q 1 (.box (.t 0)) <|
 q 2 (.mv (cb false)) <|
 .keep [1] <|
 q 4 (.fld 0 (.t 1)) <|
 q 5 (.load false 1 (.t 4)) <|
 q 6 (.len false (.t 5)) <|
 q 7 (.bin .gtr (.t 6) (ci 40)) <|
 q 8 (.mv (.t 7)) <|
 qg 9 8 false (.fld 1 (.t 1)) <|
 qg 10 8 false (.load false 1 (.t 9)) <|
 qg 11 8 false (.len false (.t 10)) <|
 qg 12 8 false (.bin .gtr (.t 11) (ci 200)) <|
 q 13 (.pick (.t 8) (cb true) (.t 12)) <|
 .keep [1, 13] <|
 .ite (.t 13)
 (q 2 (.mv (cb false)) <|
 .keep [2] <|
 .ret)
 (.done) <|
 q 3 (.mv (ci 0)) <|
 .keep [1, 3] <|
 .block 0
 (.keep [1, 3] <|
 .loop
 (q 14 (.mv (.t 3)) <|
 q 15 (.fld 0 (.t 1)) <|
 q 16 (.load false 1 (.t 15)) <|
 q 17 (.len false (.t 16)) <|
 q 18 (.bin .lss (.t 14) (.t 17)) <|
 .keep [1, 3, 18] <|
 .ite (.t 18)
 (.done)
 (.exit 0) <|
 .block 1
 (q 21 (.fld 0 (.t 1)) <|
 q 22 (.load false 1 (.t 21)) <|
 q 23 (.mv (.t 3)) <|
 q 24 (.idxa 5 none (.t 22) (.t 23)) <|
 q 25 (.fld 3 (.t 24)) <|
 q 26 (.load false 1 (.t 25)) <|
 q 27 (.len false (.t 26)) <|
 q 28 (.bin .gtr (.t 27) (ci 300)) <|
 q 29 (.mv (.t 28)) <|
 qg 30 29 false (.fld 0 (.t 1)) <|
 qg 31 29 false (.load false 1 (.t 30)) <|
 qg 32 29 false (.mv (.t 3)) <|
 qg 33 29 false (.idxa 5 none (.t 31) (.t 32)) <|
 qg 34 29 false (.fld 4 (.t 33)) <|
 qg 35 29 false (.load false 1 (.t 34)) <|
 qg 36 29 false (.len false (.t 35)) <|
 qg 37 29 false (.bin .gtr (.t 36) (ci 300)) <|
 q 38 (.pick (.t 29) (cb true) (.t 37)) <|
 .keep [1, 3, 38] <|
 .ite (.t 38)
 (q 2 (.mv (cb false)) <|
 .keep [2] <|
 .ret)
 (.done) <|
 .done) <|
 q 19 (.mv (.t 3)) <|
 q 20 (.bin .add (.t 19) (ci 1)) <|
 q 3 (.mv (.t 20)) <|
 .keep [1, 3] <|
 .keep [1, 3] <|
 .done)) <|
 q 2 (.mv (cb true)) <|
 .keep [2] <|
 .ret
theorem e_clapperref13_Few:EF false F.clapperref13_Few ic_clapperref13_Few [.t 2]:=ef [] Try.func16 (by kernel_rfl) (by kernel_rfl) (by kernel_rfl)
def ic_route_Earliest : IC :=
 q 5 (.box (.t 0)) <|
 q 10 (.mv (ci 0)) <|
 q 11 (.mv (cb false)) <|
 q 12 (.mv (.c (.nilIface))) <|
 .keep [1, 2, 3, 4, 5] <|
 q 17 (.load true 2 (.t 5)) <|
 q 18 (.call F.route_May [(.t 17)]) <|
 q 19 (.un .not (.t 18)) <|
 q 20 (.mv (.t 19)) <|
 qg 21 20 false (.mv (.t 1)) <|
 qg 22 20 false (.call F.route_stop [(.t 21)]) <|
 qg 23 20 false (.un .not (.t 22)) <|
 q 24 (.pick (.t 20) (cb true) (.t 23)) <|
 q 25 (.mv (.t 24)) <|
 qg 26 25 false (.mv (.t 3)) <|
 qg 27 25 false (.call F.route_stop [(.t 26)]) <|
 qg 28 25 false (.un .not (.t 27)) <|
 q 29 (.pick (.t 25) (cb true) (.t 28)) <|
 q 30 (.mv (.t 29)) <|
 qg 31 30 false (.mv (.t 2)) <|
 qg 32 30 false (.bin .lss (.t 31) (ci 0)) <|
 q 33 (.pick (.t 30) (cb true) (.t 32)) <|
 q 34 (.mv (.t 33)) <|
 qg 35 34 false (.mv (.t 2)) <|
 qg 36 34 false (.bin .gtr (.t 35) (ci 1073741824)) <|
 q 37 (.pick (.t 34) (cb true) (.t 36)) <|
 q 38 (.mv (.t 37)) <|
 qg 39 38 false (.mv (.t 4)) <|
 qg 40 38 false (.mv (.t 2)) <|
 qg 41 38 false (.bin .lss (.t 39) (.t 40)) <|
 q 42 (.pick (.t 38) (cb true) (.t 41)) <|
 q 43 (.mv (.t 42)) <|
 qg 44 43 false (.mv (.t 4)) <|
 qg 45 43 false (.mv (.t 2)) <|
 qg 46 43 false (.bin .add (.t 45) (ci 4320)) <|
 qg 47 43 false (.bin .gtr (.t 44) (.t 46)) <|
 q 48 (.pick (.t 43) (cb true) (.t 47)) <|
 .keep [1, 2, 3, 4, 5, 48] <|
 .ite (.t 48)
 (q 49 (.mkif T.api_Code (ci 1)) <|
 q 10 (.mv (ci 0)) <|
 q 11 (.mv (cb false)) <|
 q 12 (.mv (.t 49)) <|
 .keep [10, 11, 12] <|
 .ret)
 (.done) <|
 q 13 (.alloc (List.replicate 32 (.int .i64 0))) <|
 .keep [1, 2, 3, 4, 5, 13] <|
 q 50 (.mv (ci 0)) <|
 .keep [1, 2, 3, 4, 5, 13, 50] <|
 .block 0
 (.keep [1, 2, 3, 4, 5, 13, 50] <|
 .loop
 (q 51 (.bin .lss (.t 50) (ci 32)) <|
 .keep [1, 2, 3, 4, 5, 13, 50, 51] <|
 .ite (.t 51)
 (.done)
 (.exit 0) <|
 .block 1
 (q 52 (.mv (.t 50)) <|
 q 14 (.mv (.t 52)) <|
 .keep [1, 2, 3, 4, 5, 13, 14, 50] <|
 q 53 (.mv (.t 14)) <|
 q 54 (.mv (.t 4)) <|
 q 55 (.bin .add (.t 54) (ci 1)) <|
 q 56 (.idxa 1 (some 32) (.t 13) (.t 53)) <|
 qn (.store 1 (.t 56) (.t 55)) <|
 .keep [1, 2, 3, 4, 5, 13, 50] <|
 .done) <|
 q 57 (.bin .add (.t 50) (ci 1)) <|
 q 50 (.mv (.t 57)) <|
 .keep [1, 2, 3, 4, 5, 13, 50] <|
 .keep [1, 2, 3, 4, 5, 13, 50] <|
 .done)) <|
 q 58 (.mv (.t 1)) <|
 q 59 (.mv (.t 2)) <|
 q 60 (.idxa 1 (some 32) (.t 13) (.t 58)) <|
 qn (.store 1 (.t 60) (.t 59)) <|
 .keep [2, 3, 4, 5, 13] <|
 q 61 (.load true 2 (.t 5)) <|
 q 62 (.mv (.t 2)) <|
 q 63 (.mv (.t 4)) <|
 q 64 (.call F.route_rides [(.t 61), (.t 62), (.t 63)]) <|
 q 65 (.len false (.t 64)) <|
 q 66 (.mv (ci 0)) <|
 .keep [3, 4, 13, 64, 65, 66] <|
 .block 2
 (.keep [3, 4, 13, 64, 65, 66] <|
 .loop
 (q 67 (.bin .lss (.t 66) (.t 65)) <|
 .keep [3, 4, 13, 64, 65, 66, 67] <|
 .ite (.t 67)
 (.done)
 (.exit 2) <|
 .block 3
 (q 68 (.idxa 4 none (.t 64) (.t 66)) <|
 q 69 (.load true 4 (.t 68)) <|
 q 16 (.alloc (List.replicate 4 (.int .i64 0))) <|
 qn (.store 4 (.t 16) (.t 69)) <|
 .keep [3, 4, 13, 16, 64, 65, 66] <|
 q 70 (.fld 0 (.t 16)) <|
 q 71 (.load false 1 (.t 70)) <|
 q 72 (.idxa 1 (some 32) (.t 13) (.t 71)) <|
 q 73 (.load false 1 (.t 72)) <|
 q 74 (.fld 1 (.t 16)) <|
 q 75 (.load false 1 (.t 74)) <|
 q 76 (.bin .leq (.t 73) (.t 75)) <|
 .keep [3, 4, 13, 16, 64, 65, 66, 76] <|
 .ite (.t 76)
 (q 77 (.fld 2 (.t 16)) <|
 q 78 (.load false 1 (.t 77)) <|
 q 79 (.fld 2 (.t 16)) <|
 q 80 (.load false 1 (.t 79)) <|
 q 81 (.idxa 1 (some 32) (.t 13) (.t 80)) <|
 q 82 (.load false 1 (.t 81)) <|
 q 83 (.fld 3 (.t 16)) <|
 q 84 (.load false 1 (.t 83)) <|
 q 85 (.mn (.t 82) (.t 84)) <|
 q 86 (.idxa 1 (some 32) (.t 13) (.t 78)) <|
 qn (.store 1 (.t 86) (.t 85)) <|
 .keep [3, 4, 13, 64, 65, 66] <|
 .done)
 (.done) <|
 .done) <|
 q 87 (.bin .add (.t 66) (ci 1)) <|
 q 66 (.mv (.t 87)) <|
 .keep [3, 4, 13, 64, 65, 66] <|
 .keep [3, 4, 13, 64, 65, 66] <|
 .done)) <|
 q 88 (.mv (.t 3)) <|
 q 89 (.idxa 1 (some 32) (.t 13) (.t 88)) <|
 q 90 (.load false 1 (.t 89)) <|
 q 91 (.mv (.t 4)) <|
 q 92 (.bin .gtr (.t 90) (.t 91)) <|
 .keep [3, 13, 92] <|
 .ite (.t 92)
 (q 10 (.mv (ci 0)) <|
 q 11 (.mv (cb false)) <|
 q 12 (.mv (.c (.nilIface))) <|
 .keep [10, 11, 12] <|
 .ret)
 (.done) <|
 q 93 (.mv (.t 3)) <|
 q 94 (.idxa 1 (some 32) (.t 13) (.t 93)) <|
 q 95 (.load false 1 (.t 94)) <|
 q 10 (.mv (.t 95)) <|
 q 11 (.mv (cb true)) <|
 q 12 (.mv (.c (.nilIface))) <|
 .keep [10, 11, 12] <|
 .ret
theorem e_route_Earliest:EF false F.route_Earliest ic_route_Earliest [.t 10,.t 11,.t 12]:=ef [] Try.func17 (by kernel_rfl) (by kernel_rfl) (by kernel_rfl)
def ic_route_May : IC :=
 q 1 (.box (.t 0)) <|
 q 2 (.mv (cb false)) <|
 .keep [1] <|
 q 3 (.mv (.f F.route_May_1)) <|
 .keep [1, 3] <|
 q 5 (.mkfn (.func F.route_May_2) [] [(.t 1)]) <|
 q 4 (.mv (.t 5)) <|
 .keep [1, 3, 4] <|
 q 6 (.fld 0 (.t 1)) <|
 q 7 (.load false 1 (.t 6)) <|
 q 8 (.len false (.t 7)) <|
 q 9 (.bin .leq (.t 8) (ci 16)) <|
 q 10 (.mv (.t 9)) <|
 qg 11 10 true (.fld 1 (.t 1)) <|
 qg 12 10 true (.load false 1 (.t 11)) <|
 qg 13 10 true (.len false (.t 12)) <|
 qg 14 10 true (.bin .leq (.t 13) (ci 100)) <|
 q 15 (.pick (.t 10) (.t 14) (cb false)) <|
 q 16 (.mv (.t 15)) <|
 qg 17 16 true (.fld 0 (.t 1)) <|
 qg 18 16 true (.load false 1 (.t 17)) <|
 qg 19 16 true (.mv (.t 3)) <|
 qg 20 16 true (.call F.slices_ContainsFunc_api_Service_api_Service [(.t 18), (.t 19)]) <|
 qg 21 16 true (.un .not (.t 20)) <|
 q 22 (.pick (.t 16) (.t 21) (cb false)) <|
 q 23 (.mv (.t 22)) <|
 qg 24 23 true (.fld 1 (.t 1)) <|
 qg 25 23 true (.load false 1 (.t 24)) <|
 qg 26 23 true (.mv (.t 4)) <|
 qg 27 23 true (.call F.slices_ContainsFunc_api_Conn_api_Conn [(.t 25), (.t 26)]) <|
 qg 28 23 true (.un .not (.t 27)) <|
 q 29 (.pick (.t 23) (.t 28) (cb false)) <|
 q 2 (.mv (.t 29)) <|
 .keep [2] <|
 .ret
theorem e_route_May:EF false F.route_May ic_route_May [.t 2]:=ef [] Try.func20 (by kernel_rfl) (by kernel_rfl) (by kernel_rfl)
def ic_route_stop : IC :=
 q 2 (.mv (cb false)) <|
 .keep [0] <|
 q 3 (.mv (.t 0)) <|
 q 4 (.bin .geq (.t 3) (ci 0)) <|
 q 5 (.mv (.t 4)) <|
 qg 6 5 true (.mv (.t 0)) <|
 qg 7 5 true (.bin .lss (.t 6) (ci 32)) <|
 q 8 (.pick (.t 5) (.t 7) (cb false)) <|
 q 2 (.mv (.t 8)) <|
 .keep [2] <|
 .ret
theorem e_route_stop:EF false F.route_stop ic_route_stop [.t 2]:=ef [] Try.func26 (by kernel_rfl) (by kernel_rfl) (by kernel_rfl)
def ic_route_rides : IC :=
 q 3 (.box (.t 0)) <|
 q 6 (.mv (.c (.slice none 0 0))) <|
 .keep [1, 2, 3] <|
 q 7 (.mv (.c (.slice none 0 0))) <|
 .keep [1, 2, 3, 7] <|
 q 12 (.mv (.t 1)) <|
 q 13 (.bin .quo (.t 12) (ci 1440)) <|
 q 8 (.mv (.t 13)) <|
 .keep [1, 2, 3, 7, 8] <|
 .block 0
 (.keep [1, 2, 3, 7, 8] <|
 .loop
 (q 14 (.mv (.t 8)) <|
 q 15 (.mv (.t 2)) <|
 q 16 (.bin .quo (.t 15) (ci 1440)) <|
 q 17 (.bin .leq (.t 14) (.t 16)) <|
 .keep [1, 2, 3, 7, 8, 17] <|
 .ite (.t 17)
 (.done)
 (.exit 0) <|
 .block 1
 (q 20 (.fld 1 (.t 3)) <|
 q 21 (.load false 1 (.t 20)) <|
 q 22 (.len false (.t 21)) <|
 q 23 (.mv (ci 0)) <|
 .keep [1, 2, 3, 7, 8, 21, 22, 23] <|
 .block 2
 (.keep [1, 2, 3, 7, 8, 21, 22, 23] <|
 .loop
 (q 24 (.bin .lss (.t 23) (.t 22)) <|
 .keep [1, 2, 3, 7, 8, 21, 22, 23, 24] <|
 .ite (.t 24)
 (.done)
 (.exit 2) <|
 .block 3
 (q 25 (.idxa 5 none (.t 21) (.t 23)) <|
 q 26 (.load true 5 (.t 25)) <|
 q 10 (.alloc (List.replicate 5 (.int .i64 0))) <|
 qn (.store 5 (.t 10) (.t 26)) <|
 .keep [1, 2, 3, 7, 8, 10, 21, 22, 23] <|
 q 27 (.fld 1 (.t 10)) <|
 q 28 (.load false 1 (.t 27)) <|
 q 29 (.mv (.t 8)) <|
 q 30 (.bin .mul (.t 29) (ci 1440)) <|
 q 31 (.fld 2 (.t 10)) <|
 q 32 (.load false 1 (.t 31)) <|
 q 33 (.bin .add (.t 30) (.t 32)) <|
 q 34 (.fld 3 (.t 10)) <|
 q 35 (.load false 1 (.t 34)) <|
 q 36 (.mv (.t 8)) <|
 q 37 (.bin .mul (.t 36) (ci 1440)) <|
 q 38 (.fld 4 (.t 10)) <|
 q 39 (.load false 1 (.t 38)) <|
 q 40 (.bin .add (.t 37) (.t 39)) <|
 q 41 (.build (List.replicate 4 (.int .i64 0)) [(0, 1, (.t 28)), (1, 1, (.t 33)), (2, 1, (.t 35)), (3, 1, (.t 40))]) <|
 q 11 (.alloc (List.replicate 4 (.int .i64 0))) <|
 qn (.store 4 (.t 11) (.t 41)) <|
 .keep [1, 2, 3, 7, 8, 10, 11, 21, 22, 23] <|
 q 42 (.fld 1 (.t 11)) <|
 q 43 (.load false 1 (.t 42)) <|
 q 44 (.mv (.t 1)) <|
 q 45 (.bin .geq (.t 43) (.t 44)) <|
 q 46 (.mv (.t 45)) <|
 qg 47 46 true (.fld 3 (.t 11)) <|
 qg 48 46 true (.load false 1 (.t 47)) <|
 qg 49 46 true (.mv (.t 2)) <|
 qg 50 46 true (.bin .leq (.t 48) (.t 49)) <|
 q 51 (.pick (.t 46) (.t 50) (cb false)) <|
 q 52 (.mv (.t 51)) <|
 qg 53 52 true (.fld 0 (.t 3)) <|
 qg 54 52 true (.load false 1 (.t 53)) <|
 qg 55 52 true (.fld 0 (.t 10)) <|
 qg 56 52 true (.load false 1 (.t 55)) <|
 qg 57 52 true (.idxa 5 none (.t 54) (.t 56)) <|
 qg 58 52 true (.load true 5 (.t 57)) <|
 qg 59 52 true (.mv (.t 8)) <|
 qg 60 52 true (.call F.service_Runs [(.t 58), (.t 59)]) <|
 q 61 (.pick (.t 52) (.t 60) (cb false)) <|
 .keep [1, 2, 3, 7, 8, 11, 21, 22, 23, 61] <|
 .ite (.t 61)
 (q 62 (.mv (.t 7)) <|
 q 63 (.load true 4 (.t 11)) <|
 q 64 (.bslice false 4 1 (List.replicate 4 (.int .i64 0)) [(0, 4, (.t 63))]) <|
 q 65 (.append 4 32 (.t 62) (.t 64)) <|
 q 7 (.mv (.t 65)) <|
 .keep [1, 2, 3, 7, 8, 21, 22, 23] <|
 .done)
 (.done) <|
 .done) <|
 q 66 (.bin .add (.t 23) (ci 1)) <|
 q 23 (.mv (.t 66)) <|
 .keep [1, 2, 3, 7, 8, 21, 22, 23] <|
 .keep [1, 2, 3, 7, 8, 21, 22, 23] <|
 .done)) <|
 .done) <|
 q 18 (.mv (.t 8)) <|
 q 19 (.bin .add (.t 18) (ci 1)) <|
 q 8 (.mv (.t 19)) <|
 .keep [1, 2, 3, 7, 8] <|
 .keep [1, 2, 3, 7, 8] <|
 .done)) <|
 q 67 (.mv (.t 7)) <|
 q 68 (.call F.slices_SortFunc_route_ride_route_ride [(.t 67), (.f F.route_rides_1)]) <|
 .keep [7] <|
 q 69 (.mv (.t 7)) <|
 q 6 (.mv (.t 69)) <|
 .keep [6] <|
 .ret
theorem e_route_rides:EF false F.route_rides ic_route_rides [.t 6]:=ef [] Try.func27 (by kernel_rfl) (by kernel_rfl) (by kernel_rfl)
def ic_route_May_1 : IC :=
 q 1 (.box (.t 0)) <|
 q 2 (.mv (cb false)) <|
 .keep [1] <|
 q 3 (.load true 5 (.t 1)) <|
 q 4 (.call F.service_May [(.t 3)]) <|
 q 5 (.un .not (.t 4)) <|
 q 2 (.mv (.t 5)) <|
 .keep [2] <|
 .ret
theorem e_route_May_1:EF false F.route_May_1 ic_route_May_1 [.t 2]:=ef [] Try.func30 (by kernel_rfl) (by kernel_rfl) (by kernel_rfl)
def ic_route_May_2 : IC :=
 q 2 (.box (.t 0)) <|
 q 3 (.mv (cb false)) <|
 .keep [1, 2] <|
 q 4 (.fld 0 (.t 2)) <|
 q 5 (.load false 1 (.t 4)) <|
 q 6 (.bin .lss (.t 5) (ci 0)) <|
 q 7 (.mv (.t 6)) <|
 qg 8 7 false (.fld 0 (.t 2)) <|
 qg 9 7 false (.load false 1 (.t 8)) <|
 qg 10 7 false (.fld 0 (.t 1)) <|
 qg 11 7 false (.load false 1 (.t 10)) <|
 qg 12 7 false (.len false (.t 11)) <|
 qg 13 7 false (.bin .geq (.t 9) (.t 12)) <|
 q 14 (.pick (.t 7) (cb true) (.t 13)) <|
 q 15 (.mv (.t 14)) <|
 qg 16 15 false (.fld 1 (.t 2)) <|
 qg 17 15 false (.load false 1 (.t 16)) <|
 qg 18 15 false (.call F.route_stop [(.t 17)]) <|
 qg 19 15 false (.un .not (.t 18)) <|
 q 20 (.pick (.t 15) (cb true) (.t 19)) <|
 q 21 (.mv (.t 20)) <|
 qg 22 21 false (.fld 3 (.t 2)) <|
 qg 23 21 false (.load false 1 (.t 22)) <|
 qg 24 21 false (.call F.route_stop [(.t 23)]) <|
 qg 25 21 false (.un .not (.t 24)) <|
 q 26 (.pick (.t 21) (cb true) (.t 25)) <|
 q 27 (.mv (.t 26)) <|
 qg 28 27 false (.fld 2 (.t 2)) <|
 qg 29 27 false (.load false 1 (.t 28)) <|
 qg 30 27 false (.bin .lss (.t 29) (ci 0)) <|
 q 31 (.pick (.t 27) (cb true) (.t 30)) <|
 q 32 (.mv (.t 31)) <|
 qg 33 32 false (.fld 2 (.t 2)) <|
 qg 34 32 false (.load false 1 (.t 33)) <|
 qg 35 32 false (.bin .geq (.t 34) (ci 1440)) <|
 q 36 (.pick (.t 32) (cb true) (.t 35)) <|
 q 37 (.mv (.t 36)) <|
 qg 38 37 false (.fld 4 (.t 2)) <|
 qg 39 37 false (.load false 1 (.t 38)) <|
 qg 40 37 false (.fld 2 (.t 2)) <|
 qg 41 37 false (.load false 1 (.t 40)) <|
 qg 42 37 false (.bin .leq (.t 39) (.t 41)) <|
 q 43 (.pick (.t 37) (cb true) (.t 42)) <|
 q 44 (.mv (.t 43)) <|
 qg 45 44 false (.fld 4 (.t 2)) <|
 qg 46 44 false (.load false 1 (.t 45)) <|
 qg 47 44 false (.bin .gtr (.t 46) (ci 2879)) <|
 q 48 (.pick (.t 44) (cb true) (.t 47)) <|
 q 3 (.mv (.t 48)) <|
 .keep [3] <|
 .ret
theorem e_route_May_2:EF false F.route_May_2 ic_route_May_2 [.t 3]:=ef [] Try.func32 (by kernel_rfl) (by kernel_rfl) (by kernel_rfl)
def ic_slices_ContainsFunc_api_Service_api_Service : IC :=
 q 4 (.mv (cb false)) <|
 .keep [0, 1] <|
 q 5 (.mv (.t 0)) <|
 q 6 (.mv (.t 1)) <|
 q 7 (.call F.slices_IndexFunc_api_Service_api_Service [(.t 5), (.t 6)]) <|
 q 8 (.bin .geq (.t 7) (ci 0)) <|
 q 4 (.mv (.t 8)) <|
 .keep [4] <|
 .ret
theorem e_slices_ContainsFunc_api_Service_api_Service:EF false F.slices_ContainsFunc_api_Service_api_Service ic_slices_ContainsFunc_api_Service_api_Service [.t 4]:=ef [] Try.func33 (by kernel_rfl) (by kernel_rfl) (by kernel_rfl)
def ic_slices_ContainsFunc_api_Conn_api_Conn : IC :=
 q 4 (.mv (cb false)) <|
 .keep [0, 1] <|
 q 5 (.mv (.t 0)) <|
 q 6 (.mv (.t 1)) <|
 q 7 (.call F.slices_IndexFunc_api_Conn_api_Conn [(.t 5), (.t 6)]) <|
 q 8 (.bin .geq (.t 7) (ci 0)) <|
 q 4 (.mv (.t 8)) <|
 .keep [4] <|
 .ret
theorem e_slices_ContainsFunc_api_Conn_api_Conn:EF false F.slices_ContainsFunc_api_Conn_api_Conn ic_slices_ContainsFunc_api_Conn_api_Conn [.t 4]:=ef [] Try.func34 (by kernel_rfl) (by kernel_rfl) (by kernel_rfl)
def ic_slices_IndexFunc_api_Service_api_Service : IC :=
 q 4 (.mv (ci 0)) <|
 .keep [0, 1] <|
 q 6 (.mv (.t 0)) <|
 q 7 (.len false (.t 6)) <|
 q 8 (.mv (ci 0)) <|
 .keep [0, 1, 7, 8] <|
 .block 0
 (.keep [0, 1, 7, 8] <|
 .loop
 (q 9 (.bin .lss (.t 8) (.t 7)) <|
 .keep [0, 1, 7, 8, 9] <|
 .ite (.t 9)
 (.done)
 (.exit 0) <|
 .block 1
 (q 10 (.mv (.t 8)) <|
 q 5 (.mv (.t 10)) <|
 .keep [0, 1, 5, 7, 8] <|
 q 11 (.mv (.t 1)) <|
 q 12 (.mv (.t 0)) <|
 q 13 (.mv (.t 5)) <|
 q 14 (.idxa 5 none (.t 12) (.t 13)) <|
 q 15 (.load true 5 (.t 14)) <|
 q 16 (.callv (.t 11) [(.t 15)]) <|
 .keep [0, 1, 5, 7, 8, 16] <|
 .ite (.t 16)
 (q 17 (.mv (.t 5)) <|
 q 4 (.mv (.t 17)) <|
 .keep [4] <|
 .ret)
 (.done) <|
 .done) <|
 q 18 (.bin .add (.t 8) (ci 1)) <|
 q 8 (.mv (.t 18)) <|
 .keep [0, 1, 7, 8] <|
 .keep [0, 1, 7, 8] <|
 .done)) <|
 q 4 (.mv (ci (-1))) <|
 .keep [4] <|
 .ret
theorem e_slices_IndexFunc_api_Service_api_Service:EF false F.slices_IndexFunc_api_Service_api_Service ic_slices_IndexFunc_api_Service_api_Service [.t 4]:=ef [] Try.func46 (by kernel_rfl) (by kernel_rfl) (by kernel_rfl)
def ic_slices_IndexFunc_api_Conn_api_Conn : IC :=
 q 4 (.mv (ci 0)) <|
 .keep [0, 1] <|
 q 6 (.mv (.t 0)) <|
 q 7 (.len false (.t 6)) <|
 q 8 (.mv (ci 0)) <|
 .keep [0, 1, 7, 8] <|
 .block 0
 (.keep [0, 1, 7, 8] <|
 .loop
 (q 9 (.bin .lss (.t 8) (.t 7)) <|
 .keep [0, 1, 7, 8, 9] <|
 .ite (.t 9)
 (.done)
 (.exit 0) <|
 .block 1
 (q 10 (.mv (.t 8)) <|
 q 5 (.mv (.t 10)) <|
 .keep [0, 1, 5, 7, 8] <|
 q 11 (.mv (.t 1)) <|
 q 12 (.mv (.t 0)) <|
 q 13 (.mv (.t 5)) <|
 q 14 (.idxa 5 none (.t 12) (.t 13)) <|
 q 15 (.load true 5 (.t 14)) <|
 q 16 (.callv (.t 11) [(.t 15)]) <|
 .keep [0, 1, 5, 7, 8, 16] <|
 .ite (.t 16)
 (q 17 (.mv (.t 5)) <|
 q 4 (.mv (.t 17)) <|
 .keep [4] <|
 .ret)
 (.done) <|
 .done) <|
 q 18 (.bin .add (.t 8) (ci 1)) <|
 q 8 (.mv (.t 18)) <|
 .keep [0, 1, 7, 8] <|
 .keep [0, 1, 7, 8] <|
 .done)) <|
 q 4 (.mv (ci (-1))) <|
 .keep [4] <|
 .ret
theorem e_slices_IndexFunc_api_Conn_api_Conn:EF false F.slices_IndexFunc_api_Conn_api_Conn ic_slices_IndexFunc_api_Conn_api_Conn [.t 4]:=ef [] Try.func47 (by kernel_rfl) (by kernel_rfl) (by kernel_rfl)
end Go.Proofs.Ytabpkmfgmjnipaa.Eng

