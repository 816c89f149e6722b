/- The code of some functions, as the abstract machine's. Printed by program. -/
import Derived.Test.YtenfocjhebgoeaaGreatMCa
namespace Go.Proofs.YtenfocjhebgoeaaGreat.Eng
open Go Go.Proofs
set_option maxRecDepth 20000
def ic_clapperref13_Few : IC :=
 q 1 (.box (.t 0)) <|
 q 2 (.mv (cb false)) <|
 .keep [1] <|
 q 4 (.fld 0 (.t 1)) <|
 q 5 (.load false 1 (.t 4)) <|
 q 6 (.len false (.t 5)) <|
 q 7 (.bin .gtr (.t 6) (ci 40)) <|
 q 8 (.mv (.t 7)) <|
 qg 9 8 false (.fld 1 (.t 1)) <|
 qg 10 8 false (.load false 1 (.t 9)) <|
 qg 11 8 false (.len false (.t 10)) <|
 qg 12 8 false (.bin .gtr (.t 11) (ci 200)) <|
 q 13 (.pick (.t 8) (cb true) (.t 12)) <|
 .keep [1, 13] <|
 .ite (.t 13)
 (q 2 (.mv (cb false)) <|
 .keep [2] <|
 .ret)
 (.done) <|
 q 3 (.mv (ci 0)) <|
 .keep [1, 3] <|
 .block 0
 (.keep [1, 3] <|
 .loop
 (q 14 (.mv (.t 3)) <|
 q 15 (.fld 0 (.t 1)) <|
 q 16 (.load false 1 (.t 15)) <|
 q 17 (.len false (.t 16)) <|
 q 18 (.bin .lss (.t 14) (.t 17)) <|
 .keep [1, 3, 18] <|
 .ite (.t 18)
 (.done)
 (.exit 0) <|
 .block 1
 (q 21 (.fld 0 (.t 1)) <|
 q 22 (.load false 1 (.t 21)) <|
 q 23 (.mv (.t 3)) <|
 q 24 (.idxa 5 none (.t 22) (.t 23)) <|
 q 25 (.fld 3 (.t 24)) <|
 q 26 (.load false 1 (.t 25)) <|
 q 27 (.len false (.t 26)) <|
 q 28 (.bin .gtr (.t 27) (ci 300)) <|
 q 29 (.mv (.t 28)) <|
 qg 30 29 false (.fld 0 (.t 1)) <|
 qg 31 29 false (.load false 1 (.t 30)) <|
 qg 32 29 false (.mv (.t 3)) <|
 qg 33 29 false (.idxa 5 none (.t 31) (.t 32)) <|
 qg 34 29 false (.fld 4 (.t 33)) <|
 qg 35 29 false (.load false 1 (.t 34)) <|
 qg 36 29 false (.len false (.t 35)) <|
 qg 37 29 false (.bin .gtr (.t 36) (ci 300)) <|
 q 38 (.pick (.t 29) (cb true) (.t 37)) <|
 .keep [1, 3, 38] <|
 .ite (.t 38)
 (q 2 (.mv (cb false)) <|
 .keep [2] <|
 .ret)
 (.done) <|
 .done) <|
 q 19 (.mv (.t 3)) <|
 q 20 (.bin .add (.t 19) (ci 1)) <|
 q 3 (.mv (.t 20)) <|
 .keep [1, 3] <|
 .keep [1, 3] <|
 .done)) <|
 q 2 (.mv (cb true)) <|
 .keep [2] <|
 .ret
theorem e_clapperref13_Few:EF false F.clapperref13_Few ic_clapperref13_Few [.t 2]:=ef [] Tryz.func19 (by kernel_rfl) (by kernel_rfl) (by kernel_rfl)
def ic_route_May : IC :=
 q 1 (.box (.t 0)) <|
 q 2 (.mv (cb false)) <|
 .keep [1] <|
 q 3 (.mv (.f F.route_May_1)) <|
 .keep [1, 3] <|
 q 5 (.mkfn (.func F.route_May_2) [] [(.t 1)]) <|
 q 4 (.mv (.t 5)) <|
 .keep [1, 3, 4] <|
 q 6 (.fld 0 (.t 1)) <|
 q 7 (.load false 1 (.t 6)) <|
 q 8 (.len false (.t 7)) <|
 q 9 (.bin .leq (.t 8) (ci 16)) <|
 q 10 (.mv (.t 9)) <|
 qg 11 10 true (.fld 1 (.t 1)) <|
 qg 12 10 true (.load false 1 (.t 11)) <|
 qg 13 10 true (.len false (.t 12)) <|
 qg 14 10 true (.bin .leq (.t 13) (ci 100)) <|
 q 15 (.pick (.t 10) (.t 14) (cb false)) <|
 q 16 (.mv (.t 15)) <|
 qg 17 16 true (.fld 0 (.t 1)) <|
 qg 18 16 true (.load false 1 (.t 17)) <|
 qg 19 16 true (.mv (.t 3)) <|
 qg 20 16 true (.call F.slices_ContainsFunc_api_Service_api_Service [(.t 18), (.t 19)]) <|
 qg 21 16 true (.un .not (.t 20)) <|
 q 22 (.pick (.t 16) (.t 21) (cb false)) <|
 q 23 (.mv (.t 22)) <|
 qg 24 23 true (.fld 1 (.t 1)) <|
 qg 25 23 true (.load false 1 (.t 24)) <|
 qg 26 23 true (.mv (.t 4)) <|
 qg 27 23 true (.call F.slices_ContainsFunc_api_Conn_api_Conn [(.t 25), (.t 26)]) <|
 qg 28 23 true (.un .not (.t 27)) <|
 q 29 (.pick (.t 23) (.t 28) (cb false)) <|
 q 2 (.mv (.t 29)) <|
 .keep [2] <|
 .ret
theorem e_route_May:EF false F.route_May ic_route_May [.t 2]:=ef [] Tryz.func37 (by kernel_rfl) (by kernel_rfl) (by kernel_rfl)
def ic_route_May_1 : IC :=
 q 1 (.box (.t 0)) <|
 q 2 (.mv (cb false)) <|
 .keep [1] <|
 q 3 (.load true 5 (.t 1)) <|
 q 4 (.call F.service_May [(.t 3)]) <|
 q 5 (.un .not (.t 4)) <|
 q 2 (.mv (.t 5)) <|
 .keep [2] <|
 .ret
theorem e_route_May_1:EF false F.route_May_1 ic_route_May_1 [.t 2]:=ef [] Tryz.func55 (by kernel_rfl) (by kernel_rfl) (by kernel_rfl)
def ic_route_May_2 : IC :=
 q 2 (.box (.t 0)) <|
 q 3 (.mv (cb false)) <|
 .keep [1, 2] <|
 q 4 (.fld 0 (.t 2)) <|
 q 5 (.load false 1 (.t 4)) <|
 q 6 (.bin .lss (.t 5) (ci 0)) <|
 q 7 (.mv (.t 6)) <|
 qg 8 7 false (.fld 0 (.t 2)) <|
 qg 9 7 false (.load false 1 (.t 8)) <|
 qg 10 7 false (.fld 0 (.t 1)) <|
 qg 11 7 false (.load false 1 (.t 10)) <|
 qg 12 7 false (.len false (.t 11)) <|
 qg 13 7 false (.bin .geq (.t 9) (.t 12)) <|
 q 14 (.pick (.t 7) (cb true) (.t 13)) <|
 q 15 (.mv (.t 14)) <|
 qg 16 15 false (.fld 1 (.t 2)) <|
 qg 17 15 false (.load false 1 (.t 16)) <|
 qg 18 15 false (.call F.route_stop [(.t 17)]) <|
 qg 19 15 false (.un .not (.t 18)) <|
 q 20 (.pick (.t 15) (cb true) (.t 19)) <|
 q 21 (.mv (.t 20)) <|
 qg 22 21 false (.fld 3 (.t 2)) <|
 qg 23 21 false (.load false 1 (.t 22)) <|
 qg 24 21 false (.call F.route_stop [(.t 23)]) <|
 qg 25 21 false (.un .not (.t 24)) <|
 q 26 (.pick (.t 21) (cb true) (.t 25)) <|
 q 27 (.mv (.t 26)) <|
 qg 28 27 false (.fld 2 (.t 2)) <|
 qg 29 27 false (.load false 1 (.t 28)) <|
 qg 30 27 false (.bin .lss (.t 29) (ci 0)) <|
 q 31 (.pick (.t 27) (cb true) (.t 30)) <|
 q 32 (.mv (.t 31)) <|
 qg 33 32 false (.fld 2 (.t 2)) <|
 qg 34 32 false (.load false 1 (.t 33)) <|
 qg 35 32 false (.bin .geq (.t 34) (ci 1440)) <|
 q 36 (.pick (.t 32) (cb true) (.t 35)) <|
 q 37 (.mv (.t 36)) <|
 qg 38 37 false (.fld 4 (.t 2)) <|
 qg 39 37 false (.load false 1 (.t 38)) <|
 qg 40 37 false (.fld 2 (.t 2)) <|
 qg 41 37 false (.load false 1 (.t 40)) <|
 qg 42 37 false (.bin .leq (.t 39) (.t 41)) <|
 q 43 (.pick (.t 37) (cb true) (.t 42)) <|
 q 44 (.mv (.t 43)) <|
 qg 45 44 false (.fld 4 (.t 2)) <|
 qg 46 44 false (.load false 1 (.t 45)) <|
 qg 47 44 false (.bin .gtr (.t 46) (ci 2879)) <|
 q 48 (.pick (.t 44) (cb true) (.t 47)) <|
 q 3 (.mv (.t 48)) <|
 .keep [3] <|
 .ret
theorem e_route_May_2:EF false F.route_May_2 ic_route_May_2 [.t 3]:=ef [] Tryz.func56 (by kernel_rfl) (by kernel_rfl) (by kernel_rfl)
def ic_route_stop : IC :=
 q 2 (.mv (cb false)) <|
 .keep [0] <|
 q 3 (.mv (.t 0)) <|
 q 4 (.bin .geq (.t 3) (ci 0)) <|
 q 5 (.mv (.t 4)) <|
 qg 6 5 true (.mv (.t 0)) <|
 qg 7 5 true (.bin .lss (.t 6) (ci 32)) <|
 q 8 (.pick (.t 5) (.t 7) (cb false)) <|
 q 2 (.mv (.t 8)) <|
 .keep [2] <|
 .ret
theorem e_route_stop:EF false F.route_stop ic_route_stop [.t 2]:=ef [] Tryz.func57 (by kernel_rfl) (by kernel_rfl) (by kernel_rfl)
def ic_slices_ContainsFunc_api_Service_api_Service : IC :=
 q 4 (.mv (cb false)) <|
 .keep [0, 1] <|
 q 5 (.mv (.t 0)) <|
 q 6 (.mv (.t 1)) <|
 q 7 (.call F.slices_IndexFunc_api_Service_api_Service [(.t 5), (.t 6)]) <|
 q 8 (.bin .geq (.t 7) (ci 0)) <|
 q 4 (.mv (.t 8)) <|
 .keep [4] <|
 .ret
theorem e_slices_ContainsFunc_api_Service_api_Service:EF false F.slices_ContainsFunc_api_Service_api_Service ic_slices_ContainsFunc_api_Service_api_Service [.t 4]:=ef [] Tryz.func58 (by kernel_rfl) (by kernel_rfl) (by kernel_rfl)
def ic_slices_ContainsFunc_api_Conn_api_Conn : IC :=
 q 4 (.mv (cb false)) <|
 .keep [0, 1] <|
 q 5 (.mv (.t 0)) <|
 q 6 (.mv (.t 1)) <|
 q 7 (.call F.slices_IndexFunc_api_Conn_api_Conn [(.t 5), (.t 6)]) <|
 q 8 (.bin .geq (.t 7) (ci 0)) <|
 q 4 (.mv (.t 8)) <|
 .keep [4] <|
 .ret
theorem e_slices_ContainsFunc_api_Conn_api_Conn:EF false F.slices_ContainsFunc_api_Conn_api_Conn ic_slices_ContainsFunc_api_Conn_api_Conn [.t 4]:=ef [] Tryz.func59 (by kernel_rfl) (by kernel_rfl) (by kernel_rfl)
def ic_slices_IndexFunc_api_Service_api_Service : IC :=
 q 4 (.mv (ci 0)) <|
 .keep [0, 1] <|
 q 6 (.mv (.t 0)) <|
 q 7 (.len false (.t 6)) <|
 q 8 (.mv (ci 0)) <|
 .keep [0, 1, 7, 8] <|
 .block 0
 (.keep [0, 1, 7, 8] <|
 .loop
 (q 9 (.bin .lss (.t 8) (.t 7)) <|
 .keep [0, 1, 7, 8, 9] <|
 .ite (.t 9)
 (.done)
 (.exit 0) <|
 .block 1
 (q 10 (.mv (.t 8)) <|
 q 5 (.mv (.t 10)) <|
 .keep [0, 1, 5, 7, 8] <|
 q 11 (.mv (.t 1)) <|
 q 12 (.mv (.t 0)) <|
 q 13 (.mv (.t 5)) <|
 q 14 (.idxa 5 none (.t 12) (.t 13)) <|
 q 15 (.load true 5 (.t 14)) <|
 q 16 (.callv (.t 11) [(.t 15)]) <|
 .keep [0, 1, 5, 7, 8, 16] <|
 .ite (.t 16)
 (q 17 (.mv (.t 5)) <|
 q 4 (.mv (.t 17)) <|
 .keep [4] <|
 .ret)
 (.done) <|
 .done) <|
 q 18 (.bin .add (.t 8) (ci 1)) <|
 q 8 (.mv (.t 18)) <|
 .keep [0, 1, 7, 8] <|
 .keep [0, 1, 7, 8] <|
 .done)) <|
 q 4 (.mv (ci (-1))) <|
 .keep [4] <|
 .ret
theorem e_slices_IndexFunc_api_Service_api_Service:EF false F.slices_IndexFunc_api_Service_api_Service ic_slices_IndexFunc_api_Service_api_Service [.t 4]:=ef [] Tryz.func86 (by kernel_rfl) (by kernel_rfl) (by kernel_rfl)
def ic_slices_IndexFunc_api_Conn_api_Conn : IC :=
 q 4 (.mv (ci 0)) <|
 .keep [0, 1] <|
 q 6 (.mv (.t 0)) <|
 q 7 (.len false (.t 6)) <|
 q 8 (.mv (ci 0)) <|
 .keep [0, 1, 7, 8] <|
 .block 0
 (.keep [0, 1, 7, 8] <|
 .loop
 (q 9 (.bin .lss (.t 8) (.t 7)) <|
 .keep [0, 1, 7, 8, 9] <|
 .ite (.t 9)
 (.done)
 (.exit 0) <|
 .block 1
 (q 10 (.mv (.t 8)) <|
 q 5 (.mv (.t 10)) <|
 .keep [0, 1, 5, 7, 8] <|
 q 11 (.mv (.t 1)) <|
 q 12 (.mv (.t 0)) <|
 q 13 (.mv (.t 5)) <|
 q 14 (.idxa 5 none (.t 12) (.t 13)) <|
 q 15 (.load true 5 (.t 14)) <|
 q 16 (.callv (.t 11) [(.t 15)]) <|
 .keep [0, 1, 5, 7, 8, 16] <|
 .ite (.t 16)
 (q 17 (.mv (.t 5)) <|
 q 4 (.mv (.t 17)) <|
 .keep [4] <|
 .ret)
 (.done) <|
 .done) <|
 q 18 (.bin .add (.t 8) (ci 1)) <|
 q 8 (.mv (.t 18)) <|
 .keep [0, 1, 7, 8] <|
 .keep [0, 1, 7, 8] <|
 .done)) <|
 q 4 (.mv (ci (-1))) <|
 .keep [4] <|
 .ret
theorem e_slices_IndexFunc_api_Conn_api_Conn:EF false F.slices_IndexFunc_api_Conn_api_Conn ic_slices_IndexFunc_api_Conn_api_Conn [.t 4]:=ef [] Tryz.func87 (by kernel_rfl) (by kernel_rfl) (by kernel_rfl)
def ic_clapperlaw22_FactsTurns : IC :=
 q 5 (.box (.t 0)) <|
 q 10 (.mv (cb false)) <|
 .keep [1, 2, 3, 4, 5] <|
 q 21 (.call F.clapperlaw22_up []) <|
 q 11 (.mv (.t 21)) <|
 .keep [1, 2, 3, 4, 5, 11] <|
 q 22 (.load true 9 (.t 5)) <|
 q 23 (.call F.clapperref22_Few [(.t 22)]) <|
 q 12 (.mv (.t 23)) <|
 .keep [1, 2, 3, 4, 5, 11, 12] <|
 q 24 (.mv (.t 12)) <|
 q 25 (.un .not (.t 24)) <|
 q 26 (.mv (.t 25)) <|
 qg 27 26 false (.mv (.t 1)) <|
 qg 28 26 false (.mv (.t 3)) <|
 qg 29 26 false (.bin .eql (.t 27) (.t 28)) <|
 q 30 (.pick (.t 26) (cb true) (.t 29)) <|
 q 31 (.mv (.t 30)) <|
 qg 32 31 false (.mv (.t 2)) <|
 qg 33 31 false (.len false (.t 32)) <|
 qg 34 31 false (.bin .gtr (.t 33) (ci 3000)) <|
 q 35 (.pick (.t 31) (cb true) (.t 34)) <|
 q 36 (.mv (.t 35)) <|
 qg 37 36 false (.mv (.t 4)) <|
 qg 38 36 false (.len false (.t 37)) <|
 qg 39 36 false (.bin .gtr (.t 38) (ci 3000)) <|
 q 40 (.pick (.t 36) (cb true) (.t 39)) <|
 q 41 (.mv (.t 40)) <|
 qg 42 41 false (.fld 7 (.t 5)) <|
 qg 43 41 false (.load false 1 (.t 42)) <|
 qg 44 41 false (.len false (.t 43)) <|
 qg 45 41 false (.bin .gtr (.t 44) (ci 6)) <|
 q 46 (.pick (.t 41) (cb true) (.t 45)) <|
 .keep [1, 2, 3, 4, 5, 11, 46] <|
 .ite (.t 46)
 (q 47 (.mv (.t 11)) <|
 q 10 (.mv (.t 47)) <|
 .keep [10] <|
 .ret)
 (.done) <|
 q 49 (.load true 9 (.t 5)) <|
 q 50 (.mv (.t 1)) <|
 q 51 (.mv (.t 2)) <|
 q 52 (.call F.facts_Record [(.t 49), (.t 50), (.t 51)]) <|
 q 48 (.mv (.t 52)) <|
 q 53 (.ext (.t 48) 0) <|
 q 54 (.ext (.t 48) 1) <|
 q 13 (.alloc [.slice none 0 0, .slice none 0 0, .slice none 0 0, .slice none 0 0, .slice none 0 0, .slice none 0 0, .int .i64 0, .slice none 0 0, .slice none 0 0]) <|
 qn (.store 9 (.t 13) (.t 53)) <|
 q 14 (.mv (.t 54)) <|
 .keep [1, 2, 3, 4, 5, 11, 13, 14] <|
 q 56 (.load true 9 (.t 5)) <|
 q 57 (.mv (.t 3)) <|
 q 58 (.mv (.t 4)) <|
 q 59 (.call F.facts_Record [(.t 56), (.t 57), (.t 58)]) <|
 q 55 (.mv (.t 59)) <|
 q 60 (.ext (.t 55) 0) <|
 q 61 (.ext (.t 55) 1) <|
 q 15 (.alloc [.slice none 0 0, .slice none 0 0, .slice none 0 0, .slice none 0 0, .slice none 0 0, .slice none 0 0, .int .i64 0, .slice none 0 0, .slice none 0 0]) <|
 qn (.store 9 (.t 15) (.t 60)) <|
 q 16 (.mv (.t 61)) <|
 .keep [1, 2, 3, 4, 11, 13, 14, 15, 16] <|
 q 62 (.mv (.t 14)) <|
 q 63 (.eq true .i (.t 62) (.c (.nilIface))) <|
 q 64 (.mv (.t 63)) <|
 qg 65 64 false (.mv (.t 16)) <|
 qg 66 64 false (.eq true .i (.t 65) (.c (.nilIface))) <|
 q 67 (.pick (.t 64) (cb true) (.t 66)) <|
 .keep [1, 2, 3, 4, 11, 13, 15, 67] <|
 .ite (.t 67)
 (q 68 (.mv (.t 11)) <|
 q 10 (.mv (.t 68)) <|
 .keep [10] <|
 .ret)
 (.done) <|
 q 70 (.load true 9 (.t 13)) <|
 q 71 (.mv (.t 3)) <|
 q 72 (.mv (.t 4)) <|
 q 73 (.call F.facts_Record [(.t 70), (.t 71), (.t 72)]) <|
 q 69 (.mv (.t 73)) <|
 q 74 (.ext (.t 69) 0) <|
 q 75 (.ext (.t 69) 1) <|
 q 17 (.alloc [.slice none 0 0, .slice none 0 0, .slice none 0 0, .slice none 0 0, .slice none 0 0, .slice none 0 0, .int .i64 0, .slice none 0 0, .slice none 0 0]) <|
 qn (.store 9 (.t 17) (.t 74)) <|
 q 18 (.mv (.t 75)) <|
 .keep [1, 2, 11, 15, 17, 18] <|
 q 77 (.load true 9 (.t 15)) <|
 q 78 (.mv (.t 1)) <|
 q 79 (.mv (.t 2)) <|
 q 80 (.call F.facts_Record [(.t 77), (.t 78), (.t 79)]) <|
 q 76 (.mv (.t 80)) <|
 q 81 (.ext (.t 76) 0) <|
 q 82 (.ext (.t 76) 1) <|
 q 19 (.alloc [.slice none 0 0, .slice none 0 0, .slice none 0 0, .slice none 0 0, .slice none 0 0, .slice none 0 0, .int .i64 0, .slice none 0 0, .slice none 0 0]) <|
 qn (.store 9 (.t 19) (.t 81)) <|
 q 20 (.mv (.t 82)) <|
 .keep [11, 17, 18, 19, 20] <|
 q 83 (.mv (.t 11)) <|
 q 84 (.mv (.t 83)) <|
 qg 85 84 true (.mv (.t 18)) <|
 qg 86 84 true (.eq false .i (.t 85) (.c (.nilIface))) <|
 q 87 (.pick (.t 84) (.t 86) (cb false)) <|
 q 88 (.mv (.t 87)) <|
 qg 89 88 true (.mv (.t 20)) <|
 qg 90 88 true (.eq false .i (.t 89) (.c (.nilIface))) <|
 q 91 (.pick (.t 88) (.t 90) (cb false)) <|
 q 92 (.mv (.t 91)) <|
 qg 93 92 true (.load true 9 (.t 17)) <|
 qg 94 92 true (.load true 9 (.t 19)) <|
 qg 95 92 true (.call F.clapperref22_Same [(.t 93), (.t 94)]) <|
 q 96 (.pick (.t 92) (.t 95) (cb false)) <|
 q 10 (.mv (.t 96)) <|
 .keep [10] <|
 .ret
theorem e_clapperlaw22_FactsTurns:EF false F.clapperlaw22_FactsTurns ic_clapperlaw22_FactsTurns [.t 10]:=ef [] Tryz.func3 (by kernel_rfl) (by kernel_rfl) (by kernel_rfl)
def ic_clapperlaw22_up : IC :=
 q 0 (.mv (cb false)) <|
 .keep [] <|
 q 6 (.build [.slice none 0 0, .slice none 0 0, .slice none 0 0, .slice none 0 0, .slice none 0 0, .slice none 0 0, .int .i64 0] []) <|
 q 7 (.call F.facts_New [(.t 6)]) <|
 q 5 (.mv (.t 7)) <|
 q 8 (.ext (.t 5) 0) <|
 q 9 (.ext (.t 5) 1) <|
 q 1 (.alloc [.slice none 0 0, .slice none 0 0, .slice none 0 0, .slice none 0 0, .slice none 0 0, .slice none 0 0, .int .i64 0, .slice none 0 0, .slice none 0 0]) <|
 qn (.store 9 (.t 1) (.t 8)) <|
 q 2 (.mv (.t 9)) <|
 .keep [2] <|
 q 11 (.build [.slice none 0 0, .slice none 0 0, .slice none 0 0, .slice none 0 0, .slice none 0 0, .slice none 0 0, .int .i64 0] [(6, 1, (ci 9))]) <|
 q 12 (.call F.facts_New [(.t 11)]) <|
 q 10 (.mv (.t 12)) <|
 q 13 (.ext (.t 10) 0) <|
 q 14 (.ext (.t 10) 1) <|
 q 3 (.alloc [.slice none 0 0, .slice none 0 0, .slice none 0 0, .slice none 0 0, .slice none 0 0, .slice none 0 0, .int .i64 0, .slice none 0 0, .slice none 0 0]) <|
 qn (.store 9 (.t 3) (.t 13)) <|
 q 4 (.mv (.t 14)) <|
 .keep [2, 3, 4] <|
 q 15 (.mv (.t 2)) <|
 q 16 (.mkif T.api_Code (ci 1)) <|
 q 17 (.eq false .i (.t 15) (.t 16)) <|
 q 18 (.mv (.t 17)) <|
 qg 19 18 true (.mv (.t 4)) <|
 qg 20 18 true (.eq false .i (.t 19) (.c (.nilIface))) <|
 q 21 (.pick (.t 18) (.t 20) (cb false)) <|
 q 22 (.mv (.t 21)) <|
 qg 23 22 true (.load true 9 (.t 3)) <|
 qg 24 22 true (.call F.facts_May [(.t 23)]) <|
 q 25 (.pick (.t 22) (.t 24) (cb false)) <|
 q 26 (.mv (.t 25)) <|
 qg 27 26 true (.load true 9 (.t 3)) <|
 qg 28 26 true (.call F.facts_Has [(.t 27), (ci 1), (ci 0)]) <|
 qg 29 26 true (.un .not (.t 28)) <|
 q 30 (.pick (.t 26) (.t 29) (cb false)) <|
 q 0 (.mv (.t 30)) <|
 .keep [0] <|
 .ret
theorem e_clapperlaw22_up:EF false F.clapperlaw22_up ic_clapperlaw22_up [.t 0]:=ef [] Tryz.func5 (by kernel_rfl) (by kernel_rfl) (by kernel_rfl)
def ic_clapperref22_Few : IC :=
 q 1 (.box (.t 0)) <|
 q 2 (.mv (cb false)) <|
 .keep [1] <|
 q 8 (.fld 0 (.t 1)) <|
 q 9 (.load true 7 (.t 8)) <|
 q 10 (.call F.clapperref22_FewRules [(.t 9)]) <|
 q 3 (.mv (.t 10)) <|
 .keep [1, 3] <|
 q 11 (.mv (.t 3)) <|
 q 12 (.un .not (.t 11)) <|
 q 13 (.mv (.t 12)) <|
 qg 14 13 false (.fld 7 (.t 1)) <|
 qg 15 13 false (.load false 1 (.t 14)) <|
 qg 16 13 false (.len false (.t 15)) <|
 qg 17 13 false (.bin .gtr (.t 16) (ci 20)) <|
 q 18 (.pick (.t 13) (cb true) (.t 17)) <|
 q 19 (.mv (.t 18)) <|
 qg 20 19 false (.fld 8 (.t 1)) <|
 qg 21 19 false (.load false 1 (.t 20)) <|
 qg 22 19 false (.len false (.t 21)) <|
 qg 23 19 false (.bin .gtr (.t 22) (ci 120)) <|
 q 24 (.pick (.t 19) (cb true) (.t 23)) <|
 .keep [1, 24] <|
 .ite (.t 24)
 (q 2 (.mv (cb false)) <|
 .keep [2] <|
 .ret)
 (.done) <|
 q 4 (.mv (ci 0)) <|
 .keep [1, 4] <|
 q 5 (.mv (ci 0)) <|
 .keep [1, 4, 5] <|
 .block 0
 (.keep [1, 4, 5] <|
 .loop
 (q 25 (.mv (.t 5)) <|
 q 26 (.fld 7 (.t 1)) <|
 q 27 (.load false 1 (.t 26)) <|
 q 28 (.len false (.t 27)) <|
 q 29 (.bin .lss (.t 25) (.t 28)) <|
 .keep [1, 4, 5, 29] <|
 .ite (.t 29)
 (.done)
 (.exit 0) <|
 .block 1
 (q 32 (.mv (.t 4)) <|
 q 33 (.fld 7 (.t 1)) <|
 q 34 (.load false 1 (.t 33)) <|
 q 35 (.mv (.t 5)) <|
 q 36 (.idxa 2 none (.t 34) (.t 35)) <|
 q 37 (.fld 1 (.t 36)) <|
 q 38 (.load false 1 (.t 37)) <|
 q 39 (.len false (.t 38)) <|
 q 40 (.bin .add (.t 32) (.t 39)) <|
 q 4 (.mv (.t 40)) <|
 .keep [1, 4, 5] <|
 q 6 (.mv (ci 0)) <|
 .keep [1, 4, 5, 6] <|
 .block 2
 (.keep [1, 4, 5, 6] <|
 .loop
 (q 41 (.mv (.t 6)) <|
 q 42 (.fld 7 (.t 1)) <|
 q 43 (.load false 1 (.t 42)) <|
 q 44 (.mv (.t 5)) <|
 q 45 (.idxa 2 none (.t 43) (.t 44)) <|
 q 46 (.fld 1 (.t 45)) <|
 q 47 (.load false 1 (.t 46)) <|
 q 48 (.len false (.t 47)) <|
 q 49 (.bin .lss (.t 41) (.t 48)) <|
 .keep [1, 4, 5, 6, 49] <|
 .ite (.t 49)
 (.done)
 (.exit 2) <|
 .block 3
 (q 52 (.fld 7 (.t 1)) <|
 q 53 (.load false 1 (.t 52)) <|
 q 54 (.mv (.t 5)) <|
 q 55 (.idxa 2 none (.t 53) (.t 54)) <|
 q 56 (.fld 1 (.t 55)) <|
 q 57 (.load false 1 (.t 56)) <|
 q 58 (.mv (.t 6)) <|
 q 59 (.idxa 1 none (.t 57) (.t 58)) <|
 q 60 (.load false 1 (.t 59)) <|
 q 61 (.len false (.t 60)) <|
 q 62 (.bin .gtr (.t 61) (ci 3000)) <|
 .keep [1, 4, 5, 6, 62] <|
 .ite (.t 62)
 (q 2 (.mv (cb false)) <|
 .keep [2] <|
 .ret)
 (.done) <|
 .done) <|
 q 50 (.mv (.t 6)) <|
 q 51 (.bin .add (.t 50) (ci 1)) <|
 q 6 (.mv (.t 51)) <|
 .keep [1, 4, 5, 6] <|
 .keep [1, 4, 5, 6] <|
 .done)) <|
 .done) <|
 q 30 (.mv (.t 5)) <|
 q 31 (.bin .add (.t 30) (ci 1)) <|
 q 5 (.mv (.t 31)) <|
 .keep [1, 4, 5] <|
 .keep [1, 4, 5] <|
 .done)) <|
 q 7 (.mv (ci 0)) <|
 .keep [1, 4, 7] <|
 .block 4
 (.keep [1, 4, 7] <|
 .loop
 (q 63 (.mv (.t 7)) <|
 q 64 (.fld 8 (.t 1)) <|
 q 65 (.load false 1 (.t 64)) <|
 q 66 (.len false (.t 65)) <|
 q 67 (.bin .lss (.t 63) (.t 66)) <|
 .keep [1, 4, 7, 67] <|
 .ite (.t 67)
 (.done)
 (.exit 4) <|
 .block 5
 (q 70 (.fld 8 (.t 1)) <|
 q 71 (.load false 1 (.t 70)) <|
 q 72 (.mv (.t 7)) <|
 q 73 (.idxa 7 none (.t 71) (.t 72)) <|
 q 74 (.fld 5 (.t 73)) <|
 q 75 (.load false 1 (.t 74)) <|
 q 76 (.len false (.t 75)) <|
 q 77 (.bin .gtr (.t 76) (ci 2000)) <|
 .keep [1, 4, 7, 77] <|
 .ite (.t 77)
 (q 2 (.mv (cb false)) <|
 .keep [2] <|
 .ret)
 (.done) <|
 .done) <|
 q 68 (.mv (.t 7)) <|
 q 69 (.bin .add (.t 68) (ci 1)) <|
 q 7 (.mv (.t 69)) <|
 .keep [1, 4, 7] <|
 .keep [1, 4, 7] <|
 .done)) <|
 q 78 (.mv (.t 4)) <|
 q 79 (.bin .leq (.t 78) (ci 12)) <|
 q 2 (.mv (.t 79)) <|
 .keep [2] <|
 .ret
theorem e_clapperref22_Few:EF false F.clapperref22_Few ic_clapperref22_Few [.t 2]:=ef [] Tryz.func6 (by kernel_rfl) (by kernel_rfl) (by kernel_rfl)
def ic_facts_Record : IC :=
 q 3 (.box (.t 0)) <|
 q 6 (.alloc [.slice none 0 0, .slice none 0 0, .slice none 0 0, .slice none 0 0, .slice none 0 0, .slice none 0 0, .int .i64 0, .slice none 0 0, .slice none 0 0]) <|
 q 7 (.mv (.c (.nilIface))) <|
 .keep [1, 2, 3, 6] <|
 q 8 (.load true 9 (.t 3)) <|
 q 9 (.call F.facts_May [(.t 8)]) <|
 q 10 (.un .not (.t 9)) <|
 .keep [1, 2, 3, 6, 10] <|
 .ite (.t 10)
 (q 11 (.build [.slice none 0 0, .slice none 0 0, .slice none 0 0, .slice none 0 0, .slice none 0 0, .slice none 0 0, .int .i64 0, .slice none 0 0, .slice none 0 0] []) <|
 q 12 (.mkif T.api_Code (ci 1)) <|
 qn (.store 9 (.t 6) (.t 11)) <|
 q 7 (.mv (.t 12)) <|
 .keep [6, 7] <|
 .ret)
 (.done) <|
 q 13 (.load true 9 (.t 3)) <|
 q 14 (.mv (.t 1)) <|
 q 15 (.mv (.t 2)) <|
 q 16 (.call F.facts_take [(.t 13), (.t 14), (.t 15)]) <|
 q 17 (.ext (.t 16) 0) <|
 q 18 (.ext (.t 16) 1) <|
 qn (.store 9 (.t 6) (.t 17)) <|
 q 7 (.mv (.t 18)) <|
 .keep [6, 7] <|
 .ret
theorem e_facts_Record:EF false F.facts_Record ic_facts_Record [.c 6 true 9,.t 7]:=ef [] Tryz.func7 (by kernel_rfl) (by kernel_rfl) (by kernel_rfl)
def ic_clapperref22_Same : IC :=
 q 2 (.box (.t 0)) <|
 q 3 (.box (.t 1)) <|
 q 4 (.mv (cb false)) <|
 .keep [2, 3] <|
 q 13 (.fld 0 (.t 2)) <|
 q 14 (.load true 7 (.t 13)) <|
 q 15 (.fld 0 (.t 3)) <|
 q 16 (.load true 7 (.t 15)) <|
 q 17 (.call F.clapperref22_SameRules [(.t 14), (.t 16)]) <|
 q 5 (.mv (.t 17)) <|
 .keep [2, 3, 5] <|
 q 18 (.mv (.t 5)) <|
 q 19 (.un .not (.t 18)) <|
 q 20 (.mv (.t 19)) <|
 qg 21 20 false (.fld 7 (.t 2)) <|
 qg 22 20 false (.load false 1 (.t 21)) <|
 qg 23 20 false (.len false (.t 22)) <|
 qg 24 20 false (.fld 7 (.t 3)) <|
 qg 25 20 false (.load false 1 (.t 24)) <|
 qg 26 20 false (.len false (.t 25)) <|
 qg 27 20 false (.bin .neq (.t 23) (.t 26)) <|
 q 28 (.pick (.t 20) (cb true) (.t 27)) <|
 q 29 (.mv (.t 28)) <|
 qg 30 29 false (.fld 8 (.t 2)) <|
 qg 31 29 false (.load false 1 (.t 30)) <|
 qg 32 29 false (.len false (.t 31)) <|
 qg 33 29 false (.fld 8 (.t 3)) <|
 qg 34 29 false (.load false 1 (.t 33)) <|
 qg 35 29 false (.len false (.t 34)) <|
 qg 36 29 false (.bin .neq (.t 32) (.t 35)) <|
 q 37 (.pick (.t 29) (cb true) (.t 36)) <|
 .keep [2, 3, 37] <|
 .ite (.t 37)
 (q 4 (.mv (cb false)) <|
 .keep [4] <|
 .ret)
 (.done) <|
 q 6 (.mv (ci 0)) <|
 .keep [2, 3, 6] <|
 .block 0
 (.keep [2, 3, 6] <|
 .loop
 (q 38 (.mv (.t 6)) <|
 q 39 (.fld 7 (.t 2)) <|
 q 40 (.load false 1 (.t 39)) <|
 q 41 (.len false (.t 40)) <|
 q 42 (.bin .lss (.t 38) (.t 41)) <|
 .keep [2, 3, 6, 42] <|
 .ite (.t 42)
 (.done)
 (.exit 0) <|
 .block 1
 (q 45 (.fld 7 (.t 2)) <|
 q 46 (.load false 1 (.t 45)) <|
 q 47 (.mv (.t 6)) <|
 q 48 (.idxa 2 none (.t 46) (.t 47)) <|
 q 49 (.load true 2 (.t 48)) <|
 q 7 (.alloc [.int .i64 0, .slice none 0 0]) <|
 qn (.store 2 (.t 7) (.t 49)) <|
 .keep [2, 3, 6, 7] <|
 q 50 (.fld 7 (.t 3)) <|
 q 51 (.load false 1 (.t 50)) <|
 q 52 (.mv (.t 6)) <|
 q 53 (.idxa 2 none (.t 51) (.t 52)) <|
 q 54 (.load true 2 (.t 53)) <|
 q 8 (.alloc [.int .i64 0, .slice none 0 0]) <|
 qn (.store 2 (.t 8) (.t 54)) <|
 .keep [2, 3, 6, 7, 8] <|
 q 55 (.fld 0 (.t 7)) <|
 q 56 (.load false 1 (.t 55)) <|
 q 57 (.fld 0 (.t 8)) <|
 q 58 (.load false 1 (.t 57)) <|
 q 59 (.bin .neq (.t 56) (.t 58)) <|
 q 60 (.mv (.t 59)) <|
 qg 61 60 false (.fld 1 (.t 7)) <|
 qg 62 60 false (.load false 1 (.t 61)) <|
 qg 63 60 false (.len false (.t 62)) <|
 qg 64 60 false (.fld 1 (.t 8)) <|
 qg 65 60 false (.load false 1 (.t 64)) <|
 qg 66 60 false (.len false (.t 65)) <|
 qg 67 60 false (.bin .neq (.t 63) (.t 66)) <|
 q 68 (.pick (.t 60) (cb true) (.t 67)) <|
 .keep [2, 3, 6, 7, 8, 68] <|
 .ite (.t 68)
 (q 4 (.mv (cb false)) <|
 .keep [4] <|
 .ret)
 (.done) <|
 q 9 (.mv (ci 0)) <|
 .keep [2, 3, 6, 7, 8, 9] <|
 .block 2
 (.keep [2, 3, 6, 7, 8, 9] <|
 .loop
 (q 69 (.mv (.t 9)) <|
 q 70 (.fld 1 (.t 7)) <|
 q 71 (.load false 1 (.t 70)) <|
 q 72 (.len false (.t 71)) <|
 q 73 (.bin .lss (.t 69) (.t 72)) <|
 .keep [2, 3, 6, 7, 8, 9, 73] <|
 .ite (.t 73)
 (.done)
 (.exit 2) <|
 .block 3
 (q 76 (.fld 1 (.t 7)) <|
 q 77 (.load false 1 (.t 76)) <|
 q 78 (.mv (.t 9)) <|
 q 79 (.idxa 1 none (.t 77) (.t 78)) <|
 q 80 (.load false 1 (.t 79)) <|
 q 81 (.b2s (.t 80)) <|
 q 82 (.fld 1 (.t 8)) <|
 q 83 (.load false 1 (.t 82)) <|
 q 84 (.mv (.t 9)) <|
 q 85 (.idxa 1 none (.t 83) (.t 84)) <|
 q 86 (.load false 1 (.t 85)) <|
 q 87 (.b2s (.t 86)) <|
 q 88 (.bin .neq (.t 81) (.t 87)) <|
 .keep [2, 3, 6, 7, 8, 9, 88] <|
 .ite (.t 88)
 (q 4 (.mv (cb false)) <|
 .keep [4] <|
 .ret)
 (.done) <|
 .done) <|
 q 74 (.mv (.t 9)) <|
 q 75 (.bin .add (.t 74) (ci 1)) <|
 q 9 (.mv (.t 75)) <|
 .keep [2, 3, 6, 7, 8, 9] <|
 .keep [2, 3, 6, 7, 8, 9] <|
 .done)) <|
 .done) <|
 q 43 (.mv (.t 6)) <|
 q 44 (.bin .add (.t 43) (ci 1)) <|
 q 6 (.mv (.t 44)) <|
 .keep [2, 3, 6] <|
 .keep [2, 3, 6] <|
 .done)) <|
 q 10 (.mv (ci 0)) <|
 .keep [2, 3, 10] <|
 .block 4
 (.keep [2, 3, 10] <|
 .loop
 (q 89 (.mv (.t 10)) <|
 q 90 (.fld 8 (.t 2)) <|
 q 91 (.load false 1 (.t 90)) <|
 q 92 (.len false (.t 91)) <|
 q 93 (.bin .lss (.t 89) (.t 92)) <|
 .keep [2, 3, 10, 93] <|
 .ite (.t 93)
 (.done)
 (.exit 4) <|
 .block 5
 (q 96 (.fld 8 (.t 2)) <|
 q 97 (.load false 1 (.t 96)) <|
 q 98 (.mv (.t 10)) <|
 q 99 (.idxa 7 none (.t 97) (.t 98)) <|
 q 100 (.load true 7 (.t 99)) <|
 q 11 (.alloc [.int .i64 0, .int .i64 0, .int .i64 0, .int .i64 0, .int .i64 0, .slice none 0 0, .bool false]) <|
 qn (.store 7 (.t 11) (.t 100)) <|
 .keep [2, 3, 10, 11] <|
 q 101 (.fld 8 (.t 3)) <|
 q 102 (.load false 1 (.t 101)) <|
 q 103 (.mv (.t 10)) <|
 q 104 (.idxa 7 none (.t 102) (.t 103)) <|
 q 105 (.load true 7 (.t 104)) <|
 q 12 (.alloc [.int .i64 0, .int .i64 0, .int .i64 0, .int .i64 0, .int .i64 0, .slice none 0 0, .bool false]) <|
 qn (.store 7 (.t 12) (.t 105)) <|
 .keep [2, 3, 10, 11, 12] <|
 q 106 (.fld 0 (.t 11)) <|
 q 107 (.load false 1 (.t 106)) <|
 q 108 (.fld 0 (.t 12)) <|
 q 109 (.load false 1 (.t 108)) <|
 q 110 (.bin .neq (.t 107) (.t 109)) <|
 q 111 (.mv (.t 110)) <|
 qg 112 111 false (.fld 1 (.t 11)) <|
 qg 113 111 false (.load false 1 (.t 112)) <|
 qg 114 111 false (.fld 1 (.t 12)) <|
 qg 115 111 false (.load false 1 (.t 114)) <|
 qg 116 111 false (.bin .neq (.t 113) (.t 115)) <|
 q 117 (.pick (.t 111) (cb true) (.t 116)) <|
 q 118 (.mv (.t 117)) <|
 qg 119 118 false (.fld 2 (.t 11)) <|
 qg 120 118 false (.load false 1 (.t 119)) <|
 qg 121 118 false (.fld 2 (.t 12)) <|
 qg 122 118 false (.load false 1 (.t 121)) <|
 qg 123 118 false (.bin .neq (.t 120) (.t 122)) <|
 q 124 (.pick (.t 118) (cb true) (.t 123)) <|
 q 125 (.mv (.t 124)) <|
 qg 126 125 false (.fld 3 (.t 11)) <|
 qg 127 125 false (.load false 1 (.t 126)) <|
 qg 128 125 false (.fld 3 (.t 12)) <|
 qg 129 125 false (.load false 1 (.t 128)) <|
 qg 130 125 false (.bin .neq (.t 127) (.t 129)) <|
 q 131 (.pick (.t 125) (cb true) (.t 130)) <|
 q 132 (.mv (.t 131)) <|
 qg 133 132 false (.fld 4 (.t 11)) <|
 qg 134 132 false (.load false 1 (.t 133)) <|
 qg 135 132 false (.fld 4 (.t 12)) <|
 qg 136 132 false (.load false 1 (.t 135)) <|
 qg 137 132 false (.bin .neq (.t 134) (.t 136)) <|
 q 138 (.pick (.t 132) (cb true) (.t 137)) <|
 q 139 (.mv (.t 138)) <|
 qg 140 139 false (.fld 6 (.t 11)) <|
 qg 141 139 false (.load false 1 (.t 140)) <|
 qg 142 139 false (.fld 6 (.t 12)) <|
 qg 143 139 false (.load false 1 (.t 142)) <|
 qg 144 139 false (.eq true .b (.t 141) (.t 143)) <|
 q 145 (.pick (.t 139) (cb true) (.t 144)) <|
 q 146 (.mv (.t 145)) <|
 qg 147 146 false (.fld 5 (.t 11)) <|
 qg 148 146 false (.load false 1 (.t 147)) <|
 qg 149 146 false (.b2s (.t 148)) <|
 qg 150 146 false (.fld 5 (.t 12)) <|
 qg 151 146 false (.load false 1 (.t 150)) <|
 qg 152 146 false (.b2s (.t 151)) <|
 qg 153 146 false (.bin .neq (.t 149) (.t 152)) <|
 q 154 (.pick (.t 146) (cb true) (.t 153)) <|
 .keep [2, 3, 10, 154] <|
 .ite (.t 154)
 (q 4 (.mv (cb false)) <|
 .keep [4] <|
 .ret)
 (.done) <|
 .done) <|
 q 94 (.mv (.t 10)) <|
 q 95 (.bin .add (.t 94) (ci 1)) <|
 q 10 (.mv (.t 95)) <|
 .keep [2, 3, 10] <|
 .keep [2, 3, 10] <|
 .done)) <|
 q 4 (.mv (cb true)) <|
 .keep [4] <|
 .ret
theorem e_clapperref22_Same:EF false F.clapperref22_Same ic_clapperref22_Same [.t 4]:=ef [] Tryz.func8 (by kernel_rfl) (by kernel_rfl) (by kernel_rfl)
def ic_facts_May_81 : IC :=
 q 81 (.fld 8 (.t 1)) <|
 q 82 (.load false 1 (.t 81)) <|
 q 83 (.len false (.t 82)) <|
 q 84 (.mv (ci 0)) <|
 .keep [3, 82, 83, 84] <|
 .block 4
 (.keep [3, 82, 83, 84] <|
 .loop
 (q 85 (.bin .lss (.t 84) (.t 83)) <|
 .keep [3, 82, 83, 84, 85] <|
 .ite (.t 85)
 (.done)
 (.exit 4) <|
 .block 5
 (q 86 (.idxa 7 none (.t 82) (.t 84)) <|
 q 87 (.load true 7 (.t 86)) <|
 q 11 (.alloc [.int .i64 0, .int .i64 0, .int .i64 0, .int .i64 0, .int .i64 0, .slice none 0 0, .bool false]) <|
 qn (.store 7 (.t 11) (.t 87)) <|
 .keep [3, 11, 82, 83, 84] <|
 q 89 (.load true 9 (.t 3)) <|
 q 90 (.load true 7 (.t 11)) <|
 q 91 (.call F.facts_enter [(.t 89), (.t 90)]) <|
 q 88 (.mv (.t 91)) <|
 q 92 (.ext (.t 88) 0) <|
 q 93 (.ext (.t 88) 1) <|
 q 12 (.alloc [.slice none 0 0, .slice none 0 0, .slice none 0 0, .slice none 0 0, .slice none 0 0, .slice none 0 0, .int .i64 0, .slice none 0 0, .slice none 0 0]) <|
 qn (.store 9 (.t 12) (.t 92)) <|
 q 13 (.mv (.t 93)) <|
 .keep [3, 12, 13, 82, 83, 84] <|
 q 94 (.mv (.t 13)) <|
 q 95 (.eq true .i (.t 94) (.c (.nilIface))) <|
 .keep [3, 12, 82, 83, 84, 95] <|
 .ite (.t 95)
 (q 2 (.mv (cb false)) <|
 .keep [2] <|
 .ret)
 (.done) <|
 q 96 (.load true 9 (.t 12)) <|
 qn (.store 9 (.t 3) (.t 96)) <|
 .keep [3, 82, 83, 84] <|
 .done) <|
 q 97 (.bin .add (.t 84) (ci 1)) <|
 q 84 (.mv (.t 97)) <|
 .keep [3, 82, 83, 84] <|
 .keep [3, 82, 83, 84] <|
 .done)) <|
 q 2 (.mv (cb true)) <|
 .keep [2] <|
 .ret
def ic_facts_May_61 : IC :=
 q 61 (.fld 1 (.t 5)) <|
 q 62 (.load false 1 (.t 61)) <|
 q 63 (.len false (.t 62)) <|
 q 64 (.mv (ci 0)) <|
 .keep [1, 3, 5, 34, 35, 36, 62, 63, 64] <|
 .block 2
 (.keep [1, 3, 5, 34, 35, 36, 62, 63, 64] <|
 .loop
 (q 65 (.bin .lss (.t 64) (.t 63)) <|
 .keep [1, 3, 5, 34, 35, 36, 62, 63, 64, 65] <|
 .ite (.t 65)
 (.done)
 (.exit 2) <|
 .block 3
 (q 66 (.idxa 1 none (.t 62) (.t 64)) <|
 q 67 (.load false 1 (.t 66)) <|
 q 7 (.mv (.t 67)) <|
 .keep [1, 3, 5, 7, 34, 35, 36, 62, 63, 64] <|
 q 69 (.load true 9 (.t 3)) <|
 q 70 (.fld 0 (.t 5)) <|
 q 71 (.load false 1 (.t 70)) <|
 q 72 (.mv (.t 7)) <|
 q 73 (.call F.facts_take [(.t 69), (.t 71), (.t 72)]) <|
 q 68 (.mv (.t 73)) <|
 q 74 (.ext (.t 68) 0) <|
 q 75 (.ext (.t 68) 1) <|
 q 8 (.alloc [.slice none 0 0, .slice none 0 0, .slice none 0 0, .slice none 0 0, .slice none 0 0, .slice none 0 0, .int .i64 0, .slice none 0 0, .slice none 0 0]) <|
 qn (.store 9 (.t 8) (.t 74)) <|
 q 9 (.mv (.t 75)) <|
 .keep [1, 3, 5, 8, 9, 34, 35, 36, 62, 63, 64] <|
 q 76 (.mv (.t 9)) <|
 q 77 (.eq true .i (.t 76) (.c (.nilIface))) <|
 .keep [1, 3, 5, 8, 34, 35, 36, 62, 63, 64, 77] <|
 .ite (.t 77)
 (q 2 (.mv (cb false)) <|
 .keep [2] <|
 .ret)
 (.done) <|
 q 78 (.load true 9 (.t 8)) <|
 qn (.store 9 (.t 3) (.t 78)) <|
 .keep [1, 3, 5, 34, 35, 36, 62, 63, 64] <|
 .done) <|
 q 79 (.bin .add (.t 64) (ci 1)) <|
 q 64 (.mv (.t 79)) <|
 .keep [1, 3, 5, 34, 35, 36, 62, 63, 64] <|
 .keep [1, 3, 5, 34, 35, 36, 62, 63, 64] <|
 .done)) <|
 .done
def ic_facts_May : IC :=
 q 1 (.box (.t 0)) <|
 q 2 (.mv (cb false)) <|
 .keep [1] <|
 q 14 (.fld 0 (.t 1)) <|
 q 15 (.load true 7 (.t 14)) <|
 q 16 (.call F.facts_Rules [(.t 15)]) <|
 q 17 (.un .not (.t 16)) <|
 q 18 (.mv (.t 17)) <|
 qg 19 18 false (.fld 7 (.t 1)) <|
 qg 20 18 false (.load false 1 (.t 19)) <|
 qg 21 18 false (.len false (.t 20)) <|
 qg 22 18 false (.bin .gtr (.t 21) (ci 8)) <|
 q 23 (.pick (.t 18) (cb true) (.t 22)) <|
 q 24 (.mv (.t 23)) <|
 qg 25 24 false (.fld 8 (.t 1)) <|
 qg 26 24 false (.load false 1 (.t 25)) <|
 qg 27 24 false (.len false (.t 26)) <|
 qg 28 24 false (.bin .gtr (.t 27) (ci 100)) <|
 q 29 (.pick (.t 24) (cb true) (.t 28)) <|
 .keep [1, 29] <|
 .ite (.t 29)
 (q 2 (.mv (cb false)) <|
 .keep [2] <|
 .ret)
 (.done) <|
 q 30 (.fld 0 (.t 1)) <|
 q 31 (.load true 7 (.t 30)) <|
 q 32 (.build [.slice none 0 0, .slice none 0 0, .slice none 0 0, .slice none 0 0, .slice none 0 0, .slice none 0 0, .int .i64 0, .slice none 0 0, .slice none 0 0] [(0, 7, (.t 31))]) <|
 q 3 (.alloc [.slice none 0 0, .slice none 0 0, .slice none 0 0, .slice none 0 0, .slice none 0 0, .slice none 0 0, .int .i64 0, .slice none 0 0, .slice none 0 0]) <|
 qn (.store 9 (.t 3) (.t 32)) <|
 .keep [1, 3] <|
 q 33 (.fld 7 (.t 1)) <|
 q 34 (.load false 1 (.t 33)) <|
 q 35 (.len false (.t 34)) <|
 q 36 (.mv (ci 0)) <|
 .keep [1, 3, 34, 35, 36] <|
 .block 0
 (.keep [1, 3, 34, 35, 36] <|
 .loop
 (q 37 (.bin .lss (.t 36) (.t 35)) <|
 .keep [1, 3, 34, 35, 36, 37] <|
 .ite (.t 37)
 (.done)
 (.exit 0) <|
 .block 1
 (q 38 (.mv (.t 36)) <|
 q 39 (.idxa 2 none (.t 34) (.t 36)) <|
 q 40 (.load true 2 (.t 39)) <|
 q 5 (.alloc [.int .i64 0, .slice none 0 0]) <|
 q 4 (.mv (.t 38)) <|
 qn (.store 2 (.t 5) (.t 40)) <|
 .keep [1, 3, 4, 5, 34, 35, 36] <|
 q 41 (.mv (.t 4)) <|
 q 42 (.bin .gtr (.t 41) (ci 0)) <|
 q 43 (.mv (.t 42)) <|
 qg 44 43 true (.fld 7 (.t 1)) <|
 qg 45 43 true (.load false 1 (.t 44)) <|
 qg 46 43 true (.mv (.t 4)) <|
 qg 47 43 true (.bin .sub (.t 46) (ci 1)) <|
 qg 48 43 true (.idxa 2 none (.t 45) (.t 47)) <|
 qg 49 43 true (.fld 0 (.t 48)) <|
 qg 50 43 true (.load false 1 (.t 49)) <|
 qg 51 43 true (.fld 0 (.t 5)) <|
 qg 52 43 true (.load false 1 (.t 51)) <|
 qg 53 43 true (.bin .geq (.t 50) (.t 52)) <|
 q 54 (.pick (.t 43) (.t 53) (cb false)) <|
 q 55 (.mv (.t 54)) <|
 qg 56 55 false (.fld 1 (.t 5)) <|
 qg 57 55 false (.load false 1 (.t 56)) <|
 qg 58 55 false (.len false (.t 57)) <|
 qg 59 55 false (.bin .eql (.t 58) (ci 0)) <|
 q 60 (.pick (.t 55) (cb true) (.t 59)) <|
 .keep [1, 3, 5, 34, 35, 36, 60] <|
 .ite (.t 60)
 (q 2 (.mv (cb false)) <|
 .keep [2] <|
 .ret)
 (.done) <|
 ic_facts_May_61) <|
 q 80 (.bin .add (.t 36) (ci 1)) <|
 q 36 (.mv (.t 80)) <|
 .keep [1, 3, 34, 35, 36] <|
 .keep [1, 3, 34, 35, 36] <|
 .done)) <|
 ic_facts_May_81
theorem e_facts_May:EF false F.facts_May ic_facts_May [.t 2]:=ef [] Tryz.func9 (by kernel_rfl) (by kernel_rfl) (by kernel_rfl)
def ic_facts_New : IC :=
 q 1 (.box (.t 0)) <|
 q 2 (.alloc [.slice none 0 0, .slice none 0 0, .slice none 0 0, .slice none 0 0, .slice none 0 0, .slice none 0 0, .int .i64 0, .slice none 0 0, .slice none 0 0]) <|
 q 3 (.mv (.c (.nilIface))) <|
 .keep [1, 2] <|
 q 4 (.load true 7 (.t 1)) <|
 q 5 (.call F.facts_Rules [(.t 4)]) <|
 q 6 (.un .not (.t 5)) <|
 .keep [1, 2, 6] <|
 .ite (.t 6)
 (q 7 (.build [.slice none 0 0, .slice none 0 0, .slice none 0 0, .slice none 0 0, .slice none 0 0, .slice none 0 0, .int .i64 0, .slice none 0 0, .slice none 0 0] []) <|
 q 8 (.mkif T.api_Code (ci 1)) <|
 qn (.store 9 (.t 2) (.t 7)) <|
 q 3 (.mv (.t 8)) <|
 .keep [2, 3] <|
 .ret)
 (.done) <|
 q 9 (.load true 7 (.t 1)) <|
 q 10 (.build [.slice none 0 0, .slice none 0 0, .slice none 0 0, .slice none 0 0, .slice none 0 0, .slice none 0 0, .int .i64 0, .slice none 0 0, .slice none 0 0] [(0, 7, (.t 9))]) <|
 qn (.store 9 (.t 2) (.t 10)) <|
 q 3 (.mv (.c (.nilIface))) <|
 .keep [2, 3] <|
 .ret
theorem e_facts_New:EF false F.facts_New ic_facts_New [.c 2 true 9,.t 3]:=ef [] Tryz.func11 (by kernel_rfl) (by kernel_rfl) (by kernel_rfl)
def ic_facts_Has : IC :=
 q 3 (.box (.t 0)) <|
 q 6 (.mv (cb false)) <|
 .keep [1, 2, 3] <|
 q 10 (.load true 9 (.t 3)) <|
 q 11 (.mv (.t 1)) <|
 q 12 (.mv (.t 2)) <|
 q 13 (.call F.facts_notice [(.t 10), (.t 11), (.t 12)]) <|
 q 9 (.mv (.t 13)) <|
 q 14 (.ext (.t 9) 0) <|
 q 15 (.ext (.t 9) 1) <|
 q 7 (.alloc [.int .i64 0, .int .i64 0, .int .i64 0, .int .i64 0, .int .i64 0, .int .i64 0, .int .i64 0, .int .i64 0, .int .u8 0, .int .u8 0, .int .u8 0, .int .u8 0, .int .u8 0, .int .u8 0, .int .u8 0, .int .u8 0, .int .u8 0, .int .u8 0, .int .u8 0, .int .u8 0, .int .u8 0, .int .u8 0, .int .u8 0, .int .u8 0, .int .u8 0, .int .u8 0, .int .u8 0, .int .u8 0, .int .u8 0, .int .u8 0, .int .u8 0, .int .u8 0, .int .u8 0, .int .u8 0, .int .u8 0, .int .u8 0, .int .u8 0, .int .u8 0, .int .u8 0, .int .u8 0, .slice none 0 0]) <|
 qn (.store 41 (.t 7) (.t 14)) <|
 q 8 (.mv (.t 15)) <|
 .keep [8] <|
 q 16 (.mv (.t 8)) <|
 q 6 (.mv (.t 16)) <|
 .keep [6] <|
 .ret
theorem e_facts_Has:EF false F.facts_Has ic_facts_Has [.t 6]:=ef [] Tryz.func12 (by kernel_rfl) (by kernel_rfl) (by kernel_rfl)
def ic_clapperref22_FewRules : IC :=
 q 1 (.box (.t 0)) <|
 q 2 (.mv (cb false)) <|
 .keep [1] <|
 q 5 (.fld 4 (.t 1)) <|
 q 6 (.load true 2 (.t 5)) <|
 q 7 (.call F.clapperref13_Few [(.t 6)]) <|
 q 3 (.mv (.t 7)) <|
 .keep [1, 3] <|
 q 8 (.fld 1 (.t 1)) <|
 q 9 (.fld 2 (.t 8)) <|
 q 10 (.load false 1 (.t 9)) <|
 q 11 (.call F.clapperref14_Few [(.t 10)]) <|
 q 4 (.mv (.t 11)) <|
 .keep [1, 3, 4] <|
 q 12 (.mv (.t 3)) <|
 q 13 (.mv (.t 12)) <|
 qg 14 13 true (.mv (.t 4)) <|
 q 15 (.pick (.t 13) (.t 14) (cb false)) <|
 q 16 (.mv (.t 15)) <|
 qg 17 16 true (.fld 0 (.t 1)) <|
 qg 18 16 true (.load false 1 (.t 17)) <|
 qg 19 16 true (.len false (.t 18)) <|
 qg 20 16 true (.bin .leq (.t 19) (ci 40)) <|
 q 21 (.pick (.t 16) (.t 20) (cb false)) <|
 q 22 (.mv (.t 21)) <|
 qg 23 22 true (.fld 1 (.t 1)) <|
 qg 24 22 true (.fld 0 (.t 23)) <|
 qg 25 22 true (.load false 1 (.t 24)) <|
 qg 26 22 true (.len false (.t 25)) <|
 qg 27 22 true (.bin .leq (.t 26) (ci 40)) <|
 q 28 (.pick (.t 22) (.t 27) (cb false)) <|
 q 29 (.mv (.t 28)) <|
 qg 30 29 true (.fld 1 (.t 1)) <|
 qg 31 29 true (.fld 1 (.t 30)) <|
 qg 32 29 true (.load false 1 (.t 31)) <|
 qg 33 29 true (.len false (.t 32)) <|
 qg 34 29 true (.bin .leq (.t 33) (ci 300)) <|
 q 35 (.pick (.t 29) (.t 34) (cb false)) <|
 q 2 (.mv (.t 35)) <|
 .keep [2] <|
 .ret
theorem e_clapperref22_FewRules:EF false F.clapperref22_FewRules ic_clapperref22_FewRules [.t 2]:=ef [] Tryz.func13 (by kernel_rfl) (by kernel_rfl) (by kernel_rfl)
def ic_facts_take : IC :=
 q 3 (.box (.t 0)) <|
 q 6 (.alloc [.slice none 0 0, .slice none 0 0, .slice none 0 0, .slice none 0 0, .slice none 0 0, .slice none 0 0, .int .i64 0, .slice none 0 0, .slice none 0 0]) <|
 q 7 (.mv (.c (.nilIface))) <|
 .keep [1, 2, 3, 6] <|
 q 21 (.mv (.t 2)) <|
 q 22 (.call F.record_Open [(.t 21)]) <|
 q 20 (.mv (.t 22)) <|
 q 23 (.ext (.t 20) 0) <|
 q 24 (.ext (.t 20) 1) <|
 q 25 (.ext (.t 20) 2) <|
 q 26 (.ext (.t 20) 3) <|
 q 8 (.alloc [.int .i64 0, .int .i64 0, .int .i64 0, .int .i64 0, .int .i64 0, .int .i64 0, .int .i64 0, .int .i64 0, .int .u8 0, .int .u8 0, .int .u8 0, .int .u8 0, .int .u8 0, .int .u8 0, .int .u8 0, .int .u8 0, .int .u8 0, .int .u8 0, .int .u8 0, .int .u8 0, .int .u8 0, .int .u8 0, .int .u8 0, .int .u8 0, .int .u8 0, .int .u8 0, .int .u8 0, .int .u8 0, .int .u8 0, .int .u8 0, .int .u8 0, .int .u8 0, .int .u8 0, .int .u8 0, .int .u8 0, .int .u8 0, .int .u8 0, .int .u8 0, .int .u8 0, .int .u8 0, .slice none 0 0]) <|
 q 9 (.alloc (List.replicate 32 (.int .u8 0))) <|
 q 10 (.alloc (List.replicate 8 (.int .u64 0))) <|
 qn (.store 41 (.t 8) (.t 23)) <|
 qn (.store 32 (.t 9) (.t 24)) <|
 qn (.store 8 (.t 10) (.t 25)) <|
 q 11 (.mv (.t 26)) <|
 .keep [1, 2, 3, 6, 8, 11] <|
 q 27 (.load true 9 (.t 3)) <|
 q 28 (.mv (.t 1)) <|
 q 29 (.call F.facts_records [(.t 27), (.t 28)]) <|
 q 12 (.mv (.t 29)) <|
 .keep [1, 2, 3, 6, 8, 11, 12] <|
 q 31 (.load true 9 (.t 3)) <|
 q 32 (.mv (.t 1)) <|
 q 33 (.call F.facts_chain [(.t 31), (.t 32)]) <|
 q 30 (.mv (.t 33)) <|
 q 34 (.ext (.t 30) 0) <|
 q 35 (.ext (.t 30) 1) <|
 q 13 (.mv (.t 34)) <|
 q 14 (.mv (.t 35)) <|
 .keep [1, 2, 3, 6, 8, 11, 12, 13, 14] <|
 q 37 (.fld 0 (.t 3)) <|
 q 38 (.fld 0 (.t 37)) <|
 q 39 (.load false 1 (.t 38)) <|
 q 40 (.mv (.t 1)) <|
 q 41 (.fld 2 (.t 8)) <|
 q 42 (.load false 1 (.t 41)) <|
 q 43 (.call F.keys_Find [(.t 39), (.t 40), (.t 42)]) <|
 q 36 (.mv (.t 43)) <|
 q 44 (.ext (.t 36) 0) <|
 q 45 (.ext (.t 36) 1) <|
 q 15 (.alloc [.int .u64 0, .int .u64 0, .int .u64 0, .int .u64 0, .int .u64 0, .int .u64 0, .int .u64 0, .int .u64 0, .bool false]) <|
 qn (.store 9 (.t 15) (.t 44)) <|
 q 16 (.mv (.t 45)) <|
 .keep [1, 2, 3, 6, 8, 11, 12, 13, 14, 15, 16] <|
 .block 0
 (q 47 (.mv (.t 11)) <|
 q 48 (.eq true .i (.t 47) (.c (.nilIface))) <|
 q 49 (.mv (.t 48)) <|
 qg 50 49 false (.fld 0 (.t 8)) <|
 qg 51 49 false (.load false 1 (.t 50)) <|
 qg 52 49 false (.mv (.t 1)) <|
 qg 53 49 false (.bin .neq (.t 51) (.t 52)) <|
 q 54 (.pick (.t 49) (cb true) (.t 53)) <|
 q 46 (.mv (.t 54)) <|
 .keep [1, 2, 3, 6, 8, 12, 13, 14, 15, 16, 46] <|
 .ite (.t 46)
 (q 55 (.build [.slice none 0 0, .slice none 0 0, .slice none 0 0, .slice none 0 0, .slice none 0 0, .slice none 0 0, .int .i64 0, .slice none 0 0, .slice none 0 0] []) <|
 q 56 (.mkif T.api_Code (ci 2)) <|
 qn (.store 9 (.t 6) (.t 55)) <|
 q 7 (.mv (.t 56)) <|
 .keep [6, 7] <|
 .ret)
 (q 58 (.fld 1 (.t 8)) <|
 q 59 (.load false 1 (.t 58)) <|
 q 60 (.mv (.t 12)) <|
 q 61 (.len false (.t 60)) <|
 q 62 (.bin .neq (.t 59) (.t 61)) <|
 q 63 (.mv (.t 62)) <|
 qg 64 63 false (.fld 8 (.t 8)) <|
 qg 65 63 false (.load true 32 (.t 64)) <|
 qg 66 63 false (.mv (.t 12)) <|
 qg 67 63 false (.call F.facts_last [(.t 66)]) <|
 qg 68 63 false (.eqagg (List.replicate 32 (some .u8)) true (.t 65) (.t 67)) <|
 q 69 (.pick (.t 63) (cb true) (.t 68)) <|
 q 57 (.mv (.t 69)) <|
 .keep [1, 2, 3, 6, 12, 13, 14, 15, 16, 57] <|
 .ite (.t 57)
 (q 70 (.build [.slice none 0 0, .slice none 0 0, .slice none 0 0, .slice none 0 0, .slice none 0 0, .slice none 0 0, .int .i64 0, .slice none 0 0, .slice none 0 0] []) <|
 q 71 (.mkif T.api_Code (ci 7)) <|
 qn (.store 9 (.t 6) (.t 70)) <|
 q 7 (.mv (.t 71)) <|
 .keep [6, 7] <|
 .ret)
 (q 73 (.mv (.t 16)) <|
 q 74 (.un .not (.t 73)) <|
 q 72 (.mv (.t 74)) <|
 .keep [1, 2, 3, 6, 12, 13, 14, 15, 72] <|
 .ite (.t 72)
 (q 75 (.build [.slice none 0 0, .slice none 0 0, .slice none 0 0, .slice none 0 0, .slice none 0 0, .slice none 0 0, .int .i64 0, .slice none 0 0, .slice none 0 0] []) <|
 q 76 (.mkif T.api_Code (ci 4)) <|
 qn (.store 9 (.t 6) (.t 75)) <|
 q 7 (.mv (.t 76)) <|
 .keep [6, 7] <|
 .ret)
 (.done) <|
 .done) <|
 .done) <|
 .done) <|
 q 78 (.mv (.t 2)) <|
 q 79 (.load true 9 (.t 15)) <|
 q 80 (.call F.record_Check [(.t 78), (.t 79)]) <|
 q 77 (.mv (.t 80)) <|
 q 81 (.ext (.t 77) 0) <|
 q 82 (.ext (.t 77) 1) <|
 q 17 (.alloc [.int .i64 0, .int .i64 0, .int .i64 0, .int .i64 0, .int .i64 0, .int .i64 0, .int .i64 0, .int .i64 0, .int .u8 0, .int .u8 0, .int .u8 0, .int .u8 0, .int .u8 0, .int .u8 0, .int .u8 0, .int .u8 0, .int .u8 0, .int .u8 0, .int .u8 0, .int .u8 0, .int .u8 0, .int .u8 0, .int .u8 0, .int .u8 0, .int .u8 0, .int .u8 0, .int .u8 0, .int .u8 0, .int .u8 0, .int .u8 0, .int .u8 0, .int .u8 0, .int .u8 0, .int .u8 0, .int .u8 0, .int .u8 0, .int .u8 0, .int .u8 0, .int .u8 0, .int .u8 0, .slice none 0 0]) <|
 qn (.store 41 (.t 17) (.t 81)) <|
 q 18 (.mv (.t 82)) <|
 .keep [1, 2, 3, 6, 12, 13, 14, 18] <|
 q 83 (.mv (.t 18)) <|
 q 84 (.eq true .i (.t 83) (.c (.nilIface))) <|
 .keep [1, 2, 3, 6, 12, 13, 14, 84] <|
 .ite (.t 84)
 (q 85 (.build [.slice none 0 0, .slice none 0 0, .slice none 0 0, .slice none 0 0, .slice none 0 0, .slice none 0 0, .int .i64 0, .slice none 0 0, .slice none 0 0] []) <|
 q 86 (.mkif T.api_Code (ci 8)) <|
 qn (.store 9 (.t 6) (.t 85)) <|
 q 7 (.mv (.t 86)) <|
 .keep [6, 7] <|
 .ret)
 (.done) <|
 q 87 (.mv (.t 12)) <|
 q 88 (.len false (.t 87)) <|
 q 89 (.bin .geq (.t 88) (ci 60)) <|
 q 90 (.mv (.t 89)) <|
 qg 91 90 false (.mv (.t 14)) <|
 qg 92 90 false (.un .not (.t 91)) <|
 qg 93 90 false (.mv (.t 92)) <|
 qg 94 93 true (.fld 7 (.t 3)) <|
 qg 95 93 true (.load false 1 (.t 94)) <|
 qg 96 93 true (.len false (.t 95)) <|
 qg 97 93 true (.bin .geq (.t 96) (ci 8)) <|
 qg 98 90 false (.pick (.t 93) (.t 97) (cb false)) <|
 q 99 (.pick (.t 90) (cb true) (.t 98)) <|
 .keep [1, 2, 3, 6, 12, 13, 14, 99] <|
 .ite (.t 99)
 (q 100 (.build [.slice none 0 0, .slice none 0 0, .slice none 0 0, .slice none 0 0, .slice none 0 0, .slice none 0 0, .int .i64 0, .slice none 0 0, .slice none 0 0] []) <|
 q 101 (.mkif T.api_Code (ci 6)) <|
 qn (.store 9 (.t 6) (.t 100)) <|
 q 7 (.mv (.t 101)) <|
 .keep [6, 7] <|
 .ret)
 (.done) <|
 q 102 (.mv (.t 1)) <|
 q 103 (.mv (.t 12)) <|
 q 104 (.call F.slices_Clip_byte_byte [(.t 103)]) <|
 q 105 (.mv (.t 2)) <|
 q 106 (.call F.slices_Clone_byte_byte [(.t 105)]) <|
 q 107 (.bslice false 1 1 [.slice none 0 0] [(0, 1, (.t 106))]) <|
 q 108 (.appv 1 24 (.t 104) (.t 107)) <|
 q 109 (.build [.int .i64 0, .slice none 0 0] [(0, 1, (.t 102)), (1, 1, (.t 108))]) <|
 q 19 (.alloc [.int .i64 0, .slice none 0 0]) <|
 qn (.store 2 (.t 19) (.t 109)) <|
 .keep [3, 6, 13, 14, 19] <|
 q 110 (.fld 7 (.t 3)) <|
 q 111 (.load false 1 (.t 110)) <|
 q 112 (.call F.slices_Clone_api_Chain_api_Chain [(.t 111)]) <|
 q 113 (.fld 7 (.t 3)) <|
 qn (.store 1 (.t 113) (.t 112)) <|
 .keep [3, 6, 13, 14, 19] <|
 q 114 (.mv (.t 14)) <|
 .keep [3, 6, 13, 19, 114] <|
 .ite (.t 114)
 (q 115 (.fld 7 (.t 3)) <|
 q 116 (.load false 1 (.t 115)) <|
 q 117 (.mv (.t 13)) <|
 q 118 (.load true 2 (.t 19)) <|
 q 119 (.idxa 2 none (.t 116) (.t 117)) <|
 qn (.store 2 (.t 119) (.t 118)) <|
 .keep [3, 6] <|
 .done)
 (q 120 (.fld 7 (.t 3)) <|
 q 121 (.load false 1 (.t 120)) <|
 q 122 (.mv (.t 13)) <|
 q 123 (.load true 2 (.t 19)) <|
 q 124 (.bslice true 2 1 [.int .i64 0, .slice none 0 0] [(0, 2, (.t 123))]) <|
 q 125 (.call F.slices_Insert_api_Chain_api_Chain [(.t 121), (.t 122), (.t 124)]) <|
 q 126 (.fld 7 (.t 3)) <|
 qn (.store 1 (.t 126) (.t 125)) <|
 .keep [3, 6] <|
 .done) <|
 q 127 (.load true 9 (.t 3)) <|
 qn (.store 9 (.t 6) (.t 127)) <|
 q 7 (.mv (.c (.nilIface))) <|
 .keep [6, 7] <|
 .ret
theorem e_facts_take:EF false F.facts_take ic_facts_take [.c 6 true 9,.t 7]:=ef [124,108] Tryz.func14 (by kernel_rfl) (by kernel_rfl) (by kernel_rfl)
def ic_clapperref22_SameRules : IC :=
 q 2 (.box (.t 0)) <|
 q 3 (.box (.t 1)) <|
 q 4 (.mv (cb false)) <|
 .keep [2, 3] <|
 q 15 (.fld 0 (.t 2)) <|
 q 16 (.load false 1 (.t 15)) <|
 q 17 (.fld 0 (.t 3)) <|
 q 18 (.load false 1 (.t 17)) <|
 q 19 (.call F.clapperref10_Same [(.t 16), (.t 18)]) <|
 q 5 (.mv (.t 19)) <|
 .keep [2, 3, 5] <|
 q 20 (.fld 1 (.t 2)) <|
 q 21 (.fld 0 (.t 20)) <|
 q 22 (.load false 1 (.t 21)) <|
 q 23 (.fld 1 (.t 3)) <|
 q 24 (.fld 0 (.t 23)) <|
 q 25 (.load false 1 (.t 24)) <|
 q 26 (.call F.clapperref10_Same [(.t 22), (.t 25)]) <|
 q 6 (.mv (.t 26)) <|
 .keep [2, 3, 5, 6] <|
 q 27 (.fld 1 (.t 2)) <|
 q 28 (.fld 1 (.t 27)) <|
 q 29 (.load false 1 (.t 28)) <|
 q 30 (.fld 1 (.t 3)) <|
 q 31 (.fld 1 (.t 30)) <|
 q 32 (.load false 1 (.t 31)) <|
 q 33 (.call F.clapperref11_Same [(.t 29), (.t 32)]) <|
 q 7 (.mv (.t 33)) <|
 .keep [2, 3, 5, 6, 7] <|
 q 34 (.mv (.t 5)) <|
 q 35 (.un .not (.t 34)) <|
 q 36 (.mv (.t 35)) <|
 qg 37 36 false (.mv (.t 6)) <|
 qg 38 36 false (.un .not (.t 37)) <|
 q 39 (.pick (.t 36) (cb true) (.t 38)) <|
 q 40 (.mv (.t 39)) <|
 qg 41 40 false (.mv (.t 7)) <|
 qg 42 40 false (.un .not (.t 41)) <|
 q 43 (.pick (.t 40) (cb true) (.t 42)) <|
 q 44 (.mv (.t 43)) <|
 qg 45 44 false (.fld 6 (.t 2)) <|
 qg 46 44 false (.load false 1 (.t 45)) <|
 qg 47 44 false (.fld 6 (.t 3)) <|
 qg 48 44 false (.load false 1 (.t 47)) <|
 qg 49 44 false (.bin .neq (.t 46) (.t 48)) <|
 q 50 (.pick (.t 44) (cb true) (.t 49)) <|
 q 51 (.mv (.t 50)) <|
 qg 52 51 false (.fld 1 (.t 2)) <|
 qg 53 51 false (.fld 2 (.t 52)) <|
 qg 54 51 false (.load false 1 (.t 53)) <|
 qg 55 51 false (.len false (.t 54)) <|
 qg 56 51 false (.fld 1 (.t 3)) <|
 qg 57 51 false (.fld 2 (.t 56)) <|
 qg 58 51 false (.load false 1 (.t 57)) <|
 qg 59 51 false (.len false (.t 58)) <|
 qg 60 51 false (.bin .neq (.t 55) (.t 59)) <|
 q 61 (.pick (.t 51) (cb true) (.t 60)) <|
 q 62 (.mv (.t 61)) <|
 qg 63 62 false (.fld 4 (.t 2)) <|
 qg 64 62 false (.fld 0 (.t 63)) <|
 qg 65 62 false (.load false 1 (.t 64)) <|
 qg 66 62 false (.len false (.t 65)) <|
 qg 67 62 false (.fld 4 (.t 3)) <|
 qg 68 62 false (.fld 0 (.t 67)) <|
 qg 69 62 false (.load false 1 (.t 68)) <|
 qg 70 62 false (.len false (.t 69)) <|
 qg 71 62 false (.bin .neq (.t 66) (.t 70)) <|
 q 72 (.pick (.t 62) (cb true) (.t 71)) <|
 q 73 (.mv (.t 72)) <|
 qg 74 73 false (.fld 4 (.t 2)) <|
 qg 75 73 false (.fld 1 (.t 74)) <|
 qg 76 73 false (.load false 1 (.t 75)) <|
 qg 77 73 false (.len false (.t 76)) <|
 qg 78 73 false (.fld 4 (.t 3)) <|
 qg 79 73 false (.fld 1 (.t 78)) <|
 qg 80 73 false (.load false 1 (.t 79)) <|
 qg 81 73 false (.len false (.t 80)) <|
 qg 82 73 false (.bin .neq (.t 77) (.t 81)) <|
 q 83 (.pick (.t 73) (cb true) (.t 82)) <|
 .keep [2, 3, 83] <|
 .ite (.t 83)
 (q 4 (.mv (cb false)) <|
 .keep [4] <|
 .ret)
 (.done) <|
 q 8 (.mv (ci 0)) <|
 .keep [2, 3, 8] <|
 .block 0
 (.keep [2, 3, 8] <|
 .loop
 (q 84 (.mv (.t 8)) <|
 q 85 (.fld 1 (.t 2)) <|
 q 86 (.fld 2 (.t 85)) <|
 q 87 (.load false 1 (.t 86)) <|
 q 88 (.len false (.t 87)) <|
 q 89 (.bin .lss (.t 84) (.t 88)) <|
 .keep [2, 3, 8, 89] <|
 .ite (.t 89)
 (.done)
 (.exit 0) <|
 .block 1
 (q 92 (.fld 1 (.t 2)) <|
 q 93 (.fld 2 (.t 92)) <|
 q 94 (.load false 1 (.t 93)) <|
 q 95 (.mv (.t 8)) <|
 q 96 (.idxa 7 none (.t 94) (.t 95)) <|
 q 97 (.load true 7 (.t 96)) <|
 q 9 (.alloc [.int .i64 0, .int .i64 0, .int .i64 0, .int .i64 0, .int .i64 0, .slice none 0 0, .slice none 0 0]) <|
 qn (.store 7 (.t 9) (.t 97)) <|
 .keep [2, 3, 8, 9] <|
 q 98 (.fld 1 (.t 3)) <|
 q 99 (.fld 2 (.t 98)) <|
 q 100 (.load false 1 (.t 99)) <|
 q 101 (.mv (.t 8)) <|
 q 102 (.idxa 7 none (.t 100) (.t 101)) <|
 q 103 (.load true 7 (.t 102)) <|
 q 10 (.alloc [.int .i64 0, .int .i64 0, .int .i64 0, .int .i64 0, .int .i64 0, .slice none 0 0, .slice none 0 0]) <|
 qn (.store 7 (.t 10) (.t 103)) <|
 .keep [2, 3, 8, 9, 10] <|
 q 104 (.fld 2 (.t 9)) <|
 q 105 (.load true 5 (.t 104)) <|
 q 106 (.fld 2 (.t 10)) <|
 q 107 (.load true 5 (.t 106)) <|
 q 108 (.call F.clapperref22_service [(.t 105), (.t 107)]) <|
 q 11 (.mv (.t 108)) <|
 .keep [2, 3, 8, 9, 10, 11] <|
 q 109 (.fld 0 (.t 9)) <|
 q 110 (.load false 1 (.t 109)) <|
 q 111 (.fld 0 (.t 10)) <|
 q 112 (.load false 1 (.t 111)) <|
 q 113 (.bin .neq (.t 110) (.t 112)) <|
 q 114 (.mv (.t 113)) <|
 qg 115 114 false (.fld 1 (.t 9)) <|
 qg 116 114 false (.load false 1 (.t 115)) <|
 qg 117 114 false (.fld 1 (.t 10)) <|
 qg 118 114 false (.load false 1 (.t 117)) <|
 qg 119 114 false (.bin .neq (.t 116) (.t 118)) <|
 q 120 (.pick (.t 114) (cb true) (.t 119)) <|
 q 121 (.mv (.t 120)) <|
 qg 122 121 false (.mv (.t 11)) <|
 qg 123 121 false (.un .not (.t 122)) <|
 q 124 (.pick (.t 121) (cb true) (.t 123)) <|
 .keep [2, 3, 8, 124] <|
 .ite (.t 124)
 (q 4 (.mv (cb false)) <|
 .keep [4] <|
 .ret)
 (.done) <|
 .done) <|
 q 90 (.mv (.t 8)) <|
 q 91 (.bin .add (.t 90) (ci 1)) <|
 q 8 (.mv (.t 91)) <|
 .keep [2, 3, 8] <|
 .keep [2, 3, 8] <|
 .done)) <|
 q 12 (.mv (ci 0)) <|
 .keep [2, 3, 12] <|
 .block 2
 (.keep [2, 3, 12] <|
 .loop
 (q 125 (.mv (.t 12)) <|
 q 126 (.fld 4 (.t 2)) <|
 q 127 (.fld 0 (.t 126)) <|
 q 128 (.load false 1 (.t 127)) <|
 q 129 (.len false (.t 128)) <|
 q 130 (.bin .lss (.t 125) (.t 129)) <|
 .keep [2, 3, 12, 130] <|
 .ite (.t 130)
 (.done)
 (.exit 2) <|
 .block 3
 (q 133 (.fld 4 (.t 2)) <|
 q 134 (.fld 0 (.t 133)) <|
 q 135 (.load false 1 (.t 134)) <|
 q 136 (.mv (.t 12)) <|
 q 137 (.idxa 5 none (.t 135) (.t 136)) <|
 q 138 (.load true 5 (.t 137)) <|
 q 139 (.fld 4 (.t 3)) <|
 q 140 (.fld 0 (.t 139)) <|
 q 141 (.load false 1 (.t 140)) <|
 q 142 (.mv (.t 12)) <|
 q 143 (.idxa 5 none (.t 141) (.t 142)) <|
 q 144 (.load true 5 (.t 143)) <|
 q 145 (.call F.clapperref22_service [(.t 138), (.t 144)]) <|
 q 13 (.mv (.t 145)) <|
 .keep [2, 3, 12, 13] <|
 q 146 (.mv (.t 13)) <|
 q 147 (.un .not (.t 146)) <|
 .keep [2, 3, 12, 147] <|
 .ite (.t 147)
 (q 4 (.mv (cb false)) <|
 .keep [4] <|
 .ret)
 (.done) <|
 .done) <|
 q 131 (.mv (.t 12)) <|
 q 132 (.bin .add (.t 131) (ci 1)) <|
 q 12 (.mv (.t 132)) <|
 .keep [2, 3, 12] <|
 .keep [2, 3, 12] <|
 .done)) <|
 q 14 (.mv (ci 0)) <|
 .keep [2, 3, 14] <|
 .block 4
 (.keep [2, 3, 14] <|
 .loop
 (q 148 (.mv (.t 14)) <|
 q 149 (.fld 4 (.t 2)) <|
 q 150 (.fld 1 (.t 149)) <|
 q 151 (.load false 1 (.t 150)) <|
 q 152 (.len false (.t 151)) <|
 q 153 (.bin .lss (.t 148) (.t 152)) <|
 .keep [2, 3, 14, 153] <|
 .ite (.t 153)
 (.done)
 (.exit 4) <|
 .block 5
 (q 156 (.fld 4 (.t 2)) <|
 q 157 (.fld 1 (.t 156)) <|
 q 158 (.load false 1 (.t 157)) <|
 q 159 (.mv (.t 14)) <|
 q 160 (.idxa 5 none (.t 158) (.t 159)) <|
 q 161 (.load true 5 (.t 160)) <|
 q 162 (.fld 4 (.t 3)) <|
 q 163 (.fld 1 (.t 162)) <|
 q 164 (.load false 1 (.t 163)) <|
 q 165 (.mv (.t 14)) <|
 q 166 (.idxa 5 none (.t 164) (.t 165)) <|
 q 167 (.load true 5 (.t 166)) <|
 q 168 (.eqagg (List.replicate 5 (some .i64)) true (.t 161) (.t 167)) <|
 .keep [2, 3, 14, 168] <|
 .ite (.t 168)
 (q 4 (.mv (cb false)) <|
 .keep [4] <|
 .ret)
 (.done) <|
 .done) <|
 q 154 (.mv (.t 14)) <|
 q 155 (.bin .add (.t 154) (ci 1)) <|
 q 14 (.mv (.t 155)) <|
 .keep [2, 3, 14] <|
 .keep [2, 3, 14] <|
 .done)) <|
 q 4 (.mv (cb true)) <|
 .keep [4] <|
 .ret
theorem e_clapperref22_SameRules:EF false F.clapperref22_SameRules ic_clapperref22_SameRules [.t 4]:=ef [] Tryz.func15 (by kernel_rfl) (by kernel_rfl) (by kernel_rfl)
def ic_facts_Rules : IC :=
 q 1 (.box (.t 0)) <|
 q 2 (.mv (cb false)) <|
 .keep [1] <|
 q 4 (.fld 1 (.t 1)) <|
 q 5 (.fld 0 (.t 4)) <|
 q 6 (.load false 1 (.t 5)) <|
 q 7 (.call F.keys_May [(.t 6)]) <|
 q 8 (.mv (.t 7)) <|
 qg 9 8 true (.fld 1 (.t 1)) <|
 qg 10 8 true (.fld 1 (.t 9)) <|
 qg 11 8 true (.load false 1 (.t 10)) <|
 qg 12 8 true (.call F.revoke_May [(.t 11)]) <|
 q 13 (.pick (.t 8) (.t 12) (cb false)) <|
 q 14 (.mv (.t 13)) <|
 qg 15 14 true (.fld 1 (.t 1)) <|
 qg 16 14 true (.fld 2 (.t 15)) <|
 qg 17 14 true (.load false 1 (.t 16)) <|
 qg 18 14 true (.call F.fare_May [(.t 17)]) <|
 q 19 (.pick (.t 14) (.t 18) (cb false)) <|
 q 3 (.mv (.t 19)) <|
 .keep [1, 3] <|
 q 20 (.mv (.t 3)) <|
 q 21 (.mv (.t 20)) <|
 qg 22 21 true (.fld 0 (.t 1)) <|
 qg 23 21 true (.load false 1 (.t 22)) <|
 qg 24 21 true (.call F.keys_May [(.t 23)]) <|
 q 25 (.pick (.t 21) (.t 24) (cb false)) <|
 q 26 (.mv (.t 25)) <|
 qg 27 26 true (.fld 0 (.t 1)) <|
 qg 28 26 true (.load false 1 (.t 27)) <|
 qg 29 26 true (.len false (.t 28)) <|
 qg 30 26 true (.bin .leq (.t 29) (ci 8)) <|
 q 31 (.pick (.t 26) (.t 30) (cb false)) <|
 q 32 (.mv (.t 31)) <|
 qg 33 32 true (.fld 4 (.t 1)) <|
 qg 34 32 true (.load true 2 (.t 33)) <|
 qg 35 32 true (.call F.route_May [(.t 34)]) <|
 q 36 (.pick (.t 32) (.t 35) (cb false)) <|
 q 37 (.mv (.t 36)) <|
 qg 38 37 true (.fld 6 (.t 1)) <|
 qg 39 37 true (.load false 1 (.t 38)) <|
 qg 40 37 true (.bin .geq (.t 39) (ci 1)) <|
 q 41 (.pick (.t 37) (.t 40) (cb false)) <|
 q 42 (.mv (.t 41)) <|
 qg 43 42 true (.fld 6 (.t 1)) <|
 qg 44 42 true (.load false 1 (.t 43)) <|
 qg 45 42 true (.bin .leq (.t 44) (ci 1073741824)) <|
 q 46 (.pick (.t 42) (.t 45) (cb false)) <|
 q 2 (.mv (.t 46)) <|
 .keep [2] <|
 .ret
theorem e_facts_Rules:EF false F.facts_Rules ic_facts_Rules [.t 2]:=ef [] Tryz.func16 (by kernel_rfl) (by kernel_rfl) (by kernel_rfl)
def ic_facts_enter : IC :=
 q 2 (.box (.t 0)) <|
 q 3 (.box (.t 1)) <|
 q 4 (.alloc [.slice none 0 0, .slice none 0 0, .slice none 0 0, .slice none 0 0, .slice none 0 0, .slice none 0 0, .int .i64 0, .slice none 0 0, .slice none 0 0]) <|
 q 5 (.mv (.c (.nilIface))) <|
 .keep [2, 3, 4] <|
 q 14 (.load true 9 (.t 2)) <|
 q 15 (.fld 1 (.t 3)) <|
 q 16 (.load false 1 (.t 15)) <|
 q 17 (.fld 2 (.t 3)) <|
 q 18 (.load false 1 (.t 17)) <|
 q 19 (.call F.facts_notice [(.t 14), (.t 16), (.t 18)]) <|
 q 13 (.mv (.t 19)) <|
 q 20 (.ext (.t 13) 0) <|
 q 21 (.ext (.t 13) 1) <|
 q 6 (.alloc [.int .i64 0, .int .i64 0, .int .i64 0, .int .i64 0, .int .i64 0, .int .i64 0, .int .i64 0, .int .i64 0, .int .u8 0, .int .u8 0, .int .u8 0, .int .u8 0, .int .u8 0, .int .u8 0, .int .u8 0, .int .u8 0, .int .u8 0, .int .u8 0, .int .u8 0, .int .u8 0, .int .u8 0, .int .u8 0, .int .u8 0, .int .u8 0, .int .u8 0, .int .u8 0, .int .u8 0, .int .u8 0, .int .u8 0, .int .u8 0, .int .u8 0, .int .u8 0, .int .u8 0, .int .u8 0, .int .u8 0, .int .u8 0, .int .u8 0, .int .u8 0, .int .u8 0, .int .u8 0, .slice none 0 0]) <|
 qn (.store 41 (.t 6) (.t 20)) <|
 q 7 (.mv (.t 21)) <|
 .keep [2, 3, 4, 6, 7] <|
 .block 0
 (q 23 (.load true 7 (.t 3)) <|
 q 24 (.call F.facts_fair [(.t 23)]) <|
 q 25 (.un .not (.t 24)) <|
 q 22 (.mv (.t 25)) <|
 .keep [2, 3, 4, 6, 7, 22] <|
 .ite (.t 22)
 (q 26 (.build [.slice none 0 0, .slice none 0 0, .slice none 0 0, .slice none 0 0, .slice none 0 0, .slice none 0 0, .int .i64 0, .slice none 0 0, .slice none 0 0] []) <|
 q 27 (.mkif T.api_Code (ci 1)) <|
 qn (.store 9 (.t 4) (.t 26)) <|
 q 5 (.mv (.t 27)) <|
 .keep [4, 5] <|
 .ret)
 (q 29 (.mv (.t 7)) <|
 q 30 (.un .not (.t 29)) <|
 q 28 (.mv (.t 30)) <|
 .keep [2, 3, 4, 6, 28] <|
 .ite (.t 28)
 (q 31 (.build [.slice none 0 0, .slice none 0 0, .slice none 0 0, .slice none 0 0, .slice none 0 0, .slice none 0 0, .int .i64 0, .slice none 0 0, .slice none 0 0] []) <|
 q 32 (.mkif T.api_Code (ci 4)) <|
 qn (.store 9 (.t 4) (.t 31)) <|
 q 5 (.mv (.t 32)) <|
 .keep [4, 5] <|
 .ret)
 (.done) <|
 .done) <|
 .done) <|
 q 33 (.fld 2 (.t 6)) <|
 q 34 (.load false 1 (.t 33)) <|
 q 8 (.mv (.t 34)) <|
 q 9 (.mv (cb false)) <|
 q 10 (.mv (cb false)) <|
 .keep [2, 3, 4, 8, 9, 10] <|
 q 35 (.fld 8 (.t 2)) <|
 q 36 (.load false 1 (.t 35)) <|
 q 37 (.len false (.t 36)) <|
 q 38 (.mv (ci 0)) <|
 .keep [2, 3, 4, 8, 9, 10, 36, 37, 38] <|
 .block 1
 (.keep [2, 3, 4, 8, 9, 10, 36, 37, 38] <|
 .loop
 (q 39 (.bin .lss (.t 38) (.t 37)) <|
 .keep [2, 3, 4, 8, 9, 10, 36, 37, 38, 39] <|
 .ite (.t 39)
 (.done)
 (.exit 1) <|
 .block 2
 (q 40 (.idxa 7 none (.t 36) (.t 38)) <|
 q 41 (.load true 7 (.t 40)) <|
 q 12 (.alloc [.int .i64 0, .int .i64 0, .int .i64 0, .int .i64 0, .int .i64 0, .slice none 0 0, .bool false]) <|
 qn (.store 7 (.t 12) (.t 41)) <|
 .keep [2, 3, 4, 8, 9, 10, 12, 36, 37, 38] <|
 q 42 (.fld 1 (.t 12)) <|
 q 43 (.load false 1 (.t 42)) <|
 q 44 (.fld 1 (.t 3)) <|
 q 45 (.load false 1 (.t 44)) <|
 q 46 (.bin .neq (.t 43) (.t 45)) <|
 q 47 (.mv (.t 46)) <|
 qg 48 47 false (.fld 2 (.t 12)) <|
 qg 49 47 false (.load false 1 (.t 48)) <|
 qg 50 47 false (.fld 2 (.t 3)) <|
 qg 51 47 false (.load false 1 (.t 50)) <|
 qg 52 47 false (.bin .neq (.t 49) (.t 51)) <|
 q 53 (.pick (.t 47) (cb true) (.t 52)) <|
 .keep [2, 3, 4, 8, 9, 10, 12, 36, 37, 38, 53] <|
 .ite (.t 53)
 (.exit 2)
 (.done) <|
 q 54 (.fld 3 (.t 12)) <|
 q 55 (.load false 1 (.t 54)) <|
 q 8 (.mv (.t 55)) <|
 .keep [2, 3, 4, 8, 9, 10, 12, 36, 37, 38] <|
 q 56 (.mv (.t 10)) <|
 q 57 (.mv (.t 56)) <|
 qg 58 57 false (.fld 0 (.t 12)) <|
 qg 59 57 false (.load false 1 (.t 58)) <|
 qg 60 57 false (.bin .eql (.t 59) (ci 4)) <|
 q 61 (.pick (.t 57) (cb true) (.t 60)) <|
 q 10 (.mv (.t 61)) <|
 .keep [2, 3, 4, 8, 9, 10, 12, 36, 37, 38] <|
 q 62 (.fld 0 (.t 12)) <|
 q 63 (.load false 1 (.t 62)) <|
 q 64 (.bin .eql (.t 63) (ci 2)) <|
 q 65 (.mv (.t 64)) <|
 qg 66 65 false (.mv (.t 9)) <|
 qg 67 65 false (.mv (.t 66)) <|
 qg 68 67 true (.fld 0 (.t 12)) <|
 qg 69 67 true (.load false 1 (.t 68)) <|
 qg 70 67 true (.bin .neq (.t 69) (ci 3)) <|
 qg 71 65 false (.pick (.t 67) (.t 70) (cb false)) <|
 q 72 (.pick (.t 65) (cb true) (.t 71)) <|
 q 9 (.mv (.t 72)) <|
 .keep [2, 3, 4, 8, 9, 10, 36, 37, 38] <|
 .done) <|
 q 73 (.bin .add (.t 38) (ci 1)) <|
 q 38 (.mv (.t 73)) <|
 .keep [2, 3, 4, 8, 9, 10, 36, 37, 38] <|
 .keep [2, 3, 4, 8, 9, 10, 36, 37, 38] <|
 .done)) <|
 .block 3
 (q 75 (.fld 3 (.t 3)) <|
 q 76 (.load false 1 (.t 75)) <|
 q 77 (.mv (.t 8)) <|
 q 78 (.bin .lss (.t 76) (.t 77)) <|
 q 79 (.mv (.t 78)) <|
 qg 80 79 false (.fld 3 (.t 3)) <|
 qg 81 79 false (.load false 1 (.t 80)) <|
 qg 82 79 false (.bin .gtr (.t 81) (ci 1073741824)) <|
 q 83 (.pick (.t 79) (cb true) (.t 82)) <|
 q 74 (.mv (.t 83)) <|
 .keep [2, 3, 4, 9, 10, 74] <|
 .ite (.t 74)
 (q 84 (.build [.slice none 0 0, .slice none 0 0, .slice none 0 0, .slice none 0 0, .slice none 0 0, .slice none 0 0, .int .i64 0, .slice none 0 0, .slice none 0 0] []) <|
 q 85 (.mkif T.api_Code (ci 9)) <|
 qn (.store 9 (.t 4) (.t 84)) <|
 q 5 (.mv (.t 85)) <|
 .keep [4, 5] <|
 .ret)
 (q 87 (.mv (.t 10)) <|
 q 88 (.mv (.t 87)) <|
 qg 89 88 false (.fld 0 (.t 3)) <|
 qg 90 88 false (.load false 1 (.t 89)) <|
 qg 91 88 false (.bin .eql (.t 90) (ci 2)) <|
 qg 92 88 false (.mv (.t 91)) <|
 qg 93 92 true (.mv (.t 9)) <|
 qg 94 88 false (.pick (.t 92) (.t 93) (cb false)) <|
 q 95 (.pick (.t 88) (cb true) (.t 94)) <|
 q 96 (.mv (.t 95)) <|
 qg 97 96 false (.fld 0 (.t 3)) <|
 qg 98 96 false (.load false 1 (.t 97)) <|
 qg 99 96 false (.bin .eql (.t 98) (ci 3)) <|
 qg 100 96 false (.mv (.t 99)) <|
 qg 101 100 true (.mv (.t 9)) <|
 qg 102 100 true (.un .not (.t 101)) <|
 qg 103 96 false (.pick (.t 100) (.t 102) (cb false)) <|
 q 104 (.pick (.t 96) (cb true) (.t 103)) <|
 q 86 (.mv (.t 104)) <|
 .keep [2, 3, 4, 86] <|
 .ite (.t 86)
 (q 105 (.build [.slice none 0 0, .slice none 0 0, .slice none 0 0, .slice none 0 0, .slice none 0 0, .slice none 0 0, .int .i64 0, .slice none 0 0, .slice none 0 0] []) <|
 q 106 (.mkif T.api_Code (ci 7)) <|
 qn (.store 9 (.t 4) (.t 105)) <|
 q 5 (.mv (.t 106)) <|
 .keep [4, 5] <|
 .ret)
 (q 108 (.fld 8 (.t 2)) <|
 q 109 (.load false 1 (.t 108)) <|
 q 110 (.len false (.t 109)) <|
 q 111 (.bin .geq (.t 110) (ci 100)) <|
 q 107 (.mv (.t 111)) <|
 .keep [2, 3, 4, 107] <|
 .ite (.t 107)
 (q 112 (.build [.slice none 0 0, .slice none 0 0, .slice none 0 0, .slice none 0 0, .slice none 0 0, .slice none 0 0, .int .i64 0, .slice none 0 0, .slice none 0 0] []) <|
 q 113 (.mkif T.api_Code (ci 6)) <|
 qn (.store 9 (.t 4) (.t 112)) <|
 q 5 (.mv (.t 113)) <|
 .keep [4, 5] <|
 .ret)
 (.done) <|
 .done) <|
 .done) <|
 .done) <|
 q 114 (.fld 5 (.t 3)) <|
 q 115 (.load false 1 (.t 114)) <|
 q 116 (.call F.slices_Clone_byte_byte [(.t 115)]) <|
 q 117 (.fld 5 (.t 3)) <|
 qn (.store 1 (.t 117) (.t 116)) <|
 .keep [2, 3, 4] <|
 q 118 (.fld 8 (.t 2)) <|
 q 119 (.load false 1 (.t 118)) <|
 q 120 (.call F.slices_Clip_api_Entry_api_Entry [(.t 119)]) <|
 q 121 (.load true 7 (.t 3)) <|
 q 122 (.bslice false 7 1 [.int .i64 0, .int .i64 0, .int .i64 0, .int .i64 0, .int .i64 0, .slice none 0 0, .bool false] [(0, 7, (.t 121))]) <|
 q 123 (.appv 7 72 (.t 120) (.t 122)) <|
 q 124 (.fld 8 (.t 2)) <|
 qn (.store 1 (.t 124) (.t 123)) <|
 .keep [2, 4] <|
 q 125 (.load true 9 (.t 2)) <|
 qn (.store 9 (.t 4) (.t 125)) <|
 q 5 (.mv (.c (.nilIface))) <|
 .keep [4, 5] <|
 .ret
theorem e_facts_enter:EF false F.facts_enter ic_facts_enter [.c 4 true 9,.t 5]:=ef [123] Tryz.func17 (by kernel_rfl) (by kernel_rfl) (by kernel_rfl)
def ic_facts_notice : IC :=
 q 3 (.box (.t 0)) <|
 q 6 (.alloc [.int .i64 0, .int .i64 0, .int .i64 0, .int .i64 0, .int .i64 0, .int .i64 0, .int .i64 0, .int .i64 0, .int .u8 0, .int .u8 0, .int .u8 0, .int .u8 0, .int .u8 0, .int .u8 0, .int .u8 0, .int .u8 0, .int .u8 0, .int .u8 0, .int .u8 0, .int .u8 0, .int .u8 0, .int .u8 0, .int .u8 0, .int .u8 0, .int .u8 0, .int .u8 0, .int .u8 0, .int .u8 0, .int .u8 0, .int .u8 0, .int .u8 0, .int .u8 0, .int .u8 0, .int .u8 0, .int .u8 0, .int .u8 0, .int .u8 0, .int .u8 0, .int .u8 0, .int .u8 0, .slice none 0 0]) <|
 q 7 (.mv (cb false)) <|
 .keep [1, 2, 3, 6] <|
 q 13 (.load true 9 (.t 3)) <|
 q 14 (.mv (.t 1)) <|
 q 15 (.call F.facts_records [(.t 13), (.t 14)]) <|
 q 8 (.mv (.t 15)) <|
 .keep [2, 6, 8] <|
 q 16 (.mv (.t 2)) <|
 q 17 (.bin .lss (.t 16) (ci 0)) <|
 q 18 (.mv (.t 17)) <|
 qg 19 18 false (.mv (.t 2)) <|
 qg 20 18 false (.mv (.t 8)) <|
 qg 21 18 false (.len false (.t 20)) <|
 qg 22 18 false (.bin .geq (.t 19) (.t 21)) <|
 q 23 (.pick (.t 18) (cb true) (.t 22)) <|
 .keep [2, 6, 8, 23] <|
 .ite (.t 23)
 (q 24 (.build [.int .i64 0, .int .i64 0, .int .i64 0, .int .i64 0, .int .i64 0, .int .i64 0, .int .i64 0, .int .i64 0, .int .u8 0, .int .u8 0, .int .u8 0, .int .u8 0, .int .u8 0, .int .u8 0, .int .u8 0, .int .u8 0, .int .u8 0, .int .u8 0, .int .u8 0, .int .u8 0, .int .u8 0, .int .u8 0, .int .u8 0, .int .u8 0, .int .u8 0, .int .u8 0, .int .u8 0, .int .u8 0, .int .u8 0, .int .u8 0, .int .u8 0, .int .u8 0, .int .u8 0, .int .u8 0, .int .u8 0, .int .u8 0, .int .u8 0, .int .u8 0, .int .u8 0, .int .u8 0, .slice none 0 0] []) <|
 qn (.store 41 (.t 6) (.t 24)) <|
 q 7 (.mv (cb false)) <|
 .keep [6, 7] <|
 .ret)
 (.done) <|
 q 26 (.mv (.t 8)) <|
 q 27 (.mv (.t 2)) <|
 q 28 (.idxa 1 none (.t 26) (.t 27)) <|
 q 29 (.load false 1 (.t 28)) <|
 q 30 (.call F.record_Open [(.t 29)]) <|
 q 25 (.mv (.t 30)) <|
 q 31 (.ext (.t 25) 0) <|
 q 32 (.ext (.t 25) 1) <|
 q 33 (.ext (.t 25) 2) <|
 q 34 (.ext (.t 25) 3) <|
 q 9 (.alloc [.int .i64 0, .int .i64 0, .int .i64 0, .int .i64 0, .int .i64 0, .int .i64 0, .int .i64 0, .int .i64 0, .int .u8 0, .int .u8 0, .int .u8 0, .int .u8 0, .int .u8 0, .int .u8 0, .int .u8 0, .int .u8 0, .int .u8 0, .int .u8 0, .int .u8 0, .int .u8 0, .int .u8 0, .int .u8 0, .int .u8 0, .int .u8 0, .int .u8 0, .int .u8 0, .int .u8 0, .int .u8 0, .int .u8 0, .int .u8 0, .int .u8 0, .int .u8 0, .int .u8 0, .int .u8 0, .int .u8 0, .int .u8 0, .int .u8 0, .int .u8 0, .int .u8 0, .int .u8 0, .slice none 0 0]) <|
 q 10 (.alloc (List.replicate 32 (.int .u8 0))) <|
 q 11 (.alloc (List.replicate 8 (.int .u64 0))) <|
 qn (.store 41 (.t 9) (.t 31)) <|
 qn (.store 32 (.t 10) (.t 32)) <|
 qn (.store 8 (.t 11) (.t 33)) <|
 q 12 (.mv (.t 34)) <|
 .keep [6, 9, 12] <|
 .reg 0
 [xe 35 (.load true 41 (.t 9)) [],
 xe 36 (.mv (.t 12)) [],
 xe 37 (.eq false .i (.t 36) (.c (.nilIface))) [],
 xe 38 (.mv (.t 37)) [],
 xeg 39 38 true (.fld 3 (.t 9)) [],
 xeg 40 38 true (.load false 1 (.t 39)) [],
 xeg 41 38 true (.bin .eql (.t 40) (ci 2)) [],
 xe 42 (.pick (.t 38) (.t 41) (cb false)) [],
 xln (.store 41 (.t 6) (.t 35)) [(.t 39)],
 xl 7 (.mv (.t 42)) []] <|
 .keep [6, 7] <|
 .ret
theorem e_facts_notice:EF false F.facts_notice ic_facts_notice [.c 6 true 41,.t 7]:=ef [] Tryz.func18 (by kernel_rfl) (by kernel_rfl) (by kernel_rfl)
def ic_facts_records : IC :=
 q 2 (.box (.t 0)) <|
 q 4 (.mv (.c (.slice none 0 0))) <|
 .keep [1, 2] <|
 q 8 (.load true 9 (.t 2)) <|
 q 9 (.mv (.t 1)) <|
 q 10 (.call F.facts_chain [(.t 8), (.t 9)]) <|
 q 7 (.mv (.t 10)) <|
 q 11 (.ext (.t 7) 0) <|
 q 12 (.ext (.t 7) 1) <|
 q 5 (.mv (.t 11)) <|
 q 6 (.mv (.t 12)) <|
 .keep [2, 5, 6] <|
 q 13 (.mv (.t 6)) <|
 .keep [2, 5, 13] <|
 .ite (.t 13)
 (q 14 (.fld 7 (.t 2)) <|
 q 15 (.load false 1 (.t 14)) <|
 q 16 (.mv (.t 5)) <|
 q 17 (.idxa 2 none (.t 15) (.t 16)) <|
 q 18 (.fld 1 (.t 17)) <|
 q 19 (.load false 1 (.t 18)) <|
 q 4 (.mv (.t 19)) <|
 .keep [4] <|
 .ret)
 (.done) <|
 q 4 (.mv (.c (.slice none 0 0))) <|
 .keep [4] <|
 .ret
theorem e_facts_records:EF false F.facts_records ic_facts_records [.t 4]:=ef [] Tryz.func22 (by kernel_rfl) (by kernel_rfl) (by kernel_rfl)
def ic_facts_chain : IC :=
 q 2 (.box (.t 0)) <|
 q 4 (.mv (ci 0)) <|
 q 5 (.mv (cb false)) <|
 .keep [1, 2] <|
 q 6 (.fld 7 (.t 2)) <|
 q 7 (.load false 1 (.t 6)) <|
 q 8 (.mv (.t 1)) <|
 q 9 (.call F.slices_BinarySearchFunc_api_Chain_api_Chain_int [(.t 7), (.t 8), (.f F.facts_chain_1)]) <|
 q 10 (.ext (.t 9) 0) <|
 q 11 (.ext (.t 9) 1) <|
 q 4 (.mv (.t 10)) <|
 q 5 (.mv (.t 11)) <|
 .keep [4, 5] <|
 .ret
theorem e_facts_chain:EF false F.facts_chain ic_facts_chain [.t 4,.t 5]:=ef [] Tryz.func23 (by kernel_rfl) (by kernel_rfl) (by kernel_rfl)
def ic_facts_last : IC :=
 q 2 (.alloc (List.replicate 32 (.int .u8 0))) <|
 .keep [0, 2] <|
 q 7 (.mv (.t 0)) <|
 q 8 (.len false (.t 7)) <|
 q 9 (.bin .eql (.t 8) (ci 0)) <|
 .keep [0, 2, 9] <|
 .ite (.t 9)
 (q 10 (.build (List.replicate 32 (.int .u8 0)) []) <|
 qn (.store 32 (.t 2) (.t 10)) <|
 .keep [2] <|
 .ret)
 (.done) <|
 q 12 (.mv (.t 0)) <|
 q 13 (.mv (.t 0)) <|
 q 14 (.len false (.t 13)) <|
 q 15 (.bin .sub (.t 14) (ci 1)) <|
 q 16 (.idxa 1 none (.t 12) (.t 15)) <|
 q 17 (.load false 1 (.t 16)) <|
 q 18 (.call F.record_Open [(.t 17)]) <|
 q 11 (.mv (.t 18)) <|
 q 19 (.ext (.t 11) 0) <|
 q 20 (.ext (.t 11) 1) <|
 q 21 (.ext (.t 11) 2) <|
 q 22 (.ext (.t 11) 3) <|
 q 3 (.alloc [.int .i64 0, .int .i64 0, .int .i64 0, .int .i64 0, .int .i64 0, .int .i64 0, .int .i64 0, .int .i64 0, .int .u8 0, .int .u8 0, .int .u8 0, .int .u8 0, .int .u8 0, .int .u8 0, .int .u8 0, .int .u8 0, .int .u8 0, .int .u8 0, .int .u8 0, .int .u8 0, .int .u8 0, .int .u8 0, .int .u8 0, .int .u8 0, .int .u8 0, .int .u8 0, .int .u8 0, .int .u8 0, .int .u8 0, .int .u8 0, .int .u8 0, .int .u8 0, .int .u8 0, .int .u8 0, .int .u8 0, .int .u8 0, .int .u8 0, .int .u8 0, .int .u8 0, .int .u8 0, .slice none 0 0]) <|
 q 4 (.alloc (List.replicate 32 (.int .u8 0))) <|
 q 5 (.alloc (List.replicate 8 (.int .u64 0))) <|
 qn (.store 41 (.t 3) (.t 19)) <|
 qn (.store 32 (.t 4) (.t 20)) <|
 qn (.store 8 (.t 5) (.t 21)) <|
 q 6 (.mv (.t 22)) <|
 .keep [2, 4] <|
 q 23 (.load true 32 (.t 4)) <|
 qn (.store 32 (.t 2) (.t 23)) <|
 .keep [2] <|
 .ret
theorem e_facts_last:EF false F.facts_last ic_facts_last [.c 2 true 32]:=ef [] Tryz.func25 (by kernel_rfl) (by kernel_rfl) (by kernel_rfl)
def ic_slices_Clip_byte_byte : IC :=
 q 2 (.mv (.c (.slice none 0 0))) <|
 .keep [0] <|
 q 3 (.mv (.t 0)) <|
 q 4 (.mv (.t 0)) <|
 q 5 (.len false (.t 4)) <|
 q 6 (.mv (.t 0)) <|
 q 7 (.len false (.t 6)) <|
 q 8 (.slice 1 none (.t 3) none (some (.t 5)) (some (.t 7))) <|
 q 2 (.mv (.t 8)) <|
 .keep [2] <|
 .ret
theorem e_slices_Clip_byte_byte:EF false F.slices_Clip_byte_byte ic_slices_Clip_byte_byte [.t 2]:=ef [] Tryz.func27 (by kernel_rfl) (by kernel_rfl) (by kernel_rfl)
def ic_slices_Clone_api_Chain_api_Chain : IC :=
 q 2 (.mv (.c (.slice none 0 0))) <|
 .keep [0] <|
 q 3 (.mv (.t 0)) <|
 q 4 (.isnil false (.t 3)) <|
 .keep [0, 4] <|
 .ite (.t 4)
 (q 2 (.mv (.c (.slice none 0 0))) <|
 .keep [2] <|
 .ret)
 (.done) <|
 q 5 (.bslice false 2 0 [.int .i64 0, .slice none 0 0] []) <|
 q 6 (.mv (.t 0)) <|
 q 7 (.append 2 32 (.t 5) (.t 6)) <|
 q 2 (.mv (.t 7)) <|
 .keep [2] <|
 .ret
theorem e_slices_Clone_api_Chain_api_Chain:EF false F.slices_Clone_api_Chain_api_Chain ic_slices_Clone_api_Chain_api_Chain [.t 2]:=ef [] Tryz.func29 (by kernel_rfl) (by kernel_rfl) (by kernel_rfl)
def ic_clapperref22_service : IC :=
 q 2 (.box (.t 0)) <|
 q 3 (.box (.t 1)) <|
 q 4 (.mv (cb false)) <|
 .keep [2, 3] <|
 q 7 (.fld 3 (.t 2)) <|
 q 8 (.load false 1 (.t 7)) <|
 q 9 (.fld 3 (.t 3)) <|
 q 10 (.load false 1 (.t 9)) <|
 q 11 (.call F.clapperref22_ints [(.t 8), (.t 10)]) <|
 q 5 (.mv (.t 11)) <|
 .keep [2, 3, 5] <|
 q 12 (.fld 4 (.t 2)) <|
 q 13 (.load false 1 (.t 12)) <|
 q 14 (.fld 4 (.t 3)) <|
 q 15 (.load false 1 (.t 14)) <|
 q 16 (.call F.clapperref22_ints [(.t 13), (.t 15)]) <|
 q 6 (.mv (.t 16)) <|
 .keep [2, 3, 5, 6] <|
 q 17 (.mv (.t 5)) <|
 q 18 (.mv (.t 17)) <|
 qg 19 18 true (.mv (.t 6)) <|
 q 20 (.pick (.t 18) (.t 19) (cb false)) <|
 q 21 (.mv (.t 20)) <|
 qg 22 21 true (.fld 0 (.t 2)) <|
 qg 23 21 true (.load false 1 (.t 22)) <|
 qg 24 21 true (.fld 0 (.t 3)) <|
 qg 25 21 true (.load false 1 (.t 24)) <|
 qg 26 21 true (.bin .eql (.t 23) (.t 25)) <|
 q 27 (.pick (.t 21) (.t 26) (cb false)) <|
 q 28 (.mv (.t 27)) <|
 qg 29 28 true (.fld 1 (.t 2)) <|
 qg 30 28 true (.load false 1 (.t 29)) <|
 qg 31 28 true (.fld 1 (.t 3)) <|
 qg 32 28 true (.load false 1 (.t 31)) <|
 qg 33 28 true (.bin .eql (.t 30) (.t 32)) <|
 q 34 (.pick (.t 28) (.t 33) (cb false)) <|
 q 35 (.mv (.t 34)) <|
 qg 36 35 true (.fld 2 (.t 2)) <|
 qg 37 35 true (.load false 1 (.t 36)) <|
 qg 38 35 true (.fld 2 (.t 3)) <|
 qg 39 35 true (.load false 1 (.t 38)) <|
 qg 40 35 true (.bin .eql (.t 37) (.t 39)) <|
 q 41 (.pick (.t 35) (.t 40) (cb false)) <|
 q 4 (.mv (.t 41)) <|
 .keep [4] <|
 .ret
theorem e_clapperref22_service:EF false F.clapperref22_service ic_clapperref22_service [.t 4]:=ef [] Tryz.func33 (by kernel_rfl) (by kernel_rfl) (by kernel_rfl)
def ic_facts_fair : IC :=
 q 1 (.box (.t 0)) <|
 q 2 (.mv (cb false)) <|
 .keep [1] <|
 q 5 (.fld 4 (.t 1)) <|
 q 6 (.load false 1 (.t 5)) <|
 q 7 (.bin .eql (.t 6) (ci 0)) <|
 q 3 (.mv (.t 7)) <|
 .keep [1, 3] <|
 q 8 (.fld 0 (.t 1)) <|
 q 9 (.load false 1 (.t 8)) <|
 q 10 (.bin .eql (.t 9) (ci 1)) <|
 .keep [1, 3, 10] <|
 .ite (.t 10)
 (q 11 (.fld 4 (.t 1)) <|
 q 12 (.load false 1 (.t 11)) <|
 q 13 (.bin .geq (.t 12) (ci 1)) <|
 q 14 (.mv (.t 13)) <|
 qg 15 14 true (.fld 4 (.t 1)) <|
 qg 16 14 true (.load false 1 (.t 15)) <|
 qg 17 14 true (.bin .leq (.t 16) (ci 1073741824)) <|
 q 18 (.pick (.t 14) (.t 17) (cb false)) <|
 q 3 (.mv (.t 18)) <|
 .keep [1, 3] <|
 .done)
 (.done) <|
 q 19 (.fld 5 (.t 1)) <|
 q 20 (.load false 1 (.t 19)) <|
 q 21 (.len false (.t 20)) <|
 q 22 (.bin .eql (.t 21) (ci 0)) <|
 q 23 (.mv (.t 22)) <|
 qg 24 23 false (.fld 0 (.t 1)) <|
 qg 25 23 false (.load false 1 (.t 24)) <|
 qg 26 23 false (.bin .eql (.t 25) (ci 2)) <|
 qg 27 23 false (.mv (.t 26)) <|
 qg 28 27 true (.fld 5 (.t 1)) <|
 qg 29 27 true (.load false 1 (.t 28)) <|
 qg 30 27 true (.len false (.t 29)) <|
 qg 31 27 true (.bin .leq (.t 30) (ci 500)) <|
 qg 32 23 false (.pick (.t 27) (.t 31) (cb false)) <|
 q 33 (.pick (.t 23) (cb true) (.t 32)) <|
 q 4 (.mv (.t 33)) <|
 .keep [1, 3, 4] <|
 q 34 (.mv (.t 3)) <|
 q 35 (.mv (.t 34)) <|
 qg 36 35 true (.mv (.t 4)) <|
 q 37 (.pick (.t 35) (.t 36) (cb false)) <|
 q 38 (.mv (.t 37)) <|
 qg 39 38 true (.fld 0 (.t 1)) <|
 qg 40 38 true (.load false 1 (.t 39)) <|
 qg 41 38 true (.bin .geq (.t 40) (ci 1)) <|
 q 42 (.pick (.t 38) (.t 41) (cb false)) <|
 q 43 (.mv (.t 42)) <|
 qg 44 43 true (.fld 0 (.t 1)) <|
 qg 45 43 true (.load false 1 (.t 44)) <|
 qg 46 43 true (.bin .leq (.t 45) (ci 4)) <|
 q 47 (.pick (.t 43) (.t 46) (cb false)) <|
 q 48 (.mv (.t 47)) <|
 qg 49 48 true (.fld 6 (.t 1)) <|
 qg 50 48 true (.load false 1 (.t 49)) <|
 qg 51 48 true (.un .not (.t 50)) <|
 qg 52 48 true (.mv (.t 51)) <|
 qg 53 52 false (.fld 0 (.t 1)) <|
 qg 54 52 false (.load false 1 (.t 53)) <|
 qg 55 52 false (.bin .eql (.t 54) (ci 3)) <|
 qg 56 48 true (.pick (.t 52) (cb true) (.t 55)) <|
 q 57 (.pick (.t 48) (.t 56) (cb false)) <|
 q 2 (.mv (.t 57)) <|
 .keep [2] <|
 .ret
theorem e_facts_fair:EF false F.facts_fair ic_facts_fair [.t 2]:=ef [] Tryz.func38 (by kernel_rfl) (by kernel_rfl) (by kernel_rfl)
def ic_slices_Clip_api_Entry_api_Entry : IC :=
 q 2 (.mv (.c (.slice none 0 0))) <|
 .keep [0] <|
 q 3 (.mv (.t 0)) <|
 q 4 (.mv (.t 0)) <|
 q 5 (.len false (.t 4)) <|
 q 6 (.mv (.t 0)) <|
 q 7 (.len false (.t 6)) <|
 q 8 (.slice 7 none (.t 3) none (some (.t 5)) (some (.t 7))) <|
 q 2 (.mv (.t 8)) <|
 .keep [2] <|
 .ret
theorem e_slices_Clip_api_Entry_api_Entry:EF false F.slices_Clip_api_Entry_api_Entry ic_slices_Clip_api_Entry_api_Entry [.t 2]:=ef [] Tryz.func39 (by kernel_rfl) (by kernel_rfl) (by kernel_rfl)
def ic_slices_BinarySearchFunc_api_Chain_api_Chain_int : IC :=
 q 6 (.mv (ci 0)) <|
 q 7 (.mv (cb false)) <|
 .keep [0, 1, 2] <|
 q 12 (.mv (.t 0)) <|
 q 13 (.len false (.t 12)) <|
 q 8 (.mv (.t 13)) <|
 .keep [0, 1, 2, 8] <|
 q 14 (.mv (.t 8)) <|
 q 9 (.mv (ci 0)) <|
 q 10 (.mv (.t 14)) <|
 .keep [0, 1, 2, 8, 9, 10] <|
 .block 0
 (.keep [0, 1, 2, 8, 9, 10] <|
 .loop
 (q 15 (.mv (.t 9)) <|
 q 16 (.mv (.t 10)) <|
 q 17 (.bin .lss (.t 15) (.t 16)) <|
 .keep [0, 1, 2, 8, 9, 10, 17] <|
 .ite (.t 17)
 (.done)
 (.exit 0) <|
 .block 1
 (q 18 (.mv (.t 9)) <|
 q 19 (.mv (.t 10)) <|
 q 20 (.bin .add (.t 18) (.t 19)) <|
 q 21 (.conv .u64 (.t 20)) <|
 q 22 (.bin .shr (.t 21) (.c (.int .u64 1))) <|
 q 23 (.conv .i64 (.t 22)) <|
 q 11 (.mv (.t 23)) <|
 .keep [0, 1, 2, 8, 9, 10, 11] <|
 q 24 (.mv (.t 2)) <|
 q 25 (.mv (.t 0)) <|
 q 26 (.mv (.t 11)) <|
 q 27 (.idxa 2 none (.t 25) (.t 26)) <|
 q 28 (.load true 2 (.t 27)) <|
 q 29 (.mv (.t 1)) <|
 q 30 (.callv (.t 24) [(.t 28), (.t 29)]) <|
 q 31 (.bin .lss (.t 30) (ci 0)) <|
 .keep [0, 1, 2, 8, 9, 10, 11, 31] <|
 .ite (.t 31)
 (q 32 (.mv (.t 11)) <|
 q 33 (.bin .add (.t 32) (ci 1)) <|
 q 9 (.mv (.t 33)) <|
 .keep [0, 1, 2, 8, 9, 10] <|
 .done)
 (q 34 (.mv (.t 11)) <|
 q 10 (.mv (.t 34)) <|
 .keep [0, 1, 2, 8, 9, 10] <|
 .done) <|
 .done) <|
 .keep [0, 1, 2, 8, 9, 10] <|
 .done)) <|
 q 35 (.mv (.t 9)) <|
 q 36 (.mv (.t 9)) <|
 q 37 (.mv (.t 8)) <|
 q 38 (.bin .lss (.t 36) (.t 37)) <|
 q 39 (.mv (.t 38)) <|
 qg 40 39 true (.mv (.t 2)) <|
 qg 41 39 true (.mv (.t 0)) <|
 qg 42 39 true (.mv (.t 9)) <|
 qg 43 39 true (.idxa 2 none (.t 41) (.t 42)) <|
 qg 44 39 true (.load true 2 (.t 43)) <|
 qg 45 39 true (.mv (.t 1)) <|
 qg 46 39 true (.callv (.t 40) [(.t 44), (.t 45)]) <|
 qg 47 39 true (.bin .eql (.t 46) (ci 0)) <|
 q 48 (.pick (.t 39) (.t 47) (cb false)) <|
 q 6 (.mv (.t 35)) <|
 q 7 (.mv (.t 48)) <|
 .keep [6, 7] <|
 .ret
theorem e_slices_BinarySearchFunc_api_Chain_api_Chain_int:EF true F.slices_BinarySearchFunc_api_Chain_api_Chain_int ic_slices_BinarySearchFunc_api_Chain_api_Chain_int [.t 6,.t 7]:=ef [] Tryz.func45 (by kernel_rfl) (by kernel_rfl) (by kernel_rfl)
def ic_facts_chain_1 : IC :=
 q 2 (.box (.t 0)) <|
 q 4 (.mv (ci 0)) <|
 .keep [1, 2] <|
 q 5 (.fld 0 (.t 2)) <|
 q 6 (.load false 1 (.t 5)) <|
 q 7 (.mv (.t 1)) <|
 q 8 (.call F.cmp_Compare_int [(.t 6), (.t 7)]) <|
 q 4 (.mv (.t 8)) <|
 .keep [4] <|
 .ret
theorem e_facts_chain_1:EF false F.facts_chain_1 ic_facts_chain_1 [.t 4]:=ef [] Tryz.func46 (by kernel_rfl) (by kernel_rfl) (by kernel_rfl)
def ic_cmp_Compare_int : IC :=
 q 4 (.mv (ci 0)) <|
 .keep [0, 1] <|
 q 7 (.mv (.t 0)) <|
 q 8 (.call F.cmp_isNaN_int [(.t 7)]) <|
 q 5 (.mv (.t 8)) <|
 .keep [0, 1, 5] <|
 q 9 (.mv (.t 1)) <|
 q 10 (.call F.cmp_isNaN_int [(.t 9)]) <|
 q 6 (.mv (.t 10)) <|
 .keep [0, 1, 5, 6] <|
 q 11 (.mv (.t 5)) <|
 .keep [0, 1, 6, 11] <|
 .ite (.t 11)
 (q 12 (.mv (.t 6)) <|
 .keep [12] <|
 .ite (.t 12)
 (q 4 (.mv (ci 0)) <|
 .keep [4] <|
 .ret)
 (.done) <|
 q 4 (.mv (ci (-1))) <|
 .keep [4] <|
 .ret)
 (.done) <|
 q 13 (.mv (.t 6)) <|
 .keep [0, 1, 13] <|
 .ite (.t 13)
 (q 4 (.mv (ci 1)) <|
 .keep [4] <|
 .ret)
 (.done) <|
 q 14 (.mv (.t 0)) <|
 q 15 (.mv (.t 1)) <|
 q 16 (.bin .lss (.t 14) (.t 15)) <|
 .keep [0, 1, 16] <|
 .ite (.t 16)
 (q 4 (.mv (ci (-1))) <|
 .keep [4] <|
 .ret)
 (.done) <|
 q 17 (.mv (.t 0)) <|
 q 18 (.mv (.t 1)) <|
 q 19 (.bin .gtr (.t 17) (.t 18)) <|
 .keep [19] <|
 .ite (.t 19)
 (q 4 (.mv (ci 1)) <|
 .keep [4] <|
 .ret)
 (.done) <|
 q 4 (.mv (ci 0)) <|
 .keep [4] <|
 .ret
theorem e_cmp_Compare_int:EF false F.cmp_Compare_int ic_cmp_Compare_int [.t 4]:=ef [] Tryz.func47 (by kernel_rfl) (by kernel_rfl) (by kernel_rfl)
def ic_clapperref22_ints : IC :=
 q 4 (.mv (cb false)) <|
 .keep [0, 1] <|
 q 6 (.mv (.t 0)) <|
 q 7 (.len false (.t 6)) <|
 q 8 (.mv (.t 1)) <|
 q 9 (.len false (.t 8)) <|
 q 10 (.bin .neq (.t 7) (.t 9)) <|
 .keep [0, 1, 10] <|
 .ite (.t 10)
 (q 4 (.mv (cb false)) <|
 .keep [4] <|
 .ret)
 (.done) <|
 q 5 (.mv (ci 0)) <|
 .keep [0, 1, 5] <|
 .block 0
 (.keep [0, 1, 5] <|
 .loop
 (q 11 (.mv (.t 5)) <|
 q 12 (.mv (.t 0)) <|
 q 13 (.len false (.t 12)) <|
 q 14 (.bin .lss (.t 11) (.t 13)) <|
 .keep [0, 1, 5, 14] <|
 .ite (.t 14)
 (.done)
 (.exit 0) <|
 .block 1
 (q 17 (.mv (.t 0)) <|
 q 18 (.mv (.t 5)) <|
 q 19 (.idxa 1 none (.t 17) (.t 18)) <|
 q 20 (.load false 1 (.t 19)) <|
 q 21 (.mv (.t 1)) <|
 q 22 (.mv (.t 5)) <|
 q 23 (.idxa 1 none (.t 21) (.t 22)) <|
 q 24 (.load false 1 (.t 23)) <|
 q 25 (.bin .neq (.t 20) (.t 24)) <|
 .keep [0, 1, 5, 25] <|
 .ite (.t 25)
 (q 4 (.mv (cb false)) <|
 .keep [4] <|
 .ret)
 (.done) <|
 .done) <|
 q 15 (.mv (.t 5)) <|
 q 16 (.bin .add (.t 15) (ci 1)) <|
 q 5 (.mv (.t 16)) <|
 .keep [0, 1, 5] <|
 .keep [0, 1, 5] <|
 .done)) <|
 q 4 (.mv (cb true)) <|
 .keep [4] <|
 .ret
theorem e_clapperref22_ints:EF false F.clapperref22_ints ic_clapperref22_ints [.t 4]:=ef [] Tryz.func52 (by kernel_rfl) (by kernel_rfl) (by kernel_rfl)
def ic_cmp_isNaN_int : IC :=
 q 2 (.mv (cb false)) <|
 .keep [0] <|
 q 3 (.mv (.t 0)) <|
 q 4 (.mv (.t 0)) <|
 q 5 (.bin .neq (.t 3) (.t 4)) <|
 q 2 (.mv (.t 5)) <|
 .keep [2] <|
 .ret
theorem e_cmp_isNaN_int:EF false F.cmp_isNaN_int ic_cmp_isNaN_int [.t 2]:=ef [] Tryz.func67 (by kernel_rfl) (by kernel_rfl) (by kernel_rfl)
end Go.Proofs.YtenfocjhebgoeaaGreat.Eng

