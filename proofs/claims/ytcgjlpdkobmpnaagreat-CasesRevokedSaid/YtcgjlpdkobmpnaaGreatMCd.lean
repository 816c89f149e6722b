/- The code of some functions, as the abstract machine's. Printed by program. -/
import Derived.Test.YtcgjlpdkobmpnaaGreatMCa
namespace Go.Proofs.YtcgjlpdkobmpnaaGreat.Eng
open Go Go.Proofs
set_option maxRecDepth 20000
def Tj : IC :=
 Qb 1 0<|
 q 2 (.mv (cb false))<|
 .keep [1]<|
 Qf 4 0 1<|
 Ql 5 1 4<|
 Qw 6 5<|
 q 7 (.bin .gtr (.t 6) (ci 40))<|
 Qm 8 7<|
 Gf 9 8 false 1 1<|
 Gl 10 8 false 1 9<|
 qg 11 8 false (.len false (.t 10))<|
 qg 12 8 false (.bin .gtr (.t 11) (ci 200))<|
 Qo 13 8 12<|
 .keep [1,13]<|
 .ite (.t 13)
 (q 2 (.mv (cb false))<|
 .keep [2]<|
 .ret)
 (.done)<|
 q 3 (.mv (ci 0))<|
 .keep [1,3]<|
 .block 0
 (.keep [1,3]<|
 .loop
 (Qm 14 3<|
 Qf 15 0 1<|
 Ql 16 1 15<|
 Qw 17 16<|
 q 18 (.bin .lss (.t 14) (.t 17))<|
 .keep [1,3,18]<|
 .ite (.t 18)
 (.done)
 (.exit 0)<|
 .block 1
 (Qf 21 0 1<|
 Ql 22 1 21<|
 Qm 23 3<|
 q 24 (.idxa 5 none (.t 22) (.t 23))<|
 Qf 25 3 24<|
 Ql 26 1 25<|
 Qw 27 26<|
 q 28 (.bin .gtr (.t 27) (ci 300))<|
 Qm 29 28<|
 Gf 30 29 false 0 1<|
 Gl 31 29 false 1 30<|
 Gm 32 29 false 3<|
 qg 33 29 false (.idxa 5 none (.t 31) (.t 32))<|
 Gf 34 29 false 4 33<|
 Gl 35 29 false 1 34<|
 qg 36 29 false (.len false (.t 35))<|
 qg 37 29 false (.bin .gtr (.t 36) (ci 300))<|
 Qo 38 29 37<|
 .keep [1,3,38]<|
 .ite (.t 38)
 (q 2 (.mv (cb false))<|
 .keep [2]<|
 .ret)
 (.done)<|
 .done)<|
 Qm 19 3<|
 q 20 (.bin .add (.t 19) (ci 1))<|
 Qm 3 20<|
 .keep [1,3]<|
 .keep [1,3]<|
 .done))<|
 q 2 (.mv (cb true))<|
 .keep [2]<|
 .ret
theorem Mw:EF false F.clapperref13_Few Tj [.t 2]:=ef [] Tryz.func101 (by kernel_rfl) (by kernel_rfl) (by kernel_rfl)
def Kq : IC :=
 Qb 1 0<|
 q 2 (.mv (cb false))<|
 .keep [1]<|
 q 3 (.mv (.f F.route_May_1))<|
 .keep [1,3]<|
 q 5 (.mkfn (.func F.route_May_2) [] [(.t 1)])<|
 Qm 4 5<|
 .keep [1,3,4]<|
 Qf 6 0 1<|
 Ql 7 1 6<|
 Qw 8 7<|
 q 9 (.bin .leq (.t 8) (ci 16))<|
 Qm 10 9<|
 Gf 11 10 true 1 1<|
 Gl 12 10 true 1 11<|
 qg 13 10 true (.len false (.t 12))<|
 qg 14 10 true (.bin .leq (.t 13) (ci 100))<|
 Qk 15 10 14<|
 Qm 16 15<|
 Gf 17 16 true 0 1<|
 Gl 18 16 true 1 17<|
 Gm 19 16 true 3<|
 qg 20 16 true (.call F.slices_ContainsFunc_api_Service_api_Service [(.t 18),(.t 19)])<|
 qg 21 16 true (.un .not (.t 20))<|
 Qk 22 16 21<|
 Qm 23 22<|
 Gf 24 23 true 1 1<|
 Gl 25 23 true 1 24<|
 Gm 26 23 true 4<|
 qg 27 23 true (.call F.slices_ContainsFunc_api_Conn_api_Conn [(.t 25),(.t 26)])<|
 qg 28 23 true (.un .not (.t 27))<|
 Qk 29 23 28<|
 Qm 2 29<|
 .keep [2]<|
 .ret
theorem Zc0:EF false F.route_May Kq [.t 2]:=ef [] Tryz.func132 (by kernel_rfl) (by kernel_rfl) (by kernel_rfl)
def P3 : IC :=
 Qb 1 0<|
 q 2 (.mv (cb false))<|
 .keep [1]<|
 Qa 3 5 1<|
 q 4 (.call F.service_May [(.t 3)])<|
 q 5 (.un .not (.t 4))<|
 Qm 2 5<|
 .keep [2]<|
 .ret
theorem Cj:EF false F.route_May_1 P3 [.t 2]:=ef [] Tryz.func220 (by kernel_rfl) (by kernel_rfl) (by kernel_rfl)
def P2 : IC :=
 Qb 2 0<|
 q 3 (.mv (cb false))<|
 .keep [1,2]<|
 Qf 4 0 2<|
 Ql 5 1 4<|
 q 6 (.bin .lss (.t 5) (ci 0))<|
 Qm 7 6<|
 Gf 8 7 false 0 2<|
 Gl 9 7 false 1 8<|
 Gf 10 7 false 0 1<|
 Gl 11 7 false 1 10<|
 qg 12 7 false (.len false (.t 11))<|
 qg 13 7 false (.bin .geq (.t 9) (.t 12))<|
 Qo 14 7 13<|
 Qm 15 14<|
 Gf 16 15 false 1 2<|
 Gl 17 15 false 1 16<|
 qg 18 15 false (.call F.route_stop [(.t 17)])<|
 qg 19 15 false (.un .not (.t 18))<|
 Qo 20 15 19<|
 Qm 21 20<|
 Gf 22 21 false 3 2<|
 Gl 23 21 false 1 22<|
 qg 24 21 false (.call F.route_stop [(.t 23)])<|
 qg 25 21 false (.un .not (.t 24))<|
 Qo 26 21 25<|
 Qm 27 26<|
 Gf 28 27 false 2 2<|
 Gl 29 27 false 1 28<|
 qg 30 27 false (.bin .lss (.t 29) (ci 0))<|
 Qo 31 27 30<|
 Qm 32 31<|
 Gf 33 32 false 2 2<|
 Gl 34 32 false 1 33<|
 qg 35 32 false (.bin .geq (.t 34) (ci 1440))<|
 Qo 36 32 35<|
 Qm 37 36<|
 Gf 38 37 false 4 2<|
 Gl 39 37 false 1 38<|
 Gf 40 37 false 2 2<|
 Gl 41 37 false 1 40<|
 qg 42 37 false (.bin .leq (.t 39) (.t 41))<|
 Qo 43 37 42<|
 Qm 44 43<|
 Gf 45 44 false 4 2<|
 Gl 46 44 false 1 45<|
 qg 47 44 false (.bin .gtr (.t 46) (ci 2879))<|
 Qo 48 44 47<|
 Qm 3 48<|
 .keep [3]<|
 .ret
theorem Ci:EF false F.route_May_2 P2 [.t 3]:=ef [] Tryz.func221 (by kernel_rfl) (by kernel_rfl) (by kernel_rfl)
def N7 : IC :=
 q 2 (.mv (cb false))<|
 .keep [0]<|
 Qm 3 0<|
 q 4 (.bin .geq (.t 3) (ci 0))<|
 Qm 5 4<|
 Gm 6 5 true 0<|
 qg 7 5 true (.bin .lss (.t 6) (ci 32))<|
 Qk 8 5 7<|
 Qm 2 8<|
 .keep [2]<|
 .ret
theorem A5:EF false F.route_stop N7 [.t 2]:=ef [] Tryz.func222 (by kernel_rfl) (by kernel_rfl) (by kernel_rfl)
def Yw : IC :=
 q 4 (.mv (cb false))<|
 .keep [0,1]<|
 Qm 5 0<|
 Qm 6 1<|
 q 7 (.call F.slices_IndexFunc_api_Service_api_Service [(.t 5),(.t 6)])<|
 q 8 (.bin .geq (.t 7) (ci 0))<|
 Qm 4 8<|
 .keep [4]<|
 .ret
theorem X8:EF false F.slices_ContainsFunc_api_Service_api_Service Yw [.t 4]:=ef [] Tryz.func223 (by kernel_rfl) (by kernel_rfl) (by kernel_rfl)
def Xb : IC :=
 q 4 (.mv (cb false))<|
 .keep [0,1]<|
 Qm 5 0<|
 Qm 6 1<|
 q 7 (.call F.slices_IndexFunc_api_Conn_api_Conn [(.t 5),(.t 6)])<|
 q 8 (.bin .geq (.t 7) (ci 0))<|
 Qm 4 8<|
 .keep [4]<|
 .ret
theorem Wt:EF false F.slices_ContainsFunc_api_Conn_api_Conn Xb [.t 4]:=ef [] Tryz.func224 (by kernel_rfl) (by kernel_rfl) (by kernel_rfl)
def S9 : IC :=
 Qb 5 0<|
 q 10 (.mv (cb false))<|
 q 11 (.mv (.c (.nilIface)))<|
 .keep [1,2,3,4,5]<|
 Qa 16 2 5<|
 Qm 17 1<|
 Qm 18 2<|
 Qm 19 3<|
 Qm 20 4<|
 q 21 (.call F.route_Earliest [(.t 16),(.t 17),(.t 18),(.t 19),(.t 20)])<|
 Qm 15 21<|
 Qe 22 15 0<|
 Qe 23 15 1<|
 Qe 24 15 2<|
 Qm 12 22<|
 Qm 13 23<|
 Qm 14 24<|
 .keep [13,14]<|
 Qm 25 13<|
 Qm 26 14<|
 Qm 10 25<|
 Qm 11 26<|
 .keep [10,11]<|
 .ret
theorem Ji:EF false F.route_Feasible S9 [.t 10,.t 11]:=ef [] Tryz.func281 (by kernel_rfl) (by kernel_rfl) (by kernel_rfl)
def Y5 : IC :=
 q 4 (.mv (ci 0))<|
 .keep [0,1]<|
 Qm 6 0<|
 Qw 7 6<|
 q 8 (.mv (ci 0))<|
 .keep [0,1,7,8]<|
 .block 0
 (.keep [0,1,7,8]<|
 .loop
 (q 9 (.bin .lss (.t 8) (.t 7))<|
 .keep [0,1,7,8,9]<|
 .ite (.t 9)
 (.done)
 (.exit 0)<|
 .block 1
 (Qm 10 8<|
 Qm 5 10<|
 .keep [0,1,5,7,8]<|
 Qm 11 1<|
 Qm 12 0<|
 Qm 13 5<|
 q 14 (.idxa 5 none (.t 12) (.t 13))<|
 Qa 15 5 14<|
 q 16 (.callv (.t 11) [(.t 15)])<|
 .keep [0,1,5,7,8,16]<|
 .ite (.t 16)
 (Qm 17 5<|
 Qm 4 17<|
 .keep [4]<|
 .ret)
 (.done)<|
 .done)<|
 q 18 (.bin .add (.t 8) (ci 1))<|
 Qm 8 18<|
 .keep [0,1,7,8]<|
 .keep [0,1,7,8]<|
 .done))<|
 q 4 (.mv (ci (-1)))<|
 .keep [4]<|
 .ret
theorem Wf:EF false F.slices_IndexFunc_api_Service_api_Service Y5 [.t 4]:=ef [] Tryz.func299 (by kernel_rfl) (by kernel_rfl) (by kernel_rfl)
def Xi : IC :=
 q 4 (.mv (ci 0))<|
 .keep [0,1]<|
 Qm 6 0<|
 Qw 7 6<|
 q 8 (.mv (ci 0))<|
 .keep [0,1,7,8]<|
 .block 0
 (.keep [0,1,7,8]<|
 .loop
 (q 9 (.bin .lss (.t 8) (.t 7))<|
 .keep [0,1,7,8,9]<|
 .ite (.t 9)
 (.done)
 (.exit 0)<|
 .block 1
 (Qm 10 8<|
 Qm 5 10<|
 .keep [0,1,5,7,8]<|
 Qm 11 1<|
 Qm 12 0<|
 Qm 13 5<|
 q 14 (.idxa 5 none (.t 12) (.t 13))<|
 Qa 15 5 14<|
 q 16 (.callv (.t 11) [(.t 15)])<|
 .keep [0,1,5,7,8,16]<|
 .ite (.t 16)
 (Qm 17 5<|
 Qm 4 17<|
 .keep [4]<|
 .ret)
 (.done)<|
 .done)<|
 q 18 (.bin .add (.t 8) (ci 1))<|
 Qm 8 18<|
 .keep [0,1,7,8]<|
 .keep [0,1,7,8]<|
 .done))<|
 q 4 (.mv (ci (-1)))<|
 .keep [4]<|
 .ret
theorem W9:EF false F.slices_IndexFunc_api_Conn_api_Conn Xi [.t 4]:=ef [] Tryz.func300 (by kernel_rfl) (by kernel_rfl) (by kernel_rfl)
def Ra : IC :=
 Qb 5 0<|
 q 10 (.mv (ci 0))<|
 q 11 (.mv (cb false))<|
 q 12 (.mv (.c (.nilIface)))<|
 .keep [1,2,3,4,5]<|
 Qa 17 2 5<|
 q 18 (.call F.route_May [(.t 17)])<|
 q 19 (.un .not (.t 18))<|
 Qm 20 19<|
 Gm 21 20 false 1<|
 qg 22 20 false (.call F.route_stop [(.t 21)])<|
 qg 23 20 false (.un .not (.t 22))<|
 Qo 24 20 23<|
 Qm 25 24<|
 Gm 26 25 false 3<|
 qg 27 25 false (.call F.route_stop [(.t 26)])<|
 qg 28 25 false (.un .not (.t 27))<|
 Qo 29 25 28<|
 Qm 30 29<|
 Gm 31 30 false 2<|
 qg 32 30 false (.bin .lss (.t 31) (ci 0))<|
 Qo 33 30 32<|
 Qm 34 33<|
 Gm 35 34 false 2<|
 qg 36 34 false (.bin .gtr (.t 35) (ci 1073741824))<|
 Qo 37 34 36<|
 Qm 38 37<|
 Gm 39 38 false 4<|
 Gm 40 38 false 2<|
 qg 41 38 false (.bin .lss (.t 39) (.t 40))<|
 Qo 42 38 41<|
 Qm 43 42<|
 Gm 44 43 false 4<|
 Gm 45 43 false 2<|
 qg 46 43 false (.bin .add (.t 45) (ci 4320))<|
 qg 47 43 false (.bin .gtr (.t 44) (.t 46))<|
 Qo 48 43 47<|
 .keep [1,2,3,4,5,48]<|
 .ite (.t 48)
 (q 49 (.mkif T.api_Code (ci 1))<|
 q 10 (.mv (ci 0))<|
 q 11 (.mv (cb false))<|
 Qm 12 49<|
 .keep [10,11,12]<|
 .ret)
 (.done)<|
 q 13 (.alloc (List.replicate 32 (.int .i64 0)))<|
 .keep [1,2,3,4,5,13]<|
 q 50 (.mv (ci 0))<|
 .keep [1,2,3,4,5,13,50]<|
 .block 0
 (.keep [1,2,3,4,5,13,50]<|
 .loop
 (q 51 (.bin .lss (.t 50) (ci 32))<|
 .keep [1,2,3,4,5,13,50,51]<|
 .ite (.t 51)
 (.done)
 (.exit 0)<|
 .block 1
 (Qm 52 50<|
 Qm 14 52<|
 .keep [1,2,3,4,5,13,14,50]<|
 Qm 53 14<|
 Qm 54 4<|
 q 55 (.bin .add (.t 54) (ci 1))<|
 q 56 (.idxa 1 (some 32) (.t 13) (.t 53))<|
 Qs 1 56 55<|
 .keep [1,2,3,4,5,13,50]<|
 .done)<|
 q 57 (.bin .add (.t 50) (ci 1))<|
 Qm 50 57<|
 .keep [1,2,3,4,5,13,50]<|
 .keep [1,2,3,4,5,13,50]<|
 .done))<|
 Qm 58 1<|
 Qm 59 2<|
 q 60 (.idxa 1 (some 32) (.t 13) (.t 58))<|
 Qs 1 60 59<|
 .keep [2,3,4,5,13]<|
 Qa 61 2 5<|
 Qm 62 2<|
 Qm 63 4<|
 q 64 (.call F.route_rides [(.t 61),(.t 62),(.t 63)])<|
 Qw 65 64<|
 q 66 (.mv (ci 0))<|
 .keep [3,4,13,64,65,66]<|
 .block 2
 (.keep [3,4,13,64,65,66]<|
 .loop
 (q 67 (.bin .lss (.t 66) (.t 65))<|
 .keep [3,4,13,64,65,66,67]<|
 .ite (.t 67)
 (.done)
 (.exit 2)<|
 .block 3
 (q 68 (.idxa 4 none (.t 64) (.t 66))<|
 Qa 69 4 68<|
 q 16 (.alloc (List.replicate 4 (.int .i64 0)))<|
 Qs 4 16 69<|
 .keep [3,4,13,16,64,65,66]<|
 Qf 70 0 16<|
 Ql 71 1 70<|
 q 72 (.idxa 1 (some 32) (.t 13) (.t 71))<|
 Ql 73 1 72<|
 Qf 74 1 16<|
 Ql 75 1 74<|
 q 76 (.bin .leq (.t 73) (.t 75))<|
 .keep [3,4,13,16,64,65,66,76]<|
 .ite (.t 76)
 (Qf 77 2 16<|
 Ql 78 1 77<|
 Qf 79 2 16<|
 Ql 80 1 79<|
 q 81 (.idxa 1 (some 32) (.t 13) (.t 80))<|
 Ql 82 1 81<|
 Qf 83 3 16<|
 Ql 84 1 83<|
 q 85 (.mn (.t 82) (.t 84))<|
 q 86 (.idxa 1 (some 32) (.t 13) (.t 78))<|
 Qs 1 86 85<|
 .keep [3,4,13,64,65,66]<|
 .done)
 (.done)<|
 .done)<|
 q 87 (.bin .add (.t 66) (ci 1))<|
 Qm 66 87<|
 .keep [3,4,13,64,65,66]<|
 .keep [3,4,13,64,65,66]<|
 .done))<|
 Qm 88 3<|
 q 89 (.idxa 1 (some 32) (.t 13) (.t 88))<|
 Ql 90 1 89<|
 Qm 91 4<|
 q 92 (.bin .gtr (.t 90) (.t 91))<|
 .keep [3,13,92]<|
 .ite (.t 92)
 (q 10 (.mv (ci 0))<|
 q 11 (.mv (cb false))<|
 q 12 (.mv (.c (.nilIface)))<|
 .keep [10,11,12]<|
 .ret)
 (.done)<|
 Qm 93 3<|
 q 94 (.idxa 1 (some 32) (.t 13) (.t 93))<|
 Ql 95 1 94<|
 Qm 10 95<|
 q 11 (.mv (cb true))<|
 q 12 (.mv (.c (.nilIface)))<|
 .keep [10,11,12]<|
 .ret
theorem Jj:EF false F.route_Earliest Ra [.t 10,.t 11,.t 12]:=ef [] Tryz.func321 (by kernel_rfl) (by kernel_rfl) (by kernel_rfl)
def P1 : IC :=
 Qb 3 0<|
 q 6 (.mv (.c (.slice none 0 0)))<|
 .keep [1,2,3]<|
 q 7 (.mv (.c (.slice none 0 0)))<|
 .keep [1,2,3,7]<|
 Qm 12 1<|
 q 13 (.bin .quo (.t 12) (ci 1440))<|
 Qm 8 13<|
 .keep [1,2,3,7,8]<|
 .block 0
 (.keep [1,2,3,7,8]<|
 .loop
 (Qm 14 8<|
 Qm 15 2<|
 q 16 (.bin .quo (.t 15) (ci 1440))<|
 q 17 (.bin .leq (.t 14) (.t 16))<|
 .keep [1,2,3,7,8,17]<|
 .ite (.t 17)
 (.done)
 (.exit 0)<|
 .block 1
 (Qf 20 1 3<|
 Ql 21 1 20<|
 Qw 22 21<|
 q 23 (.mv (ci 0))<|
 .keep [1,2,3,7,8,21,22,23]<|
 .block 2
 (.keep [1,2,3,7,8,21,22,23]<|
 .loop
 (q 24 (.bin .lss (.t 23) (.t 22))<|
 .keep [1,2,3,7,8,21,22,23,24]<|
 .ite (.t 24)
 (.done)
 (.exit 2)<|
 .block 3
 (q 25 (.idxa 5 none (.t 21) (.t 23))<|
 Qa 26 5 25<|
 q 10 (.alloc (List.replicate 5 (.int .i64 0)))<|
 Qs 5 10 26<|
 .keep [1,2,3,7,8,10,21,22,23]<|
 Qf 27 1 10<|
 Ql 28 1 27<|
 Qm 29 8<|
 q 30 (.bin .mul (.t 29) (ci 1440))<|
 Qf 31 2 10<|
 Ql 32 1 31<|
 q 33 (.bin .add (.t 30) (.t 32))<|
 Qf 34 3 10<|
 Ql 35 1 34<|
 Qm 36 8<|
 q 37 (.bin .mul (.t 36) (ci 1440))<|
 Qf 38 4 10<|
 Ql 39 1 38<|
 q 40 (.bin .add (.t 37) (.t 39))<|
 q 41 (.build (List.replicate 4 (.int .i64 0)) [(0,1,(.t 28)),(1,1,(.t 33)),(2,1,(.t 35)),(3,1,(.t 40))])<|
 q 11 (.alloc (List.replicate 4 (.int .i64 0)))<|
 Qs 4 11 41<|
 .keep [1,2,3,7,8,10,11,21,22,23]<|
 Qf 42 1 11<|
 Ql 43 1 42<|
 Qm 44 1<|
 q 45 (.bin .geq (.t 43) (.t 44))<|
 Qm 46 45<|
 Gf 47 46 true 3 11<|
 Gl 48 46 true 1 47<|
 Gm 49 46 true 2<|
 qg 50 46 true (.bin .leq (.t 48) (.t 49))<|
 Qk 51 46 50<|
 Qm 52 51<|
 Gf 53 52 true 0 3<|
 Gl 54 52 true 1 53<|
 Gf 55 52 true 0 10<|
 Gl 56 52 true 1 55<|
 qg 57 52 true (.idxa 5 none (.t 54) (.t 56))<|
 Ga 58 52 true 5 57<|
 Gm 59 52 true 8<|
 qg 60 52 true (.call F.service_Runs [(.t 58),(.t 59)])<|
 Qk 61 52 60<|
 .keep [1,2,3,7,8,11,21,22,23,61]<|
 .ite (.t 61)
 (Qm 62 7<|
 Qa 63 4 11<|
 q 64 (.bslice false 4 1 (List.replicate 4 (.int .i64 0)) [(0,4,(.t 63))])<|
 q 65 (.append 4 32 (.t 62) (.t 64))<|
 Qm 7 65<|
 .keep [1,2,3,7,8,21,22,23]<|
 .done)
 (.done)<|
 .done)<|
 q 66 (.bin .add (.t 23) (ci 1))<|
 Qm 23 66<|
 .keep [1,2,3,7,8,21,22,23]<|
 .keep [1,2,3,7,8,21,22,23]<|
 .done))<|
 .done)<|
 Qm 18 8<|
 q 19 (.bin .add (.t 18) (ci 1))<|
 Qm 8 19<|
 .keep [1,2,3,7,8]<|
 .keep [1,2,3,7,8]<|
 .done))<|
 Qm 67 7<|
 q 68 (.call F.slices_SortFunc_route_ride_route_ride [(.t 67),(.f F.route_rides_1)])<|
 .keep [7]<|
 Qm 69 7<|
 Qm 6 69<|
 .keep [6]<|
 .ret
theorem Ch:EF false F.route_rides P1 [.t 6]:=ef [] Tryz.func340 (by kernel_rfl) (by kernel_rfl) (by kernel_rfl)
def Th : IC :=
 Qb 1 0<|
 q 2 (.mv (cb false))<|
 .keep [1]<|
 Qf 8 0 1<|
 Qa 9 7 8<|
 q 10 (.call F.clapperref22_FewRules [(.t 9)])<|
 Qm 3 10<|
 .keep [1,3]<|
 Qm 11 3<|
 q 12 (.un .not (.t 11))<|
 Qm 13 12<|
 Gf 14 13 false 7 1<|
 Gl 15 13 false 1 14<|
 qg 16 13 false (.len false (.t 15))<|
 qg 17 13 false (.bin .gtr (.t 16) (ci 20))<|
 Qo 18 13 17<|
 Qm 19 18<|
 Gf 20 19 false 8 1<|
 Gl 21 19 false 1 20<|
 qg 22 19 false (.len false (.t 21))<|
 qg 23 19 false (.bin .gtr (.t 22) (ci 120))<|
 Qo 24 19 23<|
 .keep [1,24]<|
 .ite (.t 24)
 (q 2 (.mv (cb false))<|
 .keep [2]<|
 .ret)
 (.done)<|
 q 4 (.mv (ci 0))<|
 .keep [1,4]<|
 q 5 (.mv (ci 0))<|
 .keep [1,4,5]<|
 .block 0
 (.keep [1,4,5]<|
 .loop
 (Qm 25 5<|
 Qf 26 7 1<|
 Ql 27 1 26<|
 Qw 28 27<|
 q 29 (.bin .lss (.t 25) (.t 28))<|
 .keep [1,4,5,29]<|
 .ite (.t 29)
 (.done)
 (.exit 0)<|
 .block 1
 (Qm 32 4<|
 Qf 33 7 1<|
 Ql 34 1 33<|
 Qm 35 5<|
 q 36 (.idxa 2 none (.t 34) (.t 35))<|
 Qf 37 1 36<|
 Ql 38 1 37<|
 Qw 39 38<|
 q 40 (.bin .add (.t 32) (.t 39))<|
 Qm 4 40<|
 .keep [1,4,5]<|
 q 6 (.mv (ci 0))<|
 .keep [1,4,5,6]<|
 .block 2
 (.keep [1,4,5,6]<|
 .loop
 (Qm 41 6<|
 Qf 42 7 1<|
 Ql 43 1 42<|
 Qm 44 5<|
 q 45 (.idxa 2 none (.t 43) (.t 44))<|
 Qf 46 1 45<|
 Ql 47 1 46<|
 Qw 48 47<|
 q 49 (.bin .lss (.t 41) (.t 48))<|
 .keep [1,4,5,6,49]<|
 .ite (.t 49)
 (.done)
 (.exit 2)<|
 .block 3
 (Qf 52 7 1<|
 Ql 53 1 52<|
 Qm 54 5<|
 q 55 (.idxa 2 none (.t 53) (.t 54))<|
 Qf 56 1 55<|
 Ql 57 1 56<|
 Qm 58 6<|
 q 59 (.idxa 1 none (.t 57) (.t 58))<|
 Ql 60 1 59<|
 Qw 61 60<|
 q 62 (.bin .gtr (.t 61) (ci 3000))<|
 .keep [1,4,5,6,62]<|
 .ite (.t 62)
 (q 2 (.mv (cb false))<|
 .keep [2]<|
 .ret)
 (.done)<|
 .done)<|
 Qm 50 6<|
 q 51 (.bin .add (.t 50) (ci 1))<|
 Qm 6 51<|
 .keep [1,4,5,6]<|
 .keep [1,4,5,6]<|
 .done))<|
 .done)<|
 Qm 30 5<|
 q 31 (.bin .add (.t 30) (ci 1))<|
 Qm 5 31<|
 .keep [1,4,5]<|
 .keep [1,4,5]<|
 .done))<|
 q 7 (.mv (ci 0))<|
 .keep [1,4,7]<|
 .block 4
 (.keep [1,4,7]<|
 .loop
 (Qm 63 7<|
 Qf 64 8 1<|
 Ql 65 1 64<|
 Qw 66 65<|
 q 67 (.bin .lss (.t 63) (.t 66))<|
 .keep [1,4,7,67]<|
 .ite (.t 67)
 (.done)
 (.exit 4)<|
 .block 5
 (Qf 70 8 1<|
 Ql 71 1 70<|
 Qm 72 7<|
 q 73 (.idxa 7 none (.t 71) (.t 72))<|
 Qf 74 5 73<|
 Ql 75 1 74<|
 Qw 76 75<|
 q 77 (.bin .gtr (.t 76) (ci 2000))<|
 .keep [1,4,7,77]<|
 .ite (.t 77)
 (q 2 (.mv (cb false))<|
 .keep [2]<|
 .ret)
 (.done)<|
 .done)<|
 Qm 68 7<|
 q 69 (.bin .add (.t 68) (ci 1))<|
 Qm 7 69<|
 .keep [1,4,7]<|
 .keep [1,4,7]<|
 .done))<|
 Qm 78 4<|
 q 79 (.bin .leq (.t 78) (ci 12))<|
 Qm 2 79<|
 .keep [2]<|
 .ret
theorem Mu:EF false F.clapperref22_Few Th [.t 2]:=ef [] Tryz.func14 (by kernel_rfl) (by kernel_rfl) (by kernel_rfl)
def Tf : IC :=
 Qf 81 8 1<|
 Ql 82 1 81<|
 Qw 83 82<|
 q 84 (.mv (ci 0))<|
 .keep [3,82,83,84]<|
 .block 4
 (.keep [3,82,83,84]<|
 .loop
 (q 85 (.bin .lss (.t 84) (.t 83))<|
 .keep [3,82,83,84,85]<|
 .ite (.t 85)
 (.done)
 (.exit 4)<|
 .block 5
 (q 86 (.idxa 7 none (.t 82) (.t 84))<|
 Qa 87 7 86<|
 q 11 (.alloc [.int .i64 0,.int .i64 0,.int .i64 0,.int .i64 0,.int .i64 0,.slice none 0 0,.bool false])<|
 Qs 7 11 87<|
 .keep [3,11,82,83,84]<|
 Qa 89 9 3<|
 Qa 90 7 11<|
 q 91 (.call F.facts_enter [(.t 89),(.t 90)])<|
 Qm 88 91<|
 Qe 92 88 0<|
 Qe 93 88 1<|
 q 12 (.alloc [.slice none 0 0,.slice none 0 0,.slice none 0 0,.slice none 0 0,.slice none 0 0,.slice none 0 0,.int .i64 0,.slice none 0 0,.slice none 0 0])<|
 Qs 9 12 92<|
 Qm 13 93<|
 .keep [3,12,13,82,83,84]<|
 Qm 94 13<|
 q 95 (.eq true .i (.t 94) (.c (.nilIface)))<|
 .keep [3,12,82,83,84,95]<|
 .ite (.t 95)
 (q 2 (.mv (cb false))<|
 .keep [2]<|
 .ret)
 (.done)<|
 Qa 96 9 12<|
 Qs 9 3 96<|
 .keep [3,82,83,84]<|
 .done)<|
 q 97 (.bin .add (.t 84) (ci 1))<|
 Qm 84 97<|
 .keep [3,82,83,84]<|
 .keep [3,82,83,84]<|
 .done))<|
 q 2 (.mv (cb true))<|
 .keep [2]<|
 .ret
def Tg : IC :=
 Qf 61 1 5<|
 Ql 62 1 61<|
 Qw 63 62<|
 q 64 (.mv (ci 0))<|
 .keep [1,3,5,34,35,36,62,63,64]<|
 .block 2
 (.keep [1,3,5,34,35,36,62,63,64]<|
 .loop
 (q 65 (.bin .lss (.t 64) (.t 63))<|
 .keep [1,3,5,34,35,36,62,63,64,65]<|
 .ite (.t 65)
 (.done)
 (.exit 2)<|
 .block 3
 (q 66 (.idxa 1 none (.t 62) (.t 64))<|
 Ql 67 1 66<|
 Qm 7 67<|
 .keep [1,3,5,7,34,35,36,62,63,64]<|
 Qa 69 9 3<|
 Qf 70 0 5<|
 Ql 71 1 70<|
 Qm 72 7<|
 q 73 (.call F.facts_take [(.t 69),(.t 71),(.t 72)])<|
 Qm 68 73<|
 Qe 74 68 0<|
 Qe 75 68 1<|
 q 8 (.alloc [.slice none 0 0,.slice none 0 0,.slice none 0 0,.slice none 0 0,.slice none 0 0,.slice none 0 0,.int .i64 0,.slice none 0 0,.slice none 0 0])<|
 Qs 9 8 74<|
 Qm 9 75<|
 .keep [1,3,5,8,9,34,35,36,62,63,64]<|
 Qm 76 9<|
 q 77 (.eq true .i (.t 76) (.c (.nilIface)))<|
 .keep [1,3,5,8,34,35,36,62,63,64,77]<|
 .ite (.t 77)
 (q 2 (.mv (cb false))<|
 .keep [2]<|
 .ret)
 (.done)<|
 Qa 78 9 8<|
 Qs 9 3 78<|
 .keep [1,3,5,34,35,36,62,63,64]<|
 .done)<|
 q 79 (.bin .add (.t 64) (ci 1))<|
 Qm 64 79<|
 .keep [1,3,5,34,35,36,62,63,64]<|
 .keep [1,3,5,34,35,36,62,63,64]<|
 .done))<|
 .done
def Kz : IC :=
 Qb 1 0<|
 q 2 (.mv (cb false))<|
 .keep [1]<|
 Qf 14 0 1<|
 Qa 15 7 14<|
 q 16 (.call F.facts_Rules [(.t 15)])<|
 q 17 (.un .not (.t 16))<|
 Qm 18 17<|
 Gf 19 18 false 7 1<|
 Gl 20 18 false 1 19<|
 qg 21 18 false (.len false (.t 20))<|
 qg 22 18 false (.bin .gtr (.t 21) (ci 8))<|
 Qo 23 18 22<|
 Qm 24 23<|
 Gf 25 24 false 8 1<|
 Gl 26 24 false 1 25<|
 qg 27 24 false (.len false (.t 26))<|
 qg 28 24 false (.bin .gtr (.t 27) (ci 100))<|
 Qo 29 24 28<|
 .keep [1,29]<|
 .ite (.t 29)
 (q 2 (.mv (cb false))<|
 .keep [2]<|
 .ret)
 (.done)<|
 Qf 30 0 1<|
 Qa 31 7 30<|
 q 32 (.build [.slice none 0 0,.slice none 0 0,.slice none 0 0,.slice none 0 0,.slice none 0 0,.slice none 0 0,.int .i64 0,.slice none 0 0,.slice none 0 0] [(0,7,(.t 31))])<|
 q 3 (.alloc [.slice none 0 0,.slice none 0 0,.slice none 0 0,.slice none 0 0,.slice none 0 0,.slice none 0 0,.int .i64 0,.slice none 0 0,.slice none 0 0])<|
 Qs 9 3 32<|
 .keep [1,3]<|
 Qf 33 7 1<|
 Ql 34 1 33<|
 Qw 35 34<|
 q 36 (.mv (ci 0))<|
 .keep [1,3,34,35,36]<|
 .block 0
 (.keep [1,3,34,35,36]<|
 .loop
 (q 37 (.bin .lss (.t 36) (.t 35))<|
 .keep [1,3,34,35,36,37]<|
 .ite (.t 37)
 (.done)
 (.exit 0)<|
 .block 1
 (Qm 38 36<|
 q 39 (.idxa 2 none (.t 34) (.t 36))<|
 Qa 40 2 39<|
 q 5 (.alloc [.int .i64 0,.slice none 0 0])<|
 Qm 4 38<|
 Qs 2 5 40<|
 .keep [1,3,4,5,34,35,36]<|
 Qm 41 4<|
 q 42 (.bin .gtr (.t 41) (ci 0))<|
 Qm 43 42<|
 Gf 44 43 true 7 1<|
 Gl 45 43 true 1 44<|
 Gm 46 43 true 4<|
 qg 47 43 true (.bin .sub (.t 46) (ci 1))<|
 qg 48 43 true (.idxa 2 none (.t 45) (.t 47))<|
 Gf 49 43 true 0 48<|
 Gl 50 43 true 1 49<|
 Gf 51 43 true 0 5<|
 Gl 52 43 true 1 51<|
 qg 53 43 true (.bin .geq (.t 50) (.t 52))<|
 Qk 54 43 53<|
 Qm 55 54<|
 Gf 56 55 false 1 5<|
 Gl 57 55 false 1 56<|
 qg 58 55 false (.len false (.t 57))<|
 qg 59 55 false (.bin .eql (.t 58) (ci 0))<|
 Qo 60 55 59<|
 .keep [1,3,5,34,35,36,60]<|
 .ite (.t 60)
 (q 2 (.mv (cb false))<|
 .keep [2]<|
 .ret)
 (.done)<|
 Tg)<|
 q 80 (.bin .add (.t 36) (ci 1))<|
 Qm 36 80<|
 .keep [1,3,34,35,36]<|
 .keep [1,3,34,35,36]<|
 .done))<|
 Tf
theorem Zc9:EF false F.facts_May Kz [.t 2]:=ef [] Tryz.func17 (by kernel_rfl) (by kernel_rfl) (by kernel_rfl)
def Ve : IC :=
 Qb 1 0<|
 q 2 (.mv (cb false))<|
 .keep [1]<|
 Qf 5 4 1<|
 Qa 6 2 5<|
 q 7 (.call F.clapperref13_Few [(.t 6)])<|
 Qm 3 7<|
 .keep [1,3]<|
 Qf 8 1 1<|
 Qf 9 2 8<|
 Ql 10 1 9<|
 q 11 (.call F.clapperref14_Few [(.t 10)])<|
 Qm 4 11<|
 .keep [1,3,4]<|
 Qm 12 3<|
 Qm 13 12<|
 Gm 14 13 true 4<|
 Qk 15 13 14<|
 Qm 16 15<|
 Gf 17 16 true 0 1<|
 Gl 18 16 true 1 17<|
 qg 19 16 true (.len false (.t 18))<|
 qg 20 16 true (.bin .leq (.t 19) (ci 40))<|
 Qk 21 16 20<|
 Qm 22 21<|
 Gf 23 22 true 1 1<|
 Gf 24 22 true 0 23<|
 Gl 25 22 true 1 24<|
 qg 26 22 true (.len false (.t 25))<|
 qg 27 22 true (.bin .leq (.t 26) (ci 40))<|
 Qk 28 22 27<|
 Qm 29 28<|
 Gf 30 29 true 1 1<|
 Gf 31 29 true 1 30<|
 Gl 32 29 true 1 31<|
 qg 33 29 true (.len false (.t 32))<|
 qg 34 29 true (.bin .leq (.t 33) (ci 300))<|
 Qk 35 29 34<|
 Qm 2 35<|
 .keep [2]<|
 .ret
theorem Rq:EF false F.clapperref22_FewRules Ve [.t 2]:=ef [] Tryz.func43 (by kernel_rfl) (by kernel_rfl) (by kernel_rfl)
def Mf : IC :=
 Qb 3 0<|
 q 6 (.alloc [.slice none 0 0,.slice none 0 0,.slice none 0 0,.slice none 0 0,.slice none 0 0,.slice none 0 0,.int .i64 0,.slice none 0 0,.slice none 0 0])<|
 q 7 (.mv (.c (.nilIface)))<|
 .keep [1,2,3,6]<|
 Qm 21 2<|
 q 22 (.call F.record_Open [(.t 21)])<|
 Qm 20 22<|
 Qe 23 20 0<|
 Qe 24 20 1<|
 Qe 25 20 2<|
 Qe 26 20 3<|
 q 8 (.alloc zR)<|
 q 9 (.alloc (List.replicate 32 (.int .u8 0)))<|
 q 10 (.alloc (List.replicate 8 (.int .u64 0)))<|
 Qs 41 8 23<|
 Qs 32 9 24<|
 Qs 8 10 25<|
 Qm 11 26<|
 .keep [1,2,3,6,8,11]<|
 Qa 27 9 3<|
 Qm 28 1<|
 q 29 (.call F.facts_records [(.t 27),(.t 28)])<|
 Qm 12 29<|
 .keep [1,2,3,6,8,11,12]<|
 Qa 31 9 3<|
 Qm 32 1<|
 q 33 (.call F.facts_chain [(.t 31),(.t 32)])<|
 Qm 30 33<|
 Qe 34 30 0<|
 Qe 35 30 1<|
 Qm 13 34<|
 Qm 14 35<|
 .keep [1,2,3,6,8,11,12,13,14]<|
 Qf 37 0 3<|
 Qf 38 0 37<|
 Ql 39 1 38<|
 Qm 40 1<|
 Qf 41 2 8<|
 Ql 42 1 41<|
 q 43 (.call F.keys_Find [(.t 39),(.t 40),(.t 42)])<|
 Qm 36 43<|
 Qe 44 36 0<|
 Qe 45 36 1<|
 q 15 (.alloc [.int .u64 0,.int .u64 0,.int .u64 0,.int .u64 0,.int .u64 0,.int .u64 0,.int .u64 0,.int .u64 0,.bool false])<|
 Qs 9 15 44<|
 Qm 16 45<|
 .keep [1,2,3,6,8,11,12,13,14,15,16]<|
 .block 0
 (Qm 47 11<|
 q 48 (.eq true .i (.t 47) (.c (.nilIface)))<|
 Qm 49 48<|
 Gf 50 49 false 0 8<|
 Gl 51 49 false 1 50<|
 Gm 52 49 false 1<|
 qg 53 49 false (.bin .neq (.t 51) (.t 52))<|
 Qo 54 49 53<|
 Qm 46 54<|
 .keep [1,2,3,6,8,12,13,14,15,16,46]<|
 .ite (.t 46)
 (q 55 (.build [.slice none 0 0,.slice none 0 0,.slice none 0 0,.slice none 0 0,.slice none 0 0,.slice none 0 0,.int .i64 0,.slice none 0 0,.slice none 0 0] [])<|
 q 56 (.mkif T.api_Code (ci 2))<|
 Qs 9 6 55<|
 Qm 7 56<|
 .keep [6,7]<|
 .ret)
 (Qf 58 1 8<|
 Ql 59 1 58<|
 Qm 60 12<|
 Qw 61 60<|
 q 62 (.bin .neq (.t 59) (.t 61))<|
 Qm 63 62<|
 Gf 64 63 false 8 8<|
 Ga 65 63 false 32 64<|
 Gm 66 63 false 12<|
 qg 67 63 false (.call F.facts_last [(.t 66)])<|
 qg 68 63 false (.eqagg (List.replicate 32 (some .u8)) true (.t 65) (.t 67))<|
 Qo 69 63 68<|
 Qm 57 69<|
 .keep [1,2,3,6,12,13,14,15,16,57]<|
 .ite (.t 57)
 (q 70 (.build [.slice none 0 0,.slice none 0 0,.slice none 0 0,.slice none 0 0,.slice none 0 0,.slice none 0 0,.int .i64 0,.slice none 0 0,.slice none 0 0] [])<|
 q 71 (.mkif T.api_Code (ci 7))<|
 Qs 9 6 70<|
 Qm 7 71<|
 .keep [6,7]<|
 .ret)
 (Qm 73 16<|
 q 74 (.un .not (.t 73))<|
 Qm 72 74<|
 .keep [1,2,3,6,12,13,14,15,72]<|
 .ite (.t 72)
 (q 75 (.build [.slice none 0 0,.slice none 0 0,.slice none 0 0,.slice none 0 0,.slice none 0 0,.slice none 0 0,.int .i64 0,.slice none 0 0,.slice none 0 0] [])<|
 q 76 (.mkif T.api_Code (ci 4))<|
 Qs 9 6 75<|
 Qm 7 76<|
 .keep [6,7]<|
 .ret)
 (.done)<|
 .done)<|
 .done)<|
 .done)<|
 Qm 78 2<|
 Qa 79 9 15<|
 q 80 (.call F.record_Check [(.t 78),(.t 79)])<|
 Qm 77 80<|
 Qe 81 77 0<|
 Qe 82 77 1<|
 q 17 (.alloc zR)<|
 Qs 41 17 81<|
 Qm 18 82<|
 .keep [1,2,3,6,12,13,14,18]<|
 Qm 83 18<|
 q 84 (.eq true .i (.t 83) (.c (.nilIface)))<|
 .keep [1,2,3,6,12,13,14,84]<|
 .ite (.t 84)
 (q 85 (.build [.slice none 0 0,.slice none 0 0,.slice none 0 0,.slice none 0 0,.slice none 0 0,.slice none 0 0,.int .i64 0,.slice none 0 0,.slice none 0 0] [])<|
 q 86 (.mkif T.api_Code (ci 8))<|
 Qs 9 6 85<|
 Qm 7 86<|
 .keep [6,7]<|
 .ret)
 (.done)<|
 Qm 87 12<|
 Qw 88 87<|
 q 89 (.bin .geq (.t 88) (ci 60))<|
 Qm 90 89<|
 Gm 91 90 false 14<|
 qg 92 90 false (.un .not (.t 91))<|
 Gm 93 90 false 92<|
 Gf 94 93 true 7 3<|
 Gl 95 93 true 1 94<|
 qg 96 93 true (.len false (.t 95))<|
 qg 97 93 true (.bin .geq (.t 96) (ci 8))<|
 qg 98 90 false (.pick (.t 93) (.t 97) (cb false))<|
 Qo 99 90 98<|
 .keep [1,2,3,6,12,13,14,99]<|
 .ite (.t 99)
 (q 100 (.build [.slice none 0 0,.slice none 0 0,.slice none 0 0,.slice none 0 0,.slice none 0 0,.slice none 0 0,.int .i64 0,.slice none 0 0,.slice none 0 0] [])<|
 q 101 (.mkif T.api_Code (ci 6))<|
 Qs 9 6 100<|
 Qm 7 101<|
 .keep [6,7]<|
 .ret)
 (.done)<|
 Qm 102 1<|
 Qm 103 12<|
 q 104 (.call F.slices_Clip_byte_byte [(.t 103)])<|
 Qm 105 2<|
 q 106 (.call F.slices_Clone_byte_byte [(.t 105)])<|
 q 107 (.bslice false 1 1 [.slice none 0 0] [(0,1,(.t 106))])<|
 q 108 (.appv 1 24 (.t 104) (.t 107))<|
 q 109 (.build [.int .i64 0,.slice none 0 0] [(0,1,(.t 102)),(1,1,(.t 108))])<|
 q 19 (.alloc [.int .i64 0,.slice none 0 0])<|
 Qs 2 19 109<|
 .keep [3,6,13,14,19]<|
 Qf 110 7 3<|
 Ql 111 1 110<|
 q 112 (.call F.slices_Clone_api_Chain_api_Chain [(.t 111)])<|
 Qf 113 7 3<|
 Qs 1 113 112<|
 .keep [3,6,13,14,19]<|
 Qm 114 14<|
 .keep [3,6,13,19,114]<|
 .ite (.t 114)
 (Qf 115 7 3<|
 Ql 116 1 115<|
 Qm 117 13<|
 Qa 118 2 19<|
 q 119 (.idxa 2 none (.t 116) (.t 117))<|
 Qs 2 119 118<|
 .keep [3,6]<|
 .done)
 (Qf 120 7 3<|
 Ql 121 1 120<|
 Qm 122 13<|
 Qa 123 2 19<|
 q 124 (.bslice true 2 1 [.int .i64 0,.slice none 0 0] [(0,2,(.t 123))])<|
 q 125 (.call F.slices_Insert_api_Chain_api_Chain [(.t 121),(.t 122),(.t 124)])<|
 Qf 126 7 3<|
 Qs 1 126 125<|
 .keep [3,6]<|
 .done)<|
 Qa 127 9 3<|
 Qs 9 6 127<|
 q 7 (.mv (.c (.nilIface)))<|
 .keep [6,7]<|
 .ret
theorem Zad:EF false F.facts_take Mf [.c 6 true 9,.t 7]:=ef [124,108] Tryz.func59 (by kernel_rfl) (by kernel_rfl) (by kernel_rfl)
def Ob : IC :=
 Qb 1 0<|
 q 2 (.mv (cb false))<|
 .keep [1]<|
 Qf 4 1 1<|
 Qf 5 0 4<|
 Ql 6 1 5<|
 q 7 (.call F.keys_May [(.t 6)])<|
 Qm 8 7<|
 Gf 9 8 true 1 1<|
 Gf 10 8 true 1 9<|
 Gl 11 8 true 1 10<|
 qg 12 8 true (.call F.revoke_May [(.t 11)])<|
 Qk 13 8 12<|
 Qm 14 13<|
 Gf 15 14 true 1 1<|
 Gf 16 14 true 2 15<|
 Gl 17 14 true 1 16<|
 qg 18 14 true (.call F.fare_May [(.t 17)])<|
 Qk 19 14 18<|
 Qm 3 19<|
 .keep [1,3]<|
 Qm 20 3<|
 Qm 21 20<|
 Gf 22 21 true 0 1<|
 Gl 23 21 true 1 22<|
 qg 24 21 true (.call F.keys_May [(.t 23)])<|
 Qk 25 21 24<|
 Qm 26 25<|
 Gf 27 26 true 0 1<|
 Gl 28 26 true 1 27<|
 qg 29 26 true (.len false (.t 28))<|
 qg 30 26 true (.bin .leq (.t 29) (ci 8))<|
 Qk 31 26 30<|
 Qm 32 31<|
 Gf 33 32 true 4 1<|
 Ga 34 32 true 2 33<|
 qg 35 32 true (.call F.route_May [(.t 34)])<|
 Qk 36 32 35<|
 Qm 37 36<|
 Gf 38 37 true 6 1<|
 Gl 39 37 true 1 38<|
 qg 40 37 true (.bin .geq (.t 39) (ci 1))<|
 Qk 41 37 40<|
 Qm 42 41<|
 Gf 43 42 true 6 1<|
 Gl 44 42 true 1 43<|
 qg 45 42 true (.bin .leq (.t 44) (ci 1073741824))<|
 Qk 46 42 45<|
 Qm 2 46<|
 .keep [2]<|
 .ret
theorem Cs:EF false F.facts_Rules Ob [.t 2]:=ef [] Tryz.func61 (by kernel_rfl) (by kernel_rfl) (by kernel_rfl)
def P9 : IC :=
 Qb 2 0<|
 Qb 3 1<|
 q 4 (.alloc [.slice none 0 0,.slice none 0 0,.slice none 0 0,.slice none 0 0,.slice none 0 0,.slice none 0 0,.int .i64 0,.slice none 0 0,.slice none 0 0])<|
 q 5 (.mv (.c (.nilIface)))<|
 .keep [2,3,4]<|
 Qa 14 9 2<|
 Qf 15 1 3<|
 Ql 16 1 15<|
 Qf 17 2 3<|
 Ql 18 1 17<|
 q 19 (.call F.facts_notice [(.t 14),(.t 16),(.t 18)])<|
 Qm 13 19<|
 Qe 20 13 0<|
 Qe 21 13 1<|
 q 6 (.alloc zR)<|
 Qs 41 6 20<|
 Qm 7 21<|
 .keep [2,3,4,6,7]<|
 .block 0
 (Qa 23 7 3<|
 q 24 (.call F.facts_fair [(.t 23)])<|
 q 25 (.un .not (.t 24))<|
 Qm 22 25<|
 .keep [2,3,4,6,7,22]<|
 .ite (.t 22)
 (q 26 (.build [.slice none 0 0,.slice none 0 0,.slice none 0 0,.slice none 0 0,.slice none 0 0,.slice none 0 0,.int .i64 0,.slice none 0 0,.slice none 0 0] [])<|
 q 27 (.mkif T.api_Code (ci 1))<|
 Qs 9 4 26<|
 Qm 5 27<|
 .keep [4,5]<|
 .ret)
 (Qm 29 7<|
 q 30 (.un .not (.t 29))<|
 Qm 28 30<|
 .keep [2,3,4,6,28]<|
 .ite (.t 28)
 (q 31 (.build [.slice none 0 0,.slice none 0 0,.slice none 0 0,.slice none 0 0,.slice none 0 0,.slice none 0 0,.int .i64 0,.slice none 0 0,.slice none 0 0] [])<|
 q 32 (.mkif T.api_Code (ci 4))<|
 Qs 9 4 31<|
 Qm 5 32<|
 .keep [4,5]<|
 .ret)
 (.done)<|
 .done)<|
 .done)<|
 Qf 33 2 6<|
 Ql 34 1 33<|
 Qm 8 34<|
 q 9 (.mv (cb false))<|
 q 10 (.mv (cb false))<|
 .keep [2,3,4,8,9,10]<|
 Qf 35 8 2<|
 Ql 36 1 35<|
 Qw 37 36<|
 q 38 (.mv (ci 0))<|
 .keep [2,3,4,8,9,10,36,37,38]<|
 .block 1
 (.keep [2,3,4,8,9,10,36,37,38]<|
 .loop
 (q 39 (.bin .lss (.t 38) (.t 37))<|
 .keep [2,3,4,8,9,10,36,37,38,39]<|
 .ite (.t 39)
 (.done)
 (.exit 1)<|
 .block 2
 (q 40 (.idxa 7 none (.t 36) (.t 38))<|
 Qa 41 7 40<|
 q 12 (.alloc [.int .i64 0,.int .i64 0,.int .i64 0,.int .i64 0,.int .i64 0,.slice none 0 0,.bool false])<|
 Qs 7 12 41<|
 .keep [2,3,4,8,9,10,12,36,37,38]<|
 Qf 42 1 12<|
 Ql 43 1 42<|
 Qf 44 1 3<|
 Ql 45 1 44<|
 q 46 (.bin .neq (.t 43) (.t 45))<|
 Qm 47 46<|
 Gf 48 47 false 2 12<|
 Gl 49 47 false 1 48<|
 Gf 50 47 false 2 3<|
 Gl 51 47 false 1 50<|
 qg 52 47 false (.bin .neq (.t 49) (.t 51))<|
 Qo 53 47 52<|
 .keep [2,3,4,8,9,10,12,36,37,38,53]<|
 .ite (.t 53)
 (.exit 2)
 (.done)<|
 Qf 54 3 12<|
 Ql 55 1 54<|
 Qm 8 55<|
 .keep [2,3,4,8,9,10,12,36,37,38]<|
 Qm 56 10<|
 Qm 57 56<|
 Gf 58 57 false 0 12<|
 Gl 59 57 false 1 58<|
 qg 60 57 false (.bin .eql (.t 59) (ci 4))<|
 Qo 61 57 60<|
 Qm 10 61<|
 .keep [2,3,4,8,9,10,12,36,37,38]<|
 Qf 62 0 12<|
 Ql 63 1 62<|
 q 64 (.bin .eql (.t 63) (ci 2))<|
 Qm 65 64<|
 Gm 66 65 false 9<|
 Gm 67 65 false 66<|
 Gf 68 67 true 0 12<|
 Gl 69 67 true 1 68<|
 qg 70 67 true (.bin .neq (.t 69) (ci 3))<|
 qg 71 65 false (.pick (.t 67) (.t 70) (cb false))<|
 Qo 72 65 71<|
 Qm 9 72<|
 .keep [2,3,4,8,9,10,36,37,38]<|
 .done)<|
 q 73 (.bin .add (.t 38) (ci 1))<|
 Qm 38 73<|
 .keep [2,3,4,8,9,10,36,37,38]<|
 .keep [2,3,4,8,9,10,36,37,38]<|
 .done))<|
 .block 3
 (Qf 75 3 3<|
 Ql 76 1 75<|
 Qm 77 8<|
 q 78 (.bin .lss (.t 76) (.t 77))<|
 Qm 79 78<|
 Gf 80 79 false 3 3<|
 Gl 81 79 false 1 80<|
 qg 82 79 false (.bin .gtr (.t 81) (ci 1073741824))<|
 Qo 83 79 82<|
 Qm 74 83<|
 .keep [2,3,4,9,10,74]<|
 .ite (.t 74)
 (q 84 (.build [.slice none 0 0,.slice none 0 0,.slice none 0 0,.slice none 0 0,.slice none 0 0,.slice none 0 0,.int .i64 0,.slice none 0 0,.slice none 0 0] [])<|
 q 85 (.mkif T.api_Code (ci 9))<|
 Qs 9 4 84<|
 Qm 5 85<|
 .keep [4,5]<|
 .ret)
 (Qm 87 10<|
 Qm 88 87<|
 Gf 89 88 false 0 3<|
 Gl 90 88 false 1 89<|
 qg 91 88 false (.bin .eql (.t 90) (ci 2))<|
 Gm 92 88 false 91<|
 Gm 93 92 true 9<|
 qg 94 88 false (.pick (.t 92) (.t 93) (cb false))<|
 Qo 95 88 94<|
 Qm 96 95<|
 Gf 97 96 false 0 3<|
 Gl 98 96 false 1 97<|
 qg 99 96 false (.bin .eql (.t 98) (ci 3))<|
 Gm 100 96 false 99<|
 Gm 101 100 true 9<|
 qg 102 100 true (.un .not (.t 101))<|
 qg 103 96 false (.pick (.t 100) (.t 102) (cb false))<|
 Qo 104 96 103<|
 Qm 86 104<|
 .keep [2,3,4,86]<|
 .ite (.t 86)
 (q 105 (.build [.slice none 0 0,.slice none 0 0,.slice none 0 0,.slice none 0 0,.slice none 0 0,.slice none 0 0,.int .i64 0,.slice none 0 0,.slice none 0 0] [])<|
 q 106 (.mkif T.api_Code (ci 7))<|
 Qs 9 4 105<|
 Qm 5 106<|
 .keep [4,5]<|
 .ret)
 (Qf 108 8 2<|
 Ql 109 1 108<|
 Qw 110 109<|
 q 111 (.bin .geq (.t 110) (ci 100))<|
 Qm 107 111<|
 .keep [2,3,4,107]<|
 .ite (.t 107)
 (q 112 (.build [.slice none 0 0,.slice none 0 0,.slice none 0 0,.slice none 0 0,.slice none 0 0,.slice none 0 0,.int .i64 0,.slice none 0 0,.slice none 0 0] [])<|
 q 113 (.mkif T.api_Code (ci 6))<|
 Qs 9 4 112<|
 Qm 5 113<|
 .keep [4,5]<|
 .ret)
 (.done)<|
 .done)<|
 .done)<|
 .done)<|
 Qf 114 5 3<|
 Ql 115 1 114<|
 q 116 (.call F.slices_Clone_byte_byte [(.t 115)])<|
 Qf 117 5 3<|
 Qs 1 117 116<|
 .keep [2,3,4]<|
 Qf 118 8 2<|
 Ql 119 1 118<|
 q 120 (.call F.slices_Clip_api_Entry_api_Entry [(.t 119)])<|
 Qa 121 7 3<|
 q 122 (.bslice false 7 1 [.int .i64 0,.int .i64 0,.int .i64 0,.int .i64 0,.int .i64 0,.slice none 0 0,.bool false] [(0,7,(.t 121))])<|
 q 123 (.appv 7 72 (.t 120) (.t 122))<|
 Qf 124 8 2<|
 Qs 1 124 123<|
 .keep [2,4]<|
 Qa 125 9 2<|
 Qs 9 4 125<|
 q 5 (.mv (.c (.nilIface)))<|
 .keep [4,5]<|
 .ret
theorem Cq:EF false F.facts_enter P9 [.c 4 true 9,.t 5]:=ef [123] Tryz.func62 (by kernel_rfl) (by kernel_rfl) (by kernel_rfl)
def Q5 : IC :=
 Qb 3 0<|
 q 6 (.alloc zR)<|
 q 7 (.mv (cb false))<|
 .keep [1,2,3,6]<|
 Qa 13 9 3<|
 Qm 14 1<|
 q 15 (.call F.facts_records [(.t 13),(.t 14)])<|
 Qm 8 15<|
 .keep [2,6,8]<|
 Qm 16 2<|
 q 17 (.bin .lss (.t 16) (ci 0))<|
 Qm 18 17<|
 Gm 19 18 false 2<|
 Gm 20 18 false 8<|
 qg 21 18 false (.len false (.t 20))<|
 qg 22 18 false (.bin .geq (.t 19) (.t 21))<|
 Qo 23 18 22<|
 .keep [2,6,8,23]<|
 .ite (.t 23)
 (q 24 (.build zR [])<|
 Qs 41 6 24<|
 q 7 (.mv (cb false))<|
 .keep [6,7]<|
 .ret)
 (.done)<|
 Qm 26 8<|
 Qm 27 2<|
 q 28 (.idxa 1 none (.t 26) (.t 27))<|
 Ql 29 1 28<|
 q 30 (.call F.record_Open [(.t 29)])<|
 Qm 25 30<|
 Qe 31 25 0<|
 Qe 32 25 1<|
 Qe 33 25 2<|
 Qe 34 25 3<|
 q 9 (.alloc zR)<|
 q 10 (.alloc (List.replicate 32 (.int .u8 0)))<|
 q 11 (.alloc (List.replicate 8 (.int .u64 0)))<|
 Qs 41 9 31<|
 Qs 32 10 32<|
 Qs 8 11 33<|
 Qm 12 34<|
 .keep [6,9,12]<|
 .reg 0
 [xe 35 (.load true 41 (.t 9)) [],
 xe 36 (.mv (.t 12)) [],
 xe 37 (.eq false .i (.t 36) (.c (.nilIface))) [],
 xe 38 (.mv (.t 37)) [],
 xeg 39 38 true (.fld 3 (.t 9)) [],
 xeg 40 38 true (.load false 1 (.t 39)) [],
 xeg 41 38 true (.bin .eql (.t 40) (ci 2)) [],
 xe 42 (.pick (.t 38) (.t 41) (cb false)) [],
 xln (.store 41 (.t 6) (.t 35)) [(.t 39)],
 xl 7 (.mv (.t 42)) []]<|
 .keep [6,7]<|
 .ret
theorem Fj:EF false F.facts_notice Q5 [.c 6 true 41,.t 7]:=ef [] Tryz.func119 (by kernel_rfl) (by kernel_rfl) (by kernel_rfl)
def R4 : IC :=
 Qb 2 0<|
 q 4 (.mv (.c (.slice none 0 0)))<|
 .keep [1,2]<|
 Qa 8 9 2<|
 Qm 9 1<|
 q 10 (.call F.facts_chain [(.t 8),(.t 9)])<|
 Qm 7 10<|
 Qe 11 7 0<|
 Qe 12 7 1<|
 Qm 5 11<|
 Qm 6 12<|
 .keep [2,5,6]<|
 Qm 13 6<|
 .keep [2,5,13]<|
 .ite (.t 13)
 (Qf 14 7 2<|
 Ql 15 1 14<|
 Qm 16 5<|
 q 17 (.idxa 2 none (.t 15) (.t 16))<|
 Qf 18 1 17<|
 Ql 19 1 18<|
 Qm 4 19<|
 .keep [4]<|
 .ret)
 (.done)<|
 q 4 (.mv (.c (.slice none 0 0)))<|
 .keep [4]<|
 .ret
theorem Gh:EF false F.facts_records R4 [.t 4]:=ef [] Tryz.func120 (by kernel_rfl) (by kernel_rfl) (by kernel_rfl)
def Oa : IC :=
 Qb 2 0<|
 q 4 (.mv (ci 0))<|
 q 5 (.mv (cb false))<|
 .keep [1,2]<|
 Qf 6 7 2<|
 Ql 7 1 6<|
 Qm 8 1<|
 q 9 (.call F.slices_BinarySearchFunc_api_Chain_api_Chain_int [(.t 7),(.t 8),(.f F.facts_chain_1)])<|
 Qe 10 9 0<|
 Qe 11 9 1<|
 Qm 4 10<|
 Qm 5 11<|
 .keep [4,5]<|
 .ret
theorem Cr:EF false F.facts_chain Oa [.t 4,.t 5]:=ef [] Tryz.func121 (by kernel_rfl) (by kernel_rfl) (by kernel_rfl)
def Mg : IC :=
 q 2 (.alloc (List.replicate 32 (.int .u8 0)))<|
 .keep [0,2]<|
 Qm 7 0<|
 Qw 8 7<|
 q 9 (.bin .eql (.t 8) (ci 0))<|
 .keep [0,2,9]<|
 .ite (.t 9)
 (q 10 (.build (List.replicate 32 (.int .u8 0)) [])<|
 Qs 32 2 10<|
 .keep [2]<|
 .ret)
 (.done)<|
 Qm 12 0<|
 Qm 13 0<|
 Qw 14 13<|
 q 15 (.bin .sub (.t 14) (ci 1))<|
 q 16 (.idxa 1 none (.t 12) (.t 15))<|
 Ql 17 1 16<|
 q 18 (.call F.record_Open [(.t 17)])<|
 Qm 11 18<|
 Qe 19 11 0<|
 Qe 20 11 1<|
 Qe 21 11 2<|
 Qe 22 11 3<|
 q 3 (.alloc zR)<|
 q 4 (.alloc (List.replicate 32 (.int .u8 0)))<|
 q 5 (.alloc (List.replicate 8 (.int .u64 0)))<|
 Qs 41 3 19<|
 Qs 32 4 20<|
 Qs 8 5 21<|
 Qm 6 22<|
 .keep [2,4]<|
 Qa 23 32 4<|
 Qs 32 2 23<|
 .keep [2]<|
 .ret
theorem Zae:EF false F.facts_last Mg [.c 2 true 32]:=ef [] Tryz.func123 (by kernel_rfl) (by kernel_rfl) (by kernel_rfl)
def X7 : IC :=
 q 2 (.mv (.c (.slice none 0 0)))<|
 .keep [0]<|
 Qm 3 0<|
 Qm 4 0<|
 Qw 5 4<|
 Qm 6 0<|
 Qw 7 6<|
 q 8 (.slice 1 none (.t 3) none (some (.t 5)) (some (.t 7)))<|
 Qm 2 8<|
 .keep [2]<|
 .ret
theorem Rp:EF false F.slices_Clip_byte_byte X7 [.t 2]:=ef [] Tryz.func125 (by kernel_rfl) (by kernel_rfl) (by kernel_rfl)
def Xq : IC :=
 q 2 (.mv (.c (.slice none 0 0)))<|
 .keep [0]<|
 Qm 3 0<|
 q 4 (.isnil false (.t 3))<|
 .keep [0,4]<|
 .ite (.t 4)
 (q 2 (.mv (.c (.slice none 0 0)))<|
 .keep [2]<|
 .ret)
 (.done)<|
 q 5 (.bslice false 2 0 [.int .i64 0,.slice none 0 0] [])<|
 Qm 6 0<|
 q 7 (.append 2 32 (.t 5) (.t 6))<|
 Qm 2 7<|
 .keep [2]<|
 .ret
theorem Vh:EF false F.slices_Clone_api_Chain_api_Chain Xq [.t 2]:=ef [] Tryz.func127 (by kernel_rfl) (by kernel_rfl) (by kernel_rfl)
def Mh : IC :=
 Qb 1 0<|
 q 2 (.mv (cb false))<|
 .keep [1]<|
 Qf 5 4 1<|
 Ql 6 1 5<|
 q 7 (.bin .eql (.t 6) (ci 0))<|
 Qm 3 7<|
 .keep [1,3]<|
 Qf 8 0 1<|
 Ql 9 1 8<|
 q 10 (.bin .eql (.t 9) (ci 1))<|
 .keep [1,3,10]<|
 .ite (.t 10)
 (Qf 11 4 1<|
 Ql 12 1 11<|
 q 13 (.bin .geq (.t 12) (ci 1))<|
 Qm 14 13<|
 Gf 15 14 true 4 1<|
 Gl 16 14 true 1 15<|
 qg 17 14 true (.bin .leq (.t 16) (ci 1073741824))<|
 Qk 18 14 17<|
 Qm 3 18<|
 .keep [1,3]<|
 .done)
 (.done)<|
 Qf 19 5 1<|
 Ql 20 1 19<|
 Qw 21 20<|
 q 22 (.bin .eql (.t 21) (ci 0))<|
 Qm 23 22<|
 Gf 24 23 false 0 1<|
 Gl 25 23 false 1 24<|
 qg 26 23 false (.bin .eql (.t 25) (ci 2))<|
 Gm 27 23 false 26<|
 Gf 28 27 true 5 1<|
 Gl 29 27 true 1 28<|
 qg 30 27 true (.len false (.t 29))<|
 qg 31 27 true (.bin .leq (.t 30) (ci 500))<|
 qg 32 23 false (.pick (.t 27) (.t 31) (cb false))<|
 Qo 33 23 32<|
 Qm 4 33<|
 .keep [1,3,4]<|
 Qm 34 3<|
 Qm 35 34<|
 Gm 36 35 true 4<|
 Qk 37 35 36<|
 Qm 38 37<|
 Gf 39 38 true 0 1<|
 Gl 40 38 true 1 39<|
 qg 41 38 true (.bin .geq (.t 40) (ci 1))<|
 Qk 42 38 41<|
 Qm 43 42<|
 Gf 44 43 true 0 1<|
 Gl 45 43 true 1 44<|
 qg 46 43 true (.bin .leq (.t 45) (ci 4))<|
 Qk 47 43 46<|
 Qm 48 47<|
 Gf 49 48 true 6 1<|
 Gl 50 48 true 1 49<|
 qg 51 48 true (.un .not (.t 50))<|
 Gm 52 48 true 51<|
 Gf 53 52 false 0 1<|
 Gl 54 52 false 1 53<|
 qg 55 52 false (.bin .eql (.t 54) (ci 3))<|
 qg 56 48 true (.pick (.t 52) (cb true) (.t 55))<|
 Qk 57 48 56<|
 Qm 2 57<|
 .keep [2]<|
 .ret
theorem Zaf:EF false F.facts_fair Mh [.t 2]:=ef [] Tryz.func133 (by kernel_rfl) (by kernel_rfl) (by kernel_rfl)
def Yz : IC :=
 q 2 (.mv (.c (.slice none 0 0)))<|
 .keep [0]<|
 Qm 3 0<|
 Qm 4 0<|
 Qw 5 4<|
 Qm 6 0<|
 Qw 7 6<|
 q 8 (.slice 7 none (.t 3) none (some (.t 5)) (some (.t 7)))<|
 Qm 2 8<|
 .keep [2]<|
 .ret
theorem Vo:EF false F.slices_Clip_api_Entry_api_Entry Yz [.t 2]:=ef [] Tryz.func134 (by kernel_rfl) (by kernel_rfl) (by kernel_rfl)
def Yr : IC :=
 q 6 (.mv (ci 0))<|
 q 7 (.mv (cb false))<|
 .keep [0,1,2]<|
 Qm 12 0<|
 Qw 13 12<|
 Qm 8 13<|
 .keep [0,1,2,8]<|
 Qm 14 8<|
 q 9 (.mv (ci 0))<|
 Qm 10 14<|
 .keep [0,1,2,8,9,10]<|
 .block 0
 (.keep [0,1,2,8,9,10]<|
 .loop
 (Qm 15 9<|
 Qm 16 10<|
 q 17 (.bin .lss (.t 15) (.t 16))<|
 .keep [0,1,2,8,9,10,17]<|
 .ite (.t 17)
 (.done)
 (.exit 0)<|
 .block 1
 (Qm 18 9<|
 Qm 19 10<|
 q 20 (.bin .add (.t 18) (.t 19))<|
 q 21 (.conv .u64 (.t 20))<|
 q 22 (.bin .shr (.t 21) (.c (.int .u64 1)))<|
 q 23 (.conv .i64 (.t 22))<|
 Qm 11 23<|
 .keep [0,1,2,8,9,10,11]<|
 Qm 24 2<|
 Qm 25 0<|
 Qm 26 11<|
 q 27 (.idxa 2 none (.t 25) (.t 26))<|
 Qa 28 2 27<|
 Qm 29 1<|
 q 30 (.callv (.t 24) [(.t 28),(.t 29)])<|
 q 31 (.bin .lss (.t 30) (ci 0))<|
 .keep [0,1,2,8,9,10,11,31]<|
 .ite (.t 31)
 (Qm 32 11<|
 q 33 (.bin .add (.t 32) (ci 1))<|
 Qm 9 33<|
 .keep [0,1,2,8,9,10]<|
 .done)
 (Qm 34 11<|
 Qm 10 34<|
 .keep [0,1,2,8,9,10]<|
 .done)<|
 .done)<|
 .keep [0,1,2,8,9,10]<|
 .done))<|
 Qm 35 9<|
 Qm 36 9<|
 Qm 37 8<|
 q 38 (.bin .lss (.t 36) (.t 37))<|
 Qm 39 38<|
 Gm 40 39 true 2<|
 Gm 41 39 true 0<|
 Gm 42 39 true 9<|
 qg 43 39 true (.idxa 2 none (.t 41) (.t 42))<|
 Ga 44 39 true 2 43<|
 Gm 45 39 true 1<|
 qg 46 39 true (.callv (.t 40) [(.t 44),(.t 45)])<|
 qg 47 39 true (.bin .eql (.t 46) (ci 0))<|
 Qk 48 39 47<|
 Qm 6 35<|
 Qm 7 48<|
 .keep [6,7]<|
 .ret
theorem Xu:EF true F.slices_BinarySearchFunc_api_Chain_api_Chain_int Yr [.t 6,.t 7]:=ef [] Tryz.func214 (by kernel_rfl) (by kernel_rfl) (by kernel_rfl)
def R5 : IC :=
 Qb 2 0<|
 q 4 (.mv (ci 0))<|
 .keep [1,2]<|
 Qf 5 0 2<|
 Ql 6 1 5<|
 Qm 7 1<|
 q 8 (.call F.cmp_Compare_int [(.t 6),(.t 7)])<|
 Qm 4 8<|
 .keep [4]<|
 .ret
theorem Gi:EF false F.facts_chain_1 R5 [.t 4]:=ef [] Tryz.func215 (by kernel_rfl) (by kernel_rfl) (by kernel_rfl)
def T6 : IC :=
 q 4 (.mv (ci 0))<|
 .keep [0,1]<|
 Qm 7 0<|
 q 8 (.call F.cmp_isNaN_int [(.t 7)])<|
 Qm 5 8<|
 .keep [0,1,5]<|
 Qm 9 1<|
 q 10 (.call F.cmp_isNaN_int [(.t 9)])<|
 Qm 6 10<|
 .keep [0,1,5,6]<|
 Qm 11 5<|
 .keep [0,1,6,11]<|
 .ite (.t 11)
 (Qm 12 6<|
 .keep [12]<|
 .ite (.t 12)
 (q 4 (.mv (ci 0))<|
 .keep [4]<|
 .ret)
 (.done)<|
 q 4 (.mv (ci (-1)))<|
 .keep [4]<|
 .ret)
 (.done)<|
 Qm 13 6<|
 .keep [0,1,13]<|
 .ite (.t 13)
 (q 4 (.mv (ci 1))<|
 .keep [4]<|
 .ret)
 (.done)<|
 Qm 14 0<|
 Qm 15 1<|
 q 16 (.bin .lss (.t 14) (.t 15))<|
 .keep [0,1,16]<|
 .ite (.t 16)
 (q 4 (.mv (ci (-1)))<|
 .keep [4]<|
 .ret)
 (.done)<|
 Qm 17 0<|
 Qm 18 1<|
 q 19 (.bin .gtr (.t 17) (.t 18))<|
 .keep [19]<|
 .ite (.t 19)
 (q 4 (.mv (ci 1))<|
 .keep [4]<|
 .ret)
 (.done)<|
 q 4 (.mv (ci 0))<|
 .keep [4]<|
 .ret
theorem Kb:EF false F.cmp_Compare_int T6 [.t 4]:=ef [] Tryz.func216 (by kernel_rfl) (by kernel_rfl) (by kernel_rfl)
def R6 : IC :=
 q 2 (.mv (cb false))<|
 .keep [0]<|
 Qm 3 0<|
 Qm 4 0<|
 q 5 (.bin .neq (.t 3) (.t 4))<|
 Qm 2 5<|
 .keep [2]<|
 .ret
theorem Gj:EF false F.cmp_isNaN_int R6 [.t 2]:=ef [] Tryz.func297 (by kernel_rfl) (by kernel_rfl) (by kernel_rfl)
def Wm : IC :=
 Qb 3 0<|
 q 6 (.mv (cb false))<|
 .keep [1,2,3]<|
 q 17 (.call F.clapperlaw23_up [])<|
 Qm 7 17<|
 .keep [1,2,3,7]<|
 Qa 18 9 3<|
 q 19 (.call F.clapperref22_Few [(.t 18)])<|
 Qm 8 19<|
 .keep [1,2,3,7,8]<|
 Qm 20 8<|
 q 21 (.un .not (.t 20))<|
 Qm 22 21<|
 Gm 23 22 false 1<|
 qg 24 22 false (.len false (.t 23))<|
 qg 25 22 false (.bin .gtr (.t 24) (ci 300))<|
 Qo 26 22 25<|
 .keep [1,2,3,7,26]<|
 .ite (.t 26)
 (Qm 27 7<|
 Qm 6 27<|
 .keep [6]<|
 .ret)
 (.done)<|
 Qa 29 9 3<|
 Qm 30 2<|
 q 31 (.call F.cases_List [(.t 29),(.t 30)])<|
 Qm 28 31<|
 Qe 32 28 0<|
 Qe 33 28 1<|
 Qm 9 32<|
 Qm 10 33<|
 .keep [1,2,3,7,9,10]<|
 Qf 35 0 3<|
 Qf 36 1 35<|
 Qf 37 1 36<|
 Ql 38 1 37<|
 Qm 39 1<|
 q 40 (.call F.revoke_Merge [(.t 38),(.t 39)])<|
 Qm 34 40<|
 Qe 41 34 0<|
 Qe 42 34 1<|
 Qm 11 41<|
 Qm 12 42<|
 .keep [2,3,7,9,10,11,12]<|
 Qm 43 10<|
 q 44 (.eq true .i (.t 43) (.c (.nilIface)))<|
 Qm 45 44<|
 Gm 46 45 false 12<|
 qg 47 45 false (.eq true .i (.t 46) (.c (.nilIface)))<|
 Qo 48 45 47<|
 .keep [2,3,7,9,11,48]<|
 .ite (.t 48)
 (Qm 49 7<|
 Qm 6 49<|
 .keep [6]<|
 .ret)
 (.done)<|
 Qm 50 11<|
 q 51 (.call F.clapperref11_May [(.t 50)])<|
 Qm 13 51<|
 .keep [2,3,7,9,11,13]<|
 Qm 52 11<|
 Qf 53 0 3<|
 Qf 54 1 53<|
 Qf 55 1 54<|
 Qs 1 55 52<|
 .keep [2,3,7,9,13]<|
 Qa 57 9 3<|
 Qm 58 2<|
 q 59 (.call F.cases_List [(.t 57),(.t 58)])<|
 Qm 56 59<|
 Qe 60 56 0<|
 Qe 61 56 1<|
 Qm 14 60<|
 Qm 15 61<|
 .keep [7,9,13,14,15]<|
 Qm 62 13<|
 q 63 (.un .not (.t 62))<|
 Qm 64 63<|
 Gm 65 64 false 15<|
 qg 66 64 false (.eq true .i (.t 65) (.c (.nilIface)))<|
 Qo 67 64 66<|
 Qm 68 67<|
 Gm 69 68 false 9<|
 qg 70 68 false (.len false (.t 69))<|
 Gm 71 68 false 14<|
 qg 72 68 false (.len false (.t 71))<|
 qg 73 68 false (.bin .neq (.t 70) (.t 72))<|
 Qo 74 68 73<|
 .keep [7,9,14,74]<|
 .ite (.t 74)
 (q 6 (.mv (cb false))<|
 .keep [6]<|
 .ret)
 (.done)<|
 q 16 (.mv (ci 0))<|
 .keep [7,9,14,16]<|
 .block 0
 (.keep [7,9,14,16]<|
 .loop
 (Qm 75 16<|
 Qm 76 9<|
 Qw 77 76<|
 q 78 (.bin .lss (.t 75) (.t 77))<|
 .keep [7,9,14,16,78]<|
 .ite (.t 78)
 (.done)
 (.exit 0)<|
 .block 1
 (Qm 81 14<|
 Qm 82 16<|
 q 83 (.idxa 6 none (.t 81) (.t 82))<|
 Qf 84 3 83<|
 Ql 85 1 84<|
 q 86 (.bin .eql (.t 85) (ci 2))<|
 Qm 87 86<|
 Gm 88 87 true 9<|
 Gm 89 87 true 16<|
 qg 90 87 true (.idxa 6 none (.t 88) (.t 89))<|
 Gf 91 87 true 3 90<|
 Gl 92 87 true 1 91<|
 qg 93 87 true (.bin .neq (.t 92) (ci 2))<|
 Qk 94 87 93<|
 .keep [7,9,14,16,94]<|
 .ite (.t 94)
 (q 6 (.mv (cb false))<|
 .keep [6]<|
 .ret)
 (.done)<|
 .done)<|
 Qm 79 16<|
 q 80 (.bin .add (.t 79) (ci 1))<|
 Qm 16 80<|
 .keep [7,9,14,16]<|
 .keep [7,9,14,16]<|
 .done))<|
 Qm 95 7<|
 Qm 6 95<|
 .keep [6]<|
 .ret
theorem Tm:EF false F.clapperlaw23_CasesRevoked Wm [.t 6]:=ef [] Tryz.func9 (by kernel_rfl) (by kernel_rfl) (by kernel_rfl)
def T7 : IC :=
 q 0 (.mv (cb false))<|
 .keep []<|
 q 8 (.build [.slice none 0 0,.slice none 0 0,.slice none 0 0,.slice none 0 0,.slice none 0 0,.slice none 0 0,.int .i64 0] [(6,1,(ci 1))])<|
 q 9 (.build [.slice none 0 0,.slice none 0 0,.slice none 0 0,.slice none 0 0,.slice none 0 0,.slice none 0 0,.int .i64 0,.slice none 0 0,.slice none 0 0] [(0,7,(.t 8))])<|
 q 10 (.call F.cases_List [(.t 9),(ci 0)])<|
 Qm 7 10<|
 Qe 11 7 0<|
 Qe 12 7 1<|
 Qm 1 11<|
 Qm 2 12<|
 .keep [1,2]<|
 q 14 (.build [.slice none 0 0,.slice none 0 0,.slice none 0 0,.slice none 0 0,.slice none 0 0,.slice none 0 0,.int .i64 0,.slice none 0 0,.slice none 0 0] [])<|
 q 15 (.call F.cases_List [(.t 14),(ci 0)])<|
 Qm 13 15<|
 Qe 16 13 0<|
 Qe 17 13 1<|
 Qm 3 16<|
 Qm 4 17<|
 .keep [1,2,4]<|
 q 19 (.build [.slice none 0 0,.slice none 0 0,.slice none 0 0,.slice none 0 0,.slice none 0 0,.slice none 0 0,.int .i64 0] [(6,1,(ci 1))])<|
 q 20 (.build [.slice none 0 0,.slice none 0 0,.slice none 0 0,.slice none 0 0,.slice none 0 0,.slice none 0 0,.int .i64 0,.slice none 0 0,.slice none 0 0] [(0,7,(.t 19))])<|
 q 21 (.call F.cases_Doubtful [(.t 20),(ci 1),(ci 0)])<|
 Qm 18 21<|
 Qe 22 18 0<|
 Qe 23 18 1<|
 Qm 5 22<|
 Qm 6 23<|
 .keep [1,2,4,6]<|
 Qm 24 2<|
 q 25 (.eq false .i (.t 24) (.c (.nilIface)))<|
 Qm 26 25<|
 Gm 27 26 true 1<|
 qg 28 26 true (.len false (.t 27))<|
 qg 29 26 true (.bin .eql (.t 28) (ci 0))<|
 Qk 30 26 29<|
 Qm 31 30<|
 Gm 32 31 true 4<|
 qg 33 31 true (.mkif T.api_Code (ci 1))<|
 qg 34 31 true (.eq false .i (.t 32) (.t 33))<|
 Qk 35 31 34<|
 Qm 36 35<|
 Gm 37 36 true 6<|
 qg 38 36 true (.mkif T.api_Code (ci 4))<|
 qg 39 36 true (.eq false .i (.t 37) (.t 38))<|
 Qk 40 36 39<|
 Qm 0 40<|
 .keep [0]<|
 .ret
theorem Kc:EF false F.clapperlaw23_up T7 [.t 0]:=ef [] Tryz.func38 (by kernel_rfl) (by kernel_rfl) (by kernel_rfl)
def Mj : IC :=
 Qb 2 0<|
 q 4 (.mv (.c (.slice none 0 0)))<|
 q 5 (.mv (.c (.nilIface)))<|
 .keep [1,2]<|
 Qa 12 9 2<|
 q 13 (.call F.facts_May [(.t 12)])<|
 q 14 (.un .not (.t 13))<|
 Qm 15 14<|
 Gm 16 15 false 1<|
 qg 17 15 false (.bin .lss (.t 16) (ci 0))<|
 Qo 18 15 17<|
 Qm 19 18<|
 Gm 20 19 false 1<|
 qg 21 19 false (.bin .gtr (.t 20) (ci 1073741824))<|
 Qo 22 19 21<|
 .keep [1,2,22]<|
 .ite (.t 22)
 (q 23 (.mkif T.api_Code (ci 1))<|
 q 4 (.mv (.c (.slice none 0 0)))<|
 Qm 5 23<|
 .keep [4,5]<|
 .ret)
 (.done)<|
 Qa 24 9 2<|
 q 25 (.call F.cases_look [(.t 24)])<|
 Qm 6 25<|
 .keep [1,6]<|
 q 7 (.mv (.c (.slice none 0 0)))<|
 .keep [1,6,7]<|
 Qm 26 6<|
 q 27 (.nilchk (.t 26))<|
 Qf 28 9 27<|
 Ql 29 1 28<|
 Qw 30 29<|
 q 31 (.mv (ci 0))<|
 .keep [1,6,7,29,30,31]<|
 .block 0
 (.keep [1,6,7,29,30,31]<|
 .loop
 (q 32 (.bin .lss (.t 31) (.t 30))<|
 .keep [1,6,7,29,30,31,32]<|
 .ite (.t 32)
 (.done)
 (.exit 0)<|
 .block 1
 (q 33 (.idxa 1 none (.t 29) (.t 31))<|
 Ql 34 1 33<|
 Qm 9 34<|
 .keep [1,6,7,9,29,30,31]<|
 Qm 35 9<|
 Qw 36 35<|
 q 37 (.mv (ci 0))<|
 .keep [1,6,7,9,29,30,31,35,36,37]<|
 .block 2
 (.keep [1,6,7,9,29,30,31,35,36,37]<|
 .loop
 (q 38 (.bin .lss (.t 37) (.t 36))<|
 .keep [1,6,7,9,29,30,31,35,36,37,38]<|
 .ite (.t 38)
 (.done)
 (.exit 2)<|
 .block 3
 (q 39 (.idxa 41 none (.t 35) (.t 37))<|
 Qa 40 41 39<|
 q 11 (.alloc zR)<|
 Qs 41 11 40<|
 .keep [1,6,7,9,11,29,30,31,35,36,37]<|
 Qf 41 3 11<|
 Ql 42 1 41<|
 q 43 (.bin .eql (.t 42) (ci 2))<|
 .keep [1,6,7,9,11,29,30,31,35,36,37,43]<|
 .ite (.t 43)
 (Qm 44 7<|
 Qm 45 6<|
 Qm 46 9<|
 Qa 47 41 11<|
 Qm 48 1<|
 q 49 (.call F.cases_view_one [(.t 45),(.t 46),(.t 47),(.t 48)])<|
 q 50 (.bslice false 6 1 (List.replicate 6 (.int .i64 0)) [(0,6,(.t 49))])<|
 q 51 (.append 6 48 (.t 44) (.t 50))<|
 Qm 7 51<|
 .keep [1,6,7,9,29,30,31,35,36,37]<|
 .done)
 (.done)<|
 .done)<|
 q 52 (.bin .add (.t 37) (ci 1))<|
 Qm 37 52<|
 .keep [1,6,7,9,29,30,31,35,36,37]<|
 .keep [1,6,7,9,29,30,31,35,36,37]<|
 .done))<|
 .done)<|
 q 53 (.bin .add (.t 31) (ci 1))<|
 Qm 31 53<|
 .keep [1,6,7,29,30,31]<|
 .keep [1,6,7,29,30,31]<|
 .done))<|
 Qm 54 7<|
 Qm 4 54<|
 q 5 (.mv (.c (.nilIface)))<|
 .keep [4,5]<|
 .ret
theorem Zah:EF false F.cases_List Mj [.t 4,.t 5]:=ef [] Tryz.func39 (by kernel_rfl) (by kernel_rfl) (by kernel_rfl)
def Rf : IC :=
 Qb 3 0<|
 q 6 (.mv (cb false))<|
 q 7 (.mv (.c (.nilIface)))<|
 .keep [1,2,3]<|
 Qa 11 9 3<|
 q 12 (.call F.facts_May [(.t 11)])<|
 q 13 (.un .not (.t 12))<|
 .keep [1,2,3,13]<|
 .ite (.t 13)
 (q 14 (.mkif T.api_Code (ci 1))<|
 q 6 (.mv (cb false))<|
 Qm 7 14<|
 .keep [6,7]<|
 .ret)
 (.done)<|
 Qa 15 9 3<|
 q 16 (.call F.cases_look [(.t 15)])<|
 Qm 8 16<|
 .keep [1,2,8]<|
 Qm 17 8<|
 q 18 (.nilchk (.t 17))<|
 Qf 19 10 18<|
 Ql 20 1 19<|
 Qw 21 20<|
 q 22 (.mv (ci 0))<|
 .keep [1,2,8,20,21,22]<|
 .block 0
 (.keep [1,2,8,20,21,22]<|
 .loop
 (q 23 (.bin .lss (.t 22) (.t 21))<|
 .keep [1,2,8,20,21,22,23]<|
 .ite (.t 23)
 (.done)
 (.exit 0)<|
 .block 1
 (q 24 (.idxa 46 none (.t 20) (.t 22))<|
 Qa 25 46 24<|
 q 10 (.alloc [.int .i64 0,.int .i64 0,.int .i64 0,.int .i64 0,.int .i64 0,.int .i64 0,.int .i64 0,.int .i64 0,.int .u8 0,.int .u8 0,.int .u8 0,.int .u8 0,.int .u8 0,.int .u8 0,.int .u8 0,.int .u8 0,.int .u8 0,.int .u8 0,.int .u8 0,.int .u8 0,.int .u8 0,.int .u8 0,.int .u8 0,.int .u8 0,.int .u8 0,.int .u8 0,.int .u8 0,.int .u8 0,.int .u8 0,.int .u8 0,.int .u8 0,.int .u8 0,.int .u8 0,.int .u8 0,.int .u8 0,.int .u8 0,.int .u8 0,.int .u8 0,.int .u8 0,.int .u8 0,.slice none 0 0,.int .i64 0,.int .i64 0,.int .i64 0,.int .i64 0,.int .i64 0])<|
 Qs 46 10 25<|
 .keep [1,2,8,10,20,21,22]<|
 Qf 26 0 10<|
 Qf 27 0 26<|
 Ql 28 1 27<|
 Qm 29 1<|
 q 30 (.bin .eql (.t 28) (.t 29))<|
 Qm 31 30<|
 Gf 32 31 true 0 10<|
 Gf 33 31 true 1 32<|
 Gl 34 31 true 1 33<|
 Gm 35 31 true 2<|
 qg 36 31 true (.bin .eql (.t 34) (.t 35))<|
 Qk 37 31 36<|
 .keep [1,2,8,10,20,21,22,37]<|
 .ite (.t 37)
 (Qm 38 8<|
 Qf 39 0 10<|
 Qa 40 41 39<|
 Qf 41 41 10<|
 Qf 42 0 41<|
 Ql 43 1 42<|
 q 44 (.call F.cases_view_doubtful [(.t 38),(.t 40),(.t 43)])<|
 Qm 6 44<|
 q 7 (.mv (.c (.nilIface)))<|
 .keep [6,7]<|
 .ret)
 (.done)<|
 .done)<|
 q 45 (.bin .add (.t 22) (ci 1))<|
 Qm 22 45<|
 .keep [1,2,8,20,21,22]<|
 .keep [1,2,8,20,21,22]<|
 .done))<|
 q 46 (.mkif T.api_Code (ci 4))<|
 q 6 (.mv (cb false))<|
 Qm 7 46<|
 .keep [6,7]<|
 .ret
theorem Jo:EF false F.cases_Doubtful Rf [.t 6,.t 7]:=ef [] Tryz.func98 (by kernel_rfl) (by kernel_rfl) (by kernel_rfl)
def Ud : IC :=
 Qm 77 3<|
 Qm 78 3<|
 q 79 (.nilchk (.t 78))<|
 Qf 80 9 79<|
 Ql 81 1 80<|
 Qm 82 6<|
 q 83 (.bslice true 1 1 [.slice none 0 0] [(0,1,(.t 82))])<|
 q 84 (.append 1 24 (.t 81) (.t 83))<|
 q 85 (.nilchk (.t 77))<|
 Qf 86 9 85<|
 Qs 1 86 84<|
 .keep [1,3,19,20,21]<|
 .done
def Mi : IC :=
 Qb 1 0<|
 q 2 (.mv (.c (.pointer none)))<|
 .keep [1]<|
 Qa 15 9 1<|
 q 16 (.build [.slice none 0 0,.slice none 0 0,.slice none 0 0,.slice none 0 0,.slice none 0 0,.slice none 0 0,.int .i64 0,.slice none 0 0,.slice none 0 0,.slice none 0 0,.slice none 0 0] [(0,9,(.t 15))])<|
 Qb 17 16<|
 Qm 3 17<|
 .keep [1,3]<|
 Qf 18 7 1<|
 Ql 19 1 18<|
 Qw 20 19<|
 q 21 (.mv (ci 0))<|
 .keep [1,3,19,20,21]<|
 .block 0
 (.keep [1,3,19,20,21]<|
 .loop
 (q 22 (.bin .lss (.t 21) (.t 20))<|
 .keep [1,3,19,20,21,22]<|
 .ite (.t 22)
 (.done)
 (.exit 0)<|
 .block 1
 (q 23 (.idxa 2 none (.t 19) (.t 21))<|
 Qa 24 2 23<|
 q 5 (.alloc [.int .i64 0,.slice none 0 0])<|
 Qs 2 5 24<|
 .keep [1,3,5,19,20,21]<|
 q 6 (.mv (.c (.slice none 0 0)))<|
 .keep [1,3,5,6,19,20,21]<|
 Qf 25 1 5<|
 Ql 26 1 25<|
 Qw 27 26<|
 q 28 (.mv (ci 0))<|
 .keep [1,3,6,19,20,21,26,27,28]<|
 .block 2
 (.keep [1,3,6,19,20,21,26,27,28]<|
 .loop
 (q 29 (.bin .lss (.t 28) (.t 27))<|
 .keep [1,3,6,19,20,21,26,27,28,29]<|
 .ite (.t 29)
 (.done)
 (.exit 2)<|
 .block 3
 (q 30 (.idxa 1 none (.t 26) (.t 28))<|
 Ql 31 1 30<|
 Qm 8 31<|
 .keep [1,3,6,8,19,20,21,26,27,28]<|
 Qm 33 8<|
 q 34 (.call F.record_Open [(.t 33)])<|
 Qm 32 34<|
 Qe 35 32 0<|
 Qe 36 32 1<|
 Qe 37 32 2<|
 Qe 38 32 3<|
 q 9 (.alloc zR)<|
 q 10 (.alloc (List.replicate 32 (.int .u8 0)))<|
 q 11 (.alloc (List.replicate 8 (.int .u64 0)))<|
 Qs 41 9 35<|
 Qs 32 10 36<|
 Qs 8 11 37<|
 Qm 12 38<|
 .keep [1,3,6,9,12,19,20,21,26,27,28]<|
 Qm 39 12<|
 q 40 (.eq true .i (.t 39) (.c (.nilIface)))<|
 .keep [1,3,6,9,19,20,21,26,27,28,40]<|
 .ite (.t 40)
 (.exit 2)
 (.done)<|
 Qm 41 6<|
 Qa 42 41 9<|
 q 43 (.bslice false 41 1 zR [(0,41,(.t 42))])<|
 q 44 (.append 41 120 (.t 41) (.t 43))<|
 Qm 6 44<|
 .keep [1,3,6,9,19,20,21,26,27,28]<|
 Qf 46 0 1<|
 Qf 47 1 46<|
 Qf 48 0 47<|
 Ql 49 1 48<|
 Qf 50 40 9<|
 Ql 51 1 50<|
 Qf 52 2 9<|
 Ql 53 1 52<|
 q 54 (.call F.keys_Check [(.t 49),(.t 51),(.t 53)])<|
 Qm 45 54<|
 Qe 55 45 0<|
 Qe 56 45 1<|
 q 13 (.alloc (List.replicate 5 (.int .i64 0)))<|
 Qs 5 13 55<|
 Qm 14 56<|
 .keep [1,3,6,9,13,14,19,20,21,26,27,28]<|
 Qm 57 14<|
 q 58 (.eq false .i (.t 57) (.c (.nilIface)))<|
 Qm 59 58<|
 Gf 60 59 true 3 9<|
 Gl 61 59 true 1 60<|
 qg 62 59 true (.bin .eql (.t 61) (ci 1))<|
 Qk 63 59 62<|
 .keep [1,3,6,9,13,19,20,21,26,27,28,63]<|
 .ite (.t 63)
 (Qm 64 3<|
 Qm 65 3<|
 q 66 (.nilchk (.t 65))<|
 Qf 67 10 66<|
 Ql 68 1 67<|
 Qa 69 41 9<|
 Qa 70 5 13<|
 q 71 (.build [.int .i64 0,.int .i64 0,.int .i64 0,.int .i64 0,.int .i64 0,.int .i64 0,.int .i64 0,.int .i64 0,.int .u8 0,.int .u8 0,.int .u8 0,.int .u8 0,.int .u8 0,.int .u8 0,.int .u8 0,.int .u8 0,.int .u8 0,.int .u8 0,.int .u8 0,.int .u8 0,.int .u8 0,.int .u8 0,.int .u8 0,.int .u8 0,.int .u8 0,.int .u8 0,.int .u8 0,.int .u8 0,.int .u8 0,.int .u8 0,.int .u8 0,.int .u8 0,.int .u8 0,.int .u8 0,.int .u8 0,.int .u8 0,.int .u8 0,.int .u8 0,.int .u8 0,.int .u8 0,.slice none 0 0,.int .i64 0,.int .i64 0,.int .i64 0,.int .i64 0,.int .i64 0] [(0,41,(.t 69)),(41,5,(.t 70))])<|
 q 72 (.bslice false 46 1 [.int .i64 0,.int .i64 0,.int .i64 0,.int .i64 0,.int .i64 0,.int .i64 0,.int .i64 0,.int .i64 0,.int .u8 0,.int .u8 0,.int .u8 0,.int .u8 0,.int .u8 0,.int .u8 0,.int .u8 0,.int .u8 0,.int .u8 0,.int .u8 0,.int .u8 0,.int .u8 0,.int .u8 0,.int .u8 0,.int .u8 0,.int .u8 0,.int .u8 0,.int .u8 0,.int .u8 0,.int .u8 0,.int .u8 0,.int .u8 0,.int .u8 0,.int .u8 0,.int .u8 0,.int .u8 0,.int .u8 0,.int .u8 0,.int .u8 0,.int .u8 0,.int .u8 0,.int .u8 0,.slice none 0 0,.int .i64 0,.int .i64 0,.int .i64 0,.int .i64 0,.int .i64 0] [(0,46,(.t 71))])<|
 q 73 (.append 46 160 (.t 68) (.t 72))<|
 q 74 (.nilchk (.t 64))<|
 Qf 75 10 74<|
 Qs 1 75 73<|
 .keep [1,3,6,19,20,21,26,27,28]<|
 .done)
 (.done)<|
 .done)<|
 q 76 (.bin .add (.t 28) (ci 1))<|
 Qm 28 76<|
 .keep [1,3,6,19,20,21,26,27,28]<|
 .keep [1,3,6,19,20,21,26,27,28]<|
 .done))<|
 Ud)<|
 q 87 (.bin .add (.t 21) (ci 1))<|
 Qm 21 87<|
 .keep [1,3,19,20,21]<|
 .keep [1,3,19,20,21]<|
 .done))<|
 Qm 88 3<|
 Qm 2 88<|
 .keep [2]<|
 .ret
theorem Zag:EF false F.cases_look Mi [.t 2]:=ef [83] Tryz.func99 (by kernel_rfl) (by kernel_rfl) (by kernel_rfl)
def Re : IC :=
 Qb 6 2<|
 q 8 (.alloc (List.replicate 6 (.int .i64 0)))<|
 .keep [0,1,3,6,8]<|
 Qm 14 0<|
 Qf 15 0 6<|
 Ql 16 1 15<|
 Qf 17 1 6<|
 Ql 18 1 17<|
 Qm 19 3<|
 q 20 (.call F.cases_view_tell [(.t 14),(.t 16),(.t 18),(.t 19)])<|
 q 9 (.alloc [.bool false,.bool false,.int .i64 0,.slice none 0 0,.int .i64 0])<|
 Qs 5 9 20<|
 .keep [0,1,3,6,8,9]<|
 Qf 21 0 6<|
 Ql 22 1 21<|
 Qf 23 1 6<|
 Ql 24 1 23<|
 Qf 25 2 6<|
 Ql 26 1 25<|
 Qf 27 2 9<|
 Ql 28 1 27<|
 q 29 (.build (List.replicate 6 (.int .i64 0)) [(0,1,(.t 22)),(1,1,(.t 24)),(2,1,(.t 26)),(3,1,(ci 1)),(5,1,(.t 28))])<|
 q 10 (.alloc (List.replicate 6 (.int .i64 0)))<|
 Qs 6 10 29<|
 .keep [0,1,3,6,8,9,10]<|
 q 11 (.mv (cb false))<|
 .keep [0,1,3,6,8,9,10,11]<|
 Qm 30 1<|
 Qw 31 30<|
 q 32 (.mv (ci 0))<|
 .keep [0,1,3,6,8,9,10,11,30,31,32]<|
 .block 0
 (.keep [0,1,3,6,8,9,10,11,30,31,32]<|
 .loop
 (q 33 (.bin .lss (.t 32) (.t 31))<|
 .keep [0,1,3,6,8,9,10,11,30,31,32,33]<|
 .ite (.t 33)
 (.done)
 (.exit 0)<|
 .block 1
 (q 34 (.idxa 41 none (.t 30) (.t 32))<|
 Qa 35 41 34<|
 q 13 (.alloc zR)<|
 Qs 41 13 35<|
 .keep [0,1,3,6,8,9,10,11,13,30,31,32]<|
 Qm 36 11<|
 Qm 37 36<|
 Gf 38 37 false 3 13<|
 Gl 39 37 false 1 38<|
 qg 40 37 false (.bin .eql (.t 39) (ci 3))<|
 Gm 41 37 false 40<|
 Gf 42 41 true 6 13<|
 Gl 43 41 true 1 42<|
 Gf 44 41 true 1 6<|
 Gl 45 41 true 1 44<|
 qg 46 41 true (.bin .eql (.t 43) (.t 45))<|
 qg 47 37 false (.pick (.t 41) (.t 46) (cb false))<|
 Qo 48 37 47<|
 Qm 11 48<|
 .keep [0,1,3,6,8,9,10,11,30,31,32]<|
 .done)<|
 q 49 (.bin .add (.t 32) (ci 1))<|
 Qm 32 49<|
 .keep [0,1,3,6,8,9,10,11,30,31,32]<|
 .keep [0,1,3,6,8,9,10,11,30,31,32]<|
 .done))<|
 .block 2
 (Qm 62 11<|
 Qm 61 62<|
 .keep [0,1,3,6,8,9,10,61]<|
 .ite (.t 61)
 (Qf 63 3 10<|
 qn (.store 1 (.t 63) (ci 3))<|
 .keep [8,10]<|
 .done)
 (Qf 65 0 9<|
 Ql 66 1 65<|
 Qm 64 66<|
 .keep [0,1,3,6,8,9,10,64]<|
 .ite (.t 64)
 (Qf 67 3 10<|
 qn (.store 1 (.t 67) (ci 4))<|
 .keep [8,10]<|
 .done)
 (Qm 69 0<|
 Qm 70 1<|
 Qa 71 41 6<|
 Qf 72 3 9<|
 Ql 73 1 72<|
 q 74 (.call F.cases_view_covered [(.t 69),(.t 70),(.t 71),(.t 73)])<|
 Qm 68 74<|
 .keep [0,3,6,8,9,10,68]<|
 .ite (.t 68)
 (Qf 75 3 10<|
 qn (.store 1 (.t 75) (ci 2))<|
 .keep [8,10]<|
 .done)
 (Qf 77 2 9<|
 Ql 78 1 77<|
 Qm 79 0<|
 q 80 (.nilchk (.t 79))<|
 Qf 81 0 80<|
 Qf 82 0 81<|
 Qf 83 6 82<|
 Ql 84 1 83<|
 q 85 (.bin .geq (.t 78) (.t 84))<|
 Qm 76 85<|
 .keep [3,6,8,9,10,76]<|
 .ite (.t 76)
 (Qf 86 3 10<|
 qn (.store 1 (.t 86) (ci 5))<|
 .keep [8,10]<|
 .done)
 (Qf 88 1 9<|
 Ql 89 1 88<|
 Qm 87 89<|
 .keep [3,6,8,9,10,87]<|
 .ite (.t 87)
 (Qf 90 3 10<|
 qn (.store 1 (.t 90) (ci 6))<|
 .keep [8,10]<|
 .done)
 (Qm 50 3<|
 Qf 51 2 6<|
 Ql 52 1 51<|
 q 53 (.bin .sub (.t 50) (.t 52))<|
 Qf 54 4 9<|
 Ql 55 1 54<|
 q 56 (.bin .sub (.t 53) (.t 55))<|
 q 57 (.bin .quo (.t 56) (ci 20160))<|
 q 58 (.mn (ci 3) (.t 57))<|
 q 59 (.mx (ci 0) (.t 58))<|
 Qf 60 4 10<|
 Qs 1 60 59<|
 .keep [8,10]<|
 .done)<|
 .done)<|
 .done)<|
 .done)<|
 .done)<|
 .done)<|
 Qa 91 6 10<|
 Qs 6 8 91<|
 .keep [8]<|
 .ret
theorem Jn:EF false F.cases_view_one Re [.c 8 true 6]:=ef [] Tryz.func100 (by kernel_rfl) (by kernel_rfl) (by kernel_rfl)
def Vt : IC :=
 Qb 4 1<|
 q 6 (.mv (cb false))<|
 .keep [0,2,4]<|
 Qm 11 0<|
 q 12 (.nilchk (.t 11))<|
 Qf 13 10 12<|
 Ql 14 1 13<|
 Qw 15 14<|
 q 16 (.mv (ci 0))<|
 .keep [0,2,4,14,15,16]<|
 .block 0
 (.keep [0,2,4,14,15,16]<|
 .loop
 (q 17 (.bin .lss (.t 16) (.t 15))<|
 .keep [0,2,4,14,15,16,17]<|
 .ite (.t 17)
 (.done)
 (.exit 0)<|
 .block 1
 (q 18 (.idxa 46 none (.t 14) (.t 16))<|
 Qa 19 46 18<|
 q 8 (.alloc [.int .i64 0,.int .i64 0,.int .i64 0,.int .i64 0,.int .i64 0,.int .i64 0,.int .i64 0,.int .i64 0,.int .u8 0,.int .u8 0,.int .u8 0,.int .u8 0,.int .u8 0,.int .u8 0,.int .u8 0,.int .u8 0,.int .u8 0,.int .u8 0,.int .u8 0,.int .u8 0,.int .u8 0,.int .u8 0,.int .u8 0,.int .u8 0,.int .u8 0,.int .u8 0,.int .u8 0,.int .u8 0,.int .u8 0,.int .u8 0,.int .u8 0,.int .u8 0,.int .u8 0,.int .u8 0,.int .u8 0,.int .u8 0,.int .u8 0,.int .u8 0,.int .u8 0,.int .u8 0,.slice none 0 0,.int .i64 0,.int .i64 0,.int .i64 0,.int .i64 0,.int .i64 0])<|
 Qs 46 8 19<|
 .keep [0,2,4,8,14,15,16]<|
 Qf 20 41 8<|
 Qf 21 0 20<|
 Ql 22 1 21<|
 Qm 23 2<|
 q 24 (.bin .neq (.t 22) (.t 23))<|
 Qm 25 24<|
 Gf 26 25 false 0 8<|
 Ga 27 25 false 41 26<|
 Ga 28 25 false 41 4<|
 qg 29 25 false (.call F.cases_ahead [(.t 27),(.t 28)])<|
 qg 30 25 false (.un .not (.t 29))<|
 Qo 31 25 30<|
 Qm 32 31<|
 Gf 33 32 false 2 4<|
 Gl 34 32 false 1 33<|
 Gf 35 32 false 0 8<|
 Gf 36 32 false 2 35<|
 Gl 37 32 false 1 36<|
 qg 38 32 false (.bin .sub (.t 34) (.t 37))<|
 qg 39 32 false (.bin .gtr (.t 38) (ci 4320))<|
 Qo 40 32 39<|
 .keep [0,2,4,8,14,15,16,40]<|
 .ite (.t 40)
 (.exit 1)
 (.done)<|
 Qm 42 0<|
 q 43 (.nilchk (.t 42))<|
 Qf 44 0 43<|
 Qf 45 0 44<|
 Qf 46 4 45<|
 Qa 47 2 46<|
 Qf 48 0 8<|
 Qf 49 4 48<|
 Ql 50 1 49<|
 Qf 51 0 8<|
 Qf 52 2 51<|
 Ql 53 1 52<|
 Qf 54 4 4<|
 Ql 55 1 54<|
 Qf 56 2 4<|
 Ql 57 1 56<|
 q 58 (.call F.route_Feasible [(.t 47),(.t 50),(.t 53),(.t 55),(.t 57)])<|
 Qm 41 58<|
 Qe 59 41 0<|
 Qe 60 41 1<|
 Qm 9 59<|
 Qm 10 60<|
 .keep [0,2,4,9,10,14,15,16]<|
 Qm 61 10<|
 q 62 (.eq true .i (.t 61) (.c (.nilIface)))<|
 Qm 63 62<|
 Gm 64 63 false 9<|
 qg 65 63 false (.un .not (.t 64))<|
 Qo 66 63 65<|
 .keep [0,2,4,14,15,16,66]<|
 .ite (.t 66)
 (q 6 (.mv (cb true))<|
 .keep [6]<|
 .ret)
 (.done)<|
 .done)<|
 q 67 (.bin .add (.t 16) (ci 1))<|
 Qm 16 67<|
 .keep [0,2,4,14,15,16]<|
 .keep [0,2,4,14,15,16]<|
 .done))<|
 q 6 (.mv (cb false))<|
 .keep [6]<|
 .ret
theorem Q8:EF false F.cases_view_doubtful Vt [.t 6]:=ef [] Tryz.func193 (by kernel_rfl) (by kernel_rfl) (by kernel_rfl)
def T8 : IC :=
 q 8 (.alloc [.bool false,.bool false,.int .i64 0,.slice none 0 0,.int .i64 0])<|
 .keep [0,1,2,3,8]<|
 q 9 (.alloc [.bool false,.bool false,.int .i64 0,.slice none 0 0,.int .i64 0])<|
 .keep [0,1,2,3,8,9]<|
 q 10 (.mv (ci (-1)))<|
 .keep [0,1,2,3,8,9,10]<|
 Qm 13 0<|
 q 14 (.nilchk (.t 13))<|
 Qf 15 0 14<|
 Qf 16 8 15<|
 Ql 17 1 16<|
 Qw 18 17<|
 q 19 (.mv (ci 0))<|
 .keep [1,2,3,8,9,10,17,18,19]<|
 .block 0
 (.keep [1,2,3,8,9,10,17,18,19]<|
 .loop
 (q 20 (.bin .lss (.t 19) (.t 18))<|
 .keep [1,2,3,8,9,10,17,18,19,20]<|
 .ite (.t 20)
 (.done)
 (.exit 0)<|
 .block 1
 (q 21 (.idxa 7 none (.t 17) (.t 19))<|
 Qa 22 7 21<|
 q 12 (.alloc [.int .i64 0,.int .i64 0,.int .i64 0,.int .i64 0,.int .i64 0,.slice none 0 0,.bool false])<|
 Qs 7 12 22<|
 .keep [1,2,3,8,9,10,12,17,18,19]<|
 Qf 23 1 12<|
 Ql 24 1 23<|
 Qm 25 1<|
 q 26 (.bin .neq (.t 24) (.t 25))<|
 Qm 27 26<|
 Gf 28 27 false 2 12<|
 Gl 29 27 false 1 28<|
 Gm 30 27 false 2<|
 qg 31 27 false (.bin .neq (.t 29) (.t 30))<|
 Qo 32 27 31<|
 .keep [1,2,3,8,9,10,12,17,18,19,32]<|
 .ite (.t 32)
 (.exit 1)
 (.done)<|
 Qf 33 0 9<|
 Ql 34 1 33<|
 Qm 35 34<|
 Gf 36 35 false 6 12<|
 Gl 37 35 false 1 36<|
 Qo 38 35 37<|
 Qf 39 0 9<|
 Qs 1 39 38<|
 .keep [1,2,3,8,9,10,12,17,18,19]<|
 Qf 40 1 9<|
 Ql 41 1 40<|
 Qm 42 41<|
 Gf 43 42 false 0 12<|
 Gl 44 42 false 1 43<|
 qg 45 42 false (.bin .eql (.t 44) (ci 4))<|
 Qo 46 42 45<|
 Qf 47 1 9<|
 Qs 1 47 46<|
 .keep [1,2,3,8,9,10,12,17,18,19]<|
 Qf 48 2 9<|
 Ql 49 1 48<|
 Qf 50 4 12<|
 Ql 51 1 50<|
 q 52 (.bin .add (.t 49) (.t 51))<|
 Qf 53 2 9<|
 Qs 1 53 52<|
 .keep [1,2,3,8,9,10,12,17,18,19]<|
 Qf 54 0 12<|
 Ql 55 1 54<|
 .keep [1,2,3,8,9,10,12,17,18,19,55]<|
 .block 2
 (q 57 (.bin .eql (.t 55) (ci 2))<|
 Qm 56 57<|
 .keep [1,2,3,8,9,10,12,17,18,19,55,56]<|
 .ite (.t 56)
 (Qf 58 3 9<|
 Ql 59 1 58<|
 Qf 60 5 12<|
 Ql 61 1 60<|
 q 62 (.bslice false 1 1 [.slice none 0 0] [(0,1,(.t 61))])<|
 q 63 (.append 1 24 (.t 59) (.t 62))<|
 Qf 64 3 9<|
 Qs 1 64 63<|
 .keep [1,2,3,8,9,12,17,18,19]<|
 Qf 65 3 12<|
 Ql 66 1 65<|
 Qm 10 66<|
 .keep [1,2,3,8,9,10,17,18,19]<|
 .done)
 (q 68 (.bin .eql (.t 55) (ci 3))<|
 Qm 67 68<|
 .keep [1,2,3,8,9,10,12,17,18,19,67]<|
 .ite (.t 67)
 (Qf 69 4 9<|
 Ql 70 1 69<|
 Qf 71 3 12<|
 Ql 72 1 71<|
 Qm 73 3<|
 q 74 (.mn (.t 72) (.t 73))<|
 Qm 75 10<|
 q 76 (.bin .sub (.t 74) (.t 75))<|
 q 77 (.mx (ci 0) (.t 76))<|
 q 78 (.bin .add (.t 70) (.t 77))<|
 Qf 79 4 9<|
 Qs 1 79 78<|
 .keep [1,2,3,8,9,17,18,19]<|
 q 10 (.mv (ci (-1)))<|
 .keep [1,2,3,8,9,10,17,18,19]<|
 .done)
 (.done)<|
 .done)<|
 .done)<|
 .done)<|
 q 80 (.bin .add (.t 19) (ci 1))<|
 Qm 19 80<|
 .keep [1,2,3,8,9,10,17,18,19]<|
 .keep [1,2,3,8,9,10,17,18,19]<|
 .done))<|
 Qm 81 10<|
 q 82 (.bin .geq (.t 81) (ci 0))<|
 .keep [3,8,9,10,82]<|
 .ite (.t 82)
 (Qf 83 4 9<|
 Ql 84 1 83<|
 Qm 85 3<|
 Qm 86 10<|
 q 87 (.bin .sub (.t 85) (.t 86))<|
 q 88 (.mx (ci 0) (.t 87))<|
 q 89 (.bin .add (.t 84) (.t 88))<|
 Qf 90 4 9<|
 Qs 1 90 89<|
 .keep [8,9]<|
 .done)
 (.done)<|
 Qa 91 5 9<|
 Qs 5 8 91<|
 .keep [8]<|
 .ret
theorem Ke:EF false F.cases_view_tell T8 [.c 8 true 5]:=ef [] Tryz.func194 (by kernel_rfl) (by kernel_rfl) (by kernel_rfl)
def V7 : IC :=
 Qb 6 2<|
 q 8 (.mv (cb false))<|
 .keep [0,1,3,6]<|
 Qm 14 1<|
 Qa 15 41 6<|
 q 16 (.call F.cases_inspection [(.t 14),(.t 15)])<|
 Qm 13 16<|
 Qe 17 13 0<|
 Qe 18 13 1<|
 q 9 (.alloc zR)<|
 Qs 41 9 17<|
 Qm 10 18<|
 .keep [0,3,9,10]<|
 Qm 19 10<|
 q 20 (.un .not (.t 19))<|
 .keep [0,3,9,20]<|
 .ite (.t 20)
 (q 8 (.mv (cb false))<|
 .keep [8]<|
 .ret)
 (.done)<|
 Qf 21 40 9<|
 Ql 22 1 21<|
 q 23 (.bslice false 1 1 [.slice none 0 0] [(0,1,(.t 22))])<|
 Qm 24 3<|
 q 25 (.appv 1 24 (.t 23) (.t 24))<|
 Qw 26 25<|
 q 27 (.mv (ci 0))<|
 .keep [0,9,25,26,27]<|
 .block 0
 (.keep [0,9,25,26,27]<|
 .loop
 (q 28 (.bin .lss (.t 27) (.t 26))<|
 .keep [0,9,25,26,27,28]<|
 .ite (.t 28)
 (.done)
 (.exit 0)<|
 .block 1
 (q 29 (.idxa 1 none (.t 25) (.t 27))<|
 Ql 30 1 29<|
 Qm 12 30<|
 .keep [0,9,12,25,26,27]<|
 Qm 31 0<|
 Qa 32 41 9<|
 Qm 33 12<|
 q 34 (.call F.cases_view_good [(.t 31),(.t 32),(.t 33)])<|
 .keep [0,9,25,26,27,34]<|
 .ite (.t 34)
 (q 8 (.mv (cb true))<|
 .keep [8]<|
 .ret)
 (.done)<|
 .done)<|
 q 35 (.bin .add (.t 27) (ci 1))<|
 Qm 27 35<|
 .keep [0,9,25,26,27]<|
 .keep [0,9,25,26,27]<|
 .done))<|
 q 8 (.mv (cb false))<|
 .keep [8]<|
 .ret
theorem Ps:EF false F.cases_view_covered V7 [.t 8]:=ef [25] Tryz.func195 (by kernel_rfl) (by kernel_rfl) (by kernel_rfl)
def Oc : IC :=
 Qb 2 0<|
 Qb 3 1<|
 q 4 (.mv (cb false))<|
 .keep [2,3]<|
 .block 0
 (Qf 6 2 2<|
 Ql 7 1 6<|
 Qf 8 2 3<|
 Ql 9 1 8<|
 q 10 (.bin .neq (.t 7) (.t 9))<|
 Qm 5 10<|
 .keep [2,3,5]<|
 .ite (.t 5)
 (Qf 11 2 2<|
 Ql 12 1 11<|
 Qf 13 2 3<|
 Ql 14 1 13<|
 q 15 (.bin .lss (.t 12) (.t 14))<|
 Qm 4 15<|
 .keep [4]<|
 .ret)
 (Qf 17 0 2<|
 Ql 18 1 17<|
 Qf 19 0 3<|
 Ql 20 1 19<|
 q 21 (.bin .neq (.t 18) (.t 20))<|
 Qm 16 21<|
 .keep [2,3,16]<|
 .ite (.t 16)
 (Qf 22 0 2<|
 Ql 23 1 22<|
 Qf 24 0 3<|
 Ql 25 1 24<|
 q 26 (.bin .lss (.t 23) (.t 25))<|
 Qm 4 26<|
 .keep [4]<|
 .ret)
 (.done)<|
 .done)<|
 .done)<|
 Qf 27 1 2<|
 Ql 28 1 27<|
 Qf 29 1 3<|
 Ql 30 1 29<|
 q 31 (.bin .lss (.t 28) (.t 30))<|
 Qm 4 31<|
 .keep [4]<|
 .ret
theorem Cu:EF false F.cases_ahead Oc [.t 4]:=ef [] Tryz.func280 (by kernel_rfl) (by kernel_rfl) (by kernel_rfl)
def Tl : IC :=
 Qb 3 1<|
 q 4 (.alloc zR)<|
 q 5 (.mv (cb false))<|
 .keep [0,3,4]<|
 Qf 6 6 3<|
 Ql 7 1 6<|
 Qm 8 0<|
 Qw 9 8<|
 q 10 (.bin .geq (.t 7) (.t 9))<|
 Qm 11 10<|
 Gm 12 11 false 0<|
 Gf 13 11 false 6 3<|
 Gl 14 11 false 1 13<|
 qg 15 11 false (.idxa 41 none (.t 12) (.t 14))<|
 Gf 16 11 false 3 15<|
 Gl 17 11 false 1 16<|
 qg 18 11 false (.bin .neq (.t 17) (ci 1))<|
 Qo 19 11 18<|
 .keep [0,3,4,19]<|
 .ite (.t 19)
 (q 20 (.build zR [])<|
 Qs 41 4 20<|
 q 5 (.mv (cb false))<|
 .keep [4,5]<|
 .ret)
 (.done)<|
 Qm 21 0<|
 Qf 22 6 3<|
 Ql 23 1 22<|
 q 24 (.idxa 41 none (.t 21) (.t 23))<|
 Qa 25 41 24<|
 Qs 41 4 25<|
 q 5 (.mv (cb true))<|
 .keep [4,5]<|
 .ret
theorem My:EF false F.cases_inspection Tl [.c 4 true 41,.t 5]:=ef [] Tryz.func282 (by kernel_rfl) (by kernel_rfl) (by kernel_rfl)
def T9 : IC :=
 Qb 4 1<|
 q 6 (.mv (cb false))<|
 .keep [0,2,4]<|
 Qm 10 0<|
 q 11 (.nilchk (.t 10))<|
 Qf 12 0 11<|
 Qf 13 0 12<|
 Qf 14 1 13<|
 Qa 15 3 14<|
 q 7 (.alloc [.slice none 0 0,.slice none 0 0,.slice none 0 0])<|
 Qs 3 7 15<|
 .keep [0,2,4,7]<|
 Qf 17 0 7<|
 Ql 18 1 17<|
 Qm 19 2<|
 Qf 20 2 4<|
 Ql 21 1 20<|
 q 22 (.call F.keys_Check [(.t 18),(.t 19),(.t 21)])<|
 Qm 16 22<|
 Qe 23 16 0<|
 Qe 24 16 1<|
 q 8 (.alloc (List.replicate 5 (.int .i64 0)))<|
 Qs 5 8 23<|
 Qm 9 24<|
 .keep [0,4,7,8,9]<|
 Qm 25 9<|
 q 26 (.eq false .i (.t 25) (.c (.nilIface)))<|
 Qm 27 26<|
 Gf 28 27 true 1 7<|
 Gl 29 27 true 1 28<|
 Gf 30 27 true 0 8<|
 Gl 31 27 true 1 30<|
 Gf 32 27 true 2 4<|
 Gl 33 27 true 1 32<|
 qg 34 27 true (.call F.revoke_Is [(.t 29),(.t 31),(.t 33)])<|
 qg 35 27 true (.un .not (.t 34))<|
 Qk 36 27 35<|
 Qm 37 36<|
 Gf 38 37 true 2 7<|
 Gl 39 37 true 1 38<|
 Ga 40 37 true 5 8<|
 Gf 41 37 true 5 4<|
 Gl 42 37 true 1 41<|
 Gf 43 37 true 2 4<|
 Gl 44 37 true 1 43<|
 qg 45 37 true (.call F.fare_Covers [(.t 39),(.t 40),(.t 42),(.t 44)])<|
 Qk 46 37 45<|
 Qm 47 46<|
 Gm 48 47 true 0<|
 Ga 49 47 true 41 4<|
 Gf 50 47 true 0 8<|
 Gl 51 47 true 1 50<|
 qg 52 47 true (.call F.cases_view_doubtful [(.t 48),(.t 49),(.t 51)])<|
 qg 53 47 true (.un .not (.t 52))<|
 Qk 54 47 53<|
 Qm 6 54<|
 .keep [6]<|
 .ret
theorem Kf:EF false F.cases_view_good T9 [.t 6]:=ef [] Tryz.func283 (by kernel_rfl) (by kernel_rfl) (by kernel_rfl)
end Go.Proofs.YtcgjlpdkobmpnaaGreat.Eng

