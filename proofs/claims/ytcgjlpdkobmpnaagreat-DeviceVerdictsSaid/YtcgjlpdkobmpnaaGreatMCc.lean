/- The code of some functions, as the abstract machine's. Printed by program. -/
import Derived.Test.YtcgjlpdkobmpnaaGreatMCa
namespace Go.Proofs.YtcgjlpdkobmpnaaGreat.Eng
open Go Go.Proofs
set_option maxRecDepth 20000
def Pm : IC :=
 Qb 5 2<|
 q 6 (.mv (ci 0))<|
 .keep [0,1,5]<|
 q 7 (.alloc (List.replicate 32 (.int .u8 0)))<|
 .keep [0,1,5,7]<|
 Qm 14 0<|
 Qw 15 14<|
 q 16 (.mv (ci 0))<|
 .keep [0,1,5,7,14,15,16]<|
 .block 0
 (.keep [0,1,5,7,14,15,16]<|
 .loop
 (q 17 (.bin .lss (.t 16) (.t 15))<|
 .keep [0,1,5,7,14,15,16,17]<|
 .ite (.t 17)
 (.done)
 (.exit 0)<|
 .block 1
 (Qm 18 16<|
 q 19 (.idxa 1 none (.t 14) (.t 16))<|
 Ql 20 1 19<|
 Qm 8 18<|
 Qm 9 20<|
 .keep [0,1,5,7,8,9,14,15,16]<|
 Qm 22 9<|
 q 23 (.call F.record_Open [(.t 22)])<|
 Qm 21 23<|
 Qe 24 21 0<|
 Qe 25 21 1<|
 Qe 26 21 2<|
 Qe 27 21 3<|
 q 10 (.alloc zR)<|
 q 11 (.alloc (List.replicate 32 (.int .u8 0)))<|
 q 12 (.alloc (List.replicate 8 (.int .u64 0)))<|
 Qs 41 10 24<|
 Qs 32 11 25<|
 Qs 8 12 26<|
 Qm 13 27<|
 .keep [0,1,5,7,8,10,11,12,13,14,15,16]<|
 Qm 28 13<|
 q 29 (.eq true .i (.t 28) (.c (.nilIface)))<|
 Qm 30 29<|
 Gf 31 30 false 0 10<|
 Gl 32 30 false 1 31<|
 Gm 33 30 false 1<|
 qg 34 30 false (.bin .neq (.t 32) (.t 33))<|
 Qo 35 30 34<|
 Qm 36 35<|
 Gf 37 36 false 1 10<|
 Gl 38 36 false 1 37<|
 Gm 39 36 false 8<|
 qg 40 36 false (.bin .neq (.t 38) (.t 39))<|
 Qo 41 36 40<|
 Qm 42 41<|
 Gf 43 42 false 8 10<|
 Ga 44 42 false 32 43<|
 Ga 45 42 false 32 7<|
 qg 46 42 false (.eqagg (List.replicate 32 (some .u8)) true (.t 44) (.t 45))<|
 Qo 47 42 46<|
 Qm 48 47<|
 Ga 49 48 false 9 5<|
 Ga 50 48 false 32 11<|
 Ga 51 48 false 8 12<|
 qg 52 48 false (.call F.sign_Verify [(.t 49),(.t 50),(.t 51)])<|
 qg 53 48 false (.un .not (.t 52))<|
 Qo 54 48 53<|
 .keep [0,1,5,7,8,11,14,15,16,54]<|
 .ite (.t 54)
 (Qm 55 8<|
 Qm 6 55<|
 .keep [6]<|
 .ret)
 (.done)<|
 Qa 56 32 11<|
 Qs 32 7 56<|
 .keep [0,1,5,7,14,15,16]<|
 .done)<|
 q 57 (.bin .add (.t 16) (ci 1))<|
 Qm 16 57<|
 .keep [0,1,5,7,14,15,16]<|
 .keep [0,1,5,7,14,15,16]<|
 .done))<|
 Qm 58 0<|
 Qw 59 58<|
 Qm 6 59<|
 .keep [6]<|
 .ret
theorem Fz:EF false F.record_Chain Pm [.t 6]:=ef [] Tryz.func37 (by kernel_rfl) (by kernel_rfl) (by kernel_rfl)
def O8 : IC :=
 q 2 (.alloc zR)<|
 q 3 (.alloc (List.replicate 32 (.int .u8 0)))<|
 q 4 (.alloc (List.replicate 8 (.int .u64 0)))<|
 q 5 (.mv (.c (.nilIface)))<|
 .keep [0,2,3,4]<|
 Qm 10 0<|
 q 11 (.call F.record_fields [(.t 10),(ci 2)])<|
 Qm 6 11<|
 .keep [2,3,4,6]<|
 Qm 12 6<|
 Qw 13 12<|
 q 14 (.bin .eql (.t 13) (ci 0))<|
 .keep [2,3,4,6,14]<|
 .ite (.t 14)
 (q 15 (.build zR [])<|
 q 16 (.build (List.replicate 32 (.int .u8 0)) [])<|
 q 17 (.build (List.replicate 8 (.int .u64 0)) [])<|
 q 18 (.mkif T.api_Code (ci 2))<|
 Qs 41 2 15<|
 Qs 32 3 16<|
 Qs 8 4 17<|
 Qm 5 18<|
 .keep [2,3,4,5]<|
 .ret)
 (.done)<|
 Qm 19 6<|
 q 20 (.idxa 1 none (.t 19) (ci 0))<|
 Ql 21 1 20<|
 q 22 (.call F.record_read [(.t 21)])<|
 q 7 (.alloc zR)<|
 Qs 41 7 22<|
 .keep [2,3,4,6,7]<|
 Qm 24 6<|
 q 25 (.idxa 1 none (.t 24) (ci 1))<|
 Ql 26 1 25<|
 q 27 (.call F.sign_Parse [(.t 26)])<|
 Qm 23 27<|
 Qe 28 23 0<|
 Qe 29 23 1<|
 q 8 (.alloc (List.replicate 8 (.int .u64 0)))<|
 Qs 8 8 28<|
 Qm 9 29<|
 .keep [2,3,4,6,7,8,9]<|
 Qm 30 9<|
 q 31 (.eq true .i (.t 30) (.c (.nilIface)))<|
 Qm 32 31<|
 Ga 33 32 false 41 7<|
 qg 34 32 false (.call F.record_May [(.t 33)])<|
 qg 35 32 false (.un .not (.t 34))<|
 Qo 36 32 35<|
 .keep [2,3,4,6,7,8,36]<|
 .ite (.t 36)
 (q 37 (.build zR [])<|
 q 38 (.build (List.replicate 32 (.int .u8 0)) [])<|
 q 39 (.build (List.replicate 8 (.int .u64 0)) [])<|
 q 40 (.mkif T.api_Code (ci 2))<|
 Qs 41 2 37<|
 Qs 32 3 38<|
 Qs 8 4 39<|
 Qm 5 40<|
 .keep [2,3,4,5]<|
 .ret)
 (.done)<|
 .reg 0
 [xe 41 (.load true 41 (.t 7)) [],
 xe 42 (.mv (.t 6)) [],
 xe 43 (.idxa 1 none (.t 42) (ci 0)) [],
 xe 44 (.load false 1 (.t 43)) [],
 xe 45 (.call F.sha_Sum [(.t 44)]) [],
 xe 46 (.load true 8 (.t 8)) [],
 xln (.store 41 (.t 2) (.t 41)) [(.t 8)],
 xln (.store 32 (.t 3) (.t 45)) [(.t 8)],
 xln (.store 8 (.t 4) (.t 46)) [],
 xl 5 (.mv (.c (.nilIface))) []]<|
 .keep [2,3,4,5]<|
 .ret
theorem Cu:EF false F.record_Open O8 [.c 2 true 41,.c 3 true 32,.c 4 true 8,.t 5]:=ef [] Tryz.func67 (by kernel_rfl) (by kernel_rfl) (by kernel_rfl)
def O1 : IC :=
 q 2 (.alloc (List.replicate 5 (.int .i64 0)))<|
 q 3 (.alloc (List.replicate 8 (.int .u64 0)))<|
 q 4 (.mv (.c (.nilIface)))<|
 .keep [0,2,3]<|
 Qm 12 0<|
 q 13 (.call F.ticket_parts [(.t 12)])<|
 Qm 11 13<|
 Qe 14 11 0<|
 Qe 15 11 1<|
 Qe 16 11 2<|
 q 6 (.alloc (List.replicate 8 (.int .u64 0)))<|
 Qm 5 14<|
 Qs 8 6 15<|
 Qm 7 16<|
 .keep [2,3,5,6,7]<|
 Qm 18 5<|
 q 19 (.call F.ticket_numbers [(.t 18),(ci 5)])<|
 Qm 17 19<|
 Qe 20 17 0<|
 Qe 21 17 1<|
 Qm 8 20<|
 Qm 9 21<|
 .keep [2,3,6,7,8,9]<|
 Qm 22 7<|
 q 23 (.un .not (.t 22))<|
 Qm 24 23<|
 Gm 25 24 false 9<|
 qg 26 24 false (.un .not (.t 25))<|
 Qo 27 24 26<|
 .keep [2,3,6,8,27]<|
 .ite (.t 27)
 (q 28 (.build (List.replicate 5 (.int .i64 0)) [])<|
 q 29 (.build (List.replicate 8 (.int .u64 0)) [])<|
 q 30 (.mkif T.api_Code (ci 2))<|
 Qs 5 2 28<|
 Qs 8 3 29<|
 Qm 4 30<|
 .keep [2,3,4]<|
 .ret)
 (.done)<|
 .reg 1
 [xe 31 (.mv (.t 8)) [],
 xe 32 (.idxa 1 none (.t 31) (ci 0)) [],
 xe 33 (.load false 1 (.t 32)) [],
 xe 34 (.mv (.t 8)) [],
 xe 35 (.idxa 1 none (.t 34) (ci 1)) [],
 xe 36 (.load false 1 (.t 35)) [],
 xe 37 (.mv (.t 8)) [],
 xe 38 (.idxa 1 none (.t 37) (ci 2)) [],
 xe 39 (.load false 1 (.t 38)) [],
 xe 40 (.mv (.t 8)) [],
 xe 41 (.idxa 1 none (.t 40) (ci 3)) [],
 xe 42 (.load false 1 (.t 41)) [],
 xe 43 (.mv (.t 8)) [],
 xe 44 (.idxa 1 none (.t 43) (ci 4)) [],
 xe 45 (.load false 1 (.t 44)) [],
 xe 46 (.build (List.replicate 5 (.int .i64 0)) [(0,1,(.t 33)),(1,1,(.t 36)),(2,1,(.t 39)),(3,1,(.t 42)),(4,1,(.t 45))]) [],
 xa 0 10 (.alloc (List.replicate 5 (.int .i64 0))),
 xln (.store 5 (.t 10) (.t 46)) []]<|
 .keep [2,3,6,10]<|
 Qa 47 5 10<|
 q 48 (.call F.ticket_May [(.t 47)])<|
 q 49 (.un .not (.t 48))<|
 .keep [2,3,6,10,49]<|
 .ite (.t 49)
 (q 50 (.build (List.replicate 5 (.int .i64 0)) [])<|
 q 51 (.build (List.replicate 8 (.int .u64 0)) [])<|
 q 52 (.mkif T.api_Code (ci 2))<|
 Qs 5 2 50<|
 Qs 8 3 51<|
 Qm 4 52<|
 .keep [2,3,4]<|
 .ret)
 (.done)<|
 .reg 0
 [xe 53 (.load true 5 (.t 10)) [],
 xe 54 (.load true 8 (.t 6)) [],
 xln (.store 5 (.t 2) (.t 53)) [(.t 6)],
 xln (.store 8 (.t 3) (.t 54)) [],
 xl 4 (.mv (.c (.nilIface))) []]<|
 .keep [2,3,4]<|
 .ret
theorem Cn:EF false F.ticket_Open O1 [.c 2 true 5,.c 3 true 8,.t 4]:=ef [] Tryz.func82 (by kernel_rfl) (by kernel_rfl) (by kernel_rfl)
def Qi : IC :=
 q 4 (.mv (.c (.slice none 0 0)))<|
 .keep [0,1]<|
 Qm 11 0<|
 q 12 (.call F.tlv_Get [(.t 11)])<|
 Qm 10 12<|
 Qe 13 10 0<|
 Qe 14 10 1<|
 Qm 5 13<|
 Qm 6 14<|
 .keep [1,5,6]<|
 Qm 15 6<|
 q 16 (.eq true .i (.t 15) (.c (.nilIface)))<|
 Qm 17 16<|
 Gm 18 17 false 5<|
 qg 19 17 false (.len false (.t 18))<|
 Gm 20 17 false 1<|
 qg 21 17 false (.bin .neq (.t 19) (.t 20))<|
 Qo 22 17 21<|
 .keep [5,22]<|
 .ite (.t 22)
 (q 4 (.mv (.c (.slice none 0 0)))<|
 .keep [4]<|
 .ret)
 (.done)<|
 q 7 (.mv (.c (.slice none 0 0)))<|
 .keep [5,7]<|
 Qm 23 5<|
 Qw 24 23<|
 q 25 (.mv (ci 0))<|
 .keep [7,23,24,25]<|
 .block 0
 (.keep [7,23,24,25]<|
 .loop
 (q 26 (.bin .lss (.t 25) (.t 24))<|
 .keep [7,23,24,25,26]<|
 .ite (.t 26)
 (.done)
 (.exit 0)<|
 .block 1
 (Qm 27 25<|
 q 28 (.idxa 2 none (.t 23) (.t 25))<|
 Qa 29 2 28<|
 q 9 (.alloc [.int .i64 0,.slice none 0 0])<|
 Qm 8 27<|
 Qs 2 9 29<|
 .keep [7,8,9,23,24,25]<|
 Qf 30 0 9<|
 Ql 31 1 30<|
 Qm 32 8<|
 q 33 (.bin .add (.t 32) (ci 1))<|
 q 34 (.bin .neq (.t 31) (.t 33))<|
 .keep [7,9,23,24,25,34]<|
 .ite (.t 34)
 (q 4 (.mv (.c (.slice none 0 0)))<|
 .keep [4]<|
 .ret)
 (.done)<|
 Qm 35 7<|
 Qf 36 1 9<|
 Ql 37 1 36<|
 q 38 (.bslice false 1 1 [.slice none 0 0] [(0,1,(.t 37))])<|
 q 39 (.append 1 24 (.t 35) (.t 38))<|
 Qm 7 39<|
 .keep [7,23,24,25]<|
 .done)<|
 q 40 (.bin .add (.t 25) (ci 1))<|
 Qm 25 40<|
 .keep [7,23,24,25]<|
 .keep [7,23,24,25]<|
 .done))<|
 Qm 41 7<|
 Qm 4 41<|
 .keep [4]<|
 .ret
theorem G6:EF false F.record_fields Qi [.t 4]:=ef [] Tryz.func140 (by kernel_rfl) (by kernel_rfl) (by kernel_rfl)
def O7 : IC :=
 q 2 (.alloc zR)<|
 .keep [0,2]<|
 Qm 9 0<|
 q 10 (.call F.record_fields [(.t 9),(ci 10)])<|
 Qm 3 10<|
 .keep [2,3]<|
 Qm 11 3<|
 Qw 12 11<|
 q 13 (.bin .eql (.t 12) (ci 0))<|
 Qm 14 13<|
 Gm 15 14 false 3<|
 qg 16 14 false (.idxa 1 none (.t 15) (ci 8))<|
 Gl 17 14 false 1 16<|
 qg 18 14 false (.len false (.t 17))<|
 qg 19 14 false (.bin .neq (.t 18) (ci 32))<|
 Qo 20 14 19<|
 .keep [2,3,20]<|
 .ite (.t 20)
 (q 21 (.build zR [])<|
 Qs 41 2 21<|
 .keep [2]<|
 .ret)
 (.done)<|
 q 4 (.alloc (List.replicate 8 (.int .i64 0)))<|
 .keep [2,3,4]<|
 q 22 (.mv (ci 0))<|
 .keep [2,3,4,22]<|
 .block 0
 (.keep [2,3,4,22]<|
 .loop
 (q 23 (.bin .lss (.t 22) (ci 8))<|
 .keep [2,3,4,22,23]<|
 .ite (.t 23)
 (.done)
 (.exit 0)<|
 .block 1
 (Qm 24 22<|
 Qm 5 24<|
 .keep [2,3,4,5,22]<|
 Qm 26 3<|
 Qm 27 5<|
 q 28 (.idxa 1 none (.t 26) (.t 27))<|
 Ql 29 1 28<|
 q 30 (.call F.tlv_Of [(.t 29)])<|
 Qm 25 30<|
 Qe 31 25 0<|
 Qe 32 25 1<|
 Qm 6 31<|
 Qm 7 32<|
 .keep [2,3,4,5,6,7,22]<|
 Qm 33 7<|
 q 34 (.eq true .i (.t 33) (.c (.nilIface)))<|
 .keep [2,3,4,5,6,22,34]<|
 .ite (.t 34)
 (q 35 (.build zR [])<|
 Qs 41 2 35<|
 .keep [2]<|
 .ret)
 (.done)<|
 Qm 36 5<|
 Qm 37 6<|
 q 38 (.idxa 1 (some 8) (.t 4) (.t 36))<|
 Qs 1 38 37<|
 .keep [2,3,4,22]<|
 .done)<|
 q 39 (.bin .add (.t 22) (ci 1))<|
 Qm 22 39<|
 .keep [2,3,4,22]<|
 .keep [2,3,4,22]<|
 .done))<|
 .reg 1
 [xe 40 (.idxa 1 (some 8) (.t 4) (ci 0)) [],
 xe 41 (.load false 1 (.t 40)) [],
 xe 42 (.idxa 1 (some 8) (.t 4) (ci 1)) [],
 xe 43 (.load false 1 (.t 42)) [],
 xe 44 (.idxa 1 (some 8) (.t 4) (ci 2)) [],
 xe 45 (.load false 1 (.t 44)) [],
 xe 46 (.idxa 1 (some 8) (.t 4) (ci 3)) [],
 xe 47 (.load false 1 (.t 46)) [],
 xe 48 (.idxa 1 (some 8) (.t 4) (ci 4)) [],
 xe 49 (.load false 1 (.t 48)) [],
 xe 50 (.idxa 1 (some 8) (.t 4) (ci 5)) [],
 xe 51 (.load false 1 (.t 50)) [],
 xe 52 (.idxa 1 (some 8) (.t 4) (ci 6)) [],
 xe 53 (.load false 1 (.t 52)) [],
 xe 54 (.idxa 1 (some 8) (.t 4) (ci 7)) [],
 xe 55 (.load false 1 (.t 54)) [],
 xe 56 (.mv (.t 3)) [],
 xe 57 (.idxa 1 none (.t 56) (ci 8)) [],
 xe 58 (.load false 1 (.t 57)) [],
 xe 59 (.s2ap 32 1 (.t 58)) [],
 xe 60 (.load true 32 (.t 59)) [],
 xe 61 (.build zR [(0,1,(.t 41)),(1,1,(.t 43)),(2,1,(.t 45)),(3,1,(.t 47)),(4,1,(.t 49)),(5,1,(.t 51)),(6,1,(.t 53)),(7,1,(.t 55)),(8,32,(.t 60))]) [],
 xa 0 8 (.alloc zR),
 xln (.store 41 (.t 8) (.t 61)) []]<|
 .keep [2,3,8]<|
 Qm 62 3<|
 q 63 (.idxa 1 none (.t 62) (ci 9))<|
 Ql 64 1 63<|
 Qw 65 64<|
 q 66 (.bin .gtr (.t 65) (ci 0))<|
 .keep [2,3,8,66]<|
 .ite (.t 66)
 (Qm 67 3<|
 q 68 (.idxa 1 none (.t 67) (ci 9))<|
 Ql 69 1 68<|
 Qf 70 40 8<|
 Qs 1 70 69<|
 .keep [2,8]<|
 .done)
 (.done)<|
 Qa 71 41 8<|
 Qs 41 2 71<|
 .keep [2]<|
 .ret
theorem Ct:EF false F.record_read O7 [.c 2 true 41]:=ef [] Tryz.func141 (by kernel_rfl) (by kernel_rfl) (by kernel_rfl)
def Ul : IC :=
 Qm 39 3<|
 Qm 40 39<|
 Gm 41 40 true 4<|
 Qk 42 40 41<|
 Qm 43 42<|
 Gf 44 43 true 0 1<|
 Gl 45 43 true 1 44<|
 qg 46 43 true (.call F.record_within [(.t 45),(ci 1),(ci 2147483647)])<|
 Qk 47 43 46<|
 Qm 48 47<|
 Gf 49 48 true 1 1<|
 Gl 50 48 true 1 49<|
 qg 51 48 true (.call F.record_within [(.t 50),(ci 0),(ci 1073741824)])<|
 Qk 52 48 51<|
 Qm 53 52<|
 Gf 54 53 true 2 1<|
 Gl 55 53 true 1 54<|
 qg 56 53 true (.call F.record_within [(.t 55),(ci 0),(ci 1073741824)])<|
 Qk 57 53 56<|
 Qm 58 57<|
 Gf 59 58 true 6 1<|
 Gl 60 58 true 1 59<|
 qg 61 58 true (.call F.record_within [(.t 60),(ci 0),(ci 2147483647)])<|
 Qk 62 58 61<|
 Qm 2 62<|
 .keep [2]<|
 .ret
def M6 : IC :=
 Qb 1 0<|
 q 2 (.mv (cb false))<|
 .keep [1]<|
 Qf 5 4 1<|
 Ql 6 1 5<|
 q 7 (.call F.record_within [(.t 6),(ci 0),(ci 31)])<|
 Qm 8 7<|
 Gf 9 8 true 5 1<|
 Gl 10 8 true 1 9<|
 qg 11 8 true (.call F.record_within [(.t 10),(ci 0),(ci 7)])<|
 Qk 12 8 11<|
 Qm 3 12<|
 .keep [1,3]<|
 Qf 13 7 1<|
 Ql 14 1 13<|
 q 15 (.bin .eql (.t 14) (ci 0))<|
 Qm 16 15<|
 Gf 17 16 true 40 1<|
 Gl 18 16 true 1 17<|
 qg 19 16 true (.len false (.t 18))<|
 qg 20 16 true (.bin .eql (.t 19) (ci 0))<|
 Qk 21 16 20<|
 Qm 22 21<|
 Gf 23 22 true 3 1<|
 Gl 24 22 true 1 23<|
 qg 25 22 true (.call F.record_within [(.t 24),(ci 2),(ci 3)])<|
 Qk 26 22 25<|
 Qm 4 26<|
 .keep [1,3,4]<|
 Qf 27 3 1<|
 Ql 28 1 27<|
 q 29 (.bin .eql (.t 28) (ci 1))<|
 .keep [1,3,4,29]<|
 .ite (.t 29)
 (Qf 30 7 1<|
 Ql 31 1 30<|
 q 32 (.call F.record_within [(.t 31),(ci 1),(ci 7)])<|
 Qm 33 32<|
 Gf 34 33 true 40 1<|
 Gl 35 33 true 1 34<|
 qg 36 33 true (.len false (.t 35))<|
 qg 37 33 true (.bin .leq (.t 36) (ci 500))<|
 Qk 38 33 37<|
 Qm 4 38<|
 .keep [1,3,4]<|
 .done)
 (.done)<|
 Ul
theorem A5:EF false F.record_May M6 [.t 2]:=ef [] Tryz.func143 (by kernel_rfl) (by kernel_rfl) (by kernel_rfl)
def Xz : IC :=
 q 2 (.mv (.c (.slice none 0 0)))<|
 q 3 (.alloc (List.replicate 8 (.int .u64 0)))<|
 q 4 (.mv (cb false))<|
 .keep [0,3]<|
 Qm 9 0<|
 q 10 (.call F.tlv_Get [(.t 9)])<|
 Qm 8 10<|
 Qe 11 8 0<|
 Qe 12 8 1<|
 Qm 5 11<|
 Qm 6 12<|
 .keep [3,5,6]<|
 Qm 13 6<|
 q 14 (.eq true .i (.t 13) (.c (.nilIface)))<|
 Qm 15 14<|
 Gm 16 15 false 5<|
 qg 17 15 false (.len false (.t 16))<|
 qg 18 15 false (.bin .neq (.t 17) (ci 2))<|
 Qo 19 15 18<|
 Qm 20 19<|
 Gm 21 20 false 5<|
 qg 22 20 false (.idxa 2 none (.t 21) (ci 0))<|
 Gf 23 20 false 0 22<|
 Gl 24 20 false 1 23<|
 qg 25 20 false (.bin .neq (.t 24) (ci 1))<|
 Qo 26 20 25<|
 Qm 27 26<|
 Gm 28 27 false 5<|
 qg 29 27 false (.idxa 2 none (.t 28) (ci 1))<|
 Gf 30 27 false 0 29<|
 Gl 31 27 false 1 30<|
 qg 32 27 false (.bin .neq (.t 31) (ci 2))<|
 Qo 33 27 32<|
 .keep [3,5,33]<|
 .ite (.t 33)
 (q 34 (.build (List.replicate 8 (.int .u64 0)) [])<|
 q 2 (.mv (.c (.slice none 0 0)))<|
 Qs 8 3 34<|
 q 4 (.mv (cb false))<|
 .keep [2,3,4]<|
 .ret)
 (.done)<|
 Qm 36 5<|
 q 37 (.idxa 2 none (.t 36) (ci 1))<|
 Qf 38 1 37<|
 Ql 39 1 38<|
 q 40 (.call F.sign_Parse [(.t 39)])<|
 Qm 35 40<|
 Qe 41 35 0<|
 Qe 42 35 1<|
 q 7 (.alloc (List.replicate 8 (.int .u64 0)))<|
 Qs 8 7 41<|
 Qm 6 42<|
 .keep [3,5,6,7]<|
 Qm 43 5<|
 q 44 (.idxa 2 none (.t 43) (ci 0))<|
 Qf 45 1 44<|
 Ql 46 1 45<|
 Qa 47 8 7<|
 Qm 48 6<|
 q 49 (.eq false .i (.t 48) (.c (.nilIface)))<|
 Qm 2 46<|
 Qs 8 3 47<|
 Qm 4 49<|
 .keep [2,3,4]<|
 .ret
theorem W3:EF false F.ticket_parts Xz [.t 2,.c 3 true 8,.t 4]:=ef [] Tryz.func161 (by kernel_rfl) (by kernel_rfl) (by kernel_rfl)
def Rb : IC :=
 q 4 (.mv (.c (.slice none 0 0)))<|
 q 5 (.mv (cb false))<|
 .keep [0,1]<|
 Qm 14 0<|
 q 15 (.call F.tlv_Get [(.t 14)])<|
 Qm 13 15<|
 Qe 16 13 0<|
 Qe 17 13 1<|
 Qm 6 16<|
 Qm 7 17<|
 .keep [1,6,7]<|
 Qm 18 7<|
 q 19 (.eq true .i (.t 18) (.c (.nilIface)))<|
 Qm 20 19<|
 Gm 21 20 false 6<|
 qg 22 20 false (.len false (.t 21))<|
 Gm 23 20 false 1<|
 qg 24 20 false (.bin .neq (.t 22) (.t 23))<|
 Qo 25 20 24<|
 .keep [6,25]<|
 .ite (.t 25)
 (q 4 (.mv (.c (.slice none 0 0)))<|
 q 5 (.mv (cb false))<|
 .keep [4,5]<|
 .ret)
 (.done)<|
 q 8 (.mv (.c (.slice none 0 0)))<|
 .keep [6,8]<|
 Qm 26 6<|
 Qw 27 26<|
 q 28 (.mv (ci 0))<|
 .keep [8,26,27,28]<|
 .block 0
 (.keep [8,26,27,28]<|
 .loop
 (q 29 (.bin .lss (.t 28) (.t 27))<|
 .keep [8,26,27,28,29]<|
 .ite (.t 29)
 (.done)
 (.exit 0)<|
 .block 1
 (Qm 30 28<|
 q 31 (.idxa 2 none (.t 26) (.t 28))<|
 Qa 32 2 31<|
 q 10 (.alloc [.int .i64 0,.slice none 0 0])<|
 Qm 9 30<|
 Qs 2 10 32<|
 .keep [8,9,10,26,27,28]<|
 Qf 34 1 10<|
 Ql 35 1 34<|
 q 36 (.call F.tlv_Of [(.t 35)])<|
 Qm 33 36<|
 Qe 37 33 0<|
 Qe 38 33 1<|
 Qm 11 37<|
 Qm 12 38<|
 .keep [8,9,10,11,12,26,27,28]<|
 Qm 39 12<|
 q 40 (.eq true .i (.t 39) (.c (.nilIface)))<|
 Qm 41 40<|
 Gf 42 41 false 0 10<|
 Gl 43 41 false 1 42<|
 Gm 44 41 false 9<|
 qg 45 41 false (.bin .add (.t 44) (ci 1))<|
 qg 46 41 false (.bin .neq (.t 43) (.t 45))<|
 Qo 47 41 46<|
 .keep [8,11,26,27,28,47]<|
 .ite (.t 47)
 (q 4 (.mv (.c (.slice none 0 0)))<|
 q 5 (.mv (cb false))<|
 .keep [4,5]<|
 .ret)
 (.done)<|
 Qm 48 8<|
 Qm 49 11<|
 q 50 (.bslice false 1 1 [.int .i64 0] [(0,1,(.t 49))])<|
 q 51 (.append 1 8 (.t 48) (.t 50))<|
 Qm 8 51<|
 .keep [8,26,27,28]<|
 .done)<|
 q 52 (.bin .add (.t 28) (ci 1))<|
 Qm 28 52<|
 .keep [8,26,27,28]<|
 .keep [8,26,27,28]<|
 .done))<|
 Qm 53 8<|
 Qm 4 53<|
 q 5 (.mv (cb true))<|
 .keep [4,5]<|
 .ret
theorem J8:EF false F.ticket_numbers Rb [.t 4,.t 5]:=ef [] Tryz.func162 (by kernel_rfl) (by kernel_rfl) (by kernel_rfl)
def M1 : IC :=
 Qb 1 0<|
 q 2 (.mv (cb false))<|
 .keep [1]<|
 Qf 3 0 1<|
 Ql 4 1 3<|
 q 5 (.call F.ticket_within [(.t 4),(ci 1),(ci 2147483647)])<|
 Qm 6 5<|
 Gf 7 6 true 1 1<|
 Gl 8 6 true 1 7<|
 qg 9 6 true (.call F.ticket_within [(.t 8),(ci 1),(ci 16)])<|
 Qk 10 6 9<|
 Qm 11 10<|
 Gf 12 11 true 2 1<|
 Gl 13 11 true 1 12<|
 qg 14 11 true (.call F.ticket_within [(.t 13),(ci 1),(ci 255)])<|
 Qk 15 11 14<|
 Qm 16 15<|
 Gf 17 16 true 3 1<|
 Gl 18 16 true 1 17<|
 qg 19 16 true (.call F.ticket_within [(.t 18),(ci 0),(ci 1073741824)])<|
 Qk 20 16 19<|
 Qm 21 20<|
 Gf 22 21 true 4 1<|
 Gl 23 21 true 1 22<|
 qg 24 21 true (.call F.ticket_within [(.t 23),(ci 1),(ci 2147483647)])<|
 Qk 25 21 24<|
 Qm 2 25<|
 .keep [2]<|
 .ret
theorem A0:EF false F.ticket_May M1 [.t 2]:=ef [] Tryz.func163 (by kernel_rfl) (by kernel_rfl) (by kernel_rfl)
def Pl : IC :=
 Qb 2 0<|
 Qb 3 1<|
 q 4 (.mv (.c (.slice none 0 0)))<|
 q 5 (.mv (.c (.nilIface)))<|
 .keep [2,3]<|
 Qa 10 41 2<|
 q 11 (.call F.record_Body [(.t 10)])<|
 Qm 9 11<|
 Qe 12 9 0<|
 Qe 13 9 1<|
 Qm 6 12<|
 Qm 7 13<|
 .keep [3,6,7]<|
 Qm 14 7<|
 q 15 (.eq true .i (.t 14) (.c (.nilIface)))<|
 .keep [3,6,7,15]<|
 .ite (.t 15)
 (Qm 16 7<|
 q 4 (.mv (.c (.slice none 0 0)))<|
 Qm 5 16<|
 .keep [4,5]<|
 .ret)
 (.done)<|
 .reg 1
 [xe 18 (.load true 4 (.t 3)) [],
 xe 19 (.mv (.t 6)) [],
 xe 20 (.call F.sha_Sum [(.t 19)]) [],
 xe 21 (.call F.sign_Sign [(.t 18),(.t 20)]) [],
 xe 17 (.mv (.t 21)) [],
 xe 22 (.ext (.t 17) 0) [],
 xe 23 (.ext (.t 17) 1) [],
 xa 0 8 (.alloc (List.replicate 8 (.int .u64 0))),
 xln (.store 8 (.t 8) (.t 22)) [],
 xl 7 (.mv (.t 23)) []]<|
 .keep [6,7,8]<|
 Qm 24 7<|
 q 25 (.eq true .i (.t 24) (.c (.nilIface)))<|
 .keep [6,7,8,25]<|
 .ite (.t 25)
 (Qm 26 7<|
 q 4 (.mv (.c (.slice none 0 0)))<|
 Qm 5 26<|
 .keep [4,5]<|
 .ret)
 (.done)<|
 Qm 27 6<|
 q 28 (.build [.int .i64 0,.slice none 0 0] [(0,1,(ci 1)),(1,1,(.t 27))])<|
 Qa 29 8 8<|
 q 30 (.call F.sign_Bytes [(.t 29)])<|
 q 31 (.build [.int .i64 0,.slice none 0 0] [(0,1,(ci 2)),(1,1,(.t 30))])<|
 q 32 (.bslice false 2 2 [.int .i64 0,.slice none 0 0] [(0,2,(.t 28)),(2,2,(.t 31))])<|
 q 33 (.call F.tlv_Put [(.t 32)])<|
 Qe 34 33 0<|
 Qe 35 33 1<|
 Qm 4 34<|
 Qm 5 35<|
 .keep [4,5]<|
 .ret
theorem Fy:EF false F.record_Issue Pl [.t 4,.t 5]:=ef [] Tryz.func164 (by kernel_rfl) (by kernel_rfl) (by kernel_rfl)
def Pg : IC :=
 Qb 3 1<|
 q 4 (.alloc (List.replicate 5 (.int .i64 0)))<|
 q 5 (.mv (.c (.nilIface)))<|
 .keep [0,3,4]<|
 Qm 13 0<|
 q 14 (.call F.ticket_Open [(.t 13)])<|
 Qm 12 14<|
 Qe 15 12 0<|
 Qe 16 12 1<|
 Qe 17 12 2<|
 q 6 (.alloc (List.replicate 5 (.int .i64 0)))<|
 q 7 (.alloc (List.replicate 8 (.int .u64 0)))<|
 Qs 5 6 15<|
 Qs 8 7 16<|
 Qm 8 17<|
 .keep [0,3,4,6,7,8]<|
 Qm 18 8<|
 q 19 (.eq true .i (.t 18) (.c (.nilIface)))<|
 .keep [0,3,4,6,7,8,19]<|
 .ite (.t 19)
 (q 20 (.build (List.replicate 5 (.int .i64 0)) [])<|
 Qm 21 8<|
 Qs 5 4 20<|
 Qm 5 21<|
 .keep [4,5]<|
 .ret)
 (.done)<|
 Qm 23 0<|
 q 24 (.call F.ticket_parts [(.t 23)])<|
 Qm 22 24<|
 Qe 25 22 0<|
 Qe 26 22 1<|
 Qe 27 22 2<|
 q 10 (.alloc (List.replicate 8 (.int .u64 0)))<|
 Qm 9 25<|
 Qs 8 10 26<|
 Qm 11 27<|
 .keep [3,4,6,7,9]<|
 Qa 28 9 3<|
 Qm 29 9<|
 q 30 (.call F.sha_Sum [(.t 29)])<|
 Qa 31 8 7<|
 q 32 (.call F.sign_Verify [(.t 28),(.t 30),(.t 31)])<|
 q 33 (.un .not (.t 32))<|
 .keep [4,6,33]<|
 .ite (.t 33)
 (q 34 (.build (List.replicate 5 (.int .i64 0)) [])<|
 q 35 (.mkif T.api_Code (ci 8))<|
 Qs 5 4 34<|
 Qm 5 35<|
 .keep [4,5]<|
 .ret)
 (.done)<|
 Qa 36 5 6<|
 Qs 5 4 36<|
 q 5 (.mv (.c (.nilIface)))<|
 .keep [4,5]<|
 .ret
theorem Ft:EF false F.ticket_Check Pg [.c 4 true 5,.t 5]:=ef [] Tryz.func168 (by kernel_rfl) (by kernel_rfl) (by kernel_rfl)
def Qh : IC :=
 q 6 (.mv (cb false))<|
 .keep [0,1,2]<|
 Qm 7 0<|
 Qm 8 1<|
 q 9 (.bin .geq (.t 7) (.t 8))<|
 Qm 10 9<|
 Gm 11 10 true 0<|
 Gm 12 10 true 2<|
 qg 13 10 true (.bin .leq (.t 11) (.t 12))<|
 Qk 14 10 13<|
 Qm 6 14<|
 .keep [6]<|
 .ret
theorem G5:EF false F.record_within Qh [.t 6]:=ef [] Tryz.func227 (by kernel_rfl) (by kernel_rfl) (by kernel_rfl)
def R9 : IC :=
 q 6 (.mv (cb false))<|
 .keep [0,1,2]<|
 Qm 7 0<|
 Qm 8 1<|
 q 9 (.bin .geq (.t 7) (.t 8))<|
 Qm 10 9<|
 Gm 11 10 true 0<|
 Gm 12 10 true 2<|
 qg 13 10 true (.bin .leq (.t 11) (.t 12))<|
 Qk 14 10 13<|
 Qm 6 14<|
 .keep [6]<|
 .ret
theorem G0:EF false F.ticket_within R9 [.t 6]:=ef [] Tryz.func253 (by kernel_rfl) (by kernel_rfl) (by kernel_rfl)
def O9 : IC :=
 Qb 1 0<|
 q 2 (.mv (.c (.slice none 0 0)))<|
 q 3 (.mv (.c (.nilIface)))<|
 .keep [1]<|
 Qa 8 41 1<|
 q 9 (.call F.record_May [(.t 8)])<|
 q 10 (.un .not (.t 9))<|
 .keep [1,10]<|
 .ite (.t 10)
 (q 11 (.mkif T.api_Code (ci 1))<|
 q 2 (.mv (.c (.slice none 0 0)))<|
 Qm 3 11<|
 .keep [2,3]<|
 .ret)
 (.done)<|
 q 4 (.alloc [.slice none 0 0])<|
 .keep [1,4]<|
 q 12 (.mkfn (.func F.record_Body_1) [] [(.t 4)])<|
 Qm 5 12<|
 .keep [1,4,5]<|
 Qf 13 0 1<|
 Ql 14 1 13<|
 Qf 15 1 1<|
 Ql 16 1 15<|
 Qf 17 2 1<|
 Ql 18 1 17<|
 Qf 19 3 1<|
 Ql 20 1 19<|
 Qf 21 4 1<|
 Ql 22 1 21<|
 Qf 23 5 1<|
 Ql 24 1 23<|
 Qf 25 6 1<|
 Ql 26 1 25<|
 Qf 27 7 1<|
 Ql 28 1 27<|
 q 29 (.build (List.replicate 8 (.int .i64 0)) [(0,1,(.t 14)),(1,1,(.t 16)),(2,1,(.t 18)),(3,1,(.t 20)),(4,1,(.t 22)),(5,1,(.t 24)),(6,1,(.t 26)),(7,1,(.t 28))])<|
 q 30 (.mv (ci 0))<|
 .keep [1,4,5,29,30]<|
 .block 0
 (.keep [1,4,5,29,30]<|
 .loop
 (q 31 (.bin .lss (.t 30) (ci 8))<|
 .keep [1,4,5,29,30,31]<|
 .ite (.t 31)
 (.done)
 (.exit 0)<|
 .block 1
 (q 32 (.idx false 1 8 (.t 29) (.t 30))<|
 Qm 7 32<|
 .keep [1,4,5,7,29,30]<|
 Qm 33 5<|
 Qm 34 7<|
 q 35 (.call F.tlv_Number [(.t 34)])<|
 q 36 (.callv (.t 33) [(.t 35)])<|
 .keep [1,4,5,29,30]<|
 .done)<|
 q 37 (.bin .add (.t 30) (ci 1))<|
 Qm 30 37<|
 .keep [1,4,5,29,30]<|
 .keep [1,4,5,29,30]<|
 .done))<|
 Qm 38 5<|
 Qf 39 8 1<|
 q 40 (.slice 1 (some 32) (.t 39) none none none)<|
 q 41 (.callv (.t 38) [(.t 40)])<|
 .keep [1,4,5]<|
 Qm 42 5<|
 Qf 43 40 1<|
 Ql 44 1 43<|
 q 45 (.callv (.t 42) [(.t 44)])<|
 .keep [4]<|
 Ql 46 1 4<|
 q 47 (.call F.tlv_Put [(.t 46)])<|
 Qe 48 47 0<|
 Qe 49 47 1<|
 Qm 2 48<|
 Qm 3 49<|
 .keep [2,3]<|
 .ret
theorem Cv:EF false F.record_Body O9 [.t 2,.t 3]:=ef [] Tryz.func254 (by kernel_rfl) (by kernel_rfl) (by kernel_rfl)
def Um : IC :=
 Ql 3 1 1<|
 Ql 4 1 1<|
 Qw 5 4<|
 q 6 (.bin .add (.t 5) (ci 1))<|
 Qm 7 0<|
 q 8 (.build [.int .i64 0,.slice none 0 0] [(0,1,(.t 6)),(1,1,(.t 7))])<|
 q 9 (.bslice true 2 1 [.int .i64 0,.slice none 0 0] [(0,2,(.t 8))])<|
 q 10 (.append 2 32 (.t 3) (.t 9))<|
 Qs 1 1 10<|
 .keep []<|
 .ret
theorem G7:EF false F.record_Body_1 Um []:=ef [9] Tryz.func307 (by kernel_rfl) (by kernel_rfl) (by kernel_rfl)
def Pq : IC :=
 q 12 (.mv (ci 0))<|
 q 13 (.mv (.c (.nilIface)))<|
 .keep [0,1,2,3,4,5]<|
 Qm 18 0<|
 q 19 (.call F.keys_May [(.t 18)])<|
 q 20 (.un .not (.t 19))<|
 Qm 21 20<|
 Gm 22 21 false 1<|
 qg 23 21 false (.call F.revoke_May [(.t 22)])<|
 qg 24 21 false (.un .not (.t 23))<|
 Qo 25 21 24<|
 Qm 26 25<|
 Gm 27 26 false 2<|
 qg 28 26 false (.call F.fare_May [(.t 27)])<|
 qg 29 26 false (.un .not (.t 28))<|
 Qo 30 26 29<|
 Qm 31 30<|
 Gm 32 31 false 4<|
 Gm 33 31 false 5<|
 qg 34 31 false (.call F.fare_place [(.t 32),(.t 33)])<|
 qg 35 31 false (.un .not (.t 34))<|
 Qo 36 31 35<|
 .keep [0,1,2,3,4,5,36]<|
 .ite (.t 36)
 (q 37 (.mkif T.api_Code (ci 1))<|
 q 12 (.mv (ci 0))<|
 Qm 13 37<|
 .keep [12,13]<|
 .ret)
 (.done)<|
 Qm 39 0<|
 Qm 40 3<|
 Qm 41 5<|
 q 42 (.call F.keys_Check [(.t 39),(.t 40),(.t 41)])<|
 Qm 38 42<|
 Qe 43 38 0<|
 Qe 44 38 1<|
 q 14 (.alloc (List.replicate 5 (.int .i64 0)))<|
 Qs 5 14 43<|
 Qm 15 44<|
 .keep [1,2,4,5,14,15]<|
 Qm 46 2<|
 Qa 47 5 14<|
 q 48 (.call F.fare_product [(.t 46),(.t 47)])<|
 Qm 45 48<|
 Qe 49 45 0<|
 Qe 50 45 1<|
 q 16 (.alloc [.int .i64 0,.int .i64 0,.int .i64 0,.int .i64 0,.int .i64 0,.slice none 0 0,.slice none 0 0])<|
 Qs 7 16 49<|
 Qm 17 50<|
 .keep [1,4,5,14,15,16,17]<|
 .block 0
 (Qm 52 15<|
 q 53 (.mkif T.api_Code (ci 2))<|
 q 54 (.eq false .i (.t 52) (.t 53))<|
 Qm 51 54<|
 .keep [1,4,5,14,15,16,17,51]<|
 .ite (.t 51)
 (q 12 (.mv (ci 2))<|
 q 13 (.mv (.c (.nilIface)))<|
 .keep [12,13]<|
 .ret)
 (Qm 56 15<|
 q 57 (.eq true .i (.t 56) (.c (.nilIface)))<|
 Qm 55 57<|
 .keep [1,4,5,14,16,17,55]<|
 .ite (.t 55)
 (q 12 (.mv (ci 3))<|
 q 13 (.mv (.c (.nilIface)))<|
 .keep [12,13]<|
 .ret)
 (Qm 59 1<|
 Qf 60 0 14<|
 Ql 61 1 60<|
 Qm 62 5<|
 q 63 (.call F.revoke_Is [(.t 59),(.t 61),(.t 62)])<|
 Qm 58 63<|
 .keep [4,5,14,16,17,58]<|
 .ite (.t 58)
 (q 12 (.mv (ci 4))<|
 q 13 (.mv (.c (.nilIface)))<|
 .keep [12,13]<|
 .ret)
 (Qm 65 17<|
 q 66 (.un .not (.t 65))<|
 Qm 64 66<|
 .keep [4,5,14,16,64]<|
 .ite (.t 64)
 (q 12 (.mv (ci 7))<|
 q 13 (.mv (.c (.nilIface)))<|
 .keep [12,13]<|
 .ret)
 (Qa 68 5 14<|
 Qm 69 4<|
 q 70 (.call F.fare_in [(.t 68),(.t 69)])<|
 q 71 (.un .not (.t 70))<|
 Qm 67 71<|
 .keep [5,14,16,67]<|
 .ite (.t 67)
 (q 12 (.mv (ci 5))<|
 q 13 (.mv (.c (.nilIface)))<|
 .keep [12,13]<|
 .ret)
 (Qa 73 7 16<|
 Qa 74 5 14<|
 Qm 75 5<|
 q 76 (.call F.fare_then [(.t 73),(.t 74),(.t 75)])<|
 q 77 (.un .not (.t 76))<|
 Qm 72 77<|
 .keep [72]<|
 .ite (.t 72)
 (q 12 (.mv (ci 6))<|
 q 13 (.mv (.c (.nilIface)))<|
 .keep [12,13]<|
 .ret)
 (.done)<|
 .done)<|
 .done)<|
 .done)<|
 .done)<|
 .done)<|
 .done)<|
 q 12 (.mv (ci 1))<|
 q 13 (.mv (.c (.nilIface)))<|
 .keep [12,13]<|
 .ret
theorem F3:EF false F.fare_Verdict Pq [.t 12,.t 13]:=ef [] Tryz.func32 (by kernel_rfl) (by kernel_rfl) (by kernel_rfl)
def Ts : IC :=
 q 2 (.mv (cb false))<|
 .keep [0]<|
 q 3 (.mv (ci 0))<|
 .keep [0,3]<|
 .block 0
 (.keep [0,3]<|
 .loop
 (Qm 4 3<|
 Qm 5 0<|
 Qw 6 5<|
 q 7 (.bin .lss (.t 4) (.t 6))<|
 .keep [0,3,7]<|
 .ite (.t 7)
 (.done)
 (.exit 0)<|
 .block 1
 (Qm 10 0<|
 Qm 11 3<|
 q 12 (.idxa 7 none (.t 10) (.t 11))<|
 Qf 13 2 12<|
 Qf 14 3 13<|
 Ql 15 1 14<|
 Qw 16 15<|
 q 17 (.bin .gtr (.t 16) (ci 300))<|
 Qm 18 17<|
 Gm 19 18 false 0<|
 Gm 20 18 false 3<|
 qg 21 18 false (.idxa 7 none (.t 19) (.t 20))<|
 Gf 22 18 false 2 21<|
 Gf 23 18 false 4 22<|
 Gl 24 18 false 1 23<|
 qg 25 18 false (.len false (.t 24))<|
 qg 26 18 false (.bin .gtr (.t 25) (ci 300))<|
 Qo 27 18 26<|
 .keep [0,3,27]<|
 .ite (.t 27)
 (q 2 (.mv (cb false))<|
 .keep [2]<|
 .ret)
 (.done)<|
 .done)<|
 Qm 8 3<|
 q 9 (.bin .add (.t 8) (ci 1))<|
 Qm 3 9<|
 .keep [0,3]<|
 .keep [0,3]<|
 .done))<|
 Qm 28 0<|
 Qw 29 28<|
 q 30 (.bin .leq (.t 29) (ci 60))<|
 Qm 2 30<|
 .keep [2]<|
 .ret
theorem Lu:EF false F.clapperref14_Few Ts [.t 2]:=ef [] Tryz.func73 (by kernel_rfl) (by kernel_rfl) (by kernel_rfl)
def Gk : IC :=
 q 2 (.mv (cb false))<|
 .keep [0]<|
 Qm 5 0<|
 Qw 6 5<|
 q 7 (.mv (ci 0))<|
 .keep [0,5,6,7]<|
 .block 0
 (.keep [0,5,6,7]<|
 .loop
 (q 8 (.bin .lss (.t 7) (.t 6))<|
 .keep [0,5,6,7,8]<|
 .ite (.t 8)
 (.done)
 (.exit 0)<|
 .block 1
 (Qm 9 7<|
 q 10 (.idxa 12 none (.t 5) (.t 7))<|
 Qa 11 12 10<|
 q 4 (.alloc [.int .i64 0,.int .u64 0,.int .u64 0,.int .u64 0,.int .u64 0,.int .u64 0,.int .u64 0,.int .u64 0,.int .u64 0,.bool false,.int .i64 0,.int .i64 0])<|
 Qm 3 9<|
 Qs 12 4 11<|
 .keep [0,3,4,5,6,7]<|
 Qa 12 12 4<|
 q 13 (.call F.keys_one [(.t 12)])<|
 q 14 (.un .not (.t 13))<|
 Qm 15 14<|
 Gm 16 15 false 3<|
 qg 17 15 false (.bin .gtr (.t 16) (ci 0))<|
 Gm 18 15 false 17<|
 Gm 19 18 true 0<|
 Gm 20 18 true 3<|
 qg 21 18 true (.bin .sub (.t 20) (ci 1))<|
 qg 22 18 true (.idxa 12 none (.t 19) (.t 21))<|
 Gf 23 18 true 0 22<|
 Gl 24 18 true 1 23<|
 Gf 25 18 true 0 4<|
 Gl 26 18 true 1 25<|
 qg 27 18 true (.bin .geq (.t 24) (.t 26))<|
 qg 28 15 false (.pick (.t 18) (.t 27) (cb false))<|
 Qo 29 15 28<|
 .keep [0,5,6,7,29]<|
 .ite (.t 29)
 (q 2 (.mv (cb false))<|
 .keep [2]<|
 .ret)
 (.done)<|
 .done)<|
 q 30 (.bin .add (.t 7) (ci 1))<|
 Qm 7 30<|
 .keep [0,5,6,7]<|
 .keep [0,5,6,7]<|
 .done))<|
 Qm 31 0<|
 Qw 32 31<|
 q 33 (.bin .leq (.t 32) (ci 32))<|
 Qm 2 33<|
 .keep [2]<|
 .ret
theorem Zij:EF false F.keys_May Gk [.t 2]:=ef [] Tryz.func74 (by kernel_rfl) (by kernel_rfl) (by kernel_rfl)
def M5 : IC :=
 q 2 (.mv (cb false))<|
 .keep [0]<|
 Qm 5 0<|
 Qw 6 5<|
 q 7 (.mv (ci 0))<|
 .keep [0,5,6,7]<|
 .block 0
 (.keep [0,5,6,7]<|
 .loop
 (q 8 (.bin .lss (.t 7) (.t 6))<|
 .keep [0,5,6,7,8]<|
 .ite (.t 8)
 (.done)
 (.exit 0)<|
 .block 1
 (Qm 9 7<|
 q 10 (.idxa 2 none (.t 5) (.t 7))<|
 Qa 11 2 10<|
 q 4 (.alloc [.int .i64 0,.int .i64 0])<|
 Qm 3 9<|
 Qs 2 4 11<|
 .keep [0,3,4,5,6,7]<|
 Qf 12 0 4<|
 Ql 13 1 12<|
 q 14 (.bin .lss (.t 13) (ci 1))<|
 Qm 15 14<|
 Gf 16 15 false 0 4<|
 Gl 17 15 false 1 16<|
 qg 18 15 false (.bin .gtr (.t 17) (ci 2147483647))<|
 Qo 19 15 18<|
 Qm 20 19<|
 Gf 21 20 false 1 4<|
 Gl 22 20 false 1 21<|
 qg 23 20 false (.bin .lss (.t 22) (ci 0))<|
 Qo 24 20 23<|
 Qm 25 24<|
 Gf 26 25 false 1 4<|
 Gl 27 25 false 1 26<|
 qg 28 25 false (.bin .gtr (.t 27) (ci 1073741824))<|
 Qo 29 25 28<|
 Qm 30 29<|
 Gm 31 30 false 3<|
 qg 32 30 false (.bin .gtr (.t 31) (ci 0))<|
 Gm 33 30 false 32<|
 Gm 34 33 true 0<|
 Gm 35 33 true 3<|
 qg 36 33 true (.bin .sub (.t 35) (ci 1))<|
 qg 37 33 true (.idxa 2 none (.t 34) (.t 36))<|
 Gf 38 33 true 0 37<|
 Gl 39 33 true 1 38<|
 Gf 40 33 true 0 4<|
 Gl 41 33 true 1 40<|
 qg 42 33 true (.bin .geq (.t 39) (.t 41))<|
 qg 43 30 false (.pick (.t 33) (.t 42) (cb false))<|
 Qo 44 30 43<|
 .keep [0,5,6,7,44]<|
 .ite (.t 44)
 (q 2 (.mv (cb false))<|
 .keep [2]<|
 .ret)
 (.done)<|
 .done)<|
 q 45 (.bin .add (.t 7) (ci 1))<|
 Qm 7 45<|
 .keep [0,5,6,7]<|
 .keep [0,5,6,7]<|
 .done))<|
 Qm 46 0<|
 Qw 47 46<|
 q 48 (.bin .leq (.t 47) (ci 200))<|
 Qm 2 48<|
 .keep [2]<|
 .ret
theorem A4:EF false F.revoke_May M5 [.t 2]:=ef [] Tryz.func75 (by kernel_rfl) (by kernel_rfl) (by kernel_rfl)
def Gn : IC :=
 q 2 (.mv (cb false))<|
 .keep [0]<|
 Qm 5 0<|
 Qw 6 5<|
 q 7 (.mv (ci 0))<|
 .keep [0,5,6,7]<|
 .block 0
 (.keep [0,5,6,7]<|
 .loop
 (q 8 (.bin .lss (.t 7) (.t 6))<|
 .keep [0,5,6,7,8]<|
 .ite (.t 8)
 (.done)
 (.exit 0)<|
 .block 1
 (Qm 9 7<|
 q 10 (.idxa 7 none (.t 5) (.t 7))<|
 Qa 11 7 10<|
 q 4 (.alloc [.int .i64 0,.int .i64 0,.int .i64 0,.int .i64 0,.int .i64 0,.slice none 0 0,.slice none 0 0])<|
 Qm 3 9<|
 Qs 7 4 11<|
 .keep [0,3,4,5,6,7]<|
 Qf 12 0 4<|
 Ql 13 1 12<|
 q 14 (.bin .lss (.t 13) (ci 1))<|
 Qm 15 14<|
 Gf 16 15 false 0 4<|
 Gl 17 15 false 1 16<|
 qg 18 15 false (.bin .gtr (.t 17) (ci 16))<|
 Qo 19 15 18<|
 Qm 20 19<|
 Gm 21 20 false 3<|
 qg 22 20 false (.bin .gtr (.t 21) (ci 0))<|
 Gm 23 20 false 22<|
 Gm 24 23 true 0<|
 Gm 25 23 true 3<|
 qg 26 23 true (.bin .sub (.t 25) (ci 1))<|
 qg 27 23 true (.idxa 7 none (.t 24) (.t 26))<|
 Gf 28 23 true 0 27<|
 Gl 29 23 true 1 28<|
 Gf 30 23 true 0 4<|
 Gl 31 23 true 1 30<|
 qg 32 23 true (.bin .geq (.t 29) (.t 31))<|
 qg 33 20 false (.pick (.t 23) (.t 32) (cb false))<|
 Qo 34 20 33<|
 Qm 35 34<|
 Gf 36 35 false 1 4<|
 Gl 37 35 false 1 36<|
 qg 38 35 false (.bin .lss (.t 37) (ci 1))<|
 Qo 39 35 38<|
 Qm 40 39<|
 Gf 41 40 false 1 4<|
 Gl 42 40 false 1 41<|
 qg 43 40 false (.bin .gtr (.t 42) (ci 1048576))<|
 Qo 44 40 43<|
 Qm 45 44<|
 Gf 46 45 false 2 4<|
 Ga 47 45 false 5 46<|
 qg 48 45 false (.call F.service_May [(.t 47)])<|
 qg 49 45 false (.un .not (.t 48))<|
 Qo 50 45 49<|
 .keep [0,5,6,7,50]<|
 .ite (.t 50)
 (q 2 (.mv (cb false))<|
 .keep [2]<|
 .ret)
 (.done)<|
 .done)<|
 q 51 (.bin .add (.t 7) (ci 1))<|
 Qm 7 51<|
 .keep [0,5,6,7]<|
 .keep [0,5,6,7]<|
 .done))<|
 Qm 52 0<|
 Qw 53 52<|
 q 54 (.bin .leq (.t 53) (ci 16))<|
 Qm 2 54<|
 .keep [2]<|
 .ret
theorem Zik:EF false F.fare_May Gn [.t 2]:=ef [] Tryz.func76 (by kernel_rfl) (by kernel_rfl) (by kernel_rfl)
def Lf : IC :=
 q 4 (.mv (cb false))<|
 .keep [0,1]<|
 Qm 5 0<|
 q 6 (.bin .geq (.t 5) (ci 0))<|
 Qm 7 6<|
 Gm 8 7 true 0<|
 qg 9 7 true (.bin .lss (.t 8) (ci 8))<|
 Qk 10 7 9<|
 Qm 11 10<|
 Gm 12 11 true 1<|
 qg 13 11 true (.bin .geq (.t 12) (ci 0))<|
 Qk 14 11 13<|
 Qm 15 14<|
 Gm 16 15 true 1<|
 qg 17 15 true (.bin .leq (.t 16) (ci 1073741824))<|
 Qk 18 15 17<|
 Qm 4 18<|
 .keep [4]<|
 .ret
theorem Zad:EF false F.fare_place Lf [.t 4]:=ef [] Tryz.func84 (by kernel_rfl) (by kernel_rfl) (by kernel_rfl)
def Lb : IC :=
 q 6 (.alloc (List.replicate 5 (.int .i64 0)))<|
 q 7 (.mv (.c (.nilIface)))<|
 .keep [0,1,2,6]<|
 Qm 13 0<|
 q 14 (.call F.keys_May [(.t 13)])<|
 q 15 (.un .not (.t 14))<|
 .keep [0,1,2,6,15]<|
 .ite (.t 15)
 (q 16 (.build (List.replicate 5 (.int .i64 0)) [])<|
 q 17 (.mkif T.api_Code (ci 1))<|
 Qs 5 6 16<|
 Qm 7 17<|
 .keep [6,7]<|
 .ret)
 (.done)<|
 Qm 19 1<|
 q 20 (.call F.ticket_Open [(.t 19)])<|
 Qm 18 20<|
 Qe 21 18 0<|
 Qe 22 18 1<|
 Qe 23 18 2<|
 q 8 (.alloc (List.replicate 5 (.int .i64 0)))<|
 q 9 (.alloc (List.replicate 8 (.int .u64 0)))<|
 Qs 5 8 21<|
 Qs 8 9 22<|
 Qm 10 23<|
 .keep [0,1,2,6,8,10]<|
 Qm 24 10<|
 q 25 (.eq true .i (.t 24) (.c (.nilIface)))<|
 .keep [0,1,2,6,8,10,25]<|
 .ite (.t 25)
 (q 26 (.build (List.replicate 5 (.int .i64 0)) [])<|
 Qm 27 10<|
 Qs 5 6 26<|
 Qm 7 27<|
 .keep [6,7]<|
 .ret)
 (.done)<|
 Qm 29 0<|
 Qf 30 4 8<|
 Ql 31 1 30<|
 Qm 32 2<|
 q 33 (.call F.keys_find [(.t 29),(.t 31),(.t 32)])<|
 Qm 28 33<|
 Qe 34 28 0<|
 Qe 35 28 1<|
 q 11 (.alloc [.int .u64 0,.int .u64 0,.int .u64 0,.int .u64 0,.int .u64 0,.int .u64 0,.int .u64 0,.int .u64 0,.bool false])<|
 Qs 9 11 34<|
 Qm 12 35<|
 .keep [1,6,11,12]<|
 Qm 36 12<|
 q 37 (.un .not (.t 36))<|
 .keep [1,6,11,37]<|
 .ite (.t 37)
 (q 38 (.build (List.replicate 5 (.int .i64 0)) [])<|
 q 39 (.mkif T.api_Code (ci 4))<|
 Qs 5 6 38<|
 Qm 7 39<|
 .keep [6,7]<|
 .ret)
 (.done)<|
 Qm 40 1<|
 Qa 41 9 11<|
 q 42 (.call F.ticket_Check [(.t 40),(.t 41)])<|
 Qe 43 42 0<|
 Qe 44 42 1<|
 Qs 5 6 43<|
 Qm 7 44<|
 .keep [6,7]<|
 .ret
theorem Zaa:EF false F.keys_Check Lb [.c 6 true 5,.t 7]:=ef [] Tryz.func85 (by kernel_rfl) (by kernel_rfl) (by kernel_rfl)
def Pp : IC :=
 Qb 3 1<|
 q 4 (.alloc [.int .i64 0,.int .i64 0,.int .i64 0,.int .i64 0,.int .i64 0,.slice none 0 0,.slice none 0 0])<|
 q 5 (.mv (cb false))<|
 .keep [0,3,4]<|
 Qm 7 0<|
 q 8 (.mkfn (.func F.fare_product_1) [] [(.t 3)])<|
 q 9 (.call F.slices_IndexFunc_api_Product_api_Product [(.t 7),(.t 8)])<|
 Qm 6 9<|
 .keep [0,4,6]<|
 Qm 10 6<|
 q 11 (.bin .lss (.t 10) (ci 0))<|
 .keep [0,4,6,11]<|
 .ite (.t 11)
 (q 12 (.build [.int .i64 0,.int .i64 0,.int .i64 0,.int .i64 0,.int .i64 0,.slice none 0 0,.slice none 0 0] [])<|
 Qs 7 4 12<|
 q 5 (.mv (cb false))<|
 .keep [4,5]<|
 .ret)
 (.done)<|
 Qm 13 0<|
 Qm 14 6<|
 q 15 (.idxa 7 none (.t 13) (.t 14))<|
 Qa 16 7 15<|
 Qs 7 4 16<|
 q 5 (.mv (cb true))<|
 .keep [4,5]<|
 .ret
theorem F2:EF false F.fare_product Pp [.c 4 true 7,.t 5]:=ef [] Tryz.func86 (by kernel_rfl) (by kernel_rfl) (by kernel_rfl)
def Jo : IC :=
 Qb 4 1<|
 Qb 5 2<|
 q 6 (.mv (cb false))<|
 .keep [0,4,5]<|
 Qm 7 0<|
 q 8 (.call F.revoke_May [(.t 7)])<|
 Qm 9 8<|
 Gm 10 9 true 0<|
 qg 11 9 true (.mkfn (.func F.revoke_Is_1) [] [(.t 4),(.t 5)])<|
 qg 12 9 true (.call F.slices_ContainsFunc_api_Revoked_api_Revoked [(.t 10),(.t 11)])<|
 Qk 13 9 12<|
 Qm 6 13<|
 .keep [6]<|
 .ret
theorem Zcz:EF false F.revoke_Is Jo [.t 6]:=ef [] Tryz.func87 (by kernel_rfl) (by kernel_rfl) (by kernel_rfl)
def Ew : IC :=
 Qb 2 0<|
 q 4 (.mv (cb false))<|
 .keep [1,2]<|
 Qf 5 2 2<|
 Ql 6 1 5<|
 Qm 7 1<|
 q 8 (.bin .shr (.t 6) (.t 7))<|
 q 9 (.bin .and (.t 8) (ci 1))<|
 q 10 (.bin .eql (.t 9) (ci 1))<|
 Qm 4 10<|
 .keep [4]<|
 .ret
theorem Znx:EF false F.fare_in Ew [.t 4]:=ef [] Tryz.func88 (by kernel_rfl) (by kernel_rfl) (by kernel_rfl)
def Jw : IC :=
 Qb 3 0<|
 Qb 4 1<|
 q 6 (.mv (cb false))<|
 .keep [2,3,4]<|
 Qf 7 3 4<|
 Ql 8 1 7<|
 Qm 9 2<|
 q 10 (.bin .leq (.t 8) (.t 9))<|
 Qm 11 10<|
 Gm 12 11 true 2<|
 Gf 13 11 true 3 4<|
 Gl 14 11 true 1 13<|
 Gf 15 11 true 1 3<|
 Gl 16 11 true 1 15<|
 qg 17 11 true (.bin .add (.t 14) (.t 16))<|
 qg 18 11 true (.bin .lss (.t 12) (.t 17))<|
 Qk 19 11 18<|
 Qm 20 19<|
 Gf 21 20 true 2 3<|
 Ga 22 20 true 5 21<|
 Gm 23 20 true 2<|
 qg 24 20 true (.bin .quo (.t 23) (ci 1440))<|
 qg 25 20 true (.call F.service_Runs [(.t 22),(.t 24)])<|
 Qk 26 20 25<|
 Qm 6 26<|
 .keep [6]<|
 .ret
theorem Zc7:EF false F.fare_then Jw [.t 6]:=ef [] Tryz.func89 (by kernel_rfl) (by kernel_rfl) (by kernel_rfl)
def Gj : IC :=
 Qb 1 0<|
 q 2 (.mv (cb false))<|
 .keep [1]<|
 Qf 3 0 1<|
 Ql 4 1 3<|
 q 5 (.bin .geq (.t 4) (ci 1))<|
 Qm 6 5<|
 Gf 7 6 true 0 1<|
 Gl 8 6 true 1 7<|
 qg 9 6 true (.bin .leq (.t 8) (ci 2147483647))<|
 Qk 10 6 9<|
 Qm 11 10<|
 Gf 12 11 true 1 1<|
 Ga 13 11 true 9 12<|
 qg 14 11 true (.call F.point_On [(.t 13)])<|
 Qk 15 11 14<|
 Qm 16 15<|
 Gf 17 16 true 1 1<|
 Gf 18 16 true 8 17<|
 Gl 19 16 true 1 18<|
 qg 20 16 true (.un .not (.t 19))<|
 Qk 21 16 20<|
 Qm 22 21<|
 Gf 23 22 true 10 1<|
 Gl 24 22 true 1 23<|
 qg 25 22 true (.bin .geq (.t 24) (ci 0))<|
 Qk 26 22 25<|
 Qm 27 26<|
 Gf 28 27 true 10 1<|
 Gl 29 27 true 1 28<|
 Gf 30 27 true 11 1<|
 Gl 31 27 true 1 30<|
 qg 32 27 true (.bin .leq (.t 29) (.t 31))<|
 Qk 33 27 32<|
 Qm 34 33<|
 Gf 35 34 true 11 1<|
 Gl 36 34 true 1 35<|
 qg 37 34 true (.bin .leq (.t 36) (ci 1073741824))<|
 Qk 38 34 37<|
 Qm 2 38<|
 .keep [2]<|
 .ret
theorem Zii:EF false F.keys_one Gj [.t 2]:=ef [] Tryz.func159 (by kernel_rfl) (by kernel_rfl) (by kernel_rfl)
def O5 : IC :=
 Qb 1 0<|
 q 2 (.mv (cb false))<|
 .keep [1]<|
 q 4 (.mkfn (.func F.service_May_1) [] [(.t 1)])<|
 Qm 3 4<|
 .keep [1,3]<|
 Qf 5 0 1<|
 Ql 6 1 5<|
 q 7 (.bin .geq (.t 6) (ci 0))<|
 Qm 8 7<|
 Gf 9 8 true 0 1<|
 Gl 10 8 true 1 9<|
 qg 11 8 true (.bin .lss (.t 10) (ci 128))<|
 Qk 12 8 11<|
 Qm 13 12<|
 Gf 14 13 true 1 1<|
 Gl 15 13 true 1 14<|
 qg 16 13 true (.bin .geq (.t 15) (ci 0))<|
 Qk 17 13 16<|
 Qm 18 17<|
 Gf 19 18 true 1 1<|
 Gl 20 18 true 1 19<|
 Gf 21 18 true 2 1<|
 Gl 22 18 true 1 21<|
 qg 23 18 true (.bin .leq (.t 20) (.t 22))<|
 Qk 24 18 23<|
 Qm 25 24<|
 Gf 26 25 true 2 1<|
 Gl 27 25 true 1 26<|
 qg 28 25 true (.bin .leq (.t 27) (ci 1048576))<|
 Qk 29 25 28<|
 Qm 30 29<|
 Gf 31 30 true 3 1<|
 Gl 32 30 true 1 31<|
 qg 33 30 true (.call F.service_days [(.t 32)])<|
 Qk 34 30 33<|
 Qm 35 34<|
 Gf 36 35 true 4 1<|
 Gl 37 35 true 1 36<|
 qg 38 35 true (.call F.service_days [(.t 37)])<|
 Qk 39 35 38<|
 Qm 40 39<|
 Gf 41 40 true 3 1<|
 Gl 42 40 true 1 41<|
 Gm 43 40 true 3<|
 qg 44 40 true (.call F.slices_ContainsFunc_int_int [(.t 42),(.t 43)])<|
 qg 45 40 true (.un .not (.t 44))<|
 Qk 46 40 45<|
 Qm 2 46<|
 .keep [2]<|
 .ret
theorem Cr:EF false F.service_May O5 [.t 2]:=ef [] Tryz.func160 (by kernel_rfl) (by kernel_rfl) (by kernel_rfl)
def Jt : IC :=
 Qb 4 1<|
 q 6 (.alloc [.int .u64 0,.int .u64 0,.int .u64 0,.int .u64 0,.int .u64 0,.int .u64 0,.int .u64 0,.int .u64 0,.bool false])<|
 q 7 (.mv (cb false))<|
 .keep [0,2,4,6]<|
 Qm 9 0<|
 q 10 (.mkfn (.func F.keys_find_1) [] [(.t 4)])<|
 q 11 (.call F.slices_IndexFunc_api_Key_api_Key [(.t 9),(.t 10)])<|
 Qm 8 11<|
 .keep [0,2,6,8]<|
 Qm 12 8<|
 q 13 (.bin .lss (.t 12) (ci 0))<|
 Qm 14 13<|
 Gm 15 14 false 0<|
 Gm 16 14 false 8<|
 qg 17 14 false (.idxa 12 none (.t 15) (.t 16))<|
 Gf 18 14 false 10 17<|
 Gl 19 14 false 1 18<|
 Gm 20 14 false 2<|
 qg 21 14 false (.bin .gtr (.t 19) (.t 20))<|
 Qo 22 14 21<|
 Qm 23 22<|
 Gm 24 23 false 0<|
 Gm 25 23 false 8<|
 qg 26 23 false (.idxa 12 none (.t 24) (.t 25))<|
 Gf 27 23 false 11 26<|
 Gl 28 23 false 1 27<|
 Gm 29 23 false 2<|
 qg 30 23 false (.bin .leq (.t 28) (.t 29))<|
 Qo 31 23 30<|
 .keep [0,6,8,31]<|
 .ite (.t 31)
 (q 32 (.build [.int .u64 0,.int .u64 0,.int .u64 0,.int .u64 0,.int .u64 0,.int .u64 0,.int .u64 0,.int .u64 0,.bool false] [])<|
 Qs 9 6 32<|
 q 7 (.mv (cb false))<|
 .keep [6,7]<|
 .ret)
 (.done)<|
 Qm 33 0<|
 Qm 34 8<|
 q 35 (.idxa 12 none (.t 33) (.t 34))<|
 Qf 36 1 35<|
 Qa 37 9 36<|
 Qs 9 6 37<|
 q 7 (.mv (cb true))<|
 .keep [6,7]<|
 .ret
theorem Zc4:EF false F.keys_find Jt [.c 6 true 9,.t 7]:=ef [] Tryz.func167 (by kernel_rfl) (by kernel_rfl) (by kernel_rfl)
def Y5 : IC :=
 q 4 (.mv (ci 0))<|
 .keep [0,1]<|
 Qm 6 0<|
 Qw 7 6<|
 q 8 (.mv (ci 0))<|
 .keep [0,1,7,8]<|
 .block 0
 (.keep [0,1,7,8]<|
 .loop
 (q 9 (.bin .lss (.t 8) (.t 7))<|
 .keep [0,1,7,8,9]<|
 .ite (.t 9)
 (.done)
 (.exit 0)<|
 .block 1
 (Qm 10 8<|
 Qm 5 10<|
 .keep [0,1,5,7,8]<|
 Qm 11 1<|
 Qm 12 0<|
 Qm 13 5<|
 q 14 (.idxa 7 none (.t 12) (.t 13))<|
 Qa 15 7 14<|
 q 16 (.callv (.t 11) [(.t 15)])<|
 .keep [0,1,5,7,8,16]<|
 .ite (.t 16)
 (Qm 17 5<|
 Qm 4 17<|
 .keep [4]<|
 .ret)
 (.done)<|
 .done)<|
 q 18 (.bin .add (.t 8) (ci 1))<|
 Qm 8 18<|
 .keep [0,1,7,8]<|
 .keep [0,1,7,8]<|
 .done))<|
 q 4 (.mv (ci (-1)))<|
 .keep [4]<|
 .ret
theorem X8:EF false F.slices_IndexFunc_api_Product_api_Product Y5 [.t 4]:=ef [] Tryz.func169 (by kernel_rfl) (by kernel_rfl) (by kernel_rfl)
def Rh : IC :=
 Qb 2 0<|
 q 3 (.mv (cb false))<|
 .keep [1,2]<|
 Qf 4 0 2<|
 Ql 5 1 4<|
 Qf 6 1 1<|
 Ql 7 1 6<|
 q 8 (.bin .eql (.t 5) (.t 7))<|
 Qm 3 8<|
 .keep [3]<|
 .ret
theorem Ie:EF false F.fare_product_1 Rh [.t 3]:=ef [] Tryz.func170 (by kernel_rfl) (by kernel_rfl) (by kernel_rfl)
def Yv : IC :=
 q 4 (.mv (cb false))<|
 .keep [0,1]<|
 Qm 5 0<|
 Qm 6 1<|
 q 7 (.call F.slices_IndexFunc_api_Revoked_api_Revoked [(.t 5),(.t 6)])<|
 q 8 (.bin .geq (.t 7) (ci 0))<|
 Qm 4 8<|
 .keep [4]<|
 .ret
theorem X1:EF false F.slices_ContainsFunc_api_Revoked_api_Revoked Yv [.t 4]:=ef [] Tryz.func171 (by kernel_rfl) (by kernel_rfl) (by kernel_rfl)
def O6 : IC :=
 Qb 3 0<|
 q 4 (.mv (cb false))<|
 .keep [1,2,3]<|
 Qf 5 0 3<|
 Ql 6 1 5<|
 Ql 7 1 1<|
 q 8 (.bin .eql (.t 6) (.t 7))<|
 Qm 9 8<|
 Gf 10 9 true 1 3<|
 Gl 11 9 true 1 10<|
 Gl 12 9 true 1 2<|
 qg 13 9 true (.bin .leq (.t 11) (.t 12))<|
 Qk 14 9 13<|
 Qm 4 14<|
 .keep [4]<|
 .ret
theorem Cs:EF false F.revoke_Is_1 O6 [.t 4]:=ef [] Tryz.func172 (by kernel_rfl) (by kernel_rfl) (by kernel_rfl)
def Pk : IC :=
 Qb 2 0<|
 q 4 (.mv (cb false))<|
 .keep [1,2]<|
 Qa 5 5 2<|
 q 6 (.call F.service_May [(.t 5)])<|
 Qm 7 6<|
 Ga 8 7 true 5 2<|
 Gm 9 7 true 1<|
 qg 10 7 true (.call F.service_runs [(.t 8),(.t 9)])<|
 Qk 11 7 10<|
 Qm 4 11<|
 .keep [4]<|
 .ret
theorem Fx:EF false F.service_Runs Pk [.t 4]:=ef [] Tryz.func173 (by kernel_rfl) (by kernel_rfl) (by kernel_rfl)
def Qg : IC :=
 q 3 (.mv (cb false))<|
 .keep [0,1]<|
 Qf 4 4 1<|
 Ql 5 1 4<|
 Qm 6 0<|
 q 7 (.call F.slices_Contains_int_int [(.t 5),(.t 6)])<|
 Qm 3 7<|
 .keep [3]<|
 .ret
theorem G4:EF false F.service_May_1 Qg [.t 3]:=ef [] Tryz.func249 (by kernel_rfl) (by kernel_rfl) (by kernel_rfl)
def Wv : IC :=
 q 4 (.mv (cb false))<|
 .keep [0,1]<|
 Qm 5 0<|
 Qm 6 1<|
 q 7 (.call F.slices_Index_int_int [(.t 5),(.t 6)])<|
 q 8 (.bin .geq (.t 7) (ci 0))<|
 Qm 4 8<|
 .keep [4]<|
 .ret
theorem Sw:EF false F.slices_Contains_int_int Wv [.t 4]:=ef [] Tryz.func250 (by kernel_rfl) (by kernel_rfl) (by kernel_rfl)
def Pj : IC :=
 q 2 (.mv (cb false))<|
 .keep [0]<|
 Qm 5 0<|
 Qw 6 5<|
 q 7 (.mv (ci 0))<|
 .keep [0,5,6,7]<|
 .block 0
 (.keep [0,5,6,7]<|
 .loop
 (q 8 (.bin .lss (.t 7) (.t 6))<|
 .keep [0,5,6,7,8]<|
 .ite (.t 8)
 (.done)
 (.exit 0)<|
 .block 1
 (Qm 9 7<|
 q 10 (.idxa 1 none (.t 5) (.t 7))<|
 Ql 11 1 10<|
 Qm 3 9<|
 Qm 4 11<|
 .keep [0,3,4,5,6,7]<|
 Qm 12 4<|
 q 13 (.bin .lss (.t 12) (ci 0))<|
 Qm 14 13<|
 Gm 15 14 false 4<|
 qg 16 14 false (.bin .gtr (.t 15) (ci 1048576))<|
 Qo 17 14 16<|
 Qm 18 17<|
 Gm 19 18 false 3<|
 qg 20 18 false (.bin .gtr (.t 19) (ci 0))<|
 Gm 21 18 false 20<|
 Gm 22 21 true 0<|
 Gm 23 21 true 3<|
 qg 24 21 true (.bin .sub (.t 23) (ci 1))<|
 qg 25 21 true (.idxa 1 none (.t 22) (.t 24))<|
 Gl 26 21 true 1 25<|
 Gm 27 21 true 4<|
 qg 28 21 true (.bin .geq (.t 26) (.t 27))<|
 qg 29 18 false (.pick (.t 21) (.t 28) (cb false))<|
 Qo 30 18 29<|
 .keep [0,5,6,7,30]<|
 .ite (.t 30)
 (q 2 (.mv (cb false))<|
 .keep [2]<|
 .ret)
 (.done)<|
 .done)<|
 q 31 (.bin .add (.t 7) (ci 1))<|
 Qm 7 31<|
 .keep [0,5,6,7]<|
 .keep [0,5,6,7]<|
 .done))<|
 Qm 32 0<|
 Qw 33 32<|
 q 34 (.bin .leq (.t 33) (ci 100))<|
 Qm 2 34<|
 .keep [2]<|
 .ret
theorem Fw:EF false F.service_days Pj [.t 2]:=ef [] Tryz.func251 (by kernel_rfl) (by kernel_rfl) (by kernel_rfl)
def X2 : IC :=
 q 4 (.mv (cb false))<|
 .keep [0,1]<|
 Qm 5 0<|
 Qm 6 1<|
 q 7 (.call F.slices_IndexFunc_int_int [(.t 5),(.t 6)])<|
 q 8 (.bin .geq (.t 7) (ci 0))<|
 Qm 4 8<|
 .keep [4]<|
 .ret
theorem Uo:EF false F.slices_ContainsFunc_int_int X2 [.t 4]:=ef [] Tryz.func252 (by kernel_rfl) (by kernel_rfl) (by kernel_rfl)
def Xo : IC :=
 q 4 (.mv (ci 0))<|
 .keep [0,1]<|
 Qm 6 0<|
 Qw 7 6<|
 q 8 (.mv (ci 0))<|
 .keep [0,1,7,8]<|
 .block 0
 (.keep [0,1,7,8]<|
 .loop
 (q 9 (.bin .lss (.t 8) (.t 7))<|
 .keep [0,1,7,8,9]<|
 .ite (.t 9)
 (.done)
 (.exit 0)<|
 .block 1
 (Qm 10 8<|
 Qm 5 10<|
 .keep [0,1,5,7,8]<|
 Qm 11 1<|
 Qm 12 0<|
 Qm 13 5<|
 q 14 (.idxa 12 none (.t 12) (.t 13))<|
 Qa 15 12 14<|
 q 16 (.callv (.t 11) [(.t 15)])<|
 .keep [0,1,5,7,8,16]<|
 .ite (.t 16)
 (Qm 17 5<|
 Qm 4 17<|
 .keep [4]<|
 .ret)
 (.done)<|
 .done)<|
 q 18 (.bin .add (.t 8) (ci 1))<|
 Qm 8 18<|
 .keep [0,1,7,8]<|
 .keep [0,1,7,8]<|
 .done))<|
 q 4 (.mv (ci (-1)))<|
 .keep [4]<|
 .ret
theorem Vh:EF false F.slices_IndexFunc_api_Key_api_Key Xo [.t 4]:=ef [] Tryz.func260 (by kernel_rfl) (by kernel_rfl) (by kernel_rfl)
def Nb : IC :=
 Qb 2 0<|
 q 3 (.mv (cb false))<|
 .keep [1,2]<|
 Qf 4 0 2<|
 Ql 5 1 4<|
 Ql 6 1 1<|
 q 7 (.bin .eql (.t 5) (.t 6))<|
 Qm 3 7<|
 .keep [3]<|
 .ret
theorem Cy:EF false F.keys_find_1 Nb [.t 3]:=ef [] Tryz.func261 (by kernel_rfl) (by kernel_rfl) (by kernel_rfl)
def Y4 : IC :=
 q 4 (.mv (ci 0))<|
 .keep [0,1]<|
 Qm 6 0<|
 Qw 7 6<|
 q 8 (.mv (ci 0))<|
 .keep [0,1,7,8]<|
 .block 0
 (.keep [0,1,7,8]<|
 .loop
 (q 9 (.bin .lss (.t 8) (.t 7))<|
 .keep [0,1,7,8,9]<|
 .ite (.t 9)
 (.done)
 (.exit 0)<|
 .block 1
 (Qm 10 8<|
 Qm 5 10<|
 .keep [0,1,5,7,8]<|
 Qm 11 1<|
 Qm 12 0<|
 Qm 13 5<|
 q 14 (.idxa 2 none (.t 12) (.t 13))<|
 Qa 15 2 14<|
 q 16 (.callv (.t 11) [(.t 15)])<|
 .keep [0,1,5,7,8,16]<|
 .ite (.t 16)
 (Qm 17 5<|
 Qm 4 17<|
 .keep [4]<|
 .ret)
 (.done)<|
 .done)<|
 q 18 (.bin .add (.t 8) (ci 1))<|
 Qm 8 18<|
 .keep [0,1,7,8]<|
 .keep [0,1,7,8]<|
 .done))<|
 q 4 (.mv (ci (-1)))<|
 .keep [4]<|
 .ret
theorem X7:EF false F.slices_IndexFunc_api_Revoked_api_Revoked Y4 [.t 4]:=ef [] Tryz.func262 (by kernel_rfl) (by kernel_rfl) (by kernel_rfl)
def Pi : IC :=
 Qb 2 0<|
 q 4 (.mv (cb false))<|
 .keep [1,2]<|
 Qf 5 3 2<|
 Ql 6 1 5<|
 Qm 7 1<|
 q 8 (.call F.slices_Contains_int_int [(.t 6),(.t 7)])<|
 .keep [1,2,8]<|
 .ite (.t 8)
 (q 4 (.mv (cb true))<|
 .keep [4]<|
 .ret)
 (.done)<|
 Qm 9 1<|
 Qf 10 1 2<|
 Ql 11 1 10<|
 q 12 (.bin .geq (.t 9) (.t 11))<|
 Qm 13 12<|
 Gm 14 13 true 1<|
 Gf 15 13 true 2 2<|
 Gl 16 13 true 1 15<|
 qg 17 13 true (.bin .lss (.t 14) (.t 16))<|
 Qk 18 13 17<|
 Qm 19 18<|
 Gf 20 19 true 0 2<|
 Gl 21 19 true 1 20<|
 Gm 22 19 true 1<|
 qg 23 19 true (.bin .rem (.t 22) (ci 7))<|
 qg 24 19 true (.bin .shr (.t 21) (.t 23))<|
 qg 25 19 true (.bin .and (.t 24) (ci 1))<|
 qg 26 19 true (.bin .eql (.t 25) (ci 1))<|
 Qk 27 19 26<|
 Qm 28 27<|
 Gf 29 28 true 4 2<|
 Gl 30 28 true 1 29<|
 Gm 31 28 true 1<|
 qg 32 28 true (.call F.slices_Contains_int_int [(.t 30),(.t 31)])<|
 qg 33 28 true (.un .not (.t 32))<|
 Qk 34 28 33<|
 Qm 4 34<|
 .keep [4]<|
 .ret
theorem Fv:EF false F.service_runs Pi [.t 4]:=ef [] Tryz.func263 (by kernel_rfl) (by kernel_rfl) (by kernel_rfl)
def Vn : IC :=
 q 4 (.mv (ci 0))<|
 .keep [0,1]<|
 Qm 6 0<|
 Qw 7 6<|
 q 8 (.mv (ci 0))<|
 .keep [0,1,7,8]<|
 .block 0
 (.keep [0,1,7,8]<|
 .loop
 (q 9 (.bin .lss (.t 8) (.t 7))<|
 .keep [0,1,7,8,9]<|
 .ite (.t 9)
 (.done)
 (.exit 0)<|
 .block 1
 (Qm 10 8<|
 Qm 5 10<|
 .keep [0,1,5,7,8]<|
 Qm 11 1<|
 Qm 12 0<|
 Qm 13 5<|
 q 14 (.idxa 1 none (.t 12) (.t 13))<|
 Ql 15 1 14<|
 q 16 (.bin .eql (.t 11) (.t 15))<|
 .keep [0,1,5,7,8,16]<|
 .ite (.t 16)
 (Qm 17 5<|
 Qm 4 17<|
 .keep [4]<|
 .ret)
 (.done)<|
 .done)<|
 q 18 (.bin .add (.t 8) (ci 1))<|
 Qm 8 18<|
 .keep [0,1,7,8]<|
 .keep [0,1,7,8]<|
 .done))<|
 q 4 (.mv (ci (-1)))<|
 .keep [4]<|
 .ret
theorem Qr:EF false F.slices_Index_int_int Vn [.t 4]:=ef [] Tryz.func305 (by kernel_rfl) (by kernel_rfl) (by kernel_rfl)
def Wh : IC :=
 q 4 (.mv (ci 0))<|
 .keep [0,1]<|
 Qm 6 0<|
 Qw 7 6<|
 q 8 (.mv (ci 0))<|
 .keep [0,1,7,8]<|
 .block 0
 (.keep [0,1,7,8]<|
 .loop
 (q 9 (.bin .lss (.t 8) (.t 7))<|
 .keep [0,1,7,8,9]<|
 .ite (.t 9)
 (.done)
 (.exit 0)<|
 .block 1
 (Qm 10 8<|
 Qm 5 10<|
 .keep [0,1,5,7,8]<|
 Qm 11 1<|
 Qm 12 0<|
 Qm 13 5<|
 q 14 (.idxa 1 none (.t 12) (.t 13))<|
 Ql 15 1 14<|
 q 16 (.callv (.t 11) [(.t 15)])<|
 .keep [0,1,5,7,8,16]<|
 .ite (.t 16)
 (Qm 17 5<|
 Qm 4 17<|
 .keep [4]<|
 .ret)
 (.done)<|
 .done)<|
 q 18 (.bin .add (.t 8) (ci 1))<|
 Qm 8 18<|
 .keep [0,1,7,8]<|
 .keep [0,1,7,8]<|
 .done))<|
 q 4 (.mv (ci (-1)))<|
 .keep [4]<|
 .ret
theorem T1:EF false F.slices_IndexFunc_int_int Wh [.t 4]:=ef [] Tryz.func306 (by kernel_rfl) (by kernel_rfl) (by kernel_rfl)
end Go.Proofs.YtcgjlpdkobmpnaaGreat.Eng

