/- The code of some functions, as the abstract machine's. Printed by program. -/
import Derived.Test.YtcgjlpdkobmpnaaGreatMCa
namespace Go.Proofs.YtcgjlpdkobmpnaaGreat.Eng
open Go Go.Proofs
set_option maxRecDepth 20000
def Ju : IC :=
 q 2 (.mv (.c (.pointer none)))<|
 q 3 (.mv (.c (.nilIface)))<|
 .keep [0]<|
 Qm 4 0<|
 q 5 (.bin .lss (.t 4) (ci 1))<|
 Qm 6 5<|
 Gm 7 6 false 0<|
 qg 8 6 false (.bin .gtr (.t 7) (ci 1048576))<|
 Qo 9 6 8<|
 .keep [0,9]<|
 .ite (.t 9)
 (q 10 (.mkif T.api_Code (ci 1))<|
 q 2 (.mv (.c (.pointer none)))<|
 Qm 3 10<|
 .keep [2,3]<|
 .ret)
 (.done)<|
 Qm 11 0<|
 q 12 (.mksl 1 1 [.int .u8 0] (.t 11) (.t 11))<|
 q 13 (.build [.slice none 0 0] [(0,1,(.t 12))])<|
 Qb 14 13<|
 Qm 2 14<|
 q 3 (.mv (.c (.nilIface)))<|
 .keep [2,3]<|
 .ret
theorem Zc5:EF false F.flash_New Ju [.t 2,.t 3]:=ef [] Tryz.func28 (by kernel_rfl) (by kernel_rfl) (by kernel_rfl)
def Po : IC :=
 q 2 (.mv (.c (.pointer none)))<|
 q 3 (.mv (.c (.nilIface)))<|
 .keep [0]<|
 Qm 10 0<|
 q 11 (.eq false .p (.t 10) (.c (.pointer none)))<|
 Qm 12 11<|
 Gm 13 12 false 0<|
 qg 14 12 false (.call F.flash_Flash_Size [(.t 13)])<|
 qg 15 12 false (.bin .lss (.t 14) (ci 64))<|
 Qo 16 12 15<|
 .keep [0,16]<|
 .ite (.t 16)
 (q 17 (.mkif T.api_Code (ci 1))<|
 q 2 (.mv (.c (.pointer none)))<|
 Qm 3 17<|
 .keep [2,3]<|
 .ret)
 (.done)<|
 Qm 18 0<|
 q 19 (.call F.flash_Flash_Bytes [(.t 18)])<|
 Qm 4 19<|
 .keep [0,4]<|
 .reg 2
 [xe 20 (.mv (.t 4)) [],
 xe 21 (.slice 1 none (.t 20) none (some (ci 24)) none) [],
 xe 22 (.mv (.t 4)) [],
 xe 23 (.len false (.t 22)) [],
 xe 24 (.bin .sub (.t 23) (ci 48)) [],
 xe 25 (.call F.journal_read [(.t 21),(.t 24)]) [],
 xe 26 (.mv (.t 4)) [],
 xe 27 (.slice 1 none (.t 26) (some (ci 24)) (some (ci 48)) none) [],
 xe 28 (.mv (.t 4)) [],
 xe 29 (.len false (.t 28)) [],
 xe 30 (.bin .sub (.t 29) (ci 48)) [],
 xe 31 (.call F.journal_read [(.t 27),(.t 30)]) [],
 xa 0 5 (.alloc [.int .i64 0,.int .i64 0]),
 xa 1 6 (.alloc [.int .i64 0,.int .i64 0]),
 xln (.store 2 (.t 5) (.t 25)) [],
 xln (.store 2 (.t 6) (.t 31)) []]<|
 .keep [0,4,5,6]<|
 Qf 32 0 6<|
 Ql 33 1 32<|
 Qf 34 0 5<|
 Ql 35 1 34<|
 q 36 (.bin .gtr (.t 33) (.t 35))<|
 .keep [0,4,5,6,36]<|
 .ite (.t 36)
 (Qa 37 2 6<|
 Qs 2 5 37<|
 .keep [0,4,5]<|
 .done)
 (.done)<|
 Qm 38 0<|
 Qf 39 0 5<|
 Ql 40 1 39<|
 q 41 (.build [.pointer none,.int .i64 0,.int .i64 0,.slice none 0 0,.bool false] [(0,1,(.t 38)),(1,1,(.t 40))])<|
 Qb 42 41<|
 Qm 7 42<|
 .keep [4,5,7]<|
 Qm 43 4<|
 Qf 44 1 5<|
 Ql 45 1 44<|
 q 46 (.bin .add (ci 48) (.t 45))<|
 q 47 (.slice 1 none (.t 43) (some (ci 48)) (some (.t 46)) none)<|
 Qm 8 47<|
 .keep [7,8]<|
 Qm 48 8<|
 q 49 (.call F.journal_first [(.t 48)])<|
 Qm 9 49<|
 .keep [7,8,9]<|
 .block 0
 (.keep [7,8,9]<|
 .loop
 (Qm 50 9<|
 Qw 51 50<|
 q 52 (.bin .gtr (.t 51) (ci 0))<|
 .keep [7,8,9,52]<|
 .ite (.t 52)
 (.done)
 (.exit 0)<|
 .block 1
 (Qm 55 7<|
 Qm 56 7<|
 q 57 (.nilchk (.t 56))<|
 Qf 58 3 57<|
 Ql 59 1 58<|
 Qm 60 9<|
 q 61 (.call F.slices_Clone_byte_byte [(.t 60)])<|
 q 62 (.bslice false 1 1 [.slice none 0 0] [(0,1,(.t 61))])<|
 q 63 (.append 1 24 (.t 59) (.t 62))<|
 q 64 (.nilchk (.t 55))<|
 Qf 65 3 64<|
 Qs 1 65 63<|
 .keep [7,8,9]<|
 Qm 66 7<|
 q 67 (.nilchk (.t 66))<|
 Qf 68 2 67<|
 Ql 69 1 68<|
 Qm 70 9<|
 Qw 71 70<|
 q 72 (.bin .add (ci 2) (.t 71))<|
 q 73 (.bin .add (.t 69) (.t 72))<|
 q 74 (.nilchk (.t 66))<|
 Qf 75 2 74<|
 Qs 1 75 73<|
 .keep [7,8,9]<|
 Qm 76 8<|
 Qm 77 9<|
 Qw 78 77<|
 q 79 (.bin .add (ci 2) (.t 78))<|
 q 80 (.slice 1 none (.t 76) (some (.t 79)) none none)<|
 Qm 8 80<|
 .keep [7,8]<|
 .done)<|
 Qm 53 8<|
 q 54 (.call F.journal_first [(.t 53)])<|
 Qm 9 54<|
 .keep [7,8,9]<|
 .keep [7,8,9]<|
 .done))<|
 Qm 81 7<|
 Qm 2 81<|
 q 3 (.mv (.c (.nilIface)))<|
 .keep [2,3]<|
 .ret
theorem F1:EF false F.journal_Open Po [.t 2,.t 3]:=ef [] Tryz.func65 (by kernel_rfl) (by kernel_rfl) (by kernel_rfl)
def Wx : IC :=
 q 2 (.mv (.c (.slice none 0 0)))<|
 .keep [0]<|
 q 3 (.mv (.c (.slice none 0 0)))<|
 .keep [0,3]<|
 Qm 6 0<|
 q 7 (.nilchk (.t 6))<|
 Qf 8 3 7<|
 Ql 9 1 8<|
 Qw 10 9<|
 q 11 (.mv (ci 0))<|
 .keep [3,9,10,11]<|
 .block 0
 (.keep [3,9,10,11]<|
 .loop
 (q 12 (.bin .lss (.t 11) (.t 10))<|
 .keep [3,9,10,11,12]<|
 .ite (.t 12)
 (.done)
 (.exit 0)<|
 .block 1
 (q 13 (.idxa 1 none (.t 9) (.t 11))<|
 Ql 14 1 13<|
 Qm 5 14<|
 .keep [3,5,9,10,11]<|
 Qm 15 3<|
 Qm 16 5<|
 q 17 (.call F.slices_Clone_byte_byte [(.t 16)])<|
 q 18 (.bslice false 1 1 [.slice none 0 0] [(0,1,(.t 17))])<|
 q 19 (.append 1 24 (.t 15) (.t 18))<|
 Qm 3 19<|
 .keep [3,9,10,11]<|
 .done)<|
 q 20 (.bin .add (.t 11) (ci 1))<|
 Qm 11 20<|
 .keep [3,9,10,11]<|
 .keep [3,9,10,11]<|
 .done))<|
 Qm 21 3<|
 Qm 2 21<|
 .keep [2]<|
 .ret
theorem Sy:EF false F.journal_Journal_Records Wx [.t 2]:=ef [] Tryz.func66 (by kernel_rfl) (by kernel_rfl) (by kernel_rfl)
def Tn : IC :=
 q 2 (.mv (ci 0))<|
 .keep [0]<|
 Qm 3 0<|
 q 4 (.nilchk (.t 3))<|
 Qf 5 0 4<|
 Ql 6 1 5<|
 Qw 7 6<|
 Qm 2 7<|
 .keep [2]<|
 .ret
theorem Lq:EF false F.flash_Flash_Size Tn [.t 2]:=ef [] Tryz.func136 (by kernel_rfl) (by kernel_rfl) (by kernel_rfl)
def Uz : IC :=
 q 2 (.mv (.c (.slice none 0 0)))<|
 .keep [0]<|
 Qm 3 0<|
 q 4 (.nilchk (.t 3))<|
 Qf 5 0 4<|
 Ql 6 1 5<|
 q 7 (.call F.slices_Clone_byte_byte [(.t 6)])<|
 Qm 2 7<|
 .keep [2]<|
 .ret
theorem Nv:EF false F.flash_Flash_Bytes Uz [.t 2]:=ef [] Tryz.func137 (by kernel_rfl) (by kernel_rfl) (by kernel_rfl)
def Pn : IC :=
 q 4 (.alloc [.int .i64 0,.int .i64 0])<|
 .keep [0,1,4]<|
 .reg 1
 [xe 6 (.mv (.t 0)) [],
 xe 7 (.slice 1 none (.t 6) none (some (ci 8)) none) [],
 xe 8 (.call F.journal_of [(.t 7)]) [],
 xe 9 (.mv (.t 0)) [],
 xe 10 (.slice 1 none (.t 9) (some (ci 8)) (some (ci 16)) none) [],
 xe 11 (.call F.journal_of [(.t 10)]) [],
 xe 12 (.build [.int .i64 0,.int .i64 0] [(0,1,(.t 8)),(1,1,(.t 11))]) [],
 xa 0 5 (.alloc [.int .i64 0,.int .i64 0]),
 xln (.store 2 (.t 5) (.t 12)) []]<|
 .keep [0,1,4,5]<|
 Qf 13 0 5<|
 Ql 14 1 13<|
 q 15 (.bin .lss (.t 14) (ci 1))<|
 Qm 16 15<|
 Gf 17 16 false 0 5<|
 Gl 18 16 false 1 17<|
 Gm 19 16 false 0<|
 qg 20 16 false (.slice 1 none (.t 19) (some (ci 16)) none none)<|
 qg 21 16 false (.call F.journal_of [(.t 20)])<|
 qg 22 16 false (.bin .neq (.t 18) (.t 21))<|
 Qo 23 16 22<|
 Qm 24 23<|
 Gf 25 24 false 1 5<|
 Gl 26 24 false 1 25<|
 qg 27 24 false (.bin .lss (.t 26) (ci 0))<|
 Qo 28 24 27<|
 Qm 29 28<|
 Gf 30 29 false 1 5<|
 Gl 31 29 false 1 30<|
 Gm 32 29 false 1<|
 qg 33 29 false (.bin .gtr (.t 31) (.t 32))<|
 Qo 34 29 33<|
 .keep [4,5,34]<|
 .ite (.t 34)
 (q 35 (.build [.int .i64 0,.int .i64 0] [])<|
 Qs 2 4 35<|
 .keep [4]<|
 .ret)
 (.done)<|
 Qa 36 2 5<|
 Qs 2 4 36<|
 .keep [4]<|
 .ret
theorem F0:EF false F.journal_read Pn [.c 4 true 2]:=ef [] Tryz.func138 (by kernel_rfl) (by kernel_rfl) (by kernel_rfl)
def W5 : IC :=
 q 2 (.mv (.c (.slice none 0 0)))<|
 .keep [0]<|
 Qm 4 0<|
 Qw 5 4<|
 q 6 (.bin .lss (.t 5) (ci 2))<|
 .keep [0,6]<|
 .ite (.t 6)
 (q 2 (.mv (.c (.slice none 0 0)))<|
 .keep [2]<|
 .ret)
 (.done)<|
 Qm 7 0<|
 q 8 (.idxa 1 none (.t 7) (ci 0))<|
 Ql 9 1 8<|
 q 10 (.conv .i64 (.t 9))<|
 q 11 (.bin .shl (.t 10) (.c (.int .u64 8)))<|
 Qm 12 0<|
 q 13 (.idxa 1 none (.t 12) (ci 1))<|
 Ql 14 1 13<|
 q 15 (.conv .i64 (.t 14))<|
 q 16 (.bin .add (.t 11) (.t 15))<|
 Qm 3 16<|
 .keep [0,3]<|
 Qm 17 3<|
 q 18 (.bin .gtr (.t 17) (ci 2000))<|
 Qm 19 18<|
 Gm 20 19 false 3<|
 Gm 21 19 false 0<|
 qg 22 19 false (.len false (.t 21))<|
 qg 23 19 false (.bin .sub (.t 22) (ci 2))<|
 qg 24 19 false (.bin .gtr (.t 20) (.t 23))<|
 Qo 25 19 24<|
 .keep [0,3,25]<|
 .ite (.t 25)
 (q 2 (.mv (.c (.slice none 0 0)))<|
 .keep [2]<|
 .ret)
 (.done)<|
 Qm 26 0<|
 Qm 27 3<|
 q 28 (.bin .add (ci 2) (.t 27))<|
 q 29 (.slice 1 none (.t 26) (some (ci 2)) (some (.t 28)) none)<|
 Qm 2 29<|
 .keep [2]<|
 .ret
theorem Tw:EF false F.journal_first W5 [.t 2]:=ef [] Tryz.func139 (by kernel_rfl) (by kernel_rfl) (by kernel_rfl)
def Xu : IC :=
 q 4 (.mv (.c (.nilIface)))<|
 .keep [0,1]<|
 Qm 11 0<|
 Qm 12 1<|
 q 13 (.call F.journal_Journal_writes [(.t 11),(.t 12)])<|
 Qm 10 13<|
 Qe 14 10 0<|
 Qe 15 10 1<|
 q 5 (.alloc [.int .i64 0,.slice none 0 0,.int .i64 0,.slice none 0 0])<|
 Qs 4 5 14<|
 Qm 6 15<|
 .keep [0,1,5,6]<|
 Qm 16 6<|
 q 17 (.eq true .i (.t 16) (.c (.nilIface)))<|
 .keep [0,1,5,6,17]<|
 .ite (.t 17)
 (Qm 18 6<|
 Qm 4 18<|
 .keep [4]<|
 .ret)
 (.done)<|
 Qa 19 4 5<|
 q 20 (.mv (ci 0))<|
 .keep [0,1,19,20]<|
 .block 0
 (.keep [0,1,19,20]<|
 .loop
 (q 21 (.bin .lss (.t 20) (ci 2))<|
 .keep [0,1,19,20,21]<|
 .ite (.t 21)
 (.done)
 (.exit 0)<|
 .block 1
 (q 22 (.idx true 2 2 (.t 19) (.t 20))<|
 q 8 (.alloc [.int .i64 0,.slice none 0 0])<|
 Qs 2 8 22<|
 .keep [0,1,8,19,20]<|
 Qm 23 0<|
 q 24 (.nilchk (.t 23))<|
 Qf 25 0 24<|
 Ql 26 1 25<|
 Qf 27 0 8<|
 Ql 28 1 27<|
 Qf 29 1 8<|
 Ql 30 1 29<|
 q 31 (.call F.flash_Flash_Write [(.t 26),(.t 28),(.t 30)])<|
 Qm 9 31<|
 .keep [0,1,9,19,20]<|
 Qm 32 9<|
 q 33 (.eq true .i (.t 32) (.c (.nilIface)))<|
 .keep [0,1,9,19,20,33]<|
 .ite (.t 33)
 (Qm 34 9<|
 Qm 4 34<|
 .keep [4]<|
 .ret)
 (.done)<|
 .done)<|
 q 35 (.bin .add (.t 20) (ci 1))<|
 Qm 20 35<|
 .keep [0,1,19,20]<|
 .keep [0,1,19,20]<|
 .done))<|
 Qm 36 0<|
 q 37 (.nilchk (.t 36))<|
 Qf 38 1 37<|
 Ql 39 1 38<|
 q 40 (.bin .add (.t 39) (ci 1))<|
 q 41 (.nilchk (.t 36))<|
 Qf 42 1 41<|
 Qs 1 42 40<|
 .keep [0,1]<|
 Qm 43 0<|
 q 44 (.nilchk (.t 43))<|
 Qf 45 2 44<|
 Ql 46 1 45<|
 Qm 47 1<|
 Qw 48 47<|
 q 49 (.bin .add (ci 2) (.t 48))<|
 q 50 (.bin .add (.t 46) (.t 49))<|
 q 51 (.nilchk (.t 43))<|
 Qf 52 2 51<|
 Qs 1 52 50<|
 .keep [0,1]<|
 Qm 53 0<|
 Qm 54 0<|
 q 55 (.nilchk (.t 54))<|
 Qf 56 3 55<|
 Ql 57 1 56<|
 Qm 58 1<|
 q 59 (.call F.slices_Clone_byte_byte [(.t 58)])<|
 q 60 (.bslice false 1 1 [.slice none 0 0] [(0,1,(.t 59))])<|
 q 61 (.append 1 24 (.t 57) (.t 60))<|
 q 62 (.nilchk (.t 53))<|
 Qf 63 3 62<|
 Qs 1 63 61<|
 .keep []<|
 q 4 (.mv (.c (.nilIface)))<|
 .keep [4]<|
 .ret
theorem Vg:EF false F.journal_Journal_Append Xu [.t 4]:=ef [] Tryz.func166 (by kernel_rfl) (by kernel_rfl) (by kernel_rfl)
def Lc : IC :=
 q 2 (.mv (ci 0))<|
 .keep [0]<|
 q 3 (.mv (.c (.int .u64 0)))<|
 .keep [0,3]<|
 Qm 6 0<|
 Qw 7 6<|
 q 8 (.mv (ci 0))<|
 .keep [3,6,7,8]<|
 .block 0
 (.keep [3,6,7,8]<|
 .loop
 (q 9 (.bin .lss (.t 8) (.t 7))<|
 .keep [3,6,7,8,9]<|
 .ite (.t 9)
 (.done)
 (.exit 0)<|
 .block 1
 (q 10 (.idxa 1 none (.t 6) (.t 8))<|
 Ql 11 1 10<|
 Qm 5 11<|
 .keep [3,5,6,7,8]<|
 Qm 12 3<|
 q 13 (.bin .shl (.t 12) (.c (.int .u64 8)))<|
 Qm 14 5<|
 q 15 (.conv .u64 (.t 14))<|
 q 16 (.bin .or (.t 13) (.t 15))<|
 Qm 3 16<|
 .keep [3,6,7,8]<|
 .done)<|
 q 17 (.bin .add (.t 8) (ci 1))<|
 Qm 8 17<|
 .keep [3,6,7,8]<|
 .keep [3,6,7,8]<|
 .done))<|
 Qm 18 3<|
 q 19 (.bin .geq (.t 18) (.c (.int .u64 4611686018427387904)))<|
 .keep [3,19]<|
 .ite (.t 19)
 (q 2 (.mv (ci (-1)))<|
 .keep [2]<|
 .ret)
 (.done)<|
 Qm 20 3<|
 q 21 (.conv .i64 (.t 20))<|
 Qm 2 21<|
 .keep [2]<|
 .ret
theorem Zab:EF false F.journal_of Lc [.t 2]:=ef [] Tryz.func225 (by kernel_rfl) (by kernel_rfl) (by kernel_rfl)
def Yt : IC :=
 q 4 (.alloc [.int .i64 0,.slice none 0 0,.int .i64 0,.slice none 0 0])<|
 q 5 (.mv (.c (.nilIface)))<|
 .keep [0,1,4]<|
 Qm 10 1<|
 Qw 11 10<|
 Qm 6 11<|
 .keep [0,1,4,6]<|
 .block 0
 (Qm 13 0<|
 q 14 (.nilchk (.t 13))<|
 Qf 15 4 14<|
 Ql 16 1 15<|
 Qm 12 16<|
 .keep [0,1,4,6,12]<|
 .ite (.t 12)
 (q 17 (.build [.int .i64 0,.slice none 0 0,.int .i64 0,.slice none 0 0] [])<|
 q 18 (.mkif T.api_Code (ci 7))<|
 Qs 4 4 17<|
 Qm 5 18<|
 .keep [4,5]<|
 .ret)
 (Qm 20 6<|
 q 21 (.bin .lss (.t 20) (ci 1))<|
 Qm 22 21<|
 Gm 23 22 false 6<|
 qg 24 22 false (.bin .gtr (.t 23) (ci 2000))<|
 Qo 25 22 24<|
 Qm 19 25<|
 .keep [0,1,4,6,19]<|
 .ite (.t 19)
 (q 26 (.build [.int .i64 0,.slice none 0 0,.int .i64 0,.slice none 0 0] [])<|
 q 27 (.mkif T.api_Code (ci 1))<|
 Qs 4 4 26<|
 Qm 5 27<|
 .keep [4,5]<|
 .ret)
 (Qm 29 6<|
 Qm 30 0<|
 q 31 (.call F.journal_Journal_Free [(.t 30)])<|
 q 32 (.bin .gtr (.t 29) (.t 31))<|
 Qm 28 32<|
 .keep [0,1,4,6,28]<|
 .ite (.t 28)
 (q 33 (.build [.int .i64 0,.slice none 0 0,.int .i64 0,.slice none 0 0] [])<|
 q 34 (.mkif T.api_Code (ci 6))<|
 Qs 4 4 33<|
 Qm 5 34<|
 .keep [4,5]<|
 .ret)
 (.done)<|
 .done)<|
 .done)<|
 .done)<|
 Qm 35 0<|
 q 36 (.nilchk (.t 35))<|
 Qf 37 1 36<|
 Ql 38 1 37<|
 q 39 (.bin .add (.t 38) (ci 1))<|
 q 40 (.call F.journal_number [(.t 39)])<|
 Qm 7 40<|
 .keep [0,1,4,6,7]<|
 .reg 1
 [xe 41 (.mv (.t 0)) [],
 xe 42 (.nilchk (.t 41)) [],
 xe 43 (.fld 2 (.t 42)) [],
 xe 44 (.load false 1 (.t 43)) [],
 xe 45 (.bin .add (ci 48) (.t 44)) [],
 xe 46 (.mv (.t 6)) [],
 xe 47 (.bin .shr (.t 46) (.c (.int .u64 8))) [],
 xe 48 (.conv .u8 (.t 47)) [],
 xe 49 (.mv (.t 6)) [],
 xe 50 (.conv .u8 (.t 49)) [],
 xe 51 (.bslice false 1 2 [.int .u8 0] [(0,1,(.t 48)),(1,1,(.t 50))]) [],
 xe 52 (.mv (.t 1)) [],
 xe 53 (.appv 1 1 (.t 51) (.t 52)) [],
 xe 54 (.build [.int .i64 0,.slice none 0 0] [(0,1,(.t 45)),(1,1,(.t 53))]) [],
 xa 0 8 (.alloc [.int .i64 0,.slice none 0 0]),
 xln (.store 2 (.t 8) (.t 54)) []]<|
 .keep [0,4,6,7,8]<|
 .reg 1
 [xe 55 (.mv (.t 0)) [],
 xe 56 (.nilchk (.t 55)) [],
 xe 57 (.fld 1 (.t 56)) [],
 xe 58 (.load false 1 (.t 57)) [],
 xe 59 (.bin .add (.t 58) (ci 1)) [],
 xe 60 (.bin .rem (.t 59) (ci 2)) [],
 xe 61 (.bin .mul (.t 60) (ci 24)) [],
 xe 62 (.mv (.t 7)) [],
 xe 63 (.mv (.t 0)) [],
 xe 64 (.nilchk (.t 63)) [],
 xe 65 (.fld 2 (.t 64)) [],
 xe 66 (.load false 1 (.t 65)) [],
 xe 67 (.bin .add (.t 66) (ci 2)) [],
 xe 68 (.mv (.t 6)) [],
 xe 69 (.bin .add (.t 67) (.t 68)) [],
 xe 70 (.call F.journal_number [(.t 69)]) [],
 xe 71 (.mv (.t 7)) [],
 xe 72 (.bslice false 1 3 [.slice none 0 0] [(0,1,(.t 62)),(1,1,(.t 70)),(2,1,(.t 71))]) [],
 xe 73 (.call F.slices_Concat_byte_byte [(.t 72)]) [],
 xe 74 (.build [.int .i64 0,.slice none 0 0] [(0,1,(.t 61)),(1,1,(.t 73))]) [],
 xa 0 9 (.alloc [.int .i64 0,.slice none 0 0]),
 xln (.store 2 (.t 9) (.t 74)) []]<|
 .keep [4,8,9]<|
 Qa 75 2 8<|
 Qa 76 2 9<|
 q 77 (.build [.int .i64 0,.slice none 0 0,.int .i64 0,.slice none 0 0] [(0,2,(.t 75)),(2,2,(.t 76))])<|
 Qs 4 4 77<|
 q 5 (.mv (.c (.nilIface)))<|
 .keep [4,5]<|
 .ret
theorem Xe:EF false F.journal_Journal_writes Yt [.c 4 true 4,.t 5]:=ef [53] Tryz.func258 (by kernel_rfl) (by kernel_rfl) (by kernel_rfl)
def Uy : IC :=
 q 6 (.mv (.c (.nilIface)))<|
 .keep [0,1,2]<|
 Qm 7 0<|
 Qm 8 1<|
 Qm 9 2<|
 Qm 10 2<|
 Qw 11 10<|
 q 12 (.call F.flash_Flash_Tear [(.t 7),(.t 8),(.t 9),(.t 11)])<|
 Qm 6 12<|
 .keep [6]<|
 .ret
theorem Nu:EF false F.flash_Flash_Write Uy [.t 6]:=ef [] Tryz.func259 (by kernel_rfl) (by kernel_rfl) (by kernel_rfl)
def Tm : IC :=
 q 8 (.mv (.c (.nilIface)))<|
 .keep [0,1,2,3]<|
 Qm 9 0<|
 Qm 10 1<|
 Qm 11 2<|
 Qw 12 11<|
 q 13 (.call F.flash_Flash_there [(.t 9),(.t 10),(.t 12)])<|
 q 14 (.un .not (.t 13))<|
 Qm 15 14<|
 Gm 16 15 false 3<|
 qg 17 15 false (.bin .lss (.t 16) (ci 0))<|
 Qo 18 15 17<|
 Qm 19 18<|
 Gm 20 19 false 3<|
 Gm 21 19 false 2<|
 qg 22 19 false (.len false (.t 21))<|
 qg 23 19 false (.bin .gtr (.t 20) (.t 22))<|
 Qo 24 19 23<|
 .keep [0,1,2,3,24]<|
 .ite (.t 24)
 (q 25 (.mkif T.api_Code (ci 1))<|
 Qm 8 25<|
 .keep [8]<|
 .ret)
 (.done)<|
 Qm 26 0<|
 q 27 (.nilchk (.t 26))<|
 Qf 28 0 27<|
 Ql 29 1 28<|
 Qm 30 1<|
 q 31 (.slice 1 none (.t 29) (some (.t 30)) none none)<|
 Qm 32 2<|
 Qm 33 3<|
 q 34 (.slice 1 none (.t 32) none (some (.t 33)) none)<|
 q 35 (.copy 1 (.t 31) (.t 34))<|
 .keep []<|
 q 8 (.mv (.c (.nilIface)))<|
 .keep [8]<|
 .ret
theorem Lp:EF false F.flash_Flash_Tear Tm [.t 8]:=ef [] Tryz.func311 (by kernel_rfl) (by kernel_rfl) (by kernel_rfl)
def Vo : IC :=
 q 2 (.mv (ci 0))<|
 .keep [0]<|
 Qm 3 0<|
 q 4 (.nilchk (.t 3))<|
 Qf 5 4 4<|
 Ql 6 1 5<|
 .keep [0,6]<|
 .ite (.t 6)
 (q 2 (.mv (ci 0))<|
 .keep [2]<|
 .ret)
 (.done)<|
 Qm 7 0<|
 q 8 (.nilchk (.t 7))<|
 Qf 9 0 8<|
 Ql 10 1 9<|
 q 11 (.call F.flash_Flash_Size [(.t 10)])<|
 q 12 (.bin .sub (.t 11) (ci 48))<|
 Qm 13 0<|
 q 14 (.nilchk (.t 13))<|
 Qf 15 2 14<|
 Ql 16 1 15<|
 q 17 (.bin .sub (.t 12) (.t 16))<|
 q 18 (.bin .sub (.t 17) (ci 2))<|
 q 19 (.mn (ci 2000) (.t 18))<|
 q 20 (.mx (ci 0) (.t 19))<|
 Qm 2 20<|
 .keep [2]<|
 .ret
theorem Qu:EF false F.journal_Journal_Free Vo [.t 2]:=ef [] Tryz.func312 (by kernel_rfl) (by kernel_rfl) (by kernel_rfl)
def Rf : IC :=
 q 2 (.mv (.c (.slice none 0 0)))<|
 .keep [0]<|
 q 3 (.mv (.c (.slice none 0 0)))<|
 .keep [0,3]<|
 q 4 (.mv (ci 7))<|
 .keep [0,3,4]<|
 .block 0
 (.keep [0,3,4]<|
 .loop
 (Qm 5 4<|
 q 6 (.bin .geq (.t 5) (ci 0))<|
 .keep [0,3,4,6]<|
 .ite (.t 6)
 (.done)
 (.exit 0)<|
 .block 1
 (Qm 9 3<|
 Qm 10 0<|
 Qm 11 4<|
 q 12 (.bin .mul (ci 8) (.t 11))<|
 q 13 (.bin .shr (.t 10) (.t 12))<|
 q 14 (.conv .u8 (.t 13))<|
 q 15 (.bslice false 1 1 [.int .u8 0] [(0,1,(.t 14))])<|
 q 16 (.append 1 1 (.t 9) (.t 15))<|
 Qm 3 16<|
 .keep [0,3,4]<|
 .done)<|
 Qm 7 4<|
 q 8 (.bin .sub (.t 7) (ci 1))<|
 Qm 4 8<|
 .keep [0,3,4]<|
 .keep [0,3,4]<|
 .done))<|
 Qm 17 3<|
 Qm 2 17<|
 .keep [2]<|
 .ret
theorem Ic:EF false F.journal_number Rf [.t 2]:=ef [] Tryz.func313 (by kernel_rfl) (by kernel_rfl) (by kernel_rfl)
def Ww : IC :=
 q 2 (.mv (.c (.slice none 0 0)))<|
 .keep [0]<|
 q 3 (.mv (ci 0))<|
 .keep [0,3]<|
 Qm 9 0<|
 Qw 10 9<|
 q 11 (.mv (ci 0))<|
 .keep [0,3,9,10,11]<|
 .block 0
 (.keep [0,3,9,10,11]<|
 .loop
 (q 12 (.bin .lss (.t 11) (.t 10))<|
 .keep [0,3,9,10,11,12]<|
 .ite (.t 12)
 (.done)
 (.exit 0)<|
 .block 1
 (q 13 (.idxa 1 none (.t 9) (.t 11))<|
 Ql 14 1 13<|
 Qm 5 14<|
 .keep [0,3,5,9,10,11]<|
 Qm 15 3<|
 Qm 16 5<|
 Qw 17 16<|
 q 18 (.bin .add (.t 15) (.t 17))<|
 Qm 3 18<|
 .keep [0,3,9,10,11]<|
 Qm 19 3<|
 q 20 (.bin .lss (.t 19) (ci 0))<|
 .keep [0,3,9,10,11,20]<|
 .ite (.t 20)
 (q 21 (.mkif T.string (.c (.string ⟨#[108,101,110,32,111,117,116,32,111,102,32,114,97,110,103,101]⟩)))<|
 qn (.dead)<|
 .keep [0,3,9,10,11]<|
 .done)
 (.done)<|
 .done)<|
 q 22 (.bin .add (.t 11) (ci 1))<|
 Qm 11 22<|
 .keep [0,3,9,10,11]<|
 .keep [0,3,9,10,11]<|
 .done))<|
 Qm 23 3<|
 q 24 (.call F.slices_Grow_byte_byte [(.c (.slice none 0 0)),(.t 23)])<|
 Qm 6 24<|
 .keep [0,6]<|
 Qm 25 0<|
 Qw 26 25<|
 q 27 (.mv (ci 0))<|
 .keep [6,25,26,27]<|
 .block 2
 (.keep [6,25,26,27]<|
 .loop
 (q 28 (.bin .lss (.t 27) (.t 26))<|
 .keep [6,25,26,27,28]<|
 .ite (.t 28)
 (.done)
 (.exit 2)<|
 .block 3
 (q 29 (.idxa 1 none (.t 25) (.t 27))<|
 Ql 30 1 29<|
 Qm 8 30<|
 .keep [6,8,25,26,27]<|
 Qm 31 6<|
 Qm 32 8<|
 q 33 (.append 1 1 (.t 31) (.t 32))<|
 Qm 6 33<|
 .keep [6,25,26,27]<|
 .done)<|
 q 34 (.bin .add (.t 27) (ci 1))<|
 Qm 27 34<|
 .keep [6,25,26,27]<|
 .keep [6,25,26,27]<|
 .done))<|
 Qm 35 6<|
 Qm 2 35<|
 .keep [2]<|
 .ret
theorem Sx:EF false F.slices_Concat_byte_byte Ww [.t 2]:=ef [] Tryz.func314 (by kernel_rfl) (by kernel_rfl) (by kernel_rfl)
def Ux : IC :=
 q 6 (.mv (cb false))<|
 .keep [0,1,2]<|
 Qm 7 1<|
 q 8 (.bin .geq (.t 7) (ci 0))<|
 Qm 9 8<|
 Gm 10 9 true 2<|
 qg 11 9 true (.bin .geq (.t 10) (ci 0))<|
 Qk 12 9 11<|
 Qm 13 12<|
 Gm 14 13 true 2<|
 Gm 15 13 true 0<|
 qg 16 13 true (.nilchk (.t 15))<|
 Gf 17 13 true 0 16<|
 Gl 18 13 true 1 17<|
 qg 19 13 true (.len false (.t 18))<|
 qg 20 13 true (.bin .leq (.t 14) (.t 19))<|
 Qk 21 13 20<|
 Qm 22 21<|
 Gm 23 22 true 1<|
 Gm 24 22 true 0<|
 qg 25 22 true (.nilchk (.t 24))<|
 Gf 26 22 true 0 25<|
 Gl 27 22 true 1 26<|
 qg 28 22 true (.len false (.t 27))<|
 Gm 29 22 true 2<|
 qg 30 22 true (.bin .sub (.t 28) (.t 29))<|
 qg 31 22 true (.bin .leq (.t 23) (.t 30))<|
 Qk 32 22 31<|
 Qm 6 32<|
 .keep [6]<|
 .ret
theorem Nt:EF false F.flash_Flash_there Ux [.t 6]:=ef [] Tryz.func338 (by kernel_rfl) (by kernel_rfl) (by kernel_rfl)
def Ve : IC :=
 q 4 (.mv (.c (.slice none 0 0)))<|
 .keep [0,1]<|
 Qm 5 1<|
 q 6 (.bin .lss (.t 5) (ci 0))<|
 .keep [0,1,6]<|
 .ite (.t 6)
 (q 7 (.mkif T.string (.c (.string ⟨#[99,97,110,110,111,116,32,98,101,32,110,101,103,97,116,105,118,101]⟩)))<|
 qn (.dead)<|
 .keep [0,1]<|
 .done)
 (.done)<|
 Qm 8 1<|
 Qm 9 0<|
 q 10 (.cap (.t 9))<|
 Qm 11 0<|
 Qw 12 11<|
 q 13 (.bin .sub (.t 10) (.t 12))<|
 q 14 (.bin .sub (.t 8) (.t 13))<|
 Qm 1 14<|
 .keep [0,1]<|
 Qm 15 1<|
 q 16 (.bin .gtr (.t 15) (ci 0))<|
 .keep [0,1,16]<|
 .ite (.t 16)
 (Qm 17 0<|
 Qm 18 0<|
 q 19 (.cap (.t 18))<|
 q 20 (.slice 1 none (.t 17) none (some (.t 19)) none)<|
 Qm 21 1<|
 q 22 (.appz 1 1 [.int .u8 0] (.t 20) (.t 21))<|
 Qm 23 0<|
 Qw 24 23<|
 q 25 (.slice 1 none (.t 22) none (some (.t 24)) none)<|
 Qm 0 25<|
 .keep [0]<|
 .done)
 (.done)<|
 Qm 26 0<|
 Qm 4 26<|
 .keep [4]<|
 .ret
theorem Ry:EF false F.slices_Grow_byte_byte Ve [.t 4]:=ef [] Tryz.func339 (by kernel_rfl) (by kernel_rfl) (by kernel_rfl)
set_option maxRecDepth 20000
def pfd (v:Bool):Pf:=⟨fun f => (pfx v).f f&&!([F.device_Open,F.device_Device_Load,F.device_Device_Begin,F.device_Device_End,F.device_Device_write,F.device_Device_cut,F.device_Device_Scan,F.device_Device_Notice,F.device_Device_Void,F.device_Device_Tear,F.slices_Clone_api_Product_api_Product,F.clapperlaw18_tell].contains f),v,(pfx v).c⟩
theorem cmpokd (v:Bool):∀ t,(pfd v).c t=true→cmpT Tryz.prog t=true:=cmpok v
def Xc : IC :=
 Qb 6 0<|
 Qb 7 1<|
 q 12 (.mv (cb false))<|
 .keep [2,3,4,5,6,7]<|
 q 27 (.call F.clapperlaw18_up [])<|
 Qm 13 27<|
 .keep [2,3,4,5,6,7,13]<|
 Qa 28 3 6<|
 q 29 (.call F.clapperlaw18_Small [(.t 28)])<|
 Qm 14 29<|
 .keep [2,3,4,5,6,7,13,14]<|
 Qa 30 3 7<|
 q 31 (.call F.clapperlaw18_Small [(.t 30)])<|
 Qm 15 31<|
 .keep [2,3,4,5,6,7,13,14,15]<|
 Qm 32 14<|
 q 33 (.un .not (.t 32))<|
 Qm 34 33<|
 Gm 35 34 false 15<|
 qg 36 34 false (.un .not (.t 35))<|
 Qo 37 34 36<|
 Qm 38 37<|
 Gm 39 38 false 2<|
 qg 40 38 false (.len false (.t 39))<|
 qg 41 38 false (.bin .gtr (.t 40) (ci 1000))<|
 Qo 42 38 41<|
 .keep [2,3,4,5,6,7,13,42]<|
 .ite (.t 42)
 (Qm 43 13<|
 Qm 12 43<|
 .keep [12]<|
 .ret)
 (.done)<|
 q 45 (.call F.flash_New [(ci 4000)])<|
 Qm 44 45<|
 Qe 46 44 0<|
 Qe 47 44 1<|
 Qm 16 46<|
 Qm 17 47<|
 .keep [2,3,4,5,6,7,13,16,17]<|
 q 49 (.build (List.replicate 4 (.int .u64 0)) [(0,1,(.c (.int .u64 7)))])<|
 Qm 50 16<|
 q 51 (.call F.device_Open [(ci 3),(.t 49),(.t 50)])<|
 Qm 48 51<|
 Qe 52 48 0<|
 Qe 53 48 1<|
 Qm 18 52<|
 Qm 19 53<|
 .keep [2,3,4,5,6,7,13,16,17,18,19]<|
 Qm 54 16<|
 q 55 (.eq false .p (.t 54) (.c (.pointer none)))<|
 Qm 56 55<|
 Gm 57 56 false 18<|
 qg 58 56 false (.eq false .p (.t 57) (.c (.pointer none)))<|
 Qo 59 56 58<|
 Qm 60 59<|
 Gm 61 60 false 17<|
 qg 62 60 false (.eq true .i (.t 61) (.c (.nilIface)))<|
 Qo 63 60 62<|
 Qm 64 63<|
 Gm 65 64 false 19<|
 qg 66 64 false (.eq true .i (.t 65) (.c (.nilIface)))<|
 Qo 67 64 66<|
 .keep [2,3,4,5,6,7,13,18,67]<|
 .ite (.t 67)
 (q 12 (.mv (cb false))<|
 .keep [12]<|
 .ret)
 (.done)<|
 Qm 68 18<|
 Qa 69 3 6<|
 q 70 (.call F.device_Device_Load [(.t 68),(.t 69)])<|
 Qm 20 70<|
 .keep [2,3,4,5,6,7,13,18,20]<|
 Qm 71 18<|
 Qa 72 3 7<|
 q 73 (.call F.device_Device_Load [(.t 71),(.t 72)])<|
 Qm 21 73<|
 .keep [2,3,4,5,6,7,13,18,20,21]<|
 Qm 74 18<|
 Qm 75 3<|
 Qm 76 4<|
 q 77 (.call F.device_Device_Begin [(.t 74),(.t 75),(.t 76)])<|
 Qm 22 77<|
 .keep [2,4,5,6,7,13,18,20,21,22]<|
 Qm 79 18<|
 Qm 80 2<|
 Qm 81 5<|
 q 82 (.call F.device_Device_Scan [(.t 79),(.t 80),(.t 81)])<|
 Qm 78 82<|
 Qe 83 78 0<|
 Qe 84 78 1<|
 Qm 23 83<|
 Qm 24 84<|
 .keep [2,4,5,6,7,13,20,21,22,23,24]<|
 Qm 85 21<|
 q 86 (.eq false .i (.t 85) (.c (.nilIface)))<|
 .keep [2,4,5,6,7,13,20,21,22,23,24,86]<|
 .ite (.t 86)
 (Qa 87 3 7<|
 Qs 3 6 87<|
 .keep [2,4,5,6,13,20,21,22,23,24]<|
 .done)
 (.done)<|
 Qm 88 20<|
 q 89 (.eq true .i (.t 88) (.c (.nilIface)))<|
 Qm 90 89<|
 Gm 91 90 true 21<|
 qg 92 90 true (.eq true .i (.t 91) (.c (.nilIface)))<|
 Qk 93 90 92<|
 .keep [2,4,5,6,13,22,23,24,93]<|
 .ite (.t 93)
 (q 94 (.build [.slice none 0 0,.slice none 0 0,.slice none 0 0] [])<|
 Qs 3 6 94<|
 .keep [2,4,5,6,13,22,23,24]<|
 .done)
 (.done)<|
 Qm 95 22<|
 q 96 (.eq true .i (.t 95) (.c (.nilIface)))<|
 Qm 97 96<|
 Gm 98 97 false 24<|
 qg 99 97 false (.eq true .i (.t 98) (.c (.nilIface)))<|
 Qo 100 97 99<|
 .keep [2,4,5,6,13,23,100]<|
 .ite (.t 100)
 (Qm 101 13<|
 Qm 102 101<|
 Gm 103 102 true 23<|
 qg 104 102 true (.bin .eql (.t 103) (ci 0))<|
 Qk 105 102 104<|
 Qm 12 105<|
 .keep [12]<|
 .ret)
 (.done)<|
 Qf 107 0 6<|
 Ql 108 1 107<|
 Qf 109 1 6<|
 Ql 110 1 109<|
 Qf 111 2 6<|
 Ql 112 1 111<|
 Qm 113 2<|
 Qm 114 4<|
 Qm 115 5<|
 q 116 (.call F.fare_Verdict [(.t 108),(.t 110),(.t 112),(.t 113),(.t 114),(.t 115)])<|
 Qm 106 116<|
 Qe 117 106 0<|
 Qe 118 106 1<|
 Qm 25 117<|
 Qm 26 118<|
 .keep [13,23,25,26]<|
 Qm 119 13<|
 Qm 120 119<|
 Gm 121 120 true 26<|
 qg 122 120 true (.eq false .i (.t 121) (.c (.nilIface)))<|
 Qk 123 120 122<|
 Qm 124 123<|
 Gm 125 124 true 23<|
 Gm 126 124 true 25<|
 qg 127 124 true (.bin .eql (.t 125) (.t 126))<|
 Qk 128 124 127<|
 Qm 12 128<|
 .keep [12]<|
 .ret
theorem Ue:Px Tryz.prog (pfd false) (fun d => [].contains d) Tryz.f6=some Xc:=by kernel_rfl
theorem Up {args:List AV} {H:AH} {v:AV} {H':AH} (h:iwp (pfd false) (Called Tryz.prog) Xc (retQ [.t 12] H v H') (look (W2 0 args)) H):Called Tryz.prog F.clapperlaw18_DeviceVerdicts args H v H' :=
 Xp mixed (cmpokd false) Tryz.func6 (by kernel_rfl) Ue (by kernel_rfl) h
def Vp : IC :=
 q 0 (.mv (cb false))<|
 .keep []<|
 q 11 (.call F.flash_New [(ci 2000)])<|
 Qm 10 11<|
 Qe 12 10 0<|
 Qe 13 10 1<|
 Qm 1 12<|
 Qm 2 13<|
 .keep [1,2]<|
 q 15 (.build (List.replicate 4 (.int .u64 0)) [(0,1,(.c (.int .u64 5)))])<|
 Qm 16 1<|
 q 17 (.call F.device_Open [(ci 1),(.t 15),(.t 16)])<|
 Qm 14 17<|
 Qe 18 14 0<|
 Qe 19 14 1<|
 Qm 3 18<|
 Qm 4 19<|
 .keep [1,2,3,4]<|
 Qm 20 1<|
 q 21 (.eq false .p (.t 20) (.c (.pointer none)))<|
 Qm 22 21<|
 Gm 23 22 false 2<|
 qg 24 22 false (.eq true .i (.t 23) (.c (.nilIface)))<|
 Qo 25 22 24<|
 Qm 26 25<|
 Gm 27 26 false 3<|
 qg 28 26 false (.eq false .p (.t 27) (.c (.pointer none)))<|
 Qo 29 26 28<|
 Qm 30 29<|
 Gm 31 30 false 4<|
 qg 32 30 false (.eq true .i (.t 31) (.c (.nilIface)))<|
 Qo 33 30 32<|
 .keep [3,33]<|
 .ite (.t 33)
 (q 0 (.mv (cb false))<|
 .keep [0]<|
 .ret)
 (.done)<|
 Qm 35 3<|
 q 36 (.call F.device_Device_Scan [(.t 35),(.c (.slice none 0 0)),(ci 0)])<|
 Qm 34 36<|
 Qe 37 34 0<|
 Qe 38 34 1<|
 Qm 5 37<|
 Qm 6 38<|
 .keep [3,6]<|
 Qm 39 3<|
 q 40 (.call F.device_Device_Begin [(.t 39),(ci 1),(ci 1)])<|
 Qm 7 40<|
 .keep [3,6,7]<|
 Qm 42 3<|
 q 43 (.call F.device_Device_Scan [(.t 42),(.c (.slice none 0 0)),(ci 0)])<|
 Qm 41 43<|
 Qe 44 41 0<|
 Qe 45 41 1<|
 Qm 8 44<|
 Qm 9 45<|
 .keep [3,6,7,8,9]<|
 Qm 46 6<|
 q 47 (.mkif T.api_Code (ci 7))<|
 q 48 (.eq false .i (.t 46) (.t 47))<|
 Qm 49 48<|
 Gm 50 49 true 7<|
 qg 51 49 true (.eq false .i (.t 50) (.c (.nilIface)))<|
 Qk 52 49 51<|
 Qm 53 52<|
 Gm 54 53 true 8<|
 qg 55 53 true (.bin .eql (.t 54) (ci 2))<|
 Qk 56 53 55<|
 Qm 57 56<|
 Gm 58 57 true 9<|
 qg 59 57 true (.eq false .i (.t 58) (.c (.nilIface)))<|
 Qk 60 57 59<|
 Qm 61 60<|
 Gm 62 61 true 3<|
 qg 63 61 true (.call F.device_Device_Records [(.t 62)])<|
 qg 64 61 true (.len false (.t 63))<|
 qg 65 61 true (.bin .eql (.t 64) (ci 1))<|
 Qk 66 61 65<|
 Qm 0 66<|
 .keep [0]<|
 .ret
theorem Mn:Px Tryz.prog (pfd false) (fun d => [].contains d) Tryz.f19=some Vp:=by kernel_rfl
theorem Jb {args:List AV} {H:AH} {v:AV} {H':AH} (h:iwp (pfd false) (Called Tryz.prog) Vp (retQ [.t 0] H v H') (look (W2 0 args)) H):Called Tryz.prog F.clapperlaw18_up args H v H' :=
 Xp mixed (cmpokd false) Tryz.func19 (by kernel_rfl) Mn (by kernel_rfl) h
def Sv : IC :=
 Qb 4 1<|
 q 6 (.mv (.c (.pointer none)))<|
 q 7 (.mv (.c (.nilIface)))<|
 .keep [0,2,4]<|
 Qa 20 4 4<|
 q 21 (.call F.sign_Public [(.t 20)])<|
 Qm 19 21<|
 Qe 22 19 0<|
 Qe 23 19 1<|
 q 8 (.alloc [.int .u64 0,.int .u64 0,.int .u64 0,.int .u64 0,.int .u64 0,.int .u64 0,.int .u64 0,.int .u64 0,.bool false])<|
 Qs 9 8 22<|
 Qm 9 23<|
 .keep [0,2,4,8,9]<|
 Qm 24 0<|
 q 25 (.bin .lss (.t 24) (ci 1))<|
 Qm 26 25<|
 Gm 27 26 false 0<|
 qg 28 26 false (.bin .gtr (.t 27) (ci 2147483647))<|
 Qo 29 26 28<|
 Qm 30 29<|
 Gm 31 30 false 9<|
 qg 32 30 false (.eq true .i (.t 31) (.c (.nilIface)))<|
 Qo 33 30 32<|
 .keep [0,2,4,8,33]<|
 .ite (.t 33)
 (q 34 (.mkif T.api_Code (ci 1))<|
 q 6 (.mv (.c (.pointer none)))<|
 Qm 7 34<|
 .keep [6,7]<|
 .ret)
 (.done)<|
 Qm 36 2<|
 q 37 (.call F.journal_Open [(.t 36)])<|
 Qm 35 37<|
 Qe 38 35 0<|
 Qe 39 35 1<|
 Qm 10 38<|
 Qm 9 39<|
 .keep [0,4,8,9,10]<|
 Qm 40 9<|
 q 41 (.eq true .i (.t 40) (.c (.nilIface)))<|
 .keep [0,4,8,9,10,41]<|
 .ite (.t 41)
 (Qm 42 9<|
 q 6 (.mv (.c (.pointer none)))<|
 Qm 7 42<|
 .keep [6,7]<|
 .ret)
 (.done)<|
 Qm 43 0<|
 Qa 44 4 4<|
 Qm 45 10<|
 q 46 (.build [.int .i64 0,.int .u64 0,.int .u64 0,.int .u64 0,.int .u64 0,.pointer none,.slice none 0 0,.slice none 0 0,.slice none 0 0,.bool false,.int .i64 0,.int .i64 0,.bool false,.int .i64 0,.int .i64 0,.int .u8 0,.int .u8 0,.int .u8 0,.int .u8 0,.int .u8 0,.int .u8 0,.int .u8 0,.int .u8 0,.int .u8 0,.int .u8 0,.int .u8 0,.int .u8 0,.int .u8 0,.int .u8 0,.int .u8 0,.int .u8 0,.int .u8 0,.int .u8 0,.int .u8 0,.int .u8 0,.int .u8 0,.int .u8 0,.int .u8 0,.int .u8 0,.int .u8 0,.int .u8 0,.int .u8 0,.int .u8 0,.int .u8 0,.int .u8 0,.int .u8 0,.int .u8 0,.slice none 0 0] [(0,1,(.t 43)),(1,4,(.t 44)),(5,1,(.t 45))])<|
 Qb 47 46<|
 Qm 11 47<|
 .keep [0,8,10,11]<|
 Qm 48 10<|
 q 49 (.call F.journal_Journal_Records [(.t 48)])<|
 Qm 12 49<|
 .keep [0,8,11,12]<|
 Qm 50 12<|
 Qm 51 0<|
 Qa 52 9 8<|
 q 53 (.call F.record_Chain [(.t 50),(.t 51),(.t 52)])<|
 Qm 54 12<|
 Qw 55 54<|
 q 56 (.bin .neq (.t 53) (.t 55))<|
 .keep [11,12,56]<|
 .ite (.t 56)
 (q 57 (.mkif T.api_Code (ci 2))<|
 q 6 (.mv (.c (.pointer none)))<|
 Qm 7 57<|
 .keep [6,7]<|
 .ret)
 (.done)<|
 Qm 58 12<|
 Qw 59 58<|
 q 60 (.mv (ci 0))<|
 .keep [11,58,59,60]<|
 .block 0
 (.keep [11,58,59,60]<|
 .loop
 (q 61 (.bin .lss (.t 60) (.t 59))<|
 .keep [11,58,59,60,61]<|
 .ite (.t 61)
 (.done)
 (.exit 0)<|
 .block 1
 (q 62 (.idxa 1 none (.t 58) (.t 60))<|
 Ql 63 1 62<|
 Qm 14 63<|
 .keep [11,14,58,59,60]<|
 Qm 65 14<|
 q 66 (.call F.record_Open [(.t 65)])<|
 Qm 64 66<|
 Qe 67 64 0<|
 Qe 68 64 1<|
 Qe 69 64 2<|
 Qe 70 64 3<|
 q 15 (.alloc zR)<|
 q 16 (.alloc (List.replicate 32 (.int .u8 0)))<|
 q 17 (.alloc (List.replicate 8 (.int .u64 0)))<|
 Qs 41 15 67<|
 Qs 32 16 68<|
 Qs 8 17 69<|
 Qm 18 70<|
 .keep [11,15,16,18,58,59,60]<|
 Qm 71 18<|
 q 72 (.eq true .i (.t 71) (.c (.nilIface)))<|
 .keep [11,15,16,58,59,60,72]<|
 .ite (.t 72)
 (q 73 (.mkif T.api_Code (ci 2))<|
 q 6 (.mv (.c (.pointer none)))<|
 Qm 7 73<|
 .keep [6,7]<|
 .ret)
 (.done)<|
 .reg 0
 [xe 74 (.mv (.t 11)) [],
 xe 75 (.mv (.t 11)) [],
 xe 76 (.mv (.t 11)) [],
 xe 77 (.nilchk (.t 76)) [],
 xe 78 (.fld 47 (.t 77)) [],
 xe 79 (.load false 1 (.t 78)) [],
 xe 80 (.load true 41 (.t 15)) [],
 xe 81 (.bslice false 41 1 zR [(0,41,(.t 80))]) [],
 xw 82 (.append 41 120 (.t 79) (.t 81)) [],
 xe 83 (.load true 32 (.t 16)) [(.t 79)],
 xl 84 (.nilchk (.t 74)) [],
 xl 85 (.fld 47 (.t 84)) [],
 xln (.store 1 (.t 85) (.t 82)) [(.t 16)],
 xl 86 (.nilchk (.t 75)) [],
 xl 87 (.fld 15 (.t 86)) [],
 xln (.store 32 (.t 87) (.t 83)) []]<|
 .keep [11,58,59,60]<|
 .done)<|
 q 88 (.bin .add (.t 60) (ci 1))<|
 Qm 60 88<|
 .keep [11,58,59,60]<|
 .keep [11,58,59,60]<|
 .done))<|
 Qm 89 11<|
 Qm 6 89<|
 q 7 (.mv (.c (.nilIface)))<|
 .keep [6,7]<|
 .ret
theorem Fl:Px Tryz.prog (pfd false) (fun d => [].contains d) Tryz.f22=some Sv:=by kernel_rfl
theorem Cz {args:List AV} {H:AH} {v:AV} {H':AH} (h:iwp (pfd false) (Called Tryz.prog) Sv (retQ [.t 6,.t 7] H v H') (look (W2 0 args)) H):Called Tryz.prog F.device_Open args H v H' :=
 Xp mixed (cmpokd false) Tryz.func22 (by kernel_rfl) Fl (by kernel_rfl) h
def X0 : IC :=
 q 2 (.mv (.c (.slice none 0 0)))<|
 .keep [0]<|
 Qm 3 0<|
 q 4 (.nilchk (.t 3))<|
 Qf 5 5 4<|
 Ql 6 1 5<|
 q 7 (.call F.journal_Journal_Records [(.t 6)])<|
 Qm 2 7<|
 .keep [2]<|
 .ret
theorem S7:Px Tryz.prog (pfd false) (fun d => [].contains d) Tryz.f26=some X0:=by kernel_rfl
theorem Rz {args:List AV} {H:AH} {v:AV} {H':AH} (h:iwp (pfd false) (Called Tryz.prog) X0 (retQ [.t 2] H v H') (look (W2 0 args)) H):Called Tryz.prog F.device_Device_Records args H v H' :=
 Xp mixed (cmpokd false) Tryz.func26 (by kernel_rfl) S7 (by kernel_rfl) h
def Wj : IC :=
 Qb 1 0<|
 q 2 (.mv (cb false))<|
 .keep [1]<|
 Qf 4 2 1<|
 Ql 5 1 4<|
 q 6 (.call F.clapperref14_Few [(.t 5)])<|
 Qm 3 6<|
 .keep [1,3]<|
 Qm 7 3<|
 Qm 8 7<|
 Gf 9 8 true 0 1<|
 Gl 10 8 true 1 9<|
 qg 11 8 true (.len false (.t 10))<|
 qg 12 8 true (.bin .leq (.t 11) (ci 60))<|
 Qk 13 8 12<|
 Qm 14 13<|
 Gf 15 14 true 1 1<|
 Gl 16 14 true 1 15<|
 qg 17 14 true (.len false (.t 16))<|
 qg 18 14 true (.bin .leq (.t 17) (ci 300))<|
 Qk 19 14 18<|
 Qm 2 19<|
 .keep [2]<|
 .ret
theorem Q5:Px Tryz.prog (pfd false) (fun d => [].contains d) Tryz.f27=some Wj:=by kernel_rfl
theorem Ou {args:List AV} {H:AH} {v:AV} {H':AH} (h:iwp (pfd false) (Called Tryz.prog) Wj (retQ [.t 2] H v H') (look (W2 0 args)) H):Called Tryz.prog F.clapperlaw18_Small args H v H' :=
 Xp mixed (cmpokd false) Tryz.func27 (by kernel_rfl) Q5 (by kernel_rfl) h
def Wi : IC :=
 Qb 3 1<|
 q 4 (.mv (.c (.nilIface)))<|
 .keep [0,3]<|
 Qf 7 0 3<|
 Ql 8 1 7<|
 q 9 (.call F.keys_May [(.t 8)])<|
 q 10 (.un .not (.t 9))<|
 Qm 11 10<|
 Gf 12 11 false 1 3<|
 Gl 13 11 false 1 12<|
 qg 14 11 false (.call F.revoke_May [(.t 13)])<|
 qg 15 11 false (.un .not (.t 14))<|
 Qo 16 11 15<|
 Qm 17 16<|
 Gf 18 17 false 2 3<|
 Gl 19 17 false 1 18<|
 qg 20 17 false (.call F.fare_May [(.t 19)])<|
 qg 21 17 false (.un .not (.t 20))<|
 Qo 22 17 21<|
 .keep [0,3,22]<|
 .ite (.t 22)
 (q 23 (.mkif T.api_Code (ci 1))<|
 Qm 4 23<|
 .keep [4]<|
 .ret)
 (.done)<|
 Qf 24 0 3<|
 Ql 25 1 24<|
 q 26 (.call F.slices_Clone_api_Key_api_Key [(.t 25)])<|
 Qf 27 1 3<|
 Ql 28 1 27<|
 q 29 (.call F.slices_Clone_api_Revoked_api_Revoked [(.t 28)])<|
 Qf 30 2 3<|
 Ql 31 1 30<|
 q 32 (.call F.slices_Clone_api_Product_api_Product [(.t 31)])<|
 Qf 33 0 3<|
 Qs 1 33 26<|
 Qf 34 1 3<|
 Qs 1 34 29<|
 Qf 35 2 3<|
 Qs 1 35 32<|
 .keep [0,3]<|
 Qf 36 2 3<|
 Ql 37 1 36<|
 Qw 38 37<|
 q 39 (.mv (ci 0))<|
 .keep [0,3,38,39]<|
 .block 0
 (.keep [0,3,38,39]<|
 .loop
 (q 40 (.bin .lss (.t 39) (.t 38))<|
 .keep [0,3,38,39,40]<|
 .ite (.t 40)
 (.done)
 (.exit 0)<|
 .block 1
 (Qm 41 39<|
 Qm 5 41<|
 .keep [0,3,5,38,39]<|
 Qf 42 2 3<|
 Ql 43 1 42<|
 Qm 44 5<|
 q 45 (.idxa 7 none (.t 43) (.t 44))<|
 Qf 46 2 45<|
 Qm 6 46<|
 .keep [0,3,6,38,39]<|
 Qm 47 6<|
 Qm 48 6<|
 Qm 49 6<|
 q 50 (.nilchk (.t 49))<|
 Qf 51 3 50<|
 Ql 52 1 51<|
 q 53 (.call F.slices_Clone_int_int [(.t 52)])<|
 Qm 54 6<|
 q 55 (.nilchk (.t 54))<|
 Qf 56 4 55<|
 Ql 57 1 56<|
 q 58 (.call F.slices_Clone_int_int [(.t 57)])<|
 q 59 (.nilchk (.t 47))<|
 Qf 60 3 59<|
 Qs 1 60 53<|
 q 61 (.nilchk (.t 48))<|
 Qf 62 4 61<|
 Qs 1 62 58<|
 .keep [0,3,38,39]<|
 .done)<|
 q 63 (.bin .add (.t 39) (ci 1))<|
 Qm 39 63<|
 .keep [0,3,38,39]<|
 .keep [0,3,38,39]<|
 .done))<|
 Qm 64 0<|
 Qa 65 3 3<|
 q 66 (.nilchk (.t 64))<|
 Qf 67 6 66<|
 Qs 3 67 65<|
 .keep []<|
 q 4 (.mv (.c (.nilIface)))<|
 .keep [4]<|
 .ret
theorem Q4:Px Tryz.prog (pfd false) (fun d => [].contains d) Tryz.f29=some Wi:=by kernel_rfl
theorem Ot {args:List AV} {H:AH} {v:AV} {H':AH} (h:iwp (pfd false) (Called Tryz.prog) Wi (retQ [.t 4] H v H') (look (W2 0 args)) H):Called Tryz.prog F.device_Device_Load args H v H' :=
 Xp mixed (cmpokd false) Tryz.func29 (by kernel_rfl) Q4 (by kernel_rfl) h
def Wa : IC :=
 q 6 (.mv (.c (.nilIface)))<|
 .keep [0,1,2]<|
 Qm 7 1<|
 q 8 (.bin .lss (.t 7) (ci 0))<|
 Qm 9 8<|
 Gm 10 9 false 1<|
 qg 11 9 false (.bin .geq (.t 10) (ci 32))<|
 Qo 12 9 11<|
 Qm 13 12<|
 Gm 14 13 false 2<|
 qg 15 13 false (.bin .lss (.t 14) (ci 0))<|
 Qo 16 13 15<|
 Qm 17 16<|
 Gm 18 17 false 2<|
 qg 19 17 false (.bin .geq (.t 18) (ci 8))<|
 Qo 20 17 19<|
 .keep [0,1,2,20]<|
 .ite (.t 20)
 (q 21 (.mkif T.api_Code (ci 1))<|
 Qm 6 21<|
 .keep [6]<|
 .ret)
 (.done)<|
 Qm 22 0<|
 Qm 23 1<|
 Qm 24 2<|
 q 25 (.build [.bool false,.int .i64 0,.int .i64 0] [(0,1,(cb true)),(1,1,(.t 23)),(2,1,(.t 24))])<|
 q 26 (.nilchk (.t 22))<|
 Qf 27 9 26<|
 Qs 3 27 25<|
 .keep []<|
 q 6 (.mv (.c (.nilIface)))<|
 .keep [6]<|
 .ret
theorem Qq:Px Tryz.prog (pfd false) (fun d => [].contains d) Tryz.f30=some Wa:=by kernel_rfl
theorem Pu {args:List AV} {H:AH} {v:AV} {H':AH} (h:iwp (pfd false) (Called Tryz.prog) Wa (retQ [.t 6] H v H') (look (W2 0 args)) H):Called Tryz.prog F.device_Device_Begin args H v H' :=
 Xp mixed (cmpokd false) Tryz.func30 (by kernel_rfl) Qq (by kernel_rfl) h
def Yb : IC :=
 q 6 (.mv (ci 0))<|
 q 7 (.mv (.c (.nilIface)))<|
 .keep [0,1,2]<|
 .block 0
 (Qm 16 0<|
 q 17 (.nilchk (.t 16))<|
 Qf 18 9 17<|
 Qf 19 0 18<|
 Ql 20 1 19<|
 q 21 (.un .not (.t 20))<|
 Qm 15 21<|
 .keep [0,1,2,15]<|
 .ite (.t 15)
 (q 22 (.mkif T.api_Code (ci 7))<|
 q 6 (.mv (ci 0))<|
 Qm 7 22<|
 .keep [6,7]<|
 .ret)
 (Qm 24 1<|
 Qw 25 24<|
 q 26 (.bin .gtr (.t 25) (ci 500))<|
 Qm 23 26<|
 .keep [0,1,2,23]<|
 .ite (.t 23)
 (q 27 (.mkif T.api_Code (ci 1))<|
 q 6 (.mv (ci 0))<|
 Qm 7 27<|
 .keep [6,7]<|
 .ret)
 (.done)<|
 .done)<|
 .done)<|
 Qm 28 0<|
 Qm 29 2<|
 q 30 (.call F.device_Device_now [(.t 28),(.t 29)])<|
 Qm 8 30<|
 .keep [0,1,2,8]<|
 Qm 31 8<|
 q 32 (.eq true .i (.t 31) (.c (.nilIface)))<|
 .keep [0,1,2,8,32]<|
 .ite (.t 32)
 (Qm 33 8<|
 q 6 (.mv (ci 0))<|
 Qm 7 33<|
 .keep [6,7]<|
 .ret)
 (.done)<|
 Qm 35 1<|
 q 36 (.call F.ticket_Open [(.t 35)])<|
 Qm 34 36<|
 Qe 37 34 0<|
 Qe 38 34 1<|
 Qe 39 34 2<|
 q 9 (.alloc (List.replicate 5 (.int .i64 0)))<|
 q 10 (.alloc (List.replicate 8 (.int .u64 0)))<|
 Qs 5 9 37<|
 Qs 8 10 38<|
 Qm 11 39<|
 .keep [0,1,2,9]<|
 Qm 41 0<|
 q 42 (.nilchk (.t 41))<|
 Qf 43 6 42<|
 Qf 44 0 43<|
 Ql 45 1 44<|
 Qm 46 0<|
 q 47 (.nilchk (.t 46))<|
 Qf 48 6 47<|
 Qf 49 1 48<|
 Ql 50 1 49<|
 Qm 51 0<|
 q 52 (.nilchk (.t 51))<|
 Qf 53 6 52<|
 Qf 54 2 53<|
 Ql 55 1 54<|
 Qm 56 1<|
 Qm 57 0<|
 q 58 (.nilchk (.t 57))<|
 Qf 59 9 58<|
 Qf 60 2 59<|
 Ql 61 1 60<|
 Qm 62 2<|
 q 63 (.call F.fare_Verdict [(.t 45),(.t 50),(.t 55),(.t 56),(.t 61),(.t 62)])<|
 Qm 40 63<|
 Qe 64 40 0<|
 Qe 65 40 1<|
 Qm 12 64<|
 Qm 13 65<|
 .keep [0,1,2,9,12,13]<|
 Qm 66 13<|
 q 67 (.eq true .i (.t 66) (.c (.nilIface)))<|
 .keep [0,1,2,9,12,13,67]<|
 .ite (.t 67)
 (Qm 68 13<|
 q 6 (.mv (ci 0))<|
 Qm 7 68<|
 .keep [6,7]<|
 .ret)
 (.done)<|
 Qm 69 0<|
 Qm 70 2<|
 Qf 71 0 9<|
 Ql 72 1 71<|
 Qm 73 12<|
 Qm 74 1<|
 q 75 (.build zR [(2,1,(.t 70)),(3,1,(ci 1)),(6,1,(.t 72)),(7,1,(.t 73)),(40,1,(.t 74))])<|
 q 76 (.call F.device_Device_write [(.t 69),(.t 75)])<|
 Qm 14 76<|
 .keep [12,14]<|
 Qm 77 14<|
 q 78 (.eq true .i (.t 77) (.c (.nilIface)))<|
 .keep [12,14,78]<|
 .ite (.t 78)
 (Qm 79 14<|
 q 6 (.mv (ci 0))<|
 Qm 7 79<|
 .keep [6,7]<|
 .ret)
 (.done)<|
 Qm 80 12<|
 Qm 6 80<|
 q 7 (.mv (.c (.nilIface)))<|
 .keep [6,7]<|
 .ret
theorem Q3:Px Tryz.prog (pfd false) (fun d => [].contains d) Tryz.f31=some Yb:=by kernel_rfl
theorem Y6 {args:List AV} {H:AH} {v:AV} {H':AH} (h:iwp (pfd false) (Called Tryz.prog) Yb (retQ [.t 6,.t 7] H v H') (look (W2 0 args)) H):Called Tryz.prog F.device_Device_Scan args H v H' :=
 Xp mixed (cmpokd false) Tryz.func31 (by kernel_rfl) Q3 (by kernel_rfl) h
def Xb : IC :=
 q 2 (.mv (.c (.slice none 0 0)))<|
 .keep [0]<|
 Qm 3 0<|
 q 4 (.isnil false (.t 3))<|
 .keep [0,4]<|
 .ite (.t 4)
 (q 2 (.mv (.c (.slice none 0 0)))<|
 .keep [2]<|
 .ret)
 (.done)<|
 q 5 (.bslice false 12 0 [.int .i64 0,.int .u64 0,.int .u64 0,.int .u64 0,.int .u64 0,.int .u64 0,.int .u64 0,.int .u64 0,.int .u64 0,.bool false,.int .i64 0,.int .i64 0] [])<|
 Qm 6 0<|
 q 7 (.append 12 96 (.t 5) (.t 6))<|
 Qm 2 7<|
 .keep [2]<|
 .ret
theorem V0:Px Tryz.prog (pfd false) (fun d => [].contains d) Tryz.f77=some Xb:=by kernel_rfl
theorem Uh {args:List AV} {H:AH} {v:AV} {H':AH} (h:iwp (pfd false) (Called Tryz.prog) Xb (retQ [.t 2] H v H') (look (W2 0 args)) H):Called Tryz.prog F.slices_Clone_api_Key_api_Key args H v H' :=
 Xp mixed (cmpokd false) Tryz.func77 (by kernel_rfl) V0 (by kernel_rfl) h
def Yl : IC :=
 q 2 (.mv (.c (.slice none 0 0)))<|
 .keep [0]<|
 Qm 3 0<|
 q 4 (.isnil false (.t 3))<|
 .keep [0,4]<|
 .ite (.t 4)
 (q 2 (.mv (.c (.slice none 0 0)))<|
 .keep [2]<|
 .ret)
 (.done)<|
 q 5 (.bslice false 2 0 [.int .i64 0,.int .i64 0] [])<|
 Qm 6 0<|
 q 7 (.append 2 16 (.t 5) (.t 6))<|
 Qm 2 7<|
 .keep [2]<|
 .ret
theorem Wd:Px Tryz.prog (pfd false) (fun d => [].contains d) Tryz.f78=some Yl:=by kernel_rfl
theorem Wq {args:List AV} {H:AH} {v:AV} {H':AH} (h:iwp (pfd false) (Called Tryz.prog) Yl (retQ [.t 2] H v H') (look (W2 0 args)) H):Called Tryz.prog F.slices_Clone_api_Revoked_api_Revoked args H v H' :=
 Xp mixed (cmpokd false) Tryz.func78 (by kernel_rfl) Wd (by kernel_rfl) h
def Ym : IC :=
 q 2 (.mv (.c (.slice none 0 0)))<|
 .keep [0]<|
 Qm 3 0<|
 q 4 (.isnil false (.t 3))<|
 .keep [0,4]<|
 .ite (.t 4)
 (q 2 (.mv (.c (.slice none 0 0)))<|
 .keep [2]<|
 .ret)
 (.done)<|
 q 5 (.bslice false 7 0 [.int .i64 0,.int .i64 0,.int .i64 0,.int .i64 0,.int .i64 0,.slice none 0 0,.slice none 0 0] [])<|
 Qm 6 0<|
 q 7 (.append 7 88 (.t 5) (.t 6))<|
 Qm 2 7<|
 .keep [2]<|
 .ret
theorem We:Px Tryz.prog (pfd false) (fun d => [].contains d) Tryz.f79=some Ym:=by kernel_rfl
theorem Ws {args:List AV} {H:AH} {v:AV} {H':AH} (h:iwp (pfd false) (Called Tryz.prog) Ym (retQ [.t 2] H v H') (look (W2 0 args)) H):Called Tryz.prog F.slices_Clone_api_Product_api_Product args H v H' :=
 Xp mixed (cmpokd false) Tryz.func79 (by kernel_rfl) We (by kernel_rfl) h
def X5 : IC :=
 q 2 (.mv (.c (.slice none 0 0)))<|
 .keep [0]<|
 Qm 3 0<|
 q 4 (.isnil false (.t 3))<|
 .keep [0,4]<|
 .ite (.t 4)
 (q 2 (.mv (.c (.slice none 0 0)))<|
 .keep [2]<|
 .ret)
 (.done)<|
 q 5 (.bslice false 1 0 [.int .i64 0] [])<|
 Qm 6 0<|
 q 7 (.append 1 8 (.t 5) (.t 6))<|
 Qm 2 7<|
 .keep [2]<|
 .ret
theorem Rp:Px Tryz.prog (pfd false) (fun d => [].contains d) Tryz.f80=some X5:=by kernel_rfl
theorem Qt {args:List AV} {H:AH} {v:AV} {H':AH} (h:iwp (pfd false) (Called Tryz.prog) X5 (retQ [.t 2] H v H') (look (W2 0 args)) H):Called Tryz.prog F.slices_Clone_int_int args H v H' :=
 Xp mixed (cmpokd false) Tryz.func80 (by kernel_rfl) Rp (by kernel_rfl) h
def Wz : IC :=
 q 4 (.mv (.c (.nilIface)))<|
 .keep [0,1]<|
 .block 0
 (Qm 6 1<|
 q 7 (.bin .lss (.t 6) (ci 0))<|
 Qm 8 7<|
 Gm 9 8 false 1<|
 qg 10 8 false (.bin .gtr (.t 9) (ci 1073741824))<|
 Qo 11 8 10<|
 Qm 5 11<|
 .keep [0,1,5]<|
 .ite (.t 5)
 (q 12 (.mkif T.api_Code (ci 1))<|
 Qm 4 12<|
 .keep [4]<|
 .ret)
 (Qm 14 0<|
 q 15 (.nilchk (.t 14))<|
 Qf 16 47 15<|
 Ql 17 1 16<|
 Qw 18 17<|
 q 19 (.bin .gtr (.t 18) (ci 0))<|
 Qm 20 19<|
 Gm 21 20 true 1<|
 Gm 22 20 true 0<|
 qg 23 20 true (.nilchk (.t 22))<|
 Gf 24 20 true 47 23<|
 Gl 25 20 true 1 24<|
 Gm 26 20 true 0<|
 qg 27 20 true (.nilchk (.t 26))<|
 Gf 28 20 true 47 27<|
 Gl 29 20 true 1 28<|
 qg 30 20 true (.len false (.t 29))<|
 qg 31 20 true (.bin .sub (.t 30) (ci 1))<|
 qg 32 20 true (.idxa 41 none (.t 25) (.t 31))<|
 Gf 33 20 true 2 32<|
 Gl 34 20 true 1 33<|
 qg 35 20 true (.bin .lss (.t 21) (.t 34))<|
 Qk 36 20 35<|
 Qm 13 36<|
 .keep [13]<|
 .ite (.t 13)
 (q 37 (.mkif T.api_Code (ci 9))<|
 Qm 4 37<|
 .keep [4]<|
 .ret)
 (.done)<|
 .done)<|
 .done)<|
 q 4 (.mv (.c (.nilIface)))<|
 .keep [4]<|
 .ret
theorem Om:Px Tryz.prog (pfd false) (fun d => [].contains d) Tryz.f81=some Wz:=by kernel_rfl
theorem Nw {args:List AV} {H:AH} {v:AV} {H':AH} (h:iwp (pfd false) (Called Tryz.prog) Wz (retQ [.t 4] H v H') (look (W2 0 args)) H):Called Tryz.prog F.device_Device_now args H v H' :=
 Xp mixed (cmpokd false) Tryz.func81 (by kernel_rfl) Om (by kernel_rfl) h
def Y9 : IC :=
 Qb 3 1<|
 q 4 (.mv (.c (.nilIface)))<|
 .keep [0,3]<|
 Qm 8 0<|
 q 9 (.nilchk (.t 8))<|
 Qf 10 47 9<|
 Ql 11 1 10<|
 Qw 12 11<|
 q 13 (.bin .gtr (.t 12) (ci 1073741824))<|
 .keep [0,3,13]<|
 .ite (.t 13)
 (q 14 (.mkif T.api_Code (ci 6))<|
 Qm 4 14<|
 .keep [4]<|
 .ret)
 (.done)<|
 .reg 0
 [xe 15 (.mv (.t 0)) [],
 xe 16 (.nilchk (.t 15)) [],
 xe 17 (.fld 0 (.t 16)) [],
 xe 18 (.load false 1 (.t 17)) [],
 xe 19 (.mv (.t 0)) [],
 xe 20 (.nilchk (.t 19)) [],
 xe 21 (.fld 47 (.t 20)) [],
 xe 22 (.load false 1 (.t 21)) [],
 xe 23 (.len false (.t 22)) [],
 xe 24 (.mv (.t 0)) [],
 xe 25 (.nilchk (.t 24)) [],
 xe 26 (.fld 9 (.t 25)) [],
 xe 27 (.fld 1 (.t 26)) [],
 xe 28 (.load false 1 (.t 27)) [],
 xe 29 (.mv (.t 0)) [],
 xe 30 (.nilchk (.t 29)) [],
 xe 31 (.fld 9 (.t 30)) [],
 xe 32 (.fld 2 (.t 31)) [],
 xe 33 (.load false 1 (.t 32)) [],
 xe 34 (.mv (.t 0)) [],
 xe 35 (.nilchk (.t 34)) [],
 xe 36 (.fld 15 (.t 35)) [],
 xe 37 (.load true 32 (.t 36)) [],
 xe 38 (.fld 0 (.t 3)) [],
 xln (.store 1 (.t 38) (.t 18)) [(.t 21),(.t 27),(.t 32),(.t 36)],
 xl 39 (.fld 1 (.t 3)) [],
 xln (.store 1 (.t 39) (.t 23)) [(.t 27),(.t 32),(.t 36)],
 xl 40 (.fld 4 (.t 3)) [],
 xln (.store 1 (.t 40) (.t 28)) [(.t 32),(.t 36)],
 xl 41 (.fld 5 (.t 3)) [],
 xln (.store 1 (.t 41) (.t 33)) [(.t 36)],
 xl 42 (.fld 8 (.t 3)) [],
 xln (.store 32 (.t 42) (.t 37)) []]<|
 .keep [0,3]<|
 Qa 44 41 3<|
 Qm 45 0<|
 q 46 (.nilchk (.t 45))<|
 Qf 47 1 46<|
 Qa 48 4 47<|
 q 49 (.call F.record_Issue [(.t 44),(.t 48)])<|
 Qm 43 49<|
 Qe 50 43 0<|
 Qe 51 43 1<|
 Qm 5 50<|
 Qm 6 51<|
 .keep [0,3,5,6]<|
 Qm 52 6<|
 q 53 (.eq true .i (.t 52) (.c (.nilIface)))<|
 .keep [0,3,5,6,53]<|
 .ite (.t 53)
 (Qm 54 6<|
 Qm 4 54<|
 .keep [4]<|
 .ret)
 (.done)<|
 Qm 55 0<|
 q 56 (.nilchk (.t 55))<|
 Qf 57 12 56<|
 Qf 58 0 57<|
 Ql 59 1 58<|
 .keep [0,3,5,59]<|
 .ite (.t 59)
 (Qm 60 0<|
 Qm 61 5<|
 q 62 (.call F.device_Device_cut [(.t 60),(.t 61)])<|
 Qm 4 62<|
 .keep [4]<|
 .ret)
 (.done)<|
 Qm 63 0<|
 q 64 (.nilchk (.t 63))<|
 Qf 65 5 64<|
 Ql 66 1 65<|
 Qm 67 5<|
 q 68 (.call F.journal_Journal_Append [(.t 66),(.t 67)])<|
 Qm 7 68<|
 .keep [0,3,5,7]<|
 Qm 69 7<|
 q 70 (.eq true .i (.t 69) (.c (.nilIface)))<|
 .keep [0,3,5,7,70]<|
 .ite (.t 70)
 (Qm 71 7<|
 Qm 4 71<|
 .keep [4]<|
 .ret)
 (.done)<|
 Qm 73 0<|
 Qm 74 5<|
 q 75 (.call F.record_Open [(.t 74)])<|
 Qm 72 75<|
 Qe 76 72 0<|
 Qe 77 72 1<|
 Qe 78 72 2<|
 Qe 79 72 3<|
 Qs 41 3 76<|
 q 80 (.nilchk (.t 73))<|
 Qf 81 15 80<|
 Qs 32 81 77<|
 Qm 6 79<|
 .keep [0,3,6]<|
 Qm 82 0<|
 Qm 83 0<|
 q 84 (.nilchk (.t 83))<|
 Qf 85 47 84<|
 Ql 86 1 85<|
 Qa 87 41 3<|
 q 88 (.bslice false 41 1 zR [(0,41,(.t 87))])<|
 q 89 (.append 41 120 (.t 86) (.t 88))<|
 q 90 (.nilchk (.t 82))<|
 Qf 91 47 90<|
 Qs 1 91 89<|
 .keep [6]<|
 Qm 92 6<|
 Qm 4 92<|
 .keep [4]<|
 .ret
theorem Qp:Px Tryz.prog (pfd false) (fun d => [].contains d) Tryz.f83=some Y9:=by kernel_rfl
theorem Wm {args:List AV} {H:AH} {v:AV} {H':AH} (h:iwp (pfd false) (Called Tryz.prog) Y9 (retQ [.t 4] H v H') (look (W2 0 args)) H):Called Tryz.prog F.device_Device_write args H v H' :=
 Xp mixed (cmpokd false) Tryz.func83 (by kernel_rfl) Qp (by kernel_rfl) h
end Go.Proofs.YtcgjlpdkobmpnaaGreat.Eng

