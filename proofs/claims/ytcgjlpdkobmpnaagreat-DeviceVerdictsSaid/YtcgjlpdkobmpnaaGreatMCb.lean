/- The code of some functions, as the abstract machine's. Printed by program. -/
import Derived.Test.YtcgjlpdkobmpnaaGreatMCa
namespace Go.Proofs.YtcgjlpdkobmpnaaGreat.Eng
open Go Go.Proofs
set_option maxRecDepth 20000
def Ep : IC :=
 q 2 (.alloc (List.replicate 32 (.int .u8 0)))<|
 .keep [0,2]<|
 q 5 (.call F.sha_New [])<|
 Qm 3 5<|
 q 4 (.mv (.f F.sha_Hash_Write))<|
 .keep [0,2,3,4]<|
 Qm 6 4<|
 Qm 7 3<|
 Qm 8 0<|
 q 9 (.callv (.t 6) [(.t 7),(.t 8)])<|
 .keep [2,3]<|
 Qm 10 3<|
 q 11 (.call F.sha_Hash_Sum [(.t 10)])<|
 Qs 32 2 11<|
 .keep [2]<|
 .ret
theorem Znr:EF false F.sha_Sum Ep [.c 2 true 32]:=ef [] Tryz.func144 (by kernel_rfl) (by kernel_rfl) (by kernel_rfl)
def Er : IC :=
 q 0 (.mv (.c (.pointer none)))<|
 .keep []<|
 q 1 (.build (List.replicate 8 (.int .u32 0)) [(0,1,(.c (.int .u32 1779033703))),(1,1,(.c (.int .u32 3144134277))),(2,1,(.c (.int .u32 1013904242))),(3,1,(.c (.int .u32 2773480762))),(4,1,(.c (.int .u32 1359893119))),(5,1,(.c (.int .u32 2600822924))),(6,1,(.c (.int .u32 528734635))),(7,1,(.c (.int .u32 1541459225)))])<|
 q 2 (.build [.int .u32 0,.int .u32 0,.int .u32 0,.int .u32 0,.int .u32 0,.int .u32 0,.int .u32 0,.int .u32 0,.slice none 0 0,.int .i64 0] [(0,8,(.t 1))])<|
 Qb 3 2<|
 Qm 0 3<|
 .keep [0]<|
 .ret
theorem Zns:EF false F.sha_New Er [.t 0]:=ef [] Tryz.func228 (by kernel_rfl) (by kernel_rfl) (by kernel_rfl)
def Rc : IC :=
 Qm 4 0<|
 q 5 (.nilchk (.t 4))<|
 Qf 6 9 5<|
 Ql 7 1 6<|
 Qm 8 1<|
 Qw 9 8<|
 q 10 (.bin .add (.t 7) (.t 9))<|
 q 11 (.nilchk (.t 4))<|
 Qf 12 9 11<|
 Qs 1 12 10<|
 .keep [0,1]<|
 Qm 13 0<|
 Qm 14 0<|
 q 15 (.nilchk (.t 14))<|
 Qf 16 8 15<|
 Ql 17 1 16<|
 Qm 18 1<|
 q 19 (.append 1 1 (.t 17) (.t 18))<|
 q 20 (.nilchk (.t 13))<|
 Qf 21 8 20<|
 Qs 1 21 19<|
 .keep [0]<|
 .block 0
 (.keep [0]<|
 .loop
 (Qm 22 0<|
 q 23 (.nilchk (.t 22))<|
 Qf 24 8 23<|
 Ql 25 1 24<|
 Qw 26 25<|
 q 27 (.bin .geq (.t 26) (ci 64))<|
 .keep [0,27]<|
 .ite (.t 27)
 (.done)
 (.exit 0)<|
 .block 1
 (Qm 28 0<|
 Qm 29 0<|
 q 30 (.nilchk (.t 29))<|
 Qf 31 8 30<|
 Ql 32 1 31<|
 q 33 (.slice 1 none (.t 32) none (some (ci 64)) none)<|
 q 34 (.call F.sha_Hash_take [(.t 28),(.t 33)])<|
 .keep [0]<|
 Qm 35 0<|
 q 36 (.bslice false 1 0 [.int .u8 0] [])<|
 Qm 37 0<|
 q 38 (.nilchk (.t 37))<|
 Qf 39 8 38<|
 Ql 40 1 39<|
 q 41 (.slice 1 none (.t 40) (some (ci 64)) none none)<|
 q 42 (.append 1 1 (.t 36) (.t 41))<|
 q 43 (.nilchk (.t 35))<|
 Qf 44 8 43<|
 Qs 1 44 42<|
 .keep [0]<|
 .done)<|
 .keep [0]<|
 .done))<|
 .ret
theorem J9:EF false F.sha_Hash_Write Rc []:=ef [] Tryz.func229 (by kernel_rfl) (by kernel_rfl) (by kernel_rfl)
def Ph : IC :=
 q 2 (.alloc (List.replicate 32 (.int .u8 0)))<|
 .keep [0,2]<|
 Qm 8 0<|
 q 9 (.call F.sha_Hash_Clone [(.t 8)])<|
 Qm 3 9<|
 .keep [0,2,3]<|
 q 10 (.bslice true 1 1 [.int .u8 0] [(0,1,(.c (.int .u8 128)))])<|
 Qm 4 10<|
 .keep [0,2,3,4]<|
 .block 0
 (.keep [0,2,3,4]<|
 .loop
 (Qm 11 3<|
 q 12 (.nilchk (.t 11))<|
 Qf 13 8 12<|
 Ql 14 1 13<|
 Qw 15 14<|
 Qm 16 4<|
 Qw 17 16<|
 q 18 (.bin .add (.t 15) (.t 17))<|
 q 19 (.bin .rem (.t 18) (ci 64))<|
 q 20 (.bin .neq (.t 19) (ci 56))<|
 .keep [0,2,3,4,20]<|
 .ite (.t 20)
 (.done)
 (.exit 0)<|
 .block 1
 (Qm 21 4<|
 q 22 (.bslice false 1 1 [.int .u8 0] [(0,1,(.c (.int .u8 0)))])<|
 q 23 (.append 1 1 (.t 21) (.t 22))<|
 Qm 4 23<|
 .keep [0,2,3,4]<|
 .done)<|
 .keep [0,2,3,4]<|
 .done))<|
 q 5 (.mv (ci 56))<|
 .keep [0,2,3,4,5]<|
 .block 2
 (.keep [0,2,3,4,5]<|
 .loop
 (Qm 24 5<|
 q 25 (.bin .geq (.t 24) (ci 0))<|
 .keep [0,2,3,4,5,25]<|
 .ite (.t 25)
 (.done)
 (.exit 2)<|
 .block 3
 (Qm 28 4<|
 Qm 29 0<|
 q 30 (.nilchk (.t 29))<|
 Qf 31 9 30<|
 Ql 32 1 31<|
 q 33 (.conv .u64 (.t 32))<|
 q 34 (.bin .mul (.c (.int .u64 8)) (.t 33))<|
 Qm 35 5<|
 q 36 (.bin .shr (.t 34) (.t 35))<|
 q 37 (.conv .u8 (.t 36))<|
 q 38 (.bslice false 1 1 [.int .u8 0] [(0,1,(.t 37))])<|
 q 39 (.append 1 1 (.t 28) (.t 38))<|
 Qm 4 39<|
 .keep [0,2,3,4,5]<|
 .done)<|
 Qm 26 5<|
 q 27 (.bin .sub (.t 26) (ci 8))<|
 Qm 5 27<|
 .keep [0,2,3,4,5]<|
 .keep [0,2,3,4,5]<|
 .done))<|
 Qm 40 3<|
 Qm 41 4<|
 q 42 (.call F.sha_Hash_Write [(.t 40),(.t 41)])<|
 .keep [2,3]<|
 q 6 (.alloc (List.replicate 32 (.int .u8 0)))<|
 .keep [2,3,6]<|
 q 43 (.mv (ci 0))<|
 .keep [2,3,6,43]<|
 .block 4
 (.keep [2,3,6,43]<|
 .loop
 (q 44 (.bin .lss (.t 43) (ci 32))<|
 .keep [2,3,6,43,44]<|
 .ite (.t 44)
 (.done)
 (.exit 4)<|
 .block 5
 (Qm 45 43<|
 Qm 7 45<|
 .keep [2,3,6,7,43]<|
 Qm 46 7<|
 Qm 47 3<|
 Qm 48 7<|
 q 49 (.bin .quo (.t 48) (ci 4))<|
 q 50 (.nilchk (.t 47))<|
 Qf 51 0 50<|
 q 52 (.idxa 1 (some 8) (.t 51) (.t 49))<|
 Ql 53 1 52<|
 Qm 54 7<|
 q 55 (.bin .rem (.t 54) (ci 4))<|
 q 56 (.bin .mul (ci 8) (.t 55))<|
 q 57 (.bin .sub (ci 24) (.t 56))<|
 q 58 (.bin .shr (.t 53) (.t 57))<|
 q 59 (.conv .u8 (.t 58))<|
 q 60 (.idxa 1 (some 32) (.t 6) (.t 46))<|
 Qs 1 60 59<|
 .keep [2,3,6,43]<|
 .done)<|
 q 61 (.bin .add (.t 43) (ci 1))<|
 Qm 43 61<|
 .keep [2,3,6,43]<|
 .keep [2,3,6,43]<|
 .done))<|
 Qa 62 32 6<|
 Qs 32 2 62<|
 .keep [2]<|
 .ret
theorem Fu:EF false F.sha_Hash_Sum Ph [.c 2 true 32]:=ef [10] Tryz.func230 (by kernel_rfl) (by kernel_rfl) (by kernel_rfl)
def Qd : IC :=
 Qm 13 0<|
 q 14 (.nilchk (.t 13))<|
 Qf 15 0 14<|
 Qa 16 8 15<|
 q 4 (.alloc (List.replicate 8 (.int .u32 0)))<|
 Qs 8 4 16<|
 .keep [0,1,4]<|
 Qm 17 1<|
 q 18 (.call F.sha_words [(.t 17)])<|
 q 19 (.call F.sha_constants [])<|
 q 5 (.alloc (List.replicate 64 (.int .u32 0)))<|
 q 6 (.alloc (List.replicate 64 (.int .u32 0)))<|
 Qs 64 5 18<|
 Qs 64 6 19<|
 .keep [0,4,5,6]<|
 q 20 (.mv (ci 0))<|
 .keep [0,4,5,6,20]<|
 .block 0
 (.keep [0,4,5,6,20]<|
 .loop
 (q 21 (.bin .lss (.t 20) (ci 64))<|
 .keep [0,4,5,6,20,21]<|
 .ite (.t 21)
 (.done)
 (.exit 0)<|
 .block 1
 (Qm 22 20<|
 Qm 7 22<|
 .keep [0,4,5,6,7,20]<|
 q 23 (.idxa 1 (some 8) (.t 4) (ci 4))<|
 Ql 24 1 23<|
 q 25 (.idxa 1 (some 8) (.t 4) (ci 5))<|
 Ql 26 1 25<|
 q 27 (.bin .and (.t 24) (.t 26))<|
 q 28 (.idxa 1 (some 8) (.t 4) (ci 4))<|
 Ql 29 1 28<|
 q 30 (.un .xor (.t 29))<|
 q 31 (.idxa 1 (some 8) (.t 4) (ci 6))<|
 Ql 32 1 31<|
 q 33 (.bin .and (.t 30) (.t 32))<|
 q 34 (.bin .xor (.t 27) (.t 33))<|
 Qm 8 34<|
 .keep [0,4,5,6,7,8,20]<|
 q 35 (.idxa 1 (some 8) (.t 4) (ci 0))<|
 Ql 36 1 35<|
 q 37 (.idxa 1 (some 8) (.t 4) (ci 1))<|
 Ql 38 1 37<|
 q 39 (.bin .and (.t 36) (.t 38))<|
 q 40 (.idxa 1 (some 8) (.t 4) (ci 0))<|
 Ql 41 1 40<|
 q 42 (.idxa 1 (some 8) (.t 4) (ci 2))<|
 Ql 43 1 42<|
 q 44 (.bin .and (.t 41) (.t 43))<|
 q 45 (.bin .xor (.t 39) (.t 44))<|
 q 46 (.idxa 1 (some 8) (.t 4) (ci 1))<|
 Ql 47 1 46<|
 q 48 (.idxa 1 (some 8) (.t 4) (ci 2))<|
 Ql 49 1 48<|
 q 50 (.bin .and (.t 47) (.t 49))<|
 q 51 (.bin .xor (.t 45) (.t 50))<|
 Qm 9 51<|
 .keep [0,4,5,6,7,8,9,20]<|
 q 52 (.idxa 1 (some 8) (.t 4) (ci 7))<|
 Ql 53 1 52<|
 q 54 (.idxa 1 (some 8) (.t 4) (ci 4))<|
 Ql 55 1 54<|
 q 56 (.call F.sha_turned [(.t 55),(ci 6),(ci 11),(ci 25)])<|
 q 57 (.bin .add (.t 53) (.t 56))<|
 Qm 58 8<|
 q 59 (.bin .add (.t 57) (.t 58))<|
 Qm 60 7<|
 q 61 (.idxa 1 (some 64) (.t 6) (.t 60))<|
 Ql 62 1 61<|
 q 63 (.bin .add (.t 59) (.t 62))<|
 Qm 64 7<|
 q 65 (.idxa 1 (some 64) (.t 5) (.t 64))<|
 Ql 66 1 65<|
 q 67 (.bin .add (.t 63) (.t 66))<|
 Qm 10 67<|
 .keep [0,4,5,6,9,10,20]<|
 q 68 (.idxa 1 (some 8) (.t 4) (ci 0))<|
 Ql 69 1 68<|
 q 70 (.call F.sha_turned [(.t 69),(ci 2),(ci 13),(ci 22)])<|
 Qm 71 9<|
 q 72 (.bin .add (.t 70) (.t 71))<|
 Qm 11 72<|
 .keep [0,4,5,6,10,11,20]<|
 Qm 73 10<|
 Qm 74 11<|
 q 75 (.bin .add (.t 73) (.t 74))<|
 q 76 (.idxa 1 (some 8) (.t 4) (ci 0))<|
 Ql 77 1 76<|
 q 78 (.idxa 1 (some 8) (.t 4) (ci 1))<|
 Ql 79 1 78<|
 q 80 (.idxa 1 (some 8) (.t 4) (ci 2))<|
 Ql 81 1 80<|
 q 82 (.idxa 1 (some 8) (.t 4) (ci 3))<|
 Ql 83 1 82<|
 Qm 84 10<|
 q 85 (.bin .add (.t 83) (.t 84))<|
 q 86 (.idxa 1 (some 8) (.t 4) (ci 4))<|
 Ql 87 1 86<|
 q 88 (.idxa 1 (some 8) (.t 4) (ci 5))<|
 Ql 89 1 88<|
 q 90 (.idxa 1 (some 8) (.t 4) (ci 6))<|
 Ql 91 1 90<|
 q 92 (.build (List.replicate 8 (.int .u32 0)) [(0,1,(.t 75)),(1,1,(.t 77)),(2,1,(.t 79)),(3,1,(.t 81)),(4,1,(.t 85)),(5,1,(.t 87)),(6,1,(.t 89)),(7,1,(.t 91))])<|
 Qs 8 4 92<|
 .keep [0,4,5,6,20]<|
 .done)<|
 q 93 (.bin .add (.t 20) (ci 1))<|
 Qm 20 93<|
 .keep [0,4,5,6,20]<|
 .keep [0,4,5,6,20]<|
 .done))<|
 q 94 (.mv (ci 0))<|
 .keep [0,4,94]<|
 .block 2
 (.keep [0,4,94]<|
 .loop
 (q 95 (.bin .lss (.t 94) (ci 8))<|
 .keep [0,4,94,95]<|
 .ite (.t 95)
 (.done)
 (.exit 2)<|
 .block 3
 (Qm 96 94<|
 Qm 12 96<|
 .keep [0,4,12,94]<|
 Qm 97 0<|
 Qm 98 12<|
 q 99 (.nilchk (.t 97))<|
 Qf 100 0 99<|
 q 101 (.idxa 1 (some 8) (.t 100) (.t 98))<|
 Ql 102 1 101<|
 Qm 103 12<|
 q 104 (.idxa 1 (some 8) (.t 4) (.t 103))<|
 Ql 105 1 104<|
 q 106 (.bin .add (.t 102) (.t 105))<|
 q 107 (.nilchk (.t 97))<|
 Qf 108 0 107<|
 q 109 (.idxa 1 (some 8) (.t 108) (.t 98))<|
 Qs 1 109 106<|
 .keep [0,4,94]<|
 .done)<|
 q 110 (.bin .add (.t 94) (ci 1))<|
 Qm 94 110<|
 .keep [0,4,94]<|
 .keep [0,4,94]<|
 .done))<|
 .ret
theorem G3:EF false F.sha_Hash_take Qd []:=ef [] Tryz.func301 (by kernel_rfl) (by kernel_rfl) (by kernel_rfl)
def Rd : IC :=
 q 2 (.mv (.c (.pointer none)))<|
 .keep [0]<|
 .reg 2
 [xe 3 (.mv (.t 0)) [],
 xe 4 (.nilchk (.t 3)) [],
 xe 5 (.fld 0 (.t 4)) [],
 xe 6 (.load true 8 (.t 5)) [],
 xe 7 (.bslice false 1 0 [.int .u8 0] []) [],
 xe 8 (.mv (.t 0)) [],
 xe 9 (.nilchk (.t 8)) [],
 xe 10 (.fld 8 (.t 9)) [],
 xe 11 (.load false 1 (.t 10)) [],
 xa 0 12 (.append 1 1 (.t 7) (.t 11)),
 xe 13 (.mv (.t 0)) [],
 xe 14 (.nilchk (.t 13)) [],
 xe 15 (.fld 9 (.t 14)) [],
 xe 16 (.load false 1 (.t 15)) [],
 xl 17 (.build [.int .u32 0,.int .u32 0,.int .u32 0,.int .u32 0,.int .u32 0,.int .u32 0,.int .u32 0,.int .u32 0,.slice none 0 0,.int .i64 0] [(0,8,(.t 6)),(8,1,(.t 12)),(9,1,(.t 16))]) [],
 xa 1 18 (.box (.t 17)),
 xl 2 (.mv (.t 18)) []]<|
 .keep [2]<|
 .ret
theorem Ia:EF false F.sha_Hash_Clone Rd [.t 2]:=ef [] Tryz.func302 (by kernel_rfl) (by kernel_rfl) (by kernel_rfl)
def Jn : IC :=
 q 2 (.alloc (List.replicate 64 (.int .u32 0)))<|
 .keep [0,2]<|
 q 3 (.alloc (List.replicate 64 (.int .u32 0)))<|
 .keep [0,2,3]<|
 q 10 (.mv (ci 0))<|
 .keep [0,2,3,10]<|
 .block 0
 (.keep [0,2,3,10]<|
 .loop
 (q 11 (.bin .lss (.t 10) (ci 16))<|
 .keep [0,2,3,10,11]<|
 .ite (.t 11)
 (.done)
 (.exit 0)<|
 .block 1
 (Qm 12 10<|
 Qm 4 12<|
 .keep [0,2,3,4,10]<|
 Qm 13 4<|
 Qm 14 0<|
 Qm 15 4<|
 q 16 (.bin .mul (ci 4) (.t 15))<|
 q 17 (.idxa 1 none (.t 14) (.t 16))<|
 Ql 18 1 17<|
 q 19 (.conv .u32 (.t 18))<|
 q 20 (.bin .shl (.t 19) (.c (.int .u64 24)))<|
 Qm 21 0<|
 Qm 22 4<|
 q 23 (.bin .mul (ci 4) (.t 22))<|
 q 24 (.bin .add (.t 23) (ci 1))<|
 q 25 (.idxa 1 none (.t 21) (.t 24))<|
 Ql 26 1 25<|
 q 27 (.conv .u32 (.t 26))<|
 q 28 (.bin .shl (.t 27) (.c (.int .u64 16)))<|
 q 29 (.bin .or (.t 20) (.t 28))<|
 Qm 30 0<|
 Qm 31 4<|
 q 32 (.bin .mul (ci 4) (.t 31))<|
 q 33 (.bin .add (.t 32) (ci 2))<|
 q 34 (.idxa 1 none (.t 30) (.t 33))<|
 Ql 35 1 34<|
 q 36 (.conv .u32 (.t 35))<|
 q 37 (.bin .shl (.t 36) (.c (.int .u64 8)))<|
 q 38 (.bin .or (.t 29) (.t 37))<|
 Qm 39 0<|
 Qm 40 4<|
 q 41 (.bin .mul (ci 4) (.t 40))<|
 q 42 (.bin .add (.t 41) (ci 3))<|
 q 43 (.idxa 1 none (.t 39) (.t 42))<|
 Ql 44 1 43<|
 q 45 (.conv .u32 (.t 44))<|
 q 46 (.bin .or (.t 38) (.t 45))<|
 q 47 (.idxa 1 (some 64) (.t 3) (.t 13))<|
 Qs 1 47 46<|
 .keep [0,2,3,10]<|
 .done)<|
 q 48 (.bin .add (.t 10) (ci 1))<|
 Qm 10 48<|
 .keep [0,2,3,10]<|
 .keep [0,2,3,10]<|
 .done))<|
 q 5 (.mv (ci 16))<|
 .keep [2,3,5]<|
 .block 2
 (.keep [2,3,5]<|
 .loop
 (Qm 49 5<|
 q 50 (.bin .lss (.t 49) (ci 64))<|
 .keep [2,3,5,50]<|
 .ite (.t 50)
 (.done)
 (.exit 2)<|
 .block 3
 (Qm 53 5<|
 q 54 (.bin .sub (.t 53) (ci 15))<|
 q 55 (.idxa 1 (some 64) (.t 3) (.t 54))<|
 Ql 56 1 55<|
 Qm 57 5<|
 q 58 (.bin .sub (.t 57) (ci 2))<|
 q 59 (.idxa 1 (some 64) (.t 3) (.t 58))<|
 Ql 60 1 59<|
 Qm 6 56<|
 Qm 7 60<|
 .keep [2,3,5,6,7]<|
 Qm 61 6<|
 q 62 (.call F.math_bits_RotateLeft32 [(.t 61),(ci (-7))])<|
 Qm 63 6<|
 q 64 (.call F.math_bits_RotateLeft32 [(.t 63),(ci (-18))])<|
 q 65 (.bin .xor (.t 62) (.t 64))<|
 Qm 66 6<|
 q 67 (.bin .shr (.t 66) (.c (.int .u64 3)))<|
 q 68 (.bin .xor (.t 65) (.t 67))<|
 Qm 8 68<|
 .keep [2,3,5,7,8]<|
 Qm 69 7<|
 q 70 (.call F.math_bits_RotateLeft32 [(.t 69),(ci (-17))])<|
 Qm 71 7<|
 q 72 (.call F.math_bits_RotateLeft32 [(.t 71),(ci (-19))])<|
 q 73 (.bin .xor (.t 70) (.t 72))<|
 Qm 74 7<|
 q 75 (.bin .shr (.t 74) (.c (.int .u64 10)))<|
 q 76 (.bin .xor (.t 73) (.t 75))<|
 Qm 9 76<|
 .keep [2,3,5,8,9]<|
 Qm 77 5<|
 Qm 78 9<|
 Qm 79 5<|
 q 80 (.bin .sub (.t 79) (ci 7))<|
 q 81 (.idxa 1 (some 64) (.t 3) (.t 80))<|
 Ql 82 1 81<|
 q 83 (.bin .add (.t 78) (.t 82))<|
 Qm 84 8<|
 q 85 (.bin .add (.t 83) (.t 84))<|
 Qm 86 5<|
 q 87 (.bin .sub (.t 86) (ci 16))<|
 q 88 (.idxa 1 (some 64) (.t 3) (.t 87))<|
 Ql 89 1 88<|
 q 90 (.bin .add (.t 85) (.t 89))<|
 q 91 (.idxa 1 (some 64) (.t 3) (.t 77))<|
 Qs 1 91 90<|
 .keep [2,3,5]<|
 .done)<|
 Qm 51 5<|
 q 52 (.bin .add (.t 51) (ci 1))<|
 Qm 5 52<|
 .keep [2,3,5]<|
 .keep [2,3,5]<|
 .done))<|
 Qa 92 64 3<|
 Qs 64 2 92<|
 .keep [2]<|
 .ret
theorem Zcy:EF false F.sha_words Jn [.c 2 true 64]:=ef [] Tryz.func330 (by kernel_rfl) (by kernel_rfl) (by kernel_rfl)
def Qc : IC :=
 q 0 (.alloc (List.replicate 64 (.int .u32 0)))<|
 .keep [0]<|
 q 1 (.build (List.replicate 64 (.int .u32 0)) [(0,1,(.c (.int .u32 1116352408))),(1,1,(.c (.int .u32 1899447441))),(2,1,(.c (.int .u32 3049323471))),(3,1,(.c (.int .u32 3921009573))),(4,1,(.c (.int .u32 961987163))),(5,1,(.c (.int .u32 1508970993))),(6,1,(.c (.int .u32 2453635748))),(7,1,(.c (.int .u32 2870763221))),(8,1,(.c (.int .u32 3624381080))),(9,1,(.c (.int .u32 310598401))),(10,1,(.c (.int .u32 607225278))),(11,1,(.c (.int .u32 1426881987))),(12,1,(.c (.int .u32 1925078388))),(13,1,(.c (.int .u32 2162078206))),(14,1,(.c (.int .u32 2614888103))),(15,1,(.c (.int .u32 3248222580))),(16,1,(.c (.int .u32 3835390401))),(17,1,(.c (.int .u32 4022224774))),(18,1,(.c (.int .u32 264347078))),(19,1,(.c (.int .u32 604807628))),(20,1,(.c (.int .u32 770255983))),(21,1,(.c (.int .u32 1249150122))),(22,1,(.c (.int .u32 1555081692))),(23,1,(.c (.int .u32 1996064986))),(24,1,(.c (.int .u32 2554220882))),(25,1,(.c (.int .u32 2821834349))),(26,1,(.c (.int .u32 2952996808))),(27,1,(.c (.int .u32 3210313671))),(28,1,(.c (.int .u32 3336571891))),(29,1,(.c (.int .u32 3584528711))),(30,1,(.c (.int .u32 113926993))),(31,1,(.c (.int .u32 338241895))),(32,1,(.c (.int .u32 666307205))),(33,1,(.c (.int .u32 773529912))),(34,1,(.c (.int .u32 1294757372))),(35,1,(.c (.int .u32 1396182291))),(36,1,(.c (.int .u32 1695183700))),(37,1,(.c (.int .u32 1986661051))),(38,1,(.c (.int .u32 2177026350))),(39,1,(.c (.int .u32 2456956037))),(40,1,(.c (.int .u32 2730485921))),(41,1,(.c (.int .u32 2820302411))),(42,1,(.c (.int .u32 3259730800))),(43,1,(.c (.int .u32 3345764771))),(44,1,(.c (.int .u32 3516065817))),(45,1,(.c (.int .u32 3600352804))),(46,1,(.c (.int .u32 4094571909))),(47,1,(.c (.int .u32 275423344))),(48,1,(.c (.int .u32 430227734))),(49,1,(.c (.int .u32 506948616))),(50,1,(.c (.int .u32 659060556))),(51,1,(.c (.int .u32 883997877))),(52,1,(.c (.int .u32 958139571))),(53,1,(.c (.int .u32 1322822218))),(54,1,(.c (.int .u32 1537002063))),(55,1,(.c (.int .u32 1747873779))),(56,1,(.c (.int .u32 1955562222))),(57,1,(.c (.int .u32 2024104815))),(58,1,(.c (.int .u32 2227730452))),(59,1,(.c (.int .u32 2361852424))),(60,1,(.c (.int .u32 2428436474))),(61,1,(.c (.int .u32 2756734187))),(62,1,(.c (.int .u32 3204031479))),(63,1,(.c (.int .u32 3329325298)))])<|
 Qs 64 0 1<|
 .keep [0]<|
 .ret
theorem G1:EF false F.sha_constants Qc [.c 0 true 64]:=ef [] Tryz.func331 (by kernel_rfl) (by kernel_rfl) (by kernel_rfl)
def M4 : IC :=
 q 8 (.mv (.c (.int .u32 0)))<|
 .keep [0,1,2,3]<|
 Qm 9 0<|
 Qm 10 1<|
 q 11 (.un .neg (.t 10))<|
 q 12 (.call F.math_bits_RotateLeft32 [(.t 9),(.t 11)])<|
 Qm 13 0<|
 Qm 14 2<|
 q 15 (.un .neg (.t 14))<|
 q 16 (.call F.math_bits_RotateLeft32 [(.t 13),(.t 15)])<|
 q 17 (.bin .xor (.t 12) (.t 16))<|
 Qm 18 0<|
 Qm 19 3<|
 q 20 (.un .neg (.t 19))<|
 q 21 (.call F.math_bits_RotateLeft32 [(.t 18),(.t 20)])<|
 q 22 (.bin .xor (.t 17) (.t 21))<|
 Qm 8 22<|
 .keep [8]<|
 .ret
theorem A3:EF false F.sha_turned M4 [.t 8]:=ef [] Tryz.func332 (by kernel_rfl) (by kernel_rfl) (by kernel_rfl)
def Am : IC :=
 q 4 (.alloc (List.replicate 32 (.int .u8 0)))<|
 .keep [0,1,4]<|
 q 9 (.call F.sha_New [])<|
 Qm 5 9<|
 .keep [0,1,4,5]<|
 Qm 10 5<|
 Qm 11 0<|
 q 12 (.call F.mac_with [(.t 11),(.c (.int .u8 54))])<|
 q 13 (.call F.sha_Hash_Write [(.t 10),(.t 12)])<|
 .keep [0,1,4,5]<|
 Qm 14 1<|
 Qw 15 14<|
 q 16 (.mv (ci 0))<|
 .keep [0,4,5,14,15,16]<|
 .block 0
 (.keep [0,4,5,14,15,16]<|
 .loop
 (q 17 (.bin .lss (.t 16) (.t 15))<|
 .keep [0,4,5,14,15,16,17]<|
 .ite (.t 17)
 (.done)
 (.exit 0)<|
 .block 1
 (q 18 (.idxa 1 none (.t 14) (.t 16))<|
 Ql 19 1 18<|
 Qm 7 19<|
 .keep [0,4,5,7,14,15,16]<|
 Qm 20 5<|
 Qm 21 7<|
 q 22 (.call F.sha_Hash_Write [(.t 20),(.t 21)])<|
 .keep [0,4,5,14,15,16]<|
 .done)<|
 q 23 (.bin .add (.t 16) (ci 1))<|
 Qm 16 23<|
 .keep [0,4,5,14,15,16]<|
 .keep [0,4,5,14,15,16]<|
 .done))<|
 Qm 24 5<|
 q 25 (.call F.sha_Hash_Sum [(.t 24)])<|
 q 8 (.alloc (List.replicate 32 (.int .u8 0)))<|
 Qs 32 8 25<|
 .keep [0,4,8]<|
 .reg 0
 [xe 26 (.mv (.t 0)) [],
 xm 27 (.call F.mac_with [(.t 26),(.c (.int .u8 92))]) [],
 xe 28 (.slice 1 (some 32) (.t 8) none none none) [],
 xl 29 (.append 1 1 (.t 27) (.t 28)) [],
 xl 30 (.call F.sha_Sum [(.t 29)]) [],
 xln (.store 32 (.t 4) (.t 30)) []]<|
 .keep [4]<|
 .ret
theorem Zr5:EF false F.mac_Of Am [.c 4 true 32]:=ef [] Tryz.func354 (by kernel_rfl) (by kernel_rfl) (by kernel_rfl)
def Gb : IC :=
 q 4 (.mv (.c (.slice none 0 0)))<|
 .keep [0,1]<|
 Qm 8 0<|
 Qw 9 8<|
 q 10 (.bin .gtr (.t 9) (ci 64))<|
 .keep [0,1,10]<|
 .ite (.t 10)
 (Qm 11 0<|
 q 12 (.call F.sha_Sum [(.t 11)])<|
 q 5 (.alloc (List.replicate 32 (.int .u8 0)))<|
 Qs 32 5 12<|
 .keep [1,5]<|
 q 13 (.slice 1 (some 32) (.t 5) none none none)<|
 Qm 0 13<|
 .keep [0,1]<|
 .done)
 (.done)<|
 q 14 (.mksl 1 1 [.int .u8 0] (ci 64) (ci 64))<|
 Qm 6 14<|
 .keep [0,1,6]<|
 Qm 15 6<|
 Qm 16 0<|
 q 17 (.copy 1 (.t 15) (.t 16))<|
 .keep [1,6]<|
 Qm 18 6<|
 Qw 19 18<|
 q 20 (.mv (ci 0))<|
 .keep [1,6,19,20]<|
 .block 0
 (.keep [1,6,19,20]<|
 .loop
 (q 21 (.bin .lss (.t 20) (.t 19))<|
 .keep [1,6,19,20,21]<|
 .ite (.t 21)
 (.done)
 (.exit 0)<|
 .block 1
 (Qm 22 20<|
 Qm 7 22<|
 .keep [1,6,7,19,20]<|
 Qm 23 6<|
 Qm 24 7<|
 q 25 (.idxa 1 none (.t 23) (.t 24))<|
 Ql 26 1 25<|
 Qm 27 1<|
 q 28 (.bin .xor (.t 26) (.t 27))<|
 q 29 (.idxa 1 none (.t 23) (.t 24))<|
 Qs 1 29 28<|
 .keep [1,6,19,20]<|
 .done)<|
 q 30 (.bin .add (.t 20) (ci 1))<|
 Qm 20 30<|
 .keep [1,6,19,20]<|
 .keep [1,6,19,20]<|
 .done))<|
 Qm 31 6<|
 Qm 4 31<|
 .keep [4]<|
 .ret
theorem Zib:EF false F.mac_with Gb [.t 4]:=ef [] Tryz.func357 (by kernel_rfl) (by kernel_rfl) (by kernel_rfl)
def O4 : IC :=
 Qb 1 0<|
 q 2 (.alloc [.int .u64 0,.int .u64 0,.int .u64 0,.int .u64 0,.int .u64 0,.int .u64 0,.int .u64 0,.int .u64 0,.bool false])<|
 q 3 (.mv (.c (.nilIface)))<|
 .keep [1,2]<|
 Qa 4 4 1<|
 q 5 (.call F.sign_may [(.t 4)])<|
 q 6 (.un .not (.t 5))<|
 .keep [1,2,6]<|
 .ite (.t 6)
 (q 7 (.build [.int .u64 0,.int .u64 0,.int .u64 0,.int .u64 0,.int .u64 0,.int .u64 0,.int .u64 0,.int .u64 0,.bool false] [])<|
 q 8 (.mkif T.api_Code (ci 1))<|
 Qs 9 2 7<|
 Qm 3 8<|
 .keep [2,3]<|
 .ret)
 (.done)<|
 Qa 9 4 1<|
 q 10 (.call F.point_Base [])<|
 q 11 (.call F.point_Mul [(.t 9),(.t 10)])<|
 Qe 12 11 0<|
 Qe 13 11 1<|
 Qs 9 2 12<|
 Qm 3 13<|
 .keep [2,3]<|
 .ret
theorem Cq:EF false F.sign_Public O4 [.c 2 true 9,.t 3]:=ef [] Tryz.func34 (by kernel_rfl) (by kernel_rfl) (by kernel_rfl)
def H7 : IC :=
 Qb 1 0<|
 q 2 (.mv (cb false))<|
 .keep [1]<|
 Qa 3 4 1<|
 q 4 (.build (List.replicate 4 (.int .u64 0)) [])<|
 q 5 (.eqagg (List.replicate 4 (some .u64)) true (.t 3) (.t 4))<|
 Qm 6 5<|
 Ga 7 6 true 4 1<|
 qg 8 6 true (.call F.point_N [])<|
 qg 9 6 true (.call F.limb_Cmp [(.t 7),(.t 8)])<|
 qg 10 6 true (.bin .lss (.t 9) (ci 0))<|
 Qk 11 6 10<|
 Qm 2 11<|
 .keep [2]<|
 .ret
theorem Zh8:EF false F.sign_may H7 [.t 2]:=ef [] Tryz.func90 (by kernel_rfl) (by kernel_rfl) (by kernel_rfl)
def O3 : IC :=
 Qb 3 0<|
 Qb 4 1<|
 Qb 5 2<|
 q 6 (.mv (cb false))<|
 .keep [3,4,5]<|
 q 15 (.call F.point_N [])<|
 q 16 (.call F.field_New [(.t 15)])<|
 Qm 14 16<|
 Qe 17 14 0<|
 Qe 18 14 1<|
 Qm 7 17<|
 Qm 8 18<|
 .keep [3,4,5,7,8]<|
 Qm 19 8<|
 q 20 (.eq true .i (.t 19) (.c (.nilIface)))<|
 Qm 21 20<|
 Ga 22 21 false 9 3<|
 qg 23 21 false (.call F.point_On [(.t 22)])<|
 qg 24 21 false (.un .not (.t 23))<|
 Qo 25 21 24<|
 Qm 26 25<|
 Gf 27 26 false 8 3<|
 Gl 28 26 false 1 27<|
 Qo 29 26 28<|
 Qm 30 29<|
 Gf 31 30 false 0 5<|
 Ga 32 30 false 4 31<|
 qg 33 30 false (.call F.sign_may [(.t 32)])<|
 qg 34 30 false (.un .not (.t 33))<|
 Qo 35 30 34<|
 Qm 36 35<|
 Gf 37 36 false 4 5<|
 Ga 38 36 false 4 37<|
 qg 39 36 false (.call F.sign_may [(.t 38)])<|
 qg 40 36 false (.un .not (.t 39))<|
 Qo 41 36 40<|
 .keep [3,4,5,7,41]<|
 .ite (.t 41)
 (q 6 (.mv (cb false))<|
 .keep [6]<|
 .ret)
 (.done)<|
 Qm 43 7<|
 Qf 44 4 5<|
 Qa 45 4 44<|
 q 46 (.call F.field_Field_Inv [(.t 43),(.t 45)])<|
 Qm 42 46<|
 Qe 47 42 0<|
 Qe 48 42 1<|
 q 9 (.alloc (List.replicate 4 (.int .u64 0)))<|
 Qs 4 9 47<|
 Qm 8 48<|
 .keep [3,4,5,7,8,9]<|
 Qm 49 8<|
 q 50 (.eq true .i (.t 49) (.c (.nilIface)))<|
 .keep [3,4,5,7,9,50]<|
 .ite (.t 50)
 (q 6 (.mv (cb false))<|
 .keep [6]<|
 .ret)
 (.done)<|
 .reg 1
 [xe 52 (.mv (.t 7)) [],
 xe 53 (.load true 32 (.t 4)) [],
 xe 54 (.call F.sign_number [(.t 53)]) [],
 xe 55 (.load true 4 (.t 9)) [],
 xe 56 (.call F.field_Field_Mul [(.t 52),(.t 54),(.t 55)]) [],
 xe 57 (.call F.point_Base []) [],
 xe 58 (.call F.point_Mul [(.t 56),(.t 57)]) [],
 xe 51 (.mv (.t 58)) [],
 xe 59 (.ext (.t 51) 0) [],
 xe 60 (.ext (.t 51) 1) [],
 xa 0 10 (.alloc [.int .u64 0,.int .u64 0,.int .u64 0,.int .u64 0,.int .u64 0,.int .u64 0,.int .u64 0,.int .u64 0,.bool false]),
 xln (.store 9 (.t 10) (.t 59)) [],
 xl 11 (.mv (.t 60)) []]<|
 .keep [3,5,7,9,10,11]<|
 .reg 1
 [xe 62 (.mv (.t 7)) [],
 xe 63 (.fld 0 (.t 5)) [],
 xe 64 (.load true 4 (.t 63)) [],
 xe 65 (.load true 4 (.t 9)) [],
 xe 66 (.call F.field_Field_Mul [(.t 62),(.t 64),(.t 65)]) [],
 xe 67 (.load true 9 (.t 3)) [],
 xe 68 (.call F.point_Mul [(.t 66),(.t 67)]) [],
 xe 61 (.mv (.t 68)) [],
 xe 69 (.ext (.t 61) 0) [],
 xe 70 (.ext (.t 61) 1) [],
 xa 0 12 (.alloc [.int .u64 0,.int .u64 0,.int .u64 0,.int .u64 0,.int .u64 0,.int .u64 0,.int .u64 0,.int .u64 0,.bool false]),
 xln (.store 9 (.t 12) (.t 69)) [],
 xl 8 (.mv (.t 70)) []]<|
 .keep [5,7,8,10,11,12]<|
 Qm 71 11<|
 q 72 (.eq true .i (.t 71) (.c (.nilIface)))<|
 Qm 73 72<|
 Gm 74 73 false 8<|
 qg 75 73 false (.eq true .i (.t 74) (.c (.nilIface)))<|
 Qo 76 73 75<|
 .keep [5,7,10,12,76]<|
 .ite (.t 76)
 (q 6 (.mv (cb false))<|
 .keep [6]<|
 .ret)
 (.done)<|
 Qa 78 9 10<|
 Qa 79 9 12<|
 q 80 (.call F.point_Add [(.t 78),(.t 79)])<|
 Qm 77 80<|
 Qe 81 77 0<|
 Qe 82 77 1<|
 q 13 (.alloc [.int .u64 0,.int .u64 0,.int .u64 0,.int .u64 0,.int .u64 0,.int .u64 0,.int .u64 0,.int .u64 0,.bool false])<|
 Qs 9 13 81<|
 Qm 8 82<|
 .keep [5,7,8,13]<|
 Qm 83 8<|
 q 84 (.eq false .i (.t 83) (.c (.nilIface)))<|
 Qm 85 84<|
 Gf 86 85 true 8 13<|
 Gl 87 85 true 1 86<|
 qg 88 85 true (.un .not (.t 87))<|
 Qk 89 85 88<|
 Qm 90 89<|
 Gm 91 90 true 7<|
 Gf 92 90 true 0 13<|
 Ga 93 90 true 4 92<|
 qg 94 90 true (.build (List.replicate 4 (.int .u64 0)) [])<|
 qg 95 90 true (.call F.field_Field_Add [(.t 91),(.t 93),(.t 94)])<|
 Gf 96 90 true 0 5<|
 Ga 97 90 true 4 96<|
 qg 98 90 true (.eqagg (List.replicate 4 (some .u64)) false (.t 95) (.t 97))<|
 Qk 99 90 98<|
 Qm 6 99<|
 .keep [6]<|
 .ret
theorem Cp:EF false F.sign_Verify O3 [.t 6]:=ef [] Tryz.func97 (by kernel_rfl) (by kernel_rfl) (by kernel_rfl)
def M2 : IC :=
 q 2 (.alloc (List.replicate 8 (.int .u64 0)))<|
 q 3 (.mv (.c (.nilIface)))<|
 .keep [0,2]<|
 Qm 8 0<|
 Qw 9 8<|
 q 10 (.bin .neq (.t 9) (ci 64))<|
 .keep [0,2,10]<|
 .ite (.t 10)
 (q 11 (.build (List.replicate 8 (.int .u64 0)) [])<|
 q 12 (.mkif T.api_Code (ci 2))<|
 Qs 8 2 11<|
 Qm 3 12<|
 .keep [2,3]<|
 .ret)
 (.done)<|
 Qm 14 0<|
 q 15 (.slice 1 none (.t 14) none (some (ci 32)) none)<|
 q 16 (.call F.limb_Of [(.t 15)])<|
 Qm 13 16<|
 Qe 17 13 0<|
 Qe 18 13 1<|
 q 4 (.alloc (List.replicate 4 (.int .u64 0)))<|
 Qs 4 4 17<|
 Qm 5 18<|
 .keep [0,2,4]<|
 Qm 20 0<|
 q 21 (.slice 1 none (.t 20) (some (ci 32)) none none)<|
 q 22 (.call F.limb_Of [(.t 21)])<|
 Qm 19 22<|
 Qe 23 19 0<|
 Qe 24 19 1<|
 q 6 (.alloc (List.replicate 4 (.int .u64 0)))<|
 Qs 4 6 23<|
 Qm 7 24<|
 .keep [2,4,6]<|
 Qa 25 4 4<|
 Qa 26 4 6<|
 q 27 (.build (List.replicate 8 (.int .u64 0)) [(0,4,(.t 25)),(4,4,(.t 26))])<|
 Qs 8 2 27<|
 q 3 (.mv (.c (.nilIface)))<|
 .keep [2,3]<|
 .ret
theorem A1:EF false F.sign_Parse M2 [.c 2 true 8,.t 3]:=ef [] Tryz.func142 (by kernel_rfl) (by kernel_rfl) (by kernel_rfl)
def O2 : IC :=
 Qb 1 0<|
 q 2 (.alloc (List.replicate 4 (.int .u64 0)))<|
 .keep [1,2]<|
 q 6 (.slice 1 (some 32) (.t 1) none none none)<|
 q 7 (.call F.limb_Of [(.t 6)])<|
 Qm 5 7<|
 Qe 8 5 0<|
 Qe 9 5 1<|
 q 3 (.alloc (List.replicate 4 (.int .u64 0)))<|
 Qs 4 3 8<|
 Qm 4 9<|
 .keep [2,3]<|
 Qa 10 4 3<|
 Qs 4 2 10<|
 .keep [2]<|
 .ret
theorem Co:EF false F.sign_number O2 [.c 2 true 4]:=ef [] Tryz.func190 (by kernel_rfl) (by kernel_rfl) (by kernel_rfl)
def Jm : IC :=
 Qb 2 0<|
 Qb 3 1<|
 q 4 (.alloc (List.replicate 8 (.int .u64 0)))<|
 q 5 (.mv (.c (.nilIface)))<|
 .keep [2,3,4]<|
 q 14 (.call F.point_N [])<|
 q 15 (.call F.field_New [(.t 14)])<|
 Qm 13 15<|
 Qe 16 13 0<|
 Qe 17 13 1<|
 Qm 6 16<|
 Qm 7 17<|
 .keep [2,3,4,6,7]<|
 Qm 18 7<|
 q 19 (.eq true .i (.t 18) (.c (.nilIface)))<|
 Qm 20 19<|
 Ga 21 20 false 4 2<|
 qg 22 20 false (.call F.sign_may [(.t 21)])<|
 qg 23 20 false (.un .not (.t 22))<|
 Qo 24 20 23<|
 .keep [2,3,4,6,24]<|
 .ite (.t 24)
 (q 25 (.build (List.replicate 8 (.int .u64 0)) [])<|
 q 26 (.mkif T.api_Code (ci 1))<|
 Qs 8 4 25<|
 Qm 5 26<|
 .keep [4,5]<|
 .ret)
 (.done)<|
 Qa 28 4 2<|
 Qa 29 32 3<|
 q 30 (.call F.nonce_List [(.t 28),(.t 29),(ci 16)])<|
 Qm 27 30<|
 Qe 31 27 0<|
 Qe 32 27 1<|
 Qm 8 31<|
 Qm 7 32<|
 .keep [2,3,4,6,7,8]<|
 Qm 33 7<|
 q 34 (.eq true .i (.t 33) (.c (.nilIface)))<|
 .keep [2,3,4,6,7,8,34]<|
 .ite (.t 34)
 (q 35 (.build (List.replicate 8 (.int .u64 0)) [])<|
 Qm 36 7<|
 Qs 8 4 35<|
 Qm 5 36<|
 .keep [4,5]<|
 .ret)
 (.done)<|
 Qm 37 8<|
 Qw 38 37<|
 q 39 (.mv (ci 0))<|
 .keep [2,3,4,6,37,38,39]<|
 .block 0
 (.keep [2,3,4,6,37,38,39]<|
 .loop
 (q 40 (.bin .lss (.t 39) (.t 38))<|
 .keep [2,3,4,6,37,38,39,40]<|
 .ite (.t 40)
 (.done)
 (.exit 0)<|
 .block 1
 (q 41 (.idxa 4 none (.t 37) (.t 39))<|
 Qa 42 4 41<|
 q 10 (.alloc (List.replicate 4 (.int .u64 0)))<|
 Qs 4 10 42<|
 .keep [2,3,4,6,10,37,38,39]<|
 .reg 1
 [xe 44 (.mv (.t 6)) [],
 xe 45 (.load true 4 (.t 2)) [],
 xe 46 (.load true 4 (.t 10)) [],
 xe 47 (.load true 32 (.t 3)) [],
 xe 48 (.call F.sign_number [(.t 47)]) [],
 xe 49 (.call F.sign_with [(.t 44),(.t 45),(.t 46),(.t 48)]) [],
 xe 43 (.mv (.t 49)) [],
 xe 50 (.ext (.t 43) 0) [],
 xe 51 (.ext (.t 43) 1) [],
 xa 0 11 (.alloc (List.replicate 8 (.int .u64 0))),
 xln (.store 8 (.t 11) (.t 50)) [],
 xl 12 (.mv (.t 51)) []]<|
 .keep [2,3,4,6,11,12,37,38,39]<|
 Qm 52 12<|
 .keep [2,3,4,6,11,37,38,39,52]<|
 .ite (.t 52)
 (Qa 53 8 11<|
 Qs 8 4 53<|
 q 5 (.mv (.c (.nilIface)))<|
 .keep [4,5]<|
 .ret)
 (.done)<|
 .done)<|
 q 54 (.bin .add (.t 39) (ci 1))<|
 Qm 39 54<|
 .keep [2,3,4,6,37,38,39]<|
 .keep [2,3,4,6,37,38,39]<|
 .done))<|
 q 55 (.build (List.replicate 8 (.int .u64 0)) [])<|
 q 56 (.mkif T.api_Code (ci 4))<|
 Qs 8 4 55<|
 Qm 5 56<|
 .keep [4,5]<|
 .ret
theorem Zcx:EF false F.sign_Sign Jm [.c 4 true 8,.t 5]:=ef [] Tryz.func255 (by kernel_rfl) (by kernel_rfl) (by kernel_rfl)
def M3 : IC :=
 Qb 1 0<|
 q 2 (.mv (.c (.slice none 0 0)))<|
 .keep [1]<|
 .reg 0
 [xe 3 (.fld 0 (.t 1)) [],
 xe 4 (.load true 4 (.t 3)) [],
 xm 5 (.call F.limb_Bytes [(.t 4)]) [],
 xe 6 (.fld 4 (.t 1)) [],
 xe 7 (.load true 4 (.t 6)) [],
 xl 8 (.call F.limb_Bytes [(.t 7)]) [],
 xl 9 (.append 1 1 (.t 5) (.t 8)) [],
 xl 2 (.mv (.t 9)) []]<|
 .keep [2]<|
 .ret
theorem A2:EF false F.sign_Bytes M3 [.t 2]:=ef [] Tryz.func256 (by kernel_rfl) (by kernel_rfl) (by kernel_rfl)
def M9 : IC :=
 Qb 3 0<|
 Qb 4 1<|
 q 6 (.mv (.c (.slice none 0 0)))<|
 q 7 (.mv (.c (.nilIface)))<|
 .keep [2,3,4]<|
 q 16 (.call F.point_N [])<|
 q 17 (.call F.field_New [(.t 16)])<|
 Qm 15 17<|
 Qe 18 15 0<|
 Qe 19 15 1<|
 Qm 8 18<|
 Qm 9 19<|
 .keep [2,3,4,8,9]<|
 Qm 20 9<|
 q 21 (.eq true .i (.t 20) (.c (.nilIface)))<|
 Qm 22 21<|
 Ga 23 22 false 4 3<|
 qg 24 22 false (.call F.nonce_may [(.t 23)])<|
 qg 25 22 false (.un .not (.t 24))<|
 Qo 26 22 25<|
 Qm 27 26<|
 Gm 28 27 false 2<|
 qg 29 27 false (.bin .lss (.t 28) (ci 0))<|
 Qo 30 27 29<|
 Qm 31 30<|
 Gm 32 31 false 2<|
 qg 33 31 false (.bin .gtr (.t 32) (ci 16))<|
 Qo 34 31 33<|
 .keep [2,3,4,8,34]<|
 .ite (.t 34)
 (q 35 (.mkif T.api_Code (ci 1))<|
 q 6 (.mv (.c (.slice none 0 0)))<|
 Qm 7 35<|
 .keep [6,7]<|
 .ret)
 (.done)<|
 q 37 (.slice 1 (some 32) (.t 4) none none none)<|
 q 38 (.call F.limb_Of [(.t 37)])<|
 Qm 36 38<|
 Qe 39 36 0<|
 Qe 40 36 1<|
 q 10 (.alloc (List.replicate 4 (.int .u64 0)))<|
 Qs 4 10 39<|
 Qm 11 40<|
 .keep [2,3,8,10]<|
 Qa 41 4 3<|
 Qm 42 8<|
 Qa 43 4 10<|
 q 44 (.build (List.replicate 4 (.int .u64 0)) [])<|
 q 45 (.call F.field_Field_Add [(.t 42),(.t 43),(.t 44)])<|
 q 46 (.call F.nonce_begin [(.t 41),(.t 45)])<|
 Qm 12 46<|
 .keep [2,12]<|
 q 13 (.mv (.c (.slice none 0 0)))<|
 .keep [2,12,13]<|
 q 47 (.mv (ci 0))<|
 .keep [2,12,13,47]<|
 .block 0
 (.keep [2,12,13,47]<|
 .loop
 (q 48 (.bin .lss (.t 47) (ci 100))<|
 .keep [2,12,13,47,48]<|
 .ite (.t 48)
 (.done)
 (.exit 0)<|
 .block 1
 (Qm 49 13<|
 Qw 50 49<|
 Qm 51 2<|
 q 52 (.bin .eql (.t 50) (.t 51))<|
 .keep [2,12,13,47,52]<|
 .ite (.t 52)
 (.exit 0)
 (.done)<|
 Qm 53 12<|
 q 54 (.call F.nonce_source_next [(.t 53)])<|
 q 14 (.alloc (List.replicate 4 (.int .u64 0)))<|
 Qs 4 14 54<|
 .keep [2,12,13,14,47]<|
 Qa 55 4 14<|
 q 56 (.call F.nonce_may [(.t 55)])<|
 .keep [2,12,13,14,47,56]<|
 .ite (.t 56)
 (Qm 57 13<|
 Qa 58 4 14<|
 q 59 (.bslice false 4 1 (List.replicate 4 (.int .u64 0)) [(0,4,(.t 58))])<|
 q 60 (.append 4 32 (.t 57) (.t 59))<|
 Qm 13 60<|
 .keep [2,12,13,47]<|
 .done)
 (.done)<|
 .done)<|
 q 61 (.bin .add (.t 47) (ci 1))<|
 Qm 47 61<|
 .keep [2,12,13,47]<|
 .keep [2,12,13,47]<|
 .done))<|
 Qm 62 13<|
 Qw 63 62<|
 Qm 64 2<|
 q 65 (.bin .lss (.t 63) (.t 64))<|
 .keep [13,65]<|
 .ite (.t 65)
 (q 66 (.mkif T.api_Code (ci 4))<|
 q 6 (.mv (.c (.slice none 0 0)))<|
 Qm 7 66<|
 .keep [6,7]<|
 .ret)
 (.done)<|
 Qm 67 13<|
 Qm 6 67<|
 q 7 (.mv (.c (.nilIface)))<|
 .keep [6,7]<|
 .ret
theorem A8:EF false F.nonce_List M9 [.t 6,.t 7]:=ef [] Tryz.func308 (by kernel_rfl) (by kernel_rfl) (by kernel_rfl)
def Jl : IC :=
 Qb 5 1<|
 Qb 6 2<|
 Qb 7 3<|
 q 8 (.alloc (List.replicate 8 (.int .u64 0)))<|
 q 9 (.mv (cb false))<|
 .keep [0,5,6,7,8]<|
 .reg 1
 [xe 16 (.load true 4 (.t 6)) [],
 xe 17 (.call F.point_Base []) [],
 xe 18 (.call F.point_Mul [(.t 16),(.t 17)]) [],
 xe 15 (.mv (.t 18)) [],
 xe 19 (.ext (.t 15) 0) [],
 xe 20 (.ext (.t 15) 1) [],
 xa 0 10 (.alloc [.int .u64 0,.int .u64 0,.int .u64 0,.int .u64 0,.int .u64 0,.int .u64 0,.int .u64 0,.int .u64 0,.bool false]),
 xln (.store 9 (.t 10) (.t 19)) [],
 xl 11 (.mv (.t 20)) []]<|
 .keep [0,5,6,7,8,10,11]<|
 Qm 21 11<|
 q 22 (.eq true .i (.t 21) (.c (.nilIface)))<|
 .keep [0,5,6,7,8,10,22]<|
 .ite (.t 22)
 (q 23 (.build (List.replicate 8 (.int .u64 0)) [])<|
 Qs 8 8 23<|
 q 9 (.mv (cb false))<|
 .keep [8,9]<|
 .ret)
 (.done)<|
 Qm 24 0<|
 Qf 25 0 10<|
 Qa 26 4 25<|
 q 27 (.build (List.replicate 4 (.int .u64 0)) [])<|
 q 28 (.call F.field_Field_Add [(.t 24),(.t 26),(.t 27)])<|
 q 12 (.alloc (List.replicate 4 (.int .u64 0)))<|
 Qs 4 12 28<|
 .keep [0,5,6,7,8,12]<|
 Qm 30 0<|
 Qa 31 4 6<|
 q 32 (.call F.field_Field_Inv [(.t 30),(.t 31)])<|
 Qm 29 32<|
 Qe 33 29 0<|
 Qe 34 29 1<|
 q 13 (.alloc (List.replicate 4 (.int .u64 0)))<|
 Qs 4 13 33<|
 Qm 11 34<|
 .keep [0,5,7,8,11,12,13]<|
 .reg 1
 [xe 35 (.mv (.t 0)) [],
 xe 36 (.load true 4 (.t 13)) [],
 xe 37 (.mv (.t 0)) [],
 xe 38 (.load true 4 (.t 7)) [],
 xe 39 (.mv (.t 0)) [],
 xe 40 (.load true 4 (.t 12)) [],
 xe 41 (.load true 4 (.t 5)) [],
 xe 42 (.call F.field_Field_Mul [(.t 39),(.t 40),(.t 41)]) [],
 xe 43 (.call F.field_Field_Add [(.t 37),(.t 38),(.t 42)]) [],
 xe 44 (.call F.field_Field_Mul [(.t 35),(.t 36),(.t 43)]) [],
 xa 0 14 (.alloc (List.replicate 4 (.int .u64 0))),
 xln (.store 4 (.t 14) (.t 44)) []]<|
 .keep [8,11,12,14]<|
 Qa 45 4 12<|
 Qa 46 4 14<|
 q 47 (.build (List.replicate 8 (.int .u64 0)) [(0,4,(.t 45)),(4,4,(.t 46))])<|
 Qm 48 11<|
 q 49 (.eq false .i (.t 48) (.c (.nilIface)))<|
 Qm 50 49<|
 Ga 51 50 true 4 12<|
 qg 52 50 true (.call F.sign_may [(.t 51)])<|
 Qk 53 50 52<|
 Qm 54 53<|
 Ga 55 54 true 4 14<|
 qg 56 54 true (.call F.sign_may [(.t 55)])<|
 Qk 57 54 56<|
 Qs 8 8 47<|
 Qm 9 57<|
 .keep [8,9]<|
 .ret
theorem Zcw:EF false F.sign_with Jl [.c 8 true 8,.t 9]:=ef [] Tryz.func309 (by kernel_rfl) (by kernel_rfl) (by kernel_rfl)
def Jr : IC :=
 Qb 1 0<|
 q 2 (.mv (cb false))<|
 .keep [1]<|
 Qa 3 4 1<|
 q 4 (.build (List.replicate 4 (.int .u64 0)) [])<|
 q 5 (.eqagg (List.replicate 4 (some .u64)) true (.t 3) (.t 4))<|
 Qm 6 5<|
 Ga 7 6 true 4 1<|
 qg 8 6 true (.call F.point_N [])<|
 qg 9 6 true (.call F.limb_Cmp [(.t 7),(.t 8)])<|
 qg 10 6 true (.bin .lss (.t 9) (ci 0))<|
 Qk 11 6 10<|
 Qm 2 11<|
 .keep [2]<|
 .ret
theorem Zc2:EF false F.nonce_may Jr [.t 2]:=ef [] Tryz.func335 (by kernel_rfl) (by kernel_rfl) (by kernel_rfl)
def Na : IC :=
 Qb 2 0<|
 Qb 3 1<|
 q 4 (.mv (.c (.pointer none)))<|
 .keep [2,3]<|
 .reg 3
 [xa 0 9 (.mksl 1 1 [.int .u8 0] (ci 32) (ci 32)),
 xa 1 10 (.mksl 1 1 [.int .u8 0] (ci 32) (ci 32)),
 xl 11 (.build [.slice none 0 0,.slice none 0 0] [(0,1,(.t 9)),(1,1,(.t 10))]) [],
 xa 2 12 (.box (.t 11)),
 xl 5 (.mv (.t 12)) []]<|
 .keep [2,3,5]<|
 Qm 13 5<|
 q 14 (.nilchk (.t 13))<|
 Qf 15 1 14<|
 Ql 16 1 15<|
 Qw 17 16<|
 q 18 (.mv (ci 0))<|
 .keep [2,3,5,17,18]<|
 .block 0
 (.keep [2,3,5,17,18]<|
 .loop
 (q 19 (.bin .lss (.t 18) (.t 17))<|
 .keep [2,3,5,17,18,19]<|
 .ite (.t 19)
 (.done)
 (.exit 0)<|
 .block 1
 (Qm 20 18<|
 Qm 6 20<|
 .keep [2,3,5,6,17,18]<|
 Qm 21 5<|
 q 22 (.nilchk (.t 21))<|
 Qf 23 1 22<|
 Ql 24 1 23<|
 Qm 25 6<|
 q 26 (.idxa 1 none (.t 24) (.t 25))<|
 qn (.store 1 (.t 26) (.c (.int .u8 1)))<|
 .keep [2,3,5,17,18]<|
 .done)<|
 q 27 (.bin .add (.t 18) (ci 1))<|
 Qm 18 27<|
 .keep [2,3,5,17,18]<|
 .keep [2,3,5,17,18]<|
 .done))<|
 q 28 (.bslice false 1 2 [.int .u8 0] [(0,1,(.c (.int .u8 0))),(1,1,(.c (.int .u8 1)))])<|
 Qw 29 28<|
 q 30 (.mv (ci 0))<|
 .keep [2,3,5,28,29,30]<|
 .block 2
 (.keep [2,3,5,28,29,30]<|
 .loop
 (q 31 (.bin .lss (.t 30) (.t 29))<|
 .keep [2,3,5,28,29,30,31]<|
 .ite (.t 31)
 (.done)
 (.exit 2)<|
 .block 3
 (q 32 (.idxa 1 none (.t 28) (.t 30))<|
 Ql 33 1 32<|
 Qm 8 33<|
 .keep [2,3,5,8,28,29,30]<|
 .reg 0
 [xe 34 (.mv (.t 5)) [],
 xe 35 (.mv (.t 8)) [],
 xe 36 (.bslice false 1 1 [.int .u8 0] [(0,1,(.t 35))]) [],
 xe 37 (.load true 4 (.t 2)) [],
 xm 38 (.call F.limb_Bytes [(.t 37)]) [],
 xe 39 (.load true 4 (.t 3)) [],
 xl 40 (.call F.limb_Bytes [(.t 39)]) [],
 xl 41 (.bslice false 1 3 [.slice none 0 0] [(0,1,(.t 36)),(1,1,(.t 38)),(2,1,(.t 40))]) [],
 xl 42 (.call F.nonce_source_mix [(.t 34),(.t 41)]) []]<|
 .keep [2,3,5,28,29,30]<|
 .done)<|
 q 43 (.bin .add (.t 30) (ci 1))<|
 Qm 30 43<|
 .keep [2,3,5,28,29,30]<|
 .keep [2,3,5,28,29,30]<|
 .done))<|
 Qm 44 5<|
 Qm 4 44<|
 .keep [4]<|
 .ret
theorem Cw:EF false F.nonce_begin Na [.t 4]:=ef [] Tryz.func336 (by kernel_rfl) (by kernel_rfl) (by kernel_rfl)
def Uv : IC :=
 q 2 (.alloc (List.replicate 4 (.int .u64 0)))<|
 .keep [0,2]<|
 Qm 5 0<|
 Qm 6 0<|
 q 7 (.call F.nonce_source_code [(.t 6),(.c (.slice none 0 0))])<|
 q 8 (.nilchk (.t 5))<|
 Qf 9 1 8<|
 Qs 1 9 7<|
 .keep [0,2]<|
 Qm 11 0<|
 q 12 (.nilchk (.t 11))<|
 Qf 13 1 12<|
 Ql 14 1 13<|
 q 15 (.call F.limb_Of [(.t 14)])<|
 Qm 10 15<|
 Qe 16 10 0<|
 Qe 17 10 1<|
 q 3 (.alloc (List.replicate 4 (.int .u64 0)))<|
 Qs 4 3 16<|
 Qm 4 17<|
 .keep [0,2,3]<|
 Qm 18 0<|
 q 19 (.bslice false 1 1 [.int .u8 0] [(0,1,(.c (.int .u8 0)))])<|
 q 20 (.bslice false 1 1 [.slice none 0 0] [(0,1,(.t 19))])<|
 q 21 (.call F.nonce_source_mix [(.t 18),(.t 20)])<|
 .keep [2,3]<|
 Qa 22 4 3<|
 Qs 4 2 22<|
 .keep [2]<|
 .ret
theorem Nr:EF false F.nonce_source_next Uv [.c 2 true 4]:=ef [] Tryz.func337 (by kernel_rfl) (by kernel_rfl) (by kernel_rfl)
def Tl : IC :=
 Qm 4 0<|
 Qm 5 0<|
 Qm 6 1<|
 q 7 (.call F.nonce_source_code [(.t 5),(.t 6)])<|
 q 8 (.nilchk (.t 4))<|
 Qf 9 0 8<|
 Qs 1 9 7<|
 .keep [0]<|
 Qm 10 0<|
 Qm 11 0<|
 q 12 (.call F.nonce_source_code [(.t 11),(.c (.slice none 0 0))])<|
 q 13 (.nilchk (.t 10))<|
 Qf 14 1 13<|
 Qs 1 14 12<|
 .keep []<|
 .ret
theorem Lo:EF false F.nonce_source_mix Tl []:=ef [] Tryz.func349 (by kernel_rfl) (by kernel_rfl) (by kernel_rfl)
def Uw : IC :=
 q 4 (.mv (.c (.slice none 0 0)))<|
 .keep [0,1]<|
 .reg 1
 [xe 6 (.mv (.t 0)) [],
 xe 7 (.nilchk (.t 6)) [],
 xe 8 (.fld 0 (.t 7)) [],
 xe 9 (.load false 1 (.t 8)) [],
 xe 10 (.mv (.t 0)) [],
 xe 11 (.nilchk (.t 10)) [],
 xe 12 (.fld 1 (.t 11)) [],
 xe 13 (.load false 1 (.t 12)) [],
 xe 14 (.bslice false 1 1 [.slice none 0 0] [(0,1,(.t 13))]) [],
 xe 15 (.mv (.t 1)) [],
 xe 16 (.appv 1 24 (.t 14) (.t 15)) [],
 xe 17 (.call F.mac_Of [(.t 9),(.t 16)]) [],
 xa 0 5 (.alloc (List.replicate 32 (.int .u8 0))),
 xln (.store 32 (.t 5) (.t 17)) []]<|
 .keep [5]<|
 q 18 (.slice 1 (some 32) (.t 5) none none none)<|
 Qm 4 18<|
 .keep [4]<|
 .ret
theorem Ns:EF false F.nonce_source_code Uw [.t 4]:=ef [16] Tryz.func350 (by kernel_rfl) (by kernel_rfl) (by kernel_rfl)
def M0 : IC :=
 q 2 (.mv (.c (.slice none 0 0)))<|
 .keep [0]<|
 q 5 (.mksl 1 1 [.int .u8 0] (ci 8) (ci 8))<|
 Qm 3 5<|
 .keep [0,3]<|
 Qm 6 3<|
 Qw 7 6<|
 q 8 (.mv (ci 0))<|
 .keep [0,3,7,8]<|
 .block 0
 (.keep [0,3,7,8]<|
 .loop
 (q 9 (.bin .lss (.t 8) (.t 7))<|
 .keep [0,3,7,8,9]<|
 .ite (.t 9)
 (.done)
 (.exit 0)<|
 .block 1
 (Qm 10 8<|
 Qm 4 10<|
 .keep [0,3,4,7,8]<|
 Qm 11 3<|
 Qm 12 4<|
 Qm 13 0<|
 q 14 (.conv .u64 (.t 13))<|
 Qm 15 4<|
 q 16 (.bin .sub (ci 7) (.t 15))<|
 q 17 (.bin .mul (ci 8) (.t 16))<|
 q 18 (.bin .shr (.t 14) (.t 17))<|
 q 19 (.conv .u8 (.t 18))<|
 q 20 (.idxa 1 none (.t 11) (.t 12))<|
 Qs 1 20 19<|
 .keep [0,3,7,8]<|
 .done)<|
 q 21 (.bin .add (.t 8) (ci 1))<|
 Qm 8 21<|
 .keep [0,3,7,8]<|
 .keep [0,3,7,8]<|
 .done))<|
 Qm 22 3<|
 Qm 2 22<|
 .keep [2]<|
 .ret
theorem Az:EF false F.tlv_Number M0 [.t 2]:=ef [] Tryz.func114 (by kernel_rfl) (by kernel_rfl) (by kernel_rfl)
def Xt : IC :=
 q 2 (.mv (.c (.slice none 0 0)))<|
 .keep [0]<|
 Qm 3 0<|
 q 4 (.isnil false (.t 3))<|
 .keep [0,4]<|
 .ite (.t 4)
 (q 2 (.mv (.c (.slice none 0 0)))<|
 .keep [2]<|
 .ret)
 (.done)<|
 q 5 (.bslice false 1 0 [.int .u8 0] [])<|
 Qm 6 0<|
 q 7 (.append 1 1 (.t 5) (.t 6))<|
 Qm 2 7<|
 .keep [2]<|
 .ret
theorem Vf:EF false F.slices_Clone_byte_byte Xt [.t 2]:=ef [] Tryz.func126 (by kernel_rfl) (by kernel_rfl) (by kernel_rfl)
def Eo : IC :=
 q 2 (.mv (.c (.slice none 0 0)))<|
 q 3 (.mv (.c (.nilIface)))<|
 .keep [0]<|
 q 4 (.mv (.c (.slice none 0 0)))<|
 .keep [0,4]<|
 .block 0
 (.keep [0,4]<|
 .loop
 (Qm 6 0<|
 Qw 7 6<|
 q 8 (.bin .geq (.t 7) (ci 3))<|
 .keep [0,4,8]<|
 .ite (.t 8)
 (.done)
 (.exit 0)<|
 .block 1
 (Qm 9 0<|
 q 10 (.idxa 1 none (.t 9) (ci 1))<|
 Ql 11 1 10<|
 q 12 (.conv .i64 (.t 11))<|
 q 13 (.bin .shl (.t 12) (.c (.int .u64 8)))<|
 q 14 (.bin .add (ci 3) (.t 13))<|
 Qm 15 0<|
 q 16 (.idxa 1 none (.t 15) (ci 2))<|
 Ql 17 1 16<|
 q 18 (.conv .i64 (.t 17))<|
 q 19 (.bin .add (.t 14) (.t 18))<|
 Qm 5 19<|
 .keep [0,4,5]<|
 Qm 20 4<|
 Qw 21 20<|
 q 22 (.bin .eql (.t 21) (ci 64))<|
 Qm 23 22<|
 Gm 24 23 false 5<|
 Gm 25 23 false 0<|
 qg 26 23 false (.len false (.t 25))<|
 qg 27 23 false (.bin .gtr (.t 24) (.t 26))<|
 Qo 28 23 27<|
 .keep [0,4,5,28]<|
 .ite (.t 28)
 (q 29 (.mkif T.api_Code (ci 2))<|
 q 2 (.mv (.c (.slice none 0 0)))<|
 Qm 3 29<|
 .keep [2,3]<|
 .ret)
 (.done)<|
 Qm 30 4<|
 Qm 31 0<|
 q 32 (.idxa 1 none (.t 31) (ci 0))<|
 Ql 33 1 32<|
 q 34 (.conv .i64 (.t 33))<|
 Qm 35 0<|
 Qm 36 5<|
 q 37 (.slice 1 none (.t 35) (some (ci 3)) (some (.t 36)) none)<|
 q 38 (.call F.slices_Clone_byte_byte [(.t 37)])<|
 q 39 (.build [.int .i64 0,.slice none 0 0] [(0,1,(.t 34)),(1,1,(.t 38))])<|
 q 40 (.bslice false 2 1 [.int .i64 0,.slice none 0 0] [(0,2,(.t 39))])<|
 q 41 (.append 2 32 (.t 30) (.t 40))<|
 Qm 4 41<|
 .keep [0,4,5]<|
 Qm 42 0<|
 Qm 43 5<|
 q 44 (.slice 1 none (.t 42) (some (.t 43)) none none)<|
 Qm 0 44<|
 .keep [0,4]<|
 .done)<|
 .keep [0,4]<|
 .done))<|
 Qm 45 0<|
 Qw 46 45<|
 q 47 (.bin .gtr (.t 46) (ci 0))<|
 Qm 48 47<|
 Gm 49 48 false 4<|
 qg 50 48 false (.call F.tlv_May [(.t 49)])<|
 qg 51 48 false (.un .not (.t 50))<|
 Qo 52 48 51<|
 .keep [4,52]<|
 .ite (.t 52)
 (q 53 (.mkif T.api_Code (ci 2))<|
 q 2 (.mv (.c (.slice none 0 0)))<|
 Qm 3 53<|
 .keep [2,3]<|
 .ret)
 (.done)<|
 Qm 54 4<|
 Qm 2 54<|
 q 3 (.mv (.c (.nilIface)))<|
 .keep [2,3]<|
 .ret
theorem Znq:EF false F.tlv_Get Eo [.t 2,.t 3]:=ef [] Tryz.func202 (by kernel_rfl) (by kernel_rfl) (by kernel_rfl)
def Al : IC :=
 q 2 (.mv (ci 0))<|
 q 3 (.mv (.c (.nilIface)))<|
 .keep [0]<|
 Qm 7 0<|
 Qw 8 7<|
 q 9 (.bin .neq (.t 8) (ci 8))<|
 .keep [0,9]<|
 .ite (.t 9)
 (q 10 (.mkif T.api_Code (ci 2))<|
 q 2 (.mv (ci 0))<|
 Qm 3 10<|
 .keep [2,3]<|
 .ret)
 (.done)<|
 q 4 (.mv (.c (.int .u64 0)))<|
 .keep [0,4]<|
 Qm 11 0<|
 Qw 12 11<|
 q 13 (.mv (ci 0))<|
 .keep [4,11,12,13]<|
 .block 0
 (.keep [4,11,12,13]<|
 .loop
 (q 14 (.bin .lss (.t 13) (.t 12))<|
 .keep [4,11,12,13,14]<|
 .ite (.t 14)
 (.done)
 (.exit 0)<|
 .block 1
 (q 15 (.idxa 1 none (.t 11) (.t 13))<|
 Ql 16 1 15<|
 Qm 6 16<|
 .keep [4,6,11,12,13]<|
 Qm 17 4<|
 q 18 (.bin .shl (.t 17) (.c (.int .u64 8)))<|
 Qm 19 6<|
 q 20 (.conv .u64 (.t 19))<|
 q 21 (.bin .or (.t 18) (.t 20))<|
 Qm 4 21<|
 .keep [4,11,12,13]<|
 .done)<|
 q 22 (.bin .add (.t 13) (ci 1))<|
 Qm 13 22<|
 .keep [4,11,12,13]<|
 .keep [4,11,12,13]<|
 .done))<|
 Qm 23 4<|
 q 24 (.bin .gtr (.t 23) (.c (.int .u64 9223372036854775807)))<|
 .keep [4,24]<|
 .ite (.t 24)
 (q 25 (.mkif T.api_Code (ci 2))<|
 q 2 (.mv (ci 0))<|
 Qm 3 25<|
 .keep [2,3]<|
 .ret)
 (.done)<|
 Qm 26 4<|
 q 27 (.conv .i64 (.t 26))<|
 Qm 2 27<|
 q 3 (.mv (.c (.nilIface)))<|
 .keep [2,3]<|
 .ret
theorem Zr4:EF false F.tlv_Of Al [.t 2,.t 3]:=ef [] Tryz.func203 (by kernel_rfl) (by kernel_rfl) (by kernel_rfl)
def Em : IC :=
 q 2 (.mv (.c (.slice none 0 0)))<|
 q 3 (.mv (.c (.nilIface)))<|
 .keep [0]<|
 Qm 8 0<|
 q 9 (.call F.tlv_May [(.t 8)])<|
 q 10 (.un .not (.t 9))<|
 .keep [0,10]<|
 .ite (.t 10)
 (q 11 (.mkif T.api_Code (ci 1))<|
 q 2 (.mv (.c (.slice none 0 0)))<|
 Qm 3 11<|
 .keep [2,3]<|
 .ret)
 (.done)<|
 q 4 (.mv (.c (.slice none 0 0)))<|
 .keep [0,4]<|
 Qm 12 0<|
 Qw 13 12<|
 q 14 (.mv (ci 0))<|
 .keep [4,12,13,14]<|
 .block 0
 (.keep [4,12,13,14]<|
 .loop
 (q 15 (.bin .lss (.t 14) (.t 13))<|
 .keep [4,12,13,14,15]<|
 .ite (.t 15)
 (.done)
 (.exit 0)<|
 .block 1
 (q 16 (.idxa 2 none (.t 12) (.t 14))<|
 Qa 17 2 16<|
 q 6 (.alloc [.int .i64 0,.slice none 0 0])<|
 Qs 2 6 17<|
 .keep [4,6,12,13,14]<|
 Qf 18 1 6<|
 Ql 19 1 18<|
 Qw 20 19<|
 Qm 7 20<|
 .keep [4,6,7,12,13,14]<|
 .reg 0
 [xe 21 (.mv (.t 4)) [],
 xe 22 (.fld 0 (.t 6)) [],
 xe 23 (.load false 1 (.t 22)) [],
 xe 24 (.conv .u8 (.t 23)) [],
 xe 25 (.mv (.t 7)) [],
 xe 26 (.bin .shr (.t 25) (.c (.int .u64 8))) [],
 xe 27 (.conv .u8 (.t 26)) [],
 xe 28 (.mv (.t 7)) [],
 xe 29 (.conv .u8 (.t 28)) [],
 xe 30 (.bslice false 1 3 [.int .u8 0] [(0,1,(.t 24)),(1,1,(.t 27)),(2,1,(.t 29))]) [],
 xw 31 (.append 1 1 (.t 21) (.t 30)) [],
 xe 32 (.fld 1 (.t 6)) [],
 xe 33 (.load false 1 (.t 32)) [(.t 21)],
 xl 34 (.append 1 1 (.t 31) (.t 33)) [],
 xl 4 (.mv (.t 34)) []]<|
 .keep [4,12,13,14]<|
 .done)<|
 q 35 (.bin .add (.t 14) (ci 1))<|
 Qm 14 35<|
 .keep [4,12,13,14]<|
 .keep [4,12,13,14]<|
 .done))<|
 Qm 36 4<|
 Qm 2 36<|
 q 3 (.mv (.c (.nilIface)))<|
 .keep [2,3]<|
 .ret
theorem Zno:EF false F.tlv_Put Em [.t 2,.t 3]:=ef [] Tryz.func211 (by kernel_rfl) (by kernel_rfl) (by kernel_rfl)
def En : IC :=
 q 2 (.mv (cb false))<|
 .keep [0]<|
 q 3 (.mv (ci 0))<|
 .keep [0,3]<|
 Qm 6 0<|
 Qw 7 6<|
 q 8 (.mv (ci 0))<|
 .keep [0,3,6,7,8]<|
 .block 0
 (.keep [0,3,6,7,8]<|
 .loop
 (q 9 (.bin .lss (.t 8) (.t 7))<|
 .keep [0,3,6,7,8,9]<|
 .ite (.t 9)
 (.done)
 (.exit 0)<|
 .block 1
 (q 10 (.idxa 2 none (.t 6) (.t 8))<|
 Qa 11 2 10<|
 q 5 (.alloc [.int .i64 0,.slice none 0 0])<|
 Qs 2 5 11<|
 .keep [0,3,5,6,7,8]<|
 Qf 12 0 5<|
 Ql 13 1 12<|
 Qm 14 3<|
 q 15 (.bin .leq (.t 13) (.t 14))<|
 Qm 16 15<|
 Gf 17 16 false 0 5<|
 Gl 18 16 false 1 17<|
 qg 19 16 false (.bin .gtr (.t 18) (ci 255))<|
 Qo 20 16 19<|
 Qm 21 20<|
 Gf 22 21 false 1 5<|
 Gl 23 21 false 1 22<|
 qg 24 21 false (.len false (.t 23))<|
 qg 25 21 false (.bin .gtr (.t 24) (ci 65535))<|
 Qo 26 21 25<|
 .keep [0,5,6,7,8,26]<|
 .ite (.t 26)
 (q 2 (.mv (cb false))<|
 .keep [2]<|
 .ret)
 (.done)<|
 Qf 27 0 5<|
 Ql 28 1 27<|
 Qm 3 28<|
 .keep [0,3,6,7,8]<|
 .done)<|
 q 29 (.bin .add (.t 8) (ci 1))<|
 Qm 8 29<|
 .keep [0,3,6,7,8]<|
 .keep [0,3,6,7,8]<|
 .done))<|
 Qm 30 0<|
 Qw 31 30<|
 q 32 (.bin .leq (.t 31) (ci 64))<|
 Qm 2 32<|
 .keep [2]<|
 .ret
theorem Znp:EF false F.tlv_May En [.t 2]:=ef [] Tryz.func287 (by kernel_rfl) (by kernel_rfl) (by kernel_rfl)
end Go.Proofs.YtcgjlpdkobmpnaaGreat.Eng

