/- The code of some functions, as the abstract machine's. Printed by program. -/
import Derived.Test.YtenfocjhebgoeaaGreatMCa
namespace Go.Proofs.YtenfocjhebgoeaaGreat.Eng
open Go Go.Proofs
set_option maxRecDepth 20000
def ic_sha_Sum : IC :=
 q 2 (.alloc (List.replicate 32 (.int .u8 0))) <|
 .keep [0, 2] <|
 q 5 (.call F.sha_New []) <|
 q 3 (.mv (.t 5)) <|
 q 4 (.mv (.f F.sha_Hash_Write)) <|
 .keep [0, 2, 3, 4] <|
 q 6 (.mv (.t 4)) <|
 q 7 (.mv (.t 3)) <|
 q 8 (.mv (.t 0)) <|
 q 9 (.callv (.t 6) [(.t 7), (.t 8)]) <|
 .keep [2, 3] <|
 q 10 (.mv (.t 3)) <|
 q 11 (.call F.sha_Hash_Sum [(.t 10)]) <|
 qn (.store 32 (.t 2) (.t 11)) <|
 .keep [2] <|
 .ret
theorem e_sha_Sum:EF false F.sha_Sum ic_sha_Sum [.c 2 true 32]:=ef [] Tryz.func44 (by kernel_rfl) (by kernel_rfl) (by kernel_rfl)
def ic_sha_New : IC :=
 q 0 (.mv (.c (.pointer none))) <|
 .keep [] <|
 q 1 (.build (List.replicate 8 (.int .u32 0)) [(0, 1, (.c (.int .u32 1779033703))), (1, 1, (.c (.int .u32 3144134277))), (2, 1, (.c (.int .u32 1013904242))), (3, 1, (.c (.int .u32 2773480762))), (4, 1, (.c (.int .u32 1359893119))), (5, 1, (.c (.int .u32 2600822924))), (6, 1, (.c (.int .u32 528734635))), (7, 1, (.c (.int .u32 1541459225)))]) <|
 q 2 (.build [.int .u32 0, .int .u32 0, .int .u32 0, .int .u32 0, .int .u32 0, .int .u32 0, .int .u32 0, .int .u32 0, .slice none 0 0, .int .i64 0] [(0, 8, (.t 1))]) <|
 q 3 (.box (.t 2)) <|
 q 0 (.mv (.t 3)) <|
 .keep [0] <|
 .ret
theorem e_sha_New:EF false F.sha_New ic_sha_New [.t 0]:=ef [] Tryz.func64 (by kernel_rfl) (by kernel_rfl) (by kernel_rfl)
def ic_sha_Hash_Write : IC :=
 q 4 (.mv (.t 0)) <|
 q 5 (.nilchk (.t 4)) <|
 q 6 (.fld 9 (.t 5)) <|
 q 7 (.load false 1 (.t 6)) <|
 q 8 (.mv (.t 1)) <|
 q 9 (.len false (.t 8)) <|
 q 10 (.bin .add (.t 7) (.t 9)) <|
 q 11 (.nilchk (.t 4)) <|
 q 12 (.fld 9 (.t 11)) <|
 qn (.store 1 (.t 12) (.t 10)) <|
 .keep [0, 1] <|
 q 13 (.mv (.t 0)) <|
 q 14 (.mv (.t 0)) <|
 q 15 (.nilchk (.t 14)) <|
 q 16 (.fld 8 (.t 15)) <|
 q 17 (.load false 1 (.t 16)) <|
 q 18 (.mv (.t 1)) <|
 q 19 (.append 1 1 (.t 17) (.t 18)) <|
 q 20 (.nilchk (.t 13)) <|
 q 21 (.fld 8 (.t 20)) <|
 qn (.store 1 (.t 21) (.t 19)) <|
 .keep [0] <|
 .block 0
 (.keep [0] <|
 .loop
 (q 22 (.mv (.t 0)) <|
 q 23 (.nilchk (.t 22)) <|
 q 24 (.fld 8 (.t 23)) <|
 q 25 (.load false 1 (.t 24)) <|
 q 26 (.len false (.t 25)) <|
 q 27 (.bin .geq (.t 26) (ci 64)) <|
 .keep [0, 27] <|
 .ite (.t 27)
 (.done)
 (.exit 0) <|
 .block 1
 (q 28 (.mv (.t 0)) <|
 q 29 (.mv (.t 0)) <|
 q 30 (.nilchk (.t 29)) <|
 q 31 (.fld 8 (.t 30)) <|
 q 32 (.load false 1 (.t 31)) <|
 q 33 (.slice 1 none (.t 32) none (some (ci 64)) none) <|
 q 34 (.call F.sha_Hash_take [(.t 28), (.t 33)]) <|
 .keep [0] <|
 q 35 (.mv (.t 0)) <|
 q 36 (.bslice false 1 0 [.int .u8 0] []) <|
 q 37 (.mv (.t 0)) <|
 q 38 (.nilchk (.t 37)) <|
 q 39 (.fld 8 (.t 38)) <|
 q 40 (.load false 1 (.t 39)) <|
 q 41 (.slice 1 none (.t 40) (some (ci 64)) none none) <|
 q 42 (.append 1 1 (.t 36) (.t 41)) <|
 q 43 (.nilchk (.t 35)) <|
 q 44 (.fld 8 (.t 43)) <|
 qn (.store 1 (.t 44) (.t 42)) <|
 .keep [0] <|
 .done) <|
 .keep [0] <|
 .done)) <|
 .ret
theorem e_sha_Hash_Write:EF false F.sha_Hash_Write ic_sha_Hash_Write []:=ef [] Tryz.func65 (by kernel_rfl) (by kernel_rfl) (by kernel_rfl)
def ic_sha_Hash_Sum : IC :=
 q 2 (.alloc (List.replicate 32 (.int .u8 0))) <|
 .keep [0, 2] <|
 q 8 (.mv (.t 0)) <|
 q 9 (.call F.sha_Hash_Clone [(.t 8)]) <|
 q 3 (.mv (.t 9)) <|
 .keep [0, 2, 3] <|
 q 10 (.bslice true 1 1 [.int .u8 0] [(0, 1, (.c (.int .u8 128)))]) <|
 q 4 (.mv (.t 10)) <|
 .keep [0, 2, 3, 4] <|
 .block 0
 (.keep [0, 2, 3, 4] <|
 .loop
 (q 11 (.mv (.t 3)) <|
 q 12 (.nilchk (.t 11)) <|
 q 13 (.fld 8 (.t 12)) <|
 q 14 (.load false 1 (.t 13)) <|
 q 15 (.len false (.t 14)) <|
 q 16 (.mv (.t 4)) <|
 q 17 (.len false (.t 16)) <|
 q 18 (.bin .add (.t 15) (.t 17)) <|
 q 19 (.bin .rem (.t 18) (ci 64)) <|
 q 20 (.bin .neq (.t 19) (ci 56)) <|
 .keep [0, 2, 3, 4, 20] <|
 .ite (.t 20)
 (.done)
 (.exit 0) <|
 .block 1
 (q 21 (.mv (.t 4)) <|
 q 22 (.bslice false 1 1 [.int .u8 0] [(0, 1, (.c (.int .u8 0)))]) <|
 q 23 (.append 1 1 (.t 21) (.t 22)) <|
 q 4 (.mv (.t 23)) <|
 .keep [0, 2, 3, 4] <|
 .done) <|
 .keep [0, 2, 3, 4] <|
 .done)) <|
 q 5 (.mv (ci 56)) <|
 .keep [0, 2, 3, 4, 5] <|
 .block 2
 (.keep [0, 2, 3, 4, 5] <|
 .loop
 (q 24 (.mv (.t 5)) <|
 q 25 (.bin .geq (.t 24) (ci 0)) <|
 .keep [0, 2, 3, 4, 5, 25] <|
 .ite (.t 25)
 (.done)
 (.exit 2) <|
 .block 3
 (q 28 (.mv (.t 4)) <|
 q 29 (.mv (.t 0)) <|
 q 30 (.nilchk (.t 29)) <|
 q 31 (.fld 9 (.t 30)) <|
 q 32 (.load false 1 (.t 31)) <|
 q 33 (.conv .u64 (.t 32)) <|
 q 34 (.bin .mul (.c (.int .u64 8)) (.t 33)) <|
 q 35 (.mv (.t 5)) <|
 q 36 (.bin .shr (.t 34) (.t 35)) <|
 q 37 (.conv .u8 (.t 36)) <|
 q 38 (.bslice false 1 1 [.int .u8 0] [(0, 1, (.t 37))]) <|
 q 39 (.append 1 1 (.t 28) (.t 38)) <|
 q 4 (.mv (.t 39)) <|
 .keep [0, 2, 3, 4, 5] <|
 .done) <|
 q 26 (.mv (.t 5)) <|
 q 27 (.bin .sub (.t 26) (ci 8)) <|
 q 5 (.mv (.t 27)) <|
 .keep [0, 2, 3, 4, 5] <|
 .keep [0, 2, 3, 4, 5] <|
 .done)) <|
 q 40 (.mv (.t 3)) <|
 q 41 (.mv (.t 4)) <|
 q 42 (.call F.sha_Hash_Write [(.t 40), (.t 41)]) <|
 .keep [2, 3] <|
 q 6 (.alloc (List.replicate 32 (.int .u8 0))) <|
 .keep [2, 3, 6] <|
 q 43 (.mv (ci 0)) <|
 .keep [2, 3, 6, 43] <|
 .block 4
 (.keep [2, 3, 6, 43] <|
 .loop
 (q 44 (.bin .lss (.t 43) (ci 32)) <|
 .keep [2, 3, 6, 43, 44] <|
 .ite (.t 44)
 (.done)
 (.exit 4) <|
 .block 5
 (q 45 (.mv (.t 43)) <|
 q 7 (.mv (.t 45)) <|
 .keep [2, 3, 6, 7, 43] <|
 q 46 (.mv (.t 7)) <|
 q 47 (.mv (.t 3)) <|
 q 48 (.mv (.t 7)) <|
 q 49 (.bin .quo (.t 48) (ci 4)) <|
 q 50 (.nilchk (.t 47)) <|
 q 51 (.fld 0 (.t 50)) <|
 q 52 (.idxa 1 (some 8) (.t 51) (.t 49)) <|
 q 53 (.load false 1 (.t 52)) <|
 q 54 (.mv (.t 7)) <|
 q 55 (.bin .rem (.t 54) (ci 4)) <|
 q 56 (.bin .mul (ci 8) (.t 55)) <|
 q 57 (.bin .sub (ci 24) (.t 56)) <|
 q 58 (.bin .shr (.t 53) (.t 57)) <|
 q 59 (.conv .u8 (.t 58)) <|
 q 60 (.idxa 1 (some 32) (.t 6) (.t 46)) <|
 qn (.store 1 (.t 60) (.t 59)) <|
 .keep [2, 3, 6, 43] <|
 .done) <|
 q 61 (.bin .add (.t 43) (ci 1)) <|
 q 43 (.mv (.t 61)) <|
 .keep [2, 3, 6, 43] <|
 .keep [2, 3, 6, 43] <|
 .done)) <|
 q 62 (.load true 32 (.t 6)) <|
 qn (.store 32 (.t 2) (.t 62)) <|
 .keep [2] <|
 .ret
theorem e_sha_Hash_Sum:EF false F.sha_Hash_Sum ic_sha_Hash_Sum [.c 2 true 32]:=ef [10] Tryz.func66 (by kernel_rfl) (by kernel_rfl) (by kernel_rfl)
def ic_sha_Hash_take : IC :=
 q 13 (.mv (.t 0)) <|
 q 14 (.nilchk (.t 13)) <|
 q 15 (.fld 0 (.t 14)) <|
 q 16 (.load true 8 (.t 15)) <|
 q 4 (.alloc (List.replicate 8 (.int .u32 0))) <|
 qn (.store 8 (.t 4) (.t 16)) <|
 .keep [0, 1, 4] <|
 q 17 (.mv (.t 1)) <|
 q 18 (.call F.sha_words [(.t 17)]) <|
 q 19 (.call F.sha_constants []) <|
 q 5 (.alloc (List.replicate 64 (.int .u32 0))) <|
 q 6 (.alloc (List.replicate 64 (.int .u32 0))) <|
 qn (.store 64 (.t 5) (.t 18)) <|
 qn (.store 64 (.t 6) (.t 19)) <|
 .keep [0, 4, 5, 6] <|
 q 20 (.mv (ci 0)) <|
 .keep [0, 4, 5, 6, 20] <|
 .block 0
 (.keep [0, 4, 5, 6, 20] <|
 .loop
 (q 21 (.bin .lss (.t 20) (ci 64)) <|
 .keep [0, 4, 5, 6, 20, 21] <|
 .ite (.t 21)
 (.done)
 (.exit 0) <|
 .block 1
 (q 22 (.mv (.t 20)) <|
 q 7 (.mv (.t 22)) <|
 .keep [0, 4, 5, 6, 7, 20] <|
 q 23 (.idxa 1 (some 8) (.t 4) (ci 4)) <|
 q 24 (.load false 1 (.t 23)) <|
 q 25 (.idxa 1 (some 8) (.t 4) (ci 5)) <|
 q 26 (.load false 1 (.t 25)) <|
 q 27 (.bin .and (.t 24) (.t 26)) <|
 q 28 (.idxa 1 (some 8) (.t 4) (ci 4)) <|
 q 29 (.load false 1 (.t 28)) <|
 q 30 (.un .xor (.t 29)) <|
 q 31 (.idxa 1 (some 8) (.t 4) (ci 6)) <|
 q 32 (.load false 1 (.t 31)) <|
 q 33 (.bin .and (.t 30) (.t 32)) <|
 q 34 (.bin .xor (.t 27) (.t 33)) <|
 q 8 (.mv (.t 34)) <|
 .keep [0, 4, 5, 6, 7, 8, 20] <|
 q 35 (.idxa 1 (some 8) (.t 4) (ci 0)) <|
 q 36 (.load false 1 (.t 35)) <|
 q 37 (.idxa 1 (some 8) (.t 4) (ci 1)) <|
 q 38 (.load false 1 (.t 37)) <|
 q 39 (.bin .and (.t 36) (.t 38)) <|
 q 40 (.idxa 1 (some 8) (.t 4) (ci 0)) <|
 q 41 (.load false 1 (.t 40)) <|
 q 42 (.idxa 1 (some 8) (.t 4) (ci 2)) <|
 q 43 (.load false 1 (.t 42)) <|
 q 44 (.bin .and (.t 41) (.t 43)) <|
 q 45 (.bin .xor (.t 39) (.t 44)) <|
 q 46 (.idxa 1 (some 8) (.t 4) (ci 1)) <|
 q 47 (.load false 1 (.t 46)) <|
 q 48 (.idxa 1 (some 8) (.t 4) (ci 2)) <|
 q 49 (.load false 1 (.t 48)) <|
 q 50 (.bin .and (.t 47) (.t 49)) <|
 q 51 (.bin .xor (.t 45) (.t 50)) <|
 q 9 (.mv (.t 51)) <|
 .keep [0, 4, 5, 6, 7, 8, 9, 20] <|
 q 52 (.idxa 1 (some 8) (.t 4) (ci 7)) <|
 q 53 (.load false 1 (.t 52)) <|
 q 54 (.idxa 1 (some 8) (.t 4) (ci 4)) <|
 q 55 (.load false 1 (.t 54)) <|
 q 56 (.call F.sha_turned [(.t 55), (ci 6), (ci 11), (ci 25)]) <|
 q 57 (.bin .add (.t 53) (.t 56)) <|
 q 58 (.mv (.t 8)) <|
 q 59 (.bin .add (.t 57) (.t 58)) <|
 q 60 (.mv (.t 7)) <|
 q 61 (.idxa 1 (some 64) (.t 6) (.t 60)) <|
 q 62 (.load false 1 (.t 61)) <|
 q 63 (.bin .add (.t 59) (.t 62)) <|
 q 64 (.mv (.t 7)) <|
 q 65 (.idxa 1 (some 64) (.t 5) (.t 64)) <|
 q 66 (.load false 1 (.t 65)) <|
 q 67 (.bin .add (.t 63) (.t 66)) <|
 q 10 (.mv (.t 67)) <|
 .keep [0, 4, 5, 6, 9, 10, 20] <|
 q 68 (.idxa 1 (some 8) (.t 4) (ci 0)) <|
 q 69 (.load false 1 (.t 68)) <|
 q 70 (.call F.sha_turned [(.t 69), (ci 2), (ci 13), (ci 22)]) <|
 q 71 (.mv (.t 9)) <|
 q 72 (.bin .add (.t 70) (.t 71)) <|
 q 11 (.mv (.t 72)) <|
 .keep [0, 4, 5, 6, 10, 11, 20] <|
 q 73 (.mv (.t 10)) <|
 q 74 (.mv (.t 11)) <|
 q 75 (.bin .add (.t 73) (.t 74)) <|
 q 76 (.idxa 1 (some 8) (.t 4) (ci 0)) <|
 q 77 (.load false 1 (.t 76)) <|
 q 78 (.idxa 1 (some 8) (.t 4) (ci 1)) <|
 q 79 (.load false 1 (.t 78)) <|
 q 80 (.idxa 1 (some 8) (.t 4) (ci 2)) <|
 q 81 (.load false 1 (.t 80)) <|
 q 82 (.idxa 1 (some 8) (.t 4) (ci 3)) <|
 q 83 (.load false 1 (.t 82)) <|
 q 84 (.mv (.t 10)) <|
 q 85 (.bin .add (.t 83) (.t 84)) <|
 q 86 (.idxa 1 (some 8) (.t 4) (ci 4)) <|
 q 87 (.load false 1 (.t 86)) <|
 q 88 (.idxa 1 (some 8) (.t 4) (ci 5)) <|
 q 89 (.load false 1 (.t 88)) <|
 q 90 (.idxa 1 (some 8) (.t 4) (ci 6)) <|
 q 91 (.load false 1 (.t 90)) <|
 q 92 (.build (List.replicate 8 (.int .u32 0)) [(0, 1, (.t 75)), (1, 1, (.t 77)), (2, 1, (.t 79)), (3, 1, (.t 81)), (4, 1, (.t 85)), (5, 1, (.t 87)), (6, 1, (.t 89)), (7, 1, (.t 91))]) <|
 qn (.store 8 (.t 4) (.t 92)) <|
 .keep [0, 4, 5, 6, 20] <|
 .done) <|
 q 93 (.bin .add (.t 20) (ci 1)) <|
 q 20 (.mv (.t 93)) <|
 .keep [0, 4, 5, 6, 20] <|
 .keep [0, 4, 5, 6, 20] <|
 .done)) <|
 q 94 (.mv (ci 0)) <|
 .keep [0, 4, 94] <|
 .block 2
 (.keep [0, 4, 94] <|
 .loop
 (q 95 (.bin .lss (.t 94) (ci 8)) <|
 .keep [0, 4, 94, 95] <|
 .ite (.t 95)
 (.done)
 (.exit 2) <|
 .block 3
 (q 96 (.mv (.t 94)) <|
 q 12 (.mv (.t 96)) <|
 .keep [0, 4, 12, 94] <|
 q 97 (.mv (.t 0)) <|
 q 98 (.mv (.t 12)) <|
 q 99 (.nilchk (.t 97)) <|
 q 100 (.fld 0 (.t 99)) <|
 q 101 (.idxa 1 (some 8) (.t 100) (.t 98)) <|
 q 102 (.load false 1 (.t 101)) <|
 q 103 (.mv (.t 12)) <|
 q 104 (.idxa 1 (some 8) (.t 4) (.t 103)) <|
 q 105 (.load false 1 (.t 104)) <|
 q 106 (.bin .add (.t 102) (.t 105)) <|
 q 107 (.nilchk (.t 97)) <|
 q 108 (.fld 0 (.t 107)) <|
 q 109 (.idxa 1 (some 8) (.t 108) (.t 98)) <|
 qn (.store 1 (.t 109) (.t 106)) <|
 .keep [0, 4, 94] <|
 .done) <|
 q 110 (.bin .add (.t 94) (ci 1)) <|
 q 94 (.mv (.t 110)) <|
 .keep [0, 4, 94] <|
 .keep [0, 4, 94] <|
 .done)) <|
 .ret
theorem e_sha_Hash_take:EF false F.sha_Hash_take ic_sha_Hash_take []:=ef [] Tryz.func89 (by kernel_rfl) (by kernel_rfl) (by kernel_rfl)
def ic_sha_Hash_Clone : IC :=
 q 2 (.mv (.c (.pointer none))) <|
 .keep [0] <|
 .reg 2
 [xe 3 (.mv (.t 0)) [],
 xe 4 (.nilchk (.t 3)) [],
 xe 5 (.fld 0 (.t 4)) [],
 xe 6 (.load true 8 (.t 5)) [],
 xe 7 (.bslice false 1 0 [.int .u8 0] []) [],
 xe 8 (.mv (.t 0)) [],
 xe 9 (.nilchk (.t 8)) [],
 xe 10 (.fld 8 (.t 9)) [],
 xe 11 (.load false 1 (.t 10)) [],
 xa 0 12 (.append 1 1 (.t 7) (.t 11)),
 xe 13 (.mv (.t 0)) [],
 xe 14 (.nilchk (.t 13)) [],
 xe 15 (.fld 9 (.t 14)) [],
 xe 16 (.load false 1 (.t 15)) [],
 xl 17 (.build [.int .u32 0, .int .u32 0, .int .u32 0, .int .u32 0, .int .u32 0, .int .u32 0, .int .u32 0, .int .u32 0, .slice none 0 0, .int .i64 0] [(0, 8, (.t 6)), (8, 1, (.t 12)), (9, 1, (.t 16))]) [],
 xa 1 18 (.box (.t 17)),
 xl 2 (.mv (.t 18)) []] <|
 .keep [2] <|
 .ret
theorem e_sha_Hash_Clone:EF false F.sha_Hash_Clone ic_sha_Hash_Clone [.t 2]:=ef [] Tryz.func90 (by kernel_rfl) (by kernel_rfl) (by kernel_rfl)
def ic_sha_words : IC :=
 q 2 (.alloc (List.replicate 64 (.int .u32 0))) <|
 .keep [0, 2] <|
 q 3 (.alloc (List.replicate 64 (.int .u32 0))) <|
 .keep [0, 2, 3] <|
 q 10 (.mv (ci 0)) <|
 .keep [0, 2, 3, 10] <|
 .block 0
 (.keep [0, 2, 3, 10] <|
 .loop
 (q 11 (.bin .lss (.t 10) (ci 16)) <|
 .keep [0, 2, 3, 10, 11] <|
 .ite (.t 11)
 (.done)
 (.exit 0) <|
 .block 1
 (q 12 (.mv (.t 10)) <|
 q 4 (.mv (.t 12)) <|
 .keep [0, 2, 3, 4, 10] <|
 q 13 (.mv (.t 4)) <|
 q 14 (.mv (.t 0)) <|
 q 15 (.mv (.t 4)) <|
 q 16 (.bin .mul (ci 4) (.t 15)) <|
 q 17 (.idxa 1 none (.t 14) (.t 16)) <|
 q 18 (.load false 1 (.t 17)) <|
 q 19 (.conv .u32 (.t 18)) <|
 q 20 (.bin .shl (.t 19) (.c (.int .u64 24))) <|
 q 21 (.mv (.t 0)) <|
 q 22 (.mv (.t 4)) <|
 q 23 (.bin .mul (ci 4) (.t 22)) <|
 q 24 (.bin .add (.t 23) (ci 1)) <|
 q 25 (.idxa 1 none (.t 21) (.t 24)) <|
 q 26 (.load false 1 (.t 25)) <|
 q 27 (.conv .u32 (.t 26)) <|
 q 28 (.bin .shl (.t 27) (.c (.int .u64 16))) <|
 q 29 (.bin .or (.t 20) (.t 28)) <|
 q 30 (.mv (.t 0)) <|
 q 31 (.mv (.t 4)) <|
 q 32 (.bin .mul (ci 4) (.t 31)) <|
 q 33 (.bin .add (.t 32) (ci 2)) <|
 q 34 (.idxa 1 none (.t 30) (.t 33)) <|
 q 35 (.load false 1 (.t 34)) <|
 q 36 (.conv .u32 (.t 35)) <|
 q 37 (.bin .shl (.t 36) (.c (.int .u64 8))) <|
 q 38 (.bin .or (.t 29) (.t 37)) <|
 q 39 (.mv (.t 0)) <|
 q 40 (.mv (.t 4)) <|
 q 41 (.bin .mul (ci 4) (.t 40)) <|
 q 42 (.bin .add (.t 41) (ci 3)) <|
 q 43 (.idxa 1 none (.t 39) (.t 42)) <|
 q 44 (.load false 1 (.t 43)) <|
 q 45 (.conv .u32 (.t 44)) <|
 q 46 (.bin .or (.t 38) (.t 45)) <|
 q 47 (.idxa 1 (some 64) (.t 3) (.t 13)) <|
 qn (.store 1 (.t 47) (.t 46)) <|
 .keep [0, 2, 3, 10] <|
 .done) <|
 q 48 (.bin .add (.t 10) (ci 1)) <|
 q 10 (.mv (.t 48)) <|
 .keep [0, 2, 3, 10] <|
 .keep [0, 2, 3, 10] <|
 .done)) <|
 q 5 (.mv (ci 16)) <|
 .keep [2, 3, 5] <|
 .block 2
 (.keep [2, 3, 5] <|
 .loop
 (q 49 (.mv (.t 5)) <|
 q 50 (.bin .lss (.t 49) (ci 64)) <|
 .keep [2, 3, 5, 50] <|
 .ite (.t 50)
 (.done)
 (.exit 2) <|
 .block 3
 (q 53 (.mv (.t 5)) <|
 q 54 (.bin .sub (.t 53) (ci 15)) <|
 q 55 (.idxa 1 (some 64) (.t 3) (.t 54)) <|
 q 56 (.load false 1 (.t 55)) <|
 q 57 (.mv (.t 5)) <|
 q 58 (.bin .sub (.t 57) (ci 2)) <|
 q 59 (.idxa 1 (some 64) (.t 3) (.t 58)) <|
 q 60 (.load false 1 (.t 59)) <|
 q 6 (.mv (.t 56)) <|
 q 7 (.mv (.t 60)) <|
 .keep [2, 3, 5, 6, 7] <|
 q 61 (.mv (.t 6)) <|
 q 62 (.call F.math_bits_RotateLeft32 [(.t 61), (ci (-7))]) <|
 q 63 (.mv (.t 6)) <|
 q 64 (.call F.math_bits_RotateLeft32 [(.t 63), (ci (-18))]) <|
 q 65 (.bin .xor (.t 62) (.t 64)) <|
 q 66 (.mv (.t 6)) <|
 q 67 (.bin .shr (.t 66) (.c (.int .u64 3))) <|
 q 68 (.bin .xor (.t 65) (.t 67)) <|
 q 8 (.mv (.t 68)) <|
 .keep [2, 3, 5, 7, 8] <|
 q 69 (.mv (.t 7)) <|
 q 70 (.call F.math_bits_RotateLeft32 [(.t 69), (ci (-17))]) <|
 q 71 (.mv (.t 7)) <|
 q 72 (.call F.math_bits_RotateLeft32 [(.t 71), (ci (-19))]) <|
 q 73 (.bin .xor (.t 70) (.t 72)) <|
 q 74 (.mv (.t 7)) <|
 q 75 (.bin .shr (.t 74) (.c (.int .u64 10))) <|
 q 76 (.bin .xor (.t 73) (.t 75)) <|
 q 9 (.mv (.t 76)) <|
 .keep [2, 3, 5, 8, 9] <|
 q 77 (.mv (.t 5)) <|
 q 78 (.mv (.t 9)) <|
 q 79 (.mv (.t 5)) <|
 q 80 (.bin .sub (.t 79) (ci 7)) <|
 q 81 (.idxa 1 (some 64) (.t 3) (.t 80)) <|
 q 82 (.load false 1 (.t 81)) <|
 q 83 (.bin .add (.t 78) (.t 82)) <|
 q 84 (.mv (.t 8)) <|
 q 85 (.bin .add (.t 83) (.t 84)) <|
 q 86 (.mv (.t 5)) <|
 q 87 (.bin .sub (.t 86) (ci 16)) <|
 q 88 (.idxa 1 (some 64) (.t 3) (.t 87)) <|
 q 89 (.load false 1 (.t 88)) <|
 q 90 (.bin .add (.t 85) (.t 89)) <|
 q 91 (.idxa 1 (some 64) (.t 3) (.t 77)) <|
 qn (.store 1 (.t 91) (.t 90)) <|
 .keep [2, 3, 5] <|
 .done) <|
 q 51 (.mv (.t 5)) <|
 q 52 (.bin .add (.t 51) (ci 1)) <|
 q 5 (.mv (.t 52)) <|
 .keep [2, 3, 5] <|
 .keep [2, 3, 5] <|
 .done)) <|
 q 92 (.load true 64 (.t 3)) <|
 qn (.store 64 (.t 2) (.t 92)) <|
 .keep [2] <|
 .ret
theorem e_sha_words:EF false F.sha_words ic_sha_words [.c 2 true 64]:=ef [] Tryz.func112 (by kernel_rfl) (by kernel_rfl) (by kernel_rfl)
def ic_sha_constants : IC :=
 q 0 (.alloc (List.replicate 64 (.int .u32 0))) <|
 .keep [0] <|
 q 1 (.build (List.replicate 64 (.int .u32 0)) [(0, 1, (.c (.int .u32 1116352408))), (1, 1, (.c (.int .u32 1899447441))), (2, 1, (.c (.int .u32 3049323471))), (3, 1, (.c (.int .u32 3921009573))), (4, 1, (.c (.int .u32 961987163))), (5, 1, (.c (.int .u32 1508970993))), (6, 1, (.c (.int .u32 2453635748))), (7, 1, (.c (.int .u32 2870763221))), (8, 1, (.c (.int .u32 3624381080))), (9, 1, (.c (.int .u32 310598401))), (10, 1, (.c (.int .u32 607225278))), (11, 1, (.c (.int .u32 1426881987))), (12, 1, (.c (.int .u32 1925078388))), (13, 1, (.c (.int .u32 2162078206))), (14, 1, (.c (.int .u32 2614888103))), (15, 1, (.c (.int .u32 3248222580))), (16, 1, (.c (.int .u32 3835390401))), (17, 1, (.c (.int .u32 4022224774))), (18, 1, (.c (.int .u32 264347078))), (19, 1, (.c (.int .u32 604807628))), (20, 1, (.c (.int .u32 770255983))), (21, 1, (.c (.int .u32 1249150122))), (22, 1, (.c (.int .u32 1555081692))), (23, 1, (.c (.int .u32 1996064986))), (24, 1, (.c (.int .u32 2554220882))), (25, 1, (.c (.int .u32 2821834349))), (26, 1, (.c (.int .u32 2952996808))), (27, 1, (.c (.int .u32 3210313671))), (28, 1, (.c (.int .u32 3336571891))), (29, 1, (.c (.int .u32 3584528711))), (30, 1, (.c (.int .u32 113926993))), (31, 1, (.c (.int .u32 338241895))), (32, 1, (.c (.int .u32 666307205))), (33, 1, (.c (.int .u32 773529912))), (34, 1, (.c (.int .u32 1294757372))), (35, 1, (.c (.int .u32 1396182291))), (36, 1, (.c (.int .u32 1695183700))), (37, 1, (.c (.int .u32 1986661051))), (38, 1, (.c (.int .u32 2177026350))), (39, 1, (.c (.int .u32 2456956037))), (40, 1, (.c (.int .u32 2730485921))), (41, 1, (.c (.int .u32 2820302411))), (42, 1, (.c (.int .u32 3259730800))), (43, 1, (.c (.int .u32 3345764771))), (44, 1, (.c (.int .u32 3516065817))), (45, 1, (.c (.int .u32 3600352804))), (46, 1, (.c (.int .u32 4094571909))), (47, 1, (.c (.int .u32 275423344))), (48, 1, (.c (.int .u32 430227734))), (49, 1, (.c (.int .u32 506948616))), (50, 1, (.c (.int .u32 659060556))), (51, 1, (.c (.int .u32 883997877))), (52, 1, (.c (.int .u32 958139571))), (53, 1, (.c (.int .u32 1322822218))), (54, 1, (.c (.int .u32 1537002063))), (55, 1, (.c (.int .u32 1747873779))), (56, 1, (.c (.int .u32 1955562222))), (57, 1, (.c (.int .u32 2024104815))), (58, 1, (.c (.int .u32 2227730452))), (59, 1, (.c (.int .u32 2361852424))), (60, 1, (.c (.int .u32 2428436474))), (61, 1, (.c (.int .u32 2756734187))), (62, 1, (.c (.int .u32 3204031479))), (63, 1, (.c (.int .u32 3329325298)))]) <|
 qn (.store 64 (.t 0) (.t 1)) <|
 .keep [0] <|
 .ret
theorem e_sha_constants:EF false F.sha_constants ic_sha_constants [.c 0 true 64]:=ef [] Tryz.func113 (by kernel_rfl) (by kernel_rfl) (by kernel_rfl)
def ic_sha_turned : IC :=
 q 8 (.mv (.c (.int .u32 0))) <|
 .keep [0, 1, 2, 3] <|
 q 9 (.mv (.t 0)) <|
 q 10 (.mv (.t 1)) <|
 q 11 (.un .neg (.t 10)) <|
 q 12 (.call F.math_bits_RotateLeft32 [(.t 9), (.t 11)]) <|
 q 13 (.mv (.t 0)) <|
 q 14 (.mv (.t 2)) <|
 q 15 (.un .neg (.t 14)) <|
 q 16 (.call F.math_bits_RotateLeft32 [(.t 13), (.t 15)]) <|
 q 17 (.bin .xor (.t 12) (.t 16)) <|
 q 18 (.mv (.t 0)) <|
 q 19 (.mv (.t 3)) <|
 q 20 (.un .neg (.t 19)) <|
 q 21 (.call F.math_bits_RotateLeft32 [(.t 18), (.t 20)]) <|
 q 22 (.bin .xor (.t 17) (.t 21)) <|
 q 8 (.mv (.t 22)) <|
 .keep [8] <|
 .ret
theorem e_sha_turned:EF false F.sha_turned ic_sha_turned [.t 8]:=ef [] Tryz.func114 (by kernel_rfl) (by kernel_rfl) (by kernel_rfl)
def ic_sign_Parse : IC :=
 q 2 (.alloc (List.replicate 8 (.int .u64 0))) <|
 q 3 (.mv (.c (.nilIface))) <|
 .keep [0, 2] <|
 q 8 (.mv (.t 0)) <|
 q 9 (.len false (.t 8)) <|
 q 10 (.bin .neq (.t 9) (ci 64)) <|
 .keep [0, 2, 10] <|
 .ite (.t 10)
 (q 11 (.build (List.replicate 8 (.int .u64 0)) []) <|
 q 12 (.mkif T.api_Code (ci 2)) <|
 qn (.store 8 (.t 2) (.t 11)) <|
 q 3 (.mv (.t 12)) <|
 .keep [2, 3] <|
 .ret)
 (.done) <|
 q 14 (.mv (.t 0)) <|
 q 15 (.slice 1 none (.t 14) none (some (ci 32)) none) <|
 q 16 (.call F.limb_Of [(.t 15)]) <|
 q 13 (.mv (.t 16)) <|
 q 17 (.ext (.t 13) 0) <|
 q 18 (.ext (.t 13) 1) <|
 q 4 (.alloc (List.replicate 4 (.int .u64 0))) <|
 qn (.store 4 (.t 4) (.t 17)) <|
 q 5 (.mv (.t 18)) <|
 .keep [0, 2, 4] <|
 q 20 (.mv (.t 0)) <|
 q 21 (.slice 1 none (.t 20) (some (ci 32)) none none) <|
 q 22 (.call F.limb_Of [(.t 21)]) <|
 q 19 (.mv (.t 22)) <|
 q 23 (.ext (.t 19) 0) <|
 q 24 (.ext (.t 19) 1) <|
 q 6 (.alloc (List.replicate 4 (.int .u64 0))) <|
 qn (.store 4 (.t 6) (.t 23)) <|
 q 7 (.mv (.t 24)) <|
 .keep [2, 4, 6] <|
 q 25 (.load true 4 (.t 4)) <|
 q 26 (.load true 4 (.t 6)) <|
 q 27 (.build (List.replicate 8 (.int .u64 0)) [(0, 4, (.t 25)), (4, 4, (.t 26))]) <|
 qn (.store 8 (.t 2) (.t 27)) <|
 q 3 (.mv (.c (.nilIface))) <|
 .keep [2, 3] <|
 .ret
theorem e_sign_Parse:EF false F.sign_Parse ic_sign_Parse [.c 2 true 8,.t 3]:=ef [] Tryz.func42 (by kernel_rfl) (by kernel_rfl) (by kernel_rfl)
def ic_sign_Verify : IC :=
 q 3 (.box (.t 0)) <|
 q 4 (.box (.t 1)) <|
 q 5 (.box (.t 2)) <|
 q 6 (.mv (cb false)) <|
 .keep [3, 4, 5] <|
 q 15 (.call F.point_N []) <|
 q 16 (.call F.field_New [(.t 15)]) <|
 q 14 (.mv (.t 16)) <|
 q 17 (.ext (.t 14) 0) <|
 q 18 (.ext (.t 14) 1) <|
 q 7 (.mv (.t 17)) <|
 q 8 (.mv (.t 18)) <|
 .keep [3, 4, 5, 7, 8] <|
 q 19 (.mv (.t 8)) <|
 q 20 (.eq true .i (.t 19) (.c (.nilIface))) <|
 q 21 (.mv (.t 20)) <|
 qg 22 21 false (.load true 9 (.t 3)) <|
 qg 23 21 false (.call F.point_On [(.t 22)]) <|
 qg 24 21 false (.un .not (.t 23)) <|
 q 25 (.pick (.t 21) (cb true) (.t 24)) <|
 q 26 (.mv (.t 25)) <|
 qg 27 26 false (.fld 8 (.t 3)) <|
 qg 28 26 false (.load false 1 (.t 27)) <|
 q 29 (.pick (.t 26) (cb true) (.t 28)) <|
 q 30 (.mv (.t 29)) <|
 qg 31 30 false (.fld 0 (.t 5)) <|
 qg 32 30 false (.load true 4 (.t 31)) <|
 qg 33 30 false (.call F.sign_may [(.t 32)]) <|
 qg 34 30 false (.un .not (.t 33)) <|
 q 35 (.pick (.t 30) (cb true) (.t 34)) <|
 q 36 (.mv (.t 35)) <|
 qg 37 36 false (.fld 4 (.t 5)) <|
 qg 38 36 false (.load true 4 (.t 37)) <|
 qg 39 36 false (.call F.sign_may [(.t 38)]) <|
 qg 40 36 false (.un .not (.t 39)) <|
 q 41 (.pick (.t 36) (cb true) (.t 40)) <|
 .keep [3, 4, 5, 7, 41] <|
 .ite (.t 41)
 (q 6 (.mv (cb false)) <|
 .keep [6] <|
 .ret)
 (.done) <|
 q 43 (.mv (.t 7)) <|
 q 44 (.fld 4 (.t 5)) <|
 q 45 (.load true 4 (.t 44)) <|
 q 46 (.call F.field_Field_Inv [(.t 43), (.t 45)]) <|
 q 42 (.mv (.t 46)) <|
 q 47 (.ext (.t 42) 0) <|
 q 48 (.ext (.t 42) 1) <|
 q 9 (.alloc (List.replicate 4 (.int .u64 0))) <|
 qn (.store 4 (.t 9) (.t 47)) <|
 q 8 (.mv (.t 48)) <|
 .keep [3, 4, 5, 7, 8, 9] <|
 q 49 (.mv (.t 8)) <|
 q 50 (.eq true .i (.t 49) (.c (.nilIface))) <|
 .keep [3, 4, 5, 7, 9, 50] <|
 .ite (.t 50)
 (q 6 (.mv (cb false)) <|
 .keep [6] <|
 .ret)
 (.done) <|
 .reg 1
 [xe 52 (.mv (.t 7)) [],
 xe 53 (.load true 32 (.t 4)) [],
 xe 54 (.call F.sign_number [(.t 53)]) [],
 xe 55 (.load true 4 (.t 9)) [],
 xe 56 (.call F.field_Field_Mul [(.t 52), (.t 54), (.t 55)]) [],
 xe 57 (.call F.point_Base []) [],
 xe 58 (.call F.point_Mul [(.t 56), (.t 57)]) [],
 xe 51 (.mv (.t 58)) [],
 xe 59 (.ext (.t 51) 0) [],
 xe 60 (.ext (.t 51) 1) [],
 xa 0 10 (.alloc [.int .u64 0, .int .u64 0, .int .u64 0, .int .u64 0, .int .u64 0, .int .u64 0, .int .u64 0, .int .u64 0, .bool false]),
 xln (.store 9 (.t 10) (.t 59)) [],
 xl 11 (.mv (.t 60)) []] <|
 .keep [3, 5, 7, 9, 10, 11] <|
 .reg 1
 [xe 62 (.mv (.t 7)) [],
 xe 63 (.fld 0 (.t 5)) [],
 xe 64 (.load true 4 (.t 63)) [],
 xe 65 (.load true 4 (.t 9)) [],
 xe 66 (.call F.field_Field_Mul [(.t 62), (.t 64), (.t 65)]) [],
 xe 67 (.load true 9 (.t 3)) [],
 xe 68 (.call F.point_Mul [(.t 66), (.t 67)]) [],
 xe 61 (.mv (.t 68)) [],
 xe 69 (.ext (.t 61) 0) [],
 xe 70 (.ext (.t 61) 1) [],
 xa 0 12 (.alloc [.int .u64 0, .int .u64 0, .int .u64 0, .int .u64 0, .int .u64 0, .int .u64 0, .int .u64 0, .int .u64 0, .bool false]),
 xln (.store 9 (.t 12) (.t 69)) [],
 xl 8 (.mv (.t 70)) []] <|
 .keep [5, 7, 8, 10, 11, 12] <|
 q 71 (.mv (.t 11)) <|
 q 72 (.eq true .i (.t 71) (.c (.nilIface))) <|
 q 73 (.mv (.t 72)) <|
 qg 74 73 false (.mv (.t 8)) <|
 qg 75 73 false (.eq true .i (.t 74) (.c (.nilIface))) <|
 q 76 (.pick (.t 73) (cb true) (.t 75)) <|
 .keep [5, 7, 10, 12, 76] <|
 .ite (.t 76)
 (q 6 (.mv (cb false)) <|
 .keep [6] <|
 .ret)
 (.done) <|
 q 78 (.load true 9 (.t 10)) <|
 q 79 (.load true 9 (.t 12)) <|
 q 80 (.call F.point_Add [(.t 78), (.t 79)]) <|
 q 77 (.mv (.t 80)) <|
 q 81 (.ext (.t 77) 0) <|
 q 82 (.ext (.t 77) 1) <|
 q 13 (.alloc [.int .u64 0, .int .u64 0, .int .u64 0, .int .u64 0, .int .u64 0, .int .u64 0, .int .u64 0, .int .u64 0, .bool false]) <|
 qn (.store 9 (.t 13) (.t 81)) <|
 q 8 (.mv (.t 82)) <|
 .keep [5, 7, 8, 13] <|
 q 83 (.mv (.t 8)) <|
 q 84 (.eq false .i (.t 83) (.c (.nilIface))) <|
 q 85 (.mv (.t 84)) <|
 qg 86 85 true (.fld 8 (.t 13)) <|
 qg 87 85 true (.load false 1 (.t 86)) <|
 qg 88 85 true (.un .not (.t 87)) <|
 q 89 (.pick (.t 85) (.t 88) (cb false)) <|
 q 90 (.mv (.t 89)) <|
 qg 91 90 true (.mv (.t 7)) <|
 qg 92 90 true (.fld 0 (.t 13)) <|
 qg 93 90 true (.load true 4 (.t 92)) <|
 qg 94 90 true (.build (List.replicate 4 (.int .u64 0)) []) <|
 qg 95 90 true (.call F.field_Field_Add [(.t 91), (.t 93), (.t 94)]) <|
 qg 96 90 true (.fld 0 (.t 5)) <|
 qg 97 90 true (.load true 4 (.t 96)) <|
 qg 98 90 true (.eqagg (List.replicate 4 (some .u64)) false (.t 95) (.t 97)) <|
 q 99 (.pick (.t 90) (.t 98) (cb false)) <|
 q 6 (.mv (.t 99)) <|
 .keep [6] <|
 .ret
theorem e_sign_Verify:EF false F.sign_Verify ic_sign_Verify [.t 6]:=ef [] Tryz.func49 (by kernel_rfl) (by kernel_rfl) (by kernel_rfl)
def ic_sign_may : IC :=
 q 1 (.box (.t 0)) <|
 q 2 (.mv (cb false)) <|
 .keep [1] <|
 q 3 (.load true 4 (.t 1)) <|
 q 4 (.build (List.replicate 4 (.int .u64 0)) []) <|
 q 5 (.eqagg (List.replicate 4 (some .u64)) true (.t 3) (.t 4)) <|
 q 6 (.mv (.t 5)) <|
 qg 7 6 true (.load true 4 (.t 1)) <|
 qg 8 6 true (.call F.point_N []) <|
 qg 9 6 true (.call F.limb_Cmp [(.t 7), (.t 8)]) <|
 qg 10 6 true (.bin .lss (.t 9) (ci 0)) <|
 q 11 (.pick (.t 6) (.t 10) (cb false)) <|
 q 2 (.mv (.t 11)) <|
 .keep [2] <|
 .ret
theorem e_sign_may:EF false F.sign_may ic_sign_may [.t 2]:=ef [] Tryz.func73 (by kernel_rfl) (by kernel_rfl) (by kernel_rfl)
def ic_sign_number : IC :=
 q 1 (.box (.t 0)) <|
 q 2 (.alloc (List.replicate 4 (.int .u64 0))) <|
 .keep [1, 2] <|
 q 6 (.slice 1 (some 32) (.t 1) none none none) <|
 q 7 (.call F.limb_Of [(.t 6)]) <|
 q 5 (.mv (.t 7)) <|
 q 8 (.ext (.t 5) 0) <|
 q 9 (.ext (.t 5) 1) <|
 q 3 (.alloc (List.replicate 4 (.int .u64 0))) <|
 qn (.store 4 (.t 3) (.t 8)) <|
 q 4 (.mv (.t 9)) <|
 .keep [2, 3] <|
 q 10 (.load true 4 (.t 3)) <|
 qn (.store 4 (.t 2) (.t 10)) <|
 .keep [2] <|
 .ret
theorem e_sign_number:EF false F.sign_number ic_sign_number [.c 2 true 4]:=ef [] Tryz.func77 (by kernel_rfl) (by kernel_rfl) (by kernel_rfl)
def ic_slices_Clone_byte_byte : IC :=
 q 2 (.mv (.c (.slice none 0 0))) <|
 .keep [0] <|
 q 3 (.mv (.t 0)) <|
 q 4 (.isnil false (.t 3)) <|
 .keep [0, 4] <|
 .ite (.t 4)
 (q 2 (.mv (.c (.slice none 0 0))) <|
 .keep [2] <|
 .ret)
 (.done) <|
 q 5 (.bslice false 1 0 [.int .u8 0] []) <|
 q 6 (.mv (.t 0)) <|
 q 7 (.append 1 1 (.t 5) (.t 6)) <|
 q 2 (.mv (.t 7)) <|
 .keep [2] <|
 .ret
theorem e_slices_Clone_byte_byte:EF false F.slices_Clone_byte_byte ic_slices_Clone_byte_byte [.t 2]:=ef [] Tryz.func28 (by kernel_rfl) (by kernel_rfl) (by kernel_rfl)
def ic_tlv_Get : IC :=
 q 2 (.mv (.c (.slice none 0 0))) <|
 q 3 (.mv (.c (.nilIface))) <|
 .keep [0] <|
 q 4 (.mv (.c (.slice none 0 0))) <|
 .keep [0, 4] <|
 .block 0
 (.keep [0, 4] <|
 .loop
 (q 6 (.mv (.t 0)) <|
 q 7 (.len false (.t 6)) <|
 q 8 (.bin .geq (.t 7) (ci 3)) <|
 .keep [0, 4, 8] <|
 .ite (.t 8)
 (.done)
 (.exit 0) <|
 .block 1
 (q 9 (.mv (.t 0)) <|
 q 10 (.idxa 1 none (.t 9) (ci 1)) <|
 q 11 (.load false 1 (.t 10)) <|
 q 12 (.conv .i64 (.t 11)) <|
 q 13 (.bin .shl (.t 12) (.c (.int .u64 8))) <|
 q 14 (.bin .add (ci 3) (.t 13)) <|
 q 15 (.mv (.t 0)) <|
 q 16 (.idxa 1 none (.t 15) (ci 2)) <|
 q 17 (.load false 1 (.t 16)) <|
 q 18 (.conv .i64 (.t 17)) <|
 q 19 (.bin .add (.t 14) (.t 18)) <|
 q 5 (.mv (.t 19)) <|
 .keep [0, 4, 5] <|
 q 20 (.mv (.t 4)) <|
 q 21 (.len false (.t 20)) <|
 q 22 (.bin .eql (.t 21) (ci 64)) <|
 q 23 (.mv (.t 22)) <|
 qg 24 23 false (.mv (.t 5)) <|
 qg 25 23 false (.mv (.t 0)) <|
 qg 26 23 false (.len false (.t 25)) <|
 qg 27 23 false (.bin .gtr (.t 24) (.t 26)) <|
 q 28 (.pick (.t 23) (cb true) (.t 27)) <|
 .keep [0, 4, 5, 28] <|
 .ite (.t 28)
 (q 29 (.mkif T.api_Code (ci 2)) <|
 q 2 (.mv (.c (.slice none 0 0))) <|
 q 3 (.mv (.t 29)) <|
 .keep [2, 3] <|
 .ret)
 (.done) <|
 q 30 (.mv (.t 4)) <|
 q 31 (.mv (.t 0)) <|
 q 32 (.idxa 1 none (.t 31) (ci 0)) <|
 q 33 (.load false 1 (.t 32)) <|
 q 34 (.conv .i64 (.t 33)) <|
 q 35 (.mv (.t 0)) <|
 q 36 (.mv (.t 5)) <|
 q 37 (.slice 1 none (.t 35) (some (ci 3)) (some (.t 36)) none) <|
 q 38 (.call F.slices_Clone_byte_byte [(.t 37)]) <|
 q 39 (.build [.int .i64 0, .slice none 0 0] [(0, 1, (.t 34)), (1, 1, (.t 38))]) <|
 q 40 (.bslice false 2 1 [.int .i64 0, .slice none 0 0] [(0, 2, (.t 39))]) <|
 q 41 (.append 2 32 (.t 30) (.t 40)) <|
 q 4 (.mv (.t 41)) <|
 .keep [0, 4, 5] <|
 q 42 (.mv (.t 0)) <|
 q 43 (.mv (.t 5)) <|
 q 44 (.slice 1 none (.t 42) (some (.t 43)) none none) <|
 q 0 (.mv (.t 44)) <|
 .keep [0, 4] <|
 .done) <|
 .keep [0, 4] <|
 .done)) <|
 q 45 (.mv (.t 0)) <|
 q 46 (.len false (.t 45)) <|
 q 47 (.bin .gtr (.t 46) (ci 0)) <|
 q 48 (.mv (.t 47)) <|
 qg 49 48 false (.mv (.t 4)) <|
 qg 50 48 false (.call F.tlv_May [(.t 49)]) <|
 qg 51 48 false (.un .not (.t 50)) <|
 q 52 (.pick (.t 48) (cb true) (.t 51)) <|
 .keep [4, 52] <|
 .ite (.t 52)
 (q 53 (.mkif T.api_Code (ci 2)) <|
 q 2 (.mv (.c (.slice none 0 0))) <|
 q 3 (.mv (.t 53)) <|
 .keep [2, 3] <|
 .ret)
 (.done) <|
 q 54 (.mv (.t 4)) <|
 q 2 (.mv (.t 54)) <|
 q 3 (.mv (.c (.nilIface))) <|
 .keep [2, 3] <|
 .ret
theorem e_tlv_Get:EF false F.tlv_Get ic_tlv_Get [.t 2,.t 3]:=ef [] Tryz.func60 (by kernel_rfl) (by kernel_rfl) (by kernel_rfl)
def ic_tlv_Of : IC :=
 q 2 (.mv (ci 0)) <|
 q 3 (.mv (.c (.nilIface))) <|
 .keep [0] <|
 q 7 (.mv (.t 0)) <|
 q 8 (.len false (.t 7)) <|
 q 9 (.bin .neq (.t 8) (ci 8)) <|
 .keep [0, 9] <|
 .ite (.t 9)
 (q 10 (.mkif T.api_Code (ci 2)) <|
 q 2 (.mv (ci 0)) <|
 q 3 (.mv (.t 10)) <|
 .keep [2, 3] <|
 .ret)
 (.done) <|
 q 4 (.mv (.c (.int .u64 0))) <|
 .keep [0, 4] <|
 q 11 (.mv (.t 0)) <|
 q 12 (.len false (.t 11)) <|
 q 13 (.mv (ci 0)) <|
 .keep [4, 11, 12, 13] <|
 .block 0
 (.keep [4, 11, 12, 13] <|
 .loop
 (q 14 (.bin .lss (.t 13) (.t 12)) <|
 .keep [4, 11, 12, 13, 14] <|
 .ite (.t 14)
 (.done)
 (.exit 0) <|
 .block 1
 (q 15 (.idxa 1 none (.t 11) (.t 13)) <|
 q 16 (.load false 1 (.t 15)) <|
 q 6 (.mv (.t 16)) <|
 .keep [4, 6, 11, 12, 13] <|
 q 17 (.mv (.t 4)) <|
 q 18 (.bin .shl (.t 17) (.c (.int .u64 8))) <|
 q 19 (.mv (.t 6)) <|
 q 20 (.conv .u64 (.t 19)) <|
 q 21 (.bin .or (.t 18) (.t 20)) <|
 q 4 (.mv (.t 21)) <|
 .keep [4, 11, 12, 13] <|
 .done) <|
 q 22 (.bin .add (.t 13) (ci 1)) <|
 q 13 (.mv (.t 22)) <|
 .keep [4, 11, 12, 13] <|
 .keep [4, 11, 12, 13] <|
 .done)) <|
 q 23 (.mv (.t 4)) <|
 q 24 (.bin .gtr (.t 23) (.c (.int .u64 9223372036854775807))) <|
 .keep [4, 24] <|
 .ite (.t 24)
 (q 25 (.mkif T.api_Code (ci 2)) <|
 q 2 (.mv (ci 0)) <|
 q 3 (.mv (.t 25)) <|
 .keep [2, 3] <|
 .ret)
 (.done) <|
 q 26 (.mv (.t 4)) <|
 q 27 (.conv .i64 (.t 26)) <|
 q 2 (.mv (.t 27)) <|
 q 3 (.mv (.c (.nilIface))) <|
 .keep [2, 3] <|
 .ret
theorem e_tlv_Of:EF false F.tlv_Of ic_tlv_Of [.t 2,.t 3]:=ef [] Tryz.func61 (by kernel_rfl) (by kernel_rfl) (by kernel_rfl)
def ic_tlv_May : IC :=
 q 2 (.mv (cb false)) <|
 .keep [0] <|
 q 3 (.mv (ci 0)) <|
 .keep [0, 3] <|
 q 6 (.mv (.t 0)) <|
 q 7 (.len false (.t 6)) <|
 q 8 (.mv (ci 0)) <|
 .keep [0, 3, 6, 7, 8] <|
 .block 0
 (.keep [0, 3, 6, 7, 8] <|
 .loop
 (q 9 (.bin .lss (.t 8) (.t 7)) <|
 .keep [0, 3, 6, 7, 8, 9] <|
 .ite (.t 9)
 (.done)
 (.exit 0) <|
 .block 1
 (q 10 (.idxa 2 none (.t 6) (.t 8)) <|
 q 11 (.load true 2 (.t 10)) <|
 q 5 (.alloc [.int .i64 0, .slice none 0 0]) <|
 qn (.store 2 (.t 5) (.t 11)) <|
 .keep [0, 3, 5, 6, 7, 8] <|
 q 12 (.fld 0 (.t 5)) <|
 q 13 (.load false 1 (.t 12)) <|
 q 14 (.mv (.t 3)) <|
 q 15 (.bin .leq (.t 13) (.t 14)) <|
 q 16 (.mv (.t 15)) <|
 qg 17 16 false (.fld 0 (.t 5)) <|
 qg 18 16 false (.load false 1 (.t 17)) <|
 qg 19 16 false (.bin .gtr (.t 18) (ci 255)) <|
 q 20 (.pick (.t 16) (cb true) (.t 19)) <|
 q 21 (.mv (.t 20)) <|
 qg 22 21 false (.fld 1 (.t 5)) <|
 qg 23 21 false (.load false 1 (.t 22)) <|
 qg 24 21 false (.len false (.t 23)) <|
 qg 25 21 false (.bin .gtr (.t 24) (ci 65535)) <|
 q 26 (.pick (.t 21) (cb true) (.t 25)) <|
 .keep [0, 5, 6, 7, 8, 26] <|
 .ite (.t 26)
 (q 2 (.mv (cb false)) <|
 .keep [2] <|
 .ret)
 (.done) <|
 q 27 (.fld 0 (.t 5)) <|
 q 28 (.load false 1 (.t 27)) <|
 q 3 (.mv (.t 28)) <|
 .keep [0, 3, 6, 7, 8] <|
 .done) <|
 q 29 (.bin .add (.t 8) (ci 1)) <|
 q 8 (.mv (.t 29)) <|
 .keep [0, 3, 6, 7, 8] <|
 .keep [0, 3, 6, 7, 8] <|
 .done)) <|
 q 30 (.mv (.t 0)) <|
 q 31 (.len false (.t 30)) <|
 q 32 (.bin .leq (.t 31) (ci 64)) <|
 q 2 (.mv (.t 32)) <|
 .keep [2] <|
 .ret
theorem e_tlv_May:EF false F.tlv_May ic_tlv_May [.t 2]:=ef [] Tryz.func88 (by kernel_rfl) (by kernel_rfl) (by kernel_rfl)
end Go.Proofs.YtenfocjhebgoeaaGreat.Eng

