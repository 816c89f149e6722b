/- The code of some functions, as the abstract machine's. Printed by program. -/
import Derived.Test.YtenfocjhebgoeaaGreatMCa
namespace Go.Proofs.YtenfocjhebgoeaaGreat.Eng
open Go Go.Proofs
set_option maxRecDepth 20000
def ic_record_Open : IC :=
 q 2 (.alloc [.int .i64 0, .int .i64 0, .int .i64 0, .int .i64 0, .int .i64 0, .int .i64 0, .int .i64 0, .int .i64 0, .int .u8 0, .int .u8 0, .int .u8 0, .int .u8 0, .int .u8 0, .int .u8 0, .int .u8 0, .int .u8 0, .int .u8 0, .int .u8 0, .int .u8 0, .int .u8 0, .int .u8 0, .int .u8 0, .int .u8 0, .int .u8 0, .int .u8 0, .int .u8 0, .int .u8 0, .int .u8 0, .int .u8 0, .int .u8 0, .int .u8 0, .int .u8 0, .int .u8 0, .int .u8 0, .int .u8 0, .int .u8 0, .int .u8 0, .int .u8 0, .int .u8 0, .int .u8 0, .slice none 0 0]) <|
 q 3 (.alloc (List.replicate 32 (.int .u8 0))) <|
 q 4 (.alloc (List.replicate 8 (.int .u64 0))) <|
 q 5 (.mv (.c (.nilIface))) <|
 .keep [0, 2, 3, 4] <|
 q 10 (.mv (.t 0)) <|
 q 11 (.call F.record_fields [(.t 10), (ci 2)]) <|
 q 6 (.mv (.t 11)) <|
 .keep [2, 3, 4, 6] <|
 q 12 (.mv (.t 6)) <|
 q 13 (.len false (.t 12)) <|
 q 14 (.bin .eql (.t 13) (ci 0)) <|
 .keep [2, 3, 4, 6, 14] <|
 .ite (.t 14)
 (q 15 (.build [.int .i64 0, .int .i64 0, .int .i64 0, .int .i64 0, .int .i64 0, .int .i64 0, .int .i64 0, .int .i64 0, .int .u8 0, .int .u8 0, .int .u8 0, .int .u8 0, .int .u8 0, .int .u8 0, .int .u8 0, .int .u8 0, .int .u8 0, .int .u8 0, .int .u8 0, .int .u8 0, .int .u8 0, .int .u8 0, .int .u8 0, .int .u8 0, .int .u8 0, .int .u8 0, .int .u8 0, .int .u8 0, .int .u8 0, .int .u8 0, .int .u8 0, .int .u8 0, .int .u8 0, .int .u8 0, .int .u8 0, .int .u8 0, .int .u8 0, .int .u8 0, .int .u8 0, .int .u8 0, .slice none 0 0] []) <|
 q 16 (.build (List.replicate 32 (.int .u8 0)) []) <|
 q 17 (.build (List.replicate 8 (.int .u64 0)) []) <|
 q 18 (.mkif T.api_Code (ci 2)) <|
 qn (.store 41 (.t 2) (.t 15)) <|
 qn (.store 32 (.t 3) (.t 16)) <|
 qn (.store 8 (.t 4) (.t 17)) <|
 q 5 (.mv (.t 18)) <|
 .keep [2, 3, 4, 5] <|
 .ret)
 (.done) <|
 q 19 (.mv (.t 6)) <|
 q 20 (.idxa 1 none (.t 19) (ci 0)) <|
 q 21 (.load false 1 (.t 20)) <|
 q 22 (.call F.record_read [(.t 21)]) <|
 q 7 (.alloc [.int .i64 0, .int .i64 0, .int .i64 0, .int .i64 0, .int .i64 0, .int .i64 0, .int .i64 0, .int .i64 0, .int .u8 0, .int .u8 0, .int .u8 0, .int .u8 0, .int .u8 0, .int .u8 0, .int .u8 0, .int .u8 0, .int .u8 0, .int .u8 0, .int .u8 0, .int .u8 0, .int .u8 0, .int .u8 0, .int .u8 0, .int .u8 0, .int .u8 0, .int .u8 0, .int .u8 0, .int .u8 0, .int .u8 0, .int .u8 0, .int .u8 0, .int .u8 0, .int .u8 0, .int .u8 0, .int .u8 0, .int .u8 0, .int .u8 0, .int .u8 0, .int .u8 0, .int .u8 0, .slice none 0 0]) <|
 qn (.store 41 (.t 7) (.t 22)) <|
 .keep [2, 3, 4, 6, 7] <|
 q 24 (.mv (.t 6)) <|
 q 25 (.idxa 1 none (.t 24) (ci 1)) <|
 q 26 (.load false 1 (.t 25)) <|
 q 27 (.call F.sign_Parse [(.t 26)]) <|
 q 23 (.mv (.t 27)) <|
 q 28 (.ext (.t 23) 0) <|
 q 29 (.ext (.t 23) 1) <|
 q 8 (.alloc (List.replicate 8 (.int .u64 0))) <|
 qn (.store 8 (.t 8) (.t 28)) <|
 q 9 (.mv (.t 29)) <|
 .keep [2, 3, 4, 6, 7, 8, 9] <|
 q 30 (.mv (.t 9)) <|
 q 31 (.eq true .i (.t 30) (.c (.nilIface))) <|
 q 32 (.mv (.t 31)) <|
 qg 33 32 false (.load true 41 (.t 7)) <|
 qg 34 32 false (.call F.record_May [(.t 33)]) <|
 qg 35 32 false (.un .not (.t 34)) <|
 q 36 (.pick (.t 32) (cb true) (.t 35)) <|
 .keep [2, 3, 4, 6, 7, 8, 36] <|
 .ite (.t 36)
 (q 37 (.build [.int .i64 0, .int .i64 0, .int .i64 0, .int .i64 0, .int .i64 0, .int .i64 0, .int .i64 0, .int .i64 0, .int .u8 0, .int .u8 0, .int .u8 0, .int .u8 0, .int .u8 0, .int .u8 0, .int .u8 0, .int .u8 0, .int .u8 0, .int .u8 0, .int .u8 0, .int .u8 0, .int .u8 0, .int .u8 0, .int .u8 0, .int .u8 0, .int .u8 0, .int .u8 0, .int .u8 0, .int .u8 0, .int .u8 0, .int .u8 0, .int .u8 0, .int .u8 0, .int .u8 0, .int .u8 0, .int .u8 0, .int .u8 0, .int .u8 0, .int .u8 0, .int .u8 0, .int .u8 0, .slice none 0 0] []) <|
 q 38 (.build (List.replicate 32 (.int .u8 0)) []) <|
 q 39 (.build (List.replicate 8 (.int .u64 0)) []) <|
 q 40 (.mkif T.api_Code (ci 2)) <|
 qn (.store 41 (.t 2) (.t 37)) <|
 qn (.store 32 (.t 3) (.t 38)) <|
 qn (.store 8 (.t 4) (.t 39)) <|
 q 5 (.mv (.t 40)) <|
 .keep [2, 3, 4, 5] <|
 .ret)
 (.done) <|
 .reg 0
 [xe 41 (.load true 41 (.t 7)) [],
 xe 42 (.mv (.t 6)) [],
 xe 43 (.idxa 1 none (.t 42) (ci 0)) [],
 xe 44 (.load false 1 (.t 43)) [],
 xe 45 (.call F.sha_Sum [(.t 44)]) [],
 xe 46 (.load true 8 (.t 8)) [],
 xln (.store 41 (.t 2) (.t 41)) [(.t 8)],
 xln (.store 32 (.t 3) (.t 45)) [(.t 8)],
 xln (.store 8 (.t 4) (.t 46)) [],
 xl 5 (.mv (.c (.nilIface))) []] <|
 .keep [2, 3, 4, 5] <|
 .ret
theorem e_record_Open:EF false F.record_Open ic_record_Open [.c 2 true 41,.c 3 true 32,.c 4 true 8,.t 5]:=ef [] Tryz.func21 (by kernel_rfl) (by kernel_rfl) (by kernel_rfl)
def ic_record_Check : IC :=
 q 3 (.box (.t 1)) <|
 q 4 (.alloc [.int .i64 0, .int .i64 0, .int .i64 0, .int .i64 0, .int .i64 0, .int .i64 0, .int .i64 0, .int .i64 0, .int .u8 0, .int .u8 0, .int .u8 0, .int .u8 0, .int .u8 0, .int .u8 0, .int .u8 0, .int .u8 0, .int .u8 0, .int .u8 0, .int .u8 0, .int .u8 0, .int .u8 0, .int .u8 0, .int .u8 0, .int .u8 0, .int .u8 0, .int .u8 0, .int .u8 0, .int .u8 0, .int .u8 0, .int .u8 0, .int .u8 0, .int .u8 0, .int .u8 0, .int .u8 0, .int .u8 0, .int .u8 0, .int .u8 0, .int .u8 0, .int .u8 0, .int .u8 0, .slice none 0 0]) <|
 q 5 (.mv (.c (.nilIface))) <|
 .keep [0, 3, 4] <|
 q 11 (.mv (.t 0)) <|
 q 12 (.call F.record_Open [(.t 11)]) <|
 q 10 (.mv (.t 12)) <|
 q 13 (.ext (.t 10) 0) <|
 q 14 (.ext (.t 10) 1) <|
 q 15 (.ext (.t 10) 2) <|
 q 16 (.ext (.t 10) 3) <|
 q 6 (.alloc [.int .i64 0, .int .i64 0, .int .i64 0, .int .i64 0, .int .i64 0, .int .i64 0, .int .i64 0, .int .i64 0, .int .u8 0, .int .u8 0, .int .u8 0, .int .u8 0, .int .u8 0, .int .u8 0, .int .u8 0, .int .u8 0, .int .u8 0, .int .u8 0, .int .u8 0, .int .u8 0, .int .u8 0, .int .u8 0, .int .u8 0, .int .u8 0, .int .u8 0, .int .u8 0, .int .u8 0, .int .u8 0, .int .u8 0, .int .u8 0, .int .u8 0, .int .u8 0, .int .u8 0, .int .u8 0, .int .u8 0, .int .u8 0, .int .u8 0, .int .u8 0, .int .u8 0, .int .u8 0, .slice none 0 0]) <|
 q 7 (.alloc (List.replicate 32 (.int .u8 0))) <|
 q 8 (.alloc (List.replicate 8 (.int .u64 0))) <|
 qn (.store 41 (.t 6) (.t 13)) <|
 qn (.store 32 (.t 7) (.t 14)) <|
 qn (.store 8 (.t 8) (.t 15)) <|
 q 9 (.mv (.t 16)) <|
 .keep [3, 4, 6, 7, 8, 9] <|
 .block 0
 (q 18 (.mv (.t 9)) <|
 q 19 (.eq true .i (.t 18) (.c (.nilIface))) <|
 q 17 (.mv (.t 19)) <|
 .keep [3, 4, 6, 7, 8, 9, 17] <|
 .ite (.t 17)
 (q 20 (.build [.int .i64 0, .int .i64 0, .int .i64 0, .int .i64 0, .int .i64 0, .int .i64 0, .int .i64 0, .int .i64 0, .int .u8 0, .int .u8 0, .int .u8 0, .int .u8 0, .int .u8 0, .int .u8 0, .int .u8 0, .int .u8 0, .int .u8 0, .int .u8 0, .int .u8 0, .int .u8 0, .int .u8 0, .int .u8 0, .int .u8 0, .int .u8 0, .int .u8 0, .int .u8 0, .int .u8 0, .int .u8 0, .int .u8 0, .int .u8 0, .int .u8 0, .int .u8 0, .int .u8 0, .int .u8 0, .int .u8 0, .int .u8 0, .int .u8 0, .int .u8 0, .int .u8 0, .int .u8 0, .slice none 0 0] []) <|
 q 21 (.mv (.t 9)) <|
 qn (.store 41 (.t 4) (.t 20)) <|
 q 5 (.mv (.t 21)) <|
 .keep [4, 5] <|
 .ret)
 (q 23 (.load true 9 (.t 3)) <|
 q 24 (.load true 32 (.t 7)) <|
 q 25 (.load true 8 (.t 8)) <|
 q 26 (.call F.sign_Verify [(.t 23), (.t 24), (.t 25)]) <|
 q 27 (.un .not (.t 26)) <|
 q 22 (.mv (.t 27)) <|
 .keep [4, 6, 22] <|
 .ite (.t 22)
 (q 28 (.build [.int .i64 0, .int .i64 0, .int .i64 0, .int .i64 0, .int .i64 0, .int .i64 0, .int .i64 0, .int .i64 0, .int .u8 0, .int .u8 0, .int .u8 0, .int .u8 0, .int .u8 0, .int .u8 0, .int .u8 0, .int .u8 0, .int .u8 0, .int .u8 0, .int .u8 0, .int .u8 0, .int .u8 0, .int .u8 0, .int .u8 0, .int .u8 0, .int .u8 0, .int .u8 0, .int .u8 0, .int .u8 0, .int .u8 0, .int .u8 0, .int .u8 0, .int .u8 0, .int .u8 0, .int .u8 0, .int .u8 0, .int .u8 0, .int .u8 0, .int .u8 0, .int .u8 0, .int .u8 0, .slice none 0 0] []) <|
 q 29 (.mkif T.api_Code (ci 8)) <|
 qn (.store 41 (.t 4) (.t 28)) <|
 q 5 (.mv (.t 29)) <|
 .keep [4, 5] <|
 .ret)
 (.done) <|
 .done) <|
 .done) <|
 q 30 (.load true 41 (.t 6)) <|
 qn (.store 41 (.t 4) (.t 30)) <|
 q 5 (.mv (.c (.nilIface))) <|
 .keep [4, 5] <|
 .ret
theorem e_record_Check:EF false F.record_Check ic_record_Check [.c 4 true 41,.t 5]:=ef [] Tryz.func26 (by kernel_rfl) (by kernel_rfl) (by kernel_rfl)
def ic_record_fields : IC :=
 q 4 (.mv (.c (.slice none 0 0))) <|
 .keep [0, 1] <|
 q 11 (.mv (.t 0)) <|
 q 12 (.call F.tlv_Get [(.t 11)]) <|
 q 10 (.mv (.t 12)) <|
 q 13 (.ext (.t 10) 0) <|
 q 14 (.ext (.t 10) 1) <|
 q 5 (.mv (.t 13)) <|
 q 6 (.mv (.t 14)) <|
 .keep [1, 5, 6] <|
 q 15 (.mv (.t 6)) <|
 q 16 (.eq true .i (.t 15) (.c (.nilIface))) <|
 q 17 (.mv (.t 16)) <|
 qg 18 17 false (.mv (.t 5)) <|
 qg 19 17 false (.len false (.t 18)) <|
 qg 20 17 false (.mv (.t 1)) <|
 qg 21 17 false (.bin .neq (.t 19) (.t 20)) <|
 q 22 (.pick (.t 17) (cb true) (.t 21)) <|
 .keep [5, 22] <|
 .ite (.t 22)
 (q 4 (.mv (.c (.slice none 0 0))) <|
 .keep [4] <|
 .ret)
 (.done) <|
 q 7 (.mv (.c (.slice none 0 0))) <|
 .keep [5, 7] <|
 q 23 (.mv (.t 5)) <|
 q 24 (.len false (.t 23)) <|
 q 25 (.mv (ci 0)) <|
 .keep [7, 23, 24, 25] <|
 .block 0
 (.keep [7, 23, 24, 25] <|
 .loop
 (q 26 (.bin .lss (.t 25) (.t 24)) <|
 .keep [7, 23, 24, 25, 26] <|
 .ite (.t 26)
 (.done)
 (.exit 0) <|
 .block 1
 (q 27 (.mv (.t 25)) <|
 q 28 (.idxa 2 none (.t 23) (.t 25)) <|
 q 29 (.load true 2 (.t 28)) <|
 q 9 (.alloc [.int .i64 0, .slice none 0 0]) <|
 q 8 (.mv (.t 27)) <|
 qn (.store 2 (.t 9) (.t 29)) <|
 .keep [7, 8, 9, 23, 24, 25] <|
 q 30 (.fld 0 (.t 9)) <|
 q 31 (.load false 1 (.t 30)) <|
 q 32 (.mv (.t 8)) <|
 q 33 (.bin .add (.t 32) (ci 1)) <|
 q 34 (.bin .neq (.t 31) (.t 33)) <|
 .keep [7, 9, 23, 24, 25, 34] <|
 .ite (.t 34)
 (q 4 (.mv (.c (.slice none 0 0))) <|
 .keep [4] <|
 .ret)
 (.done) <|
 q 35 (.mv (.t 7)) <|
 q 36 (.fld 1 (.t 9)) <|
 q 37 (.load false 1 (.t 36)) <|
 q 38 (.bslice false 1 1 [.slice none 0 0] [(0, 1, (.t 37))]) <|
 q 39 (.append 1 24 (.t 35) (.t 38)) <|
 q 7 (.mv (.t 39)) <|
 .keep [7, 23, 24, 25] <|
 .done) <|
 q 40 (.bin .add (.t 25) (ci 1)) <|
 q 25 (.mv (.t 40)) <|
 .keep [7, 23, 24, 25] <|
 .keep [7, 23, 24, 25] <|
 .done)) <|
 q 41 (.mv (.t 7)) <|
 q 4 (.mv (.t 41)) <|
 .keep [4] <|
 .ret
theorem e_record_fields:EF false F.record_fields ic_record_fields [.t 4]:=ef [] Tryz.func40 (by kernel_rfl) (by kernel_rfl) (by kernel_rfl)
def ic_record_read : IC :=
 q 2 (.alloc [.int .i64 0, .int .i64 0, .int .i64 0, .int .i64 0, .int .i64 0, .int .i64 0, .int .i64 0, .int .i64 0, .int .u8 0, .int .u8 0, .int .u8 0, .int .u8 0, .int .u8 0, .int .u8 0, .int .u8 0, .int .u8 0, .int .u8 0, .int .u8 0, .int .u8 0, .int .u8 0, .int .u8 0, .int .u8 0, .int .u8 0, .int .u8 0, .int .u8 0, .int .u8 0, .int .u8 0, .int .u8 0, .int .u8 0, .int .u8 0, .int .u8 0, .int .u8 0, .int .u8 0, .int .u8 0, .int .u8 0, .int .u8 0, .int .u8 0, .int .u8 0, .int .u8 0, .int .u8 0, .slice none 0 0]) <|
 .keep [0, 2] <|
 q 9 (.mv (.t 0)) <|
 q 10 (.call F.record_fields [(.t 9), (ci 10)]) <|
 q 3 (.mv (.t 10)) <|
 .keep [2, 3] <|
 q 11 (.mv (.t 3)) <|
 q 12 (.len false (.t 11)) <|
 q 13 (.bin .eql (.t 12) (ci 0)) <|
 q 14 (.mv (.t 13)) <|
 qg 15 14 false (.mv (.t 3)) <|
 qg 16 14 false (.idxa 1 none (.t 15) (ci 8)) <|
 qg 17 14 false (.load false 1 (.t 16)) <|
 qg 18 14 false (.len false (.t 17)) <|
 qg 19 14 false (.bin .neq (.t 18) (ci 32)) <|
 q 20 (.pick (.t 14) (cb true) (.t 19)) <|
 .keep [2, 3, 20] <|
 .ite (.t 20)
 (q 21 (.build [.int .i64 0, .int .i64 0, .int .i64 0, .int .i64 0, .int .i64 0, .int .i64 0, .int .i64 0, .int .i64 0, .int .u8 0, .int .u8 0, .int .u8 0, .int .u8 0, .int .u8 0, .int .u8 0, .int .u8 0, .int .u8 0, .int .u8 0, .int .u8 0, .int .u8 0, .int .u8 0, .int .u8 0, .int .u8 0, .int .u8 0, .int .u8 0, .int .u8 0, .int .u8 0, .int .u8 0, .int .u8 0, .int .u8 0, .int .u8 0, .int .u8 0, .int .u8 0, .int .u8 0, .int .u8 0, .int .u8 0, .int .u8 0, .int .u8 0, .int .u8 0, .int .u8 0, .int .u8 0, .slice none 0 0] []) <|
 qn (.store 41 (.t 2) (.t 21)) <|
 .keep [2] <|
 .ret)
 (.done) <|
 q 4 (.alloc (List.replicate 8 (.int .i64 0))) <|
 .keep [2, 3, 4] <|
 q 22 (.mv (ci 0)) <|
 .keep [2, 3, 4, 22] <|
 .block 0
 (.keep [2, 3, 4, 22] <|
 .loop
 (q 23 (.bin .lss (.t 22) (ci 8)) <|
 .keep [2, 3, 4, 22, 23] <|
 .ite (.t 23)
 (.done)
 (.exit 0) <|
 .block 1
 (q 24 (.mv (.t 22)) <|
 q 5 (.mv (.t 24)) <|
 .keep [2, 3, 4, 5, 22] <|
 q 26 (.mv (.t 3)) <|
 q 27 (.mv (.t 5)) <|
 q 28 (.idxa 1 none (.t 26) (.t 27)) <|
 q 29 (.load false 1 (.t 28)) <|
 q 30 (.call F.tlv_Of [(.t 29)]) <|
 q 25 (.mv (.t 30)) <|
 q 31 (.ext (.t 25) 0) <|
 q 32 (.ext (.t 25) 1) <|
 q 6 (.mv (.t 31)) <|
 q 7 (.mv (.t 32)) <|
 .keep [2, 3, 4, 5, 6, 7, 22] <|
 q 33 (.mv (.t 7)) <|
 q 34 (.eq true .i (.t 33) (.c (.nilIface))) <|
 .keep [2, 3, 4, 5, 6, 22, 34] <|
 .ite (.t 34)
 (q 35 (.build [.int .i64 0, .int .i64 0, .int .i64 0, .int .i64 0, .int .i64 0, .int .i64 0, .int .i64 0, .int .i64 0, .int .u8 0, .int .u8 0, .int .u8 0, .int .u8 0, .int .u8 0, .int .u8 0, .int .u8 0, .int .u8 0, .int .u8 0, .int .u8 0, .int .u8 0, .int .u8 0, .int .u8 0, .int .u8 0, .int .u8 0, .int .u8 0, .int .u8 0, .int .u8 0, .int .u8 0, .int .u8 0, .int .u8 0, .int .u8 0, .int .u8 0, .int .u8 0, .int .u8 0, .int .u8 0, .int .u8 0, .int .u8 0, .int .u8 0, .int .u8 0, .int .u8 0, .int .u8 0, .slice none 0 0] []) <|
 qn (.store 41 (.t 2) (.t 35)) <|
 .keep [2] <|
 .ret)
 (.done) <|
 q 36 (.mv (.t 5)) <|
 q 37 (.mv (.t 6)) <|
 q 38 (.idxa 1 (some 8) (.t 4) (.t 36)) <|
 qn (.store 1 (.t 38) (.t 37)) <|
 .keep [2, 3, 4, 22] <|
 .done) <|
 q 39 (.bin .add (.t 22) (ci 1)) <|
 q 22 (.mv (.t 39)) <|
 .keep [2, 3, 4, 22] <|
 .keep [2, 3, 4, 22] <|
 .done)) <|
 .reg 1
 [xe 40 (.idxa 1 (some 8) (.t 4) (ci 0)) [],
 xe 41 (.load false 1 (.t 40)) [],
 xe 42 (.idxa 1 (some 8) (.t 4) (ci 1)) [],
 xe 43 (.load false 1 (.t 42)) [],
 xe 44 (.idxa 1 (some 8) (.t 4) (ci 2)) [],
 xe 45 (.load false 1 (.t 44)) [],
 xe 46 (.idxa 1 (some 8) (.t 4) (ci 3)) [],
 xe 47 (.load false 1 (.t 46)) [],
 xe 48 (.idxa 1 (some 8) (.t 4) (ci 4)) [],
 xe 49 (.load false 1 (.t 48)) [],
 xe 50 (.idxa 1 (some 8) (.t 4) (ci 5)) [],
 xe 51 (.load false 1 (.t 50)) [],
 xe 52 (.idxa 1 (some 8) (.t 4) (ci 6)) [],
 xe 53 (.load false 1 (.t 52)) [],
 xe 54 (.idxa 1 (some 8) (.t 4) (ci 7)) [],
 xe 55 (.load false 1 (.t 54)) [],
 xe 56 (.mv (.t 3)) [],
 xe 57 (.idxa 1 none (.t 56) (ci 8)) [],
 xe 58 (.load false 1 (.t 57)) [],
 xe 59 (.s2ap 32 1 (.t 58)) [],
 xe 60 (.load true 32 (.t 59)) [],
 xe 61 (.build [.int .i64 0, .int .i64 0, .int .i64 0, .int .i64 0, .int .i64 0, .int .i64 0, .int .i64 0, .int .i64 0, .int .u8 0, .int .u8 0, .int .u8 0, .int .u8 0, .int .u8 0, .int .u8 0, .int .u8 0, .int .u8 0, .int .u8 0, .int .u8 0, .int .u8 0, .int .u8 0, .int .u8 0, .int .u8 0, .int .u8 0, .int .u8 0, .int .u8 0, .int .u8 0, .int .u8 0, .int .u8 0, .int .u8 0, .int .u8 0, .int .u8 0, .int .u8 0, .int .u8 0, .int .u8 0, .int .u8 0, .int .u8 0, .int .u8 0, .int .u8 0, .int .u8 0, .int .u8 0, .slice none 0 0] [(0, 1, (.t 41)), (1, 1, (.t 43)), (2, 1, (.t 45)), (3, 1, (.t 47)), (4, 1, (.t 49)), (5, 1, (.t 51)), (6, 1, (.t 53)), (7, 1, (.t 55)), (8, 32, (.t 60))]) [],
 xa 0 8 (.alloc [.int .i64 0, .int .i64 0, .int .i64 0, .int .i64 0, .int .i64 0, .int .i64 0, .int .i64 0, .int .i64 0, .int .u8 0, .int .u8 0, .int .u8 0, .int .u8 0, .int .u8 0, .int .u8 0, .int .u8 0, .int .u8 0, .int .u8 0, .int .u8 0, .int .u8 0, .int .u8 0, .int .u8 0, .int .u8 0, .int .u8 0, .int .u8 0, .int .u8 0, .int .u8 0, .int .u8 0, .int .u8 0, .int .u8 0, .int .u8 0, .int .u8 0, .int .u8 0, .int .u8 0, .int .u8 0, .int .u8 0, .int .u8 0, .int .u8 0, .int .u8 0, .int .u8 0, .int .u8 0, .slice none 0 0]),
 xln (.store 41 (.t 8) (.t 61)) []] <|
 .keep [2, 3, 8] <|
 q 62 (.mv (.t 3)) <|
 q 63 (.idxa 1 none (.t 62) (ci 9)) <|
 q 64 (.load false 1 (.t 63)) <|
 q 65 (.len false (.t 64)) <|
 q 66 (.bin .gtr (.t 65) (ci 0)) <|
 .keep [2, 3, 8, 66] <|
 .ite (.t 66)
 (q 67 (.mv (.t 3)) <|
 q 68 (.idxa 1 none (.t 67) (ci 9)) <|
 q 69 (.load false 1 (.t 68)) <|
 q 70 (.fld 40 (.t 8)) <|
 qn (.store 1 (.t 70) (.t 69)) <|
 .keep [2, 8] <|
 .done)
 (.done) <|
 q 71 (.load true 41 (.t 8)) <|
 qn (.store 41 (.t 2) (.t 71)) <|
 .keep [2] <|
 .ret
theorem e_record_read:EF false F.record_read ic_record_read [.c 2 true 41]:=ef [] Tryz.func41 (by kernel_rfl) (by kernel_rfl) (by kernel_rfl)
def ic_record_May_39 : IC :=
 q 39 (.mv (.t 3)) <|
 q 40 (.mv (.t 39)) <|
 qg 41 40 true (.mv (.t 4)) <|
 q 42 (.pick (.t 40) (.t 41) (cb false)) <|
 q 43 (.mv (.t 42)) <|
 qg 44 43 true (.fld 0 (.t 1)) <|
 qg 45 43 true (.load false 1 (.t 44)) <|
 qg 46 43 true (.call F.record_within [(.t 45), (ci 1), (ci 2147483647)]) <|
 q 47 (.pick (.t 43) (.t 46) (cb false)) <|
 q 48 (.mv (.t 47)) <|
 qg 49 48 true (.fld 1 (.t 1)) <|
 qg 50 48 true (.load false 1 (.t 49)) <|
 qg 51 48 true (.call F.record_within [(.t 50), (ci 0), (ci 1073741824)]) <|
 q 52 (.pick (.t 48) (.t 51) (cb false)) <|
 q 53 (.mv (.t 52)) <|
 qg 54 53 true (.fld 2 (.t 1)) <|
 qg 55 53 true (.load false 1 (.t 54)) <|
 qg 56 53 true (.call F.record_within [(.t 55), (ci 0), (ci 1073741824)]) <|
 q 57 (.pick (.t 53) (.t 56) (cb false)) <|
 q 58 (.mv (.t 57)) <|
 qg 59 58 true (.fld 6 (.t 1)) <|
 qg 60 58 true (.load false 1 (.t 59)) <|
 qg 61 58 true (.call F.record_within [(.t 60), (ci 0), (ci 2147483647)]) <|
 q 62 (.pick (.t 58) (.t 61) (cb false)) <|
 q 2 (.mv (.t 62)) <|
 .keep [2] <|
 .ret
def ic_record_May : IC :=
 q 1 (.box (.t 0)) <|
 q 2 (.mv (cb false)) <|
 .keep [1] <|
 q 5 (.fld 4 (.t 1)) <|
 q 6 (.load false 1 (.t 5)) <|
 q 7 (.call F.record_within [(.t 6), (ci 0), (ci 31)]) <|
 q 8 (.mv (.t 7)) <|
 qg 9 8 true (.fld 5 (.t 1)) <|
 qg 10 8 true (.load false 1 (.t 9)) <|
 qg 11 8 true (.call F.record_within [(.t 10), (ci 0), (ci 7)]) <|
 q 12 (.pick (.t 8) (.t 11) (cb false)) <|
 q 3 (.mv (.t 12)) <|
 .keep [1, 3] <|
 q 13 (.fld 7 (.t 1)) <|
 q 14 (.load false 1 (.t 13)) <|
 q 15 (.bin .eql (.t 14) (ci 0)) <|
 q 16 (.mv (.t 15)) <|
 qg 17 16 true (.fld 40 (.t 1)) <|
 qg 18 16 true (.load false 1 (.t 17)) <|
 qg 19 16 true (.len false (.t 18)) <|
 qg 20 16 true (.bin .eql (.t 19) (ci 0)) <|
 q 21 (.pick (.t 16) (.t 20) (cb false)) <|
 q 22 (.mv (.t 21)) <|
 qg 23 22 true (.fld 3 (.t 1)) <|
 qg 24 22 true (.load false 1 (.t 23)) <|
 qg 25 22 true (.call F.record_within [(.t 24), (ci 2), (ci 3)]) <|
 q 26 (.pick (.t 22) (.t 25) (cb false)) <|
 q 4 (.mv (.t 26)) <|
 .keep [1, 3, 4] <|
 q 27 (.fld 3 (.t 1)) <|
 q 28 (.load false 1 (.t 27)) <|
 q 29 (.bin .eql (.t 28) (ci 1)) <|
 .keep [1, 3, 4, 29] <|
 .ite (.t 29)
 (q 30 (.fld 7 (.t 1)) <|
 q 31 (.load false 1 (.t 30)) <|
 q 32 (.call F.record_within [(.t 31), (ci 1), (ci 7)]) <|
 q 33 (.mv (.t 32)) <|
 qg 34 33 true (.fld 40 (.t 1)) <|
 qg 35 33 true (.load false 1 (.t 34)) <|
 qg 36 33 true (.len false (.t 35)) <|
 qg 37 33 true (.bin .leq (.t 36) (ci 500)) <|
 q 38 (.pick (.t 33) (.t 37) (cb false)) <|
 q 4 (.mv (.t 38)) <|
 .keep [1, 3, 4] <|
 .done)
 (.done) <|
 ic_record_May_39
theorem e_record_May:EF false F.record_May ic_record_May [.t 2]:=ef [] Tryz.func43 (by kernel_rfl) (by kernel_rfl) (by kernel_rfl)
def ic_record_within : IC :=
 q 6 (.mv (cb false)) <|
 .keep [0, 1, 2] <|
 q 7 (.mv (.t 0)) <|
 q 8 (.mv (.t 1)) <|
 q 9 (.bin .geq (.t 7) (.t 8)) <|
 q 10 (.mv (.t 9)) <|
 qg 11 10 true (.mv (.t 0)) <|
 qg 12 10 true (.mv (.t 2)) <|
 qg 13 10 true (.bin .leq (.t 11) (.t 12)) <|
 q 14 (.pick (.t 10) (.t 13) (cb false)) <|
 q 6 (.mv (.t 14)) <|
 .keep [6] <|
 .ret
theorem e_record_within:EF false F.record_within ic_record_within [.t 6]:=ef [] Tryz.func63 (by kernel_rfl) (by kernel_rfl) (by kernel_rfl)
def ic_clapperref14_Few : IC :=
 q 2 (.mv (cb false)) <|
 .keep [0] <|
 q 3 (.mv (ci 0)) <|
 .keep [0, 3] <|
 .block 0
 (.keep [0, 3] <|
 .loop
 (q 4 (.mv (.t 3)) <|
 q 5 (.mv (.t 0)) <|
 q 6 (.len false (.t 5)) <|
 q 7 (.bin .lss (.t 4) (.t 6)) <|
 .keep [0, 3, 7] <|
 .ite (.t 7)
 (.done)
 (.exit 0) <|
 .block 1
 (q 10 (.mv (.t 0)) <|
 q 11 (.mv (.t 3)) <|
 q 12 (.idxa 7 none (.t 10) (.t 11)) <|
 q 13 (.fld 2 (.t 12)) <|
 q 14 (.fld 3 (.t 13)) <|
 q 15 (.load false 1 (.t 14)) <|
 q 16 (.len false (.t 15)) <|
 q 17 (.bin .gtr (.t 16) (ci 300)) <|
 q 18 (.mv (.t 17)) <|
 qg 19 18 false (.mv (.t 0)) <|
 qg 20 18 false (.mv (.t 3)) <|
 qg 21 18 false (.idxa 7 none (.t 19) (.t 20)) <|
 qg 22 18 false (.fld 2 (.t 21)) <|
 qg 23 18 false (.fld 4 (.t 22)) <|
 qg 24 18 false (.load false 1 (.t 23)) <|
 qg 25 18 false (.len false (.t 24)) <|
 qg 26 18 false (.bin .gtr (.t 25) (ci 300)) <|
 q 27 (.pick (.t 18) (cb true) (.t 26)) <|
 .keep [0, 3, 27] <|
 .ite (.t 27)
 (q 2 (.mv (cb false)) <|
 .keep [2] <|
 .ret)
 (.done) <|
 .done) <|
 q 8 (.mv (.t 3)) <|
 q 9 (.bin .add (.t 8) (ci 1)) <|
 q 3 (.mv (.t 9)) <|
 .keep [0, 3] <|
 .keep [0, 3] <|
 .done)) <|
 q 28 (.mv (.t 0)) <|
 q 29 (.len false (.t 28)) <|
 q 30 (.bin .leq (.t 29) (ci 60)) <|
 q 2 (.mv (.t 30)) <|
 .keep [2] <|
 .ret
theorem e_clapperref14_Few:EF false F.clapperref14_Few ic_clapperref14_Few [.t 2]:=ef [] Tryz.func20 (by kernel_rfl) (by kernel_rfl) (by kernel_rfl)
def ic_keys_Find : IC :=
 q 6 (.alloc [.int .u64 0, .int .u64 0, .int .u64 0, .int .u64 0, .int .u64 0, .int .u64 0, .int .u64 0, .int .u64 0, .bool false]) <|
 q 7 (.mv (cb false)) <|
 .keep [0, 1, 2, 6] <|
 q 8 (.mv (.t 0)) <|
 q 9 (.call F.keys_May [(.t 8)]) <|
 q 10 (.un .not (.t 9)) <|
 .keep [0, 1, 2, 6, 10] <|
 .ite (.t 10)
 (q 11 (.build [.int .u64 0, .int .u64 0, .int .u64 0, .int .u64 0, .int .u64 0, .int .u64 0, .int .u64 0, .int .u64 0, .bool false] []) <|
 qn (.store 9 (.t 6) (.t 11)) <|
 q 7 (.mv (cb false)) <|
 .keep [6, 7] <|
 .ret)
 (.done) <|
 q 12 (.mv (.t 0)) <|
 q 13 (.mv (.t 1)) <|
 q 14 (.mv (.t 2)) <|
 q 15 (.call F.keys_find [(.t 12), (.t 13), (.t 14)]) <|
 q 16 (.ext (.t 15) 0) <|
 q 17 (.ext (.t 15) 1) <|
 qn (.store 9 (.t 6) (.t 16)) <|
 q 7 (.mv (.t 17)) <|
 .keep [6, 7] <|
 .ret
theorem e_keys_Find:EF false F.keys_Find ic_keys_Find [.c 6 true 9,.t 7]:=ef [] Tryz.func24 (by kernel_rfl) (by kernel_rfl) (by kernel_rfl)
def ic_clapperref10_Same : IC :=
 q 4 (.mv (cb false)) <|
 .keep [0, 1] <|
 q 6 (.mv (.t 0)) <|
 q 7 (.len false (.t 6)) <|
 q 8 (.mv (.t 1)) <|
 q 9 (.len false (.t 8)) <|
 q 10 (.bin .neq (.t 7) (.t 9)) <|
 .keep [0, 1, 10] <|
 .ite (.t 10)
 (q 4 (.mv (cb false)) <|
 .keep [4] <|
 .ret)
 (.done) <|
 q 5 (.mv (ci 0)) <|
 .keep [0, 1, 5] <|
 .block 0
 (.keep [0, 1, 5] <|
 .loop
 (q 11 (.mv (.t 5)) <|
 q 12 (.mv (.t 0)) <|
 q 13 (.len false (.t 12)) <|
 q 14 (.bin .lss (.t 11) (.t 13)) <|
 .keep [0, 1, 5, 14] <|
 .ite (.t 14)
 (.done)
 (.exit 0) <|
 .block 1
 (q 17 (.mv (.t 0)) <|
 q 18 (.mv (.t 5)) <|
 q 19 (.idxa 12 none (.t 17) (.t 18)) <|
 q 20 (.load true 12 (.t 19)) <|
 q 21 (.mv (.t 1)) <|
 q 22 (.mv (.t 5)) <|
 q 23 (.idxa 12 none (.t 21) (.t 22)) <|
 q 24 (.load true 12 (.t 23)) <|
 q 25 (.eqagg [(some .i64), (some .u64), (some .u64), (some .u64), (some .u64), (some .u64), (some .u64), (some .u64), (some .u64), none, (some .i64), (some .i64)] true (.t 20) (.t 24)) <|
 .keep [0, 1, 5, 25] <|
 .ite (.t 25)
 (q 4 (.mv (cb false)) <|
 .keep [4] <|
 .ret)
 (.done) <|
 .done) <|
 q 15 (.mv (.t 5)) <|
 q 16 (.bin .add (.t 15) (ci 1)) <|
 q 5 (.mv (.t 16)) <|
 .keep [0, 1, 5] <|
 .keep [0, 1, 5] <|
 .done)) <|
 q 4 (.mv (cb true)) <|
 .keep [4] <|
 .ret
theorem e_clapperref10_Same:EF false F.clapperref10_Same ic_clapperref10_Same [.t 4]:=ef [] Tryz.func31 (by kernel_rfl) (by kernel_rfl) (by kernel_rfl)
def ic_clapperref11_Same : IC :=
 q 4 (.mv (cb false)) <|
 .keep [0, 1] <|
 q 6 (.mv (.t 0)) <|
 q 7 (.len false (.t 6)) <|
 q 8 (.mv (.t 1)) <|
 q 9 (.len false (.t 8)) <|
 q 10 (.bin .neq (.t 7) (.t 9)) <|
 .keep [0, 1, 10] <|
 .ite (.t 10)
 (q 4 (.mv (cb false)) <|
 .keep [4] <|
 .ret)
 (.done) <|
 q 5 (.mv (ci 0)) <|
 .keep [0, 1, 5] <|
 .block 0
 (.keep [0, 1, 5] <|
 .loop
 (q 11 (.mv (.t 5)) <|
 q 12 (.mv (.t 0)) <|
 q 13 (.len false (.t 12)) <|
 q 14 (.bin .lss (.t 11) (.t 13)) <|
 .keep [0, 1, 5, 14] <|
 .ite (.t 14)
 (.done)
 (.exit 0) <|
 .block 1
 (q 17 (.mv (.t 0)) <|
 q 18 (.mv (.t 5)) <|
 q 19 (.idxa 2 none (.t 17) (.t 18)) <|
 q 20 (.load true 2 (.t 19)) <|
 q 21 (.mv (.t 1)) <|
 q 22 (.mv (.t 5)) <|
 q 23 (.idxa 2 none (.t 21) (.t 22)) <|
 q 24 (.load true 2 (.t 23)) <|
 q 25 (.eqagg [(some .i64), (some .i64)] true (.t 20) (.t 24)) <|
 .keep [0, 1, 5, 25] <|
 .ite (.t 25)
 (q 4 (.mv (cb false)) <|
 .keep [4] <|
 .ret)
 (.done) <|
 .done) <|
 q 15 (.mv (.t 5)) <|
 q 16 (.bin .add (.t 15) (ci 1)) <|
 q 5 (.mv (.t 16)) <|
 .keep [0, 1, 5] <|
 .keep [0, 1, 5] <|
 .done)) <|
 q 4 (.mv (cb true)) <|
 .keep [4] <|
 .ret
theorem e_clapperref11_Same:EF false F.clapperref11_Same ic_clapperref11_Same [.t 4]:=ef [] Tryz.func32 (by kernel_rfl) (by kernel_rfl) (by kernel_rfl)
def ic_keys_May : IC :=
 q 2 (.mv (cb false)) <|
 .keep [0] <|
 q 5 (.mv (.t 0)) <|
 q 6 (.len false (.t 5)) <|
 q 7 (.mv (ci 0)) <|
 .keep [0, 5, 6, 7] <|
 .block 0
 (.keep [0, 5, 6, 7] <|
 .loop
 (q 8 (.bin .lss (.t 7) (.t 6)) <|
 .keep [0, 5, 6, 7, 8] <|
 .ite (.t 8)
 (.done)
 (.exit 0) <|
 .block 1
 (q 9 (.mv (.t 7)) <|
 q 10 (.idxa 12 none (.t 5) (.t 7)) <|
 q 11 (.load true 12 (.t 10)) <|
 q 4 (.alloc [.int .i64 0, .int .u64 0, .int .u64 0, .int .u64 0, .int .u64 0, .int .u64 0, .int .u64 0, .int .u64 0, .int .u64 0, .bool false, .int .i64 0, .int .i64 0]) <|
 q 3 (.mv (.t 9)) <|
 qn (.store 12 (.t 4) (.t 11)) <|
 .keep [0, 3, 4, 5, 6, 7] <|
 q 12 (.load true 12 (.t 4)) <|
 q 13 (.call F.keys_one [(.t 12)]) <|
 q 14 (.un .not (.t 13)) <|
 q 15 (.mv (.t 14)) <|
 qg 16 15 false (.mv (.t 3)) <|
 qg 17 15 false (.bin .gtr (.t 16) (ci 0)) <|
 qg 18 15 false (.mv (.t 17)) <|
 qg 19 18 true (.mv (.t 0)) <|
 qg 20 18 true (.mv (.t 3)) <|
 qg 21 18 true (.bin .sub (.t 20) (ci 1)) <|
 qg 22 18 true (.idxa 12 none (.t 19) (.t 21)) <|
 qg 23 18 true (.fld 0 (.t 22)) <|
 qg 24 18 true (.load false 1 (.t 23)) <|
 qg 25 18 true (.fld 0 (.t 4)) <|
 qg 26 18 true (.load false 1 (.t 25)) <|
 qg 27 18 true (.bin .geq (.t 24) (.t 26)) <|
 qg 28 15 false (.pick (.t 18) (.t 27) (cb false)) <|
 q 29 (.pick (.t 15) (cb true) (.t 28)) <|
 .keep [0, 5, 6, 7, 29] <|
 .ite (.t 29)
 (q 2 (.mv (cb false)) <|
 .keep [2] <|
 .ret)
 (.done) <|
 .done) <|
 q 30 (.bin .add (.t 7) (ci 1)) <|
 q 7 (.mv (.t 30)) <|
 .keep [0, 5, 6, 7] <|
 .keep [0, 5, 6, 7] <|
 .done)) <|
 q 31 (.mv (.t 0)) <|
 q 32 (.len false (.t 31)) <|
 q 33 (.bin .leq (.t 32) (ci 32)) <|
 q 2 (.mv (.t 33)) <|
 .keep [2] <|
 .ret
theorem e_keys_May:EF false F.keys_May ic_keys_May [.t 2]:=ef [] Tryz.func34 (by kernel_rfl) (by kernel_rfl) (by kernel_rfl)
def ic_revoke_May : IC :=
 q 2 (.mv (cb false)) <|
 .keep [0] <|
 q 5 (.mv (.t 0)) <|
 q 6 (.len false (.t 5)) <|
 q 7 (.mv (ci 0)) <|
 .keep [0, 5, 6, 7] <|
 .block 0
 (.keep [0, 5, 6, 7] <|
 .loop
 (q 8 (.bin .lss (.t 7) (.t 6)) <|
 .keep [0, 5, 6, 7, 8] <|
 .ite (.t 8)
 (.done)
 (.exit 0) <|
 .block 1
 (q 9 (.mv (.t 7)) <|
 q 10 (.idxa 2 none (.t 5) (.t 7)) <|
 q 11 (.load true 2 (.t 10)) <|
 q 4 (.alloc [.int .i64 0, .int .i64 0]) <|
 q 3 (.mv (.t 9)) <|
 qn (.store 2 (.t 4) (.t 11)) <|
 .keep [0, 3, 4, 5, 6, 7] <|
 q 12 (.fld 0 (.t 4)) <|
 q 13 (.load false 1 (.t 12)) <|
 q 14 (.bin .lss (.t 13) (ci 1)) <|
 q 15 (.mv (.t 14)) <|
 qg 16 15 false (.fld 0 (.t 4)) <|
 qg 17 15 false (.load false 1 (.t 16)) <|
 qg 18 15 false (.bin .gtr (.t 17) (ci 2147483647)) <|
 q 19 (.pick (.t 15) (cb true) (.t 18)) <|
 q 20 (.mv (.t 19)) <|
 qg 21 20 false (.fld 1 (.t 4)) <|
 qg 22 20 false (.load false 1 (.t 21)) <|
 qg 23 20 false (.bin .lss (.t 22) (ci 0)) <|
 q 24 (.pick (.t 20) (cb true) (.t 23)) <|
 q 25 (.mv (.t 24)) <|
 qg 26 25 false (.fld 1 (.t 4)) <|
 qg 27 25 false (.load false 1 (.t 26)) <|
 qg 28 25 false (.bin .gtr (.t 27) (ci 1073741824)) <|
 q 29 (.pick (.t 25) (cb true) (.t 28)) <|
 q 30 (.mv (.t 29)) <|
 qg 31 30 false (.mv (.t 3)) <|
 qg 32 30 false (.bin .gtr (.t 31) (ci 0)) <|
 qg 33 30 false (.mv (.t 32)) <|
 qg 34 33 true (.mv (.t 0)) <|
 qg 35 33 true (.mv (.t 3)) <|
 qg 36 33 true (.bin .sub (.t 35) (ci 1)) <|
 qg 37 33 true (.idxa 2 none (.t 34) (.t 36)) <|
 qg 38 33 true (.fld 0 (.t 37)) <|
 qg 39 33 true (.load false 1 (.t 38)) <|
 qg 40 33 true (.fld 0 (.t 4)) <|
 qg 41 33 true (.load false 1 (.t 40)) <|
 qg 42 33 true (.bin .geq (.t 39) (.t 41)) <|
 qg 43 30 false (.pick (.t 33) (.t 42) (cb false)) <|
 q 44 (.pick (.t 30) (cb true) (.t 43)) <|
 .keep [0, 5, 6, 7, 44] <|
 .ite (.t 44)
 (q 2 (.mv (cb false)) <|
 .keep [2] <|
 .ret)
 (.done) <|
 .done) <|
 q 45 (.bin .add (.t 7) (ci 1)) <|
 q 7 (.mv (.t 45)) <|
 .keep [0, 5, 6, 7] <|
 .keep [0, 5, 6, 7] <|
 .done)) <|
 q 46 (.mv (.t 0)) <|
 q 47 (.len false (.t 46)) <|
 q 48 (.bin .leq (.t 47) (ci 200)) <|
 q 2 (.mv (.t 48)) <|
 .keep [2] <|
 .ret
theorem e_revoke_May:EF false F.revoke_May ic_revoke_May [.t 2]:=ef [] Tryz.func35 (by kernel_rfl) (by kernel_rfl) (by kernel_rfl)
def ic_fare_May : IC :=
 q 2 (.mv (cb false)) <|
 .keep [0] <|
 q 5 (.mv (.t 0)) <|
 q 6 (.len false (.t 5)) <|
 q 7 (.mv (ci 0)) <|
 .keep [0, 5, 6, 7] <|
 .block 0
 (.keep [0, 5, 6, 7] <|
 .loop
 (q 8 (.bin .lss (.t 7) (.t 6)) <|
 .keep [0, 5, 6, 7, 8] <|
 .ite (.t 8)
 (.done)
 (.exit 0) <|
 .block 1
 (q 9 (.mv (.t 7)) <|
 q 10 (.idxa 7 none (.t 5) (.t 7)) <|
 q 11 (.load true 7 (.t 10)) <|
 q 4 (.alloc [.int .i64 0, .int .i64 0, .int .i64 0, .int .i64 0, .int .i64 0, .slice none 0 0, .slice none 0 0]) <|
 q 3 (.mv (.t 9)) <|
 qn (.store 7 (.t 4) (.t 11)) <|
 .keep [0, 3, 4, 5, 6, 7] <|
 q 12 (.fld 0 (.t 4)) <|
 q 13 (.load false 1 (.t 12)) <|
 q 14 (.bin .lss (.t 13) (ci 1)) <|
 q 15 (.mv (.t 14)) <|
 qg 16 15 false (.fld 0 (.t 4)) <|
 qg 17 15 false (.load false 1 (.t 16)) <|
 qg 18 15 false (.bin .gtr (.t 17) (ci 16)) <|
 q 19 (.pick (.t 15) (cb true) (.t 18)) <|
 q 20 (.mv (.t 19)) <|
 qg 21 20 false (.mv (.t 3)) <|
 qg 22 20 false (.bin .gtr (.t 21) (ci 0)) <|
 qg 23 20 false (.mv (.t 22)) <|
 qg 24 23 true (.mv (.t 0)) <|
 qg 25 23 true (.mv (.t 3)) <|
 qg 26 23 true (.bin .sub (.t 25) (ci 1)) <|
 qg 27 23 true (.idxa 7 none (.t 24) (.t 26)) <|
 qg 28 23 true (.fld 0 (.t 27)) <|
 qg 29 23 true (.load false 1 (.t 28)) <|
 qg 30 23 true (.fld 0 (.t 4)) <|
 qg 31 23 true (.load false 1 (.t 30)) <|
 qg 32 23 true (.bin .geq (.t 29) (.t 31)) <|
 qg 33 20 false (.pick (.t 23) (.t 32) (cb false)) <|
 q 34 (.pick (.t 20) (cb true) (.t 33)) <|
 q 35 (.mv (.t 34)) <|
 qg 36 35 false (.fld 1 (.t 4)) <|
 qg 37 35 false (.load false 1 (.t 36)) <|
 qg 38 35 false (.bin .lss (.t 37) (ci 1)) <|
 q 39 (.pick (.t 35) (cb true) (.t 38)) <|
 q 40 (.mv (.t 39)) <|
 qg 41 40 false (.fld 1 (.t 4)) <|
 qg 42 40 false (.load false 1 (.t 41)) <|
 qg 43 40 false (.bin .gtr (.t 42) (ci 1048576)) <|
 q 44 (.pick (.t 40) (cb true) (.t 43)) <|
 q 45 (.mv (.t 44)) <|
 qg 46 45 false (.fld 2 (.t 4)) <|
 qg 47 45 false (.load true 5 (.t 46)) <|
 qg 48 45 false (.call F.service_May [(.t 47)]) <|
 qg 49 45 false (.un .not (.t 48)) <|
 q 50 (.pick (.t 45) (cb true) (.t 49)) <|
 .keep [0, 5, 6, 7, 50] <|
 .ite (.t 50)
 (q 2 (.mv (cb false)) <|
 .keep [2] <|
 .ret)
 (.done) <|
 .done) <|
 q 51 (.bin .add (.t 7) (ci 1)) <|
 q 7 (.mv (.t 51)) <|
 .keep [0, 5, 6, 7] <|
 .keep [0, 5, 6, 7] <|
 .done)) <|
 q 52 (.mv (.t 0)) <|
 q 53 (.len false (.t 52)) <|
 q 54 (.bin .leq (.t 53) (ci 16)) <|
 q 2 (.mv (.t 54)) <|
 .keep [2] <|
 .ret
theorem e_fare_May:EF false F.fare_May ic_fare_May [.t 2]:=ef [] Tryz.func36 (by kernel_rfl) (by kernel_rfl) (by kernel_rfl)
def ic_keys_find : IC :=
 q 4 (.box (.t 1)) <|
 q 6 (.alloc [.int .u64 0, .int .u64 0, .int .u64 0, .int .u64 0, .int .u64 0, .int .u64 0, .int .u64 0, .int .u64 0, .bool false]) <|
 q 7 (.mv (cb false)) <|
 .keep [0, 2, 4, 6] <|
 q 9 (.mv (.t 0)) <|
 q 10 (.mkfn (.func F.keys_find_1) [] [(.t 4)]) <|
 q 11 (.call F.slices_IndexFunc_api_Key_api_Key [(.t 9), (.t 10)]) <|
 q 8 (.mv (.t 11)) <|
 .keep [0, 2, 6, 8] <|
 q 12 (.mv (.t 8)) <|
 q 13 (.bin .lss (.t 12) (ci 0)) <|
 q 14 (.mv (.t 13)) <|
 qg 15 14 false (.mv (.t 0)) <|
 qg 16 14 false (.mv (.t 8)) <|
 qg 17 14 false (.idxa 12 none (.t 15) (.t 16)) <|
 qg 18 14 false (.fld 10 (.t 17)) <|
 qg 19 14 false (.load false 1 (.t 18)) <|
 qg 20 14 false (.mv (.t 2)) <|
 qg 21 14 false (.bin .gtr (.t 19) (.t 20)) <|
 q 22 (.pick (.t 14) (cb true) (.t 21)) <|
 q 23 (.mv (.t 22)) <|
 qg 24 23 false (.mv (.t 0)) <|
 qg 25 23 false (.mv (.t 8)) <|
 qg 26 23 false (.idxa 12 none (.t 24) (.t 25)) <|
 qg 27 23 false (.fld 11 (.t 26)) <|
 qg 28 23 false (.load false 1 (.t 27)) <|
 qg 29 23 false (.mv (.t 2)) <|
 qg 30 23 false (.bin .leq (.t 28) (.t 29)) <|
 q 31 (.pick (.t 23) (cb true) (.t 30)) <|
 .keep [0, 6, 8, 31] <|
 .ite (.t 31)
 (q 32 (.build [.int .u64 0, .int .u64 0, .int .u64 0, .int .u64 0, .int .u64 0, .int .u64 0, .int .u64 0, .int .u64 0, .bool false] []) <|
 qn (.store 9 (.t 6) (.t 32)) <|
 q 7 (.mv (cb false)) <|
 .keep [6, 7] <|
 .ret)
 (.done) <|
 q 33 (.mv (.t 0)) <|
 q 34 (.mv (.t 8)) <|
 q 35 (.idxa 12 none (.t 33) (.t 34)) <|
 q 36 (.fld 1 (.t 35)) <|
 q 37 (.load true 9 (.t 36)) <|
 qn (.store 9 (.t 6) (.t 37)) <|
 q 7 (.mv (cb true)) <|
 .keep [6, 7] <|
 .ret
theorem e_keys_find:EF false F.keys_find ic_keys_find [.c 6 true 9,.t 7]:=ef [] Tryz.func48 (by kernel_rfl) (by kernel_rfl) (by kernel_rfl)
def ic_keys_one : IC :=
 q 1 (.box (.t 0)) <|
 q 2 (.mv (cb false)) <|
 .keep [1] <|
 q 3 (.fld 0 (.t 1)) <|
 q 4 (.load false 1 (.t 3)) <|
 q 5 (.bin .geq (.t 4) (ci 1)) <|
 q 6 (.mv (.t 5)) <|
 qg 7 6 true (.fld 0 (.t 1)) <|
 qg 8 6 true (.load false 1 (.t 7)) <|
 qg 9 6 true (.bin .leq (.t 8) (ci 2147483647)) <|
 q 10 (.pick (.t 6) (.t 9) (cb false)) <|
 q 11 (.mv (.t 10)) <|
 qg 12 11 true (.fld 1 (.t 1)) <|
 qg 13 11 true (.load true 9 (.t 12)) <|
 qg 14 11 true (.call F.point_On [(.t 13)]) <|
 q 15 (.pick (.t 11) (.t 14) (cb false)) <|
 q 16 (.mv (.t 15)) <|
 qg 17 16 true (.fld 1 (.t 1)) <|
 qg 18 16 true (.fld 8 (.t 17)) <|
 qg 19 16 true (.load false 1 (.t 18)) <|
 qg 20 16 true (.un .not (.t 19)) <|
 q 21 (.pick (.t 16) (.t 20) (cb false)) <|
 q 22 (.mv (.t 21)) <|
 qg 23 22 true (.fld 10 (.t 1)) <|
 qg 24 22 true (.load false 1 (.t 23)) <|
 qg 25 22 true (.bin .geq (.t 24) (ci 0)) <|
 q 26 (.pick (.t 22) (.t 25) (cb false)) <|
 q 27 (.mv (.t 26)) <|
 qg 28 27 true (.fld 10 (.t 1)) <|
 qg 29 27 true (.load false 1 (.t 28)) <|
 qg 30 27 true (.fld 11 (.t 1)) <|
 qg 31 27 true (.load false 1 (.t 30)) <|
 qg 32 27 true (.bin .leq (.t 29) (.t 31)) <|
 q 33 (.pick (.t 27) (.t 32) (cb false)) <|
 q 34 (.mv (.t 33)) <|
 qg 35 34 true (.fld 11 (.t 1)) <|
 qg 36 34 true (.load false 1 (.t 35)) <|
 qg 37 34 true (.bin .leq (.t 36) (ci 1073741824)) <|
 q 38 (.pick (.t 34) (.t 37) (cb false)) <|
 q 2 (.mv (.t 38)) <|
 .keep [2] <|
 .ret
theorem e_keys_one:EF false F.keys_one ic_keys_one [.t 2]:=ef [] Tryz.func53 (by kernel_rfl) (by kernel_rfl) (by kernel_rfl)
def ic_service_May : IC :=
 q 1 (.box (.t 0)) <|
 q 2 (.mv (cb false)) <|
 .keep [1] <|
 q 4 (.mkfn (.func F.service_May_1) [] [(.t 1)]) <|
 q 3 (.mv (.t 4)) <|
 .keep [1, 3] <|
 q 5 (.fld 0 (.t 1)) <|
 q 6 (.load false 1 (.t 5)) <|
 q 7 (.bin .geq (.t 6) (ci 0)) <|
 q 8 (.mv (.t 7)) <|
 qg 9 8 true (.fld 0 (.t 1)) <|
 qg 10 8 true (.load false 1 (.t 9)) <|
 qg 11 8 true (.bin .lss (.t 10) (ci 128)) <|
 q 12 (.pick (.t 8) (.t 11) (cb false)) <|
 q 13 (.mv (.t 12)) <|
 qg 14 13 true (.fld 1 (.t 1)) <|
 qg 15 13 true (.load false 1 (.t 14)) <|
 qg 16 13 true (.bin .geq (.t 15) (ci 0)) <|
 q 17 (.pick (.t 13) (.t 16) (cb false)) <|
 q 18 (.mv (.t 17)) <|
 qg 19 18 true (.fld 1 (.t 1)) <|
 qg 20 18 true (.load false 1 (.t 19)) <|
 qg 21 18 true (.fld 2 (.t 1)) <|
 qg 22 18 true (.load false 1 (.t 21)) <|
 qg 23 18 true (.bin .leq (.t 20) (.t 22)) <|
 q 24 (.pick (.t 18) (.t 23) (cb false)) <|
 q 25 (.mv (.t 24)) <|
 qg 26 25 true (.fld 2 (.t 1)) <|
 qg 27 25 true (.load false 1 (.t 26)) <|
 qg 28 25 true (.bin .leq (.t 27) (ci 1048576)) <|
 q 29 (.pick (.t 25) (.t 28) (cb false)) <|
 q 30 (.mv (.t 29)) <|
 qg 31 30 true (.fld 3 (.t 1)) <|
 qg 32 30 true (.load false 1 (.t 31)) <|
 qg 33 30 true (.call F.service_days [(.t 32)]) <|
 q 34 (.pick (.t 30) (.t 33) (cb false)) <|
 q 35 (.mv (.t 34)) <|
 qg 36 35 true (.fld 4 (.t 1)) <|
 qg 37 35 true (.load false 1 (.t 36)) <|
 qg 38 35 true (.call F.service_days [(.t 37)]) <|
 q 39 (.pick (.t 35) (.t 38) (cb false)) <|
 q 40 (.mv (.t 39)) <|
 qg 41 40 true (.fld 3 (.t 1)) <|
 qg 42 40 true (.load false 1 (.t 41)) <|
 qg 43 40 true (.mv (.t 3)) <|
 qg 44 40 true (.call F.slices_ContainsFunc_int_int [(.t 42), (.t 43)]) <|
 qg 45 40 true (.un .not (.t 44)) <|
 q 46 (.pick (.t 40) (.t 45) (cb false)) <|
 q 2 (.mv (.t 46)) <|
 .keep [2] <|
 .ret
theorem e_service_May:EF false F.service_May ic_service_May [.t 2]:=ef [] Tryz.func54 (by kernel_rfl) (by kernel_rfl) (by kernel_rfl)
def ic_slices_IndexFunc_api_Key_api_Key : IC :=
 q 4 (.mv (ci 0)) <|
 .keep [0, 1] <|
 q 6 (.mv (.t 0)) <|
 q 7 (.len false (.t 6)) <|
 q 8 (.mv (ci 0)) <|
 .keep [0, 1, 7, 8] <|
 .block 0
 (.keep [0, 1, 7, 8] <|
 .loop
 (q 9 (.bin .lss (.t 8) (.t 7)) <|
 .keep [0, 1, 7, 8, 9] <|
 .ite (.t 9)
 (.done)
 (.exit 0) <|
 .block 1
 (q 10 (.mv (.t 8)) <|
 q 5 (.mv (.t 10)) <|
 .keep [0, 1, 5, 7, 8] <|
 q 11 (.mv (.t 1)) <|
 q 12 (.mv (.t 0)) <|
 q 13 (.mv (.t 5)) <|
 q 14 (.idxa 12 none (.t 12) (.t 13)) <|
 q 15 (.load true 12 (.t 14)) <|
 q 16 (.callv (.t 11) [(.t 15)]) <|
 .keep [0, 1, 5, 7, 8, 16] <|
 .ite (.t 16)
 (q 17 (.mv (.t 5)) <|
 q 4 (.mv (.t 17)) <|
 .keep [4] <|
 .ret)
 (.done) <|
 .done) <|
 q 18 (.bin .add (.t 8) (ci 1)) <|
 q 8 (.mv (.t 18)) <|
 .keep [0, 1, 7, 8] <|
 .keep [0, 1, 7, 8] <|
 .done)) <|
 q 4 (.mv (ci (-1))) <|
 .keep [4] <|
 .ret
theorem e_slices_IndexFunc_api_Key_api_Key:EF false F.slices_IndexFunc_api_Key_api_Key ic_slices_IndexFunc_api_Key_api_Key [.t 4]:=ef [] Tryz.func68 (by kernel_rfl) (by kernel_rfl) (by kernel_rfl)
def ic_keys_find_1 : IC :=
 q 2 (.box (.t 0)) <|
 q 3 (.mv (cb false)) <|
 .keep [1, 2] <|
 q 4 (.fld 0 (.t 2)) <|
 q 5 (.load false 1 (.t 4)) <|
 q 6 (.load false 1 (.t 1)) <|
 q 7 (.bin .eql (.t 5) (.t 6)) <|
 q 3 (.mv (.t 7)) <|
 .keep [3] <|
 .ret
theorem e_keys_find_1:EF false F.keys_find_1 ic_keys_find_1 [.t 3]:=ef [] Tryz.func69 (by kernel_rfl) (by kernel_rfl) (by kernel_rfl)
def ic_service_May_1 : IC :=
 q 3 (.mv (cb false)) <|
 .keep [0, 1] <|
 q 4 (.fld 4 (.t 1)) <|
 q 5 (.load false 1 (.t 4)) <|
 q 6 (.mv (.t 0)) <|
 q 7 (.call F.slices_Contains_int_int [(.t 5), (.t 6)]) <|
 q 3 (.mv (.t 7)) <|
 .keep [3] <|
 .ret
theorem e_service_May_1:EF false F.service_May_1 ic_service_May_1 [.t 3]:=ef [] Tryz.func82 (by kernel_rfl) (by kernel_rfl) (by kernel_rfl)
def ic_slices_Contains_int_int : IC :=
 q 4 (.mv (cb false)) <|
 .keep [0, 1] <|
 q 5 (.mv (.t 0)) <|
 q 6 (.mv (.t 1)) <|
 q 7 (.call F.slices_Index_int_int [(.t 5), (.t 6)]) <|
 q 8 (.bin .geq (.t 7) (ci 0)) <|
 q 4 (.mv (.t 8)) <|
 .keep [4] <|
 .ret
theorem e_slices_Contains_int_int:EF false F.slices_Contains_int_int ic_slices_Contains_int_int [.t 4]:=ef [] Tryz.func83 (by kernel_rfl) (by kernel_rfl) (by kernel_rfl)
def ic_service_days : IC :=
 q 2 (.mv (cb false)) <|
 .keep [0] <|
 q 5 (.mv (.t 0)) <|
 q 6 (.len false (.t 5)) <|
 q 7 (.mv (ci 0)) <|
 .keep [0, 5, 6, 7] <|
 .block 0
 (.keep [0, 5, 6, 7] <|
 .loop
 (q 8 (.bin .lss (.t 7) (.t 6)) <|
 .keep [0, 5, 6, 7, 8] <|
 .ite (.t 8)
 (.done)
 (.exit 0) <|
 .block 1
 (q 9 (.mv (.t 7)) <|
 q 10 (.idxa 1 none (.t 5) (.t 7)) <|
 q 11 (.load false 1 (.t 10)) <|
 q 3 (.mv (.t 9)) <|
 q 4 (.mv (.t 11)) <|
 .keep [0, 3, 4, 5, 6, 7] <|
 q 12 (.mv (.t 4)) <|
 q 13 (.bin .lss (.t 12) (ci 0)) <|
 q 14 (.mv (.t 13)) <|
 qg 15 14 false (.mv (.t 4)) <|
 qg 16 14 false (.bin .gtr (.t 15) (ci 1048576)) <|
 q 17 (.pick (.t 14) (cb true) (.t 16)) <|
 q 18 (.mv (.t 17)) <|
 qg 19 18 false (.mv (.t 3)) <|
 qg 20 18 false (.bin .gtr (.t 19) (ci 0)) <|
 qg 21 18 false (.mv (.t 20)) <|
 qg 22 21 true (.mv (.t 0)) <|
 qg 23 21 true (.mv (.t 3)) <|
 qg 24 21 true (.bin .sub (.t 23) (ci 1)) <|
 qg 25 21 true (.idxa 1 none (.t 22) (.t 24)) <|
 qg 26 21 true (.load false 1 (.t 25)) <|
 qg 27 21 true (.mv (.t 4)) <|
 qg 28 21 true (.bin .geq (.t 26) (.t 27)) <|
 qg 29 18 false (.pick (.t 21) (.t 28) (cb false)) <|
 q 30 (.pick (.t 18) (cb true) (.t 29)) <|
 .keep [0, 5, 6, 7, 30] <|
 .ite (.t 30)
 (q 2 (.mv (cb false)) <|
 .keep [2] <|
 .ret)
 (.done) <|
 .done) <|
 q 31 (.bin .add (.t 7) (ci 1)) <|
 q 7 (.mv (.t 31)) <|
 .keep [0, 5, 6, 7] <|
 .keep [0, 5, 6, 7] <|
 .done)) <|
 q 32 (.mv (.t 0)) <|
 q 33 (.len false (.t 32)) <|
 q 34 (.bin .leq (.t 33) (ci 100)) <|
 q 2 (.mv (.t 34)) <|
 .keep [2] <|
 .ret
theorem e_service_days:EF false F.service_days ic_service_days [.t 2]:=ef [] Tryz.func84 (by kernel_rfl) (by kernel_rfl) (by kernel_rfl)
def ic_slices_ContainsFunc_int_int : IC :=
 q 4 (.mv (cb false)) <|
 .keep [0, 1] <|
 q 5 (.mv (.t 0)) <|
 q 6 (.mv (.t 1)) <|
 q 7 (.call F.slices_IndexFunc_int_int [(.t 5), (.t 6)]) <|
 q 8 (.bin .geq (.t 7) (ci 0)) <|
 q 4 (.mv (.t 8)) <|
 .keep [4] <|
 .ret
theorem e_slices_ContainsFunc_int_int:EF false F.slices_ContainsFunc_int_int ic_slices_ContainsFunc_int_int [.t 4]:=ef [] Tryz.func85 (by kernel_rfl) (by kernel_rfl) (by kernel_rfl)
def ic_slices_Index_int_int : IC :=
 q 4 (.mv (ci 0)) <|
 .keep [0, 1] <|
 q 6 (.mv (.t 0)) <|
 q 7 (.len false (.t 6)) <|
 q 8 (.mv (ci 0)) <|
 .keep [0, 1, 7, 8] <|
 .block 0
 (.keep [0, 1, 7, 8] <|
 .loop
 (q 9 (.bin .lss (.t 8) (.t 7)) <|
 .keep [0, 1, 7, 8, 9] <|
 .ite (.t 9)
 (.done)
 (.exit 0) <|
 .block 1
 (q 10 (.mv (.t 8)) <|
 q 5 (.mv (.t 10)) <|
 .keep [0, 1, 5, 7, 8] <|
 q 11 (.mv (.t 1)) <|
 q 12 (.mv (.t 0)) <|
 q 13 (.mv (.t 5)) <|
 q 14 (.idxa 1 none (.t 12) (.t 13)) <|
 q 15 (.load false 1 (.t 14)) <|
 q 16 (.bin .eql (.t 11) (.t 15)) <|
 .keep [0, 1, 5, 7, 8, 16] <|
 .ite (.t 16)
 (q 17 (.mv (.t 5)) <|
 q 4 (.mv (.t 17)) <|
 .keep [4] <|
 .ret)
 (.done) <|
 .done) <|
 q 18 (.bin .add (.t 8) (ci 1)) <|
 q 8 (.mv (.t 18)) <|
 .keep [0, 1, 7, 8] <|
 .keep [0, 1, 7, 8] <|
 .done)) <|
 q 4 (.mv (ci (-1))) <|
 .keep [4] <|
 .ret
theorem e_slices_Index_int_int:EF false F.slices_Index_int_int ic_slices_Index_int_int [.t 4]:=ef [] Tryz.func110 (by kernel_rfl) (by kernel_rfl) (by kernel_rfl)
def ic_slices_IndexFunc_int_int : IC :=
 q 4 (.mv (ci 0)) <|
 .keep [0, 1] <|
 q 6 (.mv (.t 0)) <|
 q 7 (.len false (.t 6)) <|
 q 8 (.mv (ci 0)) <|
 .keep [0, 1, 7, 8] <|
 .block 0
 (.keep [0, 1, 7, 8] <|
 .loop
 (q 9 (.bin .lss (.t 8) (.t 7)) <|
 .keep [0, 1, 7, 8, 9] <|
 .ite (.t 9)
 (.done)
 (.exit 0) <|
 .block 1
 (q 10 (.mv (.t 8)) <|
 q 5 (.mv (.t 10)) <|
 .keep [0, 1, 5, 7, 8] <|
 q 11 (.mv (.t 1)) <|
 q 12 (.mv (.t 0)) <|
 q 13 (.mv (.t 5)) <|
 q 14 (.idxa 1 none (.t 12) (.t 13)) <|
 q 15 (.load false 1 (.t 14)) <|
 q 16 (.callv (.t 11) [(.t 15)]) <|
 .keep [0, 1, 5, 7, 8, 16] <|
 .ite (.t 16)
 (q 17 (.mv (.t 5)) <|
 q 4 (.mv (.t 17)) <|
 .keep [4] <|
 .ret)
 (.done) <|
 .done) <|
 q 18 (.bin .add (.t 8) (ci 1)) <|
 q 8 (.mv (.t 18)) <|
 .keep [0, 1, 7, 8] <|
 .keep [0, 1, 7, 8] <|
 .done)) <|
 q 4 (.mv (ci (-1))) <|
 .keep [4] <|
 .ret
theorem e_slices_IndexFunc_int_int:EF false F.slices_IndexFunc_int_int ic_slices_IndexFunc_int_int [.t 4]:=ef [] Tryz.func111 (by kernel_rfl) (by kernel_rfl) (by kernel_rfl)
end Go.Proofs.YtenfocjhebgoeaaGreat.Eng

