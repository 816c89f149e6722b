/- The code of some functions, as the abstract machine's. Printed by program. -/
import Derived.Test.YtgfploghjpbcaaaMCa
namespace Go.Proofs.Ytgfploghjpbcaaa.Eng
open Go Go.Proofs
set_option maxRecDepth 20000
def ic_ticket_Check : IC :=
 q 3 (.box (.t 1)) <|
 q 4 (.alloc (List.replicate 5 (.int .i64 0))) <|
 q 5 (.mv (.c (.nilIface))) <|
 .keep [0, 3, 4] <|
 q 13 (.mv (.t 0)) <|
 q 14 (.call F.ticket_Open [(.t 13)]) <|
 q 12 (.mv (.t 14)) <|
 q 15 (.ext (.t 12) 0) <|
 q 16 (.ext (.t 12) 1) <|
 q 17 (.ext (.t 12) 2) <|
 q 6 (.alloc (List.replicate 5 (.int .i64 0))) <|
 q 7 (.alloc (List.replicate 8 (.int .u64 0))) <|
 qn (.store 5 (.t 6) (.t 15)) <|
 qn (.store 8 (.t 7) (.t 16)) <|
 q 8 (.mv (.t 17)) <|
 .keep [0, 3, 4, 6, 7, 8] <|
 q 18 (.mv (.t 8)) <|
 q 19 (.eq true .i (.t 18) (.c (.nilIface))) <|
 .keep [0, 3, 4, 6, 7, 8, 19] <|
 .ite (.t 19)
 (q 20 (.build (List.replicate 5 (.int .i64 0)) []) <|
 q 21 (.mv (.t 8)) <|
 qn (.store 5 (.t 4) (.t 20)) <|
 q 5 (.mv (.t 21)) <|
 .keep [4, 5] <|
 .ret)
 (.done) <|
 q 23 (.mv (.t 0)) <|
 q 24 (.call F.ticket_parts [(.t 23)]) <|
 q 22 (.mv (.t 24)) <|
 q 25 (.ext (.t 22) 0) <|
 q 26 (.ext (.t 22) 1) <|
 q 27 (.ext (.t 22) 2) <|
 q 10 (.alloc (List.replicate 8 (.int .u64 0))) <|
 q 9 (.mv (.t 25)) <|
 qn (.store 8 (.t 10) (.t 26)) <|
 q 11 (.mv (.t 27)) <|
 .keep [3, 4, 6, 7, 9] <|
 q 28 (.load true 9 (.t 3)) <|
 q 29 (.mv (.t 9)) <|
 q 30 (.call F.sha_Sum [(.t 29)]) <|
 q 31 (.load true 8 (.t 7)) <|
 q 32 (.call F.sign_Verify [(.t 28), (.t 30), (.t 31)]) <|
 q 33 (.un .not (.t 32)) <|
 .keep [4, 6, 33] <|
 .ite (.t 33)
 (q 34 (.build (List.replicate 5 (.int .i64 0)) []) <|
 q 35 (.mkif T.api_Code (ci 8)) <|
 qn (.store 5 (.t 4) (.t 34)) <|
 q 5 (.mv (.t 35)) <|
 .keep [4, 5] <|
 .ret)
 (.done) <|
 q 36 (.load true 5 (.t 6)) <|
 qn (.store 5 (.t 4) (.t 36)) <|
 q 5 (.mv (.c (.nilIface))) <|
 .keep [4, 5] <|
 .ret
theorem e_ticket_Check:EF false F.ticket_Check ic_ticket_Check [.c 4 true 5,.t 5]:=ef [] Try.func32 (by kernel_rfl) (by kernel_rfl) (by kernel_rfl)
def ic_ticket_Open : IC :=
 q 2 (.alloc (List.replicate 5 (.int .i64 0))) <|
 q 3 (.alloc (List.replicate 8 (.int .u64 0))) <|
 q 4 (.mv (.c (.nilIface))) <|
 .keep [0, 2, 3] <|
 q 12 (.mv (.t 0)) <|
 q 13 (.call F.ticket_parts [(.t 12)]) <|
 q 11 (.mv (.t 13)) <|
 q 14 (.ext (.t 11) 0) <|
 q 15 (.ext (.t 11) 1) <|
 q 16 (.ext (.t 11) 2) <|
 q 6 (.alloc (List.replicate 8 (.int .u64 0))) <|
 q 5 (.mv (.t 14)) <|
 qn (.store 8 (.t 6) (.t 15)) <|
 q 7 (.mv (.t 16)) <|
 .keep [2, 3, 5, 6, 7] <|
 q 18 (.mv (.t 5)) <|
 q 19 (.call F.ticket_numbers [(.t 18), (ci 5)]) <|
 q 17 (.mv (.t 19)) <|
 q 20 (.ext (.t 17) 0) <|
 q 21 (.ext (.t 17) 1) <|
 q 8 (.mv (.t 20)) <|
 q 9 (.mv (.t 21)) <|
 .keep [2, 3, 6, 7, 8, 9] <|
 q 22 (.mv (.t 7)) <|
 q 23 (.un .not (.t 22)) <|
 q 24 (.mv (.t 23)) <|
 qg 25 24 false (.mv (.t 9)) <|
 qg 26 24 false (.un .not (.t 25)) <|
 q 27 (.pick (.t 24) (cb true) (.t 26)) <|
 .keep [2, 3, 6, 8, 27] <|
 .ite (.t 27)
 (q 28 (.build (List.replicate 5 (.int .i64 0)) []) <|
 q 29 (.build (List.replicate 8 (.int .u64 0)) []) <|
 q 30 (.mkif T.api_Code (ci 2)) <|
 qn (.store 5 (.t 2) (.t 28)) <|
 qn (.store 8 (.t 3) (.t 29)) <|
 q 4 (.mv (.t 30)) <|
 .keep [2, 3, 4] <|
 .ret)
 (.done) <|
 .reg 1
 [xe 31 (.mv (.t 8)) [],
 xe 32 (.idxa 1 none (.t 31) (ci 0)) [],
 xe 33 (.load false 1 (.t 32)) [],
 xe 34 (.mv (.t 8)) [],
 xe 35 (.idxa 1 none (.t 34) (ci 1)) [],
 xe 36 (.load false 1 (.t 35)) [],
 xe 37 (.mv (.t 8)) [],
 xe 38 (.idxa 1 none (.t 37) (ci 2)) [],
 xe 39 (.load false 1 (.t 38)) [],
 xe 40 (.mv (.t 8)) [],
 xe 41 (.idxa 1 none (.t 40) (ci 3)) [],
 xe 42 (.load false 1 (.t 41)) [],
 xe 43 (.mv (.t 8)) [],
 xe 44 (.idxa 1 none (.t 43) (ci 4)) [],
 xe 45 (.load false 1 (.t 44)) [],
 xe 46 (.build (List.replicate 5 (.int .i64 0)) [(0, 1, (.t 33)), (1, 1, (.t 36)), (2, 1, (.t 39)), (3, 1, (.t 42)), (4, 1, (.t 45))]) [],
 xa 0 10 (.alloc (List.replicate 5 (.int .i64 0))),
 xln (.store 5 (.t 10) (.t 46)) []] <|
 .keep [2, 3, 6, 10] <|
 q 47 (.load true 5 (.t 10)) <|
 q 48 (.call F.ticket_May [(.t 47)]) <|
 q 49 (.un .not (.t 48)) <|
 .keep [2, 3, 6, 10, 49] <|
 .ite (.t 49)
 (q 50 (.build (List.replicate 5 (.int .i64 0)) []) <|
 q 51 (.build (List.replicate 8 (.int .u64 0)) []) <|
 q 52 (.mkif T.api_Code (ci 2)) <|
 qn (.store 5 (.t 2) (.t 50)) <|
 qn (.store 8 (.t 3) (.t 51)) <|
 q 4 (.mv (.t 52)) <|
 .keep [2, 3, 4] <|
 .ret)
 (.done) <|
 .reg 0
 [xe 53 (.load true 5 (.t 10)) [],
 xe 54 (.load true 8 (.t 6)) [],
 xln (.store 5 (.t 2) (.t 53)) [(.t 6)],
 xln (.store 8 (.t 3) (.t 54)) [],
 xl 4 (.mv (.c (.nilIface))) []] <|
 .keep [2, 3, 4] <|
 .ret
theorem e_ticket_Open:EF false F.ticket_Open ic_ticket_Open [.c 2 true 5,.c 3 true 8,.t 4]:=ef [] Try.func33 (by kernel_rfl) (by kernel_rfl) (by kernel_rfl)
def ic_ticket_parts : IC :=
 q 2 (.mv (.c (.slice none 0 0))) <|
 q 3 (.alloc (List.replicate 8 (.int .u64 0))) <|
 q 4 (.mv (cb false)) <|
 .keep [0, 3] <|
 q 9 (.mv (.t 0)) <|
 q 10 (.call F.tlv_Get [(.t 9)]) <|
 q 8 (.mv (.t 10)) <|
 q 11 (.ext (.t 8) 0) <|
 q 12 (.ext (.t 8) 1) <|
 q 5 (.mv (.t 11)) <|
 q 6 (.mv (.t 12)) <|
 .keep [3, 5, 6] <|
 q 13 (.mv (.t 6)) <|
 q 14 (.eq true .i (.t 13) (.c (.nilIface))) <|
 q 15 (.mv (.t 14)) <|
 qg 16 15 false (.mv (.t 5)) <|
 qg 17 15 false (.len false (.t 16)) <|
 qg 18 15 false (.bin .neq (.t 17) (ci 2)) <|
 q 19 (.pick (.t 15) (cb true) (.t 18)) <|
 q 20 (.mv (.t 19)) <|
 qg 21 20 false (.mv (.t 5)) <|
 qg 22 20 false (.idxa 2 none (.t 21) (ci 0)) <|
 qg 23 20 false (.fld 0 (.t 22)) <|
 qg 24 20 false (.load false 1 (.t 23)) <|
 qg 25 20 false (.bin .neq (.t 24) (ci 1)) <|
 q 26 (.pick (.t 20) (cb true) (.t 25)) <|
 q 27 (.mv (.t 26)) <|
 qg 28 27 false (.mv (.t 5)) <|
 qg 29 27 false (.idxa 2 none (.t 28) (ci 1)) <|
 qg 30 27 false (.fld 0 (.t 29)) <|
 qg 31 27 false (.load false 1 (.t 30)) <|
 qg 32 27 false (.bin .neq (.t 31) (ci 2)) <|
 q 33 (.pick (.t 27) (cb true) (.t 32)) <|
 .keep [3, 5, 33] <|
 .ite (.t 33)
 (q 34 (.build (List.replicate 8 (.int .u64 0)) []) <|
 q 2 (.mv (.c (.slice none 0 0))) <|
 qn (.store 8 (.t 3) (.t 34)) <|
 q 4 (.mv (cb false)) <|
 .keep [2, 3, 4] <|
 .ret)
 (.done) <|
 q 36 (.mv (.t 5)) <|
 q 37 (.idxa 2 none (.t 36) (ci 1)) <|
 q 38 (.fld 1 (.t 37)) <|
 q 39 (.load false 1 (.t 38)) <|
 q 40 (.call F.sign_Parse [(.t 39)]) <|
 q 35 (.mv (.t 40)) <|
 q 41 (.ext (.t 35) 0) <|
 q 42 (.ext (.t 35) 1) <|
 q 7 (.alloc (List.replicate 8 (.int .u64 0))) <|
 qn (.store 8 (.t 7) (.t 41)) <|
 q 6 (.mv (.t 42)) <|
 .keep [3, 5, 6, 7] <|
 q 43 (.mv (.t 5)) <|
 q 44 (.idxa 2 none (.t 43) (ci 0)) <|
 q 45 (.fld 1 (.t 44)) <|
 q 46 (.load false 1 (.t 45)) <|
 q 47 (.load true 8 (.t 7)) <|
 q 48 (.mv (.t 6)) <|
 q 49 (.eq false .i (.t 48) (.c (.nilIface))) <|
 q 2 (.mv (.t 46)) <|
 qn (.store 8 (.t 3) (.t 47)) <|
 q 4 (.mv (.t 49)) <|
 .keep [2, 3, 4] <|
 .ret
theorem e_ticket_parts:EF false F.ticket_parts ic_ticket_parts [.t 2,.c 3 true 8,.t 4]:=ef [] Try.func73 (by kernel_rfl) (by kernel_rfl) (by kernel_rfl)
def ic_ticket_numbers : IC :=
 q 4 (.mv (.c (.slice none 0 0))) <|
 q 5 (.mv (cb false)) <|
 .keep [0, 1] <|
 q 14 (.mv (.t 0)) <|
 q 15 (.call F.tlv_Get [(.t 14)]) <|
 q 13 (.mv (.t 15)) <|
 q 16 (.ext (.t 13) 0) <|
 q 17 (.ext (.t 13) 1) <|
 q 6 (.mv (.t 16)) <|
 q 7 (.mv (.t 17)) <|
 .keep [1, 6, 7] <|
 q 18 (.mv (.t 7)) <|
 q 19 (.eq true .i (.t 18) (.c (.nilIface))) <|
 q 20 (.mv (.t 19)) <|
 qg 21 20 false (.mv (.t 6)) <|
 qg 22 20 false (.len false (.t 21)) <|
 qg 23 20 false (.mv (.t 1)) <|
 qg 24 20 false (.bin .neq (.t 22) (.t 23)) <|
 q 25 (.pick (.t 20) (cb true) (.t 24)) <|
 .keep [6, 25] <|
 .ite (.t 25)
 (q 4 (.mv (.c (.slice none 0 0))) <|
 q 5 (.mv (cb false)) <|
 .keep [4, 5] <|
 .ret)
 (.done) <|
 q 8 (.mv (.c (.slice none 0 0))) <|
 .keep [6, 8] <|
 q 26 (.mv (.t 6)) <|
 q 27 (.len false (.t 26)) <|
 q 28 (.mv (ci 0)) <|
 .keep [8, 26, 27, 28] <|
 .block 0
 (.keep [8, 26, 27, 28] <|
 .loop
 (q 29 (.bin .lss (.t 28) (.t 27)) <|
 .keep [8, 26, 27, 28, 29] <|
 .ite (.t 29)
 (.done)
 (.exit 0) <|
 .block 1
 (q 30 (.mv (.t 28)) <|
 q 31 (.idxa 2 none (.t 26) (.t 28)) <|
 q 32 (.load true 2 (.t 31)) <|
 q 10 (.alloc [.int .i64 0, .slice none 0 0]) <|
 q 9 (.mv (.t 30)) <|
 qn (.store 2 (.t 10) (.t 32)) <|
 .keep [8, 9, 10, 26, 27, 28] <|
 q 34 (.fld 1 (.t 10)) <|
 q 35 (.load false 1 (.t 34)) <|
 q 36 (.call F.tlv_Of [(.t 35)]) <|
 q 33 (.mv (.t 36)) <|
 q 37 (.ext (.t 33) 0) <|
 q 38 (.ext (.t 33) 1) <|
 q 11 (.mv (.t 37)) <|
 q 12 (.mv (.t 38)) <|
 .keep [8, 9, 10, 11, 12, 26, 27, 28] <|
 q 39 (.mv (.t 12)) <|
 q 40 (.eq true .i (.t 39) (.c (.nilIface))) <|
 q 41 (.mv (.t 40)) <|
 qg 42 41 false (.fld 0 (.t 10)) <|
 qg 43 41 false (.load false 1 (.t 42)) <|
 qg 44 41 false (.mv (.t 9)) <|
 qg 45 41 false (.bin .add (.t 44) (ci 1)) <|
 qg 46 41 false (.bin .neq (.t 43) (.t 45)) <|
 q 47 (.pick (.t 41) (cb true) (.t 46)) <|
 .keep [8, 11, 26, 27, 28, 47] <|
 .ite (.t 47)
 (q 4 (.mv (.c (.slice none 0 0))) <|
 q 5 (.mv (cb false)) <|
 .keep [4, 5] <|
 .ret)
 (.done) <|
 q 48 (.mv (.t 8)) <|
 q 49 (.mv (.t 11)) <|
 q 50 (.bslice false 1 1 [.int .i64 0] [(0, 1, (.t 49))]) <|
 q 51 (.append 1 8 (.t 48) (.t 50)) <|
 q 8 (.mv (.t 51)) <|
 .keep [8, 26, 27, 28] <|
 .done) <|
 q 52 (.bin .add (.t 28) (ci 1)) <|
 q 28 (.mv (.t 52)) <|
 .keep [8, 26, 27, 28] <|
 .keep [8, 26, 27, 28] <|
 .done)) <|
 q 53 (.mv (.t 8)) <|
 q 4 (.mv (.t 53)) <|
 q 5 (.mv (cb true)) <|
 .keep [4, 5] <|
 .ret
theorem e_ticket_numbers:EF false F.ticket_numbers ic_ticket_numbers [.t 4,.t 5]:=ef [] Try.func74 (by kernel_rfl) (by kernel_rfl) (by kernel_rfl)
def ic_ticket_May : IC :=
 q 1 (.box (.t 0)) <|
 q 2 (.mv (cb false)) <|
 .keep [1] <|
 q 3 (.fld 0 (.t 1)) <|
 q 4 (.load false 1 (.t 3)) <|
 q 5 (.call F.ticket_within [(.t 4), (ci 1), (ci 2147483647)]) <|
 q 6 (.mv (.t 5)) <|
 qg 7 6 true (.fld 1 (.t 1)) <|
 qg 8 6 true (.load false 1 (.t 7)) <|
 qg 9 6 true (.call F.ticket_within [(.t 8), (ci 1), (ci 16)]) <|
 q 10 (.pick (.t 6) (.t 9) (cb false)) <|
 q 11 (.mv (.t 10)) <|
 qg 12 11 true (.fld 2 (.t 1)) <|
 qg 13 11 true (.load false 1 (.t 12)) <|
 qg 14 11 true (.call F.ticket_within [(.t 13), (ci 1), (ci 255)]) <|
 q 15 (.pick (.t 11) (.t 14) (cb false)) <|
 q 16 (.mv (.t 15)) <|
 qg 17 16 true (.fld 3 (.t 1)) <|
 qg 18 16 true (.load false 1 (.t 17)) <|
 qg 19 16 true (.call F.ticket_within [(.t 18), (ci 0), (ci 1073741824)]) <|
 q 20 (.pick (.t 16) (.t 19) (cb false)) <|
 q 21 (.mv (.t 20)) <|
 qg 22 21 true (.fld 4 (.t 1)) <|
 qg 23 21 true (.load false 1 (.t 22)) <|
 qg 24 21 true (.call F.ticket_within [(.t 23), (ci 1), (ci 2147483647)]) <|
 q 25 (.pick (.t 21) (.t 24) (cb false)) <|
 q 2 (.mv (.t 25)) <|
 .keep [2] <|
 .ret
theorem e_ticket_May:EF false F.ticket_May ic_ticket_May [.t 2]:=ef [] Try.func75 (by kernel_rfl) (by kernel_rfl) (by kernel_rfl)
def ic_ticket_within : IC :=
 q 6 (.mv (cb false)) <|
 .keep [0, 1, 2] <|
 q 7 (.mv (.t 0)) <|
 q 8 (.mv (.t 1)) <|
 q 9 (.bin .geq (.t 7) (.t 8)) <|
 q 10 (.mv (.t 9)) <|
 qg 11 10 true (.mv (.t 0)) <|
 qg 12 10 true (.mv (.t 2)) <|
 qg 13 10 true (.bin .leq (.t 11) (.t 12)) <|
 q 14 (.pick (.t 10) (.t 13) (cb false)) <|
 q 6 (.mv (.t 14)) <|
 .keep [6] <|
 .ret
theorem e_ticket_within:EF false F.ticket_within ic_ticket_within [.t 6]:=ef [] Try.func127 (by kernel_rfl) (by kernel_rfl) (by kernel_rfl)
def ic_clapperlaw14_FareValid : IC :=
 q 14 (.mv (cb false)) <|
 .keep [0, 1, 2, 3, 4, 5, 6] <|
 q 26 (.call F.clapperlaw14_up []) <|
 q 15 (.mv (.t 26)) <|
 .keep [0, 1, 2, 3, 4, 5, 6, 15] <|
 q 27 (.mv (.t 3)) <|
 q 28 (.call F.clapperref14_Few [(.t 27)]) <|
 q 16 (.mv (.t 28)) <|
 .keep [0, 1, 2, 3, 4, 5, 6, 15, 16] <|
 q 29 (.mv (.t 16)) <|
 q 30 (.un .not (.t 29)) <|
 q 31 (.mv (.t 30)) <|
 qg 32 31 false (.mv (.t 0)) <|
 qg 33 31 false (.len false (.t 32)) <|
 qg 34 31 false (.bin .gtr (.t 33) (ci 60)) <|
 q 35 (.pick (.t 31) (cb true) (.t 34)) <|
 q 36 (.mv (.t 35)) <|
 qg 37 36 false (.mv (.t 1)) <|
 qg 38 36 false (.len false (.t 37)) <|
 qg 39 36 false (.bin .gtr (.t 38) (ci 300)) <|
 q 40 (.pick (.t 36) (cb true) (.t 39)) <|
 q 41 (.mv (.t 40)) <|
 qg 42 41 false (.mv (.t 2)) <|
 qg 43 41 false (.len false (.t 42)) <|
 qg 44 41 false (.bin .gtr (.t 43) (ci 300)) <|
 q 45 (.pick (.t 41) (cb true) (.t 44)) <|
 q 46 (.mv (.t 45)) <|
 qg 47 46 false (.mv (.t 4)) <|
 qg 48 46 false (.len false (.t 47)) <|
 qg 49 46 false (.bin .gtr (.t 48) (ci 5000)) <|
 q 50 (.pick (.t 46) (cb true) (.t 49)) <|
 .keep [0, 1, 2, 3, 4, 5, 6, 15, 50] <|
 .ite (.t 50)
 (q 51 (.mv (.t 15)) <|
 q 14 (.mv (.t 51)) <|
 .keep [14] <|
 .ret)
 (.done) <|
 q 53 (.mv (.t 0)) <|
 q 54 (.mv (.t 1)) <|
 q 55 (.mv (.t 3)) <|
 q 56 (.mv (.t 4)) <|
 q 57 (.mv (.t 5)) <|
 q 58 (.mv (.t 6)) <|
 q 59 (.call F.fare_Verdict [(.t 53), (.t 54), (.t 55), (.t 56), (.t 57), (.t 58)]) <|
 q 52 (.mv (.t 59)) <|
 q 60 (.ext (.t 52) 0) <|
 q 61 (.ext (.t 52) 1) <|
 q 17 (.mv (.t 60)) <|
 q 18 (.mv (.t 61)) <|
 .keep [0, 1, 2, 3, 4, 5, 6, 15, 17, 18] <|
 q 62 (.mv (.t 18)) <|
 q 63 (.eq true .i (.t 62) (.c (.nilIface))) <|
 .keep [0, 1, 2, 3, 4, 5, 6, 15, 17, 63] <|
 .ite (.t 63)
 (q 64 (.mv (.t 15)) <|
 q 14 (.mv (.t 64)) <|
 .keep [14] <|
 .ret)
 (.done) <|
 q 66 (.mv (.t 0)) <|
 q 67 (.mv (.t 4)) <|
 q 68 (.mv (.t 6)) <|
 q 69 (.call F.keys_Check [(.t 66), (.t 67), (.t 68)]) <|
 q 65 (.mv (.t 69)) <|
 q 70 (.ext (.t 65) 0) <|
 q 71 (.ext (.t 65) 1) <|
 q 19 (.alloc (List.replicate 5 (.int .i64 0))) <|
 qn (.store 5 (.t 19) (.t 70)) <|
 q 20 (.mv (.t 71)) <|
 .keep [0, 1, 2, 3, 4, 5, 6, 15, 17, 19, 20] <|
 q 72 (.mv (.t 20)) <|
 q 73 (.eq false .i (.t 72) (.c (.nilIface))) <|
 q 74 (.mv (.t 73)) <|
 qg 75 74 true (.mv (.t 1)) <|
 qg 76 74 true (.fld 0 (.t 19)) <|
 qg 77 74 true (.load false 1 (.t 76)) <|
 qg 78 74 true (.mv (.t 6)) <|
 qg 79 74 true (.call F.revoke_Is [(.t 75), (.t 77), (.t 78)]) <|
 qg 80 74 true (.un .not (.t 79)) <|
 q 81 (.pick (.t 74) (.t 80) (cb false)) <|
 q 82 (.mv (.t 81)) <|
 qg 83 82 true (.mv (.t 3)) <|
 qg 84 82 true (.load true 5 (.t 19)) <|
 qg 85 82 true (.mv (.t 5)) <|
 qg 86 82 true (.mv (.t 6)) <|
 qg 87 82 true (.call F.fare_Covers [(.t 83), (.t 84), (.t 85), (.t 86)]) <|
 q 88 (.pick (.t 82) (.t 87) (cb false)) <|
 q 21 (.mv (.t 88)) <|
 .keep [0, 1, 2, 3, 4, 5, 6, 15, 17, 21] <|
 q 89 (.mv (.t 17)) <|
 q 90 (.bin .eql (.t 89) (ci 1)) <|
 q 91 (.mv (.t 21)) <|
 q 92 (.eq true .b (.t 90) (.t 91)) <|
 .keep [0, 1, 2, 3, 4, 5, 6, 15, 17, 92] <|
 .ite (.t 92)
 (q 14 (.mv (cb false)) <|
 .keep [14] <|
 .ret)
 (.done) <|
 q 94 (.mv (.t 1)) <|
 q 95 (.mv (.t 2)) <|
 q 96 (.call F.revoke_Merge [(.t 94), (.t 95)]) <|
 q 93 (.mv (.t 96)) <|
 q 97 (.ext (.t 93) 0) <|
 q 98 (.ext (.t 93) 1) <|
 q 22 (.mv (.t 97)) <|
 q 23 (.mv (.t 98)) <|
 .keep [0, 3, 4, 5, 6, 15, 17, 22, 23] <|
 q 99 (.mv (.t 23)) <|
 q 100 (.eq true .i (.t 99) (.c (.nilIface))) <|
 .keep [0, 3, 4, 5, 6, 15, 17, 22, 100] <|
 .ite (.t 100)
 (q 101 (.mv (.t 15)) <|
 q 14 (.mv (.t 101)) <|
 .keep [14] <|
 .ret)
 (.done) <|
 q 103 (.mv (.t 0)) <|
 q 104 (.mv (.t 22)) <|
 q 105 (.mv (.t 3)) <|
 q 106 (.mv (.t 4)) <|
 q 107 (.mv (.t 5)) <|
 q 108 (.mv (.t 6)) <|
 q 109 (.call F.fare_Verdict [(.t 103), (.t 104), (.t 105), (.t 106), (.t 107), (.t 108)]) <|
 q 102 (.mv (.t 109)) <|
 q 110 (.ext (.t 102) 0) <|
 q 111 (.ext (.t 102) 1) <|
 q 24 (.mv (.t 110)) <|
 q 25 (.mv (.t 111)) <|
 .keep [15, 17, 24, 25] <|
 q 112 (.mv (.t 15)) <|
 q 113 (.mv (.t 112)) <|
 qg 114 113 true (.mv (.t 25)) <|
 qg 115 113 true (.eq false .i (.t 114) (.c (.nilIface))) <|
 q 116 (.pick (.t 113) (.t 115) (cb false)) <|
 q 117 (.mv (.t 116)) <|
 qg 118 117 true (.mv (.t 24)) <|
 qg 119 117 true (.bin .neq (.t 118) (ci 1)) <|
 qg 120 117 true (.mv (.t 119)) <|
 qg 121 120 false (.mv (.t 17)) <|
 qg 122 120 false (.bin .eql (.t 121) (ci 1)) <|
 qg 123 117 true (.pick (.t 120) (cb true) (.t 122)) <|
 q 124 (.pick (.t 117) (.t 123) (cb false)) <|
 q 14 (.mv (.t 124)) <|
 .keep [14] <|
 .ret
theorem e_clapperlaw14_FareValid:EF false F.clapperlaw14_FareValid ic_clapperlaw14_FareValid [.t 14]:=ef [] Try.func9 (by kernel_rfl) (by kernel_rfl) (by kernel_rfl)
def ic_keys_May : IC :=
 q 2 (.mv (cb false)) <|
 .keep [0] <|
 q 5 (.mv (.t 0)) <|
 q 6 (.len false (.t 5)) <|
 q 7 (.mv (ci 0)) <|
 .keep [0, 5, 6, 7] <|
 .block 0
 (.keep [0, 5, 6, 7] <|
 .loop
 (q 8 (.bin .lss (.t 7) (.t 6)) <|
 .keep [0, 5, 6, 7, 8] <|
 .ite (.t 8)
 (.done)
 (.exit 0) <|
 .block 1
 (q 9 (.mv (.t 7)) <|
 q 10 (.idxa 12 none (.t 5) (.t 7)) <|
 q 11 (.load true 12 (.t 10)) <|
 q 4 (.alloc [.int .i64 0, .int .u64 0, .int .u64 0, .int .u64 0, .int .u64 0, .int .u64 0, .int .u64 0, .int .u64 0, .int .u64 0, .bool false, .int .i64 0, .int .i64 0]) <|
 q 3 (.mv (.t 9)) <|
 qn (.store 12 (.t 4) (.t 11)) <|
 .keep [0, 3, 4, 5, 6, 7] <|
 q 12 (.load true 12 (.t 4)) <|
 q 13 (.call F.keys_one [(.t 12)]) <|
 q 14 (.un .not (.t 13)) <|
 q 15 (.mv (.t 14)) <|
 qg 16 15 false (.mv (.t 3)) <|
 qg 17 15 false (.bin .gtr (.t 16) (ci 0)) <|
 qg 18 15 false (.mv (.t 17)) <|
 qg 19 18 true (.mv (.t 0)) <|
 qg 20 18 true (.mv (.t 3)) <|
 qg 21 18 true (.bin .sub (.t 20) (ci 1)) <|
 qg 22 18 true (.idxa 12 none (.t 19) (.t 21)) <|
 qg 23 18 true (.fld 0 (.t 22)) <|
 qg 24 18 true (.load false 1 (.t 23)) <|
 qg 25 18 true (.fld 0 (.t 4)) <|
 qg 26 18 true (.load false 1 (.t 25)) <|
 qg 27 18 true (.bin .geq (.t 24) (.t 26)) <|
 qg 28 15 false (.pick (.t 18) (.t 27) (cb false)) <|
 q 29 (.pick (.t 15) (cb true) (.t 28)) <|
 .keep [0, 5, 6, 7, 29] <|
 .ite (.t 29)
 (q 2 (.mv (cb false)) <|
 .keep [2] <|
 .ret)
 (.done) <|
 .done) <|
 q 30 (.bin .add (.t 7) (ci 1)) <|
 q 7 (.mv (.t 30)) <|
 .keep [0, 5, 6, 7] <|
 .keep [0, 5, 6, 7] <|
 .done)) <|
 q 31 (.mv (.t 0)) <|
 q 32 (.len false (.t 31)) <|
 q 33 (.bin .leq (.t 32) (ci 32)) <|
 q 2 (.mv (.t 33)) <|
 .keep [2] <|
 .ret
theorem e_keys_May:EF false F.keys_May ic_keys_May [.t 2]:=ef [] Try.func28 (by kernel_rfl) (by kernel_rfl) (by kernel_rfl)
def ic_clapperlaw14_up : IC :=
 q 0 (.mv (cb false)) <|
 .keep [] <|
 q 5 (.build [.int .i64 0, .int .i64 0, .int .i64 0, .slice none 0 0, .slice none 0 0] [(0, 1, (ci 127)), (2, 1, (ci 9))]) <|
 q 6 (.build [.int .i64 0, .int .i64 0, .int .i64 0, .int .i64 0, .int .i64 0, .slice none 0 0, .slice none 0 0] [(0, 1, (ci 1)), (1, 1, (ci 60)), (2, 5, (.t 5))]) <|
 q 7 (.bslice false 7 1 [.int .i64 0, .int .i64 0, .int .i64 0, .int .i64 0, .int .i64 0, .slice none 0 0, .slice none 0 0] [(0, 7, (.t 6))]) <|
 q 1 (.mv (.t 7)) <|
 .keep [1] <|
 q 8 (.build (List.replicate 5 (.int .i64 0)) [(0, 1, (ci 1)), (1, 1, (ci 1)), (2, 1, (ci 2)), (3, 1, (ci 10)), (4, 1, (ci 1))]) <|
 q 2 (.alloc (List.replicate 5 (.int .i64 0))) <|
 qn (.store 5 (.t 2) (.t 8)) <|
 .keep [1, 2] <|
 q 10 (.call F.fare_Verdict [(.c (.slice none 0 0)), (.c (.slice none 0 0)), (.c (.slice none 0 0)), (.c (.slice none 0 0)), (ci 0), (ci 0)]) <|
 q 9 (.mv (.t 10)) <|
 q 11 (.ext (.t 9) 0) <|
 q 12 (.ext (.t 9) 1) <|
 q 3 (.mv (.t 11)) <|
 q 4 (.mv (.t 12)) <|
 .keep [1, 2, 3, 4] <|
 q 13 (.mv (.t 4)) <|
 q 14 (.eq false .i (.t 13) (.c (.nilIface))) <|
 q 15 (.mv (.t 14)) <|
 qg 16 15 true (.mv (.t 3)) <|
 qg 17 15 true (.bin .eql (.t 16) (ci 2)) <|
 q 18 (.pick (.t 15) (.t 17) (cb false)) <|
 q 19 (.mv (.t 18)) <|
 qg 20 19 true (.mv (.t 1)) <|
 qg 21 19 true (.load true 5 (.t 2)) <|
 qg 22 19 true (.call F.fare_Covers [(.t 20), (.t 21), (ci 1), (ci 69)]) <|
 q 23 (.pick (.t 19) (.t 22) (cb false)) <|
 q 24 (.mv (.t 23)) <|
 qg 25 24 true (.mv (.t 1)) <|
 qg 26 24 true (.load true 5 (.t 2)) <|
 qg 27 24 true (.call F.fare_Covers [(.t 25), (.t 26), (ci 1), (ci 70)]) <|
 qg 28 24 true (.un .not (.t 27)) <|
 q 29 (.pick (.t 24) (.t 28) (cb false)) <|
 q 30 (.mv (.t 29)) <|
 qg 31 30 true (.mv (.t 1)) <|
 qg 32 30 true (.load true 5 (.t 2)) <|
 qg 33 30 true (.call F.fare_Covers [(.t 31), (.t 32), (ci 0), (ci 10)]) <|
 qg 34 30 true (.un .not (.t 33)) <|
 q 35 (.pick (.t 30) (.t 34) (cb false)) <|
 q 0 (.mv (.t 35)) <|
 .keep [0] <|
 .ret
theorem e_clapperlaw14_up:EF false F.clapperlaw14_up ic_clapperlaw14_up [.t 0]:=ef [] Try.func36 (by kernel_rfl) (by kernel_rfl) (by kernel_rfl)
def ic_clapperref14_Few : IC :=
 q 2 (.mv (cb false)) <|
 .keep [0] <|
 q 3 (.mv (ci 0)) <|
 .keep [0, 3] <|
 .block 0
 (.keep [0, 3] <|
 .loop
 (q 4 (.mv (.t 3)) <|
 q 5 (.mv (.t 0)) <|
 q 6 (.len false (.t 5)) <|
 q 7 (.bin .lss (.t 4) (.t 6)) <|
 .keep [0, 3, 7] <|
 .ite (.t 7)
 (.done)
 (.exit 0) <|
 .block 1
 (q 10 (.mv (.t 0)) <|
 q 11 (.mv (.t 3)) <|
 q 12 (.idxa 7 none (.t 10) (.t 11)) <|
 q 13 (.fld 2 (.t 12)) <|
 q 14 (.fld 3 (.t 13)) <|
 q 15 (.load false 1 (.t 14)) <|
 q 16 (.len false (.t 15)) <|
 q 17 (.bin .gtr (.t 16) (ci 300)) <|
 q 18 (.mv (.t 17)) <|
 qg 19 18 false (.mv (.t 0)) <|
 qg 20 18 false (.mv (.t 3)) <|
 qg 21 18 false (.idxa 7 none (.t 19) (.t 20)) <|
 qg 22 18 false (.fld 2 (.t 21)) <|
 qg 23 18 false (.fld 4 (.t 22)) <|
 qg 24 18 false (.load false 1 (.t 23)) <|
 qg 25 18 false (.len false (.t 24)) <|
 qg 26 18 false (.bin .gtr (.t 25) (ci 300)) <|
 q 27 (.pick (.t 18) (cb true) (.t 26)) <|
 .keep [0, 3, 27] <|
 .ite (.t 27)
 (q 2 (.mv (cb false)) <|
 .keep [2] <|
 .ret)
 (.done) <|
 .done) <|
 q 8 (.mv (.t 3)) <|
 q 9 (.bin .add (.t 8) (ci 1)) <|
 q 3 (.mv (.t 9)) <|
 .keep [0, 3] <|
 .keep [0, 3] <|
 .done)) <|
 q 28 (.mv (.t 0)) <|
 q 29 (.len false (.t 28)) <|
 q 30 (.bin .leq (.t 29) (ci 60)) <|
 q 2 (.mv (.t 30)) <|
 .keep [2] <|
 .ret
theorem e_clapperref14_Few:EF false F.clapperref14_Few ic_clapperref14_Few [.t 2]:=ef [] Try.func37 (by kernel_rfl) (by kernel_rfl) (by kernel_rfl)
def ic_fare_Verdict : IC :=
 q 12 (.mv (ci 0)) <|
 q 13 (.mv (.c (.nilIface))) <|
 .keep [0, 1, 2, 3, 4, 5] <|
 q 18 (.mv (.t 0)) <|
 q 19 (.call F.keys_May [(.t 18)]) <|
 q 20 (.un .not (.t 19)) <|
 q 21 (.mv (.t 20)) <|
 qg 22 21 false (.mv (.t 1)) <|
 qg 23 21 false (.call F.revoke_May [(.t 22)]) <|
 qg 24 21 false (.un .not (.t 23)) <|
 q 25 (.pick (.t 21) (cb true) (.t 24)) <|
 q 26 (.mv (.t 25)) <|
 qg 27 26 false (.mv (.t 2)) <|
 qg 28 26 false (.call F.fare_May [(.t 27)]) <|
 qg 29 26 false (.un .not (.t 28)) <|
 q 30 (.pick (.t 26) (cb true) (.t 29)) <|
 q 31 (.mv (.t 30)) <|
 qg 32 31 false (.mv (.t 4)) <|
 qg 33 31 false (.mv (.t 5)) <|
 qg 34 31 false (.call F.fare_place [(.t 32), (.t 33)]) <|
 qg 35 31 false (.un .not (.t 34)) <|
 q 36 (.pick (.t 31) (cb true) (.t 35)) <|
 .keep [0, 1, 2, 3, 4, 5, 36] <|
 .ite (.t 36)
 (q 37 (.mkif T.api_Code (ci 1)) <|
 q 12 (.mv (ci 0)) <|
 q 13 (.mv (.t 37)) <|
 .keep [12, 13] <|
 .ret)
 (.done) <|
 q 39 (.mv (.t 0)) <|
 q 40 (.mv (.t 3)) <|
 q 41 (.mv (.t 5)) <|
 q 42 (.call F.keys_Check [(.t 39), (.t 40), (.t 41)]) <|
 q 38 (.mv (.t 42)) <|
 q 43 (.ext (.t 38) 0) <|
 q 44 (.ext (.t 38) 1) <|
 q 14 (.alloc (List.replicate 5 (.int .i64 0))) <|
 qn (.store 5 (.t 14) (.t 43)) <|
 q 15 (.mv (.t 44)) <|
 .keep [1, 2, 4, 5, 14, 15] <|
 q 46 (.mv (.t 2)) <|
 q 47 (.load true 5 (.t 14)) <|
 q 48 (.call F.fare_product [(.t 46), (.t 47)]) <|
 q 45 (.mv (.t 48)) <|
 q 49 (.ext (.t 45) 0) <|
 q 50 (.ext (.t 45) 1) <|
 q 16 (.alloc [.int .i64 0, .int .i64 0, .int .i64 0, .int .i64 0, .int .i64 0, .slice none 0 0, .slice none 0 0]) <|
 qn (.store 7 (.t 16) (.t 49)) <|
 q 17 (.mv (.t 50)) <|
 .keep [1, 4, 5, 14, 15, 16, 17] <|
 .block 0
 (q 52 (.mv (.t 15)) <|
 q 53 (.mkif T.api_Code (ci 2)) <|
 q 54 (.eq false .i (.t 52) (.t 53)) <|
 q 51 (.mv (.t 54)) <|
 .keep [1, 4, 5, 14, 15, 16, 17, 51] <|
 .ite (.t 51)
 (q 12 (.mv (ci 2)) <|
 q 13 (.mv (.c (.nilIface))) <|
 .keep [12, 13] <|
 .ret)
 (q 56 (.mv (.t 15)) <|
 q 57 (.eq true .i (.t 56) (.c (.nilIface))) <|
 q 55 (.mv (.t 57)) <|
 .keep [1, 4, 5, 14, 16, 17, 55] <|
 .ite (.t 55)
 (q 12 (.mv (ci 3)) <|
 q 13 (.mv (.c (.nilIface))) <|
 .keep [12, 13] <|
 .ret)
 (q 59 (.mv (.t 1)) <|
 q 60 (.fld 0 (.t 14)) <|
 q 61 (.load false 1 (.t 60)) <|
 q 62 (.mv (.t 5)) <|
 q 63 (.call F.revoke_Is [(.t 59), (.t 61), (.t 62)]) <|
 q 58 (.mv (.t 63)) <|
 .keep [4, 5, 14, 16, 17, 58] <|
 .ite (.t 58)
 (q 12 (.mv (ci 4)) <|
 q 13 (.mv (.c (.nilIface))) <|
 .keep [12, 13] <|
 .ret)
 (q 65 (.mv (.t 17)) <|
 q 66 (.un .not (.t 65)) <|
 q 64 (.mv (.t 66)) <|
 .keep [4, 5, 14, 16, 64] <|
 .ite (.t 64)
 (q 12 (.mv (ci 7)) <|
 q 13 (.mv (.c (.nilIface))) <|
 .keep [12, 13] <|
 .ret)
 (q 68 (.load true 5 (.t 14)) <|
 q 69 (.mv (.t 4)) <|
 q 70 (.call F.fare_in [(.t 68), (.t 69)]) <|
 q 71 (.un .not (.t 70)) <|
 q 67 (.mv (.t 71)) <|
 .keep [5, 14, 16, 67] <|
 .ite (.t 67)
 (q 12 (.mv (ci 5)) <|
 q 13 (.mv (.c (.nilIface))) <|
 .keep [12, 13] <|
 .ret)
 (q 73 (.load true 7 (.t 16)) <|
 q 74 (.load true 5 (.t 14)) <|
 q 75 (.mv (.t 5)) <|
 q 76 (.call F.fare_then [(.t 73), (.t 74), (.t 75)]) <|
 q 77 (.un .not (.t 76)) <|
 q 72 (.mv (.t 77)) <|
 .keep [72] <|
 .ite (.t 72)
 (q 12 (.mv (ci 6)) <|
 q 13 (.mv (.c (.nilIface))) <|
 .keep [12, 13] <|
 .ret)
 (.done) <|
 .done) <|
 .done) <|
 .done) <|
 .done) <|
 .done) <|
 .done) <|
 q 12 (.mv (ci 1)) <|
 q 13 (.mv (.c (.nilIface))) <|
 .keep [12, 13] <|
 .ret
theorem e_fare_Verdict:EF false F.fare_Verdict ic_fare_Verdict [.t 12,.t 13]:=ef [] Try.func38 (by kernel_rfl) (by kernel_rfl) (by kernel_rfl)
def ic_keys_Check : IC :=
 q 6 (.alloc (List.replicate 5 (.int .i64 0))) <|
 q 7 (.mv (.c (.nilIface))) <|
 .keep [0, 1, 2, 6] <|
 q 13 (.mv (.t 0)) <|
 q 14 (.call F.keys_May [(.t 13)]) <|
 q 15 (.un .not (.t 14)) <|
 .keep [0, 1, 2, 6, 15] <|
 .ite (.t 15)
 (q 16 (.build (List.replicate 5 (.int .i64 0)) []) <|
 q 17 (.mkif T.api_Code (ci 1)) <|
 qn (.store 5 (.t 6) (.t 16)) <|
 q 7 (.mv (.t 17)) <|
 .keep [6, 7] <|
 .ret)
 (.done) <|
 q 19 (.mv (.t 1)) <|
 q 20 (.call F.ticket_Open [(.t 19)]) <|
 q 18 (.mv (.t 20)) <|
 q 21 (.ext (.t 18) 0) <|
 q 22 (.ext (.t 18) 1) <|
 q 23 (.ext (.t 18) 2) <|
 q 8 (.alloc (List.replicate 5 (.int .i64 0))) <|
 q 9 (.alloc (List.replicate 8 (.int .u64 0))) <|
 qn (.store 5 (.t 8) (.t 21)) <|
 qn (.store 8 (.t 9) (.t 22)) <|
 q 10 (.mv (.t 23)) <|
 .keep [0, 1, 2, 6, 8, 10] <|
 q 24 (.mv (.t 10)) <|
 q 25 (.eq true .i (.t 24) (.c (.nilIface))) <|
 .keep [0, 1, 2, 6, 8, 10, 25] <|
 .ite (.t 25)
 (q 26 (.build (List.replicate 5 (.int .i64 0)) []) <|
 q 27 (.mv (.t 10)) <|
 qn (.store 5 (.t 6) (.t 26)) <|
 q 7 (.mv (.t 27)) <|
 .keep [6, 7] <|
 .ret)
 (.done) <|
 q 29 (.mv (.t 0)) <|
 q 30 (.fld 4 (.t 8)) <|
 q 31 (.load false 1 (.t 30)) <|
 q 32 (.mv (.t 2)) <|
 q 33 (.call F.keys_find [(.t 29), (.t 31), (.t 32)]) <|
 q 28 (.mv (.t 33)) <|
 q 34 (.ext (.t 28) 0) <|
 q 35 (.ext (.t 28) 1) <|
 q 11 (.alloc [.int .u64 0, .int .u64 0, .int .u64 0, .int .u64 0, .int .u64 0, .int .u64 0, .int .u64 0, .int .u64 0, .bool false]) <|
 qn (.store 9 (.t 11) (.t 34)) <|
 q 12 (.mv (.t 35)) <|
 .keep [1, 6, 11, 12] <|
 q 36 (.mv (.t 12)) <|
 q 37 (.un .not (.t 36)) <|
 .keep [1, 6, 11, 37] <|
 .ite (.t 37)
 (q 38 (.build (List.replicate 5 (.int .i64 0)) []) <|
 q 39 (.mkif T.api_Code (ci 4)) <|
 qn (.store 5 (.t 6) (.t 38)) <|
 q 7 (.mv (.t 39)) <|
 .keep [6, 7] <|
 .ret)
 (.done) <|
 q 40 (.mv (.t 1)) <|
 q 41 (.load true 9 (.t 11)) <|
 q 42 (.call F.ticket_Check [(.t 40), (.t 41)]) <|
 q 43 (.ext (.t 42) 0) <|
 q 44 (.ext (.t 42) 1) <|
 qn (.store 5 (.t 6) (.t 43)) <|
 q 7 (.mv (.t 44)) <|
 .keep [6, 7] <|
 .ret
theorem e_keys_Check:EF false F.keys_Check ic_keys_Check [.c 6 true 5,.t 7]:=ef [] Try.func39 (by kernel_rfl) (by kernel_rfl) (by kernel_rfl)
def ic_revoke_Is : IC :=
 q 4 (.box (.t 1)) <|
 q 5 (.box (.t 2)) <|
 q 6 (.mv (cb false)) <|
 .keep [0, 4, 5] <|
 q 7 (.mv (.t 0)) <|
 q 8 (.call F.revoke_May [(.t 7)]) <|
 q 9 (.mv (.t 8)) <|
 qg 10 9 true (.mv (.t 0)) <|
 qg 11 9 true (.mkfn (.func F.revoke_Is_1) [] [(.t 4), (.t 5)]) <|
 qg 12 9 true (.call F.slices_ContainsFunc_api_Revoked_api_Revoked [(.t 10), (.t 11)]) <|
 q 13 (.pick (.t 9) (.t 12) (cb false)) <|
 q 6 (.mv (.t 13)) <|
 .keep [6] <|
 .ret
theorem e_revoke_Is:EF false F.revoke_Is ic_revoke_Is [.t 6]:=ef [] Try.func40 (by kernel_rfl) (by kernel_rfl) (by kernel_rfl)
def ic_fare_Covers : IC :=
 q 5 (.box (.t 1)) <|
 q 8 (.mv (cb false)) <|
 .keep [0, 2, 3, 5] <|
 q 11 (.mv (.t 0)) <|
 q 12 (.call F.fare_May [(.t 11)]) <|
 q 13 (.un .not (.t 12)) <|
 q 14 (.mv (.t 13)) <|
 qg 15 14 false (.load true 5 (.t 5)) <|
 qg 16 14 false (.call F.ticket_May [(.t 15)]) <|
 qg 17 14 false (.un .not (.t 16)) <|
 q 18 (.pick (.t 14) (cb true) (.t 17)) <|
 q 19 (.mv (.t 18)) <|
 qg 20 19 false (.mv (.t 2)) <|
 qg 21 19 false (.mv (.t 3)) <|
 qg 22 19 false (.call F.fare_place [(.t 20), (.t 21)]) <|
 qg 23 19 false (.un .not (.t 22)) <|
 q 24 (.pick (.t 19) (cb true) (.t 23)) <|
 .keep [0, 2, 3, 5, 24] <|
 .ite (.t 24)
 (q 8 (.mv (cb false)) <|
 .keep [8] <|
 .ret)
 (.done) <|
 q 26 (.mv (.t 0)) <|
 q 27 (.load true 5 (.t 5)) <|
 q 28 (.call F.fare_product [(.t 26), (.t 27)]) <|
 q 25 (.mv (.t 28)) <|
 q 29 (.ext (.t 25) 0) <|
 q 30 (.ext (.t 25) 1) <|
 q 9 (.alloc [.int .i64 0, .int .i64 0, .int .i64 0, .int .i64 0, .int .i64 0, .slice none 0 0, .slice none 0 0]) <|
 qn (.store 7 (.t 9) (.t 29)) <|
 q 10 (.mv (.t 30)) <|
 .keep [2, 3, 5, 9, 10] <|
 q 31 (.mv (.t 10)) <|
 q 32 (.mv (.t 31)) <|
 qg 33 32 true (.load true 5 (.t 5)) <|
 qg 34 32 true (.mv (.t 2)) <|
 qg 35 32 true (.call F.fare_in [(.t 33), (.t 34)]) <|
 q 36 (.pick (.t 32) (.t 35) (cb false)) <|
 q 37 (.mv (.t 36)) <|
 qg 38 37 true (.load true 7 (.t 9)) <|
 qg 39 37 true (.load true 5 (.t 5)) <|
 qg 40 37 true (.mv (.t 3)) <|
 qg 41 37 true (.call F.fare_then [(.t 38), (.t 39), (.t 40)]) <|
 q 42 (.pick (.t 37) (.t 41) (cb false)) <|
 q 8 (.mv (.t 42)) <|
 .keep [8] <|
 .ret
theorem e_fare_Covers:EF false F.fare_Covers ic_fare_Covers [.t 8]:=ef [] Try.func41 (by kernel_rfl) (by kernel_rfl) (by kernel_rfl)
def ic_revoke_Merge : IC :=
 q 4 (.mv (.c (.slice none 0 0))) <|
 q 5 (.mv (.c (.nilIface))) <|
 .keep [0, 1] <|
 q 7 (.mv (.t 0)) <|
 q 8 (.call F.revoke_May [(.t 7)]) <|
 q 9 (.un .not (.t 8)) <|
 q 10 (.mv (.t 9)) <|
 qg 11 10 false (.mv (.t 1)) <|
 qg 12 10 false (.call F.revoke_May [(.t 11)]) <|
 qg 13 10 false (.un .not (.t 12)) <|
 q 14 (.pick (.t 10) (cb true) (.t 13)) <|
 .keep [0, 1, 14] <|
 .ite (.t 14)
 (q 15 (.mkif T.api_Code (ci 1)) <|
 q 4 (.mv (.c (.slice none 0 0))) <|
 q 5 (.mv (.t 15)) <|
 .keep [4, 5] <|
 .ret)
 (.done) <|
 q 6 (.mv (.c (.slice none 0 0))) <|
 .keep [0, 1, 6] <|
 .block 0
 (.keep [0, 1, 6] <|
 .loop
 (q 16 (.mv (.t 0)) <|
 q 17 (.len false (.t 16)) <|
 q 18 (.mv (.t 1)) <|
 q 19 (.len false (.t 18)) <|
 q 20 (.bin .add (.t 17) (.t 19)) <|
 q 21 (.bin .gtr (.t 20) (ci 0)) <|
 .keep [0, 1, 6, 21] <|
 .ite (.t 21)
 (.done)
 (.exit 0) <|
 .block 1
 (.block 2
 (q 44 (.mv (.t 1)) <|
 q 45 (.len false (.t 44)) <|
 q 46 (.bin .eql (.t 45) (ci 0)) <|
 q 47 (.mv (.t 46)) <|
 qg 48 47 false (.mv (.t 0)) <|
 qg 49 47 false (.len false (.t 48)) <|
 qg 50 47 false (.bin .gtr (.t 49) (ci 0)) <|
 qg 51 47 false (.mv (.t 50)) <|
 qg 52 51 true (.mv (.t 0)) <|
 qg 53 51 true (.idxa 2 none (.t 52) (ci 0)) <|
 qg 54 51 true (.fld 0 (.t 53)) <|
 qg 55 51 true (.load false 1 (.t 54)) <|
 qg 56 51 true (.mv (.t 1)) <|
 qg 57 51 true (.idxa 2 none (.t 56) (ci 0)) <|
 qg 58 51 true (.fld 0 (.t 57)) <|
 qg 59 51 true (.load false 1 (.t 58)) <|
 qg 60 51 true (.bin .lss (.t 55) (.t 59)) <|
 qg 61 47 false (.pick (.t 51) (.t 60) (cb false)) <|
 q 62 (.pick (.t 47) (cb true) (.t 61)) <|
 q 43 (.mv (.t 62)) <|
 .keep [0, 1, 6, 43] <|
 .ite (.t 43)
 (.reg 0
 [xe 63 (.mv (.t 6)) [],
 xe 64 (.mv (.t 0)) [],
 xe 65 (.idxa 2 none (.t 64) (ci 0)) [],
 xe 66 (.load true 2 (.t 65)) [],
 xe 67 (.bslice false 2 1 [.int .i64 0, .int .i64 0] [(0, 2, (.t 66))]) [],
 xw 68 (.append 2 16 (.t 63) (.t 67)) [],
 xe 69 (.mv (.t 0)) [],
 xe 70 (.slice 2 none (.t 69) (some (ci 1)) none none) [(.t 63)],
 xl 6 (.mv (.t 68)) [],
 xl 0 (.mv (.t 70)) []] <|
 .keep [0, 1, 6] <|
 .done)
 (q 72 (.mv (.t 0)) <|
 q 73 (.len false (.t 72)) <|
 q 74 (.bin .eql (.t 73) (ci 0)) <|
 q 75 (.mv (.t 74)) <|
 qg 76 75 false (.mv (.t 1)) <|
 qg 77 75 false (.idxa 2 none (.t 76) (ci 0)) <|
 qg 78 75 false (.fld 0 (.t 77)) <|
 qg 79 75 false (.load false 1 (.t 78)) <|
 qg 80 75 false (.mv (.t 0)) <|
 qg 81 75 false (.idxa 2 none (.t 80) (ci 0)) <|
 qg 82 75 false (.fld 0 (.t 81)) <|
 qg 83 75 false (.load false 1 (.t 82)) <|
 qg 84 75 false (.bin .lss (.t 79) (.t 83)) <|
 q 85 (.pick (.t 75) (cb true) (.t 84)) <|
 q 71 (.mv (.t 85)) <|
 .keep [0, 1, 6, 71] <|
 .ite (.t 71)
 (.reg 0
 [xe 86 (.mv (.t 6)) [],
 xe 87 (.mv (.t 1)) [],
 xe 88 (.idxa 2 none (.t 87) (ci 0)) [],
 xe 89 (.load true 2 (.t 88)) [],
 xe 90 (.bslice false 2 1 [.int .i64 0, .int .i64 0] [(0, 2, (.t 89))]) [],
 xw 91 (.append 2 16 (.t 86) (.t 90)) [],
 xe 92 (.mv (.t 1)) [],
 xe 93 (.slice 2 none (.t 92) (some (ci 1)) none none) [(.t 86)],
 xl 6 (.mv (.t 91)) [],
 xl 1 (.mv (.t 93)) []] <|
 .keep [0, 1, 6] <|
 .done)
 (q 22 (.mv (.t 6)) <|
 q 23 (.mv (.t 0)) <|
 q 24 (.idxa 2 none (.t 23) (ci 0)) <|
 q 25 (.fld 0 (.t 24)) <|
 q 26 (.load false 1 (.t 25)) <|
 q 27 (.mv (.t 0)) <|
 q 28 (.idxa 2 none (.t 27) (ci 0)) <|
 q 29 (.fld 1 (.t 28)) <|
 q 30 (.load false 1 (.t 29)) <|
 q 31 (.mv (.t 1)) <|
 q 32 (.idxa 2 none (.t 31) (ci 0)) <|
 q 33 (.fld 1 (.t 32)) <|
 q 34 (.load false 1 (.t 33)) <|
 q 35 (.mn (.t 30) (.t 34)) <|
 q 36 (.build [.int .i64 0, .int .i64 0] [(0, 1, (.t 26)), (1, 1, (.t 35))]) <|
 q 37 (.bslice false 2 1 [.int .i64 0, .int .i64 0] [(0, 2, (.t 36))]) <|
 q 38 (.append 2 16 (.t 22) (.t 37)) <|
 q 6 (.mv (.t 38)) <|
 .keep [0, 1, 6] <|
 q 39 (.mv (.t 0)) <|
 q 40 (.slice 2 none (.t 39) (some (ci 1)) none none) <|
 q 41 (.mv (.t 1)) <|
 q 42 (.slice 2 none (.t 41) (some (ci 1)) none none) <|
 q 0 (.mv (.t 40)) <|
 q 1 (.mv (.t 42)) <|
 .keep [0, 1, 6] <|
 .done) <|
 .done) <|
 .done) <|
 .done) <|
 .keep [0, 1, 6] <|
 .done)) <|
 q 94 (.mv (.t 6)) <|
 q 95 (.len false (.t 94)) <|
 q 96 (.bin .gtr (.t 95) (ci 200)) <|
 .keep [6, 96] <|
 .ite (.t 96)
 (q 97 (.mkif T.api_Code (ci 3)) <|
 q 4 (.mv (.c (.slice none 0 0))) <|
 q 5 (.mv (.t 97)) <|
 .keep [4, 5] <|
 .ret)
 (.done) <|
 q 98 (.mv (.t 6)) <|
 q 4 (.mv (.t 98)) <|
 q 5 (.mv (.c (.nilIface))) <|
 .keep [4, 5] <|
 .ret
theorem e_revoke_Merge:EF false F.revoke_Merge ic_revoke_Merge [.t 4,.t 5]:=ef [] Try.func42 (by kernel_rfl) (by kernel_rfl) (by kernel_rfl)
def ic_keys_find : IC :=
 q 4 (.box (.t 1)) <|
 q 6 (.alloc [.int .u64 0, .int .u64 0, .int .u64 0, .int .u64 0, .int .u64 0, .int .u64 0, .int .u64 0, .int .u64 0, .bool false]) <|
 q 7 (.mv (cb false)) <|
 .keep [0, 2, 4, 6] <|
 q 9 (.mv (.t 0)) <|
 q 10 (.mkfn (.func F.keys_find_1) [] [(.t 4)]) <|
 q 11 (.call F.slices_IndexFunc_api_Key_api_Key [(.t 9), (.t 10)]) <|
 q 8 (.mv (.t 11)) <|
 .keep [0, 2, 6, 8] <|
 q 12 (.mv (.t 8)) <|
 q 13 (.bin .lss (.t 12) (ci 0)) <|
 q 14 (.mv (.t 13)) <|
 qg 15 14 false (.mv (.t 0)) <|
 qg 16 14 false (.mv (.t 8)) <|
 qg 17 14 false (.idxa 12 none (.t 15) (.t 16)) <|
 qg 18 14 false (.fld 10 (.t 17)) <|
 qg 19 14 false (.load false 1 (.t 18)) <|
 qg 20 14 false (.mv (.t 2)) <|
 qg 21 14 false (.bin .gtr (.t 19) (.t 20)) <|
 q 22 (.pick (.t 14) (cb true) (.t 21)) <|
 q 23 (.mv (.t 22)) <|
 qg 24 23 false (.mv (.t 0)) <|
 qg 25 23 false (.mv (.t 8)) <|
 qg 26 23 false (.idxa 12 none (.t 24) (.t 25)) <|
 qg 27 23 false (.fld 11 (.t 26)) <|
 qg 28 23 false (.load false 1 (.t 27)) <|
 qg 29 23 false (.mv (.t 2)) <|
 qg 30 23 false (.bin .leq (.t 28) (.t 29)) <|
 q 31 (.pick (.t 23) (cb true) (.t 30)) <|
 .keep [0, 6, 8, 31] <|
 .ite (.t 31)
 (q 32 (.build [.int .u64 0, .int .u64 0, .int .u64 0, .int .u64 0, .int .u64 0, .int .u64 0, .int .u64 0, .int .u64 0, .bool false] []) <|
 qn (.store 9 (.t 6) (.t 32)) <|
 q 7 (.mv (cb false)) <|
 .keep [6, 7] <|
 .ret)
 (.done) <|
 q 33 (.mv (.t 0)) <|
 q 34 (.mv (.t 8)) <|
 q 35 (.idxa 12 none (.t 33) (.t 34)) <|
 q 36 (.fld 1 (.t 35)) <|
 q 37 (.load true 9 (.t 36)) <|
 qn (.store 9 (.t 6) (.t 37)) <|
 q 7 (.mv (cb true)) <|
 .keep [6, 7] <|
 .ret
theorem e_keys_find:EF false F.keys_find ic_keys_find [.c 6 true 9,.t 7]:=ef [] Try.func70 (by kernel_rfl) (by kernel_rfl) (by kernel_rfl)
def ic_keys_one : IC :=
 q 1 (.box (.t 0)) <|
 q 2 (.mv (cb false)) <|
 .keep [1] <|
 q 3 (.fld 0 (.t 1)) <|
 q 4 (.load false 1 (.t 3)) <|
 q 5 (.bin .geq (.t 4) (ci 1)) <|
 q 6 (.mv (.t 5)) <|
 qg 7 6 true (.fld 0 (.t 1)) <|
 qg 8 6 true (.load false 1 (.t 7)) <|
 qg 9 6 true (.bin .leq (.t 8) (ci 2147483647)) <|
 q 10 (.pick (.t 6) (.t 9) (cb false)) <|
 q 11 (.mv (.t 10)) <|
 qg 12 11 true (.fld 1 (.t 1)) <|
 qg 13 11 true (.load true 9 (.t 12)) <|
 qg 14 11 true (.call F.point_On [(.t 13)]) <|
 q 15 (.pick (.t 11) (.t 14) (cb false)) <|
 q 16 (.mv (.t 15)) <|
 qg 17 16 true (.fld 1 (.t 1)) <|
 qg 18 16 true (.fld 8 (.t 17)) <|
 qg 19 16 true (.load false 1 (.t 18)) <|
 qg 20 16 true (.un .not (.t 19)) <|
 q 21 (.pick (.t 16) (.t 20) (cb false)) <|
 q 22 (.mv (.t 21)) <|
 qg 23 22 true (.fld 10 (.t 1)) <|
 qg 24 22 true (.load false 1 (.t 23)) <|
 qg 25 22 true (.bin .geq (.t 24) (ci 0)) <|
 q 26 (.pick (.t 22) (.t 25) (cb false)) <|
 q 27 (.mv (.t 26)) <|
 qg 28 27 true (.fld 10 (.t 1)) <|
 qg 29 27 true (.load false 1 (.t 28)) <|
 qg 30 27 true (.fld 11 (.t 1)) <|
 qg 31 27 true (.load false 1 (.t 30)) <|
 qg 32 27 true (.bin .leq (.t 29) (.t 31)) <|
 q 33 (.pick (.t 27) (.t 32) (cb false)) <|
 q 34 (.mv (.t 33)) <|
 qg 35 34 true (.fld 11 (.t 1)) <|
 qg 36 34 true (.load false 1 (.t 35)) <|
 qg 37 34 true (.bin .leq (.t 36) (ci 1073741824)) <|
 q 38 (.pick (.t 34) (.t 37) (cb false)) <|
 q 2 (.mv (.t 38)) <|
 .keep [2] <|
 .ret
theorem e_keys_one:EF false F.keys_one ic_keys_one [.t 2]:=ef [] Try.func71 (by kernel_rfl) (by kernel_rfl) (by kernel_rfl)
def ic_revoke_May : IC :=
 q 2 (.mv (cb false)) <|
 .keep [0] <|
 q 5 (.mv (.t 0)) <|
 q 6 (.len false (.t 5)) <|
 q 7 (.mv (ci 0)) <|
 .keep [0, 5, 6, 7] <|
 .block 0
 (.keep [0, 5, 6, 7] <|
 .loop
 (q 8 (.bin .lss (.t 7) (.t 6)) <|
 .keep [0, 5, 6, 7, 8] <|
 .ite (.t 8)
 (.done)
 (.exit 0) <|
 .block 1
 (q 9 (.mv (.t 7)) <|
 q 10 (.idxa 2 none (.t 5) (.t 7)) <|
 q 11 (.load true 2 (.t 10)) <|
 q 4 (.alloc [.int .i64 0, .int .i64 0]) <|
 q 3 (.mv (.t 9)) <|
 qn (.store 2 (.t 4) (.t 11)) <|
 .keep [0, 3, 4, 5, 6, 7] <|
 q 12 (.fld 0 (.t 4)) <|
 q 13 (.load false 1 (.t 12)) <|
 q 14 (.bin .lss (.t 13) (ci 1)) <|
 q 15 (.mv (.t 14)) <|
 qg 16 15 false (.fld 0 (.t 4)) <|
 qg 17 15 false (.load false 1 (.t 16)) <|
 qg 18 15 false (.bin .gtr (.t 17) (ci 2147483647)) <|
 q 19 (.pick (.t 15) (cb true) (.t 18)) <|
 q 20 (.mv (.t 19)) <|
 qg 21 20 false (.fld 1 (.t 4)) <|
 qg 22 20 false (.load false 1 (.t 21)) <|
 qg 23 20 false (.bin .lss (.t 22) (ci 0)) <|
 q 24 (.pick (.t 20) (cb true) (.t 23)) <|
 q 25 (.mv (.t 24)) <|
 qg 26 25 false (.fld 1 (.t 4)) <|
 qg 27 25 false (.load false 1 (.t 26)) <|
 qg 28 25 false (.bin .gtr (.t 27) (ci 1073741824)) <|
 q 29 (.pick (.t 25) (cb true) (.t 28)) <|
 q 30 (.mv (.t 29)) <|
 qg 31 30 false (.mv (.t 3)) <|
 qg 32 30 false (.bin .gtr (.t 31) (ci 0)) <|
 qg 33 30 false (.mv (.t 32)) <|
 qg 34 33 true (.mv (.t 0)) <|
 qg 35 33 true (.mv (.t 3)) <|
 qg 36 33 true (.bin .sub (.t 35) (ci 1)) <|
 qg 37 33 true (.idxa 2 none (.t 34) (.t 36)) <|
 qg 38 33 true (.fld 0 (.t 37)) <|
 qg 39 33 true (.load false 1 (.t 38)) <|
 qg 40 33 true (.fld 0 (.t 4)) <|
 qg 41 33 true (.load false 1 (.t 40)) <|
 qg 42 33 true (.bin .geq (.t 39) (.t 41)) <|
 qg 43 30 false (.pick (.t 33) (.t 42) (cb false)) <|
 q 44 (.pick (.t 30) (cb true) (.t 43)) <|
 .keep [0, 5, 6, 7, 44] <|
 .ite (.t 44)
 (q 2 (.mv (cb false)) <|
 .keep [2] <|
 .ret)
 (.done) <|
 .done) <|
 q 45 (.bin .add (.t 7) (ci 1)) <|
 q 7 (.mv (.t 45)) <|
 .keep [0, 5, 6, 7] <|
 .keep [0, 5, 6, 7] <|
 .done)) <|
 q 46 (.mv (.t 0)) <|
 q 47 (.len false (.t 46)) <|
 q 48 (.bin .leq (.t 47) (ci 200)) <|
 q 2 (.mv (.t 48)) <|
 .keep [2] <|
 .ret
theorem e_revoke_May:EF false F.revoke_May ic_revoke_May [.t 2]:=ef [] Try.func78 (by kernel_rfl) (by kernel_rfl) (by kernel_rfl)
def ic_fare_May : IC :=
 q 2 (.mv (cb false)) <|
 .keep [0] <|
 q 5 (.mv (.t 0)) <|
 q 6 (.len false (.t 5)) <|
 q 7 (.mv (ci 0)) <|
 .keep [0, 5, 6, 7] <|
 .block 0
 (.keep [0, 5, 6, 7] <|
 .loop
 (q 8 (.bin .lss (.t 7) (.t 6)) <|
 .keep [0, 5, 6, 7, 8] <|
 .ite (.t 8)
 (.done)
 (.exit 0) <|
 .block 1
 (q 9 (.mv (.t 7)) <|
 q 10 (.idxa 7 none (.t 5) (.t 7)) <|
 q 11 (.load true 7 (.t 10)) <|
 q 4 (.alloc [.int .i64 0, .int .i64 0, .int .i64 0, .int .i64 0, .int .i64 0, .slice none 0 0, .slice none 0 0]) <|
 q 3 (.mv (.t 9)) <|
 qn (.store 7 (.t 4) (.t 11)) <|
 .keep [0, 3, 4, 5, 6, 7] <|
 q 12 (.fld 0 (.t 4)) <|
 q 13 (.load false 1 (.t 12)) <|
 q 14 (.bin .lss (.t 13) (ci 1)) <|
 q 15 (.mv (.t 14)) <|
 qg 16 15 false (.fld 0 (.t 4)) <|
 qg 17 15 false (.load false 1 (.t 16)) <|
 qg 18 15 false (.bin .gtr (.t 17) (ci 16)) <|
 q 19 (.pick (.t 15) (cb true) (.t 18)) <|
 q 20 (.mv (.t 19)) <|
 qg 21 20 false (.mv (.t 3)) <|
 qg 22 20 false (.bin .gtr (.t 21) (ci 0)) <|
 qg 23 20 false (.mv (.t 22)) <|
 qg 24 23 true (.mv (.t 0)) <|
 qg 25 23 true (.mv (.t 3)) <|
 qg 26 23 true (.bin .sub (.t 25) (ci 1)) <|
 qg 27 23 true (.idxa 7 none (.t 24) (.t 26)) <|
 qg 28 23 true (.fld 0 (.t 27)) <|
 qg 29 23 true (.load false 1 (.t 28)) <|
 qg 30 23 true (.fld 0 (.t 4)) <|
 qg 31 23 true (.load false 1 (.t 30)) <|
 qg 32 23 true (.bin .geq (.t 29) (.t 31)) <|
 qg 33 20 false (.pick (.t 23) (.t 32) (cb false)) <|
 q 34 (.pick (.t 20) (cb true) (.t 33)) <|
 q 35 (.mv (.t 34)) <|
 qg 36 35 false (.fld 1 (.t 4)) <|
 qg 37 35 false (.load false 1 (.t 36)) <|
 qg 38 35 false (.bin .lss (.t 37) (ci 1)) <|
 q 39 (.pick (.t 35) (cb true) (.t 38)) <|
 q 40 (.mv (.t 39)) <|
 qg 41 40 false (.fld 1 (.t 4)) <|
 qg 42 40 false (.load false 1 (.t 41)) <|
 qg 43 40 false (.bin .gtr (.t 42) (ci 1048576)) <|
 q 44 (.pick (.t 40) (cb true) (.t 43)) <|
 q 45 (.mv (.t 44)) <|
 qg 46 45 false (.fld 2 (.t 4)) <|
 qg 47 45 false (.load true 5 (.t 46)) <|
 qg 48 45 false (.call F.service_May [(.t 47)]) <|
 qg 49 45 false (.un .not (.t 48)) <|
 q 50 (.pick (.t 45) (cb true) (.t 49)) <|
 .keep [0, 5, 6, 7, 50] <|
 .ite (.t 50)
 (q 2 (.mv (cb false)) <|
 .keep [2] <|
 .ret)
 (.done) <|
 .done) <|
 q 51 (.bin .add (.t 7) (ci 1)) <|
 q 7 (.mv (.t 51)) <|
 .keep [0, 5, 6, 7] <|
 .keep [0, 5, 6, 7] <|
 .done)) <|
 q 52 (.mv (.t 0)) <|
 q 53 (.len false (.t 52)) <|
 q 54 (.bin .leq (.t 53) (ci 16)) <|
 q 2 (.mv (.t 54)) <|
 .keep [2] <|
 .ret
theorem e_fare_May:EF false F.fare_May ic_fare_May [.t 2]:=ef [] Try.func79 (by kernel_rfl) (by kernel_rfl) (by kernel_rfl)
def ic_fare_place : IC :=
 q 4 (.mv (cb false)) <|
 .keep [0, 1] <|
 q 5 (.mv (.t 0)) <|
 q 6 (.bin .geq (.t 5) (ci 0)) <|
 q 7 (.mv (.t 6)) <|
 qg 8 7 true (.mv (.t 0)) <|
 qg 9 7 true (.bin .lss (.t 8) (ci 8)) <|
 q 10 (.pick (.t 7) (.t 9) (cb false)) <|
 q 11 (.mv (.t 10)) <|
 qg 12 11 true (.mv (.t 1)) <|
 qg 13 11 true (.bin .geq (.t 12) (ci 0)) <|
 q 14 (.pick (.t 11) (.t 13) (cb false)) <|
 q 15 (.mv (.t 14)) <|
 qg 16 15 true (.mv (.t 1)) <|
 qg 17 15 true (.bin .leq (.t 16) (ci 1073741824)) <|
 q 18 (.pick (.t 15) (.t 17) (cb false)) <|
 q 4 (.mv (.t 18)) <|
 .keep [4] <|
 .ret
theorem e_fare_place:EF false F.fare_place ic_fare_place [.t 4]:=ef [] Try.func80 (by kernel_rfl) (by kernel_rfl) (by kernel_rfl)
def ic_fare_product : IC :=
 q 3 (.box (.t 1)) <|
 q 4 (.alloc [.int .i64 0, .int .i64 0, .int .i64 0, .int .i64 0, .int .i64 0, .slice none 0 0, .slice none 0 0]) <|
 q 5 (.mv (cb false)) <|
 .keep [0, 3, 4] <|
 q 7 (.mv (.t 0)) <|
 q 8 (.mkfn (.func F.fare_product_1) [] [(.t 3)]) <|
 q 9 (.call F.slices_IndexFunc_api_Product_api_Product [(.t 7), (.t 8)]) <|
 q 6 (.mv (.t 9)) <|
 .keep [0, 4, 6] <|
 q 10 (.mv (.t 6)) <|
 q 11 (.bin .lss (.t 10) (ci 0)) <|
 .keep [0, 4, 6, 11] <|
 .ite (.t 11)
 (q 12 (.build [.int .i64 0, .int .i64 0, .int .i64 0, .int .i64 0, .int .i64 0, .slice none 0 0, .slice none 0 0] []) <|
 qn (.store 7 (.t 4) (.t 12)) <|
 q 5 (.mv (cb false)) <|
 .keep [4, 5] <|
 .ret)
 (.done) <|
 q 13 (.mv (.t 0)) <|
 q 14 (.mv (.t 6)) <|
 q 15 (.idxa 7 none (.t 13) (.t 14)) <|
 q 16 (.load true 7 (.t 15)) <|
 qn (.store 7 (.t 4) (.t 16)) <|
 q 5 (.mv (cb true)) <|
 .keep [4, 5] <|
 .ret
theorem e_fare_product:EF false F.fare_product ic_fare_product [.c 4 true 7,.t 5]:=ef [] Try.func81 (by kernel_rfl) (by kernel_rfl) (by kernel_rfl)
def ic_fare_in : IC :=
 q 2 (.box (.t 0)) <|
 q 4 (.mv (cb false)) <|
 .keep [1, 2] <|
 q 5 (.fld 2 (.t 2)) <|
 q 6 (.load false 1 (.t 5)) <|
 q 7 (.mv (.t 1)) <|
 q 8 (.bin .shr (.t 6) (.t 7)) <|
 q 9 (.bin .and (.t 8) (ci 1)) <|
 q 10 (.bin .eql (.t 9) (ci 1)) <|
 q 4 (.mv (.t 10)) <|
 .keep [4] <|
 .ret
theorem e_fare_in:EF false F.fare_in ic_fare_in [.t 4]:=ef [] Try.func82 (by kernel_rfl) (by kernel_rfl) (by kernel_rfl)
def ic_fare_then : IC :=
 q 3 (.box (.t 0)) <|
 q 4 (.box (.t 1)) <|
 q 6 (.mv (cb false)) <|
 .keep [2, 3, 4] <|
 q 7 (.fld 3 (.t 4)) <|
 q 8 (.load false 1 (.t 7)) <|
 q 9 (.mv (.t 2)) <|
 q 10 (.bin .leq (.t 8) (.t 9)) <|
 q 11 (.mv (.t 10)) <|
 qg 12 11 true (.mv (.t 2)) <|
 qg 13 11 true (.fld 3 (.t 4)) <|
 qg 14 11 true (.load false 1 (.t 13)) <|
 qg 15 11 true (.fld 1 (.t 3)) <|
 qg 16 11 true (.load false 1 (.t 15)) <|
 qg 17 11 true (.bin .add (.t 14) (.t 16)) <|
 qg 18 11 true (.bin .lss (.t 12) (.t 17)) <|
 q 19 (.pick (.t 11) (.t 18) (cb false)) <|
 q 20 (.mv (.t 19)) <|
 qg 21 20 true (.fld 2 (.t 3)) <|
 qg 22 20 true (.load true 5 (.t 21)) <|
 qg 23 20 true (.mv (.t 2)) <|
 qg 24 20 true (.bin .quo (.t 23) (ci 1440)) <|
 qg 25 20 true (.call F.service_Runs [(.t 22), (.t 24)]) <|
 q 26 (.pick (.t 20) (.t 25) (cb false)) <|
 q 6 (.mv (.t 26)) <|
 .keep [6] <|
 .ret
theorem e_fare_then:EF false F.fare_then ic_fare_then [.t 6]:=ef [] Try.func83 (by kernel_rfl) (by kernel_rfl) (by kernel_rfl)
def ic_slices_ContainsFunc_api_Revoked_api_Revoked : IC :=
 q 4 (.mv (cb false)) <|
 .keep [0, 1] <|
 q 5 (.mv (.t 0)) <|
 q 6 (.mv (.t 1)) <|
 q 7 (.call F.slices_IndexFunc_api_Revoked_api_Revoked [(.t 5), (.t 6)]) <|
 q 8 (.bin .geq (.t 7) (ci 0)) <|
 q 4 (.mv (.t 8)) <|
 .keep [4] <|
 .ret
theorem e_slices_ContainsFunc_api_Revoked_api_Revoked:EF false F.slices_ContainsFunc_api_Revoked_api_Revoked ic_slices_ContainsFunc_api_Revoked_api_Revoked [.t 4]:=ef [] Try.func84 (by kernel_rfl) (by kernel_rfl) (by kernel_rfl)
def ic_revoke_Is_1 : IC :=
 q 3 (.box (.t 0)) <|
 q 4 (.mv (cb false)) <|
 .keep [1, 2, 3] <|
 q 5 (.fld 0 (.t 3)) <|
 q 6 (.load false 1 (.t 5)) <|
 q 7 (.load false 1 (.t 1)) <|
 q 8 (.bin .eql (.t 6) (.t 7)) <|
 q 9 (.mv (.t 8)) <|
 qg 10 9 true (.fld 1 (.t 3)) <|
 qg 11 9 true (.load false 1 (.t 10)) <|
 qg 12 9 true (.load false 1 (.t 2)) <|
 qg 13 9 true (.bin .leq (.t 11) (.t 12)) <|
 q 14 (.pick (.t 9) (.t 13) (cb false)) <|
 q 4 (.mv (.t 14)) <|
 .keep [4] <|
 .ret
theorem e_revoke_Is_1:EF false F.revoke_Is_1 ic_revoke_Is_1 [.t 4]:=ef [] Try.func85 (by kernel_rfl) (by kernel_rfl) (by kernel_rfl)
def ic_slices_IndexFunc_api_Key_api_Key : IC :=
 q 4 (.mv (ci 0)) <|
 .keep [0, 1] <|
 q 6 (.mv (.t 0)) <|
 q 7 (.len false (.t 6)) <|
 q 8 (.mv (ci 0)) <|
 .keep [0, 1, 7, 8] <|
 .block 0
 (.keep [0, 1, 7, 8] <|
 .loop
 (q 9 (.bin .lss (.t 8) (.t 7)) <|
 .keep [0, 1, 7, 8, 9] <|
 .ite (.t 9)
 (.done)
 (.exit 0) <|
 .block 1
 (q 10 (.mv (.t 8)) <|
 q 5 (.mv (.t 10)) <|
 .keep [0, 1, 5, 7, 8] <|
 q 11 (.mv (.t 1)) <|
 q 12 (.mv (.t 0)) <|
 q 13 (.mv (.t 5)) <|
 q 14 (.idxa 12 none (.t 12) (.t 13)) <|
 q 15 (.load true 12 (.t 14)) <|
 q 16 (.callv (.t 11) [(.t 15)]) <|
 .keep [0, 1, 5, 7, 8, 16] <|
 .ite (.t 16)
 (q 17 (.mv (.t 5)) <|
 q 4 (.mv (.t 17)) <|
 .keep [4] <|
 .ret)
 (.done) <|
 .done) <|
 q 18 (.bin .add (.t 8) (ci 1)) <|
 q 8 (.mv (.t 18)) <|
 .keep [0, 1, 7, 8] <|
 .keep [0, 1, 7, 8] <|
 .done)) <|
 q 4 (.mv (ci (-1))) <|
 .keep [4] <|
 .ret
theorem e_slices_IndexFunc_api_Key_api_Key:EF false F.slices_IndexFunc_api_Key_api_Key ic_slices_IndexFunc_api_Key_api_Key [.t 4]:=ef [] Try.func122 (by kernel_rfl) (by kernel_rfl) (by kernel_rfl)
def ic_keys_find_1 : IC :=
 q 2 (.box (.t 0)) <|
 q 3 (.mv (cb false)) <|
 .keep [1, 2] <|
 q 4 (.fld 0 (.t 2)) <|
 q 5 (.load false 1 (.t 4)) <|
 q 6 (.load false 1 (.t 1)) <|
 q 7 (.bin .eql (.t 5) (.t 6)) <|
 q 3 (.mv (.t 7)) <|
 .keep [3] <|
 .ret
theorem e_keys_find_1:EF false F.keys_find_1 ic_keys_find_1 [.t 3]:=ef [] Try.func123 (by kernel_rfl) (by kernel_rfl) (by kernel_rfl)
def ic_service_May : IC :=
 q 1 (.box (.t 0)) <|
 q 2 (.mv (cb false)) <|
 .keep [1] <|
 q 4 (.mkfn (.func F.service_May_1) [] [(.t 1)]) <|
 q 3 (.mv (.t 4)) <|
 .keep [1, 3] <|
 q 5 (.fld 0 (.t 1)) <|
 q 6 (.load false 1 (.t 5)) <|
 q 7 (.bin .geq (.t 6) (ci 0)) <|
 q 8 (.mv (.t 7)) <|
 qg 9 8 true (.fld 0 (.t 1)) <|
 qg 10 8 true (.load false 1 (.t 9)) <|
 qg 11 8 true (.bin .lss (.t 10) (ci 128)) <|
 q 12 (.pick (.t 8) (.t 11) (cb false)) <|
 q 13 (.mv (.t 12)) <|
 qg 14 13 true (.fld 1 (.t 1)) <|
 qg 15 13 true (.load false 1 (.t 14)) <|
 qg 16 13 true (.bin .geq (.t 15) (ci 0)) <|
 q 17 (.pick (.t 13) (.t 16) (cb false)) <|
 q 18 (.mv (.t 17)) <|
 qg 19 18 true (.fld 1 (.t 1)) <|
 qg 20 18 true (.load false 1 (.t 19)) <|
 qg 21 18 true (.fld 2 (.t 1)) <|
 qg 22 18 true (.load false 1 (.t 21)) <|
 qg 23 18 true (.bin .leq (.t 20) (.t 22)) <|
 q 24 (.pick (.t 18) (.t 23) (cb false)) <|
 q 25 (.mv (.t 24)) <|
 qg 26 25 true (.fld 2 (.t 1)) <|
 qg 27 25 true (.load false 1 (.t 26)) <|
 qg 28 25 true (.bin .leq (.t 27) (ci 1048576)) <|
 q 29 (.pick (.t 25) (.t 28) (cb false)) <|
 q 30 (.mv (.t 29)) <|
 qg 31 30 true (.fld 3 (.t 1)) <|
 qg 32 30 true (.load false 1 (.t 31)) <|
 qg 33 30 true (.call F.service_days [(.t 32)]) <|
 q 34 (.pick (.t 30) (.t 33) (cb false)) <|
 q 35 (.mv (.t 34)) <|
 qg 36 35 true (.fld 4 (.t 1)) <|
 qg 37 35 true (.load false 1 (.t 36)) <|
 qg 38 35 true (.call F.service_days [(.t 37)]) <|
 q 39 (.pick (.t 35) (.t 38) (cb false)) <|
 q 40 (.mv (.t 39)) <|
 qg 41 40 true (.fld 3 (.t 1)) <|
 qg 42 40 true (.load false 1 (.t 41)) <|
 qg 43 40 true (.mv (.t 3)) <|
 qg 44 40 true (.call F.slices_ContainsFunc_int_int [(.t 42), (.t 43)]) <|
 qg 45 40 true (.un .not (.t 44)) <|
 q 46 (.pick (.t 40) (.t 45) (cb false)) <|
 q 2 (.mv (.t 46)) <|
 .keep [2] <|
 .ret
theorem e_service_May:EF false F.service_May ic_service_May [.t 2]:=ef [] Try.func128 (by kernel_rfl) (by kernel_rfl) (by kernel_rfl)
def ic_slices_IndexFunc_api_Product_api_Product : IC :=
 q 4 (.mv (ci 0)) <|
 .keep [0, 1] <|
 q 6 (.mv (.t 0)) <|
 q 7 (.len false (.t 6)) <|
 q 8 (.mv (ci 0)) <|
 .keep [0, 1, 7, 8] <|
 .block 0
 (.keep [0, 1, 7, 8] <|
 .loop
 (q 9 (.bin .lss (.t 8) (.t 7)) <|
 .keep [0, 1, 7, 8, 9] <|
 .ite (.t 9)
 (.done)
 (.exit 0) <|
 .block 1
 (q 10 (.mv (.t 8)) <|
 q 5 (.mv (.t 10)) <|
 .keep [0, 1, 5, 7, 8] <|
 q 11 (.mv (.t 1)) <|
 q 12 (.mv (.t 0)) <|
 q 13 (.mv (.t 5)) <|
 q 14 (.idxa 7 none (.t 12) (.t 13)) <|
 q 15 (.load true 7 (.t 14)) <|
 q 16 (.callv (.t 11) [(.t 15)]) <|
 .keep [0, 1, 5, 7, 8, 16] <|
 .ite (.t 16)
 (q 17 (.mv (.t 5)) <|
 q 4 (.mv (.t 17)) <|
 .keep [4] <|
 .ret)
 (.done) <|
 .done) <|
 q 18 (.bin .add (.t 8) (ci 1)) <|
 q 8 (.mv (.t 18)) <|
 .keep [0, 1, 7, 8] <|
 .keep [0, 1, 7, 8] <|
 .done)) <|
 q 4 (.mv (ci (-1))) <|
 .keep [4] <|
 .ret
theorem e_slices_IndexFunc_api_Product_api_Product:EF false F.slices_IndexFunc_api_Product_api_Product ic_slices_IndexFunc_api_Product_api_Product [.t 4]:=ef [] Try.func129 (by kernel_rfl) (by kernel_rfl) (by kernel_rfl)
def ic_fare_product_1 : IC :=
 q 2 (.box (.t 0)) <|
 q 3 (.mv (cb false)) <|
 .keep [1, 2] <|
 q 4 (.fld 0 (.t 2)) <|
 q 5 (.load false 1 (.t 4)) <|
 q 6 (.fld 1 (.t 1)) <|
 q 7 (.load false 1 (.t 6)) <|
 q 8 (.bin .eql (.t 5) (.t 7)) <|
 q 3 (.mv (.t 8)) <|
 .keep [3] <|
 .ret
theorem e_fare_product_1:EF false F.fare_product_1 ic_fare_product_1 [.t 3]:=ef [] Try.func130 (by kernel_rfl) (by kernel_rfl) (by kernel_rfl)
def ic_service_Runs : IC :=
 q 2 (.box (.t 0)) <|
 q 4 (.mv (cb false)) <|
 .keep [1, 2] <|
 q 5 (.load true 5 (.t 2)) <|
 q 6 (.call F.service_May [(.t 5)]) <|
 q 7 (.mv (.t 6)) <|
 qg 8 7 true (.load true 5 (.t 2)) <|
 qg 9 7 true (.mv (.t 1)) <|
 qg 10 7 true (.call F.service_runs [(.t 8), (.t 9)]) <|
 q 11 (.pick (.t 7) (.t 10) (cb false)) <|
 q 4 (.mv (.t 11)) <|
 .keep [4] <|
 .ret
theorem e_service_Runs:EF false F.service_Runs ic_service_Runs [.t 4]:=ef [] Try.func131 (by kernel_rfl) (by kernel_rfl) (by kernel_rfl)
def ic_slices_IndexFunc_api_Revoked_api_Revoked : IC :=
 q 4 (.mv (ci 0)) <|
 .keep [0, 1] <|
 q 6 (.mv (.t 0)) <|
 q 7 (.len false (.t 6)) <|
 q 8 (.mv (ci 0)) <|
 .keep [0, 1, 7, 8] <|
 .block 0
 (.keep [0, 1, 7, 8] <|
 .loop
 (q 9 (.bin .lss (.t 8) (.t 7)) <|
 .keep [0, 1, 7, 8, 9] <|
 .ite (.t 9)
 (.done)
 (.exit 0) <|
 .block 1
 (q 10 (.mv (.t 8)) <|
 q 5 (.mv (.t 10)) <|
 .keep [0, 1, 5, 7, 8] <|
 q 11 (.mv (.t 1)) <|
 q 12 (.mv (.t 0)) <|
 q 13 (.mv (.t 5)) <|
 q 14 (.idxa 2 none (.t 12) (.t 13)) <|
 q 15 (.load true 2 (.t 14)) <|
 q 16 (.callv (.t 11) [(.t 15)]) <|
 .keep [0, 1, 5, 7, 8, 16] <|
 .ite (.t 16)
 (q 17 (.mv (.t 5)) <|
 q 4 (.mv (.t 17)) <|
 .keep [4] <|
 .ret)
 (.done) <|
 .done) <|
 q 18 (.bin .add (.t 8) (ci 1)) <|
 q 8 (.mv (.t 18)) <|
 .keep [0, 1, 7, 8] <|
 .keep [0, 1, 7, 8] <|
 .done)) <|
 q 4 (.mv (ci (-1))) <|
 .keep [4] <|
 .ret
theorem e_slices_IndexFunc_api_Revoked_api_Revoked:EF false F.slices_IndexFunc_api_Revoked_api_Revoked ic_slices_IndexFunc_api_Revoked_api_Revoked [.t 4]:=ef [] Try.func132 (by kernel_rfl) (by kernel_rfl) (by kernel_rfl)
def ic_service_May_1 : IC :=
 q 3 (.mv (cb false)) <|
 .keep [0, 1] <|
 q 4 (.fld 4 (.t 1)) <|
 q 5 (.load false 1 (.t 4)) <|
 q 6 (.mv (.t 0)) <|
 q 7 (.call F.slices_Contains_int_int [(.t 5), (.t 6)]) <|
 q 3 (.mv (.t 7)) <|
 .keep [3] <|
 .ret
theorem e_service_May_1:EF false F.service_May_1 ic_service_May_1 [.t 3]:=ef [] Try.func152 (by kernel_rfl) (by kernel_rfl) (by kernel_rfl)
def ic_slices_Contains_int_int : IC :=
 q 4 (.mv (cb false)) <|
 .keep [0, 1] <|
 q 5 (.mv (.t 0)) <|
 q 6 (.mv (.t 1)) <|
 q 7 (.call F.slices_Index_int_int [(.t 5), (.t 6)]) <|
 q 8 (.bin .geq (.t 7) (ci 0)) <|
 q 4 (.mv (.t 8)) <|
 .keep [4] <|
 .ret
theorem e_slices_Contains_int_int:EF false F.slices_Contains_int_int ic_slices_Contains_int_int [.t 4]:=ef [] Try.func153 (by kernel_rfl) (by kernel_rfl) (by kernel_rfl)
def ic_service_days : IC :=
 q 2 (.mv (cb false)) <|
 .keep [0] <|
 q 5 (.mv (.t 0)) <|
 q 6 (.len false (.t 5)) <|
 q 7 (.mv (ci 0)) <|
 .keep [0, 5, 6, 7] <|
 .block 0
 (.keep [0, 5, 6, 7] <|
 .loop
 (q 8 (.bin .lss (.t 7) (.t 6)) <|
 .keep [0, 5, 6, 7, 8] <|
 .ite (.t 8)
 (.done)
 (.exit 0) <|
 .block 1
 (q 9 (.mv (.t 7)) <|
 q 10 (.idxa 1 none (.t 5) (.t 7)) <|
 q 11 (.load false 1 (.t 10)) <|
 q 3 (.mv (.t 9)) <|
 q 4 (.mv (.t 11)) <|
 .keep [0, 3, 4, 5, 6, 7] <|
 q 12 (.mv (.t 4)) <|
 q 13 (.bin .lss (.t 12) (ci 0)) <|
 q 14 (.mv (.t 13)) <|
 qg 15 14 false (.mv (.t 4)) <|
 qg 16 14 false (.bin .gtr (.t 15) (ci 1048576)) <|
 q 17 (.pick (.t 14) (cb true) (.t 16)) <|
 q 18 (.mv (.t 17)) <|
 qg 19 18 false (.mv (.t 3)) <|
 qg 20 18 false (.bin .gtr (.t 19) (ci 0)) <|
 qg 21 18 false (.mv (.t 20)) <|
 qg 22 21 true (.mv (.t 0)) <|
 qg 23 21 true (.mv (.t 3)) <|
 qg 24 21 true (.bin .sub (.t 23) (ci 1)) <|
 qg 25 21 true (.idxa 1 none (.t 22) (.t 24)) <|
 qg 26 21 true (.load false 1 (.t 25)) <|
 qg 27 21 true (.mv (.t 4)) <|
 qg 28 21 true (.bin .geq (.t 26) (.t 27)) <|
 qg 29 18 false (.pick (.t 21) (.t 28) (cb false)) <|
 q 30 (.pick (.t 18) (cb true) (.t 29)) <|
 .keep [0, 5, 6, 7, 30] <|
 .ite (.t 30)
 (q 2 (.mv (cb false)) <|
 .keep [2] <|
 .ret)
 (.done) <|
 .done) <|
 q 31 (.bin .add (.t 7) (ci 1)) <|
 q 7 (.mv (.t 31)) <|
 .keep [0, 5, 6, 7] <|
 .keep [0, 5, 6, 7] <|
 .done)) <|
 q 32 (.mv (.t 0)) <|
 q 33 (.len false (.t 32)) <|
 q 34 (.bin .leq (.t 33) (ci 100)) <|
 q 2 (.mv (.t 34)) <|
 .keep [2] <|
 .ret
theorem e_service_days:EF false F.service_days ic_service_days [.t 2]:=ef [] Try.func154 (by kernel_rfl) (by kernel_rfl) (by kernel_rfl)
def ic_slices_ContainsFunc_int_int : IC :=
 q 4 (.mv (cb false)) <|
 .keep [0, 1] <|
 q 5 (.mv (.t 0)) <|
 q 6 (.mv (.t 1)) <|
 q 7 (.call F.slices_IndexFunc_int_int [(.t 5), (.t 6)]) <|
 q 8 (.bin .geq (.t 7) (ci 0)) <|
 q 4 (.mv (.t 8)) <|
 .keep [4] <|
 .ret
theorem e_slices_ContainsFunc_int_int:EF false F.slices_ContainsFunc_int_int ic_slices_ContainsFunc_int_int [.t 4]:=ef [] Try.func155 (by kernel_rfl) (by kernel_rfl) (by kernel_rfl)
def ic_service_runs : IC :=
 q 2 (.box (.t 0)) <|
 q 4 (.mv (cb false)) <|
 .keep [1, 2] <|
 q 5 (.fld 3 (.t 2)) <|
 q 6 (.load false 1 (.t 5)) <|
 q 7 (.mv (.t 1)) <|
 q 8 (.call F.slices_Contains_int_int [(.t 6), (.t 7)]) <|
 .keep [1, 2, 8] <|
 .ite (.t 8)
 (q 4 (.mv (cb true)) <|
 .keep [4] <|
 .ret)
 (.done) <|
 q 9 (.mv (.t 1)) <|
 q 10 (.fld 1 (.t 2)) <|
 q 11 (.load false 1 (.t 10)) <|
 q 12 (.bin .geq (.t 9) (.t 11)) <|
 q 13 (.mv (.t 12)) <|
 qg 14 13 true (.mv (.t 1)) <|
 qg 15 13 true (.fld 2 (.t 2)) <|
 qg 16 13 true (.load false 1 (.t 15)) <|
 qg 17 13 true (.bin .lss (.t 14) (.t 16)) <|
 q 18 (.pick (.t 13) (.t 17) (cb false)) <|
 q 19 (.mv (.t 18)) <|
 qg 20 19 true (.fld 0 (.t 2)) <|
 qg 21 19 true (.load false 1 (.t 20)) <|
 qg 22 19 true (.mv (.t 1)) <|
 qg 23 19 true (.bin .rem (.t 22) (ci 7)) <|
 qg 24 19 true (.bin .shr (.t 21) (.t 23)) <|
 qg 25 19 true (.bin .and (.t 24) (ci 1)) <|
 qg 26 19 true (.bin .eql (.t 25) (ci 1)) <|
 q 27 (.pick (.t 19) (.t 26) (cb false)) <|
 q 28 (.mv (.t 27)) <|
 qg 29 28 true (.fld 4 (.t 2)) <|
 qg 30 28 true (.load false 1 (.t 29)) <|
 qg 31 28 true (.mv (.t 1)) <|
 qg 32 28 true (.call F.slices_Contains_int_int [(.t 30), (.t 31)]) <|
 qg 33 28 true (.un .not (.t 32)) <|
 q 34 (.pick (.t 28) (.t 33) (cb false)) <|
 q 4 (.mv (.t 34)) <|
 .keep [4] <|
 .ret
theorem e_service_runs:EF false F.service_runs ic_service_runs [.t 4]:=ef [] Try.func156 (by kernel_rfl) (by kernel_rfl) (by kernel_rfl)
def ic_slices_Index_int_int : IC :=
 q 4 (.mv (ci 0)) <|
 .keep [0, 1] <|
 q 6 (.mv (.t 0)) <|
 q 7 (.len false (.t 6)) <|
 q 8 (.mv (ci 0)) <|
 .keep [0, 1, 7, 8] <|
 .block 0
 (.keep [0, 1, 7, 8] <|
 .loop
 (q 9 (.bin .lss (.t 8) (.t 7)) <|
 .keep [0, 1, 7, 8, 9] <|
 .ite (.t 9)
 (.done)
 (.exit 0) <|
 .block 1
 (q 10 (.mv (.t 8)) <|
 q 5 (.mv (.t 10)) <|
 .keep [0, 1, 5, 7, 8] <|
 q 11 (.mv (.t 1)) <|
 q 12 (.mv (.t 0)) <|
 q 13 (.mv (.t 5)) <|
 q 14 (.idxa 1 none (.t 12) (.t 13)) <|
 q 15 (.load false 1 (.t 14)) <|
 q 16 (.bin .eql (.t 11) (.t 15)) <|
 .keep [0, 1, 5, 7, 8, 16] <|
 .ite (.t 16)
 (q 17 (.mv (.t 5)) <|
 q 4 (.mv (.t 17)) <|
 .keep [4] <|
 .ret)
 (.done) <|
 .done) <|
 q 18 (.bin .add (.t 8) (ci 1)) <|
 q 8 (.mv (.t 18)) <|
 .keep [0, 1, 7, 8] <|
 .keep [0, 1, 7, 8] <|
 .done)) <|
 q 4 (.mv (ci (-1))) <|
 .keep [4] <|
 .ret
theorem e_slices_Index_int_int:EF false F.slices_Index_int_int ic_slices_Index_int_int [.t 4]:=ef [] Try.func162 (by kernel_rfl) (by kernel_rfl) (by kernel_rfl)
def ic_slices_IndexFunc_int_int : IC :=
 q 4 (.mv (ci 0)) <|
 .keep [0, 1] <|
 q 6 (.mv (.t 0)) <|
 q 7 (.len false (.t 6)) <|
 q 8 (.mv (ci 0)) <|
 .keep [0, 1, 7, 8] <|
 .block 0
 (.keep [0, 1, 7, 8] <|
 .loop
 (q 9 (.bin .lss (.t 8) (.t 7)) <|
 .keep [0, 1, 7, 8, 9] <|
 .ite (.t 9)
 (.done)
 (.exit 0) <|
 .block 1
 (q 10 (.mv (.t 8)) <|
 q 5 (.mv (.t 10)) <|
 .keep [0, 1, 5, 7, 8] <|
 q 11 (.mv (.t 1)) <|
 q 12 (.mv (.t 0)) <|
 q 13 (.mv (.t 5)) <|
 q 14 (.idxa 1 none (.t 12) (.t 13)) <|
 q 15 (.load false 1 (.t 14)) <|
 q 16 (.callv (.t 11) [(.t 15)]) <|
 .keep [0, 1, 5, 7, 8, 16] <|
 .ite (.t 16)
 (q 17 (.mv (.t 5)) <|
 q 4 (.mv (.t 17)) <|
 .keep [4] <|
 .ret)
 (.done) <|
 .done) <|
 q 18 (.bin .add (.t 8) (ci 1)) <|
 q 8 (.mv (.t 18)) <|
 .keep [0, 1, 7, 8] <|
 .keep [0, 1, 7, 8] <|
 .done)) <|
 q 4 (.mv (ci (-1))) <|
 .keep [4] <|
 .ret
theorem e_slices_IndexFunc_int_int:EF false F.slices_IndexFunc_int_int ic_slices_IndexFunc_int_int [.t 4]:=ef [] Try.func163 (by kernel_rfl) (by kernel_rfl) (by kernel_rfl)
end Go.Proofs.Ytgfploghjpbcaaa.Eng

