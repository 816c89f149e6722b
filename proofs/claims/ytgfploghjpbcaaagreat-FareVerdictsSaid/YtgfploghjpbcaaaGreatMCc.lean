/- The code of some functions, as the abstract machine's. Printed by program. -/
import Derived.Test.YtgfploghjpbcaaaGreatMCa
namespace Go.Proofs.YtgfploghjpbcaaaGreat.Eng
open Go Go.Proofs
set_option maxRecDepth 20000
def ic_ticket_Open : IC :=
 q 2 (.alloc (List.replicate 5 (.int .i64 0))) <|
 q 3 (.alloc (List.replicate 8 (.int .u64 0))) <|
 q 4 (.mv (.c (.nilIface))) <|
 .keep [0, 2, 3] <|
 q 12 (.mv (.t 0)) <|
 q 13 (.call F.ticket_parts [(.t 12)]) <|
 q 11 (.mv (.t 13)) <|
 q 14 (.ext (.t 11) 0) <|
 q 15 (.ext (.t 11) 1) <|
 q 16 (.ext (.t 11) 2) <|
 q 6 (.alloc (List.replicate 8 (.int .u64 0))) <|
 q 5 (.mv (.t 14)) <|
 qn (.store 8 (.t 6) (.t 15)) <|
 q 7 (.mv (.t 16)) <|
 .keep [2, 3, 5, 6, 7] <|
 q 18 (.mv (.t 5)) <|
 q 19 (.call F.ticket_numbers [(.t 18), (ci 5)]) <|
 q 17 (.mv (.t 19)) <|
 q 20 (.ext (.t 17) 0) <|
 q 21 (.ext (.t 17) 1) <|
 q 8 (.mv (.t 20)) <|
 q 9 (.mv (.t 21)) <|
 .keep [2, 3, 6, 7, 8, 9] <|
 q 22 (.mv (.t 7)) <|
 q 23 (.un .not (.t 22)) <|
 q 24 (.mv (.t 23)) <|
 qg 25 24 false (.mv (.t 9)) <|
 qg 26 24 false (.un .not (.t 25)) <|
 q 27 (.pick (.t 24) (cb true) (.t 26)) <|
 .keep [2, 3, 6, 8, 27] <|
 .ite (.t 27)
 (q 28 (.build (List.replicate 5 (.int .i64 0)) []) <|
 q 29 (.build (List.replicate 8 (.int .u64 0)) []) <|
 q 30 (.mkif T.api_Code (ci 2)) <|
 qn (.store 5 (.t 2) (.t 28)) <|
 qn (.store 8 (.t 3) (.t 29)) <|
 q 4 (.mv (.t 30)) <|
 .keep [2, 3, 4] <|
 .ret)
 (.done) <|
 .reg 1
 [xe 31 (.mv (.t 8)) [],
 xe 32 (.idxa 1 none (.t 31) (ci 0)) [],
 xe 33 (.load false 1 (.t 32)) [],
 xe 34 (.mv (.t 8)) [],
 xe 35 (.idxa 1 none (.t 34) (ci 1)) [],
 xe 36 (.load false 1 (.t 35)) [],
 xe 37 (.mv (.t 8)) [],
 xe 38 (.idxa 1 none (.t 37) (ci 2)) [],
 xe 39 (.load false 1 (.t 38)) [],
 xe 40 (.mv (.t 8)) [],
 xe 41 (.idxa 1 none (.t 40) (ci 3)) [],
 xe 42 (.load false 1 (.t 41)) [],
 xe 43 (.mv (.t 8)) [],
 xe 44 (.idxa 1 none (.t 43) (ci 4)) [],
 xe 45 (.load false 1 (.t 44)) [],
 xe 46 (.build (List.replicate 5 (.int .i64 0)) [(0, 1, (.t 33)), (1, 1, (.t 36)), (2, 1, (.t 39)), (3, 1, (.t 42)), (4, 1, (.t 45))]) [],
 xa 0 10 (.alloc (List.replicate 5 (.int .i64 0))),
 xln (.store 5 (.t 10) (.t 46)) []] <|
 .keep [2, 3, 6, 10] <|
 q 47 (.load true 5 (.t 10)) <|
 q 48 (.call F.ticket_May [(.t 47)]) <|
 q 49 (.un .not (.t 48)) <|
 .keep [2, 3, 6, 10, 49] <|
 .ite (.t 49)
 (q 50 (.build (List.replicate 5 (.int .i64 0)) []) <|
 q 51 (.build (List.replicate 8 (.int .u64 0)) []) <|
 q 52 (.mkif T.api_Code (ci 2)) <|
 qn (.store 5 (.t 2) (.t 50)) <|
 qn (.store 8 (.t 3) (.t 51)) <|
 q 4 (.mv (.t 52)) <|
 .keep [2, 3, 4] <|
 .ret)
 (.done) <|
 .reg 0
 [xe 53 (.load true 5 (.t 10)) [],
 xe 54 (.load true 8 (.t 6)) [],
 xln (.store 5 (.t 2) (.t 53)) [(.t 6)],
 xln (.store 8 (.t 3) (.t 54)) [],
 xl 4 (.mv (.c (.nilIface))) []] <|
 .keep [2, 3, 4] <|
 .ret
theorem e_ticket_Open:EF false F.ticket_Open ic_ticket_Open [.c 2 true 5,.c 3 true 8,.t 4]:=ef [] Tryz.func22 (by kernel_rfl) (by kernel_rfl) (by kernel_rfl)
def ic_clapperref09_Open : IC :=
 q 2 (.alloc (List.replicate 5 (.int .i64 0))) <|
 q 3 (.alloc (List.replicate 8 (.int .u64 0))) <|
 q 4 (.mv (cb false)) <|
 .keep [0, 2, 3] <|
 q 13 (.mv (.t 0)) <|
 q 14 (.call F.clapperref09_Parts [(.t 13)]) <|
 q 12 (.mv (.t 14)) <|
 q 15 (.ext (.t 12) 0) <|
 q 16 (.ext (.t 12) 1) <|
 q 17 (.ext (.t 12) 2) <|
 q 6 (.alloc (List.replicate 8 (.int .u64 0))) <|
 q 5 (.mv (.t 15)) <|
 qn (.store 8 (.t 6) (.t 16)) <|
 q 7 (.mv (.t 17)) <|
 .keep [2, 3, 5, 6, 7] <|
 q 19 (.mv (.t 5)) <|
 q 20 (.call F.clapperref08_Numbers [(.t 19), (ci 5)]) <|
 q 18 (.mv (.t 20)) <|
 q 21 (.ext (.t 18) 0) <|
 q 22 (.ext (.t 18) 1) <|
 q 8 (.mv (.t 21)) <|
 q 9 (.mv (.t 22)) <|
 .keep [2, 3, 6, 7, 8, 9] <|
 q 23 (.mv (.t 7)) <|
 q 24 (.un .not (.t 23)) <|
 q 25 (.mv (.t 24)) <|
 qg 26 25 false (.mv (.t 9)) <|
 qg 27 25 false (.un .not (.t 26)) <|
 q 28 (.pick (.t 25) (cb true) (.t 27)) <|
 .keep [2, 3, 6, 8, 28] <|
 .ite (.t 28)
 (q 29 (.build (List.replicate 5 (.int .i64 0)) []) <|
 q 30 (.build (List.replicate 8 (.int .u64 0)) []) <|
 qn (.store 5 (.t 2) (.t 29)) <|
 qn (.store 8 (.t 3) (.t 30)) <|
 q 4 (.mv (cb false)) <|
 .keep [2, 3, 4] <|
 .ret)
 (.done) <|
 .reg 1
 [xe 31 (.mv (.t 8)) [],
 xe 32 (.idxa 1 none (.t 31) (ci 0)) [],
 xe 33 (.load false 1 (.t 32)) [],
 xe 34 (.mv (.t 8)) [],
 xe 35 (.idxa 1 none (.t 34) (ci 1)) [],
 xe 36 (.load false 1 (.t 35)) [],
 xe 37 (.mv (.t 8)) [],
 xe 38 (.idxa 1 none (.t 37) (ci 2)) [],
 xe 39 (.load false 1 (.t 38)) [],
 xe 40 (.mv (.t 8)) [],
 xe 41 (.idxa 1 none (.t 40) (ci 3)) [],
 xe 42 (.load false 1 (.t 41)) [],
 xe 43 (.mv (.t 8)) [],
 xe 44 (.idxa 1 none (.t 43) (ci 4)) [],
 xe 45 (.load false 1 (.t 44)) [],
 xe 46 (.build (List.replicate 5 (.int .i64 0)) [(0, 1, (.t 33)), (1, 1, (.t 36)), (2, 1, (.t 39)), (3, 1, (.t 42)), (4, 1, (.t 45))]) [],
 xa 0 10 (.alloc (List.replicate 5 (.int .i64 0))),
 xln (.store 5 (.t 10) (.t 46)) []] <|
 .keep [2, 3, 6, 10] <|
 q 47 (.load true 5 (.t 10)) <|
 q 48 (.call F.clapperref09_May [(.t 47)]) <|
 q 11 (.mv (.t 48)) <|
 .keep [2, 3, 6, 10, 11] <|
 q 49 (.mv (.t 11)) <|
 q 50 (.un .not (.t 49)) <|
 .keep [2, 3, 6, 10, 50] <|
 .ite (.t 50)
 (q 51 (.build (List.replicate 5 (.int .i64 0)) []) <|
 q 52 (.build (List.replicate 8 (.int .u64 0)) []) <|
 qn (.store 5 (.t 2) (.t 51)) <|
 qn (.store 8 (.t 3) (.t 52)) <|
 q 4 (.mv (cb false)) <|
 .keep [2, 3, 4] <|
 .ret)
 (.done) <|
 .reg 0
 [xe 53 (.load true 5 (.t 10)) [],
 xe 54 (.load true 8 (.t 6)) [],
 xln (.store 5 (.t 2) (.t 53)) [(.t 6)],
 xln (.store 8 (.t 3) (.t 54)) [],
 xl 4 (.mv (cb true)) []] <|
 .keep [2, 3, 4] <|
 .ret
theorem e_clapperref09_Open:EF false F.clapperref09_Open ic_clapperref09_Open [.c 2 true 5,.c 3 true 8,.t 4]:=ef [] Tryz.func23 (by kernel_rfl) (by kernel_rfl) (by kernel_rfl)
def ic_ticket_Check : IC :=
 q 3 (.box (.t 1)) <|
 q 4 (.alloc (List.replicate 5 (.int .i64 0))) <|
 q 5 (.mv (.c (.nilIface))) <|
 .keep [0, 3, 4] <|
 q 13 (.mv (.t 0)) <|
 q 14 (.call F.ticket_Open [(.t 13)]) <|
 q 12 (.mv (.t 14)) <|
 q 15 (.ext (.t 12) 0) <|
 q 16 (.ext (.t 12) 1) <|
 q 17 (.ext (.t 12) 2) <|
 q 6 (.alloc (List.replicate 5 (.int .i64 0))) <|
 q 7 (.alloc (List.replicate 8 (.int .u64 0))) <|
 qn (.store 5 (.t 6) (.t 15)) <|
 qn (.store 8 (.t 7) (.t 16)) <|
 q 8 (.mv (.t 17)) <|
 .keep [0, 3, 4, 6, 7, 8] <|
 q 18 (.mv (.t 8)) <|
 q 19 (.eq true .i (.t 18) (.c (.nilIface))) <|
 .keep [0, 3, 4, 6, 7, 8, 19] <|
 .ite (.t 19)
 (q 20 (.build (List.replicate 5 (.int .i64 0)) []) <|
 q 21 (.mv (.t 8)) <|
 qn (.store 5 (.t 4) (.t 20)) <|
 q 5 (.mv (.t 21)) <|
 .keep [4, 5] <|
 .ret)
 (.done) <|
 q 23 (.mv (.t 0)) <|
 q 24 (.call F.ticket_parts [(.t 23)]) <|
 q 22 (.mv (.t 24)) <|
 q 25 (.ext (.t 22) 0) <|
 q 26 (.ext (.t 22) 1) <|
 q 27 (.ext (.t 22) 2) <|
 q 10 (.alloc (List.replicate 8 (.int .u64 0))) <|
 q 9 (.mv (.t 25)) <|
 qn (.store 8 (.t 10) (.t 26)) <|
 q 11 (.mv (.t 27)) <|
 .keep [3, 4, 6, 7, 9] <|
 q 28 (.load true 9 (.t 3)) <|
 q 29 (.mv (.t 9)) <|
 q 30 (.call F.sha_Sum [(.t 29)]) <|
 q 31 (.load true 8 (.t 7)) <|
 q 32 (.call F.sign_Verify [(.t 28), (.t 30), (.t 31)]) <|
 q 33 (.un .not (.t 32)) <|
 .keep [4, 6, 33] <|
 .ite (.t 33)
 (q 34 (.build (List.replicate 5 (.int .i64 0)) []) <|
 q 35 (.mkif T.api_Code (ci 8)) <|
 qn (.store 5 (.t 4) (.t 34)) <|
 q 5 (.mv (.t 35)) <|
 .keep [4, 5] <|
 .ret)
 (.done) <|
 q 36 (.load true 5 (.t 6)) <|
 qn (.store 5 (.t 4) (.t 36)) <|
 q 5 (.mv (.c (.nilIface))) <|
 .keep [4, 5] <|
 .ret
theorem e_ticket_Check:EF false F.ticket_Check ic_ticket_Check [.c 4 true 5,.t 5]:=ef [] Tryz.func24 (by kernel_rfl) (by kernel_rfl) (by kernel_rfl)
def ic_clapperref09_Check : IC :=
 q 3 (.box (.t 1)) <|
 q 4 (.alloc (List.replicate 5 (.int .i64 0))) <|
 q 5 (.mv (ci 0)) <|
 .keep [0, 3, 4] <|
 q 14 (.mv (.t 0)) <|
 q 15 (.call F.clapperref09_Open [(.t 14)]) <|
 q 13 (.mv (.t 15)) <|
 q 16 (.ext (.t 13) 0) <|
 q 17 (.ext (.t 13) 1) <|
 q 18 (.ext (.t 13) 2) <|
 q 6 (.alloc (List.replicate 5 (.int .i64 0))) <|
 q 7 (.alloc (List.replicate 8 (.int .u64 0))) <|
 qn (.store 5 (.t 6) (.t 16)) <|
 qn (.store 8 (.t 7) (.t 17)) <|
 q 8 (.mv (.t 18)) <|
 .keep [0, 3, 4, 6, 7, 8] <|
 q 19 (.mv (.t 8)) <|
 q 20 (.un .not (.t 19)) <|
 .keep [0, 3, 4, 6, 7, 20] <|
 .ite (.t 20)
 (q 21 (.build (List.replicate 5 (.int .i64 0)) []) <|
 qn (.store 5 (.t 4) (.t 21)) <|
 q 5 (.mv (ci 2)) <|
 .keep [4, 5] <|
 .ret)
 (.done) <|
 q 23 (.mv (.t 0)) <|
 q 24 (.call F.clapperref09_Parts [(.t 23)]) <|
 q 22 (.mv (.t 24)) <|
 q 25 (.ext (.t 22) 0) <|
 q 26 (.ext (.t 22) 1) <|
 q 27 (.ext (.t 22) 2) <|
 q 10 (.alloc (List.replicate 8 (.int .u64 0))) <|
 q 9 (.mv (.t 25)) <|
 qn (.store 8 (.t 10) (.t 26)) <|
 q 11 (.mv (.t 27)) <|
 .keep [3, 4, 6, 7, 9] <|
 q 28 (.load true 9 (.t 3)) <|
 q 29 (.mv (.t 9)) <|
 q 30 (.call F.clapperref03_Sum [(.t 29)]) <|
 q 31 (.load true 8 (.t 7)) <|
 q 32 (.call F.clapperref07_Verify [(.t 28), (.t 30), (.t 31)]) <|
 q 12 (.mv (.t 32)) <|
 .keep [4, 6, 12] <|
 q 33 (.mv (.t 12)) <|
 q 34 (.un .not (.t 33)) <|
 .keep [4, 6, 34] <|
 .ite (.t 34)
 (q 35 (.build (List.replicate 5 (.int .i64 0)) []) <|
 qn (.store 5 (.t 4) (.t 35)) <|
 q 5 (.mv (ci 8)) <|
 .keep [4, 5] <|
 .ret)
 (.done) <|
 q 36 (.load true 5 (.t 6)) <|
 qn (.store 5 (.t 4) (.t 36)) <|
 q 5 (.mv (ci 0)) <|
 .keep [4, 5] <|
 .ret
theorem e_clapperref09_Check:EF false F.clapperref09_Check ic_clapperref09_Check [.c 4 true 5,.t 5]:=ef [] Tryz.func25 (by kernel_rfl) (by kernel_rfl) (by kernel_rfl)
def ic_clapperref09_May : IC :=
 q 1 (.box (.t 0)) <|
 q 2 (.mv (cb false)) <|
 .keep [1] <|
 q 3 (.fld 0 (.t 1)) <|
 q 4 (.load false 1 (.t 3)) <|
 q 5 (.bin .geq (.t 4) (ci 1)) <|
 q 6 (.mv (.t 5)) <|
 qg 7 6 true (.fld 0 (.t 1)) <|
 qg 8 6 true (.load false 1 (.t 7)) <|
 qg 9 6 true (.bin .leq (.t 8) (ci 2147483647)) <|
 q 10 (.pick (.t 6) (.t 9) (cb false)) <|
 q 11 (.mv (.t 10)) <|
 qg 12 11 true (.fld 1 (.t 1)) <|
 qg 13 11 true (.load false 1 (.t 12)) <|
 qg 14 11 true (.bin .geq (.t 13) (ci 1)) <|
 q 15 (.pick (.t 11) (.t 14) (cb false)) <|
 q 16 (.mv (.t 15)) <|
 qg 17 16 true (.fld 1 (.t 1)) <|
 qg 18 16 true (.load false 1 (.t 17)) <|
 qg 19 16 true (.bin .leq (.t 18) (ci 16)) <|
 q 20 (.pick (.t 16) (.t 19) (cb false)) <|
 q 21 (.mv (.t 20)) <|
 qg 22 21 true (.fld 2 (.t 1)) <|
 qg 23 21 true (.load false 1 (.t 22)) <|
 qg 24 21 true (.bin .geq (.t 23) (ci 1)) <|
 q 25 (.pick (.t 21) (.t 24) (cb false)) <|
 q 26 (.mv (.t 25)) <|
 qg 27 26 true (.fld 2 (.t 1)) <|
 qg 28 26 true (.load false 1 (.t 27)) <|
 qg 29 26 true (.bin .leq (.t 28) (ci 255)) <|
 q 30 (.pick (.t 26) (.t 29) (cb false)) <|
 q 31 (.mv (.t 30)) <|
 qg 32 31 true (.fld 3 (.t 1)) <|
 qg 33 31 true (.load false 1 (.t 32)) <|
 qg 34 31 true (.bin .geq (.t 33) (ci 0)) <|
 q 35 (.pick (.t 31) (.t 34) (cb false)) <|
 q 36 (.mv (.t 35)) <|
 qg 37 36 true (.fld 3 (.t 1)) <|
 qg 38 36 true (.load false 1 (.t 37)) <|
 qg 39 36 true (.bin .leq (.t 38) (ci 1073741824)) <|
 q 40 (.pick (.t 36) (.t 39) (cb false)) <|
 q 41 (.mv (.t 40)) <|
 qg 42 41 true (.fld 4 (.t 1)) <|
 qg 43 41 true (.load false 1 (.t 42)) <|
 qg 44 41 true (.bin .geq (.t 43) (ci 1)) <|
 q 45 (.pick (.t 41) (.t 44) (cb false)) <|
 q 46 (.mv (.t 45)) <|
 qg 47 46 true (.fld 4 (.t 1)) <|
 qg 48 46 true (.load false 1 (.t 47)) <|
 qg 49 46 true (.bin .leq (.t 48) (ci 2147483647)) <|
 q 50 (.pick (.t 46) (.t 49) (cb false)) <|
 q 2 (.mv (.t 50)) <|
 .keep [2] <|
 .ret
theorem e_clapperref09_May:EF false F.clapperref09_May ic_clapperref09_May [.t 2]:=ef [] Tryz.func38 (by kernel_rfl) (by kernel_rfl) (by kernel_rfl)
def ic_ticket_May : IC :=
 q 1 (.box (.t 0)) <|
 q 2 (.mv (cb false)) <|
 .keep [1] <|
 q 3 (.fld 0 (.t 1)) <|
 q 4 (.load false 1 (.t 3)) <|
 q 5 (.call F.ticket_within [(.t 4), (ci 1), (ci 2147483647)]) <|
 q 6 (.mv (.t 5)) <|
 qg 7 6 true (.fld 1 (.t 1)) <|
 qg 8 6 true (.load false 1 (.t 7)) <|
 qg 9 6 true (.call F.ticket_within [(.t 8), (ci 1), (ci 16)]) <|
 q 10 (.pick (.t 6) (.t 9) (cb false)) <|
 q 11 (.mv (.t 10)) <|
 qg 12 11 true (.fld 2 (.t 1)) <|
 qg 13 11 true (.load false 1 (.t 12)) <|
 qg 14 11 true (.call F.ticket_within [(.t 13), (ci 1), (ci 255)]) <|
 q 15 (.pick (.t 11) (.t 14) (cb false)) <|
 q 16 (.mv (.t 15)) <|
 qg 17 16 true (.fld 3 (.t 1)) <|
 qg 18 16 true (.load false 1 (.t 17)) <|
 qg 19 16 true (.call F.ticket_within [(.t 18), (ci 0), (ci 1073741824)]) <|
 q 20 (.pick (.t 16) (.t 19) (cb false)) <|
 q 21 (.mv (.t 20)) <|
 qg 22 21 true (.fld 4 (.t 1)) <|
 qg 23 21 true (.load false 1 (.t 22)) <|
 qg 24 21 true (.call F.ticket_within [(.t 23), (ci 1), (ci 2147483647)]) <|
 q 25 (.pick (.t 21) (.t 24) (cb false)) <|
 q 2 (.mv (.t 25)) <|
 .keep [2] <|
 .ret
theorem e_ticket_May:EF false F.ticket_May ic_ticket_May [.t 2]:=ef [] Tryz.func41 (by kernel_rfl) (by kernel_rfl) (by kernel_rfl)
def ic_ticket_parts : IC :=
 q 2 (.mv (.c (.slice none 0 0))) <|
 q 3 (.alloc (List.replicate 8 (.int .u64 0))) <|
 q 4 (.mv (cb false)) <|
 .keep [0, 3] <|
 q 9 (.mv (.t 0)) <|
 q 10 (.call F.tlv_Get [(.t 9)]) <|
 q 8 (.mv (.t 10)) <|
 q 11 (.ext (.t 8) 0) <|
 q 12 (.ext (.t 8) 1) <|
 q 5 (.mv (.t 11)) <|
 q 6 (.mv (.t 12)) <|
 .keep [3, 5, 6] <|
 q 13 (.mv (.t 6)) <|
 q 14 (.eq true .i (.t 13) (.c (.nilIface))) <|
 q 15 (.mv (.t 14)) <|
 qg 16 15 false (.mv (.t 5)) <|
 qg 17 15 false (.len false (.t 16)) <|
 qg 18 15 false (.bin .neq (.t 17) (ci 2)) <|
 q 19 (.pick (.t 15) (cb true) (.t 18)) <|
 q 20 (.mv (.t 19)) <|
 qg 21 20 false (.mv (.t 5)) <|
 qg 22 20 false (.idxa 2 none (.t 21) (ci 0)) <|
 qg 23 20 false (.fld 0 (.t 22)) <|
 qg 24 20 false (.load false 1 (.t 23)) <|
 qg 25 20 false (.bin .neq (.t 24) (ci 1)) <|
 q 26 (.pick (.t 20) (cb true) (.t 25)) <|
 q 27 (.mv (.t 26)) <|
 qg 28 27 false (.mv (.t 5)) <|
 qg 29 27 false (.idxa 2 none (.t 28) (ci 1)) <|
 qg 30 27 false (.fld 0 (.t 29)) <|
 qg 31 27 false (.load false 1 (.t 30)) <|
 qg 32 27 false (.bin .neq (.t 31) (ci 2)) <|
 q 33 (.pick (.t 27) (cb true) (.t 32)) <|
 .keep [3, 5, 33] <|
 .ite (.t 33)
 (q 34 (.build (List.replicate 8 (.int .u64 0)) []) <|
 q 2 (.mv (.c (.slice none 0 0))) <|
 qn (.store 8 (.t 3) (.t 34)) <|
 q 4 (.mv (cb false)) <|
 .keep [2, 3, 4] <|
 .ret)
 (.done) <|
 q 36 (.mv (.t 5)) <|
 q 37 (.idxa 2 none (.t 36) (ci 1)) <|
 q 38 (.fld 1 (.t 37)) <|
 q 39 (.load false 1 (.t 38)) <|
 q 40 (.call F.sign_Parse [(.t 39)]) <|
 q 35 (.mv (.t 40)) <|
 q 41 (.ext (.t 35) 0) <|
 q 42 (.ext (.t 35) 1) <|
 q 7 (.alloc (List.replicate 8 (.int .u64 0))) <|
 qn (.store 8 (.t 7) (.t 41)) <|
 q 6 (.mv (.t 42)) <|
 .keep [3, 5, 6, 7] <|
 q 43 (.mv (.t 5)) <|
 q 44 (.idxa 2 none (.t 43) (ci 0)) <|
 q 45 (.fld 1 (.t 44)) <|
 q 46 (.load false 1 (.t 45)) <|
 q 47 (.load true 8 (.t 7)) <|
 q 48 (.mv (.t 6)) <|
 q 49 (.eq false .i (.t 48) (.c (.nilIface))) <|
 q 2 (.mv (.t 46)) <|
 qn (.store 8 (.t 3) (.t 47)) <|
 q 4 (.mv (.t 49)) <|
 .keep [2, 3, 4] <|
 .ret
theorem e_ticket_parts:EF false F.ticket_parts ic_ticket_parts [.t 2,.c 3 true 8,.t 4]:=ef [] Tryz.func88 (by kernel_rfl) (by kernel_rfl) (by kernel_rfl)
def ic_ticket_numbers : IC :=
 q 4 (.mv (.c (.slice none 0 0))) <|
 q 5 (.mv (cb false)) <|
 .keep [0, 1] <|
 q 14 (.mv (.t 0)) <|
 q 15 (.call F.tlv_Get [(.t 14)]) <|
 q 13 (.mv (.t 15)) <|
 q 16 (.ext (.t 13) 0) <|
 q 17 (.ext (.t 13) 1) <|
 q 6 (.mv (.t 16)) <|
 q 7 (.mv (.t 17)) <|
 .keep [1, 6, 7] <|
 q 18 (.mv (.t 7)) <|
 q 19 (.eq true .i (.t 18) (.c (.nilIface))) <|
 q 20 (.mv (.t 19)) <|
 qg 21 20 false (.mv (.t 6)) <|
 qg 22 20 false (.len false (.t 21)) <|
 qg 23 20 false (.mv (.t 1)) <|
 qg 24 20 false (.bin .neq (.t 22) (.t 23)) <|
 q 25 (.pick (.t 20) (cb true) (.t 24)) <|
 .keep [6, 25] <|
 .ite (.t 25)
 (q 4 (.mv (.c (.slice none 0 0))) <|
 q 5 (.mv (cb false)) <|
 .keep [4, 5] <|
 .ret)
 (.done) <|
 q 8 (.mv (.c (.slice none 0 0))) <|
 .keep [6, 8] <|
 q 26 (.mv (.t 6)) <|
 q 27 (.len false (.t 26)) <|
 q 28 (.mv (ci 0)) <|
 .keep [8, 26, 27, 28] <|
 .block 0
 (.keep [8, 26, 27, 28] <|
 .loop
 (q 29 (.bin .lss (.t 28) (.t 27)) <|
 .keep [8, 26, 27, 28, 29] <|
 .ite (.t 29)
 (.done)
 (.exit 0) <|
 .block 1
 (q 30 (.mv (.t 28)) <|
 q 31 (.idxa 2 none (.t 26) (.t 28)) <|
 q 32 (.load true 2 (.t 31)) <|
 q 10 (.alloc [.int .i64 0, .slice none 0 0]) <|
 q 9 (.mv (.t 30)) <|
 qn (.store 2 (.t 10) (.t 32)) <|
 .keep [8, 9, 10, 26, 27, 28] <|
 q 34 (.fld 1 (.t 10)) <|
 q 35 (.load false 1 (.t 34)) <|
 q 36 (.call F.tlv_Of [(.t 35)]) <|
 q 33 (.mv (.t 36)) <|
 q 37 (.ext (.t 33) 0) <|
 q 38 (.ext (.t 33) 1) <|
 q 11 (.mv (.t 37)) <|
 q 12 (.mv (.t 38)) <|
 .keep [8, 9, 10, 11, 12, 26, 27, 28] <|
 q 39 (.mv (.t 12)) <|
 q 40 (.eq true .i (.t 39) (.c (.nilIface))) <|
 q 41 (.mv (.t 40)) <|
 qg 42 41 false (.fld 0 (.t 10)) <|
 qg 43 41 false (.load false 1 (.t 42)) <|
 qg 44 41 false (.mv (.t 9)) <|
 qg 45 41 false (.bin .add (.t 44) (ci 1)) <|
 qg 46 41 false (.bin .neq (.t 43) (.t 45)) <|
 q 47 (.pick (.t 41) (cb true) (.t 46)) <|
 .keep [8, 11, 26, 27, 28, 47] <|
 .ite (.t 47)
 (q 4 (.mv (.c (.slice none 0 0))) <|
 q 5 (.mv (cb false)) <|
 .keep [4, 5] <|
 .ret)
 (.done) <|
 q 48 (.mv (.t 8)) <|
 q 49 (.mv (.t 11)) <|
 q 50 (.bslice false 1 1 [.int .i64 0] [(0, 1, (.t 49))]) <|
 q 51 (.append 1 8 (.t 48) (.t 50)) <|
 q 8 (.mv (.t 51)) <|
 .keep [8, 26, 27, 28] <|
 .done) <|
 q 52 (.bin .add (.t 28) (ci 1)) <|
 q 28 (.mv (.t 52)) <|
 .keep [8, 26, 27, 28] <|
 .keep [8, 26, 27, 28] <|
 .done)) <|
 q 53 (.mv (.t 8)) <|
 q 4 (.mv (.t 53)) <|
 q 5 (.mv (cb true)) <|
 .keep [4, 5] <|
 .ret
theorem e_ticket_numbers:EF false F.ticket_numbers ic_ticket_numbers [.t 4,.t 5]:=ef [] Tryz.func89 (by kernel_rfl) (by kernel_rfl) (by kernel_rfl)
def ic_clapperref09_Parts : IC :=
 q 2 (.mv (.c (.slice none 0 0))) <|
 q 3 (.alloc (List.replicate 8 (.int .u64 0))) <|
 q 4 (.mv (cb false)) <|
 .keep [0, 3] <|
 q 10 (.mv (.t 0)) <|
 q 11 (.call F.clapperref08_Get [(.t 10)]) <|
 q 9 (.mv (.t 11)) <|
 q 12 (.ext (.t 9) 0) <|
 q 13 (.ext (.t 9) 1) <|
 q 5 (.mv (.t 12)) <|
 q 6 (.mv (.t 13)) <|
 .keep [3, 5, 6] <|
 q 14 (.mv (.t 6)) <|
 q 15 (.un .not (.t 14)) <|
 q 16 (.mv (.t 15)) <|
 qg 17 16 false (.mv (.t 5)) <|
 qg 18 16 false (.len false (.t 17)) <|
 qg 19 16 false (.bin .neq (.t 18) (ci 2)) <|
 q 20 (.pick (.t 16) (cb true) (.t 19)) <|
 q 21 (.mv (.t 20)) <|
 qg 22 21 false (.mv (.t 5)) <|
 qg 23 21 false (.idxa 2 none (.t 22) (ci 0)) <|
 qg 24 21 false (.fld 0 (.t 23)) <|
 qg 25 21 false (.load false 1 (.t 24)) <|
 qg 26 21 false (.bin .neq (.t 25) (ci 1)) <|
 q 27 (.pick (.t 21) (cb true) (.t 26)) <|
 q 28 (.mv (.t 27)) <|
 qg 29 28 false (.mv (.t 5)) <|
 qg 30 28 false (.idxa 2 none (.t 29) (ci 1)) <|
 qg 31 28 false (.fld 0 (.t 30)) <|
 qg 32 28 false (.load false 1 (.t 31)) <|
 qg 33 28 false (.bin .neq (.t 32) (ci 2)) <|
 q 34 (.pick (.t 28) (cb true) (.t 33)) <|
 q 35 (.mv (.t 34)) <|
 qg 36 35 false (.mv (.t 5)) <|
 qg 37 35 false (.idxa 2 none (.t 36) (ci 1)) <|
 qg 38 35 false (.fld 1 (.t 37)) <|
 qg 39 35 false (.load false 1 (.t 38)) <|
 qg 40 35 false (.len false (.t 39)) <|
 qg 41 35 false (.bin .neq (.t 40) (ci 64)) <|
 q 42 (.pick (.t 35) (cb true) (.t 41)) <|
 .keep [3, 5, 42] <|
 .ite (.t 42)
 (q 43 (.build (List.replicate 8 (.int .u64 0)) []) <|
 q 2 (.mv (.c (.slice none 0 0))) <|
 qn (.store 8 (.t 3) (.t 43)) <|
 q 4 (.mv (cb false)) <|
 .keep [2, 3, 4] <|
 .ret)
 (.done) <|
 q 44 (.mv (.t 5)) <|
 q 45 (.idxa 2 none (.t 44) (ci 1)) <|
 q 46 (.fld 1 (.t 45)) <|
 q 47 (.load false 1 (.t 46)) <|
 q 48 (.slice 1 none (.t 47) none (some (ci 32)) none) <|
 q 49 (.call F.clapperref01_Of [(.t 48)]) <|
 q 7 (.alloc (List.replicate 4 (.int .u64 0))) <|
 qn (.store 4 (.t 7) (.t 49)) <|
 .keep [3, 5, 7] <|
 q 50 (.mv (.t 5)) <|
 q 51 (.idxa 2 none (.t 50) (ci 1)) <|
 q 52 (.fld 1 (.t 51)) <|
 q 53 (.load false 1 (.t 52)) <|
 q 54 (.slice 1 none (.t 53) (some (ci 32)) none none) <|
 q 55 (.call F.clapperref01_Of [(.t 54)]) <|
 q 8 (.alloc (List.replicate 4 (.int .u64 0))) <|
 qn (.store 4 (.t 8) (.t 55)) <|
 .keep [3, 5, 7, 8] <|
 q 56 (.mv (.t 5)) <|
 q 57 (.idxa 2 none (.t 56) (ci 0)) <|
 q 58 (.fld 1 (.t 57)) <|
 q 59 (.load false 1 (.t 58)) <|
 q 60 (.load true 4 (.t 7)) <|
 q 61 (.load true 4 (.t 8)) <|
 q 62 (.build (List.replicate 8 (.int .u64 0)) [(0, 4, (.t 60)), (4, 4, (.t 61))]) <|
 q 2 (.mv (.t 59)) <|
 qn (.store 8 (.t 3) (.t 62)) <|
 q 4 (.mv (cb true)) <|
 .keep [2, 3, 4] <|
 .ret
theorem e_clapperref09_Parts:EF false F.clapperref09_Parts ic_clapperref09_Parts [.t 2,.c 3 true 8,.t 4]:=ef [] Tryz.func90 (by kernel_rfl) (by kernel_rfl) (by kernel_rfl)
def ic_ticket_within : IC :=
 q 6 (.mv (cb false)) <|
 .keep [0, 1, 2] <|
 q 7 (.mv (.t 0)) <|
 q 8 (.mv (.t 1)) <|
 q 9 (.bin .geq (.t 7) (.t 8)) <|
 q 10 (.mv (.t 9)) <|
 qg 11 10 true (.mv (.t 0)) <|
 qg 12 10 true (.mv (.t 2)) <|
 qg 13 10 true (.bin .leq (.t 11) (.t 12)) <|
 q 14 (.pick (.t 10) (.t 13) (cb false)) <|
 q 6 (.mv (.t 14)) <|
 .keep [6] <|
 .ret
theorem e_ticket_within:EF false F.ticket_within ic_ticket_within [.t 6]:=ef [] Tryz.func103 (by kernel_rfl) (by kernel_rfl) (by kernel_rfl)
def ic_clapperlaw14_FareVerdicts : IC :=
 q 12 (.mv (cb false)) <|
 .keep [0, 1, 2, 3, 4, 5] <|
 q 21 (.call F.clapperlaw14_up []) <|
 q 13 (.mv (.t 21)) <|
 .keep [0, 1, 2, 3, 4, 5, 13] <|
 q 22 (.mv (.t 2)) <|
 q 23 (.call F.clapperref14_Few [(.t 22)]) <|
 q 14 (.mv (.t 23)) <|
 .keep [0, 1, 2, 3, 4, 5, 13, 14] <|
 q 24 (.mv (.t 14)) <|
 q 25 (.un .not (.t 24)) <|
 q 26 (.mv (.t 25)) <|
 qg 27 26 false (.mv (.t 0)) <|
 qg 28 26 false (.len false (.t 27)) <|
 qg 29 26 false (.bin .gtr (.t 28) (ci 60)) <|
 q 30 (.pick (.t 26) (cb true) (.t 29)) <|
 q 31 (.mv (.t 30)) <|
 qg 32 31 false (.mv (.t 1)) <|
 qg 33 31 false (.len false (.t 32)) <|
 qg 34 31 false (.bin .gtr (.t 33) (ci 300)) <|
 q 35 (.pick (.t 31) (cb true) (.t 34)) <|
 q 36 (.mv (.t 35)) <|
 qg 37 36 false (.mv (.t 3)) <|
 qg 38 36 false (.len false (.t 37)) <|
 qg 39 36 false (.bin .gtr (.t 38) (ci 5000)) <|
 q 40 (.pick (.t 36) (cb true) (.t 39)) <|
 .keep [0, 1, 2, 3, 4, 5, 13, 40] <|
 .ite (.t 40)
 (q 41 (.mv (.t 13)) <|
 q 12 (.mv (.t 41)) <|
 .keep [12] <|
 .ret)
 (.done) <|
 q 43 (.mv (.t 0)) <|
 q 44 (.mv (.t 1)) <|
 q 45 (.mv (.t 2)) <|
 q 46 (.mv (.t 3)) <|
 q 47 (.mv (.t 4)) <|
 q 48 (.mv (.t 5)) <|
 q 49 (.call F.fare_Verdict [(.t 43), (.t 44), (.t 45), (.t 46), (.t 47), (.t 48)]) <|
 q 42 (.mv (.t 49)) <|
 q 50 (.ext (.t 42) 0) <|
 q 51 (.ext (.t 42) 1) <|
 q 15 (.mv (.t 50)) <|
 q 16 (.mv (.t 51)) <|
 .keep [0, 1, 2, 3, 4, 5, 13, 15, 16] <|
 q 52 (.mv (.t 0)) <|
 q 53 (.call F.clapperref10_May [(.t 52)]) <|
 q 17 (.mv (.t 53)) <|
 .keep [0, 1, 2, 3, 4, 5, 13, 15, 16, 17] <|
 q 54 (.mv (.t 1)) <|
 q 55 (.call F.clapperref11_May [(.t 54)]) <|
 q 18 (.mv (.t 55)) <|
 .keep [0, 1, 2, 3, 4, 5, 13, 15, 16, 17, 18] <|
 q 56 (.mv (.t 2)) <|
 q 57 (.call F.clapperref14_May [(.t 56)]) <|
 q 19 (.mv (.t 57)) <|
 .keep [0, 1, 2, 3, 4, 5, 13, 15, 16, 17, 18, 19] <|
 q 58 (.mv (.t 4)) <|
 q 59 (.mv (.t 5)) <|
 q 60 (.call F.clapperref14_Place [(.t 58), (.t 59)]) <|
 q 20 (.mv (.t 60)) <|
 .keep [0, 1, 2, 3, 4, 5, 13, 15, 16, 17, 18, 19, 20] <|
 q 61 (.mv (.t 17)) <|
 q 62 (.un .not (.t 61)) <|
 q 63 (.mv (.t 62)) <|
 qg 64 63 false (.mv (.t 18)) <|
 qg 65 63 false (.un .not (.t 64)) <|
 q 66 (.pick (.t 63) (cb true) (.t 65)) <|
 q 67 (.mv (.t 66)) <|
 qg 68 67 false (.mv (.t 19)) <|
 qg 69 67 false (.un .not (.t 68)) <|
 q 70 (.pick (.t 67) (cb true) (.t 69)) <|
 q 71 (.mv (.t 70)) <|
 qg 72 71 false (.mv (.t 20)) <|
 qg 73 71 false (.un .not (.t 72)) <|
 q 74 (.pick (.t 71) (cb true) (.t 73)) <|
 .keep [0, 1, 2, 3, 4, 5, 13, 15, 16, 74] <|
 .ite (.t 74)
 (q 75 (.mv (.t 13)) <|
 q 76 (.mv (.t 75)) <|
 qg 77 76 true (.mv (.t 16)) <|
 qg 78 76 true (.mkif T.api_Code (ci 1)) <|
 qg 79 76 true (.eq false .i (.t 77) (.t 78)) <|
 q 80 (.pick (.t 76) (.t 79) (cb false)) <|
 q 81 (.mv (.t 80)) <|
 qg 82 81 true (.mv (.t 15)) <|
 qg 83 81 true (.bin .eql (.t 82) (ci 0)) <|
 q 84 (.pick (.t 81) (.t 83) (cb false)) <|
 q 12 (.mv (.t 84)) <|
 .keep [12] <|
 .ret)
 (.done) <|
 q 85 (.mv (.t 13)) <|
 q 86 (.mv (.t 85)) <|
 qg 87 86 true (.mv (.t 16)) <|
 qg 88 86 true (.eq false .i (.t 87) (.c (.nilIface))) <|
 q 89 (.pick (.t 86) (.t 88) (cb false)) <|
 q 90 (.mv (.t 89)) <|
 qg 91 90 true (.mv (.t 15)) <|
 qg 92 90 true (.mv (.t 0)) <|
 qg 93 90 true (.mv (.t 1)) <|
 qg 94 90 true (.mv (.t 2)) <|
 qg 95 90 true (.mv (.t 3)) <|
 qg 96 90 true (.mv (.t 4)) <|
 qg 97 90 true (.mv (.t 5)) <|
 qg 98 90 true (.call F.clapperref14_Verdict [(.t 92), (.t 93), (.t 94), (.t 95), (.t 96), (.t 97)]) <|
 qg 99 90 true (.bin .eql (.t 91) (.t 98)) <|
 q 100 (.pick (.t 90) (.t 99) (cb false)) <|
 q 12 (.mv (.t 100)) <|
 .keep [12] <|
 .ret
theorem e_clapperlaw14_FareVerdicts:EF false F.clapperlaw14_FareVerdicts ic_clapperlaw14_FareVerdicts [.t 12]:=ef [] Tryz.func11 (by kernel_rfl) (by kernel_rfl) (by kernel_rfl)
def ic_keys_Check : IC :=
 q 6 (.alloc (List.replicate 5 (.int .i64 0))) <|
 q 7 (.mv (.c (.nilIface))) <|
 .keep [0, 1, 2, 6] <|
 q 13 (.mv (.t 0)) <|
 q 14 (.call F.keys_May [(.t 13)]) <|
 q 15 (.un .not (.t 14)) <|
 .keep [0, 1, 2, 6, 15] <|
 .ite (.t 15)
 (q 16 (.build (List.replicate 5 (.int .i64 0)) []) <|
 q 17 (.mkif T.api_Code (ci 1)) <|
 qn (.store 5 (.t 6) (.t 16)) <|
 q 7 (.mv (.t 17)) <|
 .keep [6, 7] <|
 .ret)
 (.done) <|
 q 19 (.mv (.t 1)) <|
 q 20 (.call F.ticket_Open [(.t 19)]) <|
 q 18 (.mv (.t 20)) <|
 q 21 (.ext (.t 18) 0) <|
 q 22 (.ext (.t 18) 1) <|
 q 23 (.ext (.t 18) 2) <|
 q 8 (.alloc (List.replicate 5 (.int .i64 0))) <|
 q 9 (.alloc (List.replicate 8 (.int .u64 0))) <|
 qn (.store 5 (.t 8) (.t 21)) <|
 qn (.store 8 (.t 9) (.t 22)) <|
 q 10 (.mv (.t 23)) <|
 .keep [0, 1, 2, 6, 8, 10] <|
 q 24 (.mv (.t 10)) <|
 q 25 (.eq true .i (.t 24) (.c (.nilIface))) <|
 .keep [0, 1, 2, 6, 8, 10, 25] <|
 .ite (.t 25)
 (q 26 (.build (List.replicate 5 (.int .i64 0)) []) <|
 q 27 (.mv (.t 10)) <|
 qn (.store 5 (.t 6) (.t 26)) <|
 q 7 (.mv (.t 27)) <|
 .keep [6, 7] <|
 .ret)
 (.done) <|
 q 29 (.mv (.t 0)) <|
 q 30 (.fld 4 (.t 8)) <|
 q 31 (.load false 1 (.t 30)) <|
 q 32 (.mv (.t 2)) <|
 q 33 (.call F.keys_find [(.t 29), (.t 31), (.t 32)]) <|
 q 28 (.mv (.t 33)) <|
 q 34 (.ext (.t 28) 0) <|
 q 35 (.ext (.t 28) 1) <|
 q 11 (.alloc [.int .u64 0, .int .u64 0, .int .u64 0, .int .u64 0, .int .u64 0, .int .u64 0, .int .u64 0, .int .u64 0, .bool false]) <|
 qn (.store 9 (.t 11) (.t 34)) <|
 q 12 (.mv (.t 35)) <|
 .keep [1, 6, 11, 12] <|
 q 36 (.mv (.t 12)) <|
 q 37 (.un .not (.t 36)) <|
 .keep [1, 6, 11, 37] <|
 .ite (.t 37)
 (q 38 (.build (List.replicate 5 (.int .i64 0)) []) <|
 q 39 (.mkif T.api_Code (ci 4)) <|
 qn (.store 5 (.t 6) (.t 38)) <|
 q 7 (.mv (.t 39)) <|
 .keep [6, 7] <|
 .ret)
 (.done) <|
 q 40 (.mv (.t 1)) <|
 q 41 (.load true 9 (.t 11)) <|
 q 42 (.call F.ticket_Check [(.t 40), (.t 41)]) <|
 q 43 (.ext (.t 42) 0) <|
 q 44 (.ext (.t 42) 1) <|
 qn (.store 5 (.t 6) (.t 43)) <|
 q 7 (.mv (.t 44)) <|
 .keep [6, 7] <|
 .ret
theorem e_keys_Check:EF false F.keys_Check ic_keys_Check [.c 6 true 5,.t 7]:=ef [] Tryz.func31 (by kernel_rfl) (by kernel_rfl) (by kernel_rfl)
def ic_clapperref10_May : IC :=
 q 2 (.mv (cb false)) <|
 .keep [0] <|
 q 3 (.mv (ci 0)) <|
 .keep [0, 3] <|
 .block 0
 (.keep [0, 3] <|
 .loop
 (q 6 (.mv (.t 3)) <|
 q 7 (.mv (.t 0)) <|
 q 8 (.len false (.t 7)) <|
 q 9 (.bin .lss (.t 6) (.t 8)) <|
 .keep [0, 3, 9] <|
 .ite (.t 9)
 (.done)
 (.exit 0) <|
 .block 1
 (q 12 (.mv (.t 0)) <|
 q 13 (.mv (.t 3)) <|
 q 14 (.idxa 12 none (.t 12) (.t 13)) <|
 q 15 (.load true 12 (.t 14)) <|
 q 4 (.alloc [.int .i64 0, .int .u64 0, .int .u64 0, .int .u64 0, .int .u64 0, .int .u64 0, .int .u64 0, .int .u64 0, .int .u64 0, .bool false, .int .i64 0, .int .i64 0]) <|
 qn (.store 12 (.t 4) (.t 15)) <|
 .keep [0, 3, 4] <|
 q 16 (.fld 1 (.t 4)) <|
 q 17 (.load true 9 (.t 16)) <|
 q 18 (.call F.clapperref05_On [(.t 17)]) <|
 q 5 (.mv (.t 18)) <|
 .keep [0, 3, 4, 5] <|
 q 19 (.fld 0 (.t 4)) <|
 q 20 (.load false 1 (.t 19)) <|
 q 21 (.bin .lss (.t 20) (ci 1)) <|
 q 22 (.mv (.t 21)) <|
 qg 23 22 false (.fld 0 (.t 4)) <|
 qg 24 22 false (.load false 1 (.t 23)) <|
 qg 25 22 false (.bin .gtr (.t 24) (ci 2147483647)) <|
 q 26 (.pick (.t 22) (cb true) (.t 25)) <|
 q 27 (.mv (.t 26)) <|
 qg 28 27 false (.mv (.t 5)) <|
 qg 29 27 false (.un .not (.t 28)) <|
 q 30 (.pick (.t 27) (cb true) (.t 29)) <|
 q 31 (.mv (.t 30)) <|
 qg 32 31 false (.fld 1 (.t 4)) <|
 qg 33 31 false (.fld 8 (.t 32)) <|
 qg 34 31 false (.load false 1 (.t 33)) <|
 q 35 (.pick (.t 31) (cb true) (.t 34)) <|
 q 36 (.mv (.t 35)) <|
 qg 37 36 false (.fld 10 (.t 4)) <|
 qg 38 36 false (.load false 1 (.t 37)) <|
 qg 39 36 false (.bin .lss (.t 38) (ci 0)) <|
 q 40 (.pick (.t 36) (cb true) (.t 39)) <|
 q 41 (.mv (.t 40)) <|
 qg 42 41 false (.fld 11 (.t 4)) <|
 qg 43 41 false (.load false 1 (.t 42)) <|
 qg 44 41 false (.fld 10 (.t 4)) <|
 qg 45 41 false (.load false 1 (.t 44)) <|
 qg 46 41 false (.bin .lss (.t 43) (.t 45)) <|
 q 47 (.pick (.t 41) (cb true) (.t 46)) <|
 q 48 (.mv (.t 47)) <|
 qg 49 48 false (.fld 11 (.t 4)) <|
 qg 50 48 false (.load false 1 (.t 49)) <|
 qg 51 48 false (.bin .gtr (.t 50) (ci 1073741824)) <|
 q 52 (.pick (.t 48) (cb true) (.t 51)) <|
 q 53 (.mv (.t 52)) <|
 qg 54 53 false (.mv (.t 3)) <|
 qg 55 53 false (.bin .gtr (.t 54) (ci 0)) <|
 qg 56 53 false (.mv (.t 55)) <|
 qg 57 56 true (.fld 0 (.t 4)) <|
 qg 58 56 true (.load false 1 (.t 57)) <|
 qg 59 56 true (.mv (.t 0)) <|
 qg 60 56 true (.mv (.t 3)) <|
 qg 61 56 true (.bin .sub (.t 60) (ci 1)) <|
 qg 62 56 true (.idxa 12 none (.t 59) (.t 61)) <|
 qg 63 56 true (.fld 0 (.t 62)) <|
 qg 64 56 true (.load false 1 (.t 63)) <|
 qg 65 56 true (.bin .leq (.t 58) (.t 64)) <|
 qg 66 53 false (.pick (.t 56) (.t 65) (cb false)) <|
 q 67 (.pick (.t 53) (cb true) (.t 66)) <|
 .keep [0, 3, 67] <|
 .ite (.t 67)
 (q 2 (.mv (cb false)) <|
 .keep [2] <|
 .ret)
 (.done) <|
 .done) <|
 q 10 (.mv (.t 3)) <|
 q 11 (.bin .add (.t 10) (ci 1)) <|
 q 3 (.mv (.t 11)) <|
 .keep [0, 3] <|
 .keep [0, 3] <|
 .done)) <|
 q 68 (.mv (.t 0)) <|
 q 69 (.len false (.t 68)) <|
 q 70 (.bin .leq (.t 69) (ci 32)) <|
 q 2 (.mv (.t 70)) <|
 .keep [2] <|
 .ret
theorem e_clapperref10_May:EF false F.clapperref10_May ic_clapperref10_May [.t 2]:=ef [] Tryz.func32 (by kernel_rfl) (by kernel_rfl) (by kernel_rfl)
def ic_clapperref10_Check : IC :=
 q 6 (.alloc (List.replicate 5 (.int .i64 0))) <|
 q 7 (.mv (ci 0)) <|
 .keep [0, 1, 2, 6] <|
 q 14 (.mv (.t 1)) <|
 q 15 (.call F.clapperref09_Open [(.t 14)]) <|
 q 13 (.mv (.t 15)) <|
 q 16 (.ext (.t 13) 0) <|
 q 17 (.ext (.t 13) 1) <|
 q 18 (.ext (.t 13) 2) <|
 q 8 (.alloc (List.replicate 5 (.int .i64 0))) <|
 q 9 (.alloc (List.replicate 8 (.int .u64 0))) <|
 qn (.store 5 (.t 8) (.t 16)) <|
 qn (.store 8 (.t 9) (.t 17)) <|
 q 10 (.mv (.t 18)) <|
 .keep [0, 1, 2, 6, 8, 10] <|
 q 19 (.mv (.t 10)) <|
 q 20 (.un .not (.t 19)) <|
 .keep [0, 1, 2, 6, 8, 20] <|
 .ite (.t 20)
 (q 21 (.build (List.replicate 5 (.int .i64 0)) []) <|
 qn (.store 5 (.t 6) (.t 21)) <|
 q 7 (.mv (ci 2)) <|
 .keep [6, 7] <|
 .ret)
 (.done) <|
 q 23 (.mv (.t 0)) <|
 q 24 (.fld 4 (.t 8)) <|
 q 25 (.load false 1 (.t 24)) <|
 q 26 (.mv (.t 2)) <|
 q 27 (.call F.clapperref10_Find [(.t 23), (.t 25), (.t 26)]) <|
 q 22 (.mv (.t 27)) <|
 q 28 (.ext (.t 22) 0) <|
 q 29 (.ext (.t 22) 1) <|
 q 11 (.alloc [.int .u64 0, .int .u64 0, .int .u64 0, .int .u64 0, .int .u64 0, .int .u64 0, .int .u64 0, .int .u64 0, .bool false]) <|
 qn (.store 9 (.t 11) (.t 28)) <|
 q 12 (.mv (.t 29)) <|
 .keep [1, 6, 11, 12] <|
 q 30 (.mv (.t 12)) <|
 q 31 (.un .not (.t 30)) <|
 .keep [1, 6, 11, 31] <|
 .ite (.t 31)
 (q 32 (.build (List.replicate 5 (.int .i64 0)) []) <|
 qn (.store 5 (.t 6) (.t 32)) <|
 q 7 (.mv (ci 4)) <|
 .keep [6, 7] <|
 .ret)
 (.done) <|
 q 33 (.mv (.t 1)) <|
 q 34 (.load true 9 (.t 11)) <|
 q 35 (.call F.clapperref09_Check [(.t 33), (.t 34)]) <|
 q 36 (.ext (.t 35) 0) <|
 q 37 (.ext (.t 35) 1) <|
 qn (.store 5 (.t 6) (.t 36)) <|
 q 7 (.mv (.t 37)) <|
 .keep [6, 7] <|
 .ret
theorem e_clapperref10_Check:EF false F.clapperref10_Check ic_clapperref10_Check [.c 6 true 5,.t 7]:=ef [] Tryz.func33 (by kernel_rfl) (by kernel_rfl) (by kernel_rfl)
def ic_clapperlaw14_up : IC :=
 q 0 (.mv (cb false)) <|
 .keep [] <|
 q 5 (.build [.int .i64 0, .int .i64 0, .int .i64 0, .slice none 0 0, .slice none 0 0] [(0, 1, (ci 127)), (2, 1, (ci 9))]) <|
 q 6 (.build [.int .i64 0, .int .i64 0, .int .i64 0, .int .i64 0, .int .i64 0, .slice none 0 0, .slice none 0 0] [(0, 1, (ci 1)), (1, 1, (ci 60)), (2, 5, (.t 5))]) <|
 q 7 (.bslice false 7 1 [.int .i64 0, .int .i64 0, .int .i64 0, .int .i64 0, .int .i64 0, .slice none 0 0, .slice none 0 0] [(0, 7, (.t 6))]) <|
 q 1 (.mv (.t 7)) <|
 .keep [1] <|
 q 8 (.build (List.replicate 5 (.int .i64 0)) [(0, 1, (ci 1)), (1, 1, (ci 1)), (2, 1, (ci 2)), (3, 1, (ci 10)), (4, 1, (ci 1))]) <|
 q 2 (.alloc (List.replicate 5 (.int .i64 0))) <|
 qn (.store 5 (.t 2) (.t 8)) <|
 .keep [1, 2] <|
 q 10 (.call F.fare_Verdict [(.c (.slice none 0 0)), (.c (.slice none 0 0)), (.c (.slice none 0 0)), (.c (.slice none 0 0)), (ci 0), (ci 0)]) <|
 q 9 (.mv (.t 10)) <|
 q 11 (.ext (.t 9) 0) <|
 q 12 (.ext (.t 9) 1) <|
 q 3 (.mv (.t 11)) <|
 q 4 (.mv (.t 12)) <|
 .keep [1, 2, 3, 4] <|
 q 13 (.mv (.t 4)) <|
 q 14 (.eq false .i (.t 13) (.c (.nilIface))) <|
 q 15 (.mv (.t 14)) <|
 qg 16 15 true (.mv (.t 3)) <|
 qg 17 15 true (.bin .eql (.t 16) (ci 2)) <|
 q 18 (.pick (.t 15) (.t 17) (cb false)) <|
 q 19 (.mv (.t 18)) <|
 qg 20 19 true (.mv (.t 1)) <|
 qg 21 19 true (.load true 5 (.t 2)) <|
 qg 22 19 true (.call F.fare_Covers [(.t 20), (.t 21), (ci 1), (ci 69)]) <|
 q 23 (.pick (.t 19) (.t 22) (cb false)) <|
 q 24 (.mv (.t 23)) <|
 qg 25 24 true (.mv (.t 1)) <|
 qg 26 24 true (.load true 5 (.t 2)) <|
 qg 27 24 true (.call F.fare_Covers [(.t 25), (.t 26), (ci 1), (ci 70)]) <|
 qg 28 24 true (.un .not (.t 27)) <|
 q 29 (.pick (.t 24) (.t 28) (cb false)) <|
 q 30 (.mv (.t 29)) <|
 qg 31 30 true (.mv (.t 1)) <|
 qg 32 30 true (.load true 5 (.t 2)) <|
 qg 33 30 true (.call F.fare_Covers [(.t 31), (.t 32), (ci 0), (ci 10)]) <|
 qg 34 30 true (.un .not (.t 33)) <|
 q 35 (.pick (.t 30) (.t 34) (cb false)) <|
 q 0 (.mv (.t 35)) <|
 .keep [0] <|
 .ret
theorem e_clapperlaw14_up:EF false F.clapperlaw14_up ic_clapperlaw14_up [.t 0]:=ef [] Tryz.func45 (by kernel_rfl) (by kernel_rfl) (by kernel_rfl)
def ic_clapperref14_Few : IC :=
 q 2 (.mv (cb false)) <|
 .keep [0] <|
 q 3 (.mv (ci 0)) <|
 .keep [0, 3] <|
 .block 0
 (.keep [0, 3] <|
 .loop
 (q 4 (.mv (.t 3)) <|
 q 5 (.mv (.t 0)) <|
 q 6 (.len false (.t 5)) <|
 q 7 (.bin .lss (.t 4) (.t 6)) <|
 .keep [0, 3, 7] <|
 .ite (.t 7)
 (.done)
 (.exit 0) <|
 .block 1
 (q 10 (.mv (.t 0)) <|
 q 11 (.mv (.t 3)) <|
 q 12 (.idxa 7 none (.t 10) (.t 11)) <|
 q 13 (.fld 2 (.t 12)) <|
 q 14 (.fld 3 (.t 13)) <|
 q 15 (.load false 1 (.t 14)) <|
 q 16 (.len false (.t 15)) <|
 q 17 (.bin .gtr (.t 16) (ci 300)) <|
 q 18 (.mv (.t 17)) <|
 qg 19 18 false (.mv (.t 0)) <|
 qg 20 18 false (.mv (.t 3)) <|
 qg 21 18 false (.idxa 7 none (.t 19) (.t 20)) <|
 qg 22 18 false (.fld 2 (.t 21)) <|
 qg 23 18 false (.fld 4 (.t 22)) <|
 qg 24 18 false (.load false 1 (.t 23)) <|
 qg 25 18 false (.len false (.t 24)) <|
 qg 26 18 false (.bin .gtr (.t 25) (ci 300)) <|
 q 27 (.pick (.t 18) (cb true) (.t 26)) <|
 .keep [0, 3, 27] <|
 .ite (.t 27)
 (q 2 (.mv (cb false)) <|
 .keep [2] <|
 .ret)
 (.done) <|
 .done) <|
 q 8 (.mv (.t 3)) <|
 q 9 (.bin .add (.t 8) (ci 1)) <|
 q 3 (.mv (.t 9)) <|
 .keep [0, 3] <|
 .keep [0, 3] <|
 .done)) <|
 q 28 (.mv (.t 0)) <|
 q 29 (.len false (.t 28)) <|
 q 30 (.bin .leq (.t 29) (ci 60)) <|
 q 2 (.mv (.t 30)) <|
 .keep [2] <|
 .ret
theorem e_clapperref14_Few:EF false F.clapperref14_Few ic_clapperref14_Few [.t 2]:=ef [] Tryz.func46 (by kernel_rfl) (by kernel_rfl) (by kernel_rfl)
def ic_clapperref14_May : IC :=
 q 2 (.mv (cb false)) <|
 .keep [0] <|
 q 3 (.mv (ci 0)) <|
 .keep [0, 3] <|
 .block 0
 (.keep [0, 3] <|
 .loop
 (q 5 (.mv (.t 3)) <|
 q 6 (.mv (.t 0)) <|
 q 7 (.len false (.t 6)) <|
 q 8 (.bin .lss (.t 5) (.t 7)) <|
 .keep [0, 3, 8] <|
 .ite (.t 8)
 (.done)
 (.exit 0) <|
 .block 1
 (q 11 (.mv (.t 0)) <|
 q 12 (.mv (.t 3)) <|
 q 13 (.idxa 7 none (.t 11) (.t 12)) <|
 q 14 (.fld 2 (.t 13)) <|
 q 15 (.load true 5 (.t 14)) <|
 q 16 (.call F.clapperref12_May [(.t 15)]) <|
 q 4 (.mv (.t 16)) <|
 .keep [0, 3, 4] <|
 q 17 (.mv (.t 0)) <|
 q 18 (.mv (.t 3)) <|
 q 19 (.idxa 7 none (.t 17) (.t 18)) <|
 q 20 (.fld 0 (.t 19)) <|
 q 21 (.load false 1 (.t 20)) <|
 q 22 (.bin .lss (.t 21) (ci 1)) <|
 q 23 (.mv (.t 22)) <|
 qg 24 23 false (.mv (.t 0)) <|
 qg 25 23 false (.mv (.t 3)) <|
 qg 26 23 false (.idxa 7 none (.t 24) (.t 25)) <|
 qg 27 23 false (.fld 0 (.t 26)) <|
 qg 28 23 false (.load false 1 (.t 27)) <|
 qg 29 23 false (.bin .gtr (.t 28) (ci 16)) <|
 q 30 (.pick (.t 23) (cb true) (.t 29)) <|
 q 31 (.mv (.t 30)) <|
 qg 32 31 false (.mv (.t 3)) <|
 qg 33 31 false (.bin .gtr (.t 32) (ci 0)) <|
 qg 34 31 false (.mv (.t 33)) <|
 qg 35 34 true (.mv (.t 0)) <|
 qg 36 34 true (.mv (.t 3)) <|
 qg 37 34 true (.idxa 7 none (.t 35) (.t 36)) <|
 qg 38 34 true (.fld 0 (.t 37)) <|
 qg 39 34 true (.load false 1 (.t 38)) <|
 qg 40 34 true (.mv (.t 0)) <|
 qg 41 34 true (.mv (.t 3)) <|
 qg 42 34 true (.bin .sub (.t 41) (ci 1)) <|
 qg 43 34 true (.idxa 7 none (.t 40) (.t 42)) <|
 qg 44 34 true (.fld 0 (.t 43)) <|
 qg 45 34 true (.load false 1 (.t 44)) <|
 qg 46 34 true (.bin .leq (.t 39) (.t 45)) <|
 qg 47 31 false (.pick (.t 34) (.t 46) (cb false)) <|
 q 48 (.pick (.t 31) (cb true) (.t 47)) <|
 q 49 (.mv (.t 48)) <|
 qg 50 49 false (.mv (.t 0)) <|
 qg 51 49 false (.mv (.t 3)) <|
 qg 52 49 false (.idxa 7 none (.t 50) (.t 51)) <|
 qg 53 49 false (.fld 1 (.t 52)) <|
 qg 54 49 false (.load false 1 (.t 53)) <|
 qg 55 49 false (.bin .lss (.t 54) (ci 1)) <|
 q 56 (.pick (.t 49) (cb true) (.t 55)) <|
 q 57 (.mv (.t 56)) <|
 qg 58 57 false (.mv (.t 0)) <|
 qg 59 57 false (.mv (.t 3)) <|
 qg 60 57 false (.idxa 7 none (.t 58) (.t 59)) <|
 qg 61 57 false (.fld 1 (.t 60)) <|
 qg 62 57 false (.load false 1 (.t 61)) <|
 qg 63 57 false (.bin .gtr (.t 62) (ci 1048576)) <|
 q 64 (.pick (.t 57) (cb true) (.t 63)) <|
 q 65 (.mv (.t 64)) <|
 qg 66 65 false (.mv (.t 4)) <|
 qg 67 65 false (.un .not (.t 66)) <|
 q 68 (.pick (.t 65) (cb true) (.t 67)) <|
 .keep [0, 3, 68] <|
 .ite (.t 68)
 (q 2 (.mv (cb false)) <|
 .keep [2] <|
 .ret)
 (.done) <|
 .done) <|
 q 9 (.mv (.t 3)) <|
 q 10 (.bin .add (.t 9) (ci 1)) <|
 q 3 (.mv (.t 10)) <|
 .keep [0, 3] <|
 .keep [0, 3] <|
 .done)) <|
 q 69 (.mv (.t 0)) <|
 q 70 (.len false (.t 69)) <|
 q 71 (.bin .leq (.t 70) (ci 16)) <|
 q 2 (.mv (.t 71)) <|
 .keep [2] <|
 .ret
theorem e_clapperref14_May:EF false F.clapperref14_May ic_clapperref14_May [.t 2]:=ef [] Tryz.func47 (by kernel_rfl) (by kernel_rfl) (by kernel_rfl)
def ic_fare_May : IC :=
 q 2 (.mv (cb false)) <|
 .keep [0] <|
 q 5 (.mv (.t 0)) <|
 q 6 (.len false (.t 5)) <|
 q 7 (.mv (ci 0)) <|
 .keep [0, 5, 6, 7] <|
 .block 0
 (.keep [0, 5, 6, 7] <|
 .loop
 (q 8 (.bin .lss (.t 7) (.t 6)) <|
 .keep [0, 5, 6, 7, 8] <|
 .ite (.t 8)
 (.done)
 (.exit 0) <|
 .block 1
 (q 9 (.mv (.t 7)) <|
 q 10 (.idxa 7 none (.t 5) (.t 7)) <|
 q 11 (.load true 7 (.t 10)) <|
 q 4 (.alloc [.int .i64 0, .int .i64 0, .int .i64 0, .int .i64 0, .int .i64 0, .slice none 0 0, .slice none 0 0]) <|
 q 3 (.mv (.t 9)) <|
 qn (.store 7 (.t 4) (.t 11)) <|
 .keep [0, 3, 4, 5, 6, 7] <|
 q 12 (.fld 0 (.t 4)) <|
 q 13 (.load false 1 (.t 12)) <|
 q 14 (.bin .lss (.t 13) (ci 1)) <|
 q 15 (.mv (.t 14)) <|
 qg 16 15 false (.fld 0 (.t 4)) <|
 qg 17 15 false (.load false 1 (.t 16)) <|
 qg 18 15 false (.bin .gtr (.t 17) (ci 16)) <|
 q 19 (.pick (.t 15) (cb true) (.t 18)) <|
 q 20 (.mv (.t 19)) <|
 qg 21 20 false (.mv (.t 3)) <|
 qg 22 20 false (.bin .gtr (.t 21) (ci 0)) <|
 qg 23 20 false (.mv (.t 22)) <|
 qg 24 23 true (.mv (.t 0)) <|
 qg 25 23 true (.mv (.t 3)) <|
 qg 26 23 true (.bin .sub (.t 25) (ci 1)) <|
 qg 27 23 true (.idxa 7 none (.t 24) (.t 26)) <|
 qg 28 23 true (.fld 0 (.t 27)) <|
 qg 29 23 true (.load false 1 (.t 28)) <|
 qg 30 23 true (.fld 0 (.t 4)) <|
 qg 31 23 true (.load false 1 (.t 30)) <|
 qg 32 23 true (.bin .geq (.t 29) (.t 31)) <|
 qg 33 20 false (.pick (.t 23) (.t 32) (cb false)) <|
 q 34 (.pick (.t 20) (cb true) (.t 33)) <|
 q 35 (.mv (.t 34)) <|
 qg 36 35 false (.fld 1 (.t 4)) <|
 qg 37 35 false (.load false 1 (.t 36)) <|
 qg 38 35 false (.bin .lss (.t 37) (ci 1)) <|
 q 39 (.pick (.t 35) (cb true) (.t 38)) <|
 q 40 (.mv (.t 39)) <|
 qg 41 40 false (.fld 1 (.t 4)) <|
 qg 42 40 false (.load false 1 (.t 41)) <|
 qg 43 40 false (.bin .gtr (.t 42) (ci 1048576)) <|
 q 44 (.pick (.t 40) (cb true) (.t 43)) <|
 q 45 (.mv (.t 44)) <|
 qg 46 45 false (.fld 2 (.t 4)) <|
 qg 47 45 false (.load true 5 (.t 46)) <|
 qg 48 45 false (.call F.service_May [(.t 47)]) <|
 qg 49 45 false (.un .not (.t 48)) <|
 q 50 (.pick (.t 45) (cb true) (.t 49)) <|
 .keep [0, 5, 6, 7, 50] <|
 .ite (.t 50)
 (q 2 (.mv (cb false)) <|
 .keep [2] <|
 .ret)
 (.done) <|
 .done) <|
 q 51 (.bin .add (.t 7) (ci 1)) <|
 q 7 (.mv (.t 51)) <|
 .keep [0, 5, 6, 7] <|
 .keep [0, 5, 6, 7] <|
 .done)) <|
 q 52 (.mv (.t 0)) <|
 q 53 (.len false (.t 52)) <|
 q 54 (.bin .leq (.t 53) (ci 16)) <|
 q 2 (.mv (.t 54)) <|
 .keep [2] <|
 .ret
theorem e_fare_May:EF false F.fare_May ic_fare_May [.t 2]:=ef [] Tryz.func49 (by kernel_rfl) (by kernel_rfl) (by kernel_rfl)
def ic_fare_Covers : IC :=
 q 5 (.box (.t 1)) <|
 q 8 (.mv (cb false)) <|
 .keep [0, 2, 3, 5] <|
 q 11 (.mv (.t 0)) <|
 q 12 (.call F.fare_May [(.t 11)]) <|
 q 13 (.un .not (.t 12)) <|
 q 14 (.mv (.t 13)) <|
 qg 15 14 false (.load true 5 (.t 5)) <|
 qg 16 14 false (.call F.ticket_May [(.t 15)]) <|
 qg 17 14 false (.un .not (.t 16)) <|
 q 18 (.pick (.t 14) (cb true) (.t 17)) <|
 q 19 (.mv (.t 18)) <|
 qg 20 19 false (.mv (.t 2)) <|
 qg 21 19 false (.mv (.t 3)) <|
 qg 22 19 false (.call F.fare_place [(.t 20), (.t 21)]) <|
 qg 23 19 false (.un .not (.t 22)) <|
 q 24 (.pick (.t 19) (cb true) (.t 23)) <|
 .keep [0, 2, 3, 5, 24] <|
 .ite (.t 24)
 (q 8 (.mv (cb false)) <|
 .keep [8] <|
 .ret)
 (.done) <|
 q 26 (.mv (.t 0)) <|
 q 27 (.load true 5 (.t 5)) <|
 q 28 (.call F.fare_product [(.t 26), (.t 27)]) <|
 q 25 (.mv (.t 28)) <|
 q 29 (.ext (.t 25) 0) <|
 q 30 (.ext (.t 25) 1) <|
 q 9 (.alloc [.int .i64 0, .int .i64 0, .int .i64 0, .int .i64 0, .int .i64 0, .slice none 0 0, .slice none 0 0]) <|
 qn (.store 7 (.t 9) (.t 29)) <|
 q 10 (.mv (.t 30)) <|
 .keep [2, 3, 5, 9, 10] <|
 q 31 (.mv (.t 10)) <|
 q 32 (.mv (.t 31)) <|
 qg 33 32 true (.load true 5 (.t 5)) <|
 qg 34 32 true (.mv (.t 2)) <|
 qg 35 32 true (.call F.fare_in [(.t 33), (.t 34)]) <|
 q 36 (.pick (.t 32) (.t 35) (cb false)) <|
 q 37 (.mv (.t 36)) <|
 qg 38 37 true (.load true 7 (.t 9)) <|
 qg 39 37 true (.load true 5 (.t 5)) <|
 qg 40 37 true (.mv (.t 3)) <|
 qg 41 37 true (.call F.fare_then [(.t 38), (.t 39), (.t 40)]) <|
 q 42 (.pick (.t 37) (.t 41) (cb false)) <|
 q 8 (.mv (.t 42)) <|
 .keep [8] <|
 .ret
theorem e_fare_Covers:EF false F.fare_Covers ic_fare_Covers [.t 8]:=ef [] Tryz.func50 (by kernel_rfl) (by kernel_rfl) (by kernel_rfl)
def ic_fare_Verdict : IC :=
 q 12 (.mv (ci 0)) <|
 q 13 (.mv (.c (.nilIface))) <|
 .keep [0, 1, 2, 3, 4, 5] <|
 q 18 (.mv (.t 0)) <|
 q 19 (.call F.keys_May [(.t 18)]) <|
 q 20 (.un .not (.t 19)) <|
 q 21 (.mv (.t 20)) <|
 qg 22 21 false (.mv (.t 1)) <|
 qg 23 21 false (.call F.revoke_May [(.t 22)]) <|
 qg 24 21 false (.un .not (.t 23)) <|
 q 25 (.pick (.t 21) (cb true) (.t 24)) <|
 q 26 (.mv (.t 25)) <|
 qg 27 26 false (.mv (.t 2)) <|
 qg 28 26 false (.call F.fare_May [(.t 27)]) <|
 qg 29 26 false (.un .not (.t 28)) <|
 q 30 (.pick (.t 26) (cb true) (.t 29)) <|
 q 31 (.mv (.t 30)) <|
 qg 32 31 false (.mv (.t 4)) <|
 qg 33 31 false (.mv (.t 5)) <|
 qg 34 31 false (.call F.fare_place [(.t 32), (.t 33)]) <|
 qg 35 31 false (.un .not (.t 34)) <|
 q 36 (.pick (.t 31) (cb true) (.t 35)) <|
 .keep [0, 1, 2, 3, 4, 5, 36] <|
 .ite (.t 36)
 (q 37 (.mkif T.api_Code (ci 1)) <|
 q 12 (.mv (ci 0)) <|
 q 13 (.mv (.t 37)) <|
 .keep [12, 13] <|
 .ret)
 (.done) <|
 q 39 (.mv (.t 0)) <|
 q 40 (.mv (.t 3)) <|
 q 41 (.mv (.t 5)) <|
 q 42 (.call F.keys_Check [(.t 39), (.t 40), (.t 41)]) <|
 q 38 (.mv (.t 42)) <|
 q 43 (.ext (.t 38) 0) <|
 q 44 (.ext (.t 38) 1) <|
 q 14 (.alloc (List.replicate 5 (.int .i64 0))) <|
 qn (.store 5 (.t 14) (.t 43)) <|
 q 15 (.mv (.t 44)) <|
 .keep [1, 2, 4, 5, 14, 15] <|
 q 46 (.mv (.t 2)) <|
 q 47 (.load true 5 (.t 14)) <|
 q 48 (.call F.fare_product [(.t 46), (.t 47)]) <|
 q 45 (.mv (.t 48)) <|
 q 49 (.ext (.t 45) 0) <|
 q 50 (.ext (.t 45) 1) <|
 q 16 (.alloc [.int .i64 0, .int .i64 0, .int .i64 0, .int .i64 0, .int .i64 0, .slice none 0 0, .slice none 0 0]) <|
 qn (.store 7 (.t 16) (.t 49)) <|
 q 17 (.mv (.t 50)) <|
 .keep [1, 4, 5, 14, 15, 16, 17] <|
 .block 0
 (q 52 (.mv (.t 15)) <|
 q 53 (.mkif T.api_Code (ci 2)) <|
 q 54 (.eq false .i (.t 52) (.t 53)) <|
 q 51 (.mv (.t 54)) <|
 .keep [1, 4, 5, 14, 15, 16, 17, 51] <|
 .ite (.t 51)
 (q 12 (.mv (ci 2)) <|
 q 13 (.mv (.c (.nilIface))) <|
 .keep [12, 13] <|
 .ret)
 (q 56 (.mv (.t 15)) <|
 q 57 (.eq true .i (.t 56) (.c (.nilIface))) <|
 q 55 (.mv (.t 57)) <|
 .keep [1, 4, 5, 14, 16, 17, 55] <|
 .ite (.t 55)
 (q 12 (.mv (ci 3)) <|
 q 13 (.mv (.c (.nilIface))) <|
 .keep [12, 13] <|
 .ret)
 (q 59 (.mv (.t 1)) <|
 q 60 (.fld 0 (.t 14)) <|
 q 61 (.load false 1 (.t 60)) <|
 q 62 (.mv (.t 5)) <|
 q 63 (.call F.revoke_Is [(.t 59), (.t 61), (.t 62)]) <|
 q 58 (.mv (.t 63)) <|
 .keep [4, 5, 14, 16, 17, 58] <|
 .ite (.t 58)
 (q 12 (.mv (ci 4)) <|
 q 13 (.mv (.c (.nilIface))) <|
 .keep [12, 13] <|
 .ret)
 (q 65 (.mv (.t 17)) <|
 q 66 (.un .not (.t 65)) <|
 q 64 (.mv (.t 66)) <|
 .keep [4, 5, 14, 16, 64] <|
 .ite (.t 64)
 (q 12 (.mv (ci 7)) <|
 q 13 (.mv (.c (.nilIface))) <|
 .keep [12, 13] <|
 .ret)
 (q 68 (.load true 5 (.t 14)) <|
 q 69 (.mv (.t 4)) <|
 q 70 (.call F.fare_in [(.t 68), (.t 69)]) <|
 q 71 (.un .not (.t 70)) <|
 q 67 (.mv (.t 71)) <|
 .keep [5, 14, 16, 67] <|
 .ite (.t 67)
 (q 12 (.mv (ci 5)) <|
 q 13 (.mv (.c (.nilIface))) <|
 .keep [12, 13] <|
 .ret)
 (q 73 (.load true 7 (.t 16)) <|
 q 74 (.load true 5 (.t 14)) <|
 q 75 (.mv (.t 5)) <|
 q 76 (.call F.fare_then [(.t 73), (.t 74), (.t 75)]) <|
 q 77 (.un .not (.t 76)) <|
 q 72 (.mv (.t 77)) <|
 .keep [72] <|
 .ite (.t 72)
 (q 12 (.mv (ci 6)) <|
 q 13 (.mv (.c (.nilIface))) <|
 .keep [12, 13] <|
 .ret)
 (.done) <|
 .done) <|
 .done) <|
 .done) <|
 .done) <|
 .done) <|
 .done) <|
 q 12 (.mv (ci 1)) <|
 q 13 (.mv (.c (.nilIface))) <|
 .keep [12, 13] <|
 .ret
theorem e_fare_Verdict:EF false F.fare_Verdict ic_fare_Verdict [.t 12,.t 13]:=ef [] Tryz.func51 (by kernel_rfl) (by kernel_rfl) (by kernel_rfl)
def ic_clapperref11_May : IC :=
 q 2 (.mv (cb false)) <|
 .keep [0] <|
 q 3 (.mv (ci 0)) <|
 .keep [0, 3] <|
 .block 0
 (.keep [0, 3] <|
 .loop
 (q 4 (.mv (.t 3)) <|
 q 5 (.mv (.t 0)) <|
 q 6 (.len false (.t 5)) <|
 q 7 (.bin .lss (.t 4) (.t 6)) <|
 .keep [0, 3, 7] <|
 .ite (.t 7)
 (.done)
 (.exit 0) <|
 .block 1
 (q 10 (.mv (.t 0)) <|
 q 11 (.mv (.t 3)) <|
 q 12 (.idxa 2 none (.t 10) (.t 11)) <|
 q 13 (.fld 0 (.t 12)) <|
 q 14 (.load false 1 (.t 13)) <|
 q 15 (.bin .lss (.t 14) (ci 1)) <|
 q 16 (.mv (.t 15)) <|
 qg 17 16 false (.mv (.t 0)) <|
 qg 18 16 false (.mv (.t 3)) <|
 qg 19 16 false (.idxa 2 none (.t 17) (.t 18)) <|
 qg 20 16 false (.fld 0 (.t 19)) <|
 qg 21 16 false (.load false 1 (.t 20)) <|
 qg 22 16 false (.bin .gtr (.t 21) (ci 2147483647)) <|
 q 23 (.pick (.t 16) (cb true) (.t 22)) <|
 q 24 (.mv (.t 23)) <|
 qg 25 24 false (.mv (.t 0)) <|
 qg 26 24 false (.mv (.t 3)) <|
 qg 27 24 false (.idxa 2 none (.t 25) (.t 26)) <|
 qg 28 24 false (.fld 1 (.t 27)) <|
 qg 29 24 false (.load false 1 (.t 28)) <|
 qg 30 24 false (.bin .lss (.t 29) (ci 0)) <|
 q 31 (.pick (.t 24) (cb true) (.t 30)) <|
 q 32 (.mv (.t 31)) <|
 qg 33 32 false (.mv (.t 0)) <|
 qg 34 32 false (.mv (.t 3)) <|
 qg 35 32 false (.idxa 2 none (.t 33) (.t 34)) <|
 qg 36 32 false (.fld 1 (.t 35)) <|
 qg 37 32 false (.load false 1 (.t 36)) <|
 qg 38 32 false (.bin .gtr (.t 37) (ci 1073741824)) <|
 q 39 (.pick (.t 32) (cb true) (.t 38)) <|
 q 40 (.mv (.t 39)) <|
 qg 41 40 false (.mv (.t 3)) <|
 qg 42 40 false (.bin .gtr (.t 41) (ci 0)) <|
 qg 43 40 false (.mv (.t 42)) <|
 qg 44 43 true (.mv (.t 0)) <|
 qg 45 43 true (.mv (.t 3)) <|
 qg 46 43 true (.idxa 2 none (.t 44) (.t 45)) <|
 qg 47 43 true (.fld 0 (.t 46)) <|
 qg 48 43 true (.load false 1 (.t 47)) <|
 qg 49 43 true (.mv (.t 0)) <|
 qg 50 43 true (.mv (.t 3)) <|
 qg 51 43 true (.bin .sub (.t 50) (ci 1)) <|
 qg 52 43 true (.idxa 2 none (.t 49) (.t 51)) <|
 qg 53 43 true (.fld 0 (.t 52)) <|
 qg 54 43 true (.load false 1 (.t 53)) <|
 qg 55 43 true (.bin .leq (.t 48) (.t 54)) <|
 qg 56 40 false (.pick (.t 43) (.t 55) (cb false)) <|
 q 57 (.pick (.t 40) (cb true) (.t 56)) <|
 .keep [0, 3, 57] <|
 .ite (.t 57)
 (q 2 (.mv (cb false)) <|
 .keep [2] <|
 .ret)
 (.done) <|
 .done) <|
 q 8 (.mv (.t 3)) <|
 q 9 (.bin .add (.t 8) (ci 1)) <|
 q 3 (.mv (.t 9)) <|
 .keep [0, 3] <|
 .keep [0, 3] <|
 .done)) <|
 q 58 (.mv (.t 0)) <|
 q 59 (.len false (.t 58)) <|
 q 60 (.bin .leq (.t 59) (ci 200)) <|
 q 2 (.mv (.t 60)) <|
 .keep [2] <|
 .ret
theorem e_clapperref11_May:EF false F.clapperref11_May ic_clapperref11_May [.t 2]:=ef [] Tryz.func52 (by kernel_rfl) (by kernel_rfl) (by kernel_rfl)
def ic_clapperref14_Place : IC :=
 q 4 (.mv (cb false)) <|
 .keep [0, 1] <|
 q 5 (.mv (.t 0)) <|
 q 6 (.bin .geq (.t 5) (ci 0)) <|
 q 7 (.mv (.t 6)) <|
 qg 8 7 true (.mv (.t 0)) <|
 qg 9 7 true (.bin .leq (.t 8) (ci 7)) <|
 q 10 (.pick (.t 7) (.t 9) (cb false)) <|
 q 11 (.mv (.t 10)) <|
 qg 12 11 true (.mv (.t 1)) <|
 qg 13 11 true (.bin .geq (.t 12) (ci 0)) <|
 q 14 (.pick (.t 11) (.t 13) (cb false)) <|
 q 15 (.mv (.t 14)) <|
 qg 16 15 true (.mv (.t 1)) <|
 qg 17 15 true (.bin .leq (.t 16) (ci 1073741824)) <|
 q 18 (.pick (.t 15) (.t 17) (cb false)) <|
 q 4 (.mv (.t 18)) <|
 .keep [4] <|
 .ret
theorem e_clapperref14_Place:EF false F.clapperref14_Place ic_clapperref14_Place [.t 4]:=ef [] Tryz.func53 (by kernel_rfl) (by kernel_rfl) (by kernel_rfl)
def ic_clapperref14_Verdict : IC :=
 q 12 (.mv (ci 0)) <|
 .keep [0, 1, 2, 3, 4, 5] <|
 q 17 (.mv (.t 0)) <|
 q 18 (.mv (.t 3)) <|
 q 19 (.mv (.t 5)) <|
 q 20 (.call F.clapperref10_Check [(.t 17), (.t 18), (.t 19)]) <|
 q 16 (.mv (.t 20)) <|
 q 21 (.ext (.t 16) 0) <|
 q 22 (.ext (.t 16) 1) <|
 q 13 (.alloc (List.replicate 5 (.int .i64 0))) <|
 qn (.store 5 (.t 13) (.t 21)) <|
 q 14 (.mv (.t 22)) <|
 .keep [1, 2, 4, 5, 13, 14] <|
 q 23 (.mv (.t 14)) <|
 q 24 (.bin .eql (.t 23) (ci 2)) <|
 .keep [1, 2, 4, 5, 13, 14, 24] <|
 .ite (.t 24)
 (q 12 (.mv (ci 2)) <|
 .keep [12] <|
 .ret)
 (.done) <|
 q 25 (.mv (.t 14)) <|
 q 26 (.bin .neq (.t 25) (ci 0)) <|
 .keep [1, 2, 4, 5, 13, 26] <|
 .ite (.t 26)
 (q 12 (.mv (ci 3)) <|
 .keep [12] <|
 .ret)
 (.done) <|
 q 27 (.mv (.t 1)) <|
 q 28 (.fld 0 (.t 13)) <|
 q 29 (.load false 1 (.t 28)) <|
 q 30 (.mv (.t 5)) <|
 q 31 (.call F.clapperref11_Is [(.t 27), (.t 29), (.t 30)]) <|
 q 15 (.mv (.t 31)) <|
 .keep [2, 4, 5, 13, 15] <|
 q 32 (.mv (.t 15)) <|
 .keep [2, 4, 5, 13, 32] <|
 .ite (.t 32)
 (q 12 (.mv (ci 4)) <|
 .keep [12] <|
 .ret)
 (.done) <|
 q 33 (.mv (.t 2)) <|
 q 34 (.load true 5 (.t 13)) <|
 q 35 (.mv (.t 4)) <|
 q 36 (.mv (.t 5)) <|
 q 37 (.call F.clapperref14_why [(.t 33), (.t 34), (.t 35), (.t 36)]) <|
 q 12 (.mv (.t 37)) <|
 .keep [12] <|
 .ret
theorem e_clapperref14_Verdict:EF false F.clapperref14_Verdict ic_clapperref14_Verdict [.t 12]:=ef [] Tryz.func54 (by kernel_rfl) (by kernel_rfl) (by kernel_rfl)
def ic_keys_May : IC :=
 q 2 (.mv (cb false)) <|
 .keep [0] <|
 q 5 (.mv (.t 0)) <|
 q 6 (.len false (.t 5)) <|
 q 7 (.mv (ci 0)) <|
 .keep [0, 5, 6, 7] <|
 .block 0
 (.keep [0, 5, 6, 7] <|
 .loop
 (q 8 (.bin .lss (.t 7) (.t 6)) <|
 .keep [0, 5, 6, 7, 8] <|
 .ite (.t 8)
 (.done)
 (.exit 0) <|
 .block 1
 (q 9 (.mv (.t 7)) <|
 q 10 (.idxa 12 none (.t 5) (.t 7)) <|
 q 11 (.load true 12 (.t 10)) <|
 q 4 (.alloc [.int .i64 0, .int .u64 0, .int .u64 0, .int .u64 0, .int .u64 0, .int .u64 0, .int .u64 0, .int .u64 0, .int .u64 0, .bool false, .int .i64 0, .int .i64 0]) <|
 q 3 (.mv (.t 9)) <|
 qn (.store 12 (.t 4) (.t 11)) <|
 .keep [0, 3, 4, 5, 6, 7] <|
 q 12 (.load true 12 (.t 4)) <|
 q 13 (.call F.keys_one [(.t 12)]) <|
 q 14 (.un .not (.t 13)) <|
 q 15 (.mv (.t 14)) <|
 qg 16 15 false (.mv (.t 3)) <|
 qg 17 15 false (.bin .gtr (.t 16) (ci 0)) <|
 qg 18 15 false (.mv (.t 17)) <|
 qg 19 18 true (.mv (.t 0)) <|
 qg 20 18 true (.mv (.t 3)) <|
 qg 21 18 true (.bin .sub (.t 20) (ci 1)) <|
 qg 22 18 true (.idxa 12 none (.t 19) (.t 21)) <|
 qg 23 18 true (.fld 0 (.t 22)) <|
 qg 24 18 true (.load false 1 (.t 23)) <|
 qg 25 18 true (.fld 0 (.t 4)) <|
 qg 26 18 true (.load false 1 (.t 25)) <|
 qg 27 18 true (.bin .geq (.t 24) (.t 26)) <|
 qg 28 15 false (.pick (.t 18) (.t 27) (cb false)) <|
 q 29 (.pick (.t 15) (cb true) (.t 28)) <|
 .keep [0, 5, 6, 7, 29] <|
 .ite (.t 29)
 (q 2 (.mv (cb false)) <|
 .keep [2] <|
 .ret)
 (.done) <|
 .done) <|
 q 30 (.bin .add (.t 7) (ci 1)) <|
 q 7 (.mv (.t 30)) <|
 .keep [0, 5, 6, 7] <|
 .keep [0, 5, 6, 7] <|
 .done)) <|
 q 31 (.mv (.t 0)) <|
 q 32 (.len false (.t 31)) <|
 q 33 (.bin .leq (.t 32) (ci 32)) <|
 q 2 (.mv (.t 33)) <|
 .keep [2] <|
 .ret
theorem e_keys_May:EF false F.keys_May ic_keys_May [.t 2]:=ef [] Tryz.func93 (by kernel_rfl) (by kernel_rfl) (by kernel_rfl)
def ic_keys_find : IC :=
 q 4 (.box (.t 1)) <|
 q 6 (.alloc [.int .u64 0, .int .u64 0, .int .u64 0, .int .u64 0, .int .u64 0, .int .u64 0, .int .u64 0, .int .u64 0, .bool false]) <|
 q 7 (.mv (cb false)) <|
 .keep [0, 2, 4, 6] <|
 q 9 (.mv (.t 0)) <|
 q 10 (.mkfn (.func F.keys_find_1) [] [(.t 4)]) <|
 q 11 (.call F.slices_IndexFunc_api_Key_api_Key [(.t 9), (.t 10)]) <|
 q 8 (.mv (.t 11)) <|
 .keep [0, 2, 6, 8] <|
 q 12 (.mv (.t 8)) <|
 q 13 (.bin .lss (.t 12) (ci 0)) <|
 q 14 (.mv (.t 13)) <|
 qg 15 14 false (.mv (.t 0)) <|
 qg 16 14 false (.mv (.t 8)) <|
 qg 17 14 false (.idxa 12 none (.t 15) (.t 16)) <|
 qg 18 14 false (.fld 10 (.t 17)) <|
 qg 19 14 false (.load false 1 (.t 18)) <|
 qg 20 14 false (.mv (.t 2)) <|
 qg 21 14 false (.bin .gtr (.t 19) (.t 20)) <|
 q 22 (.pick (.t 14) (cb true) (.t 21)) <|
 q 23 (.mv (.t 22)) <|
 qg 24 23 false (.mv (.t 0)) <|
 qg 25 23 false (.mv (.t 8)) <|
 qg 26 23 false (.idxa 12 none (.t 24) (.t 25)) <|
 qg 27 23 false (.fld 11 (.t 26)) <|
 qg 28 23 false (.load false 1 (.t 27)) <|
 qg 29 23 false (.mv (.t 2)) <|
 qg 30 23 false (.bin .leq (.t 28) (.t 29)) <|
 q 31 (.pick (.t 23) (cb true) (.t 30)) <|
 .keep [0, 6, 8, 31] <|
 .ite (.t 31)
 (q 32 (.build [.int .u64 0, .int .u64 0, .int .u64 0, .int .u64 0, .int .u64 0, .int .u64 0, .int .u64 0, .int .u64 0, .bool false] []) <|
 qn (.store 9 (.t 6) (.t 32)) <|
 q 7 (.mv (cb false)) <|
 .keep [6, 7] <|
 .ret)
 (.done) <|
 q 33 (.mv (.t 0)) <|
 q 34 (.mv (.t 8)) <|
 q 35 (.idxa 12 none (.t 33) (.t 34)) <|
 q 36 (.fld 1 (.t 35)) <|
 q 37 (.load true 9 (.t 36)) <|
 qn (.store 9 (.t 6) (.t 37)) <|
 q 7 (.mv (cb true)) <|
 .keep [6, 7] <|
 .ret
theorem e_keys_find:EF false F.keys_find ic_keys_find [.c 6 true 9,.t 7]:=ef [] Tryz.func94 (by kernel_rfl) (by kernel_rfl) (by kernel_rfl)
def ic_clapperref10_Find : IC :=
 q 6 (.alloc [.int .u64 0, .int .u64 0, .int .u64 0, .int .u64 0, .int .u64 0, .int .u64 0, .int .u64 0, .int .u64 0, .bool false]) <|
 q 7 (.mv (cb false)) <|
 .keep [0, 1, 2, 6] <|
 q 8 (.mv (ci 0)) <|
 .keep [0, 1, 2, 6, 8] <|
 .block 0
 (.keep [0, 1, 2, 6, 8] <|
 .loop
 (q 9 (.mv (.t 8)) <|
 q 10 (.mv (.t 0)) <|
 q 11 (.len false (.t 10)) <|
 q 12 (.bin .lss (.t 9) (.t 11)) <|
 .keep [0, 1, 2, 6, 8, 12] <|
 .ite (.t 12)
 (.done)
 (.exit 0) <|
 .block 1
 (q 15 (.mv (.t 0)) <|
 q 16 (.mv (.t 8)) <|
 q 17 (.idxa 12 none (.t 15) (.t 16)) <|
 q 18 (.fld 0 (.t 17)) <|
 q 19 (.load false 1 (.t 18)) <|
 q 20 (.mv (.t 1)) <|
 q 21 (.bin .eql (.t 19) (.t 20)) <|
 q 22 (.mv (.t 21)) <|
 qg 23 22 true (.mv (.t 0)) <|
 qg 24 22 true (.mv (.t 8)) <|
 qg 25 22 true (.idxa 12 none (.t 23) (.t 24)) <|
 qg 26 22 true (.fld 10 (.t 25)) <|
 qg 27 22 true (.load false 1 (.t 26)) <|
 qg 28 22 true (.mv (.t 2)) <|
 qg 29 22 true (.bin .leq (.t 27) (.t 28)) <|
 q 30 (.pick (.t 22) (.t 29) (cb false)) <|
 q 31 (.mv (.t 30)) <|
 qg 32 31 true (.mv (.t 0)) <|
 qg 33 31 true (.mv (.t 8)) <|
 qg 34 31 true (.idxa 12 none (.t 32) (.t 33)) <|
 qg 35 31 true (.fld 11 (.t 34)) <|
 qg 36 31 true (.load false 1 (.t 35)) <|
 qg 37 31 true (.mv (.t 2)) <|
 qg 38 31 true (.bin .gtr (.t 36) (.t 37)) <|
 q 39 (.pick (.t 31) (.t 38) (cb false)) <|
 .keep [0, 1, 2, 6, 8, 39] <|
 .ite (.t 39)
 (q 40 (.mv (.t 0)) <|
 q 41 (.mv (.t 8)) <|
 q 42 (.idxa 12 none (.t 40) (.t 41)) <|
 q 43 (.fld 1 (.t 42)) <|
 q 44 (.load true 9 (.t 43)) <|
 qn (.store 9 (.t 6) (.t 44)) <|
 q 7 (.mv (cb true)) <|
 .keep [6, 7] <|
 .ret)
 (.done) <|
 .done) <|
 q 13 (.mv (.t 8)) <|
 q 14 (.bin .add (.t 13) (ci 1)) <|
 q 8 (.mv (.t 14)) <|
 .keep [0, 1, 2, 6, 8] <|
 .keep [0, 1, 2, 6, 8] <|
 .done)) <|
 q 45 (.build [.int .u64 0, .int .u64 0, .int .u64 0, .int .u64 0, .int .u64 0, .int .u64 0, .int .u64 0, .int .u64 0, .bool false] []) <|
 qn (.store 9 (.t 6) (.t 45)) <|
 q 7 (.mv (cb false)) <|
 .keep [6, 7] <|
 .ret
theorem e_clapperref10_Find:EF false F.clapperref10_Find ic_clapperref10_Find [.c 6 true 9,.t 7]:=ef [] Tryz.func95 (by kernel_rfl) (by kernel_rfl) (by kernel_rfl)
def ic_clapperref12_May : IC :=
 q 1 (.box (.t 0)) <|
 q 2 (.mv (cb false)) <|
 .keep [1] <|
 q 7 (.fld 3 (.t 1)) <|
 q 8 (.load false 1 (.t 7)) <|
 q 9 (.len false (.t 8)) <|
 q 10 (.bin .gtr (.t 9) (ci 100)) <|
 q 11 (.mv (.t 10)) <|
 qg 12 11 false (.fld 4 (.t 1)) <|
 qg 13 11 false (.load false 1 (.t 12)) <|
 qg 14 11 false (.len false (.t 13)) <|
 qg 15 11 false (.bin .gtr (.t 14) (ci 100)) <|
 q 16 (.pick (.t 11) (cb true) (.t 15)) <|
 .keep [1, 16] <|
 .ite (.t 16)
 (q 2 (.mv (cb false)) <|
 .keep [2] <|
 .ret)
 (.done) <|
 q 17 (.fld 3 (.t 1)) <|
 q 18 (.load false 1 (.t 17)) <|
 q 19 (.call F.clapperref12_days [(.t 18)]) <|
 q 3 (.mv (.t 19)) <|
 .keep [1, 3] <|
 q 20 (.fld 4 (.t 1)) <|
 q 21 (.load false 1 (.t 20)) <|
 q 22 (.call F.clapperref12_days [(.t 21)]) <|
 q 4 (.mv (.t 22)) <|
 .keep [1, 3, 4] <|
 q 5 (.mv (ci 0)) <|
 .keep [1, 3, 4, 5] <|
 .block 0
 (.keep [1, 3, 4, 5] <|
 .loop
 (q 23 (.mv (.t 5)) <|
 q 24 (.fld 3 (.t 1)) <|
 q 25 (.load false 1 (.t 24)) <|
 q 26 (.len false (.t 25)) <|
 q 27 (.bin .lss (.t 23) (.t 26)) <|
 .keep [1, 3, 4, 5, 27] <|
 .ite (.t 27)
 (.done)
 (.exit 0) <|
 .block 1
 (q 30 (.fld 4 (.t 1)) <|
 q 31 (.load false 1 (.t 30)) <|
 q 32 (.fld 3 (.t 1)) <|
 q 33 (.load false 1 (.t 32)) <|
 q 34 (.mv (.t 5)) <|
 q 35 (.idxa 1 none (.t 33) (.t 34)) <|
 q 36 (.load false 1 (.t 35)) <|
 q 37 (.call F.clapperref12_in [(.t 31), (.t 36)]) <|
 q 6 (.mv (.t 37)) <|
 .keep [1, 3, 4, 5, 6] <|
 q 38 (.mv (.t 6)) <|
 .keep [1, 3, 4, 5, 38] <|
 .ite (.t 38)
 (q 2 (.mv (cb false)) <|
 .keep [2] <|
 .ret)
 (.done) <|
 .done) <|
 q 28 (.mv (.t 5)) <|
 q 29 (.bin .add (.t 28) (ci 1)) <|
 q 5 (.mv (.t 29)) <|
 .keep [1, 3, 4, 5] <|
 .keep [1, 3, 4, 5] <|
 .done)) <|
 q 39 (.mv (.t 3)) <|
 q 40 (.mv (.t 39)) <|
 qg 41 40 true (.mv (.t 4)) <|
 q 42 (.pick (.t 40) (.t 41) (cb false)) <|
 q 43 (.mv (.t 42)) <|
 qg 44 43 true (.fld 0 (.t 1)) <|
 qg 45 43 true (.load false 1 (.t 44)) <|
 qg 46 43 true (.bin .geq (.t 45) (ci 0)) <|
 q 47 (.pick (.t 43) (.t 46) (cb false)) <|
 q 48 (.mv (.t 47)) <|
 qg 49 48 true (.fld 0 (.t 1)) <|
 qg 50 48 true (.load false 1 (.t 49)) <|
 qg 51 48 true (.bin .leq (.t 50) (ci 127)) <|
 q 52 (.pick (.t 48) (.t 51) (cb false)) <|
 q 53 (.mv (.t 52)) <|
 qg 54 53 true (.fld 1 (.t 1)) <|
 qg 55 53 true (.load false 1 (.t 54)) <|
 qg 56 53 true (.bin .geq (.t 55) (ci 0)) <|
 q 57 (.pick (.t 53) (.t 56) (cb false)) <|
 q 58 (.mv (.t 57)) <|
 qg 59 58 true (.fld 1 (.t 1)) <|
 qg 60 58 true (.load false 1 (.t 59)) <|
 qg 61 58 true (.fld 2 (.t 1)) <|
 qg 62 58 true (.load false 1 (.t 61)) <|
 qg 63 58 true (.bin .leq (.t 60) (.t 62)) <|
 q 64 (.pick (.t 58) (.t 63) (cb false)) <|
 q 65 (.mv (.t 64)) <|
 qg 66 65 true (.fld 2 (.t 1)) <|
 qg 67 65 true (.load false 1 (.t 66)) <|
 qg 68 65 true (.bin .leq (.t 67) (ci 1048576)) <|
 q 69 (.pick (.t 65) (.t 68) (cb false)) <|
 q 2 (.mv (.t 69)) <|
 .keep [2] <|
 .ret
theorem e_clapperref12_May:EF false F.clapperref12_May ic_clapperref12_May [.t 2]:=ef [] Tryz.func110 (by kernel_rfl) (by kernel_rfl) (by kernel_rfl)
def ic_clapperref14_why : IC :=
 q 5 (.box (.t 1)) <|
 q 8 (.mv (ci 0)) <|
 .keep [0, 2, 3, 5] <|
 q 9 (.mv (ci (-1))) <|
 .keep [0, 2, 3, 5, 9] <|
 q 10 (.mv (ci 0)) <|
 .keep [0, 2, 3, 5, 9, 10] <|
 .block 0
 (.keep [0, 2, 3, 5, 9, 10] <|
 .loop
 (q 14 (.mv (.t 10)) <|
 q 15 (.mv (.t 0)) <|
 q 16 (.len false (.t 15)) <|
 q 17 (.bin .lss (.t 14) (.t 16)) <|
 .keep [0, 2, 3, 5, 9, 10, 17] <|
 .ite (.t 17)
 (.done)
 (.exit 0) <|
 .block 1
 (q 20 (.mv (.t 0)) <|
 q 21 (.mv (.t 10)) <|
 q 22 (.idxa 7 none (.t 20) (.t 21)) <|
 q 23 (.fld 0 (.t 22)) <|
 q 24 (.load false 1 (.t 23)) <|
 q 25 (.fld 1 (.t 5)) <|
 q 26 (.load false 1 (.t 25)) <|
 q 27 (.bin .eql (.t 24) (.t 26)) <|
 .keep [0, 2, 3, 5, 9, 10, 27] <|
 .ite (.t 27)
 (q 28 (.mv (.t 10)) <|
 q 9 (.mv (.t 28)) <|
 .keep [0, 2, 3, 5, 9, 10] <|
 .done)
 (.done) <|
 .done) <|
 q 18 (.mv (.t 10)) <|
 q 19 (.bin .add (.t 18) (ci 1)) <|
 q 10 (.mv (.t 19)) <|
 .keep [0, 2, 3, 5, 9, 10] <|
 .keep [0, 2, 3, 5, 9, 10] <|
 .done)) <|
 q 29 (.mv (.t 9)) <|
 q 30 (.bin .lss (.t 29) (ci 0)) <|
 .keep [0, 2, 3, 5, 9, 30] <|
 .ite (.t 30)
 (q 8 (.mv (ci 7)) <|
 .keep [8] <|
 .ret)
 (.done) <|
 q 31 (.fld 2 (.t 5)) <|
 q 32 (.load false 1 (.t 31)) <|
 q 11 (.mv (.t 32)) <|
 .keep [0, 2, 3, 5, 9, 11] <|
 q 12 (.mv (ci 0)) <|
 .keep [0, 2, 3, 5, 9, 11, 12] <|
 .block 2
 (.keep [0, 2, 3, 5, 9, 11, 12] <|
 .loop
 (q 33 (.mv (.t 12)) <|
 q 34 (.mv (.t 2)) <|
 q 35 (.bin .lss (.t 33) (.t 34)) <|
 .keep [0, 2, 3, 5, 9, 11, 12, 35] <|
 .ite (.t 35)
 (.done)
 (.exit 2) <|
 .block 3
 (q 38 (.mv (.t 11)) <|
 q 39 (.bin .quo (.t 38) (ci 2)) <|
 q 11 (.mv (.t 39)) <|
 .keep [0, 2, 3, 5, 9, 11, 12] <|
 .done) <|
 q 36 (.mv (.t 12)) <|
 q 37 (.bin .add (.t 36) (ci 1)) <|
 q 12 (.mv (.t 37)) <|
 .keep [0, 2, 3, 5, 9, 11, 12] <|
 .keep [0, 2, 3, 5, 9, 11, 12] <|
 .done)) <|
 q 40 (.mv (.t 11)) <|
 q 41 (.bin .rem (.t 40) (ci 2)) <|
 q 42 (.bin .eql (.t 41) (ci 0)) <|
 .keep [0, 3, 5, 9, 42] <|
 .ite (.t 42)
 (q 8 (.mv (ci 5)) <|
 .keep [8] <|
 .ret)
 (.done) <|
 q 43 (.mv (.t 0)) <|
 q 44 (.mv (.t 9)) <|
 q 45 (.idxa 7 none (.t 43) (.t 44)) <|
 q 46 (.fld 2 (.t 45)) <|
 q 47 (.load true 5 (.t 46)) <|
 q 48 (.mv (.t 3)) <|
 q 49 (.bin .quo (.t 48) (ci 1440)) <|
 q 50 (.call F.clapperref12_Runs [(.t 47), (.t 49)]) <|
 q 13 (.mv (.t 50)) <|
 .keep [0, 3, 5, 9, 13] <|
 q 51 (.mv (.t 3)) <|
 q 52 (.fld 3 (.t 5)) <|
 q 53 (.load false 1 (.t 52)) <|
 q 54 (.bin .lss (.t 51) (.t 53)) <|
 q 55 (.mv (.t 54)) <|
 qg 56 55 false (.mv (.t 3)) <|
 qg 57 55 false (.fld 3 (.t 5)) <|
 qg 58 55 false (.load false 1 (.t 57)) <|
 qg 59 55 false (.mv (.t 0)) <|
 qg 60 55 false (.mv (.t 9)) <|
 qg 61 55 false (.idxa 7 none (.t 59) (.t 60)) <|
 qg 62 55 false (.fld 1 (.t 61)) <|
 qg 63 55 false (.load false 1 (.t 62)) <|
 qg 64 55 false (.bin .add (.t 58) (.t 63)) <|
 qg 65 55 false (.bin .geq (.t 56) (.t 64)) <|
 q 66 (.pick (.t 55) (cb true) (.t 65)) <|
 q 67 (.mv (.t 66)) <|
 qg 68 67 false (.mv (.t 13)) <|
 qg 69 67 false (.un .not (.t 68)) <|
 q 70 (.pick (.t 67) (cb true) (.t 69)) <|
 .keep [70] <|
 .ite (.t 70)
 (q 8 (.mv (ci 6)) <|
 .keep [8] <|
 .ret)
 (.done) <|
 q 8 (.mv (ci 1)) <|
 .keep [8] <|
 .ret
theorem e_clapperref14_why:EF false F.clapperref14_why ic_clapperref14_why [.t 8]:=ef [] Tryz.func111 (by kernel_rfl) (by kernel_rfl) (by kernel_rfl)
def ic_service_May : IC :=
 q 1 (.box (.t 0)) <|
 q 2 (.mv (cb false)) <|
 .keep [1] <|
 q 4 (.mkfn (.func F.service_May_1) [] [(.t 1)]) <|
 q 3 (.mv (.t 4)) <|
 .keep [1, 3] <|
 q 5 (.fld 0 (.t 1)) <|
 q 6 (.load false 1 (.t 5)) <|
 q 7 (.bin .geq (.t 6) (ci 0)) <|
 q 8 (.mv (.t 7)) <|
 qg 9 8 true (.fld 0 (.t 1)) <|
 qg 10 8 true (.load false 1 (.t 9)) <|
 qg 11 8 true (.bin .lss (.t 10) (ci 128)) <|
 q 12 (.pick (.t 8) (.t 11) (cb false)) <|
 q 13 (.mv (.t 12)) <|
 qg 14 13 true (.fld 1 (.t 1)) <|
 qg 15 13 true (.load false 1 (.t 14)) <|
 qg 16 13 true (.bin .geq (.t 15) (ci 0)) <|
 q 17 (.pick (.t 13) (.t 16) (cb false)) <|
 q 18 (.mv (.t 17)) <|
 qg 19 18 true (.fld 1 (.t 1)) <|
 qg 20 18 true (.load false 1 (.t 19)) <|
 qg 21 18 true (.fld 2 (.t 1)) <|
 qg 22 18 true (.load false 1 (.t 21)) <|
 qg 23 18 true (.bin .leq (.t 20) (.t 22)) <|
 q 24 (.pick (.t 18) (.t 23) (cb false)) <|
 q 25 (.mv (.t 24)) <|
 qg 26 25 true (.fld 2 (.t 1)) <|
 qg 27 25 true (.load false 1 (.t 26)) <|
 qg 28 25 true (.bin .leq (.t 27) (ci 1048576)) <|
 q 29 (.pick (.t 25) (.t 28) (cb false)) <|
 q 30 (.mv (.t 29)) <|
 qg 31 30 true (.fld 3 (.t 1)) <|
 qg 32 30 true (.load false 1 (.t 31)) <|
 qg 33 30 true (.call F.service_days [(.t 32)]) <|
 q 34 (.pick (.t 30) (.t 33) (cb false)) <|
 q 35 (.mv (.t 34)) <|
 qg 36 35 true (.fld 4 (.t 1)) <|
 qg 37 35 true (.load false 1 (.t 36)) <|
 qg 38 35 true (.call F.service_days [(.t 37)]) <|
 q 39 (.pick (.t 35) (.t 38) (cb false)) <|
 q 40 (.mv (.t 39)) <|
 qg 41 40 true (.fld 3 (.t 1)) <|
 qg 42 40 true (.load false 1 (.t 41)) <|
 qg 43 40 true (.mv (.t 3)) <|
 qg 44 40 true (.call F.slices_ContainsFunc_int_int [(.t 42), (.t 43)]) <|
 qg 45 40 true (.un .not (.t 44)) <|
 q 46 (.pick (.t 40) (.t 45) (cb false)) <|
 q 2 (.mv (.t 46)) <|
 .keep [2] <|
 .ret
theorem e_service_May:EF false F.service_May ic_service_May [.t 2]:=ef [] Tryz.func112 (by kernel_rfl) (by kernel_rfl) (by kernel_rfl)
def ic_fare_place : IC :=
 q 4 (.mv (cb false)) <|
 .keep [0, 1] <|
 q 5 (.mv (.t 0)) <|
 q 6 (.bin .geq (.t 5) (ci 0)) <|
 q 7 (.mv (.t 6)) <|
 qg 8 7 true (.mv (.t 0)) <|
 qg 9 7 true (.bin .lss (.t 8) (ci 8)) <|
 q 10 (.pick (.t 7) (.t 9) (cb false)) <|
 q 11 (.mv (.t 10)) <|
 qg 12 11 true (.mv (.t 1)) <|
 qg 13 11 true (.bin .geq (.t 12) (ci 0)) <|
 q 14 (.pick (.t 11) (.t 13) (cb false)) <|
 q 15 (.mv (.t 14)) <|
 qg 16 15 true (.mv (.t 1)) <|
 qg 17 15 true (.bin .leq (.t 16) (ci 1073741824)) <|
 q 18 (.pick (.t 15) (.t 17) (cb false)) <|
 q 4 (.mv (.t 18)) <|
 .keep [4] <|
 .ret
theorem e_fare_place:EF false F.fare_place ic_fare_place [.t 4]:=ef [] Tryz.func113 (by kernel_rfl) (by kernel_rfl) (by kernel_rfl)
def ic_fare_product : IC :=
 q 3 (.box (.t 1)) <|
 q 4 (.alloc [.int .i64 0, .int .i64 0, .int .i64 0, .int .i64 0, .int .i64 0, .slice none 0 0, .slice none 0 0]) <|
 q 5 (.mv (cb false)) <|
 .keep [0, 3, 4] <|
 q 7 (.mv (.t 0)) <|
 q 8 (.mkfn (.func F.fare_product_1) [] [(.t 3)]) <|
 q 9 (.call F.slices_IndexFunc_api_Product_api_Product [(.t 7), (.t 8)]) <|
 q 6 (.mv (.t 9)) <|
 .keep [0, 4, 6] <|
 q 10 (.mv (.t 6)) <|
 q 11 (.bin .lss (.t 10) (ci 0)) <|
 .keep [0, 4, 6, 11] <|
 .ite (.t 11)
 (q 12 (.build [.int .i64 0, .int .i64 0, .int .i64 0, .int .i64 0, .int .i64 0, .slice none 0 0, .slice none 0 0] []) <|
 qn (.store 7 (.t 4) (.t 12)) <|
 q 5 (.mv (cb false)) <|
 .keep [4, 5] <|
 .ret)
 (.done) <|
 q 13 (.mv (.t 0)) <|
 q 14 (.mv (.t 6)) <|
 q 15 (.idxa 7 none (.t 13) (.t 14)) <|
 q 16 (.load true 7 (.t 15)) <|
 qn (.store 7 (.t 4) (.t 16)) <|
 q 5 (.mv (cb true)) <|
 .keep [4, 5] <|
 .ret
theorem e_fare_product:EF false F.fare_product ic_fare_product [.c 4 true 7,.t 5]:=ef [] Tryz.func114 (by kernel_rfl) (by kernel_rfl) (by kernel_rfl)
def ic_fare_in : IC :=
 q 2 (.box (.t 0)) <|
 q 4 (.mv (cb false)) <|
 .keep [1, 2] <|
 q 5 (.fld 2 (.t 2)) <|
 q 6 (.load false 1 (.t 5)) <|
 q 7 (.mv (.t 1)) <|
 q 8 (.bin .shr (.t 6) (.t 7)) <|
 q 9 (.bin .and (.t 8) (ci 1)) <|
 q 10 (.bin .eql (.t 9) (ci 1)) <|
 q 4 (.mv (.t 10)) <|
 .keep [4] <|
 .ret
theorem e_fare_in:EF false F.fare_in ic_fare_in [.t 4]:=ef [] Tryz.func115 (by kernel_rfl) (by kernel_rfl) (by kernel_rfl)
def ic_fare_then : IC :=
 q 3 (.box (.t 0)) <|
 q 4 (.box (.t 1)) <|
 q 6 (.mv (cb false)) <|
 .keep [2, 3, 4] <|
 q 7 (.fld 3 (.t 4)) <|
 q 8 (.load false 1 (.t 7)) <|
 q 9 (.mv (.t 2)) <|
 q 10 (.bin .leq (.t 8) (.t 9)) <|
 q 11 (.mv (.t 10)) <|
 qg 12 11 true (.mv (.t 2)) <|
 qg 13 11 true (.fld 3 (.t 4)) <|
 qg 14 11 true (.load false 1 (.t 13)) <|
 qg 15 11 true (.fld 1 (.t 3)) <|
 qg 16 11 true (.load false 1 (.t 15)) <|
 qg 17 11 true (.bin .add (.t 14) (.t 16)) <|
 qg 18 11 true (.bin .lss (.t 12) (.t 17)) <|
 q 19 (.pick (.t 11) (.t 18) (cb false)) <|
 q 20 (.mv (.t 19)) <|
 qg 21 20 true (.fld 2 (.t 3)) <|
 qg 22 20 true (.load true 5 (.t 21)) <|
 qg 23 20 true (.mv (.t 2)) <|
 qg 24 20 true (.bin .quo (.t 23) (ci 1440)) <|
 qg 25 20 true (.call F.service_Runs [(.t 22), (.t 24)]) <|
 q 26 (.pick (.t 20) (.t 25) (cb false)) <|
 q 6 (.mv (.t 26)) <|
 .keep [6] <|
 .ret
theorem e_fare_then:EF false F.fare_then ic_fare_then [.t 6]:=ef [] Tryz.func116 (by kernel_rfl) (by kernel_rfl) (by kernel_rfl)
def ic_revoke_May : IC :=
 q 2 (.mv (cb false)) <|
 .keep [0] <|
 q 5 (.mv (.t 0)) <|
 q 6 (.len false (.t 5)) <|
 q 7 (.mv (ci 0)) <|
 .keep [0, 5, 6, 7] <|
 .block 0
 (.keep [0, 5, 6, 7] <|
 .loop
 (q 8 (.bin .lss (.t 7) (.t 6)) <|
 .keep [0, 5, 6, 7, 8] <|
 .ite (.t 8)
 (.done)
 (.exit 0) <|
 .block 1
 (q 9 (.mv (.t 7)) <|
 q 10 (.idxa 2 none (.t 5) (.t 7)) <|
 q 11 (.load true 2 (.t 10)) <|
 q 4 (.alloc [.int .i64 0, .int .i64 0]) <|
 q 3 (.mv (.t 9)) <|
 qn (.store 2 (.t 4) (.t 11)) <|
 .keep [0, 3, 4, 5, 6, 7] <|
 q 12 (.fld 0 (.t 4)) <|
 q 13 (.load false 1 (.t 12)) <|
 q 14 (.bin .lss (.t 13) (ci 1)) <|
 q 15 (.mv (.t 14)) <|
 qg 16 15 false (.fld 0 (.t 4)) <|
 qg 17 15 false (.load false 1 (.t 16)) <|
 qg 18 15 false (.bin .gtr (.t 17) (ci 2147483647)) <|
 q 19 (.pick (.t 15) (cb true) (.t 18)) <|
 q 20 (.mv (.t 19)) <|
 qg 21 20 false (.fld 1 (.t 4)) <|
 qg 22 20 false (.load false 1 (.t 21)) <|
 qg 23 20 false (.bin .lss (.t 22) (ci 0)) <|
 q 24 (.pick (.t 20) (cb true) (.t 23)) <|
 q 25 (.mv (.t 24)) <|
 qg 26 25 false (.fld 1 (.t 4)) <|
 qg 27 25 false (.load false 1 (.t 26)) <|
 qg 28 25 false (.bin .gtr (.t 27) (ci 1073741824)) <|
 q 29 (.pick (.t 25) (cb true) (.t 28)) <|
 q 30 (.mv (.t 29)) <|
 qg 31 30 false (.mv (.t 3)) <|
 qg 32 30 false (.bin .gtr (.t 31) (ci 0)) <|
 qg 33 30 false (.mv (.t 32)) <|
 qg 34 33 true (.mv (.t 0)) <|
 qg 35 33 true (.mv (.t 3)) <|
 qg 36 33 true (.bin .sub (.t 35) (ci 1)) <|
 qg 37 33 true (.idxa 2 none (.t 34) (.t 36)) <|
 qg 38 33 true (.fld 0 (.t 37)) <|
 qg 39 33 true (.load false 1 (.t 38)) <|
 qg 40 33 true (.fld 0 (.t 4)) <|
 qg 41 33 true (.load false 1 (.t 40)) <|
 qg 42 33 true (.bin .geq (.t 39) (.t 41)) <|
 qg 43 30 false (.pick (.t 33) (.t 42) (cb false)) <|
 q 44 (.pick (.t 30) (cb true) (.t 43)) <|
 .keep [0, 5, 6, 7, 44] <|
 .ite (.t 44)
 (q 2 (.mv (cb false)) <|
 .keep [2] <|
 .ret)
 (.done) <|
 .done) <|
 q 45 (.bin .add (.t 7) (ci 1)) <|
 q 7 (.mv (.t 45)) <|
 .keep [0, 5, 6, 7] <|
 .keep [0, 5, 6, 7] <|
 .done)) <|
 q 46 (.mv (.t 0)) <|
 q 47 (.len false (.t 46)) <|
 q 48 (.bin .leq (.t 47) (ci 200)) <|
 q 2 (.mv (.t 48)) <|
 .keep [2] <|
 .ret
theorem e_revoke_May:EF false F.revoke_May ic_revoke_May [.t 2]:=ef [] Tryz.func117 (by kernel_rfl) (by kernel_rfl) (by kernel_rfl)
def ic_revoke_Is : IC :=
 q 4 (.box (.t 1)) <|
 q 5 (.box (.t 2)) <|
 q 6 (.mv (cb false)) <|
 .keep [0, 4, 5] <|
 q 7 (.mv (.t 0)) <|
 q 8 (.call F.revoke_May [(.t 7)]) <|
 q 9 (.mv (.t 8)) <|
 qg 10 9 true (.mv (.t 0)) <|
 qg 11 9 true (.mkfn (.func F.revoke_Is_1) [] [(.t 4), (.t 5)]) <|
 qg 12 9 true (.call F.slices_ContainsFunc_api_Revoked_api_Revoked [(.t 10), (.t 11)]) <|
 q 13 (.pick (.t 9) (.t 12) (cb false)) <|
 q 6 (.mv (.t 13)) <|
 .keep [6] <|
 .ret
theorem e_revoke_Is:EF false F.revoke_Is ic_revoke_Is [.t 6]:=ef [] Tryz.func118 (by kernel_rfl) (by kernel_rfl) (by kernel_rfl)
def ic_clapperref11_Is : IC :=
 q 6 (.mv (cb false)) <|
 .keep [0, 1, 2] <|
 q 8 (.mv (.t 0)) <|
 q 9 (.mv (.t 1)) <|
 q 10 (.call F.clapperref11_From [(.t 8), (.t 9)]) <|
 q 7 (.mv (.t 10)) <|
 .keep [2, 7] <|
 q 11 (.mv (.t 7)) <|
 q 12 (.bin .geq (.t 11) (ci 0)) <|
 q 13 (.mv (.t 12)) <|
 qg 14 13 true (.mv (.t 7)) <|
 qg 15 13 true (.mv (.t 2)) <|
 qg 16 13 true (.bin .leq (.t 14) (.t 15)) <|
 q 17 (.pick (.t 13) (.t 16) (cb false)) <|
 q 6 (.mv (.t 17)) <|
 .keep [6] <|
 .ret
theorem e_clapperref11_Is:EF false F.clapperref11_Is ic_clapperref11_Is [.t 6]:=ef [] Tryz.func119 (by kernel_rfl) (by kernel_rfl) (by kernel_rfl)
def ic_keys_one : IC :=
 q 1 (.box (.t 0)) <|
 q 2 (.mv (cb false)) <|
 .keep [1] <|
 q 3 (.fld 0 (.t 1)) <|
 q 4 (.load false 1 (.t 3)) <|
 q 5 (.bin .geq (.t 4) (ci 1)) <|
 q 6 (.mv (.t 5)) <|
 qg 7 6 true (.fld 0 (.t 1)) <|
 qg 8 6 true (.load false 1 (.t 7)) <|
 qg 9 6 true (.bin .leq (.t 8) (ci 2147483647)) <|
 q 10 (.pick (.t 6) (.t 9) (cb false)) <|
 q 11 (.mv (.t 10)) <|
 qg 12 11 true (.fld 1 (.t 1)) <|
 qg 13 11 true (.load true 9 (.t 12)) <|
 qg 14 11 true (.call F.point_On [(.t 13)]) <|
 q 15 (.pick (.t 11) (.t 14) (cb false)) <|
 q 16 (.mv (.t 15)) <|
 qg 17 16 true (.fld 1 (.t 1)) <|
 qg 18 16 true (.fld 8 (.t 17)) <|
 qg 19 16 true (.load false 1 (.t 18)) <|
 qg 20 16 true (.un .not (.t 19)) <|
 q 21 (.pick (.t 16) (.t 20) (cb false)) <|
 q 22 (.mv (.t 21)) <|
 qg 23 22 true (.fld 10 (.t 1)) <|
 qg 24 22 true (.load false 1 (.t 23)) <|
 qg 25 22 true (.bin .geq (.t 24) (ci 0)) <|
 q 26 (.pick (.t 22) (.t 25) (cb false)) <|
 q 27 (.mv (.t 26)) <|
 qg 28 27 true (.fld 10 (.t 1)) <|
 qg 29 27 true (.load false 1 (.t 28)) <|
 qg 30 27 true (.fld 11 (.t 1)) <|
 qg 31 27 true (.load false 1 (.t 30)) <|
 qg 32 27 true (.bin .leq (.t 29) (.t 31)) <|
 q 33 (.pick (.t 27) (.t 32) (cb false)) <|
 q 34 (.mv (.t 33)) <|
 qg 35 34 true (.fld 11 (.t 1)) <|
 qg 36 34 true (.load false 1 (.t 35)) <|
 qg 37 34 true (.bin .leq (.t 36) (ci 1073741824)) <|
 q 38 (.pick (.t 34) (.t 37) (cb false)) <|
 q 2 (.mv (.t 38)) <|
 .keep [2] <|
 .ret
theorem e_keys_one:EF false F.keys_one ic_keys_one [.t 2]:=ef [] Tryz.func168 (by kernel_rfl) (by kernel_rfl) (by kernel_rfl)
def ic_slices_IndexFunc_api_Key_api_Key : IC :=
 q 4 (.mv (ci 0)) <|
 .keep [0, 1] <|
 q 6 (.mv (.t 0)) <|
 q 7 (.len false (.t 6)) <|
 q 8 (.mv (ci 0)) <|
 .keep [0, 1, 7, 8] <|
 .block 0
 (.keep [0, 1, 7, 8] <|
 .loop
 (q 9 (.bin .lss (.t 8) (.t 7)) <|
 .keep [0, 1, 7, 8, 9] <|
 .ite (.t 9)
 (.done)
 (.exit 0) <|
 .block 1
 (q 10 (.mv (.t 8)) <|
 q 5 (.mv (.t 10)) <|
 .keep [0, 1, 5, 7, 8] <|
 q 11 (.mv (.t 1)) <|
 q 12 (.mv (.t 0)) <|
 q 13 (.mv (.t 5)) <|
 q 14 (.idxa 12 none (.t 12) (.t 13)) <|
 q 15 (.load true 12 (.t 14)) <|
 q 16 (.callv (.t 11) [(.t 15)]) <|
 .keep [0, 1, 5, 7, 8, 16] <|
 .ite (.t 16)
 (q 17 (.mv (.t 5)) <|
 q 4 (.mv (.t 17)) <|
 .keep [4] <|
 .ret)
 (.done) <|
 .done) <|
 q 18 (.bin .add (.t 8) (ci 1)) <|
 q 8 (.mv (.t 18)) <|
 .keep [0, 1, 7, 8] <|
 .keep [0, 1, 7, 8] <|
 .done)) <|
 q 4 (.mv (ci (-1))) <|
 .keep [4] <|
 .ret
theorem e_slices_IndexFunc_api_Key_api_Key:EF false F.slices_IndexFunc_api_Key_api_Key ic_slices_IndexFunc_api_Key_api_Key [.t 4]:=ef [] Tryz.func169 (by kernel_rfl) (by kernel_rfl) (by kernel_rfl)
def ic_keys_find_1 : IC :=
 q 2 (.box (.t 0)) <|
 q 3 (.mv (cb false)) <|
 .keep [1, 2] <|
 q 4 (.fld 0 (.t 2)) <|
 q 5 (.load false 1 (.t 4)) <|
 q 6 (.load false 1 (.t 1)) <|
 q 7 (.bin .eql (.t 5) (.t 6)) <|
 q 3 (.mv (.t 7)) <|
 .keep [3] <|
 .ret
theorem e_keys_find_1:EF false F.keys_find_1 ic_keys_find_1 [.t 3]:=ef [] Tryz.func170 (by kernel_rfl) (by kernel_rfl) (by kernel_rfl)
def ic_clapperref12_days : IC :=
 q 2 (.mv (cb false)) <|
 .keep [0] <|
 q 3 (.mv (ci 0)) <|
 .keep [0, 3] <|
 .block 0
 (.keep [0, 3] <|
 .loop
 (q 4 (.mv (.t 3)) <|
 q 5 (.mv (.t 0)) <|
 q 6 (.len false (.t 5)) <|
 q 7 (.bin .lss (.t 4) (.t 6)) <|
 .keep [0, 3, 7] <|
 .ite (.t 7)
 (.done)
 (.exit 0) <|
 .block 1
 (q 10 (.mv (.t 0)) <|
 q 11 (.mv (.t 3)) <|
 q 12 (.idxa 1 none (.t 10) (.t 11)) <|
 q 13 (.load false 1 (.t 12)) <|
 q 14 (.bin .lss (.t 13) (ci 0)) <|
 q 15 (.mv (.t 14)) <|
 qg 16 15 false (.mv (.t 0)) <|
 qg 17 15 false (.mv (.t 3)) <|
 qg 18 15 false (.idxa 1 none (.t 16) (.t 17)) <|
 qg 19 15 false (.load false 1 (.t 18)) <|
 qg 20 15 false (.bin .gtr (.t 19) (ci 1048576)) <|
 q 21 (.pick (.t 15) (cb true) (.t 20)) <|
 q 22 (.mv (.t 21)) <|
 qg 23 22 false (.mv (.t 3)) <|
 qg 24 22 false (.bin .gtr (.t 23) (ci 0)) <|
 qg 25 22 false (.mv (.t 24)) <|
 qg 26 25 true (.mv (.t 0)) <|
 qg 27 25 true (.mv (.t 3)) <|
 qg 28 25 true (.idxa 1 none (.t 26) (.t 27)) <|
 qg 29 25 true (.load false 1 (.t 28)) <|
 qg 30 25 true (.mv (.t 0)) <|
 qg 31 25 true (.mv (.t 3)) <|
 qg 32 25 true (.bin .sub (.t 31) (ci 1)) <|
 qg 33 25 true (.idxa 1 none (.t 30) (.t 32)) <|
 qg 34 25 true (.load false 1 (.t 33)) <|
 qg 35 25 true (.bin .leq (.t 29) (.t 34)) <|
 qg 36 22 false (.pick (.t 25) (.t 35) (cb false)) <|
 q 37 (.pick (.t 22) (cb true) (.t 36)) <|
 .keep [0, 3, 37] <|
 .ite (.t 37)
 (q 2 (.mv (cb false)) <|
 .keep [2] <|
 .ret)
 (.done) <|
 .done) <|
 q 8 (.mv (.t 3)) <|
 q 9 (.bin .add (.t 8) (ci 1)) <|
 q 3 (.mv (.t 9)) <|
 .keep [0, 3] <|
 .keep [0, 3] <|
 .done)) <|
 q 38 (.mv (.t 0)) <|
 q 39 (.len false (.t 38)) <|
 q 40 (.bin .leq (.t 39) (ci 100)) <|
 q 2 (.mv (.t 40)) <|
 .keep [2] <|
 .ret
theorem e_clapperref12_days:EF false F.clapperref12_days ic_clapperref12_days [.t 2]:=ef [] Tryz.func174 (by kernel_rfl) (by kernel_rfl) (by kernel_rfl)
def ic_clapperref12_in : IC :=
 q 4 (.mv (cb false)) <|
 .keep [0, 1] <|
 q 5 (.mv (ci 0)) <|
 .keep [0, 1, 5] <|
 .block 0
 (.keep [0, 1, 5] <|
 .loop
 (q 6 (.mv (.t 5)) <|
 q 7 (.mv (.t 0)) <|
 q 8 (.len false (.t 7)) <|
 q 9 (.bin .lss (.t 6) (.t 8)) <|
 .keep [0, 1, 5, 9] <|
 .ite (.t 9)
 (.done)
 (.exit 0) <|
 .block 1
 (q 12 (.mv (.t 0)) <|
 q 13 (.mv (.t 5)) <|
 q 14 (.idxa 1 none (.t 12) (.t 13)) <|
 q 15 (.load false 1 (.t 14)) <|
 q 16 (.mv (.t 1)) <|
 q 17 (.bin .eql (.t 15) (.t 16)) <|
 .keep [0, 1, 5, 17] <|
 .ite (.t 17)
 (q 4 (.mv (cb true)) <|
 .keep [4] <|
 .ret)
 (.done) <|
 .done) <|
 q 10 (.mv (.t 5)) <|
 q 11 (.bin .add (.t 10) (ci 1)) <|
 q 5 (.mv (.t 11)) <|
 .keep [0, 1, 5] <|
 .keep [0, 1, 5] <|
 .done)) <|
 q 4 (.mv (cb false)) <|
 .keep [4] <|
 .ret
theorem e_clapperref12_in:EF false F.clapperref12_in ic_clapperref12_in [.t 4]:=ef [] Tryz.func175 (by kernel_rfl) (by kernel_rfl) (by kernel_rfl)
def ic_clapperref12_Runs : IC :=
 q 2 (.box (.t 0)) <|
 q 4 (.mv (cb false)) <|
 .keep [1, 2] <|
 q 9 (.fld 3 (.t 2)) <|
 q 10 (.load false 1 (.t 9)) <|
 q 11 (.mv (.t 1)) <|
 q 12 (.call F.clapperref12_in [(.t 10), (.t 11)]) <|
 q 5 (.mv (.t 12)) <|
 .keep [1, 2, 5] <|
 q 13 (.fld 4 (.t 2)) <|
 q 14 (.load false 1 (.t 13)) <|
 q 15 (.mv (.t 1)) <|
 q 16 (.call F.clapperref12_in [(.t 14), (.t 15)]) <|
 q 6 (.mv (.t 16)) <|
 .keep [1, 2, 5, 6] <|
 q 17 (.mv (.t 5)) <|
 .keep [1, 2, 6, 17] <|
 .ite (.t 17)
 (q 4 (.mv (cb true)) <|
 .keep [4] <|
 .ret)
 (.done) <|
 q 18 (.mv (.t 6)) <|
 q 19 (.mv (.t 18)) <|
 qg 20 19 false (.mv (.t 1)) <|
 qg 21 19 false (.fld 1 (.t 2)) <|
 qg 22 19 false (.load false 1 (.t 21)) <|
 qg 23 19 false (.bin .lss (.t 20) (.t 22)) <|
 q 24 (.pick (.t 19) (cb true) (.t 23)) <|
 q 25 (.mv (.t 24)) <|
 qg 26 25 false (.mv (.t 1)) <|
 qg 27 25 false (.fld 2 (.t 2)) <|
 qg 28 25 false (.load false 1 (.t 27)) <|
 qg 29 25 false (.bin .geq (.t 26) (.t 28)) <|
 q 30 (.pick (.t 25) (cb true) (.t 29)) <|
 .keep [1, 2, 30] <|
 .ite (.t 30)
 (q 4 (.mv (cb false)) <|
 .keep [4] <|
 .ret)
 (.done) <|
 q 31 (.fld 0 (.t 2)) <|
 q 32 (.load false 1 (.t 31)) <|
 q 7 (.mv (.t 32)) <|
 .keep [1, 7] <|
 q 8 (.mv (ci 0)) <|
 .keep [1, 7, 8] <|
 .block 0
 (.keep [1, 7, 8] <|
 .loop
 (q 33 (.mv (.t 8)) <|
 q 34 (.mv (.t 1)) <|
 q 35 (.bin .rem (.t 34) (ci 7)) <|
 q 36 (.bin .lss (.t 33) (.t 35)) <|
 .keep [1, 7, 8, 36] <|
 .ite (.t 36)
 (.done)
 (.exit 0) <|
 .block 1
 (q 39 (.mv (.t 7)) <|
 q 40 (.bin .quo (.t 39) (ci 2)) <|
 q 7 (.mv (.t 40)) <|
 .keep [1, 7, 8] <|
 .done) <|
 q 37 (.mv (.t 8)) <|
 q 38 (.bin .add (.t 37) (ci 1)) <|
 q 8 (.mv (.t 38)) <|
 .keep [1, 7, 8] <|
 .keep [1, 7, 8] <|
 .done)) <|
 q 41 (.mv (.t 7)) <|
 q 42 (.bin .rem (.t 41) (ci 2)) <|
 q 43 (.bin .eql (.t 42) (ci 1)) <|
 q 4 (.mv (.t 43)) <|
 .keep [4] <|
 .ret
theorem e_clapperref12_Runs:EF false F.clapperref12_Runs ic_clapperref12_Runs [.t 4]:=ef [] Tryz.func176 (by kernel_rfl) (by kernel_rfl) (by kernel_rfl)
def ic_service_May_1 : IC :=
 q 3 (.mv (cb false)) <|
 .keep [0, 1] <|
 q 4 (.fld 4 (.t 1)) <|
 q 5 (.load false 1 (.t 4)) <|
 q 6 (.mv (.t 0)) <|
 q 7 (.call F.slices_Contains_int_int [(.t 5), (.t 6)]) <|
 q 3 (.mv (.t 7)) <|
 .keep [3] <|
 .ret
theorem e_service_May_1:EF false F.service_May_1 ic_service_May_1 [.t 3]:=ef [] Tryz.func177 (by kernel_rfl) (by kernel_rfl) (by kernel_rfl)
def ic_slices_Contains_int_int : IC :=
 q 4 (.mv (cb false)) <|
 .keep [0, 1] <|
 q 5 (.mv (.t 0)) <|
 q 6 (.mv (.t 1)) <|
 q 7 (.call F.slices_Index_int_int [(.t 5), (.t 6)]) <|
 q 8 (.bin .geq (.t 7) (ci 0)) <|
 q 4 (.mv (.t 8)) <|
 .keep [4] <|
 .ret
theorem e_slices_Contains_int_int:EF false F.slices_Contains_int_int ic_slices_Contains_int_int [.t 4]:=ef [] Tryz.func178 (by kernel_rfl) (by kernel_rfl) (by kernel_rfl)
def ic_service_days : IC :=
 q 2 (.mv (cb false)) <|
 .keep [0] <|
 q 5 (.mv (.t 0)) <|
 q 6 (.len false (.t 5)) <|
 q 7 (.mv (ci 0)) <|
 .keep [0, 5, 6, 7] <|
 .block 0
 (.keep [0, 5, 6, 7] <|
 .loop
 (q 8 (.bin .lss (.t 7) (.t 6)) <|
 .keep [0, 5, 6, 7, 8] <|
 .ite (.t 8)
 (.done)
 (.exit 0) <|
 .block 1
 (q 9 (.mv (.t 7)) <|
 q 10 (.idxa 1 none (.t 5) (.t 7)) <|
 q 11 (.load false 1 (.t 10)) <|
 q 3 (.mv (.t 9)) <|
 q 4 (.mv (.t 11)) <|
 .keep [0, 3, 4, 5, 6, 7] <|
 q 12 (.mv (.t 4)) <|
 q 13 (.bin .lss (.t 12) (ci 0)) <|
 q 14 (.mv (.t 13)) <|
 qg 15 14 false (.mv (.t 4)) <|
 qg 16 14 false (.bin .gtr (.t 15) (ci 1048576)) <|
 q 17 (.pick (.t 14) (cb true) (.t 16)) <|
 q 18 (.mv (.t 17)) <|
 qg 19 18 false (.mv (.t 3)) <|
 qg 20 18 false (.bin .gtr (.t 19) (ci 0)) <|
 qg 21 18 false (.mv (.t 20)) <|
 qg 22 21 true (.mv (.t 0)) <|
 qg 23 21 true (.mv (.t 3)) <|
 qg 24 21 true (.bin .sub (.t 23) (ci 1)) <|
 qg 25 21 true (.idxa 1 none (.t 22) (.t 24)) <|
 qg 26 21 true (.load false 1 (.t 25)) <|
 qg 27 21 true (.mv (.t 4)) <|
 qg 28 21 true (.bin .geq (.t 26) (.t 27)) <|
 qg 29 18 false (.pick (.t 21) (.t 28) (cb false)) <|
 q 30 (.pick (.t 18) (cb true) (.t 29)) <|
 .keep [0, 5, 6, 7, 30] <|
 .ite (.t 30)
 (q 2 (.mv (cb false)) <|
 .keep [2] <|
 .ret)
 (.done) <|
 .done) <|
 q 31 (.bin .add (.t 7) (ci 1)) <|
 q 7 (.mv (.t 31)) <|
 .keep [0, 5, 6, 7] <|
 .keep [0, 5, 6, 7] <|
 .done)) <|
 q 32 (.mv (.t 0)) <|
 q 33 (.len false (.t 32)) <|
 q 34 (.bin .leq (.t 33) (ci 100)) <|
 q 2 (.mv (.t 34)) <|
 .keep [2] <|
 .ret
theorem e_service_days:EF false F.service_days ic_service_days [.t 2]:=ef [] Tryz.func179 (by kernel_rfl) (by kernel_rfl) (by kernel_rfl)
def ic_slices_ContainsFunc_int_int : IC :=
 q 4 (.mv (cb false)) <|
 .keep [0, 1] <|
 q 5 (.mv (.t 0)) <|
 q 6 (.mv (.t 1)) <|
 q 7 (.call F.slices_IndexFunc_int_int [(.t 5), (.t 6)]) <|
 q 8 (.bin .geq (.t 7) (ci 0)) <|
 q 4 (.mv (.t 8)) <|
 .keep [4] <|
 .ret
theorem e_slices_ContainsFunc_int_int:EF false F.slices_ContainsFunc_int_int ic_slices_ContainsFunc_int_int [.t 4]:=ef [] Tryz.func180 (by kernel_rfl) (by kernel_rfl) (by kernel_rfl)
def ic_slices_IndexFunc_api_Product_api_Product : IC :=
 q 4 (.mv (ci 0)) <|
 .keep [0, 1] <|
 q 6 (.mv (.t 0)) <|
 q 7 (.len false (.t 6)) <|
 q 8 (.mv (ci 0)) <|
 .keep [0, 1, 7, 8] <|
 .block 0
 (.keep [0, 1, 7, 8] <|
 .loop
 (q 9 (.bin .lss (.t 8) (.t 7)) <|
 .keep [0, 1, 7, 8, 9] <|
 .ite (.t 9)
 (.done)
 (.exit 0) <|
 .block 1
 (q 10 (.mv (.t 8)) <|
 q 5 (.mv (.t 10)) <|
 .keep [0, 1, 5, 7, 8] <|
 q 11 (.mv (.t 1)) <|
 q 12 (.mv (.t 0)) <|
 q 13 (.mv (.t 5)) <|
 q 14 (.idxa 7 none (.t 12) (.t 13)) <|
 q 15 (.load true 7 (.t 14)) <|
 q 16 (.callv (.t 11) [(.t 15)]) <|
 .keep [0, 1, 5, 7, 8, 16] <|
 .ite (.t 16)
 (q 17 (.mv (.t 5)) <|
 q 4 (.mv (.t 17)) <|
 .keep [4] <|
 .ret)
 (.done) <|
 .done) <|
 q 18 (.bin .add (.t 8) (ci 1)) <|
 q 8 (.mv (.t 18)) <|
 .keep [0, 1, 7, 8] <|
 .keep [0, 1, 7, 8] <|
 .done)) <|
 q 4 (.mv (ci (-1))) <|
 .keep [4] <|
 .ret
theorem e_slices_IndexFunc_api_Product_api_Product:EF false F.slices_IndexFunc_api_Product_api_Product ic_slices_IndexFunc_api_Product_api_Product [.t 4]:=ef [] Tryz.func181 (by kernel_rfl) (by kernel_rfl) (by kernel_rfl)
def ic_fare_product_1 : IC :=
 q 2 (.box (.t 0)) <|
 q 3 (.mv (cb false)) <|
 .keep [1, 2] <|
 q 4 (.fld 0 (.t 2)) <|
 q 5 (.load false 1 (.t 4)) <|
 q 6 (.fld 1 (.t 1)) <|
 q 7 (.load false 1 (.t 6)) <|
 q 8 (.bin .eql (.t 5) (.t 7)) <|
 q 3 (.mv (.t 8)) <|
 .keep [3] <|
 .ret
theorem e_fare_product_1:EF false F.fare_product_1 ic_fare_product_1 [.t 3]:=ef [] Tryz.func182 (by kernel_rfl) (by kernel_rfl) (by kernel_rfl)
def ic_service_Runs : IC :=
 q 2 (.box (.t 0)) <|
 q 4 (.mv (cb false)) <|
 .keep [1, 2] <|
 q 5 (.load true 5 (.t 2)) <|
 q 6 (.call F.service_May [(.t 5)]) <|
 q 7 (.mv (.t 6)) <|
 qg 8 7 true (.load true 5 (.t 2)) <|
 qg 9 7 true (.mv (.t 1)) <|
 qg 10 7 true (.call F.service_runs [(.t 8), (.t 9)]) <|
 q 11 (.pick (.t 7) (.t 10) (cb false)) <|
 q 4 (.mv (.t 11)) <|
 .keep [4] <|
 .ret
theorem e_service_Runs:EF false F.service_Runs ic_service_Runs [.t 4]:=ef [] Tryz.func183 (by kernel_rfl) (by kernel_rfl) (by kernel_rfl)
def ic_slices_ContainsFunc_api_Revoked_api_Revoked : IC :=
 q 4 (.mv (cb false)) <|
 .keep [0, 1] <|
 q 5 (.mv (.t 0)) <|
 q 6 (.mv (.t 1)) <|
 q 7 (.call F.slices_IndexFunc_api_Revoked_api_Revoked [(.t 5), (.t 6)]) <|
 q 8 (.bin .geq (.t 7) (ci 0)) <|
 q 4 (.mv (.t 8)) <|
 .keep [4] <|
 .ret
theorem e_slices_ContainsFunc_api_Revoked_api_Revoked:EF false F.slices_ContainsFunc_api_Revoked_api_Revoked ic_slices_ContainsFunc_api_Revoked_api_Revoked [.t 4]:=ef [] Tryz.func184 (by kernel_rfl) (by kernel_rfl) (by kernel_rfl)
def ic_revoke_Is_1 : IC :=
 q 3 (.box (.t 0)) <|
 q 4 (.mv (cb false)) <|
 .keep [1, 2, 3] <|
 q 5 (.fld 0 (.t 3)) <|
 q 6 (.load false 1 (.t 5)) <|
 q 7 (.load false 1 (.t 1)) <|
 q 8 (.bin .eql (.t 6) (.t 7)) <|
 q 9 (.mv (.t 8)) <|
 qg 10 9 true (.fld 1 (.t 3)) <|
 qg 11 9 true (.load false 1 (.t 10)) <|
 qg 12 9 true (.load false 1 (.t 2)) <|
 qg 13 9 true (.bin .leq (.t 11) (.t 12)) <|
 q 14 (.pick (.t 9) (.t 13) (cb false)) <|
 q 4 (.mv (.t 14)) <|
 .keep [4] <|
 .ret
theorem e_revoke_Is_1:EF false F.revoke_Is_1 ic_revoke_Is_1 [.t 4]:=ef [] Tryz.func185 (by kernel_rfl) (by kernel_rfl) (by kernel_rfl)
def ic_clapperref11_From : IC :=
 q 4 (.mv (ci 0)) <|
 .keep [0, 1] <|
 q 5 (.mv (ci 0)) <|
 .keep [0, 1, 5] <|
 .block 0
 (.keep [0, 1, 5] <|
 .loop
 (q 6 (.mv (.t 5)) <|
 q 7 (.mv (.t 0)) <|
 q 8 (.len false (.t 7)) <|
 q 9 (.bin .lss (.t 6) (.t 8)) <|
 .keep [0, 1, 5, 9] <|
 .ite (.t 9)
 (.done)
 (.exit 0) <|
 .block 1
 (q 12 (.mv (.t 0)) <|
 q 13 (.mv (.t 5)) <|
 q 14 (.idxa 2 none (.t 12) (.t 13)) <|
 q 15 (.fld 0 (.t 14)) <|
 q 16 (.load false 1 (.t 15)) <|
 q 17 (.mv (.t 1)) <|
 q 18 (.bin .eql (.t 16) (.t 17)) <|
 .keep [0, 1, 5, 18] <|
 .ite (.t 18)
 (q 19 (.mv (.t 0)) <|
 q 20 (.mv (.t 5)) <|
 q 21 (.idxa 2 none (.t 19) (.t 20)) <|
 q 22 (.fld 1 (.t 21)) <|
 q 23 (.load false 1 (.t 22)) <|
 q 4 (.mv (.t 23)) <|
 .keep [4] <|
 .ret)
 (.done) <|
 .done) <|
 q 10 (.mv (.t 5)) <|
 q 11 (.bin .add (.t 10) (ci 1)) <|
 q 5 (.mv (.t 11)) <|
 .keep [0, 1, 5] <|
 .keep [0, 1, 5] <|
 .done)) <|
 q 4 (.mv (ci (-1))) <|
 .keep [4] <|
 .ret
theorem e_clapperref11_From:EF false F.clapperref11_From ic_clapperref11_From [.t 4]:=ef [] Tryz.func186 (by kernel_rfl) (by kernel_rfl) (by kernel_rfl)
def ic_slices_Index_int_int : IC :=
 q 4 (.mv (ci 0)) <|
 .keep [0, 1] <|
 q 6 (.mv (.t 0)) <|
 q 7 (.len false (.t 6)) <|
 q 8 (.mv (ci 0)) <|
 .keep [0, 1, 7, 8] <|
 .block 0
 (.keep [0, 1, 7, 8] <|
 .loop
 (q 9 (.bin .lss (.t 8) (.t 7)) <|
 .keep [0, 1, 7, 8, 9] <|
 .ite (.t 9)
 (.done)
 (.exit 0) <|
 .block 1
 (q 10 (.mv (.t 8)) <|
 q 5 (.mv (.t 10)) <|
 .keep [0, 1, 5, 7, 8] <|
 q 11 (.mv (.t 1)) <|
 q 12 (.mv (.t 0)) <|
 q 13 (.mv (.t 5)) <|
 q 14 (.idxa 1 none (.t 12) (.t 13)) <|
 q 15 (.load false 1 (.t 14)) <|
 q 16 (.bin .eql (.t 11) (.t 15)) <|
 .keep [0, 1, 5, 7, 8, 16] <|
 .ite (.t 16)
 (q 17 (.mv (.t 5)) <|
 q 4 (.mv (.t 17)) <|
 .keep [4] <|
 .ret)
 (.done) <|
 .done) <|
 q 18 (.bin .add (.t 8) (ci 1)) <|
 q 8 (.mv (.t 18)) <|
 .keep [0, 1, 7, 8] <|
 .keep [0, 1, 7, 8] <|
 .done)) <|
 q 4 (.mv (ci (-1))) <|
 .keep [4] <|
 .ret
theorem e_slices_Index_int_int:EF false F.slices_Index_int_int ic_slices_Index_int_int [.t 4]:=ef [] Tryz.func207 (by kernel_rfl) (by kernel_rfl) (by kernel_rfl)
def ic_slices_IndexFunc_int_int : IC :=
 q 4 (.mv (ci 0)) <|
 .keep [0, 1] <|
 q 6 (.mv (.t 0)) <|
 q 7 (.len false (.t 6)) <|
 q 8 (.mv (ci 0)) <|
 .keep [0, 1, 7, 8] <|
 .block 0
 (.keep [0, 1, 7, 8] <|
 .loop
 (q 9 (.bin .lss (.t 8) (.t 7)) <|
 .keep [0, 1, 7, 8, 9] <|
 .ite (.t 9)
 (.done)
 (.exit 0) <|
 .block 1
 (q 10 (.mv (.t 8)) <|
 q 5 (.mv (.t 10)) <|
 .keep [0, 1, 5, 7, 8] <|
 q 11 (.mv (.t 1)) <|
 q 12 (.mv (.t 0)) <|
 q 13 (.mv (.t 5)) <|
 q 14 (.idxa 1 none (.t 12) (.t 13)) <|
 q 15 (.load false 1 (.t 14)) <|
 q 16 (.callv (.t 11) [(.t 15)]) <|
 .keep [0, 1, 5, 7, 8, 16] <|
 .ite (.t 16)
 (q 17 (.mv (.t 5)) <|
 q 4 (.mv (.t 17)) <|
 .keep [4] <|
 .ret)
 (.done) <|
 .done) <|
 q 18 (.bin .add (.t 8) (ci 1)) <|
 q 8 (.mv (.t 18)) <|
 .keep [0, 1, 7, 8] <|
 .keep [0, 1, 7, 8] <|
 .done)) <|
 q 4 (.mv (ci (-1))) <|
 .keep [4] <|
 .ret
theorem e_slices_IndexFunc_int_int:EF false F.slices_IndexFunc_int_int ic_slices_IndexFunc_int_int [.t 4]:=ef [] Tryz.func208 (by kernel_rfl) (by kernel_rfl) (by kernel_rfl)
def ic_service_runs : IC :=
 q 2 (.box (.t 0)) <|
 q 4 (.mv (cb false)) <|
 .keep [1, 2] <|
 q 5 (.fld 3 (.t 2)) <|
 q 6 (.load false 1 (.t 5)) <|
 q 7 (.mv (.t 1)) <|
 q 8 (.call F.slices_Contains_int_int [(.t 6), (.t 7)]) <|
 .keep [1, 2, 8] <|
 .ite (.t 8)
 (q 4 (.mv (cb true)) <|
 .keep [4] <|
 .ret)
 (.done) <|
 q 9 (.mv (.t 1)) <|
 q 10 (.fld 1 (.t 2)) <|
 q 11 (.load false 1 (.t 10)) <|
 q 12 (.bin .geq (.t 9) (.t 11)) <|
 q 13 (.mv (.t 12)) <|
 qg 14 13 true (.mv (.t 1)) <|
 qg 15 13 true (.fld 2 (.t 2)) <|
 qg 16 13 true (.load false 1 (.t 15)) <|
 qg 17 13 true (.bin .lss (.t 14) (.t 16)) <|
 q 18 (.pick (.t 13) (.t 17) (cb false)) <|
 q 19 (.mv (.t 18)) <|
 qg 20 19 true (.fld 0 (.t 2)) <|
 qg 21 19 true (.load false 1 (.t 20)) <|
 qg 22 19 true (.mv (.t 1)) <|
 qg 23 19 true (.bin .rem (.t 22) (ci 7)) <|
 qg 24 19 true (.bin .shr (.t 21) (.t 23)) <|
 qg 25 19 true (.bin .and (.t 24) (ci 1)) <|
 qg 26 19 true (.bin .eql (.t 25) (ci 1)) <|
 q 27 (.pick (.t 19) (.t 26) (cb false)) <|
 q 28 (.mv (.t 27)) <|
 qg 29 28 true (.fld 4 (.t 2)) <|
 qg 30 28 true (.load false 1 (.t 29)) <|
 qg 31 28 true (.mv (.t 1)) <|
 qg 32 28 true (.call F.slices_Contains_int_int [(.t 30), (.t 31)]) <|
 qg 33 28 true (.un .not (.t 32)) <|
 q 34 (.pick (.t 28) (.t 33) (cb false)) <|
 q 4 (.mv (.t 34)) <|
 .keep [4] <|
 .ret
theorem e_service_runs:EF false F.service_runs ic_service_runs [.t 4]:=ef [] Tryz.func209 (by kernel_rfl) (by kernel_rfl) (by kernel_rfl)
def ic_slices_IndexFunc_api_Revoked_api_Revoked : IC :=
 q 4 (.mv (ci 0)) <|
 .keep [0, 1] <|
 q 6 (.mv (.t 0)) <|
 q 7 (.len false (.t 6)) <|
 q 8 (.mv (ci 0)) <|
 .keep [0, 1, 7, 8] <|
 .block 0
 (.keep [0, 1, 7, 8] <|
 .loop
 (q 9 (.bin .lss (.t 8) (.t 7)) <|
 .keep [0, 1, 7, 8, 9] <|
 .ite (.t 9)
 (.done)
 (.exit 0) <|
 .block 1
 (q 10 (.mv (.t 8)) <|
 q 5 (.mv (.t 10)) <|
 .keep [0, 1, 5, 7, 8] <|
 q 11 (.mv (.t 1)) <|
 q 12 (.mv (.t 0)) <|
 q 13 (.mv (.t 5)) <|
 q 14 (.idxa 2 none (.t 12) (.t 13)) <|
 q 15 (.load true 2 (.t 14)) <|
 q 16 (.callv (.t 11) [(.t 15)]) <|
 .keep [0, 1, 5, 7, 8, 16] <|
 .ite (.t 16)
 (q 17 (.mv (.t 5)) <|
 q 4 (.mv (.t 17)) <|
 .keep [4] <|
 .ret)
 (.done) <|
 .done) <|
 q 18 (.bin .add (.t 8) (ci 1)) <|
 q 8 (.mv (.t 18)) <|
 .keep [0, 1, 7, 8] <|
 .keep [0, 1, 7, 8] <|
 .done)) <|
 q 4 (.mv (ci (-1))) <|
 .keep [4] <|
 .ret
theorem e_slices_IndexFunc_api_Revoked_api_Revoked:EF false F.slices_IndexFunc_api_Revoked_api_Revoked ic_slices_IndexFunc_api_Revoked_api_Revoked [.t 4]:=ef [] Tryz.func210 (by kernel_rfl) (by kernel_rfl) (by kernel_rfl)
end Go.Proofs.YtgfploghjpbcaaaGreat.Eng

