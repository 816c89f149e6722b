/- The code of some functions, as the abstract machine's. Printed by program. -/
import Derived.Test.YtgfploghjpbcaaaGreatMCa
namespace Go.Proofs.YtgfploghjpbcaaaGreat.Eng
open Go Go.Proofs
set_option maxRecDepth 20000
def ic_clapperlaw09_TicketOpens : IC :=
 q 3 (.box (.t 1)) <|
 q 4 (.mv (cb false)) <|
 .keep [0, 3] <|
 q 16 (.call F.clapperlaw09_up []) <|
 q 5 (.mv (.t 16)) <|
 .keep [0, 3, 5] <|
 q 17 (.mv (.t 0)) <|
 q 18 (.len false (.t 17)) <|
 q 19 (.bin .gtr (.t 18) (ci 5000)) <|
 .keep [0, 3, 5, 19] <|
 .ite (.t 19)
 (q 20 (.mv (.t 5)) <|
 q 4 (.mv (.t 20)) <|
 .keep [4] <|
 .ret)
 (.done) <|
 q 22 (.mv (.t 0)) <|
 q 23 (.call F.ticket_Open [(.t 22)]) <|
 q 21 (.mv (.t 23)) <|
 q 24 (.ext (.t 21) 0) <|
 q 25 (.ext (.t 21) 1) <|
 q 26 (.ext (.t 21) 2) <|
 q 6 (.alloc (List.replicate 5 (.int .i64 0))) <|
 q 7 (.alloc (List.replicate 8 (.int .u64 0))) <|
 qn (.store 5 (.t 6) (.t 24)) <|
 qn (.store 8 (.t 7) (.t 25)) <|
 q 8 (.mv (.t 26)) <|
 .keep [0, 3, 5, 6, 7, 8] <|
 q 28 (.mv (.t 0)) <|
 q 29 (.call F.clapperref09_Open [(.t 28)]) <|
 q 27 (.mv (.t 29)) <|
 q 30 (.ext (.t 27) 0) <|
 q 31 (.ext (.t 27) 1) <|
 q 32 (.ext (.t 27) 2) <|
 q 9 (.alloc (List.replicate 5 (.int .i64 0))) <|
 q 10 (.alloc (List.replicate 8 (.int .u64 0))) <|
 qn (.store 5 (.t 9) (.t 30)) <|
 qn (.store 8 (.t 10) (.t 31)) <|
 q 11 (.mv (.t 32)) <|
 .keep [0, 3, 5, 6, 7, 8, 9, 10, 11] <|
 q 33 (.mv (.t 11)) <|
 q 34 (.un .not (.t 33)) <|
 q 35 (.mv (.t 34)) <|
 qg 36 35 true (.mv (.t 8)) <|
 qg 37 35 true (.mkif T.api_Code (ci 2)) <|
 qg 38 35 true (.eq true .i (.t 36) (.t 37)) <|
 q 39 (.pick (.t 35) (.t 38) (cb false)) <|
 q 40 (.mv (.t 39)) <|
 qg 41 40 false (.mv (.t 11)) <|
 qg 42 40 false (.mv (.t 41)) <|
 qg 43 42 true (.mv (.t 8)) <|
 qg 44 42 true (.eq true .i (.t 43) (.c (.nilIface))) <|
 qg 45 40 false (.pick (.t 42) (.t 44) (cb false)) <|
 q 46 (.pick (.t 40) (cb true) (.t 45)) <|
 q 47 (.mv (.t 46)) <|
 qg 48 47 false (.load true 5 (.t 6)) <|
 qg 49 47 false (.load true 5 (.t 9)) <|
 qg 50 47 false (.eqagg (List.replicate 5 (some .i64)) true (.t 48) (.t 49)) <|
 q 51 (.pick (.t 47) (cb true) (.t 50)) <|
 q 52 (.mv (.t 51)) <|
 qg 53 52 false (.load true 8 (.t 7)) <|
 qg 54 52 false (.load true 8 (.t 10)) <|
 qg 55 52 false (.eqagg (List.replicate 8 (some .u64)) true (.t 53) (.t 54)) <|
 q 56 (.pick (.t 52) (cb true) (.t 55)) <|
 .keep [0, 3, 5, 56] <|
 .ite (.t 56)
 (q 4 (.mv (cb false)) <|
 .keep [4] <|
 .ret)
 (.done) <|
 q 58 (.mv (.t 0)) <|
 q 59 (.load true 9 (.t 3)) <|
 q 60 (.call F.ticket_Check [(.t 58), (.t 59)]) <|
 q 57 (.mv (.t 60)) <|
 q 61 (.ext (.t 57) 0) <|
 q 62 (.ext (.t 57) 1) <|
 q 12 (.alloc (List.replicate 5 (.int .i64 0))) <|
 qn (.store 5 (.t 12) (.t 61)) <|
 q 13 (.mv (.t 62)) <|
 .keep [0, 3, 5, 12, 13] <|
 q 64 (.mv (.t 0)) <|
 q 65 (.load true 9 (.t 3)) <|
 q 66 (.call F.clapperref09_Check [(.t 64), (.t 65)]) <|
 q 63 (.mv (.t 66)) <|
 q 67 (.ext (.t 63) 0) <|
 q 68 (.ext (.t 63) 1) <|
 q 14 (.alloc (List.replicate 5 (.int .i64 0))) <|
 qn (.store 5 (.t 14) (.t 67)) <|
 q 15 (.mv (.t 68)) <|
 .keep [5, 12, 13, 14, 15] <|
 q 69 (.mv (.t 5)) <|
 q 70 (.mv (.t 69)) <|
 qg 71 70 true (.mv (.t 13)) <|
 qg 72 70 true (.call F.clapperlaw00_Code [(.t 71)]) <|
 qg 73 70 true (.mv (.t 15)) <|
 qg 74 70 true (.bin .eql (.t 72) (.t 73)) <|
 q 75 (.pick (.t 70) (.t 74) (cb false)) <|
 q 76 (.mv (.t 75)) <|
 qg 77 76 true (.load true 5 (.t 12)) <|
 qg 78 76 true (.load true 5 (.t 14)) <|
 qg 79 76 true (.eqagg (List.replicate 5 (some .i64)) false (.t 77) (.t 78)) <|
 q 80 (.pick (.t 76) (.t 79) (cb false)) <|
 q 4 (.mv (.t 80)) <|
 .keep [4] <|
 .ret
theorem e_clapperlaw09_TicketOpens:EF false F.clapperlaw09_TicketOpens ic_clapperlaw09_TicketOpens [.t 4]:=ef [] Tryz.func5 (by kernel_rfl) (by kernel_rfl) (by kernel_rfl)
def ic_clapperlaw09_up : IC :=
 q 0 (.mv (cb false)) <|
 .keep [] <|
 q 7 (.call F.ticket_Open [(.c (.slice none 0 0))]) <|
 q 6 (.mv (.t 7)) <|
 q 8 (.ext (.t 6) 0) <|
 q 9 (.ext (.t 6) 1) <|
 q 10 (.ext (.t 6) 2) <|
 q 1 (.alloc (List.replicate 5 (.int .i64 0))) <|
 q 2 (.alloc (List.replicate 8 (.int .u64 0))) <|
 qn (.store 5 (.t 1) (.t 8)) <|
 qn (.store 8 (.t 2) (.t 9)) <|
 q 3 (.mv (.t 10)) <|
 .keep [3] <|
 q 12 (.build (List.replicate 5 (.int .i64 0)) [(0, 1, (ci 1)), (1, 1, (ci 1)), (2, 1, (ci 1)), (4, 1, (ci 1))]) <|
 q 13 (.call F.ticket_Body [(.t 12)]) <|
 q 11 (.mv (.t 13)) <|
 q 14 (.ext (.t 11) 0) <|
 q 15 (.ext (.t 11) 1) <|
 q 4 (.mv (.t 14)) <|
 q 5 (.mv (.t 15)) <|
 .keep [3, 4, 5] <|
 q 16 (.mv (.t 3)) <|
 q 17 (.mkif T.api_Code (ci 2)) <|
 q 18 (.eq false .i (.t 16) (.t 17)) <|
 q 19 (.mv (.t 18)) <|
 qg 20 19 true (.mv (.t 5)) <|
 qg 21 19 true (.eq false .i (.t 20) (.c (.nilIface))) <|
 q 22 (.pick (.t 19) (.t 21) (cb false)) <|
 q 23 (.mv (.t 22)) <|
 qg 24 23 true (.mv (.t 4)) <|
 qg 25 23 true (.len false (.t 24)) <|
 qg 26 23 true (.bin .eql (.t 25) (ci 55)) <|
 q 27 (.pick (.t 23) (.t 26) (cb false)) <|
 q 28 (.mv (.t 27)) <|
 qg 29 28 true (.mv (.t 4)) <|
 qg 30 28 true (.idxa 1 none (.t 29) (ci 0)) <|
 qg 31 28 true (.load false 1 (.t 30)) <|
 qg 32 28 true (.bin .eql (.t 31) (.c (.int .u8 1))) <|
 q 33 (.pick (.t 28) (.t 32) (cb false)) <|
 q 0 (.mv (.t 33)) <|
 .keep [0] <|
 .ret
theorem e_clapperlaw09_up:EF false F.clapperlaw09_up ic_clapperlaw09_up [.t 0]:=ef [] Tryz.func21 (by kernel_rfl) (by kernel_rfl) (by kernel_rfl)
def ic_ticket_Open : IC :=
 q 2 (.alloc (List.replicate 5 (.int .i64 0))) <|
 q 3 (.alloc (List.replicate 8 (.int .u64 0))) <|
 q 4 (.mv (.c (.nilIface))) <|
 .keep [0, 2, 3] <|
 q 12 (.mv (.t 0)) <|
 q 13 (.call F.ticket_parts [(.t 12)]) <|
 q 11 (.mv (.t 13)) <|
 q 14 (.ext (.t 11) 0) <|
 q 15 (.ext (.t 11) 1) <|
 q 16 (.ext (.t 11) 2) <|
 q 6 (.alloc (List.replicate 8 (.int .u64 0))) <|
 q 5 (.mv (.t 14)) <|
 qn (.store 8 (.t 6) (.t 15)) <|
 q 7 (.mv (.t 16)) <|
 .keep [2, 3, 5, 6, 7] <|
 q 18 (.mv (.t 5)) <|
 q 19 (.call F.ticket_numbers [(.t 18), (ci 5)]) <|
 q 17 (.mv (.t 19)) <|
 q 20 (.ext (.t 17) 0) <|
 q 21 (.ext (.t 17) 1) <|
 q 8 (.mv (.t 20)) <|
 q 9 (.mv (.t 21)) <|
 .keep [2, 3, 6, 7, 8, 9] <|
 q 22 (.mv (.t 7)) <|
 q 23 (.un .not (.t 22)) <|
 q 24 (.mv (.t 23)) <|
 qg 25 24 false (.mv (.t 9)) <|
 qg 26 24 false (.un .not (.t 25)) <|
 q 27 (.pick (.t 24) (cb true) (.t 26)) <|
 .keep [2, 3, 6, 8, 27] <|
 .ite (.t 27)
 (q 28 (.build (List.replicate 5 (.int .i64 0)) []) <|
 q 29 (.build (List.replicate 8 (.int .u64 0)) []) <|
 q 30 (.mkif T.api_Code (ci 2)) <|
 qn (.store 5 (.t 2) (.t 28)) <|
 qn (.store 8 (.t 3) (.t 29)) <|
 q 4 (.mv (.t 30)) <|
 .keep [2, 3, 4] <|
 .ret)
 (.done) <|
 .reg 1
 [xe 31 (.mv (.t 8)) [],
 xe 32 (.idxa 1 none (.t 31) (ci 0)) [],
 xe 33 (.load false 1 (.t 32)) [],
 xe 34 (.mv (.t 8)) [],
 xe 35 (.idxa 1 none (.t 34) (ci 1)) [],
 xe 36 (.load false 1 (.t 35)) [],
 xe 37 (.mv (.t 8)) [],
 xe 38 (.idxa 1 none (.t 37) (ci 2)) [],
 xe 39 (.load false 1 (.t 38)) [],
 xe 40 (.mv (.t 8)) [],
 xe 41 (.idxa 1 none (.t 40) (ci 3)) [],
 xe 42 (.load false 1 (.t 41)) [],
 xe 43 (.mv (.t 8)) [],
 xe 44 (.idxa 1 none (.t 43) (ci 4)) [],
 xe 45 (.load false 1 (.t 44)) [],
 xe 46 (.build (List.replicate 5 (.int .i64 0)) [(0, 1, (.t 33)), (1, 1, (.t 36)), (2, 1, (.t 39)), (3, 1, (.t 42)), (4, 1, (.t 45))]) [],
 xa 0 10 (.alloc (List.replicate 5 (.int .i64 0))),
 xln (.store 5 (.t 10) (.t 46)) []] <|
 .keep [2, 3, 6, 10] <|
 q 47 (.load true 5 (.t 10)) <|
 q 48 (.call F.ticket_May [(.t 47)]) <|
 q 49 (.un .not (.t 48)) <|
 .keep [2, 3, 6, 10, 49] <|
 .ite (.t 49)
 (q 50 (.build (List.replicate 5 (.int .i64 0)) []) <|
 q 51 (.build (List.replicate 8 (.int .u64 0)) []) <|
 q 52 (.mkif T.api_Code (ci 2)) <|
 qn (.store 5 (.t 2) (.t 50)) <|
 qn (.store 8 (.t 3) (.t 51)) <|
 q 4 (.mv (.t 52)) <|
 .keep [2, 3, 4] <|
 .ret)
 (.done) <|
 .reg 0
 [xe 53 (.load true 5 (.t 10)) [],
 xe 54 (.load true 8 (.t 6)) [],
 xln (.store 5 (.t 2) (.t 53)) [(.t 6)],
 xln (.store 8 (.t 3) (.t 54)) [],
 xl 4 (.mv (.c (.nilIface))) []] <|
 .keep [2, 3, 4] <|
 .ret
theorem e_ticket_Open:EF false F.ticket_Open ic_ticket_Open [.c 2 true 5,.c 3 true 8,.t 4]:=ef [] Tryz.func22 (by kernel_rfl) (by kernel_rfl) (by kernel_rfl)
def ic_clapperref09_Open : IC :=
 q 2 (.alloc (List.replicate 5 (.int .i64 0))) <|
 q 3 (.alloc (List.replicate 8 (.int .u64 0))) <|
 q 4 (.mv (cb false)) <|
 .keep [0, 2, 3] <|
 q 13 (.mv (.t 0)) <|
 q 14 (.call F.clapperref09_Parts [(.t 13)]) <|
 q 12 (.mv (.t 14)) <|
 q 15 (.ext (.t 12) 0) <|
 q 16 (.ext (.t 12) 1) <|
 q 17 (.ext (.t 12) 2) <|
 q 6 (.alloc (List.replicate 8 (.int .u64 0))) <|
 q 5 (.mv (.t 15)) <|
 qn (.store 8 (.t 6) (.t 16)) <|
 q 7 (.mv (.t 17)) <|
 .keep [2, 3, 5, 6, 7] <|
 q 19 (.mv (.t 5)) <|
 q 20 (.call F.clapperref08_Numbers [(.t 19), (ci 5)]) <|
 q 18 (.mv (.t 20)) <|
 q 21 (.ext (.t 18) 0) <|
 q 22 (.ext (.t 18) 1) <|
 q 8 (.mv (.t 21)) <|
 q 9 (.mv (.t 22)) <|
 .keep [2, 3, 6, 7, 8, 9] <|
 q 23 (.mv (.t 7)) <|
 q 24 (.un .not (.t 23)) <|
 q 25 (.mv (.t 24)) <|
 qg 26 25 false (.mv (.t 9)) <|
 qg 27 25 false (.un .not (.t 26)) <|
 q 28 (.pick (.t 25) (cb true) (.t 27)) <|
 .keep [2, 3, 6, 8, 28] <|
 .ite (.t 28)
 (q 29 (.build (List.replicate 5 (.int .i64 0)) []) <|
 q 30 (.build (List.replicate 8 (.int .u64 0)) []) <|
 qn (.store 5 (.t 2) (.t 29)) <|
 qn (.store 8 (.t 3) (.t 30)) <|
 q 4 (.mv (cb false)) <|
 .keep [2, 3, 4] <|
 .ret)
 (.done) <|
 .reg 1
 [xe 31 (.mv (.t 8)) [],
 xe 32 (.idxa 1 none (.t 31) (ci 0)) [],
 xe 33 (.load false 1 (.t 32)) [],
 xe 34 (.mv (.t 8)) [],
 xe 35 (.idxa 1 none (.t 34) (ci 1)) [],
 xe 36 (.load false 1 (.t 35)) [],
 xe 37 (.mv (.t 8)) [],
 xe 38 (.idxa 1 none (.t 37) (ci 2)) [],
 xe 39 (.load false 1 (.t 38)) [],
 xe 40 (.mv (.t 8)) [],
 xe 41 (.idxa 1 none (.t 40) (ci 3)) [],
 xe 42 (.load false 1 (.t 41)) [],
 xe 43 (.mv (.t 8)) [],
 xe 44 (.idxa 1 none (.t 43) (ci 4)) [],
 xe 45 (.load false 1 (.t 44)) [],
 xe 46 (.build (List.replicate 5 (.int .i64 0)) [(0, 1, (.t 33)), (1, 1, (.t 36)), (2, 1, (.t 39)), (3, 1, (.t 42)), (4, 1, (.t 45))]) [],
 xa 0 10 (.alloc (List.replicate 5 (.int .i64 0))),
 xln (.store 5 (.t 10) (.t 46)) []] <|
 .keep [2, 3, 6, 10] <|
 q 47 (.load true 5 (.t 10)) <|
 q 48 (.call F.clapperref09_May [(.t 47)]) <|
 q 11 (.mv (.t 48)) <|
 .keep [2, 3, 6, 10, 11] <|
 q 49 (.mv (.t 11)) <|
 q 50 (.un .not (.t 49)) <|
 .keep [2, 3, 6, 10, 50] <|
 .ite (.t 50)
 (q 51 (.build (List.replicate 5 (.int .i64 0)) []) <|
 q 52 (.build (List.replicate 8 (.int .u64 0)) []) <|
 qn (.store 5 (.t 2) (.t 51)) <|
 qn (.store 8 (.t 3) (.t 52)) <|
 q 4 (.mv (cb false)) <|
 .keep [2, 3, 4] <|
 .ret)
 (.done) <|
 .reg 0
 [xe 53 (.load true 5 (.t 10)) [],
 xe 54 (.load true 8 (.t 6)) [],
 xln (.store 5 (.t 2) (.t 53)) [(.t 6)],
 xln (.store 8 (.t 3) (.t 54)) [],
 xl 4 (.mv (cb true)) []] <|
 .keep [2, 3, 4] <|
 .ret
theorem e_clapperref09_Open:EF false F.clapperref09_Open ic_clapperref09_Open [.c 2 true 5,.c 3 true 8,.t 4]:=ef [] Tryz.func23 (by kernel_rfl) (by kernel_rfl) (by kernel_rfl)
def ic_ticket_Check : IC :=
 q 3 (.box (.t 1)) <|
 q 4 (.alloc (List.replicate 5 (.int .i64 0))) <|
 q 5 (.mv (.c (.nilIface))) <|
 .keep [0, 3, 4] <|
 q 13 (.mv (.t 0)) <|
 q 14 (.call F.ticket_Open [(.t 13)]) <|
 q 12 (.mv (.t 14)) <|
 q 15 (.ext (.t 12) 0) <|
 q 16 (.ext (.t 12) 1) <|
 q 17 (.ext (.t 12) 2) <|
 q 6 (.alloc (List.replicate 5 (.int .i64 0))) <|
 q 7 (.alloc (List.replicate 8 (.int .u64 0))) <|
 qn (.store 5 (.t 6) (.t 15)) <|
 qn (.store 8 (.t 7) (.t 16)) <|
 q 8 (.mv (.t 17)) <|
 .keep [0, 3, 4, 6, 7, 8] <|
 q 18 (.mv (.t 8)) <|
 q 19 (.eq true .i (.t 18) (.c (.nilIface))) <|
 .keep [0, 3, 4, 6, 7, 8, 19] <|
 .ite (.t 19)
 (q 20 (.build (List.replicate 5 (.int .i64 0)) []) <|
 q 21 (.mv (.t 8)) <|
 qn (.store 5 (.t 4) (.t 20)) <|
 q 5 (.mv (.t 21)) <|
 .keep [4, 5] <|
 .ret)
 (.done) <|
 q 23 (.mv (.t 0)) <|
 q 24 (.call F.ticket_parts [(.t 23)]) <|
 q 22 (.mv (.t 24)) <|
 q 25 (.ext (.t 22) 0) <|
 q 26 (.ext (.t 22) 1) <|
 q 27 (.ext (.t 22) 2) <|
 q 10 (.alloc (List.replicate 8 (.int .u64 0))) <|
 q 9 (.mv (.t 25)) <|
 qn (.store 8 (.t 10) (.t 26)) <|
 q 11 (.mv (.t 27)) <|
 .keep [3, 4, 6, 7, 9] <|
 q 28 (.load true 9 (.t 3)) <|
 q 29 (.mv (.t 9)) <|
 q 30 (.call F.sha_Sum [(.t 29)]) <|
 q 31 (.load true 8 (.t 7)) <|
 q 32 (.call F.sign_Verify [(.t 28), (.t 30), (.t 31)]) <|
 q 33 (.un .not (.t 32)) <|
 .keep [4, 6, 33] <|
 .ite (.t 33)
 (q 34 (.build (List.replicate 5 (.int .i64 0)) []) <|
 q 35 (.mkif T.api_Code (ci 8)) <|
 qn (.store 5 (.t 4) (.t 34)) <|
 q 5 (.mv (.t 35)) <|
 .keep [4, 5] <|
 .ret)
 (.done) <|
 q 36 (.load true 5 (.t 6)) <|
 qn (.store 5 (.t 4) (.t 36)) <|
 q 5 (.mv (.c (.nilIface))) <|
 .keep [4, 5] <|
 .ret
theorem e_ticket_Check:EF false F.ticket_Check ic_ticket_Check [.c 4 true 5,.t 5]:=ef [] Tryz.func24 (by kernel_rfl) (by kernel_rfl) (by kernel_rfl)
def ic_clapperref09_Check : IC :=
 q 3 (.box (.t 1)) <|
 q 4 (.alloc (List.replicate 5 (.int .i64 0))) <|
 q 5 (.mv (ci 0)) <|
 .keep [0, 3, 4] <|
 q 14 (.mv (.t 0)) <|
 q 15 (.call F.clapperref09_Open [(.t 14)]) <|
 q 13 (.mv (.t 15)) <|
 q 16 (.ext (.t 13) 0) <|
 q 17 (.ext (.t 13) 1) <|
 q 18 (.ext (.t 13) 2) <|
 q 6 (.alloc (List.replicate 5 (.int .i64 0))) <|
 q 7 (.alloc (List.replicate 8 (.int .u64 0))) <|
 qn (.store 5 (.t 6) (.t 16)) <|
 qn (.store 8 (.t 7) (.t 17)) <|
 q 8 (.mv (.t 18)) <|
 .keep [0, 3, 4, 6, 7, 8] <|
 q 19 (.mv (.t 8)) <|
 q 20 (.un .not (.t 19)) <|
 .keep [0, 3, 4, 6, 7, 20] <|
 .ite (.t 20)
 (q 21 (.build (List.replicate 5 (.int .i64 0)) []) <|
 qn (.store 5 (.t 4) (.t 21)) <|
 q 5 (.mv (ci 2)) <|
 .keep [4, 5] <|
 .ret)
 (.done) <|
 q 23 (.mv (.t 0)) <|
 q 24 (.call F.clapperref09_Parts [(.t 23)]) <|
 q 22 (.mv (.t 24)) <|
 q 25 (.ext (.t 22) 0) <|
 q 26 (.ext (.t 22) 1) <|
 q 27 (.ext (.t 22) 2) <|
 q 10 (.alloc (List.replicate 8 (.int .u64 0))) <|
 q 9 (.mv (.t 25)) <|
 qn (.store 8 (.t 10) (.t 26)) <|
 q 11 (.mv (.t 27)) <|
 .keep [3, 4, 6, 7, 9] <|
 q 28 (.load true 9 (.t 3)) <|
 q 29 (.mv (.t 9)) <|
 q 30 (.call F.clapperref03_Sum [(.t 29)]) <|
 q 31 (.load true 8 (.t 7)) <|
 q 32 (.call F.clapperref07_Verify [(.t 28), (.t 30), (.t 31)]) <|
 q 12 (.mv (.t 32)) <|
 .keep [4, 6, 12] <|
 q 33 (.mv (.t 12)) <|
 q 34 (.un .not (.t 33)) <|
 .keep [4, 6, 34] <|
 .ite (.t 34)
 (q 35 (.build (List.replicate 5 (.int .i64 0)) []) <|
 qn (.store 5 (.t 4) (.t 35)) <|
 q 5 (.mv (ci 8)) <|
 .keep [4, 5] <|
 .ret)
 (.done) <|
 q 36 (.load true 5 (.t 6)) <|
 qn (.store 5 (.t 4) (.t 36)) <|
 q 5 (.mv (ci 0)) <|
 .keep [4, 5] <|
 .ret
theorem e_clapperref09_Check:EF false F.clapperref09_Check ic_clapperref09_Check [.c 4 true 5,.t 5]:=ef [] Tryz.func25 (by kernel_rfl) (by kernel_rfl) (by kernel_rfl)
def ic_clapperlaw00_Code : IC :=
 q 2 (.mv (ci 0)) <|
 .keep [0] <|
 q 4 (.mv (.t 0)) <|
 q 5 (.eq false .i (.t 4) (.c (.nilIface))) <|
 .keep [0, 5] <|
 .ite (.t 5)
 (q 2 (.mv (ci 0)) <|
 .keep [2] <|
 .ret)
 (.done) <|
 q 3 (.mv (ci 1)) <|
 .keep [0, 3] <|
 .block 0
 (.keep [0, 3] <|
 .loop
 (q 6 (.mv (.t 3)) <|
 q 7 (.bin .leq (.t 6) (ci 9)) <|
 .keep [0, 3, 7] <|
 .ite (.t 7)
 (.done)
 (.exit 0) <|
 .block 1
 (q 10 (.mv (.t 0)) <|
 q 11 (.mv (.t 3)) <|
 q 12 (.mkif T.api_Code (.t 11)) <|
 q 13 (.eq false .i (.t 10) (.t 12)) <|
 .keep [0, 3, 13] <|
 .ite (.t 13)
 (q 14 (.mv (.t 3)) <|
 q 2 (.mv (.t 14)) <|
 .keep [2] <|
 .ret)
 (.done) <|
 .done) <|
 q 8 (.mv (.t 3)) <|
 q 9 (.bin .add (.t 8) (ci 1)) <|
 q 3 (.mv (.t 9)) <|
 .keep [0, 3] <|
 .keep [0, 3] <|
 .done)) <|
 q 2 (.mv (ci (-1))) <|
 .keep [2] <|
 .ret
theorem e_clapperlaw00_Code:EF false F.clapperlaw00_Code ic_clapperlaw00_Code [.t 2]:=ef [] Tryz.func26 (by kernel_rfl) (by kernel_rfl) (by kernel_rfl)
def ic_clapperref09_May : IC :=
 q 1 (.box (.t 0)) <|
 q 2 (.mv (cb false)) <|
 .keep [1] <|
 q 3 (.fld 0 (.t 1)) <|
 q 4 (.load false 1 (.t 3)) <|
 q 5 (.bin .geq (.t 4) (ci 1)) <|
 q 6 (.mv (.t 5)) <|
 qg 7 6 true (.fld 0 (.t 1)) <|
 qg 8 6 true (.load false 1 (.t 7)) <|
 qg 9 6 true (.bin .leq (.t 8) (ci 2147483647)) <|
 q 10 (.pick (.t 6) (.t 9) (cb false)) <|
 q 11 (.mv (.t 10)) <|
 qg 12 11 true (.fld 1 (.t 1)) <|
 qg 13 11 true (.load false 1 (.t 12)) <|
 qg 14 11 true (.bin .geq (.t 13) (ci 1)) <|
 q 15 (.pick (.t 11) (.t 14) (cb false)) <|
 q 16 (.mv (.t 15)) <|
 qg 17 16 true (.fld 1 (.t 1)) <|
 qg 18 16 true (.load false 1 (.t 17)) <|
 qg 19 16 true (.bin .leq (.t 18) (ci 16)) <|
 q 20 (.pick (.t 16) (.t 19) (cb false)) <|
 q 21 (.mv (.t 20)) <|
 qg 22 21 true (.fld 2 (.t 1)) <|
 qg 23 21 true (.load false 1 (.t 22)) <|
 qg 24 21 true (.bin .geq (.t 23) (ci 1)) <|
 q 25 (.pick (.t 21) (.t 24) (cb false)) <|
 q 26 (.mv (.t 25)) <|
 qg 27 26 true (.fld 2 (.t 1)) <|
 qg 28 26 true (.load false 1 (.t 27)) <|
 qg 29 26 true (.bin .leq (.t 28) (ci 255)) <|
 q 30 (.pick (.t 26) (.t 29) (cb false)) <|
 q 31 (.mv (.t 30)) <|
 qg 32 31 true (.fld 3 (.t 1)) <|
 qg 33 31 true (.load false 1 (.t 32)) <|
 qg 34 31 true (.bin .geq (.t 33) (ci 0)) <|
 q 35 (.pick (.t 31) (.t 34) (cb false)) <|
 q 36 (.mv (.t 35)) <|
 qg 37 36 true (.fld 3 (.t 1)) <|
 qg 38 36 true (.load false 1 (.t 37)) <|
 qg 39 36 true (.bin .leq (.t 38) (ci 1073741824)) <|
 q 40 (.pick (.t 36) (.t 39) (cb false)) <|
 q 41 (.mv (.t 40)) <|
 qg 42 41 true (.fld 4 (.t 1)) <|
 qg 43 41 true (.load false 1 (.t 42)) <|
 qg 44 41 true (.bin .geq (.t 43) (ci 1)) <|
 q 45 (.pick (.t 41) (.t 44) (cb false)) <|
 q 46 (.mv (.t 45)) <|
 qg 47 46 true (.fld 4 (.t 1)) <|
 qg 48 46 true (.load false 1 (.t 47)) <|
 qg 49 46 true (.bin .leq (.t 48) (ci 2147483647)) <|
 q 50 (.pick (.t 46) (.t 49) (cb false)) <|
 q 2 (.mv (.t 50)) <|
 .keep [2] <|
 .ret
theorem e_clapperref09_May:EF false F.clapperref09_May ic_clapperref09_May [.t 2]:=ef [] Tryz.func38 (by kernel_rfl) (by kernel_rfl) (by kernel_rfl)
def ic_ticket_Body : IC :=
 q 1 (.box (.t 0)) <|
 q 2 (.mv (.c (.slice none 0 0))) <|
 q 3 (.mv (.c (.nilIface))) <|
 .keep [1] <|
 q 7 (.load true 5 (.t 1)) <|
 q 8 (.call F.ticket_May [(.t 7)]) <|
 q 9 (.un .not (.t 8)) <|
 .keep [1, 9] <|
 .ite (.t 9)
 (q 10 (.mkif T.api_Code (ci 1)) <|
 q 2 (.mv (.c (.slice none 0 0))) <|
 q 3 (.mv (.t 10)) <|
 .keep [2, 3] <|
 .ret)
 (.done) <|
 q 4 (.mv (.c (.slice none 0 0))) <|
 .keep [1, 4] <|
 q 11 (.fld 0 (.t 1)) <|
 q 12 (.load false 1 (.t 11)) <|
 q 13 (.fld 1 (.t 1)) <|
 q 14 (.load false 1 (.t 13)) <|
 q 15 (.fld 2 (.t 1)) <|
 q 16 (.load false 1 (.t 15)) <|
 q 17 (.fld 3 (.t 1)) <|
 q 18 (.load false 1 (.t 17)) <|
 q 19 (.fld 4 (.t 1)) <|
 q 20 (.load false 1 (.t 19)) <|
 q 21 (.bslice false 1 5 [.int .i64 0] [(0, 1, (.t 12)), (1, 1, (.t 14)), (2, 1, (.t 16)), (3, 1, (.t 18)), (4, 1, (.t 20))]) <|
 q 22 (.len false (.t 21)) <|
 q 23 (.mv (ci 0)) <|
 .keep [4, 21, 22, 23] <|
 .block 0
 (.keep [4, 21, 22, 23] <|
 .loop
 (q 24 (.bin .lss (.t 23) (.t 22)) <|
 .keep [4, 21, 22, 23, 24] <|
 .ite (.t 24)
 (.done)
 (.exit 0) <|
 .block 1
 (q 25 (.mv (.t 23)) <|
 q 26 (.idxa 1 none (.t 21) (.t 23)) <|
 q 27 (.load false 1 (.t 26)) <|
 q 5 (.mv (.t 25)) <|
 q 6 (.mv (.t 27)) <|
 .keep [4, 5, 6, 21, 22, 23] <|
 q 28 (.mv (.t 4)) <|
 q 29 (.mv (.t 5)) <|
 q 30 (.bin .add (.t 29) (ci 1)) <|
 q 31 (.mv (.t 6)) <|
 q 32 (.call F.tlv_Number [(.t 31)]) <|
 q 33 (.build [.int .i64 0, .slice none 0 0] [(0, 1, (.t 30)), (1, 1, (.t 32))]) <|
 q 34 (.bslice false 2 1 [.int .i64 0, .slice none 0 0] [(0, 2, (.t 33))]) <|
 q 35 (.append 2 32 (.t 28) (.t 34)) <|
 q 4 (.mv (.t 35)) <|
 .keep [4, 21, 22, 23] <|
 .done) <|
 q 36 (.bin .add (.t 23) (ci 1)) <|
 q 23 (.mv (.t 36)) <|
 .keep [4, 21, 22, 23] <|
 .keep [4, 21, 22, 23] <|
 .done)) <|
 q 37 (.mv (.t 4)) <|
 q 38 (.call F.tlv_Put [(.t 37)]) <|
 q 39 (.ext (.t 38) 0) <|
 q 40 (.ext (.t 38) 1) <|
 q 2 (.mv (.t 39)) <|
 q 3 (.mv (.t 40)) <|
 .keep [2, 3] <|
 .ret
theorem e_ticket_Body:EF false F.ticket_Body ic_ticket_Body [.t 2,.t 3]:=ef [] Tryz.func39 (by kernel_rfl) (by kernel_rfl) (by kernel_rfl)
def ic_ticket_May : IC :=
 q 1 (.box (.t 0)) <|
 q 2 (.mv (cb false)) <|
 .keep [1] <|
 q 3 (.fld 0 (.t 1)) <|
 q 4 (.load false 1 (.t 3)) <|
 q 5 (.call F.ticket_within [(.t 4), (ci 1), (ci 2147483647)]) <|
 q 6 (.mv (.t 5)) <|
 qg 7 6 true (.fld 1 (.t 1)) <|
 qg 8 6 true (.load false 1 (.t 7)) <|
 qg 9 6 true (.call F.ticket_within [(.t 8), (ci 1), (ci 16)]) <|
 q 10 (.pick (.t 6) (.t 9) (cb false)) <|
 q 11 (.mv (.t 10)) <|
 qg 12 11 true (.fld 2 (.t 1)) <|
 qg 13 11 true (.load false 1 (.t 12)) <|
 qg 14 11 true (.call F.ticket_within [(.t 13), (ci 1), (ci 255)]) <|
 q 15 (.pick (.t 11) (.t 14) (cb false)) <|
 q 16 (.mv (.t 15)) <|
 qg 17 16 true (.fld 3 (.t 1)) <|
 qg 18 16 true (.load false 1 (.t 17)) <|
 qg 19 16 true (.call F.ticket_within [(.t 18), (ci 0), (ci 1073741824)]) <|
 q 20 (.pick (.t 16) (.t 19) (cb false)) <|
 q 21 (.mv (.t 20)) <|
 qg 22 21 true (.fld 4 (.t 1)) <|
 qg 23 21 true (.load false 1 (.t 22)) <|
 qg 24 21 true (.call F.ticket_within [(.t 23), (ci 1), (ci 2147483647)]) <|
 q 25 (.pick (.t 21) (.t 24) (cb false)) <|
 q 2 (.mv (.t 25)) <|
 .keep [2] <|
 .ret
theorem e_ticket_May:EF false F.ticket_May ic_ticket_May [.t 2]:=ef [] Tryz.func41 (by kernel_rfl) (by kernel_rfl) (by kernel_rfl)
def ic_ticket_parts : IC :=
 q 2 (.mv (.c (.slice none 0 0))) <|
 q 3 (.alloc (List.replicate 8 (.int .u64 0))) <|
 q 4 (.mv (cb false)) <|
 .keep [0, 3] <|
 q 9 (.mv (.t 0)) <|
 q 10 (.call F.tlv_Get [(.t 9)]) <|
 q 8 (.mv (.t 10)) <|
 q 11 (.ext (.t 8) 0) <|
 q 12 (.ext (.t 8) 1) <|
 q 5 (.mv (.t 11)) <|
 q 6 (.mv (.t 12)) <|
 .keep [3, 5, 6] <|
 q 13 (.mv (.t 6)) <|
 q 14 (.eq true .i (.t 13) (.c (.nilIface))) <|
 q 15 (.mv (.t 14)) <|
 qg 16 15 false (.mv (.t 5)) <|
 qg 17 15 false (.len false (.t 16)) <|
 qg 18 15 false (.bin .neq (.t 17) (ci 2)) <|
 q 19 (.pick (.t 15) (cb true) (.t 18)) <|
 q 20 (.mv (.t 19)) <|
 qg 21 20 false (.mv (.t 5)) <|
 qg 22 20 false (.idxa 2 none (.t 21) (ci 0)) <|
 qg 23 20 false (.fld 0 (.t 22)) <|
 qg 24 20 false (.load false 1 (.t 23)) <|
 qg 25 20 false (.bin .neq (.t 24) (ci 1)) <|
 q 26 (.pick (.t 20) (cb true) (.t 25)) <|
 q 27 (.mv (.t 26)) <|
 qg 28 27 false (.mv (.t 5)) <|
 qg 29 27 false (.idxa 2 none (.t 28) (ci 1)) <|
 qg 30 27 false (.fld 0 (.t 29)) <|
 qg 31 27 false (.load false 1 (.t 30)) <|
 qg 32 27 false (.bin .neq (.t 31) (ci 2)) <|
 q 33 (.pick (.t 27) (cb true) (.t 32)) <|
 .keep [3, 5, 33] <|
 .ite (.t 33)
 (q 34 (.build (List.replicate 8 (.int .u64 0)) []) <|
 q 2 (.mv (.c (.slice none 0 0))) <|
 qn (.store 8 (.t 3) (.t 34)) <|
 q 4 (.mv (cb false)) <|
 .keep [2, 3, 4] <|
 .ret)
 (.done) <|
 q 36 (.mv (.t 5)) <|
 q 37 (.idxa 2 none (.t 36) (ci 1)) <|
 q 38 (.fld 1 (.t 37)) <|
 q 39 (.load false 1 (.t 38)) <|
 q 40 (.call F.sign_Parse [(.t 39)]) <|
 q 35 (.mv (.t 40)) <|
 q 41 (.ext (.t 35) 0) <|
 q 42 (.ext (.t 35) 1) <|
 q 7 (.alloc (List.replicate 8 (.int .u64 0))) <|
 qn (.store 8 (.t 7) (.t 41)) <|
 q 6 (.mv (.t 42)) <|
 .keep [3, 5, 6, 7] <|
 q 43 (.mv (.t 5)) <|
 q 44 (.idxa 2 none (.t 43) (ci 0)) <|
 q 45 (.fld 1 (.t 44)) <|
 q 46 (.load false 1 (.t 45)) <|
 q 47 (.load true 8 (.t 7)) <|
 q 48 (.mv (.t 6)) <|
 q 49 (.eq false .i (.t 48) (.c (.nilIface))) <|
 q 2 (.mv (.t 46)) <|
 qn (.store 8 (.t 3) (.t 47)) <|
 q 4 (.mv (.t 49)) <|
 .keep [2, 3, 4] <|
 .ret
theorem e_ticket_parts:EF false F.ticket_parts ic_ticket_parts [.t 2,.c 3 true 8,.t 4]:=ef [] Tryz.func88 (by kernel_rfl) (by kernel_rfl) (by kernel_rfl)
def ic_ticket_numbers : IC :=
 q 4 (.mv (.c (.slice none 0 0))) <|
 q 5 (.mv (cb false)) <|
 .keep [0, 1] <|
 q 14 (.mv (.t 0)) <|
 q 15 (.call F.tlv_Get [(.t 14)]) <|
 q 13 (.mv (.t 15)) <|
 q 16 (.ext (.t 13) 0) <|
 q 17 (.ext (.t 13) 1) <|
 q 6 (.mv (.t 16)) <|
 q 7 (.mv (.t 17)) <|
 .keep [1, 6, 7] <|
 q 18 (.mv (.t 7)) <|
 q 19 (.eq true .i (.t 18) (.c (.nilIface))) <|
 q 20 (.mv (.t 19)) <|
 qg 21 20 false (.mv (.t 6)) <|
 qg 22 20 false (.len false (.t 21)) <|
 qg 23 20 false (.mv (.t 1)) <|
 qg 24 20 false (.bin .neq (.t 22) (.t 23)) <|
 q 25 (.pick (.t 20) (cb true) (.t 24)) <|
 .keep [6, 25] <|
 .ite (.t 25)
 (q 4 (.mv (.c (.slice none 0 0))) <|
 q 5 (.mv (cb false)) <|
 .keep [4, 5] <|
 .ret)
 (.done) <|
 q 8 (.mv (.c (.slice none 0 0))) <|
 .keep [6, 8] <|
 q 26 (.mv (.t 6)) <|
 q 27 (.len false (.t 26)) <|
 q 28 (.mv (ci 0)) <|
 .keep [8, 26, 27, 28] <|
 .block 0
 (.keep [8, 26, 27, 28] <|
 .loop
 (q 29 (.bin .lss (.t 28) (.t 27)) <|
 .keep [8, 26, 27, 28, 29] <|
 .ite (.t 29)
 (.done)
 (.exit 0) <|
 .block 1
 (q 30 (.mv (.t 28)) <|
 q 31 (.idxa 2 none (.t 26) (.t 28)) <|
 q 32 (.load true 2 (.t 31)) <|
 q 10 (.alloc [.int .i64 0, .slice none 0 0]) <|
 q 9 (.mv (.t 30)) <|
 qn (.store 2 (.t 10) (.t 32)) <|
 .keep [8, 9, 10, 26, 27, 28] <|
 q 34 (.fld 1 (.t 10)) <|
 q 35 (.load false 1 (.t 34)) <|
 q 36 (.call F.tlv_Of [(.t 35)]) <|
 q 33 (.mv (.t 36)) <|
 q 37 (.ext (.t 33) 0) <|
 q 38 (.ext (.t 33) 1) <|
 q 11 (.mv (.t 37)) <|
 q 12 (.mv (.t 38)) <|
 .keep [8, 9, 10, 11, 12, 26, 27, 28] <|
 q 39 (.mv (.t 12)) <|
 q 40 (.eq true .i (.t 39) (.c (.nilIface))) <|
 q 41 (.mv (.t 40)) <|
 qg 42 41 false (.fld 0 (.t 10)) <|
 qg 43 41 false (.load false 1 (.t 42)) <|
 qg 44 41 false (.mv (.t 9)) <|
 qg 45 41 false (.bin .add (.t 44) (ci 1)) <|
 qg 46 41 false (.bin .neq (.t 43) (.t 45)) <|
 q 47 (.pick (.t 41) (cb true) (.t 46)) <|
 .keep [8, 11, 26, 27, 28, 47] <|
 .ite (.t 47)
 (q 4 (.mv (.c (.slice none 0 0))) <|
 q 5 (.mv (cb false)) <|
 .keep [4, 5] <|
 .ret)
 (.done) <|
 q 48 (.mv (.t 8)) <|
 q 49 (.mv (.t 11)) <|
 q 50 (.bslice false 1 1 [.int .i64 0] [(0, 1, (.t 49))]) <|
 q 51 (.append 1 8 (.t 48) (.t 50)) <|
 q 8 (.mv (.t 51)) <|
 .keep [8, 26, 27, 28] <|
 .done) <|
 q 52 (.bin .add (.t 28) (ci 1)) <|
 q 28 (.mv (.t 52)) <|
 .keep [8, 26, 27, 28] <|
 .keep [8, 26, 27, 28] <|
 .done)) <|
 q 53 (.mv (.t 8)) <|
 q 4 (.mv (.t 53)) <|
 q 5 (.mv (cb true)) <|
 .keep [4, 5] <|
 .ret
theorem e_ticket_numbers:EF false F.ticket_numbers ic_ticket_numbers [.t 4,.t 5]:=ef [] Tryz.func89 (by kernel_rfl) (by kernel_rfl) (by kernel_rfl)
def ic_clapperref09_Parts : IC :=
 q 2 (.mv (.c (.slice none 0 0))) <|
 q 3 (.alloc (List.replicate 8 (.int .u64 0))) <|
 q 4 (.mv (cb false)) <|
 .keep [0, 3] <|
 q 10 (.mv (.t 0)) <|
 q 11 (.call F.clapperref08_Get [(.t 10)]) <|
 q 9 (.mv (.t 11)) <|
 q 12 (.ext (.t 9) 0) <|
 q 13 (.ext (.t 9) 1) <|
 q 5 (.mv (.t 12)) <|
 q 6 (.mv (.t 13)) <|
 .keep [3, 5, 6] <|
 q 14 (.mv (.t 6)) <|
 q 15 (.un .not (.t 14)) <|
 q 16 (.mv (.t 15)) <|
 qg 17 16 false (.mv (.t 5)) <|
 qg 18 16 false (.len false (.t 17)) <|
 qg 19 16 false (.bin .neq (.t 18) (ci 2)) <|
 q 20 (.pick (.t 16) (cb true) (.t 19)) <|
 q 21 (.mv (.t 20)) <|
 qg 22 21 false (.mv (.t 5)) <|
 qg 23 21 false (.idxa 2 none (.t 22) (ci 0)) <|
 qg 24 21 false (.fld 0 (.t 23)) <|
 qg 25 21 false (.load false 1 (.t 24)) <|
 qg 26 21 false (.bin .neq (.t 25) (ci 1)) <|
 q 27 (.pick (.t 21) (cb true) (.t 26)) <|
 q 28 (.mv (.t 27)) <|
 qg 29 28 false (.mv (.t 5)) <|
 qg 30 28 false (.idxa 2 none (.t 29) (ci 1)) <|
 qg 31 28 false (.fld 0 (.t 30)) <|
 qg 32 28 false (.load false 1 (.t 31)) <|
 qg 33 28 false (.bin .neq (.t 32) (ci 2)) <|
 q 34 (.pick (.t 28) (cb true) (.t 33)) <|
 q 35 (.mv (.t 34)) <|
 qg 36 35 false (.mv (.t 5)) <|
 qg 37 35 false (.idxa 2 none (.t 36) (ci 1)) <|
 qg 38 35 false (.fld 1 (.t 37)) <|
 qg 39 35 false (.load false 1 (.t 38)) <|
 qg 40 35 false (.len false (.t 39)) <|
 qg 41 35 false (.bin .neq (.t 40) (ci 64)) <|
 q 42 (.pick (.t 35) (cb true) (.t 41)) <|
 .keep [3, 5, 42] <|
 .ite (.t 42)
 (q 43 (.build (List.replicate 8 (.int .u64 0)) []) <|
 q 2 (.mv (.c (.slice none 0 0))) <|
 qn (.store 8 (.t 3) (.t 43)) <|
 q 4 (.mv (cb false)) <|
 .keep [2, 3, 4] <|
 .ret)
 (.done) <|
 q 44 (.mv (.t 5)) <|
 q 45 (.idxa 2 none (.t 44) (ci 1)) <|
 q 46 (.fld 1 (.t 45)) <|
 q 47 (.load false 1 (.t 46)) <|
 q 48 (.slice 1 none (.t 47) none (some (ci 32)) none) <|
 q 49 (.call F.clapperref01_Of [(.t 48)]) <|
 q 7 (.alloc (List.replicate 4 (.int .u64 0))) <|
 qn (.store 4 (.t 7) (.t 49)) <|
 .keep [3, 5, 7] <|
 q 50 (.mv (.t 5)) <|
 q 51 (.idxa 2 none (.t 50) (ci 1)) <|
 q 52 (.fld 1 (.t 51)) <|
 q 53 (.load false 1 (.t 52)) <|
 q 54 (.slice 1 none (.t 53) (some (ci 32)) none none) <|
 q 55 (.call F.clapperref01_Of [(.t 54)]) <|
 q 8 (.alloc (List.replicate 4 (.int .u64 0))) <|
 qn (.store 4 (.t 8) (.t 55)) <|
 .keep [3, 5, 7, 8] <|
 q 56 (.mv (.t 5)) <|
 q 57 (.idxa 2 none (.t 56) (ci 0)) <|
 q 58 (.fld 1 (.t 57)) <|
 q 59 (.load false 1 (.t 58)) <|
 q 60 (.load true 4 (.t 7)) <|
 q 61 (.load true 4 (.t 8)) <|
 q 62 (.build (List.replicate 8 (.int .u64 0)) [(0, 4, (.t 60)), (4, 4, (.t 61))]) <|
 q 2 (.mv (.t 59)) <|
 qn (.store 8 (.t 3) (.t 62)) <|
 q 4 (.mv (cb true)) <|
 .keep [2, 3, 4] <|
 .ret
theorem e_clapperref09_Parts:EF false F.clapperref09_Parts ic_clapperref09_Parts [.t 2,.c 3 true 8,.t 4]:=ef [] Tryz.func90 (by kernel_rfl) (by kernel_rfl) (by kernel_rfl)
def ic_ticket_within : IC :=
 q 6 (.mv (cb false)) <|
 .keep [0, 1, 2] <|
 q 7 (.mv (.t 0)) <|
 q 8 (.mv (.t 1)) <|
 q 9 (.bin .geq (.t 7) (.t 8)) <|
 q 10 (.mv (.t 9)) <|
 qg 11 10 true (.mv (.t 0)) <|
 qg 12 10 true (.mv (.t 2)) <|
 qg 13 10 true (.bin .leq (.t 11) (.t 12)) <|
 q 14 (.pick (.t 10) (.t 13) (cb false)) <|
 q 6 (.mv (.t 14)) <|
 .keep [6] <|
 .ret
theorem e_ticket_within:EF false F.ticket_within ic_ticket_within [.t 6]:=ef [] Tryz.func103 (by kernel_rfl) (by kernel_rfl) (by kernel_rfl)
end Go.Proofs.YtgfploghjpbcaaaGreat.Eng

