/- The code of some functions, as the abstract machine's. Printed by program. -/
import Derived.Test.YtgfploghjpbcaaaGreatMCa
namespace Go.Proofs.YtgfploghjpbcaaaGreat.Eng
open Go Go.Proofs
set_option maxRecDepth 20000
def ic_clapperlaw09_TicketBodies : IC :=
 q 2 (.box (.t 0)) <|
 q 3 (.box (.t 1)) <|
 q 4 (.mv (cb false)) <|
 .keep [2, 3] <|
 q 15 (.call F.clapperlaw09_up []) <|
 q 5 (.mv (.t 15)) <|
 .keep [2, 3, 5] <|
 q 16 (.load true 5 (.t 2)) <|
 q 17 (.call F.clapperref09_May [(.t 16)]) <|
 q 6 (.mv (.t 17)) <|
 .keep [2, 3, 5, 6] <|
 q 19 (.load true 5 (.t 2)) <|
 q 20 (.call F.ticket_Body [(.t 19)]) <|
 q 18 (.mv (.t 20)) <|
 q 21 (.ext (.t 18) 0) <|
 q 22 (.ext (.t 18) 1) <|
 q 7 (.mv (.t 21)) <|
 q 8 (.mv (.t 22)) <|
 .keep [2, 3, 5, 6, 7, 8] <|
 q 24 (.load true 5 (.t 2)) <|
 q 25 (.load true 4 (.t 3)) <|
 q 26 (.call F.ticket_Issue [(.t 24), (.t 25)]) <|
 q 23 (.mv (.t 26)) <|
 q 27 (.ext (.t 23) 0) <|
 q 28 (.ext (.t 23) 1) <|
 q 9 (.mv (.t 27)) <|
 q 10 (.mv (.t 28)) <|
 .keep [2, 3, 5, 6, 7, 8, 9, 10] <|
 q 29 (.mv (.t 6)) <|
 q 30 (.un .not (.t 29)) <|
 .keep [2, 3, 5, 7, 8, 9, 10, 30] <|
 .ite (.t 30)
 (q 31 (.mv (.t 5)) <|
 q 32 (.mv (.t 31)) <|
 qg 33 32 true (.load true 5 (.t 2)) <|
 qg 34 32 true (.call F.ticket_May [(.t 33)]) <|
 qg 35 32 true (.un .not (.t 34)) <|
 q 36 (.pick (.t 32) (.t 35) (cb false)) <|
 q 37 (.mv (.t 36)) <|
 qg 38 37 true (.mv (.t 8)) <|
 qg 39 37 true (.mkif T.api_Code (ci 1)) <|
 qg 40 37 true (.eq false .i (.t 38) (.t 39)) <|
 q 41 (.pick (.t 37) (.t 40) (cb false)) <|
 q 42 (.mv (.t 41)) <|
 qg 43 42 true (.mv (.t 7)) <|
 qg 44 42 true (.len false (.t 43)) <|
 qg 45 42 true (.bin .eql (.t 44) (ci 0)) <|
 q 46 (.pick (.t 42) (.t 45) (cb false)) <|
 q 47 (.mv (.t 46)) <|
 qg 48 47 true (.mv (.t 10)) <|
 qg 49 47 true (.mkif T.api_Code (ci 1)) <|
 qg 50 47 true (.eq false .i (.t 48) (.t 49)) <|
 q 51 (.pick (.t 47) (.t 50) (cb false)) <|
 q 52 (.mv (.t 51)) <|
 qg 53 52 true (.mv (.t 9)) <|
 qg 54 52 true (.len false (.t 53)) <|
 qg 55 52 true (.bin .eql (.t 54) (ci 0)) <|
 q 56 (.pick (.t 52) (.t 55) (cb false)) <|
 q 4 (.mv (.t 56)) <|
 .keep [4] <|
 .ret)
 (.done) <|
 q 57 (.load true 5 (.t 2)) <|
 q 58 (.call F.clapperref09_Body [(.t 57)]) <|
 q 11 (.mv (.t 58)) <|
 .keep [2, 3, 5, 7, 8, 9, 10, 11] <|
 q 59 (.load true 5 (.t 2)) <|
 q 60 (.call F.ticket_May [(.t 59)]) <|
 q 61 (.un .not (.t 60)) <|
 q 62 (.mv (.t 61)) <|
 qg 63 62 false (.mv (.t 8)) <|
 qg 64 62 false (.eq true .i (.t 63) (.c (.nilIface))) <|
 q 65 (.pick (.t 62) (cb true) (.t 64)) <|
 q 66 (.mv (.t 65)) <|
 qg 67 66 false (.mv (.t 7)) <|
 qg 68 66 false (.b2s (.t 67)) <|
 qg 69 66 false (.mv (.t 11)) <|
 qg 70 66 false (.bin .neq (.t 68) (.t 69)) <|
 q 71 (.pick (.t 66) (cb true) (.t 70)) <|
 .keep [3, 5, 9, 10, 11, 71] <|
 .ite (.t 71)
 (q 4 (.mv (cb false)) <|
 .keep [4] <|
 .ret)
 (.done) <|
 q 72 (.load true 4 (.t 3)) <|
 q 73 (.call F.clapperref06_May [(.t 72)]) <|
 q 12 (.mv (.t 73)) <|
 .keep [3, 5, 9, 10, 11, 12] <|
 q 74 (.mv (.t 12)) <|
 q 75 (.un .not (.t 74)) <|
 .keep [3, 5, 9, 10, 11, 75] <|
 .ite (.t 75)
 (q 76 (.mv (.t 5)) <|
 q 77 (.mv (.t 76)) <|
 qg 78 77 true (.mv (.t 10)) <|
 qg 79 77 true (.mkif T.api_Code (ci 1)) <|
 qg 80 77 true (.eq false .i (.t 78) (.t 79)) <|
 q 81 (.pick (.t 77) (.t 80) (cb false)) <|
 q 82 (.mv (.t 81)) <|
 qg 83 82 true (.mv (.t 9)) <|
 qg 84 82 true (.len false (.t 83)) <|
 qg 85 82 true (.bin .eql (.t 84) (ci 0)) <|
 q 86 (.pick (.t 82) (.t 85) (cb false)) <|
 q 4 (.mv (.t 86)) <|
 .keep [4] <|
 .ret)
 (.done) <|
 .reg 1
 [xe 88 (.load true 4 (.t 3)) [],
 xe 89 (.mv (.t 11)) [],
 xe 90 (.s2b false (.t 89)) [],
 xe 91 (.call F.clapperref03_Sum [(.t 90)]) [],
 xe 92 (.call F.clapperref07_Sign [(.t 88), (.t 91)]) [],
 xe 87 (.mv (.t 92)) [],
 xe 93 (.ext (.t 87) 0) [],
 xe 94 (.ext (.t 87) 1) [],
 xa 0 13 (.alloc (List.replicate 8 (.int .u64 0))),
 xln (.store 8 (.t 13) (.t 93)) [],
 xl 14 (.mv (.t 94)) []] <|
 .keep [5, 9, 10, 11, 13, 14] <|
 q 95 (.mv (.t 14)) <|
 q 96 (.un .not (.t 95)) <|
 .keep [5, 9, 10, 11, 13, 96] <|
 .ite (.t 96)
 (q 97 (.mv (.t 5)) <|
 q 98 (.mv (.t 97)) <|
 qg 99 98 true (.mv (.t 10)) <|
 qg 100 98 true (.mkif T.api_Code (ci 4)) <|
 qg 101 98 true (.eq false .i (.t 99) (.t 100)) <|
 q 102 (.pick (.t 98) (.t 101) (cb false)) <|
 q 103 (.mv (.t 102)) <|
 qg 104 103 true (.mv (.t 9)) <|
 qg 105 103 true (.len false (.t 104)) <|
 qg 106 103 true (.bin .eql (.t 105) (ci 0)) <|
 q 107 (.pick (.t 103) (.t 106) (cb false)) <|
 q 4 (.mv (.t 107)) <|
 .keep [4] <|
 .ret)
 (.done) <|
 q 108 (.mv (.t 5)) <|
 q 109 (.mv (.t 108)) <|
 qg 110 109 true (.mv (.t 10)) <|
 qg 111 109 true (.eq false .i (.t 110) (.c (.nilIface))) <|
 q 112 (.pick (.t 109) (.t 111) (cb false)) <|
 q 113 (.mv (.t 112)) <|
 qg 114 113 true (.mv (.t 9)) <|
 qg 115 113 true (.b2s (.t 114)) <|
 qg 116 113 true (.mv (.t 11)) <|
 qg 117 113 true (.load true 8 (.t 13)) <|
 qg 118 113 true (.call F.clapperref09_Signed [(.t 116), (.t 117)]) <|
 qg 119 113 true (.bin .eql (.t 115) (.t 118)) <|
 q 120 (.pick (.t 113) (.t 119) (cb false)) <|
 q 4 (.mv (.t 120)) <|
 .keep [4] <|
 .ret
theorem e_clapperlaw09_TicketBodies:EF false F.clapperlaw09_TicketBodies ic_clapperlaw09_TicketBodies [.t 4]:=ef [] Tryz.func9 (by kernel_rfl) (by kernel_rfl) (by kernel_rfl)
def ic_clapperlaw09_up : IC :=
 q 0 (.mv (cb false)) <|
 .keep [] <|
 q 7 (.call F.ticket_Open [(.c (.slice none 0 0))]) <|
 q 6 (.mv (.t 7)) <|
 q 8 (.ext (.t 6) 0) <|
 q 9 (.ext (.t 6) 1) <|
 q 10 (.ext (.t 6) 2) <|
 q 1 (.alloc (List.replicate 5 (.int .i64 0))) <|
 q 2 (.alloc (List.replicate 8 (.int .u64 0))) <|
 qn (.store 5 (.t 1) (.t 8)) <|
 qn (.store 8 (.t 2) (.t 9)) <|
 q 3 (.mv (.t 10)) <|
 .keep [3] <|
 q 12 (.build (List.replicate 5 (.int .i64 0)) [(0, 1, (ci 1)), (1, 1, (ci 1)), (2, 1, (ci 1)), (4, 1, (ci 1))]) <|
 q 13 (.call F.ticket_Body [(.t 12)]) <|
 q 11 (.mv (.t 13)) <|
 q 14 (.ext (.t 11) 0) <|
 q 15 (.ext (.t 11) 1) <|
 q 4 (.mv (.t 14)) <|
 q 5 (.mv (.t 15)) <|
 .keep [3, 4, 5] <|
 q 16 (.mv (.t 3)) <|
 q 17 (.mkif T.api_Code (ci 2)) <|
 q 18 (.eq false .i (.t 16) (.t 17)) <|
 q 19 (.mv (.t 18)) <|
 qg 20 19 true (.mv (.t 5)) <|
 qg 21 19 true (.eq false .i (.t 20) (.c (.nilIface))) <|
 q 22 (.pick (.t 19) (.t 21) (cb false)) <|
 q 23 (.mv (.t 22)) <|
 qg 24 23 true (.mv (.t 4)) <|
 qg 25 23 true (.len false (.t 24)) <|
 qg 26 23 true (.bin .eql (.t 25) (ci 55)) <|
 q 27 (.pick (.t 23) (.t 26) (cb false)) <|
 q 28 (.mv (.t 27)) <|
 qg 29 28 true (.mv (.t 4)) <|
 qg 30 28 true (.idxa 1 none (.t 29) (ci 0)) <|
 qg 31 28 true (.load false 1 (.t 30)) <|
 qg 32 28 true (.bin .eql (.t 31) (.c (.int .u8 1))) <|
 q 33 (.pick (.t 28) (.t 32) (cb false)) <|
 q 0 (.mv (.t 33)) <|
 .keep [0] <|
 .ret
theorem e_clapperlaw09_up:EF false F.clapperlaw09_up ic_clapperlaw09_up [.t 0]:=ef [] Tryz.func21 (by kernel_rfl) (by kernel_rfl) (by kernel_rfl)
def ic_ticket_Open : IC :=
 q 2 (.alloc (List.replicate 5 (.int .i64 0))) <|
 q 3 (.alloc (List.replicate 8 (.int .u64 0))) <|
 q 4 (.mv (.c (.nilIface))) <|
 .keep [0, 2, 3] <|
 q 12 (.mv (.t 0)) <|
 q 13 (.call F.ticket_parts [(.t 12)]) <|
 q 11 (.mv (.t 13)) <|
 q 14 (.ext (.t 11) 0) <|
 q 15 (.ext (.t 11) 1) <|
 q 16 (.ext (.t 11) 2) <|
 q 6 (.alloc (List.replicate 8 (.int .u64 0))) <|
 q 5 (.mv (.t 14)) <|
 qn (.store 8 (.t 6) (.t 15)) <|
 q 7 (.mv (.t 16)) <|
 .keep [2, 3, 5, 6, 7] <|
 q 18 (.mv (.t 5)) <|
 q 19 (.call F.ticket_numbers [(.t 18), (ci 5)]) <|
 q 17 (.mv (.t 19)) <|
 q 20 (.ext (.t 17) 0) <|
 q 21 (.ext (.t 17) 1) <|
 q 8 (.mv (.t 20)) <|
 q 9 (.mv (.t 21)) <|
 .keep [2, 3, 6, 7, 8, 9] <|
 q 22 (.mv (.t 7)) <|
 q 23 (.un .not (.t 22)) <|
 q 24 (.mv (.t 23)) <|
 qg 25 24 false (.mv (.t 9)) <|
 qg 26 24 false (.un .not (.t 25)) <|
 q 27 (.pick (.t 24) (cb true) (.t 26)) <|
 .keep [2, 3, 6, 8, 27] <|
 .ite (.t 27)
 (q 28 (.build (List.replicate 5 (.int .i64 0)) []) <|
 q 29 (.build (List.replicate 8 (.int .u64 0)) []) <|
 q 30 (.mkif T.api_Code (ci 2)) <|
 qn (.store 5 (.t 2) (.t 28)) <|
 qn (.store 8 (.t 3) (.t 29)) <|
 q 4 (.mv (.t 30)) <|
 .keep [2, 3, 4] <|
 .ret)
 (.done) <|
 .reg 1
 [xe 31 (.mv (.t 8)) [],
 xe 32 (.idxa 1 none (.t 31) (ci 0)) [],
 xe 33 (.load false 1 (.t 32)) [],
 xe 34 (.mv (.t 8)) [],
 xe 35 (.idxa 1 none (.t 34) (ci 1)) [],
 xe 36 (.load false 1 (.t 35)) [],
 xe 37 (.mv (.t 8)) [],
 xe 38 (.idxa 1 none (.t 37) (ci 2)) [],
 xe 39 (.load false 1 (.t 38)) [],
 xe 40 (.mv (.t 8)) [],
 xe 41 (.idxa 1 none (.t 40) (ci 3)) [],
 xe 42 (.load false 1 (.t 41)) [],
 xe 43 (.mv (.t 8)) [],
 xe 44 (.idxa 1 none (.t 43) (ci 4)) [],
 xe 45 (.load false 1 (.t 44)) [],
 xe 46 (.build (List.replicate 5 (.int .i64 0)) [(0, 1, (.t 33)), (1, 1, (.t 36)), (2, 1, (.t 39)), (3, 1, (.t 42)), (4, 1, (.t 45))]) [],
 xa 0 10 (.alloc (List.replicate 5 (.int .i64 0))),
 xln (.store 5 (.t 10) (.t 46)) []] <|
 .keep [2, 3, 6, 10] <|
 q 47 (.load true 5 (.t 10)) <|
 q 48 (.call F.ticket_May [(.t 47)]) <|
 q 49 (.un .not (.t 48)) <|
 .keep [2, 3, 6, 10, 49] <|
 .ite (.t 49)
 (q 50 (.build (List.replicate 5 (.int .i64 0)) []) <|
 q 51 (.build (List.replicate 8 (.int .u64 0)) []) <|
 q 52 (.mkif T.api_Code (ci 2)) <|
 qn (.store 5 (.t 2) (.t 50)) <|
 qn (.store 8 (.t 3) (.t 51)) <|
 q 4 (.mv (.t 52)) <|
 .keep [2, 3, 4] <|
 .ret)
 (.done) <|
 .reg 0
 [xe 53 (.load true 5 (.t 10)) [],
 xe 54 (.load true 8 (.t 6)) [],
 xln (.store 5 (.t 2) (.t 53)) [(.t 6)],
 xln (.store 8 (.t 3) (.t 54)) [],
 xl 4 (.mv (.c (.nilIface))) []] <|
 .keep [2, 3, 4] <|
 .ret
theorem e_ticket_Open:EF false F.ticket_Open ic_ticket_Open [.c 2 true 5,.c 3 true 8,.t 4]:=ef [] Tryz.func22 (by kernel_rfl) (by kernel_rfl) (by kernel_rfl)
def ic_clapperref09_May : IC :=
 q 1 (.box (.t 0)) <|
 q 2 (.mv (cb false)) <|
 .keep [1] <|
 q 3 (.fld 0 (.t 1)) <|
 q 4 (.load false 1 (.t 3)) <|
 q 5 (.bin .geq (.t 4) (ci 1)) <|
 q 6 (.mv (.t 5)) <|
 qg 7 6 true (.fld 0 (.t 1)) <|
 qg 8 6 true (.load false 1 (.t 7)) <|
 qg 9 6 true (.bin .leq (.t 8) (ci 2147483647)) <|
 q 10 (.pick (.t 6) (.t 9) (cb false)) <|
 q 11 (.mv (.t 10)) <|
 qg 12 11 true (.fld 1 (.t 1)) <|
 qg 13 11 true (.load false 1 (.t 12)) <|
 qg 14 11 true (.bin .geq (.t 13) (ci 1)) <|
 q 15 (.pick (.t 11) (.t 14) (cb false)) <|
 q 16 (.mv (.t 15)) <|
 qg 17 16 true (.fld 1 (.t 1)) <|
 qg 18 16 true (.load false 1 (.t 17)) <|
 qg 19 16 true (.bin .leq (.t 18) (ci 16)) <|
 q 20 (.pick (.t 16) (.t 19) (cb false)) <|
 q 21 (.mv (.t 20)) <|
 qg 22 21 true (.fld 2 (.t 1)) <|
 qg 23 21 true (.load false 1 (.t 22)) <|
 qg 24 21 true (.bin .geq (.t 23) (ci 1)) <|
 q 25 (.pick (.t 21) (.t 24) (cb false)) <|
 q 26 (.mv (.t 25)) <|
 qg 27 26 true (.fld 2 (.t 1)) <|
 qg 28 26 true (.load false 1 (.t 27)) <|
 qg 29 26 true (.bin .leq (.t 28) (ci 255)) <|
 q 30 (.pick (.t 26) (.t 29) (cb false)) <|
 q 31 (.mv (.t 30)) <|
 qg 32 31 true (.fld 3 (.t 1)) <|
 qg 33 31 true (.load false 1 (.t 32)) <|
 qg 34 31 true (.bin .geq (.t 33) (ci 0)) <|
 q 35 (.pick (.t 31) (.t 34) (cb false)) <|
 q 36 (.mv (.t 35)) <|
 qg 37 36 true (.fld 3 (.t 1)) <|
 qg 38 36 true (.load false 1 (.t 37)) <|
 qg 39 36 true (.bin .leq (.t 38) (ci 1073741824)) <|
 q 40 (.pick (.t 36) (.t 39) (cb false)) <|
 q 41 (.mv (.t 40)) <|
 qg 42 41 true (.fld 4 (.t 1)) <|
 qg 43 41 true (.load false 1 (.t 42)) <|
 qg 44 41 true (.bin .geq (.t 43) (ci 1)) <|
 q 45 (.pick (.t 41) (.t 44) (cb false)) <|
 q 46 (.mv (.t 45)) <|
 qg 47 46 true (.fld 4 (.t 1)) <|
 qg 48 46 true (.load false 1 (.t 47)) <|
 qg 49 46 true (.bin .leq (.t 48) (ci 2147483647)) <|
 q 50 (.pick (.t 46) (.t 49) (cb false)) <|
 q 2 (.mv (.t 50)) <|
 .keep [2] <|
 .ret
theorem e_clapperref09_May:EF false F.clapperref09_May ic_clapperref09_May [.t 2]:=ef [] Tryz.func38 (by kernel_rfl) (by kernel_rfl) (by kernel_rfl)
def ic_ticket_Body : IC :=
 q 1 (.box (.t 0)) <|
 q 2 (.mv (.c (.slice none 0 0))) <|
 q 3 (.mv (.c (.nilIface))) <|
 .keep [1] <|
 q 7 (.load true 5 (.t 1)) <|
 q 8 (.call F.ticket_May [(.t 7)]) <|
 q 9 (.un .not (.t 8)) <|
 .keep [1, 9] <|
 .ite (.t 9)
 (q 10 (.mkif T.api_Code (ci 1)) <|
 q 2 (.mv (.c (.slice none 0 0))) <|
 q 3 (.mv (.t 10)) <|
 .keep [2, 3] <|
 .ret)
 (.done) <|
 q 4 (.mv (.c (.slice none 0 0))) <|
 .keep [1, 4] <|
 q 11 (.fld 0 (.t 1)) <|
 q 12 (.load false 1 (.t 11)) <|
 q 13 (.fld 1 (.t 1)) <|
 q 14 (.load false 1 (.t 13)) <|
 q 15 (.fld 2 (.t 1)) <|
 q 16 (.load false 1 (.t 15)) <|
 q 17 (.fld 3 (.t 1)) <|
 q 18 (.load false 1 (.t 17)) <|
 q 19 (.fld 4 (.t 1)) <|
 q 20 (.load false 1 (.t 19)) <|
 q 21 (.bslice false 1 5 [.int .i64 0] [(0, 1, (.t 12)), (1, 1, (.t 14)), (2, 1, (.t 16)), (3, 1, (.t 18)), (4, 1, (.t 20))]) <|
 q 22 (.len false (.t 21)) <|
 q 23 (.mv (ci 0)) <|
 .keep [4, 21, 22, 23] <|
 .block 0
 (.keep [4, 21, 22, 23] <|
 .loop
 (q 24 (.bin .lss (.t 23) (.t 22)) <|
 .keep [4, 21, 22, 23, 24] <|
 .ite (.t 24)
 (.done)
 (.exit 0) <|
 .block 1
 (q 25 (.mv (.t 23)) <|
 q 26 (.idxa 1 none (.t 21) (.t 23)) <|
 q 27 (.load false 1 (.t 26)) <|
 q 5 (.mv (.t 25)) <|
 q 6 (.mv (.t 27)) <|
 .keep [4, 5, 6, 21, 22, 23] <|
 q 28 (.mv (.t 4)) <|
 q 29 (.mv (.t 5)) <|
 q 30 (.bin .add (.t 29) (ci 1)) <|
 q 31 (.mv (.t 6)) <|
 q 32 (.call F.tlv_Number [(.t 31)]) <|
 q 33 (.build [.int .i64 0, .slice none 0 0] [(0, 1, (.t 30)), (1, 1, (.t 32))]) <|
 q 34 (.bslice false 2 1 [.int .i64 0, .slice none 0 0] [(0, 2, (.t 33))]) <|
 q 35 (.append 2 32 (.t 28) (.t 34)) <|
 q 4 (.mv (.t 35)) <|
 .keep [4, 21, 22, 23] <|
 .done) <|
 q 36 (.bin .add (.t 23) (ci 1)) <|
 q 23 (.mv (.t 36)) <|
 .keep [4, 21, 22, 23] <|
 .keep [4, 21, 22, 23] <|
 .done)) <|
 q 37 (.mv (.t 4)) <|
 q 38 (.call F.tlv_Put [(.t 37)]) <|
 q 39 (.ext (.t 38) 0) <|
 q 40 (.ext (.t 38) 1) <|
 q 2 (.mv (.t 39)) <|
 q 3 (.mv (.t 40)) <|
 .keep [2, 3] <|
 .ret
theorem e_ticket_Body:EF false F.ticket_Body ic_ticket_Body [.t 2,.t 3]:=ef [] Tryz.func39 (by kernel_rfl) (by kernel_rfl) (by kernel_rfl)
def ic_ticket_Issue : IC :=
 q 2 (.box (.t 0)) <|
 q 3 (.box (.t 1)) <|
 q 4 (.mv (.c (.slice none 0 0))) <|
 q 5 (.mv (.c (.nilIface))) <|
 .keep [2, 3] <|
 q 10 (.load true 5 (.t 2)) <|
 q 11 (.call F.ticket_Body [(.t 10)]) <|
 q 9 (.mv (.t 11)) <|
 q 12 (.ext (.t 9) 0) <|
 q 13 (.ext (.t 9) 1) <|
 q 6 (.mv (.t 12)) <|
 q 7 (.mv (.t 13)) <|
 .keep [3, 6, 7] <|
 q 14 (.mv (.t 7)) <|
 q 15 (.eq true .i (.t 14) (.c (.nilIface))) <|
 .keep [3, 6, 7, 15] <|
 .ite (.t 15)
 (q 16 (.mv (.t 7)) <|
 q 4 (.mv (.c (.slice none 0 0))) <|
 q 5 (.mv (.t 16)) <|
 .keep [4, 5] <|
 .ret)
 (.done) <|
 .reg 1
 [xe 18 (.load true 4 (.t 3)) [],
 xe 19 (.mv (.t 6)) [],
 xe 20 (.call F.sha_Sum [(.t 19)]) [],
 xe 21 (.call F.sign_Sign [(.t 18), (.t 20)]) [],
 xe 17 (.mv (.t 21)) [],
 xe 22 (.ext (.t 17) 0) [],
 xe 23 (.ext (.t 17) 1) [],
 xa 0 8 (.alloc (List.replicate 8 (.int .u64 0))),
 xln (.store 8 (.t 8) (.t 22)) [],
 xl 7 (.mv (.t 23)) []] <|
 .keep [6, 7, 8] <|
 q 24 (.mv (.t 7)) <|
 q 25 (.eq true .i (.t 24) (.c (.nilIface))) <|
 .keep [6, 7, 8, 25] <|
 .ite (.t 25)
 (q 26 (.mv (.t 7)) <|
 q 4 (.mv (.c (.slice none 0 0))) <|
 q 5 (.mv (.t 26)) <|
 .keep [4, 5] <|
 .ret)
 (.done) <|
 q 27 (.mv (.t 6)) <|
 q 28 (.build [.int .i64 0, .slice none 0 0] [(0, 1, (ci 1)), (1, 1, (.t 27))]) <|
 q 29 (.load true 8 (.t 8)) <|
 q 30 (.call F.sign_Bytes [(.t 29)]) <|
 q 31 (.build [.int .i64 0, .slice none 0 0] [(0, 1, (ci 2)), (1, 1, (.t 30))]) <|
 q 32 (.bslice false 2 2 [.int .i64 0, .slice none 0 0] [(0, 2, (.t 28)), (2, 2, (.t 31))]) <|
 q 33 (.call F.tlv_Put [(.t 32)]) <|
 q 34 (.ext (.t 33) 0) <|
 q 35 (.ext (.t 33) 1) <|
 q 4 (.mv (.t 34)) <|
 q 5 (.mv (.t 35)) <|
 .keep [4, 5] <|
 .ret
theorem e_ticket_Issue:EF false F.ticket_Issue ic_ticket_Issue [.t 4,.t 5]:=ef [] Tryz.func40 (by kernel_rfl) (by kernel_rfl) (by kernel_rfl)
def ic_ticket_May : IC :=
 q 1 (.box (.t 0)) <|
 q 2 (.mv (cb false)) <|
 .keep [1] <|
 q 3 (.fld 0 (.t 1)) <|
 q 4 (.load false 1 (.t 3)) <|
 q 5 (.call F.ticket_within [(.t 4), (ci 1), (ci 2147483647)]) <|
 q 6 (.mv (.t 5)) <|
 qg 7 6 true (.fld 1 (.t 1)) <|
 qg 8 6 true (.load false 1 (.t 7)) <|
 qg 9 6 true (.call F.ticket_within [(.t 8), (ci 1), (ci 16)]) <|
 q 10 (.pick (.t 6) (.t 9) (cb false)) <|
 q 11 (.mv (.t 10)) <|
 qg 12 11 true (.fld 2 (.t 1)) <|
 qg 13 11 true (.load false 1 (.t 12)) <|
 qg 14 11 true (.call F.ticket_within [(.t 13), (ci 1), (ci 255)]) <|
 q 15 (.pick (.t 11) (.t 14) (cb false)) <|
 q 16 (.mv (.t 15)) <|
 qg 17 16 true (.fld 3 (.t 1)) <|
 qg 18 16 true (.load false 1 (.t 17)) <|
 qg 19 16 true (.call F.ticket_within [(.t 18), (ci 0), (ci 1073741824)]) <|
 q 20 (.pick (.t 16) (.t 19) (cb false)) <|
 q 21 (.mv (.t 20)) <|
 qg 22 21 true (.fld 4 (.t 1)) <|
 qg 23 21 true (.load false 1 (.t 22)) <|
 qg 24 21 true (.call F.ticket_within [(.t 23), (ci 1), (ci 2147483647)]) <|
 q 25 (.pick (.t 21) (.t 24) (cb false)) <|
 q 2 (.mv (.t 25)) <|
 .keep [2] <|
 .ret
theorem e_ticket_May:EF false F.ticket_May ic_ticket_May [.t 2]:=ef [] Tryz.func41 (by kernel_rfl) (by kernel_rfl) (by kernel_rfl)
def ic_clapperref09_Body : IC :=
 q 1 (.box (.t 0)) <|
 q 2 (.mv (.c (.string .empty))) <|
 .keep [1] <|
 q 3 (.fld 0 (.t 1)) <|
 q 4 (.load false 1 (.t 3)) <|
 q 5 (.fld 1 (.t 1)) <|
 q 6 (.load false 1 (.t 5)) <|
 q 7 (.fld 2 (.t 1)) <|
 q 8 (.load false 1 (.t 7)) <|
 q 9 (.fld 3 (.t 1)) <|
 q 10 (.load false 1 (.t 9)) <|
 q 11 (.fld 4 (.t 1)) <|
 q 12 (.load false 1 (.t 11)) <|
 q 13 (.bslice false 1 5 [.int .i64 0] [(0, 1, (.t 4)), (1, 1, (.t 6)), (2, 1, (.t 8)), (3, 1, (.t 10)), (4, 1, (.t 12))]) <|
 q 14 (.call F.clapperref08_Body [(.t 13)]) <|
 q 2 (.mv (.t 14)) <|
 .keep [2] <|
 .ret
theorem e_clapperref09_Body:EF false F.clapperref09_Body ic_clapperref09_Body [.t 2]:=ef [] Tryz.func42 (by kernel_rfl) (by kernel_rfl) (by kernel_rfl)
def ic_clapperref09_Signed : IC :=
 q 3 (.box (.t 1)) <|
 q 4 (.mv (.c (.string .empty))) <|
 .keep [0, 3] <|
 q 5 (.mv (.c (.slice none 0 0))) <|
 .keep [0, 3, 5] <|
 q 6 (.mv (.t 5)) <|
 q 7 (.mv (.t 0)) <|
 q 8 (.s2b false (.t 7)) <|
 q 9 (.build [.int .i64 0, .slice none 0 0] [(0, 1, (ci 1)), (1, 1, (.t 8))]) <|
 q 10 (.bslice false 2 1 [.int .i64 0, .slice none 0 0] [(0, 2, (.t 9))]) <|
 q 11 (.append 2 32 (.t 6) (.t 10)) <|
 q 5 (.mv (.t 11)) <|
 .keep [3, 5] <|
 q 12 (.mv (.t 5)) <|
 q 13 (.load true 8 (.t 3)) <|
 q 14 (.call F.clapperref07_Bytes [(.t 13)]) <|
 q 15 (.build [.int .i64 0, .slice none 0 0] [(0, 1, (ci 2)), (1, 1, (.t 14))]) <|
 q 16 (.bslice false 2 1 [.int .i64 0, .slice none 0 0] [(0, 2, (.t 15))]) <|
 q 17 (.append 2 32 (.t 12) (.t 16)) <|
 q 5 (.mv (.t 17)) <|
 .keep [5] <|
 q 18 (.mv (.t 5)) <|
 q 19 (.call F.clapperref08_Put [(.t 18)]) <|
 q 4 (.mv (.t 19)) <|
 .keep [4] <|
 .ret
theorem e_clapperref09_Signed:EF false F.clapperref09_Signed ic_clapperref09_Signed [.t 4]:=ef [] Tryz.func44 (by kernel_rfl) (by kernel_rfl) (by kernel_rfl)
def ic_ticket_parts : IC :=
 q 2 (.mv (.c (.slice none 0 0))) <|
 q 3 (.alloc (List.replicate 8 (.int .u64 0))) <|
 q 4 (.mv (cb false)) <|
 .keep [0, 3] <|
 q 9 (.mv (.t 0)) <|
 q 10 (.call F.tlv_Get [(.t 9)]) <|
 q 8 (.mv (.t 10)) <|
 q 11 (.ext (.t 8) 0) <|
 q 12 (.ext (.t 8) 1) <|
 q 5 (.mv (.t 11)) <|
 q 6 (.mv (.t 12)) <|
 .keep [3, 5, 6] <|
 q 13 (.mv (.t 6)) <|
 q 14 (.eq true .i (.t 13) (.c (.nilIface))) <|
 q 15 (.mv (.t 14)) <|
 qg 16 15 false (.mv (.t 5)) <|
 qg 17 15 false (.len false (.t 16)) <|
 qg 18 15 false (.bin .neq (.t 17) (ci 2)) <|
 q 19 (.pick (.t 15) (cb true) (.t 18)) <|
 q 20 (.mv (.t 19)) <|
 qg 21 20 false (.mv (.t 5)) <|
 qg 22 20 false (.idxa 2 none (.t 21) (ci 0)) <|
 qg 23 20 false (.fld 0 (.t 22)) <|
 qg 24 20 false (.load false 1 (.t 23)) <|
 qg 25 20 false (.bin .neq (.t 24) (ci 1)) <|
 q 26 (.pick (.t 20) (cb true) (.t 25)) <|
 q 27 (.mv (.t 26)) <|
 qg 28 27 false (.mv (.t 5)) <|
 qg 29 27 false (.idxa 2 none (.t 28) (ci 1)) <|
 qg 30 27 false (.fld 0 (.t 29)) <|
 qg 31 27 false (.load false 1 (.t 30)) <|
 qg 32 27 false (.bin .neq (.t 31) (ci 2)) <|
 q 33 (.pick (.t 27) (cb true) (.t 32)) <|
 .keep [3, 5, 33] <|
 .ite (.t 33)
 (q 34 (.build (List.replicate 8 (.int .u64 0)) []) <|
 q 2 (.mv (.c (.slice none 0 0))) <|
 qn (.store 8 (.t 3) (.t 34)) <|
 q 4 (.mv (cb false)) <|
 .keep [2, 3, 4] <|
 .ret)
 (.done) <|
 q 36 (.mv (.t 5)) <|
 q 37 (.idxa 2 none (.t 36) (ci 1)) <|
 q 38 (.fld 1 (.t 37)) <|
 q 39 (.load false 1 (.t 38)) <|
 q 40 (.call F.sign_Parse [(.t 39)]) <|
 q 35 (.mv (.t 40)) <|
 q 41 (.ext (.t 35) 0) <|
 q 42 (.ext (.t 35) 1) <|
 q 7 (.alloc (List.replicate 8 (.int .u64 0))) <|
 qn (.store 8 (.t 7) (.t 41)) <|
 q 6 (.mv (.t 42)) <|
 .keep [3, 5, 6, 7] <|
 q 43 (.mv (.t 5)) <|
 q 44 (.idxa 2 none (.t 43) (ci 0)) <|
 q 45 (.fld 1 (.t 44)) <|
 q 46 (.load false 1 (.t 45)) <|
 q 47 (.load true 8 (.t 7)) <|
 q 48 (.mv (.t 6)) <|
 q 49 (.eq false .i (.t 48) (.c (.nilIface))) <|
 q 2 (.mv (.t 46)) <|
 qn (.store 8 (.t 3) (.t 47)) <|
 q 4 (.mv (.t 49)) <|
 .keep [2, 3, 4] <|
 .ret
theorem e_ticket_parts:EF false F.ticket_parts ic_ticket_parts [.t 2,.c 3 true 8,.t 4]:=ef [] Tryz.func88 (by kernel_rfl) (by kernel_rfl) (by kernel_rfl)
def ic_ticket_numbers : IC :=
 q 4 (.mv (.c (.slice none 0 0))) <|
 q 5 (.mv (cb false)) <|
 .keep [0, 1] <|
 q 14 (.mv (.t 0)) <|
 q 15 (.call F.tlv_Get [(.t 14)]) <|
 q 13 (.mv (.t 15)) <|
 q 16 (.ext (.t 13) 0) <|
 q 17 (.ext (.t 13) 1) <|
 q 6 (.mv (.t 16)) <|
 q 7 (.mv (.t 17)) <|
 .keep [1, 6, 7] <|
 q 18 (.mv (.t 7)) <|
 q 19 (.eq true .i (.t 18) (.c (.nilIface))) <|
 q 20 (.mv (.t 19)) <|
 qg 21 20 false (.mv (.t 6)) <|
 qg 22 20 false (.len false (.t 21)) <|
 qg 23 20 false (.mv (.t 1)) <|
 qg 24 20 false (.bin .neq (.t 22) (.t 23)) <|
 q 25 (.pick (.t 20) (cb true) (.t 24)) <|
 .keep [6, 25] <|
 .ite (.t 25)
 (q 4 (.mv (.c (.slice none 0 0))) <|
 q 5 (.mv (cb false)) <|
 .keep [4, 5] <|
 .ret)
 (.done) <|
 q 8 (.mv (.c (.slice none 0 0))) <|
 .keep [6, 8] <|
 q 26 (.mv (.t 6)) <|
 q 27 (.len false (.t 26)) <|
 q 28 (.mv (ci 0)) <|
 .keep [8, 26, 27, 28] <|
 .block 0
 (.keep [8, 26, 27, 28] <|
 .loop
 (q 29 (.bin .lss (.t 28) (.t 27)) <|
 .keep [8, 26, 27, 28, 29] <|
 .ite (.t 29)
 (.done)
 (.exit 0) <|
 .block 1
 (q 30 (.mv (.t 28)) <|
 q 31 (.idxa 2 none (.t 26) (.t 28)) <|
 q 32 (.load true 2 (.t 31)) <|
 q 10 (.alloc [.int .i64 0, .slice none 0 0]) <|
 q 9 (.mv (.t 30)) <|
 qn (.store 2 (.t 10) (.t 32)) <|
 .keep [8, 9, 10, 26, 27, 28] <|
 q 34 (.fld 1 (.t 10)) <|
 q 35 (.load false 1 (.t 34)) <|
 q 36 (.call F.tlv_Of [(.t 35)]) <|
 q 33 (.mv (.t 36)) <|
 q 37 (.ext (.t 33) 0) <|
 q 38 (.ext (.t 33) 1) <|
 q 11 (.mv (.t 37)) <|
 q 12 (.mv (.t 38)) <|
 .keep [8, 9, 10, 11, 12, 26, 27, 28] <|
 q 39 (.mv (.t 12)) <|
 q 40 (.eq true .i (.t 39) (.c (.nilIface))) <|
 q 41 (.mv (.t 40)) <|
 qg 42 41 false (.fld 0 (.t 10)) <|
 qg 43 41 false (.load false 1 (.t 42)) <|
 qg 44 41 false (.mv (.t 9)) <|
 qg 45 41 false (.bin .add (.t 44) (ci 1)) <|
 qg 46 41 false (.bin .neq (.t 43) (.t 45)) <|
 q 47 (.pick (.t 41) (cb true) (.t 46)) <|
 .keep [8, 11, 26, 27, 28, 47] <|
 .ite (.t 47)
 (q 4 (.mv (.c (.slice none 0 0))) <|
 q 5 (.mv (cb false)) <|
 .keep [4, 5] <|
 .ret)
 (.done) <|
 q 48 (.mv (.t 8)) <|
 q 49 (.mv (.t 11)) <|
 q 50 (.bslice false 1 1 [.int .i64 0] [(0, 1, (.t 49))]) <|
 q 51 (.append 1 8 (.t 48) (.t 50)) <|
 q 8 (.mv (.t 51)) <|
 .keep [8, 26, 27, 28] <|
 .done) <|
 q 52 (.bin .add (.t 28) (ci 1)) <|
 q 28 (.mv (.t 52)) <|
 .keep [8, 26, 27, 28] <|
 .keep [8, 26, 27, 28] <|
 .done)) <|
 q 53 (.mv (.t 8)) <|
 q 4 (.mv (.t 53)) <|
 q 5 (.mv (cb true)) <|
 .keep [4, 5] <|
 .ret
theorem e_ticket_numbers:EF false F.ticket_numbers ic_ticket_numbers [.t 4,.t 5]:=ef [] Tryz.func89 (by kernel_rfl) (by kernel_rfl) (by kernel_rfl)
def ic_ticket_within : IC :=
 q 6 (.mv (cb false)) <|
 .keep [0, 1, 2] <|
 q 7 (.mv (.t 0)) <|
 q 8 (.mv (.t 1)) <|
 q 9 (.bin .geq (.t 7) (.t 8)) <|
 q 10 (.mv (.t 9)) <|
 qg 11 10 true (.mv (.t 0)) <|
 qg 12 10 true (.mv (.t 2)) <|
 qg 13 10 true (.bin .leq (.t 11) (.t 12)) <|
 q 14 (.pick (.t 10) (.t 13) (cb false)) <|
 q 6 (.mv (.t 14)) <|
 .keep [6] <|
 .ret
theorem e_ticket_within:EF false F.ticket_within ic_ticket_within [.t 6]:=ef [] Tryz.func103 (by kernel_rfl) (by kernel_rfl) (by kernel_rfl)
end Go.Proofs.YtgfploghjpbcaaaGreat.Eng

