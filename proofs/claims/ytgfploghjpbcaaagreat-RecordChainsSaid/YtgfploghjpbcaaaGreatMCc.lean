/- The code of some functions, as the abstract machine's. Printed by program. -/
import Derived.Test.YtgfploghjpbcaaaGreatMCa
namespace Go.Proofs.YtgfploghjpbcaaaGreat.Eng
open Go Go.Proofs
set_option maxRecDepth 20000
def ic_clapperlaw17_RecordChains : IC :=
 q 5 (.box (.t 2)) <|
 q 6 (.mv (cb false)) <|
 .keep [0, 1, 5] <|
 q 9 (.call F.clapperlaw17_up []) <|
 q 7 (.mv (.t 9)) <|
 .keep [0, 1, 5, 7] <|
 q 10 (.mv (.t 0)) <|
 q 11 (.len false (.t 10)) <|
 q 12 (.bin .gtr (.t 11) (ci 20)) <|
 .keep [0, 1, 5, 7, 12] <|
 .ite (.t 12)
 (q 13 (.mv (.t 7)) <|
 q 6 (.mv (.t 13)) <|
 .keep [6] <|
 .ret)
 (.done) <|
 q 8 (.mv (ci 0)) <|
 .keep [0, 1, 5, 7, 8] <|
 .block 0
 (.keep [0, 1, 5, 7, 8] <|
 .loop
 (q 14 (.mv (.t 8)) <|
 q 15 (.mv (.t 0)) <|
 q 16 (.len false (.t 15)) <|
 q 17 (.bin .lss (.t 14) (.t 16)) <|
 .keep [0, 1, 5, 7, 8, 17] <|
 .ite (.t 17)
 (.done)
 (.exit 0) <|
 .block 1
 (q 20 (.mv (.t 0)) <|
 q 21 (.mv (.t 8)) <|
 q 22 (.idxa 1 none (.t 20) (.t 21)) <|
 q 23 (.load false 1 (.t 22)) <|
 q 24 (.len false (.t 23)) <|
 q 25 (.bin .gtr (.t 24) (ci 5000)) <|
 .keep [0, 1, 5, 7, 8, 25] <|
 .ite (.t 25)
 (q 26 (.mv (.t 7)) <|
 q 6 (.mv (.t 26)) <|
 .keep [6] <|
 .ret)
 (.done) <|
 .done) <|
 q 18 (.mv (.t 8)) <|
 q 19 (.bin .add (.t 18) (ci 1)) <|
 q 8 (.mv (.t 19)) <|
 .keep [0, 1, 5, 7, 8] <|
 .keep [0, 1, 5, 7, 8] <|
 .done)) <|
 q 27 (.mv (.t 7)) <|
 q 28 (.mv (.t 27)) <|
 qg 29 28 true (.mv (.t 0)) <|
 qg 30 28 true (.mv (.t 1)) <|
 qg 31 28 true (.load true 9 (.t 5)) <|
 qg 32 28 true (.call F.record_Chain [(.t 29), (.t 30), (.t 31)]) <|
 qg 33 28 true (.mv (.t 0)) <|
 qg 34 28 true (.mv (.t 1)) <|
 qg 35 28 true (.load true 9 (.t 5)) <|
 qg 36 28 true (.call F.clapperref17_Chain [(.t 33), (.t 34), (.t 35)]) <|
 qg 37 28 true (.bin .eql (.t 32) (.t 36)) <|
 q 38 (.pick (.t 28) (.t 37) (cb false)) <|
 q 6 (.mv (.t 38)) <|
 .keep [6] <|
 .ret
theorem e_clapperlaw17_RecordChains:EF false F.clapperlaw17_RecordChains ic_clapperlaw17_RecordChains [.t 6]:=ef [] Tryz.func6 (by kernel_rfl) (by kernel_rfl) (by kernel_rfl)
def ic_clapperlaw17_RecordOpens : IC :=
 q 3 (.box (.t 1)) <|
 q 4 (.mv (cb false)) <|
 .keep [0, 3] <|
 q 17 (.call F.clapperlaw17_up []) <|
 q 5 (.mv (.t 17)) <|
 .keep [0, 3, 5] <|
 q 18 (.mv (.t 0)) <|
 q 19 (.len false (.t 18)) <|
 q 20 (.bin .gtr (.t 19) (ci 5000)) <|
 .keep [0, 3, 5, 20] <|
 .ite (.t 20)
 (q 21 (.mv (.t 5)) <|
 q 4 (.mv (.t 21)) <|
 .keep [4] <|
 .ret)
 (.done) <|
 q 23 (.mv (.t 0)) <|
 q 24 (.call F.record_Open [(.t 23)]) <|
 q 22 (.mv (.t 24)) <|
 q 25 (.ext (.t 22) 0) <|
 q 26 (.ext (.t 22) 1) <|
 q 27 (.ext (.t 22) 2) <|
 q 28 (.ext (.t 22) 3) <|
 q 6 (.alloc [.int .i64 0, .int .i64 0, .int .i64 0, .int .i64 0, .int .i64 0, .int .i64 0, .int .i64 0, .int .i64 0, .int .u8 0, .int .u8 0, .int .u8 0, .int .u8 0, .int .u8 0, .int .u8 0, .int .u8 0, .int .u8 0, .int .u8 0, .int .u8 0, .int .u8 0, .int .u8 0, .int .u8 0, .int .u8 0, .int .u8 0, .int .u8 0, .int .u8 0, .int .u8 0, .int .u8 0, .int .u8 0, .int .u8 0, .int .u8 0, .int .u8 0, .int .u8 0, .int .u8 0, .int .u8 0, .int .u8 0, .int .u8 0, .int .u8 0, .int .u8 0, .int .u8 0, .int .u8 0, .slice none 0 0]) <|
 q 7 (.alloc (List.replicate 32 (.int .u8 0))) <|
 q 8 (.alloc (List.replicate 8 (.int .u64 0))) <|
 qn (.store 41 (.t 6) (.t 25)) <|
 qn (.store 32 (.t 7) (.t 26)) <|
 qn (.store 8 (.t 8) (.t 27)) <|
 q 9 (.mv (.t 28)) <|
 .keep [0, 3, 5, 6, 7, 8, 9] <|
 q 30 (.mv (.t 0)) <|
 q 31 (.call F.clapperref17_Open [(.t 30)]) <|
 q 29 (.mv (.t 31)) <|
 q 32 (.ext (.t 29) 0) <|
 q 33 (.ext (.t 29) 1) <|
 q 34 (.ext (.t 29) 2) <|
 q 35 (.ext (.t 29) 3) <|
 q 10 (.alloc [.int .i64 0, .int .i64 0, .int .i64 0, .int .i64 0, .int .i64 0, .int .i64 0, .int .i64 0, .int .i64 0, .int .u8 0, .int .u8 0, .int .u8 0, .int .u8 0, .int .u8 0, .int .u8 0, .int .u8 0, .int .u8 0, .int .u8 0, .int .u8 0, .int .u8 0, .int .u8 0, .int .u8 0, .int .u8 0, .int .u8 0, .int .u8 0, .int .u8 0, .int .u8 0, .int .u8 0, .int .u8 0, .int .u8 0, .int .u8 0, .int .u8 0, .int .u8 0, .int .u8 0, .int .u8 0, .int .u8 0, .int .u8 0, .int .u8 0, .int .u8 0, .int .u8 0, .int .u8 0, .slice none 0 0]) <|
 q 11 (.alloc (List.replicate 32 (.int .u8 0))) <|
 q 12 (.alloc (List.replicate 8 (.int .u64 0))) <|
 qn (.store 41 (.t 10) (.t 32)) <|
 qn (.store 32 (.t 11) (.t 33)) <|
 qn (.store 8 (.t 12) (.t 34)) <|
 q 13 (.mv (.t 35)) <|
 .keep [0, 3, 5, 6, 7, 8, 9, 10, 11, 12, 13] <|
 q 37 (.mv (.t 0)) <|
 q 38 (.load true 9 (.t 3)) <|
 q 39 (.call F.record_Check [(.t 37), (.t 38)]) <|
 q 36 (.mv (.t 39)) <|
 q 40 (.ext (.t 36) 0) <|
 q 41 (.ext (.t 36) 1) <|
 q 14 (.alloc [.int .i64 0, .int .i64 0, .int .i64 0, .int .i64 0, .int .i64 0, .int .i64 0, .int .i64 0, .int .i64 0, .int .u8 0, .int .u8 0, .int .u8 0, .int .u8 0, .int .u8 0, .int .u8 0, .int .u8 0, .int .u8 0, .int .u8 0, .int .u8 0, .int .u8 0, .int .u8 0, .int .u8 0, .int .u8 0, .int .u8 0, .int .u8 0, .int .u8 0, .int .u8 0, .int .u8 0, .int .u8 0, .int .u8 0, .int .u8 0, .int .u8 0, .int .u8 0, .int .u8 0, .int .u8 0, .int .u8 0, .int .u8 0, .int .u8 0, .int .u8 0, .int .u8 0, .int .u8 0, .slice none 0 0]) <|
 qn (.store 41 (.t 14) (.t 40)) <|
 q 15 (.mv (.t 41)) <|
 .keep [3, 5, 6, 7, 8, 9, 10, 11, 12, 13, 14, 15] <|
 q 42 (.load true 41 (.t 6)) <|
 q 43 (.load true 41 (.t 10)) <|
 q 44 (.call F.clapperref17_Same [(.t 42), (.t 43)]) <|
 q 45 (.un .not (.t 44)) <|
 q 46 (.mv (.t 45)) <|
 qg 47 46 false (.load true 32 (.t 7)) <|
 qg 48 46 false (.load true 32 (.t 11)) <|
 qg 49 46 false (.eqagg (List.replicate 32 (some .u8)) true (.t 47) (.t 48)) <|
 q 50 (.pick (.t 46) (cb true) (.t 49)) <|
 q 51 (.mv (.t 50)) <|
 qg 52 51 false (.load true 8 (.t 8)) <|
 qg 53 51 false (.load true 8 (.t 12)) <|
 qg 54 51 false (.eqagg (List.replicate 8 (some .u64)) true (.t 52) (.t 53)) <|
 q 55 (.pick (.t 51) (cb true) (.t 54)) <|
 .keep [3, 5, 9, 10, 11, 12, 13, 14, 15, 55] <|
 .ite (.t 55)
 (q 4 (.mv (cb false)) <|
 .keep [4] <|
 .ret)
 (.done) <|
 q 56 (.mv (.t 13)) <|
 q 57 (.un .not (.t 56)) <|
 .keep [3, 5, 9, 10, 11, 12, 14, 15, 57] <|
 .ite (.t 57)
 (q 58 (.mv (.t 5)) <|
 q 59 (.mv (.t 58)) <|
 qg 60 59 true (.mv (.t 9)) <|
 qg 61 59 true (.mkif T.api_Code (ci 2)) <|
 qg 62 59 true (.eq false .i (.t 60) (.t 61)) <|
 q 63 (.pick (.t 59) (.t 62) (cb false)) <|
 q 64 (.mv (.t 63)) <|
 qg 65 64 true (.mv (.t 15)) <|
 qg 66 64 true (.mkif T.api_Code (ci 2)) <|
 qg 67 64 true (.eq false .i (.t 65) (.t 66)) <|
 q 68 (.pick (.t 64) (.t 67) (cb false)) <|
 q 69 (.mv (.t 68)) <|
 qg 70 69 true (.load true 41 (.t 14)) <|
 qg 71 69 true (.build [.int .i64 0, .int .i64 0, .int .i64 0, .int .i64 0, .int .i64 0, .int .i64 0, .int .i64 0, .int .i64 0, .int .u8 0, .int .u8 0, .int .u8 0, .int .u8 0, .int .u8 0, .int .u8 0, .int .u8 0, .int .u8 0, .int .u8 0, .int .u8 0, .int .u8 0, .int .u8 0, .int .u8 0, .int .u8 0, .int .u8 0, .int .u8 0, .int .u8 0, .int .u8 0, .int .u8 0, .int .u8 0, .int .u8 0, .int .u8 0, .int .u8 0, .int .u8 0, .int .u8 0, .int .u8 0, .int .u8 0, .int .u8 0, .int .u8 0, .int .u8 0, .int .u8 0, .int .u8 0, .slice none 0 0] []) <|
 qg 72 69 true (.call F.clapperref17_Same [(.t 70), (.t 71)]) <|
 q 73 (.pick (.t 69) (.t 72) (cb false)) <|
 q 4 (.mv (.t 73)) <|
 .keep [4] <|
 .ret)
 (.done) <|
 q 74 (.load true 9 (.t 3)) <|
 q 75 (.load true 32 (.t 11)) <|
 q 76 (.load true 8 (.t 12)) <|
 q 77 (.call F.clapperref07_Verify [(.t 74), (.t 75), (.t 76)]) <|
 q 16 (.mv (.t 77)) <|
 .keep [5, 9, 10, 14, 15, 16] <|
 q 78 (.mv (.t 16)) <|
 q 79 (.un .not (.t 78)) <|
 .keep [5, 9, 10, 14, 15, 79] <|
 .ite (.t 79)
 (q 80 (.mv (.t 5)) <|
 q 81 (.mv (.t 80)) <|
 qg 82 81 true (.mv (.t 9)) <|
 qg 83 81 true (.eq false .i (.t 82) (.c (.nilIface))) <|
 q 84 (.pick (.t 81) (.t 83) (cb false)) <|
 q 85 (.mv (.t 84)) <|
 qg 86 85 true (.mv (.t 15)) <|
 qg 87 85 true (.mkif T.api_Code (ci 8)) <|
 qg 88 85 true (.eq false .i (.t 86) (.t 87)) <|
 q 89 (.pick (.t 85) (.t 88) (cb false)) <|
 q 90 (.mv (.t 89)) <|
 qg 91 90 true (.load true 41 (.t 14)) <|
 qg 92 90 true (.build [.int .i64 0, .int .i64 0, .int .i64 0, .int .i64 0, .int .i64 0, .int .i64 0, .int .i64 0, .int .i64 0, .int .u8 0, .int .u8 0, .int .u8 0, .int .u8 0, .int .u8 0, .int .u8 0, .int .u8 0, .int .u8 0, .int .u8 0, .int .u8 0, .int .u8 0, .int .u8 0, .int .u8 0, .int .u8 0, .int .u8 0, .int .u8 0, .int .u8 0, .int .u8 0, .int .u8 0, .int .u8 0, .int .u8 0, .int .u8 0, .int .u8 0, .int .u8 0, .int .u8 0, .int .u8 0, .int .u8 0, .int .u8 0, .int .u8 0, .int .u8 0, .int .u8 0, .int .u8 0, .slice none 0 0] []) <|
 qg 93 90 true (.call F.clapperref17_Same [(.t 91), (.t 92)]) <|
 q 94 (.pick (.t 90) (.t 93) (cb false)) <|
 q 4 (.mv (.t 94)) <|
 .keep [4] <|
 .ret)
 (.done) <|
 q 95 (.mv (.t 5)) <|
 q 96 (.mv (.t 95)) <|
 qg 97 96 true (.mv (.t 9)) <|
 qg 98 96 true (.eq false .i (.t 97) (.c (.nilIface))) <|
 q 99 (.pick (.t 96) (.t 98) (cb false)) <|
 q 100 (.mv (.t 99)) <|
 qg 101 100 true (.mv (.t 15)) <|
 qg 102 100 true (.eq false .i (.t 101) (.c (.nilIface))) <|
 q 103 (.pick (.t 100) (.t 102) (cb false)) <|
 q 104 (.mv (.t 103)) <|
 qg 105 104 true (.load true 41 (.t 14)) <|
 qg 106 104 true (.load true 41 (.t 10)) <|
 qg 107 104 true (.call F.clapperref17_Same [(.t 105), (.t 106)]) <|
 q 108 (.pick (.t 104) (.t 107) (cb false)) <|
 q 4 (.mv (.t 108)) <|
 .keep [4] <|
 .ret
theorem e_clapperlaw17_RecordOpens:EF false F.clapperlaw17_RecordOpens ic_clapperlaw17_RecordOpens [.t 4]:=ef [] Tryz.func8 (by kernel_rfl) (by kernel_rfl) (by kernel_rfl)
def ic_clapperlaw17_up : IC :=
 q 0 (.mv (cb false)) <|
 .keep [] <|
 q 8 (.call F.record_Open [(.c (.slice none 0 0))]) <|
 q 7 (.mv (.t 8)) <|
 q 9 (.ext (.t 7) 0) <|
 q 10 (.ext (.t 7) 1) <|
 q 11 (.ext (.t 7) 2) <|
 q 12 (.ext (.t 7) 3) <|
 q 1 (.alloc [.int .i64 0, .int .i64 0, .int .i64 0, .int .i64 0, .int .i64 0, .int .i64 0, .int .i64 0, .int .i64 0, .int .u8 0, .int .u8 0, .int .u8 0, .int .u8 0, .int .u8 0, .int .u8 0, .int .u8 0, .int .u8 0, .int .u8 0, .int .u8 0, .int .u8 0, .int .u8 0, .int .u8 0, .int .u8 0, .int .u8 0, .int .u8 0, .int .u8 0, .int .u8 0, .int .u8 0, .int .u8 0, .int .u8 0, .int .u8 0, .int .u8 0, .int .u8 0, .int .u8 0, .int .u8 0, .int .u8 0, .int .u8 0, .int .u8 0, .int .u8 0, .int .u8 0, .int .u8 0, .slice none 0 0]) <|
 q 2 (.alloc (List.replicate 32 (.int .u8 0))) <|
 q 3 (.alloc (List.replicate 8 (.int .u64 0))) <|
 qn (.store 41 (.t 1) (.t 9)) <|
 qn (.store 32 (.t 2) (.t 10)) <|
 qn (.store 8 (.t 3) (.t 11)) <|
 q 4 (.mv (.t 12)) <|
 .keep [4] <|
 q 14 (.build [.int .i64 0, .int .i64 0, .int .i64 0, .int .i64 0, .int .i64 0, .int .i64 0, .int .i64 0, .int .i64 0, .int .u8 0, .int .u8 0, .int .u8 0, .int .u8 0, .int .u8 0, .int .u8 0, .int .u8 0, .int .u8 0, .int .u8 0, .int .u8 0, .int .u8 0, .int .u8 0, .int .u8 0, .int .u8 0, .int .u8 0, .int .u8 0, .int .u8 0, .int .u8 0, .int .u8 0, .int .u8 0, .int .u8 0, .int .u8 0, .int .u8 0, .int .u8 0, .int .u8 0, .int .u8 0, .int .u8 0, .int .u8 0, .int .u8 0, .int .u8 0, .int .u8 0, .int .u8 0, .slice none 0 0] [(0, 1, (ci 1)), (3, 1, (ci 2))]) <|
 q 15 (.call F.record_Body [(.t 14)]) <|
 q 13 (.mv (.t 15)) <|
 q 16 (.ext (.t 13) 0) <|
 q 17 (.ext (.t 13) 1) <|
 q 5 (.mv (.t 16)) <|
 q 6 (.mv (.t 17)) <|
 .keep [4, 5, 6] <|
 q 18 (.mv (.t 4)) <|
 q 19 (.mkif T.api_Code (ci 2)) <|
 q 20 (.eq false .i (.t 18) (.t 19)) <|
 q 21 (.mv (.t 20)) <|
 qg 22 21 true (.mv (.t 6)) <|
 qg 23 21 true (.eq false .i (.t 22) (.c (.nilIface))) <|
 q 24 (.pick (.t 21) (.t 23) (cb false)) <|
 q 25 (.mv (.t 24)) <|
 qg 26 25 true (.mv (.t 5)) <|
 qg 27 25 true (.len false (.t 26)) <|
 qg 28 25 true (.bin .eql (.t 27) (ci 126)) <|
 q 29 (.pick (.t 25) (.t 28) (cb false)) <|
 q 30 (.mv (.t 29)) <|
 qg 31 30 true (.bslice false 1 1 [.slice none 0 0] [(0, 1, (.c (.slice none 0 0)))]) <|
 qg 32 30 true (.build [.int .u64 0, .int .u64 0, .int .u64 0, .int .u64 0, .int .u64 0, .int .u64 0, .int .u64 0, .int .u64 0, .bool false] []) <|
 qg 33 30 true (.call F.record_Chain [(.t 31), (ci 1), (.t 32)]) <|
 qg 34 30 true (.bin .eql (.t 33) (ci 0)) <|
 q 35 (.pick (.t 30) (.t 34) (cb false)) <|
 q 0 (.mv (.t 35)) <|
 .keep [0] <|
 .ret
theorem e_clapperlaw17_up:EF false F.clapperlaw17_up ic_clapperlaw17_up [.t 0]:=ef [] Tryz.func27 (by kernel_rfl) (by kernel_rfl) (by kernel_rfl)
def ic_record_Chain : IC :=
 q 5 (.box (.t 2)) <|
 q 6 (.mv (ci 0)) <|
 .keep [0, 1, 5] <|
 q 7 (.alloc (List.replicate 32 (.int .u8 0))) <|
 .keep [0, 1, 5, 7] <|
 q 14 (.mv (.t 0)) <|
 q 15 (.len false (.t 14)) <|
 q 16 (.mv (ci 0)) <|
 .keep [0, 1, 5, 7, 14, 15, 16] <|
 .block 0
 (.keep [0, 1, 5, 7, 14, 15, 16] <|
 .loop
 (q 17 (.bin .lss (.t 16) (.t 15)) <|
 .keep [0, 1, 5, 7, 14, 15, 16, 17] <|
 .ite (.t 17)
 (.done)
 (.exit 0) <|
 .block 1
 (q 18 (.mv (.t 16)) <|
 q 19 (.idxa 1 none (.t 14) (.t 16)) <|
 q 20 (.load false 1 (.t 19)) <|
 q 8 (.mv (.t 18)) <|
 q 9 (.mv (.t 20)) <|
 .keep [0, 1, 5, 7, 8, 9, 14, 15, 16] <|
 q 22 (.mv (.t 9)) <|
 q 23 (.call F.record_Open [(.t 22)]) <|
 q 21 (.mv (.t 23)) <|
 q 24 (.ext (.t 21) 0) <|
 q 25 (.ext (.t 21) 1) <|
 q 26 (.ext (.t 21) 2) <|
 q 27 (.ext (.t 21) 3) <|
 q 10 (.alloc [.int .i64 0, .int .i64 0, .int .i64 0, .int .i64 0, .int .i64 0, .int .i64 0, .int .i64 0, .int .i64 0, .int .u8 0, .int .u8 0, .int .u8 0, .int .u8 0, .int .u8 0, .int .u8 0, .int .u8 0, .int .u8 0, .int .u8 0, .int .u8 0, .int .u8 0, .int .u8 0, .int .u8 0, .int .u8 0, .int .u8 0, .int .u8 0, .int .u8 0, .int .u8 0, .int .u8 0, .int .u8 0, .int .u8 0, .int .u8 0, .int .u8 0, .int .u8 0, .int .u8 0, .int .u8 0, .int .u8 0, .int .u8 0, .int .u8 0, .int .u8 0, .int .u8 0, .int .u8 0, .slice none 0 0]) <|
 q 11 (.alloc (List.replicate 32 (.int .u8 0))) <|
 q 12 (.alloc (List.replicate 8 (.int .u64 0))) <|
 qn (.store 41 (.t 10) (.t 24)) <|
 qn (.store 32 (.t 11) (.t 25)) <|
 qn (.store 8 (.t 12) (.t 26)) <|
 q 13 (.mv (.t 27)) <|
 .keep [0, 1, 5, 7, 8, 10, 11, 12, 13, 14, 15, 16] <|
 q 28 (.mv (.t 13)) <|
 q 29 (.eq true .i (.t 28) (.c (.nilIface))) <|
 q 30 (.mv (.t 29)) <|
 qg 31 30 false (.fld 0 (.t 10)) <|
 qg 32 30 false (.load false 1 (.t 31)) <|
 qg 33 30 false (.mv (.t 1)) <|
 qg 34 30 false (.bin .neq (.t 32) (.t 33)) <|
 q 35 (.pick (.t 30) (cb true) (.t 34)) <|
 q 36 (.mv (.t 35)) <|
 qg 37 36 false (.fld 1 (.t 10)) <|
 qg 38 36 false (.load false 1 (.t 37)) <|
 qg 39 36 false (.mv (.t 8)) <|
 qg 40 36 false (.bin .neq (.t 38) (.t 39)) <|
 q 41 (.pick (.t 36) (cb true) (.t 40)) <|
 q 42 (.mv (.t 41)) <|
 qg 43 42 false (.fld 8 (.t 10)) <|
 qg 44 42 false (.load true 32 (.t 43)) <|
 qg 45 42 false (.load true 32 (.t 7)) <|
 qg 46 42 false (.eqagg (List.replicate 32 (some .u8)) true (.t 44) (.t 45)) <|
 q 47 (.pick (.t 42) (cb true) (.t 46)) <|
 q 48 (.mv (.t 47)) <|
 qg 49 48 false (.load true 9 (.t 5)) <|
 qg 50 48 false (.load true 32 (.t 11)) <|
 qg 51 48 false (.load true 8 (.t 12)) <|
 qg 52 48 false (.call F.sign_Verify [(.t 49), (.t 50), (.t 51)]) <|
 qg 53 48 false (.un .not (.t 52)) <|
 q 54 (.pick (.t 48) (cb true) (.t 53)) <|
 .keep [0, 1, 5, 7, 8, 11, 14, 15, 16, 54] <|
 .ite (.t 54)
 (q 55 (.mv (.t 8)) <|
 q 6 (.mv (.t 55)) <|
 .keep [6] <|
 .ret)
 (.done) <|
 q 56 (.load true 32 (.t 11)) <|
 qn (.store 32 (.t 7) (.t 56)) <|
 .keep [0, 1, 5, 7, 14, 15, 16] <|
 .done) <|
 q 57 (.bin .add (.t 16) (ci 1)) <|
 q 16 (.mv (.t 57)) <|
 .keep [0, 1, 5, 7, 14, 15, 16] <|
 .keep [0, 1, 5, 7, 14, 15, 16] <|
 .done)) <|
 q 58 (.mv (.t 0)) <|
 q 59 (.len false (.t 58)) <|
 q 6 (.mv (.t 59)) <|
 .keep [6] <|
 .ret
theorem e_record_Chain:EF false F.record_Chain ic_record_Chain [.t 6]:=ef [] Tryz.func28 (by kernel_rfl) (by kernel_rfl) (by kernel_rfl)
def ic_clapperref17_Chain : IC :=
 q 5 (.box (.t 2)) <|
 q 6 (.mv (ci 0)) <|
 .keep [0, 1, 5] <|
 q 7 (.alloc (List.replicate 32 (.int .u8 0))) <|
 .keep [0, 1, 5, 7] <|
 q 8 (.mv (ci 0)) <|
 .keep [0, 1, 5, 7, 8] <|
 .block 0
 (.keep [0, 1, 5, 7, 8] <|
 .loop
 (q 14 (.mv (.t 8)) <|
 q 15 (.mv (.t 0)) <|
 q 16 (.len false (.t 15)) <|
 q 17 (.bin .lss (.t 14) (.t 16)) <|
 .keep [0, 1, 5, 7, 8, 17] <|
 .ite (.t 17)
 (.done)
 (.exit 0) <|
 .block 1
 (q 21 (.mv (.t 0)) <|
 q 22 (.mv (.t 8)) <|
 q 23 (.idxa 1 none (.t 21) (.t 22)) <|
 q 24 (.load false 1 (.t 23)) <|
 q 25 (.call F.clapperref17_Open [(.t 24)]) <|
 q 20 (.mv (.t 25)) <|
 q 26 (.ext (.t 20) 0) <|
 q 27 (.ext (.t 20) 1) <|
 q 28 (.ext (.t 20) 2) <|
 q 29 (.ext (.t 20) 3) <|
 q 9 (.alloc [.int .i64 0, .int .i64 0, .int .i64 0, .int .i64 0, .int .i64 0, .int .i64 0, .int .i64 0, .int .i64 0, .int .u8 0, .int .u8 0, .int .u8 0, .int .u8 0, .int .u8 0, .int .u8 0, .int .u8 0, .int .u8 0, .int .u8 0, .int .u8 0, .int .u8 0, .int .u8 0, .int .u8 0, .int .u8 0, .int .u8 0, .int .u8 0, .int .u8 0, .int .u8 0, .int .u8 0, .int .u8 0, .int .u8 0, .int .u8 0, .int .u8 0, .int .u8 0, .int .u8 0, .int .u8 0, .int .u8 0, .int .u8 0, .int .u8 0, .int .u8 0, .int .u8 0, .int .u8 0, .slice none 0 0]) <|
 q 10 (.alloc (List.replicate 32 (.int .u8 0))) <|
 q 11 (.alloc (List.replicate 8 (.int .u64 0))) <|
 qn (.store 41 (.t 9) (.t 26)) <|
 qn (.store 32 (.t 10) (.t 27)) <|
 qn (.store 8 (.t 11) (.t 28)) <|
 q 12 (.mv (.t 29)) <|
 .keep [0, 1, 5, 7, 8, 9, 10, 11, 12] <|
 q 30 (.mv (.t 12)) <|
 q 31 (.un .not (.t 30)) <|
 q 32 (.mv (.t 31)) <|
 qg 33 32 false (.fld 0 (.t 9)) <|
 qg 34 32 false (.load false 1 (.t 33)) <|
 qg 35 32 false (.mv (.t 1)) <|
 qg 36 32 false (.bin .neq (.t 34) (.t 35)) <|
 q 37 (.pick (.t 32) (cb true) (.t 36)) <|
 q 38 (.mv (.t 37)) <|
 qg 39 38 false (.fld 1 (.t 9)) <|
 qg 40 38 false (.load false 1 (.t 39)) <|
 qg 41 38 false (.mv (.t 8)) <|
 qg 42 38 false (.bin .neq (.t 40) (.t 41)) <|
 q 43 (.pick (.t 38) (cb true) (.t 42)) <|
 q 44 (.mv (.t 43)) <|
 qg 45 44 false (.fld 8 (.t 9)) <|
 qg 46 44 false (.load true 32 (.t 45)) <|
 qg 47 44 false (.load true 32 (.t 7)) <|
 qg 48 44 false (.eqagg (List.replicate 32 (some .u8)) true (.t 46) (.t 47)) <|
 q 49 (.pick (.t 44) (cb true) (.t 48)) <|
 .keep [0, 1, 5, 7, 8, 10, 11, 49] <|
 .ite (.t 49)
 (q 50 (.mv (.t 8)) <|
 q 6 (.mv (.t 50)) <|
 .keep [6] <|
 .ret)
 (.done) <|
 q 51 (.load true 9 (.t 5)) <|
 q 52 (.load true 32 (.t 10)) <|
 q 53 (.load true 8 (.t 11)) <|
 q 54 (.call F.clapperref07_Verify [(.t 51), (.t 52), (.t 53)]) <|
 q 13 (.mv (.t 54)) <|
 .keep [0, 1, 5, 7, 8, 10, 13] <|
 q 55 (.mv (.t 13)) <|
 q 56 (.un .not (.t 55)) <|
 .keep [0, 1, 5, 7, 8, 10, 56] <|
 .ite (.t 56)
 (q 57 (.mv (.t 8)) <|
 q 6 (.mv (.t 57)) <|
 .keep [6] <|
 .ret)
 (.done) <|
 q 58 (.load true 32 (.t 10)) <|
 qn (.store 32 (.t 7) (.t 58)) <|
 .keep [0, 1, 5, 7, 8] <|
 .done) <|
 q 18 (.mv (.t 8)) <|
 q 19 (.bin .add (.t 18) (ci 1)) <|
 q 8 (.mv (.t 19)) <|
 .keep [0, 1, 5, 7, 8] <|
 .keep [0, 1, 5, 7, 8] <|
 .done)) <|
 q 59 (.mv (.t 0)) <|
 q 60 (.len false (.t 59)) <|
 q 6 (.mv (.t 60)) <|
 .keep [6] <|
 .ret
theorem e_clapperref17_Chain:EF false F.clapperref17_Chain ic_clapperref17_Chain [.t 6]:=ef [] Tryz.func29 (by kernel_rfl) (by kernel_rfl) (by kernel_rfl)
def ic_record_Open : IC :=
 q 2 (.alloc [.int .i64 0, .int .i64 0, .int .i64 0, .int .i64 0, .int .i64 0, .int .i64 0, .int .i64 0, .int .i64 0, .int .u8 0, .int .u8 0, .int .u8 0, .int .u8 0, .int .u8 0, .int .u8 0, .int .u8 0, .int .u8 0, .int .u8 0, .int .u8 0, .int .u8 0, .int .u8 0, .int .u8 0, .int .u8 0, .int .u8 0, .int .u8 0, .int .u8 0, .int .u8 0, .int .u8 0, .int .u8 0, .int .u8 0, .int .u8 0, .int .u8 0, .int .u8 0, .int .u8 0, .int .u8 0, .int .u8 0, .int .u8 0, .int .u8 0, .int .u8 0, .int .u8 0, .int .u8 0, .slice none 0 0]) <|
 q 3 (.alloc (List.replicate 32 (.int .u8 0))) <|
 q 4 (.alloc (List.replicate 8 (.int .u64 0))) <|
 q 5 (.mv (.c (.nilIface))) <|
 .keep [0, 2, 3, 4] <|
 q 10 (.mv (.t 0)) <|
 q 11 (.call F.record_fields [(.t 10), (ci 2)]) <|
 q 6 (.mv (.t 11)) <|
 .keep [2, 3, 4, 6] <|
 q 12 (.mv (.t 6)) <|
 q 13 (.len false (.t 12)) <|
 q 14 (.bin .eql (.t 13) (ci 0)) <|
 .keep [2, 3, 4, 6, 14] <|
 .ite (.t 14)
 (q 15 (.build [.int .i64 0, .int .i64 0, .int .i64 0, .int .i64 0, .int .i64 0, .int .i64 0, .int .i64 0, .int .i64 0, .int .u8 0, .int .u8 0, .int .u8 0, .int .u8 0, .int .u8 0, .int .u8 0, .int .u8 0, .int .u8 0, .int .u8 0, .int .u8 0, .int .u8 0, .int .u8 0, .int .u8 0, .int .u8 0, .int .u8 0, .int .u8 0, .int .u8 0, .int .u8 0, .int .u8 0, .int .u8 0, .int .u8 0, .int .u8 0, .int .u8 0, .int .u8 0, .int .u8 0, .int .u8 0, .int .u8 0, .int .u8 0, .int .u8 0, .int .u8 0, .int .u8 0, .int .u8 0, .slice none 0 0] []) <|
 q 16 (.build (List.replicate 32 (.int .u8 0)) []) <|
 q 17 (.build (List.replicate 8 (.int .u64 0)) []) <|
 q 18 (.mkif T.api_Code (ci 2)) <|
 qn (.store 41 (.t 2) (.t 15)) <|
 qn (.store 32 (.t 3) (.t 16)) <|
 qn (.store 8 (.t 4) (.t 17)) <|
 q 5 (.mv (.t 18)) <|
 .keep [2, 3, 4, 5] <|
 .ret)
 (.done) <|
 q 19 (.mv (.t 6)) <|
 q 20 (.idxa 1 none (.t 19) (ci 0)) <|
 q 21 (.load false 1 (.t 20)) <|
 q 22 (.call F.record_read [(.t 21)]) <|
 q 7 (.alloc [.int .i64 0, .int .i64 0, .int .i64 0, .int .i64 0, .int .i64 0, .int .i64 0, .int .i64 0, .int .i64 0, .int .u8 0, .int .u8 0, .int .u8 0, .int .u8 0, .int .u8 0, .int .u8 0, .int .u8 0, .int .u8 0, .int .u8 0, .int .u8 0, .int .u8 0, .int .u8 0, .int .u8 0, .int .u8 0, .int .u8 0, .int .u8 0, .int .u8 0, .int .u8 0, .int .u8 0, .int .u8 0, .int .u8 0, .int .u8 0, .int .u8 0, .int .u8 0, .int .u8 0, .int .u8 0, .int .u8 0, .int .u8 0, .int .u8 0, .int .u8 0, .int .u8 0, .int .u8 0, .slice none 0 0]) <|
 qn (.store 41 (.t 7) (.t 22)) <|
 .keep [2, 3, 4, 6, 7] <|
 q 24 (.mv (.t 6)) <|
 q 25 (.idxa 1 none (.t 24) (ci 1)) <|
 q 26 (.load false 1 (.t 25)) <|
 q 27 (.call F.sign_Parse [(.t 26)]) <|
 q 23 (.mv (.t 27)) <|
 q 28 (.ext (.t 23) 0) <|
 q 29 (.ext (.t 23) 1) <|
 q 8 (.alloc (List.replicate 8 (.int .u64 0))) <|
 qn (.store 8 (.t 8) (.t 28)) <|
 q 9 (.mv (.t 29)) <|
 .keep [2, 3, 4, 6, 7, 8, 9] <|
 q 30 (.mv (.t 9)) <|
 q 31 (.eq true .i (.t 30) (.c (.nilIface))) <|
 q 32 (.mv (.t 31)) <|
 qg 33 32 false (.load true 41 (.t 7)) <|
 qg 34 32 false (.call F.record_May [(.t 33)]) <|
 qg 35 32 false (.un .not (.t 34)) <|
 q 36 (.pick (.t 32) (cb true) (.t 35)) <|
 .keep [2, 3, 4, 6, 7, 8, 36] <|
 .ite (.t 36)
 (q 37 (.build [.int .i64 0, .int .i64 0, .int .i64 0, .int .i64 0, .int .i64 0, .int .i64 0, .int .i64 0, .int .i64 0, .int .u8 0, .int .u8 0, .int .u8 0, .int .u8 0, .int .u8 0, .int .u8 0, .int .u8 0, .int .u8 0, .int .u8 0, .int .u8 0, .int .u8 0, .int .u8 0, .int .u8 0, .int .u8 0, .int .u8 0, .int .u8 0, .int .u8 0, .int .u8 0, .int .u8 0, .int .u8 0, .int .u8 0, .int .u8 0, .int .u8 0, .int .u8 0, .int .u8 0, .int .u8 0, .int .u8 0, .int .u8 0, .int .u8 0, .int .u8 0, .int .u8 0, .int .u8 0, .slice none 0 0] []) <|
 q 38 (.build (List.replicate 32 (.int .u8 0)) []) <|
 q 39 (.build (List.replicate 8 (.int .u64 0)) []) <|
 q 40 (.mkif T.api_Code (ci 2)) <|
 qn (.store 41 (.t 2) (.t 37)) <|
 qn (.store 32 (.t 3) (.t 38)) <|
 qn (.store 8 (.t 4) (.t 39)) <|
 q 5 (.mv (.t 40)) <|
 .keep [2, 3, 4, 5] <|
 .ret)
 (.done) <|
 .reg 0
 [xe 41 (.load true 41 (.t 7)) [],
 xe 42 (.mv (.t 6)) [],
 xe 43 (.idxa 1 none (.t 42) (ci 0)) [],
 xe 44 (.load false 1 (.t 43)) [],
 xe 45 (.call F.sha_Sum [(.t 44)]) [],
 xe 46 (.load true 8 (.t 8)) [],
 xln (.store 41 (.t 2) (.t 41)) [(.t 8)],
 xln (.store 32 (.t 3) (.t 45)) [(.t 8)],
 xln (.store 8 (.t 4) (.t 46)) [],
 xl 5 (.mv (.c (.nilIface))) []] <|
 .keep [2, 3, 4, 5] <|
 .ret
theorem e_record_Open:EF false F.record_Open ic_record_Open [.c 2 true 41,.c 3 true 32,.c 4 true 8,.t 5]:=ef [] Tryz.func34 (by kernel_rfl) (by kernel_rfl) (by kernel_rfl)
def ic_clapperref17_Open_129 : IC :=
 q 129 (.load true 41 (.t 15)) <|
 q 130 (.call F.clapperref17_May [(.t 129)]) <|
 q 17 (.mv (.t 130)) <|
 .keep [2, 3, 4, 6, 7, 8, 15, 17] <|
 q 131 (.mv (.t 17)) <|
 q 132 (.un .not (.t 131)) <|
 .keep [2, 3, 4, 6, 7, 8, 15, 132] <|
 .ite (.t 132)
 (.reg 0
 [xe 133 (.build [.int .i64 0, .int .i64 0, .int .i64 0, .int .i64 0, .int .i64 0, .int .i64 0, .int .i64 0, .int .i64 0, .int .u8 0, .int .u8 0, .int .u8 0, .int .u8 0, .int .u8 0, .int .u8 0, .int .u8 0, .int .u8 0, .int .u8 0, .int .u8 0, .int .u8 0, .int .u8 0, .int .u8 0, .int .u8 0, .int .u8 0, .int .u8 0, .int .u8 0, .int .u8 0, .int .u8 0, .int .u8 0, .int .u8 0, .int .u8 0, .int .u8 0, .int .u8 0, .int .u8 0, .int .u8 0, .int .u8 0, .int .u8 0, .int .u8 0, .int .u8 0, .int .u8 0, .int .u8 0, .slice none 0 0] []) [],
 xe 134 (.load true 32 (.t 6)) [],
 xe 135 (.build (List.replicate 8 (.int .u64 0)) []) [],
 xln (.store 41 (.t 2) (.t 133)) [(.t 6)],
 xln (.store 32 (.t 3) (.t 134)) [],
 xln (.store 8 (.t 4) (.t 135)) [],
 xl 5 (.mv (cb false)) []] <|
 .keep [2, 3, 4, 5] <|
 .ret)
 (.done) <|
 .reg 0
 [xe 136 (.load true 41 (.t 15)) [],
 xe 137 (.mv (.t 7)) [],
 xe 138 (.call F.clapperref03_Sum [(.t 137)]) [],
 xe 139 (.load true 8 (.t 8)) [],
 xln (.store 41 (.t 2) (.t 136)) [(.t 8)],
 xln (.store 32 (.t 3) (.t 138)) [(.t 8)],
 xln (.store 8 (.t 4) (.t 139)) [],
 xl 5 (.mv (cb true)) []] <|
 .keep [2, 3, 4, 5] <|
 .ret
def ic_clapperref17_Open_16 : IC :=
 q 16 (.mv (ci 0)) <|
 .keep [2, 3, 4, 6, 7, 8, 10, 15, 16] <|
 .block 2
 (.keep [2, 3, 4, 6, 7, 8, 10, 15, 16] <|
 .loop
 (q 115 (.mv (.t 16)) <|
 q 116 (.bin .lss (.t 115) (ci 32)) <|
 .keep [2, 3, 4, 6, 7, 8, 10, 15, 16, 116] <|
 .ite (.t 116)
 (.done)
 (.exit 2) <|
 .block 3
 (q 119 (.mv (.t 16)) <|
 q 120 (.mv (.t 10)) <|
 q 121 (.idxa 2 none (.t 120) (ci 8)) <|
 q 122 (.fld 1 (.t 121)) <|
 q 123 (.load false 1 (.t 122)) <|
 q 124 (.mv (.t 16)) <|
 q 125 (.idxa 1 none (.t 123) (.t 124)) <|
 q 126 (.load false 1 (.t 125)) <|
 q 127 (.fld 8 (.t 15)) <|
 q 128 (.idxa 1 (some 32) (.t 127) (.t 119)) <|
 qn (.store 1 (.t 128) (.t 126)) <|
 .keep [2, 3, 4, 6, 7, 8, 10, 15, 16] <|
 .done) <|
 q 117 (.mv (.t 16)) <|
 q 118 (.bin .add (.t 117) (ci 1)) <|
 q 16 (.mv (.t 118)) <|
 .keep [2, 3, 4, 6, 7, 8, 10, 15, 16] <|
 .keep [2, 3, 4, 6, 7, 8, 10, 15, 16] <|
 .done)) <|
 ic_clapperref17_Open_129
def ic_clapperref17_Open_77 : IC :=
 q 77 (.mv (.t 10)) <|
 q 78 (.idxa 2 none (.t 77) (ci 8)) <|
 q 79 (.fld 1 (.t 78)) <|
 q 80 (.load false 1 (.t 79)) <|
 q 81 (.len false (.t 80)) <|
 q 82 (.bin .neq (.t 81) (ci 32)) <|
 .keep [2, 3, 4, 6, 7, 8, 10, 12, 82] <|
 .ite (.t 82)
 (.reg 0
 [xe 83 (.build [.int .i64 0, .int .i64 0, .int .i64 0, .int .i64 0, .int .i64 0, .int .i64 0, .int .i64 0, .int .i64 0, .int .u8 0, .int .u8 0, .int .u8 0, .int .u8 0, .int .u8 0, .int .u8 0, .int .u8 0, .int .u8 0, .int .u8 0, .int .u8 0, .int .u8 0, .int .u8 0, .int .u8 0, .int .u8 0, .int .u8 0, .int .u8 0, .int .u8 0, .int .u8 0, .int .u8 0, .int .u8 0, .int .u8 0, .int .u8 0, .int .u8 0, .int .u8 0, .int .u8 0, .int .u8 0, .int .u8 0, .int .u8 0, .int .u8 0, .int .u8 0, .int .u8 0, .int .u8 0, .slice none 0 0] []) [],
 xe 84 (.load true 32 (.t 6)) [],
 xe 85 (.build (List.replicate 8 (.int .u64 0)) []) [],
 xln (.store 41 (.t 2) (.t 83)) [(.t 6)],
 xln (.store 32 (.t 3) (.t 84)) [],
 xln (.store 8 (.t 4) (.t 85)) [],
 xl 5 (.mv (cb false)) []] <|
 .keep [2, 3, 4, 5] <|
 .ret)
 (.done) <|
 .reg 1
 [xe 86 (.mv (.t 12)) [],
 xe 87 (.idxa 1 none (.t 86) (ci 0)) [],
 xe 88 (.load false 1 (.t 87)) [],
 xe 89 (.mv (.t 12)) [],
 xe 90 (.idxa 1 none (.t 89) (ci 1)) [],
 xe 91 (.load false 1 (.t 90)) [],
 xe 92 (.mv (.t 12)) [],
 xe 93 (.idxa 1 none (.t 92) (ci 2)) [],
 xe 94 (.load false 1 (.t 93)) [],
 xe 95 (.mv (.t 12)) [],
 xe 96 (.idxa 1 none (.t 95) (ci 3)) [],
 xe 97 (.load false 1 (.t 96)) [],
 xe 98 (.mv (.t 12)) [],
 xe 99 (.idxa 1 none (.t 98) (ci 4)) [],
 xe 100 (.load false 1 (.t 99)) [],
 xe 101 (.mv (.t 12)) [],
 xe 102 (.idxa 1 none (.t 101) (ci 5)) [],
 xe 103 (.load false 1 (.t 102)) [],
 xe 104 (.mv (.t 12)) [],
 xe 105 (.idxa 1 none (.t 104) (ci 6)) [],
 xe 106 (.load false 1 (.t 105)) [],
 xe 107 (.mv (.t 12)) [],
 xe 108 (.idxa 1 none (.t 107) (ci 7)) [],
 xe 109 (.load false 1 (.t 108)) [],
 xe 110 (.mv (.t 10)) [],
 xe 111 (.idxa 2 none (.t 110) (ci 9)) [],
 xe 112 (.fld 1 (.t 111)) [],
 xe 113 (.load false 1 (.t 112)) [],
 xe 114 (.build [.int .i64 0, .int .i64 0, .int .i64 0, .int .i64 0, .int .i64 0, .int .i64 0, .int .i64 0, .int .i64 0, .int .u8 0, .int .u8 0, .int .u8 0, .int .u8 0, .int .u8 0, .int .u8 0, .int .u8 0, .int .u8 0, .int .u8 0, .int .u8 0, .int .u8 0, .int .u8 0, .int .u8 0, .int .u8 0, .int .u8 0, .int .u8 0, .int .u8 0, .int .u8 0, .int .u8 0, .int .u8 0, .int .u8 0, .int .u8 0, .int .u8 0, .int .u8 0, .int .u8 0, .int .u8 0, .int .u8 0, .int .u8 0, .int .u8 0, .int .u8 0, .int .u8 0, .int .u8 0, .slice none 0 0] [(0, 1, (.t 88)), (1, 1, (.t 91)), (2, 1, (.t 94)), (3, 1, (.t 97)), (4, 1, (.t 100)), (5, 1, (.t 103)), (6, 1, (.t 106)), (7, 1, (.t 109)), (40, 1, (.t 113))]) [],
 xa 0 15 (.alloc [.int .i64 0, .int .i64 0, .int .i64 0, .int .i64 0, .int .i64 0, .int .i64 0, .int .i64 0, .int .i64 0, .int .u8 0, .int .u8 0, .int .u8 0, .int .u8 0, .int .u8 0, .int .u8 0, .int .u8 0, .int .u8 0, .int .u8 0, .int .u8 0, .int .u8 0, .int .u8 0, .int .u8 0, .int .u8 0, .int .u8 0, .int .u8 0, .int .u8 0, .int .u8 0, .int .u8 0, .int .u8 0, .int .u8 0, .int .u8 0, .int .u8 0, .int .u8 0, .int .u8 0, .int .u8 0, .int .u8 0, .int .u8 0, .int .u8 0, .int .u8 0, .int .u8 0, .int .u8 0, .slice none 0 0]),
 xln (.store 41 (.t 15) (.t 114)) []] <|
 .keep [2, 3, 4, 6, 7, 8, 10, 15] <|
 ic_clapperref17_Open_16
def ic_clapperref17_Open_12 : IC :=
 q 12 (.mv (.c (.slice none 0 0))) <|
 .keep [2, 3, 4, 6, 7, 8, 10, 12] <|
 q 13 (.mv (ci 0)) <|
 .keep [2, 3, 4, 6, 7, 8, 10, 12, 13] <|
 .block 0
 (.keep [2, 3, 4, 6, 7, 8, 10, 12, 13] <|
 .loop
 (q 43 (.mv (.t 13)) <|
 q 44 (.bin .lss (.t 43) (ci 10)) <|
 .keep [2, 3, 4, 6, 7, 8, 10, 12, 13, 44] <|
 .ite (.t 44)
 (.done)
 (.exit 0) <|
 .block 1
 (q 47 (.mv (.t 10)) <|
 q 48 (.mv (.t 13)) <|
 q 49 (.idxa 2 none (.t 47) (.t 48)) <|
 q 50 (.fld 0 (.t 49)) <|
 q 51 (.load false 1 (.t 50)) <|
 q 52 (.mv (.t 13)) <|
 q 53 (.bin .add (.t 52) (ci 1)) <|
 q 54 (.bin .neq (.t 51) (.t 53)) <|
 .keep [2, 3, 4, 6, 7, 8, 10, 12, 13, 54] <|
 .ite (.t 54)
 (.reg 0
 [xe 55 (.build [.int .i64 0, .int .i64 0, .int .i64 0, .int .i64 0, .int .i64 0, .int .i64 0, .int .i64 0, .int .i64 0, .int .u8 0, .int .u8 0, .int .u8 0, .int .u8 0, .int .u8 0, .int .u8 0, .int .u8 0, .int .u8 0, .int .u8 0, .int .u8 0, .int .u8 0, .int .u8 0, .int .u8 0, .int .u8 0, .int .u8 0, .int .u8 0, .int .u8 0, .int .u8 0, .int .u8 0, .int .u8 0, .int .u8 0, .int .u8 0, .int .u8 0, .int .u8 0, .int .u8 0, .int .u8 0, .int .u8 0, .int .u8 0, .int .u8 0, .int .u8 0, .int .u8 0, .int .u8 0, .slice none 0 0] []) [],
 xe 56 (.load true 32 (.t 6)) [],
 xe 57 (.build (List.replicate 8 (.int .u64 0)) []) [],
 xln (.store 41 (.t 2) (.t 55)) [(.t 6)],
 xln (.store 32 (.t 3) (.t 56)) [],
 xln (.store 8 (.t 4) (.t 57)) [],
 xl 5 (.mv (cb false)) []] <|
 .keep [2, 3, 4, 5] <|
 .ret)
 (.done) <|
 q 58 (.mv (.t 10)) <|
 q 59 (.mv (.t 13)) <|
 q 60 (.idxa 2 none (.t 58) (.t 59)) <|
 q 61 (.fld 1 (.t 60)) <|
 q 62 (.load false 1 (.t 61)) <|
 q 63 (.call F.clapperref08_Of [(.t 62)]) <|
 q 14 (.mv (.t 63)) <|
 .keep [2, 3, 4, 6, 7, 8, 10, 12, 13, 14] <|
 q 64 (.mv (.t 14)) <|
 q 65 (.bin .lss (.t 64) (ci 0)) <|
 q 66 (.mv (.t 65)) <|
 qg 67 66 true (.mv (.t 13)) <|
 qg 68 66 true (.bin .lss (.t 67) (ci 8)) <|
 q 69 (.pick (.t 66) (.t 68) (cb false)) <|
 .keep [2, 3, 4, 6, 7, 8, 10, 12, 13, 14, 69] <|
 .ite (.t 69)
 (.reg 0
 [xe 70 (.build [.int .i64 0, .int .i64 0, .int .i64 0, .int .i64 0, .int .i64 0, .int .i64 0, .int .i64 0, .int .i64 0, .int .u8 0, .int .u8 0, .int .u8 0, .int .u8 0, .int .u8 0, .int .u8 0, .int .u8 0, .int .u8 0, .int .u8 0, .int .u8 0, .int .u8 0, .int .u8 0, .int .u8 0, .int .u8 0, .int .u8 0, .int .u8 0, .int .u8 0, .int .u8 0, .int .u8 0, .int .u8 0, .int .u8 0, .int .u8 0, .int .u8 0, .int .u8 0, .int .u8 0, .int .u8 0, .int .u8 0, .int .u8 0, .int .u8 0, .int .u8 0, .int .u8 0, .int .u8 0, .slice none 0 0] []) [],
 xe 71 (.load true 32 (.t 6)) [],
 xe 72 (.build (List.replicate 8 (.int .u64 0)) []) [],
 xln (.store 41 (.t 2) (.t 70)) [(.t 6)],
 xln (.store 32 (.t 3) (.t 71)) [],
 xln (.store 8 (.t 4) (.t 72)) [],
 xl 5 (.mv (cb false)) []] <|
 .keep [2, 3, 4, 5] <|
 .ret)
 (.done) <|
 q 73 (.mv (.t 12)) <|
 q 74 (.mv (.t 14)) <|
 q 75 (.bslice false 1 1 [.int .i64 0] [(0, 1, (.t 74))]) <|
 q 76 (.append 1 8 (.t 73) (.t 75)) <|
 q 12 (.mv (.t 76)) <|
 .keep [2, 3, 4, 6, 7, 8, 10, 12, 13] <|
 .done) <|
 q 45 (.mv (.t 13)) <|
 q 46 (.bin .add (.t 45) (ci 1)) <|
 q 13 (.mv (.t 46)) <|
 .keep [2, 3, 4, 6, 7, 8, 10, 12, 13] <|
 .keep [2, 3, 4, 6, 7, 8, 10, 12, 13] <|
 .done)) <|
 ic_clapperref17_Open_77
def ic_clapperref17_Open : IC :=
 q 2 (.alloc [.int .i64 0, .int .i64 0, .int .i64 0, .int .i64 0, .int .i64 0, .int .i64 0, .int .i64 0, .int .i64 0, .int .u8 0, .int .u8 0, .int .u8 0, .int .u8 0, .int .u8 0, .int .u8 0, .int .u8 0, .int .u8 0, .int .u8 0, .int .u8 0, .int .u8 0, .int .u8 0, .int .u8 0, .int .u8 0, .int .u8 0, .int .u8 0, .int .u8 0, .int .u8 0, .int .u8 0, .int .u8 0, .int .u8 0, .int .u8 0, .int .u8 0, .int .u8 0, .int .u8 0, .int .u8 0, .int .u8 0, .int .u8 0, .int .u8 0, .int .u8 0, .int .u8 0, .int .u8 0, .slice none 0 0]) <|
 q 3 (.alloc (List.replicate 32 (.int .u8 0))) <|
 q 4 (.alloc (List.replicate 8 (.int .u64 0))) <|
 q 5 (.mv (cb false)) <|
 .keep [0, 2, 3, 4] <|
 q 6 (.alloc (List.replicate 32 (.int .u8 0))) <|
 .keep [0, 2, 3, 4, 6] <|
 q 19 (.mv (.t 0)) <|
 q 20 (.call F.clapperref09_Parts [(.t 19)]) <|
 q 18 (.mv (.t 20)) <|
 q 21 (.ext (.t 18) 0) <|
 q 22 (.ext (.t 18) 1) <|
 q 23 (.ext (.t 18) 2) <|
 q 8 (.alloc (List.replicate 8 (.int .u64 0))) <|
 q 7 (.mv (.t 21)) <|
 qn (.store 8 (.t 8) (.t 22)) <|
 q 9 (.mv (.t 23)) <|
 .keep [2, 3, 4, 6, 7, 8, 9] <|
 q 25 (.mv (.t 7)) <|
 q 26 (.call F.clapperref08_Get [(.t 25)]) <|
 q 24 (.mv (.t 26)) <|
 q 27 (.ext (.t 24) 0) <|
 q 28 (.ext (.t 24) 1) <|
 q 10 (.mv (.t 27)) <|
 q 11 (.mv (.t 28)) <|
 .keep [2, 3, 4, 6, 7, 8, 9, 10, 11] <|
 q 29 (.mv (.t 9)) <|
 q 30 (.un .not (.t 29)) <|
 q 31 (.mv (.t 30)) <|
 qg 32 31 false (.mv (.t 11)) <|
 qg 33 31 false (.un .not (.t 32)) <|
 q 34 (.pick (.t 31) (cb true) (.t 33)) <|
 q 35 (.mv (.t 34)) <|
 qg 36 35 false (.mv (.t 10)) <|
 qg 37 35 false (.len false (.t 36)) <|
 qg 38 35 false (.bin .neq (.t 37) (ci 10)) <|
 q 39 (.pick (.t 35) (cb true) (.t 38)) <|
 .keep [2, 3, 4, 6, 7, 8, 10, 39] <|
 .ite (.t 39)
 (.reg 0
 [xe 40 (.build [.int .i64 0, .int .i64 0, .int .i64 0, .int .i64 0, .int .i64 0, .int .i64 0, .int .i64 0, .int .i64 0, .int .u8 0, .int .u8 0, .int .u8 0, .int .u8 0, .int .u8 0, .int .u8 0, .int .u8 0, .int .u8 0, .int .u8 0, .int .u8 0, .int .u8 0, .int .u8 0, .int .u8 0, .int .u8 0, .int .u8 0, .int .u8 0, .int .u8 0, .int .u8 0, .int .u8 0, .int .u8 0, .int .u8 0, .int .u8 0, .int .u8 0, .int .u8 0, .int .u8 0, .int .u8 0, .int .u8 0, .int .u8 0, .int .u8 0, .int .u8 0, .int .u8 0, .int .u8 0, .slice none 0 0] []) [],
 xe 41 (.load true 32 (.t 6)) [],
 xe 42 (.build (List.replicate 8 (.int .u64 0)) []) [],
 xln (.store 41 (.t 2) (.t 40)) [(.t 6)],
 xln (.store 32 (.t 3) (.t 41)) [],
 xln (.store 8 (.t 4) (.t 42)) [],
 xl 5 (.mv (cb false)) []] <|
 .keep [2, 3, 4, 5] <|
 .ret)
 (.done) <|
 ic_clapperref17_Open_12
theorem e_clapperref17_Open:EF false F.clapperref17_Open ic_clapperref17_Open [.c 2 true 41,.c 3 true 32,.c 4 true 8,.t 5]:=ef [] Tryz.func35 (by kernel_rfl) (by kernel_rfl) (by kernel_rfl)
def ic_record_Check : IC :=
 q 3 (.box (.t 1)) <|
 q 4 (.alloc [.int .i64 0, .int .i64 0, .int .i64 0, .int .i64 0, .int .i64 0, .int .i64 0, .int .i64 0, .int .i64 0, .int .u8 0, .int .u8 0, .int .u8 0, .int .u8 0, .int .u8 0, .int .u8 0, .int .u8 0, .int .u8 0, .int .u8 0, .int .u8 0, .int .u8 0, .int .u8 0, .int .u8 0, .int .u8 0, .int .u8 0, .int .u8 0, .int .u8 0, .int .u8 0, .int .u8 0, .int .u8 0, .int .u8 0, .int .u8 0, .int .u8 0, .int .u8 0, .int .u8 0, .int .u8 0, .int .u8 0, .int .u8 0, .int .u8 0, .int .u8 0, .int .u8 0, .int .u8 0, .slice none 0 0]) <|
 q 5 (.mv (.c (.nilIface))) <|
 .keep [0, 3, 4] <|
 q 11 (.mv (.t 0)) <|
 q 12 (.call F.record_Open [(.t 11)]) <|
 q 10 (.mv (.t 12)) <|
 q 13 (.ext (.t 10) 0) <|
 q 14 (.ext (.t 10) 1) <|
 q 15 (.ext (.t 10) 2) <|
 q 16 (.ext (.t 10) 3) <|
 q 6 (.alloc [.int .i64 0, .int .i64 0, .int .i64 0, .int .i64 0, .int .i64 0, .int .i64 0, .int .i64 0, .int .i64 0, .int .u8 0, .int .u8 0, .int .u8 0, .int .u8 0, .int .u8 0, .int .u8 0, .int .u8 0, .int .u8 0, .int .u8 0, .int .u8 0, .int .u8 0, .int .u8 0, .int .u8 0, .int .u8 0, .int .u8 0, .int .u8 0, .int .u8 0, .int .u8 0, .int .u8 0, .int .u8 0, .int .u8 0, .int .u8 0, .int .u8 0, .int .u8 0, .int .u8 0, .int .u8 0, .int .u8 0, .int .u8 0, .int .u8 0, .int .u8 0, .int .u8 0, .int .u8 0, .slice none 0 0]) <|
 q 7 (.alloc (List.replicate 32 (.int .u8 0))) <|
 q 8 (.alloc (List.replicate 8 (.int .u64 0))) <|
 qn (.store 41 (.t 6) (.t 13)) <|
 qn (.store 32 (.t 7) (.t 14)) <|
 qn (.store 8 (.t 8) (.t 15)) <|
 q 9 (.mv (.t 16)) <|
 .keep [3, 4, 6, 7, 8, 9] <|
 .block 0
 (q 18 (.mv (.t 9)) <|
 q 19 (.eq true .i (.t 18) (.c (.nilIface))) <|
 q 17 (.mv (.t 19)) <|
 .keep [3, 4, 6, 7, 8, 9, 17] <|
 .ite (.t 17)
 (q 20 (.build [.int .i64 0, .int .i64 0, .int .i64 0, .int .i64 0, .int .i64 0, .int .i64 0, .int .i64 0, .int .i64 0, .int .u8 0, .int .u8 0, .int .u8 0, .int .u8 0, .int .u8 0, .int .u8 0, .int .u8 0, .int .u8 0, .int .u8 0, .int .u8 0, .int .u8 0, .int .u8 0, .int .u8 0, .int .u8 0, .int .u8 0, .int .u8 0, .int .u8 0, .int .u8 0, .int .u8 0, .int .u8 0, .int .u8 0, .int .u8 0, .int .u8 0, .int .u8 0, .int .u8 0, .int .u8 0, .int .u8 0, .int .u8 0, .int .u8 0, .int .u8 0, .int .u8 0, .int .u8 0, .slice none 0 0] []) <|
 q 21 (.mv (.t 9)) <|
 qn (.store 41 (.t 4) (.t 20)) <|
 q 5 (.mv (.t 21)) <|
 .keep [4, 5] <|
 .ret)
 (q 23 (.load true 9 (.t 3)) <|
 q 24 (.load true 32 (.t 7)) <|
 q 25 (.load true 8 (.t 8)) <|
 q 26 (.call F.sign_Verify [(.t 23), (.t 24), (.t 25)]) <|
 q 27 (.un .not (.t 26)) <|
 q 22 (.mv (.t 27)) <|
 .keep [4, 6, 22] <|
 .ite (.t 22)
 (q 28 (.build [.int .i64 0, .int .i64 0, .int .i64 0, .int .i64 0, .int .i64 0, .int .i64 0, .int .i64 0, .int .i64 0, .int .u8 0, .int .u8 0, .int .u8 0, .int .u8 0, .int .u8 0, .int .u8 0, .int .u8 0, .int .u8 0, .int .u8 0, .int .u8 0, .int .u8 0, .int .u8 0, .int .u8 0, .int .u8 0, .int .u8 0, .int .u8 0, .int .u8 0, .int .u8 0, .int .u8 0, .int .u8 0, .int .u8 0, .int .u8 0, .int .u8 0, .int .u8 0, .int .u8 0, .int .u8 0, .int .u8 0, .int .u8 0, .int .u8 0, .int .u8 0, .int .u8 0, .int .u8 0, .slice none 0 0] []) <|
 q 29 (.mkif T.api_Code (ci 8)) <|
 qn (.store 41 (.t 4) (.t 28)) <|
 q 5 (.mv (.t 29)) <|
 .keep [4, 5] <|
 .ret)
 (.done) <|
 .done) <|
 .done) <|
 q 30 (.load true 41 (.t 6)) <|
 qn (.store 41 (.t 4) (.t 30)) <|
 q 5 (.mv (.c (.nilIface))) <|
 .keep [4, 5] <|
 .ret
theorem e_record_Check:EF false F.record_Check ic_record_Check [.c 4 true 41,.t 5]:=ef [] Tryz.func36 (by kernel_rfl) (by kernel_rfl) (by kernel_rfl)
def ic_clapperref17_Same : IC :=
 q 2 (.box (.t 0)) <|
 q 3 (.box (.t 1)) <|
 q 4 (.mv (cb false)) <|
 .keep [2, 3] <|
 q 6 (.fld 0 (.t 2)) <|
 q 7 (.load false 1 (.t 6)) <|
 q 8 (.fld 0 (.t 3)) <|
 q 9 (.load false 1 (.t 8)) <|
 q 10 (.bin .eql (.t 7) (.t 9)) <|
 q 11 (.mv (.t 10)) <|
 qg 12 11 true (.fld 1 (.t 2)) <|
 qg 13 11 true (.load false 1 (.t 12)) <|
 qg 14 11 true (.fld 1 (.t 3)) <|
 qg 15 11 true (.load false 1 (.t 14)) <|
 qg 16 11 true (.bin .eql (.t 13) (.t 15)) <|
 q 17 (.pick (.t 11) (.t 16) (cb false)) <|
 q 18 (.mv (.t 17)) <|
 qg 19 18 true (.fld 2 (.t 2)) <|
 qg 20 18 true (.load false 1 (.t 19)) <|
 qg 21 18 true (.fld 2 (.t 3)) <|
 qg 22 18 true (.load false 1 (.t 21)) <|
 qg 23 18 true (.bin .eql (.t 20) (.t 22)) <|
 q 24 (.pick (.t 18) (.t 23) (cb false)) <|
 q 25 (.mv (.t 24)) <|
 qg 26 25 true (.fld 3 (.t 2)) <|
 qg 27 25 true (.load false 1 (.t 26)) <|
 qg 28 25 true (.fld 3 (.t 3)) <|
 qg 29 25 true (.load false 1 (.t 28)) <|
 qg 30 25 true (.bin .eql (.t 27) (.t 29)) <|
 q 31 (.pick (.t 25) (.t 30) (cb false)) <|
 q 32 (.mv (.t 31)) <|
 qg 33 32 true (.fld 4 (.t 2)) <|
 qg 34 32 true (.load false 1 (.t 33)) <|
 qg 35 32 true (.fld 4 (.t 3)) <|
 qg 36 32 true (.load false 1 (.t 35)) <|
 qg 37 32 true (.bin .eql (.t 34) (.t 36)) <|
 q 38 (.pick (.t 32) (.t 37) (cb false)) <|
 q 39 (.mv (.t 38)) <|
 qg 40 39 true (.fld 5 (.t 2)) <|
 qg 41 39 true (.load false 1 (.t 40)) <|
 qg 42 39 true (.fld 5 (.t 3)) <|
 qg 43 39 true (.load false 1 (.t 42)) <|
 qg 44 39 true (.bin .eql (.t 41) (.t 43)) <|
 q 45 (.pick (.t 39) (.t 44) (cb false)) <|
 q 5 (.mv (.t 45)) <|
 .keep [2, 3, 5] <|
 q 46 (.mv (.t 5)) <|
 q 47 (.mv (.t 46)) <|
 qg 48 47 true (.fld 6 (.t 2)) <|
 qg 49 47 true (.load false 1 (.t 48)) <|
 qg 50 47 true (.fld 6 (.t 3)) <|
 qg 51 47 true (.load false 1 (.t 50)) <|
 qg 52 47 true (.bin .eql (.t 49) (.t 51)) <|
 q 53 (.pick (.t 47) (.t 52) (cb false)) <|
 q 54 (.mv (.t 53)) <|
 qg 55 54 true (.fld 7 (.t 2)) <|
 qg 56 54 true (.load false 1 (.t 55)) <|
 qg 57 54 true (.fld 7 (.t 3)) <|
 qg 58 54 true (.load false 1 (.t 57)) <|
 qg 59 54 true (.bin .eql (.t 56) (.t 58)) <|
 q 60 (.pick (.t 54) (.t 59) (cb false)) <|
 q 61 (.mv (.t 60)) <|
 qg 62 61 true (.fld 8 (.t 2)) <|
 qg 63 61 true (.load true 32 (.t 62)) <|
 qg 64 61 true (.fld 8 (.t 3)) <|
 qg 65 61 true (.load true 32 (.t 64)) <|
 qg 66 61 true (.eqagg (List.replicate 32 (some .u8)) false (.t 63) (.t 65)) <|
 q 67 (.pick (.t 61) (.t 66) (cb false)) <|
 q 68 (.mv (.t 67)) <|
 qg 69 68 true (.fld 40 (.t 2)) <|
 qg 70 68 true (.load false 1 (.t 69)) <|
 qg 71 68 true (.b2s (.t 70)) <|
 qg 72 68 true (.fld 40 (.t 3)) <|
 qg 73 68 true (.load false 1 (.t 72)) <|
 qg 74 68 true (.b2s (.t 73)) <|
 qg 75 68 true (.bin .eql (.t 71) (.t 74)) <|
 q 76 (.pick (.t 68) (.t 75) (cb false)) <|
 q 4 (.mv (.t 76)) <|
 .keep [4] <|
 .ret
theorem e_clapperref17_Same:EF false F.clapperref17_Same ic_clapperref17_Same [.t 4]:=ef [] Tryz.func37 (by kernel_rfl) (by kernel_rfl) (by kernel_rfl)
def ic_clapperref17_May : IC :=
 q 1 (.box (.t 0)) <|
 q 2 (.mv (cb false)) <|
 .keep [1] <|
 q 3 (.fld 0 (.t 1)) <|
 q 4 (.load false 1 (.t 3)) <|
 q 5 (.bin .lss (.t 4) (ci 1)) <|
 q 6 (.mv (.t 5)) <|
 qg 7 6 false (.fld 0 (.t 1)) <|
 qg 8 6 false (.load false 1 (.t 7)) <|
 qg 9 6 false (.bin .gtr (.t 8) (ci 2147483647)) <|
 q 10 (.pick (.t 6) (cb true) (.t 9)) <|
 q 11 (.mv (.t 10)) <|
 qg 12 11 false (.fld 1 (.t 1)) <|
 qg 13 11 false (.load false 1 (.t 12)) <|
 qg 14 11 false (.bin .lss (.t 13) (ci 0)) <|
 q 15 (.pick (.t 11) (cb true) (.t 14)) <|
 q 16 (.mv (.t 15)) <|
 qg 17 16 false (.fld 1 (.t 1)) <|
 qg 18 16 false (.load false 1 (.t 17)) <|
 qg 19 16 false (.bin .gtr (.t 18) (ci 1073741824)) <|
 q 20 (.pick (.t 16) (cb true) (.t 19)) <|
 q 21 (.mv (.t 20)) <|
 qg 22 21 false (.fld 2 (.t 1)) <|
 qg 23 21 false (.load false 1 (.t 22)) <|
 qg 24 21 false (.bin .lss (.t 23) (ci 0)) <|
 q 25 (.pick (.t 21) (cb true) (.t 24)) <|
 q 26 (.mv (.t 25)) <|
 qg 27 26 false (.fld 2 (.t 1)) <|
 qg 28 26 false (.load false 1 (.t 27)) <|
 qg 29 26 false (.bin .gtr (.t 28) (ci 1073741824)) <|
 q 30 (.pick (.t 26) (cb true) (.t 29)) <|
 q 31 (.mv (.t 30)) <|
 qg 32 31 false (.fld 4 (.t 1)) <|
 qg 33 31 false (.load false 1 (.t 32)) <|
 qg 34 31 false (.bin .lss (.t 33) (ci 0)) <|
 q 35 (.pick (.t 31) (cb true) (.t 34)) <|
 q 36 (.mv (.t 35)) <|
 qg 37 36 false (.fld 4 (.t 1)) <|
 qg 38 36 false (.load false 1 (.t 37)) <|
 qg 39 36 false (.bin .gtr (.t 38) (ci 31)) <|
 q 40 (.pick (.t 36) (cb true) (.t 39)) <|
 q 41 (.mv (.t 40)) <|
 qg 42 41 false (.fld 5 (.t 1)) <|
 qg 43 41 false (.load false 1 (.t 42)) <|
 qg 44 41 false (.bin .lss (.t 43) (ci 0)) <|
 q 45 (.pick (.t 41) (cb true) (.t 44)) <|
 q 46 (.mv (.t 45)) <|
 qg 47 46 false (.fld 5 (.t 1)) <|
 qg 48 46 false (.load false 1 (.t 47)) <|
 qg 49 46 false (.bin .gtr (.t 48) (ci 7)) <|
 q 50 (.pick (.t 46) (cb true) (.t 49)) <|
 q 51 (.mv (.t 50)) <|
 qg 52 51 false (.fld 6 (.t 1)) <|
 qg 53 51 false (.load false 1 (.t 52)) <|
 qg 54 51 false (.bin .lss (.t 53) (ci 0)) <|
 q 55 (.pick (.t 51) (cb true) (.t 54)) <|
 q 56 (.mv (.t 55)) <|
 qg 57 56 false (.fld 6 (.t 1)) <|
 qg 58 56 false (.load false 1 (.t 57)) <|
 qg 59 56 false (.bin .gtr (.t 58) (ci 2147483647)) <|
 q 60 (.pick (.t 56) (cb true) (.t 59)) <|
 .keep [1, 60] <|
 .ite (.t 60)
 (q 2 (.mv (cb false)) <|
 .keep [2] <|
 .ret)
 (.done) <|
 q 61 (.fld 3 (.t 1)) <|
 q 62 (.load false 1 (.t 61)) <|
 q 63 (.bin .eql (.t 62) (ci 1)) <|
 .keep [1, 63] <|
 .ite (.t 63)
 (q 64 (.fld 7 (.t 1)) <|
 q 65 (.load false 1 (.t 64)) <|
 q 66 (.bin .geq (.t 65) (ci 1)) <|
 q 67 (.mv (.t 66)) <|
 qg 68 67 true (.fld 7 (.t 1)) <|
 qg 69 67 true (.load false 1 (.t 68)) <|
 qg 70 67 true (.bin .leq (.t 69) (ci 7)) <|
 q 71 (.pick (.t 67) (.t 70) (cb false)) <|
 q 72 (.mv (.t 71)) <|
 qg 73 72 true (.fld 40 (.t 1)) <|
 qg 74 72 true (.load false 1 (.t 73)) <|
 qg 75 72 true (.len false (.t 74)) <|
 qg 76 72 true (.bin .leq (.t 75) (ci 500)) <|
 q 77 (.pick (.t 72) (.t 76) (cb false)) <|
 q 2 (.mv (.t 77)) <|
 .keep [2] <|
 .ret)
 (.done) <|
 q 78 (.fld 3 (.t 1)) <|
 q 79 (.load false 1 (.t 78)) <|
 q 80 (.bin .eql (.t 79) (ci 2)) <|
 q 81 (.mv (.t 80)) <|
 qg 82 81 false (.fld 3 (.t 1)) <|
 qg 83 81 false (.load false 1 (.t 82)) <|
 qg 84 81 false (.bin .eql (.t 83) (ci 3)) <|
 q 85 (.pick (.t 81) (cb true) (.t 84)) <|
 q 86 (.mv (.t 85)) <|
 qg 87 86 true (.fld 7 (.t 1)) <|
 qg 88 86 true (.load false 1 (.t 87)) <|
 qg 89 86 true (.bin .eql (.t 88) (ci 0)) <|
 q 90 (.pick (.t 86) (.t 89) (cb false)) <|
 q 91 (.mv (.t 90)) <|
 qg 92 91 true (.fld 40 (.t 1)) <|
 qg 93 91 true (.load false 1 (.t 92)) <|
 qg 94 91 true (.len false (.t 93)) <|
 qg 95 91 true (.bin .eql (.t 94) (ci 0)) <|
 q 96 (.pick (.t 91) (.t 95) (cb false)) <|
 q 2 (.mv (.t 96)) <|
 .keep [2] <|
 .ret
theorem e_clapperref17_May:EF false F.clapperref17_May ic_clapperref17_May [.t 2]:=ef [] Tryz.func55 (by kernel_rfl) (by kernel_rfl) (by kernel_rfl)
def ic_record_Body : IC :=
 q 1 (.box (.t 0)) <|
 q 2 (.mv (.c (.slice none 0 0))) <|
 q 3 (.mv (.c (.nilIface))) <|
 .keep [1] <|
 q 8 (.load true 41 (.t 1)) <|
 q 9 (.call F.record_May [(.t 8)]) <|
 q 10 (.un .not (.t 9)) <|
 .keep [1, 10] <|
 .ite (.t 10)
 (q 11 (.mkif T.api_Code (ci 1)) <|
 q 2 (.mv (.c (.slice none 0 0))) <|
 q 3 (.mv (.t 11)) <|
 .keep [2, 3] <|
 .ret)
 (.done) <|
 q 4 (.alloc [.slice none 0 0]) <|
 .keep [1, 4] <|
 q 12 (.mkfn (.func F.record_Body_1) [] [(.t 4)]) <|
 q 5 (.mv (.t 12)) <|
 .keep [1, 4, 5] <|
 q 13 (.fld 0 (.t 1)) <|
 q 14 (.load false 1 (.t 13)) <|
 q 15 (.fld 1 (.t 1)) <|
 q 16 (.load false 1 (.t 15)) <|
 q 17 (.fld 2 (.t 1)) <|
 q 18 (.load false 1 (.t 17)) <|
 q 19 (.fld 3 (.t 1)) <|
 q 20 (.load false 1 (.t 19)) <|
 q 21 (.fld 4 (.t 1)) <|
 q 22 (.load false 1 (.t 21)) <|
 q 23 (.fld 5 (.t 1)) <|
 q 24 (.load false 1 (.t 23)) <|
 q 25 (.fld 6 (.t 1)) <|
 q 26 (.load false 1 (.t 25)) <|
 q 27 (.fld 7 (.t 1)) <|
 q 28 (.load false 1 (.t 27)) <|
 q 29 (.build (List.replicate 8 (.int .i64 0)) [(0, 1, (.t 14)), (1, 1, (.t 16)), (2, 1, (.t 18)), (3, 1, (.t 20)), (4, 1, (.t 22)), (5, 1, (.t 24)), (6, 1, (.t 26)), (7, 1, (.t 28))]) <|
 q 30 (.mv (ci 0)) <|
 .keep [1, 4, 5, 29, 30] <|
 .block 0
 (.keep [1, 4, 5, 29, 30] <|
 .loop
 (q 31 (.bin .lss (.t 30) (ci 8)) <|
 .keep [1, 4, 5, 29, 30, 31] <|
 .ite (.t 31)
 (.done)
 (.exit 0) <|
 .block 1
 (q 32 (.idx false 1 8 (.t 29) (.t 30)) <|
 q 7 (.mv (.t 32)) <|
 .keep [1, 4, 5, 7, 29, 30] <|
 q 33 (.mv (.t 5)) <|
 q 34 (.mv (.t 7)) <|
 q 35 (.call F.tlv_Number [(.t 34)]) <|
 q 36 (.callv (.t 33) [(.t 35)]) <|
 .keep [1, 4, 5, 29, 30] <|
 .done) <|
 q 37 (.bin .add (.t 30) (ci 1)) <|
 q 30 (.mv (.t 37)) <|
 .keep [1, 4, 5, 29, 30] <|
 .keep [1, 4, 5, 29, 30] <|
 .done)) <|
 q 38 (.mv (.t 5)) <|
 q 39 (.fld 8 (.t 1)) <|
 q 40 (.slice 1 (some 32) (.t 39) none none none) <|
 q 41 (.callv (.t 38) [(.t 40)]) <|
 .keep [1, 4, 5] <|
 q 42 (.mv (.t 5)) <|
 q 43 (.fld 40 (.t 1)) <|
 q 44 (.load false 1 (.t 43)) <|
 q 45 (.callv (.t 42) [(.t 44)]) <|
 .keep [4] <|
 q 46 (.load false 1 (.t 4)) <|
 q 47 (.call F.tlv_Put [(.t 46)]) <|
 q 48 (.ext (.t 47) 0) <|
 q 49 (.ext (.t 47) 1) <|
 q 2 (.mv (.t 48)) <|
 q 3 (.mv (.t 49)) <|
 .keep [2, 3] <|
 .ret
theorem e_record_Body:EF false F.record_Body ic_record_Body [.t 2,.t 3]:=ef [] Tryz.func56 (by kernel_rfl) (by kernel_rfl) (by kernel_rfl)
def ic_record_May_39 : IC :=
 q 39 (.mv (.t 3)) <|
 q 40 (.mv (.t 39)) <|
 qg 41 40 true (.mv (.t 4)) <|
 q 42 (.pick (.t 40) (.t 41) (cb false)) <|
 q 43 (.mv (.t 42)) <|
 qg 44 43 true (.fld 0 (.t 1)) <|
 qg 45 43 true (.load false 1 (.t 44)) <|
 qg 46 43 true (.call F.record_within [(.t 45), (ci 1), (ci 2147483647)]) <|
 q 47 (.pick (.t 43) (.t 46) (cb false)) <|
 q 48 (.mv (.t 47)) <|
 qg 49 48 true (.fld 1 (.t 1)) <|
 qg 50 48 true (.load false 1 (.t 49)) <|
 qg 51 48 true (.call F.record_within [(.t 50), (ci 0), (ci 1073741824)]) <|
 q 52 (.pick (.t 48) (.t 51) (cb false)) <|
 q 53 (.mv (.t 52)) <|
 qg 54 53 true (.fld 2 (.t 1)) <|
 qg 55 53 true (.load false 1 (.t 54)) <|
 qg 56 53 true (.call F.record_within [(.t 55), (ci 0), (ci 1073741824)]) <|
 q 57 (.pick (.t 53) (.t 56) (cb false)) <|
 q 58 (.mv (.t 57)) <|
 qg 59 58 true (.fld 6 (.t 1)) <|
 qg 60 58 true (.load false 1 (.t 59)) <|
 qg 61 58 true (.call F.record_within [(.t 60), (ci 0), (ci 2147483647)]) <|
 q 62 (.pick (.t 58) (.t 61) (cb false)) <|
 q 2 (.mv (.t 62)) <|
 .keep [2] <|
 .ret
def ic_record_May : IC :=
 q 1 (.box (.t 0)) <|
 q 2 (.mv (cb false)) <|
 .keep [1] <|
 q 5 (.fld 4 (.t 1)) <|
 q 6 (.load false 1 (.t 5)) <|
 q 7 (.call F.record_within [(.t 6), (ci 0), (ci 31)]) <|
 q 8 (.mv (.t 7)) <|
 qg 9 8 true (.fld 5 (.t 1)) <|
 qg 10 8 true (.load false 1 (.t 9)) <|
 qg 11 8 true (.call F.record_within [(.t 10), (ci 0), (ci 7)]) <|
 q 12 (.pick (.t 8) (.t 11) (cb false)) <|
 q 3 (.mv (.t 12)) <|
 .keep [1, 3] <|
 q 13 (.fld 7 (.t 1)) <|
 q 14 (.load false 1 (.t 13)) <|
 q 15 (.bin .eql (.t 14) (ci 0)) <|
 q 16 (.mv (.t 15)) <|
 qg 17 16 true (.fld 40 (.t 1)) <|
 qg 18 16 true (.load false 1 (.t 17)) <|
 qg 19 16 true (.len false (.t 18)) <|
 qg 20 16 true (.bin .eql (.t 19) (ci 0)) <|
 q 21 (.pick (.t 16) (.t 20) (cb false)) <|
 q 22 (.mv (.t 21)) <|
 qg 23 22 true (.fld 3 (.t 1)) <|
 qg 24 22 true (.load false 1 (.t 23)) <|
 qg 25 22 true (.call F.record_within [(.t 24), (ci 2), (ci 3)]) <|
 q 26 (.pick (.t 22) (.t 25) (cb false)) <|
 q 4 (.mv (.t 26)) <|
 .keep [1, 3, 4] <|
 q 27 (.fld 3 (.t 1)) <|
 q 28 (.load false 1 (.t 27)) <|
 q 29 (.bin .eql (.t 28) (ci 1)) <|
 .keep [1, 3, 4, 29] <|
 .ite (.t 29)
 (q 30 (.fld 7 (.t 1)) <|
 q 31 (.load false 1 (.t 30)) <|
 q 32 (.call F.record_within [(.t 31), (ci 1), (ci 7)]) <|
 q 33 (.mv (.t 32)) <|
 qg 34 33 true (.fld 40 (.t 1)) <|
 qg 35 33 true (.load false 1 (.t 34)) <|
 qg 36 33 true (.len false (.t 35)) <|
 qg 37 33 true (.bin .leq (.t 36) (ci 500)) <|
 q 38 (.pick (.t 33) (.t 37) (cb false)) <|
 q 4 (.mv (.t 38)) <|
 .keep [1, 3, 4] <|
 .done)
 (.done) <|
 ic_record_May_39
theorem e_record_May:EF false F.record_May ic_record_May [.t 2]:=ef [] Tryz.func58 (by kernel_rfl) (by kernel_rfl) (by kernel_rfl)
def ic_clapperref09_Parts : IC :=
 q 2 (.mv (.c (.slice none 0 0))) <|
 q 3 (.alloc (List.replicate 8 (.int .u64 0))) <|
 q 4 (.mv (cb false)) <|
 .keep [0, 3] <|
 q 10 (.mv (.t 0)) <|
 q 11 (.call F.clapperref08_Get [(.t 10)]) <|
 q 9 (.mv (.t 11)) <|
 q 12 (.ext (.t 9) 0) <|
 q 13 (.ext (.t 9) 1) <|
 q 5 (.mv (.t 12)) <|
 q 6 (.mv (.t 13)) <|
 .keep [3, 5, 6] <|
 q 14 (.mv (.t 6)) <|
 q 15 (.un .not (.t 14)) <|
 q 16 (.mv (.t 15)) <|
 qg 17 16 false (.mv (.t 5)) <|
 qg 18 16 false (.len false (.t 17)) <|
 qg 19 16 false (.bin .neq (.t 18) (ci 2)) <|
 q 20 (.pick (.t 16) (cb true) (.t 19)) <|
 q 21 (.mv (.t 20)) <|
 qg 22 21 false (.mv (.t 5)) <|
 qg 23 21 false (.idxa 2 none (.t 22) (ci 0)) <|
 qg 24 21 false (.fld 0 (.t 23)) <|
 qg 25 21 false (.load false 1 (.t 24)) <|
 qg 26 21 false (.bin .neq (.t 25) (ci 1)) <|
 q 27 (.pick (.t 21) (cb true) (.t 26)) <|
 q 28 (.mv (.t 27)) <|
 qg 29 28 false (.mv (.t 5)) <|
 qg 30 28 false (.idxa 2 none (.t 29) (ci 1)) <|
 qg 31 28 false (.fld 0 (.t 30)) <|
 qg 32 28 false (.load false 1 (.t 31)) <|
 qg 33 28 false (.bin .neq (.t 32) (ci 2)) <|
 q 34 (.pick (.t 28) (cb true) (.t 33)) <|
 q 35 (.mv (.t 34)) <|
 qg 36 35 false (.mv (.t 5)) <|
 qg 37 35 false (.idxa 2 none (.t 36) (ci 1)) <|
 qg 38 35 false (.fld 1 (.t 37)) <|
 qg 39 35 false (.load false 1 (.t 38)) <|
 qg 40 35 false (.len false (.t 39)) <|
 qg 41 35 false (.bin .neq (.t 40) (ci 64)) <|
 q 42 (.pick (.t 35) (cb true) (.t 41)) <|
 .keep [3, 5, 42] <|
 .ite (.t 42)
 (q 43 (.build (List.replicate 8 (.int .u64 0)) []) <|
 q 2 (.mv (.c (.slice none 0 0))) <|
 qn (.store 8 (.t 3) (.t 43)) <|
 q 4 (.mv (cb false)) <|
 .keep [2, 3, 4] <|
 .ret)
 (.done) <|
 q 44 (.mv (.t 5)) <|
 q 45 (.idxa 2 none (.t 44) (ci 1)) <|
 q 46 (.fld 1 (.t 45)) <|
 q 47 (.load false 1 (.t 46)) <|
 q 48 (.slice 1 none (.t 47) none (some (ci 32)) none) <|
 q 49 (.call F.clapperref01_Of [(.t 48)]) <|
 q 7 (.alloc (List.replicate 4 (.int .u64 0))) <|
 qn (.store 4 (.t 7) (.t 49)) <|
 .keep [3, 5, 7] <|
 q 50 (.mv (.t 5)) <|
 q 51 (.idxa 2 none (.t 50) (ci 1)) <|
 q 52 (.fld 1 (.t 51)) <|
 q 53 (.load false 1 (.t 52)) <|
 q 54 (.slice 1 none (.t 53) (some (ci 32)) none none) <|
 q 55 (.call F.clapperref01_Of [(.t 54)]) <|
 q 8 (.alloc (List.replicate 4 (.int .u64 0))) <|
 qn (.store 4 (.t 8) (.t 55)) <|
 .keep [3, 5, 7, 8] <|
 q 56 (.mv (.t 5)) <|
 q 57 (.idxa 2 none (.t 56) (ci 0)) <|
 q 58 (.fld 1 (.t 57)) <|
 q 59 (.load false 1 (.t 58)) <|
 q 60 (.load true 4 (.t 7)) <|
 q 61 (.load true 4 (.t 8)) <|
 q 62 (.build (List.replicate 8 (.int .u64 0)) [(0, 4, (.t 60)), (4, 4, (.t 61))]) <|
 q 2 (.mv (.t 59)) <|
 qn (.store 8 (.t 3) (.t 62)) <|
 q 4 (.mv (cb true)) <|
 .keep [2, 3, 4] <|
 .ret
theorem e_clapperref09_Parts:EF false F.clapperref09_Parts ic_clapperref09_Parts [.t 2,.c 3 true 8,.t 4]:=ef [] Tryz.func90 (by kernel_rfl) (by kernel_rfl) (by kernel_rfl)
def ic_record_fields : IC :=
 q 4 (.mv (.c (.slice none 0 0))) <|
 .keep [0, 1] <|
 q 11 (.mv (.t 0)) <|
 q 12 (.call F.tlv_Get [(.t 11)]) <|
 q 10 (.mv (.t 12)) <|
 q 13 (.ext (.t 10) 0) <|
 q 14 (.ext (.t 10) 1) <|
 q 5 (.mv (.t 13)) <|
 q 6 (.mv (.t 14)) <|
 .keep [1, 5, 6] <|
 q 15 (.mv (.t 6)) <|
 q 16 (.eq true .i (.t 15) (.c (.nilIface))) <|
 q 17 (.mv (.t 16)) <|
 qg 18 17 false (.mv (.t 5)) <|
 qg 19 17 false (.len false (.t 18)) <|
 qg 20 17 false (.mv (.t 1)) <|
 qg 21 17 false (.bin .neq (.t 19) (.t 20)) <|
 q 22 (.pick (.t 17) (cb true) (.t 21)) <|
 .keep [5, 22] <|
 .ite (.t 22)
 (q 4 (.mv (.c (.slice none 0 0))) <|
 .keep [4] <|
 .ret)
 (.done) <|
 q 7 (.mv (.c (.slice none 0 0))) <|
 .keep [5, 7] <|
 q 23 (.mv (.t 5)) <|
 q 24 (.len false (.t 23)) <|
 q 25 (.mv (ci 0)) <|
 .keep [7, 23, 24, 25] <|
 .block 0
 (.keep [7, 23, 24, 25] <|
 .loop
 (q 26 (.bin .lss (.t 25) (.t 24)) <|
 .keep [7, 23, 24, 25, 26] <|
 .ite (.t 26)
 (.done)
 (.exit 0) <|
 .block 1
 (q 27 (.mv (.t 25)) <|
 q 28 (.idxa 2 none (.t 23) (.t 25)) <|
 q 29 (.load true 2 (.t 28)) <|
 q 9 (.alloc [.int .i64 0, .slice none 0 0]) <|
 q 8 (.mv (.t 27)) <|
 qn (.store 2 (.t 9) (.t 29)) <|
 .keep [7, 8, 9, 23, 24, 25] <|
 q 30 (.fld 0 (.t 9)) <|
 q 31 (.load false 1 (.t 30)) <|
 q 32 (.mv (.t 8)) <|
 q 33 (.bin .add (.t 32) (ci 1)) <|
 q 34 (.bin .neq (.t 31) (.t 33)) <|
 .keep [7, 9, 23, 24, 25, 34] <|
 .ite (.t 34)
 (q 4 (.mv (.c (.slice none 0 0))) <|
 .keep [4] <|
 .ret)
 (.done) <|
 q 35 (.mv (.t 7)) <|
 q 36 (.fld 1 (.t 9)) <|
 q 37 (.load false 1 (.t 36)) <|
 q 38 (.bslice false 1 1 [.slice none 0 0] [(0, 1, (.t 37))]) <|
 q 39 (.append 1 24 (.t 35) (.t 38)) <|
 q 7 (.mv (.t 39)) <|
 .keep [7, 23, 24, 25] <|
 .done) <|
 q 40 (.bin .add (.t 25) (ci 1)) <|
 q 25 (.mv (.t 40)) <|
 .keep [7, 23, 24, 25] <|
 .keep [7, 23, 24, 25] <|
 .done)) <|
 q 41 (.mv (.t 7)) <|
 q 4 (.mv (.t 41)) <|
 .keep [4] <|
 .ret
theorem e_record_fields:EF false F.record_fields ic_record_fields [.t 4]:=ef [] Tryz.func96 (by kernel_rfl) (by kernel_rfl) (by kernel_rfl)
def ic_record_read : IC :=
 q 2 (.alloc [.int .i64 0, .int .i64 0, .int .i64 0, .int .i64 0, .int .i64 0, .int .i64 0, .int .i64 0, .int .i64 0, .int .u8 0, .int .u8 0, .int .u8 0, .int .u8 0, .int .u8 0, .int .u8 0, .int .u8 0, .int .u8 0, .int .u8 0, .int .u8 0, .int .u8 0, .int .u8 0, .int .u8 0, .int .u8 0, .int .u8 0, .int .u8 0, .int .u8 0, .int .u8 0, .int .u8 0, .int .u8 0, .int .u8 0, .int .u8 0, .int .u8 0, .int .u8 0, .int .u8 0, .int .u8 0, .int .u8 0, .int .u8 0, .int .u8 0, .int .u8 0, .int .u8 0, .int .u8 0, .slice none 0 0]) <|
 .keep [0, 2] <|
 q 9 (.mv (.t 0)) <|
 q 10 (.call F.record_fields [(.t 9), (ci 10)]) <|
 q 3 (.mv (.t 10)) <|
 .keep [2, 3] <|
 q 11 (.mv (.t 3)) <|
 q 12 (.len false (.t 11)) <|
 q 13 (.bin .eql (.t 12) (ci 0)) <|
 q 14 (.mv (.t 13)) <|
 qg 15 14 false (.mv (.t 3)) <|
 qg 16 14 false (.idxa 1 none (.t 15) (ci 8)) <|
 qg 17 14 false (.load false 1 (.t 16)) <|
 qg 18 14 false (.len false (.t 17)) <|
 qg 19 14 false (.bin .neq (.t 18) (ci 32)) <|
 q 20 (.pick (.t 14) (cb true) (.t 19)) <|
 .keep [2, 3, 20] <|
 .ite (.t 20)
 (q 21 (.build [.int .i64 0, .int .i64 0, .int .i64 0, .int .i64 0, .int .i64 0, .int .i64 0, .int .i64 0, .int .i64 0, .int .u8 0, .int .u8 0, .int .u8 0, .int .u8 0, .int .u8 0, .int .u8 0, .int .u8 0, .int .u8 0, .int .u8 0, .int .u8 0, .int .u8 0, .int .u8 0, .int .u8 0, .int .u8 0, .int .u8 0, .int .u8 0, .int .u8 0, .int .u8 0, .int .u8 0, .int .u8 0, .int .u8 0, .int .u8 0, .int .u8 0, .int .u8 0, .int .u8 0, .int .u8 0, .int .u8 0, .int .u8 0, .int .u8 0, .int .u8 0, .int .u8 0, .int .u8 0, .slice none 0 0] []) <|
 qn (.store 41 (.t 2) (.t 21)) <|
 .keep [2] <|
 .ret)
 (.done) <|
 q 4 (.alloc (List.replicate 8 (.int .i64 0))) <|
 .keep [2, 3, 4] <|
 q 22 (.mv (ci 0)) <|
 .keep [2, 3, 4, 22] <|
 .block 0
 (.keep [2, 3, 4, 22] <|
 .loop
 (q 23 (.bin .lss (.t 22) (ci 8)) <|
 .keep [2, 3, 4, 22, 23] <|
 .ite (.t 23)
 (.done)
 (.exit 0) <|
 .block 1
 (q 24 (.mv (.t 22)) <|
 q 5 (.mv (.t 24)) <|
 .keep [2, 3, 4, 5, 22] <|
 q 26 (.mv (.t 3)) <|
 q 27 (.mv (.t 5)) <|
 q 28 (.idxa 1 none (.t 26) (.t 27)) <|
 q 29 (.load false 1 (.t 28)) <|
 q 30 (.call F.tlv_Of [(.t 29)]) <|
 q 25 (.mv (.t 30)) <|
 q 31 (.ext (.t 25) 0) <|
 q 32 (.ext (.t 25) 1) <|
 q 6 (.mv (.t 31)) <|
 q 7 (.mv (.t 32)) <|
 .keep [2, 3, 4, 5, 6, 7, 22] <|
 q 33 (.mv (.t 7)) <|
 q 34 (.eq true .i (.t 33) (.c (.nilIface))) <|
 .keep [2, 3, 4, 5, 6, 22, 34] <|
 .ite (.t 34)
 (q 35 (.build [.int .i64 0, .int .i64 0, .int .i64 0, .int .i64 0, .int .i64 0, .int .i64 0, .int .i64 0, .int .i64 0, .int .u8 0, .int .u8 0, .int .u8 0, .int .u8 0, .int .u8 0, .int .u8 0, .int .u8 0, .int .u8 0, .int .u8 0, .int .u8 0, .int .u8 0, .int .u8 0, .int .u8 0, .int .u8 0, .int .u8 0, .int .u8 0, .int .u8 0, .int .u8 0, .int .u8 0, .int .u8 0, .int .u8 0, .int .u8 0, .int .u8 0, .int .u8 0, .int .u8 0, .int .u8 0, .int .u8 0, .int .u8 0, .int .u8 0, .int .u8 0, .int .u8 0, .int .u8 0, .slice none 0 0] []) <|
 qn (.store 41 (.t 2) (.t 35)) <|
 .keep [2] <|
 .ret)
 (.done) <|
 q 36 (.mv (.t 5)) <|
 q 37 (.mv (.t 6)) <|
 q 38 (.idxa 1 (some 8) (.t 4) (.t 36)) <|
 qn (.store 1 (.t 38) (.t 37)) <|
 .keep [2, 3, 4, 22] <|
 .done) <|
 q 39 (.bin .add (.t 22) (ci 1)) <|
 q 22 (.mv (.t 39)) <|
 .keep [2, 3, 4, 22] <|
 .keep [2, 3, 4, 22] <|
 .done)) <|
 .reg 1
 [xe 40 (.idxa 1 (some 8) (.t 4) (ci 0)) [],
 xe 41 (.load false 1 (.t 40)) [],
 xe 42 (.idxa 1 (some 8) (.t 4) (ci 1)) [],
 xe 43 (.load false 1 (.t 42)) [],
 xe 44 (.idxa 1 (some 8) (.t 4) (ci 2)) [],
 xe 45 (.load false 1 (.t 44)) [],
 xe 46 (.idxa 1 (some 8) (.t 4) (ci 3)) [],
 xe 47 (.load false 1 (.t 46)) [],
 xe 48 (.idxa 1 (some 8) (.t 4) (ci 4)) [],
 xe 49 (.load false 1 (.t 48)) [],
 xe 50 (.idxa 1 (some 8) (.t 4) (ci 5)) [],
 xe 51 (.load false 1 (.t 50)) [],
 xe 52 (.idxa 1 (some 8) (.t 4) (ci 6)) [],
 xe 53 (.load false 1 (.t 52)) [],
 xe 54 (.idxa 1 (some 8) (.t 4) (ci 7)) [],
 xe 55 (.load false 1 (.t 54)) [],
 xe 56 (.mv (.t 3)) [],
 xe 57 (.idxa 1 none (.t 56) (ci 8)) [],
 xe 58 (.load false 1 (.t 57)) [],
 xe 59 (.s2ap 32 1 (.t 58)) [],
 xe 60 (.load true 32 (.t 59)) [],
 xe 61 (.build [.int .i64 0, .int .i64 0, .int .i64 0, .int .i64 0, .int .i64 0, .int .i64 0, .int .i64 0, .int .i64 0, .int .u8 0, .int .u8 0, .int .u8 0, .int .u8 0, .int .u8 0, .int .u8 0, .int .u8 0, .int .u8 0, .int .u8 0, .int .u8 0, .int .u8 0, .int .u8 0, .int .u8 0, .int .u8 0, .int .u8 0, .int .u8 0, .int .u8 0, .int .u8 0, .int .u8 0, .int .u8 0, .int .u8 0, .int .u8 0, .int .u8 0, .int .u8 0, .int .u8 0, .int .u8 0, .int .u8 0, .int .u8 0, .int .u8 0, .int .u8 0, .int .u8 0, .int .u8 0, .slice none 0 0] [(0, 1, (.t 41)), (1, 1, (.t 43)), (2, 1, (.t 45)), (3, 1, (.t 47)), (4, 1, (.t 49)), (5, 1, (.t 51)), (6, 1, (.t 53)), (7, 1, (.t 55)), (8, 32, (.t 60))]) [],
 xa 0 8 (.alloc [.int .i64 0, .int .i64 0, .int .i64 0, .int .i64 0, .int .i64 0, .int .i64 0, .int .i64 0, .int .i64 0, .int .u8 0, .int .u8 0, .int .u8 0, .int .u8 0, .int .u8 0, .int .u8 0, .int .u8 0, .int .u8 0, .int .u8 0, .int .u8 0, .int .u8 0, .int .u8 0, .int .u8 0, .int .u8 0, .int .u8 0, .int .u8 0, .int .u8 0, .int .u8 0, .int .u8 0, .int .u8 0, .int .u8 0, .int .u8 0, .int .u8 0, .int .u8 0, .int .u8 0, .int .u8 0, .int .u8 0, .int .u8 0, .int .u8 0, .int .u8 0, .int .u8 0, .int .u8 0, .slice none 0 0]),
 xln (.store 41 (.t 8) (.t 61)) []] <|
 .keep [2, 3, 8] <|
 q 62 (.mv (.t 3)) <|
 q 63 (.idxa 1 none (.t 62) (ci 9)) <|
 q 64 (.load false 1 (.t 63)) <|
 q 65 (.len false (.t 64)) <|
 q 66 (.bin .gtr (.t 65) (ci 0)) <|
 .keep [2, 3, 8, 66] <|
 .ite (.t 66)
 (q 67 (.mv (.t 3)) <|
 q 68 (.idxa 1 none (.t 67) (ci 9)) <|
 q 69 (.load false 1 (.t 68)) <|
 q 70 (.fld 40 (.t 8)) <|
 qn (.store 1 (.t 70) (.t 69)) <|
 .keep [2, 8] <|
 .done)
 (.done) <|
 q 71 (.load true 41 (.t 8)) <|
 qn (.store 41 (.t 2) (.t 71)) <|
 .keep [2] <|
 .ret
theorem e_record_read:EF false F.record_read ic_record_read [.c 2 true 41]:=ef [] Tryz.func97 (by kernel_rfl) (by kernel_rfl) (by kernel_rfl)
def ic_record_Body_1 : IC :=
 q 3 (.load false 1 (.t 1)) <|
 q 4 (.load false 1 (.t 1)) <|
 q 5 (.len false (.t 4)) <|
 q 6 (.bin .add (.t 5) (ci 1)) <|
 q 7 (.mv (.t 0)) <|
 q 8 (.build [.int .i64 0, .slice none 0 0] [(0, 1, (.t 6)), (1, 1, (.t 7))]) <|
 q 9 (.bslice true 2 1 [.int .i64 0, .slice none 0 0] [(0, 2, (.t 8))]) <|
 q 10 (.append 2 32 (.t 3) (.t 9)) <|
 qn (.store 1 (.t 1) (.t 10)) <|
 .keep [] <|
 .ret
theorem e_record_Body_1:EF false F.record_Body_1 ic_record_Body_1 []:=ef [9] Tryz.func120 (by kernel_rfl) (by kernel_rfl) (by kernel_rfl)
def ic_record_within : IC :=
 q 6 (.mv (cb false)) <|
 .keep [0, 1, 2] <|
 q 7 (.mv (.t 0)) <|
 q 8 (.mv (.t 1)) <|
 q 9 (.bin .geq (.t 7) (.t 8)) <|
 q 10 (.mv (.t 9)) <|
 qg 11 10 true (.mv (.t 0)) <|
 qg 12 10 true (.mv (.t 2)) <|
 qg 13 10 true (.bin .leq (.t 11) (.t 12)) <|
 q 14 (.pick (.t 10) (.t 13) (cb false)) <|
 q 6 (.mv (.t 14)) <|
 .keep [6] <|
 .ret
theorem e_record_within:EF false F.record_within ic_record_within [.t 6]:=ef [] Tryz.func121 (by kernel_rfl) (by kernel_rfl) (by kernel_rfl)
end Go.Proofs.YtgfploghjpbcaaaGreat.Eng

