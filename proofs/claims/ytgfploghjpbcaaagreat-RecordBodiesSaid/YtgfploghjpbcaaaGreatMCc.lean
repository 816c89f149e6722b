/- The code of some functions, as the abstract machine's. Printed by program. -/
import Derived.Test.YtgfploghjpbcaaaGreatMCa
namespace Go.Proofs.YtgfploghjpbcaaaGreat.Eng
open Go Go.Proofs
set_option maxRecDepth 20000
def ic_clapperlaw17_RecordBodies : IC :=
 q 2 (.box (.t 0)) <|
 q 3 (.box (.t 1)) <|
 q 4 (.mv (cb false)) <|
 .keep [2, 3] <|
 q 14 (.call F.clapperlaw17_up []) <|
 q 5 (.mv (.t 14)) <|
 .keep [2, 3, 5] <|
 q 15 (.fld 40 (.t 2)) <|
 q 16 (.load false 1 (.t 15)) <|
 q 17 (.len false (.t 16)) <|
 q 18 (.bin .gtr (.t 17) (ci 3000)) <|
 .keep [2, 3, 5, 18] <|
 .ite (.t 18)
 (q 19 (.mv (.t 5)) <|
 q 4 (.mv (.t 19)) <|
 .keep [4] <|
 .ret)
 (.done) <|
 q 20 (.load true 41 (.t 2)) <|
 q 21 (.call F.clapperref17_May [(.t 20)]) <|
 q 6 (.mv (.t 21)) <|
 .keep [2, 3, 5, 6] <|
 q 23 (.load true 41 (.t 2)) <|
 q 24 (.call F.record_Body [(.t 23)]) <|
 q 22 (.mv (.t 24)) <|
 q 25 (.ext (.t 22) 0) <|
 q 26 (.ext (.t 22) 1) <|
 q 7 (.mv (.t 25)) <|
 q 8 (.mv (.t 26)) <|
 .keep [2, 3, 5, 6, 7, 8] <|
 q 28 (.load true 41 (.t 2)) <|
 q 29 (.load true 4 (.t 3)) <|
 q 30 (.call F.record_Issue [(.t 28), (.t 29)]) <|
 q 27 (.mv (.t 30)) <|
 q 31 (.ext (.t 27) 0) <|
 q 32 (.ext (.t 27) 1) <|
 q 9 (.mv (.t 31)) <|
 q 10 (.mv (.t 32)) <|
 .keep [2, 3, 5, 6, 7, 8, 9, 10] <|
 q 33 (.mv (.t 6)) <|
 q 34 (.un .not (.t 33)) <|
 .keep [2, 3, 5, 7, 8, 9, 10, 34] <|
 .ite (.t 34)
 (q 35 (.mv (.t 5)) <|
 q 36 (.mv (.t 35)) <|
 qg 37 36 true (.load true 41 (.t 2)) <|
 qg 38 36 true (.call F.record_May [(.t 37)]) <|
 qg 39 36 true (.un .not (.t 38)) <|
 q 40 (.pick (.t 36) (.t 39) (cb false)) <|
 q 41 (.mv (.t 40)) <|
 qg 42 41 true (.mv (.t 8)) <|
 qg 43 41 true (.mkif T.api_Code (ci 1)) <|
 qg 44 41 true (.eq false .i (.t 42) (.t 43)) <|
 q 45 (.pick (.t 41) (.t 44) (cb false)) <|
 q 46 (.mv (.t 45)) <|
 qg 47 46 true (.mv (.t 7)) <|
 qg 48 46 true (.len false (.t 47)) <|
 qg 49 46 true (.bin .eql (.t 48) (ci 0)) <|
 q 50 (.pick (.t 46) (.t 49) (cb false)) <|
 q 51 (.mv (.t 50)) <|
 qg 52 51 true (.mv (.t 10)) <|
 qg 53 51 true (.mkif T.api_Code (ci 1)) <|
 qg 54 51 true (.eq false .i (.t 52) (.t 53)) <|
 q 55 (.pick (.t 51) (.t 54) (cb false)) <|
 q 56 (.mv (.t 55)) <|
 qg 57 56 true (.mv (.t 9)) <|
 qg 58 56 true (.len false (.t 57)) <|
 qg 59 56 true (.bin .eql (.t 58) (ci 0)) <|
 q 60 (.pick (.t 56) (.t 59) (cb false)) <|
 q 4 (.mv (.t 60)) <|
 .keep [4] <|
 .ret)
 (.done) <|
 q 61 (.load true 41 (.t 2)) <|
 q 62 (.call F.record_May [(.t 61)]) <|
 q 63 (.un .not (.t 62)) <|
 q 64 (.mv (.t 63)) <|
 qg 65 64 false (.mv (.t 8)) <|
 qg 66 64 false (.eq true .i (.t 65) (.c (.nilIface))) <|
 q 67 (.pick (.t 64) (cb true) (.t 66)) <|
 q 68 (.mv (.t 67)) <|
 qg 69 68 false (.mv (.t 7)) <|
 qg 70 68 false (.b2s (.t 69)) <|
 qg 71 68 false (.load true 41 (.t 2)) <|
 qg 72 68 false (.call F.clapperref17_Body [(.t 71)]) <|
 qg 73 68 false (.bin .neq (.t 70) (.t 72)) <|
 q 74 (.pick (.t 68) (cb true) (.t 73)) <|
 .keep [2, 3, 5, 9, 10, 74] <|
 .ite (.t 74)
 (q 4 (.mv (cb false)) <|
 .keep [4] <|
 .ret)
 (.done) <|
 q 75 (.load true 4 (.t 3)) <|
 q 76 (.call F.clapperref06_May [(.t 75)]) <|
 q 11 (.mv (.t 76)) <|
 .keep [2, 3, 5, 9, 10, 11] <|
 q 77 (.mv (.t 11)) <|
 q 78 (.un .not (.t 77)) <|
 .keep [2, 3, 5, 9, 10, 78] <|
 .ite (.t 78)
 (q 79 (.mv (.t 5)) <|
 q 80 (.mv (.t 79)) <|
 qg 81 80 true (.mv (.t 10)) <|
 qg 82 80 true (.mkif T.api_Code (ci 1)) <|
 qg 83 80 true (.eq false .i (.t 81) (.t 82)) <|
 q 84 (.pick (.t 80) (.t 83) (cb false)) <|
 q 85 (.mv (.t 84)) <|
 qg 86 85 true (.mv (.t 9)) <|
 qg 87 85 true (.len false (.t 86)) <|
 qg 88 85 true (.bin .eql (.t 87) (ci 0)) <|
 q 89 (.pick (.t 85) (.t 88) (cb false)) <|
 q 4 (.mv (.t 89)) <|
 .keep [4] <|
 .ret)
 (.done) <|
 q 91 (.load true 41 (.t 2)) <|
 q 92 (.load true 4 (.t 3)) <|
 q 93 (.call F.clapperref17_Issue [(.t 91), (.t 92)]) <|
 q 90 (.mv (.t 93)) <|
 q 94 (.ext (.t 90) 0) <|
 q 95 (.ext (.t 90) 1) <|
 q 12 (.mv (.t 94)) <|
 q 13 (.mv (.t 95)) <|
 .keep [5, 9, 10, 12, 13] <|
 q 96 (.mv (.t 13)) <|
 q 97 (.un .not (.t 96)) <|
 .keep [5, 9, 10, 12, 97] <|
 .ite (.t 97)
 (q 98 (.mv (.t 5)) <|
 q 99 (.mv (.t 98)) <|
 qg 100 99 true (.mv (.t 10)) <|
 qg 101 99 true (.mkif T.api_Code (ci 4)) <|
 qg 102 99 true (.eq false .i (.t 100) (.t 101)) <|
 q 103 (.pick (.t 99) (.t 102) (cb false)) <|
 q 104 (.mv (.t 103)) <|
 qg 105 104 true (.mv (.t 9)) <|
 qg 106 104 true (.len false (.t 105)) <|
 qg 107 104 true (.bin .eql (.t 106) (ci 0)) <|
 q 108 (.pick (.t 104) (.t 107) (cb false)) <|
 q 4 (.mv (.t 108)) <|
 .keep [4] <|
 .ret)
 (.done) <|
 q 109 (.mv (.t 5)) <|
 q 110 (.mv (.t 109)) <|
 qg 111 110 true (.mv (.t 10)) <|
 qg 112 110 true (.eq false .i (.t 111) (.c (.nilIface))) <|
 q 113 (.pick (.t 110) (.t 112) (cb false)) <|
 q 114 (.mv (.t 113)) <|
 qg 115 114 true (.mv (.t 9)) <|
 qg 116 114 true (.b2s (.t 115)) <|
 qg 117 114 true (.mv (.t 12)) <|
 qg 118 114 true (.bin .eql (.t 116) (.t 117)) <|
 q 119 (.pick (.t 114) (.t 118) (cb false)) <|
 q 4 (.mv (.t 119)) <|
 .keep [4] <|
 .ret
theorem e_clapperlaw17_RecordBodies:EF false F.clapperlaw17_RecordBodies ic_clapperlaw17_RecordBodies [.t 4]:=ef [] Tryz.func12 (by kernel_rfl) (by kernel_rfl) (by kernel_rfl)
def ic_clapperlaw17_up : IC :=
 q 0 (.mv (cb false)) <|
 .keep [] <|
 q 8 (.call F.record_Open [(.c (.slice none 0 0))]) <|
 q 7 (.mv (.t 8)) <|
 q 9 (.ext (.t 7) 0) <|
 q 10 (.ext (.t 7) 1) <|
 q 11 (.ext (.t 7) 2) <|
 q 12 (.ext (.t 7) 3) <|
 q 1 (.alloc [.int .i64 0, .int .i64 0, .int .i64 0, .int .i64 0, .int .i64 0, .int .i64 0, .int .i64 0, .int .i64 0, .int .u8 0, .int .u8 0, .int .u8 0, .int .u8 0, .int .u8 0, .int .u8 0, .int .u8 0, .int .u8 0, .int .u8 0, .int .u8 0, .int .u8 0, .int .u8 0, .int .u8 0, .int .u8 0, .int .u8 0, .int .u8 0, .int .u8 0, .int .u8 0, .int .u8 0, .int .u8 0, .int .u8 0, .int .u8 0, .int .u8 0, .int .u8 0, .int .u8 0, .int .u8 0, .int .u8 0, .int .u8 0, .int .u8 0, .int .u8 0, .int .u8 0, .int .u8 0, .slice none 0 0]) <|
 q 2 (.alloc (List.replicate 32 (.int .u8 0))) <|
 q 3 (.alloc (List.replicate 8 (.int .u64 0))) <|
 qn (.store 41 (.t 1) (.t 9)) <|
 qn (.store 32 (.t 2) (.t 10)) <|
 qn (.store 8 (.t 3) (.t 11)) <|
 q 4 (.mv (.t 12)) <|
 .keep [4] <|
 q 14 (.build [.int .i64 0, .int .i64 0, .int .i64 0, .int .i64 0, .int .i64 0, .int .i64 0, .int .i64 0, .int .i64 0, .int .u8 0, .int .u8 0, .int .u8 0, .int .u8 0, .int .u8 0, .int .u8 0, .int .u8 0, .int .u8 0, .int .u8 0, .int .u8 0, .int .u8 0, .int .u8 0, .int .u8 0, .int .u8 0, .int .u8 0, .int .u8 0, .int .u8 0, .int .u8 0, .int .u8 0, .int .u8 0, .int .u8 0, .int .u8 0, .int .u8 0, .int .u8 0, .int .u8 0, .int .u8 0, .int .u8 0, .int .u8 0, .int .u8 0, .int .u8 0, .int .u8 0, .int .u8 0, .slice none 0 0] [(0, 1, (ci 1)), (3, 1, (ci 2))]) <|
 q 15 (.call F.record_Body [(.t 14)]) <|
 q 13 (.mv (.t 15)) <|
 q 16 (.ext (.t 13) 0) <|
 q 17 (.ext (.t 13) 1) <|
 q 5 (.mv (.t 16)) <|
 q 6 (.mv (.t 17)) <|
 .keep [4, 5, 6] <|
 q 18 (.mv (.t 4)) <|
 q 19 (.mkif T.api_Code (ci 2)) <|
 q 20 (.eq false .i (.t 18) (.t 19)) <|
 q 21 (.mv (.t 20)) <|
 qg 22 21 true (.mv (.t 6)) <|
 qg 23 21 true (.eq false .i (.t 22) (.c (.nilIface))) <|
 q 24 (.pick (.t 21) (.t 23) (cb false)) <|
 q 25 (.mv (.t 24)) <|
 qg 26 25 true (.mv (.t 5)) <|
 qg 27 25 true (.len false (.t 26)) <|
 qg 28 25 true (.bin .eql (.t 27) (ci 126)) <|
 q 29 (.pick (.t 25) (.t 28) (cb false)) <|
 q 30 (.mv (.t 29)) <|
 qg 31 30 true (.bslice false 1 1 [.slice none 0 0] [(0, 1, (.c (.slice none 0 0)))]) <|
 qg 32 30 true (.build [.int .u64 0, .int .u64 0, .int .u64 0, .int .u64 0, .int .u64 0, .int .u64 0, .int .u64 0, .int .u64 0, .bool false] []) <|
 qg 33 30 true (.call F.record_Chain [(.t 31), (ci 1), (.t 32)]) <|
 qg 34 30 true (.bin .eql (.t 33) (ci 0)) <|
 q 35 (.pick (.t 30) (.t 34) (cb false)) <|
 q 0 (.mv (.t 35)) <|
 .keep [0] <|
 .ret
theorem e_clapperlaw17_up:EF false F.clapperlaw17_up ic_clapperlaw17_up [.t 0]:=ef [] Tryz.func27 (by kernel_rfl) (by kernel_rfl) (by kernel_rfl)
def ic_record_Chain : IC :=
 q 5 (.box (.t 2)) <|
 q 6 (.mv (ci 0)) <|
 .keep [0, 1, 5] <|
 q 7 (.alloc (List.replicate 32 (.int .u8 0))) <|
 .keep [0, 1, 5, 7] <|
 q 14 (.mv (.t 0)) <|
 q 15 (.len false (.t 14)) <|
 q 16 (.mv (ci 0)) <|
 .keep [0, 1, 5, 7, 14, 15, 16] <|
 .block 0
 (.keep [0, 1, 5, 7, 14, 15, 16] <|
 .loop
 (q 17 (.bin .lss (.t 16) (.t 15)) <|
 .keep [0, 1, 5, 7, 14, 15, 16, 17] <|
 .ite (.t 17)
 (.done)
 (.exit 0) <|
 .block 1
 (q 18 (.mv (.t 16)) <|
 q 19 (.idxa 1 none (.t 14) (.t 16)) <|
 q 20 (.load false 1 (.t 19)) <|
 q 8 (.mv (.t 18)) <|
 q 9 (.mv (.t 20)) <|
 .keep [0, 1, 5, 7, 8, 9, 14, 15, 16] <|
 q 22 (.mv (.t 9)) <|
 q 23 (.call F.record_Open [(.t 22)]) <|
 q 21 (.mv (.t 23)) <|
 q 24 (.ext (.t 21) 0) <|
 q 25 (.ext (.t 21) 1) <|
 q 26 (.ext (.t 21) 2) <|
 q 27 (.ext (.t 21) 3) <|
 q 10 (.alloc [.int .i64 0, .int .i64 0, .int .i64 0, .int .i64 0, .int .i64 0, .int .i64 0, .int .i64 0, .int .i64 0, .int .u8 0, .int .u8 0, .int .u8 0, .int .u8 0, .int .u8 0, .int .u8 0, .int .u8 0, .int .u8 0, .int .u8 0, .int .u8 0, .int .u8 0, .int .u8 0, .int .u8 0, .int .u8 0, .int .u8 0, .int .u8 0, .int .u8 0, .int .u8 0, .int .u8 0, .int .u8 0, .int .u8 0, .int .u8 0, .int .u8 0, .int .u8 0, .int .u8 0, .int .u8 0, .int .u8 0, .int .u8 0, .int .u8 0, .int .u8 0, .int .u8 0, .int .u8 0, .slice none 0 0]) <|
 q 11 (.alloc (List.replicate 32 (.int .u8 0))) <|
 q 12 (.alloc (List.replicate 8 (.int .u64 0))) <|
 qn (.store 41 (.t 10) (.t 24)) <|
 qn (.store 32 (.t 11) (.t 25)) <|
 qn (.store 8 (.t 12) (.t 26)) <|
 q 13 (.mv (.t 27)) <|
 .keep [0, 1, 5, 7, 8, 10, 11, 12, 13, 14, 15, 16] <|
 q 28 (.mv (.t 13)) <|
 q 29 (.eq true .i (.t 28) (.c (.nilIface))) <|
 q 30 (.mv (.t 29)) <|
 qg 31 30 false (.fld 0 (.t 10)) <|
 qg 32 30 false (.load false 1 (.t 31)) <|
 qg 33 30 false (.mv (.t 1)) <|
 qg 34 30 false (.bin .neq (.t 32) (.t 33)) <|
 q 35 (.pick (.t 30) (cb true) (.t 34)) <|
 q 36 (.mv (.t 35)) <|
 qg 37 36 false (.fld 1 (.t 10)) <|
 qg 38 36 false (.load false 1 (.t 37)) <|
 qg 39 36 false (.mv (.t 8)) <|
 qg 40 36 false (.bin .neq (.t 38) (.t 39)) <|
 q 41 (.pick (.t 36) (cb true) (.t 40)) <|
 q 42 (.mv (.t 41)) <|
 qg 43 42 false (.fld 8 (.t 10)) <|
 qg 44 42 false (.load true 32 (.t 43)) <|
 qg 45 42 false (.load true 32 (.t 7)) <|
 qg 46 42 false (.eqagg (List.replicate 32 (some .u8)) true (.t 44) (.t 45)) <|
 q 47 (.pick (.t 42) (cb true) (.t 46)) <|
 q 48 (.mv (.t 47)) <|
 qg 49 48 false (.load true 9 (.t 5)) <|
 qg 50 48 false (.load true 32 (.t 11)) <|
 qg 51 48 false (.load true 8 (.t 12)) <|
 qg 52 48 false (.call F.sign_Verify [(.t 49), (.t 50), (.t 51)]) <|
 qg 53 48 false (.un .not (.t 52)) <|
 q 54 (.pick (.t 48) (cb true) (.t 53)) <|
 .keep [0, 1, 5, 7, 8, 11, 14, 15, 16, 54] <|
 .ite (.t 54)
 (q 55 (.mv (.t 8)) <|
 q 6 (.mv (.t 55)) <|
 .keep [6] <|
 .ret)
 (.done) <|
 q 56 (.load true 32 (.t 11)) <|
 qn (.store 32 (.t 7) (.t 56)) <|
 .keep [0, 1, 5, 7, 14, 15, 16] <|
 .done) <|
 q 57 (.bin .add (.t 16) (ci 1)) <|
 q 16 (.mv (.t 57)) <|
 .keep [0, 1, 5, 7, 14, 15, 16] <|
 .keep [0, 1, 5, 7, 14, 15, 16] <|
 .done)) <|
 q 58 (.mv (.t 0)) <|
 q 59 (.len false (.t 58)) <|
 q 6 (.mv (.t 59)) <|
 .keep [6] <|
 .ret
theorem e_record_Chain:EF false F.record_Chain ic_record_Chain [.t 6]:=ef [] Tryz.func28 (by kernel_rfl) (by kernel_rfl) (by kernel_rfl)
def ic_record_Open : IC :=
 q 2 (.alloc [.int .i64 0, .int .i64 0, .int .i64 0, .int .i64 0, .int .i64 0, .int .i64 0, .int .i64 0, .int .i64 0, .int .u8 0, .int .u8 0, .int .u8 0, .int .u8 0, .int .u8 0, .int .u8 0, .int .u8 0, .int .u8 0, .int .u8 0, .int .u8 0, .int .u8 0, .int .u8 0, .int .u8 0, .int .u8 0, .int .u8 0, .int .u8 0, .int .u8 0, .int .u8 0, .int .u8 0, .int .u8 0, .int .u8 0, .int .u8 0, .int .u8 0, .int .u8 0, .int .u8 0, .int .u8 0, .int .u8 0, .int .u8 0, .int .u8 0, .int .u8 0, .int .u8 0, .int .u8 0, .slice none 0 0]) <|
 q 3 (.alloc (List.replicate 32 (.int .u8 0))) <|
 q 4 (.alloc (List.replicate 8 (.int .u64 0))) <|
 q 5 (.mv (.c (.nilIface))) <|
 .keep [0, 2, 3, 4] <|
 q 10 (.mv (.t 0)) <|
 q 11 (.call F.record_fields [(.t 10), (ci 2)]) <|
 q 6 (.mv (.t 11)) <|
 .keep [2, 3, 4, 6] <|
 q 12 (.mv (.t 6)) <|
 q 13 (.len false (.t 12)) <|
 q 14 (.bin .eql (.t 13) (ci 0)) <|
 .keep [2, 3, 4, 6, 14] <|
 .ite (.t 14)
 (q 15 (.build [.int .i64 0, .int .i64 0, .int .i64 0, .int .i64 0, .int .i64 0, .int .i64 0, .int .i64 0, .int .i64 0, .int .u8 0, .int .u8 0, .int .u8 0, .int .u8 0, .int .u8 0, .int .u8 0, .int .u8 0, .int .u8 0, .int .u8 0, .int .u8 0, .int .u8 0, .int .u8 0, .int .u8 0, .int .u8 0, .int .u8 0, .int .u8 0, .int .u8 0, .int .u8 0, .int .u8 0, .int .u8 0, .int .u8 0, .int .u8 0, .int .u8 0, .int .u8 0, .int .u8 0, .int .u8 0, .int .u8 0, .int .u8 0, .int .u8 0, .int .u8 0, .int .u8 0, .int .u8 0, .slice none 0 0] []) <|
 q 16 (.build (List.replicate 32 (.int .u8 0)) []) <|
 q 17 (.build (List.replicate 8 (.int .u64 0)) []) <|
 q 18 (.mkif T.api_Code (ci 2)) <|
 qn (.store 41 (.t 2) (.t 15)) <|
 qn (.store 32 (.t 3) (.t 16)) <|
 qn (.store 8 (.t 4) (.t 17)) <|
 q 5 (.mv (.t 18)) <|
 .keep [2, 3, 4, 5] <|
 .ret)
 (.done) <|
 q 19 (.mv (.t 6)) <|
 q 20 (.idxa 1 none (.t 19) (ci 0)) <|
 q 21 (.load false 1 (.t 20)) <|
 q 22 (.call F.record_read [(.t 21)]) <|
 q 7 (.alloc [.int .i64 0, .int .i64 0, .int .i64 0, .int .i64 0, .int .i64 0, .int .i64 0, .int .i64 0, .int .i64 0, .int .u8 0, .int .u8 0, .int .u8 0, .int .u8 0, .int .u8 0, .int .u8 0, .int .u8 0, .int .u8 0, .int .u8 0, .int .u8 0, .int .u8 0, .int .u8 0, .int .u8 0, .int .u8 0, .int .u8 0, .int .u8 0, .int .u8 0, .int .u8 0, .int .u8 0, .int .u8 0, .int .u8 0, .int .u8 0, .int .u8 0, .int .u8 0, .int .u8 0, .int .u8 0, .int .u8 0, .int .u8 0, .int .u8 0, .int .u8 0, .int .u8 0, .int .u8 0, .slice none 0 0]) <|
 qn (.store 41 (.t 7) (.t 22)) <|
 .keep [2, 3, 4, 6, 7] <|
 q 24 (.mv (.t 6)) <|
 q 25 (.idxa 1 none (.t 24) (ci 1)) <|
 q 26 (.load false 1 (.t 25)) <|
 q 27 (.call F.sign_Parse [(.t 26)]) <|
 q 23 (.mv (.t 27)) <|
 q 28 (.ext (.t 23) 0) <|
 q 29 (.ext (.t 23) 1) <|
 q 8 (.alloc (List.replicate 8 (.int .u64 0))) <|
 qn (.store 8 (.t 8) (.t 28)) <|
 q 9 (.mv (.t 29)) <|
 .keep [2, 3, 4, 6, 7, 8, 9] <|
 q 30 (.mv (.t 9)) <|
 q 31 (.eq true .i (.t 30) (.c (.nilIface))) <|
 q 32 (.mv (.t 31)) <|
 qg 33 32 false (.load true 41 (.t 7)) <|
 qg 34 32 false (.call F.record_May [(.t 33)]) <|
 qg 35 32 false (.un .not (.t 34)) <|
 q 36 (.pick (.t 32) (cb true) (.t 35)) <|
 .keep [2, 3, 4, 6, 7, 8, 36] <|
 .ite (.t 36)
 (q 37 (.build [.int .i64 0, .int .i64 0, .int .i64 0, .int .i64 0, .int .i64 0, .int .i64 0, .int .i64 0, .int .i64 0, .int .u8 0, .int .u8 0, .int .u8 0, .int .u8 0, .int .u8 0, .int .u8 0, .int .u8 0, .int .u8 0, .int .u8 0, .int .u8 0, .int .u8 0, .int .u8 0, .int .u8 0, .int .u8 0, .int .u8 0, .int .u8 0, .int .u8 0, .int .u8 0, .int .u8 0, .int .u8 0, .int .u8 0, .int .u8 0, .int .u8 0, .int .u8 0, .int .u8 0, .int .u8 0, .int .u8 0, .int .u8 0, .int .u8 0, .int .u8 0, .int .u8 0, .int .u8 0, .slice none 0 0] []) <|
 q 38 (.build (List.replicate 32 (.int .u8 0)) []) <|
 q 39 (.build (List.replicate 8 (.int .u64 0)) []) <|
 q 40 (.mkif T.api_Code (ci 2)) <|
 qn (.store 41 (.t 2) (.t 37)) <|
 qn (.store 32 (.t 3) (.t 38)) <|
 qn (.store 8 (.t 4) (.t 39)) <|
 q 5 (.mv (.t 40)) <|
 .keep [2, 3, 4, 5] <|
 .ret)
 (.done) <|
 .reg 0
 [xe 41 (.load true 41 (.t 7)) [],
 xe 42 (.mv (.t 6)) [],
 xe 43 (.idxa 1 none (.t 42) (ci 0)) [],
 xe 44 (.load false 1 (.t 43)) [],
 xe 45 (.call F.sha_Sum [(.t 44)]) [],
 xe 46 (.load true 8 (.t 8)) [],
 xln (.store 41 (.t 2) (.t 41)) [(.t 8)],
 xln (.store 32 (.t 3) (.t 45)) [(.t 8)],
 xln (.store 8 (.t 4) (.t 46)) [],
 xl 5 (.mv (.c (.nilIface))) []] <|
 .keep [2, 3, 4, 5] <|
 .ret
theorem e_record_Open:EF false F.record_Open ic_record_Open [.c 2 true 41,.c 3 true 32,.c 4 true 8,.t 5]:=ef [] Tryz.func34 (by kernel_rfl) (by kernel_rfl) (by kernel_rfl)
def ic_clapperref09_Signed : IC :=
 q 3 (.box (.t 1)) <|
 q 4 (.mv (.c (.string .empty))) <|
 .keep [0, 3] <|
 q 5 (.mv (.c (.slice none 0 0))) <|
 .keep [0, 3, 5] <|
 q 6 (.mv (.t 5)) <|
 q 7 (.mv (.t 0)) <|
 q 8 (.s2b false (.t 7)) <|
 q 9 (.build [.int .i64 0, .slice none 0 0] [(0, 1, (ci 1)), (1, 1, (.t 8))]) <|
 q 10 (.bslice false 2 1 [.int .i64 0, .slice none 0 0] [(0, 2, (.t 9))]) <|
 q 11 (.append 2 32 (.t 6) (.t 10)) <|
 q 5 (.mv (.t 11)) <|
 .keep [3, 5] <|
 q 12 (.mv (.t 5)) <|
 q 13 (.load true 8 (.t 3)) <|
 q 14 (.call F.clapperref07_Bytes [(.t 13)]) <|
 q 15 (.build [.int .i64 0, .slice none 0 0] [(0, 1, (ci 2)), (1, 1, (.t 14))]) <|
 q 16 (.bslice false 2 1 [.int .i64 0, .slice none 0 0] [(0, 2, (.t 15))]) <|
 q 17 (.append 2 32 (.t 12) (.t 16)) <|
 q 5 (.mv (.t 17)) <|
 .keep [5] <|
 q 18 (.mv (.t 5)) <|
 q 19 (.call F.clapperref08_Put [(.t 18)]) <|
 q 4 (.mv (.t 19)) <|
 .keep [4] <|
 .ret
theorem e_clapperref09_Signed:EF false F.clapperref09_Signed ic_clapperref09_Signed [.t 4]:=ef [] Tryz.func44 (by kernel_rfl) (by kernel_rfl) (by kernel_rfl)
def ic_clapperref17_May : IC :=
 q 1 (.box (.t 0)) <|
 q 2 (.mv (cb false)) <|
 .keep [1] <|
 q 3 (.fld 0 (.t 1)) <|
 q 4 (.load false 1 (.t 3)) <|
 q 5 (.bin .lss (.t 4) (ci 1)) <|
 q 6 (.mv (.t 5)) <|
 qg 7 6 false (.fld 0 (.t 1)) <|
 qg 8 6 false (.load false 1 (.t 7)) <|
 qg 9 6 false (.bin .gtr (.t 8) (ci 2147483647)) <|
 q 10 (.pick (.t 6) (cb true) (.t 9)) <|
 q 11 (.mv (.t 10)) <|
 qg 12 11 false (.fld 1 (.t 1)) <|
 qg 13 11 false (.load false 1 (.t 12)) <|
 qg 14 11 false (.bin .lss (.t 13) (ci 0)) <|
 q 15 (.pick (.t 11) (cb true) (.t 14)) <|
 q 16 (.mv (.t 15)) <|
 qg 17 16 false (.fld 1 (.t 1)) <|
 qg 18 16 false (.load false 1 (.t 17)) <|
 qg 19 16 false (.bin .gtr (.t 18) (ci 1073741824)) <|
 q 20 (.pick (.t 16) (cb true) (.t 19)) <|
 q 21 (.mv (.t 20)) <|
 qg 22 21 false (.fld 2 (.t 1)) <|
 qg 23 21 false (.load false 1 (.t 22)) <|
 qg 24 21 false (.bin .lss (.t 23) (ci 0)) <|
 q 25 (.pick (.t 21) (cb true) (.t 24)) <|
 q 26 (.mv (.t 25)) <|
 qg 27 26 false (.fld 2 (.t 1)) <|
 qg 28 26 false (.load false 1 (.t 27)) <|
 qg 29 26 false (.bin .gtr (.t 28) (ci 1073741824)) <|
 q 30 (.pick (.t 26) (cb true) (.t 29)) <|
 q 31 (.mv (.t 30)) <|
 qg 32 31 false (.fld 4 (.t 1)) <|
 qg 33 31 false (.load false 1 (.t 32)) <|
 qg 34 31 false (.bin .lss (.t 33) (ci 0)) <|
 q 35 (.pick (.t 31) (cb true) (.t 34)) <|
 q 36 (.mv (.t 35)) <|
 qg 37 36 false (.fld 4 (.t 1)) <|
 qg 38 36 false (.load false 1 (.t 37)) <|
 qg 39 36 false (.bin .gtr (.t 38) (ci 31)) <|
 q 40 (.pick (.t 36) (cb true) (.t 39)) <|
 q 41 (.mv (.t 40)) <|
 qg 42 41 false (.fld 5 (.t 1)) <|
 qg 43 41 false (.load false 1 (.t 42)) <|
 qg 44 41 false (.bin .lss (.t 43) (ci 0)) <|
 q 45 (.pick (.t 41) (cb true) (.t 44)) <|
 q 46 (.mv (.t 45)) <|
 qg 47 46 false (.fld 5 (.t 1)) <|
 qg 48 46 false (.load false 1 (.t 47)) <|
 qg 49 46 false (.bin .gtr (.t 48) (ci 7)) <|
 q 50 (.pick (.t 46) (cb true) (.t 49)) <|
 q 51 (.mv (.t 50)) <|
 qg 52 51 false (.fld 6 (.t 1)) <|
 qg 53 51 false (.load false 1 (.t 52)) <|
 qg 54 51 false (.bin .lss (.t 53) (ci 0)) <|
 q 55 (.pick (.t 51) (cb true) (.t 54)) <|
 q 56 (.mv (.t 55)) <|
 qg 57 56 false (.fld 6 (.t 1)) <|
 qg 58 56 false (.load false 1 (.t 57)) <|
 qg 59 56 false (.bin .gtr (.t 58) (ci 2147483647)) <|
 q 60 (.pick (.t 56) (cb true) (.t 59)) <|
 .keep [1, 60] <|
 .ite (.t 60)
 (q 2 (.mv (cb false)) <|
 .keep [2] <|
 .ret)
 (.done) <|
 q 61 (.fld 3 (.t 1)) <|
 q 62 (.load false 1 (.t 61)) <|
 q 63 (.bin .eql (.t 62) (ci 1)) <|
 .keep [1, 63] <|
 .ite (.t 63)
 (q 64 (.fld 7 (.t 1)) <|
 q 65 (.load false 1 (.t 64)) <|
 q 66 (.bin .geq (.t 65) (ci 1)) <|
 q 67 (.mv (.t 66)) <|
 qg 68 67 true (.fld 7 (.t 1)) <|
 qg 69 67 true (.load false 1 (.t 68)) <|
 qg 70 67 true (.bin .leq (.t 69) (ci 7)) <|
 q 71 (.pick (.t 67) (.t 70) (cb false)) <|
 q 72 (.mv (.t 71)) <|
 qg 73 72 true (.fld 40 (.t 1)) <|
 qg 74 72 true (.load false 1 (.t 73)) <|
 qg 75 72 true (.len false (.t 74)) <|
 qg 76 72 true (.bin .leq (.t 75) (ci 500)) <|
 q 77 (.pick (.t 72) (.t 76) (cb false)) <|
 q 2 (.mv (.t 77)) <|
 .keep [2] <|
 .ret)
 (.done) <|
 q 78 (.fld 3 (.t 1)) <|
 q 79 (.load false 1 (.t 78)) <|
 q 80 (.bin .eql (.t 79) (ci 2)) <|
 q 81 (.mv (.t 80)) <|
 qg 82 81 false (.fld 3 (.t 1)) <|
 qg 83 81 false (.load false 1 (.t 82)) <|
 qg 84 81 false (.bin .eql (.t 83) (ci 3)) <|
 q 85 (.pick (.t 81) (cb true) (.t 84)) <|
 q 86 (.mv (.t 85)) <|
 qg 87 86 true (.fld 7 (.t 1)) <|
 qg 88 86 true (.load false 1 (.t 87)) <|
 qg 89 86 true (.bin .eql (.t 88) (ci 0)) <|
 q 90 (.pick (.t 86) (.t 89) (cb false)) <|
 q 91 (.mv (.t 90)) <|
 qg 92 91 true (.fld 40 (.t 1)) <|
 qg 93 91 true (.load false 1 (.t 92)) <|
 qg 94 91 true (.len false (.t 93)) <|
 qg 95 91 true (.bin .eql (.t 94) (ci 0)) <|
 q 96 (.pick (.t 91) (.t 95) (cb false)) <|
 q 2 (.mv (.t 96)) <|
 .keep [2] <|
 .ret
theorem e_clapperref17_May:EF false F.clapperref17_May ic_clapperref17_May [.t 2]:=ef [] Tryz.func55 (by kernel_rfl) (by kernel_rfl) (by kernel_rfl)
def ic_record_Body : IC :=
 q 1 (.box (.t 0)) <|
 q 2 (.mv (.c (.slice none 0 0))) <|
 q 3 (.mv (.c (.nilIface))) <|
 .keep [1] <|
 q 8 (.load true 41 (.t 1)) <|
 q 9 (.call F.record_May [(.t 8)]) <|
 q 10 (.un .not (.t 9)) <|
 .keep [1, 10] <|
 .ite (.t 10)
 (q 11 (.mkif T.api_Code (ci 1)) <|
 q 2 (.mv (.c (.slice none 0 0))) <|
 q 3 (.mv (.t 11)) <|
 .keep [2, 3] <|
 .ret)
 (.done) <|
 q 4 (.alloc [.slice none 0 0]) <|
 .keep [1, 4] <|
 q 12 (.mkfn (.func F.record_Body_1) [] [(.t 4)]) <|
 q 5 (.mv (.t 12)) <|
 .keep [1, 4, 5] <|
 q 13 (.fld 0 (.t 1)) <|
 q 14 (.load false 1 (.t 13)) <|
 q 15 (.fld 1 (.t 1)) <|
 q 16 (.load false 1 (.t 15)) <|
 q 17 (.fld 2 (.t 1)) <|
 q 18 (.load false 1 (.t 17)) <|
 q 19 (.fld 3 (.t 1)) <|
 q 20 (.load false 1 (.t 19)) <|
 q 21 (.fld 4 (.t 1)) <|
 q 22 (.load false 1 (.t 21)) <|
 q 23 (.fld 5 (.t 1)) <|
 q 24 (.load false 1 (.t 23)) <|
 q 25 (.fld 6 (.t 1)) <|
 q 26 (.load false 1 (.t 25)) <|
 q 27 (.fld 7 (.t 1)) <|
 q 28 (.load false 1 (.t 27)) <|
 q 29 (.build (List.replicate 8 (.int .i64 0)) [(0, 1, (.t 14)), (1, 1, (.t 16)), (2, 1, (.t 18)), (3, 1, (.t 20)), (4, 1, (.t 22)), (5, 1, (.t 24)), (6, 1, (.t 26)), (7, 1, (.t 28))]) <|
 q 30 (.mv (ci 0)) <|
 .keep [1, 4, 5, 29, 30] <|
 .block 0
 (.keep [1, 4, 5, 29, 30] <|
 .loop
 (q 31 (.bin .lss (.t 30) (ci 8)) <|
 .keep [1, 4, 5, 29, 30, 31] <|
 .ite (.t 31)
 (.done)
 (.exit 0) <|
 .block 1
 (q 32 (.idx false 1 8 (.t 29) (.t 30)) <|
 q 7 (.mv (.t 32)) <|
 .keep [1, 4, 5, 7, 29, 30] <|
 q 33 (.mv (.t 5)) <|
 q 34 (.mv (.t 7)) <|
 q 35 (.call F.tlv_Number [(.t 34)]) <|
 q 36 (.callv (.t 33) [(.t 35)]) <|
 .keep [1, 4, 5, 29, 30] <|
 .done) <|
 q 37 (.bin .add (.t 30) (ci 1)) <|
 q 30 (.mv (.t 37)) <|
 .keep [1, 4, 5, 29, 30] <|
 .keep [1, 4, 5, 29, 30] <|
 .done)) <|
 q 38 (.mv (.t 5)) <|
 q 39 (.fld 8 (.t 1)) <|
 q 40 (.slice 1 (some 32) (.t 39) none none none) <|
 q 41 (.callv (.t 38) [(.t 40)]) <|
 .keep [1, 4, 5] <|
 q 42 (.mv (.t 5)) <|
 q 43 (.fld 40 (.t 1)) <|
 q 44 (.load false 1 (.t 43)) <|
 q 45 (.callv (.t 42) [(.t 44)]) <|
 .keep [4] <|
 q 46 (.load false 1 (.t 4)) <|
 q 47 (.call F.tlv_Put [(.t 46)]) <|
 q 48 (.ext (.t 47) 0) <|
 q 49 (.ext (.t 47) 1) <|
 q 2 (.mv (.t 48)) <|
 q 3 (.mv (.t 49)) <|
 .keep [2, 3] <|
 .ret
theorem e_record_Body:EF false F.record_Body ic_record_Body [.t 2,.t 3]:=ef [] Tryz.func56 (by kernel_rfl) (by kernel_rfl) (by kernel_rfl)
def ic_record_Issue : IC :=
 q 2 (.box (.t 0)) <|
 q 3 (.box (.t 1)) <|
 q 4 (.mv (.c (.slice none 0 0))) <|
 q 5 (.mv (.c (.nilIface))) <|
 .keep [2, 3] <|
 q 10 (.load true 41 (.t 2)) <|
 q 11 (.call F.record_Body [(.t 10)]) <|
 q 9 (.mv (.t 11)) <|
 q 12 (.ext (.t 9) 0) <|
 q 13 (.ext (.t 9) 1) <|
 q 6 (.mv (.t 12)) <|
 q 7 (.mv (.t 13)) <|
 .keep [3, 6, 7] <|
 q 14 (.mv (.t 7)) <|
 q 15 (.eq true .i (.t 14) (.c (.nilIface))) <|
 .keep [3, 6, 7, 15] <|
 .ite (.t 15)
 (q 16 (.mv (.t 7)) <|
 q 4 (.mv (.c (.slice none 0 0))) <|
 q 5 (.mv (.t 16)) <|
 .keep [4, 5] <|
 .ret)
 (.done) <|
 .reg 1
 [xe 18 (.load true 4 (.t 3)) [],
 xe 19 (.mv (.t 6)) [],
 xe 20 (.call F.sha_Sum [(.t 19)]) [],
 xe 21 (.call F.sign_Sign [(.t 18), (.t 20)]) [],
 xe 17 (.mv (.t 21)) [],
 xe 22 (.ext (.t 17) 0) [],
 xe 23 (.ext (.t 17) 1) [],
 xa 0 8 (.alloc (List.replicate 8 (.int .u64 0))),
 xln (.store 8 (.t 8) (.t 22)) [],
 xl 7 (.mv (.t 23)) []] <|
 .keep [6, 7, 8] <|
 q 24 (.mv (.t 7)) <|
 q 25 (.eq true .i (.t 24) (.c (.nilIface))) <|
 .keep [6, 7, 8, 25] <|
 .ite (.t 25)
 (q 26 (.mv (.t 7)) <|
 q 4 (.mv (.c (.slice none 0 0))) <|
 q 5 (.mv (.t 26)) <|
 .keep [4, 5] <|
 .ret)
 (.done) <|
 q 27 (.mv (.t 6)) <|
 q 28 (.build [.int .i64 0, .slice none 0 0] [(0, 1, (ci 1)), (1, 1, (.t 27))]) <|
 q 29 (.load true 8 (.t 8)) <|
 q 30 (.call F.sign_Bytes [(.t 29)]) <|
 q 31 (.build [.int .i64 0, .slice none 0 0] [(0, 1, (ci 2)), (1, 1, (.t 30))]) <|
 q 32 (.bslice false 2 2 [.int .i64 0, .slice none 0 0] [(0, 2, (.t 28)), (2, 2, (.t 31))]) <|
 q 33 (.call F.tlv_Put [(.t 32)]) <|
 q 34 (.ext (.t 33) 0) <|
 q 35 (.ext (.t 33) 1) <|
 q 4 (.mv (.t 34)) <|
 q 5 (.mv (.t 35)) <|
 .keep [4, 5] <|
 .ret
theorem e_record_Issue:EF false F.record_Issue ic_record_Issue [.t 4,.t 5]:=ef [] Tryz.func57 (by kernel_rfl) (by kernel_rfl) (by kernel_rfl)
def ic_record_May_39 : IC :=
 q 39 (.mv (.t 3)) <|
 q 40 (.mv (.t 39)) <|
 qg 41 40 true (.mv (.t 4)) <|
 q 42 (.pick (.t 40) (.t 41) (cb false)) <|
 q 43 (.mv (.t 42)) <|
 qg 44 43 true (.fld 0 (.t 1)) <|
 qg 45 43 true (.load false 1 (.t 44)) <|
 qg 46 43 true (.call F.record_within [(.t 45), (ci 1), (ci 2147483647)]) <|
 q 47 (.pick (.t 43) (.t 46) (cb false)) <|
 q 48 (.mv (.t 47)) <|
 qg 49 48 true (.fld 1 (.t 1)) <|
 qg 50 48 true (.load false 1 (.t 49)) <|
 qg 51 48 true (.call F.record_within [(.t 50), (ci 0), (ci 1073741824)]) <|
 q 52 (.pick (.t 48) (.t 51) (cb false)) <|
 q 53 (.mv (.t 52)) <|
 qg 54 53 true (.fld 2 (.t 1)) <|
 qg 55 53 true (.load false 1 (.t 54)) <|
 qg 56 53 true (.call F.record_within [(.t 55), (ci 0), (ci 1073741824)]) <|
 q 57 (.pick (.t 53) (.t 56) (cb false)) <|
 q 58 (.mv (.t 57)) <|
 qg 59 58 true (.fld 6 (.t 1)) <|
 qg 60 58 true (.load false 1 (.t 59)) <|
 qg 61 58 true (.call F.record_within [(.t 60), (ci 0), (ci 2147483647)]) <|
 q 62 (.pick (.t 58) (.t 61) (cb false)) <|
 q 2 (.mv (.t 62)) <|
 .keep [2] <|
 .ret
def ic_record_May : IC :=
 q 1 (.box (.t 0)) <|
 q 2 (.mv (cb false)) <|
 .keep [1] <|
 q 5 (.fld 4 (.t 1)) <|
 q 6 (.load false 1 (.t 5)) <|
 q 7 (.call F.record_within [(.t 6), (ci 0), (ci 31)]) <|
 q 8 (.mv (.t 7)) <|
 qg 9 8 true (.fld 5 (.t 1)) <|
 qg 10 8 true (.load false 1 (.t 9)) <|
 qg 11 8 true (.call F.record_within [(.t 10), (ci 0), (ci 7)]) <|
 q 12 (.pick (.t 8) (.t 11) (cb false)) <|
 q 3 (.mv (.t 12)) <|
 .keep [1, 3] <|
 q 13 (.fld 7 (.t 1)) <|
 q 14 (.load false 1 (.t 13)) <|
 q 15 (.bin .eql (.t 14) (ci 0)) <|
 q 16 (.mv (.t 15)) <|
 qg 17 16 true (.fld 40 (.t 1)) <|
 qg 18 16 true (.load false 1 (.t 17)) <|
 qg 19 16 true (.len false (.t 18)) <|
 qg 20 16 true (.bin .eql (.t 19) (ci 0)) <|
 q 21 (.pick (.t 16) (.t 20) (cb false)) <|
 q 22 (.mv (.t 21)) <|
 qg 23 22 true (.fld 3 (.t 1)) <|
 qg 24 22 true (.load false 1 (.t 23)) <|
 qg 25 22 true (.call F.record_within [(.t 24), (ci 2), (ci 3)]) <|
 q 26 (.pick (.t 22) (.t 25) (cb false)) <|
 q 4 (.mv (.t 26)) <|
 .keep [1, 3, 4] <|
 q 27 (.fld 3 (.t 1)) <|
 q 28 (.load false 1 (.t 27)) <|
 q 29 (.bin .eql (.t 28) (ci 1)) <|
 .keep [1, 3, 4, 29] <|
 .ite (.t 29)
 (q 30 (.fld 7 (.t 1)) <|
 q 31 (.load false 1 (.t 30)) <|
 q 32 (.call F.record_within [(.t 31), (ci 1), (ci 7)]) <|
 q 33 (.mv (.t 32)) <|
 qg 34 33 true (.fld 40 (.t 1)) <|
 qg 35 33 true (.load false 1 (.t 34)) <|
 qg 36 33 true (.len false (.t 35)) <|
 qg 37 33 true (.bin .leq (.t 36) (ci 500)) <|
 q 38 (.pick (.t 33) (.t 37) (cb false)) <|
 q 4 (.mv (.t 38)) <|
 .keep [1, 3, 4] <|
 .done)
 (.done) <|
 ic_record_May_39
theorem e_record_May:EF false F.record_May ic_record_May [.t 2]:=ef [] Tryz.func58 (by kernel_rfl) (by kernel_rfl) (by kernel_rfl)
def ic_clapperref17_Body : IC :=
 q 1 (.box (.t 0)) <|
 q 2 (.mv (.c (.string .empty))) <|
 .keep [1] <|
 q 5 (.fld 0 (.t 1)) <|
 q 6 (.load false 1 (.t 5)) <|
 q 7 (.fld 1 (.t 1)) <|
 q 8 (.load false 1 (.t 7)) <|
 q 9 (.fld 2 (.t 1)) <|
 q 10 (.load false 1 (.t 9)) <|
 q 11 (.fld 3 (.t 1)) <|
 q 12 (.load false 1 (.t 11)) <|
 q 13 (.fld 4 (.t 1)) <|
 q 14 (.load false 1 (.t 13)) <|
 q 15 (.fld 5 (.t 1)) <|
 q 16 (.load false 1 (.t 15)) <|
 q 17 (.fld 6 (.t 1)) <|
 q 18 (.load false 1 (.t 17)) <|
 q 19 (.fld 7 (.t 1)) <|
 q 20 (.load false 1 (.t 19)) <|
 q 21 (.bslice false 1 8 [.int .i64 0] [(0, 1, (.t 6)), (1, 1, (.t 8)), (2, 1, (.t 10)), (3, 1, (.t 12)), (4, 1, (.t 14)), (5, 1, (.t 16)), (6, 1, (.t 18)), (7, 1, (.t 20))]) <|
 q 22 (.call F.clapperref08_Body [(.t 21)]) <|
 q 3 (.mv (.t 22)) <|
 .keep [1, 3] <|
 q 4 (.mv (.c (.slice none 0 0))) <|
 .keep [1, 3, 4] <|
 q 23 (.mv (.t 4)) <|
 q 24 (.fld 8 (.t 1)) <|
 q 25 (.slice 1 (some 32) (.t 24) none none none) <|
 q 26 (.build [.int .i64 0, .slice none 0 0] [(0, 1, (ci 9)), (1, 1, (.t 25))]) <|
 q 27 (.bslice true 2 1 [.int .i64 0, .slice none 0 0] [(0, 2, (.t 26))]) <|
 q 28 (.append 2 32 (.t 23) (.t 27)) <|
 q 4 (.mv (.t 28)) <|
 .keep [1, 3, 4] <|
 q 29 (.mv (.t 4)) <|
 q 30 (.fld 40 (.t 1)) <|
 q 31 (.load false 1 (.t 30)) <|
 q 32 (.build [.int .i64 0, .slice none 0 0] [(0, 1, (ci 10)), (1, 1, (.t 31))]) <|
 q 33 (.bslice true 2 1 [.int .i64 0, .slice none 0 0] [(0, 2, (.t 32))]) <|
 q 34 (.append 2 32 (.t 29) (.t 33)) <|
 q 4 (.mv (.t 34)) <|
 .keep [3, 4] <|
 q 35 (.mv (.t 3)) <|
 q 36 (.mv (.t 4)) <|
 q 37 (.call F.clapperref08_Put [(.t 36)]) <|
 q 38 (.bin .add (.t 35) (.t 37)) <|
 q 2 (.mv (.t 38)) <|
 .keep [2] <|
 .ret
theorem e_clapperref17_Body:EF false F.clapperref17_Body ic_clapperref17_Body [.t 2]:=ef [27,33] Tryz.func59 (by kernel_rfl) (by kernel_rfl) (by kernel_rfl)
def ic_clapperref17_Issue : IC :=
 q 2 (.box (.t 0)) <|
 q 3 (.box (.t 1)) <|
 q 4 (.mv (.c (.string .empty))) <|
 q 5 (.mv (cb false)) <|
 .keep [2, 3] <|
 q 9 (.load true 41 (.t 2)) <|
 q 10 (.call F.clapperref17_Body [(.t 9)]) <|
 q 6 (.mv (.t 10)) <|
 .keep [3, 6] <|
 .reg 1
 [xe 12 (.load true 4 (.t 3)) [],
 xe 13 (.mv (.t 6)) [],
 xe 14 (.s2b false (.t 13)) [],
 xe 15 (.call F.clapperref03_Sum [(.t 14)]) [],
 xe 16 (.call F.clapperref07_Sign [(.t 12), (.t 15)]) [],
 xe 11 (.mv (.t 16)) [],
 xe 17 (.ext (.t 11) 0) [],
 xe 18 (.ext (.t 11) 1) [],
 xa 0 7 (.alloc (List.replicate 8 (.int .u64 0))),
 xln (.store 8 (.t 7) (.t 17)) [],
 xl 8 (.mv (.t 18)) []] <|
 .keep [6, 7, 8] <|
 q 19 (.mv (.t 6)) <|
 q 20 (.load true 8 (.t 7)) <|
 q 21 (.call F.clapperref09_Signed [(.t 19), (.t 20)]) <|
 q 22 (.mv (.t 8)) <|
 q 4 (.mv (.t 21)) <|
 q 5 (.mv (.t 22)) <|
 .keep [4, 5] <|
 .ret
theorem e_clapperref17_Issue:EF false F.clapperref17_Issue ic_clapperref17_Issue [.t 4,.t 5]:=ef [] Tryz.func60 (by kernel_rfl) (by kernel_rfl) (by kernel_rfl)
def ic_record_fields : IC :=
 q 4 (.mv (.c (.slice none 0 0))) <|
 .keep [0, 1] <|
 q 11 (.mv (.t 0)) <|
 q 12 (.call F.tlv_Get [(.t 11)]) <|
 q 10 (.mv (.t 12)) <|
 q 13 (.ext (.t 10) 0) <|
 q 14 (.ext (.t 10) 1) <|
 q 5 (.mv (.t 13)) <|
 q 6 (.mv (.t 14)) <|
 .keep [1, 5, 6] <|
 q 15 (.mv (.t 6)) <|
 q 16 (.eq true .i (.t 15) (.c (.nilIface))) <|
 q 17 (.mv (.t 16)) <|
 qg 18 17 false (.mv (.t 5)) <|
 qg 19 17 false (.len false (.t 18)) <|
 qg 20 17 false (.mv (.t 1)) <|
 qg 21 17 false (.bin .neq (.t 19) (.t 20)) <|
 q 22 (.pick (.t 17) (cb true) (.t 21)) <|
 .keep [5, 22] <|
 .ite (.t 22)
 (q 4 (.mv (.c (.slice none 0 0))) <|
 .keep [4] <|
 .ret)
 (.done) <|
 q 7 (.mv (.c (.slice none 0 0))) <|
 .keep [5, 7] <|
 q 23 (.mv (.t 5)) <|
 q 24 (.len false (.t 23)) <|
 q 25 (.mv (ci 0)) <|
 .keep [7, 23, 24, 25] <|
 .block 0
 (.keep [7, 23, 24, 25] <|
 .loop
 (q 26 (.bin .lss (.t 25) (.t 24)) <|
 .keep [7, 23, 24, 25, 26] <|
 .ite (.t 26)
 (.done)
 (.exit 0) <|
 .block 1
 (q 27 (.mv (.t 25)) <|
 q 28 (.idxa 2 none (.t 23) (.t 25)) <|
 q 29 (.load true 2 (.t 28)) <|
 q 9 (.alloc [.int .i64 0, .slice none 0 0]) <|
 q 8 (.mv (.t 27)) <|
 qn (.store 2 (.t 9) (.t 29)) <|
 .keep [7, 8, 9, 23, 24, 25] <|
 q 30 (.fld 0 (.t 9)) <|
 q 31 (.load false 1 (.t 30)) <|
 q 32 (.mv (.t 8)) <|
 q 33 (.bin .add (.t 32) (ci 1)) <|
 q 34 (.bin .neq (.t 31) (.t 33)) <|
 .keep [7, 9, 23, 24, 25, 34] <|
 .ite (.t 34)
 (q 4 (.mv (.c (.slice none 0 0))) <|
 .keep [4] <|
 .ret)
 (.done) <|
 q 35 (.mv (.t 7)) <|
 q 36 (.fld 1 (.t 9)) <|
 q 37 (.load false 1 (.t 36)) <|
 q 38 (.bslice false 1 1 [.slice none 0 0] [(0, 1, (.t 37))]) <|
 q 39 (.append 1 24 (.t 35) (.t 38)) <|
 q 7 (.mv (.t 39)) <|
 .keep [7, 23, 24, 25] <|
 .done) <|
 q 40 (.bin .add (.t 25) (ci 1)) <|
 q 25 (.mv (.t 40)) <|
 .keep [7, 23, 24, 25] <|
 .keep [7, 23, 24, 25] <|
 .done)) <|
 q 41 (.mv (.t 7)) <|
 q 4 (.mv (.t 41)) <|
 .keep [4] <|
 .ret
theorem e_record_fields:EF false F.record_fields ic_record_fields [.t 4]:=ef [] Tryz.func96 (by kernel_rfl) (by kernel_rfl) (by kernel_rfl)
def ic_record_read : IC :=
 q 2 (.alloc [.int .i64 0, .int .i64 0, .int .i64 0, .int .i64 0, .int .i64 0, .int .i64 0, .int .i64 0, .int .i64 0, .int .u8 0, .int .u8 0, .int .u8 0, .int .u8 0, .int .u8 0, .int .u8 0, .int .u8 0, .int .u8 0, .int .u8 0, .int .u8 0, .int .u8 0, .int .u8 0, .int .u8 0, .int .u8 0, .int .u8 0, .int .u8 0, .int .u8 0, .int .u8 0, .int .u8 0, .int .u8 0, .int .u8 0, .int .u8 0, .int .u8 0, .int .u8 0, .int .u8 0, .int .u8 0, .int .u8 0, .int .u8 0, .int .u8 0, .int .u8 0, .int .u8 0, .int .u8 0, .slice none 0 0]) <|
 .keep [0, 2] <|
 q 9 (.mv (.t 0)) <|
 q 10 (.call F.record_fields [(.t 9), (ci 10)]) <|
 q 3 (.mv (.t 10)) <|
 .keep [2, 3] <|
 q 11 (.mv (.t 3)) <|
 q 12 (.len false (.t 11)) <|
 q 13 (.bin .eql (.t 12) (ci 0)) <|
 q 14 (.mv (.t 13)) <|
 qg 15 14 false (.mv (.t 3)) <|
 qg 16 14 false (.idxa 1 none (.t 15) (ci 8)) <|
 qg 17 14 false (.load false 1 (.t 16)) <|
 qg 18 14 false (.len false (.t 17)) <|
 qg 19 14 false (.bin .neq (.t 18) (ci 32)) <|
 q 20 (.pick (.t 14) (cb true) (.t 19)) <|
 .keep [2, 3, 20] <|
 .ite (.t 20)
 (q 21 (.build [.int .i64 0, .int .i64 0, .int .i64 0, .int .i64 0, .int .i64 0, .int .i64 0, .int .i64 0, .int .i64 0, .int .u8 0, .int .u8 0, .int .u8 0, .int .u8 0, .int .u8 0, .int .u8 0, .int .u8 0, .int .u8 0, .int .u8 0, .int .u8 0, .int .u8 0, .int .u8 0, .int .u8 0, .int .u8 0, .int .u8 0, .int .u8 0, .int .u8 0, .int .u8 0, .int .u8 0, .int .u8 0, .int .u8 0, .int .u8 0, .int .u8 0, .int .u8 0, .int .u8 0, .int .u8 0, .int .u8 0, .int .u8 0, .int .u8 0, .int .u8 0, .int .u8 0, .int .u8 0, .slice none 0 0] []) <|
 qn (.store 41 (.t 2) (.t 21)) <|
 .keep [2] <|
 .ret)
 (.done) <|
 q 4 (.alloc (List.replicate 8 (.int .i64 0))) <|
 .keep [2, 3, 4] <|
 q 22 (.mv (ci 0)) <|
 .keep [2, 3, 4, 22] <|
 .block 0
 (.keep [2, 3, 4, 22] <|
 .loop
 (q 23 (.bin .lss (.t 22) (ci 8)) <|
 .keep [2, 3, 4, 22, 23] <|
 .ite (.t 23)
 (.done)
 (.exit 0) <|
 .block 1
 (q 24 (.mv (.t 22)) <|
 q 5 (.mv (.t 24)) <|
 .keep [2, 3, 4, 5, 22] <|
 q 26 (.mv (.t 3)) <|
 q 27 (.mv (.t 5)) <|
 q 28 (.idxa 1 none (.t 26) (.t 27)) <|
 q 29 (.load false 1 (.t 28)) <|
 q 30 (.call F.tlv_Of [(.t 29)]) <|
 q 25 (.mv (.t 30)) <|
 q 31 (.ext (.t 25) 0) <|
 q 32 (.ext (.t 25) 1) <|
 q 6 (.mv (.t 31)) <|
 q 7 (.mv (.t 32)) <|
 .keep [2, 3, 4, 5, 6, 7, 22] <|
 q 33 (.mv (.t 7)) <|
 q 34 (.eq true .i (.t 33) (.c (.nilIface))) <|
 .keep [2, 3, 4, 5, 6, 22, 34] <|
 .ite (.t 34)
 (q 35 (.build [.int .i64 0, .int .i64 0, .int .i64 0, .int .i64 0, .int .i64 0, .int .i64 0, .int .i64 0, .int .i64 0, .int .u8 0, .int .u8 0, .int .u8 0, .int .u8 0, .int .u8 0, .int .u8 0, .int .u8 0, .int .u8 0, .int .u8 0, .int .u8 0, .int .u8 0, .int .u8 0, .int .u8 0, .int .u8 0, .int .u8 0, .int .u8 0, .int .u8 0, .int .u8 0, .int .u8 0, .int .u8 0, .int .u8 0, .int .u8 0, .int .u8 0, .int .u8 0, .int .u8 0, .int .u8 0, .int .u8 0, .int .u8 0, .int .u8 0, .int .u8 0, .int .u8 0, .int .u8 0, .slice none 0 0] []) <|
 qn (.store 41 (.t 2) (.t 35)) <|
 .keep [2] <|
 .ret)
 (.done) <|
 q 36 (.mv (.t 5)) <|
 q 37 (.mv (.t 6)) <|
 q 38 (.idxa 1 (some 8) (.t 4) (.t 36)) <|
 qn (.store 1 (.t 38) (.t 37)) <|
 .keep [2, 3, 4, 22] <|
 .done) <|
 q 39 (.bin .add (.t 22) (ci 1)) <|
 q 22 (.mv (.t 39)) <|
 .keep [2, 3, 4, 22] <|
 .keep [2, 3, 4, 22] <|
 .done)) <|
 .reg 1
 [xe 40 (.idxa 1 (some 8) (.t 4) (ci 0)) [],
 xe 41 (.load false 1 (.t 40)) [],
 xe 42 (.idxa 1 (some 8) (.t 4) (ci 1)) [],
 xe 43 (.load false 1 (.t 42)) [],
 xe 44 (.idxa 1 (some 8) (.t 4) (ci 2)) [],
 xe 45 (.load false 1 (.t 44)) [],
 xe 46 (.idxa 1 (some 8) (.t 4) (ci 3)) [],
 xe 47 (.load false 1 (.t 46)) [],
 xe 48 (.idxa 1 (some 8) (.t 4) (ci 4)) [],
 xe 49 (.load false 1 (.t 48)) [],
 xe 50 (.idxa 1 (some 8) (.t 4) (ci 5)) [],
 xe 51 (.load false 1 (.t 50)) [],
 xe 52 (.idxa 1 (some 8) (.t 4) (ci 6)) [],
 xe 53 (.load false 1 (.t 52)) [],
 xe 54 (.idxa 1 (some 8) (.t 4) (ci 7)) [],
 xe 55 (.load false 1 (.t 54)) [],
 xe 56 (.mv (.t 3)) [],
 xe 57 (.idxa 1 none (.t 56) (ci 8)) [],
 xe 58 (.load false 1 (.t 57)) [],
 xe 59 (.s2ap 32 1 (.t 58)) [],
 xe 60 (.load true 32 (.t 59)) [],
 xe 61 (.build [.int .i64 0, .int .i64 0, .int .i64 0, .int .i64 0, .int .i64 0, .int .i64 0, .int .i64 0, .int .i64 0, .int .u8 0, .int .u8 0, .int .u8 0, .int .u8 0, .int .u8 0, .int .u8 0, .int .u8 0, .int .u8 0, .int .u8 0, .int .u8 0, .int .u8 0, .int .u8 0, .int .u8 0, .int .u8 0, .int .u8 0, .int .u8 0, .int .u8 0, .int .u8 0, .int .u8 0, .int .u8 0, .int .u8 0, .int .u8 0, .int .u8 0, .int .u8 0, .int .u8 0, .int .u8 0, .int .u8 0, .int .u8 0, .int .u8 0, .int .u8 0, .int .u8 0, .int .u8 0, .slice none 0 0] [(0, 1, (.t 41)), (1, 1, (.t 43)), (2, 1, (.t 45)), (3, 1, (.t 47)), (4, 1, (.t 49)), (5, 1, (.t 51)), (6, 1, (.t 53)), (7, 1, (.t 55)), (8, 32, (.t 60))]) [],
 xa 0 8 (.alloc [.int .i64 0, .int .i64 0, .int .i64 0, .int .i64 0, .int .i64 0, .int .i64 0, .int .i64 0, .int .i64 0, .int .u8 0, .int .u8 0, .int .u8 0, .int .u8 0, .int .u8 0, .int .u8 0, .int .u8 0, .int .u8 0, .int .u8 0, .int .u8 0, .int .u8 0, .int .u8 0, .int .u8 0, .int .u8 0, .int .u8 0, .int .u8 0, .int .u8 0, .int .u8 0, .int .u8 0, .int .u8 0, .int .u8 0, .int .u8 0, .int .u8 0, .int .u8 0, .int .u8 0, .int .u8 0, .int .u8 0, .int .u8 0, .int .u8 0, .int .u8 0, .int .u8 0, .int .u8 0, .slice none 0 0]),
 xln (.store 41 (.t 8) (.t 61)) []] <|
 .keep [2, 3, 8] <|
 q 62 (.mv (.t 3)) <|
 q 63 (.idxa 1 none (.t 62) (ci 9)) <|
 q 64 (.load false 1 (.t 63)) <|
 q 65 (.len false (.t 64)) <|
 q 66 (.bin .gtr (.t 65) (ci 0)) <|
 .keep [2, 3, 8, 66] <|
 .ite (.t 66)
 (q 67 (.mv (.t 3)) <|
 q 68 (.idxa 1 none (.t 67) (ci 9)) <|
 q 69 (.load false 1 (.t 68)) <|
 q 70 (.fld 40 (.t 8)) <|
 qn (.store 1 (.t 70) (.t 69)) <|
 .keep [2, 8] <|
 .done)
 (.done) <|
 q 71 (.load true 41 (.t 8)) <|
 qn (.store 41 (.t 2) (.t 71)) <|
 .keep [2] <|
 .ret
theorem e_record_read:EF false F.record_read ic_record_read [.c 2 true 41]:=ef [] Tryz.func97 (by kernel_rfl) (by kernel_rfl) (by kernel_rfl)
def ic_record_Body_1 : IC :=
 q 3 (.load false 1 (.t 1)) <|
 q 4 (.load false 1 (.t 1)) <|
 q 5 (.len false (.t 4)) <|
 q 6 (.bin .add (.t 5) (ci 1)) <|
 q 7 (.mv (.t 0)) <|
 q 8 (.build [.int .i64 0, .slice none 0 0] [(0, 1, (.t 6)), (1, 1, (.t 7))]) <|
 q 9 (.bslice true 2 1 [.int .i64 0, .slice none 0 0] [(0, 2, (.t 8))]) <|
 q 10 (.append 2 32 (.t 3) (.t 9)) <|
 qn (.store 1 (.t 1) (.t 10)) <|
 .keep [] <|
 .ret
theorem e_record_Body_1:EF false F.record_Body_1 ic_record_Body_1 []:=ef [9] Tryz.func120 (by kernel_rfl) (by kernel_rfl) (by kernel_rfl)
def ic_record_within : IC :=
 q 6 (.mv (cb false)) <|
 .keep [0, 1, 2] <|
 q 7 (.mv (.t 0)) <|
 q 8 (.mv (.t 1)) <|
 q 9 (.bin .geq (.t 7) (.t 8)) <|
 q 10 (.mv (.t 9)) <|
 qg 11 10 true (.mv (.t 0)) <|
 qg 12 10 true (.mv (.t 2)) <|
 qg 13 10 true (.bin .leq (.t 11) (.t 12)) <|
 q 14 (.pick (.t 10) (.t 13) (cb false)) <|
 q 6 (.mv (.t 14)) <|
 .keep [6] <|
 .ret
theorem e_record_within:EF false F.record_within ic_record_within [.t 6]:=ef [] Tryz.func121 (by kernel_rfl) (by kernel_rfl) (by kernel_rfl)
end Go.Proofs.YtgfploghjpbcaaaGreat.Eng

