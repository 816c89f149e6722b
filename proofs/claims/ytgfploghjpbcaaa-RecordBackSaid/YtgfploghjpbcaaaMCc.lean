/- The code of some functions, as the abstract machine's. Printed by program. -/
import Derived.Test.YtgfploghjpbcaaaMCa
namespace Go.Proofs.Ytgfploghjpbcaaa.Eng
open Go Go.Proofs
set_option maxRecDepth 20000
def ic_clapperlaw09_TicketBack : IC :=
 q 3 (.box (.t 0)) <|
 q 4 (.box (.t 1)) <|
 q 6 (.mv (cb false)) <|
 .keep [2, 3, 4] <|
 q 19 (.call F.clapperlaw09_up []) <|
 q 7 (.mv (.t 19)) <|
 .keep [2, 3, 4, 7] <|
 q 20 (.mv (.t 2)) <|
 q 21 (.len false (.t 20)) <|
 q 22 (.bin .gtr (.t 21) (ci 5000)) <|
 .keep [2, 3, 4, 7, 22] <|
 .ite (.t 22)
 (q 23 (.mv (.t 7)) <|
 q 6 (.mv (.t 23)) <|
 .keep [6] <|
 .ret)
 (.done) <|
 q 25 (.load true 5 (.t 3)) <|
 q 26 (.load true 4 (.t 4)) <|
 q 27 (.call F.ticket_Issue [(.t 25), (.t 26)]) <|
 q 24 (.mv (.t 27)) <|
 q 28 (.ext (.t 24) 0) <|
 q 29 (.ext (.t 24) 1) <|
 q 8 (.mv (.t 28)) <|
 q 9 (.mv (.t 29)) <|
 .keep [2, 3, 4, 7, 8, 9] <|
 q 30 (.mv (.t 9)) <|
 q 31 (.eq false .i (.t 30) (.c (.nilIface))) <|
 .keep [2, 3, 4, 7, 8, 31] <|
 .ite (.t 31)
 (q 33 (.load true 4 (.t 4)) <|
 q 34 (.call F.sign_Public [(.t 33)]) <|
 q 32 (.mv (.t 34)) <|
 q 35 (.ext (.t 32) 0) <|
 q 36 (.ext (.t 32) 1) <|
 q 10 (.alloc [.int .u64 0, .int .u64 0, .int .u64 0, .int .u64 0, .int .u64 0, .int .u64 0, .int .u64 0, .int .u64 0, .bool false]) <|
 qn (.store 9 (.t 10) (.t 35)) <|
 q 11 (.mv (.t 36)) <|
 .keep [2, 3, 7, 8, 10, 11] <|
 q 38 (.mv (.t 8)) <|
 q 39 (.load true 9 (.t 10)) <|
 q 40 (.call F.ticket_Check [(.t 38), (.t 39)]) <|
 q 37 (.mv (.t 40)) <|
 q 41 (.ext (.t 37) 0) <|
 q 42 (.ext (.t 37) 1) <|
 q 12 (.alloc (List.replicate 5 (.int .i64 0))) <|
 qn (.store 5 (.t 12) (.t 41)) <|
 q 13 (.mv (.t 42)) <|
 .keep [2, 3, 7, 10, 11, 12, 13] <|
 q 43 (.mv (.t 11)) <|
 q 44 (.eq true .i (.t 43) (.c (.nilIface))) <|
 q 45 (.mv (.t 44)) <|
 qg 46 45 false (.mv (.t 13)) <|
 qg 47 45 false (.eq true .i (.t 46) (.c (.nilIface))) <|
 q 48 (.pick (.t 45) (cb true) (.t 47)) <|
 q 49 (.mv (.t 48)) <|
 qg 50 49 false (.load true 5 (.t 12)) <|
 qg 51 49 false (.load true 5 (.t 3)) <|
 qg 52 49 false (.eqagg (List.replicate 5 (some .i64)) true (.t 50) (.t 51)) <|
 q 53 (.pick (.t 49) (cb true) (.t 52)) <|
 q 54 (.mv (.t 53)) <|
 qg 55 54 false (.load true 9 (.t 10)) <|
 qg 56 54 false (.call F.point_On [(.t 55)]) <|
 qg 57 54 false (.un .not (.t 56)) <|
 q 58 (.pick (.t 54) (cb true) (.t 57)) <|
 .keep [2, 7, 58] <|
 .ite (.t 58)
 (q 6 (.mv (cb false)) <|
 .keep [6] <|
 .ret)
 (.done) <|
 .done)
 (.done) <|
 q 60 (.mv (.t 2)) <|
 q 61 (.call F.ticket_Open [(.t 60)]) <|
 q 59 (.mv (.t 61)) <|
 q 62 (.ext (.t 59) 0) <|
 q 63 (.ext (.t 59) 1) <|
 q 64 (.ext (.t 59) 2) <|
 q 14 (.alloc (List.replicate 5 (.int .i64 0))) <|
 q 15 (.alloc (List.replicate 8 (.int .u64 0))) <|
 qn (.store 5 (.t 14) (.t 62)) <|
 qn (.store 8 (.t 15) (.t 63)) <|
 q 16 (.mv (.t 64)) <|
 .keep [2, 7, 14, 15, 16] <|
 q 65 (.mv (.t 16)) <|
 q 66 (.eq true .i (.t 65) (.c (.nilIface))) <|
 .keep [2, 7, 14, 15, 66] <|
 .ite (.t 66)
 (q 67 (.mv (.t 7)) <|
 q 6 (.mv (.t 67)) <|
 .keep [6] <|
 .ret)
 (.done) <|
 q 69 (.load true 5 (.t 14)) <|
 q 70 (.call F.ticket_Body [(.t 69)]) <|
 q 68 (.mv (.t 70)) <|
 q 71 (.ext (.t 68) 0) <|
 q 72 (.ext (.t 68) 1) <|
 q 17 (.mv (.t 71)) <|
 q 18 (.mv (.t 72)) <|
 .keep [2, 7, 15, 17, 18] <|
 q 73 (.mv (.t 7)) <|
 q 74 (.mv (.t 73)) <|
 qg 75 74 true (.mv (.t 18)) <|
 qg 76 74 true (.eq false .i (.t 75) (.c (.nilIface))) <|
 q 77 (.pick (.t 74) (.t 76) (cb false)) <|
 q 78 (.mv (.t 77)) <|
 qg 79 78 true (.mv (.t 17)) <|
 qg 80 78 true (.b2s (.t 79)) <|
 qg 81 78 true (.load true 8 (.t 15)) <|
 qg 82 78 true (.call F.clapperref09_Signed [(.t 80), (.t 81)]) <|
 qg 83 78 true (.mv (.t 2)) <|
 qg 84 78 true (.b2s (.t 83)) <|
 qg 85 78 true (.bin .eql (.t 82) (.t 84)) <|
 q 86 (.pick (.t 78) (.t 85) (cb false)) <|
 q 6 (.mv (.t 86)) <|
 .keep [6] <|
 .ret
theorem e_clapperlaw09_TicketBack:EF false F.clapperlaw09_TicketBack ic_clapperlaw09_TicketBack [.t 6]:=ef [] Try.func8 (by kernel_rfl) (by kernel_rfl) (by kernel_rfl)
def ic_clapperlaw17_RecordBack : IC :=
 q 3 (.box (.t 0)) <|
 q 4 (.box (.t 1)) <|
 q 6 (.mv (cb false)) <|
 .keep [2, 3, 4] <|
 q 20 (.call F.clapperlaw17_up []) <|
 q 7 (.mv (.t 20)) <|
 .keep [2, 3, 4, 7] <|
 q 21 (.fld 40 (.t 3)) <|
 q 22 (.load false 1 (.t 21)) <|
 q 23 (.len false (.t 22)) <|
 q 24 (.bin .gtr (.t 23) (ci 3000)) <|
 q 25 (.mv (.t 24)) <|
 qg 26 25 false (.mv (.t 2)) <|
 qg 27 25 false (.len false (.t 26)) <|
 qg 28 25 false (.bin .gtr (.t 27) (ci 5000)) <|
 q 29 (.pick (.t 25) (cb true) (.t 28)) <|
 .keep [2, 3, 4, 7, 29] <|
 .ite (.t 29)
 (q 30 (.mv (.t 7)) <|
 q 6 (.mv (.t 30)) <|
 .keep [6] <|
 .ret)
 (.done) <|
 q 32 (.load true 41 (.t 3)) <|
 q 33 (.load true 4 (.t 4)) <|
 q 34 (.call F.record_Issue [(.t 32), (.t 33)]) <|
 q 31 (.mv (.t 34)) <|
 q 35 (.ext (.t 31) 0) <|
 q 36 (.ext (.t 31) 1) <|
 q 8 (.mv (.t 35)) <|
 q 9 (.mv (.t 36)) <|
 .keep [2, 3, 4, 7, 8, 9] <|
 q 37 (.mv (.t 9)) <|
 q 38 (.eq false .i (.t 37) (.c (.nilIface))) <|
 .keep [2, 3, 4, 7, 8, 38] <|
 .ite (.t 38)
 (q 40 (.load true 4 (.t 4)) <|
 q 41 (.call F.sign_Public [(.t 40)]) <|
 q 39 (.mv (.t 41)) <|
 q 42 (.ext (.t 39) 0) <|
 q 43 (.ext (.t 39) 1) <|
 q 10 (.alloc [.int .u64 0, .int .u64 0, .int .u64 0, .int .u64 0, .int .u64 0, .int .u64 0, .int .u64 0, .int .u64 0, .bool false]) <|
 qn (.store 9 (.t 10) (.t 42)) <|
 q 11 (.mv (.t 43)) <|
 .keep [2, 3, 7, 8, 10, 11] <|
 q 45 (.mv (.t 8)) <|
 q 46 (.load true 9 (.t 10)) <|
 q 47 (.call F.record_Check [(.t 45), (.t 46)]) <|
 q 44 (.mv (.t 47)) <|
 q 48 (.ext (.t 44) 0) <|
 q 49 (.ext (.t 44) 1) <|
 q 12 (.alloc [.int .i64 0, .int .i64 0, .int .i64 0, .int .i64 0, .int .i64 0, .int .i64 0, .int .i64 0, .int .i64 0, .int .u8 0, .int .u8 0, .int .u8 0, .int .u8 0, .int .u8 0, .int .u8 0, .int .u8 0, .int .u8 0, .int .u8 0, .int .u8 0, .int .u8 0, .int .u8 0, .int .u8 0, .int .u8 0, .int .u8 0, .int .u8 0, .int .u8 0, .int .u8 0, .int .u8 0, .int .u8 0, .int .u8 0, .int .u8 0, .int .u8 0, .int .u8 0, .int .u8 0, .int .u8 0, .int .u8 0, .int .u8 0, .int .u8 0, .int .u8 0, .int .u8 0, .int .u8 0, .slice none 0 0]) <|
 qn (.store 41 (.t 12) (.t 48)) <|
 q 13 (.mv (.t 49)) <|
 .keep [2, 3, 7, 11, 12, 13] <|
 q 50 (.mv (.t 11)) <|
 q 51 (.eq true .i (.t 50) (.c (.nilIface))) <|
 q 52 (.mv (.t 51)) <|
 qg 53 52 false (.mv (.t 13)) <|
 qg 54 52 false (.eq true .i (.t 53) (.c (.nilIface))) <|
 q 55 (.pick (.t 52) (cb true) (.t 54)) <|
 q 56 (.mv (.t 55)) <|
 qg 57 56 false (.load true 41 (.t 12)) <|
 qg 58 56 false (.load true 41 (.t 3)) <|
 qg 59 56 false (.call F.clapperref17_Same [(.t 57), (.t 58)]) <|
 qg 60 56 false (.un .not (.t 59)) <|
 q 61 (.pick (.t 56) (cb true) (.t 60)) <|
 .keep [2, 7, 61] <|
 .ite (.t 61)
 (q 6 (.mv (cb false)) <|
 .keep [6] <|
 .ret)
 (.done) <|
 .done)
 (.done) <|
 q 63 (.mv (.t 2)) <|
 q 64 (.call F.record_Open [(.t 63)]) <|
 q 62 (.mv (.t 64)) <|
 q 65 (.ext (.t 62) 0) <|
 q 66 (.ext (.t 62) 1) <|
 q 67 (.ext (.t 62) 2) <|
 q 68 (.ext (.t 62) 3) <|
 q 14 (.alloc [.int .i64 0, .int .i64 0, .int .i64 0, .int .i64 0, .int .i64 0, .int .i64 0, .int .i64 0, .int .i64 0, .int .u8 0, .int .u8 0, .int .u8 0, .int .u8 0, .int .u8 0, .int .u8 0, .int .u8 0, .int .u8 0, .int .u8 0, .int .u8 0, .int .u8 0, .int .u8 0, .int .u8 0, .int .u8 0, .int .u8 0, .int .u8 0, .int .u8 0, .int .u8 0, .int .u8 0, .int .u8 0, .int .u8 0, .int .u8 0, .int .u8 0, .int .u8 0, .int .u8 0, .int .u8 0, .int .u8 0, .int .u8 0, .int .u8 0, .int .u8 0, .int .u8 0, .int .u8 0, .slice none 0 0]) <|
 q 15 (.alloc (List.replicate 32 (.int .u8 0))) <|
 q 16 (.alloc (List.replicate 8 (.int .u64 0))) <|
 qn (.store 41 (.t 14) (.t 65)) <|
 qn (.store 32 (.t 15) (.t 66)) <|
 qn (.store 8 (.t 16) (.t 67)) <|
 q 17 (.mv (.t 68)) <|
 .keep [2, 7, 14, 16, 17] <|
 q 69 (.mv (.t 17)) <|
 q 70 (.eq true .i (.t 69) (.c (.nilIface))) <|
 .keep [2, 7, 14, 16, 70] <|
 .ite (.t 70)
 (q 71 (.mv (.t 7)) <|
 q 6 (.mv (.t 71)) <|
 .keep [6] <|
 .ret)
 (.done) <|
 q 73 (.load true 41 (.t 14)) <|
 q 74 (.call F.record_Body [(.t 73)]) <|
 q 72 (.mv (.t 74)) <|
 q 75 (.ext (.t 72) 0) <|
 q 76 (.ext (.t 72) 1) <|
 q 18 (.mv (.t 75)) <|
 q 19 (.mv (.t 76)) <|
 .keep [2, 7, 16, 18, 19] <|
 q 77 (.mv (.t 7)) <|
 q 78 (.mv (.t 77)) <|
 qg 79 78 true (.mv (.t 19)) <|
 qg 80 78 true (.eq false .i (.t 79) (.c (.nilIface))) <|
 q 81 (.pick (.t 78) (.t 80) (cb false)) <|
 q 82 (.mv (.t 81)) <|
 qg 83 82 true (.mv (.t 18)) <|
 qg 84 82 true (.b2s (.t 83)) <|
 qg 85 82 true (.load true 8 (.t 16)) <|
 qg 86 82 true (.call F.clapperref09_Signed [(.t 84), (.t 85)]) <|
 qg 87 82 true (.mv (.t 2)) <|
 qg 88 82 true (.b2s (.t 87)) <|
 qg 89 82 true (.bin .eql (.t 86) (.t 88)) <|
 q 90 (.pick (.t 82) (.t 89) (cb false)) <|
 q 6 (.mv (.t 90)) <|
 .keep [6] <|
 .ret
theorem e_clapperlaw17_RecordBack:EF false F.clapperlaw17_RecordBack ic_clapperlaw17_RecordBack [.t 6]:=ef [] Try.func10 (by kernel_rfl) (by kernel_rfl) (by kernel_rfl)
def ic_clapperlaw17_up : IC :=
 q 0 (.mv (cb false)) <|
 .keep [] <|
 q 8 (.call F.record_Open [(.c (.slice none 0 0))]) <|
 q 7 (.mv (.t 8)) <|
 q 9 (.ext (.t 7) 0) <|
 q 10 (.ext (.t 7) 1) <|
 q 11 (.ext (.t 7) 2) <|
 q 12 (.ext (.t 7) 3) <|
 q 1 (.alloc [.int .i64 0, .int .i64 0, .int .i64 0, .int .i64 0, .int .i64 0, .int .i64 0, .int .i64 0, .int .i64 0, .int .u8 0, .int .u8 0, .int .u8 0, .int .u8 0, .int .u8 0, .int .u8 0, .int .u8 0, .int .u8 0, .int .u8 0, .int .u8 0, .int .u8 0, .int .u8 0, .int .u8 0, .int .u8 0, .int .u8 0, .int .u8 0, .int .u8 0, .int .u8 0, .int .u8 0, .int .u8 0, .int .u8 0, .int .u8 0, .int .u8 0, .int .u8 0, .int .u8 0, .int .u8 0, .int .u8 0, .int .u8 0, .int .u8 0, .int .u8 0, .int .u8 0, .int .u8 0, .slice none 0 0]) <|
 q 2 (.alloc (List.replicate 32 (.int .u8 0))) <|
 q 3 (.alloc (List.replicate 8 (.int .u64 0))) <|
 qn (.store 41 (.t 1) (.t 9)) <|
 qn (.store 32 (.t 2) (.t 10)) <|
 qn (.store 8 (.t 3) (.t 11)) <|
 q 4 (.mv (.t 12)) <|
 .keep [4] <|
 q 14 (.build [.int .i64 0, .int .i64 0, .int .i64 0, .int .i64 0, .int .i64 0, .int .i64 0, .int .i64 0, .int .i64 0, .int .u8 0, .int .u8 0, .int .u8 0, .int .u8 0, .int .u8 0, .int .u8 0, .int .u8 0, .int .u8 0, .int .u8 0, .int .u8 0, .int .u8 0, .int .u8 0, .int .u8 0, .int .u8 0, .int .u8 0, .int .u8 0, .int .u8 0, .int .u8 0, .int .u8 0, .int .u8 0, .int .u8 0, .int .u8 0, .int .u8 0, .int .u8 0, .int .u8 0, .int .u8 0, .int .u8 0, .int .u8 0, .int .u8 0, .int .u8 0, .int .u8 0, .int .u8 0, .slice none 0 0] [(0, 1, (ci 1)), (3, 1, (ci 2))]) <|
 q 15 (.call F.record_Body [(.t 14)]) <|
 q 13 (.mv (.t 15)) <|
 q 16 (.ext (.t 13) 0) <|
 q 17 (.ext (.t 13) 1) <|
 q 5 (.mv (.t 16)) <|
 q 6 (.mv (.t 17)) <|
 .keep [4, 5, 6] <|
 q 18 (.mv (.t 4)) <|
 q 19 (.mkif T.api_Code (ci 2)) <|
 q 20 (.eq false .i (.t 18) (.t 19)) <|
 q 21 (.mv (.t 20)) <|
 qg 22 21 true (.mv (.t 6)) <|
 qg 23 21 true (.eq false .i (.t 22) (.c (.nilIface))) <|
 q 24 (.pick (.t 21) (.t 23) (cb false)) <|
 q 25 (.mv (.t 24)) <|
 qg 26 25 true (.mv (.t 5)) <|
 qg 27 25 true (.len false (.t 26)) <|
 qg 28 25 true (.bin .eql (.t 27) (ci 126)) <|
 q 29 (.pick (.t 25) (.t 28) (cb false)) <|
 q 30 (.mv (.t 29)) <|
 qg 31 30 true (.bslice false 1 1 [.slice none 0 0] [(0, 1, (.c (.slice none 0 0)))]) <|
 qg 32 30 true (.build [.int .u64 0, .int .u64 0, .int .u64 0, .int .u64 0, .int .u64 0, .int .u64 0, .int .u64 0, .int .u64 0, .bool false] []) <|
 qg 33 30 true (.call F.record_Chain [(.t 31), (ci 1), (.t 32)]) <|
 qg 34 30 true (.bin .eql (.t 33) (ci 0)) <|
 q 35 (.pick (.t 30) (.t 34) (cb false)) <|
 q 0 (.mv (.t 35)) <|
 .keep [0] <|
 .ret
theorem e_clapperlaw17_up:EF false F.clapperlaw17_up ic_clapperlaw17_up [.t 0]:=ef [] Try.func23 (by kernel_rfl) (by kernel_rfl) (by kernel_rfl)
def ic_record_Chain : IC :=
 q 5 (.box (.t 2)) <|
 q 6 (.mv (ci 0)) <|
 .keep [0, 1, 5] <|
 q 7 (.alloc (List.replicate 32 (.int .u8 0))) <|
 .keep [0, 1, 5, 7] <|
 q 14 (.mv (.t 0)) <|
 q 15 (.len false (.t 14)) <|
 q 16 (.mv (ci 0)) <|
 .keep [0, 1, 5, 7, 14, 15, 16] <|
 .block 0
 (.keep [0, 1, 5, 7, 14, 15, 16] <|
 .loop
 (q 17 (.bin .lss (.t 16) (.t 15)) <|
 .keep [0, 1, 5, 7, 14, 15, 16, 17] <|
 .ite (.t 17)
 (.done)
 (.exit 0) <|
 .block 1
 (q 18 (.mv (.t 16)) <|
 q 19 (.idxa 1 none (.t 14) (.t 16)) <|
 q 20 (.load false 1 (.t 19)) <|
 q 8 (.mv (.t 18)) <|
 q 9 (.mv (.t 20)) <|
 .keep [0, 1, 5, 7, 8, 9, 14, 15, 16] <|
 q 22 (.mv (.t 9)) <|
 q 23 (.call F.record_Open [(.t 22)]) <|
 q 21 (.mv (.t 23)) <|
 q 24 (.ext (.t 21) 0) <|
 q 25 (.ext (.t 21) 1) <|
 q 26 (.ext (.t 21) 2) <|
 q 27 (.ext (.t 21) 3) <|
 q 10 (.alloc [.int .i64 0, .int .i64 0, .int .i64 0, .int .i64 0, .int .i64 0, .int .i64 0, .int .i64 0, .int .i64 0, .int .u8 0, .int .u8 0, .int .u8 0, .int .u8 0, .int .u8 0, .int .u8 0, .int .u8 0, .int .u8 0, .int .u8 0, .int .u8 0, .int .u8 0, .int .u8 0, .int .u8 0, .int .u8 0, .int .u8 0, .int .u8 0, .int .u8 0, .int .u8 0, .int .u8 0, .int .u8 0, .int .u8 0, .int .u8 0, .int .u8 0, .int .u8 0, .int .u8 0, .int .u8 0, .int .u8 0, .int .u8 0, .int .u8 0, .int .u8 0, .int .u8 0, .int .u8 0, .slice none 0 0]) <|
 q 11 (.alloc (List.replicate 32 (.int .u8 0))) <|
 q 12 (.alloc (List.replicate 8 (.int .u64 0))) <|
 qn (.store 41 (.t 10) (.t 24)) <|
 qn (.store 32 (.t 11) (.t 25)) <|
 qn (.store 8 (.t 12) (.t 26)) <|
 q 13 (.mv (.t 27)) <|
 .keep [0, 1, 5, 7, 8, 10, 11, 12, 13, 14, 15, 16] <|
 q 28 (.mv (.t 13)) <|
 q 29 (.eq true .i (.t 28) (.c (.nilIface))) <|
 q 30 (.mv (.t 29)) <|
 qg 31 30 false (.fld 0 (.t 10)) <|
 qg 32 30 false (.load false 1 (.t 31)) <|
 qg 33 30 false (.mv (.t 1)) <|
 qg 34 30 false (.bin .neq (.t 32) (.t 33)) <|
 q 35 (.pick (.t 30) (cb true) (.t 34)) <|
 q 36 (.mv (.t 35)) <|
 qg 37 36 false (.fld 1 (.t 10)) <|
 qg 38 36 false (.load false 1 (.t 37)) <|
 qg 39 36 false (.mv (.t 8)) <|
 qg 40 36 false (.bin .neq (.t 38) (.t 39)) <|
 q 41 (.pick (.t 36) (cb true) (.t 40)) <|
 q 42 (.mv (.t 41)) <|
 qg 43 42 false (.fld 8 (.t 10)) <|
 qg 44 42 false (.load true 32 (.t 43)) <|
 qg 45 42 false (.load true 32 (.t 7)) <|
 qg 46 42 false (.eqagg (List.replicate 32 (some .u8)) true (.t 44) (.t 45)) <|
 q 47 (.pick (.t 42) (cb true) (.t 46)) <|
 q 48 (.mv (.t 47)) <|
 qg 49 48 false (.load true 9 (.t 5)) <|
 qg 50 48 false (.load true 32 (.t 11)) <|
 qg 51 48 false (.load true 8 (.t 12)) <|
 qg 52 48 false (.call F.sign_Verify [(.t 49), (.t 50), (.t 51)]) <|
 qg 53 48 false (.un .not (.t 52)) <|
 q 54 (.pick (.t 48) (cb true) (.t 53)) <|
 .keep [0, 1, 5, 7, 8, 11, 14, 15, 16, 54] <|
 .ite (.t 54)
 (q 55 (.mv (.t 8)) <|
 q 6 (.mv (.t 55)) <|
 .keep [6] <|
 .ret)
 (.done) <|
 q 56 (.load true 32 (.t 11)) <|
 qn (.store 32 (.t 7) (.t 56)) <|
 .keep [0, 1, 5, 7, 14, 15, 16] <|
 .done) <|
 q 57 (.bin .add (.t 16) (ci 1)) <|
 q 16 (.mv (.t 57)) <|
 .keep [0, 1, 5, 7, 14, 15, 16] <|
 .keep [0, 1, 5, 7, 14, 15, 16] <|
 .done)) <|
 q 58 (.mv (.t 0)) <|
 q 59 (.len false (.t 58)) <|
 q 6 (.mv (.t 59)) <|
 .keep [6] <|
 .ret
theorem e_record_Chain:EF false F.record_Chain ic_record_Chain [.t 6]:=ef [] Try.func24 (by kernel_rfl) (by kernel_rfl) (by kernel_rfl)
def ic_clapperlaw09_up : IC :=
 q 0 (.mv (cb false)) <|
 .keep [] <|
 q 7 (.call F.ticket_Open [(.c (.slice none 0 0))]) <|
 q 6 (.mv (.t 7)) <|
 q 8 (.ext (.t 6) 0) <|
 q 9 (.ext (.t 6) 1) <|
 q 10 (.ext (.t 6) 2) <|
 q 1 (.alloc (List.replicate 5 (.int .i64 0))) <|
 q 2 (.alloc (List.replicate 8 (.int .u64 0))) <|
 qn (.store 5 (.t 1) (.t 8)) <|
 qn (.store 8 (.t 2) (.t 9)) <|
 q 3 (.mv (.t 10)) <|
 .keep [3] <|
 q 12 (.build (List.replicate 5 (.int .i64 0)) [(0, 1, (ci 1)), (1, 1, (ci 1)), (2, 1, (ci 1)), (4, 1, (ci 1))]) <|
 q 13 (.call F.ticket_Body [(.t 12)]) <|
 q 11 (.mv (.t 13)) <|
 q 14 (.ext (.t 11) 0) <|
 q 15 (.ext (.t 11) 1) <|
 q 4 (.mv (.t 14)) <|
 q 5 (.mv (.t 15)) <|
 .keep [3, 4, 5] <|
 q 16 (.mv (.t 3)) <|
 q 17 (.mkif T.api_Code (ci 2)) <|
 q 18 (.eq false .i (.t 16) (.t 17)) <|
 q 19 (.mv (.t 18)) <|
 qg 20 19 true (.mv (.t 5)) <|
 qg 21 19 true (.eq false .i (.t 20) (.c (.nilIface))) <|
 q 22 (.pick (.t 19) (.t 21) (cb false)) <|
 q 23 (.mv (.t 22)) <|
 qg 24 23 true (.mv (.t 4)) <|
 qg 25 23 true (.len false (.t 24)) <|
 qg 26 23 true (.bin .eql (.t 25) (ci 55)) <|
 q 27 (.pick (.t 23) (.t 26) (cb false)) <|
 q 28 (.mv (.t 27)) <|
 qg 29 28 true (.mv (.t 4)) <|
 qg 30 28 true (.idxa 1 none (.t 29) (ci 0)) <|
 qg 31 28 true (.load false 1 (.t 30)) <|
 qg 32 28 true (.bin .eql (.t 31) (.c (.int .u8 1))) <|
 q 33 (.pick (.t 28) (.t 32) (cb false)) <|
 q 0 (.mv (.t 33)) <|
 .keep [0] <|
 .ret
theorem e_clapperlaw09_up:EF false F.clapperlaw09_up ic_clapperlaw09_up [.t 0]:=ef [] Try.func30 (by kernel_rfl) (by kernel_rfl) (by kernel_rfl)
def ic_ticket_Issue : IC :=
 q 2 (.box (.t 0)) <|
 q 3 (.box (.t 1)) <|
 q 4 (.mv (.c (.slice none 0 0))) <|
 q 5 (.mv (.c (.nilIface))) <|
 .keep [2, 3] <|
 q 10 (.load true 5 (.t 2)) <|
 q 11 (.call F.ticket_Body [(.t 10)]) <|
 q 9 (.mv (.t 11)) <|
 q 12 (.ext (.t 9) 0) <|
 q 13 (.ext (.t 9) 1) <|
 q 6 (.mv (.t 12)) <|
 q 7 (.mv (.t 13)) <|
 .keep [3, 6, 7] <|
 q 14 (.mv (.t 7)) <|
 q 15 (.eq true .i (.t 14) (.c (.nilIface))) <|
 .keep [3, 6, 7, 15] <|
 .ite (.t 15)
 (q 16 (.mv (.t 7)) <|
 q 4 (.mv (.c (.slice none 0 0))) <|
 q 5 (.mv (.t 16)) <|
 .keep [4, 5] <|
 .ret)
 (.done) <|
 .reg 1
 [xe 18 (.load true 4 (.t 3)) [],
 xe 19 (.mv (.t 6)) [],
 xe 20 (.call F.sha_Sum [(.t 19)]) [],
 xe 21 (.call F.sign_Sign [(.t 18), (.t 20)]) [],
 xe 17 (.mv (.t 21)) [],
 xe 22 (.ext (.t 17) 0) [],
 xe 23 (.ext (.t 17) 1) [],
 xa 0 8 (.alloc (List.replicate 8 (.int .u64 0))),
 xln (.store 8 (.t 8) (.t 22)) [],
 xl 7 (.mv (.t 23)) []] <|
 .keep [6, 7, 8] <|
 q 24 (.mv (.t 7)) <|
 q 25 (.eq true .i (.t 24) (.c (.nilIface))) <|
 .keep [6, 7, 8, 25] <|
 .ite (.t 25)
 (q 26 (.mv (.t 7)) <|
 q 4 (.mv (.c (.slice none 0 0))) <|
 q 5 (.mv (.t 26)) <|
 .keep [4, 5] <|
 .ret)
 (.done) <|
 q 27 (.mv (.t 6)) <|
 q 28 (.build [.int .i64 0, .slice none 0 0] [(0, 1, (ci 1)), (1, 1, (.t 27))]) <|
 q 29 (.load true 8 (.t 8)) <|
 q 30 (.call F.sign_Bytes [(.t 29)]) <|
 q 31 (.build [.int .i64 0, .slice none 0 0] [(0, 1, (ci 2)), (1, 1, (.t 30))]) <|
 q 32 (.bslice false 2 2 [.int .i64 0, .slice none 0 0] [(0, 2, (.t 28)), (2, 2, (.t 31))]) <|
 q 33 (.call F.tlv_Put [(.t 32)]) <|
 q 34 (.ext (.t 33) 0) <|
 q 35 (.ext (.t 33) 1) <|
 q 4 (.mv (.t 34)) <|
 q 5 (.mv (.t 35)) <|
 .keep [4, 5] <|
 .ret
theorem e_ticket_Issue:EF false F.ticket_Issue ic_ticket_Issue [.t 4,.t 5]:=ef [] Try.func31 (by kernel_rfl) (by kernel_rfl) (by kernel_rfl)
def ic_ticket_Check : IC :=
 q 3 (.box (.t 1)) <|
 q 4 (.alloc (List.replicate 5 (.int .i64 0))) <|
 q 5 (.mv (.c (.nilIface))) <|
 .keep [0, 3, 4] <|
 q 13 (.mv (.t 0)) <|
 q 14 (.call F.ticket_Open [(.t 13)]) <|
 q 12 (.mv (.t 14)) <|
 q 15 (.ext (.t 12) 0) <|
 q 16 (.ext (.t 12) 1) <|
 q 17 (.ext (.t 12) 2) <|
 q 6 (.alloc (List.replicate 5 (.int .i64 0))) <|
 q 7 (.alloc (List.replicate 8 (.int .u64 0))) <|
 qn (.store 5 (.t 6) (.t 15)) <|
 qn (.store 8 (.t 7) (.t 16)) <|
 q 8 (.mv (.t 17)) <|
 .keep [0, 3, 4, 6, 7, 8] <|
 q 18 (.mv (.t 8)) <|
 q 19 (.eq true .i (.t 18) (.c (.nilIface))) <|
 .keep [0, 3, 4, 6, 7, 8, 19] <|
 .ite (.t 19)
 (q 20 (.build (List.replicate 5 (.int .i64 0)) []) <|
 q 21 (.mv (.t 8)) <|
 qn (.store 5 (.t 4) (.t 20)) <|
 q 5 (.mv (.t 21)) <|
 .keep [4, 5] <|
 .ret)
 (.done) <|
 q 23 (.mv (.t 0)) <|
 q 24 (.call F.ticket_parts [(.t 23)]) <|
 q 22 (.mv (.t 24)) <|
 q 25 (.ext (.t 22) 0) <|
 q 26 (.ext (.t 22) 1) <|
 q 27 (.ext (.t 22) 2) <|
 q 10 (.alloc (List.replicate 8 (.int .u64 0))) <|
 q 9 (.mv (.t 25)) <|
 qn (.store 8 (.t 10) (.t 26)) <|
 q 11 (.mv (.t 27)) <|
 .keep [3, 4, 6, 7, 9] <|
 q 28 (.load true 9 (.t 3)) <|
 q 29 (.mv (.t 9)) <|
 q 30 (.call F.sha_Sum [(.t 29)]) <|
 q 31 (.load true 8 (.t 7)) <|
 q 32 (.call F.sign_Verify [(.t 28), (.t 30), (.t 31)]) <|
 q 33 (.un .not (.t 32)) <|
 .keep [4, 6, 33] <|
 .ite (.t 33)
 (q 34 (.build (List.replicate 5 (.int .i64 0)) []) <|
 q 35 (.mkif T.api_Code (ci 8)) <|
 qn (.store 5 (.t 4) (.t 34)) <|
 q 5 (.mv (.t 35)) <|
 .keep [4, 5] <|
 .ret)
 (.done) <|
 q 36 (.load true 5 (.t 6)) <|
 qn (.store 5 (.t 4) (.t 36)) <|
 q 5 (.mv (.c (.nilIface))) <|
 .keep [4, 5] <|
 .ret
theorem e_ticket_Check:EF false F.ticket_Check ic_ticket_Check [.c 4 true 5,.t 5]:=ef [] Try.func32 (by kernel_rfl) (by kernel_rfl) (by kernel_rfl)
def ic_ticket_Open : IC :=
 q 2 (.alloc (List.replicate 5 (.int .i64 0))) <|
 q 3 (.alloc (List.replicate 8 (.int .u64 0))) <|
 q 4 (.mv (.c (.nilIface))) <|
 .keep [0, 2, 3] <|
 q 12 (.mv (.t 0)) <|
 q 13 (.call F.ticket_parts [(.t 12)]) <|
 q 11 (.mv (.t 13)) <|
 q 14 (.ext (.t 11) 0) <|
 q 15 (.ext (.t 11) 1) <|
 q 16 (.ext (.t 11) 2) <|
 q 6 (.alloc (List.replicate 8 (.int .u64 0))) <|
 q 5 (.mv (.t 14)) <|
 qn (.store 8 (.t 6) (.t 15)) <|
 q 7 (.mv (.t 16)) <|
 .keep [2, 3, 5, 6, 7] <|
 q 18 (.mv (.t 5)) <|
 q 19 (.call F.ticket_numbers [(.t 18), (ci 5)]) <|
 q 17 (.mv (.t 19)) <|
 q 20 (.ext (.t 17) 0) <|
 q 21 (.ext (.t 17) 1) <|
 q 8 (.mv (.t 20)) <|
 q 9 (.mv (.t 21)) <|
 .keep [2, 3, 6, 7, 8, 9] <|
 q 22 (.mv (.t 7)) <|
 q 23 (.un .not (.t 22)) <|
 q 24 (.mv (.t 23)) <|
 qg 25 24 false (.mv (.t 9)) <|
 qg 26 24 false (.un .not (.t 25)) <|
 q 27 (.pick (.t 24) (cb true) (.t 26)) <|
 .keep [2, 3, 6, 8, 27] <|
 .ite (.t 27)
 (q 28 (.build (List.replicate 5 (.int .i64 0)) []) <|
 q 29 (.build (List.replicate 8 (.int .u64 0)) []) <|
 q 30 (.mkif T.api_Code (ci 2)) <|
 qn (.store 5 (.t 2) (.t 28)) <|
 qn (.store 8 (.t 3) (.t 29)) <|
 q 4 (.mv (.t 30)) <|
 .keep [2, 3, 4] <|
 .ret)
 (.done) <|
 .reg 1
 [xe 31 (.mv (.t 8)) [],
 xe 32 (.idxa 1 none (.t 31) (ci 0)) [],
 xe 33 (.load false 1 (.t 32)) [],
 xe 34 (.mv (.t 8)) [],
 xe 35 (.idxa 1 none (.t 34) (ci 1)) [],
 xe 36 (.load false 1 (.t 35)) [],
 xe 37 (.mv (.t 8)) [],
 xe 38 (.idxa 1 none (.t 37) (ci 2)) [],
 xe 39 (.load false 1 (.t 38)) [],
 xe 40 (.mv (.t 8)) [],
 xe 41 (.idxa 1 none (.t 40) (ci 3)) [],
 xe 42 (.load false 1 (.t 41)) [],
 xe 43 (.mv (.t 8)) [],
 xe 44 (.idxa 1 none (.t 43) (ci 4)) [],
 xe 45 (.load false 1 (.t 44)) [],
 xe 46 (.build (List.replicate 5 (.int .i64 0)) [(0, 1, (.t 33)), (1, 1, (.t 36)), (2, 1, (.t 39)), (3, 1, (.t 42)), (4, 1, (.t 45))]) [],
 xa 0 10 (.alloc (List.replicate 5 (.int .i64 0))),
 xln (.store 5 (.t 10) (.t 46)) []] <|
 .keep [2, 3, 6, 10] <|
 q 47 (.load true 5 (.t 10)) <|
 q 48 (.call F.ticket_May [(.t 47)]) <|
 q 49 (.un .not (.t 48)) <|
 .keep [2, 3, 6, 10, 49] <|
 .ite (.t 49)
 (q 50 (.build (List.replicate 5 (.int .i64 0)) []) <|
 q 51 (.build (List.replicate 8 (.int .u64 0)) []) <|
 q 52 (.mkif T.api_Code (ci 2)) <|
 qn (.store 5 (.t 2) (.t 50)) <|
 qn (.store 8 (.t 3) (.t 51)) <|
 q 4 (.mv (.t 52)) <|
 .keep [2, 3, 4] <|
 .ret)
 (.done) <|
 .reg 0
 [xe 53 (.load true 5 (.t 10)) [],
 xe 54 (.load true 8 (.t 6)) [],
 xln (.store 5 (.t 2) (.t 53)) [(.t 6)],
 xln (.store 8 (.t 3) (.t 54)) [],
 xl 4 (.mv (.c (.nilIface))) []] <|
 .keep [2, 3, 4] <|
 .ret
theorem e_ticket_Open:EF false F.ticket_Open ic_ticket_Open [.c 2 true 5,.c 3 true 8,.t 4]:=ef [] Try.func33 (by kernel_rfl) (by kernel_rfl) (by kernel_rfl)
def ic_ticket_Body : IC :=
 q 1 (.box (.t 0)) <|
 q 2 (.mv (.c (.slice none 0 0))) <|
 q 3 (.mv (.c (.nilIface))) <|
 .keep [1] <|
 q 7 (.load true 5 (.t 1)) <|
 q 8 (.call F.ticket_May [(.t 7)]) <|
 q 9 (.un .not (.t 8)) <|
 .keep [1, 9] <|
 .ite (.t 9)
 (q 10 (.mkif T.api_Code (ci 1)) <|
 q 2 (.mv (.c (.slice none 0 0))) <|
 q 3 (.mv (.t 10)) <|
 .keep [2, 3] <|
 .ret)
 (.done) <|
 q 4 (.mv (.c (.slice none 0 0))) <|
 .keep [1, 4] <|
 q 11 (.fld 0 (.t 1)) <|
 q 12 (.load false 1 (.t 11)) <|
 q 13 (.fld 1 (.t 1)) <|
 q 14 (.load false 1 (.t 13)) <|
 q 15 (.fld 2 (.t 1)) <|
 q 16 (.load false 1 (.t 15)) <|
 q 17 (.fld 3 (.t 1)) <|
 q 18 (.load false 1 (.t 17)) <|
 q 19 (.fld 4 (.t 1)) <|
 q 20 (.load false 1 (.t 19)) <|
 q 21 (.bslice false 1 5 [.int .i64 0] [(0, 1, (.t 12)), (1, 1, (.t 14)), (2, 1, (.t 16)), (3, 1, (.t 18)), (4, 1, (.t 20))]) <|
 q 22 (.len false (.t 21)) <|
 q 23 (.mv (ci 0)) <|
 .keep [4, 21, 22, 23] <|
 .block 0
 (.keep [4, 21, 22, 23] <|
 .loop
 (q 24 (.bin .lss (.t 23) (.t 22)) <|
 .keep [4, 21, 22, 23, 24] <|
 .ite (.t 24)
 (.done)
 (.exit 0) <|
 .block 1
 (q 25 (.mv (.t 23)) <|
 q 26 (.idxa 1 none (.t 21) (.t 23)) <|
 q 27 (.load false 1 (.t 26)) <|
 q 5 (.mv (.t 25)) <|
 q 6 (.mv (.t 27)) <|
 .keep [4, 5, 6, 21, 22, 23] <|
 q 28 (.mv (.t 4)) <|
 q 29 (.mv (.t 5)) <|
 q 30 (.bin .add (.t 29) (ci 1)) <|
 q 31 (.mv (.t 6)) <|
 q 32 (.call F.tlv_Number [(.t 31)]) <|
 q 33 (.build [.int .i64 0, .slice none 0 0] [(0, 1, (.t 30)), (1, 1, (.t 32))]) <|
 q 34 (.bslice false 2 1 [.int .i64 0, .slice none 0 0] [(0, 2, (.t 33))]) <|
 q 35 (.append 2 32 (.t 28) (.t 34)) <|
 q 4 (.mv (.t 35)) <|
 .keep [4, 21, 22, 23] <|
 .done) <|
 q 36 (.bin .add (.t 23) (ci 1)) <|
 q 23 (.mv (.t 36)) <|
 .keep [4, 21, 22, 23] <|
 .keep [4, 21, 22, 23] <|
 .done)) <|
 q 37 (.mv (.t 4)) <|
 q 38 (.call F.tlv_Put [(.t 37)]) <|
 q 39 (.ext (.t 38) 0) <|
 q 40 (.ext (.t 38) 1) <|
 q 2 (.mv (.t 39)) <|
 q 3 (.mv (.t 40)) <|
 .keep [2, 3] <|
 .ret
theorem e_ticket_Body:EF false F.ticket_Body ic_ticket_Body [.t 2,.t 3]:=ef [] Try.func34 (by kernel_rfl) (by kernel_rfl) (by kernel_rfl)
def ic_clapperref09_Signed : IC :=
 q 3 (.box (.t 1)) <|
 q 4 (.mv (.c (.string .empty))) <|
 .keep [0, 3] <|
 q 5 (.mv (.c (.slice none 0 0))) <|
 .keep [0, 3, 5] <|
 q 6 (.mv (.t 5)) <|
 q 7 (.mv (.t 0)) <|
 q 8 (.s2b false (.t 7)) <|
 q 9 (.build [.int .i64 0, .slice none 0 0] [(0, 1, (ci 1)), (1, 1, (.t 8))]) <|
 q 10 (.bslice false 2 1 [.int .i64 0, .slice none 0 0] [(0, 2, (.t 9))]) <|
 q 11 (.append 2 32 (.t 6) (.t 10)) <|
 q 5 (.mv (.t 11)) <|
 .keep [3, 5] <|
 q 12 (.mv (.t 5)) <|
 q 13 (.load true 8 (.t 3)) <|
 q 14 (.call F.clapperref07_Bytes [(.t 13)]) <|
 q 15 (.build [.int .i64 0, .slice none 0 0] [(0, 1, (ci 2)), (1, 1, (.t 14))]) <|
 q 16 (.bslice false 2 1 [.int .i64 0, .slice none 0 0] [(0, 2, (.t 15))]) <|
 q 17 (.append 2 32 (.t 12) (.t 16)) <|
 q 5 (.mv (.t 17)) <|
 .keep [5] <|
 q 18 (.mv (.t 5)) <|
 q 19 (.call F.clapperref08_Put [(.t 18)]) <|
 q 4 (.mv (.t 19)) <|
 .keep [4] <|
 .ret
theorem e_clapperref09_Signed:EF false F.clapperref09_Signed ic_clapperref09_Signed [.t 4]:=ef [] Try.func35 (by kernel_rfl) (by kernel_rfl) (by kernel_rfl)
def ic_record_Issue : IC :=
 q 2 (.box (.t 0)) <|
 q 3 (.box (.t 1)) <|
 q 4 (.mv (.c (.slice none 0 0))) <|
 q 5 (.mv (.c (.nilIface))) <|
 .keep [2, 3] <|
 q 10 (.load true 41 (.t 2)) <|
 q 11 (.call F.record_Body [(.t 10)]) <|
 q 9 (.mv (.t 11)) <|
 q 12 (.ext (.t 9) 0) <|
 q 13 (.ext (.t 9) 1) <|
 q 6 (.mv (.t 12)) <|
 q 7 (.mv (.t 13)) <|
 .keep [3, 6, 7] <|
 q 14 (.mv (.t 7)) <|
 q 15 (.eq true .i (.t 14) (.c (.nilIface))) <|
 .keep [3, 6, 7, 15] <|
 .ite (.t 15)
 (q 16 (.mv (.t 7)) <|
 q 4 (.mv (.c (.slice none 0 0))) <|
 q 5 (.mv (.t 16)) <|
 .keep [4, 5] <|
 .ret)
 (.done) <|
 .reg 1
 [xe 18 (.load true 4 (.t 3)) [],
 xe 19 (.mv (.t 6)) [],
 xe 20 (.call F.sha_Sum [(.t 19)]) [],
 xe 21 (.call F.sign_Sign [(.t 18), (.t 20)]) [],
 xe 17 (.mv (.t 21)) [],
 xe 22 (.ext (.t 17) 0) [],
 xe 23 (.ext (.t 17) 1) [],
 xa 0 8 (.alloc (List.replicate 8 (.int .u64 0))),
 xln (.store 8 (.t 8) (.t 22)) [],
 xl 7 (.mv (.t 23)) []] <|
 .keep [6, 7, 8] <|
 q 24 (.mv (.t 7)) <|
 q 25 (.eq true .i (.t 24) (.c (.nilIface))) <|
 .keep [6, 7, 8, 25] <|
 .ite (.t 25)
 (q 26 (.mv (.t 7)) <|
 q 4 (.mv (.c (.slice none 0 0))) <|
 q 5 (.mv (.t 26)) <|
 .keep [4, 5] <|
 .ret)
 (.done) <|
 q 27 (.mv (.t 6)) <|
 q 28 (.build [.int .i64 0, .slice none 0 0] [(0, 1, (ci 1)), (1, 1, (.t 27))]) <|
 q 29 (.load true 8 (.t 8)) <|
 q 30 (.call F.sign_Bytes [(.t 29)]) <|
 q 31 (.build [.int .i64 0, .slice none 0 0] [(0, 1, (ci 2)), (1, 1, (.t 30))]) <|
 q 32 (.bslice false 2 2 [.int .i64 0, .slice none 0 0] [(0, 2, (.t 28)), (2, 2, (.t 31))]) <|
 q 33 (.call F.tlv_Put [(.t 32)]) <|
 q 34 (.ext (.t 33) 0) <|
 q 35 (.ext (.t 33) 1) <|
 q 4 (.mv (.t 34)) <|
 q 5 (.mv (.t 35)) <|
 .keep [4, 5] <|
 .ret
theorem e_record_Issue:EF false F.record_Issue ic_record_Issue [.t 4,.t 5]:=ef [] Try.func43 (by kernel_rfl) (by kernel_rfl) (by kernel_rfl)
def ic_record_Check : IC :=
 q 3 (.box (.t 1)) <|
 q 4 (.alloc [.int .i64 0, .int .i64 0, .int .i64 0, .int .i64 0, .int .i64 0, .int .i64 0, .int .i64 0, .int .i64 0, .int .u8 0, .int .u8 0, .int .u8 0, .int .u8 0, .int .u8 0, .int .u8 0, .int .u8 0, .int .u8 0, .int .u8 0, .int .u8 0, .int .u8 0, .int .u8 0, .int .u8 0, .int .u8 0, .int .u8 0, .int .u8 0, .int .u8 0, .int .u8 0, .int .u8 0, .int .u8 0, .int .u8 0, .int .u8 0, .int .u8 0, .int .u8 0, .int .u8 0, .int .u8 0, .int .u8 0, .int .u8 0, .int .u8 0, .int .u8 0, .int .u8 0, .int .u8 0, .slice none 0 0]) <|
 q 5 (.mv (.c (.nilIface))) <|
 .keep [0, 3, 4] <|
 q 11 (.mv (.t 0)) <|
 q 12 (.call F.record_Open [(.t 11)]) <|
 q 10 (.mv (.t 12)) <|
 q 13 (.ext (.t 10) 0) <|
 q 14 (.ext (.t 10) 1) <|
 q 15 (.ext (.t 10) 2) <|
 q 16 (.ext (.t 10) 3) <|
 q 6 (.alloc [.int .i64 0, .int .i64 0, .int .i64 0, .int .i64 0, .int .i64 0, .int .i64 0, .int .i64 0, .int .i64 0, .int .u8 0, .int .u8 0, .int .u8 0, .int .u8 0, .int .u8 0, .int .u8 0, .int .u8 0, .int .u8 0, .int .u8 0, .int .u8 0, .int .u8 0, .int .u8 0, .int .u8 0, .int .u8 0, .int .u8 0, .int .u8 0, .int .u8 0, .int .u8 0, .int .u8 0, .int .u8 0, .int .u8 0, .int .u8 0, .int .u8 0, .int .u8 0, .int .u8 0, .int .u8 0, .int .u8 0, .int .u8 0, .int .u8 0, .int .u8 0, .int .u8 0, .int .u8 0, .slice none 0 0]) <|
 q 7 (.alloc (List.replicate 32 (.int .u8 0))) <|
 q 8 (.alloc (List.replicate 8 (.int .u64 0))) <|
 qn (.store 41 (.t 6) (.t 13)) <|
 qn (.store 32 (.t 7) (.t 14)) <|
 qn (.store 8 (.t 8) (.t 15)) <|
 q 9 (.mv (.t 16)) <|
 .keep [3, 4, 6, 7, 8, 9] <|
 .block 0
 (q 18 (.mv (.t 9)) <|
 q 19 (.eq true .i (.t 18) (.c (.nilIface))) <|
 q 17 (.mv (.t 19)) <|
 .keep [3, 4, 6, 7, 8, 9, 17] <|
 .ite (.t 17)
 (q 20 (.build [.int .i64 0, .int .i64 0, .int .i64 0, .int .i64 0, .int .i64 0, .int .i64 0, .int .i64 0, .int .i64 0, .int .u8 0, .int .u8 0, .int .u8 0, .int .u8 0, .int .u8 0, .int .u8 0, .int .u8 0, .int .u8 0, .int .u8 0, .int .u8 0, .int .u8 0, .int .u8 0, .int .u8 0, .int .u8 0, .int .u8 0, .int .u8 0, .int .u8 0, .int .u8 0, .int .u8 0, .int .u8 0, .int .u8 0, .int .u8 0, .int .u8 0, .int .u8 0, .int .u8 0, .int .u8 0, .int .u8 0, .int .u8 0, .int .u8 0, .int .u8 0, .int .u8 0, .int .u8 0, .slice none 0 0] []) <|
 q 21 (.mv (.t 9)) <|
 qn (.store 41 (.t 4) (.t 20)) <|
 q 5 (.mv (.t 21)) <|
 .keep [4, 5] <|
 .ret)
 (q 23 (.load true 9 (.t 3)) <|
 q 24 (.load true 32 (.t 7)) <|
 q 25 (.load true 8 (.t 8)) <|
 q 26 (.call F.sign_Verify [(.t 23), (.t 24), (.t 25)]) <|
 q 27 (.un .not (.t 26)) <|
 q 22 (.mv (.t 27)) <|
 .keep [4, 6, 22] <|
 .ite (.t 22)
 (q 28 (.build [.int .i64 0, .int .i64 0, .int .i64 0, .int .i64 0, .int .i64 0, .int .i64 0, .int .i64 0, .int .i64 0, .int .u8 0, .int .u8 0, .int .u8 0, .int .u8 0, .int .u8 0, .int .u8 0, .int .u8 0, .int .u8 0, .int .u8 0, .int .u8 0, .int .u8 0, .int .u8 0, .int .u8 0, .int .u8 0, .int .u8 0, .int .u8 0, .int .u8 0, .int .u8 0, .int .u8 0, .int .u8 0, .int .u8 0, .int .u8 0, .int .u8 0, .int .u8 0, .int .u8 0, .int .u8 0, .int .u8 0, .int .u8 0, .int .u8 0, .int .u8 0, .int .u8 0, .int .u8 0, .slice none 0 0] []) <|
 q 29 (.mkif T.api_Code (ci 8)) <|
 qn (.store 41 (.t 4) (.t 28)) <|
 q 5 (.mv (.t 29)) <|
 .keep [4, 5] <|
 .ret)
 (.done) <|
 .done) <|
 .done) <|
 q 30 (.load true 41 (.t 6)) <|
 qn (.store 41 (.t 4) (.t 30)) <|
 q 5 (.mv (.c (.nilIface))) <|
 .keep [4, 5] <|
 .ret
theorem e_record_Check:EF false F.record_Check ic_record_Check [.c 4 true 41,.t 5]:=ef [] Try.func44 (by kernel_rfl) (by kernel_rfl) (by kernel_rfl)
def ic_clapperref17_Same : IC :=
 q 2 (.box (.t 0)) <|
 q 3 (.box (.t 1)) <|
 q 4 (.mv (cb false)) <|
 .keep [2, 3] <|
 q 6 (.fld 0 (.t 2)) <|
 q 7 (.load false 1 (.t 6)) <|
 q 8 (.fld 0 (.t 3)) <|
 q 9 (.load false 1 (.t 8)) <|
 q 10 (.bin .eql (.t 7) (.t 9)) <|
 q 11 (.mv (.t 10)) <|
 qg 12 11 true (.fld 1 (.t 2)) <|
 qg 13 11 true (.load false 1 (.t 12)) <|
 qg 14 11 true (.fld 1 (.t 3)) <|
 qg 15 11 true (.load false 1 (.t 14)) <|
 qg 16 11 true (.bin .eql (.t 13) (.t 15)) <|
 q 17 (.pick (.t 11) (.t 16) (cb false)) <|
 q 18 (.mv (.t 17)) <|
 qg 19 18 true (.fld 2 (.t 2)) <|
 qg 20 18 true (.load false 1 (.t 19)) <|
 qg 21 18 true (.fld 2 (.t 3)) <|
 qg 22 18 true (.load false 1 (.t 21)) <|
 qg 23 18 true (.bin .eql (.t 20) (.t 22)) <|
 q 24 (.pick (.t 18) (.t 23) (cb false)) <|
 q 25 (.mv (.t 24)) <|
 qg 26 25 true (.fld 3 (.t 2)) <|
 qg 27 25 true (.load false 1 (.t 26)) <|
 qg 28 25 true (.fld 3 (.t 3)) <|
 qg 29 25 true (.load false 1 (.t 28)) <|
 qg 30 25 true (.bin .eql (.t 27) (.t 29)) <|
 q 31 (.pick (.t 25) (.t 30) (cb false)) <|
 q 32 (.mv (.t 31)) <|
 qg 33 32 true (.fld 4 (.t 2)) <|
 qg 34 32 true (.load false 1 (.t 33)) <|
 qg 35 32 true (.fld 4 (.t 3)) <|
 qg 36 32 true (.load false 1 (.t 35)) <|
 qg 37 32 true (.bin .eql (.t 34) (.t 36)) <|
 q 38 (.pick (.t 32) (.t 37) (cb false)) <|
 q 39 (.mv (.t 38)) <|
 qg 40 39 true (.fld 5 (.t 2)) <|
 qg 41 39 true (.load false 1 (.t 40)) <|
 qg 42 39 true (.fld 5 (.t 3)) <|
 qg 43 39 true (.load false 1 (.t 42)) <|
 qg 44 39 true (.bin .eql (.t 41) (.t 43)) <|
 q 45 (.pick (.t 39) (.t 44) (cb false)) <|
 q 5 (.mv (.t 45)) <|
 .keep [2, 3, 5] <|
 q 46 (.mv (.t 5)) <|
 q 47 (.mv (.t 46)) <|
 qg 48 47 true (.fld 6 (.t 2)) <|
 qg 49 47 true (.load false 1 (.t 48)) <|
 qg 50 47 true (.fld 6 (.t 3)) <|
 qg 51 47 true (.load false 1 (.t 50)) <|
 qg 52 47 true (.bin .eql (.t 49) (.t 51)) <|
 q 53 (.pick (.t 47) (.t 52) (cb false)) <|
 q 54 (.mv (.t 53)) <|
 qg 55 54 true (.fld 7 (.t 2)) <|
 qg 56 54 true (.load false 1 (.t 55)) <|
 qg 57 54 true (.fld 7 (.t 3)) <|
 qg 58 54 true (.load false 1 (.t 57)) <|
 qg 59 54 true (.bin .eql (.t 56) (.t 58)) <|
 q 60 (.pick (.t 54) (.t 59) (cb false)) <|
 q 61 (.mv (.t 60)) <|
 qg 62 61 true (.fld 8 (.t 2)) <|
 qg 63 61 true (.load true 32 (.t 62)) <|
 qg 64 61 true (.fld 8 (.t 3)) <|
 qg 65 61 true (.load true 32 (.t 64)) <|
 qg 66 61 true (.eqagg (List.replicate 32 (some .u8)) false (.t 63) (.t 65)) <|
 q 67 (.pick (.t 61) (.t 66) (cb false)) <|
 q 68 (.mv (.t 67)) <|
 qg 69 68 true (.fld 40 (.t 2)) <|
 qg 70 68 true (.load false 1 (.t 69)) <|
 qg 71 68 true (.b2s (.t 70)) <|
 qg 72 68 true (.fld 40 (.t 3)) <|
 qg 73 68 true (.load false 1 (.t 72)) <|
 qg 74 68 true (.b2s (.t 73)) <|
 qg 75 68 true (.bin .eql (.t 71) (.t 74)) <|
 q 76 (.pick (.t 68) (.t 75) (cb false)) <|
 q 4 (.mv (.t 76)) <|
 .keep [4] <|
 .ret
theorem e_clapperref17_Same:EF false F.clapperref17_Same ic_clapperref17_Same [.t 4]:=ef [] Try.func45 (by kernel_rfl) (by kernel_rfl) (by kernel_rfl)
def ic_record_Open : IC :=
 q 2 (.alloc [.int .i64 0, .int .i64 0, .int .i64 0, .int .i64 0, .int .i64 0, .int .i64 0, .int .i64 0, .int .i64 0, .int .u8 0, .int .u8 0, .int .u8 0, .int .u8 0, .int .u8 0, .int .u8 0, .int .u8 0, .int .u8 0, .int .u8 0, .int .u8 0, .int .u8 0, .int .u8 0, .int .u8 0, .int .u8 0, .int .u8 0, .int .u8 0, .int .u8 0, .int .u8 0, .int .u8 0, .int .u8 0, .int .u8 0, .int .u8 0, .int .u8 0, .int .u8 0, .int .u8 0, .int .u8 0, .int .u8 0, .int .u8 0, .int .u8 0, .int .u8 0, .int .u8 0, .int .u8 0, .slice none 0 0]) <|
 q 3 (.alloc (List.replicate 32 (.int .u8 0))) <|
 q 4 (.alloc (List.replicate 8 (.int .u64 0))) <|
 q 5 (.mv (.c (.nilIface))) <|
 .keep [0, 2, 3, 4] <|
 q 10 (.mv (.t 0)) <|
 q 11 (.call F.record_fields [(.t 10), (ci 2)]) <|
 q 6 (.mv (.t 11)) <|
 .keep [2, 3, 4, 6] <|
 q 12 (.mv (.t 6)) <|
 q 13 (.len false (.t 12)) <|
 q 14 (.bin .eql (.t 13) (ci 0)) <|
 .keep [2, 3, 4, 6, 14] <|
 .ite (.t 14)
 (q 15 (.build [.int .i64 0, .int .i64 0, .int .i64 0, .int .i64 0, .int .i64 0, .int .i64 0, .int .i64 0, .int .i64 0, .int .u8 0, .int .u8 0, .int .u8 0, .int .u8 0, .int .u8 0, .int .u8 0, .int .u8 0, .int .u8 0, .int .u8 0, .int .u8 0, .int .u8 0, .int .u8 0, .int .u8 0, .int .u8 0, .int .u8 0, .int .u8 0, .int .u8 0, .int .u8 0, .int .u8 0, .int .u8 0, .int .u8 0, .int .u8 0, .int .u8 0, .int .u8 0, .int .u8 0, .int .u8 0, .int .u8 0, .int .u8 0, .int .u8 0, .int .u8 0, .int .u8 0, .int .u8 0, .slice none 0 0] []) <|
 q 16 (.build (List.replicate 32 (.int .u8 0)) []) <|
 q 17 (.build (List.replicate 8 (.int .u64 0)) []) <|
 q 18 (.mkif T.api_Code (ci 2)) <|
 qn (.store 41 (.t 2) (.t 15)) <|
 qn (.store 32 (.t 3) (.t 16)) <|
 qn (.store 8 (.t 4) (.t 17)) <|
 q 5 (.mv (.t 18)) <|
 .keep [2, 3, 4, 5] <|
 .ret)
 (.done) <|
 q 19 (.mv (.t 6)) <|
 q 20 (.idxa 1 none (.t 19) (ci 0)) <|
 q 21 (.load false 1 (.t 20)) <|
 q 22 (.call F.record_read [(.t 21)]) <|
 q 7 (.alloc [.int .i64 0, .int .i64 0, .int .i64 0, .int .i64 0, .int .i64 0, .int .i64 0, .int .i64 0, .int .i64 0, .int .u8 0, .int .u8 0, .int .u8 0, .int .u8 0, .int .u8 0, .int .u8 0, .int .u8 0, .int .u8 0, .int .u8 0, .int .u8 0, .int .u8 0, .int .u8 0, .int .u8 0, .int .u8 0, .int .u8 0, .int .u8 0, .int .u8 0, .int .u8 0, .int .u8 0, .int .u8 0, .int .u8 0, .int .u8 0, .int .u8 0, .int .u8 0, .int .u8 0, .int .u8 0, .int .u8 0, .int .u8 0, .int .u8 0, .int .u8 0, .int .u8 0, .int .u8 0, .slice none 0 0]) <|
 qn (.store 41 (.t 7) (.t 22)) <|
 .keep [2, 3, 4, 6, 7] <|
 q 24 (.mv (.t 6)) <|
 q 25 (.idxa 1 none (.t 24) (ci 1)) <|
 q 26 (.load false 1 (.t 25)) <|
 q 27 (.call F.sign_Parse [(.t 26)]) <|
 q 23 (.mv (.t 27)) <|
 q 28 (.ext (.t 23) 0) <|
 q 29 (.ext (.t 23) 1) <|
 q 8 (.alloc (List.replicate 8 (.int .u64 0))) <|
 qn (.store 8 (.t 8) (.t 28)) <|
 q 9 (.mv (.t 29)) <|
 .keep [2, 3, 4, 6, 7, 8, 9] <|
 q 30 (.mv (.t 9)) <|
 q 31 (.eq true .i (.t 30) (.c (.nilIface))) <|
 q 32 (.mv (.t 31)) <|
 qg 33 32 false (.load true 41 (.t 7)) <|
 qg 34 32 false (.call F.record_May [(.t 33)]) <|
 qg 35 32 false (.un .not (.t 34)) <|
 q 36 (.pick (.t 32) (cb true) (.t 35)) <|
 .keep [2, 3, 4, 6, 7, 8, 36] <|
 .ite (.t 36)
 (q 37 (.build [.int .i64 0, .int .i64 0, .int .i64 0, .int .i64 0, .int .i64 0, .int .i64 0, .int .i64 0, .int .i64 0, .int .u8 0, .int .u8 0, .int .u8 0, .int .u8 0, .int .u8 0, .int .u8 0, .int .u8 0, .int .u8 0, .int .u8 0, .int .u8 0, .int .u8 0, .int .u8 0, .int .u8 0, .int .u8 0, .int .u8 0, .int .u8 0, .int .u8 0, .int .u8 0, .int .u8 0, .int .u8 0, .int .u8 0, .int .u8 0, .int .u8 0, .int .u8 0, .int .u8 0, .int .u8 0, .int .u8 0, .int .u8 0, .int .u8 0, .int .u8 0, .int .u8 0, .int .u8 0, .slice none 0 0] []) <|
 q 38 (.build (List.replicate 32 (.int .u8 0)) []) <|
 q 39 (.build (List.replicate 8 (.int .u64 0)) []) <|
 q 40 (.mkif T.api_Code (ci 2)) <|
 qn (.store 41 (.t 2) (.t 37)) <|
 qn (.store 32 (.t 3) (.t 38)) <|
 qn (.store 8 (.t 4) (.t 39)) <|
 q 5 (.mv (.t 40)) <|
 .keep [2, 3, 4, 5] <|
 .ret)
 (.done) <|
 .reg 0
 [xe 41 (.load true 41 (.t 7)) [],
 xe 42 (.mv (.t 6)) [],
 xe 43 (.idxa 1 none (.t 42) (ci 0)) [],
 xe 44 (.load false 1 (.t 43)) [],
 xe 45 (.call F.sha_Sum [(.t 44)]) [],
 xe 46 (.load true 8 (.t 8)) [],
 xln (.store 41 (.t 2) (.t 41)) [(.t 8)],
 xln (.store 32 (.t 3) (.t 45)) [(.t 8)],
 xln (.store 8 (.t 4) (.t 46)) [],
 xl 5 (.mv (.c (.nilIface))) []] <|
 .keep [2, 3, 4, 5] <|
 .ret
theorem e_record_Open:EF false F.record_Open ic_record_Open [.c 2 true 41,.c 3 true 32,.c 4 true 8,.t 5]:=ef [] Try.func46 (by kernel_rfl) (by kernel_rfl) (by kernel_rfl)
def ic_record_Body : IC :=
 q 1 (.box (.t 0)) <|
 q 2 (.mv (.c (.slice none 0 0))) <|
 q 3 (.mv (.c (.nilIface))) <|
 .keep [1] <|
 q 8 (.load true 41 (.t 1)) <|
 q 9 (.call F.record_May [(.t 8)]) <|
 q 10 (.un .not (.t 9)) <|
 .keep [1, 10] <|
 .ite (.t 10)
 (q 11 (.mkif T.api_Code (ci 1)) <|
 q 2 (.mv (.c (.slice none 0 0))) <|
 q 3 (.mv (.t 11)) <|
 .keep [2, 3] <|
 .ret)
 (.done) <|
 q 4 (.alloc [.slice none 0 0]) <|
 .keep [1, 4] <|
 q 12 (.mkfn (.func F.record_Body_1) [] [(.t 4)]) <|
 q 5 (.mv (.t 12)) <|
 .keep [1, 4, 5] <|
 q 13 (.fld 0 (.t 1)) <|
 q 14 (.load false 1 (.t 13)) <|
 q 15 (.fld 1 (.t 1)) <|
 q 16 (.load false 1 (.t 15)) <|
 q 17 (.fld 2 (.t 1)) <|
 q 18 (.load false 1 (.t 17)) <|
 q 19 (.fld 3 (.t 1)) <|
 q 20 (.load false 1 (.t 19)) <|
 q 21 (.fld 4 (.t 1)) <|
 q 22 (.load false 1 (.t 21)) <|
 q 23 (.fld 5 (.t 1)) <|
 q 24 (.load false 1 (.t 23)) <|
 q 25 (.fld 6 (.t 1)) <|
 q 26 (.load false 1 (.t 25)) <|
 q 27 (.fld 7 (.t 1)) <|
 q 28 (.load false 1 (.t 27)) <|
 q 29 (.build (List.replicate 8 (.int .i64 0)) [(0, 1, (.t 14)), (1, 1, (.t 16)), (2, 1, (.t 18)), (3, 1, (.t 20)), (4, 1, (.t 22)), (5, 1, (.t 24)), (6, 1, (.t 26)), (7, 1, (.t 28))]) <|
 q 30 (.mv (ci 0)) <|
 .keep [1, 4, 5, 29, 30] <|
 .block 0
 (.keep [1, 4, 5, 29, 30] <|
 .loop
 (q 31 (.bin .lss (.t 30) (ci 8)) <|
 .keep [1, 4, 5, 29, 30, 31] <|
 .ite (.t 31)
 (.done)
 (.exit 0) <|
 .block 1
 (q 32 (.idx false 1 8 (.t 29) (.t 30)) <|
 q 7 (.mv (.t 32)) <|
 .keep [1, 4, 5, 7, 29, 30] <|
 q 33 (.mv (.t 5)) <|
 q 34 (.mv (.t 7)) <|
 q 35 (.call F.tlv_Number [(.t 34)]) <|
 q 36 (.callv (.t 33) [(.t 35)]) <|
 .keep [1, 4, 5, 29, 30] <|
 .done) <|
 q 37 (.bin .add (.t 30) (ci 1)) <|
 q 30 (.mv (.t 37)) <|
 .keep [1, 4, 5, 29, 30] <|
 .keep [1, 4, 5, 29, 30] <|
 .done)) <|
 q 38 (.mv (.t 5)) <|
 q 39 (.fld 8 (.t 1)) <|
 q 40 (.slice 1 (some 32) (.t 39) none none none) <|
 q 41 (.callv (.t 38) [(.t 40)]) <|
 .keep [1, 4, 5] <|
 q 42 (.mv (.t 5)) <|
 q 43 (.fld 40 (.t 1)) <|
 q 44 (.load false 1 (.t 43)) <|
 q 45 (.callv (.t 42) [(.t 44)]) <|
 .keep [4] <|
 q 46 (.load false 1 (.t 4)) <|
 q 47 (.call F.tlv_Put [(.t 46)]) <|
 q 48 (.ext (.t 47) 0) <|
 q 49 (.ext (.t 47) 1) <|
 q 2 (.mv (.t 48)) <|
 q 3 (.mv (.t 49)) <|
 .keep [2, 3] <|
 .ret
theorem e_record_Body:EF false F.record_Body ic_record_Body [.t 2,.t 3]:=ef [] Try.func47 (by kernel_rfl) (by kernel_rfl) (by kernel_rfl)
def ic_ticket_parts : IC :=
 q 2 (.mv (.c (.slice none 0 0))) <|
 q 3 (.alloc (List.replicate 8 (.int .u64 0))) <|
 q 4 (.mv (cb false)) <|
 .keep [0, 3] <|
 q 9 (.mv (.t 0)) <|
 q 10 (.call F.tlv_Get [(.t 9)]) <|
 q 8 (.mv (.t 10)) <|
 q 11 (.ext (.t 8) 0) <|
 q 12 (.ext (.t 8) 1) <|
 q 5 (.mv (.t 11)) <|
 q 6 (.mv (.t 12)) <|
 .keep [3, 5, 6] <|
 q 13 (.mv (.t 6)) <|
 q 14 (.eq true .i (.t 13) (.c (.nilIface))) <|
 q 15 (.mv (.t 14)) <|
 qg 16 15 false (.mv (.t 5)) <|
 qg 17 15 false (.len false (.t 16)) <|
 qg 18 15 false (.bin .neq (.t 17) (ci 2)) <|
 q 19 (.pick (.t 15) (cb true) (.t 18)) <|
 q 20 (.mv (.t 19)) <|
 qg 21 20 false (.mv (.t 5)) <|
 qg 22 20 false (.idxa 2 none (.t 21) (ci 0)) <|
 qg 23 20 false (.fld 0 (.t 22)) <|
 qg 24 20 false (.load false 1 (.t 23)) <|
 qg 25 20 false (.bin .neq (.t 24) (ci 1)) <|
 q 26 (.pick (.t 20) (cb true) (.t 25)) <|
 q 27 (.mv (.t 26)) <|
 qg 28 27 false (.mv (.t 5)) <|
 qg 29 27 false (.idxa 2 none (.t 28) (ci 1)) <|
 qg 30 27 false (.fld 0 (.t 29)) <|
 qg 31 27 false (.load false 1 (.t 30)) <|
 qg 32 27 false (.bin .neq (.t 31) (ci 2)) <|
 q 33 (.pick (.t 27) (cb true) (.t 32)) <|
 .keep [3, 5, 33] <|
 .ite (.t 33)
 (q 34 (.build (List.replicate 8 (.int .u64 0)) []) <|
 q 2 (.mv (.c (.slice none 0 0))) <|
 qn (.store 8 (.t 3) (.t 34)) <|
 q 4 (.mv (cb false)) <|
 .keep [2, 3, 4] <|
 .ret)
 (.done) <|
 q 36 (.mv (.t 5)) <|
 q 37 (.idxa 2 none (.t 36) (ci 1)) <|
 q 38 (.fld 1 (.t 37)) <|
 q 39 (.load false 1 (.t 38)) <|
 q 40 (.call F.sign_Parse [(.t 39)]) <|
 q 35 (.mv (.t 40)) <|
 q 41 (.ext (.t 35) 0) <|
 q 42 (.ext (.t 35) 1) <|
 q 7 (.alloc (List.replicate 8 (.int .u64 0))) <|
 qn (.store 8 (.t 7) (.t 41)) <|
 q 6 (.mv (.t 42)) <|
 .keep [3, 5, 6, 7] <|
 q 43 (.mv (.t 5)) <|
 q 44 (.idxa 2 none (.t 43) (ci 0)) <|
 q 45 (.fld 1 (.t 44)) <|
 q 46 (.load false 1 (.t 45)) <|
 q 47 (.load true 8 (.t 7)) <|
 q 48 (.mv (.t 6)) <|
 q 49 (.eq false .i (.t 48) (.c (.nilIface))) <|
 q 2 (.mv (.t 46)) <|
 qn (.store 8 (.t 3) (.t 47)) <|
 q 4 (.mv (.t 49)) <|
 .keep [2, 3, 4] <|
 .ret
theorem e_ticket_parts:EF false F.ticket_parts ic_ticket_parts [.t 2,.c 3 true 8,.t 4]:=ef [] Try.func73 (by kernel_rfl) (by kernel_rfl) (by kernel_rfl)
def ic_ticket_numbers : IC :=
 q 4 (.mv (.c (.slice none 0 0))) <|
 q 5 (.mv (cb false)) <|
 .keep [0, 1] <|
 q 14 (.mv (.t 0)) <|
 q 15 (.call F.tlv_Get [(.t 14)]) <|
 q 13 (.mv (.t 15)) <|
 q 16 (.ext (.t 13) 0) <|
 q 17 (.ext (.t 13) 1) <|
 q 6 (.mv (.t 16)) <|
 q 7 (.mv (.t 17)) <|
 .keep [1, 6, 7] <|
 q 18 (.mv (.t 7)) <|
 q 19 (.eq true .i (.t 18) (.c (.nilIface))) <|
 q 20 (.mv (.t 19)) <|
 qg 21 20 false (.mv (.t 6)) <|
 qg 22 20 false (.len false (.t 21)) <|
 qg 23 20 false (.mv (.t 1)) <|
 qg 24 20 false (.bin .neq (.t 22) (.t 23)) <|
 q 25 (.pick (.t 20) (cb true) (.t 24)) <|
 .keep [6, 25] <|
 .ite (.t 25)
 (q 4 (.mv (.c (.slice none 0 0))) <|
 q 5 (.mv (cb false)) <|
 .keep [4, 5] <|
 .ret)
 (.done) <|
 q 8 (.mv (.c (.slice none 0 0))) <|
 .keep [6, 8] <|
 q 26 (.mv (.t 6)) <|
 q 27 (.len false (.t 26)) <|
 q 28 (.mv (ci 0)) <|
 .keep [8, 26, 27, 28] <|
 .block 0
 (.keep [8, 26, 27, 28] <|
 .loop
 (q 29 (.bin .lss (.t 28) (.t 27)) <|
 .keep [8, 26, 27, 28, 29] <|
 .ite (.t 29)
 (.done)
 (.exit 0) <|
 .block 1
 (q 30 (.mv (.t 28)) <|
 q 31 (.idxa 2 none (.t 26) (.t 28)) <|
 q 32 (.load true 2 (.t 31)) <|
 q 10 (.alloc [.int .i64 0, .slice none 0 0]) <|
 q 9 (.mv (.t 30)) <|
 qn (.store 2 (.t 10) (.t 32)) <|
 .keep [8, 9, 10, 26, 27, 28] <|
 q 34 (.fld 1 (.t 10)) <|
 q 35 (.load false 1 (.t 34)) <|
 q 36 (.call F.tlv_Of [(.t 35)]) <|
 q 33 (.mv (.t 36)) <|
 q 37 (.ext (.t 33) 0) <|
 q 38 (.ext (.t 33) 1) <|
 q 11 (.mv (.t 37)) <|
 q 12 (.mv (.t 38)) <|
 .keep [8, 9, 10, 11, 12, 26, 27, 28] <|
 q 39 (.mv (.t 12)) <|
 q 40 (.eq true .i (.t 39) (.c (.nilIface))) <|
 q 41 (.mv (.t 40)) <|
 qg 42 41 false (.fld 0 (.t 10)) <|
 qg 43 41 false (.load false 1 (.t 42)) <|
 qg 44 41 false (.mv (.t 9)) <|
 qg 45 41 false (.bin .add (.t 44) (ci 1)) <|
 qg 46 41 false (.bin .neq (.t 43) (.t 45)) <|
 q 47 (.pick (.t 41) (cb true) (.t 46)) <|
 .keep [8, 11, 26, 27, 28, 47] <|
 .ite (.t 47)
 (q 4 (.mv (.c (.slice none 0 0))) <|
 q 5 (.mv (cb false)) <|
 .keep [4, 5] <|
 .ret)
 (.done) <|
 q 48 (.mv (.t 8)) <|
 q 49 (.mv (.t 11)) <|
 q 50 (.bslice false 1 1 [.int .i64 0] [(0, 1, (.t 49))]) <|
 q 51 (.append 1 8 (.t 48) (.t 50)) <|
 q 8 (.mv (.t 51)) <|
 .keep [8, 26, 27, 28] <|
 .done) <|
 q 52 (.bin .add (.t 28) (ci 1)) <|
 q 28 (.mv (.t 52)) <|
 .keep [8, 26, 27, 28] <|
 .keep [8, 26, 27, 28] <|
 .done)) <|
 q 53 (.mv (.t 8)) <|
 q 4 (.mv (.t 53)) <|
 q 5 (.mv (cb true)) <|
 .keep [4, 5] <|
 .ret
theorem e_ticket_numbers:EF false F.ticket_numbers ic_ticket_numbers [.t 4,.t 5]:=ef [] Try.func74 (by kernel_rfl) (by kernel_rfl) (by kernel_rfl)
def ic_ticket_May : IC :=
 q 1 (.box (.t 0)) <|
 q 2 (.mv (cb false)) <|
 .keep [1] <|
 q 3 (.fld 0 (.t 1)) <|
 q 4 (.load false 1 (.t 3)) <|
 q 5 (.call F.ticket_within [(.t 4), (ci 1), (ci 2147483647)]) <|
 q 6 (.mv (.t 5)) <|
 qg 7 6 true (.fld 1 (.t 1)) <|
 qg 8 6 true (.load false 1 (.t 7)) <|
 qg 9 6 true (.call F.ticket_within [(.t 8), (ci 1), (ci 16)]) <|
 q 10 (.pick (.t 6) (.t 9) (cb false)) <|
 q 11 (.mv (.t 10)) <|
 qg 12 11 true (.fld 2 (.t 1)) <|
 qg 13 11 true (.load false 1 (.t 12)) <|
 qg 14 11 true (.call F.ticket_within [(.t 13), (ci 1), (ci 255)]) <|
 q 15 (.pick (.t 11) (.t 14) (cb false)) <|
 q 16 (.mv (.t 15)) <|
 qg 17 16 true (.fld 3 (.t 1)) <|
 qg 18 16 true (.load false 1 (.t 17)) <|
 qg 19 16 true (.call F.ticket_within [(.t 18), (ci 0), (ci 1073741824)]) <|
 q 20 (.pick (.t 16) (.t 19) (cb false)) <|
 q 21 (.mv (.t 20)) <|
 qg 22 21 true (.fld 4 (.t 1)) <|
 qg 23 21 true (.load false 1 (.t 22)) <|
 qg 24 21 true (.call F.ticket_within [(.t 23), (ci 1), (ci 2147483647)]) <|
 q 25 (.pick (.t 21) (.t 24) (cb false)) <|
 q 2 (.mv (.t 25)) <|
 .keep [2] <|
 .ret
theorem e_ticket_May:EF false F.ticket_May ic_ticket_May [.t 2]:=ef [] Try.func75 (by kernel_rfl) (by kernel_rfl) (by kernel_rfl)
def ic_record_fields : IC :=
 q 4 (.mv (.c (.slice none 0 0))) <|
 .keep [0, 1] <|
 q 11 (.mv (.t 0)) <|
 q 12 (.call F.tlv_Get [(.t 11)]) <|
 q 10 (.mv (.t 12)) <|
 q 13 (.ext (.t 10) 0) <|
 q 14 (.ext (.t 10) 1) <|
 q 5 (.mv (.t 13)) <|
 q 6 (.mv (.t 14)) <|
 .keep [1, 5, 6] <|
 q 15 (.mv (.t 6)) <|
 q 16 (.eq true .i (.t 15) (.c (.nilIface))) <|
 q 17 (.mv (.t 16)) <|
 qg 18 17 false (.mv (.t 5)) <|
 qg 19 17 false (.len false (.t 18)) <|
 qg 20 17 false (.mv (.t 1)) <|
 qg 21 17 false (.bin .neq (.t 19) (.t 20)) <|
 q 22 (.pick (.t 17) (cb true) (.t 21)) <|
 .keep [5, 22] <|
 .ite (.t 22)
 (q 4 (.mv (.c (.slice none 0 0))) <|
 .keep [4] <|
 .ret)
 (.done) <|
 q 7 (.mv (.c (.slice none 0 0))) <|
 .keep [5, 7] <|
 q 23 (.mv (.t 5)) <|
 q 24 (.len false (.t 23)) <|
 q 25 (.mv (ci 0)) <|
 .keep [7, 23, 24, 25] <|
 .block 0
 (.keep [7, 23, 24, 25] <|
 .loop
 (q 26 (.bin .lss (.t 25) (.t 24)) <|
 .keep [7, 23, 24, 25, 26] <|
 .ite (.t 26)
 (.done)
 (.exit 0) <|
 .block 1
 (q 27 (.mv (.t 25)) <|
 q 28 (.idxa 2 none (.t 23) (.t 25)) <|
 q 29 (.load true 2 (.t 28)) <|
 q 9 (.alloc [.int .i64 0, .slice none 0 0]) <|
 q 8 (.mv (.t 27)) <|
 qn (.store 2 (.t 9) (.t 29)) <|
 .keep [7, 8, 9, 23, 24, 25] <|
 q 30 (.fld 0 (.t 9)) <|
 q 31 (.load false 1 (.t 30)) <|
 q 32 (.mv (.t 8)) <|
 q 33 (.bin .add (.t 32) (ci 1)) <|
 q 34 (.bin .neq (.t 31) (.t 33)) <|
 .keep [7, 9, 23, 24, 25, 34] <|
 .ite (.t 34)
 (q 4 (.mv (.c (.slice none 0 0))) <|
 .keep [4] <|
 .ret)
 (.done) <|
 q 35 (.mv (.t 7)) <|
 q 36 (.fld 1 (.t 9)) <|
 q 37 (.load false 1 (.t 36)) <|
 q 38 (.bslice false 1 1 [.slice none 0 0] [(0, 1, (.t 37))]) <|
 q 39 (.append 1 24 (.t 35) (.t 38)) <|
 q 7 (.mv (.t 39)) <|
 .keep [7, 23, 24, 25] <|
 .done) <|
 q 40 (.bin .add (.t 25) (ci 1)) <|
 q 25 (.mv (.t 40)) <|
 .keep [7, 23, 24, 25] <|
 .keep [7, 23, 24, 25] <|
 .done)) <|
 q 41 (.mv (.t 7)) <|
 q 4 (.mv (.t 41)) <|
 .keep [4] <|
 .ret
theorem e_record_fields:EF false F.record_fields ic_record_fields [.t 4]:=ef [] Try.func86 (by kernel_rfl) (by kernel_rfl) (by kernel_rfl)
def ic_record_read : IC :=
 q 2 (.alloc [.int .i64 0, .int .i64 0, .int .i64 0, .int .i64 0, .int .i64 0, .int .i64 0, .int .i64 0, .int .i64 0, .int .u8 0, .int .u8 0, .int .u8 0, .int .u8 0, .int .u8 0, .int .u8 0, .int .u8 0, .int .u8 0, .int .u8 0, .int .u8 0, .int .u8 0, .int .u8 0, .int .u8 0, .int .u8 0, .int .u8 0, .int .u8 0, .int .u8 0, .int .u8 0, .int .u8 0, .int .u8 0, .int .u8 0, .int .u8 0, .int .u8 0, .int .u8 0, .int .u8 0, .int .u8 0, .int .u8 0, .int .u8 0, .int .u8 0, .int .u8 0, .int .u8 0, .int .u8 0, .slice none 0 0]) <|
 .keep [0, 2] <|
 q 9 (.mv (.t 0)) <|
 q 10 (.call F.record_fields [(.t 9), (ci 10)]) <|
 q 3 (.mv (.t 10)) <|
 .keep [2, 3] <|
 q 11 (.mv (.t 3)) <|
 q 12 (.len false (.t 11)) <|
 q 13 (.bin .eql (.t 12) (ci 0)) <|
 q 14 (.mv (.t 13)) <|
 qg 15 14 false (.mv (.t 3)) <|
 qg 16 14 false (.idxa 1 none (.t 15) (ci 8)) <|
 qg 17 14 false (.load false 1 (.t 16)) <|
 qg 18 14 false (.len false (.t 17)) <|
 qg 19 14 false (.bin .neq (.t 18) (ci 32)) <|
 q 20 (.pick (.t 14) (cb true) (.t 19)) <|
 .keep [2, 3, 20] <|
 .ite (.t 20)
 (q 21 (.build [.int .i64 0, .int .i64 0, .int .i64 0, .int .i64 0, .int .i64 0, .int .i64 0, .int .i64 0, .int .i64 0, .int .u8 0, .int .u8 0, .int .u8 0, .int .u8 0, .int .u8 0, .int .u8 0, .int .u8 0, .int .u8 0, .int .u8 0, .int .u8 0, .int .u8 0, .int .u8 0, .int .u8 0, .int .u8 0, .int .u8 0, .int .u8 0, .int .u8 0, .int .u8 0, .int .u8 0, .int .u8 0, .int .u8 0, .int .u8 0, .int .u8 0, .int .u8 0, .int .u8 0, .int .u8 0, .int .u8 0, .int .u8 0, .int .u8 0, .int .u8 0, .int .u8 0, .int .u8 0, .slice none 0 0] []) <|
 qn (.store 41 (.t 2) (.t 21)) <|
 .keep [2] <|
 .ret)
 (.done) <|
 q 4 (.alloc (List.replicate 8 (.int .i64 0))) <|
 .keep [2, 3, 4] <|
 q 22 (.mv (ci 0)) <|
 .keep [2, 3, 4, 22] <|
 .block 0
 (.keep [2, 3, 4, 22] <|
 .loop
 (q 23 (.bin .lss (.t 22) (ci 8)) <|
 .keep [2, 3, 4, 22, 23] <|
 .ite (.t 23)
 (.done)
 (.exit 0) <|
 .block 1
 (q 24 (.mv (.t 22)) <|
 q 5 (.mv (.t 24)) <|
 .keep [2, 3, 4, 5, 22] <|
 q 26 (.mv (.t 3)) <|
 q 27 (.mv (.t 5)) <|
 q 28 (.idxa 1 none (.t 26) (.t 27)) <|
 q 29 (.load false 1 (.t 28)) <|
 q 30 (.call F.tlv_Of [(.t 29)]) <|
 q 25 (.mv (.t 30)) <|
 q 31 (.ext (.t 25) 0) <|
 q 32 (.ext (.t 25) 1) <|
 q 6 (.mv (.t 31)) <|
 q 7 (.mv (.t 32)) <|
 .keep [2, 3, 4, 5, 6, 7, 22] <|
 q 33 (.mv (.t 7)) <|
 q 34 (.eq true .i (.t 33) (.c (.nilIface))) <|
 .keep [2, 3, 4, 5, 6, 22, 34] <|
 .ite (.t 34)
 (q 35 (.build [.int .i64 0, .int .i64 0, .int .i64 0, .int .i64 0, .int .i64 0, .int .i64 0, .int .i64 0, .int .i64 0, .int .u8 0, .int .u8 0, .int .u8 0, .int .u8 0, .int .u8 0, .int .u8 0, .int .u8 0, .int .u8 0, .int .u8 0, .int .u8 0, .int .u8 0, .int .u8 0, .int .u8 0, .int .u8 0, .int .u8 0, .int .u8 0, .int .u8 0, .int .u8 0, .int .u8 0, .int .u8 0, .int .u8 0, .int .u8 0, .int .u8 0, .int .u8 0, .int .u8 0, .int .u8 0, .int .u8 0, .int .u8 0, .int .u8 0, .int .u8 0, .int .u8 0, .int .u8 0, .slice none 0 0] []) <|
 qn (.store 41 (.t 2) (.t 35)) <|
 .keep [2] <|
 .ret)
 (.done) <|
 q 36 (.mv (.t 5)) <|
 q 37 (.mv (.t 6)) <|
 q 38 (.idxa 1 (some 8) (.t 4) (.t 36)) <|
 qn (.store 1 (.t 38) (.t 37)) <|
 .keep [2, 3, 4, 22] <|
 .done) <|
 q 39 (.bin .add (.t 22) (ci 1)) <|
 q 22 (.mv (.t 39)) <|
 .keep [2, 3, 4, 22] <|
 .keep [2, 3, 4, 22] <|
 .done)) <|
 .reg 1
 [xe 40 (.idxa 1 (some 8) (.t 4) (ci 0)) [],
 xe 41 (.load false 1 (.t 40)) [],
 xe 42 (.idxa 1 (some 8) (.t 4) (ci 1)) [],
 xe 43 (.load false 1 (.t 42)) [],
 xe 44 (.idxa 1 (some 8) (.t 4) (ci 2)) [],
 xe 45 (.load false 1 (.t 44)) [],
 xe 46 (.idxa 1 (some 8) (.t 4) (ci 3)) [],
 xe 47 (.load false 1 (.t 46)) [],
 xe 48 (.idxa 1 (some 8) (.t 4) (ci 4)) [],
 xe 49 (.load false 1 (.t 48)) [],
 xe 50 (.idxa 1 (some 8) (.t 4) (ci 5)) [],
 xe 51 (.load false 1 (.t 50)) [],
 xe 52 (.idxa 1 (some 8) (.t 4) (ci 6)) [],
 xe 53 (.load false 1 (.t 52)) [],
 xe 54 (.idxa 1 (some 8) (.t 4) (ci 7)) [],
 xe 55 (.load false 1 (.t 54)) [],
 xe 56 (.mv (.t 3)) [],
 xe 57 (.idxa 1 none (.t 56) (ci 8)) [],
 xe 58 (.load false 1 (.t 57)) [],
 xe 59 (.s2ap 32 1 (.t 58)) [],
 xe 60 (.load true 32 (.t 59)) [],
 xe 61 (.build [.int .i64 0, .int .i64 0, .int .i64 0, .int .i64 0, .int .i64 0, .int .i64 0, .int .i64 0, .int .i64 0, .int .u8 0, .int .u8 0, .int .u8 0, .int .u8 0, .int .u8 0, .int .u8 0, .int .u8 0, .int .u8 0, .int .u8 0, .int .u8 0, .int .u8 0, .int .u8 0, .int .u8 0, .int .u8 0, .int .u8 0, .int .u8 0, .int .u8 0, .int .u8 0, .int .u8 0, .int .u8 0, .int .u8 0, .int .u8 0, .int .u8 0, .int .u8 0, .int .u8 0, .int .u8 0, .int .u8 0, .int .u8 0, .int .u8 0, .int .u8 0, .int .u8 0, .int .u8 0, .slice none 0 0] [(0, 1, (.t 41)), (1, 1, (.t 43)), (2, 1, (.t 45)), (3, 1, (.t 47)), (4, 1, (.t 49)), (5, 1, (.t 51)), (6, 1, (.t 53)), (7, 1, (.t 55)), (8, 32, (.t 60))]) [],
 xa 0 8 (.alloc [.int .i64 0, .int .i64 0, .int .i64 0, .int .i64 0, .int .i64 0, .int .i64 0, .int .i64 0, .int .i64 0, .int .u8 0, .int .u8 0, .int .u8 0, .int .u8 0, .int .u8 0, .int .u8 0, .int .u8 0, .int .u8 0, .int .u8 0, .int .u8 0, .int .u8 0, .int .u8 0, .int .u8 0, .int .u8 0, .int .u8 0, .int .u8 0, .int .u8 0, .int .u8 0, .int .u8 0, .int .u8 0, .int .u8 0, .int .u8 0, .int .u8 0, .int .u8 0, .int .u8 0, .int .u8 0, .int .u8 0, .int .u8 0, .int .u8 0, .int .u8 0, .int .u8 0, .int .u8 0, .slice none 0 0]),
 xln (.store 41 (.t 8) (.t 61)) []] <|
 .keep [2, 3, 8] <|
 q 62 (.mv (.t 3)) <|
 q 63 (.idxa 1 none (.t 62) (ci 9)) <|
 q 64 (.load false 1 (.t 63)) <|
 q 65 (.len false (.t 64)) <|
 q 66 (.bin .gtr (.t 65) (ci 0)) <|
 .keep [2, 3, 8, 66] <|
 .ite (.t 66)
 (q 67 (.mv (.t 3)) <|
 q 68 (.idxa 1 none (.t 67) (ci 9)) <|
 q 69 (.load false 1 (.t 68)) <|
 q 70 (.fld 40 (.t 8)) <|
 qn (.store 1 (.t 70) (.t 69)) <|
 .keep [2, 8] <|
 .done)
 (.done) <|
 q 71 (.load true 41 (.t 8)) <|
 qn (.store 41 (.t 2) (.t 71)) <|
 .keep [2] <|
 .ret
theorem e_record_read:EF false F.record_read ic_record_read [.c 2 true 41]:=ef [] Try.func87 (by kernel_rfl) (by kernel_rfl) (by kernel_rfl)
def ic_record_May_39 : IC :=
 q 39 (.mv (.t 3)) <|
 q 40 (.mv (.t 39)) <|
 qg 41 40 true (.mv (.t 4)) <|
 q 42 (.pick (.t 40) (.t 41) (cb false)) <|
 q 43 (.mv (.t 42)) <|
 qg 44 43 true (.fld 0 (.t 1)) <|
 qg 45 43 true (.load false 1 (.t 44)) <|
 qg 46 43 true (.call F.record_within [(.t 45), (ci 1), (ci 2147483647)]) <|
 q 47 (.pick (.t 43) (.t 46) (cb false)) <|
 q 48 (.mv (.t 47)) <|
 qg 49 48 true (.fld 1 (.t 1)) <|
 qg 50 48 true (.load false 1 (.t 49)) <|
 qg 51 48 true (.call F.record_within [(.t 50), (ci 0), (ci 1073741824)]) <|
 q 52 (.pick (.t 48) (.t 51) (cb false)) <|
 q 53 (.mv (.t 52)) <|
 qg 54 53 true (.fld 2 (.t 1)) <|
 qg 55 53 true (.load false 1 (.t 54)) <|
 qg 56 53 true (.call F.record_within [(.t 55), (ci 0), (ci 1073741824)]) <|
 q 57 (.pick (.t 53) (.t 56) (cb false)) <|
 q 58 (.mv (.t 57)) <|
 qg 59 58 true (.fld 6 (.t 1)) <|
 qg 60 58 true (.load false 1 (.t 59)) <|
 qg 61 58 true (.call F.record_within [(.t 60), (ci 0), (ci 2147483647)]) <|
 q 62 (.pick (.t 58) (.t 61) (cb false)) <|
 q 2 (.mv (.t 62)) <|
 .keep [2] <|
 .ret
def ic_record_May : IC :=
 q 1 (.box (.t 0)) <|
 q 2 (.mv (cb false)) <|
 .keep [1] <|
 q 5 (.fld 4 (.t 1)) <|
 q 6 (.load false 1 (.t 5)) <|
 q 7 (.call F.record_within [(.t 6), (ci 0), (ci 31)]) <|
 q 8 (.mv (.t 7)) <|
 qg 9 8 true (.fld 5 (.t 1)) <|
 qg 10 8 true (.load false 1 (.t 9)) <|
 qg 11 8 true (.call F.record_within [(.t 10), (ci 0), (ci 7)]) <|
 q 12 (.pick (.t 8) (.t 11) (cb false)) <|
 q 3 (.mv (.t 12)) <|
 .keep [1, 3] <|
 q 13 (.fld 7 (.t 1)) <|
 q 14 (.load false 1 (.t 13)) <|
 q 15 (.bin .eql (.t 14) (ci 0)) <|
 q 16 (.mv (.t 15)) <|
 qg 17 16 true (.fld 40 (.t 1)) <|
 qg 18 16 true (.load false 1 (.t 17)) <|
 qg 19 16 true (.len false (.t 18)) <|
 qg 20 16 true (.bin .eql (.t 19) (ci 0)) <|
 q 21 (.pick (.t 16) (.t 20) (cb false)) <|
 q 22 (.mv (.t 21)) <|
 qg 23 22 true (.fld 3 (.t 1)) <|
 qg 24 22 true (.load false 1 (.t 23)) <|
 qg 25 22 true (.call F.record_within [(.t 24), (ci 2), (ci 3)]) <|
 q 26 (.pick (.t 22) (.t 25) (cb false)) <|
 q 4 (.mv (.t 26)) <|
 .keep [1, 3, 4] <|
 q 27 (.fld 3 (.t 1)) <|
 q 28 (.load false 1 (.t 27)) <|
 q 29 (.bin .eql (.t 28) (ci 1)) <|
 .keep [1, 3, 4, 29] <|
 .ite (.t 29)
 (q 30 (.fld 7 (.t 1)) <|
 q 31 (.load false 1 (.t 30)) <|
 q 32 (.call F.record_within [(.t 31), (ci 1), (ci 7)]) <|
 q 33 (.mv (.t 32)) <|
 qg 34 33 true (.fld 40 (.t 1)) <|
 qg 35 33 true (.load false 1 (.t 34)) <|
 qg 36 33 true (.len false (.t 35)) <|
 qg 37 33 true (.bin .leq (.t 36) (ci 500)) <|
 q 38 (.pick (.t 33) (.t 37) (cb false)) <|
 q 4 (.mv (.t 38)) <|
 .keep [1, 3, 4] <|
 .done)
 (.done) <|
 ic_record_May_39
theorem e_record_May:EF false F.record_May ic_record_May [.t 2]:=ef [] Try.func88 (by kernel_rfl) (by kernel_rfl) (by kernel_rfl)
def ic_record_Body_1 : IC :=
 q 3 (.load false 1 (.t 1)) <|
 q 4 (.load false 1 (.t 1)) <|
 q 5 (.len false (.t 4)) <|
 q 6 (.bin .add (.t 5) (ci 1)) <|
 q 7 (.mv (.t 0)) <|
 q 8 (.build [.int .i64 0, .slice none 0 0] [(0, 1, (.t 6)), (1, 1, (.t 7))]) <|
 q 9 (.bslice true 2 1 [.int .i64 0, .slice none 0 0] [(0, 2, (.t 8))]) <|
 q 10 (.append 2 32 (.t 3) (.t 9)) <|
 qn (.store 1 (.t 1) (.t 10)) <|
 .keep [] <|
 .ret
theorem e_record_Body_1:EF false F.record_Body_1 ic_record_Body_1 []:=ef [9] Try.func89 (by kernel_rfl) (by kernel_rfl) (by kernel_rfl)
def ic_ticket_within : IC :=
 q 6 (.mv (cb false)) <|
 .keep [0, 1, 2] <|
 q 7 (.mv (.t 0)) <|
 q 8 (.mv (.t 1)) <|
 q 9 (.bin .geq (.t 7) (.t 8)) <|
 q 10 (.mv (.t 9)) <|
 qg 11 10 true (.mv (.t 0)) <|
 qg 12 10 true (.mv (.t 2)) <|
 qg 13 10 true (.bin .leq (.t 11) (.t 12)) <|
 q 14 (.pick (.t 10) (.t 13) (cb false)) <|
 q 6 (.mv (.t 14)) <|
 .keep [6] <|
 .ret
theorem e_ticket_within:EF false F.ticket_within ic_ticket_within [.t 6]:=ef [] Try.func127 (by kernel_rfl) (by kernel_rfl) (by kernel_rfl)
def ic_record_within : IC :=
 q 6 (.mv (cb false)) <|
 .keep [0, 1, 2] <|
 q 7 (.mv (.t 0)) <|
 q 8 (.mv (.t 1)) <|
 q 9 (.bin .geq (.t 7) (.t 8)) <|
 q 10 (.mv (.t 9)) <|
 qg 11 10 true (.mv (.t 0)) <|
 qg 12 10 true (.mv (.t 2)) <|
 qg 13 10 true (.bin .leq (.t 11) (.t 12)) <|
 q 14 (.pick (.t 10) (.t 13) (cb false)) <|
 q 6 (.mv (.t 14)) <|
 .keep [6] <|
 .ret
theorem e_record_within:EF false F.record_within ic_record_within [.t 6]:=ef [] Try.func133 (by kernel_rfl) (by kernel_rfl) (by kernel_rfl)
end Go.Proofs.Ytgfploghjpbcaaa.Eng

