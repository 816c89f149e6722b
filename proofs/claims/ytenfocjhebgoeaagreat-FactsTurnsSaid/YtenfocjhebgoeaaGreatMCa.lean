/- The numbers of functions and types, by name. Printed by program. -/
import Derived.Test.YtenfocjhebgoeaaGreatME6
import Derived.Test.YtenfocjhebgoeaaGreatChecked
namespace Go.Proofs.YtenfocjhebgoeaaGreat.Eng
open Go Go.Proofs
abbrev F.clapperlaw22_FactsTurns:FuncId:=3
abbrev F.clapperlaw22_up:FuncId:=5
abbrev F.clapperref22_Few:FuncId:=6
abbrev F.facts_Record:FuncId:=7
abbrev F.clapperref22_Same:FuncId:=8
abbrev F.facts_May:FuncId:=9
abbrev F.facts_New:FuncId:=11
abbrev F.facts_Has:FuncId:=12
abbrev F.clapperref22_FewRules:FuncId:=13
abbrev F.facts_take:FuncId:=14
abbrev F.clapperref22_SameRules:FuncId:=15
abbrev F.facts_Rules:FuncId:=16
abbrev F.facts_enter:FuncId:=17
abbrev F.facts_notice:FuncId:=18
abbrev F.clapperref13_Few:FuncId:=19
abbrev F.clapperref14_Few:FuncId:=20
abbrev F.record_Open:FuncId:=21
abbrev F.facts_records:FuncId:=22
abbrev F.facts_chain:FuncId:=23
abbrev F.keys_Find:FuncId:=24
abbrev F.facts_last:FuncId:=25
abbrev F.record_Check:FuncId:=26
abbrev F.slices_Clip_byte_byte:FuncId:=27
abbrev F.slices_Clone_byte_byte:FuncId:=28
abbrev F.slices_Clone_api_Chain_api_Chain:FuncId:=29
abbrev F.slices_Insert_api_Chain_api_Chain:FuncId:=30
abbrev F.clapperref10_Same:FuncId:=31
abbrev F.clapperref11_Same:FuncId:=32
abbrev F.clapperref22_service:FuncId:=33
abbrev F.keys_May:FuncId:=34
abbrev F.revoke_May:FuncId:=35
abbrev F.fare_May:FuncId:=36
abbrev F.route_May:FuncId:=37
abbrev F.facts_fair:FuncId:=38
abbrev F.slices_Clip_api_Entry_api_Entry:FuncId:=39
abbrev F.record_fields:FuncId:=40
abbrev F.record_read:FuncId:=41
abbrev F.sign_Parse:FuncId:=42
abbrev F.record_May:FuncId:=43
abbrev F.sha_Sum:FuncId:=44
abbrev F.slices_BinarySearchFunc_api_Chain_api_Chain_int:FuncId:=45
abbrev F.facts_chain_1:FuncId:=46
abbrev F.cmp_Compare_int:FuncId:=47
abbrev F.keys_find:FuncId:=48
abbrev F.sign_Verify:FuncId:=49
abbrev F.clapperref22_ints:FuncId:=52
abbrev F.keys_one:FuncId:=53
abbrev F.service_May:FuncId:=54
abbrev F.route_May_1:FuncId:=55
abbrev F.route_May_2:FuncId:=56
abbrev F.route_stop:FuncId:=57
abbrev F.slices_ContainsFunc_api_Service_api_Service:FuncId:=58
abbrev F.slices_ContainsFunc_api_Conn_api_Conn:FuncId:=59
abbrev F.tlv_Get:FuncId:=60
abbrev F.tlv_Of:FuncId:=61
abbrev F.limb_Of:FuncId:=62
abbrev F.record_within:FuncId:=63
abbrev F.sha_New:FuncId:=64
abbrev F.sha_Hash_Write:FuncId:=65
abbrev F.sha_Hash_Sum:FuncId:=66
abbrev F.cmp_isNaN_int:FuncId:=67
abbrev F.slices_IndexFunc_api_Key_api_Key:FuncId:=68
abbrev F.keys_find_1:FuncId:=69
abbrev F.field_New:FuncId:=70
abbrev F.point_N:FuncId:=71
abbrev F.point_On:FuncId:=72
abbrev F.sign_may:FuncId:=73
abbrev F.field_Field_Inv:FuncId:=74
abbrev F.point_Mul:FuncId:=75
abbrev F.field_Field_Mul:FuncId:=76
abbrev F.sign_number:FuncId:=77
abbrev F.point_Base:FuncId:=78
abbrev F.point_Add:FuncId:=79
abbrev F.field_Field_Add:FuncId:=80
abbrev F.service_May_1:FuncId:=82
abbrev F.slices_Contains_int_int:FuncId:=83
abbrev F.service_days:FuncId:=84
abbrev F.slices_ContainsFunc_int_int:FuncId:=85
abbrev F.slices_IndexFunc_api_Service_api_Service:FuncId:=86
abbrev F.slices_IndexFunc_api_Conn_api_Conn:FuncId:=87
abbrev F.tlv_May:FuncId:=88
abbrev F.sha_Hash_take:FuncId:=89
abbrev F.sha_Hash_Clone:FuncId:=90
abbrev F.limb_Len:FuncId:=91
abbrev F.field_Field_Cut:FuncId:=92
abbrev F.limb_Mul:FuncId:=93
abbrev F.point_of:FuncId:=94
abbrev F.point_curve_on:FuncId:=95
abbrev F.limb_Cmp:FuncId:=96
abbrev F.field_Field_odd:FuncId:=97
abbrev F.field_Field_in:FuncId:=98
abbrev F.limb_Sub:FuncId:=99
abbrev F.field_Field_Sub:FuncId:=100
abbrev F.point_lift:FuncId:=101
abbrev F.point_curve_twice:FuncId:=102
abbrev F.limb_Bit:FuncId:=103
abbrev F.point_curve_sum:FuncId:=104
abbrev F.point_curve_flat:FuncId:=105
abbrev F.field_Field_mont:FuncId:=106
abbrev F.limb_Add:FuncId:=107
abbrev F.field_Field_less:FuncId:=108
abbrev F.slices_Index_int_int:FuncId:=110
abbrev F.slices_IndexFunc_int_int:FuncId:=111
abbrev F.sha_words:FuncId:=112
abbrev F.sha_constants:FuncId:=113
abbrev F.sha_turned:FuncId:=114
abbrev F.math_bits_Len64:FuncId:=115
abbrev F.math_bits_Mul64:FuncId:=116
abbrev F.point_P:FuncId:=118
abbrev F.point_curve_square:FuncId:=119
abbrev F.point_curve_times:FuncId:=120
abbrev F.point_b:FuncId:=121
abbrev F.limb_Half:FuncId:=122
abbrev F.field_Field_half:FuncId:=123
abbrev F.point_three_far:FuncId:=125
abbrev F.field_step:FuncId:=126
abbrev F.math_bits_RotateLeft32:FuncId:=127
abbrev T.t:TypeId:=0
abbrev T.func:TypeId:=1
abbrev T.int:TypeId:=3
abbrev T.bool:TypeId:=4
abbrev T.string:TypeId:=9
abbrev T.interface:TypeId:=20
abbrev T.api_Code:TypeId:=48
def pfx (v:Bool):Pf:=⟨fun f => !([29,30,64,65,70,89,90,94].contains f),v,fun t => [48].contains t⟩
theorem mixed:Tryz.prog.follows .mixedOrders=true:=by kernel_rfl
theorem cmpok (v:Bool):∀ t,(pfx v).c t=true→cmpT Tryz.prog t=true:=by
 intro t h
 simp [pfx] at h
 subst h; kernel_rfl
abbrev EF (v:Bool) (f:FuncId) (ic:IC) (rs:List IRes):Prop:=∀ {args:List AV} {H:AH} {w:AV} {H':AH},iwp (pfx v) (Called Tryz.prog) ic (retQ rs H w H') (look (enterL 0 args)) H→Called Tryz.prog f args H w H'
theorem ef {v:Bool} {f:FuncId} {fn:Func} {ic:IC} {rs:List IRes} (own:List Nat) (hf:Tryz.prog.funcs[f]? = some fn) (hok:okCall Tryz.prog f=true) (hc:compF Tryz.prog (pfx v) (fun d => own.contains d) fn=some ic) (hr:fn.results.toList.mapM (res? Tryz.prog)=some rs):EF v f ic rs:=fun h =>
 fn_called mixed (cmpok v) hf hok hc hr h
set_option maxRecDepth 20000
def ic_limb_Of : IC :=
 q 2 (.alloc (List.replicate 4 (.int .u64 0))) <|
 q 3 (.mv (.c (.nilIface))) <|
 .keep [0, 2] <|
 q 6 (.mv (.t 0)) <|
 q 7 (.len false (.t 6)) <|
 q 8 (.bin .gtr (.t 7) (ci 32)) <|
 .keep [0, 2, 8] <|
 .ite (.t 8)
 (q 9 (.build (List.replicate 4 (.int .u64 0)) []) <|
 q 10 (.mkif T.api_Code (ci 1)) <|
 qn (.store 4 (.t 2) (.t 9)) <|
 q 3 (.mv (.t 10)) <|
 .keep [2, 3] <|
 .ret)
 (.done) <|
 q 4 (.alloc (List.replicate 4 (.int .u64 0))) <|
 .keep [0, 2, 4] <|
 q 11 (.mv (.t 0)) <|
 q 12 (.len false (.t 11)) <|
 q 13 (.mv (ci 0)) <|
 .keep [0, 2, 4, 12, 13] <|
 .block 0
 (.keep [0, 2, 4, 12, 13] <|
 .loop
 (q 14 (.bin .lss (.t 13) (.t 12)) <|
 .keep [0, 2, 4, 12, 13, 14] <|
 .ite (.t 14)
 (.done)
 (.exit 0) <|
 .block 1
 (q 15 (.mv (.t 13)) <|
 q 5 (.mv (.t 15)) <|
 .keep [0, 2, 4, 5, 12, 13] <|
 q 16 (.mv (.t 5)) <|
 q 17 (.bin .quo (.t 16) (ci 8)) <|
 q 18 (.idxa 1 (some 4) (.t 4) (.t 17)) <|
 q 19 (.load false 1 (.t 18)) <|
 q 20 (.mv (.t 0)) <|
 q 21 (.mv (.t 0)) <|
 q 22 (.len false (.t 21)) <|
 q 23 (.bin .sub (.t 22) (ci 1)) <|
 q 24 (.mv (.t 5)) <|
 q 25 (.bin .sub (.t 23) (.t 24)) <|
 q 26 (.idxa 1 none (.t 20) (.t 25)) <|
 q 27 (.load false 1 (.t 26)) <|
 q 28 (.conv .u64 (.t 27)) <|
 q 29 (.mv (.t 5)) <|
 q 30 (.bin .rem (.t 29) (ci 8)) <|
 q 31 (.bin .mul (ci 8) (.t 30)) <|
 q 32 (.bin .shl (.t 28) (.t 31)) <|
 q 33 (.bin .or (.t 19) (.t 32)) <|
 q 34 (.idxa 1 (some 4) (.t 4) (.t 17)) <|
 qn (.store 1 (.t 34) (.t 33)) <|
 .keep [0, 2, 4, 12, 13] <|
 .done) <|
 q 35 (.bin .add (.t 13) (ci 1)) <|
 q 13 (.mv (.t 35)) <|
 .keep [0, 2, 4, 12, 13] <|
 .keep [0, 2, 4, 12, 13] <|
 .done)) <|
 q 36 (.load true 4 (.t 4)) <|
 qn (.store 4 (.t 2) (.t 36)) <|
 q 3 (.mv (.c (.nilIface))) <|
 .keep [2, 3] <|
 .ret
theorem e_limb_Of:EF false F.limb_Of ic_limb_Of [.c 2 true 4,.t 3]:=ef [] Tryz.func62 (by kernel_rfl) (by kernel_rfl) (by kernel_rfl)
def ic_limb_Len : IC :=
 q 1 (.box (.t 0)) <|
 q 2 (.mv (ci 0)) <|
 .keep [1] <|
 q 3 (.mv (ci 3)) <|
 .keep [1, 3] <|
 .block 0
 (.keep [1, 3] <|
 .loop
 (q 4 (.mv (.t 3)) <|
 q 5 (.bin .geq (.t 4) (ci 0)) <|
 .keep [1, 3, 5] <|
 .ite (.t 5)
 (.done)
 (.exit 0) <|
 .block 1
 (q 8 (.mv (.t 3)) <|
 q 9 (.idxa 1 (some 4) (.t 1) (.t 8)) <|
 q 10 (.load false 1 (.t 9)) <|
 q 11 (.bin .gtr (.t 10) (.c (.int .u64 0))) <|
 .keep [1, 3, 11] <|
 .ite (.t 11)
 (q 12 (.mv (.t 3)) <|
 q 13 (.bin .mul (ci 64) (.t 12)) <|
 q 14 (.mv (.t 3)) <|
 q 15 (.idxa 1 (some 4) (.t 1) (.t 14)) <|
 q 16 (.load false 1 (.t 15)) <|
 q 17 (.call F.math_bits_Len64 [(.t 16)]) <|
 q 18 (.bin .add (.t 13) (.t 17)) <|
 q 2 (.mv (.t 18)) <|
 .keep [2] <|
 .ret)
 (.done) <|
 .done) <|
 q 6 (.mv (.t 3)) <|
 q 7 (.bin .sub (.t 6) (ci 1)) <|
 q 3 (.mv (.t 7)) <|
 .keep [1, 3] <|
 .keep [1, 3] <|
 .done)) <|
 q 2 (.mv (ci 0)) <|
 .keep [2] <|
 .ret
theorem e_limb_Len:EF false F.limb_Len ic_limb_Len [.t 2]:=ef [] Tryz.func91 (by kernel_rfl) (by kernel_rfl) (by kernel_rfl)
def ic_limb_Mul : IC :=
 q 2 (.box (.t 0)) <|
 q 3 (.box (.t 1)) <|
 q 4 (.alloc (List.replicate 8 (.int .u64 0))) <|
 .keep [2, 3, 4] <|
 q 5 (.alloc (List.replicate 8 (.int .u64 0))) <|
 .keep [2, 3, 4, 5] <|
 q 14 (.load true 4 (.t 2)) <|
 q 15 (.mv (ci 0)) <|
 .keep [3, 4, 5, 14, 15] <|
 .block 0
 (.keep [3, 4, 5, 14, 15] <|
 .loop
 (q 16 (.bin .lss (.t 15) (ci 4)) <|
 .keep [3, 4, 5, 14, 15, 16] <|
 .ite (.t 16)
 (.done)
 (.exit 0) <|
 .block 1
 (q 17 (.mv (.t 15)) <|
 q 18 (.idx false 1 4 (.t 14) (.t 15)) <|
 q 6 (.mv (.t 17)) <|
 q 7 (.mv (.t 18)) <|
 .keep [3, 4, 5, 6, 7, 14, 15] <|
 q 8 (.mv (.c (.int .u64 0))) <|
 .keep [3, 4, 5, 6, 7, 8, 14, 15] <|
 q 19 (.load true 4 (.t 3)) <|
 q 20 (.mv (ci 0)) <|
 .keep [3, 4, 5, 6, 7, 8, 14, 15, 19, 20] <|
 .block 2
 (.keep [3, 4, 5, 6, 7, 8, 14, 15, 19, 20] <|
 .loop
 (q 21 (.bin .lss (.t 20) (ci 4)) <|
 .keep [3, 4, 5, 6, 7, 8, 14, 15, 19, 20, 21] <|
 .ite (.t 21)
 (.done)
 (.exit 2) <|
 .block 3
 (q 22 (.mv (.t 20)) <|
 q 23 (.idx false 1 4 (.t 19) (.t 20)) <|
 q 9 (.mv (.t 22)) <|
 q 10 (.mv (.t 23)) <|
 .keep [3, 4, 5, 6, 7, 8, 9, 10, 14, 15, 19, 20] <|
 q 25 (.mv (.t 7)) <|
 q 26 (.mv (.t 10)) <|
 q 27 (.call F.math_bits_Mul64 [(.t 25), (.t 26)]) <|
 q 24 (.mv (.t 27)) <|
 q 28 (.ext (.t 24) 0) <|
 q 29 (.ext (.t 24) 1) <|
 q 11 (.mv (.t 28)) <|
 q 12 (.mv (.t 29)) <|
 .keep [3, 4, 5, 6, 7, 8, 9, 11, 12, 14, 15, 19, 20] <|
 q 31 (.mv (.t 12)) <|
 q 32 (.mv (.t 6)) <|
 q 33 (.mv (.t 9)) <|
 q 34 (.bin .add (.t 32) (.t 33)) <|
 q 35 (.idxa 1 (some 8) (.t 5) (.t 34)) <|
 q 36 (.load false 1 (.t 35)) <|
 q 37 (.carry false (.t 31) (.t 36) (.c (.int .u64 0))) <|
 q 30 (.mv (.t 37)) <|
 q 38 (.ext (.t 30) 0) <|
 q 39 (.ext (.t 30) 1) <|
 q 12 (.mv (.t 38)) <|
 q 13 (.mv (.t 39)) <|
 .keep [3, 4, 5, 6, 7, 8, 9, 11, 12, 13, 14, 15, 19, 20] <|
 q 40 (.mv (.t 11)) <|
 q 41 (.mv (.t 13)) <|
 q 42 (.bin .add (.t 40) (.t 41)) <|
 q 11 (.mv (.t 42)) <|
 .keep [3, 4, 5, 6, 7, 8, 9, 11, 12, 14, 15, 19, 20] <|
 q 44 (.mv (.t 12)) <|
 q 45 (.mv (.t 8)) <|
 q 46 (.carry false (.t 44) (.t 45) (.c (.int .u64 0))) <|
 q 43 (.mv (.t 46)) <|
 q 47 (.ext (.t 43) 0) <|
 q 48 (.ext (.t 43) 1) <|
 q 12 (.mv (.t 47)) <|
 q 13 (.mv (.t 48)) <|
 .keep [3, 4, 5, 6, 7, 9, 11, 12, 13, 14, 15, 19, 20] <|
 q 49 (.mv (.t 6)) <|
 q 50 (.mv (.t 9)) <|
 q 51 (.bin .add (.t 49) (.t 50)) <|
 q 52 (.mv (.t 12)) <|
 q 53 (.mv (.t 11)) <|
 q 54 (.mv (.t 13)) <|
 q 55 (.bin .add (.t 53) (.t 54)) <|
 q 56 (.idxa 1 (some 8) (.t 5) (.t 51)) <|
 qn (.store 1 (.t 56) (.t 52)) <|
 q 8 (.mv (.t 55)) <|
 .keep [3, 4, 5, 6, 7, 8, 14, 15, 19, 20] <|
 .done) <|
 q 57 (.bin .add (.t 20) (ci 1)) <|
 q 20 (.mv (.t 57)) <|
 .keep [3, 4, 5, 6, 7, 8, 14, 15, 19, 20] <|
 .keep [3, 4, 5, 6, 7, 8, 14, 15, 19, 20] <|
 .done)) <|
 q 58 (.mv (.t 6)) <|
 q 59 (.bin .add (.t 58) (ci 4)) <|
 q 60 (.mv (.t 8)) <|
 q 61 (.idxa 1 (some 8) (.t 5) (.t 59)) <|
 qn (.store 1 (.t 61) (.t 60)) <|
 .keep [3, 4, 5, 14, 15] <|
 .done) <|
 q 62 (.bin .add (.t 15) (ci 1)) <|
 q 15 (.mv (.t 62)) <|
 .keep [3, 4, 5, 14, 15] <|
 .keep [3, 4, 5, 14, 15] <|
 .done)) <|
 q 63 (.load true 8 (.t 5)) <|
 qn (.store 8 (.t 4) (.t 63)) <|
 .keep [4] <|
 .ret
theorem e_limb_Mul:EF false F.limb_Mul ic_limb_Mul [.c 4 true 8]:=ef [] Tryz.func93 (by kernel_rfl) (by kernel_rfl) (by kernel_rfl)
def ic_limb_Cmp : IC :=
 q 2 (.box (.t 0)) <|
 q 3 (.box (.t 1)) <|
 q 4 (.mv (ci 0)) <|
 .keep [2, 3] <|
 q 5 (.mv (ci 3)) <|
 .keep [2, 3, 5] <|
 .block 0
 (.keep [2, 3, 5] <|
 .loop
 (q 6 (.mv (.t 5)) <|
 q 7 (.bin .geq (.t 6) (ci 0)) <|
 .keep [2, 3, 5, 7] <|
 .ite (.t 7)
 (.done)
 (.exit 0) <|
 .block 1
 (.block 2
 (q 11 (.mv (.t 5)) <|
 q 12 (.idxa 1 (some 4) (.t 2) (.t 11)) <|
 q 13 (.load false 1 (.t 12)) <|
 q 14 (.mv (.t 5)) <|
 q 15 (.idxa 1 (some 4) (.t 3) (.t 14)) <|
 q 16 (.load false 1 (.t 15)) <|
 q 17 (.bin .lss (.t 13) (.t 16)) <|
 q 10 (.mv (.t 17)) <|
 .keep [2, 3, 5, 10] <|
 .ite (.t 10)
 (q 4 (.mv (ci (-1))) <|
 .keep [4] <|
 .ret)
 (q 19 (.mv (.t 5)) <|
 q 20 (.idxa 1 (some 4) (.t 2) (.t 19)) <|
 q 21 (.load false 1 (.t 20)) <|
 q 22 (.mv (.t 5)) <|
 q 23 (.idxa 1 (some 4) (.t 3) (.t 22)) <|
 q 24 (.load false 1 (.t 23)) <|
 q 25 (.bin .gtr (.t 21) (.t 24)) <|
 q 18 (.mv (.t 25)) <|
 .keep [2, 3, 5, 18] <|
 .ite (.t 18)
 (q 4 (.mv (ci 1)) <|
 .keep [4] <|
 .ret)
 (.done) <|
 .done) <|
 .done) <|
 .done) <|
 q 8 (.mv (.t 5)) <|
 q 9 (.bin .sub (.t 8) (ci 1)) <|
 q 5 (.mv (.t 9)) <|
 .keep [2, 3, 5] <|
 .keep [2, 3, 5] <|
 .done)) <|
 q 4 (.mv (ci 0)) <|
 .keep [4] <|
 .ret
theorem e_limb_Cmp:EF false F.limb_Cmp ic_limb_Cmp [.t 4]:=ef [] Tryz.func96 (by kernel_rfl) (by kernel_rfl) (by kernel_rfl)
def ic_limb_Sub : IC :=
 q 2 (.box (.t 0)) <|
 q 3 (.box (.t 1)) <|
 q 4 (.alloc (List.replicate 4 (.int .u64 0))) <|
 q 5 (.mv (cb false)) <|
 .keep [2, 3, 4] <|
 q 6 (.alloc (List.replicate 4 (.int .u64 0))) <|
 .keep [2, 3, 4, 6] <|
 q 7 (.mv (.c (.int .u64 0))) <|
 .keep [2, 3, 4, 6, 7] <|
 q 9 (.mv (ci 0)) <|
 .keep [2, 3, 4, 6, 7, 9] <|
 .block 0
 (.keep [2, 3, 4, 6, 7, 9] <|
 .loop
 (q 10 (.bin .lss (.t 9) (ci 4)) <|
 .keep [2, 3, 4, 6, 7, 9, 10] <|
 .ite (.t 10)
 (.done)
 (.exit 0) <|
 .block 1
 (q 11 (.mv (.t 9)) <|
 q 8 (.mv (.t 11)) <|
 .keep [2, 3, 4, 6, 7, 8, 9] <|
 q 13 (.mv (.t 8)) <|
 q 14 (.mv (.t 8)) <|
 q 15 (.idxa 1 (some 4) (.t 2) (.t 14)) <|
 q 16 (.load false 1 (.t 15)) <|
 q 17 (.mv (.t 8)) <|
 q 18 (.idxa 1 (some 4) (.t 3) (.t 17)) <|
 q 19 (.load false 1 (.t 18)) <|
 q 20 (.mv (.t 7)) <|
 q 21 (.carry true (.t 16) (.t 19) (.t 20)) <|
 q 12 (.mv (.t 21)) <|
 q 22 (.ext (.t 12) 0) <|
 q 23 (.ext (.t 12) 1) <|
 q 24 (.idxa 1 (some 4) (.t 6) (.t 13)) <|
 qn (.store 1 (.t 24) (.t 22)) <|
 q 7 (.mv (.t 23)) <|
 .keep [2, 3, 4, 6, 7, 9] <|
 .done) <|
 q 25 (.bin .add (.t 9) (ci 1)) <|
 q 9 (.mv (.t 25)) <|
 .keep [2, 3, 4, 6, 7, 9] <|
 .keep [2, 3, 4, 6, 7, 9] <|
 .done)) <|
 q 26 (.load true 4 (.t 6)) <|
 q 27 (.mv (.t 7)) <|
 q 28 (.bin .gtr (.t 27) (.c (.int .u64 0))) <|
 qn (.store 4 (.t 4) (.t 26)) <|
 q 5 (.mv (.t 28)) <|
 .keep [4, 5] <|
 .ret
theorem e_limb_Sub:EF false F.limb_Sub ic_limb_Sub [.c 4 true 4,.t 5]:=ef [] Tryz.func99 (by kernel_rfl) (by kernel_rfl) (by kernel_rfl)
def ic_limb_Bit : IC :=
 q 2 (.box (.t 0)) <|
 q 4 (.mv (cb false)) <|
 .keep [1, 2] <|
 q 5 (.mv (.t 1)) <|
 q 6 (.bin .geq (.t 5) (ci 0)) <|
 q 7 (.mv (.t 6)) <|
 qg 8 7 true (.mv (.t 1)) <|
 qg 9 7 true (.bin .lss (.t 8) (ci 256)) <|
 q 10 (.pick (.t 7) (.t 9) (cb false)) <|
 q 11 (.mv (.t 10)) <|
 qg 12 11 true (.mv (.t 1)) <|
 qg 13 11 true (.bin .quo (.t 12) (ci 64)) <|
 qg 14 11 true (.idxa 1 (some 4) (.t 2) (.t 13)) <|
 qg 15 11 true (.load false 1 (.t 14)) <|
 qg 16 11 true (.mv (.t 1)) <|
 qg 17 11 true (.bin .rem (.t 16) (ci 64)) <|
 qg 18 11 true (.bin .shr (.t 15) (.t 17)) <|
 qg 19 11 true (.bin .and (.t 18) (.c (.int .u64 1))) <|
 qg 20 11 true (.bin .eql (.t 19) (.c (.int .u64 1))) <|
 q 21 (.pick (.t 11) (.t 20) (cb false)) <|
 q 4 (.mv (.t 21)) <|
 .keep [4] <|
 .ret
theorem e_limb_Bit:EF false F.limb_Bit ic_limb_Bit [.t 4]:=ef [] Tryz.func103 (by kernel_rfl) (by kernel_rfl) (by kernel_rfl)
def ic_limb_Add : IC :=
 q 2 (.box (.t 0)) <|
 q 3 (.box (.t 1)) <|
 q 4 (.alloc (List.replicate 4 (.int .u64 0))) <|
 q 5 (.mv (cb false)) <|
 .keep [2, 3, 4] <|
 q 6 (.alloc (List.replicate 4 (.int .u64 0))) <|
 .keep [2, 3, 4, 6] <|
 q 7 (.mv (.c (.int .u64 0))) <|
 .keep [2, 3, 4, 6, 7] <|
 q 9 (.mv (ci 0)) <|
 .keep [2, 3, 4, 6, 7, 9] <|
 .block 0
 (.keep [2, 3, 4, 6, 7, 9] <|
 .loop
 (q 10 (.bin .lss (.t 9) (ci 4)) <|
 .keep [2, 3, 4, 6, 7, 9, 10] <|
 .ite (.t 10)
 (.done)
 (.exit 0) <|
 .block 1
 (q 11 (.mv (.t 9)) <|
 q 8 (.mv (.t 11)) <|
 .keep [2, 3, 4, 6, 7, 8, 9] <|
 q 13 (.mv (.t 8)) <|
 q 14 (.mv (.t 8)) <|
 q 15 (.idxa 1 (some 4) (.t 2) (.t 14)) <|
 q 16 (.load false 1 (.t 15)) <|
 q 17 (.mv (.t 8)) <|
 q 18 (.idxa 1 (some 4) (.t 3) (.t 17)) <|
 q 19 (.load false 1 (.t 18)) <|
 q 20 (.mv (.t 7)) <|
 q 21 (.carry false (.t 16) (.t 19) (.t 20)) <|
 q 12 (.mv (.t 21)) <|
 q 22 (.ext (.t 12) 0) <|
 q 23 (.ext (.t 12) 1) <|
 q 24 (.idxa 1 (some 4) (.t 6) (.t 13)) <|
 qn (.store 1 (.t 24) (.t 22)) <|
 q 7 (.mv (.t 23)) <|
 .keep [2, 3, 4, 6, 7, 9] <|
 .done) <|
 q 25 (.bin .add (.t 9) (ci 1)) <|
 q 9 (.mv (.t 25)) <|
 .keep [2, 3, 4, 6, 7, 9] <|
 .keep [2, 3, 4, 6, 7, 9] <|
 .done)) <|
 q 26 (.load true 4 (.t 6)) <|
 q 27 (.mv (.t 7)) <|
 q 28 (.bin .gtr (.t 27) (.c (.int .u64 0))) <|
 qn (.store 4 (.t 4) (.t 26)) <|
 q 5 (.mv (.t 28)) <|
 .keep [4, 5] <|
 .ret
theorem e_limb_Add:EF false F.limb_Add ic_limb_Add [.c 4 true 4,.t 5]:=ef [] Tryz.func107 (by kernel_rfl) (by kernel_rfl) (by kernel_rfl)
def ic_math_bits_Len64 : IC :=
 q 2 (.mv (ci 0)) <|
 .keep [0, 2] <|
 q 3 (.mv (.t 0)) <|
 q 4 (.bin .geq (.t 3) (.c (.int .u64 4294967296))) <|
 .keep [0, 2, 4] <|
 .ite (.t 4)
 (q 5 (.mv (.t 0)) <|
 q 6 (.bin .shr (.t 5) (.c (.int .u64 32))) <|
 q 0 (.mv (.t 6)) <|
 .keep [0] <|
 q 2 (.mv (ci 32)) <|
 .keep [0, 2] <|
 .done)
 (.done) <|
 q 7 (.mv (.t 0)) <|
 q 8 (.bin .geq (.t 7) (.c (.int .u64 65536))) <|
 .keep [0, 2, 8] <|
 .ite (.t 8)
 (q 9 (.mv (.t 0)) <|
 q 10 (.bin .shr (.t 9) (.c (.int .u64 16))) <|
 q 0 (.mv (.t 10)) <|
 .keep [0, 2] <|
 q 11 (.mv (.t 2)) <|
 q 12 (.bin .add (.t 11) (ci 16)) <|
 q 2 (.mv (.t 12)) <|
 .keep [0, 2] <|
 .done)
 (.done) <|
 q 13 (.mv (.t 0)) <|
 q 14 (.bin .geq (.t 13) (.c (.int .u64 256))) <|
 .keep [0, 2, 14] <|
 .ite (.t 14)
 (q 15 (.mv (.t 0)) <|
 q 16 (.bin .shr (.t 15) (.c (.int .u64 8))) <|
 q 0 (.mv (.t 16)) <|
 .keep [0, 2] <|
 q 17 (.mv (.t 2)) <|
 q 18 (.bin .add (.t 17) (ci 8)) <|
 q 2 (.mv (.t 18)) <|
 .keep [0, 2] <|
 .done)
 (.done) <|
 q 19 (.mv (.t 2)) <|
 q 20 (.mv (.t 0)) <|
 q 21 (.conv .u8 (.t 20)) <|
 q 22 (.sidx (.c (.string ⟨#[0, 1, 2, 2, 3, 3, 3, 3, 4, 4, 4, 4, 4, 4, 4, 4, 5, 5, 5, 5, 5, 5, 5, 5, 5, 5, 5, 5, 5, 5, 5, 5, 6, 6, 6, 6, 6, 6, 6, 6, 6, 6, 6, 6, 6, 6, 6, 6, 6, 6, 6, 6, 6, 6, 6, 6, 6, 6, 6, 6, 6, 6, 6, 6, 7, 7, 7, 7, 7, 7, 7, 7, 7, 7, 7, 7, 7, 7, 7, 7, 7, 7, 7, 7, 7, 7, 7, 7, 7, 7, 7, 7, 7, 7, 7, 7, 7, 7, 7, 7, 7, 7, 7, 7, 7, 7, 7, 7, 7, 7, 7, 7, 7, 7, 7, 7, 7, 7, 7, 7, 7, 7, 7, 7, 7, 7, 7, 7, 8, 8, 8, 8, 8, 8, 8, 8, 8, 8, 8, 8, 8, 8, 8, 8, 8, 8, 8, 8, 8, 8, 8, 8, 8, 8, 8, 8, 8, 8, 8, 8, 8, 8, 8, 8, 8, 8, 8, 8, 8, 8, 8, 8, 8, 8, 8, 8, 8, 8, 8, 8, 8, 8, 8, 8, 8, 8, 8, 8, 8, 8, 8, 8, 8, 8, 8, 8, 8, 8, 8, 8, 8, 8, 8, 8, 8, 8, 8, 8, 8, 8, 8, 8, 8, 8, 8, 8, 8, 8, 8, 8, 8, 8, 8, 8, 8, 8, 8, 8, 8, 8, 8, 8, 8, 8, 8, 8, 8, 8, 8, 8, 8, 8, 8, 8, 8, 8, 8, 8, 8, 8, 8, 8, 8, 8, 8, 8]⟩)) (.t 21)) <|
 q 23 (.conv .i64 (.t 22)) <|
 q 24 (.bin .add (.t 19) (.t 23)) <|
 q 2 (.mv (.t 24)) <|
 .keep [2] <|
 .ret
theorem e_math_bits_Len64:EF false F.math_bits_Len64 ic_math_bits_Len64 [.t 2]:=ef [] Tryz.func115 (by kernel_rfl) (by kernel_rfl) (by kernel_rfl)
def ic_math_bits_Mul64 : IC :=
 q 4 (.mv (.c (.int .u64 0))) <|
 q 5 (.mv (.c (.int .u64 0))) <|
 .keep [0, 1] <|
 q 14 (.mv (.t 0)) <|
 q 15 (.bin .and (.t 14) (.c (.int .u64 4294967295))) <|
 q 6 (.mv (.t 15)) <|
 .keep [0, 1, 6] <|
 q 16 (.mv (.t 0)) <|
 q 17 (.bin .shr (.t 16) (.c (.int .u64 32))) <|
 q 7 (.mv (.t 17)) <|
 .keep [0, 1, 6, 7] <|
 q 18 (.mv (.t 1)) <|
 q 19 (.bin .and (.t 18) (.c (.int .u64 4294967295))) <|
 q 8 (.mv (.t 19)) <|
 .keep [0, 1, 6, 7, 8] <|
 q 20 (.mv (.t 1)) <|
 q 21 (.bin .shr (.t 20) (.c (.int .u64 32))) <|
 q 9 (.mv (.t 21)) <|
 .keep [0, 1, 6, 7, 8, 9] <|
 q 22 (.mv (.t 6)) <|
 q 23 (.mv (.t 8)) <|
 q 24 (.bin .mul (.t 22) (.t 23)) <|
 q 10 (.mv (.t 24)) <|
 .keep [0, 1, 6, 7, 8, 9, 10] <|
 q 25 (.mv (.t 7)) <|
 q 26 (.mv (.t 8)) <|
 q 27 (.bin .mul (.t 25) (.t 26)) <|
 q 28 (.mv (.t 10)) <|
 q 29 (.bin .shr (.t 28) (.c (.int .u64 32))) <|
 q 30 (.bin .add (.t 27) (.t 29)) <|
 q 11 (.mv (.t 30)) <|
 .keep [0, 1, 6, 7, 9, 11] <|
 q 31 (.mv (.t 11)) <|
 q 32 (.bin .and (.t 31) (.c (.int .u64 4294967295))) <|
 q 12 (.mv (.t 32)) <|
 .keep [0, 1, 6, 7, 9, 11, 12] <|
 q 33 (.mv (.t 11)) <|
 q 34 (.bin .shr (.t 33) (.c (.int .u64 32))) <|
 q 13 (.mv (.t 34)) <|
 .keep [0, 1, 6, 7, 9, 12, 13] <|
 q 35 (.mv (.t 12)) <|
 q 36 (.mv (.t 6)) <|
 q 37 (.mv (.t 9)) <|
 q 38 (.bin .mul (.t 36) (.t 37)) <|
 q 39 (.bin .add (.t 35) (.t 38)) <|
 q 12 (.mv (.t 39)) <|
 .keep [0, 1, 7, 9, 12, 13] <|
 q 40 (.mv (.t 7)) <|
 q 41 (.mv (.t 9)) <|
 q 42 (.bin .mul (.t 40) (.t 41)) <|
 q 43 (.mv (.t 13)) <|
 q 44 (.bin .add (.t 42) (.t 43)) <|
 q 45 (.mv (.t 12)) <|
 q 46 (.bin .shr (.t 45) (.c (.int .u64 32))) <|
 q 47 (.bin .add (.t 44) (.t 46)) <|
 q 4 (.mv (.t 47)) <|
 .keep [0, 1, 4] <|
 q 48 (.mv (.t 0)) <|
 q 49 (.mv (.t 1)) <|
 q 50 (.bin .mul (.t 48) (.t 49)) <|
 q 5 (.mv (.t 50)) <|
 .keep [4, 5] <|
 .ret
theorem e_math_bits_Mul64:EF false F.math_bits_Mul64 ic_math_bits_Mul64 [.t 4,.t 5]:=ef [] Tryz.func116 (by kernel_rfl) (by kernel_rfl) (by kernel_rfl)
def ic_limb_Half : IC :=
 q 1 (.box (.t 0)) <|
 q 2 (.alloc (List.replicate 4 (.int .u64 0))) <|
 .keep [1, 2] <|
 q 4 (.mv (ci 0)) <|
 .keep [1, 2, 4] <|
 .block 0
 (.keep [1, 2, 4] <|
 .loop
 (q 5 (.bin .lss (.t 4) (ci 4)) <|
 .keep [1, 2, 4, 5] <|
 .ite (.t 5)
 (.done)
 (.exit 0) <|
 .block 1
 (q 6 (.mv (.t 4)) <|
 q 3 (.mv (.t 6)) <|
 .keep [1, 2, 3, 4] <|
 q 7 (.mv (.t 3)) <|
 q 8 (.idxa 1 (some 4) (.t 1) (.t 7)) <|
 q 9 (.load false 1 (.t 8)) <|
 q 10 (.bin .shr (.t 9) (.c (.int .u64 1))) <|
 q 11 (.idxa 1 (some 4) (.t 1) (.t 7)) <|
 qn (.store 1 (.t 11) (.t 10)) <|
 .keep [1, 2, 3, 4] <|
 q 12 (.mv (.t 3)) <|
 q 13 (.bin .add (.t 12) (ci 1)) <|
 q 14 (.bin .lss (.t 13) (ci 4)) <|
 .keep [1, 2, 3, 4, 14] <|
 .ite (.t 14)
 (q 15 (.mv (.t 3)) <|
 q 16 (.idxa 1 (some 4) (.t 1) (.t 15)) <|
 q 17 (.load false 1 (.t 16)) <|
 q 18 (.mv (.t 3)) <|
 q 19 (.bin .add (.t 18) (ci 1)) <|
 q 20 (.idxa 1 (some 4) (.t 1) (.t 19)) <|
 q 21 (.load false 1 (.t 20)) <|
 q 22 (.bin .shl (.t 21) (.c (.int .u64 63))) <|
 q 23 (.bin .or (.t 17) (.t 22)) <|
 q 24 (.idxa 1 (some 4) (.t 1) (.t 15)) <|
 qn (.store 1 (.t 24) (.t 23)) <|
 .keep [1, 2, 4] <|
 .done)
 (.done) <|
 .done) <|
 q 25 (.bin .add (.t 4) (ci 1)) <|
 q 4 (.mv (.t 25)) <|
 .keep [1, 2, 4] <|
 .keep [1, 2, 4] <|
 .done)) <|
 q 26 (.load true 4 (.t 1)) <|
 qn (.store 4 (.t 2) (.t 26)) <|
 .keep [2] <|
 .ret
theorem e_limb_Half:EF false F.limb_Half ic_limb_Half [.c 2 true 4]:=ef [] Tryz.func122 (by kernel_rfl) (by kernel_rfl) (by kernel_rfl)
def ic_math_bits_RotateLeft32 : IC :=
 q 4 (.mv (.c (.int .u32 0))) <|
 .keep [0, 1] <|
 q 6 (.mv (.t 1)) <|
 q 7 (.conv .u64 (.t 6)) <|
 q 8 (.bin .and (.t 7) (.c (.int .u64 31))) <|
 q 5 (.mv (.t 8)) <|
 .keep [0, 5] <|
 q 9 (.mv (.t 0)) <|
 q 10 (.mv (.t 5)) <|
 q 11 (.bin .shl (.t 9) (.t 10)) <|
 q 12 (.mv (.t 0)) <|
 q 13 (.mv (.t 5)) <|
 q 14 (.bin .sub (.c (.int .u64 32)) (.t 13)) <|
 q 15 (.bin .shr (.t 12) (.t 14)) <|
 q 16 (.bin .or (.t 11) (.t 15)) <|
 q 4 (.mv (.t 16)) <|
 .keep [4] <|
 .ret
theorem e_math_bits_RotateLeft32:EF false F.math_bits_RotateLeft32 ic_math_bits_RotateLeft32 [.t 4]:=ef [] Tryz.func127 (by kernel_rfl) (by kernel_rfl) (by kernel_rfl)
set_option maxRecDepth 20000
def ic_field_New : IC :=
 q 1 (.box (.t 0)) <|
 q 2 (.mv (.c (.pointer none))) <|
 q 3 (.mv (.c (.nilIface))) <|
 .keep [1] <|
 q 6 (.idxa 1 (some 4) (.t 1) (ci 0)) <|
 q 7 (.load false 1 (.t 6)) <|
 q 8 (.bin .and (.t 7) (.c (.int .u64 1))) <|
 q 9 (.bin .eql (.t 8) (.c (.int .u64 0))) <|
 q 10 (.mv (.t 9)) <|
 qg 11 10 false (.load true 4 (.t 1)) <|
 qg 12 10 false (.call F.limb_Len [(.t 11)]) <|
 qg 13 10 false (.bin .lss (.t 12) (ci 2)) <|
 q 14 (.pick (.t 10) (cb true) (.t 13)) <|
 .keep [1, 14] <|
 .ite (.t 14)
 (q 15 (.mkif T.api_Code (ci 1)) <|
 q 2 (.mv (.c (.pointer none))) <|
 q 3 (.mv (.t 15)) <|
 .keep [2, 3] <|
 .ret)
 (.done) <|
 q 4 (.mv (.c (.int .u64 1))) <|
 .keep [1, 4] <|
 q 16 (.mv (ci 0)) <|
 .keep [1, 4, 16] <|
 .block 0
 (.keep [1, 4, 16] <|
 .loop
 (q 17 (.bin .lss (.t 16) (ci 6)) <|
 .keep [1, 4, 16, 17] <|
 .ite (.t 17)
 (.done)
 (.exit 0) <|
 .block 1
 (q 18 (.mv (.t 4)) <|
 q 19 (.idxa 1 (some 4) (.t 1) (ci 0)) <|
 q 20 (.load false 1 (.t 19)) <|
 q 21 (.mv (.t 4)) <|
 q 22 (.bin .mul (.t 20) (.t 21)) <|
 q 23 (.bin .sub (.c (.int .u64 2)) (.t 22)) <|
 q 24 (.bin .mul (.t 18) (.t 23)) <|
 q 4 (.mv (.t 24)) <|
 .keep [1, 4, 16] <|
 .done) <|
 q 25 (.bin .add (.t 16) (ci 1)) <|
 q 16 (.mv (.t 25)) <|
 .keep [1, 4, 16] <|
 .keep [1, 4, 16] <|
 .done)) <|
 q 26 (.load true 4 (.t 1)) <|
 q 27 (.mv (.t 4)) <|
 q 28 (.un .neg (.t 27)) <|
 q 29 (.build (List.replicate 13 (.int .u64 0)) [(0, 4, (.t 26)), (4, 1, (.t 28))]) <|
 q 30 (.box (.t 29)) <|
 q 5 (.mv (.t 30)) <|
 .keep [5] <|
 q 31 (.mv (.t 5)) <|
 q 32 (.mv (.t 5)) <|
 q 33 (.build (List.replicate 8 (.int .u64 0)) [(4, 1, (.c (.int .u64 1)))]) <|
 q 34 (.call F.field_Field_Cut [(.t 32), (.t 33)]) <|
 q 35 (.nilchk (.t 31)) <|
 q 36 (.fld 5 (.t 35)) <|
 qn (.store 4 (.t 36) (.t 34)) <|
 .keep [5] <|
 q 37 (.mv (.t 5)) <|
 q 38 (.mv (.t 5)) <|
 q 39 (.mv (.t 5)) <|
 q 40 (.nilchk (.t 39)) <|
 q 41 (.fld 5 (.t 40)) <|
 q 42 (.load true 4 (.t 41)) <|
 q 43 (.mv (.t 5)) <|
 q 44 (.nilchk (.t 43)) <|
 q 45 (.fld 5 (.t 44)) <|
 q 46 (.load true 4 (.t 45)) <|
 q 47 (.call F.limb_Mul [(.t 42), (.t 46)]) <|
 q 48 (.call F.field_Field_Cut [(.t 38), (.t 47)]) <|
 q 49 (.nilchk (.t 37)) <|
 q 50 (.fld 9 (.t 49)) <|
 qn (.store 4 (.t 50) (.t 48)) <|
 .keep [5] <|
 q 51 (.mv (.t 5)) <|
 q 2 (.mv (.t 51)) <|
 q 3 (.mv (.c (.nilIface))) <|
 .keep [2, 3] <|
 .ret
theorem e_field_New:EF false F.field_New ic_field_New [.t 2,.t 3]:=ef [] Tryz.func70 (by kernel_rfl) (by kernel_rfl) (by kernel_rfl)
def ic_field_Field_Inv : IC :=
 q 3 (.box (.t 1)) <|
 q 4 (.alloc (List.replicate 4 (.int .u64 0))) <|
 q 5 (.mv (.c (.nilIface))) <|
 .keep [0, 3, 4] <|
 .reg 2
 [xe 10 (.mv (.t 0)) [],
 xe 11 (.mv (.t 0)) [],
 xe 12 (.load true 4 (.t 3)) [],
 xe 13 (.call F.field_Field_in [(.t 11), (.t 12)]) [],
 xe 14 (.build (List.replicate 4 (.int .u64 0)) [(0, 1, (.c (.int .u64 1)))]) [],
 xe 15 (.build (List.replicate 8 (.int .u64 0)) [(0, 4, (.t 13)), (4, 4, (.t 14))]) [],
 xe 16 (.call F.field_Field_odd [(.t 10), (.t 15)]) [],
 xe 17 (.mv (.t 0)) [],
 xe 18 (.nilchk (.t 17)) [],
 xe 19 (.fld 0 (.t 18)) [],
 xe 20 (.load true 4 (.t 19)) [],
 xe 21 (.build (List.replicate 4 (.int .u64 0)) []) [],
 xe 22 (.build (List.replicate 8 (.int .u64 0)) [(0, 4, (.t 20)), (4, 4, (.t 21))]) [],
 xa 0 6 (.alloc (List.replicate 8 (.int .u64 0))),
 xa 1 7 (.alloc (List.replicate 8 (.int .u64 0))),
 xmn (.store 8 (.t 6) (.t 16)) [],
 xln (.store 8 (.t 7) (.t 22)) []] <|
 .keep [0, 4, 6, 7] <|
 .block 0
 (.keep [0, 4, 6, 7] <|
 .loop
 (q 23 (.fld 0 (.t 6)) <|
 q 24 (.load true 4 (.t 23)) <|
 q 25 (.build (List.replicate 4 (.int .u64 0)) []) <|
 q 26 (.eqagg (List.replicate 4 (some .u64)) true (.t 24) (.t 25)) <|
 .keep [0, 4, 6, 7, 26] <|
 .ite (.t 26)
 (.done)
 (.exit 0) <|
 .block 1
 (q 27 (.fld 0 (.t 6)) <|
 q 28 (.load true 4 (.t 27)) <|
 q 29 (.fld 0 (.t 7)) <|
 q 30 (.load true 4 (.t 29)) <|
 q 31 (.call F.limb_Cmp [(.t 28), (.t 30)]) <|
 q 32 (.bin .lss (.t 31) (ci 0)) <|
 .keep [0, 4, 6, 7, 32] <|
 .ite (.t 32)
 (q 33 (.load true 8 (.t 7)) <|
 q 34 (.load true 8 (.t 6)) <|
 qn (.store 8 (.t 6) (.t 33)) <|
 qn (.store 8 (.t 7) (.t 34)) <|
 .keep [0, 4, 6, 7] <|
 .done)
 (.done) <|
 q 36 (.fld 0 (.t 6)) <|
 q 37 (.load true 4 (.t 36)) <|
 q 38 (.fld 0 (.t 7)) <|
 q 39 (.load true 4 (.t 38)) <|
 q 40 (.call F.limb_Sub [(.t 37), (.t 39)]) <|
 q 35 (.mv (.t 40)) <|
 q 41 (.ext (.t 35) 0) <|
 q 42 (.ext (.t 35) 1) <|
 q 8 (.alloc (List.replicate 4 (.int .u64 0))) <|
 qn (.store 4 (.t 8) (.t 41)) <|
 q 9 (.mv (.t 42)) <|
 .keep [0, 4, 6, 7, 8] <|
 q 43 (.mv (.t 0)) <|
 q 44 (.load true 4 (.t 8)) <|
 q 45 (.mv (.t 0)) <|
 q 46 (.fld 4 (.t 6)) <|
 q 47 (.load true 4 (.t 46)) <|
 q 48 (.fld 4 (.t 7)) <|
 q 49 (.load true 4 (.t 48)) <|
 q 50 (.call F.field_Field_Sub [(.t 45), (.t 47), (.t 49)]) <|
 q 51 (.build (List.replicate 8 (.int .u64 0)) [(0, 4, (.t 44)), (4, 4, (.t 50))]) <|
 q 52 (.call F.field_Field_odd [(.t 43), (.t 51)]) <|
 qn (.store 8 (.t 6) (.t 52)) <|
 .keep [0, 4, 6, 7] <|
 .done) <|
 .keep [0, 4, 6, 7] <|
 .done)) <|
 q 53 (.fld 0 (.t 7)) <|
 q 54 (.load true 4 (.t 53)) <|
 q 55 (.build (List.replicate 4 (.int .u64 0)) [(0, 1, (.c (.int .u64 1)))]) <|
 q 56 (.eqagg (List.replicate 4 (some .u64)) true (.t 54) (.t 55)) <|
 .keep [4, 7, 56] <|
 .ite (.t 56)
 (q 57 (.build (List.replicate 4 (.int .u64 0)) []) <|
 q 58 (.mkif T.api_Code (ci 4)) <|
 qn (.store 4 (.t 4) (.t 57)) <|
 q 5 (.mv (.t 58)) <|
 .keep [4, 5] <|
 .ret)
 (.done) <|
 q 59 (.fld 4 (.t 7)) <|
 q 60 (.load true 4 (.t 59)) <|
 qn (.store 4 (.t 4) (.t 60)) <|
 q 5 (.mv (.c (.nilIface))) <|
 .keep [4, 5] <|
 .ret
theorem e_field_Field_Inv:EF false F.field_Field_Inv ic_field_Field_Inv [.c 4 true 4,.t 5]:=ef [] Tryz.func74 (by kernel_rfl) (by kernel_rfl) (by kernel_rfl)
def ic_field_Field_Mul : IC :=
 q 4 (.box (.t 1)) <|
 q 5 (.box (.t 2)) <|
 q 6 (.alloc (List.replicate 4 (.int .u64 0))) <|
 .keep [0, 4, 5, 6] <|
 q 7 (.mv (.t 0)) <|
 q 8 (.mv (.t 0)) <|
 q 9 (.mv (.t 0)) <|
 q 10 (.load true 4 (.t 4)) <|
 q 11 (.call F.field_Field_in [(.t 9), (.t 10)]) <|
 q 12 (.mv (.t 0)) <|
 q 13 (.load true 4 (.t 5)) <|
 q 14 (.call F.field_Field_in [(.t 12), (.t 13)]) <|
 q 15 (.call F.field_Field_mont [(.t 8), (.t 11), (.t 14)]) <|
 q 16 (.mv (.t 0)) <|
 q 17 (.nilchk (.t 16)) <|
 q 18 (.fld 9 (.t 17)) <|
 q 19 (.load true 4 (.t 18)) <|
 q 20 (.call F.field_Field_mont [(.t 7), (.t 15), (.t 19)]) <|
 qn (.store 4 (.t 6) (.t 20)) <|
 .keep [6] <|
 .ret
theorem e_field_Field_Mul:EF false F.field_Field_Mul ic_field_Field_Mul [.c 6 true 4]:=ef [] Tryz.func76 (by kernel_rfl) (by kernel_rfl) (by kernel_rfl)
def ic_field_Field_Add : IC :=
 q 4 (.box (.t 1)) <|
 q 5 (.box (.t 2)) <|
 q 6 (.alloc (List.replicate 4 (.int .u64 0))) <|
 .keep [0, 4, 5, 6] <|
 .reg 1
 [xe 10 (.mv (.t 0)) [],
 xe 11 (.load true 4 (.t 4)) [],
 xe 12 (.call F.field_Field_in [(.t 10), (.t 11)]) [],
 xe 13 (.mv (.t 0)) [],
 xe 14 (.load true 4 (.t 5)) [],
 xe 15 (.call F.field_Field_in [(.t 13), (.t 14)]) [],
 xe 16 (.call F.limb_Add [(.t 12), (.t 15)]) [],
 xe 9 (.mv (.t 16)) [],
 xe 17 (.ext (.t 9) 0) [],
 xe 18 (.ext (.t 9) 1) [],
 xa 0 7 (.alloc (List.replicate 4 (.int .u64 0))),
 xln (.store 4 (.t 7) (.t 17)) [],
 xl 8 (.mv (.t 18)) []] <|
 .keep [0, 6, 7, 8] <|
 q 19 (.mv (.t 0)) <|
 q 20 (.load true 4 (.t 7)) <|
 q 21 (.mv (.t 8)) <|
 q 22 (.call F.field_Field_less [(.t 19), (.t 20), (.t 21)]) <|
 qn (.store 4 (.t 6) (.t 22)) <|
 .keep [6] <|
 .ret
theorem e_field_Field_Add:EF false F.field_Field_Add ic_field_Field_Add [.c 6 true 4]:=ef [] Tryz.func80 (by kernel_rfl) (by kernel_rfl) (by kernel_rfl)
def ic_field_Field_Cut : IC :=
 q 3 (.box (.t 1)) <|
 q 4 (.alloc (List.replicate 4 (.int .u64 0))) <|
 .keep [0, 3, 4] <|
 q 5 (.alloc (List.replicate 4 (.int .u64 0))) <|
 .keep [0, 3, 4, 5] <|
 q 6 (.mv (ci 511)) <|
 .keep [0, 3, 4, 5, 6] <|
 .block 0
 (.keep [0, 3, 4, 5, 6] <|
 .loop
 (q 9 (.mv (.t 6)) <|
 q 10 (.bin .geq (.t 9) (ci 0)) <|
 .keep [0, 3, 4, 5, 6, 10] <|
 .ite (.t 10)
 (.done)
 (.exit 0) <|
 .block 1
 (q 14 (.load true 4 (.t 5)) <|
 q 15 (.load true 4 (.t 5)) <|
 q 16 (.call F.limb_Add [(.t 14), (.t 15)]) <|
 q 13 (.mv (.t 16)) <|
 q 17 (.ext (.t 13) 0) <|
 q 18 (.ext (.t 13) 1) <|
 q 7 (.alloc (List.replicate 4 (.int .u64 0))) <|
 qn (.store 4 (.t 7) (.t 17)) <|
 q 8 (.mv (.t 18)) <|
 .keep [0, 3, 4, 5, 6, 7, 8] <|
 q 19 (.idxa 1 (some 4) (.t 7) (ci 0)) <|
 q 20 (.load false 1 (.t 19)) <|
 q 21 (.mv (.t 6)) <|
 q 22 (.bin .quo (.t 21) (ci 64)) <|
 q 23 (.idxa 1 (some 8) (.t 3) (.t 22)) <|
 q 24 (.load false 1 (.t 23)) <|
 q 25 (.mv (.t 6)) <|
 q 26 (.bin .rem (.t 25) (ci 64)) <|
 q 27 (.bin .shr (.t 24) (.t 26)) <|
 q 28 (.bin .and (.t 27) (.c (.int .u64 1))) <|
 q 29 (.bin .or (.t 20) (.t 28)) <|
 q 30 (.idxa 1 (some 4) (.t 7) (ci 0)) <|
 qn (.store 1 (.t 30) (.t 29)) <|
 .keep [0, 3, 4, 5, 6, 7, 8] <|
 q 31 (.mv (.t 0)) <|
 q 32 (.load true 4 (.t 7)) <|
 q 33 (.mv (.t 8)) <|
 q 34 (.call F.field_Field_less [(.t 31), (.t 32), (.t 33)]) <|
 qn (.store 4 (.t 5) (.t 34)) <|
 .keep [0, 3, 4, 5, 6] <|
 .done) <|
 q 11 (.mv (.t 6)) <|
 q 12 (.bin .sub (.t 11) (ci 1)) <|
 q 6 (.mv (.t 12)) <|
 .keep [0, 3, 4, 5, 6] <|
 .keep [0, 3, 4, 5, 6] <|
 .done)) <|
 q 35 (.load true 4 (.t 5)) <|
 qn (.store 4 (.t 4) (.t 35)) <|
 .keep [4] <|
 .ret
theorem e_field_Field_Cut:EF false F.field_Field_Cut ic_field_Field_Cut [.c 4 true 4]:=ef [] Tryz.func92 (by kernel_rfl) (by kernel_rfl) (by kernel_rfl)
def ic_field_Field_odd : IC :=
 q 3 (.box (.t 1)) <|
 q 4 (.alloc (List.replicate 8 (.int .u64 0))) <|
 .keep [0, 3, 4] <|
 .block 0
 (.keep [0, 3, 4] <|
 .loop
 (q 5 (.fld 0 (.t 3)) <|
 q 6 (.load true 4 (.t 5)) <|
 q 7 (.build (List.replicate 4 (.int .u64 0)) []) <|
 q 8 (.eqagg (List.replicate 4 (some .u64)) true (.t 6) (.t 7)) <|
 q 9 (.mv (.t 8)) <|
 qg 10 9 true (.fld 0 (.t 3)) <|
 qg 11 9 true (.idxa 1 (some 4) (.t 10) (ci 0)) <|
 qg 12 9 true (.load false 1 (.t 11)) <|
 qg 13 9 true (.bin .and (.t 12) (.c (.int .u64 1))) <|
 qg 14 9 true (.bin .eql (.t 13) (.c (.int .u64 0))) <|
 q 15 (.pick (.t 9) (.t 14) (cb false)) <|
 .keep [0, 3, 4, 15] <|
 .ite (.t 15)
 (.done)
 (.exit 0) <|
 .block 1
 (q 16 (.fld 0 (.t 3)) <|
 q 17 (.load true 4 (.t 16)) <|
 q 18 (.call F.limb_Half [(.t 17)]) <|
 q 19 (.mv (.t 0)) <|
 q 20 (.fld 4 (.t 3)) <|
 q 21 (.load true 4 (.t 20)) <|
 q 22 (.call F.field_Field_half [(.t 19), (.t 21)]) <|
 q 23 (.fld 0 (.t 3)) <|
 qn (.store 4 (.t 23) (.t 18)) <|
 q 24 (.fld 4 (.t 3)) <|
 qn (.store 4 (.t 24) (.t 22)) <|
 .keep [0, 3, 4] <|
 .done) <|
 .keep [0, 3, 4] <|
 .done)) <|
 q 25 (.load true 8 (.t 3)) <|
 qn (.store 8 (.t 4) (.t 25)) <|
 .keep [4] <|
 .ret
theorem e_field_Field_odd:EF false F.field_Field_odd ic_field_Field_odd [.c 4 true 8]:=ef [] Tryz.func97 (by kernel_rfl) (by kernel_rfl) (by kernel_rfl)
def ic_field_Field_in : IC :=
 q 3 (.box (.t 1)) <|
 q 4 (.alloc (List.replicate 4 (.int .u64 0))) <|
 .keep [0, 3, 4] <|
 q 5 (.load true 4 (.t 3)) <|
 q 6 (.mv (.t 0)) <|
 q 7 (.nilchk (.t 6)) <|
 q 8 (.fld 0 (.t 7)) <|
 q 9 (.load true 4 (.t 8)) <|
 q 10 (.call F.limb_Cmp [(.t 5), (.t 9)]) <|
 q 11 (.bin .lss (.t 10) (ci 0)) <|
 .keep [0, 3, 4, 11] <|
 .ite (.t 11)
 (q 12 (.load true 4 (.t 3)) <|
 qn (.store 4 (.t 4) (.t 12)) <|
 .keep [4] <|
 .ret)
 (.done) <|
 q 13 (.mv (.t 0)) <|
 q 14 (.idxa 1 (some 4) (.t 3) (ci 0)) <|
 q 15 (.load false 1 (.t 14)) <|
 q 16 (.idxa 1 (some 4) (.t 3) (ci 1)) <|
 q 17 (.load false 1 (.t 16)) <|
 q 18 (.idxa 1 (some 4) (.t 3) (ci 2)) <|
 q 19 (.load false 1 (.t 18)) <|
 q 20 (.idxa 1 (some 4) (.t 3) (ci 3)) <|
 q 21 (.load false 1 (.t 20)) <|
 q 22 (.build (List.replicate 8 (.int .u64 0)) [(0, 1, (.t 15)), (1, 1, (.t 17)), (2, 1, (.t 19)), (3, 1, (.t 21))]) <|
 q 23 (.call F.field_Field_Cut [(.t 13), (.t 22)]) <|
 qn (.store 4 (.t 4) (.t 23)) <|
 .keep [4] <|
 .ret
theorem e_field_Field_in:EF false F.field_Field_in ic_field_Field_in [.c 4 true 4]:=ef [] Tryz.func98 (by kernel_rfl) (by kernel_rfl) (by kernel_rfl)
def ic_field_Field_Sub : IC :=
 q 4 (.box (.t 1)) <|
 q 5 (.box (.t 2)) <|
 q 6 (.alloc (List.replicate 4 (.int .u64 0))) <|
 .keep [0, 4, 5, 6] <|
 .reg 1
 [xe 10 (.mv (.t 0)) [],
 xe 11 (.load true 4 (.t 4)) [],
 xe 12 (.call F.field_Field_in [(.t 10), (.t 11)]) [],
 xe 13 (.mv (.t 0)) [],
 xe 14 (.load true 4 (.t 5)) [],
 xe 15 (.call F.field_Field_in [(.t 13), (.t 14)]) [],
 xe 16 (.call F.limb_Sub [(.t 12), (.t 15)]) [],
 xe 9 (.mv (.t 16)) [],
 xe 17 (.ext (.t 9) 0) [],
 xe 18 (.ext (.t 9) 1) [],
 xa 0 7 (.alloc (List.replicate 4 (.int .u64 0))),
 xln (.store 4 (.t 7) (.t 17)) [],
 xl 8 (.mv (.t 18)) []] <|
 .keep [0, 6, 7, 8] <|
 q 19 (.mv (.t 8)) <|
 .keep [0, 6, 7, 19] <|
 .ite (.t 19)
 (q 21 (.load true 4 (.t 7)) <|
 q 22 (.mv (.t 0)) <|
 q 23 (.nilchk (.t 22)) <|
 q 24 (.fld 0 (.t 23)) <|
 q 25 (.load true 4 (.t 24)) <|
 q 26 (.call F.limb_Add [(.t 21), (.t 25)]) <|
 q 20 (.mv (.t 26)) <|
 q 27 (.ext (.t 20) 0) <|
 q 28 (.ext (.t 20) 1) <|
 qn (.store 4 (.t 7) (.t 27)) <|
 .keep [6, 7] <|
 .done)
 (.done) <|
 q 29 (.load true 4 (.t 7)) <|
 qn (.store 4 (.t 6) (.t 29)) <|
 .keep [6] <|
 .ret
theorem e_field_Field_Sub:EF false F.field_Field_Sub ic_field_Field_Sub [.c 6 true 4]:=ef [] Tryz.func100 (by kernel_rfl) (by kernel_rfl) (by kernel_rfl)
def ic_field_Field_mont : IC :=
 q 4 (.box (.t 1)) <|
 q 5 (.box (.t 2)) <|
 q 6 (.alloc (List.replicate 4 (.int .u64 0))) <|
 .keep [0, 4, 5, 6] <|
 q 7 (.alloc (List.replicate 6 (.int .u64 0))) <|
 .keep [0, 4, 5, 6, 7] <|
 q 16 (.load true 4 (.t 5)) <|
 q 17 (.mv (ci 0)) <|
 .keep [0, 4, 6, 7, 16, 17] <|
 .block 0
 (.keep [0, 4, 6, 7, 16, 17] <|
 .loop
 (q 18 (.bin .lss (.t 17) (ci 4)) <|
 .keep [0, 4, 6, 7, 16, 17, 18] <|
 .ite (.t 18)
 (.done)
 (.exit 0) <|
 .block 1
 (q 19 (.idx false 1 4 (.t 16) (.t 17)) <|
 q 9 (.mv (.t 19)) <|
 .keep [0, 4, 6, 7, 9, 16, 17] <|
 q 10 (.mv (.c (.int .u64 0))) <|
 q 11 (.mv (.c (.int .u64 0))) <|
 .keep [0, 4, 6, 7, 9, 10, 16, 17] <|
 q 20 (.load true 4 (.t 4)) <|
 q 21 (.mv (ci 0)) <|
 .keep [0, 4, 6, 7, 9, 10, 16, 17, 20, 21] <|
 .block 2
 (.keep [0, 4, 6, 7, 9, 10, 16, 17, 20, 21] <|
 .loop
 (q 22 (.bin .lss (.t 21) (ci 4)) <|
 .keep [0, 4, 6, 7, 9, 10, 16, 17, 20, 21, 22] <|
 .ite (.t 22)
 (.done)
 (.exit 2) <|
 .block 3
 (q 23 (.mv (.t 21)) <|
 q 24 (.idx false 1 4 (.t 20) (.t 21)) <|
 q 12 (.mv (.t 23)) <|
 q 13 (.mv (.t 24)) <|
 .keep [0, 4, 6, 7, 9, 10, 12, 13, 16, 17, 20, 21] <|
 q 26 (.mv (.t 12)) <|
 q 27 (.mv (.t 13)) <|
 q 28 (.mv (.t 9)) <|
 q 29 (.mv (.t 12)) <|
 q 30 (.idxa 1 (some 6) (.t 7) (.t 29)) <|
 q 31 (.load false 1 (.t 30)) <|
 q 32 (.mv (.t 10)) <|
 q 33 (.call F.field_step [(.t 27), (.t 28), (.t 31), (.t 32)]) <|
 q 25 (.mv (.t 33)) <|
 q 34 (.ext (.t 25) 0) <|
 q 35 (.ext (.t 25) 1) <|
 q 36 (.idxa 1 (some 6) (.t 7) (.t 26)) <|
 qn (.store 1 (.t 36) (.t 34)) <|
 q 10 (.mv (.t 35)) <|
 .keep [0, 4, 6, 7, 9, 10, 16, 17, 20, 21] <|
 .done) <|
 q 37 (.bin .add (.t 21) (ci 1)) <|
 q 21 (.mv (.t 37)) <|
 .keep [0, 4, 6, 7, 9, 10, 16, 17, 20, 21] <|
 .keep [0, 4, 6, 7, 9, 10, 16, 17, 20, 21] <|
 .done)) <|
 q 39 (.idxa 1 (some 6) (.t 7) (ci 4)) <|
 q 40 (.load false 1 (.t 39)) <|
 q 41 (.mv (.t 10)) <|
 q 42 (.carry false (.t 40) (.t 41) (.c (.int .u64 0))) <|
 q 38 (.mv (.t 42)) <|
 q 43 (.ext (.t 38) 0) <|
 q 44 (.ext (.t 38) 1) <|
 q 45 (.idxa 1 (some 6) (.t 7) (ci 4)) <|
 qn (.store 1 (.t 45) (.t 43)) <|
 q 46 (.idxa 1 (some 6) (.t 7) (ci 5)) <|
 qn (.store 1 (.t 46) (.t 44)) <|
 .keep [0, 4, 6, 7, 16, 17] <|
 q 47 (.idxa 1 (some 6) (.t 7) (ci 0)) <|
 q 48 (.load false 1 (.t 47)) <|
 q 49 (.mv (.t 0)) <|
 q 50 (.nilchk (.t 49)) <|
 q 51 (.fld 4 (.t 50)) <|
 q 52 (.load false 1 (.t 51)) <|
 q 53 (.bin .mul (.t 48) (.t 52)) <|
 q 14 (.mv (.t 53)) <|
 .keep [0, 4, 6, 7, 14, 16, 17] <|
 q 55 (.mv (.t 14)) <|
 q 56 (.mv (.t 0)) <|
 q 57 (.nilchk (.t 56)) <|
 q 58 (.fld 0 (.t 57)) <|
 q 59 (.idxa 1 (some 4) (.t 58) (ci 0)) <|
 q 60 (.load false 1 (.t 59)) <|
 q 61 (.idxa 1 (some 6) (.t 7) (ci 0)) <|
 q 62 (.load false 1 (.t 61)) <|
 q 63 (.call F.field_step [(.t 55), (.t 60), (.t 62), (.c (.int .u64 0))]) <|
 q 54 (.mv (.t 63)) <|
 q 64 (.ext (.t 54) 0) <|
 q 65 (.ext (.t 54) 1) <|
 q 10 (.mv (.t 65)) <|
 .keep [0, 4, 6, 7, 10, 14, 16, 17] <|
 q 15 (.mv (ci 1)) <|
 .keep [0, 4, 6, 7, 10, 14, 15, 16, 17] <|
 .block 4
 (.keep [0, 4, 6, 7, 10, 14, 15, 16, 17] <|
 .loop
 (q 66 (.mv (.t 15)) <|
 q 67 (.bin .lss (.t 66) (ci 4)) <|
 .keep [0, 4, 6, 7, 10, 14, 15, 16, 17, 67] <|
 .ite (.t 67)
 (.done)
 (.exit 4) <|
 .block 5
 (q 71 (.mv (.t 15)) <|
 q 72 (.bin .sub (.t 71) (ci 1)) <|
 q 73 (.mv (.t 14)) <|
 q 74 (.mv (.t 0)) <|
 q 75 (.mv (.t 15)) <|
 q 76 (.nilchk (.t 74)) <|
 q 77 (.fld 0 (.t 76)) <|
 q 78 (.idxa 1 (some 4) (.t 77) (.t 75)) <|
 q 79 (.load false 1 (.t 78)) <|
 q 80 (.mv (.t 15)) <|
 q 81 (.idxa 1 (some 6) (.t 7) (.t 80)) <|
 q 82 (.load false 1 (.t 81)) <|
 q 83 (.mv (.t 10)) <|
 q 84 (.call F.field_step [(.t 73), (.t 79), (.t 82), (.t 83)]) <|
 q 70 (.mv (.t 84)) <|
 q 85 (.ext (.t 70) 0) <|
 q 86 (.ext (.t 70) 1) <|
 q 87 (.idxa 1 (some 6) (.t 7) (.t 72)) <|
 qn (.store 1 (.t 87) (.t 85)) <|
 q 10 (.mv (.t 86)) <|
 .keep [0, 4, 6, 7, 10, 14, 15, 16, 17] <|
 .done) <|
 q 68 (.mv (.t 15)) <|
 q 69 (.bin .add (.t 68) (ci 1)) <|
 q 15 (.mv (.t 69)) <|
 .keep [0, 4, 6, 7, 10, 14, 15, 16, 17] <|
 .keep [0, 4, 6, 7, 10, 14, 15, 16, 17] <|
 .done)) <|
 q 89 (.idxa 1 (some 6) (.t 7) (ci 4)) <|
 q 90 (.load false 1 (.t 89)) <|
 q 91 (.mv (.t 10)) <|
 q 92 (.carry false (.t 90) (.t 91) (.c (.int .u64 0))) <|
 q 88 (.mv (.t 92)) <|
 q 93 (.ext (.t 88) 0) <|
 q 94 (.ext (.t 88) 1) <|
 q 95 (.idxa 1 (some 6) (.t 7) (ci 3)) <|
 qn (.store 1 (.t 95) (.t 93)) <|
 q 11 (.mv (.t 94)) <|
 .keep [0, 4, 6, 7, 11, 16, 17] <|
 q 96 (.idxa 1 (some 6) (.t 7) (ci 5)) <|
 q 97 (.load false 1 (.t 96)) <|
 q 98 (.mv (.t 11)) <|
 q 99 (.bin .add (.t 97) (.t 98)) <|
 q 100 (.idxa 1 (some 6) (.t 7) (ci 4)) <|
 qn (.store 1 (.t 100) (.t 99)) <|
 .keep [0, 4, 6, 7, 16, 17] <|
 .done) <|
 q 101 (.bin .add (.t 17) (ci 1)) <|
 q 17 (.mv (.t 101)) <|
 .keep [0, 4, 6, 7, 16, 17] <|
 .keep [0, 4, 6, 7, 16, 17] <|
 .done)) <|
 q 102 (.mv (.t 0)) <|
 q 103 (.idxa 1 (some 6) (.t 7) (ci 0)) <|
 q 104 (.load false 1 (.t 103)) <|
 q 105 (.idxa 1 (some 6) (.t 7) (ci 1)) <|
 q 106 (.load false 1 (.t 105)) <|
 q 107 (.idxa 1 (some 6) (.t 7) (ci 2)) <|
 q 108 (.load false 1 (.t 107)) <|
 q 109 (.idxa 1 (some 6) (.t 7) (ci 3)) <|
 q 110 (.load false 1 (.t 109)) <|
 q 111 (.build (List.replicate 4 (.int .u64 0)) [(0, 1, (.t 104)), (1, 1, (.t 106)), (2, 1, (.t 108)), (3, 1, (.t 110))]) <|
 q 112 (.idxa 1 (some 6) (.t 7) (ci 4)) <|
 q 113 (.load false 1 (.t 112)) <|
 q 114 (.bin .gtr (.t 113) (.c (.int .u64 0))) <|
 q 115 (.call F.field_Field_less [(.t 102), (.t 111), (.t 114)]) <|
 qn (.store 4 (.t 6) (.t 115)) <|
 .keep [6] <|
 .ret
theorem e_field_Field_mont:EF false F.field_Field_mont ic_field_Field_mont [.c 6 true 4]:=ef [] Tryz.func106 (by kernel_rfl) (by kernel_rfl) (by kernel_rfl)
def ic_field_Field_less : IC :=
 q 4 (.box (.t 1)) <|
 q 6 (.alloc (List.replicate 4 (.int .u64 0))) <|
 .keep [0, 2, 4, 6] <|
 q 7 (.mv (.t 2)) <|
 q 8 (.mv (.t 7)) <|
 qg 9 8 false (.load true 4 (.t 4)) <|
 qg 10 8 false (.mv (.t 0)) <|
 qg 11 8 false (.nilchk (.t 10)) <|
 qg 12 8 false (.fld 0 (.t 11)) <|
 qg 13 8 false (.load true 4 (.t 12)) <|
 qg 14 8 false (.call F.limb_Cmp [(.t 9), (.t 13)]) <|
 qg 15 8 false (.bin .geq (.t 14) (ci 0)) <|
 q 16 (.pick (.t 8) (cb true) (.t 15)) <|
 .keep [0, 4, 6, 16] <|
 .ite (.t 16)
 (q 18 (.load true 4 (.t 4)) <|
 q 19 (.mv (.t 0)) <|
 q 20 (.nilchk (.t 19)) <|
 q 21 (.fld 0 (.t 20)) <|
 q 22 (.load true 4 (.t 21)) <|
 q 23 (.call F.limb_Sub [(.t 18), (.t 22)]) <|
 q 17 (.mv (.t 23)) <|
 q 24 (.ext (.t 17) 0) <|
 q 25 (.ext (.t 17) 1) <|
 qn (.store 4 (.t 4) (.t 24)) <|
 .keep [4, 6] <|
 .done)
 (.done) <|
 q 26 (.load true 4 (.t 4)) <|
 qn (.store 4 (.t 6) (.t 26)) <|
 .keep [6] <|
 .ret
theorem e_field_Field_less:EF false F.field_Field_less ic_field_Field_less [.c 6 true 4]:=ef [] Tryz.func108 (by kernel_rfl) (by kernel_rfl) (by kernel_rfl)
def ic_field_Field_half : IC :=
 q 3 (.box (.t 1)) <|
 q 4 (.alloc (List.replicate 4 (.int .u64 0))) <|
 .keep [0, 3, 4] <|
 q 7 (.idxa 1 (some 4) (.t 3) (ci 0)) <|
 q 8 (.load false 1 (.t 7)) <|
 q 9 (.bin .and (.t 8) (.c (.int .u64 1))) <|
 q 10 (.bin .eql (.t 9) (.c (.int .u64 0))) <|
 .keep [0, 3, 4, 10] <|
 .ite (.t 10)
 (q 11 (.load true 4 (.t 3)) <|
 q 12 (.call F.limb_Half [(.t 11)]) <|
 qn (.store 4 (.t 4) (.t 12)) <|
 .keep [4] <|
 .ret)
 (.done) <|
 .reg 1
 [xe 14 (.load true 4 (.t 3)) [],
 xe 15 (.mv (.t 0)) [],
 xe 16 (.nilchk (.t 15)) [],
 xe 17 (.fld 0 (.t 16)) [],
 xe 18 (.load true 4 (.t 17)) [],
 xe 19 (.call F.limb_Add [(.t 14), (.t 18)]) [],
 xe 13 (.mv (.t 19)) [],
 xe 20 (.ext (.t 13) 0) [],
 xe 21 (.ext (.t 13) 1) [],
 xa 0 5 (.alloc (List.replicate 4 (.int .u64 0))),
 xln (.store 4 (.t 5) (.t 20)) [],
 xl 6 (.mv (.t 21)) []] <|
 .keep [4, 5, 6] <|
 q 22 (.load true 4 (.t 5)) <|
 q 23 (.call F.limb_Half [(.t 22)]) <|
 qn (.store 4 (.t 5) (.t 23)) <|
 .keep [4, 5, 6] <|
 q 24 (.mv (.t 6)) <|
 .keep [4, 5, 24] <|
 .ite (.t 24)
 (q 25 (.idxa 1 (some 4) (.t 5) (ci 3)) <|
 q 26 (.load false 1 (.t 25)) <|
 q 27 (.bin .or (.t 26) (.c (.int .u64 9223372036854775808))) <|
 q 28 (.idxa 1 (some 4) (.t 5) (ci 3)) <|
 qn (.store 1 (.t 28) (.t 27)) <|
 .keep [4, 5] <|
 .done)
 (.done) <|
 q 29 (.load true 4 (.t 5)) <|
 qn (.store 4 (.t 4) (.t 29)) <|
 .keep [4] <|
 .ret
theorem e_field_Field_half:EF false F.field_Field_half ic_field_Field_half [.c 4 true 4]:=ef [] Tryz.func123 (by kernel_rfl) (by kernel_rfl) (by kernel_rfl)
def ic_field_step : IC :=
 q 8 (.mv (.c (.int .u64 0))) <|
 q 9 (.mv (.c (.int .u64 0))) <|
 .keep [0, 1, 2, 3] <|
 q 14 (.mv (.t 0)) <|
 q 15 (.mv (.t 1)) <|
 q 16 (.call F.math_bits_Mul64 [(.t 14), (.t 15)]) <|
 q 13 (.mv (.t 16)) <|
 q 17 (.ext (.t 13) 0) <|
 q 18 (.ext (.t 13) 1) <|
 q 10 (.mv (.t 17)) <|
 q 11 (.mv (.t 18)) <|
 .keep [2, 3, 10, 11] <|
 q 20 (.mv (.t 11)) <|
 q 21 (.mv (.t 2)) <|
 q 22 (.carry false (.t 20) (.t 21) (.c (.int .u64 0))) <|
 q 19 (.mv (.t 22)) <|
 q 23 (.ext (.t 19) 0) <|
 q 24 (.ext (.t 19) 1) <|
 q 11 (.mv (.t 23)) <|
 q 12 (.mv (.t 24)) <|
 .keep [3, 10, 11, 12] <|
 q 25 (.mv (.t 10)) <|
 q 26 (.mv (.t 12)) <|
 q 27 (.bin .add (.t 25) (.t 26)) <|
 q 10 (.mv (.t 27)) <|
 .keep [3, 10, 11] <|
 q 29 (.mv (.t 11)) <|
 q 30 (.mv (.t 3)) <|
 q 31 (.carry false (.t 29) (.t 30) (.c (.int .u64 0))) <|
 q 28 (.mv (.t 31)) <|
 q 32 (.ext (.t 28) 0) <|
 q 33 (.ext (.t 28) 1) <|
 q 11 (.mv (.t 32)) <|
 q 12 (.mv (.t 33)) <|
 .keep [10, 11, 12] <|
 q 34 (.mv (.t 11)) <|
 q 35 (.mv (.t 10)) <|
 q 36 (.mv (.t 12)) <|
 q 37 (.bin .add (.t 35) (.t 36)) <|
 q 8 (.mv (.t 34)) <|
 q 9 (.mv (.t 37)) <|
 .keep [8, 9] <|
 .ret
theorem e_field_step:EF false F.field_step ic_field_step [.t 8,.t 9]:=ef [] Tryz.func126 (by kernel_rfl) (by kernel_rfl) (by kernel_rfl)
set_option maxRecDepth 20000
def ic_point_N : IC :=
 q 0 (.alloc (List.replicate 4 (.int .u64 0))) <|
 .keep [0] <|
 q 1 (.build (List.replicate 4 (.int .u64 0)) [(0, 1, (.c (.int .u64 17562291160714782033))), (1, 1, (.c (.int .u64 13611842547513532036))), (2, 1, (.c (.int .u64 18446744073709551615))), (3, 1, (.c (.int .u64 18446744069414584320)))]) <|
 qn (.store 4 (.t 0) (.t 1)) <|
 .keep [0] <|
 .ret
theorem e_point_N:EF false F.point_N ic_point_N [.c 0 true 4]:=ef [] Tryz.func71 (by kernel_rfl) (by kernel_rfl) (by kernel_rfl)
def ic_point_On : IC :=
 q 1 (.box (.t 0)) <|
 q 2 (.mv (cb false)) <|
 .keep [1] <|
 .reg 0
 [xm 3 (.call F.point_of []) [],
 xe 4 (.load true 9 (.t 1)) [],
 xl 5 (.call F.point_curve_on [(.t 3), (.t 4)]) [],
 xl 2 (.mv (.t 5)) []] <|
 .keep [2] <|
 .ret
theorem e_point_On:EF false F.point_On ic_point_On [.t 2]:=ef [] Tryz.func72 (by kernel_rfl) (by kernel_rfl) (by kernel_rfl)
def ic_point_Mul : IC :=
 q 2 (.box (.t 0)) <|
 q 3 (.box (.t 1)) <|
 q 4 (.alloc [.int .u64 0, .int .u64 0, .int .u64 0, .int .u64 0, .int .u64 0, .int .u64 0, .int .u64 0, .int .u64 0, .bool false]) <|
 q 5 (.mv (.c (.nilIface))) <|
 .keep [2, 3, 4] <|
 q 10 (.call F.point_of []) <|
 q 6 (.alloc [.pointer none, .nilFunc, .nilFunc, .nilFunc]) <|
 qn (.store 4 (.t 6) (.t 10)) <|
 .keep [2, 3, 4, 6] <|
 q 11 (.load true 4 (.t 6)) <|
 q 12 (.load true 9 (.t 3)) <|
 q 13 (.call F.point_curve_on [(.t 11), (.t 12)]) <|
 q 14 (.un .not (.t 13)) <|
 .keep [2, 3, 4, 6, 14] <|
 .ite (.t 14)
 (q 15 (.build [.int .u64 0, .int .u64 0, .int .u64 0, .int .u64 0, .int .u64 0, .int .u64 0, .int .u64 0, .int .u64 0, .bool false] []) <|
 q 16 (.mkif T.api_Code (ci 1)) <|
 qn (.store 9 (.t 4) (.t 15)) <|
 q 5 (.mv (.t 16)) <|
 .keep [4, 5] <|
 .ret)
 (.done) <|
 q 7 (.alloc (List.replicate 12 (.int .u64 0))) <|
 .keep [2, 3, 4, 6, 7] <|
 q 17 (.load true 9 (.t 3)) <|
 q 18 (.call F.point_lift [(.t 17)]) <|
 q 8 (.alloc (List.replicate 12 (.int .u64 0))) <|
 qn (.store 12 (.t 8) (.t 18)) <|
 .keep [2, 4, 6, 7, 8] <|
 q 19 (.load true 4 (.t 2)) <|
 q 20 (.call F.limb_Len [(.t 19)]) <|
 q 21 (.bin .sub (.t 20) (ci 1)) <|
 q 9 (.mv (.t 21)) <|
 .keep [2, 4, 6, 7, 8, 9] <|
 .block 0
 (.keep [2, 4, 6, 7, 8, 9] <|
 .loop
 (q 22 (.mv (.t 9)) <|
 q 23 (.bin .geq (.t 22) (ci 0)) <|
 .keep [2, 4, 6, 7, 8, 9, 23] <|
 .ite (.t 23)
 (.done)
 (.exit 0) <|
 .block 1
 (q 26 (.load true 4 (.t 6)) <|
 q 27 (.load true 12 (.t 7)) <|
 q 28 (.call F.point_curve_twice [(.t 26), (.t 27)]) <|
 qn (.store 12 (.t 7) (.t 28)) <|
 .keep [2, 4, 6, 7, 8, 9] <|
 q 29 (.load true 4 (.t 2)) <|
 q 30 (.mv (.t 9)) <|
 q 31 (.call F.limb_Bit [(.t 29), (.t 30)]) <|
 .keep [2, 4, 6, 7, 8, 9, 31] <|
 .ite (.t 31)
 (q 32 (.load true 4 (.t 6)) <|
 q 33 (.load true 12 (.t 7)) <|
 q 34 (.load true 12 (.t 8)) <|
 q 35 (.call F.point_curve_sum [(.t 32), (.t 33), (.t 34)]) <|
 qn (.store 12 (.t 7) (.t 35)) <|
 .keep [2, 4, 6, 7, 8, 9] <|
 .done)
 (.done) <|
 .done) <|
 q 24 (.mv (.t 9)) <|
 q 25 (.bin .sub (.t 24) (ci 1)) <|
 q 9 (.mv (.t 25)) <|
 .keep [2, 4, 6, 7, 8, 9] <|
 .keep [2, 4, 6, 7, 8, 9] <|
 .done)) <|
 q 36 (.load true 4 (.t 6)) <|
 q 37 (.load true 12 (.t 7)) <|
 q 38 (.call F.point_curve_flat [(.t 36), (.t 37)]) <|
 qn (.store 9 (.t 4) (.t 38)) <|
 q 5 (.mv (.c (.nilIface))) <|
 .keep [4, 5] <|
 .ret
theorem e_point_Mul:EF false F.point_Mul ic_point_Mul [.c 4 true 9,.t 5]:=ef [] Tryz.func75 (by kernel_rfl) (by kernel_rfl) (by kernel_rfl)
def ic_point_Base : IC :=
 q 0 (.alloc [.int .u64 0, .int .u64 0, .int .u64 0, .int .u64 0, .int .u64 0, .int .u64 0, .int .u64 0, .int .u64 0, .bool false]) <|
 .keep [0] <|
 q 1 (.build (List.replicate 4 (.int .u64 0)) [(0, 1, (.c (.int .u64 17627433388654248598))), (1, 1, (.c (.int .u64 8575836109218198432))), (2, 1, (.c (.int .u64 17923454489921339634))), (3, 1, (.c (.int .u64 7716867327612699207)))]) <|
 q 2 (.build (List.replicate 4 (.int .u64 0)) [(0, 1, (.c (.int .u64 14678990851816772085))), (1, 1, (.c (.int .u64 3156516839386865358))), (2, 1, (.c (.int .u64 10297457778147434006))), (3, 1, (.c (.int .u64 5756518291402817435)))]) <|
 q 3 (.build [.int .u64 0, .int .u64 0, .int .u64 0, .int .u64 0, .int .u64 0, .int .u64 0, .int .u64 0, .int .u64 0, .bool false] [(0, 4, (.t 1)), (4, 4, (.t 2))]) <|
 qn (.store 9 (.t 0) (.t 3)) <|
 .keep [0] <|
 .ret
theorem e_point_Base:EF false F.point_Base ic_point_Base [.c 0 true 9]:=ef [] Tryz.func78 (by kernel_rfl) (by kernel_rfl) (by kernel_rfl)
def ic_point_Add : IC :=
 q 2 (.box (.t 0)) <|
 q 3 (.box (.t 1)) <|
 q 4 (.alloc [.int .u64 0, .int .u64 0, .int .u64 0, .int .u64 0, .int .u64 0, .int .u64 0, .int .u64 0, .int .u64 0, .bool false]) <|
 q 5 (.mv (.c (.nilIface))) <|
 .keep [2, 3, 4] <|
 q 7 (.call F.point_of []) <|
 q 6 (.alloc [.pointer none, .nilFunc, .nilFunc, .nilFunc]) <|
 qn (.store 4 (.t 6) (.t 7)) <|
 .keep [2, 3, 4, 6] <|
 q 8 (.load true 4 (.t 6)) <|
 q 9 (.load true 9 (.t 2)) <|
 q 10 (.call F.point_curve_on [(.t 8), (.t 9)]) <|
 q 11 (.un .not (.t 10)) <|
 q 12 (.mv (.t 11)) <|
 qg 13 12 false (.load true 4 (.t 6)) <|
 qg 14 12 false (.load true 9 (.t 3)) <|
 qg 15 12 false (.call F.point_curve_on [(.t 13), (.t 14)]) <|
 qg 16 12 false (.un .not (.t 15)) <|
 q 17 (.pick (.t 12) (cb true) (.t 16)) <|
 .keep [2, 3, 4, 6, 17] <|
 .ite (.t 17)
 (q 18 (.build [.int .u64 0, .int .u64 0, .int .u64 0, .int .u64 0, .int .u64 0, .int .u64 0, .int .u64 0, .int .u64 0, .bool false] []) <|
 q 19 (.mkif T.api_Code (ci 1)) <|
 qn (.store 9 (.t 4) (.t 18)) <|
 q 5 (.mv (.t 19)) <|
 .keep [4, 5] <|
 .ret)
 (.done) <|
 q 20 (.load true 4 (.t 6)) <|
 q 21 (.load true 4 (.t 6)) <|
 q 22 (.load true 9 (.t 2)) <|
 q 23 (.call F.point_lift [(.t 22)]) <|
 q 24 (.load true 9 (.t 3)) <|
 q 25 (.call F.point_lift [(.t 24)]) <|
 q 26 (.call F.point_curve_sum [(.t 21), (.t 23), (.t 25)]) <|
 q 27 (.call F.point_curve_flat [(.t 20), (.t 26)]) <|
 qn (.store 9 (.t 4) (.t 27)) <|
 q 5 (.mv (.c (.nilIface))) <|
 .keep [4, 5] <|
 .ret
theorem e_point_Add:EF false F.point_Add ic_point_Add [.c 4 true 9,.t 5]:=ef [] Tryz.func79 (by kernel_rfl) (by kernel_rfl) (by kernel_rfl)
def ic_point_of : IC :=
 q 0 (.alloc [.pointer none, .nilFunc, .nilFunc, .nilFunc]) <|
 .keep [0] <|
 q 4 (.call F.point_P []) <|
 q 5 (.call F.field_New [(.t 4)]) <|
 q 3 (.mv (.t 5)) <|
 q 6 (.ext (.t 3) 0) <|
 q 7 (.ext (.t 3) 1) <|
 q 1 (.mv (.t 6)) <|
 q 2 (.mv (.t 7)) <|
 .keep [0, 1, 2] <|
 q 8 (.mv (.t 2)) <|
 q 9 (.eq true .i (.t 8) (.c (.nilIface))) <|
 .keep [0, 1, 9] <|
 .ite (.t 9)
 (q 10 (.build (List.replicate 13 (.int .u64 0)) []) <|
 q 11 (.box (.t 10)) <|
 q 1 (.mv (.t 11)) <|
 .keep [0, 1] <|
 .done)
 (.done) <|
 q 12 (.mv (.t 1)) <|
 q 13 (.mv (.t 1)) <|
 q 14 (.mkfn (.func F.field_Field_Add) [(.t 13)] []) <|
 q 15 (.mv (.t 1)) <|
 q 16 (.mkfn (.func F.field_Field_Sub) [(.t 15)] []) <|
 q 17 (.mv (.t 1)) <|
 q 18 (.mkfn (.func F.field_Field_Mul) [(.t 17)] []) <|
 q 19 (.build [.pointer none, .nilFunc, .nilFunc, .nilFunc] [(0, 1, (.t 12)), (1, 1, (.t 14)), (2, 1, (.t 16)), (3, 1, (.t 18))]) <|
 qn (.store 4 (.t 0) (.t 19)) <|
 .keep [0] <|
 .ret
theorem e_point_of:EF false F.point_of ic_point_of [.c 0 true 4]:=ef [] Tryz.func94 (by kernel_rfl) (by kernel_rfl) (by kernel_rfl)
def ic_point_curve_on : IC :=
 q 2 (.box (.t 0)) <|
 q 3 (.box (.t 1)) <|
 q 4 (.mv (cb false)) <|
 .keep [2, 3] <|
 q 6 (.fld 8 (.t 3)) <|
 q 7 (.load false 1 (.t 6)) <|
 .keep [2, 3, 7] <|
 .ite (.t 7)
 (q 8 (.load true 9 (.t 3)) <|
 q 9 (.build [.int .u64 0, .int .u64 0, .int .u64 0, .int .u64 0, .int .u64 0, .int .u64 0, .int .u64 0, .int .u64 0, .bool false] [(8, 1, (cb true))]) <|
 q 10 (.eqagg [(some .u64), (some .u64), (some .u64), (some .u64), (some .u64), (some .u64), (some .u64), (some .u64), none] false (.t 8) (.t 9)) <|
 q 4 (.mv (.t 10)) <|
 .keep [4] <|
 .ret)
 (.done) <|
 q 11 (.fld 0 (.t 3)) <|
 q 12 (.load true 4 (.t 11)) <|
 q 13 (.call F.point_P []) <|
 q 14 (.call F.limb_Cmp [(.t 12), (.t 13)]) <|
 q 15 (.bin .geq (.t 14) (ci 0)) <|
 q 16 (.mv (.t 15)) <|
 qg 17 16 false (.fld 4 (.t 3)) <|
 qg 18 16 false (.load true 4 (.t 17)) <|
 qg 19 16 false (.call F.point_P []) <|
 qg 20 16 false (.call F.limb_Cmp [(.t 18), (.t 19)]) <|
 qg 21 16 false (.bin .geq (.t 20) (ci 0)) <|
 q 22 (.pick (.t 16) (cb true) (.t 21)) <|
 .keep [2, 3, 22] <|
 .ite (.t 22)
 (q 4 (.mv (cb false)) <|
 .keep [4] <|
 .ret)
 (.done) <|
 .reg 1
 [xe 23 (.fld 1 (.t 2)) [],
 xe 24 (.load false 1 (.t 23)) [],
 xe 25 (.fld 2 (.t 2)) [],
 xe 26 (.load false 1 (.t 25)) [],
 xe 27 (.fld 3 (.t 2)) [],
 xe 28 (.load false 1 (.t 27)) [],
 xe 29 (.load true 4 (.t 2)) [],
 xe 30 (.fld 0 (.t 3)) [],
 xe 31 (.load true 4 (.t 30)) [],
 xe 32 (.call F.point_curve_square [(.t 29), (.t 31)]) [],
 xe 33 (.fld 0 (.t 3)) [],
 xe 34 (.load true 4 (.t 33)) [],
 xe 35 (.callv (.t 28) [(.t 32), (.t 34)]) [],
 xe 36 (.load true 4 (.t 2)) [],
 xe 37 (.fld 0 (.t 3)) [],
 xe 38 (.load true 4 (.t 37)) [],
 xe 39 (.call F.point_curve_times [(.t 36), (.t 38), (.c (.int .u64 3))]) [],
 xe 40 (.callv (.t 26) [(.t 35), (.t 39)]) [],
 xe 41 (.call F.point_b []) [],
 xe 42 (.callv (.t 24) [(.t 40), (.t 41)]) [],
 xa 0 5 (.alloc (List.replicate 4 (.int .u64 0))),
 xln (.store 4 (.t 5) (.t 42)) []] <|
 .keep [2, 3, 5] <|
 q 43 (.load true 4 (.t 2)) <|
 q 44 (.fld 4 (.t 3)) <|
 q 45 (.load true 4 (.t 44)) <|
 q 46 (.call F.point_curve_square [(.t 43), (.t 45)]) <|
 q 47 (.load true 4 (.t 5)) <|
 q 48 (.eqagg (List.replicate 4 (some .u64)) false (.t 46) (.t 47)) <|
 q 4 (.mv (.t 48)) <|
 .keep [4] <|
 .ret
theorem e_point_curve_on:EF true F.point_curve_on ic_point_curve_on [.t 4]:=ef [] Tryz.func95 (by kernel_rfl) (by kernel_rfl) (by kernel_rfl)
def ic_point_lift : IC :=
 q 1 (.box (.t 0)) <|
 q 2 (.alloc (List.replicate 12 (.int .u64 0))) <|
 .keep [1, 2] <|
 q 3 (.fld 8 (.t 1)) <|
 q 4 (.load false 1 (.t 3)) <|
 .keep [1, 2, 4] <|
 .ite (.t 4)
 (q 5 (.build (List.replicate 12 (.int .u64 0)) []) <|
 qn (.store 12 (.t 2) (.t 5)) <|
 .keep [2] <|
 .ret)
 (.done) <|
 q 6 (.fld 0 (.t 1)) <|
 q 7 (.load true 4 (.t 6)) <|
 q 8 (.fld 4 (.t 1)) <|
 q 9 (.load true 4 (.t 8)) <|
 q 10 (.build (List.replicate 4 (.int .u64 0)) [(0, 1, (.c (.int .u64 1)))]) <|
 q 11 (.build (List.replicate 12 (.int .u64 0)) [(0, 4, (.t 7)), (4, 4, (.t 9)), (8, 4, (.t 10))]) <|
 qn (.store 12 (.t 2) (.t 11)) <|
 .keep [2] <|
 .ret
theorem e_point_lift:EF false F.point_lift ic_point_lift [.c 2 true 12]:=ef [] Tryz.func101 (by kernel_rfl) (by kernel_rfl) (by kernel_rfl)
def ic_point_curve_twice : IC :=
 q 2 (.box (.t 0)) <|
 q 3 (.box (.t 1)) <|
 q 4 (.alloc (List.replicate 12 (.int .u64 0))) <|
 .keep [2, 3, 4] <|
 .reg 2
 [xe 12 (.load true 4 (.t 2)) [],
 xe 13 (.fld 8 (.t 3)) [],
 xe 14 (.load true 4 (.t 13)) [],
 xe 15 (.call F.point_curve_square [(.t 12), (.t 14)]) [],
 xe 16 (.load true 4 (.t 2)) [],
 xe 17 (.fld 4 (.t 3)) [],
 xe 18 (.load true 4 (.t 17)) [],
 xe 19 (.call F.point_curve_square [(.t 16), (.t 18)]) [],
 xa 0 5 (.alloc (List.replicate 4 (.int .u64 0))),
 xa 1 6 (.alloc (List.replicate 4 (.int .u64 0))),
 xln (.store 4 (.t 5) (.t 15)) [],
 xln (.store 4 (.t 6) (.t 19)) []] <|
 .keep [2, 3, 4, 5, 6] <|
 q 20 (.fld 3 (.t 2)) <|
 q 21 (.load false 1 (.t 20)) <|
 q 22 (.fld 0 (.t 3)) <|
 q 23 (.load true 4 (.t 22)) <|
 q 24 (.load true 4 (.t 6)) <|
 q 25 (.callv (.t 21) [(.t 23), (.t 24)]) <|
 q 7 (.alloc (List.replicate 4 (.int .u64 0))) <|
 qn (.store 4 (.t 7) (.t 25)) <|
 .keep [2, 3, 4, 5, 6, 7] <|
 .reg 1
 [xe 26 (.load true 4 (.t 2)) [],
 xe 27 (.fld 3 (.t 2)) [],
 xe 28 (.load false 1 (.t 27)) [],
 xe 29 (.fld 2 (.t 2)) [],
 xe 30 (.load false 1 (.t 29)) [],
 xe 31 (.fld 0 (.t 3)) [],
 xe 32 (.load true 4 (.t 31)) [],
 xe 33 (.load true 4 (.t 5)) [],
 xe 34 (.callv (.t 30) [(.t 32), (.t 33)]) [],
 xe 35 (.fld 1 (.t 2)) [],
 xe 36 (.load false 1 (.t 35)) [],
 xe 37 (.fld 0 (.t 3)) [],
 xe 38 (.load true 4 (.t 37)) [],
 xe 39 (.load true 4 (.t 5)) [],
 xe 40 (.callv (.t 36) [(.t 38), (.t 39)]) [],
 xe 41 (.callv (.t 28) [(.t 34), (.t 40)]) [],
 xe 42 (.call F.point_curve_times [(.t 26), (.t 41), (.c (.int .u64 3))]) [],
 xa 0 8 (.alloc (List.replicate 4 (.int .u64 0))),
 xln (.store 4 (.t 8) (.t 42)) []] <|
 .keep [2, 3, 4, 5, 6, 7, 8] <|
 .reg 1
 [xe 43 (.fld 2 (.t 2)) [],
 xe 44 (.load false 1 (.t 43)) [],
 xe 45 (.load true 4 (.t 2)) [],
 xe 46 (.load true 4 (.t 8)) [],
 xe 47 (.call F.point_curve_square [(.t 45), (.t 46)]) [],
 xe 48 (.load true 4 (.t 2)) [],
 xe 49 (.load true 4 (.t 7)) [],
 xe 50 (.call F.point_curve_times [(.t 48), (.t 49), (.c (.int .u64 8))]) [],
 xe 51 (.callv (.t 44) [(.t 47), (.t 50)]) [],
 xa 0 9 (.alloc (List.replicate 4 (.int .u64 0))),
 xln (.store 4 (.t 9) (.t 51)) []] <|
 .keep [2, 3, 4, 5, 6, 7, 8, 9] <|
 .reg 1
 [xe 52 (.fld 2 (.t 2)) [],
 xe 53 (.load false 1 (.t 52)) [],
 xe 54 (.fld 2 (.t 2)) [],
 xe 55 (.load false 1 (.t 54)) [],
 xe 56 (.load true 4 (.t 2)) [],
 xe 57 (.fld 1 (.t 2)) [],
 xe 58 (.load false 1 (.t 57)) [],
 xe 59 (.fld 4 (.t 3)) [],
 xe 60 (.load true 4 (.t 59)) [],
 xe 61 (.fld 8 (.t 3)) [],
 xe 62 (.load true 4 (.t 61)) [],
 xe 63 (.callv (.t 58) [(.t 60), (.t 62)]) [],
 xe 64 (.call F.point_curve_square [(.t 56), (.t 63)]) [],
 xe 65 (.load true 4 (.t 6)) [],
 xe 66 (.callv (.t 55) [(.t 64), (.t 65)]) [],
 xe 67 (.load true 4 (.t 5)) [],
 xe 68 (.callv (.t 53) [(.t 66), (.t 67)]) [],
 xa 0 10 (.alloc (List.replicate 4 (.int .u64 0))),
 xln (.store 4 (.t 10) (.t 68)) []] <|
 .keep [2, 4, 6, 7, 8, 9, 10] <|
 .reg 1
 [xe 69 (.fld 2 (.t 2)) [],
 xe 70 (.load false 1 (.t 69)) [],
 xe 71 (.fld 3 (.t 2)) [],
 xe 72 (.load false 1 (.t 71)) [],
 xe 73 (.load true 4 (.t 8)) [],
 xe 74 (.fld 2 (.t 2)) [],
 xe 75 (.load false 1 (.t 74)) [],
 xe 76 (.load true 4 (.t 2)) [],
 xe 77 (.load true 4 (.t 7)) [],
 xe 78 (.call F.point_curve_times [(.t 76), (.t 77), (.c (.int .u64 4))]) [],
 xe 79 (.load true 4 (.t 9)) [],
 xe 80 (.callv (.t 75) [(.t 78), (.t 79)]) [],
 xe 81 (.callv (.t 72) [(.t 73), (.t 80)]) [],
 xe 82 (.load true 4 (.t 2)) [],
 xe 83 (.load true 4 (.t 2)) [],
 xe 84 (.load true 4 (.t 6)) [],
 xe 85 (.call F.point_curve_square [(.t 83), (.t 84)]) [],
 xe 86 (.call F.point_curve_times [(.t 82), (.t 85), (.c (.int .u64 8))]) [],
 xe 87 (.callv (.t 70) [(.t 81), (.t 86)]) [],
 xa 0 11 (.alloc (List.replicate 4 (.int .u64 0))),
 xln (.store 4 (.t 11) (.t 87)) []] <|
 .keep [4, 9, 10, 11] <|
 q 88 (.load true 4 (.t 9)) <|
 q 89 (.load true 4 (.t 11)) <|
 q 90 (.load true 4 (.t 10)) <|
 q 91 (.build (List.replicate 12 (.int .u64 0)) [(0, 4, (.t 88)), (4, 4, (.t 89)), (8, 4, (.t 90))]) <|
 qn (.store 12 (.t 4) (.t 91)) <|
 .keep [4] <|
 .ret
theorem e_point_curve_twice:EF true F.point_curve_twice ic_point_curve_twice [.c 4 true 12]:=ef [] Tryz.func102 (by kernel_rfl) (by kernel_rfl) (by kernel_rfl)
def ic_point_curve_sum : IC :=
 q 3 (.box (.t 0)) <|
 q 4 (.box (.t 1)) <|
 q 5 (.box (.t 2)) <|
 q 6 (.alloc (List.replicate 12 (.int .u64 0))) <|
 .keep [3, 4, 5, 6] <|
 .block 0
 (q 19 (.load true 12 (.t 4)) <|
 q 20 (.call F.point_three_far [(.t 19)]) <|
 q 18 (.mv (.t 20)) <|
 .keep [3, 4, 5, 6, 18] <|
 .ite (.t 18)
 (q 21 (.load true 12 (.t 5)) <|
 qn (.store 12 (.t 6) (.t 21)) <|
 .keep [6] <|
 .ret)
 (q 23 (.load true 12 (.t 5)) <|
 q 24 (.call F.point_three_far [(.t 23)]) <|
 q 22 (.mv (.t 24)) <|
 .keep [3, 4, 5, 6, 22] <|
 .ite (.t 22)
 (q 25 (.load true 12 (.t 4)) <|
 qn (.store 12 (.t 6) (.t 25)) <|
 .keep [6] <|
 .ret)
 (.done) <|
 .done) <|
 .done) <|
 .reg 2
 [xe 26 (.load true 4 (.t 3)) [],
 xe 27 (.fld 8 (.t 4)) [],
 xe 28 (.load true 4 (.t 27)) [],
 xe 29 (.call F.point_curve_square [(.t 26), (.t 28)]) [],
 xe 30 (.load true 4 (.t 3)) [],
 xe 31 (.fld 8 (.t 5)) [],
 xe 32 (.load true 4 (.t 31)) [],
 xe 33 (.call F.point_curve_square [(.t 30), (.t 32)]) [],
 xa 0 7 (.alloc (List.replicate 4 (.int .u64 0))),
 xa 1 8 (.alloc (List.replicate 4 (.int .u64 0))),
 xln (.store 4 (.t 7) (.t 29)) [],
 xln (.store 4 (.t 8) (.t 33)) []] <|
 .keep [3, 4, 5, 6, 7, 8] <|
 .reg 2
 [xe 34 (.fld 3 (.t 3)) [],
 xe 35 (.load false 1 (.t 34)) [],
 xe 36 (.fld 0 (.t 4)) [],
 xe 37 (.load true 4 (.t 36)) [],
 xe 38 (.load true 4 (.t 8)) [],
 xe 39 (.callv (.t 35) [(.t 37), (.t 38)]) [],
 xe 40 (.fld 3 (.t 3)) [],
 xe 41 (.load false 1 (.t 40)) [],
 xe 42 (.fld 0 (.t 5)) [],
 xe 43 (.load true 4 (.t 42)) [],
 xe 44 (.load true 4 (.t 7)) [],
 xe 45 (.callv (.t 41) [(.t 43), (.t 44)]) [],
 xa 0 9 (.alloc (List.replicate 4 (.int .u64 0))),
 xa 1 10 (.alloc (List.replicate 4 (.int .u64 0))),
 xln (.store 4 (.t 9) (.t 39)) [],
 xln (.store 4 (.t 10) (.t 45)) []] <|
 .keep [3, 4, 5, 6, 7, 8, 9, 10] <|
 .reg 2
 [xe 46 (.fld 3 (.t 3)) [],
 xe 47 (.load false 1 (.t 46)) [],
 xe 48 (.fld 4 (.t 4)) [],
 xe 49 (.load true 4 (.t 48)) [],
 xe 50 (.fld 3 (.t 3)) [],
 xe 51 (.load false 1 (.t 50)) [],
 xe 52 (.load true 4 (.t 8)) [],
 xe 53 (.fld 8 (.t 5)) [],
 xe 54 (.load true 4 (.t 53)) [],
 xe 55 (.callv (.t 51) [(.t 52), (.t 54)]) [],
 xe 56 (.callv (.t 47) [(.t 49), (.t 55)]) [],
 xe 57 (.fld 3 (.t 3)) [],
 xe 58 (.load false 1 (.t 57)) [],
 xe 59 (.fld 4 (.t 5)) [],
 xe 60 (.load true 4 (.t 59)) [],
 xe 61 (.fld 3 (.t 3)) [],
 xe 62 (.load false 1 (.t 61)) [],
 xe 63 (.load true 4 (.t 7)) [],
 xe 64 (.fld 8 (.t 4)) [],
 xe 65 (.load true 4 (.t 64)) [],
 xe 66 (.callv (.t 62) [(.t 63), (.t 65)]) [],
 xe 67 (.callv (.t 58) [(.t 60), (.t 66)]) [],
 xa 0 11 (.alloc (List.replicate 4 (.int .u64 0))),
 xa 1 12 (.alloc (List.replicate 4 (.int .u64 0))),
 xln (.store 4 (.t 11) (.t 56)) [],
 xln (.store 4 (.t 12) (.t 67)) []] <|
 .keep [3, 4, 5, 6, 9, 10, 11, 12] <|
 q 68 (.fld 2 (.t 3)) <|
 q 69 (.load false 1 (.t 68)) <|
 q 70 (.load true 4 (.t 10)) <|
 q 71 (.load true 4 (.t 9)) <|
 q 72 (.callv (.t 69) [(.t 70), (.t 71)]) <|
 q 73 (.fld 2 (.t 3)) <|
 q 74 (.load false 1 (.t 73)) <|
 q 75 (.load true 4 (.t 12)) <|
 q 76 (.load true 4 (.t 11)) <|
 q 77 (.callv (.t 74) [(.t 75), (.t 76)]) <|
 qn (.store 4 (.t 10) (.t 72)) <|
 qn (.store 4 (.t 12) (.t 77)) <|
 .keep [3, 4, 5, 6, 9, 10, 11, 12] <|
 .block 1
 (q 79 (.load true 4 (.t 10)) <|
 q 80 (.build (List.replicate 4 (.int .u64 0)) []) <|
 q 81 (.eqagg (List.replicate 4 (some .u64)) false (.t 79) (.t 80)) <|
 q 82 (.mv (.t 81)) <|
 qg 83 82 true (.load true 4 (.t 12)) <|
 qg 84 82 true (.build (List.replicate 4 (.int .u64 0)) []) <|
 qg 85 82 true (.eqagg (List.replicate 4 (some .u64)) false (.t 83) (.t 84)) <|
 q 86 (.pick (.t 82) (.t 85) (cb false)) <|
 q 78 (.mv (.t 86)) <|
 .keep [3, 4, 5, 6, 9, 10, 11, 12, 78] <|
 .ite (.t 78)
 (q 87 (.load true 4 (.t 3)) <|
 q 88 (.load true 12 (.t 4)) <|
 q 89 (.call F.point_curve_twice [(.t 87), (.t 88)]) <|
 qn (.store 12 (.t 6) (.t 89)) <|
 .keep [6] <|
 .ret)
 (q 91 (.load true 4 (.t 10)) <|
 q 92 (.build (List.replicate 4 (.int .u64 0)) []) <|
 q 93 (.eqagg (List.replicate 4 (some .u64)) false (.t 91) (.t 92)) <|
 q 90 (.mv (.t 93)) <|
 .keep [3, 4, 5, 6, 9, 10, 11, 12, 90] <|
 .ite (.t 90)
 (q 94 (.build (List.replicate 12 (.int .u64 0)) []) <|
 qn (.store 12 (.t 6) (.t 94)) <|
 .keep [6] <|
 .ret)
 (.done) <|
 .done) <|
 .done) <|
 q 95 (.load true 4 (.t 3)) <|
 q 96 (.load true 4 (.t 10)) <|
 q 97 (.call F.point_curve_square [(.t 95), (.t 96)]) <|
 q 13 (.alloc (List.replicate 4 (.int .u64 0))) <|
 qn (.store 4 (.t 13) (.t 97)) <|
 .keep [3, 4, 5, 6, 9, 10, 11, 12, 13] <|
 .reg 2
 [xe 98 (.fld 3 (.t 3)) [],
 xe 99 (.load false 1 (.t 98)) [],
 xe 100 (.load true 4 (.t 13)) [],
 xe 101 (.load true 4 (.t 10)) [],
 xe 102 (.callv (.t 99) [(.t 100), (.t 101)]) [],
 xe 103 (.fld 3 (.t 3)) [],
 xe 104 (.load false 1 (.t 103)) [],
 xe 105 (.load true 4 (.t 9)) [],
 xe 106 (.load true 4 (.t 13)) [],
 xe 107 (.callv (.t 104) [(.t 105), (.t 106)]) [],
 xa 0 14 (.alloc (List.replicate 4 (.int .u64 0))),
 xa 1 15 (.alloc (List.replicate 4 (.int .u64 0))),
 xln (.store 4 (.t 14) (.t 102)) [],
 xln (.store 4 (.t 15) (.t 107)) []] <|
 .keep [3, 4, 5, 6, 10, 11, 12, 14, 15] <|
 .reg 1
 [xe 108 (.fld 2 (.t 3)) [],
 xe 109 (.load false 1 (.t 108)) [],
 xe 110 (.fld 2 (.t 3)) [],
 xe 111 (.load false 1 (.t 110)) [],
 xe 112 (.load true 4 (.t 3)) [],
 xe 113 (.load true 4 (.t 12)) [],
 xe 114 (.call F.point_curve_square [(.t 112), (.t 113)]) [],
 xe 115 (.load true 4 (.t 14)) [],
 xe 116 (.callv (.t 111) [(.t 114), (.t 115)]) [],
 xe 117 (.load true 4 (.t 3)) [],
 xe 118 (.load true 4 (.t 15)) [],
 xe 119 (.call F.point_curve_times [(.t 117), (.t 118), (.c (.int .u64 2))]) [],
 xe 120 (.callv (.t 109) [(.t 116), (.t 119)]) [],
 xa 0 16 (.alloc (List.replicate 4 (.int .u64 0))),
 xln (.store 4 (.t 16) (.t 120)) []] <|
 .keep [3, 4, 5, 6, 10, 11, 12, 14, 15, 16] <|
 .reg 1
 [xe 121 (.fld 2 (.t 3)) [],
 xe 122 (.load false 1 (.t 121)) [],
 xe 123 (.fld 3 (.t 3)) [],
 xe 124 (.load false 1 (.t 123)) [],
 xe 125 (.load true 4 (.t 12)) [],
 xe 126 (.fld 2 (.t 3)) [],
 xe 127 (.load false 1 (.t 126)) [],
 xe 128 (.load true 4 (.t 15)) [],
 xe 129 (.load true 4 (.t 16)) [],
 xe 130 (.callv (.t 127) [(.t 128), (.t 129)]) [],
 xe 131 (.callv (.t 124) [(.t 125), (.t 130)]) [],
 xe 132 (.fld 3 (.t 3)) [],
 xe 133 (.load false 1 (.t 132)) [],
 xe 134 (.load true 4 (.t 11)) [],
 xe 135 (.load true 4 (.t 14)) [],
 xe 136 (.callv (.t 133) [(.t 134), (.t 135)]) [],
 xe 137 (.callv (.t 122) [(.t 131), (.t 136)]) [],
 xa 0 17 (.alloc (List.replicate 4 (.int .u64 0))),
 xln (.store 4 (.t 17) (.t 137)) []] <|
 .keep [3, 4, 5, 6, 10, 16, 17] <|
 q 138 (.load true 4 (.t 16)) <|
 q 139 (.load true 4 (.t 17)) <|
 q 140 (.fld 3 (.t 3)) <|
 q 141 (.load false 1 (.t 140)) <|
 q 142 (.load true 4 (.t 10)) <|
 q 143 (.fld 3 (.t 3)) <|
 q 144 (.load false 1 (.t 143)) <|
 q 145 (.fld 8 (.t 4)) <|
 q 146 (.load true 4 (.t 145)) <|
 q 147 (.fld 8 (.t 5)) <|
 q 148 (.load true 4 (.t 147)) <|
 q 149 (.callv (.t 144) [(.t 146), (.t 148)]) <|
 q 150 (.callv (.t 141) [(.t 142), (.t 149)]) <|
 q 151 (.build (List.replicate 12 (.int .u64 0)) [(0, 4, (.t 138)), (4, 4, (.t 139)), (8, 4, (.t 150))]) <|
 qn (.store 12 (.t 6) (.t 151)) <|
 .keep [6] <|
 .ret
theorem e_point_curve_sum:EF true F.point_curve_sum ic_point_curve_sum [.c 6 true 12]:=ef [] Tryz.func104 (by kernel_rfl) (by kernel_rfl) (by kernel_rfl)
def ic_point_curve_flat : IC :=
 q 2 (.box (.t 0)) <|
 q 3 (.box (.t 1)) <|
 q 4 (.alloc [.int .u64 0, .int .u64 0, .int .u64 0, .int .u64 0, .int .u64 0, .int .u64 0, .int .u64 0, .int .u64 0, .bool false]) <|
 .keep [2, 3, 4] <|
 q 9 (.fld 0 (.t 2)) <|
 q 10 (.load false 1 (.t 9)) <|
 q 11 (.fld 8 (.t 3)) <|
 q 12 (.load true 4 (.t 11)) <|
 q 13 (.call F.field_Field_Inv [(.t 10), (.t 12)]) <|
 q 8 (.mv (.t 13)) <|
 q 14 (.ext (.t 8) 0) <|
 q 15 (.ext (.t 8) 1) <|
 q 5 (.alloc (List.replicate 4 (.int .u64 0))) <|
 qn (.store 4 (.t 5) (.t 14)) <|
 q 6 (.mv (.t 15)) <|
 .keep [2, 3, 4, 5, 6] <|
 q 16 (.mv (.t 6)) <|
 q 17 (.eq true .i (.t 16) (.c (.nilIface))) <|
 .keep [2, 3, 4, 5, 17] <|
 .ite (.t 17)
 (q 18 (.build [.int .u64 0, .int .u64 0, .int .u64 0, .int .u64 0, .int .u64 0, .int .u64 0, .int .u64 0, .int .u64 0, .bool false] [(8, 1, (cb true))]) <|
 qn (.store 9 (.t 4) (.t 18)) <|
 .keep [4] <|
 .ret)
 (.done) <|
 q 19 (.load true 4 (.t 2)) <|
 q 20 (.load true 4 (.t 5)) <|
 q 21 (.call F.point_curve_square [(.t 19), (.t 20)]) <|
 q 7 (.alloc (List.replicate 4 (.int .u64 0))) <|
 qn (.store 4 (.t 7) (.t 21)) <|
 .keep [2, 3, 4, 5, 7] <|
 q 22 (.fld 3 (.t 2)) <|
 q 23 (.load false 1 (.t 22)) <|
 q 24 (.fld 0 (.t 3)) <|
 q 25 (.load true 4 (.t 24)) <|
 q 26 (.load true 4 (.t 7)) <|
 q 27 (.callv (.t 23) [(.t 25), (.t 26)]) <|
 q 28 (.fld 3 (.t 2)) <|
 q 29 (.load false 1 (.t 28)) <|
 q 30 (.fld 4 (.t 3)) <|
 q 31 (.load true 4 (.t 30)) <|
 q 32 (.fld 3 (.t 2)) <|
 q 33 (.load false 1 (.t 32)) <|
 q 34 (.load true 4 (.t 7)) <|
 q 35 (.load true 4 (.t 5)) <|
 q 36 (.callv (.t 33) [(.t 34), (.t 35)]) <|
 q 37 (.callv (.t 29) [(.t 31), (.t 36)]) <|
 q 38 (.build [.int .u64 0, .int .u64 0, .int .u64 0, .int .u64 0, .int .u64 0, .int .u64 0, .int .u64 0, .int .u64 0, .bool false] [(0, 4, (.t 27)), (4, 4, (.t 37))]) <|
 qn (.store 9 (.t 4) (.t 38)) <|
 .keep [4] <|
 .ret
theorem e_point_curve_flat:EF true F.point_curve_flat ic_point_curve_flat [.c 4 true 9]:=ef [] Tryz.func105 (by kernel_rfl) (by kernel_rfl) (by kernel_rfl)
def ic_point_P : IC :=
 q 0 (.alloc (List.replicate 4 (.int .u64 0))) <|
 .keep [0] <|
 q 1 (.build (List.replicate 4 (.int .u64 0)) [(0, 1, (.c (.int .u64 18446744073709551615))), (1, 1, (.c (.int .u64 4294967295))), (2, 1, (.c (.int .u64 0))), (3, 1, (.c (.int .u64 18446744069414584321)))]) <|
 qn (.store 4 (.t 0) (.t 1)) <|
 .keep [0] <|
 .ret
theorem e_point_P:EF false F.point_P ic_point_P [.c 0 true 4]:=ef [] Tryz.func118 (by kernel_rfl) (by kernel_rfl) (by kernel_rfl)
def ic_point_curve_square : IC :=
 q 2 (.box (.t 0)) <|
 q 3 (.box (.t 1)) <|
 q 4 (.alloc (List.replicate 4 (.int .u64 0))) <|
 .keep [2, 3, 4] <|
 q 5 (.fld 3 (.t 2)) <|
 q 6 (.load false 1 (.t 5)) <|
 q 7 (.load true 4 (.t 3)) <|
 q 8 (.load true 4 (.t 3)) <|
 q 9 (.callv (.t 6) [(.t 7), (.t 8)]) <|
 qn (.store 4 (.t 4) (.t 9)) <|
 .keep [4] <|
 .ret
theorem e_point_curve_square:EF true F.point_curve_square ic_point_curve_square [.c 4 true 4]:=ef [] Tryz.func119 (by kernel_rfl) (by kernel_rfl) (by kernel_rfl)
def ic_point_curve_times : IC :=
 q 3 (.box (.t 0)) <|
 q 4 (.box (.t 1)) <|
 q 6 (.alloc (List.replicate 4 (.int .u64 0))) <|
 .keep [2, 3, 4, 6] <|
 q 7 (.fld 3 (.t 3)) <|
 q 8 (.load false 1 (.t 7)) <|
 q 9 (.load true 4 (.t 4)) <|
 q 10 (.mv (.t 2)) <|
 q 11 (.build (List.replicate 4 (.int .u64 0)) [(0, 1, (.t 10))]) <|
 q 12 (.callv (.t 8) [(.t 9), (.t 11)]) <|
 qn (.store 4 (.t 6) (.t 12)) <|
 .keep [6] <|
 .ret
theorem e_point_curve_times:EF true F.point_curve_times ic_point_curve_times [.c 6 true 4]:=ef [] Tryz.func120 (by kernel_rfl) (by kernel_rfl) (by kernel_rfl)
def ic_point_b : IC :=
 q 0 (.alloc (List.replicate 4 (.int .u64 0))) <|
 .keep [0] <|
 q 1 (.build (List.replicate 4 (.int .u64 0)) [(0, 1, (.c (.int .u64 4309448131093880907))), (1, 1, (.c (.int .u64 7285987128567378166))), (2, 1, (.c (.int .u64 12964664127075681980))), (3, 1, (.c (.int .u64 6540974713487397863)))]) <|
 qn (.store 4 (.t 0) (.t 1)) <|
 .keep [0] <|
 .ret
theorem e_point_b:EF false F.point_b ic_point_b [.c 0 true 4]:=ef [] Tryz.func121 (by kernel_rfl) (by kernel_rfl) (by kernel_rfl)
def ic_point_three_far : IC :=
 q 1 (.box (.t 0)) <|
 q 2 (.mv (cb false)) <|
 .keep [1] <|
 q 3 (.fld 8 (.t 1)) <|
 q 4 (.load true 4 (.t 3)) <|
 q 5 (.build (List.replicate 4 (.int .u64 0)) []) <|
 q 6 (.eqagg (List.replicate 4 (some .u64)) false (.t 4) (.t 5)) <|
 q 2 (.mv (.t 6)) <|
 .keep [2] <|
 .ret
theorem e_point_three_far:EF false F.point_three_far ic_point_three_far [.t 2]:=ef [] Tryz.func125 (by kernel_rfl) (by kernel_rfl) (by kernel_rfl)
end Go.Proofs.YtenfocjhebgoeaaGreat.Eng

