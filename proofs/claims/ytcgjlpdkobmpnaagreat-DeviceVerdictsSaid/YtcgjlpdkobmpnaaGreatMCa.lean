/- The numbers of functions and types, by name. Printed by program. -/
import Derived.Test.YtcgjlpdkobmpnaaGreatME6
import Derived.Test.YtcgjlpdkobmpnaaGreatChecked
namespace Go.Proofs.YtcgjlpdkobmpnaaGreat.Eng
open Go Go.Proofs
abbrev F.clapperlaw18_DeviceVerdicts:FuncId:=6
abbrev F.clapperlaw18_up:FuncId:=19
abbrev F.device_Open:FuncId:=22
abbrev F.device_Device_Records:FuncId:=26
abbrev F.clapperlaw18_Small:FuncId:=27
abbrev F.flash_New:FuncId:=28
abbrev F.device_Device_Load:FuncId:=29
abbrev F.device_Device_Begin:FuncId:=30
abbrev F.device_Device_Scan:FuncId:=31
abbrev F.fare_Verdict:FuncId:=32
abbrev F.sign_Public:FuncId:=34
abbrev F.clapperlaw18_tell:FuncId:=36
abbrev F.record_Chain:FuncId:=37
abbrev F.journal_Open:FuncId:=65
abbrev F.journal_Journal_Records:FuncId:=66
abbrev F.record_Open:FuncId:=67
abbrev F.clapperref14_Few:FuncId:=73
abbrev F.keys_May:FuncId:=74
abbrev F.revoke_May:FuncId:=75
abbrev F.fare_May:FuncId:=76
abbrev F.slices_Clone_api_Key_api_Key:FuncId:=77
abbrev F.slices_Clone_api_Revoked_api_Revoked:FuncId:=78
abbrev F.slices_Clone_api_Product_api_Product:FuncId:=79
abbrev F.slices_Clone_int_int:FuncId:=80
abbrev F.device_Device_now:FuncId:=81
abbrev F.ticket_Open:FuncId:=82
abbrev F.device_Device_write:FuncId:=83
abbrev F.fare_place:FuncId:=84
abbrev F.keys_Check:FuncId:=85
abbrev F.fare_product:FuncId:=86
abbrev F.revoke_Is:FuncId:=87
abbrev F.fare_in:FuncId:=88
abbrev F.fare_then:FuncId:=89
abbrev F.sign_may:FuncId:=90
abbrev F.point_Mul:FuncId:=91
abbrev F.point_Base:FuncId:=92
abbrev F.device_Device_End:FuncId:=93
abbrev F.device_Device_Notice:FuncId:=94
abbrev F.device_Device_Void:FuncId:=95
abbrev F.device_Device_Tear:FuncId:=96
abbrev F.sign_Verify:FuncId:=97
abbrev F.tlv_Number:FuncId:=114
abbrev F.slices_Clone_byte_byte:FuncId:=126
abbrev F.flash_Flash_Size:FuncId:=136
abbrev F.flash_Flash_Bytes:FuncId:=137
abbrev F.journal_read:FuncId:=138
abbrev F.journal_first:FuncId:=139
abbrev F.record_fields:FuncId:=140
abbrev F.record_read:FuncId:=141
abbrev F.sign_Parse:FuncId:=142
abbrev F.record_May:FuncId:=143
abbrev F.sha_Sum:FuncId:=144
abbrev F.keys_one:FuncId:=159
abbrev F.service_May:FuncId:=160
abbrev F.ticket_parts:FuncId:=161
abbrev F.ticket_numbers:FuncId:=162
abbrev F.ticket_May:FuncId:=163
abbrev F.record_Issue:FuncId:=164
abbrev F.device_Device_cut:FuncId:=165
abbrev F.journal_Journal_Append:FuncId:=166
abbrev F.keys_find:FuncId:=167
abbrev F.ticket_Check:FuncId:=168
abbrev F.slices_IndexFunc_api_Product_api_Product:FuncId:=169
abbrev F.fare_product_1:FuncId:=170
abbrev F.slices_ContainsFunc_api_Revoked_api_Revoked:FuncId:=171
abbrev F.revoke_Is_1:FuncId:=172
abbrev F.service_Runs:FuncId:=173
abbrev F.limb_Cmp:FuncId:=174
abbrev F.point_N:FuncId:=175
abbrev F.point_of:FuncId:=176
abbrev F.point_curve_on:FuncId:=177
abbrev F.point_lift:FuncId:=178
abbrev F.limb_Len:FuncId:=179
abbrev F.point_curve_twice:FuncId:=180
abbrev F.limb_Bit:FuncId:=181
abbrev F.point_curve_sum:FuncId:=182
abbrev F.point_curve_flat:FuncId:=183
abbrev F.field_New:FuncId:=186
abbrev F.point_On:FuncId:=187
abbrev F.field_Field_Inv:FuncId:=188
abbrev F.field_Field_Mul:FuncId:=189
abbrev F.sign_number:FuncId:=190
abbrev F.point_Add:FuncId:=191
abbrev F.field_Field_Add:FuncId:=192
abbrev F.tlv_Get:FuncId:=202
abbrev F.tlv_Of:FuncId:=203
abbrev F.tlv_Put:FuncId:=211
abbrev F.journal_of:FuncId:=225
abbrev F.limb_Of:FuncId:=226
abbrev F.record_within:FuncId:=227
abbrev F.sha_New:FuncId:=228
abbrev F.sha_Hash_Write:FuncId:=229
abbrev F.sha_Hash_Sum:FuncId:=230
abbrev F.service_May_1:FuncId:=249
abbrev F.slices_Contains_int_int:FuncId:=250
abbrev F.service_days:FuncId:=251
abbrev F.slices_ContainsFunc_int_int:FuncId:=252
abbrev F.ticket_within:FuncId:=253
abbrev F.record_Body:FuncId:=254
abbrev F.sign_Sign:FuncId:=255
abbrev F.sign_Bytes:FuncId:=256
abbrev F.journal_Journal_writes:FuncId:=258
abbrev F.flash_Flash_Write:FuncId:=259
abbrev F.slices_IndexFunc_api_Key_api_Key:FuncId:=260
abbrev F.keys_find_1:FuncId:=261
abbrev F.slices_IndexFunc_api_Revoked_api_Revoked:FuncId:=262
abbrev F.service_runs:FuncId:=263
abbrev F.point_P:FuncId:=264
abbrev F.field_Field_Sub:FuncId:=265
abbrev F.point_curve_square:FuncId:=266
abbrev F.point_curve_times:FuncId:=267
abbrev F.point_b:FuncId:=268
abbrev F.math_bits_Len64:FuncId:=269
abbrev F.point_three_far:FuncId:=270
abbrev F.field_Field_Cut:FuncId:=272
abbrev F.limb_Mul:FuncId:=273
abbrev F.field_Field_odd:FuncId:=274
abbrev F.field_Field_in:FuncId:=275
abbrev F.limb_Sub:FuncId:=276
abbrev F.field_Field_mont:FuncId:=277
abbrev F.limb_Add:FuncId:=278
abbrev F.field_Field_less:FuncId:=279
abbrev F.tlv_May:FuncId:=287
abbrev F.sha_Hash_take:FuncId:=301
abbrev F.sha_Hash_Clone:FuncId:=302
abbrev F.slices_Index_int_int:FuncId:=305
abbrev F.slices_IndexFunc_int_int:FuncId:=306
abbrev F.record_Body_1:FuncId:=307
abbrev F.nonce_List:FuncId:=308
abbrev F.sign_with:FuncId:=309
abbrev F.limb_Bytes:FuncId:=310
abbrev F.flash_Flash_Tear:FuncId:=311
abbrev F.journal_Journal_Free:FuncId:=312
abbrev F.journal_number:FuncId:=313
abbrev F.slices_Concat_byte_byte:FuncId:=314
abbrev F.math_bits_Mul64:FuncId:=315
abbrev F.limb_Half:FuncId:=317
abbrev F.field_Field_half:FuncId:=318
abbrev F.field_step:FuncId:=320
abbrev F.sha_words:FuncId:=330
abbrev F.sha_constants:FuncId:=331
abbrev F.sha_turned:FuncId:=332
abbrev F.nonce_may:FuncId:=335
abbrev F.nonce_begin:FuncId:=336
abbrev F.nonce_source_next:FuncId:=337
abbrev F.flash_Flash_there:FuncId:=338
abbrev F.slices_Grow_byte_byte:FuncId:=339
abbrev F.math_bits_RotateLeft32:FuncId:=348
abbrev F.nonce_source_mix:FuncId:=349
abbrev F.nonce_source_code:FuncId:=350
abbrev F.mac_Of:FuncId:=354
abbrev F.mac_with:FuncId:=357
abbrev T.t:TypeId:=0
abbrev T.func:TypeId:=1
abbrev T.int:TypeId:=3
abbrev T.bool:TypeId:=4
abbrev T.string:TypeId:=9
abbrev T.interface:TypeId:=20
abbrev T.api_Code:TypeId:=48
def pfx (v:Bool):Pf:=⟨fun f => !([28,65,99,127,128,166,176,186,228,229,257,259,301,302,310,311,336,337,339,340,349,351,357].contains f),v,fun t => [48].contains t⟩
theorem mixed:Tryz.prog.follows .mixedOrders=true:=by kernel_rfl
theorem cmpok (v:Bool):∀ t,(pfx v).c t=true→cmpT Tryz.prog t=true:=by
 intro t h
 simp [pfx] at h
 subst h; kernel_rfl
abbrev EF (v:Bool) (f:FuncId) (ic:IC) (rs:List IRes):Prop:=∀ {args:List AV} {H:AH} {w:AV} {H':AH},iwp (pfx v) (Called Tryz.prog) ic (retQ rs H w H') (look (W2 0 args)) H→Called Tryz.prog f args H w H'
theorem ef {v:Bool} {f:FuncId} {fn:Func} {ic:IC} {rs:List IRes} (own:List Nat) (hf:Tryz.prog.funcs[f]? = some fn) (hok:Hm Tryz.prog f=true) (hc:Px Tryz.prog (pfx v) (fun d => own.contains d) fn=some ic) (hr:fn.results.toList.mapM (res? Tryz.prog)=some rs):EF v f ic rs:=fun h =>
 Xp mixed (cmpok v) hf hok hc hr h
set_option maxRecDepth 20000
def Gg : IC :=
 Qb 2 0<|
 Qb 3 1<|
 q 4 (.mv (ci 0))<|
 .keep [2,3]<|
 q 5 (.mv (ci 3))<|
 .keep [2,3,5]<|
 .block 0
 (.keep [2,3,5]<|
 .loop
 (Qm 6 5<|
 q 7 (.bin .geq (.t 6) (ci 0))<|
 .keep [2,3,5,7]<|
 .ite (.t 7)
 (.done)
 (.exit 0)<|
 .block 1
 (.block 2
 (Qm 11 5<|
 q 12 (.idxa 1 (some 4) (.t 2) (.t 11))<|
 Ql 13 1 12<|
 Qm 14 5<|
 q 15 (.idxa 1 (some 4) (.t 3) (.t 14))<|
 Ql 16 1 15<|
 q 17 (.bin .lss (.t 13) (.t 16))<|
 Qm 10 17<|
 .keep [2,3,5,10]<|
 .ite (.t 10)
 (q 4 (.mv (ci (-1)))<|
 .keep [4]<|
 .ret)
 (Qm 19 5<|
 q 20 (.idxa 1 (some 4) (.t 2) (.t 19))<|
 Ql 21 1 20<|
 Qm 22 5<|
 q 23 (.idxa 1 (some 4) (.t 3) (.t 22))<|
 Ql 24 1 23<|
 q 25 (.bin .gtr (.t 21) (.t 24))<|
 Qm 18 25<|
 .keep [2,3,5,18]<|
 .ite (.t 18)
 (q 4 (.mv (ci 1))<|
 .keep [4]<|
 .ret)
 (.done)<|
 .done)<|
 .done)<|
 .done)<|
 Qm 8 5<|
 q 9 (.bin .sub (.t 8) (ci 1))<|
 Qm 5 9<|
 .keep [2,3,5]<|
 .keep [2,3,5]<|
 .done))<|
 q 4 (.mv (ci 0))<|
 .keep [4]<|
 .ret
theorem Zif:EF false F.limb_Cmp Gg [.t 4]:=ef [] Tryz.func174 (by kernel_rfl) (by kernel_rfl) (by kernel_rfl)
def Ge : IC :=
 Qb 1 0<|
 q 2 (.mv (ci 0))<|
 .keep [1]<|
 q 3 (.mv (ci 3))<|
 .keep [1,3]<|
 .block 0
 (.keep [1,3]<|
 .loop
 (Qm 4 3<|
 q 5 (.bin .geq (.t 4) (ci 0))<|
 .keep [1,3,5]<|
 .ite (.t 5)
 (.done)
 (.exit 0)<|
 .block 1
 (Qm 8 3<|
 q 9 (.idxa 1 (some 4) (.t 1) (.t 8))<|
 Ql 10 1 9<|
 q 11 (.bin .gtr (.t 10) (.c (.int .u64 0)))<|
 .keep [1,3,11]<|
 .ite (.t 11)
 (Qm 12 3<|
 q 13 (.bin .mul (ci 64) (.t 12))<|
 Qm 14 3<|
 q 15 (.idxa 1 (some 4) (.t 1) (.t 14))<|
 Ql 16 1 15<|
 q 17 (.call F.math_bits_Len64 [(.t 16)])<|
 q 18 (.bin .add (.t 13) (.t 17))<|
 Qm 2 18<|
 .keep [2]<|
 .ret)
 (.done)<|
 .done)<|
 Qm 6 3<|
 q 7 (.bin .sub (.t 6) (ci 1))<|
 Qm 3 7<|
 .keep [1,3]<|
 .keep [1,3]<|
 .done))<|
 q 2 (.mv (ci 0))<|
 .keep [2]<|
 .ret
theorem Zie:EF false F.limb_Len Ge [.t 2]:=ef [] Tryz.func179 (by kernel_rfl) (by kernel_rfl) (by kernel_rfl)
def Gh : IC :=
 Qb 2 0<|
 q 4 (.mv (cb false))<|
 .keep [1,2]<|
 Qm 5 1<|
 q 6 (.bin .geq (.t 5) (ci 0))<|
 Qm 7 6<|
 Gm 8 7 true 1<|
 qg 9 7 true (.bin .lss (.t 8) (ci 256))<|
 Qk 10 7 9<|
 Qm 11 10<|
 Gm 12 11 true 1<|
 qg 13 11 true (.bin .quo (.t 12) (ci 64))<|
 qg 14 11 true (.idxa 1 (some 4) (.t 2) (.t 13))<|
 Gl 15 11 true 1 14<|
 Gm 16 11 true 1<|
 qg 17 11 true (.bin .rem (.t 16) (ci 64))<|
 qg 18 11 true (.bin .shr (.t 15) (.t 17))<|
 qg 19 11 true (.bin .and (.t 18) (.c (.int .u64 1)))<|
 qg 20 11 true (.bin .eql (.t 19) (.c (.int .u64 1)))<|
 Qk 21 11 20<|
 Qm 4 21<|
 .keep [4]<|
 .ret
theorem Zig:EF false F.limb_Bit Gh [.t 4]:=ef [] Tryz.func181 (by kernel_rfl) (by kernel_rfl) (by kernel_rfl)
def Ev : IC :=
 q 2 (.alloc (List.replicate 4 (.int .u64 0)))<|
 q 3 (.mv (.c (.nilIface)))<|
 .keep [0,2]<|
 Qm 6 0<|
 Qw 7 6<|
 q 8 (.bin .gtr (.t 7) (ci 32))<|
 .keep [0,2,8]<|
 .ite (.t 8)
 (q 9 (.build (List.replicate 4 (.int .u64 0)) [])<|
 q 10 (.mkif T.api_Code (ci 1))<|
 Qs 4 2 9<|
 Qm 3 10<|
 .keep [2,3]<|
 .ret)
 (.done)<|
 q 4 (.alloc (List.replicate 4 (.int .u64 0)))<|
 .keep [0,2,4]<|
 Qm 11 0<|
 Qw 12 11<|
 q 13 (.mv (ci 0))<|
 .keep [0,2,4,12,13]<|
 .block 0
 (.keep [0,2,4,12,13]<|
 .loop
 (q 14 (.bin .lss (.t 13) (.t 12))<|
 .keep [0,2,4,12,13,14]<|
 .ite (.t 14)
 (.done)
 (.exit 0)<|
 .block 1
 (Qm 15 13<|
 Qm 5 15<|
 .keep [0,2,4,5,12,13]<|
 Qm 16 5<|
 q 17 (.bin .quo (.t 16) (ci 8))<|
 q 18 (.idxa 1 (some 4) (.t 4) (.t 17))<|
 Ql 19 1 18<|
 Qm 20 0<|
 Qm 21 0<|
 Qw 22 21<|
 q 23 (.bin .sub (.t 22) (ci 1))<|
 Qm 24 5<|
 q 25 (.bin .sub (.t 23) (.t 24))<|
 q 26 (.idxa 1 none (.t 20) (.t 25))<|
 Ql 27 1 26<|
 q 28 (.conv .u64 (.t 27))<|
 Qm 29 5<|
 q 30 (.bin .rem (.t 29) (ci 8))<|
 q 31 (.bin .mul (ci 8) (.t 30))<|
 q 32 (.bin .shl (.t 28) (.t 31))<|
 q 33 (.bin .or (.t 19) (.t 32))<|
 q 34 (.idxa 1 (some 4) (.t 4) (.t 17))<|
 Qs 1 34 33<|
 .keep [0,2,4,12,13]<|
 .done)<|
 q 35 (.bin .add (.t 13) (ci 1))<|
 Qm 13 35<|
 .keep [0,2,4,12,13]<|
 .keep [0,2,4,12,13]<|
 .done))<|
 Qa 36 4 4<|
 Qs 4 2 36<|
 q 3 (.mv (.c (.nilIface)))<|
 .keep [2,3]<|
 .ret
theorem Znw:EF false F.limb_Of Ev [.c 2 true 4,.t 3]:=ef [] Tryz.func226 (by kernel_rfl) (by kernel_rfl) (by kernel_rfl)
def Se : IC :=
 q 2 (.mv (ci 0))<|
 .keep [0,2]<|
 Qm 3 0<|
 q 4 (.bin .geq (.t 3) (.c (.int .u64 4294967296)))<|
 .keep [0,2,4]<|
 .ite (.t 4)
 (Qm 5 0<|
 q 6 (.bin .shr (.t 5) (.c (.int .u64 32)))<|
 Qm 0 6<|
 .keep [0]<|
 q 2 (.mv (ci 32))<|
 .keep [0,2]<|
 .done)
 (.done)<|
 Qm 7 0<|
 q 8 (.bin .geq (.t 7) (.c (.int .u64 65536)))<|
 .keep [0,2,8]<|
 .ite (.t 8)
 (Qm 9 0<|
 q 10 (.bin .shr (.t 9) (.c (.int .u64 16)))<|
 Qm 0 10<|
 .keep [0,2]<|
 Qm 11 2<|
 q 12 (.bin .add (.t 11) (ci 16))<|
 Qm 2 12<|
 .keep [0,2]<|
 .done)
 (.done)<|
 Qm 13 0<|
 q 14 (.bin .geq (.t 13) (.c (.int .u64 256)))<|
 .keep [0,2,14]<|
 .ite (.t 14)
 (Qm 15 0<|
 q 16 (.bin .shr (.t 15) (.c (.int .u64 8)))<|
 Qm 0 16<|
 .keep [0,2]<|
 Qm 17 2<|
 q 18 (.bin .add (.t 17) (ci 8))<|
 Qm 2 18<|
 .keep [0,2]<|
 .done)
 (.done)<|
 Qm 19 2<|
 Qm 20 0<|
 q 21 (.conv .u8 (.t 20))<|
 q 22 (.sidx (.c (.string ⟨#[0,1,2,2,3,3,3,3,4,4,4,4,4,4,4,4,5,5,5,5,5,5,5,5,5,5,5,5,5,5,5,5,6,6,6,6,6,6,6,6,6,6,6,6,6,6,6,6,6,6,6,6,6,6,6,6,6,6,6,6,6,6,6,6,7,7,7,7,7,7,7,7,7,7,7,7,7,7,7,7,7,7,7,7,7,7,7,7,7,7,7,7,7,7,7,7,7,7,7,7,7,7,7,7,7,7,7,7,7,7,7,7,7,7,7,7,7,7,7,7,7,7,7,7,7,7,7,7,8,8,8,8,8,8,8,8,8,8,8,8,8,8,8,8,8,8,8,8,8,8,8,8,8,8,8,8,8,8,8,8,8,8,8,8,8,8,8,8,8,8,8,8,8,8,8,8,8,8,8,8,8,8,8,8,8,8,8,8,8,8,8,8,8,8,8,8,8,8,8,8,8,8,8,8,8,8,8,8,8,8,8,8,8,8,8,8,8,8,8,8,8,8,8,8,8,8,8,8,8,8,8,8,8,8,8,8,8,8,8,8,8,8,8,8,8,8,8,8,8,8,8,8,8,8,8,8]⟩)) (.t 21))<|
 q 23 (.conv .i64 (.t 22))<|
 q 24 (.bin .add (.t 19) (.t 23))<|
 Qm 2 24<|
 .keep [2]<|
 .ret
theorem K4:EF false F.math_bits_Len64 Se [.t 2]:=ef [] Tryz.func269 (by kernel_rfl) (by kernel_rfl) (by kernel_rfl)
def Gd : IC :=
 Qb 2 0<|
 Qb 3 1<|
 q 4 (.alloc (List.replicate 8 (.int .u64 0)))<|
 .keep [2,3,4]<|
 q 5 (.alloc (List.replicate 8 (.int .u64 0)))<|
 .keep [2,3,4,5]<|
 Qa 14 4 2<|
 q 15 (.mv (ci 0))<|
 .keep [3,4,5,14,15]<|
 .block 0
 (.keep [3,4,5,14,15]<|
 .loop
 (q 16 (.bin .lss (.t 15) (ci 4))<|
 .keep [3,4,5,14,15,16]<|
 .ite (.t 16)
 (.done)
 (.exit 0)<|
 .block 1
 (Qm 17 15<|
 q 18 (.idx false 1 4 (.t 14) (.t 15))<|
 Qm 6 17<|
 Qm 7 18<|
 .keep [3,4,5,6,7,14,15]<|
 q 8 (.mv (.c (.int .u64 0)))<|
 .keep [3,4,5,6,7,8,14,15]<|
 Qa 19 4 3<|
 q 20 (.mv (ci 0))<|
 .keep [3,4,5,6,7,8,14,15,19,20]<|
 .block 2
 (.keep [3,4,5,6,7,8,14,15,19,20]<|
 .loop
 (q 21 (.bin .lss (.t 20) (ci 4))<|
 .keep [3,4,5,6,7,8,14,15,19,20,21]<|
 .ite (.t 21)
 (.done)
 (.exit 2)<|
 .block 3
 (Qm 22 20<|
 q 23 (.idx false 1 4 (.t 19) (.t 20))<|
 Qm 9 22<|
 Qm 10 23<|
 .keep [3,4,5,6,7,8,9,10,14,15,19,20]<|
 Qm 25 7<|
 Qm 26 10<|
 q 27 (.call F.math_bits_Mul64 [(.t 25),(.t 26)])<|
 Qm 24 27<|
 Qe 28 24 0<|
 Qe 29 24 1<|
 Qm 11 28<|
 Qm 12 29<|
 .keep [3,4,5,6,7,8,9,11,12,14,15,19,20]<|
 Qm 31 12<|
 Qm 32 6<|
 Qm 33 9<|
 q 34 (.bin .add (.t 32) (.t 33))<|
 q 35 (.idxa 1 (some 8) (.t 5) (.t 34))<|
 Ql 36 1 35<|
 q 37 (.carry false (.t 31) (.t 36) (.c (.int .u64 0)))<|
 Qm 30 37<|
 Qe 38 30 0<|
 Qe 39 30 1<|
 Qm 12 38<|
 Qm 13 39<|
 .keep [3,4,5,6,7,8,9,11,12,13,14,15,19,20]<|
 Qm 40 11<|
 Qm 41 13<|
 q 42 (.bin .add (.t 40) (.t 41))<|
 Qm 11 42<|
 .keep [3,4,5,6,7,8,9,11,12,14,15,19,20]<|
 Qm 44 12<|
 Qm 45 8<|
 q 46 (.carry false (.t 44) (.t 45) (.c (.int .u64 0)))<|
 Qm 43 46<|
 Qe 47 43 0<|
 Qe 48 43 1<|
 Qm 12 47<|
 Qm 13 48<|
 .keep [3,4,5,6,7,9,11,12,13,14,15,19,20]<|
 Qm 49 6<|
 Qm 50 9<|
 q 51 (.bin .add (.t 49) (.t 50))<|
 Qm 52 12<|
 Qm 53 11<|
 Qm 54 13<|
 q 55 (.bin .add (.t 53) (.t 54))<|
 q 56 (.idxa 1 (some 8) (.t 5) (.t 51))<|
 Qs 1 56 52<|
 Qm 8 55<|
 .keep [3,4,5,6,7,8,14,15,19,20]<|
 .done)<|
 q 57 (.bin .add (.t 20) (ci 1))<|
 Qm 20 57<|
 .keep [3,4,5,6,7,8,14,15,19,20]<|
 .keep [3,4,5,6,7,8,14,15,19,20]<|
 .done))<|
 Qm 58 6<|
 q 59 (.bin .add (.t 58) (ci 4))<|
 Qm 60 8<|
 q 61 (.idxa 1 (some 8) (.t 5) (.t 59))<|
 Qs 1 61 60<|
 .keep [3,4,5,14,15]<|
 .done)<|
 q 62 (.bin .add (.t 15) (ci 1))<|
 Qm 15 62<|
 .keep [3,4,5,14,15]<|
 .keep [3,4,5,14,15]<|
 .done))<|
 Qa 63 8 5<|
 Qs 8 4 63<|
 .keep [4]<|
 .ret
theorem Zid:EF false F.limb_Mul Gd [.c 4 true 8]:=ef [] Tryz.func273 (by kernel_rfl) (by kernel_rfl) (by kernel_rfl)
def Gc : IC :=
 Qb 2 0<|
 Qb 3 1<|
 q 4 (.alloc (List.replicate 4 (.int .u64 0)))<|
 q 5 (.mv (cb false))<|
 .keep [2,3,4]<|
 q 6 (.alloc (List.replicate 4 (.int .u64 0)))<|
 .keep [2,3,4,6]<|
 q 7 (.mv (.c (.int .u64 0)))<|
 .keep [2,3,4,6,7]<|
 q 9 (.mv (ci 0))<|
 .keep [2,3,4,6,7,9]<|
 .block 0
 (.keep [2,3,4,6,7,9]<|
 .loop
 (q 10 (.bin .lss (.t 9) (ci 4))<|
 .keep [2,3,4,6,7,9,10]<|
 .ite (.t 10)
 (.done)
 (.exit 0)<|
 .block 1
 (Qm 11 9<|
 Qm 8 11<|
 .keep [2,3,4,6,7,8,9]<|
 Qm 13 8<|
 Qm 14 8<|
 q 15 (.idxa 1 (some 4) (.t 2) (.t 14))<|
 Ql 16 1 15<|
 Qm 17 8<|
 q 18 (.idxa 1 (some 4) (.t 3) (.t 17))<|
 Ql 19 1 18<|
 Qm 20 7<|
 q 21 (.carry true (.t 16) (.t 19) (.t 20))<|
 Qm 12 21<|
 Qe 22 12 0<|
 Qe 23 12 1<|
 q 24 (.idxa 1 (some 4) (.t 6) (.t 13))<|
 Qs 1 24 22<|
 Qm 7 23<|
 .keep [2,3,4,6,7,9]<|
 .done)<|
 q 25 (.bin .add (.t 9) (ci 1))<|
 Qm 9 25<|
 .keep [2,3,4,6,7,9]<|
 .keep [2,3,4,6,7,9]<|
 .done))<|
 Qa 26 4 6<|
 Qm 27 7<|
 q 28 (.bin .gtr (.t 27) (.c (.int .u64 0)))<|
 Qs 4 4 26<|
 Qm 5 28<|
 .keep [4,5]<|
 .ret
theorem Zic:EF false F.limb_Sub Gc [.c 4 true 4,.t 5]:=ef [] Tryz.func276 (by kernel_rfl) (by kernel_rfl) (by kernel_rfl)
def Gi : IC :=
 Qb 2 0<|
 Qb 3 1<|
 q 4 (.alloc (List.replicate 4 (.int .u64 0)))<|
 q 5 (.mv (cb false))<|
 .keep [2,3,4]<|
 q 6 (.alloc (List.replicate 4 (.int .u64 0)))<|
 .keep [2,3,4,6]<|
 q 7 (.mv (.c (.int .u64 0)))<|
 .keep [2,3,4,6,7]<|
 q 9 (.mv (ci 0))<|
 .keep [2,3,4,6,7,9]<|
 .block 0
 (.keep [2,3,4,6,7,9]<|
 .loop
 (q 10 (.bin .lss (.t 9) (ci 4))<|
 .keep [2,3,4,6,7,9,10]<|
 .ite (.t 10)
 (.done)
 (.exit 0)<|
 .block 1
 (Qm 11 9<|
 Qm 8 11<|
 .keep [2,3,4,6,7,8,9]<|
 Qm 13 8<|
 Qm 14 8<|
 q 15 (.idxa 1 (some 4) (.t 2) (.t 14))<|
 Ql 16 1 15<|
 Qm 17 8<|
 q 18 (.idxa 1 (some 4) (.t 3) (.t 17))<|
 Ql 19 1 18<|
 Qm 20 7<|
 q 21 (.carry false (.t 16) (.t 19) (.t 20))<|
 Qm 12 21<|
 Qe 22 12 0<|
 Qe 23 12 1<|
 q 24 (.idxa 1 (some 4) (.t 6) (.t 13))<|
 Qs 1 24 22<|
 Qm 7 23<|
 .keep [2,3,4,6,7,9]<|
 .done)<|
 q 25 (.bin .add (.t 9) (ci 1))<|
 Qm 9 25<|
 .keep [2,3,4,6,7,9]<|
 .keep [2,3,4,6,7,9]<|
 .done))<|
 Qa 26 4 6<|
 Qm 27 7<|
 q 28 (.bin .gtr (.t 27) (.c (.int .u64 0)))<|
 Qs 4 4 26<|
 Qm 5 28<|
 .keep [4,5]<|
 .ret
theorem Zih:EF false F.limb_Add Gi [.c 4 true 4,.t 5]:=ef [] Tryz.func278 (by kernel_rfl) (by kernel_rfl) (by kernel_rfl)
def La : IC :=
 Qb 1 0<|
 q 2 (.mv (.c (.slice none 0 0)))<|
 .keep [1]<|
 q 5 (.mksl 1 1 [.int .u8 0] (ci 32) (ci 32))<|
 Qm 3 5<|
 .keep [1,3]<|
 Qm 6 3<|
 Qw 7 6<|
 q 8 (.mv (ci 0))<|
 .keep [1,3,7,8]<|
 .block 0
 (.keep [1,3,7,8]<|
 .loop
 (q 9 (.bin .lss (.t 8) (.t 7))<|
 .keep [1,3,7,8,9]<|
 .ite (.t 9)
 (.done)
 (.exit 0)<|
 .block 1
 (Qm 10 8<|
 Qm 4 10<|
 .keep [1,3,4,7,8]<|
 Qm 11 3<|
 Qm 12 4<|
 q 13 (.bin .sub (ci 31) (.t 12))<|
 Qm 14 4<|
 q 15 (.bin .quo (.t 14) (ci 8))<|
 q 16 (.idxa 1 (some 4) (.t 1) (.t 15))<|
 Ql 17 1 16<|
 Qm 18 4<|
 q 19 (.bin .rem (.t 18) (ci 8))<|
 q 20 (.bin .mul (ci 8) (.t 19))<|
 q 21 (.bin .shr (.t 17) (.t 20))<|
 q 22 (.conv .u8 (.t 21))<|
 q 23 (.idxa 1 none (.t 11) (.t 13))<|
 Qs 1 23 22<|
 .keep [1,3,7,8]<|
 .done)<|
 q 24 (.bin .add (.t 8) (ci 1))<|
 Qm 8 24<|
 .keep [1,3,7,8]<|
 .keep [1,3,7,8]<|
 .done))<|
 Qm 25 3<|
 Qm 2 25<|
 .keep [2]<|
 .ret
theorem A9:EF false F.limb_Bytes La [.t 2]:=ef [] Tryz.func310 (by kernel_rfl) (by kernel_rfl) (by kernel_rfl)
def Sd : IC :=
 q 4 (.mv (.c (.int .u64 0)))<|
 q 5 (.mv (.c (.int .u64 0)))<|
 .keep [0,1]<|
 Qm 14 0<|
 q 15 (.bin .and (.t 14) (.c (.int .u64 4294967295)))<|
 Qm 6 15<|
 .keep [0,1,6]<|
 Qm 16 0<|
 q 17 (.bin .shr (.t 16) (.c (.int .u64 32)))<|
 Qm 7 17<|
 .keep [0,1,6,7]<|
 Qm 18 1<|
 q 19 (.bin .and (.t 18) (.c (.int .u64 4294967295)))<|
 Qm 8 19<|
 .keep [0,1,6,7,8]<|
 Qm 20 1<|
 q 21 (.bin .shr (.t 20) (.c (.int .u64 32)))<|
 Qm 9 21<|
 .keep [0,1,6,7,8,9]<|
 Qm 22 6<|
 Qm 23 8<|
 q 24 (.bin .mul (.t 22) (.t 23))<|
 Qm 10 24<|
 .keep [0,1,6,7,8,9,10]<|
 Qm 25 7<|
 Qm 26 8<|
 q 27 (.bin .mul (.t 25) (.t 26))<|
 Qm 28 10<|
 q 29 (.bin .shr (.t 28) (.c (.int .u64 32)))<|
 q 30 (.bin .add (.t 27) (.t 29))<|
 Qm 11 30<|
 .keep [0,1,6,7,9,11]<|
 Qm 31 11<|
 q 32 (.bin .and (.t 31) (.c (.int .u64 4294967295)))<|
 Qm 12 32<|
 .keep [0,1,6,7,9,11,12]<|
 Qm 33 11<|
 q 34 (.bin .shr (.t 33) (.c (.int .u64 32)))<|
 Qm 13 34<|
 .keep [0,1,6,7,9,12,13]<|
 Qm 35 12<|
 Qm 36 6<|
 Qm 37 9<|
 q 38 (.bin .mul (.t 36) (.t 37))<|
 q 39 (.bin .add (.t 35) (.t 38))<|
 Qm 12 39<|
 .keep [0,1,7,9,12,13]<|
 Qm 40 7<|
 Qm 41 9<|
 q 42 (.bin .mul (.t 40) (.t 41))<|
 Qm 43 13<|
 q 44 (.bin .add (.t 42) (.t 43))<|
 Qm 45 12<|
 q 46 (.bin .shr (.t 45) (.c (.int .u64 32)))<|
 q 47 (.bin .add (.t 44) (.t 46))<|
 Qm 4 47<|
 .keep [0,1,4]<|
 Qm 48 0<|
 Qm 49 1<|
 q 50 (.bin .mul (.t 48) (.t 49))<|
 Qm 5 50<|
 .keep [4,5]<|
 .ret
theorem Kz:EF false F.math_bits_Mul64 Sd [.t 4,.t 5]:=ef [] Tryz.func315 (by kernel_rfl) (by kernel_rfl) (by kernel_rfl)
def Js : IC :=
 Qb 1 0<|
 q 2 (.alloc (List.replicate 4 (.int .u64 0)))<|
 .keep [1,2]<|
 q 4 (.mv (ci 0))<|
 .keep [1,2,4]<|
 .block 0
 (.keep [1,2,4]<|
 .loop
 (q 5 (.bin .lss (.t 4) (ci 4))<|
 .keep [1,2,4,5]<|
 .ite (.t 5)
 (.done)
 (.exit 0)<|
 .block 1
 (Qm 6 4<|
 Qm 3 6<|
 .keep [1,2,3,4]<|
 Qm 7 3<|
 q 8 (.idxa 1 (some 4) (.t 1) (.t 7))<|
 Ql 9 1 8<|
 q 10 (.bin .shr (.t 9) (.c (.int .u64 1)))<|
 q 11 (.idxa 1 (some 4) (.t 1) (.t 7))<|
 Qs 1 11 10<|
 .keep [1,2,3,4]<|
 Qm 12 3<|
 q 13 (.bin .add (.t 12) (ci 1))<|
 q 14 (.bin .lss (.t 13) (ci 4))<|
 .keep [1,2,3,4,14]<|
 .ite (.t 14)
 (Qm 15 3<|
 q 16 (.idxa 1 (some 4) (.t 1) (.t 15))<|
 Ql 17 1 16<|
 Qm 18 3<|
 q 19 (.bin .add (.t 18) (ci 1))<|
 q 20 (.idxa 1 (some 4) (.t 1) (.t 19))<|
 Ql 21 1 20<|
 q 22 (.bin .shl (.t 21) (.c (.int .u64 63)))<|
 q 23 (.bin .or (.t 17) (.t 22))<|
 q 24 (.idxa 1 (some 4) (.t 1) (.t 15))<|
 Qs 1 24 23<|
 .keep [1,2,4]<|
 .done)
 (.done)<|
 .done)<|
 q 25 (.bin .add (.t 4) (ci 1))<|
 Qm 4 25<|
 .keep [1,2,4]<|
 .keep [1,2,4]<|
 .done))<|
 Qa 26 4 1<|
 Qs 4 2 26<|
 .keep [2]<|
 .ret
theorem Zc3:EF false F.limb_Half Js [.c 2 true 4]:=ef [] Tryz.func317 (by kernel_rfl) (by kernel_rfl) (by kernel_rfl)
def W1 : IC :=
 q 4 (.mv (.c (.int .u32 0)))<|
 .keep [0,1]<|
 Qm 6 1<|
 q 7 (.conv .u64 (.t 6))<|
 q 8 (.bin .and (.t 7) (.c (.int .u64 31)))<|
 Qm 5 8<|
 .keep [0,5]<|
 Qm 9 0<|
 Qm 10 5<|
 q 11 (.bin .shl (.t 9) (.t 10))<|
 Qm 12 0<|
 Qm 13 5<|
 q 14 (.bin .sub (.c (.int .u64 32)) (.t 13))<|
 q 15 (.bin .shr (.t 12) (.t 14))<|
 q 16 (.bin .or (.t 11) (.t 15))<|
 Qm 4 16<|
 .keep [4]<|
 .ret
theorem Ri:EF false F.math_bits_RotateLeft32 W1 [.t 4]:=ef [] Tryz.func348 (by kernel_rfl) (by kernel_rfl) (by kernel_rfl)
set_option maxRecDepth 20000
def Jv : IC :=
 Qb 1 0<|
 q 2 (.mv (.c (.pointer none)))<|
 q 3 (.mv (.c (.nilIface)))<|
 .keep [1]<|
 q 6 (.idxa 1 (some 4) (.t 1) (ci 0))<|
 Ql 7 1 6<|
 q 8 (.bin .and (.t 7) (.c (.int .u64 1)))<|
 q 9 (.bin .eql (.t 8) (.c (.int .u64 0)))<|
 Qm 10 9<|
 Ga 11 10 false 4 1<|
 qg 12 10 false (.call F.limb_Len [(.t 11)])<|
 qg 13 10 false (.bin .lss (.t 12) (ci 2))<|
 Qo 14 10 13<|
 .keep [1,14]<|
 .ite (.t 14)
 (q 15 (.mkif T.api_Code (ci 1))<|
 q 2 (.mv (.c (.pointer none)))<|
 Qm 3 15<|
 .keep [2,3]<|
 .ret)
 (.done)<|
 q 4 (.mv (.c (.int .u64 1)))<|
 .keep [1,4]<|
 q 16 (.mv (ci 0))<|
 .keep [1,4,16]<|
 .block 0
 (.keep [1,4,16]<|
 .loop
 (q 17 (.bin .lss (.t 16) (ci 6))<|
 .keep [1,4,16,17]<|
 .ite (.t 17)
 (.done)
 (.exit 0)<|
 .block 1
 (Qm 18 4<|
 q 19 (.idxa 1 (some 4) (.t 1) (ci 0))<|
 Ql 20 1 19<|
 Qm 21 4<|
 q 22 (.bin .mul (.t 20) (.t 21))<|
 q 23 (.bin .sub (.c (.int .u64 2)) (.t 22))<|
 q 24 (.bin .mul (.t 18) (.t 23))<|
 Qm 4 24<|
 .keep [1,4,16]<|
 .done)<|
 q 25 (.bin .add (.t 16) (ci 1))<|
 Qm 16 25<|
 .keep [1,4,16]<|
 .keep [1,4,16]<|
 .done))<|
 Qa 26 4 1<|
 Qm 27 4<|
 q 28 (.un .neg (.t 27))<|
 q 29 (.build (List.replicate 13 (.int .u64 0)) [(0,4,(.t 26)),(4,1,(.t 28))])<|
 Qb 30 29<|
 Qm 5 30<|
 .keep [5]<|
 Qm 31 5<|
 Qm 32 5<|
 q 33 (.build (List.replicate 8 (.int .u64 0)) [(4,1,(.c (.int .u64 1)))])<|
 q 34 (.call F.field_Field_Cut [(.t 32),(.t 33)])<|
 q 35 (.nilchk (.t 31))<|
 Qf 36 5 35<|
 Qs 4 36 34<|
 .keep [5]<|
 Qm 37 5<|
 Qm 38 5<|
 Qm 39 5<|
 q 40 (.nilchk (.t 39))<|
 Qf 41 5 40<|
 Qa 42 4 41<|
 Qm 43 5<|
 q 44 (.nilchk (.t 43))<|
 Qf 45 5 44<|
 Qa 46 4 45<|
 q 47 (.call F.limb_Mul [(.t 42),(.t 46)])<|
 q 48 (.call F.field_Field_Cut [(.t 38),(.t 47)])<|
 q 49 (.nilchk (.t 37))<|
 Qf 50 9 49<|
 Qs 4 50 48<|
 .keep [5]<|
 Qm 51 5<|
 Qm 2 51<|
 q 3 (.mv (.c (.nilIface)))<|
 .keep [2,3]<|
 .ret
theorem Zc6:EF false F.field_New Jv [.t 2,.t 3]:=ef [] Tryz.func186 (by kernel_rfl) (by kernel_rfl) (by kernel_rfl)
def Si : IC :=
 Qb 3 1<|
 q 4 (.alloc (List.replicate 4 (.int .u64 0)))<|
 q 5 (.mv (.c (.nilIface)))<|
 .keep [0,3,4]<|
 .reg 2
 [xe 10 (.mv (.t 0)) [],
 xe 11 (.mv (.t 0)) [],
 xe 12 (.load true 4 (.t 3)) [],
 xe 13 (.call F.field_Field_in [(.t 11),(.t 12)]) [],
 xe 14 (.build (List.replicate 4 (.int .u64 0)) [(0,1,(.c (.int .u64 1)))]) [],
 xe 15 (.build (List.replicate 8 (.int .u64 0)) [(0,4,(.t 13)),(4,4,(.t 14))]) [],
 xe 16 (.call F.field_Field_odd [(.t 10),(.t 15)]) [],
 xe 17 (.mv (.t 0)) [],
 xe 18 (.nilchk (.t 17)) [],
 xe 19 (.fld 0 (.t 18)) [],
 xe 20 (.load true 4 (.t 19)) [],
 xe 21 (.build (List.replicate 4 (.int .u64 0)) []) [],
 xe 22 (.build (List.replicate 8 (.int .u64 0)) [(0,4,(.t 20)),(4,4,(.t 21))]) [],
 xa 0 6 (.alloc (List.replicate 8 (.int .u64 0))),
 xa 1 7 (.alloc (List.replicate 8 (.int .u64 0))),
 xmn (.store 8 (.t 6) (.t 16)) [],
 xln (.store 8 (.t 7) (.t 22)) []]<|
 .keep [0,4,6,7]<|
 .block 0
 (.keep [0,4,6,7]<|
 .loop
 (Qf 23 0 6<|
 Qa 24 4 23<|
 q 25 (.build (List.replicate 4 (.int .u64 0)) [])<|
 q 26 (.eqagg (List.replicate 4 (some .u64)) true (.t 24) (.t 25))<|
 .keep [0,4,6,7,26]<|
 .ite (.t 26)
 (.done)
 (.exit 0)<|
 .block 1
 (Qf 27 0 6<|
 Qa 28 4 27<|
 Qf 29 0 7<|
 Qa 30 4 29<|
 q 31 (.call F.limb_Cmp [(.t 28),(.t 30)])<|
 q 32 (.bin .lss (.t 31) (ci 0))<|
 .keep [0,4,6,7,32]<|
 .ite (.t 32)
 (Qa 33 8 7<|
 Qa 34 8 6<|
 Qs 8 6 33<|
 Qs 8 7 34<|
 .keep [0,4,6,7]<|
 .done)
 (.done)<|
 Qf 36 0 6<|
 Qa 37 4 36<|
 Qf 38 0 7<|
 Qa 39 4 38<|
 q 40 (.call F.limb_Sub [(.t 37),(.t 39)])<|
 Qm 35 40<|
 Qe 41 35 0<|
 Qe 42 35 1<|
 q 8 (.alloc (List.replicate 4 (.int .u64 0)))<|
 Qs 4 8 41<|
 Qm 9 42<|
 .keep [0,4,6,7,8]<|
 Qm 43 0<|
 Qa 44 4 8<|
 Qm 45 0<|
 Qf 46 4 6<|
 Qa 47 4 46<|
 Qf 48 4 7<|
 Qa 49 4 48<|
 q 50 (.call F.field_Field_Sub [(.t 45),(.t 47),(.t 49)])<|
 q 51 (.build (List.replicate 8 (.int .u64 0)) [(0,4,(.t 44)),(4,4,(.t 50))])<|
 q 52 (.call F.field_Field_odd [(.t 43),(.t 51)])<|
 Qs 8 6 52<|
 .keep [0,4,6,7]<|
 .done)<|
 .keep [0,4,6,7]<|
 .done))<|
 Qf 53 0 7<|
 Qa 54 4 53<|
 q 55 (.build (List.replicate 4 (.int .u64 0)) [(0,1,(.c (.int .u64 1)))])<|
 q 56 (.eqagg (List.replicate 4 (some .u64)) true (.t 54) (.t 55))<|
 .keep [4,7,56]<|
 .ite (.t 56)
 (q 57 (.build (List.replicate 4 (.int .u64 0)) [])<|
 q 58 (.mkif T.api_Code (ci 4))<|
 Qs 4 4 57<|
 Qm 5 58<|
 .keep [4,5]<|
 .ret)
 (.done)<|
 Qf 59 4 7<|
 Qa 60 4 59<|
 Qs 4 4 60<|
 q 5 (.mv (.c (.nilIface)))<|
 .keep [4,5]<|
 .ret
theorem K8:EF false F.field_Field_Inv Si [.c 4 true 4,.t 5]:=ef [] Tryz.func188 (by kernel_rfl) (by kernel_rfl) (by kernel_rfl)
def Sh : IC :=
 Qb 4 1<|
 Qb 5 2<|
 q 6 (.alloc (List.replicate 4 (.int .u64 0)))<|
 .keep [0,4,5,6]<|
 Qm 7 0<|
 Qm 8 0<|
 Qm 9 0<|
 Qa 10 4 4<|
 q 11 (.call F.field_Field_in [(.t 9),(.t 10)])<|
 Qm 12 0<|
 Qa 13 4 5<|
 q 14 (.call F.field_Field_in [(.t 12),(.t 13)])<|
 q 15 (.call F.field_Field_mont [(.t 8),(.t 11),(.t 14)])<|
 Qm 16 0<|
 q 17 (.nilchk (.t 16))<|
 Qf 18 9 17<|
 Qa 19 4 18<|
 q 20 (.call F.field_Field_mont [(.t 7),(.t 15),(.t 19)])<|
 Qs 4 6 20<|
 .keep [6]<|
 .ret
theorem K7:EF false F.field_Field_Mul Sh [.c 6 true 4]:=ef [] Tryz.func189 (by kernel_rfl) (by kernel_rfl) (by kernel_rfl)
def Sk : IC :=
 Qb 4 1<|
 Qb 5 2<|
 q 6 (.alloc (List.replicate 4 (.int .u64 0)))<|
 .keep [0,4,5,6]<|
 .reg 1
 [xe 10 (.mv (.t 0)) [],
 xe 11 (.load true 4 (.t 4)) [],
 xe 12 (.call F.field_Field_in [(.t 10),(.t 11)]) [],
 xe 13 (.mv (.t 0)) [],
 xe 14 (.load true 4 (.t 5)) [],
 xe 15 (.call F.field_Field_in [(.t 13),(.t 14)]) [],
 xe 16 (.call F.limb_Add [(.t 12),(.t 15)]) [],
 xe 9 (.mv (.t 16)) [],
 xe 17 (.ext (.t 9) 0) [],
 xe 18 (.ext (.t 9) 1) [],
 xa 0 7 (.alloc (List.replicate 4 (.int .u64 0))),
 xln (.store 4 (.t 7) (.t 17)) [],
 xl 8 (.mv (.t 18)) []]<|
 .keep [0,6,7,8]<|
 Qm 19 0<|
 Qa 20 4 7<|
 Qm 21 8<|
 q 22 (.call F.field_Field_less [(.t 19),(.t 20),(.t 21)])<|
 Qs 4 6 22<|
 .keep [6]<|
 .ret
theorem Ja:EF false F.field_Field_Add Sk [.c 6 true 4]:=ef [] Tryz.func192 (by kernel_rfl) (by kernel_rfl) (by kernel_rfl)
def Sg : IC :=
 Qb 4 1<|
 Qb 5 2<|
 q 6 (.alloc (List.replicate 4 (.int .u64 0)))<|
 .keep [0,4,5,6]<|
 .reg 1
 [xe 10 (.mv (.t 0)) [],
 xe 11 (.load true 4 (.t 4)) [],
 xe 12 (.call F.field_Field_in [(.t 10),(.t 11)]) [],
 xe 13 (.mv (.t 0)) [],
 xe 14 (.load true 4 (.t 5)) [],
 xe 15 (.call F.field_Field_in [(.t 13),(.t 14)]) [],
 xe 16 (.call F.limb_Sub [(.t 12),(.t 15)]) [],
 xe 9 (.mv (.t 16)) [],
 xe 17 (.ext (.t 9) 0) [],
 xe 18 (.ext (.t 9) 1) [],
 xa 0 7 (.alloc (List.replicate 4 (.int .u64 0))),
 xln (.store 4 (.t 7) (.t 17)) [],
 xl 8 (.mv (.t 18)) []]<|
 .keep [0,6,7,8]<|
 Qm 19 8<|
 .keep [0,6,7,19]<|
 .ite (.t 19)
 (Qa 21 4 7<|
 Qm 22 0<|
 q 23 (.nilchk (.t 22))<|
 Qf 24 0 23<|
 Qa 25 4 24<|
 q 26 (.call F.limb_Add [(.t 21),(.t 25)])<|
 Qm 20 26<|
 Qe 27 20 0<|
 Qe 28 20 1<|
 Qs 4 7 27<|
 .keep [6,7]<|
 .done)
 (.done)<|
 Qa 29 4 7<|
 Qs 4 6 29<|
 .keep [6]<|
 .ret
theorem K6:EF false F.field_Field_Sub Sg [.c 6 true 4]:=ef [] Tryz.func265 (by kernel_rfl) (by kernel_rfl) (by kernel_rfl)
def Sj : IC :=
 Qb 3 1<|
 q 4 (.alloc (List.replicate 4 (.int .u64 0)))<|
 .keep [0,3,4]<|
 q 5 (.alloc (List.replicate 4 (.int .u64 0)))<|
 .keep [0,3,4,5]<|
 q 6 (.mv (ci 511))<|
 .keep [0,3,4,5,6]<|
 .block 0
 (.keep [0,3,4,5,6]<|
 .loop
 (Qm 9 6<|
 q 10 (.bin .geq (.t 9) (ci 0))<|
 .keep [0,3,4,5,6,10]<|
 .ite (.t 10)
 (.done)
 (.exit 0)<|
 .block 1
 (Qa 14 4 5<|
 Qa 15 4 5<|
 q 16 (.call F.limb_Add [(.t 14),(.t 15)])<|
 Qm 13 16<|
 Qe 17 13 0<|
 Qe 18 13 1<|
 q 7 (.alloc (List.replicate 4 (.int .u64 0)))<|
 Qs 4 7 17<|
 Qm 8 18<|
 .keep [0,3,4,5,6,7,8]<|
 q 19 (.idxa 1 (some 4) (.t 7) (ci 0))<|
 Ql 20 1 19<|
 Qm 21 6<|
 q 22 (.bin .quo (.t 21) (ci 64))<|
 q 23 (.idxa 1 (some 8) (.t 3) (.t 22))<|
 Ql 24 1 23<|
 Qm 25 6<|
 q 26 (.bin .rem (.t 25) (ci 64))<|
 q 27 (.bin .shr (.t 24) (.t 26))<|
 q 28 (.bin .and (.t 27) (.c (.int .u64 1)))<|
 q 29 (.bin .or (.t 20) (.t 28))<|
 q 30 (.idxa 1 (some 4) (.t 7) (ci 0))<|
 Qs 1 30 29<|
 .keep [0,3,4,5,6,7,8]<|
 Qm 31 0<|
 Qa 32 4 7<|
 Qm 33 8<|
 q 34 (.call F.field_Field_less [(.t 31),(.t 32),(.t 33)])<|
 Qs 4 5 34<|
 .keep [0,3,4,5,6]<|
 .done)<|
 Qm 11 6<|
 q 12 (.bin .sub (.t 11) (ci 1))<|
 Qm 6 12<|
 .keep [0,3,4,5,6]<|
 .keep [0,3,4,5,6]<|
 .done))<|
 Qa 35 4 5<|
 Qs 4 4 35<|
 .keep [4]<|
 .ret
theorem K9:EF false F.field_Field_Cut Sj [.c 4 true 4]:=ef [] Tryz.func272 (by kernel_rfl) (by kernel_rfl) (by kernel_rfl)
def Sf : IC :=
 Qb 3 1<|
 q 4 (.alloc (List.replicate 8 (.int .u64 0)))<|
 .keep [0,3,4]<|
 .block 0
 (.keep [0,3,4]<|
 .loop
 (Qf 5 0 3<|
 Qa 6 4 5<|
 q 7 (.build (List.replicate 4 (.int .u64 0)) [])<|
 q 8 (.eqagg (List.replicate 4 (some .u64)) true (.t 6) (.t 7))<|
 Qm 9 8<|
 Gf 10 9 true 0 3<|
 qg 11 9 true (.idxa 1 (some 4) (.t 10) (ci 0))<|
 Gl 12 9 true 1 11<|
 qg 13 9 true (.bin .and (.t 12) (.c (.int .u64 1)))<|
 qg 14 9 true (.bin .eql (.t 13) (.c (.int .u64 0)))<|
 Qk 15 9 14<|
 .keep [0,3,4,15]<|
 .ite (.t 15)
 (.done)
 (.exit 0)<|
 .block 1
 (Qf 16 0 3<|
 Qa 17 4 16<|
 q 18 (.call F.limb_Half [(.t 17)])<|
 Qm 19 0<|
 Qf 20 4 3<|
 Qa 21 4 20<|
 q 22 (.call F.field_Field_half [(.t 19),(.t 21)])<|
 Qf 23 0 3<|
 Qs 4 23 18<|
 Qf 24 4 3<|
 Qs 4 24 22<|
 .keep [0,3,4]<|
 .done)<|
 .keep [0,3,4]<|
 .done))<|
 Qa 25 8 3<|
 Qs 8 4 25<|
 .keep [4]<|
 .ret
theorem K5:EF false F.field_Field_odd Sf [.c 4 true 8]:=ef [] Tryz.func274 (by kernel_rfl) (by kernel_rfl) (by kernel_rfl)
def Rg : IC :=
 Qb 3 1<|
 q 4 (.alloc (List.replicate 4 (.int .u64 0)))<|
 .keep [0,3,4]<|
 Qa 5 4 3<|
 Qm 6 0<|
 q 7 (.nilchk (.t 6))<|
 Qf 8 0 7<|
 Qa 9 4 8<|
 q 10 (.call F.limb_Cmp [(.t 5),(.t 9)])<|
 q 11 (.bin .lss (.t 10) (ci 0))<|
 .keep [0,3,4,11]<|
 .ite (.t 11)
 (Qa 12 4 3<|
 Qs 4 4 12<|
 .keep [4]<|
 .ret)
 (.done)<|
 Qm 13 0<|
 q 14 (.idxa 1 (some 4) (.t 3) (ci 0))<|
 Ql 15 1 14<|
 q 16 (.idxa 1 (some 4) (.t 3) (ci 1))<|
 Ql 17 1 16<|
 q 18 (.idxa 1 (some 4) (.t 3) (ci 2))<|
 Ql 19 1 18<|
 q 20 (.idxa 1 (some 4) (.t 3) (ci 3))<|
 Ql 21 1 20<|
 q 22 (.build (List.replicate 8 (.int .u64 0)) [(0,1,(.t 15)),(1,1,(.t 17)),(2,1,(.t 19)),(3,1,(.t 21))])<|
 q 23 (.call F.field_Field_Cut [(.t 13),(.t 22)])<|
 Qs 4 4 23<|
 .keep [4]<|
 .ret
theorem Id:EF false F.field_Field_in Rg [.c 4 true 4]:=ef [] Tryz.func275 (by kernel_rfl) (by kernel_rfl) (by kernel_rfl)
def Tp : IC :=
 Qb 4 1<|
 Qb 5 2<|
 q 6 (.alloc (List.replicate 4 (.int .u64 0)))<|
 .keep [0,4,5,6]<|
 q 7 (.alloc (List.replicate 6 (.int .u64 0)))<|
 .keep [0,4,5,6,7]<|
 Qa 16 4 5<|
 q 17 (.mv (ci 0))<|
 .keep [0,4,6,7,16,17]<|
 .block 0
 (.keep [0,4,6,7,16,17]<|
 .loop
 (q 18 (.bin .lss (.t 17) (ci 4))<|
 .keep [0,4,6,7,16,17,18]<|
 .ite (.t 18)
 (.done)
 (.exit 0)<|
 .block 1
 (q 19 (.idx false 1 4 (.t 16) (.t 17))<|
 Qm 9 19<|
 .keep [0,4,6,7,9,16,17]<|
 q 10 (.mv (.c (.int .u64 0)))<|
 q 11 (.mv (.c (.int .u64 0)))<|
 .keep [0,4,6,7,9,10,16,17]<|
 Qa 20 4 4<|
 q 21 (.mv (ci 0))<|
 .keep [0,4,6,7,9,10,16,17,20,21]<|
 .block 2
 (.keep [0,4,6,7,9,10,16,17,20,21]<|
 .loop
 (q 22 (.bin .lss (.t 21) (ci 4))<|
 .keep [0,4,6,7,9,10,16,17,20,21,22]<|
 .ite (.t 22)
 (.done)
 (.exit 2)<|
 .block 3
 (Qm 23 21<|
 q 24 (.idx false 1 4 (.t 20) (.t 21))<|
 Qm 12 23<|
 Qm 13 24<|
 .keep [0,4,6,7,9,10,12,13,16,17,20,21]<|
 Qm 26 12<|
 Qm 27 13<|
 Qm 28 9<|
 Qm 29 12<|
 q 30 (.idxa 1 (some 6) (.t 7) (.t 29))<|
 Ql 31 1 30<|
 Qm 32 10<|
 q 33 (.call F.field_step [(.t 27),(.t 28),(.t 31),(.t 32)])<|
 Qm 25 33<|
 Qe 34 25 0<|
 Qe 35 25 1<|
 q 36 (.idxa 1 (some 6) (.t 7) (.t 26))<|
 Qs 1 36 34<|
 Qm 10 35<|
 .keep [0,4,6,7,9,10,16,17,20,21]<|
 .done)<|
 q 37 (.bin .add (.t 21) (ci 1))<|
 Qm 21 37<|
 .keep [0,4,6,7,9,10,16,17,20,21]<|
 .keep [0,4,6,7,9,10,16,17,20,21]<|
 .done))<|
 q 39 (.idxa 1 (some 6) (.t 7) (ci 4))<|
 Ql 40 1 39<|
 Qm 41 10<|
 q 42 (.carry false (.t 40) (.t 41) (.c (.int .u64 0)))<|
 Qm 38 42<|
 Qe 43 38 0<|
 Qe 44 38 1<|
 q 45 (.idxa 1 (some 6) (.t 7) (ci 4))<|
 Qs 1 45 43<|
 q 46 (.idxa 1 (some 6) (.t 7) (ci 5))<|
 Qs 1 46 44<|
 .keep [0,4,6,7,16,17]<|
 q 47 (.idxa 1 (some 6) (.t 7) (ci 0))<|
 Ql 48 1 47<|
 Qm 49 0<|
 q 50 (.nilchk (.t 49))<|
 Qf 51 4 50<|
 Ql 52 1 51<|
 q 53 (.bin .mul (.t 48) (.t 52))<|
 Qm 14 53<|
 .keep [0,4,6,7,14,16,17]<|
 Qm 55 14<|
 Qm 56 0<|
 q 57 (.nilchk (.t 56))<|
 Qf 58 0 57<|
 q 59 (.idxa 1 (some 4) (.t 58) (ci 0))<|
 Ql 60 1 59<|
 q 61 (.idxa 1 (some 6) (.t 7) (ci 0))<|
 Ql 62 1 61<|
 q 63 (.call F.field_step [(.t 55),(.t 60),(.t 62),(.c (.int .u64 0))])<|
 Qm 54 63<|
 Qe 64 54 0<|
 Qe 65 54 1<|
 Qm 10 65<|
 .keep [0,4,6,7,10,14,16,17]<|
 q 15 (.mv (ci 1))<|
 .keep [0,4,6,7,10,14,15,16,17]<|
 .block 4
 (.keep [0,4,6,7,10,14,15,16,17]<|
 .loop
 (Qm 66 15<|
 q 67 (.bin .lss (.t 66) (ci 4))<|
 .keep [0,4,6,7,10,14,15,16,17,67]<|
 .ite (.t 67)
 (.done)
 (.exit 4)<|
 .block 5
 (Qm 71 15<|
 q 72 (.bin .sub (.t 71) (ci 1))<|
 Qm 73 14<|
 Qm 74 0<|
 Qm 75 15<|
 q 76 (.nilchk (.t 74))<|
 Qf 77 0 76<|
 q 78 (.idxa 1 (some 4) (.t 77) (.t 75))<|
 Ql 79 1 78<|
 Qm 80 15<|
 q 81 (.idxa 1 (some 6) (.t 7) (.t 80))<|
 Ql 82 1 81<|
 Qm 83 10<|
 q 84 (.call F.field_step [(.t 73),(.t 79),(.t 82),(.t 83)])<|
 Qm 70 84<|
 Qe 85 70 0<|
 Qe 86 70 1<|
 q 87 (.idxa 1 (some 6) (.t 7) (.t 72))<|
 Qs 1 87 85<|
 Qm 10 86<|
 .keep [0,4,6,7,10,14,15,16,17]<|
 .done)<|
 Qm 68 15<|
 q 69 (.bin .add (.t 68) (ci 1))<|
 Qm 15 69<|
 .keep [0,4,6,7,10,14,15,16,17]<|
 .keep [0,4,6,7,10,14,15,16,17]<|
 .done))<|
 q 89 (.idxa 1 (some 6) (.t 7) (ci 4))<|
 Ql 90 1 89<|
 Qm 91 10<|
 q 92 (.carry false (.t 90) (.t 91) (.c (.int .u64 0)))<|
 Qm 88 92<|
 Qe 93 88 0<|
 Qe 94 88 1<|
 q 95 (.idxa 1 (some 6) (.t 7) (ci 3))<|
 Qs 1 95 93<|
 Qm 11 94<|
 .keep [0,4,6,7,11,16,17]<|
 q 96 (.idxa 1 (some 6) (.t 7) (ci 5))<|
 Ql 97 1 96<|
 Qm 98 11<|
 q 99 (.bin .add (.t 97) (.t 98))<|
 q 100 (.idxa 1 (some 6) (.t 7) (ci 4))<|
 Qs 1 100 99<|
 .keep [0,4,6,7,16,17]<|
 .done)<|
 q 101 (.bin .add (.t 17) (ci 1))<|
 Qm 17 101<|
 .keep [0,4,6,7,16,17]<|
 .keep [0,4,6,7,16,17]<|
 .done))<|
 Qm 102 0<|
 q 103 (.idxa 1 (some 6) (.t 7) (ci 0))<|
 Ql 104 1 103<|
 q 105 (.idxa 1 (some 6) (.t 7) (ci 1))<|
 Ql 106 1 105<|
 q 107 (.idxa 1 (some 6) (.t 7) (ci 2))<|
 Ql 108 1 107<|
 q 109 (.idxa 1 (some 6) (.t 7) (ci 3))<|
 Ql 110 1 109<|
 q 111 (.build (List.replicate 4 (.int .u64 0)) [(0,1,(.t 104)),(1,1,(.t 106)),(2,1,(.t 108)),(3,1,(.t 110))])<|
 q 112 (.idxa 1 (some 6) (.t 7) (ci 4))<|
 Ql 113 1 112<|
 q 114 (.bin .gtr (.t 113) (.c (.int .u64 0)))<|
 q 115 (.call F.field_Field_less [(.t 102),(.t 111),(.t 114)])<|
 Qs 4 6 115<|
 .keep [6]<|
 .ret
theorem Lr:EF false F.field_Field_mont Tp [.c 6 true 4]:=ef [] Tryz.func277 (by kernel_rfl) (by kernel_rfl) (by kernel_rfl)
def Tq : IC :=
 Qb 4 1<|
 q 6 (.alloc (List.replicate 4 (.int .u64 0)))<|
 .keep [0,2,4,6]<|
 Qm 7 2<|
 Qm 8 7<|
 Ga 9 8 false 4 4<|
 Gm 10 8 false 0<|
 qg 11 8 false (.nilchk (.t 10))<|
 Gf 12 8 false 0 11<|
 Ga 13 8 false 4 12<|
 qg 14 8 false (.call F.limb_Cmp [(.t 9),(.t 13)])<|
 qg 15 8 false (.bin .geq (.t 14) (ci 0))<|
 Qo 16 8 15<|
 .keep [0,4,6,16]<|
 .ite (.t 16)
 (Qa 18 4 4<|
 Qm 19 0<|
 q 20 (.nilchk (.t 19))<|
 Qf 21 0 20<|
 Qa 22 4 21<|
 q 23 (.call F.limb_Sub [(.t 18),(.t 22)])<|
 Qm 17 23<|
 Qe 24 17 0<|
 Qe 25 17 1<|
 Qs 4 4 24<|
 .keep [4,6]<|
 .done)
 (.done)<|
 Qa 26 4 4<|
 Qs 4 6 26<|
 .keep [6]<|
 .ret
theorem Ls:EF false F.field_Field_less Tq [.c 6 true 4]:=ef [] Tryz.func279 (by kernel_rfl) (by kernel_rfl) (by kernel_rfl)
def Tr : IC :=
 Qb 3 1<|
 q 4 (.alloc (List.replicate 4 (.int .u64 0)))<|
 .keep [0,3,4]<|
 q 7 (.idxa 1 (some 4) (.t 3) (ci 0))<|
 Ql 8 1 7<|
 q 9 (.bin .and (.t 8) (.c (.int .u64 1)))<|
 q 10 (.bin .eql (.t 9) (.c (.int .u64 0)))<|
 .keep [0,3,4,10]<|
 .ite (.t 10)
 (Qa 11 4 3<|
 q 12 (.call F.limb_Half [(.t 11)])<|
 Qs 4 4 12<|
 .keep [4]<|
 .ret)
 (.done)<|
 .reg 1
 [xe 14 (.load true 4 (.t 3)) [],
 xe 15 (.mv (.t 0)) [],
 xe 16 (.nilchk (.t 15)) [],
 xe 17 (.fld 0 (.t 16)) [],
 xe 18 (.load true 4 (.t 17)) [],
 xe 19 (.call F.limb_Add [(.t 14),(.t 18)]) [],
 xe 13 (.mv (.t 19)) [],
 xe 20 (.ext (.t 13) 0) [],
 xe 21 (.ext (.t 13) 1) [],
 xa 0 5 (.alloc (List.replicate 4 (.int .u64 0))),
 xln (.store 4 (.t 5) (.t 20)) [],
 xl 6 (.mv (.t 21)) []]<|
 .keep [4,5,6]<|
 Qa 22 4 5<|
 q 23 (.call F.limb_Half [(.t 22)])<|
 Qs 4 5 23<|
 .keep [4,5,6]<|
 Qm 24 6<|
 .keep [4,5,24]<|
 .ite (.t 24)
 (q 25 (.idxa 1 (some 4) (.t 5) (ci 3))<|
 Ql 26 1 25<|
 q 27 (.bin .or (.t 26) (.c (.int .u64 9223372036854775808)))<|
 q 28 (.idxa 1 (some 4) (.t 5) (ci 3))<|
 Qs 1 28 27<|
 .keep [4,5]<|
 .done)
 (.done)<|
 Qa 29 4 5<|
 Qs 4 4 29<|
 .keep [4]<|
 .ret
theorem Lt:EF false F.field_Field_half Tr [.c 4 true 4]:=ef [] Tryz.func318 (by kernel_rfl) (by kernel_rfl) (by kernel_rfl)
def Ld : IC :=
 q 8 (.mv (.c (.int .u64 0)))<|
 q 9 (.mv (.c (.int .u64 0)))<|
 .keep [0,1,2,3]<|
 Qm 14 0<|
 Qm 15 1<|
 q 16 (.call F.math_bits_Mul64 [(.t 14),(.t 15)])<|
 Qm 13 16<|
 Qe 17 13 0<|
 Qe 18 13 1<|
 Qm 10 17<|
 Qm 11 18<|
 .keep [2,3,10,11]<|
 Qm 20 11<|
 Qm 21 2<|
 q 22 (.carry false (.t 20) (.t 21) (.c (.int .u64 0)))<|
 Qm 19 22<|
 Qe 23 19 0<|
 Qe 24 19 1<|
 Qm 11 23<|
 Qm 12 24<|
 .keep [3,10,11,12]<|
 Qm 25 10<|
 Qm 26 12<|
 q 27 (.bin .add (.t 25) (.t 26))<|
 Qm 10 27<|
 .keep [3,10,11]<|
 Qm 29 11<|
 Qm 30 3<|
 q 31 (.carry false (.t 29) (.t 30) (.c (.int .u64 0)))<|
 Qm 28 31<|
 Qe 32 28 0<|
 Qe 33 28 1<|
 Qm 11 32<|
 Qm 12 33<|
 .keep [10,11,12]<|
 Qm 34 11<|
 Qm 35 10<|
 Qm 36 12<|
 q 37 (.bin .add (.t 35) (.t 36))<|
 Qm 8 34<|
 Qm 9 37<|
 .keep [8,9]<|
 .ret
theorem Zac:EF false F.field_step Ld [.t 8,.t 9]:=ef [] Tryz.func320 (by kernel_rfl) (by kernel_rfl) (by kernel_rfl)
set_option maxRecDepth 20000
def Jp : IC :=
 Qb 2 0<|
 Qb 3 1<|
 q 4 (.alloc [.int .u64 0,.int .u64 0,.int .u64 0,.int .u64 0,.int .u64 0,.int .u64 0,.int .u64 0,.int .u64 0,.bool false])<|
 q 5 (.mv (.c (.nilIface)))<|
 .keep [2,3,4]<|
 q 10 (.call F.point_of [])<|
 q 6 (.alloc [.pointer none,.nilFunc,.nilFunc,.nilFunc])<|
 Qs 4 6 10<|
 .keep [2,3,4,6]<|
 Qa 11 4 6<|
 Qa 12 9 3<|
 q 13 (.call F.point_curve_on [(.t 11),(.t 12)])<|
 q 14 (.un .not (.t 13))<|
 .keep [2,3,4,6,14]<|
 .ite (.t 14)
 (q 15 (.build [.int .u64 0,.int .u64 0,.int .u64 0,.int .u64 0,.int .u64 0,.int .u64 0,.int .u64 0,.int .u64 0,.bool false] [])<|
 q 16 (.mkif T.api_Code (ci 1))<|
 Qs 9 4 15<|
 Qm 5 16<|
 .keep [4,5]<|
 .ret)
 (.done)<|
 q 7 (.alloc (List.replicate 12 (.int .u64 0)))<|
 .keep [2,3,4,6,7]<|
 Qa 17 9 3<|
 q 18 (.call F.point_lift [(.t 17)])<|
 q 8 (.alloc (List.replicate 12 (.int .u64 0)))<|
 Qs 12 8 18<|
 .keep [2,4,6,7,8]<|
 Qa 19 4 2<|
 q 20 (.call F.limb_Len [(.t 19)])<|
 q 21 (.bin .sub (.t 20) (ci 1))<|
 Qm 9 21<|
 .keep [2,4,6,7,8,9]<|
 .block 0
 (.keep [2,4,6,7,8,9]<|
 .loop
 (Qm 22 9<|
 q 23 (.bin .geq (.t 22) (ci 0))<|
 .keep [2,4,6,7,8,9,23]<|
 .ite (.t 23)
 (.done)
 (.exit 0)<|
 .block 1
 (Qa 26 4 6<|
 Qa 27 12 7<|
 q 28 (.call F.point_curve_twice [(.t 26),(.t 27)])<|
 Qs 12 7 28<|
 .keep [2,4,6,7,8,9]<|
 Qa 29 4 2<|
 Qm 30 9<|
 q 31 (.call F.limb_Bit [(.t 29),(.t 30)])<|
 .keep [2,4,6,7,8,9,31]<|
 .ite (.t 31)
 (Qa 32 4 6<|
 Qa 33 12 7<|
 Qa 34 12 8<|
 q 35 (.call F.point_curve_sum [(.t 32),(.t 33),(.t 34)])<|
 Qs 12 7 35<|
 .keep [2,4,6,7,8,9]<|
 .done)
 (.done)<|
 .done)<|
 Qm 24 9<|
 q 25 (.bin .sub (.t 24) (ci 1))<|
 Qm 9 25<|
 .keep [2,4,6,7,8,9]<|
 .keep [2,4,6,7,8,9]<|
 .done))<|
 Qa 36 4 6<|
 Qa 37 12 7<|
 q 38 (.call F.point_curve_flat [(.t 36),(.t 37)])<|
 Qs 9 4 38<|
 q 5 (.mv (.c (.nilIface)))<|
 .keep [4,5]<|
 .ret
theorem Zc0:EF false F.point_Mul Jp [.c 4 true 9,.t 5]:=ef [] Tryz.func91 (by kernel_rfl) (by kernel_rfl) (by kernel_rfl)
def M8 : IC :=
 q 0 (.alloc [.int .u64 0,.int .u64 0,.int .u64 0,.int .u64 0,.int .u64 0,.int .u64 0,.int .u64 0,.int .u64 0,.bool false])<|
 .keep [0]<|
 q 1 (.build (List.replicate 4 (.int .u64 0)) [(0,1,(.c (.int .u64 17627433388654248598))),(1,1,(.c (.int .u64 8575836109218198432))),(2,1,(.c (.int .u64 17923454489921339634))),(3,1,(.c (.int .u64 7716867327612699207)))])<|
 q 2 (.build (List.replicate 4 (.int .u64 0)) [(0,1,(.c (.int .u64 14678990851816772085))),(1,1,(.c (.int .u64 3156516839386865358))),(2,1,(.c (.int .u64 10297457778147434006))),(3,1,(.c (.int .u64 5756518291402817435)))])<|
 q 3 (.build [.int .u64 0,.int .u64 0,.int .u64 0,.int .u64 0,.int .u64 0,.int .u64 0,.int .u64 0,.int .u64 0,.bool false] [(0,4,(.t 1)),(4,4,(.t 2))])<|
 Qs 9 0 3<|
 .keep [0]<|
 .ret
theorem A7:EF false F.point_Base M8 [.c 0 true 9]:=ef [] Tryz.func92 (by kernel_rfl) (by kernel_rfl) (by kernel_rfl)
def Eu : IC :=
 q 0 (.alloc (List.replicate 4 (.int .u64 0)))<|
 .keep [0]<|
 q 1 (.build (List.replicate 4 (.int .u64 0)) [(0,1,(.c (.int .u64 17562291160714782033))),(1,1,(.c (.int .u64 13611842547513532036))),(2,1,(.c (.int .u64 18446744073709551615))),(3,1,(.c (.int .u64 18446744069414584320)))])<|
 Qs 4 0 1<|
 .keep [0]<|
 .ret
theorem Znv:EF false F.point_N Eu [.c 0 true 4]:=ef [] Tryz.func175 (by kernel_rfl) (by kernel_rfl) (by kernel_rfl)
def H8 : IC :=
 q 0 (.alloc [.pointer none,.nilFunc,.nilFunc,.nilFunc])<|
 .keep [0]<|
 q 4 (.call F.point_P [])<|
 q 5 (.call F.field_New [(.t 4)])<|
 Qm 3 5<|
 Qe 6 3 0<|
 Qe 7 3 1<|
 Qm 1 6<|
 Qm 2 7<|
 .keep [0,1,2]<|
 Qm 8 2<|
 q 9 (.eq true .i (.t 8) (.c (.nilIface)))<|
 .keep [0,1,9]<|
 .ite (.t 9)
 (q 10 (.build (List.replicate 13 (.int .u64 0)) [])<|
 Qb 11 10<|
 Qm 1 11<|
 .keep [0,1]<|
 .done)
 (.done)<|
 Qm 12 1<|
 Qm 13 1<|
 q 14 (.mkfn (.func F.field_Field_Add) [(.t 13)] [])<|
 Qm 15 1<|
 q 16 (.mkfn (.func F.field_Field_Sub) [(.t 15)] [])<|
 Qm 17 1<|
 q 18 (.mkfn (.func F.field_Field_Mul) [(.t 17)] [])<|
 q 19 (.build [.pointer none,.nilFunc,.nilFunc,.nilFunc] [(0,1,(.t 12)),(1,1,(.t 14)),(2,1,(.t 16)),(3,1,(.t 18))])<|
 Qs 4 0 19<|
 .keep [0]<|
 .ret
theorem Zh9:EF false F.point_of H8 [.c 0 true 4]:=ef [] Tryz.func176 (by kernel_rfl) (by kernel_rfl) (by kernel_rfl)
def Re : IC :=
 Qb 2 0<|
 Qb 3 1<|
 q 4 (.mv (cb false))<|
 .keep [2,3]<|
 Qf 6 8 3<|
 Ql 7 1 6<|
 .keep [2,3,7]<|
 .ite (.t 7)
 (Qa 8 9 3<|
 q 9 (.build [.int .u64 0,.int .u64 0,.int .u64 0,.int .u64 0,.int .u64 0,.int .u64 0,.int .u64 0,.int .u64 0,.bool false] [(8,1,(cb true))])<|
 q 10 (.eqagg [(some .u64),(some .u64),(some .u64),(some .u64),(some .u64),(some .u64),(some .u64),(some .u64),none] false (.t 8) (.t 9))<|
 Qm 4 10<|
 .keep [4]<|
 .ret)
 (.done)<|
 Qf 11 0 3<|
 Qa 12 4 11<|
 q 13 (.call F.point_P [])<|
 q 14 (.call F.limb_Cmp [(.t 12),(.t 13)])<|
 q 15 (.bin .geq (.t 14) (ci 0))<|
 Qm 16 15<|
 Gf 17 16 false 4 3<|
 Ga 18 16 false 4 17<|
 qg 19 16 false (.call F.point_P [])<|
 qg 20 16 false (.call F.limb_Cmp [(.t 18),(.t 19)])<|
 qg 21 16 false (.bin .geq (.t 20) (ci 0))<|
 Qo 22 16 21<|
 .keep [2,3,22]<|
 .ite (.t 22)
 (q 4 (.mv (cb false))<|
 .keep [4]<|
 .ret)
 (.done)<|
 .reg 1
 [xe 23 (.fld 1 (.t 2)) [],
 xe 24 (.load false 1 (.t 23)) [],
 xe 25 (.fld 2 (.t 2)) [],
 xe 26 (.load false 1 (.t 25)) [],
 xe 27 (.fld 3 (.t 2)) [],
 xe 28 (.load false 1 (.t 27)) [],
 xe 29 (.load true 4 (.t 2)) [],
 xe 30 (.fld 0 (.t 3)) [],
 xe 31 (.load true 4 (.t 30)) [],
 xe 32 (.call F.point_curve_square [(.t 29),(.t 31)]) [],
 xe 33 (.fld 0 (.t 3)) [],
 xe 34 (.load true 4 (.t 33)) [],
 xe 35 (.callv (.t 28) [(.t 32),(.t 34)]) [],
 xe 36 (.load true 4 (.t 2)) [],
 xe 37 (.fld 0 (.t 3)) [],
 xe 38 (.load true 4 (.t 37)) [],
 xe 39 (.call F.point_curve_times [(.t 36),(.t 38),(.c (.int .u64 3))]) [],
 xe 40 (.callv (.t 26) [(.t 35),(.t 39)]) [],
 xe 41 (.call F.point_b []) [],
 xe 42 (.callv (.t 24) [(.t 40),(.t 41)]) [],
 xa 0 5 (.alloc (List.replicate 4 (.int .u64 0))),
 xln (.store 4 (.t 5) (.t 42)) []]<|
 .keep [2,3,5]<|
 Qa 43 4 2<|
 Qf 44 4 3<|
 Qa 45 4 44<|
 q 46 (.call F.point_curve_square [(.t 43),(.t 45)])<|
 Qa 47 4 5<|
 q 48 (.eqagg (List.replicate 4 (some .u64)) false (.t 46) (.t 47))<|
 Qm 4 48<|
 .keep [4]<|
 .ret
theorem Ib:EF true F.point_curve_on Re [.t 4]:=ef [] Tryz.func177 (by kernel_rfl) (by kernel_rfl) (by kernel_rfl)
def M7 : IC :=
 Qb 1 0<|
 q 2 (.alloc (List.replicate 12 (.int .u64 0)))<|
 .keep [1,2]<|
 Qf 3 8 1<|
 Ql 4 1 3<|
 .keep [1,2,4]<|
 .ite (.t 4)
 (q 5 (.build (List.replicate 12 (.int .u64 0)) [])<|
 Qs 12 2 5<|
 .keep [2]<|
 .ret)
 (.done)<|
 Qf 6 0 1<|
 Qa 7 4 6<|
 Qf 8 4 1<|
 Qa 9 4 8<|
 q 10 (.build (List.replicate 4 (.int .u64 0)) [(0,1,(.c (.int .u64 1)))])<|
 q 11 (.build (List.replicate 12 (.int .u64 0)) [(0,4,(.t 7)),(4,4,(.t 9)),(8,4,(.t 10))])<|
 Qs 12 2 11<|
 .keep [2]<|
 .ret
theorem A6:EF false F.point_lift M7 [.c 2 true 12]:=ef [] Tryz.func178 (by kernel_rfl) (by kernel_rfl) (by kernel_rfl)
def Ut : IC :=
 Qb 2 0<|
 Qb 3 1<|
 q 4 (.alloc (List.replicate 12 (.int .u64 0)))<|
 .keep [2,3,4]<|
 .reg 2
 [xe 12 (.load true 4 (.t 2)) [],
 xe 13 (.fld 8 (.t 3)) [],
 xe 14 (.load true 4 (.t 13)) [],
 xe 15 (.call F.point_curve_square [(.t 12),(.t 14)]) [],
 xe 16 (.load true 4 (.t 2)) [],
 xe 17 (.fld 4 (.t 3)) [],
 xe 18 (.load true 4 (.t 17)) [],
 xe 19 (.call F.point_curve_square [(.t 16),(.t 18)]) [],
 xa 0 5 (.alloc (List.replicate 4 (.int .u64 0))),
 xa 1 6 (.alloc (List.replicate 4 (.int .u64 0))),
 xln (.store 4 (.t 5) (.t 15)) [],
 xln (.store 4 (.t 6) (.t 19)) []]<|
 .keep [2,3,4,5,6]<|
 Qf 20 3 2<|
 Ql 21 1 20<|
 Qf 22 0 3<|
 Qa 23 4 22<|
 Qa 24 4 6<|
 q 25 (.callv (.t 21) [(.t 23),(.t 24)])<|
 q 7 (.alloc (List.replicate 4 (.int .u64 0)))<|
 Qs 4 7 25<|
 .keep [2,3,4,5,6,7]<|
 .reg 1
 [xe 26 (.load true 4 (.t 2)) [],
 xe 27 (.fld 3 (.t 2)) [],
 xe 28 (.load false 1 (.t 27)) [],
 xe 29 (.fld 2 (.t 2)) [],
 xe 30 (.load false 1 (.t 29)) [],
 xe 31 (.fld 0 (.t 3)) [],
 xe 32 (.load true 4 (.t 31)) [],
 xe 33 (.load true 4 (.t 5)) [],
 xe 34 (.callv (.t 30) [(.t 32),(.t 33)]) [],
 xe 35 (.fld 1 (.t 2)) [],
 xe 36 (.load false 1 (.t 35)) [],
 xe 37 (.fld 0 (.t 3)) [],
 xe 38 (.load true 4 (.t 37)) [],
 xe 39 (.load true 4 (.t 5)) [],
 xe 40 (.callv (.t 36) [(.t 38),(.t 39)]) [],
 xe 41 (.callv (.t 28) [(.t 34),(.t 40)]) [],
 xe 42 (.call F.point_curve_times [(.t 26),(.t 41),(.c (.int .u64 3))]) [],
 xa 0 8 (.alloc (List.replicate 4 (.int .u64 0))),
 xln (.store 4 (.t 8) (.t 42)) []]<|
 .keep [2,3,4,5,6,7,8]<|
 .reg 1
 [xe 43 (.fld 2 (.t 2)) [],
 xe 44 (.load false 1 (.t 43)) [],
 xe 45 (.load true 4 (.t 2)) [],
 xe 46 (.load true 4 (.t 8)) [],
 xe 47 (.call F.point_curve_square [(.t 45),(.t 46)]) [],
 xe 48 (.load true 4 (.t 2)) [],
 xe 49 (.load true 4 (.t 7)) [],
 xe 50 (.call F.point_curve_times [(.t 48),(.t 49),(.c (.int .u64 8))]) [],
 xe 51 (.callv (.t 44) [(.t 47),(.t 50)]) [],
 xa 0 9 (.alloc (List.replicate 4 (.int .u64 0))),
 xln (.store 4 (.t 9) (.t 51)) []]<|
 .keep [2,3,4,5,6,7,8,9]<|
 .reg 1
 [xe 52 (.fld 2 (.t 2)) [],
 xe 53 (.load false 1 (.t 52)) [],
 xe 54 (.fld 2 (.t 2)) [],
 xe 55 (.load false 1 (.t 54)) [],
 xe 56 (.load true 4 (.t 2)) [],
 xe 57 (.fld 1 (.t 2)) [],
 xe 58 (.load false 1 (.t 57)) [],
 xe 59 (.fld 4 (.t 3)) [],
 xe 60 (.load true 4 (.t 59)) [],
 xe 61 (.fld 8 (.t 3)) [],
 xe 62 (.load true 4 (.t 61)) [],
 xe 63 (.callv (.t 58) [(.t 60),(.t 62)]) [],
 xe 64 (.call F.point_curve_square [(.t 56),(.t 63)]) [],
 xe 65 (.load true 4 (.t 6)) [],
 xe 66 (.callv (.t 55) [(.t 64),(.t 65)]) [],
 xe 67 (.load true 4 (.t 5)) [],
 xe 68 (.callv (.t 53) [(.t 66),(.t 67)]) [],
 xa 0 10 (.alloc (List.replicate 4 (.int .u64 0))),
 xln (.store 4 (.t 10) (.t 68)) []]<|
 .keep [2,4,6,7,8,9,10]<|
 .reg 1
 [xe 69 (.fld 2 (.t 2)) [],
 xe 70 (.load false 1 (.t 69)) [],
 xe 71 (.fld 3 (.t 2)) [],
 xe 72 (.load false 1 (.t 71)) [],
 xe 73 (.load true 4 (.t 8)) [],
 xe 74 (.fld 2 (.t 2)) [],
 xe 75 (.load false 1 (.t 74)) [],
 xe 76 (.load true 4 (.t 2)) [],
 xe 77 (.load true 4 (.t 7)) [],
 xe 78 (.call F.point_curve_times [(.t 76),(.t 77),(.c (.int .u64 4))]) [],
 xe 79 (.load true 4 (.t 9)) [],
 xe 80 (.callv (.t 75) [(.t 78),(.t 79)]) [],
 xe 81 (.callv (.t 72) [(.t 73),(.t 80)]) [],
 xe 82 (.load true 4 (.t 2)) [],
 xe 83 (.load true 4 (.t 2)) [],
 xe 84 (.load true 4 (.t 6)) [],
 xe 85 (.call F.point_curve_square [(.t 83),(.t 84)]) [],
 xe 86 (.call F.point_curve_times [(.t 82),(.t 85),(.c (.int .u64 8))]) [],
 xe 87 (.callv (.t 70) [(.t 81),(.t 86)]) [],
 xa 0 11 (.alloc (List.replicate 4 (.int .u64 0))),
 xln (.store 4 (.t 11) (.t 87)) []]<|
 .keep [4,9,10,11]<|
 Qa 88 4 9<|
 Qa 89 4 11<|
 Qa 90 4 10<|
 q 91 (.build (List.replicate 12 (.int .u64 0)) [(0,4,(.t 88)),(4,4,(.t 89)),(8,4,(.t 90))])<|
 Qs 12 4 91<|
 .keep [4]<|
 .ret
theorem Np:EF true F.point_curve_twice Ut [.c 4 true 12]:=ef [] Tryz.func180 (by kernel_rfl) (by kernel_rfl) (by kernel_rfl)
def Sc : IC :=
 Qb 3 0<|
 Qb 4 1<|
 Qb 5 2<|
 q 6 (.alloc (List.replicate 12 (.int .u64 0)))<|
 .keep [3,4,5,6]<|
 .block 0
 (Qa 19 12 4<|
 q 20 (.call F.point_three_far [(.t 19)])<|
 Qm 18 20<|
 .keep [3,4,5,6,18]<|
 .ite (.t 18)
 (Qa 21 12 5<|
 Qs 12 6 21<|
 .keep [6]<|
 .ret)
 (Qa 23 12 5<|
 q 24 (.call F.point_three_far [(.t 23)])<|
 Qm 22 24<|
 .keep [3,4,5,6,22]<|
 .ite (.t 22)
 (Qa 25 12 4<|
 Qs 12 6 25<|
 .keep [6]<|
 .ret)
 (.done)<|
 .done)<|
 .done)<|
 .reg 2
 [xe 26 (.load true 4 (.t 3)) [],
 xe 27 (.fld 8 (.t 4)) [],
 xe 28 (.load true 4 (.t 27)) [],
 xe 29 (.call F.point_curve_square [(.t 26),(.t 28)]) [],
 xe 30 (.load true 4 (.t 3)) [],
 xe 31 (.fld 8 (.t 5)) [],
 xe 32 (.load true 4 (.t 31)) [],
 xe 33 (.call F.point_curve_square [(.t 30),(.t 32)]) [],
 xa 0 7 (.alloc (List.replicate 4 (.int .u64 0))),
 xa 1 8 (.alloc (List.replicate 4 (.int .u64 0))),
 xln (.store 4 (.t 7) (.t 29)) [],
 xln (.store 4 (.t 8) (.t 33)) []]<|
 .keep [3,4,5,6,7,8]<|
 .reg 2
 [xe 34 (.fld 3 (.t 3)) [],
 xe 35 (.load false 1 (.t 34)) [],
 xe 36 (.fld 0 (.t 4)) [],
 xe 37 (.load true 4 (.t 36)) [],
 xe 38 (.load true 4 (.t 8)) [],
 xe 39 (.callv (.t 35) [(.t 37),(.t 38)]) [],
 xe 40 (.fld 3 (.t 3)) [],
 xe 41 (.load false 1 (.t 40)) [],
 xe 42 (.fld 0 (.t 5)) [],
 xe 43 (.load true 4 (.t 42)) [],
 xe 44 (.load true 4 (.t 7)) [],
 xe 45 (.callv (.t 41) [(.t 43),(.t 44)]) [],
 xa 0 9 (.alloc (List.replicate 4 (.int .u64 0))),
 xa 1 10 (.alloc (List.replicate 4 (.int .u64 0))),
 xln (.store 4 (.t 9) (.t 39)) [],
 xln (.store 4 (.t 10) (.t 45)) []]<|
 .keep [3,4,5,6,7,8,9,10]<|
 .reg 2
 [xe 46 (.fld 3 (.t 3)) [],
 xe 47 (.load false 1 (.t 46)) [],
 xe 48 (.fld 4 (.t 4)) [],
 xe 49 (.load true 4 (.t 48)) [],
 xe 50 (.fld 3 (.t 3)) [],
 xe 51 (.load false 1 (.t 50)) [],
 xe 52 (.load true 4 (.t 8)) [],
 xe 53 (.fld 8 (.t 5)) [],
 xe 54 (.load true 4 (.t 53)) [],
 xe 55 (.callv (.t 51) [(.t 52),(.t 54)]) [],
 xe 56 (.callv (.t 47) [(.t 49),(.t 55)]) [],
 xe 57 (.fld 3 (.t 3)) [],
 xe 58 (.load false 1 (.t 57)) [],
 xe 59 (.fld 4 (.t 5)) [],
 xe 60 (.load true 4 (.t 59)) [],
 xe 61 (.fld 3 (.t 3)) [],
 xe 62 (.load false 1 (.t 61)) [],
 xe 63 (.load true 4 (.t 7)) [],
 xe 64 (.fld 8 (.t 4)) [],
 xe 65 (.load true 4 (.t 64)) [],
 xe 66 (.callv (.t 62) [(.t 63),(.t 65)]) [],
 xe 67 (.callv (.t 58) [(.t 60),(.t 66)]) [],
 xa 0 11 (.alloc (List.replicate 4 (.int .u64 0))),
 xa 1 12 (.alloc (List.replicate 4 (.int .u64 0))),
 xln (.store 4 (.t 11) (.t 56)) [],
 xln (.store 4 (.t 12) (.t 67)) []]<|
 .keep [3,4,5,6,9,10,11,12]<|
 Qf 68 2 3<|
 Ql 69 1 68<|
 Qa 70 4 10<|
 Qa 71 4 9<|
 q 72 (.callv (.t 69) [(.t 70),(.t 71)])<|
 Qf 73 2 3<|
 Ql 74 1 73<|
 Qa 75 4 12<|
 Qa 76 4 11<|
 q 77 (.callv (.t 74) [(.t 75),(.t 76)])<|
 Qs 4 10 72<|
 Qs 4 12 77<|
 .keep [3,4,5,6,9,10,11,12]<|
 .block 1
 (Qa 79 4 10<|
 q 80 (.build (List.replicate 4 (.int .u64 0)) [])<|
 q 81 (.eqagg (List.replicate 4 (some .u64)) false (.t 79) (.t 80))<|
 Qm 82 81<|
 Ga 83 82 true 4 12<|
 qg 84 82 true (.build (List.replicate 4 (.int .u64 0)) [])<|
 qg 85 82 true (.eqagg (List.replicate 4 (some .u64)) false (.t 83) (.t 84))<|
 Qk 86 82 85<|
 Qm 78 86<|
 .keep [3,4,5,6,9,10,11,12,78]<|
 .ite (.t 78)
 (Qa 87 4 3<|
 Qa 88 12 4<|
 q 89 (.call F.point_curve_twice [(.t 87),(.t 88)])<|
 Qs 12 6 89<|
 .keep [6]<|
 .ret)
 (Qa 91 4 10<|
 q 92 (.build (List.replicate 4 (.int .u64 0)) [])<|
 q 93 (.eqagg (List.replicate 4 (some .u64)) false (.t 91) (.t 92))<|
 Qm 90 93<|
 .keep [3,4,5,6,9,10,11,12,90]<|
 .ite (.t 90)
 (q 94 (.build (List.replicate 12 (.int .u64 0)) [])<|
 Qs 12 6 94<|
 .keep [6]<|
 .ret)
 (.done)<|
 .done)<|
 .done)<|
 Qa 95 4 3<|
 Qa 96 4 10<|
 q 97 (.call F.point_curve_square [(.t 95),(.t 96)])<|
 q 13 (.alloc (List.replicate 4 (.int .u64 0)))<|
 Qs 4 13 97<|
 .keep [3,4,5,6,9,10,11,12,13]<|
 .reg 2
 [xe 98 (.fld 3 (.t 3)) [],
 xe 99 (.load false 1 (.t 98)) [],
 xe 100 (.load true 4 (.t 13)) [],
 xe 101 (.load true 4 (.t 10)) [],
 xe 102 (.callv (.t 99) [(.t 100),(.t 101)]) [],
 xe 103 (.fld 3 (.t 3)) [],
 xe 104 (.load false 1 (.t 103)) [],
 xe 105 (.load true 4 (.t 9)) [],
 xe 106 (.load true 4 (.t 13)) [],
 xe 107 (.callv (.t 104) [(.t 105),(.t 106)]) [],
 xa 0 14 (.alloc (List.replicate 4 (.int .u64 0))),
 xa 1 15 (.alloc (List.replicate 4 (.int .u64 0))),
 xln (.store 4 (.t 14) (.t 102)) [],
 xln (.store 4 (.t 15) (.t 107)) []]<|
 .keep [3,4,5,6,10,11,12,14,15]<|
 .reg 1
 [xe 108 (.fld 2 (.t 3)) [],
 xe 109 (.load false 1 (.t 108)) [],
 xe 110 (.fld 2 (.t 3)) [],
 xe 111 (.load false 1 (.t 110)) [],
 xe 112 (.load true 4 (.t 3)) [],
 xe 113 (.load true 4 (.t 12)) [],
 xe 114 (.call F.point_curve_square [(.t 112),(.t 113)]) [],
 xe 115 (.load true 4 (.t 14)) [],
 xe 116 (.callv (.t 111) [(.t 114),(.t 115)]) [],
 xe 117 (.load true 4 (.t 3)) [],
 xe 118 (.load true 4 (.t 15)) [],
 xe 119 (.call F.point_curve_times [(.t 117),(.t 118),(.c (.int .u64 2))]) [],
 xe 120 (.callv (.t 109) [(.t 116),(.t 119)]) [],
 xa 0 16 (.alloc (List.replicate 4 (.int .u64 0))),
 xln (.store 4 (.t 16) (.t 120)) []]<|
 .keep [3,4,5,6,10,11,12,14,15,16]<|
 .reg 1
 [xe 121 (.fld 2 (.t 3)) [],
 xe 122 (.load false 1 (.t 121)) [],
 xe 123 (.fld 3 (.t 3)) [],
 xe 124 (.load false 1 (.t 123)) [],
 xe 125 (.load true 4 (.t 12)) [],
 xe 126 (.fld 2 (.t 3)) [],
 xe 127 (.load false 1 (.t 126)) [],
 xe 128 (.load true 4 (.t 15)) [],
 xe 129 (.load true 4 (.t 16)) [],
 xe 130 (.callv (.t 127) [(.t 128),(.t 129)]) [],
 xe 131 (.callv (.t 124) [(.t 125),(.t 130)]) [],
 xe 132 (.fld 3 (.t 3)) [],
 xe 133 (.load false 1 (.t 132)) [],
 xe 134 (.load true 4 (.t 11)) [],
 xe 135 (.load true 4 (.t 14)) [],
 xe 136 (.callv (.t 133) [(.t 134),(.t 135)]) [],
 xe 137 (.callv (.t 122) [(.t 131),(.t 136)]) [],
 xa 0 17 (.alloc (List.replicate 4 (.int .u64 0))),
 xln (.store 4 (.t 17) (.t 137)) []]<|
 .keep [3,4,5,6,10,16,17]<|
 Qa 138 4 16<|
 Qa 139 4 17<|
 Qf 140 3 3<|
 Ql 141 1 140<|
 Qa 142 4 10<|
 Qf 143 3 3<|
 Ql 144 1 143<|
 Qf 145 8 4<|
 Qa 146 4 145<|
 Qf 147 8 5<|
 Qa 148 4 147<|
 q 149 (.callv (.t 144) [(.t 146),(.t 148)])<|
 q 150 (.callv (.t 141) [(.t 142),(.t 149)])<|
 q 151 (.build (List.replicate 12 (.int .u64 0)) [(0,4,(.t 138)),(4,4,(.t 139)),(8,4,(.t 150))])<|
 Qs 12 6 151<|
 .keep [6]<|
 .ret
theorem Ky:EF true F.point_curve_sum Sc [.c 6 true 12]:=ef [] Tryz.func182 (by kernel_rfl) (by kernel_rfl) (by kernel_rfl)
def Tk : IC :=
 Qb 2 0<|
 Qb 3 1<|
 q 4 (.alloc [.int .u64 0,.int .u64 0,.int .u64 0,.int .u64 0,.int .u64 0,.int .u64 0,.int .u64 0,.int .u64 0,.bool false])<|
 .keep [2,3,4]<|
 Qf 9 0 2<|
 Ql 10 1 9<|
 Qf 11 8 3<|
 Qa 12 4 11<|
 q 13 (.call F.field_Field_Inv [(.t 10),(.t 12)])<|
 Qm 8 13<|
 Qe 14 8 0<|
 Qe 15 8 1<|
 q 5 (.alloc (List.replicate 4 (.int .u64 0)))<|
 Qs 4 5 14<|
 Qm 6 15<|
 .keep [2,3,4,5,6]<|
 Qm 16 6<|
 q 17 (.eq true .i (.t 16) (.c (.nilIface)))<|
 .keep [2,3,4,5,17]<|
 .ite (.t 17)
 (q 18 (.build [.int .u64 0,.int .u64 0,.int .u64 0,.int .u64 0,.int .u64 0,.int .u64 0,.int .u64 0,.int .u64 0,.bool false] [(8,1,(cb true))])<|
 Qs 9 4 18<|
 .keep [4]<|
 .ret)
 (.done)<|
 Qa 19 4 2<|
 Qa 20 4 5<|
 q 21 (.call F.point_curve_square [(.t 19),(.t 20)])<|
 q 7 (.alloc (List.replicate 4 (.int .u64 0)))<|
 Qs 4 7 21<|
 .keep [2,3,4,5,7]<|
 Qf 22 3 2<|
 Ql 23 1 22<|
 Qf 24 0 3<|
 Qa 25 4 24<|
 Qa 26 4 7<|
 q 27 (.callv (.t 23) [(.t 25),(.t 26)])<|
 Qf 28 3 2<|
 Ql 29 1 28<|
 Qf 30 4 3<|
 Qa 31 4 30<|
 Qf 32 3 2<|
 Ql 33 1 32<|
 Qa 34 4 7<|
 Qa 35 4 5<|
 q 36 (.callv (.t 33) [(.t 34),(.t 35)])<|
 q 37 (.callv (.t 29) [(.t 31),(.t 36)])<|
 q 38 (.build [.int .u64 0,.int .u64 0,.int .u64 0,.int .u64 0,.int .u64 0,.int .u64 0,.int .u64 0,.int .u64 0,.bool false] [(0,4,(.t 27)),(4,4,(.t 37))])<|
 Qs 9 4 38<|
 .keep [4]<|
 .ret
theorem Ln:EF true F.point_curve_flat Tk [.c 4 true 9]:=ef [] Tryz.func183 (by kernel_rfl) (by kernel_rfl) (by kernel_rfl)
def H9 : IC :=
 Qb 1 0<|
 q 2 (.mv (cb false))<|
 .keep [1]<|
 .reg 0
 [xm 3 (.call F.point_of []) [],
 xe 4 (.load true 9 (.t 1)) [],
 xl 5 (.call F.point_curve_on [(.t 3),(.t 4)]) [],
 xl 2 (.mv (.t 5)) []]<|
 .keep [2]<|
 .ret
theorem Zia:EF false F.point_On H9 [.t 2]:=ef [] Tryz.func187 (by kernel_rfl) (by kernel_rfl) (by kernel_rfl)
def Jq : IC :=
 Qb 2 0<|
 Qb 3 1<|
 q 4 (.alloc [.int .u64 0,.int .u64 0,.int .u64 0,.int .u64 0,.int .u64 0,.int .u64 0,.int .u64 0,.int .u64 0,.bool false])<|
 q 5 (.mv (.c (.nilIface)))<|
 .keep [2,3,4]<|
 q 7 (.call F.point_of [])<|
 q 6 (.alloc [.pointer none,.nilFunc,.nilFunc,.nilFunc])<|
 Qs 4 6 7<|
 .keep [2,3,4,6]<|
 Qa 8 4 6<|
 Qa 9 9 2<|
 q 10 (.call F.point_curve_on [(.t 8),(.t 9)])<|
 q 11 (.un .not (.t 10))<|
 Qm 12 11<|
 Ga 13 12 false 4 6<|
 Ga 14 12 false 9 3<|
 qg 15 12 false (.call F.point_curve_on [(.t 13),(.t 14)])<|
 qg 16 12 false (.un .not (.t 15))<|
 Qo 17 12 16<|
 .keep [2,3,4,6,17]<|
 .ite (.t 17)
 (q 18 (.build [.int .u64 0,.int .u64 0,.int .u64 0,.int .u64 0,.int .u64 0,.int .u64 0,.int .u64 0,.int .u64 0,.bool false] [])<|
 q 19 (.mkif T.api_Code (ci 1))<|
 Qs 9 4 18<|
 Qm 5 19<|
 .keep [4,5]<|
 .ret)
 (.done)<|
 Qa 20 4 6<|
 Qa 21 4 6<|
 Qa 22 9 2<|
 q 23 (.call F.point_lift [(.t 22)])<|
 Qa 24 9 3<|
 q 25 (.call F.point_lift [(.t 24)])<|
 q 26 (.call F.point_curve_sum [(.t 21),(.t 23),(.t 25)])<|
 q 27 (.call F.point_curve_flat [(.t 20),(.t 26)])<|
 Qs 9 4 27<|
 q 5 (.mv (.c (.nilIface)))<|
 .keep [4,5]<|
 .ret
theorem Zc1:EF false F.point_Add Jq [.c 4 true 9,.t 5]:=ef [] Tryz.func191 (by kernel_rfl) (by kernel_rfl) (by kernel_rfl)
def Et : IC :=
 q 0 (.alloc (List.replicate 4 (.int .u64 0)))<|
 .keep [0]<|
 q 1 (.build (List.replicate 4 (.int .u64 0)) [(0,1,(.c (.int .u64 18446744073709551615))),(1,1,(.c (.int .u64 4294967295))),(2,1,(.c (.int .u64 0))),(3,1,(.c (.int .u64 18446744069414584321)))])<|
 Qs 4 0 1<|
 .keep [0]<|
 .ret
theorem Znu:EF false F.point_P Et [.c 0 true 4]:=ef [] Tryz.func264 (by kernel_rfl) (by kernel_rfl) (by kernel_rfl)
def Uf : IC :=
 Qb 2 0<|
 Qb 3 1<|
 q 4 (.alloc (List.replicate 4 (.int .u64 0)))<|
 .keep [2,3,4]<|
 Qf 5 3 2<|
 Ql 6 1 5<|
 Qa 7 4 3<|
 Qa 8 4 3<|
 q 9 (.callv (.t 6) [(.t 7),(.t 8)])<|
 Qs 4 4 9<|
 .keep [4]<|
 .ret
theorem Oq:EF true F.point_curve_square Uf [.c 4 true 4]:=ef [] Tryz.func266 (by kernel_rfl) (by kernel_rfl) (by kernel_rfl)
def Uu : IC :=
 Qb 3 0<|
 Qb 4 1<|
 q 6 (.alloc (List.replicate 4 (.int .u64 0)))<|
 .keep [2,3,4,6]<|
 Qf 7 3 3<|
 Ql 8 1 7<|
 Qa 9 4 4<|
 Qm 10 2<|
 q 11 (.build (List.replicate 4 (.int .u64 0)) [(0,1,(.t 10))])<|
 q 12 (.callv (.t 8) [(.t 9),(.t 11)])<|
 Qs 4 6 12<|
 .keep [6]<|
 .ret
theorem Nq:EF true F.point_curve_times Uu [.c 6 true 4]:=ef [] Tryz.func267 (by kernel_rfl) (by kernel_rfl) (by kernel_rfl)
def Es : IC :=
 q 0 (.alloc (List.replicate 4 (.int .u64 0)))<|
 .keep [0]<|
 q 1 (.build (List.replicate 4 (.int .u64 0)) [(0,1,(.c (.int .u64 4309448131093880907))),(1,1,(.c (.int .u64 7285987128567378166))),(2,1,(.c (.int .u64 12964664127075681980))),(3,1,(.c (.int .u64 6540974713487397863)))])<|
 Qs 4 0 1<|
 .keep [0]<|
 .ret
theorem Znt:EF false F.point_b Es [.c 0 true 4]:=ef [] Tryz.func268 (by kernel_rfl) (by kernel_rfl) (by kernel_rfl)
def Sb : IC :=
 Qb 1 0<|
 q 2 (.mv (cb false))<|
 .keep [1]<|
 Qf 3 8 1<|
 Qa 4 4 3<|
 q 5 (.build (List.replicate 4 (.int .u64 0)) [])<|
 q 6 (.eqagg (List.replicate 4 (some .u64)) false (.t 4) (.t 5))<|
 Qm 2 6<|
 .keep [2]<|
 .ret
theorem Kx:EF false F.point_three_far Sb [.t 2]:=ef [] Tryz.func270 (by kernel_rfl) (by kernel_rfl) (by kernel_rfl)
end Go.Proofs.YtcgjlpdkobmpnaaGreat.Eng

