/- The numbers of functions and types, by name. Printed by program. -/
import Derived.Test.YtabpkmfgmjnipaaME6
import Derived.Test.YtabpkmfgmjnipaaChecked
namespace Go.Proofs.Ytabpkmfgmjnipaa.Eng
open Go Go.Proofs
abbrev F.clapperlaw20_LinkPlays:FuncId:=3
abbrev F.clapperlaw20_up:FuncId:=8
abbrev F.link_New:FuncId:=9
abbrev F.link_Link_Send:FuncId:=10
abbrev F.link_Link_Take:FuncId:=11
abbrev F.link_Link_Double:FuncId:=12
abbrev F.link_Link_Flip:FuncId:=13
abbrev F.link_Link_Many:FuncId:=14
abbrev F.slices_Clone_byte_byte:FuncId:=23
abbrev F.link_Link_there:FuncId:=24
abbrev F.slices_Delete_byte_byte:FuncId:=25
abbrev T.t:TypeId:=0
abbrev T.func:TypeId:=1
abbrev T.int:TypeId:=3
abbrev T.bool:TypeId:=4
abbrev T.string:TypeId:=9
abbrev T.interface:TypeId:=20
abbrev T.api_Code:TypeId:=33
def pfx (v:Bool):Pf:=⟨fun f => !([9,10,11,12,13,23,25,27,37].contains f),v,fun t => [33].contains t⟩
theorem mixed:Try.prog.follows .mixedOrders=true:=by kernel_rfl
theorem cmpok (v:Bool):∀ t,(pfx v).c t=true→cmpT Try.prog t=true:=by
 intro t h
 simp [pfx] at h
 subst h; kernel_rfl
abbrev EF (v:Bool) (f:FuncId) (ic:IC) (rs:List IRes):Prop:=∀ {args:List AV} {H:AH} {w:AV} {H':AH},iwp (pfx v) (Called Try.prog) ic (retQ rs H w H') (look (enterL 0 args)) H→Called Try.prog f args H w H'
theorem ef {v:Bool} {f:FuncId} {fn:Func} {ic:IC} {rs:List IRes} (own:List Nat) (hf:Try.prog.funcs[f]? = some fn) (hok:okCall Try.prog f=true) (hc:compF Try.prog (pfx v) (fun d => own.contains d) fn=some ic) (hr:fn.results.toList.mapM (res? Try.prog)=some rs):EF v f ic rs:=fun h =>
 fn_called mixed (cmpok v) hf hok hc hr h
set_option maxRecDepth 20000
def ic_clapperlaw20_LinkPlays_18 : IC :=
 q 18 (.mv (ci 0)) <|
 .keep [3, 4, 5, 18] <|
 .block 5
 (.keep [3, 4, 5, 18] <|
 .loop
 (q 239 (.mv (.t 18)) <|
 q 240 (.mv (.t 5)) <|
 q 241 (.len false (.t 240)) <|
 q 242 (.bin .lss (.t 239) (.t 241)) <|
 .keep [3, 4, 5, 18, 242] <|
 .ite (.t 242)
 (.done)
 (.exit 5) <|
 .block 6
 (q 246 (.mv (.t 4)) <|
 q 247 (.call F.link_Link_Take [(.t 246), (ci 0)]) <|
 q 245 (.mv (.t 247)) <|
 q 248 (.ext (.t 245) 0) <|
 q 249 (.ext (.t 245) 1) <|
 q 19 (.mv (.t 248)) <|
 q 20 (.mv (.t 249)) <|
 .keep [3, 4, 5, 18, 19, 20] <|
 q 250 (.mv (.t 20)) <|
 q 251 (.eq true .i (.t 250) (.c (.nilIface))) <|
 q 252 (.mv (.t 251)) <|
 qg 253 252 false (.mv (.t 19)) <|
 qg 254 252 false (.b2s (.t 253)) <|
 qg 255 252 false (.mv (.t 5)) <|
 qg 256 252 false (.mv (.t 18)) <|
 qg 257 252 false (.idxa 1 none (.t 255) (.t 256)) <|
 qg 258 252 false (.load false 1 (.t 257)) <|
 qg 259 252 false (.b2s (.t 258)) <|
 qg 260 252 false (.bin .neq (.t 254) (.t 259)) <|
 q 261 (.pick (.t 252) (cb true) (.t 260)) <|
 .keep [3, 4, 5, 18, 261] <|
 .ite (.t 261)
 (q 2 (.mv (cb false)) <|
 .keep [2] <|
 .ret)
 (.done) <|
 .done) <|
 q 243 (.mv (.t 18)) <|
 q 244 (.bin .add (.t 243) (ci 1)) <|
 q 18 (.mv (.t 244)) <|
 .keep [3, 4, 5, 18] <|
 .keep [3, 4, 5, 18] <|
 .done)) <|
 q 262 (.mv (.t 3)) <|
 q 263 (.mv (.t 262)) <|
 qg 264 263 true (.mv (.t 4)) <|
 qg 265 263 true (.call F.link_Link_Many [(.t 264)]) <|
 qg 266 263 true (.bin .eql (.t 265) (ci 0)) <|
 q 267 (.pick (.t 263) (.t 266) (cb false)) <|
 q 2 (.mv (.t 267)) <|
 .keep [2] <|
 .ret
def ic_clapperlaw20_LinkPlays_234 : IC :=
 q 234 (.mv (.t 4)) <|
 q 235 (.call F.link_Link_Many [(.t 234)]) <|
 q 236 (.mv (.t 5)) <|
 q 237 (.len false (.t 236)) <|
 q 238 (.bin .neq (.t 235) (.t 237)) <|
 .keep [0, 3, 4, 5, 6, 238] <|
 .ite (.t 238)
 (q 2 (.mv (cb false)) <|
 .keep [2] <|
 .ret)
 (.done) <|
 .done
def ic_clapperlaw20_LinkPlays_68 : IC :=
 q 68 (.mv (.t 4)) <|
 q 69 (.fld 1 (.t 7)) <|
 q 70 (.load false 1 (.t 69)) <|
 q 71 (.fld 2 (.t 7)) <|
 q 72 (.load false 1 (.t 71)) <|
 q 73 (.fld 3 (.t 7)) <|
 q 74 (.load false 1 (.t 73)) <|
 q 75 (.call F.link_Link_Flip [(.t 68), (.t 70), (.t 72), (.t 74)]) <|
 q 16 (.mv (.t 75)) <|
 .keep [0, 3, 4, 5, 6, 7, 8, 16] <|
 q 76 (.mv (.t 8)) <|
 q 17 (.mv (.t 76)) <|
 .keep [0, 3, 4, 5, 6, 7, 8, 16, 17] <|
 q 77 (.mv (.t 8)) <|
 .keep [0, 3, 4, 5, 6, 7, 16, 17, 77] <|
 .ite (.t 77)
 (q 78 (.fld 2 (.t 7)) <|
 q 79 (.load false 1 (.t 78)) <|
 q 80 (.bin .geq (.t 79) (ci 0)) <|
 q 81 (.mv (.t 80)) <|
 qg 82 81 true (.fld 2 (.t 7)) <|
 qg 83 81 true (.load false 1 (.t 82)) <|
 qg 84 81 true (.mv (.t 5)) <|
 qg 85 81 true (.fld 1 (.t 7)) <|
 qg 86 81 true (.load false 1 (.t 85)) <|
 qg 87 81 true (.idxa 1 none (.t 84) (.t 86)) <|
 qg 88 81 true (.load false 1 (.t 87)) <|
 qg 89 81 true (.len false (.t 88)) <|
 qg 90 81 true (.bin .lss (.t 83) (.t 89)) <|
 q 91 (.pick (.t 81) (.t 90) (cb false)) <|
 q 17 (.mv (.t 91)) <|
 .keep [0, 3, 4, 5, 6, 7, 16, 17] <|
 .done)
 (.done) <|
 q 92 (.mv (.t 17)) <|
 q 93 (.un .not (.t 92)) <|
 .keep [0, 3, 4, 5, 6, 7, 16, 93] <|
 .ite (.t 93)
 (q 94 (.mv (.t 16)) <|
 q 95 (.mkif T.api_Code (ci 4)) <|
 q 96 (.eq true .i (.t 94) (.t 95)) <|
 .keep [0, 3, 4, 5, 6, 96] <|
 .ite (.t 96)
 (q 2 (.mv (cb false)) <|
 .keep [2] <|
 .ret)
 (.done) <|
 .exit 1)
 (.done) <|
 q 97 (.mv (.t 16)) <|
 q 98 (.eq true .i (.t 97) (.c (.nilIface))) <|
 .keep [0, 3, 4, 5, 6, 7, 98] <|
 .ite (.t 98)
 (q 2 (.mv (cb false)) <|
 .keep [2] <|
 .ret)
 (.done) <|
 q 99 (.mv (.t 5)) <|
 q 100 (.fld 1 (.t 7)) <|
 q 101 (.load false 1 (.t 100)) <|
 q 102 (.idxa 1 none (.t 99) (.t 101)) <|
 q 103 (.load false 1 (.t 102)) <|
 q 104 (.fld 2 (.t 7)) <|
 q 105 (.load false 1 (.t 104)) <|
 q 106 (.mv (.t 5)) <|
 q 107 (.fld 1 (.t 7)) <|
 q 108 (.load false 1 (.t 107)) <|
 q 109 (.idxa 1 none (.t 106) (.t 108)) <|
 q 110 (.load false 1 (.t 109)) <|
 q 111 (.fld 2 (.t 7)) <|
 q 112 (.load false 1 (.t 111)) <|
 q 113 (.idxa 1 none (.t 110) (.t 112)) <|
 q 114 (.load false 1 (.t 113)) <|
 q 115 (.fld 3 (.t 7)) <|
 q 116 (.load false 1 (.t 115)) <|
 q 117 (.bin .xor (.t 114) (.t 116)) <|
 q 118 (.idxa 1 none (.t 103) (.t 105)) <|
 qn (.store 1 (.t 118) (.t 117)) <|
 .keep [0, 3, 4, 5, 6] <|
 .done
def ic_clapperlaw20_LinkPlays_205 : IC :=
 q 205 (.mv (.t 4)) <|
 q 206 (.fld 1 (.t 7)) <|
 q 207 (.load false 1 (.t 206)) <|
 q 208 (.call F.link_Link_Double [(.t 205), (.t 207)]) <|
 q 15 (.mv (.t 208)) <|
 .keep [0, 3, 4, 5, 6, 7, 8, 15] <|
 q 209 (.mv (.t 8)) <|
 q 210 (.un .not (.t 209)) <|
 .keep [0, 3, 4, 5, 6, 7, 15, 210] <|
 .ite (.t 210)
 (q 211 (.mv (.t 15)) <|
 q 212 (.mkif T.api_Code (ci 4)) <|
 q 213 (.eq true .i (.t 211) (.t 212)) <|
 .keep [0, 3, 4, 5, 6, 213] <|
 .ite (.t 213)
 (q 2 (.mv (cb false)) <|
 .keep [2] <|
 .ret)
 (.done) <|
 .exit 1)
 (.done) <|
 q 214 (.mv (.t 5)) <|
 q 215 (.len false (.t 214)) <|
 q 216 (.bin .geq (.t 215) (ci 64)) <|
 .keep [0, 3, 4, 5, 6, 7, 15, 216] <|
 .ite (.t 216)
 (q 217 (.mv (.t 15)) <|
 q 218 (.mkif T.api_Code (ci 6)) <|
 q 219 (.eq true .i (.t 217) (.t 218)) <|
 .keep [0, 3, 4, 5, 6, 219] <|
 .ite (.t 219)
 (q 2 (.mv (cb false)) <|
 .keep [2] <|
 .ret)
 (.done) <|
 .exit 1)
 (.done) <|
 q 220 (.mv (.t 15)) <|
 q 221 (.eq true .i (.t 220) (.c (.nilIface))) <|
 .keep [0, 3, 4, 5, 6, 7, 221] <|
 .ite (.t 221)
 (q 2 (.mv (cb false)) <|
 .keep [2] <|
 .ret)
 (.done) <|
 .reg 3
 [xe 222 (.bslice false 1 0 [.slice none 0 0] []) [],
 xe 223 (.mv (.t 5)) [],
 xa 0 224 (.append 1 24 (.t 222) (.t 223)),
 xe 225 (.bslice false 1 0 [.int .u8 0] []) [],
 xe 226 (.mv (.t 5)) [],
 xe 227 (.fld 1 (.t 7)) [],
 xe 228 (.load false 1 (.t 227)) [],
 xe 229 (.idxa 1 none (.t 226) (.t 228)) [],
 xe 230 (.load false 1 (.t 229)) [],
 xa 1 231 (.append 1 1 (.t 225) (.t 230)),
 xa 2 232 (.bslice true 1 1 [.slice none 0 0] [(0, 1, (.t 231))]),
 xl 233 (.append 1 24 (.t 224) (.t 232)) [],
 xl 5 (.mv (.t 233)) []] <|
 .keep [0, 3, 4, 5, 6] <|
 .done
def ic_clapperlaw20_LinkPlays_162 : IC :=
 q 162 (.mv (.t 4)) <|
 q 163 (.fld 1 (.t 7)) <|
 q 164 (.load false 1 (.t 163)) <|
 q 165 (.call F.link_Link_Take [(.t 162), (.t 164)]) <|
 q 161 (.mv (.t 165)) <|
 q 166 (.ext (.t 161) 0) <|
 q 167 (.ext (.t 161) 1) <|
 q 13 (.mv (.t 166)) <|
 q 14 (.mv (.t 167)) <|
 .keep [0, 3, 4, 5, 6, 7, 8, 13, 14] <|
 q 168 (.mv (.t 8)) <|
 q 169 (.un .not (.t 168)) <|
 .keep [0, 3, 4, 5, 6, 7, 13, 14, 169] <|
 .ite (.t 169)
 (q 170 (.mv (.t 14)) <|
 q 171 (.mkif T.api_Code (ci 4)) <|
 q 172 (.eq true .i (.t 170) (.t 171)) <|
 q 173 (.mv (.t 172)) <|
 qg 174 173 false (.mv (.t 13)) <|
 qg 175 173 false (.len false (.t 174)) <|
 qg 176 173 false (.bin .neq (.t 175) (ci 0)) <|
 q 177 (.pick (.t 173) (cb true) (.t 176)) <|
 .keep [0, 3, 4, 5, 6, 177] <|
 .ite (.t 177)
 (q 2 (.mv (cb false)) <|
 .keep [2] <|
 .ret)
 (.done) <|
 .exit 1)
 (.done) <|
 q 178 (.mv (.t 14)) <|
 q 179 (.eq true .i (.t 178) (.c (.nilIface))) <|
 q 180 (.mv (.t 179)) <|
 qg 181 180 false (.mv (.t 13)) <|
 qg 182 180 false (.b2s (.t 181)) <|
 qg 183 180 false (.mv (.t 5)) <|
 qg 184 180 false (.fld 1 (.t 7)) <|
 qg 185 180 false (.load false 1 (.t 184)) <|
 qg 186 180 false (.idxa 1 none (.t 183) (.t 185)) <|
 qg 187 180 false (.load false 1 (.t 186)) <|
 qg 188 180 false (.b2s (.t 187)) <|
 qg 189 180 false (.bin .neq (.t 182) (.t 188)) <|
 q 190 (.pick (.t 180) (cb true) (.t 189)) <|
 .keep [0, 3, 4, 5, 6, 7, 190] <|
 .ite (.t 190)
 (q 2 (.mv (cb false)) <|
 .keep [2] <|
 .ret)
 (.done) <|
 .reg 1
 [xe 191 (.bslice false 1 0 [.slice none 0 0] []) [],
 xe 192 (.mv (.t 5)) [],
 xe 193 (.fld 1 (.t 7)) [],
 xe 194 (.load false 1 (.t 193)) [],
 xe 195 (.slice 1 none (.t 192) none (some (.t 194)) none) [],
 xa 0 196 (.append 1 24 (.t 191) (.t 195)),
 xe 197 (.mv (.t 5)) [],
 xe 198 (.fld 1 (.t 7)) [],
 xe 199 (.load false 1 (.t 198)) [],
 xe 200 (.bin .add (.t 199) (ci 1)) [],
 xe 201 (.slice 1 none (.t 197) (some (.t 200)) none none) [],
 xl 202 (.append 1 24 (.t 196) (.t 201)) [],
 xl 5 (.mv (.t 202)) []] <|
 .keep [0, 3, 4, 5, 6] <|
 .done
def ic_clapperlaw20_LinkPlays_12 : IC :=
 q 12 (.mv (ci 0)) <|
 .keep [0, 3, 4, 5, 6, 10, 12] <|
 .block 3
 (.keep [0, 3, 4, 5, 6, 10, 12] <|
 .loop
 (q 145 (.mv (.t 12)) <|
 q 146 (.mv (.t 10)) <|
 q 147 (.len false (.t 146)) <|
 q 148 (.bin .lss (.t 145) (.t 147)) <|
 .keep [0, 3, 4, 5, 6, 10, 12, 148] <|
 .ite (.t 148)
 (.done)
 (.exit 3) <|
 .block 4
 (q 151 (.mv (.t 10)) <|
 q 152 (.mv (.t 12)) <|
 q 153 (.mv (.t 10)) <|
 q 154 (.mv (.t 12)) <|
 q 155 (.idxa 1 none (.t 153) (.t 154)) <|
 q 156 (.load false 1 (.t 155)) <|
 q 157 (.bin .add (.t 156) (.c (.int .u8 1))) <|
 q 158 (.idxa 1 none (.t 151) (.t 152)) <|
 qn (.store 1 (.t 158) (.t 157)) <|
 .keep [0, 3, 4, 5, 6, 10, 12] <|
 .done) <|
 q 149 (.mv (.t 12)) <|
 q 150 (.bin .add (.t 149) (ci 1)) <|
 q 12 (.mv (.t 150)) <|
 .keep [0, 3, 4, 5, 6, 10, 12] <|
 .keep [0, 3, 4, 5, 6, 10, 12] <|
 .done)) <|
 .done
def ic_clapperlaw20_LinkPlays_121 : IC :=
 q 121 (.bslice false 1 0 [.int .u8 0] []) <|
 q 122 (.fld 4 (.t 7)) <|
 q 123 (.load false 1 (.t 122)) <|
 q 124 (.append 1 1 (.t 121) (.t 123)) <|
 q 10 (.mv (.t 124)) <|
 .keep [0, 3, 4, 5, 6, 7, 10] <|
 q 125 (.mv (.t 4)) <|
 q 126 (.mv (.t 10)) <|
 q 127 (.call F.link_Link_Send [(.t 125), (.t 126)]) <|
 q 11 (.mv (.t 127)) <|
 .keep [0, 3, 4, 5, 6, 7, 10, 11] <|
 q 128 (.mv (.t 5)) <|
 q 129 (.len false (.t 128)) <|
 q 130 (.bin .geq (.t 129) (ci 64)) <|
 .keep [0, 3, 4, 5, 6, 7, 10, 11, 130] <|
 .ite (.t 130)
 (q 131 (.mv (.t 11)) <|
 q 132 (.mkif T.api_Code (ci 6)) <|
 q 133 (.eq true .i (.t 131) (.t 132)) <|
 .keep [0, 3, 4, 5, 6, 10, 133] <|
 .ite (.t 133)
 (q 2 (.mv (cb false)) <|
 .keep [2] <|
 .ret)
 (.done) <|
 .done)
 (q 134 (.mv (.t 11)) <|
 q 135 (.eq true .i (.t 134) (.c (.nilIface))) <|
 .keep [0, 3, 4, 5, 6, 7, 10, 135] <|
 .ite (.t 135)
 (q 2 (.mv (cb false)) <|
 .keep [2] <|
 .ret)
 (.done) <|
 .reg 3
 [xe 136 (.bslice false 1 0 [.slice none 0 0] []) [],
 xe 137 (.mv (.t 5)) [],
 xa 0 138 (.append 1 24 (.t 136) (.t 137)),
 xe 139 (.bslice false 1 0 [.int .u8 0] []) [],
 xe 140 (.fld 4 (.t 7)) [],
 xe 141 (.load false 1 (.t 140)) [],
 xa 1 142 (.append 1 1 (.t 139) (.t 141)),
 xa 2 143 (.bslice true 1 1 [.slice none 0 0] [(0, 1, (.t 142))]),
 xl 144 (.append 1 24 (.t 138) (.t 143)) [],
 xl 5 (.mv (.t 144)) []] <|
 .keep [0, 3, 4, 5, 6, 10] <|
 .done) <|
 ic_clapperlaw20_LinkPlays_12
def ic_clapperlaw20_LinkPlays_67 : IC :=
 q 67 (.mv (.t 9)) <|
 .keep [0, 3, 4, 5, 6, 7, 8, 67] <|
 .block 2
 (q 120 (.bin .eql (.t 67) (ci 0)) <|
 q 119 (.mv (.t 120)) <|
 .keep [0, 3, 4, 5, 6, 7, 8, 67, 119] <|
 .ite (.t 119)
 (ic_clapperlaw20_LinkPlays_121)
 (q 160 (.bin .eql (.t 67) (ci 1)) <|
 q 159 (.mv (.t 160)) <|
 .keep [0, 3, 4, 5, 6, 7, 8, 67, 159] <|
 .ite (.t 159)
 (ic_clapperlaw20_LinkPlays_162)
 (q 204 (.bin .eql (.t 67) (ci 2)) <|
 q 203 (.mv (.t 204)) <|
 .keep [0, 3, 4, 5, 6, 7, 8, 203] <|
 .ite (.t 203)
 (ic_clapperlaw20_LinkPlays_205)
 (ic_clapperlaw20_LinkPlays_68) <|
 .done) <|
 .done) <|
 .done) <|
 ic_clapperlaw20_LinkPlays_234
def ic_clapperlaw20_LinkPlays : IC :=
 q 2 (.mv (cb false)) <|
 .keep [0] <|
 q 21 (.call F.clapperlaw20_up []) <|
 q 3 (.mv (.t 21)) <|
 .keep [0, 3] <|
 q 22 (.call F.link_New []) <|
 q 4 (.mv (.t 22)) <|
 .keep [0, 3, 4] <|
 q 23 (.mv (.t 4)) <|
 q 24 (.eq false .p (.t 23) (.c (.pointer none))) <|
 q 25 (.mv (.t 24)) <|
 qg 26 25 false (.mv (.t 0)) <|
 qg 27 25 false (.len false (.t 26)) <|
 qg 28 25 false (.bin .gtr (.t 27) (ci 200)) <|
 q 29 (.pick (.t 25) (cb true) (.t 28)) <|
 .keep [0, 3, 4, 29] <|
 .ite (.t 29)
 (q 30 (.mv (.t 3)) <|
 q 31 (.mv (.t 30)) <|
 qg 32 31 true (.mv (.t 4)) <|
 qg 33 31 true (.eq true .p (.t 32) (.c (.pointer none))) <|
 q 34 (.pick (.t 31) (.t 33) (cb false)) <|
 q 2 (.mv (.t 34)) <|
 .keep [2] <|
 .ret)
 (.done) <|
 q 5 (.mv (.c (.slice none 0 0))) <|
 .keep [0, 3, 4, 5] <|
 q 6 (.mv (ci 0)) <|
 .keep [0, 3, 4, 5, 6] <|
 .block 0
 (.keep [0, 3, 4, 5, 6] <|
 .loop
 (q 35 (.mv (.t 6)) <|
 q 36 (.mv (.t 0)) <|
 q 37 (.len false (.t 36)) <|
 q 38 (.bin .lss (.t 35) (.t 37)) <|
 .keep [0, 3, 4, 5, 6, 38] <|
 .ite (.t 38)
 (.done)
 (.exit 0) <|
 .block 1
 (q 41 (.mv (.t 0)) <|
 q 42 (.mv (.t 6)) <|
 q 43 (.idxa 5 none (.t 41) (.t 42)) <|
 q 44 (.load true 5 (.t 43)) <|
 q 7 (.alloc [.int .i64 0, .int .i64 0, .int .i64 0, .int .u8 0, .slice none 0 0]) <|
 qn (.store 5 (.t 7) (.t 44)) <|
 .keep [0, 3, 4, 5, 6, 7] <|
 q 45 (.fld 4 (.t 7)) <|
 q 46 (.load false 1 (.t 45)) <|
 q 47 (.len false (.t 46)) <|
 q 48 (.bin .gtr (.t 47) (ci 1000)) <|
 .keep [0, 3, 4, 5, 6, 7, 48] <|
 .ite (.t 48)
 (q 49 (.mv (.t 3)) <|
 q 2 (.mv (.t 49)) <|
 .keep [2] <|
 .ret)
 (.done) <|
 q 50 (.fld 1 (.t 7)) <|
 q 51 (.load false 1 (.t 50)) <|
 q 52 (.bin .geq (.t 51) (ci 0)) <|
 q 53 (.mv (.t 52)) <|
 qg 54 53 true (.fld 1 (.t 7)) <|
 qg 55 53 true (.load false 1 (.t 54)) <|
 qg 56 53 true (.mv (.t 5)) <|
 qg 57 53 true (.len false (.t 56)) <|
 qg 58 53 true (.bin .lss (.t 55) (.t 57)) <|
 q 59 (.pick (.t 53) (.t 58) (cb false)) <|
 q 8 (.mv (.t 59)) <|
 .keep [0, 3, 4, 5, 6, 7, 8] <|
 q 60 (.fld 0 (.t 7)) <|
 q 61 (.load false 1 (.t 60)) <|
 q 62 (.bin .rem (.t 61) (ci 4)) <|
 q 9 (.mv (.t 62)) <|
 .keep [0, 3, 4, 5, 6, 7, 8, 9] <|
 q 63 (.mv (.t 9)) <|
 q 64 (.bin .lss (.t 63) (ci 0)) <|
 .keep [0, 3, 4, 5, 6, 7, 8, 9, 64] <|
 .ite (.t 64)
 (q 65 (.mv (.t 9)) <|
 q 66 (.bin .add (.t 65) (ci 4)) <|
 q 9 (.mv (.t 66)) <|
 .keep [0, 3, 4, 5, 6, 7, 8, 9] <|
 .done)
 (.done) <|
 ic_clapperlaw20_LinkPlays_67) <|
 q 39 (.mv (.t 6)) <|
 q 40 (.bin .add (.t 39) (ci 1)) <|
 q 6 (.mv (.t 40)) <|
 .keep [0, 3, 4, 5, 6] <|
 .keep [0, 3, 4, 5, 6] <|
 .done)) <|
 ic_clapperlaw20_LinkPlays_18
theorem e_clapperlaw20_LinkPlays:EF false F.clapperlaw20_LinkPlays ic_clapperlaw20_LinkPlays [.t 2]:=ef [143,232] Try.func3 (by kernel_rfl) (by kernel_rfl) (by kernel_rfl)
def ic_clapperlaw20_up : IC :=
 q 0 (.mv (cb false)) <|
 .keep [] <|
 q 8 (.call F.link_New []) <|
 q 1 (.mv (.t 8)) <|
 .keep [1] <|
 q 9 (.mv (.t 1)) <|
 q 10 (.eq false .p (.t 9) (.c (.pointer none))) <|
 .keep [1, 10] <|
 .ite (.t 10)
 (q 0 (.mv (cb false)) <|
 .keep [0] <|
 .ret)
 (.done) <|
 q 11 (.mv (.t 1)) <|
 q 12 (.bslice true 1 1 [.int .u8 0] [(0, 1, (.c (.int .u8 97)))]) <|
 q 13 (.mark (.t 12)) <|
 q 14 (.call F.link_Link_Send [(.t 11), (.t 13)]) <|
 q 2 (.mv (.t 14)) <|
 .keep [1, 2] <|
 q 15 (.mv (.t 1)) <|
 q 16 (.bslice true 1 1 [.int .u8 0] [(0, 1, (.c (.int .u8 98)))]) <|
 q 17 (.mark (.t 16)) <|
 q 18 (.call F.link_Link_Send [(.t 15), (.t 17)]) <|
 q 3 (.mv (.t 18)) <|
 .keep [1, 2, 3] <|
 q 20 (.mv (.t 1)) <|
 q 21 (.call F.link_Link_Take [(.t 20), (ci 0)]) <|
 q 19 (.mv (.t 21)) <|
 q 22 (.ext (.t 19) 0) <|
 q 23 (.ext (.t 19) 1) <|
 q 4 (.mv (.t 22)) <|
 q 5 (.mv (.t 23)) <|
 .keep [1, 2, 3, 4, 5] <|
 q 25 (.mv (.t 1)) <|
 q 26 (.call F.link_Link_Take [(.t 25), (ci 1)]) <|
 q 24 (.mv (.t 26)) <|
 q 27 (.ext (.t 24) 0) <|
 q 28 (.ext (.t 24) 1) <|
 q 6 (.mv (.t 27)) <|
 q 7 (.mv (.t 28)) <|
 .keep [1, 2, 3, 4, 5, 7] <|
 q 29 (.mv (.t 2)) <|
 q 30 (.eq false .i (.t 29) (.c (.nilIface))) <|
 q 31 (.mv (.t 30)) <|
 qg 32 31 true (.mv (.t 3)) <|
 qg 33 31 true (.eq false .i (.t 32) (.c (.nilIface))) <|
 q 34 (.pick (.t 31) (.t 33) (cb false)) <|
 q 35 (.mv (.t 34)) <|
 qg 36 35 true (.mv (.t 5)) <|
 qg 37 35 true (.eq false .i (.t 36) (.c (.nilIface))) <|
 q 38 (.pick (.t 35) (.t 37) (cb false)) <|
 q 39 (.mv (.t 38)) <|
 qg 40 39 true (.mv (.t 4)) <|
 qg 41 39 true (.b2s (.t 40)) <|
 qg 42 39 true (.bin .eql (.t 41) (.c (.string ⟨#[97]⟩))) <|
 q 43 (.pick (.t 39) (.t 42) (cb false)) <|
 q 44 (.mv (.t 43)) <|
 qg 45 44 true (.mv (.t 7)) <|
 qg 46 44 true (.mkif T.api_Code (ci 4)) <|
 qg 47 44 true (.eq false .i (.t 45) (.t 46)) <|
 q 48 (.pick (.t 44) (.t 47) (cb false)) <|
 q 49 (.mv (.t 48)) <|
 qg 50 49 true (.mv (.t 1)) <|
 qg 51 49 true (.call F.link_Link_Many [(.t 50)]) <|
 qg 52 49 true (.bin .eql (.t 51) (ci 1)) <|
 q 53 (.pick (.t 49) (.t 52) (cb false)) <|
 q 0 (.mv (.t 53)) <|
 .keep [0] <|
 .ret
theorem e_clapperlaw20_up:EF false F.clapperlaw20_up ic_clapperlaw20_up [.t 0]:=ef [12,16] Try.func8 (by kernel_rfl) (by kernel_rfl) (by kernel_rfl)
def ic_link_New : IC :=
 q 0 (.mv (.c (.pointer none))) <|
 .keep [] <|
 q 1 (.build [.slice none 0 0] []) <|
 q 2 (.box (.t 1)) <|
 q 0 (.mv (.t 2)) <|
 .keep [0] <|
 .ret
theorem e_link_New:EF false F.link_New ic_link_New [.t 0]:=ef [] Try.func9 (by kernel_rfl) (by kernel_rfl) (by kernel_rfl)
def ic_link_Link_Send : IC :=
 q 4 (.mv (.c (.nilIface))) <|
 .keep [0, 1] <|
 q 5 (.mv (.t 0)) <|
 q 6 (.nilchk (.t 5)) <|
 q 7 (.fld 0 (.t 6)) <|
 q 8 (.load false 1 (.t 7)) <|
 q 9 (.len false (.t 8)) <|
 q 10 (.bin .geq (.t 9) (ci 64)) <|
 .keep [0, 1, 10] <|
 .ite (.t 10)
 (q 11 (.mkif T.api_Code (ci 6)) <|
 q 4 (.mv (.t 11)) <|
 .keep [4] <|
 .ret)
 (.done) <|
 .reg 1
 [xe 12 (.mv (.t 0)) [],
 xe 13 (.mv (.t 0)) [],
 xe 14 (.nilchk (.t 13)) [],
 xe 15 (.fld 0 (.t 14)) [],
 xe 16 (.load false 1 (.t 15)) [],
 xe 17 (.mv (.t 1)) [],
 xm 18 (.call F.slices_Clone_byte_byte [(.t 17)]) [],
 xa 0 19 (.bslice true 1 1 [.slice none 0 0] [(0, 1, (.t 18))]),
 xl 20 (.append 1 24 (.t 16) (.t 19)) [],
 xl 21 (.nilchk (.t 12)) [],
 xl 22 (.fld 0 (.t 21)) [],
 xln (.store 1 (.t 22) (.t 20)) []] <|
 .keep [] <|
 q 4 (.mv (.c (.nilIface))) <|
 .keep [4] <|
 .ret
theorem e_link_Link_Send:EF false F.link_Link_Send ic_link_Link_Send [.t 4]:=ef [19] Try.func10 (by kernel_rfl) (by kernel_rfl) (by kernel_rfl)
def ic_link_Link_Take : IC :=
 q 4 (.mv (.c (.slice none 0 0))) <|
 q 5 (.mv (.c (.nilIface))) <|
 .keep [0, 1] <|
 q 7 (.mv (.t 0)) <|
 q 8 (.mv (.t 1)) <|
 q 9 (.call F.link_Link_there [(.t 7), (.t 8)]) <|
 q 10 (.un .not (.t 9)) <|
 .keep [0, 1, 10] <|
 .ite (.t 10)
 (q 11 (.mkif T.api_Code (ci 4)) <|
 q 4 (.mv (.c (.slice none 0 0))) <|
 q 5 (.mv (.t 11)) <|
 .keep [4, 5] <|
 .ret)
 (.done) <|
 q 12 (.mv (.t 0)) <|
 q 13 (.nilchk (.t 12)) <|
 q 14 (.fld 0 (.t 13)) <|
 q 15 (.load false 1 (.t 14)) <|
 q 16 (.mv (.t 1)) <|
 q 17 (.idxa 1 none (.t 15) (.t 16)) <|
 q 18 (.load false 1 (.t 17)) <|
 q 6 (.mv (.t 18)) <|
 .keep [0, 1, 6] <|
 q 19 (.mv (.t 0)) <|
 q 20 (.mv (.t 0)) <|
 q 21 (.nilchk (.t 20)) <|
 q 22 (.fld 0 (.t 21)) <|
 q 23 (.load false 1 (.t 22)) <|
 q 24 (.mv (.t 1)) <|
 q 25 (.mv (.t 1)) <|
 q 26 (.bin .add (.t 25) (ci 1)) <|
 q 27 (.call F.slices_Delete_byte_byte [(.t 23), (.t 24), (.t 26)]) <|
 q 28 (.nilchk (.t 19)) <|
 q 29 (.fld 0 (.t 28)) <|
 qn (.store 1 (.t 29) (.t 27)) <|
 .keep [6] <|
 q 30 (.mv (.t 6)) <|
 q 4 (.mv (.t 30)) <|
 q 5 (.mv (.c (.nilIface))) <|
 .keep [4, 5] <|
 .ret
theorem e_link_Link_Take:EF false F.link_Link_Take ic_link_Link_Take [.t 4,.t 5]:=ef [] Try.func11 (by kernel_rfl) (by kernel_rfl) (by kernel_rfl)
def ic_link_Link_Double : IC :=
 q 4 (.mv (.c (.nilIface))) <|
 .keep [0, 1] <|
 q 5 (.mv (.t 0)) <|
 q 6 (.mv (.t 1)) <|
 q 7 (.call F.link_Link_there [(.t 5), (.t 6)]) <|
 q 8 (.un .not (.t 7)) <|
 .keep [0, 1, 8] <|
 .ite (.t 8)
 (q 9 (.mkif T.api_Code (ci 4)) <|
 q 4 (.mv (.t 9)) <|
 .keep [4] <|
 .ret)
 (.done) <|
 q 10 (.mv (.t 0)) <|
 q 11 (.mv (.t 0)) <|
 q 12 (.nilchk (.t 11)) <|
 q 13 (.fld 0 (.t 12)) <|
 q 14 (.load false 1 (.t 13)) <|
 q 15 (.mv (.t 1)) <|
 q 16 (.idxa 1 none (.t 14) (.t 15)) <|
 q 17 (.load false 1 (.t 16)) <|
 q 18 (.call F.link_Link_Send [(.t 10), (.t 17)]) <|
 q 4 (.mv (.t 18)) <|
 .keep [4] <|
 .ret
theorem e_link_Link_Double:EF false F.link_Link_Double ic_link_Link_Double [.t 4]:=ef [] Try.func12 (by kernel_rfl) (by kernel_rfl) (by kernel_rfl)
def ic_link_Link_Flip : IC :=
 q 8 (.mv (.c (.nilIface))) <|
 .keep [0, 1, 2, 3] <|
 q 9 (.mv (.t 0)) <|
 q 10 (.mv (.t 1)) <|
 q 11 (.call F.link_Link_there [(.t 9), (.t 10)]) <|
 q 12 (.un .not (.t 11)) <|
 q 13 (.mv (.t 12)) <|
 qg 14 13 false (.mv (.t 2)) <|
 qg 15 13 false (.bin .lss (.t 14) (ci 0)) <|
 q 16 (.pick (.t 13) (cb true) (.t 15)) <|
 q 17 (.mv (.t 16)) <|
 qg 18 17 false (.mv (.t 2)) <|
 qg 19 17 false (.mv (.t 0)) <|
 qg 20 17 false (.nilchk (.t 19)) <|
 qg 21 17 false (.fld 0 (.t 20)) <|
 qg 22 17 false (.load false 1 (.t 21)) <|
 qg 23 17 false (.mv (.t 1)) <|
 qg 24 17 false (.idxa 1 none (.t 22) (.t 23)) <|
 qg 25 17 false (.load false 1 (.t 24)) <|
 qg 26 17 false (.len false (.t 25)) <|
 qg 27 17 false (.bin .geq (.t 18) (.t 26)) <|
 q 28 (.pick (.t 17) (cb true) (.t 27)) <|
 .keep [0, 1, 2, 3, 28] <|
 .ite (.t 28)
 (q 29 (.mkif T.api_Code (ci 4)) <|
 q 8 (.mv (.t 29)) <|
 .keep [8] <|
 .ret)
 (.done) <|
 q 30 (.mv (.t 0)) <|
 q 31 (.nilchk (.t 30)) <|
 q 32 (.fld 0 (.t 31)) <|
 q 33 (.load false 1 (.t 32)) <|
 q 34 (.mv (.t 1)) <|
 q 35 (.idxa 1 none (.t 33) (.t 34)) <|
 q 36 (.load false 1 (.t 35)) <|
 q 37 (.mv (.t 2)) <|
 q 38 (.idxa 1 none (.t 36) (.t 37)) <|
 q 39 (.load false 1 (.t 38)) <|
 q 40 (.mv (.t 3)) <|
 q 41 (.bin .xor (.t 39) (.t 40)) <|
 q 42 (.idxa 1 none (.t 36) (.t 37)) <|
 qn (.store 1 (.t 42) (.t 41)) <|
 .keep [] <|
 q 8 (.mv (.c (.nilIface))) <|
 .keep [8] <|
 .ret
theorem e_link_Link_Flip:EF false F.link_Link_Flip ic_link_Link_Flip [.t 8]:=ef [] Try.func13 (by kernel_rfl) (by kernel_rfl) (by kernel_rfl)
def ic_link_Link_Many : IC :=
 q 2 (.mv (ci 0)) <|
 .keep [0] <|
 q 3 (.mv (.t 0)) <|
 q 4 (.nilchk (.t 3)) <|
 q 5 (.fld 0 (.t 4)) <|
 q 6 (.load false 1 (.t 5)) <|
 q 7 (.len false (.t 6)) <|
 q 2 (.mv (.t 7)) <|
 .keep [2] <|
 .ret
theorem e_link_Link_Many:EF false F.link_Link_Many ic_link_Link_Many [.t 2]:=ef [] Try.func14 (by kernel_rfl) (by kernel_rfl) (by kernel_rfl)
def ic_slices_Clone_byte_byte : IC :=
 q 2 (.mv (.c (.slice none 0 0))) <|
 .keep [0] <|
 q 3 (.mv (.t 0)) <|
 q 4 (.isnil false (.t 3)) <|
 .keep [0, 4] <|
 .ite (.t 4)
 (q 2 (.mv (.c (.slice none 0 0))) <|
 .keep [2] <|
 .ret)
 (.done) <|
 q 5 (.bslice false 1 0 [.int .u8 0] []) <|
 q 6 (.mv (.t 0)) <|
 q 7 (.append 1 1 (.t 5) (.t 6)) <|
 q 2 (.mv (.t 7)) <|
 .keep [2] <|
 .ret
theorem e_slices_Clone_byte_byte:EF false F.slices_Clone_byte_byte ic_slices_Clone_byte_byte [.t 2]:=ef [] Try.func23 (by kernel_rfl) (by kernel_rfl) (by kernel_rfl)
def ic_link_Link_there : IC :=
 q 4 (.mv (cb false)) <|
 .keep [0, 1] <|
 q 5 (.mv (.t 1)) <|
 q 6 (.bin .geq (.t 5) (ci 0)) <|
 q 7 (.mv (.t 6)) <|
 qg 8 7 true (.mv (.t 1)) <|
 qg 9 7 true (.mv (.t 0)) <|
 qg 10 7 true (.nilchk (.t 9)) <|
 qg 11 7 true (.fld 0 (.t 10)) <|
 qg 12 7 true (.load false 1 (.t 11)) <|
 qg 13 7 true (.len false (.t 12)) <|
 qg 14 7 true (.bin .lss (.t 8) (.t 13)) <|
 q 15 (.pick (.t 7) (.t 14) (cb false)) <|
 q 4 (.mv (.t 15)) <|
 .keep [4] <|
 .ret
theorem e_link_Link_there:EF false F.link_Link_there ic_link_Link_there [.t 4]:=ef [] Try.func24 (by kernel_rfl) (by kernel_rfl) (by kernel_rfl)
def ic_slices_Delete_byte_byte : IC :=
 q 6 (.mv (.c (.slice none 0 0))) <|
 .keep [0, 1, 2] <|
 q 8 (.mv (.t 0)) <|
 q 9 (.mv (.t 1)) <|
 q 10 (.mv (.t 2)) <|
 q 11 (.mv (.t 0)) <|
 q 12 (.len false (.t 11)) <|
 q 13 (.slice 1 none (.t 8) (some (.t 9)) (some (.t 10)) (some (.t 12))) <|
 .keep [0, 1, 2] <|
 q 14 (.mv (.t 1)) <|
 q 15 (.mv (.t 2)) <|
 q 16 (.bin .eql (.t 14) (.t 15)) <|
 .keep [0, 1, 2, 16] <|
 .ite (.t 16)
 (q 17 (.mv (.t 0)) <|
 q 6 (.mv (.t 17)) <|
 .keep [6] <|
 .ret)
 (.done) <|
 q 18 (.mv (.t 0)) <|
 q 19 (.len false (.t 18)) <|
 q 7 (.mv (.t 19)) <|
 .keep [0, 1, 2, 7] <|
 q 20 (.mv (.t 0)) <|
 q 21 (.mv (.t 1)) <|
 q 22 (.slice 1 none (.t 20) none (some (.t 21)) none) <|
 q 23 (.mv (.t 0)) <|
 q 24 (.mv (.t 2)) <|
 q 25 (.slice 1 none (.t 23) (some (.t 24)) none none) <|
 q 26 (.append 1 24 (.t 22) (.t 25)) <|
 q 0 (.mv (.t 26)) <|
 .keep [0, 7] <|
 q 27 (.mv (.t 0)) <|
 q 28 (.mv (.t 0)) <|
 q 29 (.len false (.t 28)) <|
 q 30 (.mv (.t 7)) <|
 q 31 (.slice 1 none (.t 27) (some (.t 29)) (some (.t 30)) none) <|
 qn (.clear 1 [.slice none 0 0] (.t 31)) <|
 .keep [0] <|
 q 32 (.mv (.t 0)) <|
 q 6 (.mv (.t 32)) <|
 .keep [6] <|
 .ret
theorem e_slices_Delete_byte_byte:EF false F.slices_Delete_byte_byte ic_slices_Delete_byte_byte [.t 6]:=ef [] Try.func25 (by kernel_rfl) (by kernel_rfl) (by kernel_rfl)
end Go.Proofs.Ytabpkmfgmjnipaa.Eng

