/-
  The environment of the evaluator at this seat.
-/
import Derived.Test.YtfiflgphoepgeaaGreatDoorProg
import Derived.Test.YtfiflgphoepgeaaGreatDoorFh
noncomputable section
namespace Go.Vm.Seat
variable {f:FuncId}
open Go.Proofs Go.Proofs.Tryz
abbrev QF:=FnE Tryz.prog
noncomputable abbrev qf {fn:Func} (h:prog.funcs[f]? = some fn) {c:Code} (h1:fn.body=some c:=by exact rfl) (h2:(fn.name == "runtime.NumGoroutine")=false:=by kernel_rfl) (h3:Nat.ble fn.ntmps 4000=true:=by kernel_rfl):QF:=⟨f,fn,c,⟨h,h1,h2⟩,h3⟩
def Zth:Tri (TiE Tryz.prog):=(.node none (.node none (.node (some ⟨3,⟨.int .i64,1,8,.int .i64 0⟩,by kernel_rfl⟩) (.node (some ⟨7,⟨.struct [(0,2),(1,3),(2,4),(3,6)],4,24,.agg [.int .i64 0,.int .i64 0,.bool false,.int .u8 0]⟩,by kernel_rfl⟩) (.node (some ⟨15,⟨.pointer 218,1,8,.nilp⟩,by kernel_rfl⟩) (.node (some ⟨31,⟨.slice 9,1,24,.nils⟩,by kernel_rfl⟩) (.node (some ⟨63,⟨.struct [(0,62),(1,25)],2,32,.agg [.nilp,.nils]⟩,by kernel_rfl⟩) .leaf .leaf) (.node none .leaf (.node (some ⟨223,⟨.int .u8,1,1,.int .u8 0⟩,by kernel_rfl⟩) .leaf .leaf))) (.node (some ⟨47,⟨.struct [(0,31),(1,31)],2,48,.agg [.nils,.nils]⟩,by kernel_rfl⟩) (.node none (.node (some ⟨143,⟨.int .u64,1,8,.int .u64 0⟩,by kernel_rfl⟩) .leaf .leaf) .leaf) .leaf)) (.node none (.node none .leaf (.node (some ⟨103,⟨.int .u64,1,8,.int .u64 0⟩,by kernel_rfl⟩) .leaf .leaf)) (.node none (.node (some ⟨87,⟨.struct [(0,9),(1,4),(2,4),(3,4),(4,3),(5,3),(6,3),(7,3)],8,56,.agg [.str [],.bool false,.bool false,.bool false,.int .i64 0,.int .i64 0,.int .i64 0,.int .i64 0]⟩,by kernel_rfl⟩) .leaf (.node (some ⟨215,⟨.array 64 5,64,64,.agg (List.replicate 64 (.int .u8 0))⟩,by kernel_rfl⟩) .leaf .leaf)) (.node none (.node (some ⟨183,⟨.pointer 164,1,8,.nilp⟩,by kernel_rfl⟩) .leaf .leaf) .leaf)))) (.node (some ⟨11,⟨.string,1,16,.str []⟩,by kernel_rfl⟩) (.node (some ⟨19,⟨.struct [(0,17)],1,8,.agg [.nilp]⟩,by kernel_rfl⟩) (.node (some ⟨35,⟨.int .i64,1,8,.int .i64 0⟩,by kernel_rfl⟩) .leaf (.node none .leaf (.node (some ⟨227,⟨.int .i32,1,4,.int .i32 0⟩,by kernel_rfl⟩) .leaf .leaf))) (.node (some ⟨51,⟨.struct [(0,3),(1,3)],2,16,.agg [.int .i64 0,.int .i64 0]⟩,by kernel_rfl⟩) (.node none (.node (some ⟨147,⟨.struct [(0,9),(1,3),(2,3),(3,3)],4,40,.agg [.str [],.int .i64 0,.int .i64 0,.int .i64 0]⟩,by kernel_rfl⟩) .leaf .leaf) .leaf) .leaf)) (.node (some ⟨27,⟨.slice 34,1,24,.nils⟩,by kernel_rfl⟩) .leaf (.node none (.node none .leaf (.node (some ⟨219,⟨.array 0 16,0,0,.agg []⟩,by kernel_rfl⟩) .leaf .leaf)) .leaf)))) (.node (some ⟨5,⟨.int .u8,1,1,.int .u8 0⟩,by kernel_rfl⟩) (.node (some ⟨9,⟨.string,1,16,.str []⟩,by kernel_rfl⟩) (.node (some ⟨17,⟨.pointer 229,1,8,.nilp⟩,by kernel_rfl⟩) (.node (some ⟨33,⟨.struct [(0,3),(1,3),(2,3),(3,31),(4,3),(5,32)],6,80,.agg [.int .i64 0,.int .i64 0,.int .i64 0,.nils,.int .i64 0,.nils]⟩,by kernel_rfl⟩) .leaf .leaf) (.node none .leaf (.node (some ⟨113,⟨.slice 3,1,24,.nils⟩,by kernel_rfl⟩) .leaf .leaf))) (.node (some ⟨25,⟨.slice 5,1,24,.nils⟩,by kernel_rfl⟩) (.node (some ⟨41,⟨.struct [(0,3),(1,9),(2,3),(3,32)],4,56,.agg [.int .i64 0,.str [],.int .i64 0,.nils]⟩,by kernel_rfl⟩) (.node none .leaf (.node (some ⟨201,⟨.array 65 5,65,65,.agg (List.replicate 65 (.int .u8 0))⟩,by kernel_rfl⟩) .leaf .leaf)) (.node none (.node (some ⟨169,⟨.slice 148,1,24,.nils⟩,by kernel_rfl⟩) .leaf .leaf) .leaf)) (.node none (.node none .leaf (.node (some ⟨217,⟨.struct [(0,17),(1,17),(2,17),(3,9)],4,40,.agg [.nilp,.nilp,.nilp,.str []]⟩,by kernel_rfl⟩) .leaf .leaf)) .leaf))) (.node (some ⟨13,⟨.struct [(0,9),(1,12)],2,24,.agg [.str [],.int .u64 0]⟩,by kernel_rfl⟩) (.node (some ⟨21,⟨.int .i32,1,4,.int .i32 0⟩,by kernel_rfl⟩) (.node none (.node none (.node (some ⟨133,⟨.int .i64,1,8,.int .i64 0⟩,by kernel_rfl⟩) .leaf .leaf) .leaf) (.node none .leaf (.node (some ⟨229,⟨.struct [(0,12),(1,12),(2,141),(3,223),(4,5),(5,5),(6,224),(7,225),(8,93),(9,226),(10,227)],11,48,.agg [.int .u64 0,.int .u64 0,.int .u32 0,.int .u8 0,.int .u8 0,.int .u8 0,.int .u8 0,.nilf,.nilp,.int .i32 0,.int .i32 0]⟩,by kernel_rfl⟩) .leaf .leaf))) .leaf) (.node none (.node none (.node none (.node (some ⟨141,⟨.int .u32,1,4,.int .u32 0⟩,by kernel_rfl⟩) .leaf .leaf) .leaf) (.node none (.node (some ⟨173,⟨.slice 32,1,24,.nils⟩,by kernel_rfl⟩) .leaf .leaf) .leaf)) (.node none (.node (some ⟨93,⟨.pointer 5,1,8,.nilp⟩,by kernel_rfl⟩) (.node (some ⟨157,⟨.struct [(0,41),(4,3)],5,64,.agg [.int .i64 0,.str [],.int .i64 0,.nils,.int .i64 0]⟩,by kernel_rfl⟩) .leaf .leaf) (.node (some ⟨221,⟨.struct [(0,219)],0,0,.agg []⟩,by kernel_rfl⟩) .leaf .leaf)) (.node (some ⟨125,⟨.map 3 4,1,8,.nilm⟩,by kernel_rfl⟩) .leaf .leaf)))))) (.node (some ⟨2,⟨.int .i64,1,8,.int .i64 0⟩,by kernel_rfl⟩) (.node (some ⟨4,⟨.bool,1,1,.bool false⟩,by kernel_rfl⟩) (.node (some ⟨8,⟨.struct [(0,2),(1,3),(2,4),(3,6)],4,24,.agg [.int .i64 0,.int .i64 0,.bool false,.int .u8 0]⟩,by kernel_rfl⟩) (.node (some ⟨16,⟨.pointer 221,1,8,.nilp⟩,by kernel_rfl⟩) (.node (some ⟨32,⟨.slice 41,1,24,.nils⟩,by kernel_rfl⟩) (.node (some ⟨64,⟨.struct [(0,62),(1,25)],2,32,.agg [.nilp,.nils]⟩,by kernel_rfl⟩) .leaf .leaf) (.node none .leaf (.node (some ⟨224,⟨.int .u8,1,1,.int .u8 0⟩,by kernel_rfl⟩) .leaf .leaf))) (.node (some ⟨48,⟨.struct [(0,31),(1,31)],2,48,.agg [.nils,.nils]⟩,by kernel_rfl⟩) .leaf .leaf)) (.node none (.node (some ⟨40,⟨.struct [(0,3),(1,9),(2,3),(3,32)],4,56,.agg [.int .i64 0,.str [],.int .i64 0,.nils]⟩,by kernel_rfl⟩) (.node none .leaf (.node (some ⟨200,⟨.array 20 143,20,160,.agg [.int .u64 0,.int .u64 0,.int .u64 0,.int .u64 0,.int .u64 0,.int .u64 0,.int .u64 0,.int .u64 0,.int .u64 0,.int .u64 0,.int .u64 0,.int .u64 0,.int .u64 0,.int .u64 0,.int .u64 0,.int .u64 0,.int .u64 0,.int .u64 0,.int .u64 0,.int .u64 0]⟩,by kernel_rfl⟩) .leaf .leaf)) .leaf) (.node none (.node (some ⟨88,⟨.slice 87,1,24,.nils⟩,by kernel_rfl⟩) .leaf .leaf) .leaf))) (.node (some ⟨12,⟨.int .u64,1,8,.int .u64 0⟩,by kernel_rfl⟩) (.node none (.node none .leaf (.node none (.node (some ⟨164,⟨.int .u64,1,8,.int .u64 0⟩,by kernel_rfl⟩) .leaf .leaf) (.node (some ⟨228,⟨.struct [(0,12),(1,12),(2,141),(3,223),(4,5),(5,5),(6,224),(7,225),(8,93),(9,226),(10,227)],11,48,.agg [.int .u64 0,.int .u64 0,.int .u32 0,.int .u8 0,.int .u8 0,.int .u8 0,.int .u8 0,.nilf,.nilp,.int .i32 0,.int .i32 0]⟩,by kernel_rfl⟩) .leaf .leaf))) (.node (some ⟨52,⟨.struct [(0,3),(1,3)],2,16,.agg [.int .i64 0,.int .i64 0]⟩,by kernel_rfl⟩) (.node none (.node (some ⟨148,⟨.struct [(0,9),(1,3),(2,3),(3,3)],4,40,.agg [.str [],.int .i64 0,.int .i64 0,.int .i64 0]⟩,by kernel_rfl⟩) .leaf .leaf) .leaf) (.node (some ⟨116,⟨.slice 157,1,24,.nils⟩,by kernel_rfl⟩) .leaf .leaf))) (.node none .leaf (.node none (.node none (.node (some ⟨156,⟨.struct [(0,41),(4,3)],5,64,.agg [.int .i64 0,.str [],.int .i64 0,.nils,.int .i64 0]⟩,by kernel_rfl⟩) .leaf .leaf) (.node (some ⟨220,⟨.struct [(0,219)],0,0,.agg []⟩,by kernel_rfl⟩) .leaf .leaf)) .leaf)))) (.node (some ⟨6,⟨.int .u8,1,1,.int .u8 0⟩,by kernel_rfl⟩) (.node (some ⟨10,⟨.string,1,16,.str []⟩,by kernel_rfl⟩) (.node (some ⟨18,⟨.struct [(0,17)],1,8,.agg [.nilp]⟩,by kernel_rfl⟩) (.node (some ⟨34,⟨.struct [(0,3),(1,3),(2,3),(3,31),(4,3),(5,32)],6,80,.agg [.int .i64 0,.int .i64 0,.int .i64 0,.nils,.int .i64 0,.nils]⟩,by kernel_rfl⟩) .leaf (.node none .leaf (.node (some ⟨226,⟨.int .i32,1,4,.int .i32 0⟩,by kernel_rfl⟩) .leaf .leaf))) (.node none .leaf (.node none (.node (some ⟨178,⟨.array 24 5,24,24,.agg [.int .u8 0,.int .u8 0,.int .u8 0,.int .u8 0,.int .u8 0,.int .u8 0,.int .u8 0,.int .u8 0,.int .u8 0,.int .u8 0,.int .u8 0,.int .u8 0,.int .u8 0,.int .u8 0,.int .u8 0,.int .u8 0,.int .u8 0,.int .u8 0,.int .u8 0,.int .u8 0,.int .u8 0,.int .u8 0,.int .u8 0,.int .u8 0]⟩,by kernel_rfl⟩) .leaf .leaf) .leaf))) (.node none .leaf (.node none (.node none .leaf (.node (some ⟨218,⟨.struct [(0,17),(1,17),(2,17),(3,9)],4,40,.agg [.nilp,.nilp,.nilp,.str []]⟩,by kernel_rfl⟩) .leaf .leaf)) (.node (some ⟨122,⟨.pointer 3,1,8,.nilp⟩,by kernel_rfl⟩) .leaf .leaf)))) (.node (some ⟨14,⟨.struct [(0,9),(1,12)],2,24,.agg [.str [],.int .u64 0]⟩,by kernel_rfl⟩) (.node (some ⟨22,⟨.slice 25,1,24,.nils⟩,by kernel_rfl⟩) .leaf (.node none (.node (some ⟨86,⟨.struct [(0,9),(1,4),(2,4),(3,4),(4,3),(5,3),(6,3),(7,3)],8,56,.agg [.str [],.bool false,.bool false,.bool false,.int .i64 0,.int .i64 0,.int .i64 0,.int .i64 0]⟩,by kernel_rfl⟩) .leaf (.node (some ⟨214,⟨.array 32 5,32,32,.agg [.int .u8 0,.int .u8 0,.int .u8 0,.int .u8 0,.int .u8 0,.int .u8 0,.int .u8 0,.int .u8 0,.int .u8 0,.int .u8 0,.int .u8 0,.int .u8 0,.int .u8 0,.int .u8 0,.int .u8 0,.int .u8 0,.int .u8 0,.int .u8 0,.int .u8 0,.int .u8 0,.int .u8 0,.int .u8 0,.int .u8 0,.int .u8 0,.int .u8 0,.int .u8 0,.int .u8 0,.int .u8 0,.int .u8 0,.int .u8 0,.int .u8 0,.int .u8 0]⟩,by kernel_rfl⟩) .leaf .leaf)) .leaf)) (.node none .leaf (.node (some ⟨62,⟨.pointer 64,1,8,.nilp⟩,by kernel_rfl⟩) .leaf (.node (some ⟨126,⟨.map 9 4,1,8,.nilm⟩,by kernel_rfl⟩) (.node (some ⟨190,⟨.pointer 41,1,8,.nilp⟩,by kernel_rfl⟩) .leaf .leaf) .leaf)))))))
def fe2:QF:=qf func2
def fe3:QF:=qf func3
def fe4:QF:=qf func4
def fe5:QF:=qf func5
def fe6:QF:=qf func6
def fe7:QF:=qf func7
def fe8:QF:=qf func8
def fe9:QF:=qf func9
def fe10:QF:=qf func10
def fe11:QF:=qf func11
def fe12:QF:=qf func12
def Zta:QF:=qf func13
def ZsO:QF:=qf func14
def ZsJ:QF:=qf func15
def fe16:QF:=qf func16
def fe17:QF:=qf func17
def fe18:QF:=qf func18
def fe19:QF:=qf func19
def fe20:QF:=qf func20
def fe21:QF:=qf func21
def fe22:QF:=qf func22
def fe23:QF:=qf func23
def ZtB:QF:=qf func24
def Ztb:QF:=qf func25
def Zsv:QF:=qf func26
def fe27:QF:=qf func27
def Ztr:QF:=qf func28
def ZrI:QF:=qf func29
def Zsa:QF:=qf func30
def Zs5:QF:=qf func31
def Zse:QF:=qf func32
def fe33:QF:=qf func33
def Zs6:QF:=qf func34
def ZrK:QF:=qf func35
def fe36:QF:=qf func36
def fe37:QF:=qf func37
def fe38:QF:=qf func38
def fe39:QF:=qf func39
def fe40:QF:=qf func40
def fe41:QF:=qf func41
def fe42:QF:=qf func42
def fe43:QF:=qf func43
def fe44:QF:=qf func44
def Zsb:QF:=qf func45
def fe46:QF:=qf func46
def Zs2:QF:=qf func47
def fe48:QF:=qf func48
def Zs4:QF:=qf func49
def fe50:QF:=qf func50
def ZtO:QF:=qf func51
def Zsp:QF:=qf func52
def ZtA:QF:=qf func53
def Ztd:QF:=qf func54
def Zsg:QF:=qf func55
def Zs8:QF:=qf func56
def ZtR:QF:=qf func57
def ZsX:QF:=qf func58
def Zr6:QF:=qf func59
def fe60:QF:=qf func60
def fe61:QF:=qf func61
def fe62:QF:=qf func62
def fe63:QF:=qf func63
def Zsu:QF:=qf func64
def fe65:QF:=qf func65
def fe66:QF:=qf func66
def fe67:QF:=qf func67
def ZsM:QF:=qf func68
def fe69:QF:=qf func69
def fe70:QF:=qf func70
def fe71:QF:=qf func71
def fe72:QF:=qf func72
def fe73:QF:=qf func73
def fe74:QF:=qf func74
def fe75:QF:=qf func75
def fe76:QF:=qf func76
def fe77:QF:=qf func77
def fe78:QF:=qf func78
def fe79:QF:=qf func79
def fe80:QF:=qf func80
def fe81:QF:=qf func81
def ZtP:QF:=qf func82
def fe84:QF:=qf func84
def ZsG:QF:=qf func85
def Ztn:QF:=qf func86
def ZtK:QF:=qf func87
def ZrL:QF:=qf func88
def ZrS:QF:=qf func89
def Zty:QF:=qf func90
def ZrH:QF:=qf func91
def Ztw:QF:=qf func92
def ZtE:QF:=qf func93
def ZtF:QF:=qf func94
def Zts:QF:=qf func95
def ZtJ:QF:=qf func96
def Zsj:QF:=qf func97
def ZrJ:QF:=qf func98
def Zsm:QF:=qf func99
def Zp0:QF:=qf func100
def Zp5:QF:=qf func101
def fe102:QF:=qf func102
def Zqh:QF:=qf func103
def fe104:QF:=qf func104
def fe105:QF:=qf func105
def fe106:QF:=qf func106
def fe107:QF:=qf func107
def fe108:QF:=qf func108
def fe109:QF:=qf func109
def fe110:QF:=qf func110
def fe111:QF:=qf func111
def fe112:QF:=qf func112
def fe113:QF:=qf func113
def fe114:QF:=qf func114
def fe115:QF:=qf func115
def fe116:QF:=qf func116
def fe117:QF:=qf func117
def fe118:QF:=qf func118
def fe119:QF:=qf func119
def fe120:QF:=qf func120
def fe121:QF:=qf func121
def fe122:QF:=qf func122
def fe123:QF:=qf func123
def fe124:QF:=qf func124
def fe125:QF:=qf func125
def fe126:QF:=qf func126
def fe127:QF:=qf func127
def fe128:QF:=qf func128
def fe129:QF:=qf func129
def fe130:QF:=qf func130
def fe131:QF:=qf func131
def ZqD:QF:=qf func132
def Zql:QF:=qf func133
def Zqw:QF:=qf func134
def ZpY:QF:=qf func135
def ZpT:QF:=qf func136
def fe137:QF:=qf func137
def Zp8:QF:=qf func138
def Zq6:QF:=qf func139
def Zp2:QF:=qf func140
def ZqB:QF:=qf func141
def ZpC:QF:=qf func142
def Zqp:QF:=qf func143
def Zp3:QF:=qf func144
def ZqV:QF:=qf func145
def Zpq:QF:=qf func146
def ZpG:QF:=qf func147
def fe149:QF:=qf func149
def fe150:QF:=qf func150
def fe151:QF:=qf func151
def fe152:QF:=qf func152
def fe153:QF:=qf func153
def fe154:QF:=qf func154
def fe155:QF:=qf func155
def ZqL:QF:=qf func156
def Zp1:QF:=qf func157
def fe158:QF:=qf func158
def fe159:QF:=qf func159
def fe160:QF:=qf func160
def fe161:QF:=qf func161
def fe162:QF:=qf func162
def fe163:QF:=qf func163
def fe164:QF:=qf func164
def fe165:QF:=qf func165
def Zq1:QF:=qf func166
def Zps:QF:=qf func167
def Zqk:QF:=qf func168
def ZqA:QF:=qf func169
def Zqb:QF:=qf func170
def Zqv:QF:=qf func171
def ZqU:QF:=qf func172
def Zqf:QF:=qf func174
def Zq0:QF:=qf func176
def Zpx:QF:=qf func177
def Zpo:QF:=qf func178
def fe179:QF:=qf func179
def fe180:QF:=qf func180
def fe181:QF:=qf func181
def fe182:QF:=qf func182
def fe183:QF:=qf func183
def fe184:QF:=qf func184
def fe185:QF:=qf func185
def fe186:QF:=qf func186
def fe187:QF:=qf func187
def fe188:QF:=qf func188
def fe189:QF:=qf func189
def fe190:QF:=qf func190
def ZqI:QF:=qf func191
def fe192:QF:=qf func192
def fe193:QF:=qf func193
def fe194:QF:=qf func194
def fe195:QF:=qf func195
def fe196:QF:=qf func196
def fe197:QF:=qf func197
def fe198:QF:=qf func198
def fe199:QF:=qf func199
def Zpt:QF:=qf func200
def ZqM:QF:=qf func201
def ZqK:QF:=qf func202
def Zqn:QF:=qf func203
def Zq2:QF:=qf func204
def ZqO:QF:=qf func205
def Zqz:QF:=qf func206
def Zqi:QF:=qf func208
def fe209:QF:=qf func209
def fe210:QF:=qf func210
def fe211:QF:=qf func211
def fe212:QF:=qf func212
def fe213:QF:=qf func213
def fe214:QF:=qf func214
def fe215:QF:=qf func215
def Zqj:QF:=qf func217
def fe218:QF:=qf func218
def fe219:QF:=qf func219
def ZqS:QF:=qf func220
def ZqZ:QF:=qf func221
def Zq5:QF:=qf func222
def Zqu:QF:=qf func223
def Zpu:QF:=qf func224
def fe225:QF:=qf func225
def fe226:QF:=qf func226
def fe227:QF:=qf func227
def Zp7:QF:=qf func228
def Zqc:QF:=qf func229
def ZqC:QF:=qf func230
def ZpN:QF:=qf func255
def ZsK:Tri (FnE Tryz.prog):=(.node none (.node none (.node (some fe3) (.node (some fe7) (.node (some ZsJ) (.node (some Zs5) (.node (some fe63) (.node (some fe127) (.node (some ZpN) .leaf .leaf) .leaf) (.node (some ZqI) .leaf .leaf)) (.node (some Zts) (.node (some fe159) .leaf .leaf) (.node (some Zqu) .leaf .leaf))) (.node (some Zs2) (.node (some fe79) (.node (some Zqp) .leaf .leaf) .leaf) (.node (some fe111) .leaf .leaf))) (.node (some fe23) (.node (some fe39) (.node (some fe71) (.node (some ZpY) .leaf .leaf) (.node (some fe199) .leaf .leaf)) (.node (some Zqh) (.node (some Zps) .leaf .leaf) .leaf)) (.node (some Zsg) (.node (some ZtK) (.node (some fe151) .leaf .leaf) (.node (some fe215) .leaf .leaf)) (.node (some fe119) (.node (some fe183) .leaf .leaf) .leaf)))) (.node (some fe11) (.node (some fe19) (.node (some ZrK) (.node (some fe67) (.node (some fe131) .leaf .leaf) (.node (some fe195) .leaf .leaf)) (.node (some Zsm) (.node (some fe163) .leaf .leaf) (.node (some fe227) .leaf .leaf))) (.node (some ZtO) (.node none (.node (some ZpG) .leaf .leaf) (.node (some fe211) .leaf .leaf)) (.node (some fe115) (.node (some fe179) .leaf .leaf) .leaf))) (.node (some fe27) (.node (some fe43) (.node (some fe75) (.node (some Zq6) .leaf .leaf) (.node (some Zqn) .leaf .leaf)) (.node (some fe107) (.node (some Zqv) .leaf .leaf) .leaf)) (.node (some Zr6) (.node (some ZrH) (.node (some fe155) .leaf .leaf) (.node (some fe219) .leaf .leaf)) (.node (some fe123) (.node (some fe187) .leaf .leaf) .leaf))))) (.node (some fe5) (.node (some fe9) (.node (some fe17) (.node (some fe33) (.node (some fe65) (.node (some fe129) .leaf .leaf) (.node (some fe193) .leaf .leaf)) (.node (some Zsj) (.node (some fe161) .leaf .leaf) (.node (some fe225) .leaf .leaf))) (.node (some Zs4) (.node (some fe81) (.node (some ZqV) .leaf .leaf) (.node (some fe209) .leaf .leaf)) (.node (some fe113) (.node (some Zpx) .leaf .leaf) .leaf))) (.node (some Ztb) (.node (some fe41) (.node (some fe73) (.node (some fe137) .leaf .leaf) (.node (some ZqM) .leaf .leaf)) (.node (some fe105) (.node (some ZqA) .leaf .leaf) .leaf)) (.node (some ZtR) (.node (some ZrS) (.node (some fe153) .leaf .leaf) (.node (some Zqj) .leaf .leaf)) (.node (some fe121) (.node (some fe185) .leaf .leaf) .leaf)))) (.node (some Zta) (.node (some fe21) (.node (some fe37) (.node (some fe69) (.node (some Zql) .leaf .leaf) (.node (some fe197) .leaf .leaf)) (.node (some Zp5) (.node (some fe165) .leaf .leaf) (.node (some Zqc) .leaf .leaf))) (.node (some ZtA) (.node (some ZsG) (.node (some fe149) .leaf .leaf) (.node (some fe213) .leaf .leaf)) (.node (some fe117) (.node (some fe181) .leaf .leaf) .leaf))) (.node (some ZrI) (.node (some Zsb) (.node (some fe77) (.node (some ZqB) .leaf .leaf) (.node (some ZqO) .leaf .leaf)) (.node (some fe109) .leaf .leaf)) (.node (some fe61) (.node (some ZtE) (.node (some Zp1) .leaf .leaf) (.node (some ZqZ) .leaf .leaf)) (.node (some fe125) (.node (some fe189) .leaf .leaf) .leaf)))))) (.node (some fe2) (.node (some fe4) (.node (some fe8) (.node (some fe16) (.node (some Zse) (.node (some Zsu) (.node (some fe128) .leaf .leaf) (.node (some fe192) .leaf .leaf)) (.node (some ZtJ) (.node (some fe160) .leaf .leaf) (.node (some Zpu) .leaf .leaf))) (.node (some fe48) (.node (some fe80) (.node (some Zp3) .leaf .leaf) (.node (some Zqi) .leaf .leaf)) (.node (some fe112) (.node (some Zq0) .leaf .leaf) .leaf))) (.node (some ZtB) (.node (some fe40) (.node (some fe72) (.node (some ZpT) .leaf .leaf) (.node (some Zpt) .leaf .leaf)) (.node (some fe104) (.node (some Zqk) .leaf .leaf) .leaf)) (.node (some Zs8) (.node (some ZrL) (.node (some fe152) .leaf .leaf) .leaf) (.node (some fe120) (.node (some fe184) .leaf .leaf) .leaf)))) (.node (some fe12) (.node (some fe20) (.node (some fe36) (.node (some ZsM) (.node (some ZqD) .leaf .leaf) (.node (some fe196) .leaf .leaf)) (.node (some Zp0) (.node (some fe164) .leaf .leaf) (.node (some Zp7) .leaf .leaf))) (.node (some Zsp) (.node (some fe84) .leaf (.node (some fe212) .leaf .leaf)) (.node (some fe116) (.node (some fe180) .leaf .leaf) .leaf))) (.node (some Ztr) (.node (some fe44) (.node (some fe76) (.node (some Zp2) .leaf .leaf) (.node (some Zq2) .leaf .leaf)) (.node (some fe108) (.node (some ZqU) .leaf .leaf) .leaf)) (.node (some fe60) (.node (some Ztw) (.node (some ZqL) .leaf .leaf) (.node (some ZqS) .leaf .leaf)) (.node (some fe124) (.node (some fe188) .leaf .leaf) .leaf))))) (.node (some fe6) (.node (some fe10) (.node (some fe18) (.node (some Zs6) (.node (some fe66) (.node (some fe130) .leaf .leaf) (.node (some fe194) .leaf .leaf)) (.node (some ZrJ) (.node (some fe162) .leaf .leaf) (.node (some fe226) .leaf .leaf))) (.node (some fe50) (.node (some ZtP) (.node (some Zpq) .leaf .leaf) (.node (some fe210) .leaf .leaf)) (.node (some fe114) (.node (some Zpo) .leaf .leaf) .leaf))) (.node (some Zsv) (.node (some fe42) (.node (some fe74) (.node (some Zp8) .leaf .leaf) (.node (some ZqK) .leaf .leaf)) (.node (some fe106) (.node (some Zqb) .leaf .leaf) .leaf)) (.node (some ZsX) (.node (some Zty) (.node (some fe154) .leaf .leaf) (.node (some fe218) .leaf .leaf)) (.node (some fe122) (.node (some fe186) .leaf .leaf) .leaf)))) (.node (some ZsO) (.node (some fe22) (.node (some fe38) (.node (some fe70) (.node (some Zqw) .leaf .leaf) (.node (some fe198) .leaf .leaf)) (.node (some fe102) (.node (some Zq1) .leaf .leaf) (.node (some ZqC) .leaf .leaf))) (.node (some Ztd) (.node (some Ztn) (.node (some fe150) .leaf .leaf) (.node (some fe214) .leaf .leaf)) (.node (some fe118) (.node (some fe182) .leaf .leaf) .leaf))) (.node (some Zsa) (.node (some fe46) (.node (some fe78) (.node (some ZpC) .leaf .leaf) (.node (some Zqz) .leaf .leaf)) (.node (some fe110) (.node (some Zqf) .leaf .leaf) .leaf)) (.node (some fe62) (.node (some ZtF) (.node (some fe158) .leaf .leaf) (.node (some Zq5) .leaf .leaf)) (.node (some fe126) (.node (some fe190) .leaf .leaf) .leaf)))))))
def zl:List (Nat×ZF):=[(207,Zpf),(50,ZjE),(46,ccZ 64),(27,Zkj 64),(148,ZnD)]
def Zcn:List PV:=[.sl .none 1 [[.str [97,110,121]],[.str [97,103,101,110,116]],[.str [110,111,110,99,101]],[.str [107,101,121]],[.str [100,97,116,97]],[.str [116,97,103]]]]
def E0:Env where
 T:=Zq3 Zth
 F:=fun f=>match ZrC zl f with|true=>none|false=>ZpP ZsK f
 G:=fun k=>(match Nat.beq k 0 with|true=>some Zcn|false=>none)
 Z:=Zhv zl
 eff:=fun f=>[19,32,58,92,34,57,56,89,85,25,138,46,27,77,191,220,221].any (Nat.beq f)
 own:=fun f d=>[(57,24),(57,50),(56,18),(19,7),(30,5014)].any fun x=>Nat.beq f x.1&&Nat.beq d x.2
 tyd:=fun t=>Nat.beq t 64
 I:=fun k=>[].any (Nat.beq k)
 mono:=false
theorem tOk:TOk E0 Tryz.prog:=⟨fun _ _ h=>ZdK h⟩
theorem fOk:FOk E0 Tryz.prog:=fun f fn c h hb=>by
 simp only [E0] at h
 split at h
 · cases h
 · exact Zm2 h hb
theorem follows:Tryz.prog.follows .mixedOrders=true:=by kernel_rfl
def E1:Env:={E0 with mono:=true}
theorem Zdo:TOk E1 Tryz.prog:=⟨fun _ _ h=>ZdK h⟩
set_option maxRecDepth 100000 in
theorem Zpl {args:List PV} {H H':Heap} {r:PV} (h:CallOk E1 Tryz.prog f args H r H'):CallOk E0 Tryz.prog f args H r H':=CallOk.env (E:=E1) (E':=E0) (hG:=rfl) (hI:=rfl) (hm:=fun _=>rfl) h
