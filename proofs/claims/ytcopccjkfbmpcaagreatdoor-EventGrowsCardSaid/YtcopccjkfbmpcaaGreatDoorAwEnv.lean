/-
  The environment of the evaluator at this seat.
-/
import Derived.Test.YtcopccjkfbmpcaaGreatDoorProg
import Derived.Test.YtcopccjkfbmpcaaGreatDoorFh
noncomputable section
namespace Go.Vm.Seat
variable {f:FuncId}
open Go.Proofs Go.Proofs.Tryz
abbrev QF:=FnE Tryz.prog
noncomputable abbrev qf {fn:Func} (h:prog.funcs[f]? = some fn) {c:Code} (h1:fn.body=some c:=by exact rfl) (h2:(fn.name == "runtime.NumGoroutine")=false:=by kernel_rfl) (h3:Nat.ble fn.ntmps 4000=true:=by kernel_rfl):QF:=⟨f,fn,c,⟨h,h1,h2⟩,h3⟩
def Zvk:Tri (TiE Tryz.prog):=(.node none (.node none (.node (some ⟨3,⟨.int .i64,1,8,.int .i64 0⟩,by kernel_rfl⟩) (.node (some ⟨7,⟨.struct [(0,2),(1,3),(2,4),(3,6)],4,24,.agg [.int .i64 0,.int .i64 0,.bool false,.int .u8 0]⟩,by kernel_rfl⟩) (.node (some ⟨15,⟨.pointer 221,1,8,.nilp⟩,by kernel_rfl⟩) (.node none .leaf (.node none (.node (some ⟨159,⟨.slice 162,1,24,.nils⟩,by kernel_rfl⟩) .leaf .leaf) (.node (some ⟨223,⟨.struct [(0,222)],0,0,.agg []⟩,by kernel_rfl⟩) .leaf .leaf))) (.node (some ⟨47,⟨.struct [(0,3),(1,9),(2,3),(3,29)],4,56,.agg [.int .i64 0,.str [],.int .i64 0,.nils]⟩,by kernel_rfl⟩) .leaf (.node (some ⟨111,⟨.pointer 3,1,8,.nilp⟩,by kernel_rfl⟩) .leaf .leaf))) (.node (some ⟨23,⟨.struct [(0,22),(1,22)],2,48,.agg [.nils,.nils]⟩,by kernel_rfl⟩) (.node none .leaf (.node none .leaf (.node (some ⟨231,⟨.struct [(0,12),(1,12),(2,122),(3,226),(4,5),(5,5),(6,227),(7,228),(8,106),(9,229),(10,230)],11,48,.agg [.int .u64 0,.int .u64 0,.int .u32 0,.int .u8 0,.int .u8 0,.int .u8 0,.int .u8 0,.nilf,.nilp,.int .i32 0,.int .i32 0]⟩,by kernel_rfl⟩) .leaf .leaf))) .leaf)) (.node (some ⟨11,⟨.string,1,16,.str []⟩,by kernel_rfl⟩) (.node (some ⟨19,⟨.struct [(0,17)],1,8,.agg [.nilp]⟩,by kernel_rfl⟩) (.node (some ⟨35,⟨.struct [(0,3),(1,3),(2,3),(3,22),(4,3),(5,29)],6,80,.agg [.int .i64 0,.int .i64 0,.int .i64 0,.nils,.int .i64 0,.nils]⟩,by kernel_rfl⟩) (.node (some ⟨67,⟨.pointer 69,1,8,.nilp⟩,by kernel_rfl⟩) .leaf .leaf) (.node (some ⟨99,⟨.struct [(0,9),(1,4),(2,4),(3,4),(4,3),(5,3),(6,3),(7,3)],8,56,.agg [.str [],.bool false,.bool false,.bool false,.int .i64 0,.int .i64 0,.int .i64 0,.int .i64 0]⟩,by kernel_rfl⟩) (.node (some ⟨163,⟨.array 24 5,24,24,.agg [.int .u8 0,.int .u8 0,.int .u8 0,.int .u8 0,.int .u8 0,.int .u8 0,.int .u8 0,.int .u8 0,.int .u8 0,.int .u8 0,.int .u8 0,.int .u8 0,.int .u8 0,.int .u8 0,.int .u8 0,.int .u8 0,.int .u8 0,.int .u8 0,.int .u8 0,.int .u8 0,.int .u8 0,.int .u8 0,.int .u8 0,.int .u8 0]⟩,by kernel_rfl⟩) .leaf .leaf) (.node (some ⟨227,⟨.int .u8,1,1,.int .u8 0⟩,by kernel_rfl⟩) .leaf .leaf))) .leaf) (.node none (.node none .leaf (.node (some ⟨107,⟨.map 3 4,1,8,.nilm⟩,by kernel_rfl⟩) .leaf .leaf)) .leaf))) (.node (some ⟨5,⟨.int .u8,1,1,.int .u8 0⟩,by kernel_rfl⟩) (.node (some ⟨9,⟨.string,1,16,.str []⟩,by kernel_rfl⟩) (.node (some ⟨17,⟨.pointer 232,1,8,.nilp⟩,by kernel_rfl⟩) (.node none (.node none .leaf (.node (some ⟨193,⟨.struct [(0,48),(4,3)],5,64,.agg [.int .i64 0,.str [],.int .i64 0,.nils,.int .i64 0]⟩,by kernel_rfl⟩) .leaf .leaf)) (.node none (.node (some ⟨161,⟨.struct [(0,9),(1,3),(2,3),(3,3)],4,40,.agg [.str [],.int .i64 0,.int .i64 0,.int .i64 0]⟩,by kernel_rfl⟩) .leaf .leaf) .leaf)) (.node none (.node none .leaf (.node (some ⟨209,⟨.pointer 48,1,8,.nilp⟩,by kernel_rfl⟩) .leaf .leaf)) .leaf)) (.node (some ⟨25,⟨.slice 35,1,24,.nils⟩,by kernel_rfl⟩) .leaf (.node none (.node none (.node (some ⟨153,⟨.pointer 141,1,8,.nilp⟩,by kernel_rfl⟩) .leaf .leaf) .leaf) (.node none (.node (some ⟨185,⟨.array 65 5,65,65,.agg (List.replicate 65 (.int .u8 0))⟩,by kernel_rfl⟩) .leaf .leaf) .leaf)))) (.node (some ⟨13,⟨.struct [(0,9),(1,12)],2,24,.agg [.str [],.int .u64 0]⟩,by kernel_rfl⟩) (.node (some ⟨21,⟨.int .i32,1,4,.int .i32 0⟩,by kernel_rfl⟩) (.node none (.node (some ⟨69,⟨.struct [(0,67),(1,40)],2,32,.agg [.nilp,.nils]⟩,by kernel_rfl⟩) .leaf (.node (some ⟨197,⟨.array 64 5,64,64,.agg (List.replicate 64 (.int .u8 0))⟩,by kernel_rfl⟩) .leaf .leaf)) (.node (some ⟨101,⟨.slice 100,1,24,.nils⟩,by kernel_rfl⟩) .leaf (.node (some ⟨229,⟨.int .i32,1,4,.int .i32 0⟩,by kernel_rfl⟩) .leaf .leaf))) .leaf) (.node (some ⟨29,⟨.slice 48,1,24,.nils⟩,by kernel_rfl⟩) (.node none (.node none (.node (some ⟨141,⟨.int .u64,1,8,.int .u64 0⟩,by kernel_rfl⟩) .leaf .leaf) .leaf) .leaf) (.node none (.node none .leaf (.node (some ⟨221,⟨.struct [(0,17),(1,17),(2,17),(3,9)],4,40,.agg [.nilp,.nilp,.nilp,.str []]⟩,by kernel_rfl⟩) .leaf .leaf)) .leaf))))) (.node (some ⟨2,⟨.int .i64,1,8,.int .i64 0⟩,by kernel_rfl⟩) (.node (some ⟨4,⟨.bool,1,1,.bool false⟩,by kernel_rfl⟩) (.node (some ⟨8,⟨.struct [(0,2),(1,3),(2,4),(3,6)],4,24,.agg [.int .i64 0,.int .i64 0,.bool false,.int .u8 0]⟩,by kernel_rfl⟩) (.node (some ⟨16,⟨.pointer 224,1,8,.nilp⟩,by kernel_rfl⟩) (.node none (.node none .leaf (.node (some ⟨192,⟨.struct [(0,48),(4,3)],5,64,.agg [.int .i64 0,.str [],.int .i64 0,.nils,.int .i64 0]⟩,by kernel_rfl⟩) .leaf .leaf)) (.node none .leaf (.node (some ⟨224,⟨.struct [(0,222)],0,0,.agg []⟩,by kernel_rfl⟩) .leaf .leaf))) (.node (some ⟨48,⟨.struct [(0,3),(1,9),(2,3),(3,29)],4,56,.agg [.int .i64 0,.str [],.int .i64 0,.nils]⟩,by kernel_rfl⟩) (.node none .leaf (.node (some ⟨208,⟨.slice 3,1,24,.nils⟩,by kernel_rfl⟩) .leaf .leaf)) .leaf)) (.node (some ⟨24,⟨.struct [(0,22),(1,22)],2,48,.agg [.nils,.nils]⟩,by kernel_rfl⟩) (.node (some ⟨40,⟨.slice 5,1,24,.nils⟩,by kernel_rfl⟩) .leaf (.node none .leaf (.node (some ⟨232,⟨.struct [(0,12),(1,12),(2,122),(3,226),(4,5),(5,5),(6,227),(7,228),(8,106),(9,229),(10,230)],11,48,.agg [.int .u64 0,.int .u64 0,.int .u32 0,.int .u8 0,.int .u8 0,.int .u8 0,.int .u8 0,.nilf,.nilp,.int .i32 0,.int .i32 0]⟩,by kernel_rfl⟩) .leaf .leaf))) (.node none .leaf (.node none (.node (some ⟨184,⟨.array 20 124,20,160,.agg [.int .u64 0,.int .u64 0,.int .u64 0,.int .u64 0,.int .u64 0,.int .u64 0,.int .u64 0,.int .u64 0,.int .u64 0,.int .u64 0,.int .u64 0,.int .u64 0,.int .u64 0,.int .u64 0,.int .u64 0,.int .u64 0,.int .u64 0,.int .u64 0,.int .u64 0,.int .u64 0]⟩,by kernel_rfl⟩) .leaf .leaf) .leaf)))) (.node (some ⟨12,⟨.int .u64,1,8,.int .u64 0⟩,by kernel_rfl⟩) (.node none (.node none (.node (some ⟨68,⟨.struct [(0,67),(1,40)],2,32,.agg [.nilp,.nils]⟩,by kernel_rfl⟩) .leaf (.node (some ⟨196,⟨.array 32 5,32,32,.agg [.int .u8 0,.int .u8 0,.int .u8 0,.int .u8 0,.int .u8 0,.int .u8 0,.int .u8 0,.int .u8 0,.int .u8 0,.int .u8 0,.int .u8 0,.int .u8 0,.int .u8 0,.int .u8 0,.int .u8 0,.int .u8 0,.int .u8 0,.int .u8 0,.int .u8 0,.int .u8 0,.int .u8 0,.int .u8 0,.int .u8 0,.int .u8 0,.int .u8 0,.int .u8 0,.int .u8 0,.int .u8 0,.int .u8 0,.int .u8 0,.int .u8 0,.int .u8 0]⟩,by kernel_rfl⟩) .leaf .leaf)) (.node (some ⟨100,⟨.struct [(0,9),(1,4),(2,4),(3,4),(4,3),(5,3),(6,3),(7,3)],8,56,.agg [.str [],.bool false,.bool false,.bool false,.int .i64 0,.int .i64 0,.int .i64 0,.int .i64 0]⟩,by kernel_rfl⟩) .leaf .leaf)) .leaf) (.node none (.node none (.node none .leaf (.node (some ⟨204,⟨.slice 29,1,24,.nils⟩,by kernel_rfl⟩) .leaf .leaf)) (.node (some ⟨108,⟨.map 9 4,1,8,.nilm⟩,by kernel_rfl⟩) .leaf .leaf)) (.node none (.node none .leaf (.node (some ⟨220,⟨.struct [(0,17),(1,17),(2,17),(3,9)],4,40,.agg [.nilp,.nilp,.nilp,.str []]⟩,by kernel_rfl⟩) .leaf .leaf)) (.node (some ⟨124,⟨.int .u64,1,8,.int .u64 0⟩,by kernel_rfl⟩) .leaf .leaf))))) (.node (some ⟨6,⟨.int .u8,1,1,.int .u8 0⟩,by kernel_rfl⟩) (.node (some ⟨10,⟨.string,1,16,.str []⟩,by kernel_rfl⟩) (.node (some ⟨18,⟨.struct [(0,17)],1,8,.agg [.nilp]⟩,by kernel_rfl⟩) (.node (some ⟨34,⟨.struct [(0,3),(1,3),(2,3),(3,22),(4,3),(5,29)],6,80,.agg [.int .i64 0,.int .i64 0,.int .i64 0,.nils,.int .i64 0,.nils]⟩,by kernel_rfl⟩) .leaf (.node none (.node (some ⟨162,⟨.struct [(0,9),(1,3),(2,3),(3,3)],4,40,.agg [.str [],.int .i64 0,.int .i64 0,.int .i64 0]⟩,by kernel_rfl⟩) .leaf .leaf) (.node (some ⟨226,⟨.int .u8,1,1,.int .u8 0⟩,by kernel_rfl⟩) .leaf .leaf))) (.node none .leaf (.node (some ⟨114,⟨.int .i64,1,8,.int .i64 0⟩,by kernel_rfl⟩) (.node (some ⟨178,⟨.slice 193,1,24,.nils⟩,by kernel_rfl⟩) .leaf .leaf) .leaf))) (.node none (.node none .leaf (.node (some ⟨106,⟨.pointer 5,1,8,.nilp⟩,by kernel_rfl⟩) .leaf .leaf)) (.node none (.node (some ⟨90,⟨.int .u64,1,8,.int .u64 0⟩,by kernel_rfl⟩) .leaf .leaf) (.node (some ⟨122,⟨.int .u32,1,4,.int .u32 0⟩,by kernel_rfl⟩) .leaf .leaf)))) (.node (some ⟨14,⟨.struct [(0,9),(1,12)],2,24,.agg [.str [],.int .u64 0]⟩,by kernel_rfl⟩) (.node (some ⟨22,⟨.slice 9,1,24,.nils⟩,by kernel_rfl⟩) (.node (some ⟨38,⟨.slice 40,1,24,.nils⟩,by kernel_rfl⟩) .leaf (.node none .leaf (.node (some ⟨230,⟨.int .i32,1,4,.int .i32 0⟩,by kernel_rfl⟩) .leaf .leaf))) .leaf) (.node (some ⟨30,⟨.int .i64,1,8,.int .i64 0⟩,by kernel_rfl⟩) .leaf (.node none (.node none .leaf (.node (some ⟨222,⟨.array 0 16,0,0,.agg []⟩,by kernel_rfl⟩) .leaf .leaf)) .leaf))))))
def fe2:QF:=qf func2
def fe3:QF:=qf func3
def fe4:QF:=qf func4
def fe5:QF:=qf func5
def fe6:QF:=qf func6
def fe7:QF:=qf func7
def fe8:QF:=qf func8
def fe9:QF:=qf func9
def Zwu:QF:=qf func10
def Zwq:QF:=qf func11
def fe12:QF:=qf func12
def fe13:QF:=qf func13
def fe14:QF:=qf func14
def fe15:QF:=qf func15
def fe16:QF:=qf func16
def fe17:QF:=qf func17
def fe18:QF:=qf func18
def fe19:QF:=qf func19
def Zwv:QF:=qf func20
def Zwz:QF:=qf func21
def Zxb:QF:=qf func22
def Zxc:QF:=qf func23
def Zw5:QF:=qf func24
def fe25:QF:=qf func25
def fe26:QF:=qf func26
def fe27:QF:=qf func27
def fe28:QF:=qf func28
def fe29:QF:=qf func29
def fe30:QF:=qf func30
def Zwp:QF:=qf func31
def fe32:QF:=qf func32
def ZwD:QF:=qf func33
def ZwB:QF:=qf func34
def fe35:QF:=qf func35
def Zwt:QF:=qf func36
def fe37:QF:=qf func37
def fe38:QF:=qf func38
def fe39:QF:=qf func39
def fe40:QF:=qf func40
def fe41:QF:=qf func41
def fe42:QF:=qf func42
def fe43:QF:=qf func43
def fe44:QF:=qf func44
def Zwn:QF:=qf func45
def fe46:QF:=qf func46
def Zxf:QF:=qf func47
def Zw9:QF:=qf func48
def Zxg:QF:=qf func49
def Zxa:QF:=qf func50
def Zw8:QF:=qf func51
def Zw3:QF:=qf func52
def Zw4:QF:=qf func53
def ZvU:QF:=qf func54
def Zwf:QF:=qf func55
def fe56:QF:=qf func56
def fe57:QF:=qf func57
def fe58:QF:=qf func58
def fe59:QF:=qf func59
def ZwA:QF:=qf func60
def ZwC:QF:=qf func61
def fe62:QF:=qf func62
def Zww:QF:=qf func63
def Zwo:QF:=qf func64
def Zwy:QF:=qf func65
def fe66:QF:=qf func66
def fe67:QF:=qf func67
def fe68:QF:=qf func68
def fe69:QF:=qf func69
def fe70:QF:=qf func70
def Zu6:QF:=qf func71
def ZvH:QF:=qf func72
def fe73:QF:=qf func73
def fe74:QF:=qf func74
def fe75:QF:=qf func75
def fe76:QF:=qf func76
def Zw6:QF:=qf func77
def Zxe:QF:=qf func78
def Zw2:QF:=qf func79
def Zw7:QF:=qf func80
def Zxd:QF:=qf func81
def Zvg:QF:=qf func82
def ZuC:QF:=qf func83
def ZuO:QF:=qf func84
def ZuE:QF:=qf func85
def ZuL:QF:=qf func86
def Zv5:QF:=qf func87
def Zvt:QF:=qf func88
def ZvZ:QF:=qf func89
def ZuS:QF:=qf func90
def ZvA:QF:=qf func91
def fe92:QF:=qf func92
def fe93:QF:=qf func93
def fe94:QF:=qf func94
def fe95:QF:=qf func95
def fe96:QF:=qf func96
def Zwx:QF:=qf func97
def Zwr:QF:=qf func98
def Zws:QF:=qf func99
def fe100:QF:=qf func100
def fe101:QF:=qf func101
def fe102:QF:=qf func102
def ZrL:QF:=qf func103
def fe104:QF:=qf func104
def fe105:QF:=qf func105
def fe106:QF:=qf func106
def Zsz:QF:=qf func107
def Zr5:QF:=qf func109
def fe110:QF:=qf func110
def ZrD:QF:=qf func111
def fe112:QF:=qf func112
def fe113:QF:=qf func113
def fe114:QF:=qf func114
def fe115:QF:=qf func115
def fe116:QF:=qf func116
def fe117:QF:=qf func117
def ZwZ:QF:=qf func118
def Zw1:QF:=qf func119
def ZwY:QF:=qf func120
def ZrU:QF:=qf func121
def Zsl:QF:=qf func122
def ZrZ:QF:=qf func123
def Ztd:QF:=qf func124
def Zsr:QF:=qf func125
def fe127:QF:=qf func127
def fe128:QF:=qf func128
def fe129:QF:=qf func129
def Zwm:QF:=qf func130
def fe131:QF:=qf func131
def fe132:QF:=qf func132
def fe133:QF:=qf func133
def fe134:QF:=qf func134
def fe135:QF:=qf func135
def Zr2:QF:=qf func136
def fe137:QF:=qf func137
def ZsY:QF:=qf func138
def fe139:QF:=qf func139
def fe140:QF:=qf func140
def fe141:QF:=qf func141
def fe142:QF:=qf func142
def fe143:QF:=qf func143
def Zw0:QF:=qf func144
def Zsh:QF:=qf func146
def ZsM:QF:=qf func147
def ZsW:QF:=qf func148
def fe149:QF:=qf func149
def fe150:QF:=qf func150
def fe151:QF:=qf func151
def fe152:QF:=qf func152
def fe153:QF:=qf func153
def fe154:QF:=qf func154
def fe155:QF:=qf func155
def fe156:QF:=qf func156
def Zsf:QF:=qf func157
def Zs0:QF:=qf func158
def Zr6:QF:=qf func159
def Ztj:QF:=qf func160
def Zsa:QF:=qf func161
def fe163:QF:=qf func163
def fe164:QF:=qf func164
def fe165:QF:=qf func165
def fe166:QF:=qf func166
def fe167:QF:=qf func167
def fe168:QF:=qf func168
def fe169:QF:=qf func169
def ZrF:QF:=qf func171
def fe172:QF:=qf func172
def fe173:QF:=qf func173
def fe174:QF:=qf func174
def fe175:QF:=qf func175
def fe176:QF:=qf func176
def fe177:QF:=qf func177
def fe178:QF:=qf func178
def fe179:QF:=qf func179
def fe180:QF:=qf func180
def fe181:QF:=qf func181
def fe182:QF:=qf func182
def fe183:QF:=qf func183
def fe184:QF:=qf func184
def Zr0:QF:=qf func185
def Zs4:QF:=qf func186
def Zs6:QF:=qf func187
def ZsA:QF:=qf func188
def fe189:QF:=qf func189
def fe190:QF:=qf func190
def fe191:QF:=qf func191
def fe192:QF:=qf func192
def Zsx:QF:=qf func193
def fe194:QF:=qf func194
def fe195:QF:=qf func195
def fe196:QF:=qf func196
def fe197:QF:=qf func197
def fe198:QF:=qf func198
def fe199:QF:=qf func199
def fe200:QF:=qf func200
def fe201:QF:=qf func201
def ZsH:QF:=qf func202
def ZrS:QF:=qf func203
def fe204:QF:=qf func204
def fe205:QF:=qf func205
def fe206:QF:=qf func206
def fe207:QF:=qf func207
def fe208:QF:=qf func208
def fe209:QF:=qf func209
def fe210:QF:=qf func210
def Ztb:QF:=qf func211
def fe212:QF:=qf func212
def fe213:QF:=qf func213
def fe214:QF:=qf func214
def fe215:QF:=qf func215
def fe216:QF:=qf func216
def fe217:QF:=qf func217
def fe218:QF:=qf func218
def fe219:QF:=qf func219
def fe220:QF:=qf func220
def fe221:QF:=qf func221
def fe222:QF:=qf func222
def fe223:QF:=qf func223
def fe224:QF:=qf func224
def fe225:QF:=qf func225
def fe226:QF:=qf func226
def fe227:QF:=qf func227
def fe228:QF:=qf func228
def fe229:QF:=qf func229
def fe230:QF:=qf func230
def fe231:QF:=qf func231
def fe232:QF:=qf func232
def fe233:QF:=qf func233
def fe234:QF:=qf func234
def fe235:QF:=qf func235
def fe236:QF:=qf func236
def ZsR:QF:=qf func238
def fe239:QF:=qf func239
def Zsv:QF:=qf func240
def ZrI:QF:=qf func241
def Zsq:QF:=qf func266
def Zux:Tri (FnE Tryz.prog):=(.node none (.node none (.node (some fe3) (.node (some fe7) (.node (some fe15) (.node (some Zwp) (.node (some Zww) (.node (some fe127) .leaf .leaf) (.node (some fe191) .leaf .leaf)) (.node (some fe95) (.node (some Zr6) .leaf .leaf) (.node (some fe223) .leaf .leaf))) (.node (some Zxf) (.node (some Zw2) (.node (some fe143) .leaf .leaf) (.node (some fe207) .leaf .leaf)) (.node (some ZrD) (.node (some fe175) .leaf .leaf) (.node (some fe239) .leaf .leaf)))) (.node (some Zxc) (.node (some fe39) (.node (some Zu6) (.node (some fe135) .leaf .leaf) (.node (some fe199) .leaf .leaf)) (.node (some ZrL) (.node (some fe167) .leaf .leaf) (.node (some fe231) .leaf .leaf))) (.node (some Zwf) (.node (some Zv5) (.node (some fe151) .leaf .leaf) (.node (some fe215) .leaf .leaf)) (.node (some Zw1) (.node (some fe183) .leaf .leaf) .leaf)))) (.node (some Zwq) (.node (some fe19) (.node (some fe35) (.node (some fe67) (.node (some fe131) .leaf .leaf) (.node (some fe195) .leaf .leaf)) (.node (some Zws) (.node (some fe163) .leaf .leaf) (.node (some fe227) .leaf .leaf))) (.node (some Zw8) (.node (some ZuC) (.node (some ZsM) .leaf .leaf) (.node (some Ztb) .leaf .leaf)) (.node (some fe115) (.node (some fe179) .leaf .leaf) .leaf))) (.node (some fe27) (.node (some fe43) (.node (some fe75) (.node (some fe139) .leaf .leaf) (.node (some ZrS) .leaf .leaf)) (.node (some Zsz) (.node (some ZrF) .leaf .leaf) (.node (some fe235) .leaf .leaf))) (.node (some fe59) (.node (some ZvA) (.node (some fe155) .leaf .leaf) (.node (some fe219) .leaf .leaf)) (.node (some ZrZ) (.node (some Zs6) .leaf .leaf) .leaf))))) (.node (some fe5) (.node (some fe9) (.node (some fe17) (.node (some ZwD) (.node (some Zwy) (.node (some fe129) .leaf .leaf) (.node (some Zsx) .leaf .leaf)) (.node (some Zwx) (.node (some Zsa) .leaf .leaf) (.node (some fe225) .leaf .leaf))) (.node (some Zxg) (.node (some Zxd) .leaf (.node (some fe209) .leaf .leaf)) (.node (some fe113) (.node (some fe177) .leaf .leaf) (.node (some ZrI) .leaf .leaf)))) (.node (some fe25) (.node (some fe41) (.node (some fe73) (.node (some fe137) .leaf .leaf) (.node (some fe201) .leaf .leaf)) (.node (some fe105) (.node (some fe169) .leaf .leaf) (.node (some fe233) .leaf .leaf))) (.node (some fe57) (.node (some ZvZ) (.node (some fe153) .leaf .leaf) (.node (some fe217) .leaf .leaf)) (.node (some ZrU) (.node (some Zr0) .leaf .leaf) .leaf)))) (.node (some fe13) (.node (some Zwz) (.node (some fe37) (.node (some fe69) (.node (some fe133) .leaf .leaf) (.node (some fe197) .leaf .leaf)) (.node (some fe101) (.node (some fe165) .leaf .leaf) (.node (some fe229) .leaf .leaf))) (.node (some Zw4) (.node (some ZuE) (.node (some fe149) .leaf .leaf) (.node (some fe213) .leaf .leaf)) (.node (some fe117) (.node (some fe181) .leaf .leaf) .leaf))) (.node (some fe29) (.node (some Zwn) (.node (some Zw6) (.node (some fe141) .leaf .leaf) (.node (some fe205) .leaf .leaf)) (.node (some Zr5) (.node (some fe173) .leaf .leaf) .leaf)) (.node (some ZwC) (.node (some fe93) (.node (some Zsf) .leaf .leaf) (.node (some fe221) .leaf .leaf)) (.node (some Zsr) (.node (some fe189) .leaf .leaf) .leaf)))))) (.node (some fe2) (.node (some fe4) (.node (some fe8) (.node (some fe16) (.node (some fe32) (.node (some Zwo) (.node (some fe128) .leaf .leaf) (.node (some fe192) .leaf .leaf)) (.node (some fe96) (.node (some Ztj) .leaf .leaf) (.node (some fe224) .leaf .leaf))) (.node (some Zw9) (.node (some Zw7) (.node (some Zw0) .leaf .leaf) (.node (some fe208) .leaf .leaf)) (.node (some fe112) (.node (some fe176) .leaf .leaf) (.node (some Zsv) .leaf .leaf)))) (.node (some Zw5) (.node (some fe40) (.node (some ZvH) (.node (some Zr2) .leaf .leaf) (.node (some fe200) .leaf .leaf)) (.node (some fe104) (.node (some fe168) .leaf .leaf) (.node (some fe232) .leaf .leaf))) (.node (some fe56) (.node (some Zvt) (.node (some fe152) .leaf .leaf) (.node (some fe216) .leaf .leaf)) (.node (some ZwY) (.node (some fe184) .leaf .leaf) .leaf)))) (.node (some fe12) (.node (some Zwv) (.node (some Zwt) (.node (some fe68) (.node (some fe132) .leaf .leaf) (.node (some fe196) .leaf .leaf)) (.node (some fe100) (.node (some fe164) .leaf .leaf) (.node (some fe228) .leaf .leaf))) (.node (some Zw3) (.node (some ZuO) (.node (some ZsW) .leaf .leaf) (.node (some fe212) .leaf .leaf)) (.node (some fe116) (.node (some fe180) .leaf .leaf) .leaf))) (.node (some fe28) (.node (some fe44) (.node (some fe76) (.node (some fe140) .leaf .leaf) (.node (some fe204) .leaf .leaf)) (.node none (.node (some fe172) .leaf .leaf) (.node (some fe236) .leaf .leaf))) (.node (some ZwA) (.node (some fe92) (.node (some fe156) .leaf .leaf) (.node (some fe220) .leaf .leaf)) (.node (some Ztd) (.node (some ZsA) .leaf .leaf) .leaf))))) (.node (some fe6) (.node (some Zwu) (.node (some fe18) (.node (some ZwB) (.node (some fe66) (.node (some Zwm) .leaf .leaf) (.node (some fe194) .leaf .leaf)) (.node (some Zwr) .leaf (.node (some fe226) .leaf .leaf))) (.node (some Zxa) (.node (some Zvg) (.node (some Zsh) .leaf .leaf) (.node (some fe210) .leaf .leaf)) (.node (some fe114) (.node (some fe178) .leaf .leaf) .leaf))) (.node (some fe26) (.node (some fe42) (.node (some fe74) (.node (some ZsY) (.node (some Zsq) .leaf .leaf) .leaf) (.node (some ZsH) .leaf .leaf)) (.node (some fe106) .leaf (.node (some fe234) .leaf .leaf))) (.node (some fe58) (.node (some ZuS) (.node (some fe154) .leaf .leaf) (.node (some fe218) .leaf .leaf)) (.node (some Zsl) (.node (some Zs4) .leaf .leaf) .leaf)))) (.node (some fe14) (.node (some Zxb) (.node (some fe38) (.node (some fe70) (.node (some fe134) .leaf .leaf) (.node (some fe198) .leaf .leaf)) (.node (some fe102) (.node (some fe166) .leaf .leaf) (.node (some fe230) .leaf .leaf))) (.node (some ZvU) (.node (some ZuL) (.node (some fe150) .leaf .leaf) (.node (some fe214) .leaf .leaf)) (.node (some ZwZ) (.node (some fe182) .leaf .leaf) .leaf))) (.node (some fe30) (.node (some fe46) (.node (some Zxe) (.node (some fe142) .leaf .leaf) (.node (some fe206) .leaf .leaf)) (.node (some fe110) (.node (some fe174) .leaf .leaf) (.node (some ZsR) .leaf .leaf))) (.node (some fe62) (.node (some fe94) (.node (some Zs0) .leaf .leaf) (.node (some fe222) .leaf .leaf)) (.node none (.node (some fe190) .leaf .leaf) .leaf)))))))
def zl:List (Nat×ZF):=[(170,Zrw),(74,Zhu),(70,ccZ 69),(42,ZhI 69),(126,Zrn)]
def wordsC:List PV:=[.sl .none 1 [[.str [97,110,121]],[.str [97,103,101,110,116]],[.str [110,111,110,99,101]],[.str [107,101,121]],[.str [100,97,116,97]],[.str [116,97,103]]]]
def E0:Env where
 T:=Zsd Zvk
 F:=fun f=>match ZtY zl f with|true=>none|false=>Zr3 Zux f
 G:=fun k=>(match Nat.beq k 1 with|true=>some wordsC|false=>none)
 Z:=Zkw zl
 eff:=fun f=>[25,27,54,82,29,53,52,79,110,40,137,70,42,76,211,189,190,64].any (Nat.beq f)
 own:=fun f d=>[(53,24),(53,50),(52,18),(25,7),(24,5014)].any fun x=>Nat.beq f x.1&&Nat.beq d x.2
 tyd:=fun t=>Nat.beq t 69
 I:=fun k=>[].any (Nat.beq k)
 mono:=false
theorem tOk:TOk E0 Tryz.prog:=⟨fun _ _ h=>ZeT h⟩
theorem fOk:FOk E0 Tryz.prog:=fun f fn c h hb=>by
 simp only [E0] at h
 split at h
 · cases h
 · exact Zow h hb
theorem follows:Tryz.prog.follows .mixedOrders=true:=by kernel_rfl
def E1:Env:={E0 with mono:=true}
theorem ZfJ:TOk E1 Tryz.prog:=⟨fun _ _ h=>ZeT h⟩
set_option maxRecDepth 100000 in
theorem Zoe {args:List PV} {H H':Heap} {r:PV} (h:CallOk E1 Tryz.prog f args H r H'):CallOk E0 Tryz.prog f args H r H':=CallOk.env (E:=E1) (E':=E0) (hG:=rfl) (hI:=rfl) (hm:=fun _=>rfl) h
