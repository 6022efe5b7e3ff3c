/-
  The environment of the evaluator at this seat.
-/
import Derived.Test.YtnnfkocifnflgaaGreatDoorProg
import Derived.Test.YtnnfkocifnflgaaGreatDoorFh
noncomputable section
namespace Go.Vm.Seat
variable {f:FuncId}
open Go.Proofs Go.Proofs.Tryz
abbrev QF:=FnE Tryz.prog
noncomputable abbrev qf {fn:Func} (h:prog.funcs[f]? = some fn) {c:Code} (h1:fn.body=some c:=by exact rfl) (h2:(fn.name == "runtime.NumGoroutine")=false:=by kernel_rfl) (h3:Nat.ble fn.ntmps 4000=true:=by kernel_rfl):QF:=⟨f,fn,c,⟨h,h1,h2⟩,h3⟩
def ZoT:Tri (TiE Tryz.prog):=(.node none (.node none (.node (some ⟨3,⟨.int .i64,1,8,.int .i64 0⟩,by kernel_rfl⟩) (.node (some ⟨7,⟨.struct [(0,2),(1,3),(2,4),(3,6)],4,24,.agg [.int .i64 0,.int .i64 0,.bool false,.int .u8 0]⟩,by kernel_rfl⟩) (.node (some ⟨15,⟨.pointer 210,1,8,.nilp⟩,by kernel_rfl⟩) (.node (some ⟨31,⟨.struct [(0,3),(1,3),(2,3),(3,28),(4,3),(5,29)],6,80,.agg [.int .i64 0,.int .i64 0,.int .i64 0,.nils,.int .i64 0,.nils]⟩,by kernel_rfl⟩) .leaf .leaf) (.node none (.node none .leaf (.node (some ⟨207,⟨.array 64 5,64,64,.agg (List.replicate 64 (.int .u8 0))⟩,by kernel_rfl⟩) .leaf .leaf)) .leaf)) (.node none (.node none (.node none (.node (some ⟨135,⟨.struct [(0,9),(1,3),(2,3),(3,3)],4,40,.agg [.str [],.int .i64 0,.int .i64 0,.int .i64 0]⟩,by kernel_rfl⟩) .leaf .leaf) .leaf) (.node (some ⟨103,⟨.slice 3,1,24,.nils⟩,by kernel_rfl⟩) (.node (some ⟨167,⟨.slice 29,1,24,.nils⟩,by kernel_rfl⟩) .leaf .leaf) .leaf)) (.node none (.node none (.node (some ⟨151,⟨.slice 136,1,24,.nils⟩,by kernel_rfl⟩) .leaf .leaf) (.node (some ⟨215,⟨.int .u8,1,1,.int .u8 0⟩,by kernel_rfl⟩) .leaf .leaf)) .leaf))) (.node (some ⟨11,⟨.string,1,16,.str []⟩,by kernel_rfl⟩) (.node (some ⟨19,⟨.struct [(0,17)],1,8,.agg [.nilp]⟩,by kernel_rfl⟩) .leaf (.node none (.node (some ⟨83,⟨.slice 82,1,24,.nils⟩,by kernel_rfl⟩) .leaf (.node (some ⟨211,⟨.array 0 16,0,0,.agg []⟩,by kernel_rfl⟩) .leaf .leaf)) (.node (some ⟨115,⟨.map 3 4,1,8,.nilm⟩,by kernel_rfl⟩) .leaf .leaf))) (.node none .leaf (.node (some ⟨59,⟨.struct [(0,57),(1,58)],2,32,.agg [.nilp,.nils]⟩,by kernel_rfl⟩) (.node none .leaf (.node (some ⟨219,⟨.int .i32,1,4,.int .i32 0⟩,by kernel_rfl⟩) .leaf .leaf)) .leaf)))) (.node (some ⟨5,⟨.int .u8,1,1,.int .u8 0⟩,by kernel_rfl⟩) (.node (some ⟨9,⟨.string,1,16,.str []⟩,by kernel_rfl⟩) (.node (some ⟨17,⟨.pointer 221,1,8,.nilp⟩,by kernel_rfl⟩) (.node (some ⟨33,⟨.struct [(0,3),(1,9),(2,3),(3,29)],4,56,.agg [.int .i64 0,.str [],.int .i64 0,.nils]⟩,by kernel_rfl⟩) .leaf .leaf) (.node none (.node (some ⟨81,⟨.struct [(0,9),(1,4),(2,4),(3,4),(4,3),(5,3),(6,3),(7,3)],8,56,.agg [.str [],.bool false,.bool false,.bool false,.int .i64 0,.int .i64 0,.int .i64 0,.int .i64 0]⟩,by kernel_rfl⟩) (.node (some ⟨145,⟨.struct [(0,34),(4,3)],5,64,.agg [.int .i64 0,.str [],.int .i64 0,.nils,.int .i64 0]⟩,by kernel_rfl⟩) .leaf .leaf) (.node (some ⟨209,⟨.struct [(0,17),(1,17),(2,17),(3,9)],4,40,.agg [.nilp,.nilp,.nilp,.str []]⟩,by kernel_rfl⟩) .leaf .leaf)) .leaf)) (.node none (.node (some ⟨41,⟨.struct [(0,28),(1,28)],2,48,.agg [.nils,.nils]⟩,by kernel_rfl⟩) .leaf .leaf) (.node (some ⟨57,⟨.pointer 60,1,8,.nilp⟩,by kernel_rfl⟩) .leaf (.node none (.node (some ⟨185,⟨.pointer 34,1,8,.nilp⟩,by kernel_rfl⟩) .leaf .leaf) .leaf)))) (.node (some ⟨13,⟨.struct [(0,9),(1,12)],2,24,.agg [.str [],.int .u64 0]⟩,by kernel_rfl⟩) (.node (some ⟨21,⟨.int .i32,1,4,.int .i32 0⟩,by kernel_rfl⟩) (.node none (.node none .leaf (.node (some ⟨197,⟨.array 65 5,65,65,.agg (List.replicate 65 (.int .u8 0))⟩,by kernel_rfl⟩) .leaf .leaf)) .leaf) (.node none (.node none .leaf (.node (some ⟨213,⟨.struct [(0,211)],0,0,.agg []⟩,by kernel_rfl⟩) .leaf .leaf)) (.node none (.node (some ⟨181,⟨.pointer 160,1,8,.nilp⟩,by kernel_rfl⟩) .leaf .leaf) .leaf))) (.node (some ⟨29,⟨.slice 34,1,24,.nils⟩,by kernel_rfl⟩) (.node (some ⟨45,⟨.struct [(0,3),(1,3)],2,16,.agg [.int .i64 0,.int .i64 0]⟩,by kernel_rfl⟩) .leaf .leaf) (.node none (.node none .leaf (.node (some ⟨221,⟨.struct [(0,12),(1,12),(2,132),(3,215),(4,5),(5,5),(6,216),(7,217),(8,88),(9,218),(10,219)],11,48,.agg [.int .u64 0,.int .u64 0,.int .u32 0,.int .u8 0,.int .u8 0,.int .u8 0,.int .u8 0,.nilf,.nilp,.int .i32 0,.int .i32 0]⟩,by kernel_rfl⟩) .leaf .leaf)) .leaf))))) (.node (some ⟨2,⟨.int .i64,1,8,.int .i64 0⟩,by kernel_rfl⟩) (.node (some ⟨4,⟨.bool,1,1,.bool false⟩,by kernel_rfl⟩) (.node (some ⟨8,⟨.struct [(0,2),(1,3),(2,4),(3,6)],4,24,.agg [.int .i64 0,.int .i64 0,.bool false,.int .u8 0]⟩,by kernel_rfl⟩) (.node (some ⟨16,⟨.pointer 213,1,8,.nilp⟩,by kernel_rfl⟩) (.node none .leaf (.node none (.node (some ⟨160,⟨.int .u64,1,8,.int .u64 0⟩,by kernel_rfl⟩) .leaf .leaf) .leaf)) (.node none .leaf (.node (some ⟨112,⟨.pointer 3,1,8,.nilp⟩,by kernel_rfl⟩) (.node (some ⟨176,⟨.array 24 5,24,24,.agg [.int .u8 0,.int .u8 0,.int .u8 0,.int .u8 0,.int .u8 0,.int .u8 0,.int .u8 0,.int .u8 0,.int .u8 0,.int .u8 0,.int .u8 0,.int .u8 0,.int .u8 0,.int .u8 0,.int .u8 0,.int .u8 0,.int .u8 0,.int .u8 0,.int .u8 0,.int .u8 0,.int .u8 0,.int .u8 0,.int .u8 0,.int .u8 0]⟩,by kernel_rfl⟩) .leaf .leaf) .leaf))) (.node none (.node none (.node none (.node (some ⟨136,⟨.struct [(0,9),(1,3),(2,3),(3,3)],4,40,.agg [.str [],.int .i64 0,.int .i64 0,.int .i64 0]⟩,by kernel_rfl⟩) .leaf .leaf) .leaf) .leaf) (.node none (.node (some ⟨88,⟨.pointer 5,1,8,.nilp⟩,by kernel_rfl⟩) .leaf (.node (some ⟨216,⟨.int .u8,1,1,.int .u8 0⟩,by kernel_rfl⟩) .leaf .leaf)) .leaf))) (.node (some ⟨12,⟨.int .u64,1,8,.int .u64 0⟩,by kernel_rfl⟩) (.node none (.node (some ⟨36,⟨.int .i64,1,8,.int .i64 0⟩,by kernel_rfl⟩) (.node none (.node (some ⟨132,⟨.int .u32,1,4,.int .u32 0⟩,by kernel_rfl⟩) .leaf .leaf) (.node (some ⟨196,⟨.array 20 134,20,160,.agg [.int .u64 0,.int .u64 0,.int .u64 0,.int .u64 0,.int .u64 0,.int .u64 0,.int .u64 0,.int .u64 0,.int .u64 0,.int .u64 0,.int .u64 0,.int .u64 0,.int .u64 0,.int .u64 0,.int .u64 0,.int .u64 0,.int .u64 0,.int .u64 0,.int .u64 0,.int .u64 0]⟩,by kernel_rfl⟩) .leaf .leaf)) .leaf) (.node none (.node none .leaf (.node (some ⟨212,⟨.struct [(0,211)],0,0,.agg []⟩,by kernel_rfl⟩) .leaf .leaf)) (.node (some ⟨116,⟨.map 9 4,1,8,.nilm⟩,by kernel_rfl⟩) .leaf .leaf))) (.node (some ⟨28,⟨.slice 9,1,24,.nils⟩,by kernel_rfl⟩) .leaf (.node (some ⟨60,⟨.struct [(0,57),(1,58)],2,32,.agg [.nilp,.nils]⟩,by kernel_rfl⟩) (.node none .leaf (.node (some ⟨220,⟨.struct [(0,12),(1,12),(2,132),(3,215),(4,5),(5,5),(6,216),(7,217),(8,88),(9,218),(10,219)],11,48,.agg [.int .u64 0,.int .u64 0,.int .u32 0,.int .u8 0,.int .u8 0,.int .u8 0,.int .u8 0,.nilf,.nilp,.int .i32 0,.int .i32 0]⟩,by kernel_rfl⟩) .leaf .leaf)) (.node (some ⟨124,⟨.int .i64,1,8,.int .i64 0⟩,by kernel_rfl⟩) .leaf .leaf))))) (.node (some ⟨6,⟨.int .u8,1,1,.int .u8 0⟩,by kernel_rfl⟩) (.node (some ⟨10,⟨.string,1,16,.str []⟩,by kernel_rfl⟩) (.node (some ⟨18,⟨.struct [(0,17)],1,8,.agg [.nilp]⟩,by kernel_rfl⟩) (.node (some ⟨34,⟨.struct [(0,3),(1,9),(2,3),(3,29)],4,56,.agg [.int .i64 0,.str [],.int .i64 0,.nils]⟩,by kernel_rfl⟩) .leaf (.node (some ⟨98,⟨.int .u64,1,8,.int .u64 0⟩,by kernel_rfl⟩) .leaf .leaf)) (.node none (.node (some ⟨82,⟨.struct [(0,9),(1,4),(2,4),(3,4),(4,3),(5,3),(6,3),(7,3)],8,56,.agg [.str [],.bool false,.bool false,.bool false,.int .i64 0,.int .i64 0,.int .i64 0,.int .i64 0]⟩,by kernel_rfl⟩) (.node (some ⟨146,⟨.struct [(0,34),(4,3)],5,64,.agg [.int .i64 0,.str [],.int .i64 0,.nils,.int .i64 0]⟩,by kernel_rfl⟩) .leaf .leaf) (.node (some ⟨210,⟨.struct [(0,17),(1,17),(2,17),(3,9)],4,40,.agg [.nilp,.nilp,.nilp,.str []]⟩,by kernel_rfl⟩) .leaf .leaf)) .leaf)) (.node none (.node (some ⟨42,⟨.struct [(0,28),(1,28)],2,48,.agg [.nils,.nils]⟩,by kernel_rfl⟩) .leaf (.node (some ⟨106,⟨.slice 146,1,24,.nils⟩,by kernel_rfl⟩) .leaf .leaf)) (.node (some ⟨58,⟨.slice 5,1,24,.nils⟩,by kernel_rfl⟩) (.node none .leaf (.node (some ⟨218,⟨.int .i32,1,4,.int .i32 0⟩,by kernel_rfl⟩) .leaf .leaf)) .leaf))) (.node (some ⟨14,⟨.struct [(0,9),(1,12)],2,24,.agg [.str [],.int .u64 0]⟩,by kernel_rfl⟩) (.node (some ⟨22,⟨.slice 31,1,24,.nils⟩,by kernel_rfl⟩) (.node none (.node none (.node (some ⟨134,⟨.int .u64,1,8,.int .u64 0⟩,by kernel_rfl⟩) .leaf .leaf) .leaf) .leaf) .leaf) (.node (some ⟨30,⟨.struct [(0,3),(1,3),(2,3),(3,28),(4,3),(5,29)],6,80,.agg [.int .i64 0,.int .i64 0,.int .i64 0,.nils,.int .i64 0,.nils]⟩,by kernel_rfl⟩) (.node (some ⟨46,⟨.struct [(0,3),(1,3)],2,16,.agg [.int .i64 0,.int .i64 0]⟩,by kernel_rfl⟩) (.node none .leaf (.node (some ⟨206,⟨.array 32 5,32,32,.agg [.int .u8 0,.int .u8 0,.int .u8 0,.int .u8 0,.int .u8 0,.int .u8 0,.int .u8 0,.int .u8 0,.int .u8 0,.int .u8 0,.int .u8 0,.int .u8 0,.int .u8 0,.int .u8 0,.int .u8 0,.int .u8 0,.int .u8 0,.int .u8 0,.int .u8 0,.int .u8 0,.int .u8 0,.int .u8 0,.int .u8 0,.int .u8 0,.int .u8 0,.int .u8 0,.int .u8 0,.int .u8 0,.int .u8 0,.int .u8 0,.int .u8 0,.int .u8 0]⟩,by kernel_rfl⟩) .leaf .leaf)) .leaf) .leaf)))))
def fe2:QF:=qf func2
def fe3:QF:=qf func3
def fe4:QF:=qf func4
def fe5:QF:=qf func5
def fe6:QF:=qf func6
def fe7:QF:=qf func7
def fe8:QF:=qf func8
def fe9:QF:=qf func9
def Zpx:QF:=qf func10
def Zo6:QF:=qf func11
def ZpI:QF:=qf func12
def fe13:QF:=qf func13
def fe14:QF:=qf func14
def fe15:QF:=qf func15
def fe16:QF:=qf func16
def fe17:QF:=qf func17
def fe18:QF:=qf func18
def fe19:QF:=qf func19
def fe20:QF:=qf func20
def fe21:QF:=qf func21
def fe22:QF:=qf func22
def ZnQ:QF:=qf func23
def Zoi:QF:=qf func24
def ZpG:QF:=qf func25
def fe26:QF:=qf func26
def Zof:QF:=qf func27
def ZoD:QF:=qf func28
def ZoB:QF:=qf func29
def ZnV:QF:=qf func30
def ZoI:QF:=qf func31
def fe32:QF:=qf func32
def Zpi:QF:=qf func33
def ZpF:QF:=qf func34
def fe35:QF:=qf func35
def fe36:QF:=qf func36
def fe37:QF:=qf func37
def fe38:QF:=qf func38
def fe39:QF:=qf func39
def fe40:QF:=qf func40
def fe41:QF:=qf func41
def fe42:QF:=qf func42
def fe43:QF:=qf func43
def fe44:QF:=qf func44
def Zo9:QF:=qf func45
def fe46:QF:=qf func46
def Zn7:QF:=qf func47
def fe48:QF:=qf func48
def ZnX:QF:=qf func49
def fe50:QF:=qf func50
def Zn2:QF:=qf func51
def ZoS:QF:=qf func52
def ZpM:QF:=qf func53
def ZoV:QF:=qf func54
def Zor:QF:=qf func55
def Zpb:QF:=qf func56
def Zo7:QF:=qf func57
def ZnW:QF:=qf func58
def Zoe:QF:=qf func59
def fe60:QF:=qf func60
def fe61:QF:=qf func61
def fe62:QF:=qf func62
def fe63:QF:=qf func63
def fe64:QF:=qf func64
def fe65:QF:=qf func65
def fe66:QF:=qf func66
def fe67:QF:=qf func67
def fe68:QF:=qf func68
def fe69:QF:=qf func69
def fe70:QF:=qf func70
def fe71:QF:=qf func71
def fe72:QF:=qf func72
def fe73:QF:=qf func73
def fe74:QF:=qf func74
def fe75:QF:=qf func75
def fe76:QF:=qf func76
def fe77:QF:=qf func77
def fe78:QF:=qf func78
def fe79:QF:=qf func79
def fe80:QF:=qf func80
def fe81:QF:=qf func81
def fe82:QF:=qf func82
def fe83:QF:=qf func83
def Zph:QF:=qf func84
def fe86:QF:=qf func86
def Zn6:QF:=qf func87
def Zos:QF:=qf func88
def Zol:QF:=qf func89
def Zog:QF:=qf func90
def Zok:QF:=qf func91
def Zn9:QF:=qf func92
def Zn8:QF:=qf func93
def ZoX:QF:=qf func94
def Zo2:QF:=qf func95
def Zpt:QF:=qf func96
def Zpc:QF:=qf func97
def Zou:QF:=qf func98
def ZnS:QF:=qf func99
def ZmD:QF:=qf func100
def Zl5:QF:=qf func101
def Zmc:QF:=qf func102
def Zmi:QF:=qf func103
def fe104:QF:=qf func104
def fe105:QF:=qf func105
def fe106:QF:=qf func106
def fe107:QF:=qf func107
def fe108:QF:=qf func108
def fe109:QF:=qf func109
def fe110:QF:=qf func110
def fe111:QF:=qf func111
def fe112:QF:=qf func112
def fe113:QF:=qf func113
def fe114:QF:=qf func114
def fe115:QF:=qf func115
def fe116:QF:=qf func116
def fe117:QF:=qf func117
def fe118:QF:=qf func118
def fe119:QF:=qf func119
def fe120:QF:=qf func120
def fe121:QF:=qf func121
def fe122:QF:=qf func122
def fe123:QF:=qf func123
def ZmB:QF:=qf func124
def fe125:QF:=qf func125
def fe126:QF:=qf func126
def fe127:QF:=qf func127
def fe128:QF:=qf func128
def fe129:QF:=qf func129
def fe130:QF:=qf func130
def fe131:QF:=qf func131
def fe132:QF:=qf func132
def fe133:QF:=qf func133
def fe134:QF:=qf func134
def ZmO:QF:=qf func135
def ZlZ:QF:=qf func136
def Zmb:QF:=qf func137
def Znh:QF:=qf func138
def ZmP:QF:=qf func139
def fe140:QF:=qf func140
def ZmY:QF:=qf func141
def ZmZ:QF:=qf func142
def Zmt:QF:=qf func143
def Zno:QF:=qf func144
def Zm1:QF:=qf func145
def Zng:QF:=qf func146
def Zmy:QF:=qf func147
def Zl1:QF:=qf func148
def ZmN:QF:=qf func149
def Zm6:QF:=qf func150
def Zmj:QF:=qf func152
def fe153:QF:=qf func153
def fe154:QF:=qf func154
def fe155:QF:=qf func155
def fe156:QF:=qf func156
def fe157:QF:=qf func157
def fe158:QF:=qf func158
def fe159:QF:=qf func159
def fe160:QF:=qf func160
def fe161:QF:=qf func161
def fe162:QF:=qf func162
def fe163:QF:=qf func163
def fe164:QF:=qf func164
def fe165:QF:=qf func165
def fe166:QF:=qf func166
def fe167:QF:=qf func167
def Zmz:QF:=qf func168
def Znk:QF:=qf func169
def Znc:QF:=qf func170
def ZlM:QF:=qf func171
def Znn:QF:=qf func172
def ZlV:QF:=qf func173
def Zni:QF:=qf func174
def ZlP:QF:=qf func176
def ZlX:QF:=qf func178
def Znd:QF:=qf func179
def Zna:QF:=qf func180
def ZmV:QF:=qf func181
def fe182:QF:=qf func182
def fe183:QF:=qf func183
def fe184:QF:=qf func184
def fe185:QF:=qf func185
def fe186:QF:=qf func186
def fe187:QF:=qf func187
def fe188:QF:=qf func188
def fe189:QF:=qf func189
def fe190:QF:=qf func190
def fe191:QF:=qf func191
def fe192:QF:=qf func192
def fe193:QF:=qf func193
def ZmF:QF:=qf func194
def ZmG:QF:=qf func195
def ZlT:QF:=qf func196
def Zmh:QF:=qf func197
def ZmQ:QF:=qf func198
def Zmw:QF:=qf func199
def Zm3:QF:=qf func200
def ZmR:QF:=qf func202
def Znm:QF:=qf func204
def fe205:QF:=qf func205
def Zmv:QF:=qf func206
def Zm7:QF:=qf func207
def Zmr:QF:=qf func208
def ZmU:QF:=qf func209
def Zmm:QF:=qf func210
def ZmK:QF:=qf func211
def Zl9:QF:=qf func212
def ZmX:QF:=qf func213
def ZlW:QF:=qf func238
def ZoW:Tri (FnE Tryz.prog):=(.node none (.node none (.node (some fe3) (.node (some fe7) (.node (some fe15) (.node (some ZoI) (.node (some fe63) (.node (some fe127) .leaf .leaf) (.node (some fe191) .leaf .leaf)) (.node (some Zo2) (.node (some fe159) .leaf .leaf) .leaf)) (.node (some Zn7) (.node (some fe79) (.node (some Zmt) .leaf .leaf) (.node (some Zm7) .leaf .leaf)) (.node (some fe111) .leaf .leaf))) (.node (some ZnQ) (.node (some fe39) (.node (some fe71) (.node (some ZmO) .leaf .leaf) (.node (some Zmw) .leaf .leaf)) (.node (some Zmi) (.node (some fe167) .leaf .leaf) .leaf)) (.node (some Zor) (.node (some Zn6) .leaf .leaf) (.node (some fe119) (.node (some fe183) .leaf .leaf) .leaf)))) (.node (some Zo6) (.node (some fe19) (.node (some fe35) (.node (some fe67) (.node (some fe131) .leaf .leaf) (.node (some ZmG) .leaf .leaf)) (.node (some ZnS) (.node (some fe163) .leaf .leaf) .leaf)) (.node (some Zn2) (.node (some fe83) (.node (some Zmy) .leaf .leaf) (.node (some ZmK) .leaf .leaf)) (.node (some fe115) (.node (some Znd) .leaf .leaf) .leaf))) (.node (some Zof) (.node (some fe43) (.node (some fe75) (.node (some ZmP) .leaf .leaf) .leaf) (.node (some fe107) (.node (some ZlM) .leaf .leaf) .leaf)) (.node (some Zoe) (.node (some Zok) (.node (some fe155) .leaf .leaf) .leaf) (.node (some fe123) (.node (some fe187) .leaf .leaf) .leaf))))) (.node (some fe5) (.node (some fe9) (.node (some fe17) (.node (some Zpi) (.node (some fe65) (.node (some fe129) .leaf .leaf) (.node (some fe193) .leaf .leaf)) (.node (some Zpc) (.node (some fe161) .leaf .leaf) .leaf)) (.node (some ZnX) (.node (some fe81) (.node (some Zm1) .leaf .leaf) (.node (some ZmU) .leaf .leaf)) (.node (some fe113) .leaf .leaf))) (.node (some ZpG) (.node (some fe41) (.node (some fe73) (.node (some Zmb) .leaf .leaf) .leaf) (.node (some fe105) (.node (some Znk) .leaf .leaf) .leaf)) (.node (some Zo7) (.node (some Zol) (.node (some fe153) .leaf .leaf) .leaf) (.node (some fe121) (.node (some fe185) .leaf .leaf) .leaf)))) (.node (some fe13) (.node (some fe21) (.node (some fe37) (.node (some fe69) (.node (some fe133) .leaf .leaf) (.node (some Zmh) .leaf .leaf)) (.node (some Zl5) (.node (some fe165) .leaf .leaf) .leaf)) (.node (some ZpM) (.node none (.node (some ZmN) .leaf .leaf) (.node (some ZmX) .leaf .leaf)) (.node (some fe117) (.node (some ZmV) .leaf .leaf) .leaf))) (.node (some ZoB) (.node (some Zo9) (.node (some fe77) (.node (some ZmY) .leaf .leaf) (.node (some fe205) .leaf .leaf)) (.node (some fe109) (.node (some ZlV) .leaf .leaf) .leaf)) (.node (some fe61) (.node (some Zn8) (.node (some fe157) .leaf .leaf) .leaf) (.node (some fe125) (.node (some fe189) .leaf .leaf) .leaf)))))) (.node (some fe2) (.node (some fe4) (.node (some fe8) (.node (some fe16) (.node (some fe32) (.node (some fe64) (.node (some fe128) .leaf .leaf) (.node (some fe192) .leaf .leaf)) (.node (some Zpt) (.node (some fe160) .leaf .leaf) .leaf)) (.node (some fe48) (.node (some fe80) (.node (some Zno) .leaf .leaf) (.node (some Zmr) .leaf .leaf)) (.node (some fe112) (.node (some ZlP) .leaf .leaf) .leaf))) (.node (some Zoi) (.node (some fe40) (.node (some fe72) (.node (some ZlZ) .leaf .leaf) (.node (some Zm3) .leaf .leaf)) (.node (some fe104) (.node (some Zmz) .leaf .leaf) .leaf)) (.node (some Zpb) (.node (some Zos) (.node (some Zmj) .leaf .leaf) .leaf) (.node (some fe120) (.node (some fe184) .leaf .leaf) .leaf)))) (.node (some ZpI) (.node (some fe20) (.node (some fe36) (.node (some fe68) (.node (some fe132) .leaf .leaf) (.node (some ZlT) .leaf .leaf)) (.node (some ZmD) (.node (some fe164) .leaf .leaf) .leaf)) (.node (some ZoS) (.node (some Zph) (.node (some Zl1) .leaf .leaf) (.node (some Zl9) .leaf .leaf)) (.node (some fe116) (.node (some Zna) .leaf .leaf) .leaf))) (.node (some ZoD) (.node (some fe44) (.node (some fe76) (.node (some fe140) .leaf .leaf) (.node (some Znm) .leaf .leaf)) (.node (some fe108) (.node (some Znn) .leaf .leaf) .leaf)) (.node (some fe60) (.node (some Zn9) (.node (some fe156) .leaf .leaf) .leaf) (.node (some ZmB) (.node (some fe188) .leaf .leaf) .leaf))))) (.node (some fe6) (.node (some Zpx) (.node (some fe18) (.node (some ZpF) (.node (some fe66) (.node (some fe130) .leaf .leaf) (.node (some ZmF) .leaf .leaf)) (.node (some Zou) (.node (some fe162) .leaf .leaf) .leaf)) (.node (some fe50) (.node (some fe82) (.node (some Zng) .leaf .leaf) (.node (some Zmm) .leaf .leaf)) (.node (some fe114) (.node (some ZlX) .leaf .leaf) .leaf))) (.node (some fe26) (.node (some fe42) (.node (some fe74) (.node (some Znh) .leaf .leaf) (.node (some ZmR) .leaf .leaf)) (.node (some fe106) (.node (some Znc) .leaf .leaf) .leaf)) (.node (some ZnW) (.node (some Zog) (.node (some fe154) .leaf .leaf) .leaf) (.node (some fe122) (.node (some fe186) .leaf .leaf) .leaf)))) (.node (some fe14) (.node (some fe22) (.node (some fe38) (.node (some fe70) (.node (some fe134) .leaf .leaf) (.node (some ZmQ) .leaf .leaf)) (.node (some Zmc) (.node (some fe166) .leaf .leaf) .leaf)) (.node (some ZoV) (.node (some fe86) (.node (some Zm6) .leaf .leaf) .leaf) (.node (some fe118) (.node (some fe182) .leaf .leaf) .leaf))) (.node (some ZnV) (.node (some fe46) (.node (some fe78) (.node (some ZmZ) .leaf .leaf) (.node (some Zmv) .leaf .leaf)) (.node (some fe110) (.node (some Zni) .leaf .leaf) (.node (some ZlW) .leaf .leaf))) (.node (some fe62) (.node (some ZoX) (.node (some fe158) .leaf .leaf) .leaf) (.node (some fe126) (.node (some fe190) .leaf .leaf) .leaf)))))))
def zl:List (Nat×ZF):=[(201,ZlL),(50,ZhA),(46,ccZ 60),(26,ZhJ 60),(151,Zkk)]
def ZbE:List PV:=[.sl .none 1 [[.str [97,110,121]],[.str [97,103,101,110,116]],[.str [110,111,110,99,101]],[.str [107,101,121]],[.str [100,97,116,97]],[.str [116,97,103]]]]
def E0:Env where
 T:=Zl3 ZoT
 F:=fun f=>match Znz zl f with|true=>none|false=>Zne ZoW f
 G:=fun k=>(match Nat.beq k 0 with|true=>some ZbE|false=>none)
 Z:=ZgL zl
 eff:=fun f=>[16,31,58,94,33,57,56,91,87,24,141,46,26,71,181,206,207].any (Nat.beq f)
 own:=fun f d=>[(57,24),(57,50),(56,18),(16,7),(29,5014)].any fun x=>Nat.beq f x.1&&Nat.beq d x.2
 tyd:=fun t=>Nat.beq t 60
 I:=fun k=>[].any (Nat.beq k)
 mono:=false
theorem tOk:TOk E0 Tryz.prog:=⟨fun _ _ h=>Zcv h⟩
theorem fOk:FOk E0 Tryz.prog:=fun f fn c h hb=>by
 simp only [E0] at h
 split at h
 · cases h
 · exact Zjh h hb
theorem follows:Tryz.prog.follows .mixedOrders=true:=by kernel_rfl
def E1:Env:={E0 with mono:=true}
theorem Zcl:TOk E1 Tryz.prog:=⟨fun _ _ h=>Zcv h⟩
set_option maxRecDepth 100000 in
theorem ZlK {args:List PV} {H H':Heap} {r:PV} (h:CallOk E1 Tryz.prog f args H r H'):CallOk E0 Tryz.prog f args H r H':=CallOk.env (E:=E1) (E':=E0) (hG:=rfl) (hI:=rfl) (hm:=fun _=>rfl) h
