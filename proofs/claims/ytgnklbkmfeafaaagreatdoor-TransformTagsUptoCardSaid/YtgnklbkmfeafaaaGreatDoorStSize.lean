/-
  The size of a term, and the comparison of two numbers, as the reference computes
-/
import Derived.Test.YtgnklbkmfeafaaaGreatDoorFg
import Derived.Test.YtgnklbkmfeafaaaGreatDoorProg
set_option maxHeartbeats 0
set_option maxRecDepth 100000
noncomputable section
namespace Go.Vm.Seat
open Go.Proofs Go.Proofs.Tryz
abbrev QF:=FnE Tryz.prog
noncomputable abbrev qf {f:FuncId} {fn:Func} (h:prog.funcs[f]? = some fn) {c:Code} (h1:fn.body=some c:=by exact rfl) (h2:(fn.name == "runtime.NumGoroutine")=false:=by kernel_rfl) (h3:Nat.ble fn.ntmps 4000=true:=by kernel_rfl):QF:=⟨f,fn,c,⟨h,h1,h2⟩,h3⟩
def ZkP:Tri (TiE Tryz.prog):=(.node none (.node none (.node (some ⟨3,⟨.int .i64,1,8,.int .i64 0⟩,by kernel_rfl⟩) (.node (some ⟨7,⟨.struct [(0,2),(1,3),(2,4),(3,6)],4,24,.agg [.int .i64 0,.int .i64 0,.bool false,.int .u8 0]⟩,by kernel_rfl⟩) (.node (some ⟨15,⟨.pointer 189,1,8,.nilp⟩,by kernel_rfl⟩) (.node none (.node none .leaf (.node (some ⟨191,⟨.struct [(0,190)],0,0,.agg []⟩,by kernel_rfl⟩) .leaf .leaf)) (.node (some ⟨95,⟨.struct [(0,22),(1,94)],2,32,.agg [.nils,.nilm]⟩,by kernel_rfl⟩) .leaf .leaf)) (.node (some ⟨47,⟨.slice 49,1,24,.nils⟩,by kernel_rfl⟩) (.node (some ⟨79,⟨.struct [(0,76),(1,3),(2,4)],3,40,.agg [.nils,.int .i64 0,.bool false]⟩,by kernel_rfl⟩) .leaf .leaf) (.node none (.node (some ⟨175,⟨.int .u64,1,8,.int .u64 0⟩,by kernel_rfl⟩) .leaf .leaf) .leaf))) (.node (some ⟨23,⟨.slice 66,1,24,.nils⟩,by kernel_rfl⟩) (.node none (.node none .leaf (.node (some ⟨199,⟨.int .i32,1,4,.int .i32 0⟩,by kernel_rfl⟩) .leaf .leaf)) .leaf) .leaf)) (.node (some ⟨11,⟨.string,1,16,.str []⟩,by kernel_rfl⟩) (.node (some ⟨19,⟨.struct [(0,17)],1,8,.agg [.nilp]⟩,by kernel_rfl⟩) (.node none (.node none .leaf (.node (some ⟨195,⟨.int .u8,1,1,.int .u8 0⟩,by kernel_rfl⟩) .leaf .leaf)) .leaf) (.node (some ⟨51,⟨.struct [(0,9),(1,9),(2,49),(6,3)],7,96,.agg [.str [],.str [],.int .i64 0,.str [],.int .i64 0,.nils,.int .i64 0]⟩,by kernel_rfl⟩) .leaf (.node none (.node (some ⟨179,⟨.pointer 3,1,8,.nilp⟩,by kernel_rfl⟩) .leaf .leaf) .leaf))) (.node (some ⟨27,⟨.struct [(0,9),(1,22),(2,23),(3,22),(4,24),(5,25)],6,136,.agg [.str [],.nils,.nils,.nils,.nils,.nils]⟩,by kernel_rfl⟩) (.node none .leaf (.node none (.node (some ⟨171,⟨.array 20 155,20,160,.agg [.int .u64 0,.int .u64 0,.int .u64 0,.int .u64 0,.int .u64 0,.int .u64 0,.int .u64 0,.int .u64 0,.int .u64 0,.int .u64 0,.int .u64 0,.int .u64 0,.int .u64 0,.int .u64 0,.int .u64 0,.int .u64 0,.int .u64 0,.int .u64 0,.int .u64 0,.int .u64 0]⟩,by kernel_rfl⟩) .leaf .leaf) .leaf)) (.node none (.node none (.node (some ⟨155,⟨.int .u64,1,8,.int .u64 0⟩,by kernel_rfl⟩) .leaf .leaf) .leaf) .leaf)))) (.node (some ⟨5,⟨.int .u8,1,1,.int .u8 0⟩,by kernel_rfl⟩) (.node (some ⟨9,⟨.string,1,16,.str []⟩,by kernel_rfl⟩) (.node (some ⟨17,⟨.pointer 201,1,8,.nilp⟩,by kernel_rfl⟩) (.node none (.node (some ⟨65,⟨.struct [(0,9),(1,9),(2,3)],3,40,.agg [.str [],.str [],.int .i64 0]⟩,by kernel_rfl⟩) .leaf .leaf) .leaf) (.node (some ⟨49,⟨.struct [(0,3),(1,9),(2,3),(3,47)],4,56,.agg [.int .i64 0,.str [],.int .i64 0,.nils]⟩,by kernel_rfl⟩) .leaf .leaf)) (.node (some ⟨25,⟨.slice 54,1,24,.nils⟩,by kernel_rfl⟩) (.node none (.node none .leaf (.node (some ⟨201,⟨.struct [(0,12),(1,12),(2,172),(3,194),(4,5),(5,5),(6,195),(7,196),(8,197),(9,198),(10,199)],11,48,.agg [.int .u64 0,.int .u64 0,.int .u32 0,.int .u8 0,.int .u8 0,.int .u8 0,.int .u8 0,.nilf,.nilp,.int .i32 0,.int .i32 0]⟩,by kernel_rfl⟩) .leaf .leaf)) .leaf) (.node none .leaf (.node none (.node (some ⟨185,⟨.array 32 5,32,32,.agg [.int .u8 0,.int .u8 0,.int .u8 0,.int .u8 0,.int .u8 0,.int .u8 0,.int .u8 0,.int .u8 0,.int .u8 0,.int .u8 0,.int .u8 0,.int .u8 0,.int .u8 0,.int .u8 0,.int .u8 0,.int .u8 0,.int .u8 0,.int .u8 0,.int .u8 0,.int .u8 0,.int .u8 0,.int .u8 0,.int .u8 0,.int .u8 0,.int .u8 0,.int .u8 0,.int .u8 0,.int .u8 0,.int .u8 0,.int .u8 0,.int .u8 0,.int .u8 0]⟩,by kernel_rfl⟩) .leaf .leaf) .leaf)))) (.node (some ⟨13,⟨.struct [(0,9),(1,12)],2,24,.agg [.str [],.int .u64 0]⟩,by kernel_rfl⟩) (.node (some ⟨21,⟨.int .i32,1,4,.int .i32 0⟩,by kernel_rfl⟩) (.node none (.node none .leaf (.node (some ⟨197,⟨.pointer 5,1,8,.nilp⟩,by kernel_rfl⟩) .leaf .leaf)) .leaf) (.node (some ⟨53,⟨.struct [(0,3),(1,9),(2,9),(3,47),(4,3)],5,72,.agg [.int .i64 0,.str [],.str [],.nils,.int .i64 0]⟩,by kernel_rfl⟩) .leaf (.node (some ⟨117,⟨.struct [(0,3),(1,9),(2,2),(3,9),(4,3)],5,56,.agg [.int .i64 0,.str [],.int .i64 0,.str [],.int .i64 0]⟩,by kernel_rfl⟩) .leaf .leaf))) (.node none (.node none .leaf (.node none (.node (some ⟨173,⟨.array 65 5,65,65,.agg (List.replicate 65 (.int .u8 0))⟩,by kernel_rfl⟩) .leaf .leaf) .leaf)) (.node none .leaf (.node none (.node (some ⟨189,⟨.struct [(0,17),(1,17),(2,17),(3,9)],4,40,.agg [.nilp,.nilp,.nilp,.str []]⟩,by kernel_rfl⟩) .leaf .leaf) .leaf)))))) (.node (some ⟨2,⟨.int .i64,1,8,.int .i64 0⟩,by kernel_rfl⟩) (.node (some ⟨4,⟨.bool,1,1,.bool false⟩,by kernel_rfl⟩) (.node (some ⟨8,⟨.struct [(0,2),(1,3),(2,4),(3,6)],4,24,.agg [.int .i64 0,.int .i64 0,.bool false,.int .u8 0]⟩,by kernel_rfl⟩) (.node (some ⟨16,⟨.pointer 192,1,8,.nilp⟩,by kernel_rfl⟩) (.node none (.node none .leaf (.node (some ⟨192,⟨.struct [(0,190)],0,0,.agg []⟩,by kernel_rfl⟩) .leaf .leaf)) (.node (some ⟨96,⟨.struct [(0,22),(1,94)],2,32,.agg [.nils,.nilm]⟩,by kernel_rfl⟩) .leaf .leaf)) (.node (some ⟨48,⟨.struct [(0,3),(1,9),(2,3),(3,47)],4,56,.agg [.int .i64 0,.str [],.int .i64 0,.nils]⟩,by kernel_rfl⟩) (.node (some ⟨80,⟨.struct [(0,76),(1,3),(2,4)],3,40,.agg [.nils,.int .i64 0,.bool false]⟩,by kernel_rfl⟩) .leaf .leaf) .leaf)) (.node (some ⟨24,⟨.slice 51,1,24,.nils⟩,by kernel_rfl⟩) (.node none (.node none .leaf (.node (some ⟨200,⟨.struct [(0,12),(1,12),(2,172),(3,194),(4,5),(5,5),(6,195),(7,196),(8,197),(9,198),(10,199)],11,48,.agg [.int .u64 0,.int .u64 0,.int .u32 0,.int .u8 0,.int .u8 0,.int .u8 0,.int .u8 0,.nilf,.nilp,.int .i32 0,.int .i32 0]⟩,by kernel_rfl⟩) .leaf .leaf)) .leaf) .leaf)) (.node (some ⟨12,⟨.int .u64,1,8,.int .u64 0⟩,by kernel_rfl⟩) (.node none (.node (some ⟨36,⟨.slice 3,1,24,.nils⟩,by kernel_rfl⟩) .leaf .leaf) .leaf) (.node none (.node none (.node (some ⟨76,⟨.slice 118,1,24,.nils⟩,by kernel_rfl⟩) .leaf .leaf) (.node none (.node (some ⟨172,⟨.int .u32,1,4,.int .u32 0⟩,by kernel_rfl⟩) .leaf .leaf) .leaf)) (.node none .leaf (.node none (.node (some ⟨188,⟨.struct [(0,17),(1,17),(2,17),(3,9)],4,40,.agg [.nilp,.nilp,.nilp,.str []]⟩,by kernel_rfl⟩) .leaf .leaf) .leaf))))) (.node (some ⟨6,⟨.int .u8,1,1,.int .u8 0⟩,by kernel_rfl⟩) (.node (some ⟨10,⟨.string,1,16,.str []⟩,by kernel_rfl⟩) (.node (some ⟨18,⟨.struct [(0,17)],1,8,.agg [.nilp]⟩,by kernel_rfl⟩) (.node none (.node (some ⟨66,⟨.struct [(0,9),(1,9),(2,3)],3,40,.agg [.str [],.str [],.int .i64 0]⟩,by kernel_rfl⟩) .leaf (.node (some ⟨194,⟨.int .u8,1,1,.int .u8 0⟩,by kernel_rfl⟩) .leaf .leaf)) .leaf) (.node (some ⟨50,⟨.struct [(0,9),(1,9),(2,49),(6,3)],7,96,.agg [.str [],.str [],.int .i64 0,.str [],.int .i64 0,.nils,.int .i64 0]⟩,by kernel_rfl⟩) .leaf .leaf)) (.node (some ⟨26,⟨.struct [(0,9),(1,22),(2,23),(3,22),(4,24),(5,25)],6,136,.agg [.str [],.nils,.nils,.nils,.nils,.nils]⟩,by kernel_rfl⟩) .leaf (.node none (.node none (.node (some ⟨154,⟨.array 24 5,24,24,.agg [.int .u8 0,.int .u8 0,.int .u8 0,.int .u8 0,.int .u8 0,.int .u8 0,.int .u8 0,.int .u8 0,.int .u8 0,.int .u8 0,.int .u8 0,.int .u8 0,.int .u8 0,.int .u8 0,.int .u8 0,.int .u8 0,.int .u8 0,.int .u8 0,.int .u8 0,.int .u8 0,.int .u8 0,.int .u8 0,.int .u8 0,.int .u8 0]⟩,by kernel_rfl⟩) .leaf .leaf) .leaf) (.node none (.node (some ⟨186,⟨.array 64 5,64,64,.agg (List.replicate 64 (.int .u8 0))⟩,by kernel_rfl⟩) .leaf .leaf) .leaf)))) (.node (some ⟨14,⟨.struct [(0,9),(1,12)],2,24,.agg [.str [],.int .u64 0]⟩,by kernel_rfl⟩) (.node (some ⟨22,⟨.slice 9,1,24,.nils⟩,by kernel_rfl⟩) (.node none (.node (some ⟨70,⟨.pointer 51,1,8,.nilp⟩,by kernel_rfl⟩) .leaf (.node (some ⟨198,⟨.int .i32,1,4,.int .i32 0⟩,by kernel_rfl⟩) .leaf .leaf)) .leaf) (.node (some ⟨54,⟨.struct [(0,3),(1,9),(2,9),(3,47),(4,3)],5,72,.agg [.int .i64 0,.str [],.str [],.nils,.int .i64 0]⟩,by kernel_rfl⟩) .leaf (.node (some ⟨118,⟨.struct [(0,3),(1,9),(2,2),(3,9),(4,3)],5,56,.agg [.int .i64 0,.str [],.int .i64 0,.str [],.int .i64 0]⟩,by kernel_rfl⟩) .leaf .leaf))) (.node (some ⟨30,⟨.int .i64,1,8,.int .i64 0⟩,by kernel_rfl⟩) .leaf (.node none (.node (some ⟨94,⟨.map 9 3,1,8,.nilm⟩,by kernel_rfl⟩) (.node (some ⟨158,⟨.slice 5,1,24,.nils⟩,by kernel_rfl⟩) .leaf .leaf) .leaf) (.node none (.node (some ⟨190,⟨.array 0 16,0,0,.agg []⟩,by kernel_rfl⟩) .leaf .leaf) .leaf)))))))
def fe2:QF:=qf func2
def fe3:QF:=qf func3
def fe4:QF:=qf func4
def fe5:QF:=qf func5
def fe6:QF:=qf func6
def fe7:QF:=qf func7
def fe8:QF:=qf func8
def fe9:QF:=qf func9
def fe10:QF:=qf func10
def fe11:QF:=qf func11
def fe12:QF:=qf func12
def fe13:QF:=qf func13
def fe14:QF:=qf func14
def fe15:QF:=qf func15
def fe16:QF:=qf func16
def fe17:QF:=qf func17
def fe18:QF:=qf func18
def fe19:QF:=qf func19
def ZkB:QF:=qf func20
def ZkZ:QF:=qf func21
def ZkV:QF:=qf func22
def fe23:QF:=qf func23
def fe24:QF:=qf func24
def fe25:QF:=qf func25
def fe26:QF:=qf func26
def fe27:QF:=qf func27
def Zj9:QF:=qf func28
def fe29:QF:=qf func29
def fe30:QF:=qf func30
def fe31:QF:=qf func31
def fe32:QF:=qf func32
def fe33:QF:=qf func33
def ZjO:QF:=qf func34
def fe35:QF:=qf func35
def fe36:QF:=qf func36
def fe37:QF:=qf func37
def fe38:QF:=qf func38
def fe39:QF:=qf func39
def fe40:QF:=qf func40
def fe41:QF:=qf func41
def fe42:QF:=qf func42
def fe43:QF:=qf func43
def fe44:QF:=qf func44
def fe45:QF:=qf func45
def fe46:QF:=qf func46
def fe47:QF:=qf func47
def fe48:QF:=qf func48
def fe49:QF:=qf func49
def Zj2:QF:=qf func50
def ZjG:QF:=qf func51
def Zkx:QF:=qf func52
def Zkr:QF:=qf func53
def ZkF:QF:=qf func54
def ZkH:QF:=qf func55
def fe56:QF:=qf func56
def fe57:QF:=qf func57
def ZkY:QF:=qf func58
def fe59:QF:=qf func59
def fe60:QF:=qf func60
def fe61:QF:=qf func61
def fe62:QF:=qf func62
def fe63:QF:=qf func63
def fe64:QF:=qf func64
def fe65:QF:=qf func65
def fe66:QF:=qf func66
def fe67:QF:=qf func67
def fe68:QF:=qf func68
def fe69:QF:=qf func69
def fe70:QF:=qf func70
def fe71:QF:=qf func71
def ZkN:QF:=qf func72
def fe73:QF:=qf func73
def fe74:QF:=qf func74
def fe75:QF:=qf func75
def fe76:QF:=qf func76
def ZjA:QF:=qf func78
def fe79:QF:=qf func79
def fe80:QF:=qf func80
def fe81:QF:=qf func81
def fe82:QF:=qf func82
def fe83:QF:=qf func83
def fe84:QF:=qf func84
def Zkp:QF:=qf func85
def ZjY:QF:=qf func86
def Zkz:QF:=qf func87
def ZjC:QF:=qf func88
def ZjN:QF:=qf func89
def fe90:QF:=qf func90
def fe91:QF:=qf func91
def fe92:QF:=qf func92
def fe93:QF:=qf func93
def fe94:QF:=qf func94
def fe95:QF:=qf func95
def fe96:QF:=qf func96
def Zke:QF:=qf func97
def Zkq:QF:=qf func98
def fe99:QF:=qf func99
def fe100:QF:=qf func100
def fe101:QF:=qf func101
def fe102:QF:=qf func102
def fe103:QF:=qf func103
def fe104:QF:=qf func104
def fe105:QF:=qf func105
def fe106:QF:=qf func106
def fe107:QF:=qf func107
def fe108:QF:=qf func108
def fe109:QF:=qf func109
def fe110:QF:=qf func110
def fe111:QF:=qf func111
def ZiG:QF:=qf func112
def fe113:QF:=qf func113
def fe114:QF:=qf func114
def fe115:QF:=qf func115
def ZiH:QF:=qf func116
def fe117:QF:=qf func117
def fe118:QF:=qf func118
def fe119:QF:=qf func119
def fe120:QF:=qf func120
def Ziz:QF:=qf func121
def Ziq:QF:=qf func122
def Zi6:QF:=qf func123
def fe124:QF:=qf func124
def Ziu:QF:=qf func125
def fe126:QF:=qf func126
def fe127:QF:=qf func127
def fe128:QF:=qf func128
def fe129:QF:=qf func129
def fe130:QF:=qf func130
def fe131:QF:=qf func131
def fe132:QF:=qf func132
def fe133:QF:=qf func133
def fe134:QF:=qf func134
def fe135:QF:=qf func135
def fe136:QF:=qf func136
def ZiC:QF:=qf func137
def Zio:QF:=qf func138
def Zis:QF:=qf func139
def ZiV:QF:=qf func140
def fe141:QF:=qf func141
def fe142:QF:=qf func142
def ZiB:QF:=qf func143
def fe144:QF:=qf func144
def Zi2:QF:=qf func145
def fe146:QF:=qf func146
def fe147:QF:=qf func147
def fe148:QF:=qf func148
def fe149:QF:=qf func149
def fe150:QF:=qf func150
def fe151:QF:=qf func151
def fe152:QF:=qf func152
def fe153:QF:=qf func153
def fe154:QF:=qf func154
def ZiN:QF:=qf func155
def Zik:QF:=qf func156
def ZiL:QF:=qf func157
def ZiE:QF:=qf func158
def Zii:QF:=qf func159
def fe160:QF:=qf func160
def fe161:QF:=qf func161
def fe162:QF:=qf func162
def fe163:QF:=qf func163
def fe164:QF:=qf func164
def Zil:QF:=qf func166
def Zh2:QF:=qf func167
def ZhZ:QF:=qf func168
def Zh6:QF:=qf func169
def fe170:QF:=qf func170
def fe171:QF:=qf func171
def fe172:QF:=qf func172
def fe173:QF:=qf func173
def fe174:QF:=qf func174
def ZiK:QF:=qf func176
def fe177:QF:=qf func177
def Zip:QF:=qf func199
def Zj5:Tri (FnE Tryz.prog):=(.node none (.node none (.node (some fe3) (.node (some fe7) (.node (some fe15) (.node (some fe31) (.node (some fe63) (.node (some fe127) .leaf .leaf) .leaf) (.node (some fe95) (.node (some Zii) .leaf .leaf) .leaf)) (.node (some fe47) (.node (some fe79) (.node (some ZiB) .leaf .leaf) .leaf) (.node (some fe111) .leaf .leaf))) (.node (some fe23) (.node (some fe39) (.node (some fe71) (.node (some fe135) .leaf .leaf) (.node (some Zip) .leaf .leaf)) (.node (some fe103) (.node (some Zh2) .leaf .leaf) .leaf)) (.node (some ZkH) (.node (some Zkz) (.node (some fe151) .leaf .leaf) .leaf) (.node (some fe119) .leaf .leaf)))) (.node (some fe11) (.node (some fe19) (.node (some fe35) (.node (some fe67) (.node (some fe131) .leaf .leaf) .leaf) (.node (some fe99) (.node (some fe163) .leaf .leaf) .leaf)) (.node (some ZjG) (.node (some fe83) (.node (some fe147) .leaf .leaf) .leaf) (.node (some fe115) .leaf .leaf))) (.node (some fe27) (.node (some fe43) (.node (some fe75) (.node (some Zis) .leaf .leaf) .leaf) (.node (some fe107) (.node (some fe171) .leaf .leaf) .leaf)) (.node (some fe59) (.node (some fe91) (.node (some ZiN) .leaf .leaf) .leaf) (.node (some Zi6) .leaf .leaf))))) (.node (some fe5) (.node (some fe9) (.node (some fe17) (.node (some fe33) (.node (some fe65) (.node (some fe129) .leaf .leaf) .leaf) (.node (some Zke) (.node (some fe161) .leaf .leaf) .leaf)) (.node (some fe49) (.node (some fe81) (.node (some Zi2) .leaf .leaf) .leaf) (.node (some fe113) (.node (some fe177) .leaf .leaf) .leaf))) (.node (some fe25) (.node (some fe41) (.node (some fe73) (.node (some ZiC) .leaf .leaf) .leaf) (.node (some fe105) (.node (some Zh6) .leaf .leaf) .leaf)) (.node (some fe57) (.node (some ZjN) (.node (some fe153) .leaf .leaf) .leaf) (.node (some Ziz) .leaf .leaf)))) (.node (some fe13) (.node (some ZkZ) (.node (some fe37) (.node (some fe69) (.node (some fe133) .leaf .leaf) .leaf) (.node (some fe101) .leaf .leaf)) (.node (some Zkr) (.node (some Zkp) (.node (some fe149) .leaf .leaf) .leaf) (.node (some fe117) .leaf .leaf))) (.node (some fe29) (.node (some fe45) (.node none (.node (some fe141) .leaf .leaf) .leaf) (.node (some fe109) (.node (some fe173) .leaf .leaf) .leaf)) (.node (some fe61) (.node (some fe93) (.node (some ZiL) .leaf .leaf) .leaf) (.node (some Ziu) .leaf .leaf)))))) (.node (some fe2) (.node (some fe4) (.node (some fe8) (.node (some fe16) (.node (some fe32) (.node (some fe64) (.node (some fe128) .leaf .leaf) .leaf) (.node (some fe96) (.node (some fe160) .leaf .leaf) .leaf)) (.node (some fe48) (.node (some fe80) (.node (some fe144) .leaf .leaf) .leaf) (.node (some ZiG) (.node (some ZiK) .leaf .leaf) .leaf))) (.node (some fe24) (.node (some fe40) (.node (some ZkN) (.node (some fe136) .leaf .leaf) .leaf) (.node (some fe104) (.node (some ZhZ) .leaf .leaf) .leaf)) (.node (some fe56) (.node (some ZjC) (.node (some fe152) .leaf .leaf) .leaf) (.node (some fe120) .leaf .leaf)))) (.node (some fe12) (.node (some ZkB) (.node (some fe36) (.node (some fe68) (.node (some fe132) .leaf .leaf) .leaf) (.node (some fe100) (.node (some fe164) .leaf .leaf) .leaf)) (.node (some Zkx) (.node (some fe84) (.node (some fe148) .leaf .leaf) .leaf) (.node (some ZiH) .leaf .leaf))) (.node (some Zj9) (.node (some fe44) (.node (some fe76) (.node (some ZiV) .leaf .leaf) .leaf) (.node (some fe108) (.node (some fe172) .leaf .leaf) .leaf)) (.node (some fe60) (.node (some fe92) (.node (some Zik) .leaf .leaf) .leaf) (.node (some fe124) .leaf .leaf))))) (.node (some fe6) (.node (some fe10) (.node (some fe18) (.node (some ZjO) (.node (some fe66) (.node (some fe130) .leaf .leaf) .leaf) (.node (some Zkq) (.node (some fe162) .leaf .leaf) .leaf)) (.node (some Zj2) (.node (some fe82) (.node (some fe146) .leaf .leaf) .leaf) (.node (some fe114) .leaf .leaf))) (.node (some fe26) (.node (some fe42) (.node (some fe74) (.node (some Zio) .leaf .leaf) .leaf) (.node (some fe106) (.node (some fe170) .leaf .leaf) .leaf)) (.node (some ZkY) (.node (some fe90) (.node (some fe154) .leaf .leaf) .leaf) (.node (some Ziq) .leaf .leaf)))) (.node (some fe14) (.node (some ZkV) (.node (some fe38) (.node (some fe70) (.node (some fe134) .leaf .leaf) .leaf) (.node (some fe102) (.node (some Zil) .leaf .leaf) .leaf)) (.node (some ZkF) (.node (some ZjY) (.node (some fe150) .leaf .leaf) .leaf) (.node (some fe118) .leaf .leaf))) (.node (some fe30) (.node (some fe46) (.node (some ZjA) (.node (some fe142) .leaf .leaf) .leaf) (.node (some fe110) (.node (some fe174) .leaf .leaf) .leaf)) (.node (some fe62) (.node (some fe94) (.node (some ZiE) .leaf .leaf) .leaf) (.node (some fe126) .leaf .leaf)))))))
def zl:List (Nat×ZF):=[(175,ZhX)]
def E0:Env where
 T:=Zi3 ZkP
 F:=fun f=>match Zjc zl f with|true=>none|false=>Zit Zj5 f
 G:=fun _=>none
 Z:=Zes zl
 eff:=fun f=>[163,103,62,66,67,68,69,26,40,31].any (Nat.beq f)
 own:=fun f d=>[(66,7),(67,7),(68,7),(69,7),(26,5006),(26,5009),(26,5012),(26,5018),(26,5021),(9,72)].any fun x=>Nat.beq f x.1&&Nat.beq d x.2
 tyd:=fun _=>false
 I:=fun k=>[].any (Nat.beq k)
 mono:=false
 Q:=fun t=>[66].any (Nat.beq t)
theorem Zjz:[66].all (qOk Tryz.prog)=true:=by kernel_rfl
theorem tOk:TOk E0 Tryz.prog:=⟨fun _ _ h=>Zgm h,Zj6 Zjz⟩
theorem fOk:FOk E0 Tryz.prog:=fun f fn c h hb=>by
 simp only [E0] at h
 split at h
 · cases h
 · exact ZgJ h hb
theorem follows:Tryz.prog.follows .mixedOrders=true:=by kernel_rfl
def Zih (a b:Int):Int:=if a<b then -1 else if b<a then 1 else 0
theorem ZkR (a b:Int):∀ H,CallOk E0 Tryz.prog 117 [.int .i64 a,.int .i64 b] H (.int .i64 (Zih a b)) H:=by
 refine Jw tOk fe117.ok rfl ?_
 repeat' first|refine Jt ?_|refine Jb ?_ ?_|refine Jo ?_|intro hb
 all_goals simp_all [Zih]
 all_goals omega
theorem Zay (k:Int) (nm:List UInt8) (s:Int) (b:Bool) (kz:List Tm):Uy [.int .i64 k,.str nm,.int .i64 s,slV b 4 (Zb kz)]=some [.int .i64 k,.str nm,.int .i64 s,slV b 4 (Zb kz)]:=by
 simp only [Uy,Yy]
 rfl
theorem c48 {t:Tm} (ht:t.Ok):t.size<4611686018427387904→∀ H,CallOk E0 Tryz.prog 48 [.agg t.cells] H (.int .i64 (t.size:Int)) H:=by
 induction ht with
 | @mk k nm s b kz hk hs hn hl hok ih=>
 intro hsz
 refine Jw tOk fe48.ok rfl ?_
 repeat' first|refine Ji ?_|refine JJ ?_|refine Jl ?_|refine Jx ?_|refine Jt ?_|refine Jb ?_ ?_|refine Jo ?_|intro hb
 refine Wp.while (fun m tm H=>∃ i base,i+m=kz.length∧tm=ovr base [(1,.ptr 0 4 0 0),(3,.int .i64 ((1+ZW (kz.take i):Nat):Int)),(4,.int .i64 (i:Int))]∧H=⟨[.cells 4 [[.int .i64 k,.str nm,.int .i64 s,slV b 4 (Zb kz)]]],0,[],0⟩)
  (fun m tm H hI=>?_) kz.length _ _ ⟨0,_,by omega,Zf ⟨rfl,rfl,rfl,trivial⟩,rfl⟩
 obtain ⟨i,base,hi,rfl,rfl⟩:=hI
 simp only [Tm.size] at hsz
 unfold maxLen at hl
 by_cases hlt:i<kz.length
 · obtain ⟨t', ht'⟩ : ∃ t', kz[i]? = some t' := ⟨kz[i], by simp⟩
   have hm:t'∈kz:=List.mem_of_getElem? ht'
   have hle:=Un hm
   have hst:=U2 ht'
   have hsl:=WX kz (i+1)
   have hc:=ih t' hm (by omega)
   obtain ⟨k',nm',s',b',kz'⟩:=t'
   have hj:=Zh ht'
   repeat' first|refine Jc (hc _) ?_|refine Ji ?_|refine JJ ?_|refine Jl ?_|refine Jx ?_|refine Jt ?_|refine Jb ?_ ?_|refine Jo ?_|intro hb
   · refine LoopI.go (m - 1) (by omega) ⟨i + 1, _, by omega, Zf ⟨rfl, ?_, ?_, trivial⟩, rfl⟩
     · refine Zz ?_
       rw [hst, ← Nat.add_assoc,Int.natCast_add (1+ZW (kz.take i)), ← Int.natCast_add]
       exact YB (by omega)
     · exact Zz (YB (n:=i+1) (by omega))
   · rw [Za] at hb;simp at hb;omega
 · have e : i = kz.length := by omega
   subst e
   repeat' first|refine Ji ?_|refine JJ ?_|refine Jl ?_|refine Jx ?_|refine Jt ?_|refine Jb ?_ ?_|refine Jo ?_|intro hb
   · rw [Za] at hb;simp at hb
   · simp [Tm.size]
