/-
  The environment of the evaluator at this seat.
-/
import Derived.Test.YtnghnjdabbjcnaaGreatDoorProg
import Derived.Test.YtnghnjdabbjcnaaGreatDoorVFh
noncomputable section
namespace Go.Vm.Seat
variable {f:FuncId}
open Go.Proofs Go.Proofs.Tryz
abbrev QF:=FnE Tryz.prog
noncomputable abbrev qf {fn:Func} (h:prog.funcs[f]? = some fn) {c:Code} (h1:fn.body=some c:=by exact rfl) (h2:(fn.name == "runtime.NumGoroutine")=false:=by kernel_rfl) (h3:Nat.ble fn.ntmps 4000=true:=by kernel_rfl):QF:=⟨f,fn,c,⟨h,h1,h2⟩,h3⟩
def Zt9:Tri (TiE Tryz.prog):=(.node none (.node none (.node (some ⟨3,⟨.int .i64,1,8,.int .i64 0⟩,by kernel_rfl⟩) (.node (some ⟨7,⟨.struct [(0,2),(1,3),(2,4),(3,6)],4,24,.agg [.int .i64 0,.int .i64 0,.bool false,.int .u8 0]⟩,by kernel_rfl⟩) (.node (some ⟨15,⟨.pointer 256,1,8,.nilp⟩,by kernel_rfl⟩) (.node (some ⟨31,⟨.struct [(0,3),(1,3),(2,3),(3,29),(4,3),(5,30)],6,80,.agg [.int .i64 0,.int .i64 0,.int .i64 0,.nils,.int .i64 0,.nils]⟩,by kernel_rfl⟩) (.node none (.node none (.node (some ⟨255,⟨.struct [(0,17),(1,17),(2,17),(3,9)],4,40,.agg [.nilp,.nilp,.nilp,.str []]⟩,by kernel_rfl⟩) .leaf .leaf) .leaf) .leaf) .leaf) (.node (some ⟨47,⟨.slice 5,1,24,.nils⟩,by kernel_rfl⟩) (.node none .leaf (.node (some ⟨207,⟨.slice 227,1,24,.nils⟩,by kernel_rfl⟩) .leaf .leaf)) .leaf)) (.node none (.node (some ⟨39,⟨.struct [(0,3),(1,9),(2,3),(3,30)],4,56,.agg [.int .i64 0,.str [],.int .i64 0,.nils]⟩,by kernel_rfl⟩) (.node none (.node (some ⟨135,⟨.int .i64,1,8,.int .i64 0⟩,by kernel_rfl⟩) .leaf .leaf) (.node (some ⟨199,⟨.slice 178,1,24,.nils⟩,by kernel_rfl⟩) .leaf .leaf)) .leaf) (.node none (.node none .leaf (.node (some ⟨215,⟨.struct [(0,5),(1,5)],2,2,.agg [.int .u8 0,.int .u8 0]⟩,by kernel_rfl⟩) .leaf .leaf)) .leaf))) (.node (some ⟨11,⟨.string,1,16,.str []⟩,by kernel_rfl⟩) (.node (some ⟨19,⟨.struct [(0,17)],1,8,.agg [.nilp]⟩,by kernel_rfl⟩) (.node none (.node none (.node none (.node (some ⟨259,⟨.struct [(0,257)],0,0,.agg []⟩,by kernel_rfl⟩) .leaf .leaf) .leaf) (.node (some ⟨195,⟨.array 65 5,65,65,.agg (List.replicate 65 (.int .u8 0))⟩,by kernel_rfl⟩) .leaf .leaf)) (.node none .leaf (.node (some ⟨227,⟨.struct [(0,39),(4,3)],5,64,.agg [.int .i64 0,.str [],.int .i64 0,.nils,.int .i64 0]⟩,by kernel_rfl⟩) .leaf .leaf))) (.node (some ⟨51,⟨.iface,1,16,.nili⟩,by kernel_rfl⟩) (.node (some ⟨83,⟨.pointer 5,1,8,.nilp⟩,by kernel_rfl⟩) .leaf .leaf) (.node none .leaf (.node (some ⟨243,⟨.pointer 39,1,8,.nilp⟩,by kernel_rfl⟩) .leaf .leaf)))) (.node none (.node (some ⟨43,⟨.struct [(0,29),(1,29)],2,48,.agg [.nils,.nils]⟩,by kernel_rfl⟩) (.node none (.node none (.node (some ⟨267,⟨.struct [(0,12),(1,12),(2,142),(3,261),(4,5),(5,5),(6,262),(7,263),(8,83),(9,264),(10,265)],11,48,.agg [.int .u64 0,.int .u64 0,.int .u32 0,.int .u8 0,.int .u8 0,.int .u8 0,.int .u8 0,.nilf,.nilp,.int .i32 0,.int .i32 0]⟩,by kernel_rfl⟩) .leaf .leaf) .leaf) (.node (some ⟨203,⟨.struct [(0,9)],1,16,.agg [.str []]⟩,by kernel_rfl⟩) .leaf .leaf)) .leaf) (.node none (.node (some ⟨91,⟨.struct [(0,4),(1,90)],2,16,.agg [.bool false,.nilp]⟩,by kernel_rfl⟩) (.node (some ⟨155,⟨.pointer 188,1,8,.nilp⟩,by kernel_rfl⟩) .leaf .leaf) (.node (some ⟨219,⟨.array 64 5,64,64,.agg (List.replicate 64 (.int .u8 0))⟩,by kernel_rfl⟩) .leaf .leaf)) (.node (some ⟨123,⟨.struct [(0,9),(1,3)],2,24,.agg [.str [],.int .i64 0]⟩,by kernel_rfl⟩) (.node (some ⟨187,⟨.struct [(0,9),(1,9),(2,51)],3,48,.agg [.str [],.str [],.nili]⟩,by kernel_rfl⟩) .leaf .leaf) .leaf))))) (.node (some ⟨5,⟨.int .u8,1,1,.int .u8 0⟩,by kernel_rfl⟩) (.node (some ⟨9,⟨.string,1,16,.str []⟩,by kernel_rfl⟩) (.node (some ⟨17,⟨.pointer 267,1,8,.nilp⟩,by kernel_rfl⟩) (.node none (.node none (.node none (.node (some ⟨257,⟨.array 0 16,0,0,.agg []⟩,by kernel_rfl⟩) .leaf .leaf) .leaf) .leaf) .leaf) (.node (some ⟨49,⟨.struct [(0,46),(1,47)],2,32,.agg [.nilp,.nils]⟩,by kernel_rfl⟩) .leaf (.node none (.node (some ⟨177,⟨.struct [(0,9),(1,3),(2,3),(3,3)],4,40,.agg [.str [],.int .i64 0,.int .i64 0,.int .i64 0]⟩,by kernel_rfl⟩) .leaf .leaf) .leaf))) (.node (some ⟨25,⟨.int .i64,1,8,.int .i64 0⟩,by kernel_rfl⟩) (.node none (.node none (.node none (.node (some ⟨265,⟨.int .i32,1,4,.int .i32 0⟩,by kernel_rfl⟩) .leaf .leaf) .leaf) .leaf) (.node none (.node (some ⟨169,⟨.array 24 5,24,24,.agg [.int .u8 0,.int .u8 0,.int .u8 0,.int .u8 0,.int .u8 0,.int .u8 0,.int .u8 0,.int .u8 0,.int .u8 0,.int .u8 0,.int .u8 0,.int .u8 0,.int .u8 0,.int .u8 0,.int .u8 0,.int .u8 0,.int .u8 0,.int .u8 0,.int .u8 0,.int .u8 0,.int .u8 0,.int .u8 0,.int .u8 0,.int .u8 0]⟩,by kernel_rfl⟩) .leaf .leaf) .leaf)) (.node none (.node none .leaf (.node (some ⟨217,⟨.array 16 216,32,32,.agg [.int .u8 0,.int .u8 0,.int .u8 0,.int .u8 0,.int .u8 0,.int .u8 0,.int .u8 0,.int .u8 0,.int .u8 0,.int .u8 0,.int .u8 0,.int .u8 0,.int .u8 0,.int .u8 0,.int .u8 0,.int .u8 0,.int .u8 0,.int .u8 0,.int .u8 0,.int .u8 0,.int .u8 0,.int .u8 0,.int .u8 0,.int .u8 0,.int .u8 0,.int .u8 0,.int .u8 0,.int .u8 0,.int .u8 0,.int .u8 0,.int .u8 0,.int .u8 0]⟩,by kernel_rfl⟩) .leaf .leaf)) (.node (some ⟨121,⟨.pointer 123,1,8,.nilp⟩,by kernel_rfl⟩) .leaf .leaf)))) (.node (some ⟨13,⟨.struct [(0,9),(1,12)],2,24,.agg [.str [],.int .u64 0]⟩,by kernel_rfl⟩) (.node (some ⟨21,⟨.int .i32,1,4,.int .i32 0⟩,by kernel_rfl⟩) (.node none (.node none (.node none (.node (some ⟨261,⟨.int .u8,1,1,.int .u8 0⟩,by kernel_rfl⟩) .leaf .leaf) .leaf) .leaf) .leaf) (.node none (.node (some ⟨85,⟨.map 9 4,1,8,.nilm⟩,by kernel_rfl⟩) .leaf .leaf) .leaf)) (.node (some ⟨29,⟨.slice 9,1,24,.nils⟩,by kernel_rfl⟩) (.node none (.node (some ⟨77,⟨.struct [(0,9),(1,4),(2,4),(3,4),(4,3),(5,3),(6,3),(7,3)],8,56,.agg [.str [],.bool false,.bool false,.bool false,.int .i64 0,.int .i64 0,.int .i64 0,.int .i64 0]⟩,by kernel_rfl⟩) .leaf .leaf) .leaf) .leaf)))) (.node (some ⟨2,⟨.int .i64,1,8,.int .i64 0⟩,by kernel_rfl⟩) (.node (some ⟨4,⟨.bool,1,1,.bool false⟩,by kernel_rfl⟩) (.node (some ⟨8,⟨.struct [(0,2),(1,3),(2,4),(3,6)],4,24,.agg [.int .i64 0,.int .i64 0,.bool false,.int .u8 0]⟩,by kernel_rfl⟩) (.node (some ⟨16,⟨.pointer 259,1,8,.nilp⟩,by kernel_rfl⟩) (.node (some ⟨32,⟨.struct [(0,3),(1,3),(2,3),(3,29),(4,3),(5,30)],6,80,.agg [.int .i64 0,.int .i64 0,.int .i64 0,.nils,.int .i64 0,.nils]⟩,by kernel_rfl⟩) (.node none (.node none (.node (some ⟨256,⟨.struct [(0,17),(1,17),(2,17),(3,9)],4,40,.agg [.nilp,.nilp,.nilp,.str []]⟩,by kernel_rfl⟩) .leaf .leaf) .leaf) .leaf) .leaf) (.node (some ⟨48,⟨.struct [(0,46),(1,47)],2,32,.agg [.nilp,.nils]⟩,by kernel_rfl⟩) (.node none (.node (some ⟨144,⟨.int .u64,1,8,.int .u64 0⟩,by kernel_rfl⟩) .leaf .leaf) .leaf) .leaf)) (.node none (.node none (.node none (.node none (.node (some ⟨264,⟨.int .i32,1,4,.int .i32 0⟩,by kernel_rfl⟩) .leaf .leaf) .leaf) .leaf) .leaf) (.node none (.node none (.node (some ⟨152,⟨.int .i64,1,8,.int .i64 0⟩,by kernel_rfl⟩) .leaf .leaf) (.node (some ⟨216,⟨.struct [(0,5),(1,5)],2,2,.agg [.int .u8 0,.int .u8 0]⟩,by kernel_rfl⟩) .leaf .leaf)) .leaf))) (.node (some ⟨12,⟨.int .u64,1,8,.int .u64 0⟩,by kernel_rfl⟩) (.node (some ⟨20,⟨.iface,1,16,.nili⟩,by kernel_rfl⟩) (.node none .leaf (.node none (.node (some ⟨164,⟨.int .u64,1,8,.int .u64 0⟩,by kernel_rfl⟩) .leaf .leaf) .leaf)) (.node none (.node (some ⟨84,⟨.map 3 4,1,8,.nilm⟩,by kernel_rfl⟩) .leaf .leaf) .leaf)) (.node none (.node (some ⟨44,⟨.struct [(0,29),(1,29)],2,48,.agg [.nils,.nils]⟩,by kernel_rfl⟩) (.node (some ⟨76,⟨.struct [(0,9),(1,4),(2,4),(3,4),(4,3),(5,3),(6,3),(7,3)],8,56,.agg [.str [],.bool false,.bool false,.bool false,.int .i64 0,.int .i64 0,.int .i64 0,.int .i64 0]⟩,by kernel_rfl⟩) .leaf (.node (some ⟨204,⟨.struct [(0,9)],1,16,.agg [.str []]⟩,by kernel_rfl⟩) .leaf .leaf)) (.node none .leaf (.node (some ⟨236,⟨.slice 30,1,24,.nils⟩,by kernel_rfl⟩) .leaf .leaf))) (.node none (.node (some ⟨92,⟨.slice 91,1,24,.nils⟩,by kernel_rfl⟩) .leaf .leaf) (.node none (.node (some ⟨188,⟨.struct [(0,9),(1,9),(2,51)],3,48,.agg [.str [],.str [],.nili]⟩,by kernel_rfl⟩) .leaf .leaf) .leaf))))) (.node (some ⟨6,⟨.int .u8,1,1,.int .u8 0⟩,by kernel_rfl⟩) (.node (some ⟨10,⟨.string,1,16,.str []⟩,by kernel_rfl⟩) (.node (some ⟨18,⟨.struct [(0,17)],1,8,.agg [.nilp]⟩,by kernel_rfl⟩) (.node none (.node none (.node none (.node (some ⟨258,⟨.struct [(0,257)],0,0,.agg []⟩,by kernel_rfl⟩) .leaf .leaf) .leaf) (.node (some ⟨194,⟨.array 20 144,20,160,.agg [.int .u64 0,.int .u64 0,.int .u64 0,.int .u64 0,.int .u64 0,.int .u64 0,.int .u64 0,.int .u64 0,.int .u64 0,.int .u64 0,.int .u64 0,.int .u64 0,.int .u64 0,.int .u64 0,.int .u64 0,.int .u64 0,.int .u64 0,.int .u64 0,.int .u64 0,.int .u64 0]⟩,by kernel_rfl⟩) .leaf .leaf)) (.node none .leaf (.node (some ⟨226,⟨.struct [(0,39),(4,3)],5,64,.agg [.int .i64 0,.str [],.int .i64 0,.nils,.int .i64 0]⟩,by kernel_rfl⟩) .leaf .leaf))) (.node (some ⟨50,⟨.iface,1,16,.nili⟩,by kernel_rfl⟩) .leaf (.node none (.node (some ⟨178,⟨.struct [(0,9),(1,3),(2,3),(3,3)],4,40,.agg [.str [],.int .i64 0,.int .i64 0,.int .i64 0]⟩,by kernel_rfl⟩) .leaf .leaf) (.node (some ⟨242,⟨.slice 3,1,24,.nils⟩,by kernel_rfl⟩) .leaf .leaf)))) (.node none (.node none (.node none (.node none (.node (some ⟨266,⟨.struct [(0,12),(1,12),(2,142),(3,261),(4,5),(5,5),(6,262),(7,263),(8,83),(9,264),(10,265)],11,48,.agg [.int .u64 0,.int .u64 0,.int .u32 0,.int .u8 0,.int .u8 0,.int .u8 0,.int .u8 0,.nilf,.nilp,.int .i32 0,.int .i32 0]⟩,by kernel_rfl⟩) .leaf .leaf) .leaf) (.node (some ⟨202,⟨.pointer 204,1,8,.nilp⟩,by kernel_rfl⟩) .leaf .leaf)) .leaf) (.node none (.node (some ⟨90,⟨.pointer 3,1,8,.nilp⟩,by kernel_rfl⟩) .leaf (.node (some ⟨218,⟨.array 32 5,32,32,.agg [.int .u8 0,.int .u8 0,.int .u8 0,.int .u8 0,.int .u8 0,.int .u8 0,.int .u8 0,.int .u8 0,.int .u8 0,.int .u8 0,.int .u8 0,.int .u8 0,.int .u8 0,.int .u8 0,.int .u8 0,.int .u8 0,.int .u8 0,.int .u8 0,.int .u8 0,.int .u8 0,.int .u8 0,.int .u8 0,.int .u8 0,.int .u8 0,.int .u8 0,.int .u8 0,.int .u8 0,.int .u8 0,.int .u8 0,.int .u8 0,.int .u8 0,.int .u8 0]⟩,by kernel_rfl⟩) .leaf .leaf)) (.node (some ⟨122,⟨.struct [(0,9),(1,3)],2,24,.agg [.str [],.int .i64 0]⟩,by kernel_rfl⟩) .leaf .leaf)))) (.node (some ⟨14,⟨.struct [(0,9),(1,12)],2,24,.agg [.str [],.int .u64 0]⟩,by kernel_rfl⟩) (.node (some ⟨22,⟨.slice 32,1,24,.nils⟩,by kernel_rfl⟩) (.node (some ⟨38,⟨.struct [(0,3),(1,9),(2,3),(3,30)],4,56,.agg [.int .i64 0,.str [],.int .i64 0,.nils]⟩,by kernel_rfl⟩) (.node none (.node none (.node (some ⟨262,⟨.int .u8,1,1,.int .u8 0⟩,by kernel_rfl⟩) .leaf .leaf) .leaf) .leaf) .leaf) (.node none (.node none .leaf (.node (some ⟨214,⟨.array 256 5,256,256,.agg (List.replicate 256 (.int .u8 0))⟩,by kernel_rfl⟩) .leaf .leaf)) .leaf)) (.node (some ⟨30,⟨.slice 39,1,24,.nils⟩,by kernel_rfl⟩) (.node (some ⟨46,⟨.pointer 49,1,8,.nilp⟩,by kernel_rfl⟩) (.node (some ⟨78,⟨.slice 77,1,24,.nils⟩,by kernel_rfl⟩) (.node (some ⟨142,⟨.int .u32,1,4,.int .u32 0⟩,by kernel_rfl⟩) .leaf .leaf) .leaf) (.node (some ⟨110,⟨.int .u64,1,8,.int .u64 0⟩,by kernel_rfl⟩) .leaf .leaf)) (.node none .leaf (.node none (.node (some ⟨190,⟨.pointer 164,1,8,.nilp⟩,by kernel_rfl⟩) .leaf .leaf) .leaf)))))))
def fe2:QF:=qf func2
def fe3:QF:=qf func3
def fe4:QF:=qf func4
def fe5:QF:=qf func5
def fe6:QF:=qf func6
def fe7:QF:=qf func7
def fe8:QF:=qf func8
def fe9:QF:=qf func9
def fe10:QF:=qf func10
def fe11:QF:=qf func11
def fe12:QF:=qf func12
def fe13:QF:=qf func13
def ZvF:QF:=qf func14
def Zuv:QF:=qf func15
def Zvt:QF:=qf func16
def fe17:QF:=qf func17
def fe18:QF:=qf func18
def fe19:QF:=qf func19
def fe20:QF:=qf func20
def fe21:QF:=qf func21
def fe22:QF:=qf func22
def fe23:QF:=qf func23
def fe24:QF:=qf func24
def fe25:QF:=qf func25
def fe26:QF:=qf func26
def ZuU:QF:=qf func27
def Zv7:QF:=qf func28
def Zvf:QF:=qf func29
def ZuB:QF:=qf func30
def Zvk:QF:=qf func31
def fe32:QF:=qf func32
def Zu1:QF:=qf func33
def fe34:QF:=qf func34
def fe35:QF:=qf func35
def fe36:QF:=qf func36
def ZuY:QF:=qf func37
def fe38:QF:=qf func38
def fe39:QF:=qf func39
def ZuR:QF:=qf func40
def fe41:QF:=qf func41
def fe42:QF:=qf func42
def fe43:QF:=qf func43
def fe44:QF:=qf func44
def fe45:QF:=qf func45
def fe46:QF:=qf func46
def fe47:QF:=qf func47
def Zu2:QF:=qf func48
def fe49:QF:=qf func49
def fe50:QF:=qf func50
def fe51:QF:=qf func51
def fe52:QF:=qf func52
def fe53:QF:=qf func53
def fe54:QF:=qf func54
def fe55:QF:=qf func55
def fe56:QF:=qf func56
def fe57:QF:=qf func57
def fe58:QF:=qf func58
def fe59:QF:=qf func59
def ZuX:QF:=qf func60
def Zuu:QF:=qf func61
def fe62:QF:=qf func62
def Zvq:QF:=qf func63
def fe64:QF:=qf func64
def fe65:QF:=qf func65
def Zv6:QF:=qf func66
def Zv8:QF:=qf func67
def Zu4:QF:=qf func68
def fe69:QF:=qf func69
def Zt6:QF:=qf func70
def ZuT:QF:=qf func71
def ZuK:QF:=qf func72
def Zu7:QF:=qf func73
def fe74:QF:=qf func74
def fe75:QF:=qf func75
def fe76:QF:=qf func76
def fe78:QF:=qf func78
def fe79:QF:=qf func79
def Zt0:QF:=qf func80
def fe81:QF:=qf func81
def fe82:QF:=qf func82
def fe83:QF:=qf func83
def fe84:QF:=qf func84
def fe85:QF:=qf func85
def Zuy:QF:=qf func86
def ZtX:QF:=qf func87
def ZtZ:QF:=qf func88
def Zt4:QF:=qf func89
def fe90:QF:=qf func90
def fe91:QF:=qf func91
def fe92:QF:=qf func92
def Zu6:QF:=qf func93
def fe94:QF:=qf func94
def fe95:QF:=qf func95
def Zv3:QF:=qf func96
def fe97:QF:=qf func97
def fe98:QF:=qf func98
def ZuC:QF:=qf func99
def ZrI:QF:=qf func100
def ZsN:QF:=qf func101
def Zse:QF:=qf func102
def ZsW:QF:=qf func103
def Zrt:QF:=qf func104
def Zsv:QF:=qf func105
def Zta:QF:=qf func106
def ZrL:QF:=qf func107
def ZqZ:QF:=qf func108
def ZsS:QF:=qf func109
def Zs2:QF:=qf func110
def ZsJ:QF:=qf func111
def Zs0:QF:=qf func112
def ZsV:QF:=qf func113
def fe114:QF:=qf func114
def fe115:QF:=qf func115
def fe116:QF:=qf func116
def ZrH:QF:=qf func117
def Zrd:QF:=qf func118
def fe119:QF:=qf func119
def fe120:QF:=qf func120
def fe121:QF:=qf func121
def fe122:QF:=qf func122
def fe123:QF:=qf func123
def fe124:QF:=qf func124
def Zrj:QF:=qf func125
def ZsK:QF:=qf func127
def Zro:QF:=qf func128
def Zs8:QF:=qf func129
def ZsY:QF:=qf func130
def Zri:QF:=qf func131
def Zq0:QF:=qf func132
def Zrz:QF:=qf func133
def Zr9:QF:=qf func134
def ZrW:QF:=qf func135
def fe136:QF:=qf func136
def fe137:QF:=qf func137
def fe138:QF:=qf func138
def fe139:QF:=qf func139
def fe140:QF:=qf func140
def Zrl:QF:=qf func141
def Zr4:QF:=qf func142
def fe143:QF:=qf func143
def fe144:QF:=qf func144
def fe145:QF:=qf func145
def Zrr:QF:=qf func146
def Zq9:QF:=qf func147
def Zrk:QF:=qf func148
def Zr8:QF:=qf func149
def Zq2:QF:=qf func150
def ZsM:QF:=qf func151
def Zq7:QF:=qf func152
def Zrv:QF:=qf func154
def Zq4:QF:=qf func155
def Zsl:QF:=qf func156
def Zsf:QF:=qf func157
def fe159:QF:=qf func159
def fe160:QF:=qf func160
def fe161:QF:=qf func161
def fe162:QF:=qf func162
def fe163:QF:=qf func163
def fe164:QF:=qf func164
def fe165:QF:=qf func165
def fe166:QF:=qf func166
def fe167:QF:=qf func167
def fe168:QF:=qf func168
def fe169:QF:=qf func169
def fe170:QF:=qf func170
def ZrJ:QF:=qf func172
def Zrg:QF:=qf func173
def Zrw:QF:=qf func174
def Zso:QF:=qf func176
def Zrc:QF:=qf func177
def Zr5:QF:=qf func178
def fe179:QF:=qf func179
def fe180:QF:=qf func180
def fe181:QF:=qf func181
def ZrO:QF:=qf func182
def ZsF:QF:=qf func183
def ZrD:QF:=qf func184
def Ztb:QF:=qf func185
def Zrm:QF:=qf func186
def fe187:QF:=qf func187
def fe188:QF:=qf func188
def fe189:QF:=qf func189
def fe190:QF:=qf func190
def ZrN:QF:=qf func191
def fe192:QF:=qf func192
def fe193:QF:=qf func193
def fe194:QF:=qf func194
def fe195:QF:=qf func195
def Zsn:QF:=qf func196
def Zrp:QF:=qf func197
def Zsk:QF:=qf func198
def Zsi:QF:=qf func199
def fe200:QF:=qf func200
def Zs1:QF:=qf func201
def ZsX:QF:=qf func202
def fe203:QF:=qf func203
def fe204:QF:=qf func204
def fe205:QF:=qf func205
def fe206:QF:=qf func206
def fe207:QF:=qf func207
def fe208:QF:=qf func208
def fe209:QF:=qf func209
def Zq8:QF:=qf func210
def fe211:QF:=qf func211
def fe212:QF:=qf func212
def fe213:QF:=qf func213
def fe214:QF:=qf func214
def fe215:QF:=qf func215
def fe216:QF:=qf func216
def fe217:QF:=qf func217
def fe218:QF:=qf func218
def fe219:QF:=qf func219
def fe220:QF:=qf func220
def fe221:QF:=qf func221
def fe222:QF:=qf func222
def fe223:QF:=qf func223
def fe224:QF:=qf func224
def fe225:QF:=qf func225
def fe226:QF:=qf func226
def fe227:QF:=qf func227
def fe228:QF:=qf func228
def fe229:QF:=qf func229
def fe230:QF:=qf func230
def fe231:QF:=qf func231
def fe232:QF:=qf func232
def fe233:QF:=qf func233
def fe234:QF:=qf func234
def fe235:QF:=qf func235
def fe236:QF:=qf func236
def fe237:QF:=qf func237
def fe238:QF:=qf func238
def fe239:QF:=qf func239
def fe240:QF:=qf func240
def fe241:QF:=qf func241
def fe242:QF:=qf func242
def fe243:QF:=qf func243
def fe244:QF:=qf func244
def fe245:QF:=qf func245
def fe246:QF:=qf func246
def fe247:QF:=qf func247
def fe248:QF:=qf func248
def fe249:QF:=qf func249
def fe250:QF:=qf func250
def fe251:QF:=qf func251
def fe252:QF:=qf func252
def fe253:QF:=qf func253
def fe254:QF:=qf func254
def fe255:QF:=qf func255
def fe256:QF:=qf func256
def fe257:QF:=qf func257
def fe258:QF:=qf func258
def fe259:QF:=qf func259
def Zre:QF:=qf func261
def fe262:QF:=qf func262
def Zsr:QF:=qf func263
def Zr2:QF:=qf func264
def ZsD:QF:=qf func296
def ZvY:Tri (FnE Tryz.prog):=(.node none (.node none (.node (some fe3) (.node (some fe7) (.node (some Zuv) (.node (some Zvk) (.node (some Zvq) (.node (some ZsK) (.node (some fe255) .leaf .leaf) .leaf) (.node (some ZrN) .leaf .leaf)) (.node (some fe95) (.node (some fe159) .leaf .leaf) (.node (some fe223) .leaf .leaf))) (.node (some fe47) (.node (some fe79) (.node (some fe143) .leaf .leaf) (.node (some fe207) .leaf .leaf)) (.node (some ZsJ) .leaf (.node (some fe239) .leaf .leaf)))) (.node (some fe23) (.node (some fe39) (.node (some ZuT) (.node (some ZrW) (.node (some Zsr) .leaf .leaf) .leaf) (.node (some Zsi) .leaf .leaf)) (.node (some ZsW) (.node (some fe167) .leaf .leaf) (.node (some fe231) .leaf .leaf))) (.node (some fe55) (.node (some ZtX) (.node (some ZsM) .leaf .leaf) (.node (some fe215) .leaf .leaf)) (.node (some fe119) (.node (some ZsF) .leaf .leaf) (.node (some fe247) .leaf .leaf))))) (.node (some fe11) (.node (some fe19) (.node (some fe35) (.node (some Zv8) (.node (some Zri) (.node (some fe259) .leaf .leaf) .leaf) (.node (some fe195) .leaf .leaf)) (.node (some ZuC) (.node (some fe163) .leaf .leaf) (.node (some fe227) .leaf .leaf))) (.node (some fe51) (.node (some fe83) (.node (some Zq9) .leaf .leaf) (.node (some fe211) .leaf .leaf)) (.node (some fe115) (.node (some fe179) .leaf .leaf) (.node (some fe243) .leaf .leaf)))) (.node (some ZuU) (.node (some fe43) (.node (some fe75) (.node (some fe139) .leaf .leaf) (.node (some fe203) .leaf .leaf)) (.node (some ZrL) .leaf (.node (some fe235) .leaf .leaf))) (.node (some fe59) (.node (some fe91) (.node (some Zq4) .leaf .leaf) (.node (some fe219) .leaf .leaf)) (.node (some fe123) (.node (some fe187) .leaf .leaf) (.node (some fe251) .leaf .leaf)))))) (.node (some fe5) (.node (some fe9) (.node (some fe17) (.node (some Zu1) (.node (some fe65) (.node (some Zs8) (.node (some fe257) .leaf .leaf) .leaf) (.node (some fe193) .leaf .leaf)) (.node (some fe97) (.node (some fe161) .leaf .leaf) (.node (some fe225) .leaf .leaf))) (.node (some fe49) (.node (some fe81) (.node (some fe145) .leaf .leaf) (.node (some fe209) .leaf .leaf)) (.node (some ZsV) (.node (some Zrc) .leaf .leaf) (.node (some fe241) .leaf .leaf)))) (.node (some fe25) (.node (some fe41) (.node (some Zu7) (.node (some fe137) .leaf .leaf) (.node (some Zs1) .leaf .leaf)) (.node (some Zsv) (.node (some fe169) .leaf .leaf) (.node (some fe233) .leaf .leaf))) (.node (some fe57) (.node (some Zt4) .leaf (.node (some fe217) .leaf .leaf)) (.node (some fe121) (.node (some Ztb) .leaf .leaf) (.node (some fe249) .leaf .leaf))))) (.node (some fe13) (.node (some fe21) (.node (some ZuY) (.node (some fe69) (.node (some Zrz) (.node (some Zre) .leaf .leaf) .leaf) (.node (some Zrp) .leaf .leaf)) (.node (some ZsN) (.node (some fe165) .leaf .leaf) (.node (some fe229) .leaf .leaf))) (.node (some fe53) (.node (some fe85) (.node (some Zr8) .leaf .leaf) (.node (some fe213) .leaf .leaf)) (.node (some ZrH) (.node (some fe181) .leaf .leaf) (.node (some fe245) .leaf .leaf)))) (.node (some Zvf) (.node (some fe45) (.node none (.node (some Zrl) .leaf .leaf) (.node (some fe205) .leaf .leaf)) (.node (some ZsS) (.node (some Zrg) .leaf .leaf) (.node (some fe237) .leaf .leaf))) (.node (some Zuu) (.node (some Zu6) (.node (some Zsf) .leaf .leaf) (.node (some fe221) .leaf .leaf)) (.node (some Zrj) (.node (some fe189) .leaf .leaf) (.node (some fe253) .leaf .leaf))))))) (.node (some fe2) (.node (some fe4) (.node (some fe8) (.node (some Zvt) (.node (some fe32) (.node (some fe64) (.node (some Zro) (.node (some fe256) .leaf .leaf) .leaf) (.node (some fe192) .leaf .leaf)) (.node (some Zv3) (.node (some fe160) .leaf .leaf) (.node (some fe224) .leaf .leaf))) (.node (some Zu2) (.node (some Zt0) (.node (some fe144) .leaf .leaf) (.node (some fe208) .leaf .leaf)) (.node (some Zs0) (.node (some Zso) .leaf .leaf) (.node (some fe240) .leaf .leaf)))) (.node (some fe24) (.node (some ZuR) (.node (some ZuK) (.node (some fe136) (.node (some Zr2) .leaf .leaf) .leaf) (.node (some fe200) .leaf .leaf)) (.node (some Zrt) (.node (some fe168) (.node (some ZsD) .leaf .leaf) .leaf) (.node (some fe232) .leaf .leaf))) (.node (some fe56) (.node (some ZtZ) (.node (some Zq7) .leaf .leaf) (.node (some fe216) .leaf .leaf)) (.node (some fe120) (.node (some ZrD) .leaf .leaf) (.node (some fe248) .leaf .leaf))))) (.node (some fe12) (.node (some fe20) (.node (some fe36) (.node (some Zu4) (.node (some Zq0) .leaf .leaf) (.node (some Zsn) .leaf .leaf)) (.node (some ZrI) (.node (some fe164) .leaf .leaf) (.node (some fe228) .leaf .leaf))) (.node (some fe52) (.node (some fe84) (.node (some Zrk) .leaf .leaf) (.node (some fe212) .leaf .leaf)) (.node (some fe116) (.node (some fe180) .leaf .leaf) (.node (some fe244) .leaf .leaf)))) (.node (some Zv7) (.node (some fe44) (.node (some fe76) (.node (some fe140) .leaf .leaf) (.node (some fe204) .leaf .leaf)) (.node (some ZqZ) (.node (some ZrJ) .leaf .leaf) (.node (some fe236) .leaf .leaf))) (.node (some ZuX) (.node (some fe92) (.node (some Zsl) .leaf .leaf) (.node (some fe220) .leaf .leaf)) (.node (some fe124) (.node (some fe188) .leaf .leaf) (.node (some fe252) .leaf .leaf)))))) (.node (some fe6) (.node (some fe10) (.node (some fe18) (.node (some fe34) (.node (some Zv6) (.node (some ZsY) (.node (some fe258) .leaf .leaf) .leaf) (.node (some fe194) .leaf .leaf)) (.node (some fe98) (.node (some fe162) .leaf .leaf) (.node (some fe226) .leaf .leaf))) (.node (some fe50) (.node (some fe82) (.node (some Zrr) .leaf .leaf) (.node (some Zq8) .leaf .leaf)) (.node (some fe114) (.node (some Zr5) .leaf .leaf) (.node (some fe242) .leaf .leaf)))) (.node (some fe26) (.node (some fe42) (.node (some fe74) (.node (some fe138) .leaf .leaf) (.node (some ZsX) .leaf .leaf)) (.node (some Zta) (.node (some fe170) .leaf .leaf) (.node (some fe234) .leaf .leaf))) (.node (some fe58) (.node (some fe90) (.node (some Zrv) .leaf .leaf) (.node (some fe218) .leaf .leaf)) (.node (some fe122) (.node (some Zrm) .leaf .leaf) (.node (some fe250) .leaf .leaf))))) (.node (some ZvF) (.node (some fe22) (.node (some fe38) (.node (some Zt6) (.node (some Zr9) (.node (some fe262) .leaf .leaf) .leaf) (.node (some Zsk) .leaf .leaf)) (.node (some Zse) (.node (some fe166) .leaf .leaf) (.node (some fe230) .leaf .leaf))) (.node (some fe54) (.node (some Zuy) (.node (some Zq2) .leaf .leaf) (.node (some fe214) .leaf .leaf)) (.node (some Zrd) (.node (some ZrO) .leaf .leaf) (.node (some fe246) .leaf .leaf)))) (.node (some ZuB) (.node (some fe46) (.node (some fe78) (.node (some Zr4) .leaf .leaf) (.node (some fe206) .leaf .leaf)) (.node (some Zs2) (.node (some Zrw) .leaf .leaf) (.node (some fe238) .leaf .leaf))) (.node (some fe62) (.node (some fe94) .leaf (.node (some fe222) .leaf .leaf)) (.node none (.node (some fe190) .leaf .leaf) (.node (some fe254) .leaf .leaf))))))))
def zl:List (Nat×ZF):=[(171,ZqU),(175,ZqK),(43,Zgx),(39,ccZ 49),(20,ZgN 49),(153,Zpd)]
def wordsC:List PV:=[.sl .none 1 [[.str [97,110,121]],[.str [97,103,101,110,116]],[.str [110,111,110,99,101]],[.str [107,101,121]],[.str [100,97,116,97]],[.str [116,97,103]]]]
def Zbj:List PV:=[.int .u64 1,.int .u64 10,.int .u64 100,.int .u64 1000,.int .u64 10000,.int .u64 100000,.int .u64 1000000,.int .u64 10000000,.int .u64 100000000,.int .u64 1000000000,.int .u64 10000000000,.int .u64 100000000000,.int .u64 1000000000000,.int .u64 10000000000000,.int .u64 100000000000000,.int .u64 1000000000000000,.int .u64 10000000000000000,.int .u64 100000000000000000,.int .u64 1000000000000000000,.int .u64 10000000000000000000]
def E0:Env where
 T:=ZrB Zt9
 F:=fun f=>match Ztr zl f with|true=>none|false=>Zs5 ZvY f
 G:=fun k=>(match Nat.beq k 0 with|true=>some wordsC|false=>(match Nat.beq k 4 with|true=>some Zbj|false=>none))
 Z:=Zii zl
 eff:=fun f=>[32,34,72,104,36,71,70,101,79,18,116,39,20,98,210,187,188].any (Nat.beq f)
 own:=fun f d=>[(71,24),(71,50),(70,18),(32,7),(31,5014)].any fun x=>Nat.beq f x.1&&Nat.beq d x.2
 tyd:=fun t=>Nat.beq t 49
 I:=fun k=>(match Nat.beq k 2 with|true=>some Zeh|false=>(match Nat.beq k 3 with|true=>some Zeh|false=>(match Nat.beq k 1 with|true=>some ZhX|false=>none)))
 mono:=false
theorem tOk:TOk E0 Tryz.prog:=⟨fun _ _ h=>Zd4 h,ZhR rfl⟩
theorem fOk:FOk E0 Tryz.prog:=fun f fn c h hb=>by
 simp only[E0]at h
 split at h
 · cases h
 · exact ZmY h hb
theorem follows:Tryz.prog.follows .mixedOrders=true:=by kernel_rfl
abbrev CO:=CallOk E0 Tryz.prog
section
variable {p q:Prop}
theorem Ka (k:q) (h:Kp q→p:=by intro h;(first|refine Jt ?_|refine Jo ?_|fail);exact h.out):p:=h ⟨k⟩
theorem Kb (k:q) (h:Kp q→p:=by intro h;(first|refine Jh ?_|(apply Wp.draw tOk follows;kernel_rfl)|fail);exact h.out):p:=h ⟨k⟩
theorem Kc (k:q) (h:Kp q→p:=by intro h;(first|(apply dT (ty:=4);rfl;rfl;rfl;rfl)|(apply dF (ty:=4);rfl;rfl;rfl;rfl)|fail);exact h.out):p:=h ⟨k⟩
theorem Kd (k:q) (h:Kp q→p:=by intro h;(first|refine Ji ?_|refine Jl ?_|fail);exact h.out):p:=h ⟨k⟩
theorem Ke (k:q) (h:Kp q→p:=by intro h;(first|(apply qT (ty:=0);rfl;rfl;rfl)|refine Jo ?_|fail);exact h.out):p:=h ⟨k⟩
theorem Kf (k:q) (h:Kp q→p:=by intro h;(apply qLd;rfl;rfl;rfl;assumption;exact IsV.any _);exact h.out):p:=h ⟨k⟩
theorem Kg (k:q) (h:Kp q→p:=by intro h;(first|refine Ji ?_|refine Ka ?_|fail);exact h.out):p:=h ⟨k⟩
theorem Kh (k:q) (h:Kp q→p:=by intro h;(apply dSl;rfl;rfl;rfl;rfl;rfl;rfl;assumption;exact IsV.any _;rfl);exact h.out):p:=h ⟨k⟩
theorem Ki (k:q) (h:Kp q→p:=by intro h;(first|refine Ji ?_|refine Jo ?_|fail);exact h.out):p:=h ⟨k⟩
theorem Kj (k:q) (h:Kp q→p:=by intro h;(first|(apply dWS tOk follows;rfl;kernel_rfl;rfl)|(apply dWB tOk follows;rfl;kernel_rfl;rfl;exact IsH.mkN)|fail);exact h.out):p:=h ⟨k⟩
theorem Kk (k:q) (h:Kp q→p:=by intro h;(first|refine Jx ?_|refine Ka ?_|fail);exact h.out):p:=h ⟨k⟩
theorem Kl (k:q) (h:Kp q→p:=by intro h;(first|(apply dF (ty:=4);rfl;rfl;rfl;rfl)|refine Kb ?_|fail);exact h.out):p:=h ⟨k⟩
theorem Km (k:q) (h:Kp q→p:=by intro h;(first|(apply dAl;rfl;rfl;rfl;rfl;exact IsV.ptrM;exact IsH.mkN)|(apply dLn;rfl;rfl;rfl;rfl;rfl)|fail);exact h.out):p:=h ⟨k⟩
theorem Ko (k:q) (h:Kp q→p:=by intro h;(first|refine Kd ?_|refine Ka ?_|fail);exact h.out):p:=h ⟨k⟩
theorem Kq (k:q) (h:Kp q→p:=by intro h;(first|refine Ji ?_|(apply qLe;rfl;rfl;rfl;assumption;exact IsV.any _)|fail);exact h.out):p:=h ⟨k⟩
theorem Kr (k:q) (h:Kp q→p:=by intro h;(first|refine Ka ?_|(apply dK;rfl;rfl;rfl)|fail);exact h.out):p:=h ⟨k⟩
theorem Ks (k:q) (h:Kp q→p:=by intro h;(first|refine Kd ?_|refine Jo ?_|fail);exact h.out):p:=h ⟨k⟩
theorem Kt (k:q) (h:Kp q→p:=by intro h;(first|refine Jx ?_|refine Jo ?_|fail);exact h.out):p:=h ⟨k⟩
theorem Ku (k:q) (h:Kp q→p:=by intro h;(first|(apply dT (ty:=4);rfl;rfl;rfl;rfl)|refine Kb ?_|fail);exact h.out):p:=h ⟨k⟩
theorem Kv (k:q) (h:Kp q→p:=by intro h;(first|refine Jl ?_|refine Jt ?_|fail);exact h.out):p:=h ⟨k⟩
theorem Kw (k:q) (h:Kp q→p:=by intro h;(first|refine Js ?_|refine JA ?_|fail);exact h.out):p:=h ⟨k⟩
theorem Kx (k:q) (h:Kp q→p:=by intro h;(first|refine Jl ?_|refine Jx ?_|fail);exact h.out):p:=h ⟨k⟩
theorem Ky (k:q) (h:Kp q→p:=by intro h;(first|refine Jh ?_|(apply Wp.drawS tOk follows;kernel_rfl;rfl)|fail);exact h.out):p:=h ⟨k⟩
theorem Kz (k:q) (h:Kp q→p:=by intro h;(first|(apply dXi;rfl;rfl;rfl;rfl;assumption;exact IsV.any _;rfl)|refine JD ?_|fail);exact h.out):p:=h ⟨k⟩
theorem KA (k:q) (h:Kp q→p:=by intro h;(first|refine Kc ?_|refine Kb ?_|fail);exact h.out):p:=h ⟨k⟩
theorem KB (k:q) (h:Kp q→p:=by intro h;(first|refine Jt ?_|refine Ke ?_|fail);exact h.out):p:=h ⟨k⟩
theorem KC (k:q) (h:Kp q→p:=by intro h;(first|(apply RegQ.rAl;rfl;rfl;assumption)|refine Ji ?_|fail);exact h.out):p:=h ⟨k⟩
theorem KD (k:q) (h:Kp q→p:=by intro h;(apply qLk;rfl;rfl;rfl;rfl;assumption;exact IsV.n);exact h.out):p:=h ⟨k⟩
theorem KE (k:q) (h:Kp q→p:=by intro h;(first|refine Kd ?_|refine Kk ?_|fail);exact h.out):p:=h ⟨k⟩
theorem KF (k:q) (h:Kp q→p:=by intro h;(first|refine Ji ?_|refine Kk ?_|fail);exact h.out):p:=h ⟨k⟩
theorem KG (k:q) (h:Kp q→p:=by intro h;(first|refine Ji ?_|refine JJ ?_|fail);exact h.out):p:=h ⟨k⟩
theorem KH (k:q) (h:Kp q→p:=by intro h;(first|refine Ji ?_|refine Kt ?_|fail);exact h.out):p:=h ⟨k⟩
theorem KI (k:q) (h:Kp q→p:=by intro h;(first|(apply qF (ty:=0);rfl;rfl;rfl)|refine Jo ?_|fail);exact h.out):p:=h ⟨k⟩
theorem KJ (k:q) (h:Kp q→p:=by intro h;(first|refine Jl ?_|refine Ka ?_|fail);exact h.out):p:=h ⟨k⟩
theorem KK (k:q) (h:Kp q→p:=by intro h;(first|refine Kd ?_|refine Kt ?_|fail);exact h.out):p:=h ⟨k⟩
theorem KL (k:q) (h:Kp q→p:=by intro h;(apply dBd;rfl;rfl;rfl;assumption;exact IsV.aggN;rfl);exact h.out):p:=h ⟨k⟩
theorem KM (k:q) (h:Kp q→p:=by intro h;(first|refine Jk ?_|refine Jt ?_|fail);exact h.out):p:=h ⟨k⟩
theorem KN (k:q) (h:Kp q→p:=by intro h;(first|refine Jl ?_|refine Jo ?_|fail);exact h.out):p:=h ⟨k⟩
theorem KO (k:q) (h:Kp q→p:=by intro h;(first|refine Jo ?_|(apply dWS tOk follows;rfl;kernel_rfl;rfl)|fail);exact h.out):p:=h ⟨k⟩
theorem KP (k:q) (h:Kp q→p:=by intro h;(apply qCv;rfl;rfl;rfl;assumption;exact IsV.any _);exact h.out):p:=h ⟨k⟩
end
def E1:Env:={E0 with mono:=true}
theorem ZfZ:TOk E1 Tryz.prog:=⟨fun _ _ h=>Zd4 h,ZhR rfl⟩
set_option maxRecDepth 100000 in
theorem Zqa {args:List PV} {H H':Heap} {r:PV} (h:CallOk E1 Tryz.prog f args H r H'):CO f args H r H':=CallOk.env (E:=E1) (E':=E0) (hG:=rfl) (hI:=rfl) (hm:=fun _=>rfl) h
