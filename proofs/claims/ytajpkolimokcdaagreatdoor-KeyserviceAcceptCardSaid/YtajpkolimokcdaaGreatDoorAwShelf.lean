/-
  What the shelf knows of some of the library's functions, at this program.
-/
import Derived.Shelf.Strings.OnBuilder
import Derived.Shelf.Strconv.Itoa0
import Derived.Shelf.Strconv.Itoa1
import Derived.Shelf.LaysM
import Derived.Shelf.Strconv.Itoa2
import Derived.Shelf.LaysC
import Derived.Shelf.Strconv.AtoiAll
import Derived.Shelf.Strings.Prefix
import Derived.Test.YtajpkolimokcdaaGreatDoorProg
namespace Go.Proofs
open Go.Shelf Go.RowKit Go.Sort Go.Lib
def Tryz.lays156_ren : Go.Shelf.Ren := ⟨fun | 156 => 128 | 165 => 185 | 166 => 186 | 169 => 187 | 240 => 237 | 241 => 238 | 276 => 262 | 277 => 263 | n => n, fun | 31 => 25 | 9 => 9 | 3 => 3 | 4 => 4 | 0 => 0 | 20 => 20 | 72 => 179 | 76 => 137 | 70 => 176 | 37 => 177 | 75 => 136 | 127 => 209 | 164 => 227 | 5 => 5 | 80 => 181 | n => n, fun | n => n⟩
theorem Tryz.lays156 : Go.Proofs.Lays.n156 Tryz.prog Tryz.lays156_ren := {
 mixed := by kernel_rfl
 f156 := Tryz.func128.trans (congrArg some (by kernel_rfl))
 f165 := Tryz.func185.trans (congrArg some (by kernel_rfl))
 f166 := Tryz.func186.trans (congrArg some (by kernel_rfl))
 f169 := Tryz.func187.trans (congrArg some (by kernel_rfl))
 f240 := Tryz.func237.trans (congrArg some (by kernel_rfl))
 f241 := Tryz.func238.trans (congrArg some (by kernel_rfl))
 f276 := Tryz.func262.trans (congrArg some (by kernel_rfl))
 f277 := Tryz.func263.trans (congrArg some (by kernel_rfl))
 t0 := Tryz.underlying0
 a0 := Tryz.isAgg0
 z0 := Tryz.sizeOf0
 v0 := Tryz.zeroValue0
 t3 := Tryz.underlying3
 a3 := Tryz.isAgg3
 z3 := Tryz.sizeOf3
 v3 := Tryz.zeroValue3
 t4 := Tryz.underlying4
 a4 := Tryz.isAgg4
 z4 := Tryz.sizeOf4
 v4 := Tryz.zeroValue4
 t9 := Tryz.underlying9
 a9 := Tryz.isAgg9
 z9 := Tryz.sizeOf9
 v9 := Tryz.zeroValue9
 t20 := Tryz.underlying20
 a20 := Tryz.isAgg20
 z20 := Tryz.sizeOf20
 v20 := Tryz.zeroValue20
 t31 := Tryz.underlying25
 a31 := Tryz.isAgg25
 z31 := Tryz.sizeOf25
 v31 := Tryz.zeroValue25
 t37 := Tryz.underlying177
 a37 := Tryz.isAgg177
 z37 := Tryz.sizeOf177
 v37 := Tryz.zeroValue177
 t70 := Tryz.underlying176
 a70 := Tryz.isAgg176
 z70 := Tryz.sizeOf176
 v70 := Tryz.zeroValue176
 t72 := Tryz.underlying179
 a72 := Tryz.isAgg179
 z72 := Tryz.sizeOf179
 v72 := Tryz.zeroValue179
 t75 := Tryz.underlying136
 a75 := Tryz.isAgg136
 z75 := Tryz.sizeOf136
 v75 := Tryz.zeroValue136
 t76 := Tryz.underlying137
 a76 := Tryz.isAgg137
 z76 := Tryz.sizeOf137
 v76 := Tryz.zeroValue137
 t127 := Tryz.underlying209
 a127 := Tryz.isAgg209
 z127 := Tryz.sizeOf209
 v127 := Tryz.zeroValue209
 t164 := Tryz.underlying227
 a164 := Tryz.isAgg227
 z164 := Tryz.sizeOf227
 v164 := Tryz.zeroValue227 }
theorem Tryz.Builder_Extra_156 : Builder.Extra Tryz.prog Tryz.lays156_ren := {
 sizeBuilder := by kernel_rfl
 liesBuilder := by kernel_rfl
 t5 := Tryz.underlying5
 a5 := Tryz.isAgg5
 z5 := Tryz.sizeOf5
 v5 := Tryz.zeroValue5
 infoByte := by kernel_rfl
 cellsByte := by kernel_rfl
 sizeByte := by kernel_rfl
 neB5 := by decide }
theorem Tryz.strings_Join_none (a : Option Addr) (c : Nat) (sep : ByteArray) (w : World) :
  Calls Tryz.prog 128 #[.slice a 0 c, .string sep] w fun e w' => e = .returned (.string ⟨#[]⟩) ∧ w' = w := Any.strings_Join_none Tryz.lays156 Tryz.Builder_Extra_156 a c sep w
theorem Tryz.strings_Join (bk o c : Nat) (xs : List ByteArray) (sep : ByteArray) (w : World) (hcells : ∀ (j : Nat) x, xs[j]? = some x → w.cell? ⟨bk, o + j, none⟩ = some (.string x)) (hbk : bk < w.heap.size) (hN : xs.length ≤ 140737488355328) (hcap : xs.length ≤ c) (hlen : (Lib.join (xs.map (·.data.toList)) sep.data.toList).length ≤ 140737488355328) :
  Calls Tryz.prog 128 #[.slice (some ⟨bk, o, none⟩) xs.length c, .string sep] w fun e w' => e = .returned (.string ⟨(Lib.join (xs.map (·.data.toList)) sep.data.toList).toArray⟩) ∧ Below w.heap.size w w' := Any.strings_Join Tryz.lays156 Tryz.Builder_Extra_156 bk o c xs sep w hcells hbk hN hcap hlen
def Tryz.lays129_ren : Go.Shelf.Ren := ⟨fun | 129 => 290 | n => n, fun | 53 => 230 | 3 => 3 | 4 => 4 | 46 => 217 | 5 => 5 | 9 => 9 | n => n, fun | n => n⟩
theorem Tryz.lays129 : Go.Proofs.Lays.n129 Tryz.prog Tryz.lays129_ren := {
 mixed := by kernel_rfl
 f129 := Tryz.func290.trans (congrArg some (by kernel_rfl))
 t3 := Tryz.underlying3
 a3 := Tryz.isAgg3
 z3 := Tryz.sizeOf3
 v3 := Tryz.zeroValue3
 t4 := Tryz.underlying4
 a4 := Tryz.isAgg4
 z4 := Tryz.sizeOf4
 v4 := Tryz.zeroValue4
 t5 := Tryz.underlying5
 a5 := Tryz.isAgg5
 z5 := Tryz.sizeOf5
 v5 := Tryz.zeroValue5
 t9 := Tryz.underlying9
 a9 := Tryz.isAgg9
 z9 := Tryz.sizeOf9
 v9 := Tryz.zeroValue9
 t46 := Tryz.underlying217
 a46 := Tryz.isAgg217
 z46 := Tryz.sizeOf217
 v46 := Tryz.zeroValue217
 t53 := Tryz.underlying230
 a53 := Tryz.isAgg230
 z53 := Tryz.sizeOf230
 v53 := Tryz.zeroValue230 }
theorem Tryz.bits_Len64 (x : Int) (w : World) (h0 : 0 ≤ x) (h1 : x ≤ 18446744073709551615) :
  Calls Tryz.prog 290 #[.int .u64 x] w fun e w' => e = .returned (.int .i64 (Lib.bitLen x.toNat)) ∧ w' = w := Any.bits_Len64 Tryz.lays129 x w h0 h1
def Tryz.lays317_ren : Go.Shelf.Ren := ⟨fun | 317 => 289 | n => n, fun | 3 => 3 | 46 => 217 | n => n, fun | n => n⟩
theorem Tryz.lays317 : Go.Proofs.Lays.n317 Tryz.prog Tryz.lays317_ren := {
 mixed := by kernel_rfl
 f317 := Tryz.func289.trans (congrArg some (by kernel_rfl))
 t3 := Tryz.underlying3
 a3 := Tryz.isAgg3
 z3 := Tryz.sizeOf3
 v3 := Tryz.zeroValue3
 t46 := Tryz.underlying217
 a46 := Tryz.isAgg217
 z46 := Tryz.sizeOf217
 v46 := Tryz.zeroValue217 }
theorem Tryz.internal_strconv_log10Pow2 (x : Nat) (h : x ≤ 64) (w : World) :
  Calls Tryz.prog 289 #[.int .i64 x] w fun e w' => e = .returned (.int .i64 (Lib.l10 x)) ∧ w' = w := Any.internal_strconv_log10Pow2 Tryz.lays317 x h w
def Tryz.lays318_ren : Go.Shelf.Ren := ⟨fun | 318 => 291 | n => n, fun | 3 => 3 | 4 => 4 | n => n, fun | n => n⟩
theorem Tryz.lays318 : Go.Proofs.Lays.n318 Tryz.prog Tryz.lays318_ren := {
 mixed := by kernel_rfl
 f318 := Tryz.func291.trans (congrArg some (by kernel_rfl))
 t3 := Tryz.underlying3
 a3 := Tryz.isAgg3
 z3 := Tryz.sizeOf3
 v3 := Tryz.zeroValue3
 t4 := Tryz.underlying4
 a4 := Tryz.isAgg4
 z4 := Tryz.sizeOf4
 v4 := Tryz.zeroValue4 }
theorem Tryz.internal_strconv_bool2_int (b : Bool) (w : World) :
  Calls Tryz.prog 291 #[.bool b] w fun e w' => e = .returned (.int .i64 (if b then 1 else 0)) ∧ w' = w := Any.internal_strconv_bool2_int Tryz.lays318 b w
def Tryz.lays283_ren : Go.Shelf.Ren := ⟨fun | 283 => 272 | n => n, fun | 3 => 3 | 9 => 9 | 4 => 4 | n => n, fun | n => n⟩
theorem Tryz.lays283 : Go.Proofs.Lays.n283 Tryz.prog Tryz.lays283_ren := {
 mixed := by kernel_rfl
 f283 := Tryz.func272.trans (congrArg some (by kernel_rfl))
 t3 := Tryz.underlying3
 a3 := Tryz.isAgg3
 z3 := Tryz.sizeOf3
 v3 := Tryz.zeroValue3
 t4 := Tryz.underlying4
 a4 := Tryz.isAgg4
 z4 := Tryz.sizeOf4
 v4 := Tryz.zeroValue4
 t9 := Tryz.underlying9
 a9 := Tryz.isAgg9
 z9 := Tryz.sizeOf9
 v9 := Tryz.zeroValue9 }
theorem Tryz.internal_strconv_small (i : Nat) (h : i < 100) (w : World) :
  Calls Tryz.prog 272 #[.int .i64 i] w fun e w' => e = .returned (.string ⟨(Lib.decDigits i).toArray⟩) ∧ w' = w := Any.internal_strconv_small Tryz.lays283 i h w
def Tryz.lays285_ren : Go.Shelf.Ren := ⟨fun | 285 => 274 | n => n, fun | 37 => 177 | 53 => 230 | 3 => 3 | 4 => 4 | 51 => 250 | 9 => 9 | 5 => 5 | 0 => 0 | n => n, fun | n => n⟩
theorem Tryz.lays285 : Go.Proofs.Lays.n285 Tryz.prog Tryz.lays285_ren := {
 mixed := by kernel_rfl
 f285 := Tryz.func274.trans (congrArg some (by kernel_rfl))
 t0 := Tryz.underlying0
 a0 := Tryz.isAgg0
 z0 := Tryz.sizeOf0
 v0 := Tryz.zeroValue0
 t3 := Tryz.underlying3
 a3 := Tryz.isAgg3
 z3 := Tryz.sizeOf3
 v3 := Tryz.zeroValue3
 t4 := Tryz.underlying4
 a4 := Tryz.isAgg4
 z4 := Tryz.sizeOf4
 v4 := Tryz.zeroValue4
 t5 := Tryz.underlying5
 a5 := Tryz.isAgg5
 z5 := Tryz.sizeOf5
 v5 := Tryz.zeroValue5
 t9 := Tryz.underlying9
 a9 := Tryz.isAgg9
 z9 := Tryz.sizeOf9
 v9 := Tryz.zeroValue9
 t37 := Tryz.underlying177
 a37 := Tryz.isAgg177
 z37 := Tryz.sizeOf177
 v37 := Tryz.zeroValue177
 t51 := Tryz.underlying250
 a51 := Tryz.isAgg250
 z51 := Tryz.sizeOf250
 v51 := Tryz.zeroValue250
 t53 := Tryz.underlying230
 a53 := Tryz.isAgg230
 z53 := Tryz.sizeOf230
 v53 := Tryz.zeroValue230 }
theorem Tryz.internal_strconv_formatBase10 (blk off cap : Nat) (u : Nat) (d : Array UInt8) (w : World) (hH : Holds (fun (b : UInt8) => Value.int .u8 (b.toNat : Int)) w blk off d) (hu : u < 10 ^ d.size) (hu64 : u < 18446744073709551616) (hsz : d.size < 4611686018427387904) :
  Calls Tryz.prog 274 #[.slice (some ⟨blk, off, none⟩) d.size cap, .int .u64 u] w fun e w' =>
   e = .returned (.tuple #[]) ∧ ∃ (n v' : Nat) (dk : Array UInt8), w' = (putRow (fun (b : UInt8) => Value.int .u8 (b.toNat : Int)) w blk off dk).drewN n ∧ FmtInv d.size u 0 v' dk := Any.internal_strconv_formatBase10 Tryz.lays285 blk off cap u d w hH hu hu64 hsz
def Tryz.laysC172_ren : Go.Shelf.Ren := ⟨fun | 172 => 129 | 244 => 188 | 245 => 189 | 247 => 239 | 279 => 240 | 280 => 241 | 281 => 242 | 282 => 243 | 287 => 264 | 316 => 265 | 171 => 146 | 205 => 266 | 321 => 285 | 322 => 286 | 243 => 205 | 246 => 247 | 283 => 272 | 284 => 273 | 285 => 274 | 286 => 275 | 129 => 290 | 317 => 289 | 318 => 291 | 319 => 292 | 320 => 293 | 337 => 306 | 338 => 307 | n => n, fun | 9 => 9 | 3 => 3 | 75 => 136 | 76 => 137 | 4 => 4 | 5 => 5 | 167 => 210 | 37 => 177 | 0 => 0 | 85 => 211 | 2 => 2 | 168 => 213 | 53 => 230 | 175 => 231 | 46 => 217 | 210 => 234 | 127 => 209 | 145 => 249 | 143 => 247 | 21 => 21 | 171 => 237 | 173 => 240 | 212 => 254 | 51 => 250 | 20 => 20 | 213 => 255 | 232 => 275 | 233 => 276 | 80 => 181 | n => n, fun | 15 => 0 | 16 => 1 | 17 => 3 | 18 => 6 | 19 => 7 | n => n⟩
theorem Tryz.laysC172 : Go.Proofs.LaysC.n172 Tryz.prog Tryz.laysC172_ren := {
 mixed := by kernel_rfl
 f129 := Tryz.func290.trans (congrArg some (by kernel_rfl))
 f171 := Tryz.func146.trans (congrArg some (by kernel_rfl))
 f172 := Tryz.func129.trans (congrArg some (by kernel_rfl))
 f205 := Tryz.func266.trans (congrArg some (by kernel_rfl))
 f243 := Tryz.func205.trans (congrArg some (by kernel_rfl))
 f244 := Tryz.func188.trans (congrArg some (by kernel_rfl))
 f245 := Tryz.func189.trans (congrArg some (by kernel_rfl))
 f246 := Tryz.func247.trans (congrArg some (by kernel_rfl))
 f247 := Tryz.func239.trans (congrArg some (by kernel_rfl))
 f279 := Tryz.func240.trans (congrArg some (by kernel_rfl))
 f280 := Tryz.func241.trans (congrArg some (by kernel_rfl))
 f281 := Tryz.func242.trans (congrArg some (by kernel_rfl))
 f282 := Tryz.func243.trans (congrArg some (by kernel_rfl))
 f283 := Tryz.func272.trans (congrArg some (by kernel_rfl))
 f284 := Tryz.func273.trans (congrArg some (by kernel_rfl))
 f285 := Tryz.func274.trans (congrArg some (by kernel_rfl))
 f286 := Tryz.func275.trans (congrArg some (by kernel_rfl))
 f287 := Tryz.func264.trans (congrArg some (by kernel_rfl))
 f316 := Tryz.func265.trans (congrArg some (by kernel_rfl))
 f317 := Tryz.func289.trans (congrArg some (by kernel_rfl))
 f318 := Tryz.func291.trans (congrArg some (by kernel_rfl))
 f319 := Tryz.func292.trans (congrArg some (by kernel_rfl))
 f320 := Tryz.func293.trans (congrArg some (by kernel_rfl))
 f321 := Tryz.func285.trans (congrArg some (by kernel_rfl))
 f322 := Tryz.func286.trans (congrArg some (by kernel_rfl))
 f337 := Tryz.func306.trans (congrArg some (by kernel_rfl))
 f338 := Tryz.func307.trans (congrArg some (by kernel_rfl))
 t0 := Tryz.underlying0
 a0 := Tryz.isAgg0
 z0 := Tryz.sizeOf0
 v0 := Tryz.zeroValue0
 t2 := Tryz.underlying2
 a2 := Tryz.isAgg2
 z2 := Tryz.sizeOf2
 v2 := Tryz.zeroValue2
 t3 := Tryz.underlying3
 a3 := Tryz.isAgg3
 z3 := Tryz.sizeOf3
 v3 := Tryz.zeroValue3
 t4 := Tryz.underlying4
 a4 := Tryz.isAgg4
 z4 := Tryz.sizeOf4
 v4 := Tryz.zeroValue4
 t5 := Tryz.underlying5
 a5 := Tryz.isAgg5
 z5 := Tryz.sizeOf5
 v5 := Tryz.zeroValue5
 t9 := Tryz.underlying9
 a9 := Tryz.isAgg9
 z9 := Tryz.sizeOf9
 v9 := Tryz.zeroValue9
 t20 := Tryz.underlying20
 a20 := Tryz.isAgg20
 z20 := Tryz.sizeOf20
 v20 := Tryz.zeroValue20
 t21 := Tryz.underlying21
 a21 := Tryz.isAgg21
 z21 := Tryz.sizeOf21
 v21 := Tryz.zeroValue21
 t37 := Tryz.underlying177
 a37 := Tryz.isAgg177
 z37 := Tryz.sizeOf177
 v37 := Tryz.zeroValue177
 t46 := Tryz.underlying217
 a46 := Tryz.isAgg217
 z46 := Tryz.sizeOf217
 v46 := Tryz.zeroValue217
 t51 := Tryz.underlying250
 a51 := Tryz.isAgg250
 z51 := Tryz.sizeOf250
 v51 := Tryz.zeroValue250
 t53 := Tryz.underlying230
 a53 := Tryz.isAgg230
 z53 := Tryz.sizeOf230
 v53 := Tryz.zeroValue230
 t75 := Tryz.underlying136
 a75 := Tryz.isAgg136
 z75 := Tryz.sizeOf136
 v75 := Tryz.zeroValue136
 t76 := Tryz.underlying137
 a76 := Tryz.isAgg137
 z76 := Tryz.sizeOf137
 v76 := Tryz.zeroValue137
 t85 := Tryz.underlying211
 a85 := Tryz.isAgg211
 z85 := Tryz.sizeOf211
 v85 := Tryz.zeroValue211
 t127 := Tryz.underlying209
 a127 := Tryz.isAgg209
 z127 := Tryz.sizeOf209
 v127 := Tryz.zeroValue209
 t143 := Tryz.underlying247
 a143 := Tryz.isAgg247
 z143 := Tryz.sizeOf247
 v143 := Tryz.zeroValue247
 t145 := Tryz.underlying249
 a145 := Tryz.isAgg249
 z145 := Tryz.sizeOf249
 v145 := Tryz.zeroValue249
 t167 := Tryz.underlying210
 a167 := Tryz.isAgg210
 z167 := Tryz.sizeOf210
 v167 := Tryz.zeroValue210
 t168 := Tryz.underlying213
 a168 := Tryz.isAgg213
 z168 := Tryz.sizeOf213
 v168 := Tryz.zeroValue213
 t171 := Tryz.underlying237
 a171 := Tryz.isAgg237
 z171 := Tryz.sizeOf237
 v171 := Tryz.zeroValue237
 t173 := Tryz.underlying240
 a173 := Tryz.isAgg240
 z173 := Tryz.sizeOf240
 v173 := Tryz.zeroValue240
 t175 := Tryz.underlying231
 a175 := Tryz.isAgg231
 z175 := Tryz.sizeOf231
 v175 := Tryz.zeroValue231
 t210 := Tryz.underlying234
 a210 := Tryz.isAgg234
 z210 := Tryz.sizeOf234
 v210 := Tryz.zeroValue234
 t212 := Tryz.underlying254
 a212 := Tryz.isAgg254
 z212 := Tryz.sizeOf254
 v212 := Tryz.zeroValue254
 t213 := Tryz.underlying255
 a213 := Tryz.isAgg255
 z213 := Tryz.sizeOf255
 t232 := Tryz.underlying275
 a232 := Tryz.isAgg275
 z232 := Tryz.sizeOf275
 v232 := Tryz.zeroValue275
 t233 := Tryz.underlying276
 a233 := Tryz.isAgg276
 z233 := Tryz.sizeOf276
 v233 := Tryz.zeroValue276
 g15 := by kernel_rfl
 g16 := by kernel_rfl
 g17 := by kernel_rfl
 g18 := by kernel_rfl
 g19 := by kernel_rfl
 t80 := Tryz.underlying181
 a80 := Tryz.isAgg181
 z80 := Tryz.sizeOf181
 v80 := Tryz.zeroValue181
 i0 := by kernel_rfl
 i2 := by kernel_rfl
 i3 := by kernel_rfl
 i4 := by kernel_rfl
 i5 := by kernel_rfl
 i9 := by kernel_rfl
 i20 := by kernel_rfl
 i21 := by kernel_rfl
 i37 := by kernel_rfl
 i46 := by kernel_rfl
 i51 := by kernel_rfl
 i53 := by kernel_rfl
 i75 := by kernel_rfl
 i76 := by kernel_rfl
 i80 := by kernel_rfl
 i85 := by kernel_rfl
 i127 := by kernel_rfl
 i143 := by kernel_rfl
 i145 := by kernel_rfl
 i167 := by kernel_rfl
 i168 := by kernel_rfl
 i171 := by kernel_rfl
 i173 := by kernel_rfl
 i175 := by kernel_rfl
 i210 := by kernel_rfl
 i212 := by kernel_rfl
 i232 := by kernel_rfl
 i233 := by kernel_rfl
 m15 := by kernel_rfl
 m16 := by kernel_rfl
 m17 := by kernel_rfl
 m18 := by kernel_rfl
 m19 := by kernel_rfl
 c0 := by kernel_rfl
 c2 := by kernel_rfl
 c3 := by kernel_rfl
 c4 := by kernel_rfl
 c5 := by kernel_rfl
 c9 := by kernel_rfl
 c20 := by kernel_rfl
 c21 := by kernel_rfl
 c37 := by kernel_rfl
 c46 := by kernel_rfl
 c51 := by kernel_rfl
 c53 := by kernel_rfl
 c75 := by kernel_rfl
 c76 := by kernel_rfl
 c80 := by kernel_rfl
 c85 := by kernel_rfl
 c127 := by kernel_rfl
 c143 := by kernel_rfl
 c145 := by kernel_rfl
 c167 := by kernel_rfl
 c168 := by kernel_rfl
 c171 := by kernel_rfl
 c173 := by kernel_rfl
 c175 := by kernel_rfl
 c210 := by kernel_rfl
 c212 := by kernel_rfl
 c213 := by kernel_rfl
 c232 := by kernel_rfl
 c233 := by kernel_rfl }
theorem Tryz.strconv_Atoi_ok (s : ByteArray) (hmax : s.size ≤ 9223372036854775806) (v : Int) (h : Lib.atoiAll s.data.toList = .ok v) (w : World) :
  Calls Tryz.prog 129 #[.string s] w fun e w' => e = .returned (.tuple #[.int .i64 v, .nilIface]) ∧ (w' = w ∨ ∃ t, w' = Lib.bytesWorld w 5 t) := Any.strconv_Atoi_ok Tryz.laysC172 s hmax v h w
theorem Tryz.strconv_Atoi_syntax (s : ByteArray) (hlim : s.size ≤ 281474976710656) (hok : ∀ v, Lib.atoiAll s.data.toList ≠ .ok v) (hr : Lib.atoiAll s.data.toList ≠ .range) (ev : Value) (w : World) (hv : w.cell? ⟨0, 0, none⟩ = some ev) (hev : ev = .nilIface ∨ ∃ te pe, ev = .iface te pe) :
  Calls Tryz.prog 129 #[.string s] w fun e w' => ∃ N, e = .returned (.tuple #[.int .i64 (0), .iface 213 (.pointer (some ⟨N, 0, none⟩))]) ∧ w.heap.size ≤ N ∧ w'.heap[N]? = some (.cells #[.string ⟨#[65, 116, 111, 105]⟩, .string s, ev] 234 (0, 0)) ∧ Below w.heap.size w w' := by
 cases h : Lib.atoiAll s.data.toList
 · exact (hok _ h).elim
 · exact Any.strconv_Atoi_syntax Tryz.laysC172 s hlim h ev w hv hev
 · exact (hr h).elim
theorem Tryz.strconv_Atoi_range (s : ByteArray) (hlim : s.size ≤ 281474976710656) (h : Lib.atoiAll s.data.toList = .range) (ev : Value) (w : World) (hv : w.cell? ⟨1, 0, none⟩ = some ev) (hev : ev = .nilIface ∨ ∃ te pe, ev = .iface te pe) :
  Calls Tryz.prog 129 #[.string s] w fun e w' => ∃ N, e = .returned (.tuple #[.int .i64 (Lib.atoiSat s.data.toList), .iface 213 (.pointer (some ⟨N, 0, none⟩))]) ∧ w.heap.size ≤ N ∧ w'.heap[N]? = some (.cells #[.string ⟨#[65, 116, 111, 105]⟩, .string s, ev] 234 (0, 0)) ∧ Below w.heap.size w w' := Any.strconv_Atoi_range Tryz.laysC172 s hlim h ev w hv hev
def Tryz.lays101_ren : Go.Shelf.Ren := ⟨fun | 101 => 130 | 208 => 190 | 206 => 244 | n => n, fun | 9 => 9 | 4 => 4 | 3 => 3 | n => n, fun | n => n⟩
theorem Tryz.lays101 : Go.Proofs.Lays.n101 Tryz.prog Tryz.lays101_ren := {
 mixed := by kernel_rfl
 f101 := Tryz.func130.trans (congrArg some (by kernel_rfl))
 f206 := Tryz.func244.trans (congrArg some (by kernel_rfl))
 f208 := Tryz.func190.trans (congrArg some (by kernel_rfl))
 t3 := Tryz.underlying3
 a3 := Tryz.isAgg3
 z3 := Tryz.sizeOf3
 v3 := Tryz.zeroValue3
 t4 := Tryz.underlying4
 a4 := Tryz.isAgg4
 z4 := Tryz.sizeOf4
 v4 := Tryz.zeroValue4
 t9 := Tryz.underlying9
 a9 := Tryz.isAgg9
 z9 := Tryz.sizeOf9
 v9 := Tryz.zeroValue9 }
theorem Tryz.strings_TrimPrefix (s p : ByteArray) (w : World) :
  Calls Tryz.prog 130 #[.string s, .string p] w fun e w' => e = .returned (.string ⟨(Lib.trimPrefix s.data.toList p.data.toList).toArray⟩) ∧ w' = w := Any.strings_TrimPrefix Tryz.lays101 s p w
end Go.Proofs
