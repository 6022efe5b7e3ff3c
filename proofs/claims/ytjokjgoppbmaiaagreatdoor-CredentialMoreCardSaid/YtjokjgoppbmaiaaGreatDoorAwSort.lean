/-
  What the shelf knows of slices.SortFunc at this program's terms.
-/
import Derived.Shelf.SlSortCmp.WholeK
import Derived.Test.YtjokjgoppbmaiaaGreatDoorProg
namespace Go.Proofs
open Go.Shelf
def Tryz.sortTm_ren : Go.Shelf.Ren := ⟨fun | 6 => 260 | 15 => 292 | 14 => 291 | 28 => 320 | 29 => 302 | 20 => 312 | 21 => 313 | 22 => 314 | 23 => 315 | 24 => 316 | 25 => 317 | 26 => 318 | 27 => 319 | 46 => 327 | 47 => 328 | 48 => 329 | 49 => 330 | 50 => 331 | 57 => 332 | n => n, fun | 22 => 22 | 24 => 24 | 25 => 80 | 3 => 3 | 39 => 228 | 0 => 0 | 53 => 257 | 55 => 241 | 4 => 4 | 46 => 274 | 45 => 273 | 50 => 200 | 5 => 5 | 9 => 9 | 66 => 289 | 70 => 132 | 76 => 296 | 77 => 297 | n => n, fun | n => n⟩
theorem Tryz.sortTm : Go.Proofs.SlLaysF0.n6 Tryz.prog Tryz.sortTm_ren := {
 mixed := by kernel_rfl
 f6 := ⟨Tryz.f260.name, by decide, Tryz.func260.trans (congrArg some (by kernel_rfl))⟩
 f14 := ⟨Tryz.f291.name, by decide, Tryz.func291.trans (congrArg some (by kernel_rfl))⟩
 f15 := Tryz.func292.trans (congrArg some (by kernel_rfl))
 f20 := ⟨Tryz.f312.name, by decide, Tryz.func312.trans (congrArg some (by kernel_rfl))⟩
 f21 := ⟨Tryz.f313.name, by decide, Tryz.func313.trans (congrArg some (by kernel_rfl))⟩
 f22 := ⟨Tryz.f314.name, by decide, Tryz.func314.trans (congrArg some (by kernel_rfl))⟩
 f23 := ⟨Tryz.f315.name, by decide, Tryz.func315.trans (congrArg some (by kernel_rfl))⟩
 f24 := ⟨Tryz.f316.name, by decide, Tryz.func316.trans (congrArg some (by kernel_rfl))⟩
 f25 := ⟨Tryz.f317.name, by decide, Tryz.func317.trans (congrArg some (by kernel_rfl))⟩
 f26 := ⟨Tryz.f318.name, by decide, Tryz.func318.trans (congrArg some (by kernel_rfl))⟩
 f27 := ⟨Tryz.f319.name, by decide, Tryz.func319.trans (congrArg some (by kernel_rfl))⟩
 f28 := Tryz.func320.trans (congrArg some (by kernel_rfl))
 f29 := Tryz.func302.trans (congrArg some (by kernel_rfl))
 f46 := ⟨Tryz.f327.name, by decide, Tryz.func327.trans (congrArg some (by kernel_rfl))⟩
 f47 := Tryz.func328.trans (congrArg some (by kernel_rfl))
 f48 := Tryz.func329.trans (congrArg some (by kernel_rfl))
 f49 := ⟨Tryz.f330.name, by decide, Tryz.func330.trans (congrArg some (by kernel_rfl))⟩
 f50 := ⟨Tryz.f331.name, by decide, Tryz.func331.trans (congrArg some (by kernel_rfl))⟩
 f57 := ⟨Tryz.f332.name, by decide, Tryz.func332.trans (congrArg some (by kernel_rfl))⟩
 t0 := Tryz.underlying0
 a0 := Tryz.isAgg0
 z0 := Tryz.sizeOf0
 v0 := Tryz.zeroValue0
 t3 := Tryz.underlying3
 a3 := Tryz.isAgg3
 z3 := Tryz.sizeOf3
 v3 := Tryz.zeroValue3
 t4 := Tryz.underlying4
 a4 := Tryz.isAgg4
 z4 := Tryz.sizeOf4
 v4 := Tryz.zeroValue4
 t5 := Tryz.underlying5
 a5 := Tryz.isAgg5
 z5 := Tryz.sizeOf5
 v5 := Tryz.zeroValue5
 t9 := Tryz.underlying9
 a9 := Tryz.isAgg9
 z9 := Tryz.sizeOf9
 v9 := Tryz.zeroValue9
 t22 := Tryz.underlying22
 a22 := Tryz.isAgg22
 z22 := Tryz.sizeOf22
 v22 := Tryz.zeroValue22
 t25 := Tryz.underlying80
 a25 := Tryz.isAgg80
 z25 := Tryz.sizeOf80
 v25 := Tryz.zeroValue80
 t39 := Tryz.underlying228
 a39 := Tryz.isAgg228
 z39 := Tryz.sizeOf228
 v39 := Tryz.zeroValue228
 t45 := Tryz.underlying273
 a45 := Tryz.isAgg273
 z45 := Tryz.sizeOf273
 v45 := Tryz.zeroValue273
 t46 := Tryz.underlying274
 a46 := Tryz.isAgg274
 z46 := Tryz.sizeOf274
 v46 := Tryz.zeroValue274
 t50 := Tryz.underlying200
 a50 := Tryz.isAgg200
 z50 := Tryz.sizeOf200
 v50 := Tryz.zeroValue200
 t53 := Tryz.underlying257
 a53 := Tryz.isAgg257
 z53 := Tryz.sizeOf257
 v53 := Tryz.zeroValue257
 t55 := Tryz.underlying241
 a55 := Tryz.isAgg241
 z55 := Tryz.sizeOf241
 v55 := Tryz.zeroValue241
 t66 := Tryz.underlying289
 a66 := Tryz.isAgg289
 z66 := Tryz.sizeOf289
 v66 := Tryz.zeroValue289
 t70 := Tryz.underlying132
 a70 := Tryz.isAgg132
 z70 := Tryz.sizeOf132
 v70 := Tryz.zeroValue132
 t76 := Tryz.underlying296
 a76 := Tryz.isAgg296
 z76 := Tryz.sizeOf296
 v76 := Tryz.zeroValue296
 t77 := Tryz.underlying297
 a77 := Tryz.isAgg297
 z77 := Tryz.sizeOf297
 v77 := Tryz.zeroValue297 }
end Go.Proofs
