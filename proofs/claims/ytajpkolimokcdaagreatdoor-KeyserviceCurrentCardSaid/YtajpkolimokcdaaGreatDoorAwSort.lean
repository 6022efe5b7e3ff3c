/-
  What the shelf knows of slices.SortFunc at this program's terms.
-/
import Derived.Shelf.SlSortCmp.WholeK
import Derived.Test.YtajpkolimokcdaaGreatDoorProg
namespace Go.Proofs
open Go.Shelf
def Tryz.sortTm_ren : Go.Shelf.Ren := ⟨fun | 6 => 251 | 15 => 278 | 14 => 277 | 28 => 303 | 29 => 290 | 20 => 295 | 21 => 296 | 22 => 297 | 23 => 298 | 24 => 299 | 25 => 300 | 26 => 301 | 27 => 302 | 46 => 308 | 47 => 309 | 48 => 310 | 49 => 311 | 50 => 312 | 57 => 313 | n => n, fun | 22 => 22 | 24 => 24 | 25 => 73 | 3 => 3 | 39 => 217 | 0 => 0 | 53 => 250 | 55 => 230 | 4 => 4 | 46 => 259 | 45 => 258 | 50 => 193 | 5 => 5 | 9 => 9 | 66 => 270 | 70 => 126 | 76 => 277 | 77 => 278 | n => n, fun | n => n⟩
theorem Tryz.sortTm : Go.Proofs.SlLaysF0.n6 Tryz.prog Tryz.sortTm_ren := {
 mixed := by kernel_rfl
 f6 := ⟨Tryz.f251.name, by decide, Tryz.func251.trans (congrArg some (by kernel_rfl))⟩
 f14 := ⟨Tryz.f277.name, by decide, Tryz.func277.trans (congrArg some (by kernel_rfl))⟩
 f15 := Tryz.func278.trans (congrArg some (by kernel_rfl))
 f20 := ⟨Tryz.f295.name, by decide, Tryz.func295.trans (congrArg some (by kernel_rfl))⟩
 f21 := ⟨Tryz.f296.name, by decide, Tryz.func296.trans (congrArg some (by kernel_rfl))⟩
 f22 := ⟨Tryz.f297.name, by decide, Tryz.func297.trans (congrArg some (by kernel_rfl))⟩
 f23 := ⟨Tryz.f298.name, by decide, Tryz.func298.trans (congrArg some (by kernel_rfl))⟩
 f24 := ⟨Tryz.f299.name, by decide, Tryz.func299.trans (congrArg some (by kernel_rfl))⟩
 f25 := ⟨Tryz.f300.name, by decide, Tryz.func300.trans (congrArg some (by kernel_rfl))⟩
 f26 := ⟨Tryz.f301.name, by decide, Tryz.func301.trans (congrArg some (by kernel_rfl))⟩
 f27 := ⟨Tryz.f302.name, by decide, Tryz.func302.trans (congrArg some (by kernel_rfl))⟩
 f28 := Tryz.func303.trans (congrArg some (by kernel_rfl))
 f29 := Tryz.func290.trans (congrArg some (by kernel_rfl))
 f46 := ⟨Tryz.f308.name, by decide, Tryz.func308.trans (congrArg some (by kernel_rfl))⟩
 f47 := Tryz.func309.trans (congrArg some (by kernel_rfl))
 f48 := Tryz.func310.trans (congrArg some (by kernel_rfl))
 f49 := ⟨Tryz.f311.name, by decide, Tryz.func311.trans (congrArg some (by kernel_rfl))⟩
 f50 := ⟨Tryz.f312.name, by decide, Tryz.func312.trans (congrArg some (by kernel_rfl))⟩
 f57 := ⟨Tryz.f313.name, by decide, Tryz.func313.trans (congrArg some (by kernel_rfl))⟩
 t0 := Tryz.underlying0
 a0 := Tryz.isAgg0
 z0 := Tryz.sizeOf0
 v0 := Tryz.zeroValue0
 t3 := Tryz.underlying3
 a3 := Tryz.isAgg3
 z3 := Tryz.sizeOf3
 v3 := Tryz.zeroValue3
 t4 := Tryz.underlying4
 a4 := Tryz.isAgg4
 z4 := Tryz.sizeOf4
 v4 := Tryz.zeroValue4
 t5 := Tryz.underlying5
 a5 := Tryz.isAgg5
 z5 := Tryz.sizeOf5
 v5 := Tryz.zeroValue5
 t9 := Tryz.underlying9
 a9 := Tryz.isAgg9
 z9 := Tryz.sizeOf9
 v9 := Tryz.zeroValue9
 t22 := Tryz.underlying22
 a22 := Tryz.isAgg22
 z22 := Tryz.sizeOf22
 v22 := Tryz.zeroValue22
 t25 := Tryz.underlying73
 a25 := Tryz.isAgg73
 z25 := Tryz.sizeOf73
 v25 := Tryz.zeroValue73
 t39 := Tryz.underlying217
 a39 := Tryz.isAgg217
 z39 := Tryz.sizeOf217
 v39 := Tryz.zeroValue217
 t45 := Tryz.underlying258
 a45 := Tryz.isAgg258
 z45 := Tryz.sizeOf258
 v45 := Tryz.zeroValue258
 t46 := Tryz.underlying259
 a46 := Tryz.isAgg259
 z46 := Tryz.sizeOf259
 v46 := Tryz.zeroValue259
 t50 := Tryz.underlying193
 a50 := Tryz.isAgg193
 z50 := Tryz.sizeOf193
 v50 := Tryz.zeroValue193
 t53 := Tryz.underlying250
 a53 := Tryz.isAgg250
 z53 := Tryz.sizeOf250
 v53 := Tryz.zeroValue250
 t55 := Tryz.underlying230
 a55 := Tryz.isAgg230
 z55 := Tryz.sizeOf230
 v55 := Tryz.zeroValue230
 t66 := Tryz.underlying270
 a66 := Tryz.isAgg270
 z66 := Tryz.sizeOf270
 v66 := Tryz.zeroValue270
 t70 := Tryz.underlying126
 a70 := Tryz.isAgg126
 z70 := Tryz.sizeOf126
 v70 := Tryz.zeroValue126
 t76 := Tryz.underlying277
 a76 := Tryz.isAgg277
 z76 := Tryz.sizeOf277
 v76 := Tryz.zeroValue277
 t77 := Tryz.underlying278
 a77 := Tryz.isAgg278
 z77 := Tryz.sizeOf278
 v77 := Tryz.zeroValue278 }
end Go.Proofs
