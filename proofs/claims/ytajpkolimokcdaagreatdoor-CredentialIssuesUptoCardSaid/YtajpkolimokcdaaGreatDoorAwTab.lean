/-
  The tables of the seat.
-/
import Derived.Test.YtajpkolimokcdaaGreatDoorFe
import Derived.Test.YtajpkolimokcdaaGreatDoorProg
namespace Go.Vm.Seat
open Go.Proofs
theorem ti2 : tiOf Tryz.prog 2 = some ⟨.int .i64, 1, 8, .int .i64 0⟩ := by kernel_rfl
theorem ti3 : tiOf Tryz.prog 3 = some ⟨.int .i64, 1, 8, .int .i64 0⟩ := by kernel_rfl
theorem ti4 : tiOf Tryz.prog 4 = some ⟨.bool, 1, 1, .bool false⟩ := by kernel_rfl
theorem ti5 : tiOf Tryz.prog 5 = some ⟨.int .u8, 1, 1, .int .u8 0⟩ := by kernel_rfl
theorem ti6 : tiOf Tryz.prog 6 = some ⟨.int .u8, 1, 1, .int .u8 0⟩ := by kernel_rfl
theorem ti7 : tiOf Tryz.prog 7 = some ⟨.struct [(0, 2), (1, 3), (2, 4), (3, 6)], 4, 24, .agg [.int .i64 0, .int .i64 0, .bool false, .int .u8 0]⟩ := by kernel_rfl
theorem ti8 : tiOf Tryz.prog 8 = some ⟨.struct [(0, 2), (1, 3), (2, 4), (3, 6)], 4, 24, .agg [.int .i64 0, .int .i64 0, .bool false, .int .u8 0]⟩ := by kernel_rfl
theorem ti9 : tiOf Tryz.prog 9 = some ⟨.string, 1, 16, .str []⟩ := by kernel_rfl
theorem ti10 : tiOf Tryz.prog 10 = some ⟨.string, 1, 16, .str []⟩ := by kernel_rfl
theorem ti11 : tiOf Tryz.prog 11 = some ⟨.string, 1, 16, .str []⟩ := by kernel_rfl
theorem ti12 : tiOf Tryz.prog 12 = some ⟨.int .u64, 1, 8, .int .u64 0⟩ := by kernel_rfl
theorem ti13 : tiOf Tryz.prog 13 = some ⟨.struct [(0, 9), (1, 12)], 2, 24, .agg [.str [], .int .u64 0]⟩ := by kernel_rfl
theorem ti14 : tiOf Tryz.prog 14 = some ⟨.struct [(0, 9), (1, 12)], 2, 24, .agg [.str [], .int .u64 0]⟩ := by kernel_rfl
theorem ti15 : tiOf Tryz.prog 15 = some ⟨.pointer 281, 1, 8, .nilp⟩ := by kernel_rfl
theorem ti16 : tiOf Tryz.prog 16 = some ⟨.pointer 284, 1, 8, .nilp⟩ := by kernel_rfl
theorem ti17 : tiOf Tryz.prog 17 = some ⟨.pointer 292, 1, 8, .nilp⟩ := by kernel_rfl
theorem ti18 : tiOf Tryz.prog 18 = some ⟨.struct [(0, 17)], 1, 8, .agg [.nilp]⟩ := by kernel_rfl
theorem ti19 : tiOf Tryz.prog 19 = some ⟨.struct [(0, 17)], 1, 8, .agg [.nilp]⟩ := by kernel_rfl
theorem ti21 : tiOf Tryz.prog 21 = some ⟨.int .i32, 1, 4, .int .i32 0⟩ := by kernel_rfl
theorem ti22 : tiOf Tryz.prog 22 = some ⟨.slice 24, 1, 24, .nils⟩ := by kernel_rfl
theorem ti23 : tiOf Tryz.prog 23 = some ⟨.struct [(0, 3), (1, 9), (2, 3), (3, 22)], 4, 56, .agg [.int .i64 0, .str [], .int .i64 0, .nils]⟩ := by kernel_rfl
theorem ti24 : tiOf Tryz.prog 24 = some ⟨.struct [(0, 3), (1, 9), (2, 3), (3, 22)], 4, 56, .agg [.int .i64 0, .str [], .int .i64 0, .nils]⟩ := by kernel_rfl
theorem ti25 : tiOf Tryz.prog 25 = some ⟨.slice 9, 1, 24, .nils⟩ := by kernel_rfl
theorem ti26 : tiOf Tryz.prog 26 = some ⟨.struct [(0, 25), (1, 25)], 2, 48, .agg [.nils, .nils]⟩ := by kernel_rfl
theorem ti27 : tiOf Tryz.prog 27 = some ⟨.struct [(0, 25), (1, 25)], 2, 48, .agg [.nils, .nils]⟩ := by kernel_rfl
theorem ti28 : tiOf Tryz.prog 28 = some ⟨.struct [(0, 9), (1, 24), (5, 4), (6, 27), (8, 3), (9, 3), (10, 3)], 11, 152, .agg [.str [], .int .i64 0, .str [], .int .i64 0, .nils, .bool false, .nils, .nils, .int .i64 0, .int .i64 0, .int .i64 0]⟩ := by kernel_rfl
theorem ti29 : tiOf Tryz.prog 29 = some ⟨.struct [(0, 9), (1, 24), (5, 4), (6, 27), (8, 3), (9, 3), (10, 3)], 11, 152, .agg [.str [], .int .i64 0, .str [], .int .i64 0, .nils, .bool false, .nils, .nils, .int .i64 0, .int .i64 0, .int .i64 0]⟩ := by kernel_rfl
theorem ti33 : tiOf Tryz.prog 33 = some ⟨.int .i64, 1, 8, .int .i64 0⟩ := by kernel_rfl
theorem ti42 : tiOf Tryz.prog 42 = some ⟨.slice 95, 1, 24, .nils⟩ := by kernel_rfl
theorem ti43 : tiOf Tryz.prog 43 = some ⟨.struct [(0, 9), (1, 24), (5, 22), (6, 42)], 7, 120, .agg [.str [], .int .i64 0, .str [], .int .i64 0, .nils, .nils, .nils]⟩ := by kernel_rfl
theorem ti44 : tiOf Tryz.prog 44 = some ⟨.struct [(0, 9), (1, 24), (5, 22), (6, 42)], 7, 120, .agg [.str [], .int .i64 0, .str [], .int .i64 0, .nils, .nils, .nils]⟩ := by kernel_rfl
theorem ti46 : tiOf Tryz.prog 46 = some ⟨.struct [(0, 24), (4, 3), (5, 24), (9, 24)], 13, 176, .agg [.int .i64 0, .str [], .int .i64 0, .nils, .int .i64 0, .int .i64 0, .str [], .int .i64 0, .nils, .int .i64 0, .str [], .int .i64 0, .nils]⟩ := by kernel_rfl
theorem ti47 : tiOf Tryz.prog 47 = some ⟨.struct [(0, 24), (4, 3), (5, 24), (9, 24)], 13, 176, .agg [.int .i64 0, .str [], .int .i64 0, .nils, .int .i64 0, .int .i64 0, .str [], .int .i64 0, .nils, .int .i64 0, .str [], .int .i64 0, .nils]⟩ := by kernel_rfl
theorem ti55 : tiOf Tryz.prog 55 = some ⟨.struct [(0, 9), (1, 24), (5, 3), (6, 3), (7, 24), (11, 24), (15, 22), (16, 22)], 17, 248, .agg [.str [], .int .i64 0, .str [], .int .i64 0, .nils, .int .i64 0, .int .i64 0, .int .i64 0, .str [], .int .i64 0, .nils, .int .i64 0, .str [], .int .i64 0, .nils, .nils, .nils]⟩ := by kernel_rfl
theorem ti56 : tiOf Tryz.prog 56 = some ⟨.struct [(0, 9), (1, 24), (5, 3), (6, 3), (7, 24), (11, 24), (15, 22), (16, 22)], 17, 248, .agg [.str [], .int .i64 0, .str [], .int .i64 0, .nils, .int .i64 0, .int .i64 0, .int .i64 0, .str [], .int .i64 0, .nils, .int .i64 0, .str [], .int .i64 0, .nils, .nils, .nils]⟩ := by kernel_rfl
theorem ti79 : tiOf Tryz.prog 79 = some ⟨.slice 3, 1, 24, .nils⟩ := by kernel_rfl
theorem ti94 : tiOf Tryz.prog 94 = some ⟨.struct [(0, 9), (1, 24), (5, 3)], 6, 80, .agg [.str [], .int .i64 0, .str [], .int .i64 0, .nils, .int .i64 0]⟩ := by kernel_rfl
theorem ti95 : tiOf Tryz.prog 95 = some ⟨.struct [(0, 9), (1, 24), (5, 3)], 6, 80, .agg [.str [], .int .i64 0, .str [], .int .i64 0, .nils, .int .i64 0]⟩ := by kernel_rfl
theorem ti126 : tiOf Tryz.prog 126 = some ⟨.pointer 3, 1, 8, .nilp⟩ := by kernel_rfl
theorem ti153 : tiOf Tryz.prog 153 = some ⟨.pointer 155, 1, 8, .nilp⟩ := by kernel_rfl
theorem ti154 : tiOf Tryz.prog 154 = some ⟨.struct [(0, 22), (1, 4)], 2, 32, .agg [.nils, .bool false]⟩ := by kernel_rfl
theorem ti155 : tiOf Tryz.prog 155 = some ⟨.struct [(0, 22), (1, 4)], 2, 32, .agg [.nils, .bool false]⟩ := by kernel_rfl
theorem ti162 : tiOf Tryz.prog 162 = some ⟨.struct [(0, 24), (4, 24), (8, 22), (9, 4)], 10, 144, .agg [.int .i64 0, .str [], .int .i64 0, .nils, .int .i64 0, .str [], .int .i64 0, .nils, .nils, .bool false]⟩ := by kernel_rfl
theorem ti163 : tiOf Tryz.prog 163 = some ⟨.struct [(0, 24), (4, 24), (8, 22), (9, 4)], 10, 144, .agg [.int .i64 0, .str [], .int .i64 0, .nils, .int .i64 0, .str [], .int .i64 0, .nils, .nils, .bool false]⟩ := by kernel_rfl
theorem ti169 : tiOf Tryz.prog 169 = some ⟨.struct [(0, 9), (1, 3), (2, 3), (3, 3)], 4, 40, .agg [.str [], .int .i64 0, .int .i64 0, .int .i64 0]⟩ := by kernel_rfl
theorem ti170 : tiOf Tryz.prog 170 = some ⟨.struct [(0, 9), (1, 3), (2, 3), (3, 3)], 4, 40, .agg [.str [], .int .i64 0, .int .i64 0, .int .i64 0]⟩ := by kernel_rfl
theorem ti176 : tiOf Tryz.prog 176 = some ⟨.pointer 179, 1, 8, .nilp⟩ := by kernel_rfl
theorem ti177 : tiOf Tryz.prog 177 = some ⟨.slice 5, 1, 24, .nils⟩ := by kernel_rfl
theorem ti178 : tiOf Tryz.prog 178 = some ⟨.struct [(0, 176), (1, 177)], 2, 32, .agg [.nilp, .nils]⟩ := by kernel_rfl
theorem ti179 : tiOf Tryz.prog 179 = some ⟨.struct [(0, 176), (1, 177)], 2, 32, .agg [.nilp, .nils]⟩ := by kernel_rfl
theorem ti199 : tiOf Tryz.prog 199 = some ⟨.slice 170, 1, 24, .nils⟩ := by kernel_rfl
theorem ti203 : tiOf Tryz.prog 203 = some ⟨.array 256 4, 256, 256, .agg (List.replicate 256 (.bool false))⟩ := by kernel_rfl
theorem ti204 : tiOf Tryz.prog 204 = some ⟨.array 256 4, 256, 256, .agg (List.replicate 256 (.bool false))⟩ := by kernel_rfl
theorem ti208 : tiOf Tryz.prog 208 = some ⟨.pointer 204, 1, 8, .nilp⟩ := by kernel_rfl
theorem ti209 : tiOf Tryz.prog 209 = some ⟨.pointer 5, 1, 8, .nilp⟩ := by kernel_rfl
theorem ti210 : tiOf Tryz.prog 210 = some ⟨.int .i64, 1, 8, .int .i64 0⟩ := by kernel_rfl
theorem ti213 : tiOf Tryz.prog 213 = some ⟨.pointer 234, 1, 8, .nilp⟩ := by kernel_rfl
theorem ti217 : tiOf Tryz.prog 217 = some ⟨.int .u64, 1, 8, .int .u64 0⟩ := by kernel_rfl
theorem ti230 : tiOf Tryz.prog 230 = some ⟨.int .u64, 1, 8, .int .u64 0⟩ := by kernel_rfl
theorem ti233 : tiOf Tryz.prog 233 = some ⟨.struct [(0, 9), (1, 9), (2, 136)], 3, 48, .agg [.str [], .str [], .undef]⟩ := by kernel_rfl
theorem ti234 : tiOf Tryz.prog 234 = some ⟨.struct [(0, 9), (1, 9), (2, 136)], 3, 48, .agg [.str [], .str [], .undef]⟩ := by kernel_rfl
theorem ti237 : tiOf Tryz.prog 237 = some ⟨.array 24 5, 24, 24, .agg [.int .u8 0, .int .u8 0, .int .u8 0, .int .u8 0, .int .u8 0, .int .u8 0, .int .u8 0, .int .u8 0, .int .u8 0, .int .u8 0, .int .u8 0, .int .u8 0, .int .u8 0, .int .u8 0, .int .u8 0, .int .u8 0, .int .u8 0, .int .u8 0, .int .u8 0, .int .u8 0, .int .u8 0, .int .u8 0, .int .u8 0, .int .u8 0]⟩ := by kernel_rfl
theorem ti247 : tiOf Tryz.prog 247 = some ⟨.pointer 249, 1, 8, .nilp⟩ := by kernel_rfl
theorem ti248 : tiOf Tryz.prog 248 = some ⟨.struct [(0, 9)], 1, 16, .agg [.str []]⟩ := by kernel_rfl
theorem ti249 : tiOf Tryz.prog 249 = some ⟨.struct [(0, 9)], 1, 16, .agg [.str []]⟩ := by kernel_rfl
theorem ti250 : tiOf Tryz.prog 250 = some ⟨.int .u32, 1, 4, .int .u32 0⟩ := by kernel_rfl
theorem ti254 : tiOf Tryz.prog 254 = some ⟨.array 20 230, 20, 160, .agg [.int .u64 0, .int .u64 0, .int .u64 0, .int .u64 0, .int .u64 0, .int .u64 0, .int .u64 0, .int .u64 0, .int .u64 0, .int .u64 0, .int .u64 0, .int .u64 0, .int .u64 0, .int .u64 0, .int .u64 0, .int .u64 0, .int .u64 0, .int .u64 0, .int .u64 0, .int .u64 0]⟩ := by kernel_rfl
theorem ti255 : tiOf Tryz.prog 255 = some ⟨.array 65 5, 65, 65, .agg (List.replicate 65 (.int .u8 0))⟩ := by kernel_rfl
theorem ti258 : tiOf Tryz.prog 258 = some ⟨.int .i64, 1, 8, .int .i64 0⟩ := by kernel_rfl
theorem ti265 : tiOf Tryz.prog 265 = some ⟨.array 256 5, 256, 256, .agg (List.replicate 256 (.int .u8 0))⟩ := by kernel_rfl
theorem ti266 : tiOf Tryz.prog 266 = some ⟨.struct [(0, 5), (1, 5)], 2, 2, .agg [.int .u8 0, .int .u8 0]⟩ := by kernel_rfl
theorem ti267 : tiOf Tryz.prog 267 = some ⟨.struct [(0, 5), (1, 5)], 2, 2, .agg [.int .u8 0, .int .u8 0]⟩ := by kernel_rfl
theorem ti268 : tiOf Tryz.prog 268 = some ⟨.array 16 267, 32, 32, .agg [.int .u8 0, .int .u8 0, .int .u8 0, .int .u8 0, .int .u8 0, .int .u8 0, .int .u8 0, .int .u8 0, .int .u8 0, .int .u8 0, .int .u8 0, .int .u8 0, .int .u8 0, .int .u8 0, .int .u8 0, .int .u8 0, .int .u8 0, .int .u8 0, .int .u8 0, .int .u8 0, .int .u8 0, .int .u8 0, .int .u8 0, .int .u8 0, .int .u8 0, .int .u8 0, .int .u8 0, .int .u8 0, .int .u8 0, .int .u8 0, .int .u8 0, .int .u8 0]⟩ := by kernel_rfl
theorem ti270 : tiOf Tryz.prog 270 = some ⟨.int .u64, 1, 8, .int .u64 0⟩ := by kernel_rfl
theorem ti275 : tiOf Tryz.prog 275 = some ⟨.array 32 5, 32, 32, .agg [.int .u8 0, .int .u8 0, .int .u8 0, .int .u8 0, .int .u8 0, .int .u8 0, .int .u8 0, .int .u8 0, .int .u8 0, .int .u8 0, .int .u8 0, .int .u8 0, .int .u8 0, .int .u8 0, .int .u8 0, .int .u8 0, .int .u8 0, .int .u8 0, .int .u8 0, .int .u8 0, .int .u8 0, .int .u8 0, .int .u8 0, .int .u8 0, .int .u8 0, .int .u8 0, .int .u8 0, .int .u8 0, .int .u8 0, .int .u8 0, .int .u8 0, .int .u8 0]⟩ := by kernel_rfl
theorem ti276 : tiOf Tryz.prog 276 = some ⟨.array 64 5, 64, 64, .agg (List.replicate 64 (.int .u8 0))⟩ := by kernel_rfl
theorem ti277 : tiOf Tryz.prog 277 = some ⟨.pointer 270, 1, 8, .nilp⟩ := by kernel_rfl
theorem ti280 : tiOf Tryz.prog 280 = some ⟨.struct [(0, 17), (1, 17), (2, 17), (3, 9)], 4, 40, .agg [.nilp, .nilp, .nilp, .str []]⟩ := by kernel_rfl
theorem ti281 : tiOf Tryz.prog 281 = some ⟨.struct [(0, 17), (1, 17), (2, 17), (3, 9)], 4, 40, .agg [.nilp, .nilp, .nilp, .str []]⟩ := by kernel_rfl
theorem ti282 : tiOf Tryz.prog 282 = some ⟨.array 0 16, 0, 0, .agg []⟩ := by kernel_rfl
theorem ti283 : tiOf Tryz.prog 283 = some ⟨.struct [(0, 282)], 0, 0, .agg []⟩ := by kernel_rfl
theorem ti284 : tiOf Tryz.prog 284 = some ⟨.struct [(0, 282)], 0, 0, .agg []⟩ := by kernel_rfl
theorem ti286 : tiOf Tryz.prog 286 = some ⟨.int .u8, 1, 1, .int .u8 0⟩ := by kernel_rfl
theorem ti287 : tiOf Tryz.prog 287 = some ⟨.int .u8, 1, 1, .int .u8 0⟩ := by kernel_rfl
theorem ti289 : tiOf Tryz.prog 289 = some ⟨.int .i32, 1, 4, .int .i32 0⟩ := by kernel_rfl
theorem ti290 : tiOf Tryz.prog 290 = some ⟨.int .i32, 1, 4, .int .i32 0⟩ := by kernel_rfl
theorem ti291 : tiOf Tryz.prog 291 = some ⟨.struct [(0, 12), (1, 12), (2, 250), (3, 286), (4, 5), (5, 5), (6, 287), (7, 288), (8, 209), (9, 289), (10, 290)], 11, 48, .agg [.int .u64 0, .int .u64 0, .int .u32 0, .int .u8 0, .int .u8 0, .int .u8 0, .int .u8 0, .nilf, .nilp, .int .i32 0, .int .i32 0]⟩ := by kernel_rfl
theorem ti292 : tiOf Tryz.prog 292 = some ⟨.struct [(0, 12), (1, 12), (2, 250), (3, 286), (4, 5), (5, 5), (6, 287), (7, 288), (8, 209), (9, 289), (10, 290)], 11, 48, .agg [.int .u64 0, .int .u64 0, .int .u32 0, .int .u8 0, .int .u8 0, .int .u8 0, .int .u8 0, .nilf, .nilp, .int .i32 0, .int .i32 0]⟩ := by kernel_rfl
noncomputable def tabT : Tri (TiE Tryz.prog) := (.node none (.node none (.node (some ⟨3, _, ti3⟩) (.node (some ⟨7, _, ti7⟩) (.node (some ⟨15, _, ti15⟩) (.node none (.node none (.node none (.node (some ⟨255, _, ti255⟩) .leaf .leaf) .leaf) .leaf) (.node (some ⟨95, _, ti95⟩) (.node none (.node (some ⟨287, _, ti287⟩) .leaf .leaf) .leaf) .leaf)) (.node (some ⟨47, _, ti47⟩) (.node (some ⟨79, _, ti79⟩) .leaf .leaf) .leaf)) (.node (some ⟨23, _, ti23⟩) (.node none (.node none .leaf (.node (some ⟨199, _, ti199⟩) .leaf .leaf)) .leaf) (.node (some ⟨55, _, ti55⟩) .leaf (.node none .leaf (.node (some ⟨247, _, ti247⟩) .leaf .leaf))))) (.node (some ⟨11, _, ti11⟩) (.node (some ⟨19, _, ti19⟩) (.node none .leaf (.node none (.node (some ⟨163, _, ti163⟩) (.node (some ⟨291, _, ti291⟩) .leaf .leaf) .leaf) .leaf)) (.node none (.node none (.node none (.node (some ⟨275, _, ti275⟩) .leaf .leaf) .leaf) .leaf) (.node none (.node (some ⟨179, _, ti179⟩) .leaf .leaf) .leaf))) (.node (some ⟨27, _, ti27⟩) (.node (some ⟨43, _, ti43⟩) (.node none (.node none (.node (some ⟨267, _, ti267⟩) .leaf .leaf) .leaf) (.node (some ⟨203, _, ti203⟩) .leaf .leaf)) .leaf) (.node none (.node none (.node (some ⟨155, _, ti155⟩) (.node (some ⟨283, _, ti283⟩) .leaf .leaf) .leaf) .leaf) .leaf)))) (.node (some ⟨5, _, ti5⟩) (.node (some ⟨9, _, ti9⟩) (.node (some ⟨17, _, ti17⟩) (.node (some ⟨33, _, ti33⟩) .leaf (.node none (.node none (.node (some ⟨289, _, ti289⟩) .leaf .leaf) .leaf) .leaf)) (.node none (.node none .leaf (.node (some ⟨209, _, ti209⟩) .leaf .leaf)) (.node none (.node (some ⟨177, _, ti177⟩) .leaf .leaf) .leaf))) (.node (some ⟨25, _, ti25⟩) (.node none (.node none (.node none (.node (some ⟨265, _, ti265⟩) .leaf .leaf) .leaf) .leaf) (.node none (.node (some ⟨169, _, ti169⟩) .leaf .leaf) (.node (some ⟨233, _, ti233⟩) .leaf .leaf))) (.node none (.node none (.node (some ⟨153, _, ti153⟩) (.node (some ⟨281, _, ti281⟩) .leaf .leaf) .leaf) (.node (some ⟨217, _, ti217⟩) .leaf .leaf)) (.node none .leaf (.node (some ⟨249, _, ti249⟩) .leaf .leaf))))) (.node (some ⟨13, _, ti13⟩) (.node (some ⟨21, _, ti21⟩) .leaf (.node none (.node none (.node none (.node (some ⟨277, _, ti277⟩) .leaf .leaf) .leaf) (.node (some ⟨213, _, ti213⟩) .leaf .leaf)) .leaf)) (.node (some ⟨29, _, ti29⟩) (.node none .leaf (.node none .leaf (.node (some ⟨237, _, ti237⟩) .leaf .leaf))) .leaf)))) (.node (some ⟨2, _, ti2⟩) (.node (some ⟨4, _, ti4⟩) (.node (some ⟨8, _, ti8⟩) (.node (some ⟨16, _, ti16⟩) .leaf (.node none (.node none .leaf (.node (some ⟨208, _, ti208⟩) .leaf .leaf)) (.node none (.node (some ⟨176, _, ti176⟩) .leaf .leaf) .leaf))) (.node (some ⟨24, _, ti24⟩) .leaf (.node (some ⟨56, _, ti56⟩) (.node none (.node none (.node (some ⟨280, _, ti280⟩) .leaf .leaf) .leaf) .leaf) (.node none .leaf (.node (some ⟨248, _, ti248⟩) .leaf .leaf))))) (.node (some ⟨12, _, ti12⟩) (.node none (.node none .leaf (.node none (.node none (.node (some ⟨292, _, ti292⟩) .leaf .leaf) .leaf) .leaf)) (.node none (.node none (.node none (.node (some ⟨276, _, ti276⟩) .leaf .leaf) .leaf) .leaf) .leaf)) (.node (some ⟨28, _, ti28⟩) (.node (some ⟨44, _, ti44⟩) (.node none (.node none (.node (some ⟨268, _, ti268⟩) .leaf .leaf) .leaf) (.node (some ⟨204, _, ti204⟩) .leaf .leaf)) .leaf) (.node none (.node none (.node none (.node (some ⟨284, _, ti284⟩) .leaf .leaf) .leaf) .leaf) .leaf)))) (.node (some ⟨6, _, ti6⟩) (.node (some ⟨10, _, ti10⟩) (.node (some ⟨18, _, ti18⟩) (.node none (.node none (.node none (.node (some ⟨258, _, ti258⟩) .leaf .leaf) .leaf) .leaf) (.node none (.node (some ⟨162, _, ti162⟩) (.node (some ⟨290, _, ti290⟩) .leaf .leaf) .leaf) .leaf)) (.node none (.node none .leaf (.node (some ⟨210, _, ti210⟩) .leaf .leaf)) (.node none (.node (some ⟨178, _, ti178⟩) .leaf .leaf) .leaf))) (.node (some ⟨26, _, ti26⟩) (.node (some ⟨42, _, ti42⟩) (.node none (.node none (.node (some ⟨266, _, ti266⟩) .leaf .leaf) .leaf) .leaf) (.node none (.node (some ⟨170, _, ti170⟩) .leaf .leaf) (.node (some ⟨234, _, ti234⟩) .leaf .leaf))) (.node none (.node none (.node (some ⟨154, _, ti154⟩) (.node (some ⟨282, _, ti282⟩) .leaf .leaf) .leaf) .leaf) (.node none .leaf (.node (some ⟨250, _, ti250⟩) .leaf .leaf))))) (.node (some ⟨14, _, ti14⟩) (.node (some ⟨22, _, ti22⟩) (.node none .leaf (.node none .leaf (.node (some ⟨230, _, ti230⟩) .leaf .leaf))) .leaf) (.node none (.node (some ⟨46, _, ti46⟩) (.node none (.node none (.node (some ⟨270, _, ti270⟩) .leaf .leaf) .leaf) .leaf) .leaf) (.node none (.node (some ⟨94, _, ti94⟩) (.node none (.node (some ⟨286, _, ti286⟩) .leaf .leaf) .leaf) .leaf) (.node (some ⟨126, _, ti126⟩) .leaf (.node (some ⟨254, _, ti254⟩) .leaf .leaf))))))))
noncomputable def fe2 : FnE Tryz.prog := ⟨2, Tryz.f2, _, ⟨Tryz.func2, rfl, by kernel_rfl⟩, by kernel_rfl⟩
noncomputable def fe3 : FnE Tryz.prog := ⟨3, Tryz.f3, _, ⟨Tryz.func3, rfl, by kernel_rfl⟩, by kernel_rfl⟩
noncomputable def fe4 : FnE Tryz.prog := ⟨4, Tryz.f4, _, ⟨Tryz.func4, rfl, by kernel_rfl⟩, by kernel_rfl⟩
noncomputable def fe5 : FnE Tryz.prog := ⟨5, Tryz.f5, _, ⟨Tryz.func5, rfl, by kernel_rfl⟩, by kernel_rfl⟩
noncomputable def fe6 : FnE Tryz.prog := ⟨6, Tryz.f6, _, ⟨Tryz.func6, rfl, by kernel_rfl⟩, by kernel_rfl⟩
noncomputable def fe7 : FnE Tryz.prog := ⟨7, Tryz.f7, _, ⟨Tryz.func7, rfl, by kernel_rfl⟩, by kernel_rfl⟩
noncomputable def fe8 : FnE Tryz.prog := ⟨8, Tryz.f8, _, ⟨Tryz.func8, rfl, by kernel_rfl⟩, by kernel_rfl⟩
noncomputable def fe9 : FnE Tryz.prog := ⟨9, Tryz.f9, _, ⟨Tryz.func9, rfl, by kernel_rfl⟩, by kernel_rfl⟩
noncomputable def fe10 : FnE Tryz.prog := ⟨10, Tryz.f10, _, ⟨Tryz.func10, rfl, by kernel_rfl⟩, by kernel_rfl⟩
noncomputable def fe11 : FnE Tryz.prog := ⟨11, Tryz.f11, _, ⟨Tryz.func11, rfl, by kernel_rfl⟩, by kernel_rfl⟩
noncomputable def fe12 : FnE Tryz.prog := ⟨12, Tryz.f12, _, ⟨Tryz.func12, rfl, by kernel_rfl⟩, by kernel_rfl⟩
noncomputable def fe13 : FnE Tryz.prog := ⟨13, Tryz.f13, _, ⟨Tryz.func13, rfl, by kernel_rfl⟩, by kernel_rfl⟩
noncomputable def fe14 : FnE Tryz.prog := ⟨14, Tryz.f14, _, ⟨Tryz.func14, rfl, by kernel_rfl⟩, by kernel_rfl⟩
noncomputable def fe15 : FnE Tryz.prog := ⟨15, Tryz.f15, _, ⟨Tryz.func15, rfl, by kernel_rfl⟩, by kernel_rfl⟩
noncomputable def fe16 : FnE Tryz.prog := ⟨16, Tryz.f16, _, ⟨Tryz.func16, rfl, by kernel_rfl⟩, by kernel_rfl⟩
noncomputable def fe17 : FnE Tryz.prog := ⟨17, Tryz.f17, _, ⟨Tryz.func17, rfl, by kernel_rfl⟩, by kernel_rfl⟩
noncomputable def fe18 : FnE Tryz.prog := ⟨18, Tryz.f18, _, ⟨Tryz.func18, rfl, by kernel_rfl⟩, by kernel_rfl⟩
noncomputable def fe19 : FnE Tryz.prog := ⟨19, Tryz.f19, _, ⟨Tryz.func19, rfl, by kernel_rfl⟩, by kernel_rfl⟩
noncomputable def fe20 : FnE Tryz.prog := ⟨20, Tryz.f20, _, ⟨Tryz.func20, rfl, by kernel_rfl⟩, by kernel_rfl⟩
noncomputable def fe21 : FnE Tryz.prog := ⟨21, Tryz.f21, _, ⟨Tryz.func21, rfl, by kernel_rfl⟩, by kernel_rfl⟩
noncomputable def fe22 : FnE Tryz.prog := ⟨22, Tryz.f22, _, ⟨Tryz.func22, rfl, by kernel_rfl⟩, by kernel_rfl⟩
noncomputable def fe23 : FnE Tryz.prog := ⟨23, Tryz.f23, _, ⟨Tryz.func23, rfl, by kernel_rfl⟩, by kernel_rfl⟩
noncomputable def fe24 : FnE Tryz.prog := ⟨24, Tryz.f24, _, ⟨Tryz.func24, rfl, by kernel_rfl⟩, by kernel_rfl⟩
noncomputable def fe25 : FnE Tryz.prog := ⟨25, Tryz.f25, _, ⟨Tryz.func25, rfl, by kernel_rfl⟩, by kernel_rfl⟩
noncomputable def fe26 : FnE Tryz.prog := ⟨26, Tryz.f26, _, ⟨Tryz.func26, rfl, by kernel_rfl⟩, by kernel_rfl⟩
noncomputable def fe27 : FnE Tryz.prog := ⟨27, Tryz.f27, _, ⟨Tryz.func27, rfl, by kernel_rfl⟩, by kernel_rfl⟩
noncomputable def fe28 : FnE Tryz.prog := ⟨28, Tryz.f28, _, ⟨Tryz.func28, rfl, by kernel_rfl⟩, by kernel_rfl⟩
noncomputable def fe29 : FnE Tryz.prog := ⟨29, Tryz.f29, _, ⟨Tryz.func29, rfl, by kernel_rfl⟩, by kernel_rfl⟩
noncomputable def fe30 : FnE Tryz.prog := ⟨30, Tryz.f30, _, ⟨Tryz.func30, rfl, by kernel_rfl⟩, by kernel_rfl⟩
noncomputable def fe31 : FnE Tryz.prog := ⟨31, Tryz.f31, _, ⟨Tryz.func31, rfl, by kernel_rfl⟩, by kernel_rfl⟩
noncomputable def fe32 : FnE Tryz.prog := ⟨32, Tryz.f32, _, ⟨Tryz.func32, rfl, by kernel_rfl⟩, by kernel_rfl⟩
noncomputable def fe33 : FnE Tryz.prog := ⟨33, Tryz.f33, _, ⟨Tryz.func33, rfl, by kernel_rfl⟩, by kernel_rfl⟩
noncomputable def fe34 : FnE Tryz.prog := ⟨34, Tryz.f34, _, ⟨Tryz.func34, rfl, by kernel_rfl⟩, by kernel_rfl⟩
noncomputable def fe35 : FnE Tryz.prog := ⟨35, Tryz.f35, _, ⟨Tryz.func35, rfl, by kernel_rfl⟩, by kernel_rfl⟩
noncomputable def fe36 : FnE Tryz.prog := ⟨36, Tryz.f36, _, ⟨Tryz.func36, rfl, by kernel_rfl⟩, by kernel_rfl⟩
noncomputable def fe37 : FnE Tryz.prog := ⟨37, Tryz.f37, _, ⟨Tryz.func37, rfl, by kernel_rfl⟩, by kernel_rfl⟩
noncomputable def fe38 : FnE Tryz.prog := ⟨38, Tryz.f38, _, ⟨Tryz.func38, rfl, by kernel_rfl⟩, by kernel_rfl⟩
noncomputable def fe39 : FnE Tryz.prog := ⟨39, Tryz.f39, _, ⟨Tryz.func39, rfl, by kernel_rfl⟩, by kernel_rfl⟩
noncomputable def fe40 : FnE Tryz.prog := ⟨40, Tryz.f40, _, ⟨Tryz.func40, rfl, by kernel_rfl⟩, by kernel_rfl⟩
noncomputable def fe41 : FnE Tryz.prog := ⟨41, Tryz.f41, _, ⟨Tryz.func41, rfl, by kernel_rfl⟩, by kernel_rfl⟩
noncomputable def fe42 : FnE Tryz.prog := ⟨42, Tryz.f42, _, ⟨Tryz.func42, rfl, by kernel_rfl⟩, by kernel_rfl⟩
noncomputable def fe43 : FnE Tryz.prog := ⟨43, Tryz.f43, _, ⟨Tryz.func43, rfl, by kernel_rfl⟩, by kernel_rfl⟩
noncomputable def fe44 : FnE Tryz.prog := ⟨44, Tryz.f44, _, ⟨Tryz.func44, rfl, by kernel_rfl⟩, by kernel_rfl⟩
noncomputable def fe45 : FnE Tryz.prog := ⟨45, Tryz.f45, _, ⟨Tryz.func45, rfl, by kernel_rfl⟩, by kernel_rfl⟩
noncomputable def fe46 : FnE Tryz.prog := ⟨46, Tryz.f46, _, ⟨Tryz.func46, rfl, by kernel_rfl⟩, by kernel_rfl⟩
noncomputable def fe47 : FnE Tryz.prog := ⟨47, Tryz.f47, _, ⟨Tryz.func47, rfl, by kernel_rfl⟩, by kernel_rfl⟩
noncomputable def fe48 : FnE Tryz.prog := ⟨48, Tryz.f48, _, ⟨Tryz.func48, rfl, by kernel_rfl⟩, by kernel_rfl⟩
noncomputable def fe49 : FnE Tryz.prog := ⟨49, Tryz.f49, _, ⟨Tryz.func49, rfl, by kernel_rfl⟩, by kernel_rfl⟩
noncomputable def fe50 : FnE Tryz.prog := ⟨50, Tryz.f50, _, ⟨Tryz.func50, rfl, by kernel_rfl⟩, by kernel_rfl⟩
noncomputable def fe51 : FnE Tryz.prog := ⟨51, Tryz.f51, _, ⟨Tryz.func51, rfl, by kernel_rfl⟩, by kernel_rfl⟩
noncomputable def fe52 : FnE Tryz.prog := ⟨52, Tryz.f52, _, ⟨Tryz.func52, rfl, by kernel_rfl⟩, by kernel_rfl⟩
noncomputable def fe53 : FnE Tryz.prog := ⟨53, Tryz.f53, _, ⟨Tryz.func53, rfl, by kernel_rfl⟩, by kernel_rfl⟩
noncomputable def fe54 : FnE Tryz.prog := ⟨54, Tryz.f54, _, ⟨Tryz.func54, rfl, by kernel_rfl⟩, by kernel_rfl⟩
noncomputable def fe55 : FnE Tryz.prog := ⟨55, Tryz.f55, _, ⟨Tryz.func55, rfl, by kernel_rfl⟩, by kernel_rfl⟩
noncomputable def fe56 : FnE Tryz.prog := ⟨56, Tryz.f56, _, ⟨Tryz.func56, rfl, by kernel_rfl⟩, by kernel_rfl⟩
noncomputable def fe57 : FnE Tryz.prog := ⟨57, Tryz.f57, _, ⟨Tryz.func57, rfl, by kernel_rfl⟩, by kernel_rfl⟩
noncomputable def fe58 : FnE Tryz.prog := ⟨58, Tryz.f58, _, ⟨Tryz.func58, rfl, by kernel_rfl⟩, by kernel_rfl⟩
noncomputable def fe59 : FnE Tryz.prog := ⟨59, Tryz.f59, _, ⟨Tryz.func59, rfl, by kernel_rfl⟩, by kernel_rfl⟩
noncomputable def fe60 : FnE Tryz.prog := ⟨60, Tryz.f60, _, ⟨Tryz.func60, rfl, by kernel_rfl⟩, by kernel_rfl⟩
noncomputable def fe61 : FnE Tryz.prog := ⟨61, Tryz.f61, _, ⟨Tryz.func61, rfl, by kernel_rfl⟩, by kernel_rfl⟩
noncomputable def fe62 : FnE Tryz.prog := ⟨62, Tryz.f62, _, ⟨Tryz.func62, rfl, by kernel_rfl⟩, by kernel_rfl⟩
noncomputable def fe63 : FnE Tryz.prog := ⟨63, Tryz.f63, _, ⟨Tryz.func63, rfl, by kernel_rfl⟩, by kernel_rfl⟩
noncomputable def fe64 : FnE Tryz.prog := ⟨64, Tryz.f64, _, ⟨Tryz.func64, rfl, by kernel_rfl⟩, by kernel_rfl⟩
noncomputable def fe65 : FnE Tryz.prog := ⟨65, Tryz.f65, _, ⟨Tryz.func65, rfl, by kernel_rfl⟩, by kernel_rfl⟩
noncomputable def fe66 : FnE Tryz.prog := ⟨66, Tryz.f66, _, ⟨Tryz.func66, rfl, by kernel_rfl⟩, by kernel_rfl⟩
noncomputable def fe67 : FnE Tryz.prog := ⟨67, Tryz.f67, _, ⟨Tryz.func67, rfl, by kernel_rfl⟩, by kernel_rfl⟩
noncomputable def fe68 : FnE Tryz.prog := ⟨68, Tryz.f68, _, ⟨Tryz.func68, rfl, by kernel_rfl⟩, by kernel_rfl⟩
noncomputable def fe69 : FnE Tryz.prog := ⟨69, Tryz.f69, _, ⟨Tryz.func69, rfl, by kernel_rfl⟩, by kernel_rfl⟩
noncomputable def fe70 : FnE Tryz.prog := ⟨70, Tryz.f70, _, ⟨Tryz.func70, rfl, by kernel_rfl⟩, by kernel_rfl⟩
noncomputable def fe71 : FnE Tryz.prog := ⟨71, Tryz.f71, _, ⟨Tryz.func71, rfl, by kernel_rfl⟩, by kernel_rfl⟩
noncomputable def fe72 : FnE Tryz.prog := ⟨72, Tryz.f72, _, ⟨Tryz.func72, rfl, by kernel_rfl⟩, by kernel_rfl⟩
noncomputable def fe73 : FnE Tryz.prog := ⟨73, Tryz.f73, _, ⟨Tryz.func73, rfl, by kernel_rfl⟩, by kernel_rfl⟩
noncomputable def fe74 : FnE Tryz.prog := ⟨74, Tryz.f74, _, ⟨Tryz.func74, rfl, by kernel_rfl⟩, by kernel_rfl⟩
noncomputable def fe75 : FnE Tryz.prog := ⟨75, Tryz.f75, _, ⟨Tryz.func75, rfl, by kernel_rfl⟩, by kernel_rfl⟩
noncomputable def fe76 : FnE Tryz.prog := ⟨76, Tryz.f76, _, ⟨Tryz.func76, rfl, by kernel_rfl⟩, by kernel_rfl⟩
noncomputable def fe77 : FnE Tryz.prog := ⟨77, Tryz.f77, _, ⟨Tryz.func77, rfl, by kernel_rfl⟩, by kernel_rfl⟩
noncomputable def fe78 : FnE Tryz.prog := ⟨78, Tryz.f78, _, ⟨Tryz.func78, rfl, by kernel_rfl⟩, by kernel_rfl⟩
noncomputable def fe79 : FnE Tryz.prog := ⟨79, Tryz.f79, _, ⟨Tryz.func79, rfl, by kernel_rfl⟩, by kernel_rfl⟩
noncomputable def fe80 : FnE Tryz.prog := ⟨80, Tryz.f80, _, ⟨Tryz.func80, rfl, by kernel_rfl⟩, by kernel_rfl⟩
noncomputable def fe81 : FnE Tryz.prog := ⟨81, Tryz.f81, _, ⟨Tryz.func81, rfl, by kernel_rfl⟩, by kernel_rfl⟩
noncomputable def fe82 : FnE Tryz.prog := ⟨82, Tryz.f82, _, ⟨Tryz.func82, rfl, by kernel_rfl⟩, by kernel_rfl⟩
noncomputable def fe83 : FnE Tryz.prog := ⟨83, Tryz.f83, _, ⟨Tryz.func83, rfl, by kernel_rfl⟩, by kernel_rfl⟩
noncomputable def fe84 : FnE Tryz.prog := ⟨84, Tryz.f84, _, ⟨Tryz.func84, rfl, by kernel_rfl⟩, by kernel_rfl⟩
noncomputable def fe85 : FnE Tryz.prog := ⟨85, Tryz.f85, _, ⟨Tryz.func85, rfl, by kernel_rfl⟩, by kernel_rfl⟩
noncomputable def fe86 : FnE Tryz.prog := ⟨86, Tryz.f86, _, ⟨Tryz.func86, rfl, by kernel_rfl⟩, by kernel_rfl⟩
noncomputable def fe87 : FnE Tryz.prog := ⟨87, Tryz.f87, _, ⟨Tryz.func87, rfl, by kernel_rfl⟩, by kernel_rfl⟩
noncomputable def fe88 : FnE Tryz.prog := ⟨88, Tryz.f88, _, ⟨Tryz.func88, rfl, by kernel_rfl⟩, by kernel_rfl⟩
noncomputable def fe89 : FnE Tryz.prog := ⟨89, Tryz.f89, _, ⟨Tryz.func89, rfl, by kernel_rfl⟩, by kernel_rfl⟩
noncomputable def fe90 : FnE Tryz.prog := ⟨90, Tryz.f90, _, ⟨Tryz.func90, rfl, by kernel_rfl⟩, by kernel_rfl⟩
noncomputable def fe91 : FnE Tryz.prog := ⟨91, Tryz.f91, _, ⟨Tryz.func91, rfl, by kernel_rfl⟩, by kernel_rfl⟩
noncomputable def fe92 : FnE Tryz.prog := ⟨92, Tryz.f92, _, ⟨Tryz.func92, rfl, by kernel_rfl⟩, by kernel_rfl⟩
noncomputable def fe93 : FnE Tryz.prog := ⟨93, Tryz.f93, _, ⟨Tryz.func93, rfl, by kernel_rfl⟩, by kernel_rfl⟩
noncomputable def fe94 : FnE Tryz.prog := ⟨94, Tryz.f94, _, ⟨Tryz.func94, rfl, by kernel_rfl⟩, by kernel_rfl⟩
noncomputable def fe95 : FnE Tryz.prog := ⟨95, Tryz.f95, _, ⟨Tryz.func95, rfl, by kernel_rfl⟩, by kernel_rfl⟩
noncomputable def fe96 : FnE Tryz.prog := ⟨96, Tryz.f96, _, ⟨Tryz.func96, rfl, by kernel_rfl⟩, by kernel_rfl⟩
noncomputable def fe97 : FnE Tryz.prog := ⟨97, Tryz.f97, _, ⟨Tryz.func97, rfl, by kernel_rfl⟩, by kernel_rfl⟩
noncomputable def fe98 : FnE Tryz.prog := ⟨98, Tryz.f98, _, ⟨Tryz.func98, rfl, by kernel_rfl⟩, by kernel_rfl⟩
noncomputable def fe99 : FnE Tryz.prog := ⟨99, Tryz.f99, _, ⟨Tryz.func99, rfl, by kernel_rfl⟩, by kernel_rfl⟩
noncomputable def fe100 : FnE Tryz.prog := ⟨100, Tryz.f100, _, ⟨Tryz.func100, rfl, by kernel_rfl⟩, by kernel_rfl⟩
noncomputable def fe101 : FnE Tryz.prog := ⟨101, Tryz.f101, _, ⟨Tryz.func101, rfl, by kernel_rfl⟩, by kernel_rfl⟩
noncomputable def fe102 : FnE Tryz.prog := ⟨102, Tryz.f102, _, ⟨Tryz.func102, rfl, by kernel_rfl⟩, by kernel_rfl⟩
noncomputable def fe103 : FnE Tryz.prog := ⟨103, Tryz.f103, _, ⟨Tryz.func103, rfl, by kernel_rfl⟩, by kernel_rfl⟩
noncomputable def fe104 : FnE Tryz.prog := ⟨104, Tryz.f104, _, ⟨Tryz.func104, rfl, by kernel_rfl⟩, by kernel_rfl⟩
noncomputable def fe105 : FnE Tryz.prog := ⟨105, Tryz.f105, _, ⟨Tryz.func105, rfl, by kernel_rfl⟩, by kernel_rfl⟩
noncomputable def fe106 : FnE Tryz.prog := ⟨106, Tryz.f106, _, ⟨Tryz.func106, rfl, by kernel_rfl⟩, by kernel_rfl⟩
noncomputable def fe107 : FnE Tryz.prog := ⟨107, Tryz.f107, _, ⟨Tryz.func107, rfl, by kernel_rfl⟩, by kernel_rfl⟩
noncomputable def fe108 : FnE Tryz.prog := ⟨108, Tryz.f108, _, ⟨Tryz.func108, rfl, by kernel_rfl⟩, by kernel_rfl⟩
noncomputable def fe109 : FnE Tryz.prog := ⟨109, Tryz.f109, _, ⟨Tryz.func109, rfl, by kernel_rfl⟩, by kernel_rfl⟩
noncomputable def fe110 : FnE Tryz.prog := ⟨110, Tryz.f110, _, ⟨Tryz.func110, rfl, by kernel_rfl⟩, by kernel_rfl⟩
noncomputable def fe111 : FnE Tryz.prog := ⟨111, Tryz.f111, _, ⟨Tryz.func111, rfl, by kernel_rfl⟩, by kernel_rfl⟩
noncomputable def fe112 : FnE Tryz.prog := ⟨112, Tryz.f112, _, ⟨Tryz.func112, rfl, by kernel_rfl⟩, by kernel_rfl⟩
noncomputable def fe113 : FnE Tryz.prog := ⟨113, Tryz.f113, _, ⟨Tryz.func113, rfl, by kernel_rfl⟩, by kernel_rfl⟩
noncomputable def fe114 : FnE Tryz.prog := ⟨114, Tryz.f114, _, ⟨Tryz.func114, rfl, by kernel_rfl⟩, by kernel_rfl⟩
noncomputable def fe115 : FnE Tryz.prog := ⟨115, Tryz.f115, _, ⟨Tryz.func115, rfl, by kernel_rfl⟩, by kernel_rfl⟩
noncomputable def fe116 : FnE Tryz.prog := ⟨116, Tryz.f116, _, ⟨Tryz.func116, rfl, by kernel_rfl⟩, by kernel_rfl⟩
noncomputable def fe117 : FnE Tryz.prog := ⟨117, Tryz.f117, _, ⟨Tryz.func117, rfl, by kernel_rfl⟩, by kernel_rfl⟩
noncomputable def fe118 : FnE Tryz.prog := ⟨118, Tryz.f118, _, ⟨Tryz.func118, rfl, by kernel_rfl⟩, by kernel_rfl⟩
noncomputable def fe119 : FnE Tryz.prog := ⟨119, Tryz.f119, _, ⟨Tryz.func119, rfl, by kernel_rfl⟩, by kernel_rfl⟩
noncomputable def fe120 : FnE Tryz.prog := ⟨120, Tryz.f120, _, ⟨Tryz.func120, rfl, by kernel_rfl⟩, by kernel_rfl⟩
noncomputable def fe121 : FnE Tryz.prog := ⟨121, Tryz.f121, _, ⟨Tryz.func121, rfl, by kernel_rfl⟩, by kernel_rfl⟩
noncomputable def fe122 : FnE Tryz.prog := ⟨122, Tryz.f122, _, ⟨Tryz.func122, rfl, by kernel_rfl⟩, by kernel_rfl⟩
noncomputable def fe123 : FnE Tryz.prog := ⟨123, Tryz.f123, _, ⟨Tryz.func123, rfl, by kernel_rfl⟩, by kernel_rfl⟩
noncomputable def fe124 : FnE Tryz.prog := ⟨124, Tryz.f124, _, ⟨Tryz.func124, rfl, by kernel_rfl⟩, by kernel_rfl⟩
noncomputable def fe125 : FnE Tryz.prog := ⟨125, Tryz.f125, _, ⟨Tryz.func125, rfl, by kernel_rfl⟩, by kernel_rfl⟩
noncomputable def fe126 : FnE Tryz.prog := ⟨126, Tryz.f126, _, ⟨Tryz.func126, rfl, by kernel_rfl⟩, by kernel_rfl⟩
noncomputable def fe127 : FnE Tryz.prog := ⟨127, Tryz.f127, _, ⟨Tryz.func127, rfl, by kernel_rfl⟩, by kernel_rfl⟩
noncomputable def fe128 : FnE Tryz.prog := ⟨128, Tryz.f128, _, ⟨Tryz.func128, rfl, by kernel_rfl⟩, by kernel_rfl⟩
noncomputable def fe129 : FnE Tryz.prog := ⟨129, Tryz.f129, _, ⟨Tryz.func129, rfl, by kernel_rfl⟩, by kernel_rfl⟩
noncomputable def fe130 : FnE Tryz.prog := ⟨130, Tryz.f130, _, ⟨Tryz.func130, rfl, by kernel_rfl⟩, by kernel_rfl⟩
noncomputable def fe131 : FnE Tryz.prog := ⟨131, Tryz.f131, _, ⟨Tryz.func131, rfl, by kernel_rfl⟩, by kernel_rfl⟩
noncomputable def fe132 : FnE Tryz.prog := ⟨132, Tryz.f132, _, ⟨Tryz.func132, rfl, by kernel_rfl⟩, by kernel_rfl⟩
noncomputable def fe133 : FnE Tryz.prog := ⟨133, Tryz.f133, _, ⟨Tryz.func133, rfl, by kernel_rfl⟩, by kernel_rfl⟩
noncomputable def fe134 : FnE Tryz.prog := ⟨134, Tryz.f134, _, ⟨Tryz.func134, rfl, by kernel_rfl⟩, by kernel_rfl⟩
noncomputable def fe135 : FnE Tryz.prog := ⟨135, Tryz.f135, _, ⟨Tryz.func135, rfl, by kernel_rfl⟩, by kernel_rfl⟩
noncomputable def fe136 : FnE Tryz.prog := ⟨136, Tryz.f136, _, ⟨Tryz.func136, rfl, by kernel_rfl⟩, by kernel_rfl⟩
noncomputable def fe137 : FnE Tryz.prog := ⟨137, Tryz.f137, _, ⟨Tryz.func137, rfl, by kernel_rfl⟩, by kernel_rfl⟩
noncomputable def fe138 : FnE Tryz.prog := ⟨138, Tryz.f138, _, ⟨Tryz.func138, rfl, by kernel_rfl⟩, by kernel_rfl⟩
noncomputable def fe139 : FnE Tryz.prog := ⟨139, Tryz.f139, _, ⟨Tryz.func139, rfl, by kernel_rfl⟩, by kernel_rfl⟩
noncomputable def fe140 : FnE Tryz.prog := ⟨140, Tryz.f140, _, ⟨Tryz.func140, rfl, by kernel_rfl⟩, by kernel_rfl⟩
noncomputable def fe141 : FnE Tryz.prog := ⟨141, Tryz.f141, _, ⟨Tryz.func141, rfl, by kernel_rfl⟩, by kernel_rfl⟩
noncomputable def fe142 : FnE Tryz.prog := ⟨142, Tryz.f142, _, ⟨Tryz.func142, rfl, by kernel_rfl⟩, by kernel_rfl⟩
noncomputable def fe143 : FnE Tryz.prog := ⟨143, Tryz.f143, _, ⟨Tryz.func143, rfl, by kernel_rfl⟩, by kernel_rfl⟩
noncomputable def fe144 : FnE Tryz.prog := ⟨144, Tryz.f144, _, ⟨Tryz.func144, rfl, by kernel_rfl⟩, by kernel_rfl⟩
noncomputable def fe145 : FnE Tryz.prog := ⟨145, Tryz.f145, _, ⟨Tryz.func145, rfl, by kernel_rfl⟩, by kernel_rfl⟩
noncomputable def fe146 : FnE Tryz.prog := ⟨146, Tryz.f146, _, ⟨Tryz.func146, rfl, by kernel_rfl⟩, by kernel_rfl⟩
noncomputable def fe147 : FnE Tryz.prog := ⟨147, Tryz.f147, _, ⟨Tryz.func147, rfl, by kernel_rfl⟩, by kernel_rfl⟩
noncomputable def fe148 : FnE Tryz.prog := ⟨148, Tryz.f148, _, ⟨Tryz.func148, rfl, by kernel_rfl⟩, by kernel_rfl⟩
noncomputable def fe149 : FnE Tryz.prog := ⟨149, Tryz.f149, _, ⟨Tryz.func149, rfl, by kernel_rfl⟩, by kernel_rfl⟩
noncomputable def fe150 : FnE Tryz.prog := ⟨150, Tryz.f150, _, ⟨Tryz.func150, rfl, by kernel_rfl⟩, by kernel_rfl⟩
noncomputable def fe151 : FnE Tryz.prog := ⟨151, Tryz.f151, _, ⟨Tryz.func151, rfl, by kernel_rfl⟩, by kernel_rfl⟩
noncomputable def fe152 : FnE Tryz.prog := ⟨152, Tryz.f152, _, ⟨Tryz.func152, rfl, by kernel_rfl⟩, by kernel_rfl⟩
noncomputable def fe153 : FnE Tryz.prog := ⟨153, Tryz.f153, _, ⟨Tryz.func153, rfl, by kernel_rfl⟩, by kernel_rfl⟩
noncomputable def fe154 : FnE Tryz.prog := ⟨154, Tryz.f154, _, ⟨Tryz.func154, rfl, by kernel_rfl⟩, by kernel_rfl⟩
noncomputable def fe155 : FnE Tryz.prog := ⟨155, Tryz.f155, _, ⟨Tryz.func155, rfl, by kernel_rfl⟩, by kernel_rfl⟩
noncomputable def fe156 : FnE Tryz.prog := ⟨156, Tryz.f156, _, ⟨Tryz.func156, rfl, by kernel_rfl⟩, by kernel_rfl⟩
noncomputable def fe157 : FnE Tryz.prog := ⟨157, Tryz.f157, _, ⟨Tryz.func157, rfl, by kernel_rfl⟩, by kernel_rfl⟩
noncomputable def fe158 : FnE Tryz.prog := ⟨158, Tryz.f158, _, ⟨Tryz.func158, rfl, by kernel_rfl⟩, by kernel_rfl⟩
noncomputable def fe159 : FnE Tryz.prog := ⟨159, Tryz.f159, _, ⟨Tryz.func159, rfl, by kernel_rfl⟩, by kernel_rfl⟩
noncomputable def fe160 : FnE Tryz.prog := ⟨160, Tryz.f160, _, ⟨Tryz.func160, rfl, by kernel_rfl⟩, by kernel_rfl⟩
noncomputable def fe161 : FnE Tryz.prog := ⟨161, Tryz.f161, _, ⟨Tryz.func161, rfl, by kernel_rfl⟩, by kernel_rfl⟩
noncomputable def fe162 : FnE Tryz.prog := ⟨162, Tryz.f162, _, ⟨Tryz.func162, rfl, by kernel_rfl⟩, by kernel_rfl⟩
noncomputable def fe163 : FnE Tryz.prog := ⟨163, Tryz.f163, _, ⟨Tryz.func163, rfl, by kernel_rfl⟩, by kernel_rfl⟩
noncomputable def fe164 : FnE Tryz.prog := ⟨164, Tryz.f164, _, ⟨Tryz.func164, rfl, by kernel_rfl⟩, by kernel_rfl⟩
noncomputable def fe165 : FnE Tryz.prog := ⟨165, Tryz.f165, _, ⟨Tryz.func165, rfl, by kernel_rfl⟩, by kernel_rfl⟩
noncomputable def fe166 : FnE Tryz.prog := ⟨166, Tryz.f166, _, ⟨Tryz.func166, rfl, by kernel_rfl⟩, by kernel_rfl⟩
noncomputable def fe167 : FnE Tryz.prog := ⟨167, Tryz.f167, _, ⟨Tryz.func167, rfl, by kernel_rfl⟩, by kernel_rfl⟩
noncomputable def fe168 : FnE Tryz.prog := ⟨168, Tryz.f168, _, ⟨Tryz.func168, rfl, by kernel_rfl⟩, by kernel_rfl⟩
noncomputable def fe169 : FnE Tryz.prog := ⟨169, Tryz.f169, _, ⟨Tryz.func169, rfl, by kernel_rfl⟩, by kernel_rfl⟩
noncomputable def fe170 : FnE Tryz.prog := ⟨170, Tryz.f170, _, ⟨Tryz.func170, rfl, by kernel_rfl⟩, by kernel_rfl⟩
noncomputable def fe171 : FnE Tryz.prog := ⟨171, Tryz.f171, _, ⟨Tryz.func171, rfl, by kernel_rfl⟩, by kernel_rfl⟩
noncomputable def fe172 : FnE Tryz.prog := ⟨172, Tryz.f172, _, ⟨Tryz.func172, rfl, by kernel_rfl⟩, by kernel_rfl⟩
noncomputable def fe173 : FnE Tryz.prog := ⟨173, Tryz.f173, _, ⟨Tryz.func173, rfl, by kernel_rfl⟩, by kernel_rfl⟩
noncomputable def fe174 : FnE Tryz.prog := ⟨174, Tryz.f174, _, ⟨Tryz.func174, rfl, by kernel_rfl⟩, by kernel_rfl⟩
noncomputable def fe175 : FnE Tryz.prog := ⟨175, Tryz.f175, _, ⟨Tryz.func175, rfl, by kernel_rfl⟩, by kernel_rfl⟩
noncomputable def fe176 : FnE Tryz.prog := ⟨176, Tryz.f176, _, ⟨Tryz.func176, rfl, by kernel_rfl⟩, by kernel_rfl⟩
noncomputable def fe177 : FnE Tryz.prog := ⟨177, Tryz.f177, _, ⟨Tryz.func177, rfl, by kernel_rfl⟩, by kernel_rfl⟩
noncomputable def fe178 : FnE Tryz.prog := ⟨178, Tryz.f178, _, ⟨Tryz.func178, rfl, by kernel_rfl⟩, by kernel_rfl⟩
noncomputable def fe179 : FnE Tryz.prog := ⟨179, Tryz.f179, _, ⟨Tryz.func179, rfl, by kernel_rfl⟩, by kernel_rfl⟩
noncomputable def fe180 : FnE Tryz.prog := ⟨180, Tryz.f180, _, ⟨Tryz.func180, rfl, by kernel_rfl⟩, by kernel_rfl⟩
noncomputable def fe181 : FnE Tryz.prog := ⟨181, Tryz.f181, _, ⟨Tryz.func181, rfl, by kernel_rfl⟩, by kernel_rfl⟩
noncomputable def fe182 : FnE Tryz.prog := ⟨182, Tryz.f182, _, ⟨Tryz.func182, rfl, by kernel_rfl⟩, by kernel_rfl⟩
noncomputable def fe183 : FnE Tryz.prog := ⟨183, Tryz.f183, _, ⟨Tryz.func183, rfl, by kernel_rfl⟩, by kernel_rfl⟩
noncomputable def fe184 : FnE Tryz.prog := ⟨184, Tryz.f184, _, ⟨Tryz.func184, rfl, by kernel_rfl⟩, by kernel_rfl⟩
noncomputable def fe185 : FnE Tryz.prog := ⟨185, Tryz.f185, _, ⟨Tryz.func185, rfl, by kernel_rfl⟩, by kernel_rfl⟩
noncomputable def fe186 : FnE Tryz.prog := ⟨186, Tryz.f186, _, ⟨Tryz.func186, rfl, by kernel_rfl⟩, by kernel_rfl⟩
noncomputable def fe187 : FnE Tryz.prog := ⟨187, Tryz.f187, _, ⟨Tryz.func187, rfl, by kernel_rfl⟩, by kernel_rfl⟩
noncomputable def fe188 : FnE Tryz.prog := ⟨188, Tryz.f188, _, ⟨Tryz.func188, rfl, by kernel_rfl⟩, by kernel_rfl⟩
noncomputable def fe189 : FnE Tryz.prog := ⟨189, Tryz.f189, _, ⟨Tryz.func189, rfl, by kernel_rfl⟩, by kernel_rfl⟩
noncomputable def fe190 : FnE Tryz.prog := ⟨190, Tryz.f190, _, ⟨Tryz.func190, rfl, by kernel_rfl⟩, by kernel_rfl⟩
noncomputable def fe191 : FnE Tryz.prog := ⟨191, Tryz.f191, _, ⟨Tryz.func191, rfl, by kernel_rfl⟩, by kernel_rfl⟩
noncomputable def fe192 : FnE Tryz.prog := ⟨192, Tryz.f192, _, ⟨Tryz.func192, rfl, by kernel_rfl⟩, by kernel_rfl⟩
noncomputable def fe193 : FnE Tryz.prog := ⟨193, Tryz.f193, _, ⟨Tryz.func193, rfl, by kernel_rfl⟩, by kernel_rfl⟩
noncomputable def fe194 : FnE Tryz.prog := ⟨194, Tryz.f194, _, ⟨Tryz.func194, rfl, by kernel_rfl⟩, by kernel_rfl⟩
noncomputable def fe195 : FnE Tryz.prog := ⟨195, Tryz.f195, _, ⟨Tryz.func195, rfl, by kernel_rfl⟩, by kernel_rfl⟩
noncomputable def fe196 : FnE Tryz.prog := ⟨196, Tryz.f196, _, ⟨Tryz.func196, rfl, by kernel_rfl⟩, by kernel_rfl⟩
noncomputable def fe197 : FnE Tryz.prog := ⟨197, Tryz.f197, _, ⟨Tryz.func197, rfl, by kernel_rfl⟩, by kernel_rfl⟩
noncomputable def fe198 : FnE Tryz.prog := ⟨198, Tryz.f198, _, ⟨Tryz.func198, rfl, by kernel_rfl⟩, by kernel_rfl⟩
noncomputable def fe199 : FnE Tryz.prog := ⟨199, Tryz.f199, _, ⟨Tryz.func199, rfl, by kernel_rfl⟩, by kernel_rfl⟩
noncomputable def fe200 : FnE Tryz.prog := ⟨200, Tryz.f200, _, ⟨Tryz.func200, rfl, by kernel_rfl⟩, by kernel_rfl⟩
noncomputable def fe201 : FnE Tryz.prog := ⟨201, Tryz.f201, _, ⟨Tryz.func201, rfl, by kernel_rfl⟩, by kernel_rfl⟩
noncomputable def fe202 : FnE Tryz.prog := ⟨202, Tryz.f202, _, ⟨Tryz.func202, rfl, by kernel_rfl⟩, by kernel_rfl⟩
noncomputable def fe203 : FnE Tryz.prog := ⟨203, Tryz.f203, _, ⟨Tryz.func203, rfl, by kernel_rfl⟩, by kernel_rfl⟩
noncomputable def fe204 : FnE Tryz.prog := ⟨204, Tryz.f204, _, ⟨Tryz.func204, rfl, by kernel_rfl⟩, by kernel_rfl⟩
noncomputable def fe205 : FnE Tryz.prog := ⟨205, Tryz.f205, _, ⟨Tryz.func205, rfl, by kernel_rfl⟩, by kernel_rfl⟩
noncomputable def fe206 : FnE Tryz.prog := ⟨206, Tryz.f206, _, ⟨Tryz.func206, rfl, by kernel_rfl⟩, by kernel_rfl⟩
noncomputable def fe207 : FnE Tryz.prog := ⟨207, Tryz.f207, _, ⟨Tryz.func207, rfl, by kernel_rfl⟩, by kernel_rfl⟩
noncomputable def fe208 : FnE Tryz.prog := ⟨208, Tryz.f208, _, ⟨Tryz.func208, rfl, by kernel_rfl⟩, by kernel_rfl⟩
noncomputable def fe209 : FnE Tryz.prog := ⟨209, Tryz.f209, _, ⟨Tryz.func209, rfl, by kernel_rfl⟩, by kernel_rfl⟩
noncomputable def fe210 : FnE Tryz.prog := ⟨210, Tryz.f210, _, ⟨Tryz.func210, rfl, by kernel_rfl⟩, by kernel_rfl⟩
noncomputable def fe211 : FnE Tryz.prog := ⟨211, Tryz.f211, _, ⟨Tryz.func211, rfl, by kernel_rfl⟩, by kernel_rfl⟩
noncomputable def fe212 : FnE Tryz.prog := ⟨212, Tryz.f212, _, ⟨Tryz.func212, rfl, by kernel_rfl⟩, by kernel_rfl⟩
noncomputable def fe213 : FnE Tryz.prog := ⟨213, Tryz.f213, _, ⟨Tryz.func213, rfl, by kernel_rfl⟩, by kernel_rfl⟩
noncomputable def fe214 : FnE Tryz.prog := ⟨214, Tryz.f214, _, ⟨Tryz.func214, rfl, by kernel_rfl⟩, by kernel_rfl⟩
noncomputable def fe215 : FnE Tryz.prog := ⟨215, Tryz.f215, _, ⟨Tryz.func215, rfl, by kernel_rfl⟩, by kernel_rfl⟩
noncomputable def fe216 : FnE Tryz.prog := ⟨216, Tryz.f216, _, ⟨Tryz.func216, rfl, by kernel_rfl⟩, by kernel_rfl⟩
noncomputable def fe217 : FnE Tryz.prog := ⟨217, Tryz.f217, _, ⟨Tryz.func217, rfl, by kernel_rfl⟩, by kernel_rfl⟩
noncomputable def fe218 : FnE Tryz.prog := ⟨218, Tryz.f218, _, ⟨Tryz.func218, rfl, by kernel_rfl⟩, by kernel_rfl⟩
noncomputable def fe219 : FnE Tryz.prog := ⟨219, Tryz.f219, _, ⟨Tryz.func219, rfl, by kernel_rfl⟩, by kernel_rfl⟩
noncomputable def fe220 : FnE Tryz.prog := ⟨220, Tryz.f220, _, ⟨Tryz.func220, rfl, by kernel_rfl⟩, by kernel_rfl⟩
noncomputable def fe221 : FnE Tryz.prog := ⟨221, Tryz.f221, _, ⟨Tryz.func221, rfl, by kernel_rfl⟩, by kernel_rfl⟩
noncomputable def fe222 : FnE Tryz.prog := ⟨222, Tryz.f222, _, ⟨Tryz.func222, rfl, by kernel_rfl⟩, by kernel_rfl⟩
noncomputable def fe223 : FnE Tryz.prog := ⟨223, Tryz.f223, _, ⟨Tryz.func223, rfl, by kernel_rfl⟩, by kernel_rfl⟩
noncomputable def fe224 : FnE Tryz.prog := ⟨224, Tryz.f224, _, ⟨Tryz.func224, rfl, by kernel_rfl⟩, by kernel_rfl⟩
noncomputable def fe225 : FnE Tryz.prog := ⟨225, Tryz.f225, _, ⟨Tryz.func225, rfl, by kernel_rfl⟩, by kernel_rfl⟩
noncomputable def fe226 : FnE Tryz.prog := ⟨226, Tryz.f226, _, ⟨Tryz.func226, rfl, by kernel_rfl⟩, by kernel_rfl⟩
noncomputable def fe227 : FnE Tryz.prog := ⟨227, Tryz.f227, _, ⟨Tryz.func227, rfl, by kernel_rfl⟩, by kernel_rfl⟩
noncomputable def fe228 : FnE Tryz.prog := ⟨228, Tryz.f228, _, ⟨Tryz.func228, rfl, by kernel_rfl⟩, by kernel_rfl⟩
noncomputable def fe229 : FnE Tryz.prog := ⟨229, Tryz.f229, _, ⟨Tryz.func229, rfl, by kernel_rfl⟩, by kernel_rfl⟩
noncomputable def fe230 : FnE Tryz.prog := ⟨230, Tryz.f230, _, ⟨Tryz.func230, rfl, by kernel_rfl⟩, by kernel_rfl⟩
noncomputable def fe231 : FnE Tryz.prog := ⟨231, Tryz.f231, _, ⟨Tryz.func231, rfl, by kernel_rfl⟩, by kernel_rfl⟩
noncomputable def fe232 : FnE Tryz.prog := ⟨232, Tryz.f232, _, ⟨Tryz.func232, rfl, by kernel_rfl⟩, by kernel_rfl⟩
noncomputable def fe233 : FnE Tryz.prog := ⟨233, Tryz.f233, _, ⟨Tryz.func233, rfl, by kernel_rfl⟩, by kernel_rfl⟩
noncomputable def fe234 : FnE Tryz.prog := ⟨234, Tryz.f234, _, ⟨Tryz.func234, rfl, by kernel_rfl⟩, by kernel_rfl⟩
noncomputable def fe235 : FnE Tryz.prog := ⟨235, Tryz.f235, _, ⟨Tryz.func235, rfl, by kernel_rfl⟩, by kernel_rfl⟩
noncomputable def fe236 : FnE Tryz.prog := ⟨236, Tryz.f236, _, ⟨Tryz.func236, rfl, by kernel_rfl⟩, by kernel_rfl⟩
noncomputable def fe237 : FnE Tryz.prog := ⟨237, Tryz.f237, _, ⟨Tryz.func237, rfl, by kernel_rfl⟩, by kernel_rfl⟩
noncomputable def fe238 : FnE Tryz.prog := ⟨238, Tryz.f238, _, ⟨Tryz.func238, rfl, by kernel_rfl⟩, by kernel_rfl⟩
noncomputable def fe239 : FnE Tryz.prog := ⟨239, Tryz.f239, _, ⟨Tryz.func239, rfl, by kernel_rfl⟩, by kernel_rfl⟩
noncomputable def fe240 : FnE Tryz.prog := ⟨240, Tryz.f240, _, ⟨Tryz.func240, rfl, by kernel_rfl⟩, by kernel_rfl⟩
noncomputable def fe241 : FnE Tryz.prog := ⟨241, Tryz.f241, _, ⟨Tryz.func241, rfl, by kernel_rfl⟩, by kernel_rfl⟩
noncomputable def fe242 : FnE Tryz.prog := ⟨242, Tryz.f242, _, ⟨Tryz.func242, rfl, by kernel_rfl⟩, by kernel_rfl⟩
noncomputable def fe243 : FnE Tryz.prog := ⟨243, Tryz.f243, _, ⟨Tryz.func243, rfl, by kernel_rfl⟩, by kernel_rfl⟩
noncomputable def fe244 : FnE Tryz.prog := ⟨244, Tryz.f244, _, ⟨Tryz.func244, rfl, by kernel_rfl⟩, by kernel_rfl⟩
noncomputable def fe245 : FnE Tryz.prog := ⟨245, Tryz.f245, _, ⟨Tryz.func245, rfl, by kernel_rfl⟩, by kernel_rfl⟩
noncomputable def fe246 : FnE Tryz.prog := ⟨246, Tryz.f246, _, ⟨Tryz.func246, rfl, by kernel_rfl⟩, by kernel_rfl⟩
noncomputable def fe247 : FnE Tryz.prog := ⟨247, Tryz.f247, _, ⟨Tryz.func247, rfl, by kernel_rfl⟩, by kernel_rfl⟩
noncomputable def fe249 : FnE Tryz.prog := ⟨249, Tryz.f249, _, ⟨Tryz.func249, rfl, by kernel_rfl⟩, by kernel_rfl⟩
noncomputable def fe250 : FnE Tryz.prog := ⟨250, Tryz.f250, _, ⟨Tryz.func250, rfl, by kernel_rfl⟩, by kernel_rfl⟩
noncomputable def fe251 : FnE Tryz.prog := ⟨251, Tryz.f251, _, ⟨Tryz.func251, rfl, by kernel_rfl⟩, by kernel_rfl⟩
noncomputable def fe252 : FnE Tryz.prog := ⟨252, Tryz.f252, _, ⟨Tryz.func252, rfl, by kernel_rfl⟩, by kernel_rfl⟩
noncomputable def fe253 : FnE Tryz.prog := ⟨253, Tryz.f253, _, ⟨Tryz.func253, rfl, by kernel_rfl⟩, by kernel_rfl⟩
noncomputable def fe254 : FnE Tryz.prog := ⟨254, Tryz.f254, _, ⟨Tryz.func254, rfl, by kernel_rfl⟩, by kernel_rfl⟩
noncomputable def fe255 : FnE Tryz.prog := ⟨255, Tryz.f255, _, ⟨Tryz.func255, rfl, by kernel_rfl⟩, by kernel_rfl⟩
noncomputable def fe256 : FnE Tryz.prog := ⟨256, Tryz.f256, _, ⟨Tryz.func256, rfl, by kernel_rfl⟩, by kernel_rfl⟩
noncomputable def fe257 : FnE Tryz.prog := ⟨257, Tryz.f257, _, ⟨Tryz.func257, rfl, by kernel_rfl⟩, by kernel_rfl⟩
noncomputable def fe258 : FnE Tryz.prog := ⟨258, Tryz.f258, _, ⟨Tryz.func258, rfl, by kernel_rfl⟩, by kernel_rfl⟩
noncomputable def fe259 : FnE Tryz.prog := ⟨259, Tryz.f259, _, ⟨Tryz.func259, rfl, by kernel_rfl⟩, by kernel_rfl⟩
noncomputable def fe260 : FnE Tryz.prog := ⟨260, Tryz.f260, _, ⟨Tryz.func260, rfl, by kernel_rfl⟩, by kernel_rfl⟩
noncomputable def fe261 : FnE Tryz.prog := ⟨261, Tryz.f261, _, ⟨Tryz.func261, rfl, by kernel_rfl⟩, by kernel_rfl⟩
noncomputable def fe264 : FnE Tryz.prog := ⟨264, Tryz.f264, _, ⟨Tryz.func264, rfl, by kernel_rfl⟩, by kernel_rfl⟩
noncomputable def fe265 : FnE Tryz.prog := ⟨265, Tryz.f265, _, ⟨Tryz.func265, rfl, by kernel_rfl⟩, by kernel_rfl⟩
noncomputable def fe266 : FnE Tryz.prog := ⟨266, Tryz.f266, _, ⟨Tryz.func266, rfl, by kernel_rfl⟩, by kernel_rfl⟩
noncomputable def fe268 : FnE Tryz.prog := ⟨268, Tryz.f268, _, ⟨Tryz.func268, rfl, by kernel_rfl⟩, by kernel_rfl⟩
noncomputable def fe270 : FnE Tryz.prog := ⟨270, Tryz.f270, _, ⟨Tryz.func270, rfl, by kernel_rfl⟩, by kernel_rfl⟩
noncomputable def fe271 : FnE Tryz.prog := ⟨271, Tryz.f271, _, ⟨Tryz.func271, rfl, by kernel_rfl⟩, by kernel_rfl⟩
noncomputable def fe272 : FnE Tryz.prog := ⟨272, Tryz.f272, _, ⟨Tryz.func272, rfl, by kernel_rfl⟩, by kernel_rfl⟩
noncomputable def fe273 : FnE Tryz.prog := ⟨273, Tryz.f273, _, ⟨Tryz.func273, rfl, by kernel_rfl⟩, by kernel_rfl⟩
noncomputable def fe274 : FnE Tryz.prog := ⟨274, Tryz.f274, _, ⟨Tryz.func274, rfl, by kernel_rfl⟩, by kernel_rfl⟩
noncomputable def fe275 : FnE Tryz.prog := ⟨275, Tryz.f275, _, ⟨Tryz.func275, rfl, by kernel_rfl⟩, by kernel_rfl⟩
noncomputable def fe276 : FnE Tryz.prog := ⟨276, Tryz.f276, _, ⟨Tryz.func276, rfl, by kernel_rfl⟩, by kernel_rfl⟩
noncomputable def fe277 : FnE Tryz.prog := ⟨277, Tryz.f277, _, ⟨Tryz.func277, rfl, by kernel_rfl⟩, by kernel_rfl⟩
noncomputable def fe278 : FnE Tryz.prog := ⟨278, Tryz.f278, _, ⟨Tryz.func278, rfl, by kernel_rfl⟩, by kernel_rfl⟩
noncomputable def fe279 : FnE Tryz.prog := ⟨279, Tryz.f279, _, ⟨Tryz.func279, rfl, by kernel_rfl⟩, by kernel_rfl⟩
noncomputable def fe280 : FnE Tryz.prog := ⟨280, Tryz.f280, _, ⟨Tryz.func280, rfl, by kernel_rfl⟩, by kernel_rfl⟩
noncomputable def fe282 : FnE Tryz.prog := ⟨282, Tryz.f282, _, ⟨Tryz.func282, rfl, by kernel_rfl⟩, by kernel_rfl⟩
noncomputable def fe283 : FnE Tryz.prog := ⟨283, Tryz.f283, _, ⟨Tryz.func283, rfl, by kernel_rfl⟩, by kernel_rfl⟩
noncomputable def fe284 : FnE Tryz.prog := ⟨284, Tryz.f284, _, ⟨Tryz.func284, rfl, by kernel_rfl⟩, by kernel_rfl⟩
noncomputable def fe285 : FnE Tryz.prog := ⟨285, Tryz.f285, _, ⟨Tryz.func285, rfl, by kernel_rfl⟩, by kernel_rfl⟩
noncomputable def fe286 : FnE Tryz.prog := ⟨286, Tryz.f286, _, ⟨Tryz.func286, rfl, by kernel_rfl⟩, by kernel_rfl⟩
noncomputable def fe288 : FnE Tryz.prog := ⟨288, Tryz.f288, _, ⟨Tryz.func288, rfl, by kernel_rfl⟩, by kernel_rfl⟩
noncomputable def fe289 : FnE Tryz.prog := ⟨289, Tryz.f289, _, ⟨Tryz.func289, rfl, by kernel_rfl⟩, by kernel_rfl⟩
noncomputable def fe290 : FnE Tryz.prog := ⟨290, Tryz.f290, _, ⟨Tryz.func290, rfl, by kernel_rfl⟩, by kernel_rfl⟩
noncomputable def fe291 : FnE Tryz.prog := ⟨291, Tryz.f291, _, ⟨Tryz.func291, rfl, by kernel_rfl⟩, by kernel_rfl⟩
noncomputable def fe292 : FnE Tryz.prog := ⟨292, Tryz.f292, _, ⟨Tryz.func292, rfl, by kernel_rfl⟩, by kernel_rfl⟩
noncomputable def fe293 : FnE Tryz.prog := ⟨293, Tryz.f293, _, ⟨Tryz.func293, rfl, by kernel_rfl⟩, by kernel_rfl⟩
noncomputable def fe294 : FnE Tryz.prog := ⟨294, Tryz.f294, _, ⟨Tryz.func294, rfl, by kernel_rfl⟩, by kernel_rfl⟩
noncomputable def fe295 : FnE Tryz.prog := ⟨295, Tryz.f295, _, ⟨Tryz.func295, rfl, by kernel_rfl⟩, by kernel_rfl⟩
noncomputable def fe296 : FnE Tryz.prog := ⟨296, Tryz.f296, _, ⟨Tryz.func296, rfl, by kernel_rfl⟩, by kernel_rfl⟩
noncomputable def fe297 : FnE Tryz.prog := ⟨297, Tryz.f297, _, ⟨Tryz.func297, rfl, by kernel_rfl⟩, by kernel_rfl⟩
noncomputable def fe298 : FnE Tryz.prog := ⟨298, Tryz.f298, _, ⟨Tryz.func298, rfl, by kernel_rfl⟩, by kernel_rfl⟩
noncomputable def fe299 : FnE Tryz.prog := ⟨299, Tryz.f299, _, ⟨Tryz.func299, rfl, by kernel_rfl⟩, by kernel_rfl⟩
noncomputable def fe300 : FnE Tryz.prog := ⟨300, Tryz.f300, _, ⟨Tryz.func300, rfl, by kernel_rfl⟩, by kernel_rfl⟩
noncomputable def fe301 : FnE Tryz.prog := ⟨301, Tryz.f301, _, ⟨Tryz.func301, rfl, by kernel_rfl⟩, by kernel_rfl⟩
noncomputable def fe302 : FnE Tryz.prog := ⟨302, Tryz.f302, _, ⟨Tryz.func302, rfl, by kernel_rfl⟩, by kernel_rfl⟩
noncomputable def fe303 : FnE Tryz.prog := ⟨303, Tryz.f303, _, ⟨Tryz.func303, rfl, by kernel_rfl⟩, by kernel_rfl⟩
noncomputable def fe304 : FnE Tryz.prog := ⟨304, Tryz.f304, _, ⟨Tryz.func304, rfl, by kernel_rfl⟩, by kernel_rfl⟩
noncomputable def fe305 : FnE Tryz.prog := ⟨305, Tryz.f305, _, ⟨Tryz.func305, rfl, by kernel_rfl⟩, by kernel_rfl⟩
noncomputable def fe306 : FnE Tryz.prog := ⟨306, Tryz.f306, _, ⟨Tryz.func306, rfl, by kernel_rfl⟩, by kernel_rfl⟩
noncomputable def fe307 : FnE Tryz.prog := ⟨307, Tryz.f307, _, ⟨Tryz.func307, rfl, by kernel_rfl⟩, by kernel_rfl⟩
noncomputable def fe308 : FnE Tryz.prog := ⟨308, Tryz.f308, _, ⟨Tryz.func308, rfl, by kernel_rfl⟩, by kernel_rfl⟩
noncomputable def fe309 : FnE Tryz.prog := ⟨309, Tryz.f309, _, ⟨Tryz.func309, rfl, by kernel_rfl⟩, by kernel_rfl⟩
noncomputable def fe310 : FnE Tryz.prog := ⟨310, Tryz.f310, _, ⟨Tryz.func310, rfl, by kernel_rfl⟩, by kernel_rfl⟩
noncomputable def fe311 : FnE Tryz.prog := ⟨311, Tryz.f311, _, ⟨Tryz.func311, rfl, by kernel_rfl⟩, by kernel_rfl⟩
noncomputable def fe312 : FnE Tryz.prog := ⟨312, Tryz.f312, _, ⟨Tryz.func312, rfl, by kernel_rfl⟩, by kernel_rfl⟩
noncomputable def fe313 : FnE Tryz.prog := ⟨313, Tryz.f313, _, ⟨Tryz.func313, rfl, by kernel_rfl⟩, by kernel_rfl⟩
noncomputable def fe343 : FnE Tryz.prog := ⟨343, Tryz.f343, _, ⟨Tryz.func343, rfl, by kernel_rfl⟩, by kernel_rfl⟩
noncomputable def tabF : Tri (FnE Tryz.prog) := (.node none (.node none (.node (some fe3) (.node (some fe7) (.node (some fe15) (.node (some fe31) (.node (some fe63) (.node (some fe127) (.node (some fe255) .leaf .leaf) .leaf) (.node (some fe191) .leaf .leaf)) (.node (some fe95) (.node (some fe159) .leaf .leaf) (.node (some fe223) .leaf .leaf))) (.node (some fe47) (.node (some fe79) (.node (some fe143) (.node (some fe271) .leaf .leaf) .leaf) (.node (some fe207) .leaf .leaf)) (.node (some fe111) (.node (some fe175) (.node (some fe303) .leaf .leaf) .leaf) (.node (some fe239) .leaf .leaf)))) (.node (some fe23) (.node (some fe39) (.node (some fe71) (.node (some fe135) .leaf .leaf) (.node (some fe199) .leaf .leaf)) (.node (some fe103) (.node (some fe167) (.node (some fe295) .leaf .leaf) .leaf) (.node (some fe231) .leaf .leaf))) (.node (some fe55) (.node (some fe87) (.node (some fe151) (.node (some fe279) .leaf .leaf) .leaf) (.node (some fe215) (.node (some fe343) .leaf .leaf) .leaf)) (.node (some fe119) (.node (some fe183) (.node (some fe311) .leaf .leaf) .leaf) (.node (some fe247) .leaf .leaf))))) (.node (some fe11) (.node (some fe19) (.node (some fe35) (.node (some fe67) (.node (some fe131) (.node (some fe259) .leaf .leaf) .leaf) (.node (some fe195) .leaf .leaf)) (.node (some fe99) (.node (some fe163) (.node (some fe291) .leaf .leaf) .leaf) (.node (some fe227) .leaf .leaf))) (.node (some fe51) (.node (some fe83) (.node (some fe147) (.node (some fe275) .leaf .leaf) .leaf) (.node (some fe211) .leaf .leaf)) (.node (some fe115) (.node (some fe179) (.node (some fe307) .leaf .leaf) .leaf) (.node (some fe243) .leaf .leaf)))) (.node (some fe27) (.node (some fe43) (.node (some fe75) (.node (some fe139) .leaf .leaf) (.node (some fe203) .leaf .leaf)) (.node (some fe107) (.node (some fe171) (.node (some fe299) .leaf .leaf) .leaf) (.node (some fe235) .leaf .leaf))) (.node (some fe59) (.node (some fe91) (.node (some fe155) (.node (some fe283) .leaf .leaf) .leaf) (.node (some fe219) .leaf .leaf)) (.node (some fe123) (.node (some fe187) .leaf .leaf) (.node (some fe251) .leaf .leaf)))))) (.node (some fe5) (.node (some fe9) (.node (some fe17) (.node (some fe33) (.node (some fe65) (.node (some fe129) (.node (some fe257) .leaf .leaf) .leaf) (.node (some fe193) .leaf .leaf)) (.node (some fe97) (.node (some fe161) (.node (some fe289) .leaf .leaf) .leaf) (.node (some fe225) .leaf .leaf))) (.node (some fe49) (.node (some fe81) (.node (some fe145) (.node (some fe273) .leaf .leaf) .leaf) (.node (some fe209) .leaf .leaf)) (.node (some fe113) (.node (some fe177) (.node (some fe305) .leaf .leaf) .leaf) (.node (some fe241) .leaf .leaf)))) (.node (some fe25) (.node (some fe41) (.node (some fe73) (.node (some fe137) (.node (some fe265) .leaf .leaf) .leaf) (.node (some fe201) .leaf .leaf)) (.node (some fe105) (.node (some fe169) (.node (some fe297) .leaf .leaf) .leaf) (.node (some fe233) .leaf .leaf))) (.node (some fe57) (.node (some fe89) (.node (some fe153) .leaf .leaf) (.node (some fe217) .leaf .leaf)) (.node (some fe121) (.node (some fe185) (.node (some fe313) .leaf .leaf) .leaf) (.node (some fe249) .leaf .leaf))))) (.node (some fe13) (.node (some fe21) (.node (some fe37) (.node (some fe69) (.node (some fe133) (.node (some fe261) .leaf .leaf) .leaf) (.node (some fe197) .leaf .leaf)) (.node (some fe101) (.node (some fe165) (.node (some fe293) .leaf .leaf) .leaf) (.node (some fe229) .leaf .leaf))) (.node (some fe53) (.node (some fe85) (.node (some fe149) (.node (some fe277) .leaf .leaf) .leaf) (.node (some fe213) .leaf .leaf)) (.node (some fe117) (.node (some fe181) (.node (some fe309) .leaf .leaf) .leaf) (.node (some fe245) .leaf .leaf)))) (.node (some fe29) (.node (some fe45) (.node (some fe77) (.node (some fe141) .leaf .leaf) (.node (some fe205) .leaf .leaf)) (.node (some fe109) (.node (some fe173) (.node (some fe301) .leaf .leaf) .leaf) (.node (some fe237) .leaf .leaf))) (.node (some fe61) (.node (some fe93) (.node (some fe157) (.node (some fe285) .leaf .leaf) .leaf) (.node (some fe221) .leaf .leaf)) (.node (some fe125) (.node (some fe189) .leaf .leaf) (.node (some fe253) .leaf .leaf))))))) (.node (some fe2) (.node (some fe4) (.node (some fe8) (.node (some fe16) (.node (some fe32) (.node (some fe64) (.node (some fe128) (.node (some fe256) .leaf .leaf) .leaf) (.node (some fe192) .leaf .leaf)) (.node (some fe96) (.node (some fe160) (.node (some fe288) .leaf .leaf) .leaf) (.node (some fe224) .leaf .leaf))) (.node (some fe48) (.node (some fe80) (.node (some fe144) (.node (some fe272) .leaf .leaf) .leaf) (.node (some fe208) .leaf .leaf)) (.node (some fe112) (.node (some fe176) (.node (some fe304) .leaf .leaf) .leaf) (.node (some fe240) .leaf .leaf)))) (.node (some fe24) (.node (some fe40) (.node (some fe72) (.node (some fe136) (.node (some fe264) .leaf .leaf) .leaf) (.node (some fe200) .leaf .leaf)) (.node (some fe104) (.node (some fe168) (.node (some fe296) .leaf .leaf) .leaf) (.node (some fe232) .leaf .leaf))) (.node (some fe56) (.node (some fe88) (.node (some fe152) (.node (some fe280) .leaf .leaf) .leaf) (.node (some fe216) .leaf .leaf)) (.node (some fe120) (.node (some fe184) (.node (some fe312) .leaf .leaf) .leaf) .leaf)))) (.node (some fe12) (.node (some fe20) (.node (some fe36) (.node (some fe68) (.node (some fe132) (.node (some fe260) .leaf .leaf) .leaf) (.node (some fe196) .leaf .leaf)) (.node (some fe100) (.node (some fe164) (.node (some fe292) .leaf .leaf) .leaf) (.node (some fe228) .leaf .leaf))) (.node (some fe52) (.node (some fe84) (.node (some fe148) (.node (some fe276) .leaf .leaf) .leaf) (.node (some fe212) .leaf .leaf)) (.node (some fe116) (.node (some fe180) (.node (some fe308) .leaf .leaf) .leaf) (.node (some fe244) .leaf .leaf)))) (.node (some fe28) (.node (some fe44) (.node (some fe76) (.node (some fe140) (.node (some fe268) .leaf .leaf) .leaf) (.node (some fe204) .leaf .leaf)) (.node (some fe108) (.node (some fe172) (.node (some fe300) .leaf .leaf) .leaf) (.node (some fe236) .leaf .leaf))) (.node (some fe60) (.node (some fe92) (.node (some fe156) (.node (some fe284) .leaf .leaf) .leaf) (.node (some fe220) .leaf .leaf)) (.node (some fe124) (.node (some fe188) .leaf .leaf) (.node (some fe252) .leaf .leaf)))))) (.node (some fe6) (.node (some fe10) (.node (some fe18) (.node (some fe34) (.node (some fe66) (.node (some fe130) (.node (some fe258) .leaf .leaf) .leaf) (.node (some fe194) .leaf .leaf)) (.node (some fe98) (.node (some fe162) (.node (some fe290) .leaf .leaf) .leaf) (.node (some fe226) .leaf .leaf))) (.node (some fe50) (.node (some fe82) (.node (some fe146) (.node (some fe274) .leaf .leaf) .leaf) (.node (some fe210) .leaf .leaf)) (.node (some fe114) (.node (some fe178) (.node (some fe306) .leaf .leaf) .leaf) (.node (some fe242) .leaf .leaf)))) (.node (some fe26) (.node (some fe42) (.node (some fe74) (.node (some fe138) (.node (some fe266) .leaf .leaf) .leaf) (.node (some fe202) .leaf .leaf)) (.node (some fe106) (.node (some fe170) (.node (some fe298) .leaf .leaf) .leaf) (.node (some fe234) .leaf .leaf))) (.node (some fe58) (.node (some fe90) (.node (some fe154) (.node (some fe282) .leaf .leaf) .leaf) (.node (some fe218) .leaf .leaf)) (.node (some fe122) (.node (some fe186) .leaf .leaf) (.node (some fe250) .leaf .leaf))))) (.node (some fe14) (.node (some fe22) (.node (some fe38) (.node (some fe70) (.node (some fe134) .leaf .leaf) (.node (some fe198) .leaf .leaf)) (.node (some fe102) (.node (some fe166) (.node (some fe294) .leaf .leaf) .leaf) (.node (some fe230) .leaf .leaf))) (.node (some fe54) (.node (some fe86) (.node (some fe150) (.node (some fe278) .leaf .leaf) .leaf) (.node (some fe214) .leaf .leaf)) (.node (some fe118) (.node (some fe182) (.node (some fe310) .leaf .leaf) .leaf) (.node (some fe246) .leaf .leaf)))) (.node (some fe30) (.node (some fe46) (.node (some fe78) (.node (some fe142) (.node (some fe270) .leaf .leaf) .leaf) (.node (some fe206) .leaf .leaf)) (.node (some fe110) (.node (some fe174) (.node (some fe302) .leaf .leaf) .leaf) (.node (some fe238) .leaf .leaf))) (.node (some fe62) (.node (some fe94) (.node (some fe158) (.node (some fe286) .leaf .leaf) .leaf) (.node (some fe222) .leaf .leaf)) (.node (some fe126) (.node (some fe190) .leaf .leaf) (.node (some fe254) .leaf .leaf))))))))
end Go.Vm.Seat
