/-
  Credentials: what the reference reads out of a term. Credentials: read by the reference's text. Credentials: what the statements ask beside: small, the same. The calls of the examples of the credentials, one by one.
-/
import Derived.Test.YtjokjgoppbmaiaaGreatDoorCz
import Derived.Test.YtjokjgoppbmaiaaGreatDoorDb
import Derived.Test.YtjokjgoppbmaiaaGreatDoorDa
import Derived.Test.YtjokjgoppbmaiaaGreatDoorAwOr
namespace Go.Vm.Seat
open Go.Proofs
set_option maxRecDepth 100000
theorem addS {a b : Bs} (h : a.length + b.length ≤ 1000000) : aBin E0 .add 9 (.str a) (.str b) = some (.str (a ++ b)) := by
 show aStr .add a b = _
 simp only [aStr]
 rw [if_pos (by omega)]
end Go.Vm.Seat
namespace Go.Vm.Seat
open Go.Proofs
set_option maxRecDepth 100000
end Go.Vm.Seat
namespace Go.Vm.Seat
open Go.Proofs
set_option maxRecDepth 100000
theorem c7 {t : Tm} (ht : t.Ok) : ∀ H, CallOk E0 Tryz.prog 7 [.agg t.cells] H (.bool (fewF [t] 1 450)) H := by
 have hc : ∀ H, CallOk E0 Tryz.prog 24 [.sl .full 4 [t.cells], .int .i64 1, .int .i64 450] H (.bool (fewF [t] 1 450)) H := fun H =>
  callOk_lift (c24 (l := [t]) (fun x hx => by rw [List.mem_singleton.1 hx]; exact ht) (by simp [maxLen]) true (n := 1) (most := 450) (by decide) (by decide) hNil) (by
   simp only [cellsL]
   rw [slV_cons]
   obtain ⟨k5, m5, s5, b5, q5⟩ := t
   rfl) rfl H
 generalize fewF [t] 1 450 = F at hc ⊢
 obtain ⟨k, nm, s, b, kids⟩ := t
 simp only [Tm.cells] at hc
 refine κw tOk fe7.ok rfl ?_
 repeat' first | refine κn ?_ | refine κc (hc _) ?_ | refine κs ?_ | refine κt ?_ | refine κg ?_ | refine κa ?_ | refine κf ?_ | fail
 all_goals rfl
end Go.Vm.Seat
namespace Go.Vm.Seat
open Go.Proofs
set_option maxRecDepth 100000
def cfact0 : Fact := ⟨18, [.int .u8 1], .agg [.int .i64 3, .str [112, 107], .int .i64 0, .sl .none 4 [[.int .i64 3, .str [115, 107], .int .i64 0, .sl .none 4 [[.int .i64 2, .str [97], .int .i64 1, .nils]]]]]⟩
theorem cok0 : okFact E0 100 60 cfact0 = true := by kernel_rfl
def cfact1 : Fact := ⟨20, [.int .u8 0], .agg [.int .i64 3, .str [115, 107], .int .i64 0, .sl .none 4 [[.int .i64 2, .str [114], .int .i64 1, .nils]]]⟩
theorem cok1 : okFact E0 100 60 cfact1 = true := by kernel_rfl
def cfact2 : Fact := ⟨19, [.agg [.str [97], .int .i64 3, .str [112, 107], .int .i64 0, .sl .none 4 [[.int .i64 3, .str [115, 107], .int .i64 0, .sl .none 4 [[.int .i64 2, .str [97], .int .i64 1, .nils]]]], .bool false, .nils, .nils, .int .i64 1, .int .i64 0, .int .i64 9], .agg [.int .i64 3, .str [115, 107], .int .i64 0, .sl .none 4 [[.int .i64 2, .str [114], .int .i64 1, .nils]]]], .tup [.agg [.int .i64 3, .str [115, 105, 103, 110], .int .i64 0, .sl .none 4 [[.int .i64 3, .str [112, 97, 105, 114], .int .i64 0, .sl .none 4 [[.int .i64 2, .str [99, 101, 114, 116], .int .i64 5, .nils], [.int .i64 3, .str [112, 97, 105, 114], .int .i64 0, .sl .none 4 [[.int .i64 3, .str [112, 97, 105, 114], .int .i64 0, .sl .none 4 [[.int .i64 2, .str [97], .int .i64 4, .nils], [.int .i64 2, .str [101, 110, 100], .int .i64 5, .nils]]], [.int .i64 3, .str [112, 97, 105, 114], .int .i64 0, .sl .none 4 [[.int .i64 3, .str [112, 107], .int .i64 0, .sl .none 4 [[.int .i64 3, .str [115, 107], .int .i64 0, .sl .none 4 [[.int .i64 2, .str [97], .int .i64 1, .nils]]]]], [.int .i64 3, .str [112, 97, 105, 114], .int .i64 0, .sl .none 4 [[.int .i64 2, .str [110, 111], .int .i64 4, .nils], [.int .i64 3, .str [112, 97, 105, 114], .int .i64 0, .sl .none 4 [[.int .i64 2, .str [101, 110, 100], .int .i64 5, .nils], [.int .i64 3, .str [112, 97, 105, 114], .int .i64 0, .sl .none 4 [[.int .i64 2, .str [101, 110, 100], .int .i64 5, .nils], [.int .i64 3, .str [112, 97, 105, 114], .int .i64 0, .sl .none 4 [[.int .i64 2, .str [110, 49], .int .i64 4, .nils], [.int .i64 3, .str [112, 97, 105, 114], .int .i64 0, .sl .none 4 [[.int .i64 2, .str [110, 48], .int .i64 4, .nils], [.int .i64 2, .str [110, 57], .int .i64 4, .nils]]]]]]]]]]]]]]]]], [.int .i64 3, .str [115, 107], .int .i64 0, .sl .none 4 [[.int .i64 2, .str [114], .int .i64 1, .nils]]]]], .int .i64 0]⟩
theorem cok2 : okFact E0 100 60 cfact2 = true := by kernel_rfl
def cfact3 : Fact := ⟨21, [.str [115, 105, 103, 110, 40, 112, 97, 105, 114, 40, 99, 101, 114, 116, 58, 116, 97, 103, 44, 32, 112, 97, 105, 114, 40, 112, 97, 105, 114, 40, 97, 58, 100, 97, 116, 97, 44, 32, 101, 110, 100, 58, 116, 97, 103, 41, 44, 32, 112, 97, 105, 114, 40, 112, 107, 40, 115, 107, 40, 97, 58, 97, 103, 101, 110, 116, 41, 41, 44, 32, 112, 97, 105, 114, 40, 110, 111, 58, 100, 97, 116, 97, 44, 32, 112, 97, 105, 114, 40, 101, 110, 100, 58, 116, 97, 103, 44, 32, 112, 97, 105, 114, 40, 101, 110, 100, 58, 116, 97, 103, 44, 32, 112, 97, 105, 114, 40, 110, 49, 58, 100, 97, 116, 97, 44, 32, 112, 97, 105, 114, 40, 110, 48, 58, 100, 97, 116, 97, 44, 32, 110, 57, 58, 100, 97, 116, 97, 41, 41, 41, 41, 41, 41, 41, 41, 44, 32, 115, 107, 40, 114, 58, 97, 103, 101, 110, 116, 41, 41]], .tup [.agg [.int .i64 3, .str [115, 105, 103, 110], .int .i64 0, .sl .none 4 [[.int .i64 3, .str [112, 97, 105, 114], .int .i64 0, .sl .none 4 [[.int .i64 2, .str [99, 101, 114, 116], .int .i64 5, .nils], [.int .i64 3, .str [112, 97, 105, 114], .int .i64 0, .sl .none 4 [[.int .i64 3, .str [112, 97, 105, 114], .int .i64 0, .sl .none 4 [[.int .i64 2, .str [97], .int .i64 4, .nils], [.int .i64 2, .str [101, 110, 100], .int .i64 5, .nils]]], [.int .i64 3, .str [112, 97, 105, 114], .int .i64 0, .sl .none 4 [[.int .i64 3, .str [112, 107], .int .i64 0, .sl .none 4 [[.int .i64 3, .str [115, 107], .int .i64 0, .sl .none 4 [[.int .i64 2, .str [97], .int .i64 1, .nils]]]]], [.int .i64 3, .str [112, 97, 105, 114], .int .i64 0, .sl .none 4 [[.int .i64 2, .str [110, 111], .int .i64 4, .nils], [.int .i64 3, .str [112, 97, 105, 114], .int .i64 0, .sl .none 4 [[.int .i64 2, .str [101, 110, 100], .int .i64 5, .nils], [.int .i64 3, .str [112, 97, 105, 114], .int .i64 0, .sl .none 4 [[.int .i64 2, .str [101, 110, 100], .int .i64 5, .nils], [.int .i64 3, .str [112, 97, 105, 114], .int .i64 0, .sl .none 4 [[.int .i64 2, .str [110, 49], .int .i64 4, .nils], [.int .i64 3, .str [112, 97, 105, 114], .int .i64 0, .sl .none 4 [[.int .i64 2, .str [110, 48], .int .i64 4, .nils], [.int .i64 2, .str [110, 57], .int .i64 4, .nils]]]]]]]]]]]]]]]]], [.int .i64 3, .str [115, 107], .int .i64 0, .sl .none 4 [[.int .i64 2, .str [114], .int .i64 1, .nils]]]]], .int .i64 0]⟩
theorem cok3 : okFact E0 100 60 cfact3 = true := by kernel_rfl
def cfact4 : Fact := ⟨15, [.agg [.int .i64 3, .str [115, 105, 103, 110], .int .i64 0, .sl .none 4 [[.int .i64 3, .str [112, 97, 105, 114], .int .i64 0, .sl .none 4 [[.int .i64 2, .str [99, 101, 114, 116], .int .i64 5, .nils], [.int .i64 3, .str [112, 97, 105, 114], .int .i64 0, .sl .none 4 [[.int .i64 3, .str [112, 97, 105, 114], .int .i64 0, .sl .none 4 [[.int .i64 2, .str [97], .int .i64 4, .nils], [.int .i64 2, .str [101, 110, 100], .int .i64 5, .nils]]], [.int .i64 3, .str [112, 97, 105, 114], .int .i64 0, .sl .none 4 [[.int .i64 3, .str [112, 107], .int .i64 0, .sl .none 4 [[.int .i64 3, .str [115, 107], .int .i64 0, .sl .none 4 [[.int .i64 2, .str [97], .int .i64 1, .nils]]]]], [.int .i64 3, .str [112, 97, 105, 114], .int .i64 0, .sl .none 4 [[.int .i64 2, .str [110, 111], .int .i64 4, .nils], [.int .i64 3, .str [112, 97, 105, 114], .int .i64 0, .sl .none 4 [[.int .i64 2, .str [101, 110, 100], .int .i64 5, .nils], [.int .i64 3, .str [112, 97, 105, 114], .int .i64 0, .sl .none 4 [[.int .i64 2, .str [101, 110, 100], .int .i64 5, .nils], [.int .i64 3, .str [112, 97, 105, 114], .int .i64 0, .sl .none 4 [[.int .i64 2, .str [110, 49], .int .i64 4, .nils], [.int .i64 3, .str [112, 97, 105, 114], .int .i64 0, .sl .none 4 [[.int .i64 2, .str [110, 48], .int .i64 4, .nils], [.int .i64 2, .str [110, 57], .int .i64 4, .nils]]]]]]]]]]]]]]]]], [.int .i64 3, .str [115, 107], .int .i64 0, .sl .none 4 [[.int .i64 2, .str [114], .int .i64 1, .nils]]]]], .agg [.int .i64 3, .str [115, 105, 103, 110], .int .i64 0, .sl .none 4 [[.int .i64 3, .str [112, 97, 105, 114], .int .i64 0, .sl .none 4 [[.int .i64 2, .str [99, 101, 114, 116], .int .i64 5, .nils], [.int .i64 3, .str [112, 97, 105, 114], .int .i64 0, .sl .none 4 [[.int .i64 3, .str [112, 97, 105, 114], .int .i64 0, .sl .none 4 [[.int .i64 2, .str [97], .int .i64 4, .nils], [.int .i64 2, .str [101, 110, 100], .int .i64 5, .nils]]], [.int .i64 3, .str [112, 97, 105, 114], .int .i64 0, .sl .none 4 [[.int .i64 3, .str [112, 107], .int .i64 0, .sl .none 4 [[.int .i64 3, .str [115, 107], .int .i64 0, .sl .none 4 [[.int .i64 2, .str [97], .int .i64 1, .nils]]]]], [.int .i64 3, .str [112, 97, 105, 114], .int .i64 0, .sl .none 4 [[.int .i64 2, .str [110, 111], .int .i64 4, .nils], [.int .i64 3, .str [112, 97, 105, 114], .int .i64 0, .sl .none 4 [[.int .i64 2, .str [101, 110, 100], .int .i64 5, .nils], [.int .i64 3, .str [112, 97, 105, 114], .int .i64 0, .sl .none 4 [[.int .i64 2, .str [101, 110, 100], .int .i64 5, .nils], [.int .i64 3, .str [112, 97, 105, 114], .int .i64 0, .sl .none 4 [[.int .i64 2, .str [110, 49], .int .i64 4, .nils], [.int .i64 3, .str [112, 97, 105, 114], .int .i64 0, .sl .none 4 [[.int .i64 2, .str [110, 48], .int .i64 4, .nils], [.int .i64 2, .str [110, 57], .int .i64 4, .nils]]]]]]]]]]]]]]]]], [.int .i64 3, .str [115, 107], .int .i64 0, .sl .none 4 [[.int .i64 2, .str [114], .int .i64 1, .nils]]]]]], .bool true⟩
def cfacts : List Fact := [cfact0, cfact1, cfact2, cfact3, cfact4]
end Go.Vm.Seat
