/-
  The calls of the examples, one by one.
-/
import Derived.Test.YthkpihmifojnoaaGreatDoorAwEnv
namespace Go.Vm.Seat

def fact0 : Fact := ⟨32, [.str [112, 114, 111, 116, 111, 99, 111, 108, 32, 80, 32, 123, 32, 114, 111, 108, 101, 32, 65, 44, 32, 66, 59, 32, 102, 114, 101, 115, 104, 32, 65, 58, 32, 110, 32, 110, 111, 110, 99, 101, 59, 32, 109, 101, 115, 115, 97, 103, 101, 32, 65, 32, 45, 62, 32, 66, 58, 32, 110, 59, 32, 125]], .tup [.agg [.str [80], .sl .none 1 [[.str [65]], [.str [66]]], .sl .none 3 [[.str [65], .str [110], .int .i64 2]], .nils, .sl .none 7 [[.str [65], .str [66], .int .i64 2, .str [110], .int .i64 0, .nils, .int .i64 1]], .nils], .int .i64 0, .int .i64 0]⟩
theorem ok0 : okFact E0 100 60 fact0 = true := by kernel_rfl

def fact1 : Fact := ⟨9, [.agg [.str [80], .sl .none 1 [[.str [65]], [.str [66]]], .sl .none 3 [[.str [65], .str [110], .int .i64 2]], .nils, .sl .none 7 [[.str [65], .str [66], .int .i64 2, .str [110], .int .i64 0, .nils, .int .i64 1]], .nils]], .tup [.agg [.str [80], .sl .none 1 [[.str [65]], [.str [66]]], .sl .none 3 [[.str [65], .str [110], .int .i64 2]], .sl .none 1 [[.str [115, 48]]], .sl .none 7 [[.str [65], .str [66], .int .i64 3, .str [112, 97, 105, 114], .int .i64 0, .sl .none 4 [[.int .i64 2, .str [115, 48], .int .i64 0, .nils], [.int .i64 2, .str [110], .int .i64 0, .nils]], .int .i64 1]], .nils], .int .i64 0]⟩
theorem ok1 : okFact E0 100 60 fact1 = true := by kernel_rfl

def fact2 : Fact := ⟨18, [.agg [.str [80], .sl .none 1 [[.str [65]], [.str [66]]], .sl .none 3 [[.str [65], .str [110], .int .i64 2]], .nils, .sl .none 7 [[.str [65], .str [66], .int .i64 2, .str [110], .int .i64 0, .nils, .int .i64 1]], .nils], .int .i64 0, .int .i64 2], .tup [.agg [.str [80], .sl .none 1 [[.str [65]], [.str [66]]], .sl .none 3 [[.str [65], .str [110], .int .i64 2]], .sl .none 1 [[.str [112, 97, 100]]], .sl .none 7 [[.str [65], .str [66], .int .i64 3, .str [112, 97, 105, 114], .int .i64 0, .sl .none 4 [[.int .i64 2, .str [110], .int .i64 0, .nils], [.int .i64 3, .str [112, 97, 105, 114], .int .i64 0, .sl .none 4 [[.int .i64 2, .str [112, 97, 100], .int .i64 0, .nils], [.int .i64 2, .str [112, 97, 100], .int .i64 0, .nils]]]], .int .i64 1]], .nils], .int .i64 0]⟩
theorem ok2 : okFact E0 100 60 fact2 = true := by kernel_rfl

def fact3 : Fact := ⟨11, [.agg [.str [80], .sl .none 1 [[.str [65]], [.str [66]]], .sl .none 3 [[.str [65], .str [110], .int .i64 2]], .nils, .sl .none 7 [[.str [65], .str [66], .int .i64 2, .str [110], .int .i64 0, .nils, .int .i64 1]], .nils]], .tup [.agg [.str [80], .sl .none 1 [[.str [65]], [.str [66]]], .sl .none 3 [[.str [65], .str [110], .int .i64 2], [.str [66], .str [99, 107], .int .i64 3]], .sl .none 1 [[.str [114, 101, 113, 117, 101, 115, 116]]], .sl .none 7 [[.str [65], .str [66], .int .i64 2, .str [114, 101, 113, 117, 101, 115, 116], .int .i64 0, .nils, .int .i64 0], [.str [66], .str [65], .int .i64 3, .str [104, 97, 115, 104], .int .i64 0, .sl .none 4 [[.int .i64 3, .str [112, 97, 105, 114], .int .i64 0, .sl .none 4 [[.int .i64 2, .str [99, 107], .int .i64 0, .nils], [.int .i64 2, .str [65], .int .i64 0, .nils]]]], .int .i64 0], [.str [65], .str [66], .int .i64 3, .str [112, 97, 105, 114], .int .i64 0, .sl .none 4 [[.int .i64 3, .str [104, 97, 115, 104], .int .i64 0, .sl .none 4 [[.int .i64 3, .str [112, 97, 105, 114], .int .i64 0, .sl .none 4 [[.int .i64 2, .str [99, 107], .int .i64 0, .nils], [.int .i64 2, .str [65], .int .i64 0, .nils]]]]], [.int .i64 2, .str [110], .int .i64 0, .nils]], .int .i64 1]], .nils], .int .i64 0]⟩
theorem ok3 : okFact E0 100 60 fact3 = true := by kernel_rfl

def fact4 : Fact := ⟨13, [.agg [.str [80], .sl .none 1 [[.str [65]], [.str [66]]], .sl .none 3 [[.str [65], .str [110], .int .i64 2]], .nils, .sl .none 7 [[.str [65], .str [66], .int .i64 2, .str [110], .int .i64 0, .nils, .int .i64 1]], .nils], .int .i64 0], .tup [.agg [.str [80], .sl .none 1 [[.str [65]], [.str [66]]], .sl .none 3 [[.str [65], .str [110], .int .i64 2]], .nils, .sl .none 7 [[.str [65], .str [66], .int .i64 3, .str [97, 101, 110, 99], .int .i64 0, .sl .none 4 [[.int .i64 2, .str [110], .int .i64 0, .nils], [.int .i64 3, .str [112, 107], .int .i64 0, .sl .none 4 [[.int .i64 3, .str [115, 107], .int .i64 0, .sl .none 4 [[.int .i64 2, .str [66], .int .i64 0, .nils]]]]]], .int .i64 1]], .nils], .int .i64 0]⟩
theorem ok4 : okFact E0 100 60 fact4 = true := by kernel_rfl

def fact5 : Fact := ⟨34, [.agg [.int .i64 3, .str [112, 97, 105, 114], .int .i64 0, .sl .none 4 [[.int .i64 2, .str [115, 48], .int .i64 0, .nils], [.int .i64 2, .str [110], .int .i64 0, .nils]]]], .tup [.str [60, 115, 48, 44, 32, 110, 62], .int .i64 0]⟩
theorem ok5 : okFact E0 100 60 fact5 = true := by kernel_rfl

def fact6 : Fact := ⟨34, [.agg [.int .i64 3, .str [112, 97, 105, 114], .int .i64 0, .sl .none 4 [[.int .i64 2, .str [110], .int .i64 0, .nils], [.int .i64 3, .str [112, 97, 105, 114], .int .i64 0, .sl .none 4 [[.int .i64 2, .str [112, 97, 100], .int .i64 0, .nils], [.int .i64 2, .str [112, 97, 100], .int .i64 0, .nils]]]]]], .tup [.str [60, 110, 44, 32, 112, 97, 100, 44, 32, 112, 97, 100, 62], .int .i64 0]⟩
theorem ok6 : okFact E0 100 60 fact6 = true := by kernel_rfl

def fact7 : Fact := ⟨34, [.agg [.int .i64 3, .str [104, 97, 115, 104], .int .i64 0, .sl .none 4 [[.int .i64 3, .str [112, 97, 105, 114], .int .i64 0, .sl .none 4 [[.int .i64 2, .str [99, 107], .int .i64 0, .nils], [.int .i64 2, .str [65], .int .i64 0, .nils]]]]]], .tup [.str [104, 97, 115, 104, 40, 60, 99, 107, 44, 32, 65, 62, 41], .int .i64 0]⟩
theorem ok7 : okFact E0 100 60 fact7 = true := by kernel_rfl

def fact8 : Fact := ⟨34, [.agg [.int .i64 3, .str [112, 97, 105, 114], .int .i64 0, .sl .none 4 [[.int .i64 3, .str [104, 97, 115, 104], .int .i64 0, .sl .none 4 [[.int .i64 3, .str [112, 97, 105, 114], .int .i64 0, .sl .none 4 [[.int .i64 2, .str [99, 107], .int .i64 0, .nils], [.int .i64 2, .str [65], .int .i64 0, .nils]]]]], [.int .i64 2, .str [110], .int .i64 0, .nils]]]], .tup [.str [60, 104, 97, 115, 104, 40, 60, 99, 107, 44, 32, 65, 62, 41, 44, 32, 110, 62], .int .i64 0]⟩
theorem ok8 : okFact E0 100 60 fact8 = true := by kernel_rfl

def fact9 : Fact := ⟨34, [.agg [.int .i64 3, .str [97, 101, 110, 99], .int .i64 0, .sl .none 4 [[.int .i64 2, .str [110], .int .i64 0, .nils], [.int .i64 3, .str [112, 107], .int .i64 0, .sl .none 4 [[.int .i64 3, .str [115, 107], .int .i64 0, .sl .none 4 [[.int .i64 2, .str [66], .int .i64 0, .nils]]]]]]]], .tup [.str [97, 101, 110, 99, 40, 110, 44, 32, 112, 107, 40, 115, 107, 40, 66, 41, 41, 41], .int .i64 0]⟩
theorem ok9 : okFact E0 100 60 fact9 = true := by kernel_rfl

def facts : List Fact := [fact0, fact1, fact2, fact3, fact4, fact5, fact6, fact7, fact8, fact9]
end Go.Vm.Seat
