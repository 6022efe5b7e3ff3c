/-
  The examples of the events come to true in every world.
-/
import Derived.Test.YtnnfkocifnflgaaGreatDoorAwOr
namespace Go.Vm.Seat
open Go.Proofs
set_option maxRecDepth 100000
theorem ZcW:Ze0 E0 100 60 ⟨4,[],.bool true⟩=true:=by kernel_rfl
theorem ZgD:FactOk E0 Tryz.prog ⟨4,[],.bool true⟩:=Qw tOk follows fOk zOk ZcW
