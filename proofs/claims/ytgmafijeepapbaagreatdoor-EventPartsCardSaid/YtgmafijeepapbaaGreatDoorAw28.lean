/-
  The examples of the events come to true in every world.
-/
import Derived.Test.YtgmafijeepapbaaGreatDoorAwOr
namespace Go.Vm.Seat
open Go.Proofs
set_option maxRecDepth 100000
theorem awakeFact28 : okFact E0 100 60 ⟨6, [], .bool true⟩ = true := by kernel_rfl
theorem awakeOk28 : FactOk E0 Tryz.prog ⟨6, [], .bool true⟩ := okFact_ok tOk follows fOk zOk awakeFact28
end Go.Vm.Seat
