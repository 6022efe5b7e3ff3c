/-
  The examples, by the facts.
-/
import Derived.Test.YthkpihmifojnoaaGreatDoorAwFacts
namespace Go.Vm.Seat
open Go.Proofs
theorem awakeFact : okFact (E0.knows facts) 100 60 ⟨7, [], .bool true⟩ = true := by kernel_rfl
end Go.Vm.Seat
