/-
  The examples of the credentials, by the facts.
-/
import Derived.Test.YthkpihmifojnoaaGreatDoorAw5Facts
namespace Go.Vm.Seat
open Go.Proofs
theorem awakeFact5 : okFact (E0.knows cfacts) 100 60 ⟨26, [], .bool true⟩ = true := by kernel_rfl
end Go.Vm.Seat
