/-
  The examples hold in every world.
-/
import Derived.Test.YthkpihmifojnoaaGreatDoorAwAll
import Derived.Test.YthkpihmifojnoaaGreatDoorAwOrI
namespace Go.Vm.Seat
open Go.Proofs
set_option maxRecDepth 100000

theorem good {x : Fact} (h : okFact E0 100 60 x = true) : FactOk E0 Tryz.prog x := okFact_ok tOk follows fOk zOk h
theorem all_nil {p : Fact → Prop} : ∀ x ∈ ([] : List Fact), p x := fun _ h => absurd h (by simp)
theorem all_cons {p : Fact → Prop} {a : Fact} {l : List Fact} (h : p a) (hl : ∀ x ∈ l, p x) : ∀ x ∈ a :: l, p x := fun x hx => by
  rcases List.mem_cons.1 hx with rfl | hx
  · exact h
  · exact hl x hx
theorem fact_all : ∀ x ∈ facts, FactOk E0 Tryz.prog x :=
  all_cons (good ok0) (all_cons (good ok1) (all_cons (good ok2) (all_cons (good ok3) (all_cons (good ok4) (all_cons (good ok5) (all_cons (good ok6) (all_cons (good ok7) (all_cons (good ok8) (all_cons (good ok9) all_nil)))))))))

theorem awakeOk : FactOk E0 Tryz.prog ⟨7, [], .bool true⟩ := by
  have h : FactOk (E0.knows facts) Tryz.prog ⟨7, [], .bool true⟩ := okFact_ok (E := E0.knows facts) ⟨tOk.1⟩ follows (knows_F fOk) (knows_calls fact_all zOk) awakeFact
  exact h.env rfl
end Go.Vm.Seat
