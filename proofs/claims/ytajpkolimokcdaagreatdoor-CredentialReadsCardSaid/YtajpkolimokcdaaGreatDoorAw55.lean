/-
  The calls of the examples of the credentials, one by one. The examples of the credentials hold in every world.
-/
import Derived.Test.YtajpkolimokcdaaGreatDoorAwOr
import Derived.Test.YtajpkolimokcdaaGreatDoorStCmp
namespace Go.Vm.Seat
open Go.Proofs
set_option maxRecDepth 100000
def cfact0 : Fact := ⟨36, [.int .u8 1], .agg [.int .i64 3, .str [112, 107], .int .i64 0, .sl .none 4 [[.int .i64 3, .str [115, 107], .int .i64 0, .sl .none 4 [[.int .i64 2, .str [97], .int .i64 1, .nils]]]]]⟩
theorem cok0 : okFact E0 100 60 cfact0 = true := by kernel_rfl
def cfact1 : Fact := ⟨37, [.int .u8 0], .agg [.int .i64 3, .str [115, 107], .int .i64 0, .sl .none 4 [[.int .i64 2, .str [114], .int .i64 1, .nils]]]⟩
theorem cok1 : okFact E0 100 60 cfact1 = true := by kernel_rfl
def cfact2 : Fact := ⟨11, [.agg [.str [97], .int .i64 3, .str [112, 107], .int .i64 0, .sl .none 4 [[.int .i64 3, .str [115, 107], .int .i64 0, .sl .none 4 [[.int .i64 2, .str [97], .int .i64 1, .nils]]]], .bool false, .nils, .nils, .int .i64 1, .int .i64 0, .int .i64 9], .agg [.int .i64 3, .str [115, 107], .int .i64 0, .sl .none 4 [[.int .i64 2, .str [114], .int .i64 1, .nils]]]], .tup [.agg [.int .i64 3, .str [115, 105, 103, 110], .int .i64 0, .sl .none 4 [[.int .i64 3, .str [112, 97, 105, 114], .int .i64 0, .sl .none 4 [[.int .i64 2, .str [99, 101, 114, 116], .int .i64 5, .nils], [.int .i64 3, .str [112, 97, 105, 114], .int .i64 0, .sl .none 4 [[.int .i64 3, .str [112, 97, 105, 114], .int .i64 0, .sl .none 4 [[.int .i64 2, .str [97], .int .i64 4, .nils], [.int .i64 2, .str [101, 110, 100], .int .i64 5, .nils]]], [.int .i64 3, .str [112, 97, 105, 114], .int .i64 0, .sl .none 4 [[.int .i64 3, .str [112, 107], .int .i64 0, .sl .none 4 [[.int .i64 3, .str [115, 107], .int .i64 0, .sl .none 4 [[.int .i64 2, .str [97], .int .i64 1, .nils]]]]], [.int .i64 3, .str [112, 97, 105, 114], .int .i64 0, .sl .none 4 [[.int .i64 2, .str [110, 111], .int .i64 4, .nils], [.int .i64 3, .str [112, 97, 105, 114], .int .i64 0, .sl .none 4 [[.int .i64 2, .str [101, 110, 100], .int .i64 5, .nils], [.int .i64 3, .str [112, 97, 105, 114], .int .i64 0, .sl .none 4 [[.int .i64 2, .str [101, 110, 100], .int .i64 5, .nils], [.int .i64 3, .str [112, 97, 105, 114], .int .i64 0, .sl .none 4 [[.int .i64 2, .str [110, 49], .int .i64 4, .nils], [.int .i64 3, .str [112, 97, 105, 114], .int .i64 0, .sl .none 4 [[.int .i64 2, .str [110, 48], .int .i64 4, .nils], [.int .i64 2, .str [110, 57], .int .i64 4, .nils]]]]]]]]]]]]]]]]], [.int .i64 3, .str [115, 107], .int .i64 0, .sl .none 4 [[.int .i64 2, .str [114], .int .i64 1, .nils]]]]], .int .i64 0]⟩
theorem cok2 : okFact E0 100 60 cfact2 = true := by kernel_rfl
def cfact3 : Fact := ⟨38, [.str [115, 105, 103, 110, 40, 112, 97, 105, 114, 40, 99, 101, 114, 116, 58, 116, 97, 103, 44, 32, 112, 97, 105, 114, 40, 112, 97, 105, 114, 40, 97, 58, 100, 97, 116, 97, 44, 32, 101, 110, 100, 58, 116, 97, 103, 41, 44, 32, 112, 97, 105, 114, 40, 112, 107, 40, 115, 107, 40, 97, 58, 97, 103, 101, 110, 116, 41, 41, 44, 32, 112, 97, 105, 114, 40, 110, 111, 58, 100, 97, 116, 97, 44, 32, 112, 97, 105, 114, 40, 101, 110, 100, 58, 116, 97, 103, 44, 32, 112, 97, 105, 114, 40, 101, 110, 100, 58, 116, 97, 103, 44, 32, 112, 97, 105, 114, 40, 110, 49, 58, 100, 97, 116, 97, 44, 32, 112, 97, 105, 114, 40, 110, 48, 58, 100, 97, 116, 97, 44, 32, 110, 57, 58, 100, 97, 116, 97, 41, 41, 41, 41, 41, 41, 41, 41, 44, 32, 115, 107, 40, 114, 58, 97, 103, 101, 110, 116, 41, 41]], .tup [.agg [.int .i64 3, .str [115, 105, 103, 110], .int .i64 0, .sl .none 4 [[.int .i64 3, .str [112, 97, 105, 114], .int .i64 0, .sl .none 4 [[.int .i64 2, .str [99, 101, 114, 116], .int .i64 5, .nils], [.int .i64 3, .str [112, 97, 105, 114], .int .i64 0, .sl .none 4 [[.int .i64 3, .str [112, 97, 105, 114], .int .i64 0, .sl .none 4 [[.int .i64 2, .str [97], .int .i64 4, .nils], [.int .i64 2, .str [101, 110, 100], .int .i64 5, .nils]]], [.int .i64 3, .str [112, 97, 105, 114], .int .i64 0, .sl .none 4 [[.int .i64 3, .str [112, 107], .int .i64 0, .sl .none 4 [[.int .i64 3, .str [115, 107], .int .i64 0, .sl .none 4 [[.int .i64 2, .str [97], .int .i64 1, .nils]]]]], [.int .i64 3, .str [112, 97, 105, 114], .int .i64 0, .sl .none 4 [[.int .i64 2, .str [110, 111], .int .i64 4, .nils], [.int .i64 3, .str [112, 97, 105, 114], .int .i64 0, .sl .none 4 [[.int .i64 2, .str [101, 110, 100], .int .i64 5, .nils], [.int .i64 3, .str [112, 97, 105, 114], .int .i64 0, .sl .none 4 [[.int .i64 2, .str [101, 110, 100], .int .i64 5, .nils], [.int .i64 3, .str [112, 97, 105, 114], .int .i64 0, .sl .none 4 [[.int .i64 2, .str [110, 49], .int .i64 4, .nils], [.int .i64 3, .str [112, 97, 105, 114], .int .i64 0, .sl .none 4 [[.int .i64 2, .str [110, 48], .int .i64 4, .nils], [.int .i64 2, .str [110, 57], .int .i64 4, .nils]]]]]]]]]]]]]]]]], [.int .i64 3, .str [115, 107], .int .i64 0, .sl .none 4 [[.int .i64 2, .str [114], .int .i64 1, .nils]]]]], .int .i64 0]⟩
theorem cok3 : okFact E0 100 60 cfact3 = true := by kernel_rfl
def cfact4 : Fact := ⟨13, [.agg [.int .i64 3, .str [115, 105, 103, 110], .int .i64 0, .sl .none 4 [[.int .i64 3, .str [112, 97, 105, 114], .int .i64 0, .sl .none 4 [[.int .i64 2, .str [99, 101, 114, 116], .int .i64 5, .nils], [.int .i64 3, .str [112, 97, 105, 114], .int .i64 0, .sl .none 4 [[.int .i64 3, .str [112, 97, 105, 114], .int .i64 0, .sl .none 4 [[.int .i64 2, .str [97], .int .i64 4, .nils], [.int .i64 2, .str [101, 110, 100], .int .i64 5, .nils]]], [.int .i64 3, .str [112, 97, 105, 114], .int .i64 0, .sl .none 4 [[.int .i64 3, .str [112, 107], .int .i64 0, .sl .none 4 [[.int .i64 3, .str [115, 107], .int .i64 0, .sl .none 4 [[.int .i64 2, .str [97], .int .i64 1, .nils]]]]], [.int .i64 3, .str [112, 97, 105, 114], .int .i64 0, .sl .none 4 [[.int .i64 2, .str [110, 111], .int .i64 4, .nils], [.int .i64 3, .str [112, 97, 105, 114], .int .i64 0, .sl .none 4 [[.int .i64 2, .str [101, 110, 100], .int .i64 5, .nils], [.int .i64 3, .str [112, 97, 105, 114], .int .i64 0, .sl .none 4 [[.int .i64 2, .str [101, 110, 100], .int .i64 5, .nils], [.int .i64 3, .str [112, 97, 105, 114], .int .i64 0, .sl .none 4 [[.int .i64 2, .str [110, 49], .int .i64 4, .nils], [.int .i64 3, .str [112, 97, 105, 114], .int .i64 0, .sl .none 4 [[.int .i64 2, .str [110, 48], .int .i64 4, .nils], [.int .i64 2, .str [110, 57], .int .i64 4, .nils]]]]]]]]]]]]]]]]], [.int .i64 3, .str [115, 107], .int .i64 0, .sl .none 4 [[.int .i64 2, .str [114], .int .i64 1, .nils]]]]], .agg [.int .i64 3, .str [115, 105, 103, 110], .int .i64 0, .sl .none 4 [[.int .i64 3, .str [112, 97, 105, 114], .int .i64 0, .sl .none 4 [[.int .i64 2, .str [99, 101, 114, 116], .int .i64 5, .nils], [.int .i64 3, .str [112, 97, 105, 114], .int .i64 0, .sl .none 4 [[.int .i64 3, .str [112, 97, 105, 114], .int .i64 0, .sl .none 4 [[.int .i64 2, .str [97], .int .i64 4, .nils], [.int .i64 2, .str [101, 110, 100], .int .i64 5, .nils]]], [.int .i64 3, .str [112, 97, 105, 114], .int .i64 0, .sl .none 4 [[.int .i64 3, .str [112, 107], .int .i64 0, .sl .none 4 [[.int .i64 3, .str [115, 107], .int .i64 0, .sl .none 4 [[.int .i64 2, .str [97], .int .i64 1, .nils]]]]], [.int .i64 3, .str [112, 97, 105, 114], .int .i64 0, .sl .none 4 [[.int .i64 2, .str [110, 111], .int .i64 4, .nils], [.int .i64 3, .str [112, 97, 105, 114], .int .i64 0, .sl .none 4 [[.int .i64 2, .str [101, 110, 100], .int .i64 5, .nils], [.int .i64 3, .str [112, 97, 105, 114], .int .i64 0, .sl .none 4 [[.int .i64 2, .str [101, 110, 100], .int .i64 5, .nils], [.int .i64 3, .str [112, 97, 105, 114], .int .i64 0, .sl .none 4 [[.int .i64 2, .str [110, 49], .int .i64 4, .nils], [.int .i64 3, .str [112, 97, 105, 114], .int .i64 0, .sl .none 4 [[.int .i64 2, .str [110, 48], .int .i64 4, .nils], [.int .i64 2, .str [110, 57], .int .i64 4, .nils]]]]]]]]]]]]]]]]], [.int .i64 3, .str [115, 107], .int .i64 0, .sl .none 4 [[.int .i64 2, .str [114], .int .i64 1, .nils]]]]]], .bool true⟩
def cfacts : List Fact := [cfact0, cfact1, cfact2, cfact3, cfact4]
end Go.Vm.Seat
namespace Go.Vm.Seat
open Go.Proofs
set_option maxRecDepth 100000
mutual
def okTm : Tm → Bool
  | .mk k nm s _ kids => (Lit.int .i64 k).wf && ((Lit.int .i64 s).wf && (Nat.ble nm.length 1000 && (Nat.ble kids.length 1000 && okTmL kids)))
def okTmL : List Tm → Bool
  | [] => true
  | t :: r => okTm t && okTmL r
end
mutual
theorem okTm_ok : ∀ t : Tm, okTm t = true → t.Ok
  | .mk k nm s b kids, h => by
    simp only [okTm, Bool.and_eq_true, Nat.ble_eq] at h
    obtain ⟨h1, h2, h3, h4, h5⟩ := h
    exact .mk h1 h2 (by unfold maxLen; omega) (by unfold maxLen; omega) (okTmL_ok kids h5)
theorem okTmL_ok : ∀ l : List Tm, okTmL l = true → ∀ t, t ∈ l → t.Ok
  | [], _, t, h => absurd h (by simp)
  | a :: r, h, t, ht => by
    simp only [okTmL, Bool.and_eq_true] at h
    rcases List.mem_cons.1 ht with e | ht
    · rw [e]; exact okTm_ok a h.1
    · exact okTmL_ok r h.2 t ht
end
def exT : Tm := (.mk 3 [115, 105, 103, 110] 0 false [(.mk 3 [112, 97, 105, 114] 0 false [(.mk 2 [99, 101, 114, 116] 5 true []), (.mk 3 [112, 97, 105, 114] 0 false [(.mk 3 [112, 97, 105, 114] 0 false [(.mk 2 [97] 4 true []), (.mk 2 [101, 110, 100] 5 true [])]), (.mk 3 [112, 97, 105, 114] 0 false [(.mk 3 [112, 107] 0 false [(.mk 3 [115, 107] 0 false [(.mk 2 [97] 1 true [])])]), (.mk 3 [112, 97, 105, 114] 0 false [(.mk 2 [110, 111] 4 true []), (.mk 3 [112, 97, 105, 114] 0 false [(.mk 2 [101, 110, 100] 5 true []), (.mk 3 [112, 97, 105, 114] 0 false [(.mk 2 [101, 110, 100] 5 true []), (.mk 3 [112, 97, 105, 114] 0 false [(.mk 2 [110, 49] 4 true []), (.mk 3 [112, 97, 105, 114] 0 false [(.mk 2 [110, 48] 4 true []), (.mk 2 [110, 57] 4 true [])])])])])])])])]), (.mk 3 [115, 107] 0 false [(.mk 2 [114] 1 true [])])])
theorem exOk : exT.Ok := okTm_ok exT (by kernel_rfl)
theorem exSize : Nat.ble exT.size 1000 = true := by kernel_rfl
theorem exArgs : cfact4.args = [.agg exT.cells, .agg exT.cells] := by kernel_rfl
theorem cgood4 : FactOk E0 Tryz.prog cfact4 := fun H => by
  have h := c13s exOk (by have := Nat.le_of_ble_eq_true exSize; omega) H
  rw [← exArgs] at h
  exact h
theorem cgood {x : Fact} (h : okFact E0 100 60 x = true) : FactOk E0 Tryz.prog x := okFact_ok tOk follows fOk zOk h
theorem call_nil {p : Fact → Prop} : ∀ x ∈ ([] : List Fact), p x := fun _ h => absurd h (by simp)
theorem call_cons {p : Fact → Prop} {a : Fact} {l : List Fact} (h : p a) (hl : ∀ x ∈ l, p x) : ∀ x ∈ a :: l, p x := fun x hx => by
  rcases List.mem_cons.1 hx with rfl | hx
  · exact h
  · exact hl x hx
theorem cfact_all : ∀ x ∈ cfacts, FactOk E0 Tryz.prog x :=
  call_cons (cgood cok0) (call_cons (cgood cok1) (call_cons (cgood cok2) (call_cons (cgood cok3) (call_cons cgood4 call_nil))))
theorem awakeFact5 : okFact (E0.knows cfacts) 100 60 ⟨8, [], .bool true⟩ = true := by kernel_rfl
theorem awakeOk5 : FactOk E0 Tryz.prog ⟨8, [], .bool true⟩ := by
  have h : FactOk (E0.knows cfacts) Tryz.prog ⟨8, [], .bool true⟩ := okFact_ok (E := E0.knows cfacts) ⟨tOk.1⟩ follows (knows_F fOk) (knows_calls cfact_all zOk) awakeFact5
  exact h.env rfl
end Go.Vm.Seat
