/-
  From a call that is known of values to the call of a statement's function.
-/
import Derived.Test.YthkpihmifojnoaaGreatDoorVmRd
import Derived.RowKit3
namespace Go.Vm
open Go.RowKit

section
variable {E : Env} {P : Program} {w : World}

def wG (w : World) : Gh := { S := wS w, σ := fun _ => none, τ := fun _ => none, κ := fun _ => 0 }

theorem wG_inv (w : World) : Inv (wG w) hNil w where
  st _ _ _ h := h
  bx id es el h := by simp [hNil] at h
  mp id es h := by simp [hNil] at h
  inj i j b h := (nil_live h).elim
  sd _ _ := rfl
  td _ _ := rfl
  tk t b lo hi' h := by simp [hNil] at h
  tinj t t' b lo hi' lo' hi2 h := by simp [hNil] at h
  nd := List.nodup_nil
  lt t h := by simp [hNil] at h
  sz id b h := by simp [wG] at h
  ro := Nat.le_refl _
  rm id b c T m h := (nil_live h).elim

theorem grown_of_keep {g g' : Gh} {H' : Heap} {w' : World} (k : Keep g hNil w g' H' w') : Grown w w' := by
  refine ⟨⟨k.so.1, k.so.2, fun i hi => ?_⟩, k.fz, k.size⟩
  rw [k.heap i hi (nil_shut g i)]
  cases w.heap[i]? with
  | none => trivial
  | some o => cases o <;> simp

/-- The code of a statement's function, by what it comes to at the arguments' cells. -/
theorem calls_of {f : FuncId} {fn : Func} {c : Code} (hf : FnOk P f fn c) (hG : E.G = fun _ => none) {args : List PV} {r : PV} (h : CallOk E P f args hNil r hNil) {vals : Array Value} (hv : CellsOf (wS w) args vals.toList) :
    Calls P f vals w fun e w' => ∃ v, e = .returned v ∧ (∃ g', V g' r v) ∧ Grown w w' := by
  have hu := h (wG w) w vals (wG_inv w) (fun k cs e => by rw [hG] at e; cases e) ⟨hv.1, fun i h1 h2 => .pure _ _ (hv.2 i h1 h2)⟩
  rw [callFunc_enter hf] at hu
  exact Calls.mono hu fun e w' ⟨v, e1, g', hp, _, k⟩ => ⟨v, e1, ⟨g', hp⟩, grown_of_keep k⟩
end
end Go.Vm
