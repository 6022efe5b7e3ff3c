/-
  The environment of the evaluator at this seat.
-/
import Derived.Test.YthkpihmifojnoaaGreatDoorAwTab
namespace Go.Vm.Seat
open Go.Proofs

def idxB : List UInt8 → Int → Nat → Int
  | [], _, _ => -1
  | b :: r, c, i => if (b.toNat : Int) = c then i else idxB r c (i + 1)

/-- Insertion of two elements ahead of the one of a slice that a box holds: the box is dead after it, a new one holds the result. -/
noncomputable def insOk (ro id es ix len : Nat) (k : IntKind) (i : Int) (id2 es2 ix2 len2 : Nat) : Bool :=
  Nat.beq es 7 && (Nat.beq ix 0 && (Nat.beq len 1 && (Nat.beq es2 7 && (Nat.beq ix2 0 && (Nat.beq len2 2 && (decide (k = .i64) && (decide (i = 0) && (Nat.ble ro id && !Nat.beq id id2))))))))
noncomputable def insZ (args : List PV) (H : Heap) : Option (PV × Heap) := match args with
  | [.own id es ix len, .int k i, .own id2 es2 ix2 len2] => match insOk H.ro id es ix len k i id2 es2 ix2 len2 with
    | true => match nth H.bx id, nth H.bx id2 with
      | some (.cells e1 [c0]), some (.cells e2 [y0, y1]) => match Nat.beq e1 7 && (Nat.beq e2 7 && (c0.all cellOk && (y0.all cellOk && y1.all cellOk))) with
        | true => some (.own H.bx.length 7 0 3, { H with bx := (H.bx.set id .dead) ++ [.cells 7 [y0, y1, c0]] })
        | false => none
      | _, _ => none
    | false => none
  | _ => none
def cntB : List UInt8 → Int → Int
  | [], _ => 0
  | b :: r, c => if (b.toNat : Int) = c then cntB r c + 1 else cntB r c
noncomputable def cntZ (args : List PV) (H : Heap) : Option (PV × Heap) := match args with
  | [.str s, .int k c] => match decide (k = .u8) && (decide (0 ≤ c) && decide (c ≤ 255)) with
    | true => some (.int .i64 (cntB s c), H)
    | false => none
  | _ => none
noncomputable def idxZ (args : List PV) (H : Heap) : Option (PV × Heap) := match args with
  | [.str s, .int k c] => match decide (k = .u8) && (decide (0 ≤ c) && decide (c ≤ 255)) with
    | true => some (.int .i64 (idxB s c 0), H)
    | false => none
  | _ => none

noncomputable def E0 : Env where
  T := getT tabT
  F := fun f => match Nat.beq f 51 with | true => none | false => getF tabF f
  G := fun _ => none
  Z := fun f args H => match Nat.beq f 258 with
    | true => idxZ args H
    | false => match Nat.beq f 51 with
      | true => insZ args H
      | false => match Nat.beq f 253 with
        | true => cntZ args H
        | false => none
  eff := fun f => [37, 42, 84, 88, 89, 90, 91, 92, 135, 161, 51, 198, 251].any (Nat.beq f)
  own := fun f d => (Nat.beq f 90 && Nat.beq d 7) || (Nat.beq f 37 && Nat.ble 5000 d) || (Nat.beq f 11 && Nat.beq d 72) || (Nat.beq f 204 && Nat.beq d 31)

theorem tOk : TOk E0 Tryz.prog := ⟨fun _ _ h => getT_ok h⟩
theorem fOk : FOk E0 Tryz.prog := fun f fn c h hb => by
  simp only [E0] at h
  split at h
  · cases h
  · exact getF_ok h hb
theorem follows : Tryz.prog.follows .mixedOrders = true := by kernel_rfl
end Go.Vm.Seat
