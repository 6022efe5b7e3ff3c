/-
  The environment of the evaluator at this seat.
-/
import Derived.Test.YtgmafijeepapbaaGreatDoorAwTab
import Derived.Test.YtgmafijeepapbaaGreatDoorVe
namespace Go.Vm.Seat
open Go.Proofs
noncomputable def zl : List (Nat × ZF) := [(216, idxZ), (86, joinZ), (82, ccZ 77), (49, bstrZ 77), (150, cmpZ)]
def wordsC : List PV := [.sl .none 1 [[.str [97, 110, 121]], [.str [97, 103, 101, 110, 116]], [.str [110, 111, 110, 99, 101]], [.str [107, 101, 121]], [.str [100, 97, 116, 97]], [.str [116, 97, 103]]]]
def pow10C : List PV := [.int .u64 1, .int .u64 10, .int .u64 100, .int .u64 1000, .int .u64 10000, .int .u64 100000, .int .u64 1000000, .int .u64 10000000, .int .u64 100000000, .int .u64 1000000000, .int .u64 10000000000, .int .u64 100000000000, .int .u64 1000000000000, .int .u64 10000000000000, .int .u64 100000000000000, .int .u64 1000000000000000, .int .u64 10000000000000000, .int .u64 100000000000000000, .int .u64 1000000000000000000, .int .u64 10000000000000000000]
noncomputable def E0 : Env where
  T := getT tabT
  F := fun f => match hasZ zl f with | true => none | false => getF tabF f
  G := fun k => (match Nat.beq k 1 with | true => some wordsC | false => none)
  Z := findZ zl
  eff := fun f => [29, 30, 60, 94, 32, 59, 58, 91, 134, 47, 184, 82, 49, 87].any (Nat.beq f)
  own := fun f d => [(59, 24), (59, 50), (58, 18), (29, 7), (28, 5014)].any fun x => Nat.beq f x.1 && Nat.beq d x.2
  tyd := fun t => Nat.beq t 77

theorem tOk : TOk E0 Tryz.prog := ⟨fun _ _ h => getT_ok h⟩
theorem fOk : FOk E0 Tryz.prog := fun f fn c h hb => by
  simp only [E0] at h
  split at h
  · cases h
  · exact getF_ok h hb
theorem follows : Tryz.prog.follows .mixedOrders = true := by kernel_rfl
end Go.Vm.Seat
