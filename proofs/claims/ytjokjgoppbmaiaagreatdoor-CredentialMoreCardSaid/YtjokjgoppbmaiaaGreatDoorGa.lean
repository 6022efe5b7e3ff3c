/-
  The key of a name in a log: keyservice.Current, and the reference's. The ledger of the program: copies, heads, the reading of proofs. The ledger of the program: the reading of proofs of inclusion. The signed head of a log, and the heads that the document builds.
-/
import Derived.Test.YtjokjgoppbmaiaaGreatDoorDf
import Derived.Test.YtjokjgoppbmaiaaGreatDoorFi
namespace Go.Vm.Seat
open Go.Proofs
set_option maxRecDepth 100000
end Go.Vm.Seat
namespace Go.Vm.Seat
open Go.Proofs
set_option maxRecDepth 100000
end Go.Vm.Seat
namespace Go.Vm.Seat
open Go.Proofs
set_option maxRecDepth 100000
theorem okN {nm : Bs} (hn : nm.length ≤ 1000) {l : List Tm} (hl : l.length ≤ 1000) (h : ∀ t, t ∈ l → t.Ok) : (Tm.mk 3 nm 0 true l).Ok := .mk (by decide) (by decide) (by unfold maxLen; omega) (by unfold maxLen; omega) h
theorem ok1 {nm : Bs} (hn : nm.length ≤ 1000) {x : Tm} (hx : x.Ok) : (Tm.mk 3 nm 0 true [x]).Ok := okN hn (by simp) fun t ht => by
 obtain rfl : t = x := by simpa using ht
 exact hx
end Go.Vm.Seat
namespace Go.Vm.Seat
open Go.Proofs
set_option maxRecDepth 100000
theorem lss_t {a b : Int} (h : a < b) : aBin E0 .lss 3 (.int .i64 a) (.int .i64 b) = some (.bool true) := by
 show some (PV.bool (decide (a < b))) = _
 rw [decide_eq_true h]
theorem lss_f {a b : Int} (h : ¬ a < b) : aBin E0 .lss 3 (.int .i64 a) (.int .i64 b) = some (.bool false) := by
 show some (PV.bool (decide (a < b))) = _
 rw [decide_eq_false h]
theorem gtr_t {a b : Int} (h : b < a) : aBin E0 .gtr 3 (.int .i64 a) (.int .i64 b) = some (.bool true) := by
 show some (PV.bool (decide (b < a))) = _
 rw [decide_eq_true h]
theorem gtr_f {a b : Int} (h : ¬ b < a) : aBin E0 .gtr 3 (.int .i64 a) (.int .i64 b) = some (.bool false) := by
 show some (PV.bool (decide (b < a))) = _
 rw [decide_eq_false h]
theorem err_eq (e : Int) : aBin E0 .neq 31 (.int .i64 e) (.int .i64 0) = some (.bool (decide (e ≠ 0))) := by
 show some (PV.bool (!(e == 0))) = _
 by_cases h : e = 0 <;> simp [h]
end Go.Vm.Seat
