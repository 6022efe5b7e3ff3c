/-
  The card of KeyserviceCurrent: for any log and any name the law returns true. Conditions: none beyond the statement's own.
-/
import Derived.Test.YtajpkolimokcdaaGreatDoorKcCj
namespace Go.Proofs.YtajpkolimokcdaaGreatDoor.keyserviceCurrent
open Go.ChangeShapes Go.WideShapes Go.ChangeAt Go.RowKit Go.Vm Go.Vm.Seat
theorem said : Rows.KeyserviceCurrentSaid :=
 OpenClaim.holds_of_cond 7 Tryz.f7 rfl rfl rfl rfl rfl rfl rfl ⟨rfl, rfl, rfl, rfl, rfl⟩ rfl rfl rfl rfl rfl (by kernel_rfl) Tryz.func7 closed
  (of_decide_eq_true (by kernel_rfl)) (by unfold Func.isWrapper; first | (rw [if_pos (by decide +kernel)]; kernel_rfl) | (rw [if_neg (by decide +kernel)]; exact ⟨rfl, rfl⟩))
  (fun os started H enc _ F => by rw [OpenClaim.pre_eq_preRow]; exact lifted os started H enc F)
theorem plain (f : FuncId) (fn : Func) (hf : Tryz.pinned.checked.prog.funcNamed "sealring/sealringlaw57.KeyserviceCurrent" = some f) (hfn : Tryz.pinned.checked.prog.funcs[f]? = some fn) :
  true = Tryz.pinned.checked.prog.looks [] ∧ ∀ (j : Nat) t, fn.params[j]? = some t → Tryz.pinned.checked.prog.wantsStandIn t = false := by
 obtain rfl : f = 7 := Option.some.inj ((show Tryz.prog.funcNamed "sealring/sealringlaw57.KeyserviceCurrent" = some 7 by kernel_rfl).symm.trans hf) |>.symm
 obtain rfl : fn = Tryz.f7 := (Option.some.inj (Tryz.func7.symm.trans hfn)).symm
 refine ⟨by kernel_rfl, fun j t ht => ?_⟩
 rw [Tryz.params7] at ht
 match j, ht with
 | 0, ht => obtain rfl : 22 = t := by simpa using ht
            exact (show Tryz.prog.wantsStandIn 22 = false by kernel_rfl)
 | 1, ht => obtain rfl : 9 = t := by simpa using ht
            exact (show Tryz.prog.wantsStandIn 9 = false by kernel_rfl)
theorem card : Rows.KeyserviceCurrentCardSaid :=
 Claim7.holds_tied_plain_at .later [] _ _ _ _ said (fun _ h => by cases h) (by kernel_rfl) (fun _ h => by cases h) keyserviceCurrent_row_tie rfl ⟨rfl, rfl⟩ (by kernel_rfl) rfl plain (by kernel_rfl)
end Go.Proofs.YtajpkolimokcdaaGreatDoor.keyserviceCurrent
