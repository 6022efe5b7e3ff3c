/-
  The card of KeyserviceAnswer: for any changes, any name and any size the law returns true. Conditions: none beyond the statement's own.
-/
import Derived.Test.YtkaocdljkonfaaaGreatDoorQAsCj
namespace Go.Proofs.YtkaocdljkonfaaaGreatDoor.keyserviceAnswer
open Go.ChangeShapes Go.WideShapes Go.ChangeAt Go.RowKit Go.Vm Go.Vm.Seat
theorem said:Rows.KeyserviceAnswerSaid:=
 OpenClaim.holds_of_cond 4 Tryz.f4 rfl rfl rfl rfl rfl rfl rfl ⟨rfl,rfl,rfl,rfl,rfl⟩ rfl rfl rfl rfl rfl (by kernel_rfl) Tryz.func4 closed
  (of_decide_eq_true (by kernel_rfl)) (by unfold Func.isWrapper;first|(rw [if_pos (by decide +kernel)];kernel_rfl)|(rw [if_neg (by decide +kernel)];exact ⟨rfl,rfl⟩))
  (fun os started H enc _ F=>by rw [OpenClaim.pre_eq_preRow];exact lifted os started H enc F)
theorem plain (f:FuncId) (fn:Func) (hf:Tryz.pinned.checked.prog.funcNamed "sealring/sealringlaw57.KeyserviceAnswer" = some f) (hfn:Tryz.pinned.checked.prog.funcs[f]? = some fn) :
  true=Tryz.pinned.checked.prog.looks []∧∀ (j:Nat) t,fn.params[j]? = some t→Tryz.pinned.checked.prog.wantsStandIn t=false:=by
 obtain rfl:f=4:=Option.some.inj ((show Tryz.prog.funcNamed "sealring/sealringlaw57.KeyserviceAnswer" = some 4 by kernel_rfl).symm.trans hf) |>.symm
 obtain rfl:fn=Tryz.f4:=(Option.some.inj (Tryz.func4.symm.trans hfn)).symm
 refine ⟨by kernel_rfl,fun j t ht=>?_⟩
 rw [Tryz.params4] at ht
 match j,ht with
 | 0, ht => obtain rfl : 40 = t := by simpa using ht
            exact (show Tryz.prog.wantsStandIn 40=false by kernel_rfl)
 | 1, ht => obtain rfl : 9 = t := by simpa using ht
            exact (show Tryz.prog.wantsStandIn 9=false by kernel_rfl)
 | 2, ht => obtain rfl : 3 = t := by simpa using ht
            exact (show Tryz.prog.wantsStandIn 3=false by kernel_rfl)
theorem card:Rows.KeyserviceAnswerCardSaid:=
 Claim7.holds_tied_plain_at .later [] _ _ _ _ said (fun _ h=>by cases h) (by kernel_rfl) (fun _ h=>by cases h) keyserviceAnswer_row_tie rfl ⟨rfl,rfl⟩ (by kernel_rfl) rfl plain (by kernel_rfl)
end Go.Proofs.YtkaocdljkonfaaaGreatDoor.keyserviceAnswer
