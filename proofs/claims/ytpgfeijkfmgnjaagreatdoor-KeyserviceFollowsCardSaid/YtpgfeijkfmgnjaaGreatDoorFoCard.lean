/-
  The card of KeyserviceFollows: for any changes and any byte the law returns true
-/
import Derived.Test.YtpgfeijkfmgnjaaGreatDoorFoCb
import Derived.Test.YtpgfeijkfmgnjaaGreatDoorFoCj
namespace Go.Proofs.YtpgfeijkfmgnjaaGreatDoor.keyserviceFollows
open Go.ChangeShapes Go.WideShapes Go.ChangeAt Go.RowKit Go.Vm Go.Vm.Seat
theorem said:Rows.KeyserviceFollowsSaid:=
 OpenClaim.holds_of_cond 3 Tryz.f3 rfl rfl rfl rfl rfl rfl rfl ⟨rfl,rfl,rfl,rfl,rfl⟩ rfl rfl rfl rfl rfl (by kernel_rfl) Tryz.func3 closed
  (of_decide_eq_true (by kernel_rfl)) (by unfold Func.isWrapper;first|(rw [if_pos (by decide +kernel)];kernel_rfl)|(rw [if_neg (by decide +kernel)];exact ⟨rfl,rfl⟩))
  (fun os started H enc _ F=>by rw [OpenClaim.pre_eq_preRow];exact lifted os started H enc F)
theorem plain (f:FuncId) (fn:Func) (hf:Tryz.pinned.checked.prog.funcNamed "sealring/sealringlaw57.KeyserviceFollows" = some f) (hfn:Tryz.pinned.checked.prog.funcs[f]? = some fn) :
  true=Tryz.pinned.checked.prog.looks []∧∀ (j:Nat) t,fn.params[j]? = some t→Tryz.pinned.checked.prog.wantsStandIn t=false:=by
 obtain rfl:f=3:=Option.some.inj ((show Tryz.prog.funcNamed "sealring/sealringlaw57.KeyserviceFollows" = some 3 by kernel_rfl).symm.trans hf) |>.symm
 obtain rfl:fn=Tryz.f3:=(Option.some.inj (Tryz.func3.symm.trans hfn)).symm
 refine ⟨by kernel_rfl,fun j t ht=>?_⟩
 rw [Tryz.params3] at ht
 match j,ht with
 | 0, ht => obtain rfl : 22 = t := by simpa using ht
            exact (show Tryz.prog.wantsStandIn 22=false by kernel_rfl)
 | 1, ht => obtain rfl : 5 = t := by simpa using ht
            exact (show Tryz.prog.wantsStandIn 5=false by kernel_rfl)
theorem card:Rows.KeyserviceFollowsCardSaid:=
 Claim7.holds_tied_plain_at .later [] _ _ _ _ said (fun _ h=>by cases h) (by kernel_rfl) (fun _ h=>by cases h) keyserviceFollows_row_tie rfl ⟨rfl,rfl⟩ (by kernel_rfl) rfl plain (by kernel_rfl)
