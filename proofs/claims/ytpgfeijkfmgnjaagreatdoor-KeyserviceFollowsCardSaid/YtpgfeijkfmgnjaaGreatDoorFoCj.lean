/-
  KeyserviceFollows: what the row asks of the program, piece by piece.
-/
import Derived.Test.YtpgfeijkfmgnjaaGreatDoorFoCa
set_option maxHeartbeats 0
set_option maxRecDepth 100000
namespace Go.Proofs.YtpgfeijkfmgnjaaGreatDoor.keyserviceFollows
open Go.ChangeShapes Go.WideShapes Go.ChangeAt Go.RowKit Go.Vm Go.Vm.Seat
theorem ZuF {a b:Bool} (h1:a=true) (h2:b=true):(a&&b)=true:=by rw [h1,h2];rfl
theorem closed:joinedFacts Tryz.pinned.checked.prog 3 Tryz.f3 (OpenSpec.ofChange Rows.keyserviceFollowsSpec).bare Rows.keyserviceFollowsRow=true:=by
 unfold joinedFacts
 repeat' (with_reducible apply ZuF)
 all_goals decide +kernel
