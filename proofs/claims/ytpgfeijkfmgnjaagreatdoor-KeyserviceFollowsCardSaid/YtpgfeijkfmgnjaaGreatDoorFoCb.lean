/-
  KeyserviceFollows: a world for the witness; the row is lifted over all starts.
-/
import Derived.Test.YtpgfeijkfmgnjaaGreatDoorFoCa
namespace Go.Proofs.YtpgfeijkfmgnjaaGreatDoor.keyserviceFollows
open Go.ChangeShapes Go.WideShapes Go.ChangeAt Go.RowKit Go.Vm Go.Vm.Seat
noncomputable def lay (c:Array Value):Obj→Obj
 | .cells _ t frozen=> .cells c t frozen
 |o=>o
noncomputable def Zax (os:Os):World:=
 { World.holding Tryz.prog os ⟨#[], #[], []⟩ with
   heap:=((((((((((World.holding Tryz.prog os ⟨#[], #[],[]⟩).heap.modify 6 (lay #[.int .u8 0,.int .u8 1,.int .u8 28,.int .u8 2,.int .u8 29,.int .u8 14,.int .u8 24,.int .u8 3,.int .u8 30,.int .u8 22,.int .u8 20,.int .u8 15,.int .u8 25,.int .u8 17,.int .u8 4,.int .u8 8,.int .u8 31,.int .u8 27,.int .u8 13,.int .u8 23,.int .u8 21,.int .u8 19,.int .u8 16,.int .u8 7,.int .u8 26,.int .u8 12,.int .u8 18,.int .u8 6,.int .u8 11,.int .u8 5,.int .u8 10,.int .u8 9])).modify 7 (lay #[.int .u8 0,.int .u8 1,.int .u8 56,.int .u8 2,.int .u8 57,.int .u8 49,.int .u8 28,.int .u8 3,.int .u8 61,.int .u8 58,.int .u8 42,.int .u8 50,.int .u8 38,.int .u8 29,.int .u8 17,.int .u8 4,.int .u8 62,.int .u8 47,.int .u8 59,.int .u8 36,.int .u8 45,.int .u8 43,.int .u8 51,.int .u8 22,.int .u8 53,.int .u8 39,.int .u8 33,.int .u8 30,.int .u8 24,.int .u8 18,.int .u8 12,.int .u8 5,.int .u8 63,.int .u8 55,.int .u8 48,.int .u8 27,.int .u8 60,.int .u8 41,.int .u8 37,.int .u8 16,.int .u8 46,.int .u8 35,.int .u8 44,.int .u8 21,.int .u8 52,.int .u8 32,.int .u8 23,.int .u8 11,.int .u8 54,.int .u8 26,.int .u8 40,.int .u8 15,.int .u8 34,.int .u8 20,.int .u8 31,.int .u8 10,.int .u8 25,.int .u8 14,.int .u8 19,.int .u8 9,.int .u8 13,.int .u8 8,.int .u8 7,.int .u8 6])).modify 3 (lay #[.int .u64 1,.int .u64 10,.int .u64 100,.int .u64 1000,.int .u64 10000,.int .u64 100000,.int .u64 1000000,.int .u64 10000000,.int .u64 100000000,.int .u64 1000000000,.int .u64 10000000000,.int .u64 100000000000,.int .u64 1000000000000,.int .u64 10000000000000,.int .u64 100000000000000,.int .u64 1000000000000000,.int .u64 10000000000000000,.int .u64 100000000000000000,.int .u64 1000000000000000000,.int .u64 10000000000000000000])).modify 5 (lay #[.int .u8 128,.int .u8 191,.int .u8 160,.int .u8 191,.int .u8 128,.int .u8 159,.int .u8 144,.int .u8 191,.int .u8 128,.int .u8 143,.int .u8 0,.int .u8 0,.int .u8 0,.int .u8 0,.int .u8 0,.int .u8 0,.int .u8 0,.int .u8 0,.int .u8 0,.int .u8 0,.int .u8 0,.int .u8 0,.int .u8 0,.int .u8 0,.int .u8 0,.int .u8 0,.int .u8 0,.int .u8 0,.int .u8 0,.int .u8 0,.int .u8 0,.int .u8 0])).modify 2 (lay #[.iface 238 (.pointer (some ⟨(World.holding Tryz.prog os ⟨#[], #[],[]⟩).heap.size+0,0,none⟩))])).modify 1 (lay #[.iface 238 (.pointer (some ⟨(World.holding Tryz.prog os ⟨#[], #[],[]⟩).heap.size+1,0,none⟩))])).modify 4 (lay ((Pinned.utf8FirstZ.map fun n=>Value.int .u8 (Int.ofNat n)).toArray))).push (.cells #[.string ⟨#[118,97,108,117,101,32,111,117,116,32,111,102,32,114,97,110,103,101]⟩] 240 (0,0))).push (.cells #[.string ⟨#[105,110,118,97,108,105,100,32,115,121,110,116,97,120]⟩] 240 (0,0)))}
def wit:Array Value:= #[.slice none 0 0,.int .u8 0]
theorem Zki (os:Os):laidMet Tryz.prog Rows.keyserviceFollowsRow.laid ((Zax os).forCall (fun _ _=>0) ⟨#[],wit,[]⟩).memory:=
 laidMet_of_run' 8 (by kernel_rfl) (by kernel_rfl)
theorem ZqO (os:Os) {H:Type} (enc:TypeId×Value→H):∃ places,DataW.whole enc Tryz.prog ((Zax os).forCall (fun _ _=>0) ⟨#[],wit,[]⟩).memory Tryz.f3.params.toList Rows.keyserviceFollowsSpec.vars false wit.toList 8=some ([.nil,.lit (.int .u8 0)],[],places):=
 ⟨[],by kernel_rfl⟩
set_option maxRecDepth 100000 in
theorem lifted (os : Os) (started : os.Started) (H : Type) (enc : TypeId × Value → H) (F : Stop.Interp) :
  ReturnsInHanded {} Tryz.checked os 3 .any ((OpenSpec.ofChange Rows.keyserviceFollowsSpec).preRow enc Tryz.prog Tryz.f3 Rows.keyserviceFollowsRow.domain false Rows.keyserviceFollowsRow.laid) (((OpenSpec.ofChange Rows.keyserviceFollowsSpec).at F).post enc Tryz.prog Tryz.f3 false true false false):=by
 obtain ⟨places,hx⟩:=ZqO os enc
 refine returnsInHanded_of_row (C:=Tryz.checked) (s:=OpenSpec.ofChange Rows.keyserviceFollowsSpec) own started (by kernel_rfl) Tryz.func3
  (witness_row_atRef (enc := enc) (C := Tryz.checked) false (Zax os) wit rfl (by kernel_rfl) (by kernel_rfl) (by kernel_rfl)
    (OpenSpec.preRow_of_cond 8 hx (by kernel_rfl) (fun k hk=>by cases hk) (by kernel_rfl) (Zki os))) ?_
 intro W base args ds gs before hval hW x1 x2 x3 x4 x5 x6
 exact contract H enc W base args ds gs before hval hW (by first|exact x1|exact x2|exact x3|exact x4|exact x5|exact x6)
