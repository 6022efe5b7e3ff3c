/-
  Credentials: names, and what a credential must be, in the reference's text. Credentials: their terms. Credentials: tuples.
-/
import Derived.Test.YtjokjgoppbmaiaaGreatDoorCv
import Derived.Test.YtjokjgoppbmaiaaGreatDoorFh
import Derived.Test.YtjokjgoppbmaiaaGreatDoorFg
set_option maxHeartbeats 64000000
set_option maxRecDepth 100000
namespace Go.Vm.Seat
open Go.Proofs
end Go.Vm.Seat
namespace Go.Vm.Seat
open Go.Proofs
theorem c103 (nm : Bs) (s : Int) : ∀ H, CallOk E0 Tryz.prog 103 [.str nm, .int .i64 s] H (.agg (atomT nm s).cells) H := by
 rw [atomT_cells]
 refine κw tOk fe103.ok rfl ?_
 repeat' first | refine κn ?_ | refine κg ?_ | refine κa ?_ | refine κf ?_ | fail
 all_goals rfl
end Go.Vm.Seat
namespace Go.Vm.Seat
open Go.Proofs
theorem frzC_of {p q : PV} {n : Nat} {H : Heap} (h : frz1 p = some q) : frzC n H p = some q := by
 cases p <;> first | exact h | cases h
theorem c102 {l : List Tm} (hne : l ≠ []) (hlen : l.length ≤ 100000) (b : Bool) : ∀ H, CallOk E0 Tryz.prog 102 [slV b 4 (cellsL l)] H (.agg (tupT l).cells) H := by
 have hpos : 0 < l.length := List.length_pos_iff.2 hne
 obtain ⟨z, hz⟩ : ∃ z, l[l.length - 1]? = some z := ⟨l[l.length - 1]'(by omega), by simp⟩
 have hz0 : tupT (l.drop (l.length - 1)) = z := by
  rw [drop_cons hz, show l.length - 1 + 1 = l.length by omega, List.drop_length]
  rfl
 have hw1 : IntKind.i64.wrap (((cellsL l).length : Int) - 1) = ((l.length - 1 : Nat) : Int) := by
  rw [cellsL_length, show (l.length : Int) - 1 = ((l.length - 1 : Nat) : Int) by omega]
  exact IntWalk.i64_in _ (by omega)
 have hw2 : IntKind.i64.wrap (((cellsL l).length : Int) - 2) = (l.length : Int) - 2 := by
  rw [cellsL_length]; exact IntWalk.i64_in _ (by omega)
 have hi0 : aIndexAddr E0 22 (slV b 4 (cellsL l)) (.int .i64 (IntKind.i64.wrap (((cellsL l).length : Int) - 1))) = some (.fptr z.cells 0) := by rw [hw1]; exact idxT hz
 have hfr : frz3 0 hNil (.agg (tupT l).cells) = some (.agg (tupT l).cells) := by
  generalize tupT l = t
  obtain ⟨k, nm, s, tb, kids⟩ := t
  exact frz3_tm _ _ _ _ _ _ _
 refine κw tOk fe102.ok hfr ?_
 obtain ⟨k, nm, s, tb, kids⟩ := z
 simp only [Tm.cells] at hi0
 repeat' first | refine κn ?_ | refine κJ ?_ | refine κl ?_ | refine κg ?_ | refine κa ?_ | fail
 refine Wp.while (fun m tm H => ∃ (base : TM) (k : Int) (nm : List UInt8) (s : Int) (kv : PV) (b' : Bool) (kids : List Tm), m + 1 ≤ l.length ∧ tupT (l.drop m) = .mk k nm s b' kids ∧ frz1 kv = some (slV b' 4 (cellsL kids)) ∧ cellOk kv = true ∧
   tm = ovr base [(0, slV b 4 (cellsL l)), (2, .ptr 0 4 0 0), (3, .ptr 1 4 0 0), (4, .int .i64 ((m : Int) - 1))] ∧ H = ⟨[.cells 4 [[.int .i64 0, .str [], .int .i64 0, .nils]], .cells 4 [[.int .i64 k, .str nm, .int .i64 s, kv]]], 0, [], 0⟩)
  (fun m tm H hI => ?_) (l.length - 1) _ _ ⟨_, k, nm, s, _, tb, kids, by omega, hz0, frz1_slV _ _ _, cellOk_slV _ _ _, ovr_mk ⟨rfl, rfl, rfl, int_eq (by rw [hw2]; omega), trivial⟩, rfl⟩
 clear hi0 hw1 hw2 hz hz0 hfr
 obtain ⟨base, k, nm, s, kv, b', kids, hm, htup, hkv, hkc, rfl, rfl⟩ := hI
 have hco : [PV.int .i64 k, .str nm, .int .i64 s, kv].all cellOk = true := by simp only [List.all_cons, List.all_nil, hkc]; rfl
 have hfz : frzL [PV.int .i64 k, .str nm, .int .i64 s, kv] = some [.int .i64 k, .str nm, .int .i64 s, slV b' 4 (cellsL kids)] := by simp only [frzL, hkv]; rfl
 cases m with
 | zero =>
   repeat' first | refine κn ?_ | refine κt ?_ | refine κg ?_ | refine κa ?_ | refine κf ?_ | fail
   rw [show tupT l = tupT (l.drop 0) from rfl, htup]
   show frz3 _ _ (.agg _) = _
   rw [frz3_agg]
   simp only [frzCL, frzC_of hkv]
   rfl
 | succ m =>
   obtain ⟨a, ha⟩ : ∃ a, l[m]? = some a := ⟨l[m]'(by omega), by simp⟩
   have hnext := tupT_drop ha hm
   have hi1 : aIndexAddr E0 22 (slV b 4 (cellsL l)) (.int .i64 (((m + 1 : Nat) : Int) - 1)) = some (.fptr a.cells 0) := by
    rw [show ((m + 1 : Nat) : Int) - 1 = (m : Int) by omega]; exact idxT ha
   obtain ⟨k', nm', s', b2, kids'⟩ := a
   simp only [Tm.cells] at hi1
   repeat' first | refine κn ?_ | refine κb ?_ ?_ | refine κg ?_ | refine κK ?_ | refine κh ?_ | refine κa ?_ | (apply Wp.drawS tOk follows; kernel_rfl; rfl) | refine κf ?_ | intro hb
   · apply dBsF
     · rfl
     · rfl
     · rfl
     · rfl
     · show frzLL [[.int .i64 k', .str nm', .int .i64 s', slV b2 4 (cellsL kids')], [.int .i64 k, .str nm, .int .i64 s, kv]] = some [[.int .i64 k', .str nm', .int .i64 s', slV b2 4 (cellsL kids')], [.int .i64 k, .str nm, .int .i64 s, slV b' 4 (cellsL kids)]]
       simp only [frzLL, hfz, frz_tm]
     · rfl
     repeat' first | refine κn ?_ | refine κg ?_ | refine κh ?_ | refine κa ?_ | fail
     refine LoopI.go m (by omega) ⟨_, 3, [112, 97, 105, 114], 0, .sl .full 4 [[.int .i64 k', .str nm', .int .i64 s', slV b2 4 (cellsL kids')], [.int .i64 k, .str nm, .int .i64 s, slV b' 4 (cellsL kids)]], true, [.mk k' nm' s' b2 kids', .mk k nm s b' kids], by omega, by rw [hnext, htup]; rfl, ?_, rfl, ovr_mk ⟨rfl, rfl, rfl, int_eq ?_, trivial⟩, rfl⟩
     · rw [show slV true 4 (cellsL [Tm.mk k' nm' s' b2 kids', Tm.mk k nm s b' kids]) = .sl .none 4 [[.int .i64 k', .str nm', .int .i64 s', slV b2 4 (cellsL kids')], [.int .i64 k, .str nm, .int .i64 s, slV b' 4 (cellsL kids)]] from slV_cons _ _ _ _]
       rfl
     · rw [show ((m + 1 : Nat) : Int) - 1 - 1 = (m : Int) - 1 by omega]
       exact IntWalk.i64_in _ (by omega)
   · exfalso; simp at hb <;> omega
end Go.Vm.Seat
