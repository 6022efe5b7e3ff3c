/-
  Credentials: names and lists of names as terms.
-/
import Derived.Test.YtjokjgoppbmaiaaGreatDoorCt
set_option maxHeartbeats 64000000
set_option maxRecDepth 100000
namespace Go.Vm.Seat
open Go.Proofs
theorem under_tm (n : Nat) (t : Tm) : under n (.agg t.cells) = true := by
 obtain ⟨k, nm, s, b, kids⟩ := t
 simp [Tm.cells, under, underL, under_slV]
theorem frz3_cells (m : Nat) (H : Heap) (t : Tm) : frz3 m H (.agg t.cells) = some (.agg t.cells) := by
 obtain ⟨k, nm, s, b, kids⟩ := t
 exact frz3_tm _ _ _ _ _ _ _
theorem c185 {l : List Tm} {out : PV} {lv : List Nat} {nt : Nat} (hA : ApV true 4 (cellsL l) out lv nt) (hlen : l.length ≤ 10000) : ∃ lv' nt', ∀ bx, CallOk E0 Tryz.prog 185 [out] ⟨bx, 0, lv, nt⟩ (.agg (tupT (l ++ [endT])).cells) ⟨bx, 0, lv', nt'⟩ := by
 obtain ⟨out', lv', nt', hap, hA', -⟩ := hA.app apT_tm (.sl .full 4 (cellsL [endT])) (cellsL_cellOk _) (fits_of (by simp only [cellsL_length, List.length_cons, List.length_nil]; omega) (by decide)) (noB_cellsL _)
 rw [← cellsL_append] at hA'
 rw [cellsL_mk1, show endT = atomT [101, 110, 100] 5 from rfl, atomT_cells] at hap
 refine ⟨lv', nt', fun bx => ?_⟩
 have hc : ∀ H, CallOk E0 Tryz.prog 102 [out'] H (.agg (tupT (l ++ [endT])).cells) H := fun H => callOk_lift (c102 (l := l ++ [endT]) (by simp) (by simp; omega) true hNil) (by simp only [frzGL, hA'.frzG]) (frz3_cells _ _ _) H
 have hat := c103 [101, 110, 100] 5
 rw [atomT_cells] at hat
 refine CallOk.free (bx' := [.cells 4 [(tupT (l ++ [endT])).cells]]) ?_ (by simp [underL, hA.under]) (under_tm _ _) bx
 generalize tupT (l ++ [endT]) = t at hc ⊢
 obtain ⟨k, nm, s, b, kids⟩ := t
 simp only [Tm.cells] at hc ⊢
 refine callOk_wpE (own := fun _ => false) tOk fe185.ok ?_
 refine Wp.seq ?_
 repeat' first | refine κn ?_ | refine κc (hat _) ?_ | refine κc (hc _) ?_ | refine κs ?_ | refine κA ?_ | refine κg ?_ | refine κa ?_ | fail
 exact RetE.ret rfl rfl rfl
theorem c104 {s : Bs} (hs : s.length ≤ 100000) (hd : dottedB s = true) : ∀ H, CallOk E0 Tryz.prog 104 [.str s] H (.agg (nameT s).cells) H := by
 have hc := c113 hs
 unfold labelsR at hc
 rw [hd] at hc
 have h4 : (splitD s).length ≤ 4 := by
  unfold dottedB at hd
  simp only [Bool.and_eq_true, decide_eq_true_eq] at hd
  exact hd.1
 unfold nameT
 generalize splitD s = l at hc h4 ⊢
 have hc : ∀ H, CallOk E0 Tryz.prog 113 [.str s] H (.sl .none 1 (partsC l)) H := hc
 have hpl : (partsC l).length = l.length := by simp [partsC]
 refine κw tOk fe104.ok (frz3_cells _ _ _) ?_
 repeat' first | refine κn ?_ | refine κc (hc _) ?_ | refine κg ?_ | refine κa ?_ | fail
 refine Wp.while (fun m tm H => ∃ (i : Nat) (base : TM) (out : PV) (lv : List Nat) (nt : Nat), i + m = l.length ∧ ApV true 4 (cellsL ((l.take i).map fun x => atomT x 4)) out lv nt ∧
   tm = ovr base [(2, .ptr 0 4 0 0), (3, out), (7, .sl .none 1 (partsC l)), (8, .int .i64 (l.length : Int)), (9, .int .i64 (i : Int))] ∧ H = ⟨[.cells 4 [[.int .i64 0, .str [], .int .i64 0, .nils]]], 0, lv, nt⟩)
  (fun m tm H hI => ?_) l.length _ _ ⟨0, _, _, _, _, by omega, .nil _ _ rfl, ovr_mk ⟨rfl, rfl, rfl, int_eq (by rw [← hpl]; rfl), rfl, trivial⟩, rfl⟩
 obtain ⟨i, base, out, lv, nt, hi, hA, rfl, rfl⟩ := hI
 by_cases hlt : i < l.length
 · obtain ⟨x, hx⟩ : ∃ x, l[i]? = some x := ⟨l[i], by simp⟩
   have hia := idxP hx
   have hat := c103 x 4
   have hlen1 : ((l.take i).map fun x => atomT x 4).length ≤ 4 := by rw [List.length_map, List.length_take]; omega
   obtain ⟨out', lv', nt', hap, hA', -⟩ := hA.app apT_tm (.sl .full 4 (cellsL [atomT x 4])) (cellsL_cellOk _) (fits_of (by simp only [cellsL_length, List.length_cons, List.length_nil]; omega) (by decide)) (noB_cellsL _)
   rw [← cellsL_append] at hA'
   have hs : ((l.take i).map fun x => atomT x 4) ++ [atomT x 4] = (l.take (i + 1)).map fun x => atomT x 4 := by simp [List.take_add_one, hx]
   rw [hs] at hA'
   rw [cellsL_mk1, atomT_cells] at hap
   rw [atomT_cells] at hat
   repeat' first | refine κn ?_ | refine κc (hat _) ?_ | refine κs ?_ | refine κA ?_ | refine κJ ?_ | refine κz ?_ ?_ | refine κg ?_ | refine κa ?_ | intro hb
   · exact LoopI.go (m - 1) (by omega) ⟨i + 1, _, out', lv', nt', by omega, hA', ovr_mk ⟨rfl, rfl, rfl, rfl, int_eq (wrap_nat (n := i + 1) (by omega)), trivial⟩, rfl⟩
   · exfalso; simp at hb; omega
 · have e : i = l.length := by omega
   subst e
   rw [List.take_length] at hA
   obtain ⟨lv', nt', he⟩ := c185 hA (by rw [List.length_map]; omega)
   generalize tupT ((l.map fun x => atomT x 4) ++ [endT]) = t at he ⊢
   obtain ⟨k', nm', s', b', kids'⟩ := t
   simp only [Tm.cells] at he ⊢
   repeat' first | refine κn ?_ | refine κc (he _) ?_ | refine κz ?_ ?_ | refine κg ?_ | refine κa ?_ | refine κf ?_ | intro hb
   · exfalso; simp at hb
   · exact frz3_tm _ _ _ _ _ _ _
theorem c105 {l : List Bs} (hs : ∀ s, s ∈ l → s.length ≤ 100000) (hd : ∀ s, s ∈ l → dottedB s = true) (hlen : l.length ≤ 1000) (b : Bool) : ∀ H, CallOk E0 Tryz.prog 105 [slV b 1 (strC l)] H (.agg (namesT l).cells) H := by
 unfold namesT
 refine κw tOk fe105.ok (frz3_cells _ _ _) ?_
 repeat' first | refine κn ?_ | refine κl ?_ | refine κg ?_ | refine κa ?_ | fail
 refine Wp.while (fun m tm H => ∃ (i : Nat) (base : TM) (out : PV) (lv : List Nat) (nt : Nat), i + m = l.length ∧ ApV true 4 (cellsL ((l.take i).map nameT)) out lv nt ∧
   tm = ovr base [(2, .ptr 0 4 0 0), (3, out), (6, slV b 1 (strC l)), (7, .int .i64 (l.length : Int)), (8, .int .i64 (i : Int))] ∧ H = ⟨[.cells 4 [[.int .i64 0, .str [], .int .i64 0, .nils]]], 0, lv, nt⟩)
  (fun m tm H hI => ?_) l.length _ _ ⟨0, _, _, _, _, by omega, .nil _ _ rfl, ovr_mk ⟨rfl, rfl, rfl, int_eq (by rw [strC_len]), rfl, trivial⟩, rfl⟩
 obtain ⟨i, base, out, lv, nt, hi, hA, rfl, rfl⟩ := hI
 by_cases hlt : i < l.length
 · obtain ⟨x, hx⟩ : ∃ x, l[i]? = some x := ⟨l[i], by simp⟩
   have hj := strC_get hx
   have hat := c104 (hs x (List.mem_of_getElem? hx)) (hd x (List.mem_of_getElem? hx))
   have hlen1 : ((l.take i).map nameT).length ≤ 1000 := by rw [List.length_map, List.length_take]; omega
   obtain ⟨out', lv', nt', hap, hA', -⟩ := hA.app apT_tm (.sl .full 4 (cellsL [nameT x])) (cellsL_cellOk _) (fits_of (by simp only [cellsL_length, List.length_cons, List.length_nil]; omega) (by decide)) (noB_cellsL _)
   rw [← cellsL_append] at hA'
   have hs : (l.take i).map nameT ++ [nameT x] = (l.take (i + 1)).map nameT := by simp [List.take_add_one, hx]
   rw [hs] at hA'
   rw [cellsL_mk1] at hap
   generalize nameT x = t at hap hat
   obtain ⟨k', nm', s', b', kids'⟩ := t
   simp only [Tm.cells] at hat hap
   repeat' first | refine κn ?_ | refine κc (hat _) ?_ | refine κs ?_ | refine κA ?_ | refine κx ?_ | refine κz ?_ ?_ | refine κg ?_ | refine κa ?_ | intro hb
   · exact LoopI.go (m - 1) (by omega) ⟨i + 1, _, out', lv', nt', by omega, hA', ovr_mk ⟨rfl, rfl, rfl, rfl, int_eq (wrap_nat (n := i + 1) (by omega)), trivial⟩, rfl⟩
   · exfalso; simp at hb; omega
 · have e : i = l.length := by omega
   subst e
   rw [List.take_length] at hA
   obtain ⟨lv', nt', he⟩ := c185 hA (by rw [List.length_map]; omega)
   generalize tupT (l.map nameT ++ [endT]) = t at he ⊢
   obtain ⟨k', nm', s', b', kids'⟩ := t
   simp only [Tm.cells] at he ⊢
   repeat' first | refine κn ?_ | refine κc (he _) ?_ | refine κz ?_ ?_ | refine κg ?_ | refine κa ?_ | refine κf ?_ | intro hb
   · exfalso; simp at hb
   · exact frz3_tm _ _ _ _ _ _ _
end Go.Vm.Seat
