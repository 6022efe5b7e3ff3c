/-
  The variables of a term: terms that stand twice go.
-/
import Derived.Test.YtjokjgoppbmaiaaGreatDoorVx
set_option maxHeartbeats 64000000
set_option maxRecDepth 100000
namespace Go.Vm.Seat
open Go.Proofs
theorem sl_lo {id k n : Nat} (h : k ≤ n) : aSlice E0 22 (.own id 4 0 n) (some (.int .i64 (k : Int))) none none = some (.own id 4 (0 + k) (n - k)) := by
 obtain ⟨ti, e, et⟩ : ∃ ti, E0.T 22 = some ti ∧ ti.tk = .slice 24 := ⟨_, rfl, rfl⟩
 obtain ⟨ei, e2, e3⟩ : ∃ ei, E0.T 24 = some ei ∧ ei.size = 4 := ⟨_, rfl, rfl⟩
 have hn : nat? (.int .i64 (k : Int)) = some k := by simp [nat?]
 simp only [aSlice, e, et, e2, e3, if_true, bound, hn, if_pos h]
theorem sl_hi {id k n : Nat} (h : k ≤ n) : aSlice E0 22 (.own id 4 0 n) none (some (.int .i64 (k : Int))) none = some (.own id 4 0 k) := by
 obtain ⟨ti, e, et⟩ : ∃ ti, E0.T 22 = some ti ∧ ti.tk = .slice 24 := ⟨_, rfl, rfl⟩
 obtain ⟨ei, e2, e3⟩ : ∃ ei, E0.T 24 = some ei ∧ ei.size = 4 := ⟨_, rfl, rfl⟩
 have hn : nat? (.int .i64 (k : Int)) = some k := by simp [nat?]
 simp only [aSlice, e, et, e2, e3, if_true, bound, hn, if_pos h, Nat.sub_zero]
theorem ia_tm {id ix len j : Nat} (hj : j < len) : aIndexAddr E0 22 (.own id 4 ix len) (.int .i64 (j : Int)) = some (.ptr id 4 (ix + j) 0) := ia_own rfl rfl rfl rfl hj
theorem ld_tm {id j : Nat} {H : Heap} {L : List Tm} {t : Tm} (hb : nth H.bx id = some (.cells 4 (cellsL L))) (hj : L[j]? = some t) : aLoad E0 24 (.ptr id 4 j 0) H = some (.agg t.cells) := by
 obtain ⟨k, nm, s, b, kids⟩ := t
 exact ld_agg rfl rfl hb ((nth_eq _ _).trans (cellsL_get hj)) rfl
theorem cellsL_set (L : List Tm) (j : Nat) (t : Tm) : (cellsL L).set j t.cells = cellsL (L.set j t) := by
 simp only [cellsL_eq, List.map_set]
theorem wr_tm {id j : Nat} {H : Heap} {L : List Tm} {t u : Tm} (hb : nth H.bx id = some (.cells 4 (cellsL L))) (hj : L[j]? = some u) (hro : H.ro ≤ id) : H.wr (.ptr id 4 j 0) t.cells = some { H with bx := H.bx.set id (.cells 4 (cellsL (L.set j t))) } := by
 obtain ⟨k, nm, s, b, kids⟩ := t
 obtain ⟨k', nm', s', b', kids'⟩ := u
 rw [wr_of hb ((nth_eq _ _).trans (cellsL_get hj)) (by simp [Tm.cells]) hro]
 rw [← cellsL_set]
 simp [Tm.cells]
theorem c262 {t u : Tm} (ht : t.Ok) (hu : u.Ok) (h1 : t.size < 4611686018427387904) (h2 : u.size < 4611686018427387904) : ∀ H, CallOk E0 Tryz.prog 262 [.agg t.cells, .agg u.cells] H (.bool (decide (t.cmp u = 0))) H := by
 have hc := fun H => toE0 (d87 ht hu h1 h2 H)
 generalize t.cmp u = c at hc ⊢
 obtain ⟨k, nm, s, b, kids⟩ := t
 obtain ⟨k', nm', s', b', kids'⟩ := u
 refine κw tOk fe262.ok rfl ?_
 repeat' first | refine κn ?_ | refine κc (hc _) ?_ | refine κt ?_ | refine κb ?_ ?_ | refine κg ?_ | refine κa ?_ | refine κf ?_ | intro hb
 all_goals (refine ifq ?_; simp at hb; simp [hb])
def Cpost (id : Nat) (bx : List Box) (L : List Tm) (r : PV) (H : Heap) : Prop := ∃ (M : List Tm) (D : List (List PV)), r = .own id 4 0 M.length ∧ H = ⟨bx.set id (.cells 4 (cellsL M ++ D)), 0, [], 0⟩ ∧ M.length ≤ L.length ∧ (L ≠ [] → M ≠ []) ∧ ∀ x, x ∈ M → x ∈ L
theorem take_cells (M : List Tm) (k : Nat) : (cellsL M).take k = cellsL (M.take k) := by simp only [cellsL_eq, List.map_take]
theorem compact_ok {id : Nat} {bx : List Box} {L : List Tm} (hid : bx[id]? = some (.cells 4 (cellsL L))) (hok : ∀ x, x ∈ L → x.Ok ∧ x.size ≤ 100000) (hlen : L.length ≤ 100000) :
  ∃ r H', CallOk E0 Tryz.prog 261 [.own id 4 0 L.length, .fn 262 []] ⟨bx, 0, [], 0⟩ r H' ∧ Cpost id bx L r H' := by
 have hlt := get_lt hid
 have hself : bx.set id (.cells 4 (cellsL L)) = bx := by
  refine List.ext_getElem? fun k => ?_
  rw [List.getElem?_set]
  split
  · rename_i e
    subst e
    first
     | exact hid.symm
     | (rw [if_pos hlt]; exact hid.symm)
  · rfl
 have hcmp : ∀ x y, x ∈ L → y ∈ L → ∀ H, CallOk E0 Tryz.prog 262 [.agg x.cells, .agg y.cells] H (.bool (decide (x.cmp y = 0))) H := fun x y hx hy => c262 (hok x hx).1 (hok y hy).1 (by have := (hok x hx).2; omega) (by have := (hok y hy).2; omega)
 refine callOk_wpR (own := fun _ => false) tOk fe261.ok ?_
 refine Wp.seq ?_
 have hblt : ∀ b : Box, Nat.blt id (bx.set id b).length = true := fun b => by rw [List.length_set]; exact Nat.ble_eq_true_of_le hlt
 have hsame : Cpost id bx L (.own id 4 0 L.length) ⟨bx, 0, [], 0⟩ := ⟨L, [], rfl, by rw [List.append_nil, hself], Nat.le_refl _, fun h => h, fun _ h => h⟩
 repeat' first | refine κn ?_ | refine κb ?_ ?_ | refine κg ?_ | refine κa ?_ | intro hb
 · exact RetR.ret rfl hsame
 have h2 : 2 ≤ L.length := by simp at hb; omega
 refine Wp.while (fun m tm H => ∃ (k : Nat) (base : TM), k + m = L.length ∧ 1 ≤ k ∧ tm = ovr base [(0, .own id 4 0 L.length), (1, .fn 262 []), (5, .int .i64 (k : Int))] ∧ H = ⟨bx, 0, [], 0⟩)
  (fun m tm H hI => ?_) (L.length - 1) _ _ ⟨1, _, by omega, by omega, ovr_mk ⟨rfl, rfl, rfl, trivial⟩, rfl⟩
 obtain ⟨k, base, hi, hk1, rfl, rfl⟩ := hI
 by_cases hklt : k < L.length
 · obtain ⟨x, hx⟩ : ∃ x, L[k]? = some x := ⟨L[k], by simp⟩
   obtain ⟨y, hy⟩ : ∃ y, L[k - 1]? = some y := ⟨L[k - 1]'(by omega), by simp⟩
   have hnb : nth bx id = some (.cells 4 (cellsL L)) := (nth_eq _ _).trans hid
   have hwr : IntKind.i64.wrap ((k : Int) - 1) = ((k - 1 : Nat) : Int) := by
    rw [show (k : Int) - 1 = ((k - 1 : Nat) : Int) by omega]
    exact IntWalk.i64_in _ (by omega)
   have hi1 := ia_tm (id := id) (ix := 0) (len := L.length) hklt
   have hi2 : aIndexAddr E0 22 (.own id 4 0 L.length) (.int .i64 (IntKind.i64.wrap ((k : Int) - 1))) = some (.ptr id 4 (0 + (k - 1)) 0) := by rw [hwr]; exact ia_tm (by omega)
   have hl1 : aLoad E0 24 (.ptr id 4 (0 + k) 0) ⟨bx, 0, [], 0⟩ = some (.agg x.cells) := by rw [Nat.zero_add]; exact ld_tm hnb hx
   have hl2 : aLoad E0 24 (.ptr id 4 (0 + (k - 1)) 0) ⟨bx, 0, [], 0⟩ = some (.agg y.cells) := by rw [Nat.zero_add]; exact ld_tm hnb hy
   have hc := hcmp x y (List.mem_of_getElem? hx) (List.mem_of_getElem? hy)
   generalize decide (x.cmp y = 0) = B at hc
   have hsl := sl_lo (id := id) (Nat.le_of_lt hklt)
   have hblt0 : Nat.blt id bx.length = true := by have := hblt (.cells 4 (cellsL L)); rwa [hself] at this
   cases B with
   | false =>
     repeat' first | refine κn ?_ | refine κb ?_ ?_ | refine κg ?_ | refine κd (hc _) ?_ | refine κK ?_ | (apply dLd; rfl; rfl; rfl; assumption; exact IsV.any _; (first | rfl | (show Nat.blt _ _ = true; first | assumption | (simp [Nat.blt]; done)))) | refine κh ?_ | refine κa ?_ | (apply Wp.draw tOk follows; kernel_rfl) | intro hb
     · exact LoopI.go (m - 1) (by omega) ⟨k + 1, _, by omega, by omega, ovr_mk ⟨rfl, rfl, int_eq (wrap_nat (n := k + 1) (by omega)), trivial⟩, rfl⟩
     · exfalso; simp at hb; omega
   | true =>
     repeat' first | refine κn ?_ | refine κS ?_ | refine κb ?_ ?_ | refine κg ?_ | refine κd (hc _) ?_ | refine κK ?_ | (apply dLd; rfl; rfl; rfl; assumption; exact IsV.any _; (first | rfl | (show Nat.blt _ _ = true; first | assumption | (simp [Nat.blt]; done)))) | refine κh ?_ | refine κa ?_ | (apply Wp.draw tOk follows; kernel_rfl) | intro hb
     rotate_left
     · exfalso; simp at hb; omega
     clear hc hl1 hl2 hi1 hi2 hx hy hwr
     refine Wp.while (fun m2 tm H => ∃ (kk k2 : Nat) (M : List Tm) (base : TM), k + k2 + m2 = L.length ∧ k ≤ kk ∧ kk < k + k2 ∧ M.length = L.length ∧ (∀ x, x ∈ M → x ∈ L) ∧
       tm = ovr base [(0, .own id 4 0 L.length), (1, .fn 262 []), (5, .int .i64 (kk : Int)), (6, .own id 4 (0 + k) (L.length - k)), (7, .int .i64 (k2 : Int))] ∧ H = ⟨bx.set id (.cells 4 (cellsL M)), 0, [], 0⟩)
      (fun m2 tm H hI => ?_) (L.length - k - 1) _ _ ⟨k, 1, L, _, by omega, by omega, by omega, rfl, fun _ h => h, ovr_mk ⟨rfl, rfl, rfl, rfl, rfl, trivial⟩, by rw [hself]⟩
     obtain ⟨kk, k2, M, base2, hi2, hk2, hk3, hM, hMm, rfl, rfl⟩ := hI
     have hnb : nth (bx.set id (.cells 4 (cellsL M))) id = some (.cells 4 (cellsL M)) := by rw [nth_eq]; simp [hlt]
     by_cases hlt2 : k2 < L.length - k
     · obtain ⟨x, hx⟩ : ∃ x, M[k + k2]? = some x := ⟨M[k + k2]'(by omega), by simp⟩
       obtain ⟨y, hy⟩ : ∃ y, M[k + (k2 - 1)]? = some y := ⟨M[k + (k2 - 1)]'(by omega), by simp⟩
       obtain ⟨u, hu⟩ : ∃ u, M[kk]? = some u := ⟨M[kk]'(by omega), by simp⟩
       have hwr : IntKind.i64.wrap ((k2 : Int) - 1) = ((k2 - 1 : Nat) : Int) := by
        rw [show (k2 : Int) - 1 = ((k2 - 1 : Nat) : Int) by omega]
        exact IntWalk.i64_in _ (by omega)
       have hi1 := ia_tm (id := id) (ix := 0 + k) hlt2
       have hi2 : aIndexAddr E0 22 (.own id 4 (0 + k) (L.length - k)) (.int .i64 (IntKind.i64.wrap ((k2 : Int) - 1))) = some (.ptr id 4 (0 + k + (k2 - 1)) 0) := by rw [hwr]; exact ia_tm (by omega)
       have hi3 := ia_tm (id := id) (ix := 0) (len := L.length) (j := kk) (by omega)
       have hl1 : aLoad E0 24 (.ptr id 4 (0 + k + k2) 0) ⟨bx.set id (.cells 4 (cellsL M)), 0, [], 0⟩ = some (.agg x.cells) := by rw [Nat.zero_add]; exact ld_tm hnb hx
       have hl2 : aLoad E0 24 (.ptr id 4 (0 + k + (k2 - 1)) 0) ⟨bx.set id (.cells 4 (cellsL M)), 0, [], 0⟩ = some (.agg y.cells) := by rw [Nat.zero_add]; exact ld_tm hnb hy
       have hc := hcmp x y (hMm x (List.mem_of_getElem? hx)) (hMm y (List.mem_of_getElem? hy))
       generalize decide (x.cmp y = 0) = B at hc
       have hst : Heap.wr ⟨bx.set id (.cells 4 (cellsL M)), 0, [], 0⟩ (.ptr id 4 (0 + kk) 0) x.cells = some ⟨bx.set id (.cells 4 (cellsL (M.set kk x))), 0, [], 0⟩ := by
        rw [Nat.zero_add, wr_tm hnb hu (Nat.zero_le _), List.set_set]
       have hblt2 := hblt (.cells 4 (cellsL M))
       have hset : ∀ z, z ∈ M.set kk x → z ∈ L := fun z hz => by
        rcases List.mem_or_eq_of_mem_set hz with h | h
        · exact hMm z h
        · rw [h]; exact hMm x (List.mem_of_getElem? hx)
       obtain ⟨k', nm', s', b', kids'⟩ := x
       simp only [Tm.cells] at hst hl1
       repeat' first | refine κn ?_ | refine κJ ?_ | (apply qLd; rfl; rfl; rfl; assumption; exact IsV.any _) | refine κb ?_ ?_ | refine κg ?_ | refine κd (hc _) ?_ | refine κK ?_ | (apply dLd; rfl; rfl; rfl; assumption; exact IsV.any _; (first | rfl | (show Nat.blt _ _ = true; first | assumption | (simp [Nat.blt]; done)))) | (apply dB (ty := 4); rfl; rfl; rfl; rfl) | refine κh ?_ | refine κa ?_ | (apply Wp.draw tOk follows; kernel_rfl) | intro hb
       · exact LoopI.go (m2 - 1) (by omega) ⟨kk + 1, k2 + 1, _, _, by omega, by omega, by omega, by rw [List.length_set]; exact hM, hset, ovr_mk ⟨rfl, rfl, int_eq (wrap_nat (n := kk + 1) (by omega)), rfl, int_eq (wrap_nat (n := k2 + 1) (by omega)), trivial⟩, rfl⟩
       · exact LoopI.go (m2 - 1) (by omega) ⟨kk, k2 + 1, M, _, by omega, by omega, by omega, hM, hMm, ovr_mk ⟨rfl, rfl, rfl, rfl, int_eq (wrap_nat (n := k2 + 1) (by omega)), trivial⟩, rfl⟩
       · exfalso; simp at hb; omega
     · have e2 : k2 = L.length - k := by omega
       subst e2
       have hsl2 := sl_lo (id := id) (k := kk) (n := L.length) (by omega)
       have hsl3 := sl_hi (id := id) (k := kk) (n := L.length) (by omega)
       have hclr : ∃ D, aClear E0 22 (.own id 4 (0 + kk) (L.length - kk)) ⟨bx.set id (.cells 4 (cellsL M)), 0, [], 0⟩ = some (.tup [], ⟨bx.set id (.cells 4 (cellsL (M.take kk) ++ D)), 0, [], 0⟩) := by
        have h := clear_of (E := E0) (t := 22) (e := 24) (es := 4) (el := cellsL M) (ix := 0 + kk) (len := L.length - kk) (H := ⟨bx.set id (.cells 4 (cellsL M)), 0, [], 0⟩) rfl rfl rfl rfl rfl (by decide) rfl hnb (Nat.zero_le _) (by rw [cellsL_length]; omega)
        rw [List.set_set, Nat.zero_add, take_cells] at h
        rw [Nat.zero_add]
        exact ⟨_, h⟩
       obtain ⟨D, hclr⟩ := hclr
       have hlt3 : (M.take kk).length = kk := by rw [List.length_take]; omega
       repeat' first | refine κn ?_ | refine κS ?_ | (apply qClr; rfl; rfl; assumption) | refine κb ?_ ?_ | refine κg ?_ | refine κh ?_ | refine κa ?_ | (apply Wp.draw tOk follows; kernel_rfl) | intro hb
       · exfalso; simp at hb
       · refine RetR.ret rfl ⟨M.take kk, D, by rw [hlt3]; rfl, rfl, by omega, fun _ h => ?_, fun x hx => hMm x (List.mem_of_mem_take hx)⟩
         rw [h] at hlt3
         simp at hlt3
         omega
 · have e : k = L.length := by omega
   subst e
   repeat' first | refine κn ?_ | refine κb ?_ ?_ | refine κg ?_ | refine κh ?_ | refine κa ?_ | (apply Wp.draw tOk follows; kernel_rfl) | intro hb
   · exfalso; simp at hb
   · exact RetR.ret rfl hsame
end Go.Vm.Seat
