/-
  The variables of a term: the walk.
-/
import Derived.Test.YtjokjgoppbmaiaaGreatDoorVw
set_option maxHeartbeats 64000000
set_option maxRecDepth 100000
namespace Go.Vm.Seat
open Go.Proofs
theorem Gth.lt {rest : List Box} {v : PV} {L : List Tm} (h : Gth rest v L) {i : Nat} (hi : rest.length ≤ i) : ∀ n, v ≠ .own (i + 3) 4 0 n := by
 cases h with
 | nil => intro n hn; cases hn
 | own o L hb hL =>
   intro n hn
   have h1 := get_lt hb
   have : o + 3 = i + 3 := (PV.own.inj hn).1
   omega
theorem Gth.app {rest : List Box} {v : PV} {L : List Tm} (h : Gth rest v L) (l : List Box) : Gth (rest ++ l) v L := by
 cases h with
 | nil => exact .nil
 | own o L hb hL => exact .own o L (by rw [List.getElem?_append_left (get_lt hb)]; exact hb) hL
theorem Fra.app (rest : List Box) (v : PV) (l : List Box) : Fra rest v (rest ++ l) v :=
 ⟨by simp, fun i b hb hv => ⟨by rw [List.getElem?_append_left (get_lt hb)]; exact hb, hv⟩⟩
theorem kndL_all {kk k : Int} {nm : List UInt8} {s : Int} {b : Bool} {kids : List Tm} : kndL kk (Tm.mk k nm s b kids).all = (if (Tm.mk k nm s b kids).knd = kk then [Tm.mk k nm s b kids] else []) ++ kndL kk (allL kids) := by
 simp only [Tm.all, kndL, List.filter_cons]
 by_cases c : (Tm.mk k nm s b kids).knd = kk <;> simp [c]
theorem kndL_app {kk : Int} {l l' : List Tm} : kndL kk (l ++ l') = kndL kk l ++ kndL kk l' := List.filter_append _ _
theorem walk_ok (kk : Int) (A : Box) {t : Tm} (ht : t.Ok) : ∀ {rest : List Box} {v : PV} {L : List Tm}, Gth rest v L → L.length + t.size ≤ 100000 →
  ∃ H', CallOk E0 Tryz.prog 228 [.agg t.cells, .fn 229 [.ptr 1 1 0 0, .ptr 2 1 0 0]] (Wh kk A v rest) (.tup []) H' ∧ Wpost kk A (L ++ kndL kk t.all) rest v H' := by
 induction ht with
 | @mk k nm s b kids hk hs hn hl hok ih =>
 intro rest v L hG hsz
 simp only [Tm.size] at hsz
 have hGt := hG.lt (Nat.le_refl _)
 obtain ⟨H1, hc, v1, rest1, rfl, hG1, hF1⟩ := cl_ok (x := Tm.mk k nm s b kids) kk A (hG.app [Box.cells 4 [[.int .i64 k, .str nm, .int .i64 s, slV b 4 (cellsL kids)]]]) (by omega)
 have hTB := (hF1.bx rest.length (.cells 4 [[.int .i64 k, .str nm, .int .i64 s, slV b 4 (cellsL kids)]]) (by simp) hGt).1
 unfold Wh at hc ⊢
 refine callOk_wpP (own := fun _ => false) tOk fe228.ok ?_
 refine Wp.seq ?_
 have hl7 : aLoad E0 24 (.ptr (rest.length + 3) 4 0 0) ⟨A :: .cells 1 [[.int .i64 kk]] :: .cells 1 [[v]] :: (rest ++ [Box.cells 4 [[.int .i64 k, .str nm, .int .i64 s, slV b 4 (cellsL kids)]]]), 0, [], 0⟩ = some (.agg [.int .i64 k, .str nm, .int .i64 s, slV b 4 (cellsL kids)]) :=
  ld_agg rfl rfl (nthL_last _ _ _ _ _) rfl rfl
 have hl10 : aLoad E0 22 (.ptr (rest.length + 3) 4 0 3) ⟨A :: .cells 1 [[.int .i64 kk]] :: .cells 1 [[v1]] :: rest1, 0, [], 0⟩ = some (slV b 4 (cellsL kids)) :=
  ld_one rfl rfl ((nthL_rest _ _ _ _ _).trans hTB) rfl rfl
 repeat' first | refine κn ?_ | refine κc hc ?_ | (apply qLd; rfl; rfl; rfl; assumption; exact IsV.any _) | refine κl ?_ | refine κg ?_ | refine κa ?_ | fail
 rw [show (Tm.mk k nm s b kids).knd = k from rfl] at hG1
 refine Wp.while (fun m tm H => ∃ (i : Nat) (base : TM) (v' : PV) (rest' : List Box), i + m = kids.length ∧ Gth rest' v' (L ++ ((if k = kk then [Tm.mk k nm s b kids] else []) ++ kndL kk (allL (kids.take i)))) ∧ Fra rest v rest' v' ∧
   tm = ovr base [(1, .fn 229 [.ptr 1 1 0 0, .ptr 2 1 0 0]), (10, slV b 4 (cellsL kids)), (11, .int .i64 (kids.length : Int)), (12, .int .i64 (i : Int))] ∧ H = ⟨A :: .cells 1 [[.int .i64 kk]] :: .cells 1 [[v']] :: rest', 0, [], 0⟩)
  (fun m tm H hI => ?_) kids.length _ _ ⟨0, _, v1, rest1, by omega, by simpa [allL, kndL] using hG1, (Fra.app rest v _).trans hF1, ovr_mk ⟨rfl, rfl, int_eq (by rw [cellsL_length]), rfl, trivial⟩, rfl⟩
 clear hl7 hl10 hG1 hF1 hTB hc
 obtain ⟨i, base, v', rest', hi, hG', hF', rfl, rfl⟩ := hI
 unfold maxLen at hl
 by_cases hlt : i < kids.length
 · obtain ⟨t', ht'⟩ : ∃ t', kids[i]? = some t' := ⟨kids[i], by simp⟩
   have hm : t' ∈ kids := List.mem_of_getElem? ht'
   have hs2 := allL_snoc ht'
   have hst := sizeL_take ht'
   have hsl := sizeL_take_le kids (i + 1)
   have hlen1 : (kndL kk (allL (kids.take i))).length ≤ sizeL (kids.take i) := by rw [← allL_len]; exact kndL_len _ _
   have hlen2 : (if k = kk then [Tm.mk k nm s b kids] else []).length ≤ 1 := by split <;> simp
   have hj0 := ht'
   obtain ⟨k', nm', s', b', kids'⟩ := t'
   have hj := cellsL_get ht'
   obtain ⟨H1, hc, v2, rest2, rfl, hG2, hF2⟩ := ih _ hm (hG'.app [Box.cells 4 [[.int .i64 k', .str nm', .int .i64 s', slV b' 4 (cellsL kids')]]]) (by simp only [List.length_append]; omega)
   unfold Wh at hc
   have hwr : Heap.wr ⟨A :: .cells 1 [[.int .i64 kk]] :: .cells 1 [[v']] :: (rest' ++ [Box.cells 4 [Zc]]), 0, [], 0⟩ (.ptr (rest'.length + 3) 4 0 0) [.int .i64 k', .str nm', .int .i64 s', slV b' 4 (cellsL kids')] =
     some ⟨A :: .cells 1 [[.int .i64 kk]] :: .cells 1 [[v']] :: (rest' ++ [Box.cells 4 [[.int .i64 k', .str nm', .int .i64 s', slV b' 4 (cellsL kids')]]]), 0, [], 0⟩ := by
    rw [wr_of (es := 4) (el := [Zc]) (old := Zc) (nthL_last _ _ _ _ _) rfl (by simp) (Nat.zero_le _)]
    simp
   have hl16 : aLoad E0 24 (.ptr (rest'.length + 3) 4 0 0) ⟨A :: .cells 1 [[.int .i64 kk]] :: .cells 1 [[v']] :: (rest' ++ [Box.cells 4 [[.int .i64 k', .str nm', .int .i64 s', slV b' 4 (cellsL kids')]]]), 0, [], 0⟩ = some (.agg [.int .i64 k', .str nm', .int .i64 s', slV b' 4 (cellsL kids')]) :=
    ld_agg rfl rfl (nthL_last _ _ _ _ _) rfl rfl
   repeat' first | refine κn ?_ | refine κc hc ?_ | (apply qLd; rfl; rfl; rfl; assumption; exact IsV.any _) | refine κx ?_ | refine κz ?_ ?_ | refine κg ?_ | refine κa ?_ | intro hb
   · refine LoopI.go (m - 1) (by omega) ⟨i + 1, _, v2, rest2, by omega, ?_, (hF'.trans (Fra.app rest' v' _)).trans hF2, ovr_mk ⟨rfl, rfl, rfl, int_eq (wrap_nat (n := i + 1) (by omega)), trivial⟩, rfl⟩
     rw [hs2, kndL_app]
     simpa only [List.append_assoc] using hG2
   · exfalso; simp at hb; omega
 · have e : i = kids.length := by omega
   subst e
   rw [List.take_length] at hG'
   repeat' first | refine κn ?_ | refine κz ?_ ?_ | refine κa ?_ | intro hb
   · exfalso; simp at hb
   · exact RetP.go rfl rfl ⟨v', rest', rfl, by rw [kndL_all]; exact hG', hF'⟩
end Go.Vm.Seat
