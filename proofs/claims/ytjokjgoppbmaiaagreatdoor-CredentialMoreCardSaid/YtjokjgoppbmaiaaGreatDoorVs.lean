/-
  The variables of a term, and free terms: the reference's text. The variables of a term: the program's text.
-/
import Derived.Test.YtjokjgoppbmaiaaGreatDoorTh2
import Derived.Test.YtjokjgoppbmaiaaGreatDoorCmp
import Derived.Test.YtjokjgoppbmaiaaGreatDoorFh
import Derived.Test.YtjokjgoppbmaiaaGreatDoorFg
set_option maxHeartbeats 64000000
set_option maxRecDepth 100000
namespace Go.Vm.Seat
open Go.Proofs
theorem fits_of {n m by_ : Nat} (h : n + m ≤ 10000000) (hb : by_ ≤ 1000000) : apFits n m by_ = true := by
 simp only [apFits, Bool.and_eq_true, Nat.ble_eq]
 have := Nat.mul_le_mul (show n + m + 96 ≤ 10000096 by omega) hb
 omega
theorem apT_tm : ApT E0 22 22 4 56 := ⟨_, _, _, _, _, rfl, rfl, rfl, rfl, rfl, rfl, rfl, by decide, rfl⟩
theorem noB_cellsL (l : List Tm) : noB (cellsL l) = true := by
 simp only [cellsL_eq, noB, List.all_map, List.all_eq_true]
 rintro ⟨k, nm, s, b, kids⟩ _
 rfl
theorem cells_one (k : Int) (nm : List UInt8) (s : Int) (b : Bool) (kids : List Tm) : cellsL [Tm.mk k nm s b kids] = [[.int .i64 k, .str nm, .int .i64 s, slV b 4 (cellsL kids)]] := rfl
end Go.Vm.Seat
namespace Go.Vm.Seat
open Go.Proofs
theorem cellsL_mk1 (t : Tm) : cellsL [t] = [t.cells] := by obtain ⟨k, nm, s, b, kids⟩ := t; rfl
theorem apV_cells {b : Bool} {es : Nat} {L : List (List PV)} {out : PV} {lv : List Nat} {nt : Nat} (h : ApV b es L out lv nt) (k : Int) (nm : List UInt8) (s : Int) : [PV.int .i64 k, .str nm, .int .i64 s, out].all cellOk = true := by cases h <;> rfl
theorem apV_tok {es : Nat} {L : List (List PV)} {out : PV} {lv : List Nat} {nt : Nat} (h : ApV true es L out lv nt) (hL : L ≠ []) : ∃ k, out = .sl (.tok k) es L := by
 cases h with
 | nil => exact absurd rfl hL
 | full _ _ _ h => cases h
 | tok L k => exact ⟨k, rfl⟩
theorem frz3_tm (m : Nat) (H : Heap) (k : Int) (nm : List UInt8) (s : Int) (b : Bool) (l : List (List PV)) : frz3 m H (.agg [.int .i64 k, .str nm, .int .i64 s, slV b 4 l]) = some (.agg [.int .i64 k, .str nm, .int .i64 s, slV b 4 l]) := by
 rw [frz3_agg]
 simp only [frzCL, frzC_slV]
 rfl
theorem apV_tm {b : Bool} {L : List (List PV)} {out : PV} {lv : List Nat} {nt : Nat} (h : ApV b 4 L out lv nt) (m : Nat) (H : Heap) (k : Int) (nm : List UInt8) (s : Int) : frz3 m H (.agg [.int .i64 k, .str nm, .int .i64 s, out]) = some (.agg [.int .i64 k, .str nm, .int .i64 s, slV b 4 L]) := by
 rw [frz3_agg]
 simp only [frzCL, h.frzC]
 rfl
theorem c198 {t : Tm} (ht : t.Ok) : t.size ≤ 100000 → ∀ H, CallOk E0 Tryz.prog 198 [.agg t.cells] H (.agg t.cl.cells) H := by
 induction ht with
 | @mk k nm s b kids hk hs hn hl hok ih =>
 intro hsz
 simp only [Tm.size] at hsz
 have hkl : kids.length ≤ sizeL kids := by
  rw [← allL_len]
  have : ∀ l : List Tm, l.length ≤ (allL l).length := by
   intro l
   induction l with
   | nil => simp
   | cons a r ih =>
     have := a.all_len
     have := size_pos a
     simp only [allL, List.length_append, List.length_cons]
     omega
  exact this kids
 simp only [Tm.cl, Tm.cells]
 refine κw tOk fe198.ok (frz3_tm _ _ _ _ _ _ _) ?_
 repeat' first | refine κn ?_ | refine κl ?_ | refine κg ?_ | refine κa ?_ | fail
 refine Wp.while (fun m tm H => ∃ (i : Nat) (base : TM) (out : PV) (lv : List Nat) (nt : Nat), i + m = kids.length ∧ ApV true 4 (cellsL (clL (kids.take i))) out lv nt ∧
   tm = ovr base [(1, .ptr 0 4 0 0), (2, .ptr 1 4 0 0), (9, slV b 4 (cellsL kids)), (10, .int .i64 (kids.length : Int)), (11, .int .i64 (i : Int))] ∧ H = ⟨[.cells 4 [[.int .i64 k, .str nm, .int .i64 s, out]], .cells 4 [[.int .i64 0, .str [], .int .i64 0, .nils]]], 0, lv, nt⟩)
  (fun m tm H hI => Wp.drop ?_) kids.length _ _ ⟨0, _, _, _, _, by omega, .nil _ _ rfl, ovr_mk ⟨rfl, rfl, rfl, int_eq (by rw [cellsL_length]), rfl, trivial⟩, rfl⟩
 obtain ⟨i, base, out, lv, nt, hi, hA, rfl, rfl⟩ := hI
 by_cases hlt : i < kids.length
 · obtain ⟨t', ht'⟩ : ∃ t', kids[i]? = some t' := ⟨kids[i], by simp⟩
   have hm : t' ∈ kids := List.mem_of_getElem? ht'
   have hle := size_le hm
   have hs := clL_snoc ht'
   have hc := ih t' hm (by omega)
   have hlen1 : (clL (kids.take i)).length ≤ kids.length := by
    rw [cl_len, List.length_take]; omega
   obtain ⟨out', lv', nt', hap, hA', -⟩ := hA.app apT_tm (.sl .full 4 (cellsL [t'.cl])) (cellsL_cellOk _) (fits_of (by simp only [cellsL_length, List.length_cons, List.length_nil]; omega) (by decide)) (noB_cellsL _)
   rw [← cellsL_append, ← hs] at hA'
   obtain ⟨kc, nc, sc, bc, lc, ec⟩ : ∃ kc nc sc bc lc, t'.cl = .mk kc nc sc bc lc := by
    obtain ⟨k', nm', s', b', kids'⟩ := t'
    exact ⟨_, _, _, _, _, rfl⟩
   rw [ec] at hc hap
   rw [cells_one] at hap
   obtain ⟨kt, rfl⟩ := apV_tok hA' (by rw [hs, cellsL_append, cellsL_mk1]; simp)
   obtain ⟨k', nm', s', b', kids'⟩ := t'
   have hj := cellsL_get ht'
   repeat' first | refine κn ?_ | refine κx ?_ | refine κz ?_ ?_ | refine κg ?_ | refine κd (hc _) ?_ | refine κB ?_ | (apply dAp; rfl; rfl; rfl; rfl; rfl; (first | assumption | solve_by_elim); rfl) | refine κh ?_ | refine κa ?_ | (apply Wp.drawS tOk follows; kernel_rfl; rfl) | intro hb
   · exact DropQ.go [(1, .ptr 0 4 0 0), (2, .ptr 1 4 0 0), (9, slV b 4 (cellsL kids)), (10, .int .i64 (kids.length : Int)), (11, .int .i64 ((i + 1 : Nat) : Int))] ⟨rfl, rfl, rfl, rfl, int_eq (wrap_nat (n := i + 1) (by omega)), trivial⟩
       (by simp [under_slV, under]) rfl (by simp [boxU, underL, under]) (LoopI.go (m - 1) (by omega) ⟨i + 1, _, _, lv', nt', by omega, hA', rfl, rfl⟩)
   · exfalso; simp at hb; omega
 · have e : i = kids.length := by omega
   subst e
   rw [List.take_length] at hA
   have hco := apV_cells hA k nm s
   repeat' first | refine κn ?_ | refine κz ?_ ?_ | refine κg ?_ | refine κa ?_ | refine κf ?_ | intro hb
   · exfalso; simp at hb
   · exact apV_tm hA _ _ _ _ _
end Go.Vm.Seat
