/-
  Credentials: read by the program's text.
-/
import Derived.Test.YtjokjgoppbmaiaaGreatDoorCz
set_option maxHeartbeats 64000000
set_option maxRecDepth 100000
namespace Go.Vm.Seat
open Go.Proofs
theorem cz_cells : Cred.zero.cells = [.str [], .int .i64 0, .str [], .int .i64 0, .nils, .bool false, .nils, .nils, .int .i64 0, .int .i64 0, .int .i64 0] := by
 show .str [] :: (Tm.zero.cells ++ [.bool false, slV true 1 (strC []), slV true 1 (strC []), .int .i64 0, .int .i64 0, .int .i64 0]) = _
 rw [zero_cells, show slV true 1 (strC []) = .nils from slV_nil_true 1]
 rfl
theorem frz2_cred (m : Nat) (H : Heap) (x : Cred) : frz2 m H (.agg x.cells) = some (.agg x.cells) := by
 obtain ⟨sub, ⟨k, nm, s, b, kids⟩, iss, pn, per, en, exc, ser, fr, till⟩ := x
 have h0 := frz3_agg m H (Cred.mk sub (.mk k nm s b kids) iss pn per en exc ser fr till).cells
 have h1 : frz3 m H (.agg (Cred.mk sub (.mk k nm s b kids) iss pn per en exc ser fr till).cells) = frz2 m H (.agg (Cred.mk sub (.mk k nm s b kids) iss pn per en exc ser fr till).cells) := rfl
 rw [← h1, h0]
 simp only [Cred.cells, Tm.cells, List.cons_append, List.nil_append, frzCL, frzC_slV]
 rfl
theorem frz3_cred (m : Nat) (H : Heap) (x : Cred) (e : Int) : frz3 m H (.tup [.agg x.cells, .int .i64 e]) = some (.tup [.agg x.cells, .int .i64 e]) := by
 show (match frz2L m H [.agg x.cells, .int .i64 e] with | some vs' => some (PV.tup vs') | none => none) = _
 simp only [frz2L, frz2_cred]
 rfl
theorem idxK {tl : Tail} {l : List Tm} {i : Nat} {a : Tm} (h : l[i]? = some a) : aIndexAddr E0 22 (.sl tl 4 (cellsL l)) (.int .i64 (i : Int)) = some (.fptr a.cells 0) := by
 have en : nat? (.int .i64 (i : Int)) = some i := rfl
 have e : E0.T 22 = some ⟨.slice 24, 1, 24, .nils⟩ := by kernel_rfl
 have et : E0.T 24 = some ⟨.struct [(0, 3), (1, 9), (2, 3), (3, 22)], 4, 56, .agg [.int .i64 0, .str [], .int .i64 0, .nils]⟩ := by kernel_rfl
 obtain ⟨k, nm, s, b, kids⟩ := a
 have hn : nth (cellsL l) i = some (Tm.mk k nm s b kids).cells := by rw [nth_eq]; exact cellsL_get h
 simp only [aIndexAddr, e, en, et, if_true, hn]
theorem read_bad {t : Tm} (ht : t.Ok) (hsz : t.size ≤ 40000) (h : t.valid ≠ 0 ∨ t.isB [115, 105, 103, 110] 2 = false) : ∀ H, CallOk E0 Tryz.prog 66 [.agg t.cells] H (.tup [.agg (readP t).1.cells, .int .i64 (readP t).2]) H := by
 have c1 := c48 ht (by omega)
 have c2 := c98 t [115, 105, 103, 110] 2
 unfold readP
 rw [readF_A _ _ _ h]
 have hfr := frz3_cred 0 hNil Cred.zero 2
 generalize t.valid = e at c1 h
 generalize t.isB [115, 105, 103, 110] 2 = B at c2 h
 obtain ⟨k, nm, s, b, kids⟩ := t
 simp only [Tm.cells] at c1 c2
 refine κw tOk fe66.ok hfr ?_
 by_cases h1 : e = 0
 · subst h1
   have hB : B = false := by simpa using h
   subst hB
   repeat' first | refine κn ?_ | refine κc (c1 _) ?_ | refine κc (c2 _) ?_ | refine κt ?_ | refine κg ?_ | refine κa ?_ | refine κf ?_ | fail
   all_goals (rw [cz_cells]; rfl)
 · clear h
   repeat' first | refine κn ?_ | refine κk ?_ | refine κc (c1 _) ?_ | refine κc (c2 _) ?_ | refine κt ?_ | refine κb ?_ ?_ | refine κg ?_ | refine κa ?_ | refine κf ?_ | intro hb
   all_goals first
    | (rw [cz_cells]; rfl)
    | (exfalso; have h9 := ‹(e != 0) = false›; simp at h9; exact h1 h9)
end Go.Vm.Seat
