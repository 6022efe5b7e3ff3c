/-
  Credentials: read by the program's text.
-/
import Derived.Test.YtajpkolimokcdaaGreatDoorCz
namespace Go.Vm.Seat
open Go.Proofs
set_option maxRecDepth 100000
theorem cz_cells : Cred.zero.cells = [.str [], .int .i64 0, .str [], .int .i64 0, .nils, .bool false, .nils, .nils, .int .i64 0, .int .i64 0, .int .i64 0] := by
  show .str [] :: (Tm.zero.cells ++ [.bool false, slV true 1 (strC []), slV true 1 (strC []), .int .i64 0, .int .i64 0, .int .i64 0]) = _
  rw [zero_cells, show slV true 1 (strC []) = .nils from slV_nil_true 1]
  rfl
theorem frz2_cred (m : Nat) (H : Heap) (x : Cred) : frz2 m H (.agg x.cells) = some (.agg x.cells) := by
  obtain ⟨sub, ⟨k, nm, s, b, kids⟩, iss, pn, per, en, exc, ser, fr, till⟩ := x
  have h0 := frz3_agg m H (Cred.mk sub (.mk k nm s b kids) iss pn per en exc ser fr till).cells
  have h1 : frz3 m H (.agg (Cred.mk sub (.mk k nm s b kids) iss pn per en exc ser fr till).cells) = frz2 m H (.agg (Cred.mk sub (.mk k nm s b kids) iss pn per en exc ser fr till).cells) := rfl
  rw [← h1, h0]
  simp only [Cred.cells, Tm.cells, List.cons_append, List.nil_append, frzCL, frzC_slV]
  rfl
theorem frz3_cred (m : Nat) (H : Heap) (x : Cred) (e : Int) : frz3 m H (.tup [.agg x.cells, .int .i64 e]) = some (.tup [.agg x.cells, .int .i64 e]) := by
  show (match frz2L m H [.agg x.cells, .int .i64 e] with | some vs' => some (PV.tup vs') | none => none) = _
  simp only [frz2L, frz2_cred]
  rfl
theorem idxK {tl : Tail} {l : List Tm} {i : Nat} {a : Tm} (h : l[i]? = some a) : aIndexAddr E0 22 (.sl tl 4 (cellsL l)) (.int .i64 (i : Int)) = some (.fptr a.cells 0) := by
  have en : nat? (.int .i64 (i : Int)) = some i := rfl
  have e : E0.T 22 = some ⟨.slice 24, 1, 24, .nils⟩ := by kernel_rfl
  have et : E0.T 24 = some ⟨.struct [(0, 3), (1, 9), (2, 3), (3, 22)], 4, 56, .agg [.int .i64 0, .str [], .int .i64 0, .nils]⟩ := by kernel_rfl
  obtain ⟨k, nm, s, b, kids⟩ := a
  have hn : nth (cellsL l) i = some (Tm.mk k nm s b kids).cells := by rw [nth_eq]; exact cellsL_get h
  simp only [aIndexAddr, e, en, et, if_true, hn]
set_option maxHeartbeats 16000000 in
theorem read_bad {t : Tm} (ht : t.Ok) (hsz : t.size ≤ 40000) (h : t.valid ≠ 0 ∨ t.isB [115, 105, 103, 110] 2 = false) : ∀ H, CallOk E0 Tryz.prog 16 [.agg t.cells] H (.tup [.agg (readP t).1.cells, .int .i64 (readP t).2]) H := by
  have c1 := c44 ht (by omega)
  have c2 := c52 t [115, 105, 103, 110] 2
  unfold readP
  rw [readF_A _ _ _ h]
  have hfr := frz3_cred 0 hNil Cred.zero 2
  generalize t.valid = e at c1 h
  generalize t.isB [115, 105, 103, 110] 2 = B at c2 h
  obtain ⟨k, nm, s, b, kids⟩ := t
  simp only [Tm.cells] at c1 c2
  refine callOk_wp (own := fun _ => false) tOk fe16.ok (by simp [frzGL, frzG, Tm.cells, frz_tm]) hfr ?_
  refine Wp.seq ?_
  by_cases h1 : e = 0
  · subst h1
    have hB : B = false := by simpa using h
    subst hB
    repeat' first | apply RegQ.nil | (apply qCl; rfl; rfl; rfl; rfl; first | exact c1 _ | exact c2 _) | (apply qT (ty := 4); rfl; rfl; rfl) | (apply qF (ty := 4); rfl; rfl; rfl) | (apply g0; rfl; rfl; rfl; exact IsV.n) | (apply g1; rfl; rfl; rfl; exact IsV.n; exact IsH.mkN) | (apply qSt; rfl; rfl; rfl; exact IsL.n; (first | rfl | assumption); (first | rfl | assumption | (simp only [List.all_cons, List.all_nil, cellOk_slV, Bool.and_true]; rfl)); (first | rfl | assumption); exact IsH.mkN) | apply Wp.seq | apply SeqQ.go | apply Wp.region | (apply Wp.condT; rfl) | apply Wp.ret | apply SeqQ.ret | (apply rFin; rfl; exact IsL.n)
    all_goals (rw [cz_cells]; rfl)
  · clear h
    repeat' first | apply RegQ.nil | (apply qK; rfl; rfl) | (apply qCl; rfl; rfl; rfl; rfl; first | exact c1 _ | exact c2 _) | (apply qT (ty := 4); rfl; rfl; rfl) | (apply qF (ty := 4); rfl; rfl; rfl) | (apply qB (ty := 4); rfl; rfl; rfl) | (apply g0; rfl; rfl; rfl; exact IsV.n) | (apply g1; rfl; rfl; rfl; exact IsV.n; exact IsH.mkN) | (apply qSt; rfl; rfl; rfl; exact IsL.n; (first | rfl | assumption); (first | rfl | assumption | (simp only [List.all_cons, List.all_nil, cellOk_slV, Bool.and_true]; rfl)); (first | rfl | assumption); exact IsH.mkN) | intro hb | apply Wp.seq | apply SeqQ.go | apply Wp.region | (apply Wp.condT; rfl) | (apply Wp.condF; rfl) | apply Wp.skip | apply Wp.ret | apply SeqQ.ret | (apply rFin; rfl; exact IsL.n)
    all_goals first
      | (rw [cz_cells]; rfl)
      | (exfalso; have h9 := ‹(e != 0) = false›; simp at h9; exact h1 h9)
end Go.Vm.Seat
