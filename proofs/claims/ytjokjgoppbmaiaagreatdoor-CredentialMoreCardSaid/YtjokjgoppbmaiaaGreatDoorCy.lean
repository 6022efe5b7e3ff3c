/-
  Credentials: issued by the reference's text. Credentials: what the program reads out of a term.
-/
import Derived.Test.YtjokjgoppbmaiaaGreatDoorCw
import Derived.Lib.ItoaLen
import Derived.Test.YtjokjgoppbmaiaaGreatDoorFh
set_option maxHeartbeats 64000000
set_option maxRecDepth 100000
namespace Go.Vm.Seat
open Go.Proofs
end Go.Vm.Seat
namespace Go.Vm.Seat
open Go.Proofs
theorem c138 {t u : Tm} (ht : t.Ok) (hu : u.Ok) (h1 : t.size ≤ 1000000) (h2 : u.size ≤ 1000000) : ∀ H, CallOk E0 Tryz.prog 138 [.agg t.cells, .agg u.cells] H (.bool (decide (t.cmp u = 0))) H := by
 have hc : ∀ H, CallOk E0 Tryz.prog 87 [.agg t.cells, .agg u.cells] H (.int .i64 (t.cmp u)) H := fun H => toE0 (d87 ht hu (by omega) (by omega) H)
 generalize t.cmp u = c at hc
 obtain ⟨k, nm, s, b, kids⟩ := t
 obtain ⟨k', nm', s', b', kids'⟩ := u
 refine κw tOk fe138.ok rfl ?_
 repeat' first | refine κn ?_ | refine κc (hc _) ?_ | refine κt ?_ | refine κb ?_ ?_ | refine κg ?_ | refine κa ?_ | refine κf ?_ | intro hb
 all_goals (refine ifq ?_; simp at hb; simp [hb])
theorem frz2_slV (m : Nat) (H : Heap) (b : Bool) (es : Nat) (el : List (List PV)) : frz2 m H (slV b es el) = some (slV b es el) := by
 unfold slV
 cases el with
 | nil => cases b <;> rfl
 | cons c r => rfl
theorem frz3_sb {b : Bool} {es : Nat} {L : List (List PV)} {out : PV} {lv : List Nat} {nt : Nat} (h : ApV b es L out lv nt) (m : Nat) (H : Heap) (x : Bool) : frz3 m H (.tup [out, .bool x]) = some (.tup [slV b es L, .bool x]) := by
 have h1 := h.frz2 m H
 show (match frz2L m H [out, .bool x] with | some vs' => some (PV.tup vs') | none => none) = _
 simp only [frz2L, h1]
 rfl
theorem frz3_svb (m : Nat) (H : Heap) (b : Bool) (es : Nat) (L : List (List PV)) (x : Bool) : frz3 m H (.tup [slV b es L, .bool x]) = some (.tup [slV b es L, .bool x]) := by
 show (match frz2L m H [slV b es L, .bool x] with | some vs' => some (PV.tup vs') | none => none) = _
 simp only [frz2L, frz2_slV]
 rfl
theorem c202 {t : Tm} (ht : t.Ok) (hsz : t.size ≤ 90000) : ∀ H, CallOk E0 Tryz.prog 202 [.agg t.cells] H (.tup [slV true 4 (cellsL t.parts.1), .bool (decide (t.parts.2.cmp endT = 0))]) H := by
 have hsame := c138 (ht.part (parts_rest t)) end_ok (by have := (parts_rest t).1; omega) (by decide)
 have hat := c103 [101, 110, 100] 5
 rw [show endT.cells = [.int .i64 2, .str [101, 110, 100], .int .i64 5, .nils] from atomT_cells _ _] at hsame
 rw [atomT_cells] at hat
 have hcells : ∃ k nm s b kids, t = .mk k nm s b kids := by obtain ⟨k, nm, s, b, kids⟩ := t; exact ⟨_, _, _, _, _, rfl⟩
 obtain ⟨P, hP⟩ : ∃ P, P = t.parts := ⟨_, rfl⟩
 rw [← hP] at hsame ⊢
 obtain ⟨l, e⟩ := P
 simp only at hsame ⊢
 generalize decide (e.cmp endT = 0) = R at hsame ⊢
 refine callOk_wp (own := fun d => Nat.beq d 5013) tOk fe202.ok (by obtain ⟨k, nm, s, b, kids⟩ := t; simp [frzGL, frzG, Tm.cells, frz_tm]) (frz3_svb _ _ _ _ _ _) ?_
 refine Wp.seq ?_
 obtain ⟨k0, nm0, s0, b0, kids0, ht0⟩ := hcells
 rw [show t.cells = [.int .i64 k0, .str nm0, .int .i64 s0, slV b0 4 (cellsL kids0)] by rw [ht0]; rfl]
 repeat' first | refine κn ?_ | refine κt ?_ | refine κg ?_ | refine κa ?_ | fail
 refine Wp.while (fun m tm H => ∃ (acc : List Tm) (u : Tm) (base : TM) (out : PV) (lv : List Nat) (nt : Nat), u.size ≤ m ∧ acc.length + u.size ≤ t.size ∧ u.within t ∧ (l, e) = (acc ++ u.parts.1, u.parts.2) ∧ ApV true 4 (cellsL acc) out lv nt ∧
   tm = ovr base [(1, .ptr 0 4 0 0), (4, out)] ∧ H = ⟨[.cells 4 [u.cells]], 0, lv, nt⟩)
  (fun m tm H hI => ?_) t.size _ _ ⟨[], t, _, _, _, _, Nat.le_refl _, by simp, within_refl t, by rw [hP]; rfl, .nil _ _ rfl, ovr_mk ⟨rfl, rfl, trivial⟩, by rw [ht0]; rfl⟩
 obtain ⟨acc, u, base, out, lv, nt, hm, hal, hw, hpq, hA, rfl, rfl⟩ := hI
 have his := c98 u [112, 97, 105, 114] 2
 rw [pair_isB] at his
 cases hp : isPair u with
 | none =>
   rw [hp] at his
   rw [parts_none hp] at hpq
   simp only [List.append_nil, Prod.mk.injEq] at hpq
   obtain ⟨rfl, rfl⟩ := hpq
   have his2 : ∀ H, CallOk E0 Tryz.prog 98 [.agg e.cells, .str [112, 97, 105, 114], .int .i64 2] H (.bool false) H := his
   clear his
   obtain ⟨k, nm, s, b, kids⟩ := e
   simp only [Tm.cells] at his2 hsame ⊢
   cases R
   all_goals
    repeat' first | refine κn ?_ | refine κc (his2 _) ?_ | refine κg ?_ | refine κd (hat _) ?_ | refine κd (hsame _) ?_ | (apply dT (ty := 4); rfl; rfl; rfl; rfl) | (apply dF (ty := 4); rfl; rfl; rfl; rfl) | refine κh ?_ | refine κa ?_ | (apply Wp.drawS tOk follows; kernel_rfl; rfl) | refine κf ?_ | fail
    all_goals exact frz3_sb hA _ _ _
 | some q =>
   obtain ⟨x, y⟩ := q
   rw [hp] at his
   obtain ⟨w1, w2, w3⟩ := isPair_within hp
   rw [parts_pair hp] at hpq
   obtain ⟨s, b, rfl⟩ := isPair_some hp
   have his2 : ∀ H, CallOk E0 Tryz.prog 98 [.agg (Tm.mk 3 [112, 97, 105, 114] s b [x, y]).cells, .str [112, 97, 105, 114], .int .i64 2] H (.bool true) H := his
   clear his
   have hx := size_pos x
   obtain ⟨out', lv', nt', hap, hA', -⟩ := hA.app apT_tm (.sl .full 4 (cellsL [x])) (cellsL_cellOk _) (fits_of (by simp only [cellsL_length, List.length_cons, List.length_nil]; omega) (by decide)) (noB_cellsL _)
   rw [← cellsL_append] at hA'
   rw [cellsL_mk1] at hap
   have hj0 : (cellsL [x, y])[0]? = some x.cells := rfl
   have hj1 : (cellsL [x, y])[1]? = some y.cells := rfl
   simp only [Tm.cells] at his2 ⊢
   generalize cellsL [x, y] = L at his2 hj0 hj1 ⊢
   obtain ⟨k1, nm1, s1, b1, kids1⟩ := x
   obtain ⟨k2, nm2, s2, b2, kids2⟩ := y
   simp only [Tm.cells] at hj0 hj1 hap
   repeat' first | refine κn ?_ | refine κc (his2 _) ?_ | refine κg ?_ | refine κB ?_ | (apply dAq; rfl; rfl; rfl; rfl; rfl; rfl; (first | assumption | solve_by_elim)) | refine κI ?_ | refine κh ?_ | refine κa ?_ | (apply Wp.drawS tOk follows; kernel_rfl; rfl) | fail
   refine LoopI.go (Tm.mk k2 nm2 s2 b2 kids2).size (by omega) ⟨acc ++ [Tm.mk k1 nm1 s1 b1 kids1], Tm.mk k2 nm2 s2 b2 kids2, _, out', lv', nt', Nat.le_refl _, by simp; omega, within_trans w2 hw, by rw [hpq]; simp, hA', ovr_mk ⟨rfl, rfl, trivial⟩, rfl⟩
end Go.Vm.Seat
