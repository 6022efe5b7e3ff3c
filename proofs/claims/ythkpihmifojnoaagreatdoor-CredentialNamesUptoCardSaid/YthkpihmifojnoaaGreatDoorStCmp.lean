/-
  Compare and Same of the reference, at one term twice.
-/
import Derived.Test.YthkpihmifojnoaaGreatDoorStFew
namespace Go.Vm.Seat
open Go.Proofs
set_option maxRecDepth 100000

theorem c102s (a : Int) : ∀ H, CallOk E0 Tryz.prog 102 [.int .i64 a, .int .i64 a] H (.int .i64 0) H := by
  have h := c102 a a
  simpa [numF] using h

set_option maxHeartbeats 4000000 in
theorem c61s {t : Tm} (ht : t.Ok) : t.size < 4611686018427387904 → ∀ H, CallOk E0 Tryz.prog 61 [.agg t.cells, .agg t.cells] H (.int .i64 0) H := by
  induction ht with
  | @mk k nm s b kids hk hs hn hl hok ih =>
  intro hsz
  have hsize := c58 (Tm.Ok.mk (b := b) hk hs hn hl hok) hsz
  obtain ⟨S, hS⟩ : ∃ S : Int, S = ((Tm.mk k nm s b kids).size : Int) := ⟨_, rfl⟩
  rw [← hS] at hsize
  refine callOk_wp (own := fun _ => false) tOk fe61.ok (by simp [frzGL, frzG, Tm.cells, frz_tm]) rfl ?_
  refine Wp.seq ?_
  repeat' first
    | refine RegQ.nil ?_
    | (apply qCl; rfl; rfl; rfl; rfl; exact hsize _)
    | (apply qCl; rfl; rfl; rfl; rfl; exact c102s _ _)
    | (apply qBi; rfl; rfl; rfl; rfl; assumption; exact IsV.any _)
    | (apply qIa; rfl; rfl; rfl; rfl; assumption; exact IsV.any _)
    | (apply qP (ty := 0); rfl; rfl; rfl)
    | (apply qR (ty := 0); rfl; rfl; rfl; exact IsV.ptrN; exact IsH.mkN)
    | (apply qIx; rfl; rfl; rfl; rfl; rfl; rfl; rfl; rfl; assumption)
    | (apply qI (ty := 3); rfl; rfl; rfl)
    | (apply qLn (ty := 3); rfl; rfl; rfl; rfl; rfl)
    | (apply qT (ty := 4); rfl; rfl; rfl)
    | (apply qF (ty := 4); rfl; rfl; rfl)
    | (apply qB (ty := 4); rfl; rfl; rfl)
    | (apply qS (ty := 9); rfl; rfl; rfl)
    | (apply qV (ty := 43); rfl; rfl; rfl)
    | (apply qN (ty := 43); rfl; rfl; rfl)
    | (apply qL (ty := 43); rfl; rfl; rfl; exact IsH.mkN)
    | (apply qO (ty := 43); rfl; rfl; rfl; exact IsH.mkN)
    | (apply qA (ty := 45); rfl; rfl; rfl; exact IsL.n)
    | refine DrwQ.nil ?_
    | (apply dCl; rfl; rfl; rfl; rfl; rfl; exact hsize _)
    | (apply dCl; rfl; rfl; rfl; rfl; rfl; exact c102s _ _)
    | (apply dBi; rfl; rfl; rfl; rfl; assumption; exact IsV.any _; rfl)
    | (apply dIa; rfl; rfl; rfl; rfl; assumption; exact IsV.any _)
    | (apply dP (ty := 0); rfl; rfl; rfl; rfl)
    | (apply dR (ty := 0); rfl; rfl; rfl; exact IsV.ptrN; exact IsH.mkN; rfl)
    | (apply dIx; rfl; rfl; rfl; rfl; rfl; rfl; rfl; rfl; assumption)
    | (apply dI (ty := 3); rfl; rfl; rfl; rfl)
    | (apply dLn (ty := 3); rfl; rfl; rfl; rfl; rfl)
    | (apply dT (ty := 4); rfl; rfl; rfl; rfl)
    | (apply dF (ty := 4); rfl; rfl; rfl; rfl)
    | (apply dB (ty := 4); rfl; rfl; rfl; rfl)
    | (apply dS (ty := 9); rfl; rfl; rfl; rfl)
    | (apply dV (ty := 43); rfl; rfl; rfl; rfl)
    | (apply dN (ty := 43); rfl; rfl; rfl; rfl)
    | (apply dL (ty := 43); rfl; rfl; rfl; exact IsH.mkN; rfl)
    | (apply dO (ty := 43); rfl; rfl; rfl; exact IsH.mkN; rfl)
    | (apply dA (ty := 45); rfl; rfl; rfl; exact IsL.n; rfl)
    | intro hb
    | refine Wp.seq ?_
    | refine SeqQ.go ?_
    | refine Wp.region ?_
    | refine Wp.draw tOk follows (by kernel_rfl) ?_
    | refine Wp.condT rfl ?_
    | refine Wp.condF rfl ?_
    | refine Wp.skip ?_
    | refine Wp.ret ?_
    | refine Wp.exit ?_
    | refine Wp.block ?_
    | refine SeqQ.ret ?_
    | refine SeqQ.exit ?_
    | refine BlockQ.go ?_
    | refine BlockQ.ret ?_
    | refine BlockQ.hit rfl ?_
    | refine BlockQ.miss rfl ?_
    | refine LoopI.ret ?_
    | refine LoopI.exit ?_
    | (apply rInt; rfl; rfl)
    | (apply rBool; rfl; rfl)
    | (apply rFin; rfl; exact IsL.n)
    | (apply mFin; rfl; exact IsL.n)
  all_goals first
    | (exfalso; simp [bytesLess_irrefl] at hb; done)
    | skip
  refine Wp.while (fun m tm H => ∃ i base, i + m = kids.length ∧ tm = ovr base [(2, .ptr 0 4 0 0), (3, .ptr 1 4 0 0), (9, .int .i64 (i : Int))] ∧ H = ⟨[.cells 4 [[.int .i64 k, .str nm, .int .i64 s, slV b 4 (cellsL kids)]], .cells 4 [[.int .i64 k, .str nm, .int .i64 s, slV b 4 (cellsL kids)]]], 0, [], 0⟩)
    (fun m tm H hI => ?_) kids.length _ _ ⟨0, _, by omega, ovr_mk ⟨rfl, rfl, rfl, trivial⟩, rfl⟩
  obtain ⟨i, base, hi, rfl, rfl⟩ := hI
  simp only [Tm.size] at hsz
  unfold maxLen at hl
  by_cases hlt : i < kids.length
  · obtain ⟨t', ht'⟩ : ∃ t', kids[i]? = some t' := ⟨kids[i], by simp⟩
    have hm : t' ∈ kids := List.mem_of_getElem? ht'
    have hle := size_le hm
    have hc := ih t' hm (by omega)
    obtain ⟨k', nm', s', b', kids'⟩ := t'
    have hj := cellsL_get ht'
    repeat' first
      | refine RegQ.nil ?_
      | (apply qCl; rfl; rfl; rfl; rfl; exact hc _)
      | (apply qBi; rfl; rfl; rfl; rfl; assumption; exact IsV.any _)
      | (apply qIa; rfl; rfl; rfl; rfl; assumption; exact IsV.any _)
      | (apply qP (ty := 0); rfl; rfl; rfl)
      | (apply qR (ty := 0); rfl; rfl; rfl; exact IsV.ptrN; exact IsH.mkN)
      | (apply qIx; rfl; rfl; rfl; rfl; rfl; rfl; rfl; rfl; assumption)
      | (apply qI (ty := 3); rfl; rfl; rfl)
      | (apply qLn (ty := 3); rfl; rfl; rfl; rfl; rfl)
      | (apply qT (ty := 4); rfl; rfl; rfl)
      | (apply qF (ty := 4); rfl; rfl; rfl)
      | (apply qB (ty := 4); rfl; rfl; rfl)
      | (apply qS (ty := 9); rfl; rfl; rfl)
      | (apply qV (ty := 43); rfl; rfl; rfl)
      | (apply qN (ty := 43); rfl; rfl; rfl)
      | (apply qL (ty := 43); rfl; rfl; rfl; exact IsH.mkN)
      | (apply qO (ty := 43); rfl; rfl; rfl; exact IsH.mkN)
      | (apply qA (ty := 45); rfl; rfl; rfl; exact IsL.n)
      | refine DrwQ.nil ?_
      | (apply dCl; rfl; rfl; rfl; rfl; rfl; exact hc _)
      | (apply dBi; rfl; rfl; rfl; rfl; assumption; exact IsV.any _; rfl)
      | (apply dIa; rfl; rfl; rfl; rfl; assumption; exact IsV.any _)
      | (apply dP (ty := 0); rfl; rfl; rfl; rfl)
      | (apply dR (ty := 0); rfl; rfl; rfl; exact IsV.ptrN; exact IsH.mkN; rfl)
      | (apply dIx; rfl; rfl; rfl; rfl; rfl; rfl; rfl; rfl; assumption)
      | (apply dI (ty := 3); rfl; rfl; rfl; rfl)
      | (apply dLn (ty := 3); rfl; rfl; rfl; rfl; rfl)
      | (apply dT (ty := 4); rfl; rfl; rfl; rfl)
      | (apply dF (ty := 4); rfl; rfl; rfl; rfl)
      | (apply dB (ty := 4); rfl; rfl; rfl; rfl)
      | (apply dS (ty := 9); rfl; rfl; rfl; rfl)
      | (apply dV (ty := 43); rfl; rfl; rfl; rfl)
      | (apply dN (ty := 43); rfl; rfl; rfl; rfl)
      | (apply dL (ty := 43); rfl; rfl; rfl; exact IsH.mkN; rfl)
      | (apply dO (ty := 43); rfl; rfl; rfl; exact IsH.mkN; rfl)
      | (apply dA (ty := 45); rfl; rfl; rfl; exact IsL.n; rfl)
      | intro hb
      | refine Wp.seq ?_
      | refine SeqQ.go ?_
      | refine Wp.region ?_
      | refine Wp.draw tOk follows (by kernel_rfl) ?_
      | refine Wp.condT rfl ?_
      | refine Wp.condF rfl ?_
      | refine Wp.skip ?_
      | refine Wp.ret ?_
      | refine Wp.exit ?_
      | refine Wp.block ?_
      | refine SeqQ.ret ?_
      | refine SeqQ.exit ?_
      | refine BlockQ.go ?_
      | refine BlockQ.ret ?_
      | refine BlockQ.hit rfl ?_
      | refine BlockQ.miss rfl ?_
      | refine LoopI.ret ?_
      | refine LoopI.exit ?_
      | (apply rInt; rfl; rfl)
      | (apply rBool; rfl; rfl)
      | (apply rFin; rfl; exact IsL.n)
      | (apply mFin; rfl; exact IsL.n)
    · refine LoopI.go (m - 1) (by omega) ⟨i + 1, _, by omega, ovr_mk ⟨rfl, rfl, ?_, trivial⟩, rfl⟩
      exact int_eq (wrap_nat (n := i + 1) (by omega))
    · rfl
  · have e : i = kids.length := by omega
    subst e
    repeat' first
      | refine RegQ.nil ?_
      | (apply qBi; rfl; rfl; rfl; rfl; assumption; exact IsV.any _)
      | (apply qIa; rfl; rfl; rfl; rfl; assumption; exact IsV.any _)
      | (apply qP (ty := 0); rfl; rfl; rfl)
      | (apply qR (ty := 0); rfl; rfl; rfl; exact IsV.ptrN; exact IsH.mkN)
      | (apply qIx; rfl; rfl; rfl; rfl; rfl; rfl; rfl; rfl; assumption)
      | (apply qI (ty := 3); rfl; rfl; rfl)
      | (apply qLn (ty := 3); rfl; rfl; rfl; rfl; rfl)
      | (apply qT (ty := 4); rfl; rfl; rfl)
      | (apply qF (ty := 4); rfl; rfl; rfl)
      | (apply qB (ty := 4); rfl; rfl; rfl)
      | (apply qS (ty := 9); rfl; rfl; rfl)
      | (apply qV (ty := 43); rfl; rfl; rfl)
      | (apply qN (ty := 43); rfl; rfl; rfl)
      | (apply qL (ty := 43); rfl; rfl; rfl; exact IsH.mkN)
      | (apply qO (ty := 43); rfl; rfl; rfl; exact IsH.mkN)
      | (apply qA (ty := 45); rfl; rfl; rfl; exact IsL.n)
      | refine DrwQ.nil ?_
      | (apply dBi; rfl; rfl; rfl; rfl; assumption; exact IsV.any _; rfl)
      | (apply dIa; rfl; rfl; rfl; rfl; assumption; exact IsV.any _)
      | (apply dP (ty := 0); rfl; rfl; rfl; rfl)
      | (apply dR (ty := 0); rfl; rfl; rfl; exact IsV.ptrN; exact IsH.mkN; rfl)
      | (apply dIx; rfl; rfl; rfl; rfl; rfl; rfl; rfl; rfl; assumption)
      | (apply dI (ty := 3); rfl; rfl; rfl; rfl)
      | (apply dLn (ty := 3); rfl; rfl; rfl; rfl; rfl)
      | (apply dT (ty := 4); rfl; rfl; rfl; rfl)
      | (apply dF (ty := 4); rfl; rfl; rfl; rfl)
      | (apply dB (ty := 4); rfl; rfl; rfl; rfl)
      | (apply dS (ty := 9); rfl; rfl; rfl; rfl)
      | (apply dV (ty := 43); rfl; rfl; rfl; rfl)
      | (apply dN (ty := 43); rfl; rfl; rfl; rfl)
      | (apply dL (ty := 43); rfl; rfl; rfl; exact IsH.mkN; rfl)
      | (apply dO (ty := 43); rfl; rfl; rfl; exact IsH.mkN; rfl)
      | (apply dA (ty := 45); rfl; rfl; rfl; exact IsL.n; rfl)
      | intro hb
      | refine Wp.seq ?_
      | refine SeqQ.go ?_
      | refine Wp.region ?_
      | refine Wp.draw tOk follows (by kernel_rfl) ?_
      | refine Wp.condT rfl ?_
      | refine Wp.condF rfl ?_
      | refine Wp.skip ?_
      | refine Wp.ret ?_
      | refine Wp.exit ?_
      | refine Wp.block ?_
      | refine SeqQ.ret ?_
      | refine SeqQ.exit ?_
      | refine BlockQ.go ?_
      | refine BlockQ.ret ?_
      | refine BlockQ.hit rfl ?_
      | refine BlockQ.miss rfl ?_
      | refine LoopI.ret ?_
      | refine LoopI.exit ?_
      | (apply rInt; rfl; rfl)
      | (apply rBool; rfl; rfl)
      | (apply rFin; rfl; exact IsL.n)
      | (apply mFin; rfl; exact IsL.n)
    · rw [cellsL_length] at hb; simp at hb
    · rfl

theorem c25s {t : Tm} (ht : t.Ok) (hsz : t.size < 4611686018427387904) : ∀ H, CallOk E0 Tryz.prog 25 [.agg t.cells, .agg t.cells] H (.bool true) H := by
  have hc := c61s ht hsz
  obtain ⟨k, nm, s, b, kids⟩ := t
  refine callOk_wp (own := fun _ => false) tOk fe25.ok (by simp [frzGL, frzG, Tm.cells, frz_tm]) rfl ?_
  refine Wp.seq ?_
  repeat' first
    | refine RegQ.nil ?_
    | (apply qCl; rfl; rfl; rfl; rfl; exact hc _)
    | (apply qP (ty := 0); rfl; rfl; rfl)
    | (apply qR (ty := 0); rfl; rfl; rfl; exact IsV.ptrN; exact IsH.mkN)
    | (apply qI (ty := 3); rfl; rfl; rfl)
    | (apply qT (ty := 4); rfl; rfl; rfl)
    | (apply qF (ty := 4); rfl; rfl; rfl)
    | (apply qB (ty := 4); rfl; rfl; rfl)
    | (apply qA (ty := 45); rfl; rfl; rfl; exact IsL.n)
    | intro hb
    | refine Wp.seq ?_
    | refine SeqQ.go ?_
    | refine Wp.region ?_
    | refine Wp.condT rfl ?_
    | refine Wp.condF rfl ?_
    | refine Wp.skip ?_
    | refine Wp.ret ?_
    | refine Wp.exit ?_
    | refine Wp.block ?_
    | refine SeqQ.ret ?_
    | refine SeqQ.exit ?_
    | refine BlockQ.go ?_
    | refine BlockQ.ret ?_
    | refine BlockQ.hit rfl ?_
    | refine BlockQ.miss rfl ?_
    | refine LoopI.ret ?_
    | refine LoopI.exit ?_
    | (apply rInt; rfl; rfl)
    | (apply rBool; rfl; rfl)
    | (apply rFin; rfl; exact IsL.n)
    | (apply mFin; rfl; exact IsL.n)
  all_goals rfl
end Go.Vm.Seat
