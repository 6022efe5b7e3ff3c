/-
  Compare and Same of the reference, at one term twice.
-/
import Derived.Test.YtajpkolimokcdaaGreatDoorStFew
namespace Go.Vm.Seat
open Go.Proofs
set_option maxRecDepth 100000
theorem c122s (a : Int) : ∀ H, CallOk E0 Tryz.prog 122 [.int .i64 a, .int .i64 a] H (.int .i64 0) H := by
  have h := c122 a a
  simpa [numF] using h
set_option maxHeartbeats 4000000 in
theorem c49s {t : Tm} (ht : t.Ok) : t.size < 4611686018427387904 → ∀ H, CallOk E0 Tryz.prog 49 [.agg t.cells, .agg t.cells] H (.int .i64 0) H := by
  induction ht with
  | @mk k nm s b kids hk hs hn hl hok ih =>
  intro hsz
  have hsize := c120 (Tm.Ok.mk (b := b) hk hs hn hl hok) hsz
  obtain ⟨S, hS⟩ : ∃ S : Int, S = ((Tm.mk k nm s b kids).size : Int) := ⟨_, rfl⟩
  rw [← hS] at hsize
  refine callOk_wp (own := fun _ => false) tOk fe49.ok (by simp [frzGL, frzG, Tm.cells, frz_tm]) rfl ?_
  refine Wp.seq ?_
  repeat' first | apply RegQ.nil | (apply qCl; rfl; rfl; rfl; rfl; exact c122s _ _) | (apply qLn; rfl; rfl; rfl; rfl; rfl) | (apply qF (ty := 4); rfl; rfl; rfl) | (apply qB (ty := 4); rfl; rfl; rfl) | (apply g0; rfl; rfl; rfl; exact IsV.n) | (apply g1; rfl; rfl; rfl; exact IsV.n; exact IsH.mkN) | apply DrwQ.nil | (apply dCl; rfl; rfl; rfl; rfl; rfl; first | exact hsize _ | exact c122s _ _) | (apply h0; rfl; rfl; rfl; exact IsV.n; rfl) | intro hb | apply Wp.seq | apply SeqQ.go | apply Wp.region | (apply Wp.draw tOk follows; kernel_rfl) | (apply Wp.condT; rfl) | (apply Wp.condF; rfl) | apply Wp.skip | apply Wp.ret | apply Wp.block | apply SeqQ.ret | (apply rInt; rfl; rfl)
  all_goals first
    | (exfalso; simp [bytesLess_irrefl] at hb; done)
    | skip
  refine Wp.while (fun m tm H => ∃ i base, i + m = kids.length ∧ tm = ovr base [(2, .ptr 0 4 0 0), (3, .ptr 1 4 0 0), (9, .int .i64 (i : Int))] ∧ H = ⟨[.cells 4 [[.int .i64 k, .str nm, .int .i64 s, slV b 4 (cellsL kids)]], .cells 4 [[.int .i64 k, .str nm, .int .i64 s, slV b 4 (cellsL kids)]]], 0, [], 0⟩)
    (fun m tm H hI => ?_) kids.length _ _ ⟨0, _, by omega, ovr_mk ⟨rfl, rfl, rfl, trivial⟩, rfl⟩
  obtain ⟨i, base, hi, rfl, rfl⟩ := hI
  simp only [Tm.size] at hsz
  unfold maxLen at hl
  by_cases hlt : i < kids.length
  · obtain ⟨t', ht'⟩ : ∃ t', kids[i]? = some t' := ⟨kids[i], by simp⟩
    have hm : t' ∈ kids := List.mem_of_getElem? ht'
    have hle := size_le hm
    have hc := ih t' hm (by omega)
    obtain ⟨k', nm', s', b', kids'⟩ := t'
    have hj := cellsL_get ht'
    repeat' first | apply RegQ.nil | (apply qLn; rfl; rfl; rfl; rfl; rfl) | (apply qF (ty := 4); rfl; rfl; rfl) | (apply qB (ty := 4); rfl; rfl; rfl) | (apply g0; rfl; rfl; rfl; exact IsV.n) | apply DrwQ.nil | (apply dCl; rfl; rfl; rfl; rfl; rfl; exact hc _) | (apply dIx; rfl; rfl; rfl; rfl; rfl; rfl; rfl; rfl; assumption) | (apply h0; rfl; rfl; rfl; exact IsV.n; rfl) | intro hb | apply Wp.seq | apply SeqQ.go | apply Wp.region | (apply Wp.draw tOk follows; kernel_rfl) | (apply Wp.condT; rfl) | (apply Wp.condF; rfl) | apply Wp.skip | apply Wp.ret | apply Wp.exit | apply SeqQ.exit | apply Wp.block | apply BlockQ.go | (apply BlockQ.hit; rfl) | apply LoopI.exit | (apply rInt; rfl; rfl)
    · refine LoopI.go (m - 1) (by omega) ⟨i + 1, _, by omega, ovr_mk ⟨rfl, rfl, ?_, trivial⟩, rfl⟩
      exact int_eq (wrap_nat (n := i + 1) (by omega))
    · rfl
  · have e : i = kids.length := by omega
    subst e
    repeat' first | apply RegQ.nil | (apply qLn; rfl; rfl; rfl; rfl; rfl) | (apply qB (ty := 4); rfl; rfl; rfl) | (apply g0; rfl; rfl; rfl; exact IsV.n) | (apply h0; rfl; rfl; rfl; exact IsV.n; rfl) | intro hb | apply Wp.seq | apply SeqQ.go | apply Wp.region | (apply Wp.draw tOk follows; kernel_rfl) | (apply Wp.condT; rfl) | (apply Wp.condF; rfl) | apply Wp.skip | apply Wp.ret | apply Wp.exit | apply SeqQ.exit | apply Wp.block | (apply BlockQ.hit; rfl) | apply LoopI.exit | (apply rInt; rfl; rfl)
    · rw [cellsL_length] at hb; simp at hb
    · rfl
theorem c13s {t : Tm} (ht : t.Ok) (hsz : t.size < 4611686018427387904) : ∀ H, CallOk E0 Tryz.prog 13 [.agg t.cells, .agg t.cells] H (.bool true) H := by
  have hc := c49s ht hsz
  obtain ⟨k, nm, s, b, kids⟩ := t
  refine callOk_wp (own := fun _ => false) tOk fe13.ok (by simp [frzGL, frzG, Tm.cells, frz_tm]) rfl ?_
  refine Wp.seq ?_
  repeat' first | apply RegQ.nil | (apply qCl; rfl; rfl; rfl; rfl; exact hc _) | (apply qT (ty := 4); rfl; rfl; rfl) | (apply qF (ty := 4); rfl; rfl; rfl) | (apply g0; rfl; rfl; rfl; exact IsV.n) | (apply g1; rfl; rfl; rfl; exact IsV.n; exact IsH.mkN) | apply Wp.seq | apply SeqQ.go | apply Wp.region | apply Wp.ret | (apply rBool; rfl; rfl)
  all_goals rfl
end Go.Vm.Seat
