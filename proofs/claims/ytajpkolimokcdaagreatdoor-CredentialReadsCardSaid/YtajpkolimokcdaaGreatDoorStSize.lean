/-
  The size of a term, and the comparison of two numbers, as the reference computes them.
-/
import Derived.Test.YtajpkolimokcdaaGreatDoorCrSpec
import Derived.Test.YtajpkolimokcdaaGreatDoorFg
namespace Go.Vm.Seat
open Go.Proofs
set_option maxRecDepth 100000
def numF (a b : Int) : Int := if a < b then -1 else if b < a then 1 else 0
theorem c122 (a b : Int) : ∀ H, CallOk E0 Tryz.prog 122 [.int .i64 a, .int .i64 b] H (.int .i64 (numF a b)) H := by
  refine callOk_wp (own := fun _ => false) tOk fe122.ok rfl rfl ?_
  refine Wp.seq ?_
  repeat' first | apply RegQ.nil | (apply qB (ty := 4); rfl; rfl; rfl) | (apply g0; rfl; rfl; rfl; exact IsV.n) | intro hb | apply Wp.seq | apply SeqQ.go | apply Wp.region | (apply Wp.condT; rfl) | (apply Wp.condF; rfl) | apply Wp.skip | apply Wp.ret | apply SeqQ.ret | (apply rInt; rfl; rfl)
  all_goals simp_all [numF]
  all_goals omega
theorem frz_tm (k : Int) (nm : List UInt8) (s : Int) (b : Bool) (kids : List Tm) : frzL [.int .i64 k, .str nm, .int .i64 s, slV b 4 (cellsL kids)] = some [.int .i64 k, .str nm, .int .i64 s, slV b 4 (cellsL kids)] := by
  simp only [frzL, frz1_slV]
  rfl
set_option maxHeartbeats 2000000 in
theorem c120 {t : Tm} (ht : t.Ok) : t.size < 4611686018427387904 → ∀ H, CallOk E0 Tryz.prog 120 [.agg t.cells] H (.int .i64 (t.size : Int)) H := by
  induction ht with
  | @mk k nm s b kids hk hs hn hl hok ih =>
  intro hsz
  refine callOk_wp (own := fun _ => false) tOk fe120.ok (by simp [frzGL, frzG, Tm.cells, frz_tm]) rfl ?_
  refine Wp.seq ?_
  repeat' first | apply RegQ.nil | (apply g0; rfl; rfl; rfl; exact IsV.n) | (apply g1; rfl; rfl; rfl; exact IsV.n; exact IsH.mkN) | apply Wp.seq | apply SeqQ.go | apply Wp.region | apply Wp.block
  refine Wp.while (fun m tm H => ∃ i base, i + m = kids.length ∧ tm = ovr base [(1, .ptr 0 4 0 0), (3, .int .i64 ((1 + sizeL (kids.take i) : Nat) : Int)), (4, .int .i64 (i : Int))] ∧ H = ⟨[.cells 4 [[.int .i64 k, .str nm, .int .i64 s, slV b 4 (cellsL kids)]]], 0, [], 0⟩)
    (fun m tm H hI => ?_) kids.length _ _ ⟨0, _, by omega, ovr_mk ⟨rfl, rfl, rfl, trivial⟩, rfl⟩
  obtain ⟨i, base, hi, rfl, rfl⟩ := hI
  simp only [Tm.size] at hsz
  unfold maxLen at hl
  by_cases hlt : i < kids.length
  · obtain ⟨t', ht'⟩ : ∃ t', kids[i]? = some t' := ⟨kids[i], by simp⟩
    have hm : t' ∈ kids := List.mem_of_getElem? ht'
    have hle := size_le hm
    have hst := sizeL_take ht'
    have hsl := sizeL_take_le kids (i + 1)
    have hc := ih t' hm (by omega)
    obtain ⟨k', nm', s', b', kids'⟩ := t'
    have hj := cellsL_get ht'
    repeat' first | apply RegQ.nil | (apply qCl; rfl; rfl; rfl; rfl; exact hc _) | (apply qLn; rfl; rfl; rfl; rfl; rfl) | (apply qIx; rfl; rfl; rfl; rfl; rfl; rfl; rfl; rfl; assumption) | (apply qB (ty := 4); rfl; rfl; rfl) | (apply g0; rfl; rfl; rfl; exact IsV.n) | intro hb | apply Wp.seq | apply SeqQ.go | apply Wp.region | (apply Wp.condT; rfl) | (apply Wp.condF; rfl) | apply Wp.skip | apply Wp.ret | apply Wp.exit | apply SeqQ.exit | apply Wp.block | apply BlockQ.go | (apply BlockQ.hit; rfl) | apply LoopI.exit | (apply rInt; rfl; rfl)
    · refine LoopI.go (m - 1) (by omega) ⟨i + 1, _, by omega, ovr_mk ⟨rfl, ?_, ?_, trivial⟩, rfl⟩
      · refine int_eq ?_
        rw [hst, ← Nat.add_assoc, Int.natCast_add (1 + sizeL (kids.take i)), ← Int.natCast_add]
        exact wrap_nat (by omega)
      · exact int_eq (wrap_nat (n := i + 1) (by omega))
    · rw [cellsL_length] at hb; simp at hb; omega
  · have e : i = kids.length := by omega
    subst e
    repeat' first | apply RegQ.nil | (apply qLn; rfl; rfl; rfl; rfl; rfl) | (apply qB (ty := 4); rfl; rfl; rfl) | (apply g0; rfl; rfl; rfl; exact IsV.n) | intro hb | apply Wp.seq | apply SeqQ.go | apply Wp.region | (apply Wp.condT; rfl) | (apply Wp.condF; rfl) | apply Wp.skip | apply Wp.ret | apply Wp.exit | apply SeqQ.exit | apply Wp.block | (apply BlockQ.hit; rfl) | apply LoopI.exit | (apply rInt; rfl; rfl)
    · rw [cellsL_length] at hb; simp at hb
    · simp [Tm.size]
end Go.Vm.Seat
