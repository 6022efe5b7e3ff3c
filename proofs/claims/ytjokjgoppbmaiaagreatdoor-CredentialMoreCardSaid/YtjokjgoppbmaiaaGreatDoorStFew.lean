/-
  The size of a term, and the comparison of two numbers, as the reference computes them. Few, budget and Is of the reference.
-/
import Derived.Test.YtjokjgoppbmaiaaGreatDoorCrSpec
import Derived.Test.YtjokjgoppbmaiaaGreatDoorFg
set_option maxHeartbeats 64000000
set_option maxRecDepth 100000
namespace Go.Vm.Seat
open Go.Proofs
def numF (a b : Int) : Int := if a < b then -1 else if b < a then 1 else 0
theorem c90 (a b : Int) : ∀ H, CallOk E0 Tryz.prog 90 [.int .i64 a, .int .i64 b] H (.int .i64 (numF a b)) H := by
 refine κw tOk fe90.ok rfl ?_
 repeat' first | refine κn ?_ | refine κb ?_ ?_ | refine κg ?_ | refine κa ?_ | refine κf ?_ | intro hb
 all_goals simp_all [numF]
 all_goals omega
theorem frz_tm (k : Int) (nm : List UInt8) (s : Int) (b : Bool) (kids : List Tm) : frzL [.int .i64 k, .str nm, .int .i64 s, slV b 4 (cellsL kids)] = some [.int .i64 k, .str nm, .int .i64 s, slV b 4 (cellsL kids)] := by
 simp only [frzL, frz1_slV]
 rfl
theorem c91 {t : Tm} (ht : t.Ok) : t.size < 4611686018427387904 → ∀ H, CallOk E0 Tryz.prog 91 [.agg t.cells] H (.int .i64 (t.size : Int)) H := by
 induction ht with
 | @mk k nm s b kids hk hs hn hl hok ih =>
 intro hsz
 refine κw tOk fe91.ok rfl ?_
 repeat' first | refine κn ?_ | refine κg ?_ | refine κa ?_ | fail
 refine Wp.while (fun m tm H => ∃ i base, i + m = kids.length ∧ tm = ovr base [(1, .ptr 0 4 0 0), (3, .int .i64 ((1 + sizeL (kids.take i) : Nat) : Int)), (4, .int .i64 (i : Int))] ∧ H = ⟨[.cells 4 [[.int .i64 k, .str nm, .int .i64 s, slV b 4 (cellsL kids)]]], 0, [], 0⟩)
  (fun m tm H hI => ?_) kids.length _ _ ⟨0, _, by omega, ovr_mk ⟨rfl, rfl, rfl, trivial⟩, rfl⟩
 obtain ⟨i, base, hi, rfl, rfl⟩ := hI
 simp only [Tm.size] at hsz
 unfold maxLen at hl
 by_cases hlt : i < kids.length
 · obtain ⟨t', ht'⟩ : ∃ t', kids[i]? = some t' := ⟨kids[i], by simp⟩
   have hm : t' ∈ kids := List.mem_of_getElem? ht'
   have hle := size_le hm
   have hst := sizeL_take ht'
   have hsl := sizeL_take_le kids (i + 1)
   have hc := ih t' hm (by omega)
   obtain ⟨k', nm', s', b', kids'⟩ := t'
   have hj := cellsL_get ht'
   repeat' first | refine κn ?_ | refine κc (hc _) ?_ | refine κl ?_ | refine κx ?_ | refine κb ?_ ?_ | refine κg ?_ | refine κa ?_ | refine κf ?_ | intro hb
   · refine LoopI.go (m - 1) (by omega) ⟨i + 1, _, by omega, ovr_mk ⟨rfl, ?_, ?_, trivial⟩, rfl⟩
     · refine int_eq ?_
       rw [hst, ← Nat.add_assoc, Int.natCast_add (1 + sizeL (kids.take i)), ← Int.natCast_add]
       exact wrap_nat (by omega)
     · exact int_eq (wrap_nat (n := i + 1) (by omega))
   · rw [cellsL_length] at hb; simp at hb; omega
 · have e : i = kids.length := by omega
   subst e
   repeat' first | refine κn ?_ | refine κl ?_ | refine κb ?_ ?_ | refine κg ?_ | refine κa ?_ | refine κf ?_ | intro hb
   · rw [cellsL_length] at hb; simp at hb
   · simp [Tm.size]
end Go.Vm.Seat
namespace Go.Vm.Seat
open Go.Proofs
theorem c54 {t : Tm} (ht : t.Ok) : ∀ n : Int, -9223372036854775808 ≤ n → n ≤ 9223372036854775807 → ∀ H, CallOk E0 Tryz.prog 54 [.agg t.cells, .int .i64 n] H (.int .i64 (t.budget n)) H := by
 induction ht with
 | @mk k nm s b kids hk hs hn hl hok ih =>
 intro n hn1 hn2
 refine κw tOk fe54.ok rfl ?_ (by simp [frzGL, frzG, Tm.cells, frz_tm, frz1])
 repeat' first | refine κn ?_ | refine κk ?_ | refine κt ?_ | refine κb ?_ ?_ | refine κg ?_ | refine κa ?_ | refine κf ?_ | intro hb
 · refine int_eq ?_
   simp at hb
   simp [Tm.budget, hb]
 · refine int_eq ?_
   rename_i hb1
   simp at hb hb1
   have : 40 < nm.length := by omega
   simp [Tm.budget, this]
 rename_i hb1
 simp at hb hb1
 have h40 : ¬ (n ≤ 0 ∨ 40 < nm.length) := by omega
 refine Wp.while (fun m tm H => ∃ i base x, i + m = kids.length ∧ 0 ≤ x ∧ x ≤ n ∧ budgetL kids (n - 1) = budgetL (kids.drop i) x ∧ tm = ovr base [(2, .ptr 0 4 0 0), (1, .int .i64 x), (5, .int .i64 (i : Int))] ∧ H = ⟨[.cells 4 [[.int .i64 k, .str nm, .int .i64 s, slV b 4 (cellsL kids)]]], 0, [], 0⟩)
  (fun m tm H hI => ?_) kids.length _ _ ⟨0, _, n - 1, by omega, by omega, by omega, by simp, ovr_mk ⟨rfl, int_eq (IntWalk.i64_in _ (by omega)), rfl, trivial⟩, rfl⟩
 obtain ⟨i, base, x, hi, hx0, hxn, hbud, rfl, rfl⟩ := hI
 unfold maxLen at hl
 by_cases hlt : i < kids.length
 · obtain ⟨t', ht'⟩ : ∃ t', kids[i]? = some t' := ⟨kids[i], by simp⟩
   have hm : t' ∈ kids := List.mem_of_getElem? ht'
   have hdr := drop_cons ht'
   have hc := ih t' hm x (by omega) (by omega)
   have hbe := t'.budget_eq x
   obtain ⟨bx, hbx⟩ : ∃ bx, bx = t'.budget x := ⟨_, rfl⟩
   rw [← hbx] at hc hbe
   rw [hdr] at hbud
   simp only [budgetL, ← hbx] at hbud
   obtain ⟨k', nm', s', b', kids'⟩ := t'
   have hj := cellsL_get ht'
   repeat' first | refine κn ?_ | refine κc (hc _) ?_ | refine κl ?_ | refine κx ?_ | refine κb ?_ ?_ | refine κg ?_ | refine κa ?_ | refine κf ?_ | intro hb
   · refine int_eq ?_
     rename_i hb2
     have hb : bx < 0 := by simpa using hb
     simp only [Tm.budget, if_neg h40, hbud, if_pos hb]
   · have hb : ¬ bx < 0 := by simpa using hb
     rw [if_neg hb] at hbud
     refine LoopI.go (m - 1) (by omega) ⟨i + 1, _, bx, by omega, by omega, by have := hbe (by omega); omega, hbud, ovr_mk ⟨rfl, rfl, ?_, trivial⟩, rfl⟩
     exact int_eq (wrap_nat (n := i + 1) (by omega))
   · rw [cellsL_length] at hb; simp at hb; omega
 · have e : i = kids.length := by omega
   subst e
   repeat' first | refine κn ?_ | refine κl ?_ | refine κb ?_ ?_ | refine κg ?_ | refine κa ?_ | refine κf ?_ | intro hb
   · rw [cellsL_length] at hb; simp at hb
   · refine int_eq ?_
     simp only [Tm.budget, if_neg h40, hbud]
     simp [budgetL]
theorem c24 {l : List Tm} (hok : ∀ t, t ∈ l → t.Ok) (hl : l.length ≤ maxLen) (b : Bool) {n most : Int} (hm1 : -9223372036854775808 ≤ most) (hm2 : most ≤ 9223372036854775807) :
  ∀ H, CallOk E0 Tryz.prog 24 [slV b 4 (cellsL l), .int .i64 n, .int .i64 most] H (.bool (fewF l n most)) H := by
 refine κw tOk fe24.ok rfl ?_
 repeat' first | refine κn ?_ | refine κl ?_ | refine κt ?_ | refine κb ?_ ?_ | refine κg ?_ | refine κa ?_ | refine κf ?_ | intro hb
 · simp at hb
   rw [cellsL_length] at hb
   simp [fewF, hb]
 rw [cellsL_length] at hb
 simp at hb
 have hnl : ¬ n < (l.length : Int) := by omega
 refine Wp.while (fun m tm H => ∃ i base x, i + m = l.length ∧ -9223372036854775808 ≤ x ∧ x ≤ 9223372036854775807 ∧ fewL l most = fewL (l.drop i) x ∧ tm = ovr base [(0, slV b 4 (cellsL l)), (2, .int .i64 x), (7, .int .i64 (i : Int))] ∧ H = ⟨[], 0, [], 0⟩)
  (fun m tm H hI => ?_) l.length _ _ ⟨0, _, most, by omega, by omega, by omega, by simp, ovr_mk ⟨rfl, rfl, rfl, trivial⟩, rfl⟩
 obtain ⟨i, base, x, hi, hx0, hxn, hbud, rfl, rfl⟩ := hI
 unfold maxLen at hl
 by_cases hlt : i < l.length
 · obtain ⟨t', ht'⟩ : ∃ t', l[i]? = some t' := ⟨l[i], by simp⟩
   have hm : t' ∈ l := List.mem_of_getElem? ht'
   have hdr := drop_cons ht'
   have hc := c54 (hok t' hm) x (by omega) (by omega)
   have hbe := t'.budget_eq x
   obtain ⟨bx, hbx⟩ : ∃ bx, bx = t'.budget x := ⟨_, rfl⟩
   rw [← hbx] at hc hbe
   rw [hdr] at hbud
   simp only [fewL, ← hbx] at hbud
   obtain ⟨k', nm', s', b', kids'⟩ := t'
   have hj := cellsL_get ht'
   repeat' first | refine κn ?_ | refine κc (hc _) ?_ | refine κl ?_ | refine κx ?_ | refine κt ?_ | refine κb ?_ ?_ | refine κg ?_ | refine κa ?_ | refine κf ?_ | intro hb
   · have hb : bx < 0 := by simpa using hb
     simp [fewF, hbud, if_pos hb]
   · have hb : ¬ bx < 0 := by simpa using hb
     rw [if_neg hb] at hbud
     refine LoopI.go (m - 1) (by omega) ⟨i + 1, _, bx, by omega, by omega, by have := hbe (by omega); omega, hbud, ovr_mk ⟨rfl, rfl, ?_, trivial⟩, rfl⟩
     exact int_eq (wrap_nat (n := i + 1) (by omega))
   · rw [cellsL_length] at hb; simp at hb; omega
 · have e : i = l.length := by omega
   subst e
   repeat' first | refine κn ?_ | refine κl ?_ | refine κt ?_ | refine κb ?_ ?_ | refine κg ?_ | refine κa ?_ | refine κf ?_ | intro hb
   · rw [cellsL_length] at hb; simp at hb
   · simp [fewF, if_neg hnl, hbud, fewL]
end Go.Vm.Seat
