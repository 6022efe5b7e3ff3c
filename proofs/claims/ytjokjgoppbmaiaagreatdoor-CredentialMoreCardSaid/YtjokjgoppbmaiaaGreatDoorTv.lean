/-
  Compare and Same of the reference, at one term twice. Names, valid terms: the program's and the reference's text compute the same.
-/
import Derived.Test.YtjokjgoppbmaiaaGreatDoorStFew
import Derived.Test.YtjokjgoppbmaiaaGreatDoorFh
import Derived.Test.YtjokjgoppbmaiaaGreatDoorFg
import Derived.Test.YtjokjgoppbmaiaaGreatDoorAwOr
set_option maxHeartbeats 64000000
set_option maxRecDepth 100000
namespace Go.Vm.Seat
open Go.Proofs
theorem c90s (a : Int) : ∀ H, CallOk E0 Tryz.prog 90 [.int .i64 a, .int .i64 a] H (.int .i64 0) H := by
 have h := c90 a a
 simpa [numF] using h
theorem c40s {t : Tm} (ht : t.Ok) : t.size < 4611686018427387904 → ∀ H, CallOk E0 Tryz.prog 40 [.agg t.cells, .agg t.cells] H (.int .i64 0) H := by
 induction ht with
 | @mk k nm s b kids hk hs hn hl hok ih =>
 intro hsz
 have hsize := c91 (Tm.Ok.mk (b := b) hk hs hn hl hok) hsz
 obtain ⟨S, hS⟩ : ∃ S : Int, S = ((Tm.mk k nm s b kids).size : Int) := ⟨_, rfl⟩
 rw [← hS] at hsize
 refine κw tOk fe40.ok rfl ?_
 repeat' first | refine κn ?_ | refine κc (c90s _ _) ?_ | refine κl ?_ | refine κt ?_ | refine κb ?_ ?_ | refine κg ?_ | refine κd (hsize _) ?_ | refine κd (c90s _ _) ?_ | refine κh ?_ | refine κa ?_ | (apply Wp.draw tOk follows; kernel_rfl) | refine κf ?_ | intro hb
 all_goals first
  | (exfalso; simp [bytesLess_irrefl] at hb; done)
  | skip
 refine Wp.while (fun m tm H => ∃ i base, i + m = kids.length ∧ tm = ovr base [(2, .ptr 0 4 0 0), (3, .ptr 1 4 0 0), (9, .int .i64 (i : Int))] ∧ H = ⟨[.cells 4 [[.int .i64 k, .str nm, .int .i64 s, slV b 4 (cellsL kids)]], .cells 4 [[.int .i64 k, .str nm, .int .i64 s, slV b 4 (cellsL kids)]]], 0, [], 0⟩)
  (fun m tm H hI => ?_) kids.length _ _ ⟨0, _, by omega, ovr_mk ⟨rfl, rfl, rfl, trivial⟩, rfl⟩
 obtain ⟨i, base, hi, rfl, rfl⟩ := hI
 simp only [Tm.size] at hsz
 unfold maxLen at hl
 by_cases hlt : i < kids.length
 · obtain ⟨t', ht'⟩ : ∃ t', kids[i]? = some t' := ⟨kids[i], by simp⟩
   have hm : t' ∈ kids := List.mem_of_getElem? ht'
   have hle := size_le hm
   have hc := ih t' hm (by omega)
   obtain ⟨k', nm', s', b', kids'⟩ := t'
   have hj := cellsL_get ht'
   repeat' first | refine κn ?_ | refine κl ?_ | refine κt ?_ | refine κb ?_ ?_ | refine κg ?_ | refine κd (hc _) ?_ | refine κI ?_ | refine κh ?_ | refine κa ?_ | (apply Wp.draw tOk follows; kernel_rfl) | refine κf ?_ | intro hb
   · refine LoopI.go (m - 1) (by omega) ⟨i + 1, _, by omega, ovr_mk ⟨rfl, rfl, ?_, trivial⟩, rfl⟩
     exact int_eq (wrap_nat (n := i + 1) (by omega))
   · rfl
 · have e : i = kids.length := by omega
   subst e
   repeat' first | refine κn ?_ | refine κl ?_ | refine κb ?_ ?_ | refine κg ?_ | refine κh ?_ | refine κa ?_ | (apply Wp.draw tOk follows; kernel_rfl) | refine κf ?_ | intro hb
   · rw [cellsL_length] at hb; simp at hb
   · rfl
theorem c15s {t : Tm} (ht : t.Ok) (hsz : t.size < 4611686018427387904) : ∀ H, CallOk E0 Tryz.prog 15 [.agg t.cells, .agg t.cells] H (.bool true) H := by
 have hc := c40s ht hsz
 obtain ⟨k, nm, s, b, kids⟩ := t
 refine κw tOk fe15.ok rfl ?_
 repeat' first | refine κn ?_ | refine κc (hc _) ?_ | refine κt ?_ | refine κg ?_ | refine κa ?_ | refine κf ?_ | fail
 all_goals rfl
end Go.Vm.Seat
namespace Go.Vm.Seat
open Go.Proofs
theorem bool_eq {a b : Bool} (h : a = true ↔ b = true) : PV.bool a = PV.bool b := by rw [Bool.eq_iff_iff.2 h]
theorem c235 (c : Int) : ∀ H, CallOk E0 Tryz.prog 235 [.int .u8 c] H (.bool (partI c)) H := by
 refine κw tOk fe235.ok rfl ?_
 repeat' first | refine κn ?_ | refine κk ?_ | refine κt ?_ | refine κb ?_ ?_ | refine κg ?_ | refine κa ?_ | refine κf ?_ | intro hb
 all_goals
  refine bool_eq ?_
  simp [partI, ltrI, digI] at *
  try omega
theorem c187 (c : Int) : ∀ H, CallOk E0 Tryz.prog 187 [.int .u8 c] H (.bool (ltrI c)) H := by
 refine κw tOk fe187.ok rfl ?_
 repeat' first | refine κn ?_ | refine κk ?_ | refine κt ?_ | refine κb ?_ ?_ | refine κg ?_ | refine κa ?_ | refine κf ?_ | intro hb
 all_goals
  refine bool_eq ?_
  simp [ltrI] at *
  try omega
theorem c188 (c : Int) : ∀ H, CallOk E0 Tryz.prog 188 [.int .u8 c] H (.bool (digI c)) H := by
 refine κw tOk fe188.ok rfl ?_
 repeat' first | refine κn ?_ | refine κk ?_ | refine κt ?_ | refine κb ?_ ?_ | refine κg ?_ | refine κa ?_ | refine κf ?_ | intro hb
 all_goals
  refine bool_eq ?_
  simp [digI] at *
  try omega
theorem all_take_false {s : List UInt8} {i : Nat} {x : UInt8} (h : s[i]? = some x) (hx : partB x = false) : s.all partB = false := by
 rw [List.all_eq_false]
 exact ⟨x, List.mem_of_getElem? h, by simp [hx]⟩
theorem nameF_cons (c : UInt8) (r : List UInt8) : nameF (c :: r) = (decide ((c :: r).length ≤ 24) && (ltrI (Int.ofNat c.toNat) && (c :: r).all partB)) := rfl
theorem letI_part {c : Int} (h : partI c = true) (h1 : ¬ (48 ≤ c ∧ c ≤ 57)) (h2 : c ≠ 95) (h3 : c ≠ 35) : ltrI c = true := by
 simp [partI, ltrI, digI] at *
 omega
theorem eTs : E0.T 9 = some ⟨.string, 1, 16, .str []⟩ := rfl
theorem idxS {s : List UInt8} {i : Nat} {c : UInt8} (h : s[i]? = some c) : aIndex E0 9 (.str s) (.int .i64 (i : Int)) = some (.int .u8 (c.toNat : Int)) := by
 have en : nat? (.int .i64 (i : Int)) = some i := rfl
 have hn : nth s i = some c := by rw [nth_eq]; exact h
 simp only [aIndex, eTs, en, hn]
 rfl
theorem bool_no {a b c : Bool} (h : a = false ∨ b = false ∨ c = false) : PV.bool false = PV.bool (a && (b && c)) := by
 rcases h with rfl | rfl | rfl <;> simp
theorem all_take {s : List UInt8} {i : Nat} {x : UInt8} (h : s[i]? = some x) (hx : partB x = true) (ht : (s.take i).all partB = true) : (s.take (i + 1)).all partB = true := by
 rw [List.take_add_one, h]
 simp [List.all_append, ht, hx]
theorem c186 (s : List UInt8) (hs : s.length ≤ maxLen) : ∀ H, CallOk E0 Tryz.prog 186 [.str s] H (.bool (nameF s)) H := by
 refine κw tOk fe186.ok rfl ?_
 cases s with
 | nil =>
   repeat' first | refine κn ?_ | refine κk ?_ | refine κt ?_ | refine κg ?_ | refine κa ?_ | refine κf ?_ | fail
   all_goals first
    | rfl
    | (exfalso; simp at hb; done)
 | cons c r =>
   have hc := c235 (Int.ofNat c.toNat)
   obtain ⟨S, hS⟩ : ∃ S, S = partI (Int.ofNat c.toNat) := ⟨_, rfl⟩
   have hj := idxS (show (c :: r)[0]? = some c from rfl)
   rw [nameF_cons]
   obtain ⟨s, hss⟩ : ∃ s, s = c :: r := ⟨_, rfl⟩
   rw [← hss] at hs hj ⊢
   have hne : ¬ s = [] := by rw [hss]; simp
   have hm : c ∈ s := by rw [hss]; simp
   have hall : S = false → s.all partB = false := fun h => by
    rw [List.all_eq_false]
    exact ⟨c, hm, by rw [show partB c = S from hS.symm, h]; simp⟩
   rw [← hS] at hc
   repeat' first | refine κn ?_ | refine κk ?_ | refine κc (hc _) ?_ | refine κX ?_ | refine κt ?_ | refine κb ?_ ?_ | refine κg ?_ | refine κa ?_ | refine κf ?_ | intro hb
   all_goals first
    | (exfalso; simp at hb; exact hne hb)
    | (refine bool_no (.inl ?_); simp at hb; simp; omega)
    | (refine bool_no (.inr (.inr (hall (by simpa using hb)))); done)
    | (refine bool_no (.inr (.inl ?_)); clear hc hall hj hS hm hne hss; simp [ltrI] at *; omega)
    | skip
   all_goals
    have f1 : S = true := by simpa using ‹(!S) = false›
    have f2 : ¬ (48 ≤ (c.toNat : Int) ∧ (c.toNat : Int) ≤ 57) := by
     first
      | (have := ‹decide ((c.toNat : Int) ≤ 57) = false›; simp at this; omega)
      | (have := ‹decide (48 ≤ (c.toNat : Int)) = false›; simp at this; omega)
    have f3 : (c.toNat : Int) ≠ 95 := by simpa using ‹((c.toNat : Int) == 95) = false›
    have f4 : (c.toNat : Int) ≠ 35 := by simpa using ‹((c.toNat : Int) == 35) = false›
    have hlt : ltrI (Int.ofNat c.toNat) = true := letI_part (hS ▸ f1) f2 f3 f4
    have h24 : s.length ≤ 24 := by
     have := ‹decide (24 < Int.ofNat s.length) = false›
     simp at this; omega
    rw [show (decide (s.length ≤ 24) && (ltrI (Int.ofNat c.toNat) && s.all partB)) = s.all partB by simp only [h24, hlt, decide_true, Bool.true_and]]
    refine Wp.while (fun m tm H => ∃ (i : Nat), ∃ base, i + m = s.length ∧ (s.take i).all partB = true ∧ tm = ovr base [(0, .str s), (38, .int .i64 (s.length : Int)), (39, .int .i64 (i : Int))] ∧ H = ⟨[], 0, [], 0⟩)
     (fun m tm H hI => ?_) s.length _ _ ⟨0, _, by omega, by simp, ovr_mk ⟨rfl, rfl, rfl, trivial⟩, rfl⟩
    clear hc hall hj
    obtain ⟨i, base, hi, hall, rfl, rfl⟩ := hI
    by_cases hlt2 : i < s.length
    · obtain ⟨d, hd⟩ : ∃ d, s[i]? = some d := ⟨s[i], by simp⟩
      have hj := idxS hd
      have hc := c235 (Int.ofNat d.toNat)
      obtain ⟨D, hD⟩ : ∃ D, D = partI (Int.ofNat d.toNat) := ⟨_, rfl⟩
      rw [← hD] at hc
      repeat' first | refine κn ?_ | refine κc (hc _) ?_ | refine κX ?_ | refine κt ?_ | refine κb ?_ ?_ | refine κg ?_ | refine κa ?_ | refine κf ?_ | intro hb
      · rw [all_take_false hd (by rw [show partB d = D from hD.symm]; simpa using hb)]
      · refine LoopI.go (m - 1) (by omega) ⟨i + 1, _, by omega, all_take hd (by rw [show partB d = D from hD.symm]; simpa using hb) hall, ovr_mk ⟨rfl, rfl, ?_, trivial⟩, rfl⟩
        exact int_eq (wrap_nat (n := i + 1) (by unfold maxLen at hs; omega))
      · exfalso; simp at hb; omega
    · have e : i = s.length := by omega
      subst e
      repeat' first | refine κn ?_ | refine κt ?_ | refine κb ?_ ?_ | refine κg ?_ | refine κa ?_ | refine κf ?_ | intro hb
      · exfalso; simp at hb
      · rw [← hall, List.take_length]
end Go.Vm.Seat
