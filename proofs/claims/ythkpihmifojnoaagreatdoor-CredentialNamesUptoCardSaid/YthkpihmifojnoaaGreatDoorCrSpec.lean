/-
  The first dot of a string, the number of its dots, its parts.
-/
import Derived.Test.YthkpihmifojnoaaGreatDoorAwEnv
import Derived.Test.YthkpihmifojnoaaGreatDoorVe
import Derived.IntWalk
namespace Go.Vm.Seat

theorem byte46 (c : UInt8) : ((c.toNat : Int) = 46) ↔ c = 46 := by
  constructor
  · intro h
    apply UInt8.toNat_inj.1
    have : c.toNat = 46 := by omega
    rw [this]; rfl
  · rintro rfl; rfl

theorem idx_gen : ∀ (s : Bs) (k : Nat), (idxB s 46 k = -1 ∧ cntB s 46 = 0 ∧ splitD s = [s]) ∨
    ∃ a b, s = a ++ 46 :: b ∧ idxB s 46 k = ((k + a.length : Nat) : Int) ∧ splitD s = a :: splitD b ∧ cntB s 46 = cntB b 46 + 1
  | [], k => .inl ⟨rfl, rfl, rfl⟩
  | c :: r, k => by
    by_cases h : c = 46
    · subst h
      refine .inr ⟨[], r, rfl, ?_, ?_, ?_⟩
      · simp [idxB]
      · simp [splitD]
      · simp [cntB]
    · have h1 : ¬ ((c.toNat : Int) = 46) := fun e => h ((byte46 c).1 e)
      have h2 : (c == 46) = false := by simpa using h
      have e1 : idxB (c :: r) 46 k = idxB r 46 (k + 1) := by simp [idxB, h1]
      have e2 : cntB (c :: r) 46 = cntB r 46 := by simp [cntB, h1]
      rw [e1, e2]
      rcases idx_gen r (k + 1) with ⟨q1, q2, q3⟩ | ⟨a, b, q1, q2, q3, q4⟩
      · exact .inl ⟨q1, q2, by simp only [splitD, h2, q3]⟩
      · refine .inr ⟨c :: a, b, by rw [q1]; rfl, ?_, by simp only [splitD, h2, q3], q4⟩
        rw [q2]
        simp
        omega
theorem idx_cases (s : Bs) : (idxB s 46 0 = -1 ∧ cntB s 46 = 0 ∧ splitD s = [s]) ∨
    ∃ a b, s = a ++ 46 :: b ∧ idxB s 46 0 = (a.length : Int) ∧ splitD s = a :: splitD b ∧ cntB s 46 = cntB b 46 + 1 := by
  have := idx_gen s 0
  simpa using this

def cntN : Bs → Nat
  | [] => 0
  | b :: r => if b = 46 then cntN r + 1 else cntN r
theorem cntB_nat : ∀ s : Bs, cntB s 46 = (cntN s : Int)
  | [] => rfl
  | b :: r => by
    simp only [cntB, cntN, byte46]
    split
    · rw [cntB_nat r]; simp
    · exact cntB_nat r
theorem cntN_le : ∀ s : Bs, cntN s ≤ s.length
  | [] => Nat.le_refl _
  | b :: r => by
    simp only [cntN, List.length_cons]
    have := cntN_le r
    split <;> omega
end Go.Vm.Seat
