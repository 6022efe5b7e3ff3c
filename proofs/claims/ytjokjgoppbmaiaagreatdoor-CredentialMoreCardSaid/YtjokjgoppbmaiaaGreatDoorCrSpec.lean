/-
  The environment of the evaluator at this seat. The first dot of a string, the number of its dots, its parts.
-/
import Derived.Test.YtjokjgoppbmaiaaGreatDoorAwTab
import Derived.Test.YtjokjgoppbmaiaaGreatDoorFg
import Derived.Test.YtjokjgoppbmaiaaGreatDoorFh
import Derived.IntWalk
namespace Go.Vm.Seat
open Go.Proofs
noncomputable def zl : List (Nat × ZF) := [(299, idxZ), (295, cntZ), (203, joinZ), (281, ccZ 224), (250, bstrZ 224), (263, cmpZ)]
def pow10C : List PV := [.int .u64 1, .int .u64 10, .int .u64 100, .int .u64 1000, .int .u64 10000, .int .u64 100000, .int .u64 1000000, .int .u64 10000000, .int .u64 100000000, .int .u64 1000000000, .int .u64 10000000000, .int .u64 100000000000, .int .u64 1000000000000, .int .u64 10000000000000, .int .u64 100000000000000, .int .u64 1000000000000000, .int .u64 10000000000000000, .int .u64 100000000000000000, .int .u64 1000000000000000000, .int .u64 10000000000000000000]
noncomputable def E0 : Env where
 T := getT tabT
 F := fun f => match hasZ zl f with | true => none | false => getF tabF f
 G := fun k => (match Nat.beq k 1 with | true => some pow10C | false => none)
 Z := findZ zl
 eff := fun f => [259, 185, 107, 228, 229, 260, 291, 312, 261, 249, 281, 250].any (Nat.beq f)
 own := fun f d => [(236, 31)].any fun x => Nat.beq f x.1 && Nat.beq d x.2
 tyd := fun t => Nat.beq t 224
 I := fun k => [2, 3].any (Nat.beq k)
 mono := false
theorem tOk : TOk E0 Tryz.prog := ⟨fun _ _ h => getT_ok h⟩
theorem fOk : FOk E0 Tryz.prog := fun f fn c h hb => by
 simp only [E0] at h
 split at h
 · cases h
 · exact getF_ok h hb
theorem follows : Tryz.prog.follows .mixedOrders = true := by kernel_rfl
noncomputable def E1 : Env := { E0 with mono := true }
theorem tOk1 : TOk E1 Tryz.prog := ⟨fun _ _ h => getT_ok h⟩
set_option maxRecDepth 100000 in
theorem toE0 {f : FuncId} {args : List PV} {H H' : Heap} {r : PV} (h : CallOk E1 Tryz.prog f args H r H') : CallOk E0 Tryz.prog f args H r H' := CallOk.env (E := E1) (E' := E0) (hG := rfl) (hI := rfl) (hm := fun _ => rfl) h
end Go.Vm.Seat
namespace Go.Vm.Seat
theorem byte46 (c : UInt8) : ((c.toNat : Int) = 46) ↔ c = 46 := by
 constructor
 · intro h
   apply UInt8.toNat_inj.1
   have : c.toNat = 46 := by omega
   rw [this]; rfl
 · rintro rfl; rfl
theorem idx_gen : ∀ (s : Bs) (k : Nat), (idxB s 46 k = -1 ∧ cntB s 46 = 0 ∧ splitD s = [s]) ∨
  ∃ a b, s = a ++ 46 :: b ∧ idxB s 46 k = ((k + a.length : Nat) : Int) ∧ splitD s = a :: splitD b ∧ cntB s 46 = cntB b 46 + 1
 | [], k => .inl ⟨rfl, rfl, rfl⟩
 | c :: r, k => by
   by_cases h : c = 46
   · subst h
     refine .inr ⟨[], r, rfl, ?_, ?_, ?_⟩
     · simp [idxB]
     · simp [splitD]
     · simp [cntB]
   · have h1 : ¬ ((c.toNat : Int) = 46) := fun e => h ((byte46 c).1 e)
     have h2 : (c == 46) = false := by simpa using h
     have e1 : idxB (c :: r) 46 k = idxB r 46 (k + 1) := by simp [idxB, h1]
     have e2 : cntB (c :: r) 46 = cntB r 46 := by simp [cntB, h1]
     rw [e1, e2]
     rcases idx_gen r (k + 1) with ⟨q1, q2, q3⟩ | ⟨a, b, q1, q2, q3, q4⟩
     · exact .inl ⟨q1, q2, by simp only [splitD, h2, q3]⟩
     · refine .inr ⟨c :: a, b, by rw [q1]; rfl, ?_, by simp only [splitD, h2, q3], q4⟩
       rw [q2]
       simp
       omega
theorem idx_cases (s : Bs) : (idxB s 46 0 = -1 ∧ cntB s 46 = 0 ∧ splitD s = [s]) ∨
  ∃ a b, s = a ++ 46 :: b ∧ idxB s 46 0 = (a.length : Int) ∧ splitD s = a :: splitD b ∧ cntB s 46 = cntB b 46 + 1 := by
 have := idx_gen s 0
 simpa using this
def cntN : Bs → Nat
 | [] => 0
 | b :: r => if b = 46 then cntN r + 1 else cntN r
theorem cntB_nat : ∀ s : Bs, cntB s 46 = (cntN s : Int)
 | [] => rfl
 | b :: r => by
   simp only [cntB, cntN, byte46]
   split
   · rw [cntB_nat r]; simp
   · exact cntB_nat r
theorem cntN_le : ∀ s : Bs, cntN s ≤ s.length
 | [] => Nat.le_refl _
 | b :: r => by
   simp only [cntN, List.length_cons]
   have := cntN_le r
   split <;> omega
end Go.Vm.Seat
