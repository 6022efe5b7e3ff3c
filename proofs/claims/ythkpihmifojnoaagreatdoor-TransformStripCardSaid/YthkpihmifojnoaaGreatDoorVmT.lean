/-
  Slots in a tree, for the kernel.
-/
import Derived.Test.YthkpihmifojnoaaGreatDoorVmS
namespace Go.Vm

inductive Tr where
  | leaf
  | node (v : PV) (l r : Tr)

noncomputable def tget (t : Tr) : Nat → PV :=
  Tr.rec (motive := fun _ => Nat → PV) (fun _ => unset)
    (fun v _ _ il ir n => Nat.rec (motive := fun _ => PV) v (fun m _ => Nat.rec (motive := fun _ => PV) (il (m / 2)) (fun _ _ => ir (m / 2)) (m % 2)) n) t

noncomputable def tset : Nat → Tr → Nat → PV → Tr := fun d =>
  Nat.rec (motive := fun _ => Tr → Nat → PV → Tr) (fun t _ _ => t) (fun _ ih t n v =>
    Tr.rec (motive := fun _ => Tr)
      (Nat.rec (motive := fun _ => Tr) (.node v .leaf .leaf) (fun m _ => Nat.rec (motive := fun _ => Tr) (.node unset (ih .leaf (m / 2) v) .leaf) (fun _ _ => .node unset .leaf (ih .leaf (m / 2) v)) (m % 2)) n)
      (fun x l r _ _ => Nat.rec (motive := fun _ => Tr) (.node v l r) (fun m _ => Nat.rec (motive := fun _ => Tr) (.node x (ih l (m / 2) v) r) (fun _ _ => .node x l (ih r (m / 2) v)) (m % 2)) n) t) d

theorem tget_leaf (n : Nat) : tget .leaf n = unset := rfl
theorem tget_zero (v : PV) (l r : Tr) : tget (.node v l r) 0 = v := rfl
theorem tget_succ (v : PV) (l r : Tr) (m : Nat) : tget (.node v l r) (m + 1) = if m % 2 = 0 then tget l (m / 2) else tget r (m / 2) := by
  show Nat.rec (motive := fun _ => PV) (tget l (m / 2)) (fun _ _ => tget r (m / 2)) (m % 2) = _
  cases m % 2 with
  | zero => rfl
  | succ _ => rfl

theorem tset_leaf_zero (d : Nat) (v : PV) : tset (d + 1) .leaf 0 v = .node v .leaf .leaf := rfl
theorem tset_node_zero (d : Nat) (x : PV) (l r : Tr) (v : PV) : tset (d + 1) (.node x l r) 0 v = .node v l r := rfl
theorem tset_leaf_succ (d m : Nat) (v : PV) : tset (d + 1) .leaf (m + 1) v = if m % 2 = 0 then .node unset (tset d .leaf (m / 2) v) .leaf else .node unset .leaf (tset d .leaf (m / 2) v) := by
  show Nat.rec (motive := fun _ => Tr) (.node unset (tset d .leaf (m / 2) v) .leaf) (fun _ _ => .node unset .leaf (tset d .leaf (m / 2) v)) (m % 2) = _
  cases m % 2 with
  | zero => rfl
  | succ _ => rfl
theorem tset_node_succ (d m : Nat) (x : PV) (l r : Tr) (v : PV) : tset (d + 1) (.node x l r) (m + 1) v = if m % 2 = 0 then .node x (tset d l (m / 2) v) r else .node x l (tset d r (m / 2) v) := by
  show Nat.rec (motive := fun _ => Tr) (.node x (tset d l (m / 2) v) r) (fun _ _ => .node x l (tset d r (m / 2) v)) (m % 2) = _
  cases m % 2 with
  | zero => rfl
  | succ _ => rfl

theorem tget_tset : ∀ (d : Nat) (t : Tr) (n : Nat) (v : PV) (k : Nat), n + 1 < 2 ^ d → tget (tset d t n v) k = if k = n then v else tget t k
  | 0, t, n, v, k, h => by simp at h
  | d + 1, t, n, v, k, h => by
    have hp : 2 ^ (d + 1) = 2 * 2 ^ d := by rw [Nat.pow_succ, Nat.mul_comm]
    cases n with
    | zero =>
      cases t with
      | leaf =>
        rw [tset_leaf_zero]
        cases k with
        | zero => rfl
        | succ k => rw [tget_succ]; simp [tget_leaf]
      | node x l r =>
        rw [tset_node_zero]
        cases k with
        | zero => rfl
        | succ k => rw [tget_succ, tget_succ]; simp
    | succ m =>
      have hm : m / 2 + 1 < 2 ^ d := by omega
      have ih := fun t k => tget_tset d t (m / 2) v k hm
      cases t with
      | leaf =>
        rw [tset_leaf_succ]
        cases k with
        | zero => split <;> rfl
        | succ k =>
          rw [tget_leaf]
          by_cases hm2 : m % 2 = 0
          · rw [if_pos hm2, tget_succ, ih]
            simp only [tget_leaf]
            (repeat' split) <;> first | rfl | (exfalso; omega)
          · rw [if_neg hm2, tget_succ, ih]
            simp only [tget_leaf]
            (repeat' split) <;> first | rfl | (exfalso; omega)
      | node x l r =>
        rw [tset_node_succ]
        cases k with
        | zero => split <;> rfl
        | succ k =>
          by_cases hm2 : m % 2 = 0
          · rw [if_pos hm2, tget_succ, tget_succ, ih]
            (repeat' split) <;> first | rfl | (exfalso; omega)
          · rw [if_neg hm2, tget_succ, tget_succ, ih]
            (repeat' split) <;> first | rfl | (exfalso; omega)

noncomputable def setT (t : Tr) (d : Option Tmp) (v : PV) : Tr :=
  match d with
  | some d => tset 12 t d v
  | none => t

theorem setT_eq {t : Tr} {d : Option Tmp} {v : PV} (h : ∀ x, d = some x → x < 4000) : tget (setT t d v) = setD (tget t) d v := by
  cases d with
  | none => rfl
  | some d =>
    funext k
    have := h d rfl
    simp only [setT, setD]
    rw [tget_tset 12 t d v k (Nat.lt_of_lt_of_le (Nat.succ_lt_succ this) (by decide))]

/-- The arguments of a call, in a tree. -/
noncomputable def tree0 : List PV → Nat → Tr → Tr
  | [], _, t => t
  | v :: r, i, t => tree0 r (i + 1) (tset 12 t i v)

theorem tree0_get : ∀ (l : List PV) (i : Nat) (t : Tr) (k : Nat), i + l.length < 4000 → tget (tree0 l i t) k = if i ≤ k ∧ k < i + l.length then l.getD (k - i) unset else tget t k
  | [], i, t, k, _ => by
    simp only [tree0, List.length_nil, Nat.add_zero]
    rw [if_neg (by omega)]
  | v :: l, i, t, k, h => by
    simp only [List.length_cons] at h
    simp only [tree0]
    rw [tree0_get l (i + 1) _ k (by omega)]
    by_cases h1 : i + 1 ≤ k ∧ k < i + 1 + l.length
    · rw [if_pos h1, if_pos (by simp only [List.length_cons]; omega)]
      have : k - i = (k - (i + 1)) + 1 := by omega
      rw [this]; rfl
    · rw [if_neg h1, tget_tset 12 t i v k (by omega)]
      by_cases e : k = i
      · subst e
        rw [if_pos rfl, if_pos (by simp only [List.length_cons]; omega)]
        simp
      · rw [if_neg e, if_neg (by simp only [List.length_cons]; omega)]

theorem tree0_eq {l : List PV} (h : l.length < 4000) : tget (tree0 l 0 .leaf) = tm0 l := by
  funext k
  rw [tree0_get l 0 .leaf k (by omega)]
  simp only [tm0]
  by_cases hk : k < l.length
  · rw [if_pos ⟨Nat.zero_le _, by omega⟩]; rfl
  · rw [if_neg (by omega)]
    simp [List.getD, List.getElem?_eq_none (Nat.le_of_not_lt hk), tget_leaf]

end Go.Vm
