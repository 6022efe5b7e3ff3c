/-
  Terms: what is left of a budget of nodes, what is small, what is stripped.
-/
import Derived.Test.YthkpihmifojnoaaGreatDoorVmTm
namespace Go.Vm

mutual
def Tm.budget : Tm → Int → Int
  | .mk _ nm _ _ kids, n => if n ≤ 0 ∨ 40 < nm.length then -1 else budgetL kids (n - 1)
def budgetL : List Tm → Int → Int
  | [], n => n
  | t :: r, n => if t.budget n < 0 then -1 else budgetL r (t.budget n)
end

mutual
theorem Tm.budget_eq : ∀ (t : Tm) (n : Int), 0 ≤ t.budget n → t.budget n = n - (t.size : Int)
  | .mk k nm s b kids, n, h => by
    simp only [Tm.budget] at h ⊢
    split at h
    · omega
    · rename_i hc
      rw [if_neg hc, budgetL_eq kids (n - 1) (by omega) h]
      simp only [Tm.size]
      omega
theorem budgetL_eq : ∀ (l : List Tm) (n : Int), 0 ≤ n → 0 ≤ budgetL l n → budgetL l n = n - (sizeL l : Int)
  | [], n, _, _ => by simp [budgetL, sizeL]
  | t :: r, n, hn, h => by
    simp only [budgetL] at h ⊢
    split at h
    · omega
    · rename_i hc
      rw [if_neg hc]
      have h1 := Tm.budget_eq t n (by omega)
      rw [budgetL_eq r _ (by omega) h, h1]
      simp only [sizeL]
      omega
end

/-- Few, at a list with a budget. -/
def fewL : List Tm → Int → Bool
  | [], _ => true
  | t :: r, n => if t.budget n < 0 then false else fewL r (t.budget n)
def fewF (l : List Tm) (n most : Int) : Bool := if n < (l.length : Int) then false else fewL l most

def Tm.zero : Tm := .mk 0 [] 0 true []

def isF (kind : Int) (nm w : List UInt8) : Bool := decide (kind = 3) && (nm == w)

/-- Strip: what a transformation did is undone; else an error. -/
def stripF (k : Int) : Tm → Tm × Int
  | .mk kd nm _ _ kids => if k < 1 ∨ 4 < k then (.zero, 7) else
    if kd = 3 ∧ nm = (if k = 4 then [97, 101, 110, 99] else [112, 97, 105, 114]) then match kids with
      | [.mk xk xn xs xb xl, y] => if k = 1 then (if xk = 2 ∧ xs = 5 then (y, 0) else (.zero, 10)) else if k = 3 then (y, 0) else (.mk xk xn xs xb xl, 0)
      | _ => (.zero, 10)
    else (.zero, 10)

theorem drop_cons {α : Type} {l : List α} {i : Nat} {t : α} (h : l[i]? = some t) : l.drop i = t :: l.drop (i + 1) := by
  have hl : i < l.length := by
    rcases Nat.lt_or_ge i l.length with h' | h'
    · exact h'
    · rw [List.getElem?_eq_none h'] at h; cases h
  rw [List.drop_eq_getElem_cons hl]
  rw [List.getElem?_eq_getElem hl] at h
  simp only [Option.some.injEq] at h
  rw [h]

theorem bytesLess_irrefl : ∀ a : List UInt8, Op.bytesLess a a = false
  | [] => rfl
  | x :: r => by simp [Op.bytesLess, bytesLess_irrefl r]

theorem Tm.ok_zero : Tm.zero.Ok := .mk (by decide) (by decide) (Nat.zero_le _) (Nat.zero_le _) (fun t h => absurd h (by simp))
theorem Tm.Ok.kid {k : Int} {nm : List UInt8} {s : Int} {b : Bool} {kids : List Tm} (h : (Tm.mk k nm s b kids).Ok) {t : Tm} (ht : t ∈ kids) : t.Ok := by
  cases h with | mk _ _ _ _ h => exact h t ht

theorem stripF_case (k : Int) (t : Tm) : (stripF k t).1 = .zero ∨ ∃ kd nm s b kids, t = .mk kd nm s b kids ∧ (stripF k t).1 ∈ kids := by
  obtain ⟨kd, nm, s, b, kids⟩ := t
  simp only [stripF]
  repeat' split
  all_goals first
    | exact .inl rfl
    | exact .inr ⟨kd, nm, s, b, _, rfl, by simp⟩

theorem stripF_ok (k : Int) {t : Tm} (ht : t.Ok) : (stripF k t).1.Ok := by
  rcases stripF_case k t with h | ⟨kd, nm, s, b, kids, rfl, h⟩
  · rw [h]; exact Tm.ok_zero
  · exact ht.kid h
theorem size_pos (t : Tm) : 0 < t.size := by
  cases t
  simp only [Tm.size]
  omega
theorem stripF_size (k : Int) (t : Tm) : (stripF k t).1.size ≤ t.size := by
  rcases stripF_case k t with h | ⟨kd, nm, s, b, kids, rfl, h⟩
  · rw [h]
    have := size_pos t
    simp only [Tm.zero, Tm.size, sizeL]
    omega
  · have := size_le h
    simp only [Tm.size]
    omega

/-- What passes Few alone has few nodes. -/
theorem few_size {t : Tm} {n most : Int} (h : fewF [t] n most = true) : (t.size : Int) ≤ most := by
  simp only [fewF] at h
  split at h
  · cases h
  · simp only [fewL] at h
    split at h
    · cases h
    · rename_i hb
      have := t.budget_eq most (by omega)
      omega
end Go.Vm
