/-
  Terms as they come in: a tree, its cells, its size.
-/
import Derived.Test.YthkpihmifojnoaaGreatDoorVmTac
import Derived.IntWalk
namespace Go.Vm

inductive Tm where
  | mk (kind : Int) (name : List UInt8) (sort : Int) (nil : Bool) (kids : List Tm)

mutual
def Tm.cells : Tm → List PV
  | .mk k nm s b kids => [.int .i64 k, .str nm, .int .i64 s, slV b 4 (cellsL kids)]
def cellsL : List Tm → List (List PV)
  | [] => []
  | t :: r => t.cells :: cellsL r
end
mutual
def Tm.size : Tm → Nat
  | .mk _ _ _ _ kids => 1 + sizeL kids
def sizeL : List Tm → Nat
  | [] => 0
  | t :: r => t.size + sizeL r
end

theorem cellsL_eq : ∀ l : List Tm, cellsL l = l.map Tm.cells
  | [] => rfl
  | t :: r => by simp [cellsL, cellsL_eq r]
theorem cellsL_length (l : List Tm) : (cellsL l).length = l.length := by simp [cellsL_eq]
theorem cellsL_get {l : List Tm} {i : Nat} {k : Int} {nm : List UInt8} {s : Int} {b : Bool} {kids : List Tm} (h : l[i]? = some (.mk k nm s b kids)) :
    (cellsL l)[i]? = some [.int .i64 k, .str nm, .int .i64 s, slV b 4 (cellsL kids)] := by
  simp [cellsL_eq, h, Tm.cells]

theorem sizeL_take {l : List Tm} : ∀ {i : Nat} {t : Tm}, l[i]? = some t → sizeL (l.take (i + 1)) = sizeL (l.take i) + t.size := by
  induction l with
  | nil => intro i t h; simp at h
  | cons a r ih =>
    intro i t h
    cases i with
    | zero => simp at h; subst h; simp [sizeL]
    | succ i => simp at h; simp only [List.take_succ_cons, sizeL, ih h]; omega
theorem sizeL_take_le (l : List Tm) (i : Nat) : sizeL (l.take i) ≤ sizeL l := by
  induction l generalizing i with
  | nil => simp
  | cons a r ih => cases i with
    | zero => simp [sizeL]
    | succ i => simp only [List.take_succ_cons, sizeL]; have := ih i; omega
theorem size_le {l : List Tm} {t : Tm} (h : t ∈ l) : t.size ≤ sizeL l := by
  induction l with
  | nil => simp at h
  | cons a r ih =>
    simp only [sizeL]
    rcases List.mem_cons.1 h with rfl | h
    · omega
    · have := ih h; omega
theorem ovr_mk {tm : TM} {l : List (Nat × PV)} (h : okL tm l) : tm = ovr tm l := (ovr_self h).symm
theorem int_eq {k : IntKind} {a b : Int} (h : a = b) : PV.int k a = PV.int k b := by rw [h]

/-- As a reading gives it: no list is longer than a list can be. -/
inductive Tm.Ok : Tm → Prop
  | mk {k : Int} {nm : List UInt8} {s : Int} {b : Bool} {kids : List Tm} (hk : (Lit.int .i64 k).wf = true) (hs : (Lit.int .i64 s).wf = true) (hn : nm.length ≤ maxLen) (hl : kids.length ≤ maxLen) (h : ∀ t, t ∈ kids → t.Ok) : Tm.Ok (.mk k nm s b kids)

theorem wrap_nat {n : Nat} (h : n < 9223372036854775808) : IntKind.i64.wrap (n : Int) = (n : Int) := IntWalk.i64_in _ (by omega)
end Go.Vm
