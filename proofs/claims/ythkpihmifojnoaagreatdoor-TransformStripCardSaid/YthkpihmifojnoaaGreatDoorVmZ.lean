/-
  Tables of types and functions, each entry with its proof; facts that are computed.
-/
import Derived.Test.YthkpihmifojnoaaGreatDoorVmY
namespace Go.Vm

inductive Tri (α : Type) where
  | leaf
  | node (v : Option α) (l r : Tri α)
noncomputable def Tri.get {α : Type} (t : Tri α) : Nat → Option α :=
  Tri.rec (motive := fun _ => Nat → Option α) (fun _ => none)
    (fun v _ _ il ir n => Nat.rec (motive := fun _ => Option α) v (fun m _ => Nat.rec (motive := fun _ => Option α) (il (m / 2)) (fun _ _ => ir (m / 2)) (m % 2)) n) t

structure FnE (P : Program) where
  f : FuncId
  fn : Func
  c : Code
  ok : FnOk P f fn c
  n : Nat.ble fn.ntmps 4000 = true
structure TiE (P : Program) where
  t : TypeId
  ti : TI
  ok : tiOf P t = some ti

section
variable {P : Program}

noncomputable def getF (t : Tri (FnE P)) (f : FuncId) : Option Func := match t.get f with
  | some e => match Nat.beq e.f f with | true => some e.fn | false => none
  | none => none
noncomputable def getT (t : Tri (TiE P)) (f : TypeId) : Option TI := match t.get f with
  | some e => match Nat.beq e.t f with | true => some e.ti | false => none
  | none => none

theorem getF_ok {t : Tri (FnE P)} {f : FuncId} {fn : Func} {c : Code} (h : getF t f = some fn) (hb : fn.body = some c) : FnOk P f fn c ∧ fn.ntmps ≤ 4000 := by
  unfold getF at h
  split at h
  · rename_i e _
    split at h
    · rename_i he
      cases h
      have := Nat.eq_of_beq_eq_true he
      subst this
      have hc := e.ok.body
      rw [hb] at hc
      cases hc
      exact ⟨e.ok, Nat.le_of_ble_eq_true e.n⟩
    · cases h
  · cases h

theorem getT_ok {t : Tri (TiE P)} {f : TypeId} {ti : TI} (h : getT t f = some ti) : tiOf P f = some ti := by
  unfold getT at h
  split at h
  · rename_i e _
    split at h
    · rename_i he
      cases h
      have := Nat.eq_of_beq_eq_true he
      subst this
      exact e.ok
    · cases h
  · cases h

noncomputable def okFact (E : Env) (fuel k : Nat) (x : Fact) : Bool := match evFact E fuel k x.f x.args with
  | some r => eqP r x.r
  | none => false

theorem okFact_ok {E : Env} (hE : TOk E P) (hm : P.follows .mixedOrders = true) (hF : FOk E P) (hZ : CallsOk E P E.Z) {fuel k : Nat} {x : Fact} (h : okFact E fuel k x = true) : FactOk E P x := by
  unfold okFact at h
  split at h
  · rename_i r hr
    have := eqP_ok _ _ h
    subst this
    exact fact_ok hE hm hF hZ hr
  · cases h

end
end Go.Vm
