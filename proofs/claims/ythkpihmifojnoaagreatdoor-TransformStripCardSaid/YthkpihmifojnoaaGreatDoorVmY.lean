/-
  Facts as oracles of the evaluator.
-/
import Derived.Test.YthkpihmifojnoaaGreatDoorVmX
namespace Go.Vm

mutual
def eqP : PV → PV → Bool
  | .bool a, .bool b => match a, b with | true, true => true | false, false => true | _, _ => false
  | .int k n, .int k' m => decide (k = k') && decide (n = m)
  | .str s, .str t => decide (s = t)
  | .nilp, .nilp => true
  | .nils, .nils => true
  | .nilm, .nilm => true
  | .nilf, .nilf => true
  | .sl .none es el, .sl .none es' el' => Nat.beq es es' && eqPLL el el'
  | .agg cs, .agg cs' => eqPL cs cs'
  | .tup cs, .tup cs' => eqPL cs cs'
  | _, _ => false
def eqPL : List PV → List PV → Bool
  | [], [] => true
  | a :: r, b :: s => eqP a b && eqPL r s
  | _, _ => false
def eqPLL : List (List PV) → List (List PV) → Bool
  | [], [] => true
  | a :: r, b :: s => eqPL a b && eqPLL r s
  | _, _ => false
end

theorem eqP_ok (a : PV) : ∀ b, eqP a b = true → a = b := by
  refine @PV.rec (fun a => ∀ b, eqP a b = true → a = b) (fun l => ∀ m, eqPL l m = true → l = m) (fun l => ∀ m, eqPLL l m = true → l = m)
    ?bool ?int ?str ?nilp ?ptr ?fptr ?nils ?sl ?own ?nilm ?map ?nilf ?fn ?agg ?tup ?undef ?n2 ?c2 ?n3 ?c3 a
  case bool => intro x b h; cases b <;> simp [eqP] at h; rename_i y; cases x <;> cases y <;> simp at h ⊢
  case int => intro k n b h; cases b <;> simp [eqP] at h; simp [h]
  case str => intro t b h; cases b <;> simp [eqP] at h; simp [h]
  case nilp => intro b h; cases b <;> first | rfl | simp [eqP] at h
  case nils => intro b h; cases b <;> first | rfl | simp [eqP] at h
  case nilm => intro b h; cases b <;> first | rfl | simp [eqP] at h
  case nilf => intro b h; cases b <;> first | rfl | simp [eqP] at h
  case sl =>
    intro t es el ih b h
    cases b with
    | sl t' es' el' =>
      cases t <;> cases t' <;> simp only [eqP, Bool.false_eq_true] at h
      simp only [Bool.and_eq_true] at h
      rw [Nat.eq_of_beq_eq_true h.1, ih el' h.2]
    | _ => cases t <;> simp [eqP] at h
  case agg =>
    intro cs ih b h
    cases b with
    | agg cs' =>
      simp only [eqP] at h
      rw [ih cs' h]
    | _ => simp [eqP] at h
  case tup =>
    intro cs ih b h
    cases b with
    | tup cs' =>
      simp only [eqP] at h
      rw [ih cs' h]
    | _ => simp [eqP] at h
  case n2 => intro b h; cases b <;> first | rfl | simp [eqPL] at h
  case c2 =>
    intro x r i1 i2 b h
    cases b with
    | nil => simp [eqPL] at h
    | cons y s =>
      simp only [eqPL, Bool.and_eq_true] at h
      rw [i1 y h.1, i2 s h.2]
  case n3 => intro b h; cases b <;> first | rfl | simp [eqPLL] at h
  case c3 =>
    intro x r i1 i2 b h
    cases b with
    | nil => simp [eqPLL] at h
    | cons y s =>
      simp only [eqPLL, Bool.and_eq_true] at h
      rw [i1 y h.1, i2 s h.2]
  all_goals intros; rename_i h; simp [eqP] at h

theorem eqPL_ok : ∀ (a b : List PV), eqPL a b = true → a = b
  | [], [], _ => rfl
  | a :: r, b :: s, h => by
    simp only [eqPL, Bool.and_eq_true] at h
    rw [eqP_ok a b h.1, eqPL_ok r s h.2]
  | [], _ :: _, h => by simp [eqPL] at h
  | _ :: _, [], h => by simp [eqPL] at h

structure Fact where
  f : FuncId
  args : List PV
  r : PV

def findF : List Fact → FuncId → List PV → Option PV
  | [], _, _ => none
  | x :: l, f, args => match Nat.beq x.f f with
    | true => match eqPL x.args args with
      | true => some x.r
      | false => findF l f args
    | false => findF l f args

/-- The environment with facts for oracles. -/
def Env.knows (E : Env) (l : List Fact) : Env :=
  { E with
    F := fun f => match l.any (fun x => Nat.beq x.f f) with | true => none | false => E.F f
    Z := fun f args H => match findF l f args with | some r => some (r, H) | none => E.Z f args H }

/-- A fact, to be computed. -/
noncomputable def evFact (E : Env) (fuel k : Nat) (f : FuncId) (args : List PV) : Option PV :=
  match frzGL args with
  | some args' => match ev E fuel k f args' hNil with
    | some (r, H') => frz3 0 H' r
    | none => none
  | none => none

section
variable {E : Env} {P : Program}

def FactOk (E : Env) (P : Program) (x : Fact) : Prop := ∀ H, CallOk E P x.f x.args H x.r H

theorem findF_ok {f : FuncId} {args : List PV} {r : PV} : ∀ {l : List Fact}, findF l f args = some r → ∃ x ∈ l, x.f = f ∧ x.args = args ∧ x.r = r
  | x :: l, h => by
    simp only [findF] at h
    split at h
    · rename_i h1
      split at h
      · rename_i h2
        cases h
        exact ⟨x, List.mem_cons_self, Nat.eq_of_beq_eq_true h1, eqPL_ok _ _ h2, rfl⟩
      · obtain ⟨y, hy, e⟩ := findF_ok h; exact ⟨y, List.mem_cons_of_mem _ hy, e⟩
    · obtain ⟨y, hy, e⟩ := findF_ok h; exact ⟨y, List.mem_cons_of_mem _ hy, e⟩

theorem knows_calls {l : List Fact} (hl : ∀ x ∈ l, FactOk E P x) (hZ : CallsOk E P E.Z) : CallsOk (E.knows l) P (E.knows l).Z := by
  intro f args H p H' h
  simp only [Env.knows] at h
  split at h
  · rename_i r hr
    cases h
    obtain ⟨x, hx, rfl, rfl, rfl⟩ := findF_ok hr
    exact ⟨(hl x hx H).env rfl, fun _ => rfl⟩
  · obtain ⟨a, b⟩ := hZ _ _ _ _ _ h
    exact ⟨a.env rfl, b⟩

theorem knows_F {l : List Fact} (hF : FOk E P) : FOk (E.knows l) P := fun f fn c h => by
  simp only [Env.knows] at h
  split at h
  · cases h
  · exact hF f fn c h

theorem fact_ok (hE : TOk E P) (hm : P.follows .mixedOrders = true) (hF : FOk E P) (hZ : CallsOk E P E.Z) {fuel k : Nat} {f : FuncId} {args : List PV} {r : PV} (h : evFact E fuel k f args = some r) : FactOk E P ⟨f, args, r⟩ := by
  unfold evFact at h
  split at h
  · rename_i args' ha
    split at h
    · rename_i r0 H' hev
      exact callOk_lift (ev_ok hE hm hF hZ k _ _ _ _ _ hev).1 ha h
    · cases h
  · cases h

theorem FactOk.env {E' : Env} (hG : E'.G = E.G) {x : Fact} (h : FactOk E P x) : FactOk E' P x := fun H => (h H).env hG

end
end Go.Vm
