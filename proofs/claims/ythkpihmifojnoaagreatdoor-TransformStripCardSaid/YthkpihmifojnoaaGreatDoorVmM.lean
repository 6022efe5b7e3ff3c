/-
  Acts: the operations of a region, one after the other.
-/
import Derived.Test.YthkpihmifojnoaaGreatDoorVmL
namespace Go.Vm

/-- What a slot holds before anything is written to it, and where an operation is passed by. -/
abbrev unset : PV := .tup []

structure Rel (E : Env) (g : Gh) (n : Nat) (tm : TM) (H : Heap) (a : Act) (w : World) : Prop where
  sz : n ≤ a.tmps.size
  tm : ∀ t, V g (tm t) (a.tmps.getD t undef)
  inv : Inv g H w
  gl : GOk E g.S
  df : a.defers = []

theorem V.unset (g : Gh) : V g unset Go.undef := .tup _ _ rfl fun i hi => absurd hi (by simp)

section
variable {E : Env} {P : Program} {g : Gh} {n : Nat} {tm : TM} {H : Heap} {a : Act} {w : World}

theorem Rel.eval (h : Rel E g n tm H a w) (x : Operand) : V g (evalO E tm x) (a.eval x) := by
  cases x with
  | tmp t => exact h.tm t
  | const v => exact .pure _ _ (V0.ofConst _ v)
  | global k =>
    simp only [evalO, Act.eval]
    split
    · rename_i cs hc; exact .pure _ _ (h.gl k cs hc)
    · exact .pure _ _ (.undef _)
  | func f => exact .fn f [] #[] rfl fun i hi => absurd hi (by simp)

theorem Rel.put (h : Rel E g n tm H a w) {g' : Gh} {H' : Heap} {w' : World} (hi : Inv g' H' w') (k : Keep g H w g' H' w') {d : Option Tmp} (hd : ∀ t, d = some t → t < n) {p : PV} {v : Value} (hv : V g' p v) :
    Rel E g' n (setD tm d p) H' (a.put d v) w' := by
  refine ⟨?_, fun t => ?_, hi, fun x cs hx => (h.gl x cs hx).mono k.le.S, ?_⟩
  · have := h.sz; cases d <;> simpa [Act.put] using this
  · cases d with
    | none => exact (h.tm t).mono k.le
    | some d =>
      have hlt : d < a.tmps.size := Nat.lt_of_lt_of_le (hd d rfl) h.sz
      simp only [setD, Act.put]
      by_cases e : t = d
      · subst e
        rw [if_pos rfl]
        simpa [Array.getD, hlt] using hv
      · rw [if_neg e]
        have := (h.tm t).mono k.le
        have e2 : (a.tmps.setIfInBounds d v).getD t undef = a.tmps.getD t undef := by
          simp only [Array.getD_eq_getD_getElem?, Array.getElem?_setIfInBounds]
          rw [if_neg (Ne.symm e)]
        rw [e2]; exact this
  · cases d <;> simp [Act.put, h.df]

/-! ### calls -/
def UponCall (P : Program) (K : Value → World → Prop) : Result Next → Prop
  | .ok (.value v) w => K v w
  | .ok (.enter f args) w => Calls P f args w fun e w' => ∃ v, e = .returned v ∧ K v w'
  | _ => False

/-- A call, abstractly: what it returns and what it makes of the heap. -/
def CallOk (E : Env) (P : Program) (f : FuncId) (args : List PV) (H : Heap) (r : PV) (H' : Heap) : Prop :=
  ∀ g w (vals : Array Value), Inv g H w → GOk E g.S → VL g args vals.toList → UponCall P (fun v w' => ∃ g', V g' r v ∧ Inv g' H' w' ∧ Keep g H w g' H' w') ((callFunc f vals).run P w)

theorem UponCall.mono {K K' : Value → World → Prop} (h : ∀ v w, K v w → K' v w) {r : Result Next} (x : UponCall P K r) : UponCall P K' r := by
  unfold UponCall at *
  split
  · exact h _ _ x
  · exact Calls.mono x fun e w' ⟨v, e1, e2⟩ => ⟨v, e1, h _ _ e2⟩
  · rename_i h1 h2
    split at x
    · exact (h1 _ _ rfl).elim
    · exact (h2 _ _ _ rfl).elim
    · exact x

/-! ### one operation -/
/-- What an operation does to the abstract state. -/
noncomputable def evOp (E : Env) (call : FuncId → List PV → Heap → Option (PV × Heap)) (own : Tmp → Bool) (tm : TM) (o : Oper) (H : Heap) : Option (PV × Heap) :=
  match o.op with
  | .call { callee := .value f, args, .. } => match evalO E tm f with
    | .fn g caps => call g (args.toList.map (evalO E tm) ++ caps) H
    | _ => none
  | op => aOp E (own (o.dst.getD 0)) (evalO E tm) op H

/-- The same, as a statement: calls by their contracts. -/
inductive OpTo (E : Env) (P : Program) (own : Tmp → Bool) (tm : TM) (o : Oper) (H : Heap) : PV → Heap → Prop
  | op (p : PV) (H' : Heap) (h : aOp E (own (o.dst.getD 0)) (evalO E tm) o.op H = some (p, H')) : OpTo E P own tm o H p H'
  | call (f : Operand) (args : Array Operand) (ats : Array TypeId) (k : FuncId) (caps : List PV) (p : PV) (H' : Heap) (ho : o.op = .call { callee := .value f, args, argTypes := ats })
      (hf : evalO E tm f = .fn k caps) (h : CallOk E P k (args.toList.map (evalO E tm) ++ caps) H p H') : OpTo E P own tm o H p H'

theorem op_upon (hE : TOk E P) {own : Tmp → Bool} {o : Oper} {p : PV} {H' : Heap} (h : OpTo E P own tm o H p H') (hr : Rel E g n tm H a w) {next : Act → World → Prop} {Q : Exit → Act → World → Prop}
    (hn : ∀ v w' g', V g' p v → Inv g' H' w' → Keep g H w g' H' w' → next (a.put o.dst v) w') : o.wp P a w next Q := by
  unfold Oper.wp
  cases h with
  | op _ _ h =>
    obtain ⟨nx, v, w', g', e, e2, hv, hi, hk⟩ := aOp_ok (w := w) hE hr.inv hr.eval h
    rw [e]
    rcases e2 with rfl | ⟨rfl, rfl⟩
    · exact hn _ _ _ hv hi hk
    · exact hn _ _ _ hv hi hk
  | call f args ats k caps _ _ ho hf h =>
    have hfv := hr.eval f
    rw [hf] at hfv
    obtain ⟨vs, hl, e, hvs⟩ := hfv.fn_inv
    have hargs : VL g (args.toList.map (evalO E tm) ++ caps) (args.map a.eval ++ vs).toList := by
      rw [Array.toList_append]
      refine (VL_of hr.eval args).append ⟨by simpa using hl, fun i hi hj => by simpa using hvs i hi⟩
    have hu := h g w (args.map a.eval ++ vs) hr.inv hr.gl hargs
    have hx : (execOp a.eval o).run P w = (callFunc k (args.map a.eval ++ vs)).run P w := by
      obtain ⟨dst, op, ty, pos, after, guard⟩ := o
      simp only at ho
      subst ho
      simp [execOp, resolve, e, Deferred.ofValue, invoke]
    rw [hx]
    generalize (callFunc k (args.map a.eval ++ vs)).run P w = r at hu
    unfold UponCall at hu
    split at hu
    · obtain ⟨g', a1, a2, a3⟩ := hu
      exact hn _ _ _ a1 a2 a3
    · refine Calls.mono hu fun e w' ⟨v, e1, g', a1, a2, a3⟩ => ?_
      subst e1
      exact hn _ _ _ a1 a2 a3
    · exact hu.elim

/-! ### guards -/
/-- Is the operation wanted? Nothing, where that cannot be told. -/
noncomputable def wantedA (ops : List Oper) (tm : TM) (o : Oper) : Option Bool :=
  match o.guard with
  | none => some true
  | some (j, want) => match nth ops j with
    | some oj => match oj.dst with
      | some d => match tm d with
        | .bool b => some (b == want)
        | .tup _ => some false
        | _ => none
      | none => some false
    | none => some false

theorem wanted_ok {ops : Array Oper} {o : Oper} {b : Bool} (h : wantedA ops.toList tm o = some b) (hr : Rel E g n tm H a w) : Region.wanted o (yielded ops a.tmps) = b := by
  unfold wantedA at h
  unfold Region.wanted
  cases hg : o.guard with
  | none => simp only [hg, Option.some.injEq] at h; simpa using h
  | some x =>
    obtain ⟨j, want⟩ := x
    simp only [hg, nth_eq] at h
    simp only [yielded]
    have e1 : ops.toList[j]? = ops[j]? := by simp
    rw [e1] at h
    cases hj : ops[j]? with
    | none => simp only [hj, Option.some.injEq] at h; subst h; simp
    | some oj =>
      simp only [hj] at h
      cases hd : oj.dst with
      | none => simp only [hd, Option.some.injEq] at h; subst h; simp [hd]
      | some d =>
        simp only [hd] at h
        have hv := hr.tm d
        simp only [Option.bind_some, hd]
        by_cases hlt : d < a.tmps.size
        · have e2 : a.tmps[d]? = some (a.tmps.getD d undef) := by simp [Array.getD, hlt]
          rw [e2]
          split at h
          · rename_i b' hb
            rw [hb] at hv
            rw [hv.bool_inv]
            simp only [Option.some.injEq] at h
            subst h
            cases b' <;> cases want <;> rfl
          · rename_i vs hb
            rw [hb] at hv
            obtain ⟨_, _, e, _⟩ := hv.tup_inv
            rw [e]
            simp only [Option.some.injEq] at h
            subst h
            rfl
          · cases h
        · have e2 : a.tmps[d]? = none := Array.getElem?_eq_none (Nat.le_of_not_lt hlt)
          rw [e2]
          have e3 : a.tmps.getD d undef = undef := by simp [Array.getD, hlt]
          rw [e3] at hv
          split at h
          · rename_i b' hb
            rw [hb] at hv
            have := hv.bool_inv
            cases this
          · simp only [Option.some.injEq] at h; subst h; rfl
          · cases h

end
end Go.Vm
