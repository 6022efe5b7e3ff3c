/-
  Regions that draw their order: what an operation looks at.
-/
import Derived.Test.YthkpihmifojnoaaGreatDoorVmO
namespace Go.Vm
section
variable {E : Env} {P : Program}

theorem aOp_congr {own : Bool} {ρ ρ' : Operand → PV} {o : Op} (h : ∀ x ∈ o.operands.toList, ρ x = ρ' x) (H : Heap) : aOp E own ρ o H = aOp E own ρ' o H := by
  have hm : ∀ (ps : Array (Nat × Operand)), (∀ x ∈ (ps.toList.map (·.2)), ρ x = ρ' x) → (ps.toList.map fun p => (p.1, ρ p.2)) = ps.toList.map fun p => (p.1, ρ' p.2) := fun ps hp =>
    List.map_congr_left fun p hp' => by rw [hp p.2 (List.mem_map.2 ⟨p, hp', rfl⟩)]
  have ho : ∀ (x : Option Operand), (∀ y ∈ x.toArray.toList, ρ y = ρ' y) → optV ρ x = optV ρ' x := fun x hx => by
    cases x with
    | none => rfl
    | some y => simp only [optV]; rw [hx y (by simp)]
  cases o with
  | move x => simp only [aOp]; rw [h x (by simp [Op.operands])]
  | assign x => simp only [aOp]; rw [h x (by simp [Op.operands])]
  | pick c a b => simp only [aOp]; rw [h c (by simp [Op.operands]), h a (by simp [Op.operands]), h b (by simp [Op.operands])]
  | box e x => simp only [aOp]; rw [h x (by simp [Op.operands])]
  | build t ps => simp only [aOp]; rw [hm ps (fun x hx => h x (by simpa [Op.operands] using hx))]
  | buildSlice t n ps => simp only [aOp]; rw [hm ps (fun x hx => h x (by simpa [Op.operands] using hx))]
  | load t a => simp only [aOp]; rw [h a (by simp [Op.operands])]
  | store t a v => simp only [aOp]; rw [h a (by simp [Op.operands]), h v (by simp [Op.operands])]
  | nilCheck x => simp only [aOp]; rw [h x (by simp [Op.operands])]
  | binOp op t x y yt => simp only [aOp]; rw [h x (by simp [Op.operands]), h y (by simp [Op.operands])]
  | unOp op t x => simp only [aOp]; rw [h x (by simp [Op.operands])]
  | convert s d x => simp only [aOp]; rw [h x (by simp [Op.operands])]
  | makeFunc f fi ca =>
    have : ca.toList.map ρ = ca.toList.map ρ' := List.map_congr_left fun x hx => h x (by simp [Op.operands]; exact .inr (by simpa using hx))
    cases f <;> simp only [aOp]
    rw [this]
  | slice t x lo hi mx =>
    simp only [aOp]
    rw [h x (by simp [Op.operands]), ho lo (fun y hy => h y (by simp [Op.operands] at hy ⊢; simp [hy])), ho hi (fun y hy => h y (by simp [Op.operands] at hy ⊢; simp [hy])), ho mx (fun y hy => h y (by simp [Op.operands] at hy ⊢; simp [hy]))]
  | fieldAddr t x f => simp only [aOp]; rw [h x (by simp [Op.operands])]
  | field t x f => simp only [aOp]; rw [h x (by simp [Op.operands])]
  | indexAddr t x i => simp only [aOp]; rw [h x (by simp [Op.operands]), h i (by simp [Op.operands])]
  | index t x i => simp only [aOp]; rw [h x (by simp [Op.operands]), h i (by simp [Op.operands])]
  | lookup t x i ok => simp only [aOp]; rw [h x (by simp [Op.operands]), h i (by simp [Op.operands])]
  | mapUpdate t m k v => simp only [aOp]; rw [h m (by simp [Op.operands]), h k (by simp [Op.operands]), h v (by simp [Op.operands])]
  | extract x i => simp only [aOp]; rw [h x (by simp [Op.operands])]
  | call c =>
    obtain ⟨callee, args, ats⟩ := c
    cases callee with
    | builtin b =>
      have : args.toList.map ρ = args.toList.map ρ' := List.map_congr_left fun x hx => h x (by simp [Op.operands, Call.operands]; simpa using hx)
      simp only [aOp]
      rw [this]
    | value f => rfl
    | invoke r m => rfl
  | makeMap t r => cases r <;> rfl
  | _ => rfl

/-- Set a slot that an operation does not look at. -/
theorem evalO_set {tm : TM} {d : Option Tmp} {v : PV} {x : Operand} (h : ∀ t, d = some t → x ≠ .tmp t) : evalO E (setD tm d v) x = evalO E tm x := by
  cases d with
  | none => rfl
  | some d =>
    cases x with
    | tmp t =>
      have : t ≠ d := fun e => h d rfl (by rw [e])
      simp [evalO, setD, this]
    | _ => rfl

theorem operands_looks {ops : Array Oper} {o : Oper} {t : Tmp} (h : Operand.tmp t ∈ o.op.operands.toList) : t ∈ o.looksAt ops := by
  simp only [Oper.looksAt, List.mem_append, List.mem_filterMap]
  exact .inl ⟨.tmp t, h, rfl⟩

theorem OpTo.set {own : Tmp → Bool} {ops : Array Oper} {o : Oper} {tm : TM} {d : Option Tmp} {v : PV} {H H' : Heap} {p : PV} (hd : ∀ t, d = some t → t ∉ o.looksAt ops) (h : OpTo E P own tm o H p H') :
    OpTo E P own (setD tm d v) o H p H' := by
  have he : ∀ x ∈ o.op.operands.toList, evalO E (setD tm d v) x = evalO E tm x := fun x hx => evalO_set fun t ht e => hd t ht (operands_looks (e ▸ hx))
  cases h with
  | op _ _ h => exact .op _ _ (by rw [aOp_congr he]; exact h)
  | call f args ats k caps _ _ ho hf h =>
    have hf' : evalO E (setD tm d v) f = evalO E tm f := he f (by simp [ho, Op.operands, Call.operands])
    have ha : args.toList.map (evalO E (setD tm d v)) = args.toList.map (evalO E tm) := List.map_congr_left fun x hx => he x (by simp only [ho, Op.operands, Call.operands]; simp; exact .inr (by simpa using hx))
    exact .call f args ats k caps _ _ ho (by rw [hf']; exact hf) (by rw [ha]; exact h)

theorem OpTo.unset {own : Tmp → Bool} {ops : Array Oper} {o : Oper} {tm : TM} {d : Option Tmp} {v : PV} {H H' : Heap} {p : PV} (hd : ∀ t, d = some t → t ∉ o.looksAt ops) (h : OpTo E P own (setD tm d v) o H p H') :
    OpTo E P own tm o H p H' := by
  have he : ∀ x ∈ o.op.operands.toList, evalO E (setD tm d v) x = evalO E tm x := fun x hx => evalO_set fun t ht e => hd t ht (operands_looks (e ▸ hx))
  cases h with
  | op _ _ h => exact .op _ _ (by rw [← aOp_congr he]; exact h)
  | call f args ats k caps _ _ ho hf h =>
    have hf' : evalO E (setD tm d v) f = evalO E tm f := he f (by simp [ho, Op.operands, Call.operands])
    have ha : args.toList.map (evalO E (setD tm d v)) = args.toList.map (evalO E tm) := List.map_congr_left fun x hx => he x (by simp only [ho, Op.operands, Call.operands]; simp; exact .inr (by simpa using hx))
    exact .call f args ats k caps _ _ ho (by rw [← hf']; exact hf) (by rw [← ha]; exact h)

theorem wantedA_set {ops : Array Oper} {o : Oper} {tm : TM} {d : Option Tmp} {v : PV} (hd : ∀ t, d = some t → t ∉ o.looksAt ops) : wantedA ops.toList (setD tm d v) o = wantedA ops.toList tm o := by
  unfold wantedA
  cases hg : o.guard with
  | none => rfl
  | some x =>
    obtain ⟨j, want⟩ := x
    simp only [nth_eq]
    cases hj : ops.toList[j]? with
    | none => rfl
    | some oj =>
      simp only
      cases he : oj.dst with
      | none => rfl
      | some e =>
        simp only
        have : setD tm d v e = tm e := by
          cases d with
          | none => rfl
          | some d =>
            have hne : e ≠ d := fun h => hd d rfl (by
              have hj' : ops[j]? = some oj := by simpa using hj
              simp only [Oper.looksAt, List.mem_append, hg]
              right
              simp [hj', he, h])
            simp [setD, hne]
        rw [this]

theorem setD_comm {tm : TM} {d e : Option Tmp} {v u : PV} (h : ∀ t, d = some t → e ≠ some t) : setD (setD tm d v) e u = setD (setD tm e u) d v := by
  cases d with
  | none => rfl
  | some d =>
    cases e with
    | none => rfl
    | some e =>
      funext t
      have hne : d ≠ e := fun x => h d rfl (by rw [x])
      simp only [setD]
      by_cases h1 : t = e
      · subst h1; simp [Ne.symm hne]
      · simp [h1]

end
end Go.Vm
