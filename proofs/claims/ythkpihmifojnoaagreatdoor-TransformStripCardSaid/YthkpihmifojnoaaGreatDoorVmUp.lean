/-
  The evaluator at one operation and at a region in the text's order.
-/
import Derived.Test.YthkpihmifojnoaaGreatDoorVmU
namespace Go.Vm

def FOk (E : Env) (P : Program) : Prop := ∀ f fn c, E.F f = some fn → fn.body = some c → FnOk P f fn c ∧ fn.ntmps ≤ 4000

/-- What a caller of 'call' may rely on. -/
def CallsOk (E : Env) (P : Program) (call : CallF) : Prop := ∀ f args H p H', call f args H = some (p, H') → CallOk E P f args H p H' ∧ (E.eff f = false → H' = H)

section
variable {E : Env} {P : Program} {call : CallF} {own : Tmp → Bool} {n : Nat}

theorem evOp_ok (hc : CallsOk E P call) {tm : TM} {o : Oper} {H : Heap} {p : PV} {H' : Heap} (h : evOp E call own tm o H = some (p, H')) : OpTo E P own tm o H p H' := by
  obtain ⟨dst, op, ty, pos, after, guard⟩ := o
  unfold evOp at h
  simp only at h
  split at h
  · rename_i f args ats
    split at h
    · rename_i k caps hf
      exact .call f args _ k caps p H' rfl hf (hc _ _ _ _ _ h).1
    · cases h
  · exact .op p H' h

theorem evOps_nil {all : List Oper} {t : Tr} {H : Heap} : evOps E call own n all [] t H = some (t, H) := rfl
theorem evOps_cons {all : List Oper} {o : Oper} {r : List Oper} {t : Tr} {H : Heap} : evOps E call own n all (o :: r) t H = match dstOk n o with
      | false => none
      | true => match wantedA all (tget t) o with
        | some true => match evOp E call own (tget t) o H with
          | some (p, H') => evOps E call own n all r (setT t o.dst p) H'
          | none => none
        | some false => evOps E call own n all r (setT t o.dst unset) H
        | none => none := rfl

theorem evOps_ok (hc : CallsOk E P call) (hn : n ≤ 4000) {all : List Oper} : ∀ {l : List Oper} {t : Tr} {H : Heap} {t' : Tr} {H' : Heap}, evOps E call own n all l t H = some (t', H') → RegTo E P own n all l (tget t) H (tget t') H'
  | [], t, H, t', H', h => by
    rw [evOps_nil] at h
    cases h
    exact .nil _ _
  | o :: r, t, H, t', H', h => by
    rw [evOps_cons] at h
    split at h
    · cases h
    · rename_i hd
      have hd := dstOk_spec hd
      have hset : ∀ v, tget (setT t o.dst v) = setD (tget t) o.dst v := fun v => setT_eq fun x hx => Nat.lt_of_lt_of_le (hd x hx) hn
      split at h
      · rename_i hw
        split at h
        · rename_i p H1 ho
          have := evOps_ok hc hn h
          rw [hset] at this
          exact .op o r _ H p H1 _ _ hw (evOp_ok hc ho) hd this
        · cases h
      · rename_i hw
        have := evOps_ok hc hn h
        rw [hset] at this
        exact .pass o r _ H _ _ hw hd this
      · cases h

theorem evLoop_zero {body : Tr → Heap → Option (Ex × Tr × Heap)} {t : Tr} {H : Heap} : evLoop body 0 t H = none := rfl
theorem evLoop_succ {body : Tr → Heap → Option (Ex × Tr × Heap)} {k : Nat} {t : Tr} {H : Heap} : evLoop body (k + 1) t H = match body t H with
      | some (.normal, t', H') => evLoop body k t' H'
      | r => r := rfl

theorem evLoop_ok {c : Code} {body : Tr → Heap → Option (Ex × Tr × Heap)} (hb : ∀ {t H ex t' H'}, body t H = some (ex, t', H') → CodeTo E P own n c (tget t) H ex (tget t') H') :
    ∀ {k : Nat} {t : Tr} {H : Heap} {ex : Ex} {t' : Tr} {H' : Heap}, evLoop body k t H = some (ex, t', H') → CodeTo E P own n (.loop c) (tget t) H ex (tget t') H'
  | 0, t, H, ex, t', H', h => by rw [evLoop_zero] at h; cases h
  | k + 1, t, H, ex, t', H', h => by
    rw [evLoop_succ] at h
    split at h
    · rename_i t1 H1 h1
      exact .loop c _ _ _ _ _ _ _ (hb h1) (evLoop_ok hb h)
    · rename_i hx
      refine .loopOut c _ _ _ _ _ (hb h) fun e => ?_
      subst e
      exact hx _ _ h

end
end Go.Vm
