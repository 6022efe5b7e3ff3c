/-
  The evaluator is sound.
-/
import Derived.Test.YthkpihmifojnoaaGreatDoorVmUb
namespace Go.Vm

section
variable {E : Env} {P : Program} {call : CallF} {own : Tmp → Bool} {n : Nat}

theorem tgtO_ld {own : Tmp → Bool} {o : Oper} {N : Nat} {tm : TM} (hc : clsO E own o = .ld) : tgtO E N tm o = N := by
  obtain ⟨dst, op, ty, pos, after, guard⟩ := o
  cases op
  case load t a => rfl
  case call c =>
    obtain ⟨cl, args, ats⟩ := c
    cases cl
    case builtin b => cases b <;> (simp only [clsO] at hc; cases hc)
    case value x =>
      cases x
      case func k =>
        simp only [clsO] at hc
        split at hc
        · split at hc <;> cases hc
        · cases hc
      all_goals
        simp only [clsO] at hc
        cases hc
    all_goals
      simp only [clsO] at hc
      cases hc
  case buildSlice t len parts =>
    have hc : (if own (dst.getD 0) = true then Cls.tk else Cls.sc) = Cls.ld := hc
    split at hc <;> cases hc
  all_goals simp only [clsO] at hc
  all_goals cases hc

theorem evDrawL_ok (hc : CallsOk E P call) (hn : n ≤ 4000) {ops : Array Oper} {n0 : Nat} {tg : Nat → Nat} {msk : Nat → List Nat} : ∀ (r : List Oper) (i : Nat) {t : Tr} {H : Heap} {t' : Tr} {H' : Heap}, r = ops.toList.drop i →
    evDrawL E call own n n0 msk (fun i => some (tg i)) ops.toList r i t H = some (t', H') → Run E P own n ops n0 (clsI E own ops) tg msk ((List.range ops.size).drop i) (tget t) H (tget t') H'
  | [], i, t, H, t', H', hr, h => by
    simp only [evDrawL] at h
    cases h
    have h1 : ops.size ≤ i := by
      rcases Nat.lt_or_ge i ops.size with h | h
      · have := congrArg List.length hr; simp at this; omega
      · exact h
    rw [List.drop_eq_nil_of_le (by simpa using h1)]
    exact .nil _ _
  | o :: r, i, t, H, t', H', hr, h => by
    have ho : ops[i]? = some o := by
      have := congrArg List.head? hr
      simp [List.head?_drop] at this
      exact this.symm
    have hi : i < ops.size := by
      rcases Nat.lt_or_ge i ops.size with h | h
      · exact h
      · rw [Array.getElem?_eq_none h] at ho; cases ho
    have hr' : r = ops.toList.drop (i + 1) := by
      have := congrArg List.tail hr
      simpa using this
    have hd : (List.range ops.size).drop i = i :: (List.range ops.size).drop (i + 1) := by
      rw [List.drop_eq_getElem_cons (by simpa using hi)]
      simp
    rw [hd]
    simp only [evDrawL] at h
    split at h
    · cases h
    · rename_i hds
      have hds := dstOk_spec hds
      have hset : ∀ v, tget (setT t o.dst v) = setD (tget t) o.dst v := fun v => setT_eq fun x hx => Nat.lt_of_lt_of_le (hds x hx) hn
      split at h
      · rename_i hw
        split at h
        · rename_i p H1 hp
          have ih := evDrawL_ok hc hn r (i + 1) hr' h
          rw [hset] at ih
          exact .cons i _ o _ _ p H1 _ _ ho hds (evHp_ok hc ho hw hp) ih
        · cases h
      · rename_i hw
        have ih := evDrawL_ok hc hn r (i + 1) hr' h
        rw [hset] at ih
        exact .cons i _ o _ _ unset H _ _ ho hds (.pass _ hw) ih
      · cases h

/-- What a region that draws its order comes to. -/
theorem evDraw_ok (hE : TOk E P) (hm : P.follows .mixedOrders = true) (hc : CallsOk E P call) (hn : n ≤ 4000) {ops : Array Oper} {t : Tr} {H : Heap} {t' : Tr} {H' : Heap} (h : evDraw E call own n ops t H = some (t', H')) :
    DrawOk E P own n ops (tget t) H (tget t') H' := by
  unfold evDraw at h
  split at h
  · rename_i hb
    simp only [Bool.and_eq_true] at hb
    split at h
    · rename_i t1 _ _
      split at h
      · rename_i hst
        have htg : ∀ k ∈ stL E own ops.toList 0, H.ro ≤ tgtI E (H.bx.length + roomL E own ops) (tget t1) ops k := fun k hk => Nat.le_of_ble_eq_true (List.all_eq_true.1 hst k hk)
        have hld : ∀ k, clsI E own ops k = .ld → tgtI E (H.bx.length + roomL E own ops) (tget t1) ops k ≤ H.bx.length + roomL E own ops := fun k hk => by
          cases ho : nth ops.toList k with
          | none => simp only [clsI, ho] at hk; cases hk
          | some o =>
            simp only [clsI, ho] at hk
            simp only [tgtI, ho]
            rw [tgtO_ld hk]
            exact Nat.le_refl _
        exact fun id g a w Q hr hq => drawOk hE hm (sched_ok hr.inv.ro hb.1 hb.2 htg hld) (evDrawL_ok hc hn ops.toList 0 (by simp) h) id g a w Q hr hq
      · cases h
    · cases h
  · cases h

theorem evCode_ok (hE : TOk E P) (hm : P.follows .mixedOrders = true) (hc : CallsOk E P call) (hn : n ≤ 4000) {fuel : Nat} {c : Code} : ∀ {t : Tr} {H : Heap} {ex : Ex} {t' : Tr} {H' : Heap}, evCode E call own n fuel c t H = some (ex, t', H') → CodeTo E P own n c (tget t) H ex (tget t') H' := by
  induction c with
  | skip => intro t H ex t' H' h; cases h; exact .skip _ _
  | region id ops draw =>
    intro t H ex t' H' h
    cases draw with
    | false =>
      change (match evOps E call own n ops.toList ops.toList t H with
        | some (t', H') => some (Ex.normal, t', H')
        | none => none) = _ at h
      split at h
      · rename_i t1 H1 h1
        cases h
        exact .region id ops _ _ _ _ (evOps_ok hc hn h1)
      · cases h
    | true =>
      change (match evDraw E call own n ops t H with
        | some (t', H') => some (Ex.normal, t', H')
        | none => none) = _ at h
      split at h
      · rename_i t1 H1 h1
        cases h
        exact .draw id ops _ _ _ _ (evDraw_ok hE hm hc hn h1)
      · cases h
  | seq a b iha ihb =>
    intro t H ex t' H' h
    change (match evCode E call own n fuel a t H with
      | some (.normal, t', H') => evCode E call own n fuel b t' H'
      | r => r) = _ at h
    split at h
    · rename_i t1 H1 h1
      exact .seq a b _ _ _ _ _ _ _ (iha h1) (ihb h)
    · rename_i hx
      refine .seqOut a b _ _ _ _ _ (iha h) fun e => ?_
      subst e
      exact hx _ _ h
  | cond x a b iha ihb =>
    intro t H ex t' H' h
    change (match evalO E (tget t) x with
      | .bool true => evCode E call own n fuel a t H
      | .bool false => evCode E call own n fuel b t H
      | _ => none) = _ at h
    split at h
    · rename_i hx
      exact .cond x a b true _ _ _ _ _ hx (by simpa using iha h)
    · rename_i hx
      exact .cond x a b false _ _ _ _ _ hx (by simpa using ihb h)
    · cases h
  | block i a iha =>
    intro t H ex t' H' h
    change (match evCode E call own n fuel a t H with
      | some (.exit j, t', H') => if j = i then some (Ex.normal, t', H') else some (.exit j, t', H')
      | r => r) = _ at h
    split at h
    · rename_i j t1 H1 h1
      split at h
      · rename_i e
        subst e
        cases h
        exact .blockOut _ a _ _ _ _ (iha h1)
      · rename_i e
        cases h
        exact .block i a _ _ _ _ _ (iha h1) fun e' => e (by cases e'; rfl)
    · rename_i hx
      refine .block i a _ _ _ _ _ (iha h) fun e => ?_
      subst e
      exact hx _ _ _ h
  | loop a iha =>
    intro t H ex t' H' h
    change evLoop (evCode E call own n fuel a) fuel t H = _ at h
    exact evLoop_ok iha h
  | rangeFunc f params assign body ih1 ih2 => intro t H ex t' H' h; cases h
  | exit i => intro t H ex t' H' h; cases h; exact .exit i _ _
  | scope a iha => intro t H ex t' H' h; cases h
  | label l => intro t H ex t' H' h; cases h; exact .label l _ _
  | goto l => intro t H ex t' H' h; cases h
  | ret => intro t H ex t' H' h; cases h; exact .ret _ _
  | refuse w => intro t H ex t' H' h; cases h

theorem evCall_ok (hE : TOk E P) (hm : P.follows .mixedOrders = true) (hF : FOk E P) (hZ : CallsOk E P E.Z) (hc : CallsOk E P call) {fuel : Nat} : CallsOk E P (evCall E call fuel) := by
  intro f args H p H' h
  unfold evCall at h
  split at h
  · rename_i fn hf
    split at h
    · rename_i c hb
      obtain ⟨hfn, hn⟩ := hF f fn c hf hb
      split at h
      · rename_i hlen
        have hlen : args.length < 4000 := by have := Nat.le_of_ble_eq_true hlen; omega
        split at h
        · rename_i heff
          split at h
          · rename_i ex t H1 hcode
            have hcode := evCode_ok hE hm hc hn hcode
            rw [tree0_eq hlen] at hcode
            split at h
            · cases h
            · rename_i hx
              split at h
              · rename_i vs hres
                cases h
                refine ⟨callOk_full hE hfn hcode (fun i e => hx i e) hres, fun e => ?_⟩
                rw [heff] at e; cases e
              · cases h
          · cases h
        · split at h
          · rename_i ex t H1 hcode
            have hcode := evCode_ok hE hm hc hn hcode
            rw [tree0_eq (by simpa using hlen)] at hcode
            split at h
            · cases h
            · rename_i hx
              split at h
              · rename_i vs hres
                split at h
                · rename_i v hfr
                  cases h
                  exact ⟨callOk_pure hE hfn hcode (fun i e => hx i e) hres hfr, fun _ => rfl⟩
                · cases h
              · cases h
          · cases h
      · cases h
    · cases h
  · exact hZ _ _ _ _ _ h

theorem ev_ok (hE : TOk E P) (hm : P.follows .mixedOrders = true) (hF : FOk E P) (hZ : CallsOk E P E.Z) {fuel : Nat} : ∀ k, CallsOk E P (ev E fuel k)
  | 0 => fun f args H p H' h => by cases h
  | k + 1 => evCall_ok (call := ev E fuel k) hE hm hF hZ (ev_ok hE hm hF hZ k)

end
end Go.Vm
