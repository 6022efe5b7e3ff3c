/-
  The evaluator at a region that draws its order: the check of the order.
-/
import Derived.Test.YthkpihmifojnoaaGreatDoorVc
import Derived.ChangeArms
import Derived.DataReads
import Derived.RowKit3
namespace Go.Vm

section
variable {E : Env} {P : Program} {call : CallF} {own : Tmp → Bool} {n : Nat} {ops : Array Oper}

theorem fold_bit (acc : List Nat) (l : Nat) : ∀ (es : List Edge) (s : Nat),
    (es.foldl (fun s e => match Region.binds .any e with | true => s ||| (2 ^ e.on ||| (nth acc e.on).getD 0) | false => s) s).testBit l = true →
    s.testBit l = true ∨ ∃ e ∈ es, Region.binds .any e = true ∧ (e.on = l ∨ ((nth acc e.on).getD 0).testBit l = true)
  | [], s, h => .inl h
  | e :: es, s, h => by
    simp only [List.foldl_cons] at h
    rcases fold_bit acc l es _ h with h1 | ⟨e', he', hb, hx⟩
    · split at h1
      · rename_i hb
        simp only [Nat.testBit_or, Bool.or_eq_true, Nat.testBit_two_pow, decide_eq_true_eq] at h1
        rcases h1 with h1 | h1 | h1
        · exact .inl h1
        · exact .inr ⟨e, List.mem_cons_self, hb, .inl h1⟩
        · exact .inr ⟨e, List.mem_cons_self, hb, .inr h1⟩
      · exact .inl h1
    · exact .inr ⟨e', List.mem_cons_of_mem _ he', hb, hx⟩

theorem masks_ok : ∀ (r : List Oper) (acc : List Nat), r = ops.toList.drop acc.length → (∀ j l, ((nth acc j).getD 0).testBit l = true → Bef ops l j) → ∀ j l, ((nth (masks r acc) j).getD 0).testBit l = true → Bef ops l j
  | [], acc, _, h => h
  | o :: r, acc, hr, h => by
    simp only [masks]
    have ho : ops[acc.length]? = some o := by
      have := congrArg List.head? hr
      simp [List.head?_drop] at this
      exact this.symm
    refine masks_ok r _ ?_ fun j l hb => ?_
    · have := congrArg List.tail hr
      simpa using this
    · rw [nth_eq] at hb
      by_cases e : j < acc.length
      · rw [List.getElem?_append_left e, ← nth_eq] at hb
        exact h j l hb
      · by_cases e2 : j = acc.length
        · subst e2
          rw [List.getElem?_append_right (Nat.le_refl _)] at hb
          simp only [Nat.sub_self, List.getElem?_cons_zero, Option.getD_some, maskOf] at hb
          rcases fold_bit acc l _ _ hb with h1 | ⟨x, hx, hbi, h1 | h1⟩
          · simp at h1
          · exact .edge _ _ ⟨o, x, ho, hx, hbi, h1⟩
          · exact .step _ x.on _ (h _ _ h1) ⟨o, x, ho, hx, hbi, rfl⟩
        · rw [List.getElem?_append_right (by omega)] at hb
          have : ([maskOf acc o] : List Nat)[j - acc.length]? = none := by
            rw [List.getElem?_eq_none]; simp; omega
          rw [this] at hb
          simp at hb

theorem bef_ok {l i : Nat} (h : bef (masks ops.toList []) l i = true) : Bef ops l i :=
  masks_ok ops.toList [] (by simp) (fun j l h => by simp [nth_eq] at h) i l h

theorem backA_ok : ∀ (r : List Oper) (k : Nat), r = ops.toList.drop k → backA r k = true → ∀ l i, k ≤ i → Pre ops l i → l < i
  | [], k, hr, _, l, i, hk, ⟨o, e, ho, _⟩ => by
    have h1 : ops.size ≤ k := by
      rcases Nat.lt_or_ge k ops.size with h | h
      · have := congrArg List.length hr; simp at this; omega
      · exact h
    have h2 : ops[i]? = none := Array.getElem?_eq_none (by omega)
    rw [h2] at ho; cases ho
  | o' :: r, k, hr, h, l, i, hk, hp => by
    simp only [backA, Bool.and_eq_true] at h
    by_cases e : i = k
    · subst e
      obtain ⟨o, x, ho, hx, hb, rfl⟩ := hp
      have ho' : ops[i]? = some o' := by
        have := congrArg List.head? hr
        simp [List.head?_drop] at this
        exact this.symm
      rw [ho] at ho'
      cases ho'
      have := List.all_eq_true.1 h.1 x hx
      simp only [hb, Bool.not_true, Bool.false_or] at this
      exact Nat.le_of_ble_eq_true this
    · exact backA_ok r (k + 1) (by have := congrArg List.tail hr; simpa using this) h.2 l i (by omega) hp

theorem alL_mem : ∀ (r : List Oper) (k i : Nat), i ∈ alL E own r k ↔ ∃ o, k ≤ i ∧ r[i - k]? = some o ∧ clsO E own o = .al
  | [], k, i => by simp [alL]
  | o :: r, k, i => by
    have ih := alL_mem r (k + 1) i
    have split1 : (∃ o', k ≤ i ∧ (o :: r)[i - k]? = some o' ∧ clsO E own o' = .al) ↔ (i = k ∧ clsO E own o = .al) ∨ ∃ o', k + 1 ≤ i ∧ r[i - (k + 1)]? = some o' ∧ clsO E own o' = .al := by
      constructor
      · rintro ⟨o', h1, h2, h3⟩
        by_cases e : i = k
        · subst e
          simp at h2
          subst h2
          exact .inl ⟨rfl, h3⟩
        · have : i - k = (i - (k + 1)) + 1 := by omega
          rw [this, List.getElem?_cons_succ] at h2
          exact .inr ⟨o', by omega, h2, h3⟩
      · rintro (⟨rfl, h⟩ | ⟨o', h1, h2, h3⟩)
        · exact ⟨o, Nat.le_refl _, by simp, h⟩
        · have : i - k = (i - (k + 1)) + 1 := by omega
          exact ⟨o', by omega, by rw [this, List.getElem?_cons_succ]; exact h2, h3⟩
    rw [split1, ← ih]
    simp only [alL]
    split
    · rename_i h
      simp [h]
    · rename_i h
      have : ¬ clsO E own o = .al := h
      simp [this]

theorem stL_mem : ∀ (r : List Oper) (k i : Nat), i ∈ stL E own r k ↔ ∃ o, k ≤ i ∧ r[i - k]? = some o ∧ clsO E own o = .st
  | [], k, i => by simp [stL]
  | o :: r, k, i => by
    have ih := stL_mem r (k + 1) i
    have split1 : (∃ o', k ≤ i ∧ (o :: r)[i - k]? = some o' ∧ clsO E own o' = .st) ↔ (i = k ∧ clsO E own o = .st) ∨ ∃ o', k + 1 ≤ i ∧ r[i - (k + 1)]? = some o' ∧ clsO E own o' = .st := by
      constructor
      · rintro ⟨o', h1, h2, h3⟩
        by_cases e : i = k
        · subst e
          simp at h2
          subst h2
          exact .inl ⟨rfl, h3⟩
        · have : i - k = (i - (k + 1)) + 1 := by omega
          rw [this, List.getElem?_cons_succ] at h2
          exact .inr ⟨o', by omega, h2, h3⟩
      · rintro (⟨rfl, h⟩ | ⟨o', h1, h2, h3⟩)
        · exact ⟨o, Nat.le_refl _, by simp, h⟩
        · have : i - k = (i - (k + 1)) + 1 := by omega
          exact ⟨o', by omega, by rw [this, List.getElem?_cons_succ]; exact h2, h3⟩
    rw [split1, ← ih]
    simp only [stL]
    split
    · rename_i h
      simp [h]
    · rename_i h
      have : ¬ clsO E own o = .st := h
      simp [this]

theorem clsI_al {k : Nat} : clsI E own ops k = .al ↔ k ∈ alL E own ops.toList 0 := by
  rw [alL_mem]
  simp only [clsI, nth_eq, Nat.zero_le, true_and, Nat.sub_zero]
  cases h : ops.toList[k]? with
  | none => simp
  | some o => simp

theorem clsI_st {k : Nat} : clsI E own ops k = .st ↔ k ∈ stL E own ops.toList 0 := by
  rw [stL_mem]
  simp only [clsI, nth_eq, Nat.zero_le, true_and, Nat.sub_zero]
  cases h : ops.toList[k]? with
  | none => simp
  | some o => simp

theorem freeL_ok {ms : List Nat} {y : Oper} {i : Nat} : ∀ (r : List Oper) (k : Nat), r = ops.toList.drop k → freeL E own ops ms y i r k = true → ∀ l x, k ≤ l → l < i → ops[l]? = some x → freeB ops ms x y (clsO E own x) (clsO E own y) l i = true
  | [], k, hr, _, l, x, hk, _, hx => by
    have h1 : ops.size ≤ k := by
      rcases Nat.lt_or_ge k ops.size with h | h
      · have := congrArg List.length hr; simp at this; omega
      · exact h
    have h2 : ops[l]? = none := Array.getElem?_eq_none (by omega)
    rw [h2] at hx; cases hx
  | o' :: r, k, hr, h, l, x, hk, hl, hx => by
    simp only [freeL] at h
    split at h
    · rename_i hlt
      simp only [Bool.and_eq_true] at h
      by_cases e : l = k
      · subst e
        have ho' : ops[l]? = some o' := by
          have := congrArg List.head? hr
          simp [List.head?_drop] at this
          exact this.symm
        rw [hx] at ho'
        cases ho'
        exact h.1
      · exact freeL_ok r (k + 1) (by have := congrArg List.tail hr; simpa using this) h.2 l x (by omega) hl hx
    · rename_i hlt
      have : ¬ k < i := fun hki => by
        have : Nat.blt k i = true := Nat.ble_eq_true_of_le hki
        rw [this] at hlt; cases hlt
      omega

theorem freeA_ok {ms : List Nat} : ∀ (r : List Oper) (k : Nat), r = ops.toList.drop k → freeA E own ops ms r k = true → ∀ i y, k ≤ i → ops[i]? = some y → ∀ l x, l < i → ops[l]? = some x → freeB ops ms x y (clsO E own x) (clsO E own y) l i = true
  | [], k, hr, _, i, y, hk, hy => by
    have h1 : ops.size ≤ k := by
      rcases Nat.lt_or_ge k ops.size with h | h
      · have := congrArg List.length hr; simp at this; omega
      · exact h
    have h2 : ops[i]? = none := Array.getElem?_eq_none (by omega)
    rw [h2] at hy; cases hy
  | o' :: r, k, hr, h, i, y, hk, hy => by
    simp only [freeA, Bool.and_eq_true] at h
    by_cases e : i = k
    · subst e
      have ho' : ops[i]? = some o' := by
        have := congrArg List.head? hr
        simp [List.head?_drop] at this
        exact this.symm
      rw [hy] at ho'
      cases ho'
      exact fun l x hl hx => freeL_ok ops.toList 0 (by simp) h.1 l x (Nat.zero_le _) hl hx
    · exact freeA_ok r (k + 1) (by have := congrArg List.tail hr; simpa using this) h.2 i y (by omega) hy

theorem sched_ok {n0 r0 : Nat} {tg : Nat → Nat} (hr0 : r0 ≤ n0) (hb : backA ops.toList 0 = true) (hf : freeA E own ops (masks ops.toList []) ops.toList 0 = true) (htg : ∀ k ∈ stL E own ops.toList 0, r0 ≤ tg k) (hld : ∀ k, clsI E own ops k = .ld → tg k ≤ n0 + roomL E own ops) :
    Sched ops r0 n0 (roomL E own ops) (clsI E own ops) tg (mskS n0 (masks ops.toList []) (alL E own ops.toList 0) (stL E own ops.toList 0) tg) where
  back l i h := backA_ok ops.toList 0 (by simp) hb l i (Nat.zero_le _) h
  free l i hl hi hn := by
    have hy : ops[i]? = some ops[i] := Array.getElem?_eq_getElem hi
    have hx : ops[l]? = some ops[l] := Array.getElem?_eq_getElem (by omega)
    have h := freeA_ok ops.toList 0 (by simp) hf i _ (Nat.zero_le _) hy l _ hl hx
    have hbl : bef (masks ops.toList []) l i = false := by
      cases hc : bef (masks ops.toList []) l i with
      | false => rfl
      | true => exact (hn (bef_ok hc)).elim
    have ci : clsI E own ops i = clsO E own ops[i] := by simp [clsI, nth_eq, hi]
    have cl : clsI E own ops l = clsO E own ops[l] := by
      have : l < ops.size := by omega
      simp [clsI, nth_eq, this]
    simp only [freeB, hbl, Bool.false_or, Bool.and_eq_true] at h
    have hbi : bef (masks ops.toList []) i l = false := by simpa using h.2.2
    have b1 : Nat.beq l i = false := by
      cases e : Nat.beq l i with
      | false => rfl
      | true => have := Nat.eq_of_beq_eq_true e; omega
    have b2 : Nat.beq i l = false := by
      cases e : Nat.beq i l with
      | false => rfl
      | true => have := Nat.eq_of_beq_eq_true e; omega
    refine ⟨by omega, by rw [ci, cl]; exact h.1, fun hc => ?_, fun hc => ?_, fun hc => ?_, fun hc => ?_, fun x y hx' hy' => ?_⟩
    · exact List.mem_append_left _ (List.mem_map.2 ⟨i, List.mem_filter.2 ⟨clsI_al.1 hc, by rw [hbi]; rfl⟩, rfl⟩)
    · exact List.mem_append_left _ (List.mem_map.2 ⟨l, List.mem_filter.2 ⟨clsI_al.1 hc, by rw [hbl]; rfl⟩, rfl⟩)
    · exact List.mem_append_right _ (List.mem_map.2 ⟨l, List.mem_filter.2 ⟨clsI_st.1 hc, by rw [b1, hbl, hbi]; rfl⟩, rfl⟩)
    · exact List.mem_append_right _ (List.mem_map.2 ⟨i, List.mem_filter.2 ⟨clsI_st.1 hc, by rw [b2, hbi, hbl]; rfl⟩, rfl⟩)
    · rw [hx] at hx'; cases hx'
      rw [hy] at hy'; cases hy'
      exact h.2.1
  al k h := by
    have hal := clsI_al.1 h
    have hk : k < ops.size := by
      obtain ⟨o, _, h2, _⟩ := (alL_mem _ _ _).1 hal
      have := get_lt h2
      simpa using this
    unfold roomL
    split
    · rename_i e; rw [e] at hal; cases hal
    · exact hk
  ld := hld
  msk i k h := by
    rcases List.mem_append.1 h with h | h
    · obtain ⟨x, _, rfl⟩ := List.mem_map.1 h
      omega
    · obtain ⟨x, hx, rfl⟩ := List.mem_map.1 h
      exact htg x (List.mem_filter.1 hx).1

end
end Go.Vm

/-
  The evaluator at one operation and at a region in the text's order.
-/
namespace Go.Vm

def FOk (E : Env) (P : Program) : Prop := ∀ f fn c, E.F f = some fn → fn.body = some c → FnOk P f fn c ∧ fn.ntmps ≤ 4000

/-- What a caller of 'call' may rely on. -/
def CallsOk (E : Env) (P : Program) (call : CallF) : Prop := ∀ f args H p H', call f args H = some (p, H') → CallOk E P f args H p H' ∧ (E.eff f = false → H' = H)

section
variable {E : Env} {P : Program} {call : CallF} {own : Tmp → Bool} {n : Nat}

theorem evOp_ok (hc : CallsOk E P call) {tm : TM} {o : Oper} {H : Heap} {p : PV} {H' : Heap} (h : evOp E call own tm o H = some (p, H')) : OpTo E P own tm o H p H' := by
  obtain ⟨dst, op, ty, pos, after, guard⟩ := o
  unfold evOp at h
  simp only at h
  split at h
  · rename_i f args ats
    split at h
    · rename_i k caps hf
      exact .call f args _ k caps p H' rfl hf (hc _ _ _ _ _ h).1
    · cases h
  · exact .op p H' h

theorem evOps_nil {all : List Oper} {t : Tr} {H : Heap} : evOps E call own n all [] t H = some (t, H) := rfl
theorem evOps_cons {all : List Oper} {o : Oper} {r : List Oper} {t : Tr} {H : Heap} : evOps E call own n all (o :: r) t H = match dstOk n o with
      | false => none
      | true => match wantedA all (tget t) o with
        | some true => match evOp E call own (tget t) o H with
          | some (p, H') => evOps E call own n all r (setT t o.dst p) H'
          | none => none
        | some false => evOps E call own n all r (setT t o.dst unset) H
        | none => none := rfl

theorem evOps_ok (hc : CallsOk E P call) (hn : n ≤ 4000) {all : List Oper} : ∀ {l : List Oper} {t : Tr} {H : Heap} {t' : Tr} {H' : Heap}, evOps E call own n all l t H = some (t', H') → RegTo E P own n all l (tget t) H (tget t') H'
  | [], t, H, t', H', h => by
    rw [evOps_nil] at h
    cases h
    exact .nil _ _
  | o :: r, t, H, t', H', h => by
    rw [evOps_cons] at h
    split at h
    · cases h
    · rename_i hd
      have hd := dstOk_spec hd
      have hset : ∀ v, tget (setT t o.dst v) = setD (tget t) o.dst v := fun v => setT_eq fun x hx => Nat.lt_of_lt_of_le (hd x hx) hn
      split at h
      · rename_i hw
        split at h
        · rename_i p H1 ho
          have := evOps_ok hc hn h
          rw [hset] at this
          exact .op o r _ H p H1 _ _ hw (evOp_ok hc ho) hd this
        · cases h
      · rename_i hw
        have := evOps_ok hc hn h
        rw [hset] at this
        exact .pass o r _ H _ _ hw hd this
      · cases h

theorem evLoop_zero {body : Tr → Heap → Option (Ex × Tr × Heap)} {t : Tr} {H : Heap} : evLoop body 0 t H = none := rfl
theorem evLoop_succ {body : Tr → Heap → Option (Ex × Tr × Heap)} {k : Nat} {t : Tr} {H : Heap} : evLoop body (k + 1) t H = match body t H with
      | some (.normal, t', H') => evLoop body k t' H'
      | r => r := rfl

theorem evLoop_ok {c : Code} {body : Tr → Heap → Option (Ex × Tr × Heap)} (hb : ∀ {t H ex t' H'}, body t H = some (ex, t', H') → CodeTo E P own n c (tget t) H ex (tget t') H') :
    ∀ {k : Nat} {t : Tr} {H : Heap} {ex : Ex} {t' : Tr} {H' : Heap}, evLoop body k t H = some (ex, t', H') → CodeTo E P own n (.loop c) (tget t) H ex (tget t') H'
  | 0, t, H, ex, t', H', h => by rw [evLoop_zero] at h; cases h
  | k + 1, t, H, ex, t', H', h => by
    rw [evLoop_succ] at h
    split at h
    · rename_i t1 H1 h1
      exact .loop c _ _ _ _ _ _ _ (hb h1) (evLoop_ok hb h)
    · rename_i hx
      refine .loopOut c _ _ _ _ _ (hb h) fun e => ?_
      subst e
      exact hx _ _ h

end
end Go.Vm

/-
  One operation of a region that draws its order: what the evaluator says of it is so.
-/
namespace Go.Vm

section
variable {E : Env} {P : Program} {call : CallF} {own : Tmp → Bool} {n : Nat} {ops : Array Oper}

theorem map_pair {α : Type} {x : Option α} {H H1 : Heap} {p : α} (h : x.map (·, H) = some (p, H1)) : x = some p ∧ H1 = H := by
  cases x with
  | none => cases h
  | some y => simp at h; exact ⟨by rw [h.1], h.2.symm⟩

theorem aOp_sc {ρ : Operand → PV} {o : Oper} (hc : clsO E own o = .sc) {H H1 : Heap} {p : PV} (h : aOp E (own (o.dst.getD 0)) ρ o.op H = some (p, H1)) (M : Heap) : aOp E (own (o.dst.getD 0)) ρ o.op M = some (p, M) := by
  obtain ⟨dst, op, ty, pos, after, guard⟩ := o
  simp only at h ⊢
  cases op
  case call c =>
    obtain ⟨cl, args, ats⟩ := c
    cases cl
    case builtin b =>
      cases b <;> simp only [clsO] at hc <;> (try cases hc) <;> try (split at hc <;> cases hc)
      all_goals
        cases e : args.toList.map ρ with
        | nil => simp only [aOp, aBuiltin, e] at h; cases h
        | cons x r =>
          simp only [aOp, aBuiltin, e] at h ⊢
          obtain ⟨e2, rfl⟩ := map_pair h
          rw [e2]
          rfl
    all_goals
      simp only [aOp] at h
      cases h
  case pick c x y =>
    simp only [aOp] at h ⊢
    cases e : ρ c <;> simp only [e] at h ⊢ <;> first | (cases h; rfl) | cases h
  case nilCheck x =>
    simp only [aOp] at h ⊢
    cases e : ρ x <;> simp only [e] at h ⊢ <;> first | (cases h; rfl) | cases h
  case extract x i =>
    simp only [aOp] at h ⊢
    cases e : ρ x <;> simp only [e] at h ⊢ <;> first | cases h | (obtain ⟨e, rfl⟩ := map_pair h; rw [e]; rfl)
  case makeFunc f fi ca =>
    simp only [aOp] at h ⊢
    cases f <;> simp only at h ⊢ <;> first | cases h | skip
    split at h
    · rename_i hi
      simp only [hi, if_true] at h ⊢
      cases h
      rfl
    · cases h
  case buildSlice t len parts =>
    have hc : (if own (dst.getD 0) = true then Cls.tk else Cls.sc) = Cls.sc := hc
    split at hc
    · cases hc
    · rename_i hw
      simp only [aOp, hw] at h ⊢
      split at h
      · simp only [Bool.false_eq_true, if_false] at h ⊢
        split at h
        · cases h; rfl
        · cases h
      · cases h
  all_goals simp only [clsO] at hc
  all_goals first | cases hc | skip
  all_goals simp only [aOp] at h ⊢
  all_goals first | cases h | skip
  all_goals first | rfl | (obtain ⟨e, rfl⟩ := map_pair h; rw [e]; rfl)

theorem aOp_ld {tm : TM} {o : Oper} {s : Nat} (hc : clsO E own o = .ld) {H H1 K : Heap} {p : PV} (h : aOp E (own (o.dst.getD 0)) (evalO E tm) o.op H = some (p, H1)) (hs : seenO E tm o s = true) (hK : K.bx.take s = H.bx.take s) : aOp E (own (o.dst.getD 0)) (evalO E tm) o.op K = some (p, K) := by
  obtain ⟨dst, op, ty, pos, after, guard⟩ := o
  simp only at h ⊢
  cases op
  case load t a =>
    simp only [aOp] at h ⊢
    obtain ⟨e, rfl⟩ := map_pair h
    have e2 : aLoad E t (evalO E tm a) K = aLoad E t (evalO E tm a) H1 := by
      unfold aLoad Heap.rd
      simp only [seenO] at hs
      cases ha : evalO E tm a <;> simp only
      rename_i id es ix off
      rw [ha] at hs
      have hid : id < s := Nat.le_of_ble_eq_true hs
      have := congrArg (fun l => l[id]?) hK
      simp only [List.getElem?_take, hid, if_true] at this
      rw [nth_eq, nth_eq, this]
    rw [e2, e]
    rfl
  case call c =>
    obtain ⟨cl, args, ats⟩ := c
    cases cl
    case builtin b => cases b <;> (simp only [clsO] at hc; first | cases hc | (split at hc <;> cases hc))
    all_goals
      simp only [aOp] at h
      cases h
  case buildSlice t len parts =>
    have hc : (if own (dst.getD 0) = true then Cls.tk else Cls.sc) = Cls.ld := hc
    split at hc <;> cases hc
  all_goals simp only [clsO] at hc
  all_goals cases hc

theorem aOp_qu {ρ : Operand → PV} {o : Oper} (hc : clsO E own o = .qu) {H H1 : Heap} {p : PV} (h : aOp E (own (o.dst.getD 0)) ρ o.op H = some (p, H1)) : H1 = H := by
  obtain ⟨dst, op, ty, pos, after, guard⟩ := o
  simp only at h
  cases op
  case lookup t x i ok =>
    simp only [aOp] at h
    exact (map_pair h).2
  case call c =>
    obtain ⟨cl, args, ats⟩ := c
    cases cl
    case builtin b =>
      cases b <;> simp only [clsO] at hc <;> (try cases hc) <;> try (split at hc <;> cases hc)
      simp only [aOp, aBuiltin] at h
      split at h <;> first | cases h | skip
      all_goals first | exact (map_pair h).2 | (rename_i hh _ _; cases hh)
    all_goals
      simp only [aOp] at h
      cases h
  case buildSlice t len parts =>
    have hc : (if own (dst.getD 0) = true then Cls.tk else Cls.sc) = Cls.qu := hc
    split at hc <;> cases hc
  all_goals simp only [clsO] at hc
  all_goals cases hc

theorem aOp_st {tm : TM} {o : Oper} (hc : clsO E own o = .st) {H M : Heap} {p : PV} {b : Box} (h : aOp E (own (o.dst.getD 0)) (evalO E tm) o.op H = some (p, M)) (hb : nth M.bx (tgtO E 0 tm o) = some b) : M = setB H (tgtO E 0 tm o) b := by
  have put : ∀ {id : Nat} {x : Box} {M : Heap}, H.put id x = some M → ∀ b, nth M.bx id = some b → M = setB H id b := fun {id x M} h b hb => by
    unfold Heap.put at h
    split at h
    · cases h
    · cases h
      rw [nth_eq] at hb
      have hl := get_lt hb
      simp only [List.length_set] at hl
      rw [List.getElem?_set_self hl] at hb
      cases hb
      rfl
  obtain ⟨dst, op, ty, pos, after, guard⟩ := o
  simp only at h
  cases op
  case store t a v =>
    simp only [aOp] at h
    split at h
    · split at h
      · cases hw : H.wr (evalO E tm a) (evalO E tm v).cells with
        | none => rw [hw] at h; cases h
        | some M' =>
          rw [hw] at h
          cases h
          unfold Heap.wr at hw
          cases ha : evalO E tm a <;> rw [ha] at hw <;> simp only at hw <;> first | cases hw | skip
          simp only [tgtO, ha] at hb ⊢
          split at hw
          · split at hw
            · split at hw
              · split at hw
                · exact put hw b hb
                · cases hw
              · cases hw
            · cases hw
          · cases hw
      · cases h
    · cases h
  case mapUpdate t m k v =>
    simp only [aOp] at h
    cases hw : aMapUpdate E t (evalO E tm m) (evalO E tm k) (evalO E tm v) H with
    | none => rw [hw] at h; cases h
    | some M' =>
      rw [hw] at h
      cases h
      unfold aMapUpdate at hw
      split at hw
      · split at hw
        · rename_i id _ hm
          simp only [tgtO, hm] at hb ⊢
          split at hw
          · split at hw
            · split at hw
              · exact put hw b hb
              · exact put hw b hb
              · cases hw
            · cases hw
          · cases hw
        · cases hw
      · cases hw
  case call c =>
    obtain ⟨cl, args, ats⟩ := c
    cases cl
    case builtin b => cases b <;> (simp only [clsO] at hc; first | cases hc | (split at hc <;> cases hc))
    all_goals
      simp only [aOp] at h
      cases h
  case buildSlice t len parts =>
    have hc : (if own (dst.getD 0) = true then Cls.tk else Cls.sc) = Cls.st := hc
    split at hc <;> cases hc
  all_goals simp only [clsO] at hc
  all_goals cases hc

theorem clsI_eq {i : Nat} {o : Oper} (ho : ops[i]? = some o) : clsI E own ops i = clsO E own o := by
  simp [clsI, nth_eq, ho]

theorem evHp_ok (hc : CallsOk E P call) {n0 i : Nat} {o : Oper} {t : Tr} {tg : Nat → Nat} {msk : Nat → List Nat} {H H' : Heap} {p : PV} (ho : ops[i]? = some o) (hw : wantedA ops.toList (tget t) o = some true)
    (h : evHp E call own n0 (msk i) (some (tg i)) t o i H = some (p, H')) : Hp E P own ops n0 (clsI E own ops) tg msk i o (tget t) H p H' := by
  have hci := clsI_eq (E := E) (own := own) ho
  unfold evHp at h
  cases hcl : clsO E own o with
  | sc =>
    rw [hcl] at h
    simp only at h
    split at h
    · rename_i p1 H1 h1
      cases h
      exact .sc _ _ hw fun M => .op _ _ (aOp_sc hcl h1 M)
    · cases h
  | qu =>
    rw [hcl] at h hci
    simp only at h
    have gen : (match aOp E (own (o.dst.getD 0)) (evalO E (tget t)) o.op (maskH (msk i) H) with
      | some (p, _) => some (p, H)
      | none => none) = some (p, H') → Hp E P own ops n0 (clsI E own ops) tg msk i o (tget t) H p H' := fun h => by
      split at h
      · rename_i p1 H1 h1
        cases h
        have e := aOp_qu hcl h1
        subst e
        exact .qu _ _ hw hci (.op _ _ h1)
      · cases h
    split at h
    · rename_i f args ats hop
      split at h
      · rename_i k caps hf
        split at h
        · cases h
        · rename_i he
          split at h
          · rename_i p1 H1 h1
            cases h
            obtain ⟨c1, c2⟩ := hc _ _ _ _ _ h1
            have e := c2 he
            subst e
            exact .qu _ _ hw hci (.call f args _ k caps _ _ hop hf c1)
          · cases h
      · cases h
    · exact gen h
  | ld =>
    rw [hcl] at h hci
    simp only at h
    split at h
    · rename_i p1 H1 h1
      split at h
      · rename_i hs
        cases h
        exact .ld _ _ hw hci fun K hK => .op _ _ (aOp_ld hcl h1 hs hK)
      · cases h
    · cases h
  | tk =>
    rw [hcl] at h hci
    simp only at h
    split at h
    · rename_i p1 M h1
      split at h
      · rename_i hl
        cases h
        exact .tk _ _ M hw hci (evOp_ok hc h1) (Nat.le_of_ble_eq_true hl)
      · cases h
    · cases h
  | ef =>
    rw [hcl] at h hci
    simp only at h
    split at h
    · rename_i p1 M h1
      split at h
      · rename_i hl
        cases h
        exact .ef _ _ M hw hci (evOp_ok hc h1) (Nat.le_of_ble_eq_true hl)
      · cases h
    · cases h
  | al =>
    rw [hcl] at h hci
    simp only at h
    split at h
    · rename_i hd
      rw [nth_eq] at hd
      split at h
      · rename_i e hop
        split at h
        · rename_i ei he
          split at h
          · rename_i hz
            cases h
            exact .al _ e ei hw hci hop he hz.1 hz.2 hd
          · cases h
        · cases h
      · rename_i e x hop
        split at h
        · rename_i hp
          cases h
          exact .bo _ e x hw hci hop hp hd
        · cases h
      · cases h
    · cases h
  | st =>
    rw [hcl] at h hci
    simp only at h
    split at h
    · rename_i p1 M h1
      split at h
      · rename_i b hb
        split at h
        · rename_i hs
          cases h
          simp only [Bool.and_eq_true, Bool.not_eq_true'] at hs
          have e1 := Nat.eq_of_beq_eq_true hs.1
          have hM : M = setB (maskH (msk i) H) (tg i) b := by
            rw [e1]
            exact aOp_st hcl h1 hb
          rw [hM] at h1
          refine .st _ _ b hw hci (.op _ _ h1) fun hm => ?_
          have := List.any_eq_false.1 hs.2 _ hm
          simp at this
        · cases h
      · cases h
    · cases h

end
end Go.Vm

/-
  The evaluator is sound.
-/
namespace Go.Vm

section
variable {E : Env} {P : Program} {call : CallF} {own : Tmp → Bool} {n : Nat}

theorem tgtO_ld {own : Tmp → Bool} {o : Oper} {N : Nat} {tm : TM} (hc : clsO E own o = .ld) : tgtO E N tm o = N := by
  obtain ⟨dst, op, ty, pos, after, guard⟩ := o
  cases op
  case load t a => rfl
  case call c =>
    obtain ⟨cl, args, ats⟩ := c
    cases cl
    case builtin b => cases b <;> (simp only [clsO] at hc; first | cases hc | (split at hc <;> cases hc))
    case value x =>
      cases x
      case func k =>
        simp only [clsO] at hc
        split at hc
        · split at hc <;> cases hc
        · cases hc
      all_goals
        simp only [clsO] at hc
        cases hc
    all_goals
      simp only [clsO] at hc
      cases hc
  case buildSlice t len parts =>
    have hc : (if own (dst.getD 0) = true then Cls.tk else Cls.sc) = Cls.ld := hc
    split at hc <;> cases hc
  all_goals simp only [clsO] at hc
  all_goals cases hc

theorem evDrawL_ok (hc : CallsOk E P call) (hn : n ≤ 4000) {ops : Array Oper} {n0 : Nat} {tg : Nat → Nat} {msk : Nat → List Nat} : ∀ (r : List Oper) (i : Nat) {t : Tr} {H : Heap} {t' : Tr} {H' : Heap}, r = ops.toList.drop i →
    evDrawL E call own n n0 msk (fun i => some (tg i)) ops.toList r i t H = some (t', H') → Run E P own n ops n0 (clsI E own ops) tg msk ((List.range ops.size).drop i) (tget t) H (tget t') H'
  | [], i, t, H, t', H', hr, h => by
    simp only [evDrawL] at h
    cases h
    have h1 : ops.size ≤ i := by
      rcases Nat.lt_or_ge i ops.size with h | h
      · have := congrArg List.length hr; simp at this; omega
      · exact h
    rw [List.drop_eq_nil_of_le (by simpa using h1)]
    exact .nil _ _
  | o :: r, i, t, H, t', H', hr, h => by
    have ho : ops[i]? = some o := by
      have := congrArg List.head? hr
      simp [List.head?_drop] at this
      exact this.symm
    have hi : i < ops.size := by
      rcases Nat.lt_or_ge i ops.size with h | h
      · exact h
      · rw [Array.getElem?_eq_none h] at ho; cases ho
    have hr' : r = ops.toList.drop (i + 1) := by
      have := congrArg List.tail hr
      simpa using this
    have hd : (List.range ops.size).drop i = i :: (List.range ops.size).drop (i + 1) := by
      rw [List.drop_eq_getElem_cons (by simpa using hi)]
      simp
    rw [hd]
    simp only [evDrawL] at h
    split at h
    · cases h
    · rename_i hds
      have hds := dstOk_spec hds
      have hset : ∀ v, tget (setT t o.dst v) = setD (tget t) o.dst v := fun v => setT_eq fun x hx => Nat.lt_of_lt_of_le (hds x hx) hn
      split at h
      · rename_i hw
        split at h
        · rename_i p H1 hp
          have ih := evDrawL_ok hc hn r (i + 1) hr' h
          rw [hset] at ih
          exact .cons i _ o _ _ p H1 _ _ ho hds (evHp_ok hc ho hw hp) ih
        · cases h
      · rename_i hw
        have ih := evDrawL_ok hc hn r (i + 1) hr' h
        rw [hset] at ih
        exact .cons i _ o _ _ unset H _ _ ho hds (.pass _ hw) ih
      · cases h

/-- What a region that draws its order comes to. -/
theorem evDraw_ok (hE : TOk E P) (hm : P.follows .mixedOrders = true) (hc : CallsOk E P call) (hn : n ≤ 4000) {ops : Array Oper} {t : Tr} {H : Heap} {t' : Tr} {H' : Heap} (h : evDraw E call own n ops t H = some (t', H')) :
    DrawOk E P own n ops (tget t) H (tget t') H' := by
  unfold evDraw at h
  split at h
  · rename_i hb
    simp only [Bool.and_eq_true] at hb
    split at h
    · rename_i t1 _ _
      split at h
      · rename_i hst
        have htg : ∀ k ∈ stL E own ops.toList 0, H.ro ≤ tgtI E (H.bx.length + roomL E own ops) (tget t1) ops k := fun k hk => Nat.le_of_ble_eq_true (List.all_eq_true.1 hst k hk)
        have hld : ∀ k, clsI E own ops k = .ld → tgtI E (H.bx.length + roomL E own ops) (tget t1) ops k ≤ H.bx.length + roomL E own ops := fun k hk => by
          cases ho : nth ops.toList k with
          | none => simp only [clsI, ho] at hk; cases hk
          | some o =>
            simp only [clsI, ho] at hk
            simp only [tgtI, ho]
            rw [tgtO_ld hk]
            exact Nat.le_refl _
        exact fun id g a w Q hr hq => drawOk hE hm (sched_ok hr.inv.ro hb.1 hb.2 htg hld) (evDrawL_ok hc hn ops.toList 0 (by simp) h) id g a w Q hr hq
      · cases h
    · cases h
  · cases h

theorem evCode_ok (hE : TOk E P) (hm : P.follows .mixedOrders = true) (hc : CallsOk E P call) (hn : n ≤ 4000) {fuel : Nat} {c : Code} : ∀ {t : Tr} {H : Heap} {ex : Ex} {t' : Tr} {H' : Heap}, evCode E call own n fuel c t H = some (ex, t', H') → CodeTo E P own n c (tget t) H ex (tget t') H' := by
  induction c with
  | skip => intro t H ex t' H' h; cases h; exact .skip _ _
  | region id ops draw =>
    intro t H ex t' H' h
    cases draw with
    | false =>
      change (match evOps E call own n ops.toList ops.toList t H with
        | some (t', H') => some (Ex.normal, t', H')
        | none => none) = _ at h
      split at h
      · rename_i t1 H1 h1
        cases h
        exact .region id ops _ _ _ _ (evOps_ok hc hn h1)
      · cases h
    | true =>
      change (match evDraw E call own n ops t H with
        | some (t', H') => some (Ex.normal, t', H')
        | none => none) = _ at h
      split at h
      · rename_i t1 H1 h1
        cases h
        exact .draw id ops _ _ _ _ (evDraw_ok hE hm hc hn h1)
      · cases h
  | seq a b iha ihb =>
    intro t H ex t' H' h
    change (match evCode E call own n fuel a t H with
      | some (.normal, t', H') => evCode E call own n fuel b t' H'
      | r => r) = _ at h
    split at h
    · rename_i t1 H1 h1
      exact .seq a b _ _ _ _ _ _ _ (iha h1) (ihb h)
    · rename_i hx
      refine .seqOut a b _ _ _ _ _ (iha h) fun e => ?_
      subst e
      exact hx _ _ h
  | cond x a b iha ihb =>
    intro t H ex t' H' h
    change (match evalO E (tget t) x with
      | .bool true => evCode E call own n fuel a t H
      | .bool false => evCode E call own n fuel b t H
      | _ => none) = _ at h
    split at h
    · rename_i hx
      exact .cond x a b true _ _ _ _ _ hx (by simpa using iha h)
    · rename_i hx
      exact .cond x a b false _ _ _ _ _ hx (by simpa using ihb h)
    · cases h
  | block i a iha =>
    intro t H ex t' H' h
    change (match evCode E call own n fuel a t H with
      | some (.exit j, t', H') => if j = i then some (Ex.normal, t', H') else some (.exit j, t', H')
      | r => r) = _ at h
    split at h
    · rename_i j t1 H1 h1
      split at h
      · rename_i e
        subst e
        cases h
        exact .blockOut _ a _ _ _ _ (iha h1)
      · rename_i e
        cases h
        exact .block i a _ _ _ _ _ (iha h1) fun e' => e (by cases e'; rfl)
    · rename_i hx
      refine .block i a _ _ _ _ _ (iha h) fun e => ?_
      subst e
      exact hx _ _ _ h
  | loop a iha =>
    intro t H ex t' H' h
    change evLoop (evCode E call own n fuel a) fuel t H = _ at h
    exact evLoop_ok iha h
  | rangeFunc f params assign body ih1 ih2 => intro t H ex t' H' h; cases h
  | exit i => intro t H ex t' H' h; cases h; exact .exit i _ _
  | scope a iha => intro t H ex t' H' h; cases h
  | label l => intro t H ex t' H' h; cases h; exact .label l _ _
  | goto l => intro t H ex t' H' h; cases h
  | ret => intro t H ex t' H' h; cases h; exact .ret _ _
  | refuse w => intro t H ex t' H' h; cases h

theorem evCall_ok (hE : TOk E P) (hm : P.follows .mixedOrders = true) (hF : FOk E P) (hZ : CallsOk E P E.Z) (hc : CallsOk E P call) {fuel : Nat} : CallsOk E P (evCall E call fuel) := by
  intro f args H p H' h
  unfold evCall at h
  split at h
  · rename_i fn hf
    split at h
    · rename_i c hb
      obtain ⟨hfn, hn⟩ := hF f fn c hf hb
      split at h
      · rename_i hlen
        have hlen : args.length < 4000 := by have := Nat.le_of_ble_eq_true hlen; omega
        split at h
        · rename_i heff
          split at h
          · rename_i ex t H1 hcode
            have hcode := evCode_ok hE hm hc hn hcode
            rw [tree0_eq hlen] at hcode
            split at h
            · cases h
            · rename_i hx
              split at h
              · rename_i vs hres
                cases h
                refine ⟨callOk_full hE hfn hcode (fun i e => hx i e) hres, fun e => ?_⟩
                rw [heff] at e; cases e
              · cases h
          · cases h
        · split at h
          · rename_i ex t H1 hcode
            have hcode := evCode_ok hE hm hc hn hcode
            rw [tree0_eq (by simpa using hlen)] at hcode
            split at h
            · cases h
            · rename_i hx
              split at h
              · rename_i vs hres
                split at h
                · rename_i v hfr
                  cases h
                  exact ⟨callOk_pure hE hfn hcode (fun i e => hx i e) hres hfr, fun _ => rfl⟩
                · cases h
              · cases h
          · cases h
      · cases h
    · cases h
  · exact hZ _ _ _ _ _ h

theorem ev_ok (hE : TOk E P) (hm : P.follows .mixedOrders = true) (hF : FOk E P) (hZ : CallsOk E P E.Z) {fuel : Nat} : ∀ k, CallsOk E P (ev E fuel k)
  | 0 => fun f args H p H' h => by cases h
  | k + 1 => evCall_ok (call := ev E fuel k) hE hm hF hZ (ev_ok hE hm hF hZ k)

end
end Go.Vm

/-
  Facts: a call that is known at the empty heap is known at every heap.
-/
namespace Go.Vm

def hNil : Heap := { bx := [], ro := 0, live := [], nt := 0 }
def bare (g : Gh) : Gh := { S := g.S, σ := fun _ => none, τ := fun _ => none, κ := fun _ => 0 }

section
variable {E : Env} {P : Program} {g : Gh} {H : Heap} {w : World}

theorem nil_live {id : Nat} (h : hNil.liveAt id) : False := by
  obtain ⟨b, hb, _⟩ := h
  simp [hNil] at hb

theorem nil_shut (g : Gh) (b : Nat) : Shut g hNil b := ⟨fun _ _ h => (nil_live h).elim, fun t lo hi h => by simp [hNil] at h⟩

theorem bare_inv (hi : Inv g H w) : Inv (bare g) hNil w where
  st := hi.st
  bx id es el h := by simp [hNil] at h
  mp id es h := by simp [hNil] at h
  inj i j b h := (nil_live h).elim
  sd _ _ := rfl
  td _ _ := rfl
  tk t b lo hi' h := by simp [hNil] at h
  tinj t t' b lo hi' lo' hi2 h := by simp [hNil] at h
  nd := List.nodup_nil
  lt t h := by simp [hNil] at h
  sz id b h := by simp [bare] at h
  ro := Nat.le_refl _
  rm id b c T m h := (nil_live h).elim

theorem return_bare (hi : Inv g H w) {g' : Gh} {H' : Heap} {w' : World} (k : Keep (bare g) hNil w g' H' w') :
    Inv (retG g w w') H w' ∧ Keep g H w (retG g w w') H w' ∧ ∀ b o v, g'.S b o = some v → w'.cell? ⟨b, o, none⟩ = some v → (retG g w w').S b o = some v := by
  have hh : ∀ b, b < w.heap.size → w'.heap[b]? = w.heap[b]? := fun b hb => k.heap b hb (nil_shut _ b)
  have hS : ∀ b o, b < w.heap.size → (retG g w w').S b o = g.S b o := fun b o hb => by simp [retG, hb]
  have hle : g.Le (retG g w w') := ⟨fun b o v h => by rw [hS b o (hi.S_lt h)]; exact h, fun _ _ h => h, fun _ _ h => h, fun _ _ _ => rfl⟩
  refine ⟨⟨?_, ?_, ?_, hi.inj, hi.sd, hi.td, ?_, hi.tinj, hi.nd, hi.lt, ?_, hi.ro, fun id b c T m h1 h2 h3 => hi.rm id b c T m h1 h2 (by rw [← hh b (hi.sz _ _ h2)]; exact h3)⟩, ⟨hle, fun b hb _ => hh b hb, fun b hb _ o => hS b o hb, k.size, ?_, ?_, rfl, Nat.le_refl _, fun _ _ => rfl, Nat.le_refl _, fun _ h => .inl h, fun _ _ _ h => h, k.fz, fun _ _ h => h, k.so⟩, ?_⟩
  · intro b o v h
    by_cases hb : b < w.heap.size
    · rw [hS b o hb] at h
      rw [cell_of_heap (hh b hb)]
      exact hi.st _ _ _ h
    · simpa [retG, hb] using h
  · intro id es el h
    obtain ⟨b, c, T, h1, h2, h3, h4, h5, h6⟩ := hi.bx id es el h
    have hb := hi.sz _ _ h1
    exact ⟨b, c, T, h1, by rw [hh b hb]; exact h2, h3, h4, fun i hi' j hj => let ⟨v, e, x⟩ := h5 i hi' j hj; ⟨v, e, x.mono hle⟩, fun o => by rw [hS b o hb]; exact h6 o⟩
  · intro id es h
    obtain ⟨b, c, T, h1, h2, h3, h4, h5⟩ := hi.mp id es h
    have hb := hi.sz _ _ h1
    exact ⟨b, c, T, h1, by rw [hh b hb]; exact h2, h3, fun i hi' => let ⟨e, a, x, y⟩ := h4 i hi'; ⟨e, a, x.mono hle, y.mono hle⟩, fun o => by rw [hS b o hb]; exact h5 o⟩
  · intro t b lo hi' h1 h2
    obtain ⟨⟨c, T, h3, h4⟩, h5, h6⟩ := hi.tk t b lo hi' h1 h2
    have hb : b < w.heap.size := by
      rcases Nat.lt_or_ge b w.heap.size with h | h
      · exact h
      · simp [Array.getElem?_eq_none h] at h3
    exact ⟨⟨c, T, by rw [hh b hb]; exact h3, h4⟩, fun o ho => by rw [hS b o hb]; exact h5 o ho, h6⟩
  · intro id b h
    exact Nat.lt_of_lt_of_le (hi.sz _ _ h) k.size
  · intro id b h h'
    rw [show (retG g w w').σ id = g.σ id from rfl, h] at h'; cases h'
  · intro t b lo hi' h h'
    rw [show (retG g w w').τ t = g.τ t from rfl, h] at h'; cases h'
  · intro b o v h h'
    by_cases hb : b < w.heap.size
    · have := k.store b hb (nil_shut _ b) o
      rw [hS b o hb, show g.S b o = (bare g).S b o from rfl, ← this]; exact h
    · simpa [retG, hb] using h'

/-- A value that is all frozen, as it enters. -/
noncomputable def frzG : PV → Option PV
  | .agg cs => match frzL cs with | some cs' => some (.agg cs') | none => none
  | v => frz1 v
noncomputable def frzGL : List PV → Option (List PV)
  | [] => some []
  | v :: r => match frzG v with
    | some v' => match frzGL r with
      | some r' => some (v' :: r')
      | none => none
    | none => none

theorem frzG_ok {p p' : PV} {v : Value} (h : V g p v) (hf : frzG p = some p') : V0 g.S p' v := by
  unfold frzG at hf
  split at hf
  · rename_i cs
    split at hf
    · rename_i cs' hc
      cases hf
      obtain ⟨vs, hl, rfl, hv⟩ := h.agg_inv
      obtain ⟨h1, h2⟩ := frzL_ok hc
      exact .agg _ _ (by omega) fun i hi => frz1_ok (hv i (by omega)) (h2 i (by omega) hi)
    · cases hf
  · exact frz1_ok h hf

theorem frzGL_ok : ∀ {ps ps' : List PV}, frzGL ps = some ps' → ps'.length = ps.length ∧ ∀ i (hi : i < ps.length) (hi' : i < ps'.length), frzG ps[i] = some ps'[i]
  | [], ps', h => by simp only [frzGL, Option.some.injEq] at h; subst h; exact ⟨rfl, fun i hi => absurd hi (by simp)⟩
  | p :: ps, ps', h => by
    simp only [frzGL] at h
    split at h
    · rename_i p' hp
      split at h
      · rename_i r hr
        cases h
        obtain ⟨h1, h2⟩ := frzGL_ok hr
        refine ⟨by simp [h1], fun i hi hi' => ?_⟩
        cases i with
        | zero => exact hp
        | succ i => exact h2 i (by simpa using hi) (by simpa using hi')
      · cases h
    · cases h

/-- A call at the empty heap says what the call gives at every heap. -/
theorem callOk_lift {f : FuncId} {args args' : List PV} {r r' : PV} {H' : Heap} (h : CallOk E P f args' hNil r H') (ha : frzGL args = some args') (hf : frz3 0 H' r = some r') (H : Heap) : CallOk E P f args H r' H := by
  intro g w vals hi hg hv
  obtain ⟨l1, l2⟩ := frzGL_ok ha
  have hv' : VL (bare g) args' vals.toList := ⟨by rw [l1]; exact hv.1, fun i h1 h2 => V.pure (g := bare g) _ _ (show V0 g.S _ _ from frzG_ok (hv.2 i (by omega) h2) (l2 i (by omega) h1))⟩
  refine UponCall.mono (fun v w' ⟨g', hp, hi', k⟩ => ?_) (h (bare g) w vals (bare_inv hi) hg hv')
  obtain ⟨i1, k1, hS⟩ := return_bare hi k
  have hq : V0 (retG g w w').S r' v := frz3_ok hi' (fun b o v h => hS b o v h (hi'.st _ _ _ h)) (fun id b o v _ hσ hcell => by
    have hb : w.heap.size ≤ b := (k.new id b rfl hσ).elim (fun h => h) fun ⟨_, _, a, _⟩ => (nil_live a).elim
    simp [retG, Nat.not_lt.2 hb, hcell]) hp hf
  exact ⟨retG g w w', .pure _ _ hq, i1, k1⟩

theorem CallOk.env {E' : Env} (hG : E'.G = E.G) {f : FuncId} {args : List PV} {H H' : Heap} {r : PV} (h : CallOk E P f args H r H') : CallOk E' P f args H r H' :=
  fun g w vals hi hg hv => h g w vals hi (fun k cs e => hg k cs (by rw [hG]; exact e)) hv

end
end Go.Vm

/-
  Facts as oracles of the evaluator.
-/
namespace Go.Vm

mutual
def eqP : PV → PV → Bool
  | .bool a, .bool b => match a, b with | true, true => true | false, false => true | _, _ => false
  | .int k n, .int k' m => decide (k = k') && decide (n = m)
  | .str s, .str t => decide (s = t)
  | .nilp, .nilp => true
  | .nils, .nils => true
  | .nilm, .nilm => true
  | .nilf, .nilf => true
  | .sl .none es el, .sl .none es' el' => Nat.beq es es' && eqPLL el el'
  | .agg cs, .agg cs' => eqPL cs cs'
  | .tup cs, .tup cs' => eqPL cs cs'
  | _, _ => false
def eqPL : List PV → List PV → Bool
  | [], [] => true
  | a :: r, b :: s => eqP a b && eqPL r s
  | _, _ => false
def eqPLL : List (List PV) → List (List PV) → Bool
  | [], [] => true
  | a :: r, b :: s => eqPL a b && eqPLL r s
  | _, _ => false
end

theorem eqP_ok (a : PV) : ∀ b, eqP a b = true → a = b := by
  refine @PV.rec (fun a => ∀ b, eqP a b = true → a = b) (fun l => ∀ m, eqPL l m = true → l = m) (fun l => ∀ m, eqPLL l m = true → l = m)
    ?bool ?int ?str ?nilp ?ptr ?fptr ?nils ?sl ?own ?nilm ?map ?nilf ?fn ?agg ?tup ?undef ?n2 ?c2 ?n3 ?c3 a
  case bool => intro x b h; cases b <;> simp [eqP] at h; rename_i y; cases x <;> cases y <;> simp at h ⊢
  case int => intro k n b h; cases b <;> simp [eqP] at h; simp [h]
  case str => intro t b h; cases b <;> simp [eqP] at h; simp [h]
  case nilp => intro b h; cases b <;> first | rfl | simp [eqP] at h
  case nils => intro b h; cases b <;> first | rfl | simp [eqP] at h
  case nilm => intro b h; cases b <;> first | rfl | simp [eqP] at h
  case nilf => intro b h; cases b <;> first | rfl | simp [eqP] at h
  case sl =>
    intro t es el ih b h
    cases b with
    | sl t' es' el' =>
      cases t <;> cases t' <;> simp only [eqP, Bool.false_eq_true] at h
      simp only [Bool.and_eq_true] at h
      rw [Nat.eq_of_beq_eq_true h.1, ih el' h.2]
    | _ => cases t <;> simp [eqP] at h
  case agg =>
    intro cs ih b h
    cases b with
    | agg cs' =>
      simp only [eqP] at h
      rw [ih cs' h]
    | _ => simp [eqP] at h
  case tup =>
    intro cs ih b h
    cases b with
    | tup cs' =>
      simp only [eqP] at h
      rw [ih cs' h]
    | _ => simp [eqP] at h
  case n2 => intro b h; cases b <;> first | rfl | simp [eqPL] at h
  case c2 =>
    intro x r i1 i2 b h
    cases b with
    | nil => simp [eqPL] at h
    | cons y s =>
      simp only [eqPL, Bool.and_eq_true] at h
      rw [i1 y h.1, i2 s h.2]
  case n3 => intro b h; cases b <;> first | rfl | simp [eqPLL] at h
  case c3 =>
    intro x r i1 i2 b h
    cases b with
    | nil => simp [eqPLL] at h
    | cons y s =>
      simp only [eqPLL, Bool.and_eq_true] at h
      rw [i1 y h.1, i2 s h.2]
  all_goals intros; rename_i h; simp [eqP] at h

theorem eqPL_ok : ∀ (a b : List PV), eqPL a b = true → a = b
  | [], [], _ => rfl
  | a :: r, b :: s, h => by
    simp only [eqPL, Bool.and_eq_true] at h
    rw [eqP_ok a b h.1, eqPL_ok r s h.2]
  | [], _ :: _, h => by simp [eqPL] at h
  | _ :: _, [], h => by simp [eqPL] at h

structure Fact where
  f : FuncId
  args : List PV
  r : PV

def findF : List Fact → FuncId → List PV → Option PV
  | [], _, _ => none
  | x :: l, f, args => match Nat.beq x.f f with
    | true => match eqPL x.args args with
      | true => some x.r
      | false => findF l f args
    | false => findF l f args

/-- The environment with facts for oracles. -/
def Env.knows (E : Env) (l : List Fact) : Env :=
  { E with
    F := fun f => match l.any (fun x => Nat.beq x.f f) with | true => none | false => E.F f
    Z := fun f args H => match findF l f args with | some r => some (r, H) | none => E.Z f args H }

/-- A fact, to be computed. -/
noncomputable def evFact (E : Env) (fuel k : Nat) (f : FuncId) (args : List PV) : Option PV :=
  match frzGL args with
  | some args' => match ev E fuel k f args' hNil with
    | some (r, H') => frz3 0 H' r
    | none => none
  | none => none

section
variable {E : Env} {P : Program}

def FactOk (E : Env) (P : Program) (x : Fact) : Prop := ∀ H, CallOk E P x.f x.args H x.r H

theorem findF_ok {f : FuncId} {args : List PV} {r : PV} : ∀ {l : List Fact}, findF l f args = some r → ∃ x ∈ l, x.f = f ∧ x.args = args ∧ x.r = r
  | x :: l, h => by
    simp only [findF] at h
    split at h
    · rename_i h1
      split at h
      · rename_i h2
        cases h
        exact ⟨x, List.mem_cons_self, Nat.eq_of_beq_eq_true h1, eqPL_ok _ _ h2, rfl⟩
      · obtain ⟨y, hy, e⟩ := findF_ok h; exact ⟨y, List.mem_cons_of_mem _ hy, e⟩
    · obtain ⟨y, hy, e⟩ := findF_ok h; exact ⟨y, List.mem_cons_of_mem _ hy, e⟩

theorem knows_calls {l : List Fact} (hl : ∀ x ∈ l, FactOk E P x) (hZ : CallsOk E P E.Z) : CallsOk (E.knows l) P (E.knows l).Z := by
  intro f args H p H' h
  simp only [Env.knows] at h
  split at h
  · rename_i r hr
    cases h
    obtain ⟨x, hx, rfl, rfl, rfl⟩ := findF_ok hr
    exact ⟨(hl x hx H).env rfl, fun _ => rfl⟩
  · obtain ⟨a, b⟩ := hZ _ _ _ _ _ h
    exact ⟨a.env rfl, b⟩

theorem knows_F {l : List Fact} (hF : FOk E P) : FOk (E.knows l) P := fun f fn c h => by
  simp only [Env.knows] at h
  split at h
  · cases h
  · exact hF f fn c h

theorem fact_ok (hE : TOk E P) (hm : P.follows .mixedOrders = true) (hF : FOk E P) (hZ : CallsOk E P E.Z) {fuel k : Nat} {f : FuncId} {args : List PV} {r : PV} (h : evFact E fuel k f args = some r) : FactOk E P ⟨f, args, r⟩ := by
  unfold evFact at h
  split at h
  · rename_i args' ha
    split at h
    · rename_i r0 H' hev
      exact callOk_lift (ev_ok hE hm hF hZ k _ _ _ _ _ hev).1 ha h
    · cases h
  · cases h

theorem FactOk.env {E' : Env} (hG : E'.G = E.G) {x : Fact} (h : FactOk E P x) : FactOk E' P x := fun H => (h H).env hG

end
end Go.Vm

/-
  Tables of types and functions, each entry with its proof; facts that are computed.
-/
namespace Go.Vm

inductive Tri (α : Type) where
  | leaf
  | node (v : Option α) (l r : Tri α)
noncomputable def Tri.get {α : Type} (t : Tri α) : Nat → Option α :=
  Tri.rec (motive := fun _ => Nat → Option α) (fun _ => none)
    (fun v _ _ il ir n => Nat.rec (motive := fun _ => Option α) v (fun m _ => Nat.rec (motive := fun _ => Option α) (il (m / 2)) (fun _ _ => ir (m / 2)) (m % 2)) n) t

structure FnE (P : Program) where
  f : FuncId
  fn : Func
  c : Code
  ok : FnOk P f fn c
  n : Nat.ble fn.ntmps 4000 = true
structure TiE (P : Program) where
  t : TypeId
  ti : TI
  ok : tiOf P t = some ti

section
variable {P : Program}

noncomputable def getF (t : Tri (FnE P)) (f : FuncId) : Option Func := match t.get f with
  | some e => match Nat.beq e.f f with | true => some e.fn | false => none
  | none => none
noncomputable def getT (t : Tri (TiE P)) (f : TypeId) : Option TI := match t.get f with
  | some e => match Nat.beq e.t f with | true => some e.ti | false => none
  | none => none

theorem getF_ok {t : Tri (FnE P)} {f : FuncId} {fn : Func} {c : Code} (h : getF t f = some fn) (hb : fn.body = some c) : FnOk P f fn c ∧ fn.ntmps ≤ 4000 := by
  unfold getF at h
  split at h
  · rename_i e _
    split at h
    · rename_i he
      cases h
      have := Nat.eq_of_beq_eq_true he
      subst this
      have hc := e.ok.body
      rw [hb] at hc
      cases hc
      exact ⟨e.ok, Nat.le_of_ble_eq_true e.n⟩
    · cases h
  · cases h

theorem getT_ok {t : Tri (TiE P)} {f : TypeId} {ti : TI} (h : getT t f = some ti) : tiOf P f = some ti := by
  unfold getT at h
  split at h
  · rename_i e _
    split at h
    · rename_i he
      cases h
      have := Nat.eq_of_beq_eq_true he
      subst this
      exact e.ok
    · cases h
  · cases h

noncomputable def okFact (E : Env) (fuel k : Nat) (x : Fact) : Bool := match evFact E fuel k x.f x.args with
  | some r => eqP r x.r
  | none => false

theorem okFact_ok {E : Env} (hE : TOk E P) (hm : P.follows .mixedOrders = true) (hF : FOk E P) (hZ : CallsOk E P E.Z) {fuel k : Nat} {x : Fact} (h : okFact E fuel k x = true) : FactOk E P x := by
  unfold okFact at h
  split at h
  · rename_i r hr
    have := eqP_ok _ _ h
    subst this
    exact fact_ok hE hm hF hZ hr
  · cases h

end
end Go.Vm

/-
  Code walked by rules: slots and values may be symbolic.
-/
namespace Go.Vm

/-- The code comes to an end as Q says. -/
structure Wp (E : Env) (P : Program) (own : Tmp → Bool) (n : Nat) (c : Code) (Q : Ex → TM → Heap → Prop) (tm : TM) (H : Heap) : Prop where
  out : ∃ ex tm' H', CodeTo E P own n c tm H ex tm' H' ∧ Q ex tm' H'

def seqR (E : Env) (P : Program) (own : Tmp → Bool) (n : Nat) (d : Code) (Q : Ex → TM → Heap → Prop) : Ex → TM → Heap → Prop
  | .normal => Wp E P own n d Q
  | .exit i => Q (.exit i)
  | .ret => Q .ret
def blockR (i : Nat) (Q : Ex → TM → Heap → Prop) : Ex → TM → Heap → Prop
  | .normal => Q .normal
  | .exit j => match Nat.beq j i with | true => Q .normal | false => Q (.exit j)
  | .ret => Q .ret
structure SeqQ (E : Env) (P : Program) (own : Tmp → Bool) (n : Nat) (d : Code) (Q : Ex → TM → Heap → Prop) (ex : Ex) (tm : TM) (H : Heap) : Prop where
  out : seqR E P own n d Q ex tm H
structure BlockQ (i : Nat) (Q : Ex → TM → Heap → Prop) (ex : Ex) (tm : TM) (H : Heap) : Prop where
  out : blockR i Q ex tm H
structure LoopQ (E : Env) (P : Program) (own : Tmp → Bool) (n : Nat) (c : Code) (Q : Ex → TM → Heap → Prop) (ex : Ex) (tm : TM) (H : Heap) : Prop where
  out : seqR E P own n (.loop c) Q ex tm H

/-- The operations of a region in the text's order, and what follows. -/
structure RegQ (E : Env) (P : Program) (own : Tmp → Bool) (n : Nat) (all l : List Oper) (K : TM → Heap → Prop) (tm : TM) (H : Heap) : Prop where
  out : ∃ tm' H', RegTo E P own n all l tm H tm' H' ∧ K tm' H'
/-- The same of a region that draws its order. -/
structure DrwQ (E : Env) (P : Program) (own : Tmp → Bool) (n : Nat) (ops : Array Oper) (n0 i : Nat) (r : List Oper) (K : TM → Heap → Prop) (tm : TM) (H : Heap) : Prop where
  out : r = ops.toList.drop i → ∃ tm' H', Run E P own n ops n0 (clsI E own ops) (fun _ => n0) (fun _ => []) ((List.range ops.size).drop i) tm H tm' H' ∧ K tm' H'

section
variable {E : Env} {P : Program} {own : Tmp → Bool} {n : Nat} {Q : Ex → TM → Heap → Prop} {K : TM → Heap → Prop} {tm : TM} {H : Heap}

theorem Wp.mono {Q' : Ex → TM → Heap → Prop} {c : Code} (h : Wp E P own n c Q tm H) (hq : ∀ ex tm H, Q ex tm H → Q' ex tm H) : Wp E P own n c Q' tm H :=
  let ⟨ex, tm', H', h1, h2⟩ := h.out; ⟨ex, tm', H', h1, hq _ _ _ h2⟩
theorem Wp.skip (h : Q .normal tm H) : Wp E P own n .skip Q tm H := ⟨_, _, _, .skip _ _, h⟩
theorem Wp.label {l : Nat} (h : Q .normal tm H) : Wp E P own n (.label l) Q tm H := ⟨_, _, _, .label _ _ _, h⟩
theorem Wp.ret (h : Q .ret tm H) : Wp E P own n .ret Q tm H := ⟨_, _, _, .ret _ _, h⟩
theorem Wp.exit {i : Nat} (h : Q (.exit i) tm H) : Wp E P own n (.exit i) Q tm H := ⟨_, _, _, .exit _ _ _, h⟩

theorem Wp.seq {c d : Code} (h : Wp E P own n c (SeqQ E P own n d Q) tm H) : Wp E P own n (.seq c d) Q tm H := by
  obtain ⟨ex, tm', H', h1, h2⟩ := h.out
  cases ex with
  | normal =>
    obtain ⟨ex2, tm2, H2, h3, h4⟩ := (show Wp E P own n d Q tm' H' from h2.out).out
    exact ⟨ex2, tm2, H2, .seq _ _ _ _ _ _ _ _ _ h1 h3, h4⟩
  | exit i => exact ⟨.exit i, tm', H', .seqOut _ _ _ _ _ _ _ h1 (by simp), h2.out⟩
  | ret => exact ⟨.ret, tm', H', .seqOut _ _ _ _ _ _ _ h1 (by simp), h2.out⟩
theorem SeqQ.go {d : Code} (h : Wp E P own n d Q tm H) : SeqQ E P own n d Q .normal tm H := ⟨h⟩
theorem SeqQ.ret {d : Code} (h : Q .ret tm H) : SeqQ E P own n d Q .ret tm H := ⟨h⟩
theorem SeqQ.exit {d : Code} {i : Nat} (h : Q (.exit i) tm H) : SeqQ E P own n d Q (.exit i) tm H := ⟨h⟩

theorem Wp.block {i : Nat} {c : Code} (h : Wp E P own n c (BlockQ i Q) tm H) : Wp E P own n (.block i c) Q tm H := by
  obtain ⟨ex, tm', H', h1, ⟨h2⟩⟩ := h.out
  cases ex with
  | normal => exact ⟨.normal, tm', H', .block _ _ _ _ _ _ _ h1 (by simp), h2⟩
  | ret => exact ⟨.ret, tm', H', .block _ _ _ _ _ _ _ h1 (by simp), h2⟩
  | exit j =>
    cases e : Nat.beq j i with
    | true =>
      simp only [blockR, e] at h2
      have := Nat.eq_of_beq_eq_true e
      subst this
      exact ⟨.normal, tm', H', .blockOut _ _ _ _ _ _ h1, h2⟩
    | false =>
      simp only [blockR, e] at h2
      exact ⟨.exit j, tm', H', .block _ _ _ _ _ _ _ h1 (by intro h; cases h; rw [Nat.beq_refl] at e; cases e), h2⟩
theorem BlockQ.go {i : Nat} (h : Q .normal tm H) : BlockQ i Q .normal tm H := ⟨h⟩
theorem BlockQ.ret {i : Nat} (h : Q .ret tm H) : BlockQ i Q .ret tm H := ⟨h⟩
theorem BlockQ.hit {i j : Nat} (e : Nat.beq j i = true) (h : Q .normal tm H) : BlockQ i Q (.exit j) tm H := ⟨by simp only [blockR, e]; exact h⟩
theorem BlockQ.miss {i j : Nat} (e : Nat.beq j i = false) (h : Q (.exit j) tm H) : BlockQ i Q (.exit j) tm H := ⟨by simp only [blockR, e]; exact h⟩

theorem Wp.loop {c : Code} (h : Wp E P own n c (LoopQ E P own n c Q) tm H) : Wp E P own n (.loop c) Q tm H := by
  obtain ⟨ex, tm', H', h1, h2⟩ := h.out
  cases ex with
  | normal =>
    obtain ⟨ex2, tm2, H2, h3, h4⟩ := (show Wp E P own n (.loop c) Q tm' H' from h2.out).out
    exact ⟨ex2, tm2, H2, .loop _ _ _ _ _ _ _ _ h1 h3, h4⟩
  | exit i => exact ⟨.exit i, tm', H', .loopOut _ _ _ _ _ _ h1 (by simp), h2.out⟩
  | ret => exact ⟨.ret, tm', H', .loopOut _ _ _ _ _ _ h1 (by simp), h2.out⟩
theorem LoopQ.go {c : Code} (h : Wp E P own n (.loop c) Q tm H) : LoopQ E P own n c Q .normal tm H := ⟨h⟩
theorem LoopQ.ret {c : Code} (h : Q .ret tm H) : LoopQ E P own n c Q .ret tm H := ⟨h⟩
theorem LoopQ.exit {c : Code} {i : Nat} (h : Q (.exit i) tm H) : LoopQ E P own n c Q (.exit i) tm H := ⟨h⟩

theorem Wp.cond {x : Operand} {c d : Code} {b : Bool} (hx : evalO E tm x = .bool b) (h1 : b = true → Wp E P own n c Q tm H) (h2 : b = false → Wp E P own n d Q tm H) : Wp E P own n (.cond x c d) Q tm H := by
  cases b with
  | true =>
    obtain ⟨ex, tm', H', h3, h4⟩ := (h1 rfl).out
    exact ⟨ex, tm', H', .cond x c d true _ _ _ _ _ hx h3, h4⟩
  | false =>
    obtain ⟨ex, tm', H', h3, h4⟩ := (h2 rfl).out
    exact ⟨ex, tm', H', .cond x c d false _ _ _ _ _ hx h3, h4⟩
theorem Wp.condT {x : Operand} {c d : Code} (hx : evalO E tm x = .bool true) (h1 : Wp E P own n c Q tm H) : Wp E P own n (.cond x c d) Q tm H :=
  .cond hx (fun _ => h1) (fun e => by cases e)
theorem Wp.condF {x : Operand} {c d : Code} (hx : evalO E tm x = .bool false) (h1 : Wp E P own n d Q tm H) : Wp E P own n (.cond x c d) Q tm H :=
  .cond hx (fun e => by cases e) (fun _ => h1)

theorem Wp.region {id : Nat} {ops : Array Oper} (h : RegQ E P own n ops.toList ops.toList (Q .normal) tm H) : Wp E P own n (.region id ops false) Q tm H := by
  obtain ⟨tm', H', h1, h2⟩ := h.out
  exact ⟨.normal, tm', H', .region _ _ _ _ _ _ h1, h2⟩

theorem RegQ.nil {all : List Oper} (h : K tm H) : RegQ E P own n all [] K tm H := ⟨_, _, .nil _ _, h⟩
theorem RegQ.op {all r : List Oper} {o : Oper} {p : PV} {H1 : Heap} (hw : wantedA all tm o = some true) (hd : dstOk n o = true) (h : aOp E (own (o.dst.getD 0)) (evalO E tm) o.op H = some (p, H1))
    (hr : RegQ E P own n all r K (setD tm o.dst p) H1) : RegQ E P own n all (o :: r) K tm H := by
  obtain ⟨tm', H', h1, h2⟩ := hr.out
  exact ⟨tm', H', .op o r tm H p H1 tm' H' hw (.op _ _ h) (dstOk_spec hd) h1, h2⟩
theorem RegQ.call {all r : List Oper} {o : Oper} {p : PV} {H1 : Heap} (hw : wantedA all tm o = some true) (hd : dstOk n o = true) {f : Operand} {args : Array Operand} {ats : Array TypeId} {k : FuncId} {caps al : List PV}
    (ho : o.op = .call { callee := .value f, args := args, argTypes := ats }) (hf : evalO E tm f = .fn k caps) (ha : args.toList.map (evalO E tm) ++ caps = al) (h : CallOk E P k al H p H1)
    (hr : RegQ E P own n all r K (setD tm o.dst p) H1) : RegQ E P own n all (o :: r) K tm H := by
  obtain ⟨tm', H', h1, h2⟩ := hr.out
  exact ⟨tm', H', .op o r tm H p H1 tm' H' hw (.call f args ats k caps _ _ ho hf (by rw [ha]; exact h)) (dstOk_spec hd) h1, h2⟩
theorem RegQ.pass {all r : List Oper} {o : Oper} (hw : wantedA all tm o = some false) (hd : dstOk n o = true) (hr : RegQ E P own n all r K (setD tm o.dst unset) H) : RegQ E P own n all (o :: r) K tm H := by
  obtain ⟨tm', H', h1, h2⟩ := hr.out
  exact ⟨tm', H', .pass o r tm H tm' H' hw (dstOk_spec hd) h1, h2⟩
/-- A guard that is not decided yet. -/
theorem RegQ.ask {all r : List Oper} {o : Oper} (b : Bool) (hw : wantedA all tm o = some b) (h : ∀ b', b = b' → wantedA all tm o = some b' → RegQ E P own n all (o :: r) K tm H) : RegQ E P own n all (o :: r) K tm H := h b rfl hw

/-! ### regions that draw their order -/
noncomputable def statD (E : Env) (own : Tmp → Bool) (ops : Array Oper) : Bool :=
  backA ops.toList 0 && freeA E own ops (masks ops.toList []) ops.toList 0 && (alL E own ops.toList 0).isEmpty && (stL E own ops.toList 0).isEmpty

theorem Wp.draw (hE : TOk E P) (hm : P.follows .mixedOrders = true) {id : Nat} {ops : Array Oper} (hs : statD E own ops = true) (h : DrwQ E P own n ops H.bx.length 0 ops.toList (Q .normal) tm H) : Wp E P own n (.region id ops true) Q tm H := by
  obtain ⟨tm', H', h1, h2⟩ := h.out (by simp)
  simp only [statD, Bool.and_eq_true] at hs
  obtain ⟨⟨⟨b1, b2⟩, b3⟩, b4⟩ := hs
  have ea : alL E own ops.toList 0 = [] := by simpa using b3
  have es : stL E own ops.toList 0 = [] := by simpa using b4
  have er : roomL E own ops = 0 := by simp [roomL, ea]
  refine ⟨.normal, tm', H', .draw _ _ _ _ _ _ fun id g a w Q hr hq => ?_, h2⟩
  have hS := sched_ok (tg := fun _ => H.bx.length) hr.inv.ro b1 b2 (by rw [es]; simp) (fun k _ => Nat.le_add_right _ _)
  rw [er] at hS
  have hmk : mskS H.bx.length (masks ops.toList []) (alL E own ops.toList 0) (stL E own ops.toList 0) (fun _ => H.bx.length) = fun _ => [] := by
    rw [ea, es]; rfl
  rw [hmk] at hS
  have hx : extH H 0 = H := by simp [extH]
  exact drawOk hE hm hS (by rw [hx]; exact h1) id g a w Q hr hq

theorem DrwQ.nil {ops : Array Oper} {n0 i : Nat} (h : K tm H) : DrwQ E P own n ops n0 i [] K tm H := ⟨fun hr => by
  have h1 : ops.size ≤ i := by
    rcases Nat.lt_or_ge i ops.size with h | h
    · have := congrArg List.length hr; simp at this; omega
    · exact h
  rw [List.drop_eq_nil_of_le (by simpa using h1)]
  exact ⟨tm, H, .nil _ _, h⟩⟩

theorem DrwQ.step {ops : Array Oper} {n0 i : Nat} {o : Oper} {r : List Oper} {p : PV} {H1 : Heap} (hd : dstOk n o = true)
    (h : ops[i]? = some o → Hp E P own ops n0 (clsI E own ops) (fun _ => n0) (fun _ => []) i o tm H p H1) (hr : DrwQ E P own n ops n0 (i + 1) r K (setD tm o.dst p) H1) : DrwQ E P own n ops n0 i (o :: r) K tm H := ⟨fun hl => by
  have ho : ops[i]? = some o := by
    have := congrArg List.head? hl
    simp [List.head?_drop] at this
    exact this.symm
  have hi : i < ops.size := by
    rcases Nat.lt_or_ge i ops.size with h | h
    · exact h
    · rw [Array.getElem?_eq_none h] at ho; cases ho
  have hr' : r = ops.toList.drop (i + 1) := by
    have := congrArg List.tail hl
    simpa using this
  have hdr : (List.range ops.size).drop i = i :: (List.range ops.size).drop (i + 1) := by
    rw [List.drop_eq_getElem_cons (by simpa using hi)]
    simp
  obtain ⟨tm', H', h1, h2⟩ := hr.out hr'
  rw [hdr]
  exact ⟨tm', H', .cons i _ o _ _ p H1 _ _ ho (dstOk_spec hd) (h ho) h1, h2⟩⟩

/-- What a drawn operation that is no call must be like. -/
noncomputable def okD (E : Env) (own : Tmp → Bool) (n0 : Nat) (tm : TM) (o : Oper) (H H1 : Heap) : Bool :=
  match clsO E own o with
  | .sc => true
  | .qu => true
  | .ld => seenO E tm o n0
  | .ef => Nat.ble H.bx.length H1.bx.length
  | _ => false

theorem mask_nil (H : Heap) : maskH [] H = H := rfl
theorem merge_nil (H M : Heap) : mergeH [] H M = M := rfl

theorem DrwQ.op {ops : Array Oper} {n0 i : Nat} {o : Oper} {r : List Oper} {p : PV} {H1 : Heap} (hw : wantedA ops.toList tm o = some true) (hd : dstOk n o = true) (h : aOp E (own (o.dst.getD 0)) (evalO E tm) o.op H = some (p, H1))
    (hk : okD E own n0 tm o H H1 = true) (hr : DrwQ E P own n ops n0 (i + 1) r K (setD tm o.dst p) H1) : DrwQ E P own n ops n0 i (o :: r) K tm H := by
  refine .step hd (fun ho => ?_) hr
  have hci := clsI_eq (E := E) (own := own) ho
  unfold okD at hk
  cases hcl : clsO E own o with
  | sc =>
    have h1 := aOp_sc hcl h H
    rw [h] at h1
    have e : H1 = H := by simpa using h1
    subst e
    exact .sc _ _ hw fun M => .op _ _ (aOp_sc hcl h M)
  | qu =>
    rw [hcl] at hci
    have e := aOp_qu hcl h
    subst e
    exact .qu _ _ hw hci (.op _ _ h)
  | ld =>
    rw [hcl] at hci hk
    have h1 := aOp_ld hcl h hk (K := H) rfl
    rw [h] at h1
    have e : H1 = H := by simpa using h1
    subst e
    exact .ld _ _ hw hci fun K hK => .op _ _ (aOp_ld hcl h hk hK)
  | ef =>
    rw [hcl] at hci hk
    exact .ef _ _ H1 hw hci (.op _ _ h) (Nat.le_of_ble_eq_true hk)
  | al => rw [hcl] at hk; cases hk
  | st => rw [hcl] at hk; cases hk
  | tk => rw [hcl] at hk; cases hk

theorem DrwQ.call {ops : Array Oper} {n0 i : Nat} {o : Oper} {r : List Oper} {p : PV} (hw : wantedA ops.toList tm o = some true) (hd : dstOk n o = true) {f : Operand} {args : Array Operand} {ats : Array TypeId} {k : FuncId} {caps al : List PV}
    (ho : o.op = .call { callee := .value f, args := args, argTypes := ats }) (hf : evalO E tm f = .fn k caps) (ha : args.toList.map (evalO E tm) ++ caps = al) (hc : clsO E own o = .qu) (h : CallOk E P k al H p H)
    (hr : DrwQ E P own n ops n0 (i + 1) r K (setD tm o.dst p) H) : DrwQ E P own n ops n0 i (o :: r) K tm H :=
  .step hd (fun ho' => .qu _ _ hw ((clsI_eq (E := E) (own := own) ho').trans hc) (.call f args ats k caps _ _ ho hf (by rw [ha]; exact h))) hr
theorem DrwQ.pass {ops : Array Oper} {n0 i : Nat} {o : Oper} {r : List Oper} (hw : wantedA ops.toList tm o = some false) (hd : dstOk n o = true) (hr : DrwQ E P own n ops n0 (i + 1) r K (setD tm o.dst unset) H) : DrwQ E P own n ops n0 i (o :: r) K tm H :=
  .step hd (fun _ => .pass _ hw) hr

/-! ### slots of which alone something is known -/
noncomputable def ovr (base : TM) : List (Nat × PV) → TM
  | [] => base
  | (d, v) :: r => setD (ovr base r) (some d) v
def okL (tm : TM) : List (Nat × PV) → Prop
  | [] => True
  | (d, v) :: r => tm d = v ∧ okL tm r
theorem ovr_self : ∀ {l : List (Nat × PV)}, okL tm l → ovr tm l = tm
  | [], _ => rfl
  | (d, v) :: r, h => by
    funext t
    simp only [ovr, setD]
    rw [ovr_self h.2]
    split
    · rename_i e; subst e; exact h.1.symm
    · rfl
theorem Wp.norm {c : Code} (l : List (Nat × PV)) (h : okL tm l) (hw : ∀ base, Wp E P own n c Q (ovr base l) H) : Wp E P own n c Q tm H := by
  have := hw tm
  rwa [ovr_self h] at this

/-! ### calls -/
def retR (E : Env) (fn : Func) (r : PV) (ex : Ex) (tm : TM) (H : Heap) : Prop := match ex with
  | .exit _ => False
  | _ => ∃ ps, resA E tm H fn.results.toList = some ps ∧ frz3 0 H (one ps) = some r
structure RetQ (E : Env) (fn : Func) (r : PV) (ex : Ex) (tm : TM) (H : Heap) : Prop where
  out : retR E fn r ex tm H
theorem RetQ.ret {fn : Func} {r : PV} {ps : List PV} (h1 : resA E tm H fn.results.toList = some ps) (h2 : frz3 0 H (one ps) = some r) : RetQ E fn r .ret tm H := ⟨⟨ps, h1, h2⟩⟩
theorem RetQ.go {fn : Func} {r : PV} {ps : List PV} (h1 : resA E tm H fn.results.toList = some ps) (h2 : frz3 0 H (one ps) = some r) : RetQ E fn r .normal tm H := ⟨⟨ps, h1, h2⟩⟩

theorem arg1_frz {p : PV} (h : frz1 p = some p) : arg1 p = p := by
  cases p <;> simp only [frz1, arg1] at h ⊢ <;> first | rfl | (cases h; rfl) | cases h
theorem arg1_frzL : ∀ {l : List PV}, frzL l = some l → l.map arg1 = l
  | [], _ => rfl
  | p :: r, h => by
    simp only [frzL] at h
    split at h
    · rename_i p' hp
      split at h
      · rename_i r' hr
        simp only [Option.some.injEq, List.cons.injEq] at h
        obtain ⟨rfl, rfl⟩ := h
        simp only [List.map_cons, arg1_frz hp, arg1_frzL hr]
      · cases h
    · cases h
theorem argV_frz {p : PV} (h : frzG p = some p) : argV p = p := by
  unfold frzG at h
  split at h
  · rename_i cs
    split at h
    · rename_i cs' hc
      simp only [Option.some.injEq, PV.agg.injEq] at h
      subst h
      simp only [argV, arg1_frzL hc]
    · cases h
  · rename_i hn
    cases p <;> simp only [argV] <;> first | exact arg1_frz h | exact (hn _ rfl).elim
theorem args_frz : ∀ {l : List PV}, frzGL l = some l → l.map argV = l
  | [], _ => rfl
  | p :: r, h => by
    simp only [frzGL] at h
    split at h
    · rename_i p' hp
      split at h
      · rename_i r' hr
        simp only [Option.some.injEq, List.cons.injEq] at h
        obtain ⟨rfl, rfl⟩ := h
        simp only [List.map_cons, argV_frz hp, args_frz hr]
      · cases h
    · cases h

/-- A call whose code has been walked at the empty heap. -/
theorem callOk_wp (hE : TOk E P) {f : FuncId} {fn : Func} {c : Code} (hf : FnOk P f fn c) {args : List PV} (ha : frzGL args = some args) {r : PV} (hr : frz3 0 hNil r = some r)
    (h : Wp E P own fn.ntmps c (RetQ E fn r) (tm0 args) hNil) (H : Heap) : CallOk E P f args H r H := by
  obtain ⟨ex, tm', H', h1, ⟨h2⟩⟩ := h.out
  refine callOk_lift ?_ ha hr H
  have hx : ∀ i, ex ≠ .exit i := fun i e => by subst e; exact h2
  obtain ⟨ps, h3, h4⟩ : ∃ ps, resA E tm' H' fn.results.toList = some ps ∧ frz3 0 H' (one ps) = some r := by
    cases ex with
    | normal => exact h2
    | ret => exact h2
    | exit i => exact h2.elim
  exact callOk_pure (own := own) hE hf (by rw [args_frz ha]; exact h1) hx h3 h4
end
end Go.Vm

/-
  Values as they come in: what the reading of an argument says of its cells.
-/
namespace Go.Vm

/-- What the cells of a type may be. -/
inductive Sh (T : TypeId → Option TI) : TypeId → List PV → Prop
  | bool {t : TypeId} {ti : TI} {b : Bool} (h : T t = some ti) (hk : ti.tk = .bool) : Sh T t [.bool b]
  | int {t : TypeId} {ti : TI} {k : IntKind} {n : Int} (h : T t = some ti) (hk : ti.tk = .int k) (hn : (Lit.int k n).wf = true) : Sh T t [.int k n]
  | str {t : TypeId} {ti : TI} {s : List UInt8} (h : T t = some ti) (hk : ti.tk = .string) (hs : s.length ≤ maxLen) : Sh T t [.str s]
  | nils {t : TypeId} {ti : TI} {e : TypeId} (h : T t = some ti) (hk : ti.tk = .slice e) : Sh T t [.nils]
  | sl {t : TypeId} {ti : TI} {e : TypeId} {ei : TI} {el : List (List PV)} (h : T t = some ti) (hk : ti.tk = .slice e) (he : T e = some ei) (hl : el.length ≤ maxLen) (hel : ∀ c, c ∈ el → Sh T e c) : Sh T t [.sl .none ei.size el]
  | struct {t : TypeId} {ti : TI} {fs : List (Nat × TypeId)} {cs : List PV} (h : T t = some ti) (hk : ti.tk = .struct fs) (hlen : cs.length = ti.size)
      (hf : ∀ o ft fi, (o, ft) ∈ fs → T ft = some fi → Sh T ft ((cs.drop o).take fi.size)) : Sh T t cs

def rowsOk (T : TypeId → Option TI) (cl : List TypeId) : List (Nat × TypeId) → Nat → Nat → Bool
  | [], o, n => Nat.beq o n
  | (o', ft) :: r, o, n => Nat.beq o' o && (cl.any (Nat.beq ft) && match T ft with | some fi => rowsOk T cl r (o + fi.size) n | none => false)
def tyOk (T : TypeId → Option TI) (cl : List TypeId) (t : TypeId) : Bool := match T t with
  | some ti => match ti.tk with
    | .bool => Nat.beq ti.size 1
    | .int _ => Nat.beq ti.size 1
    | .string => Nat.beq ti.size 1
    | .slice e => Nat.beq ti.size 1 && (cl.any (Nat.beq e) && match T e with | some ei => Nat.blt 0 ei.size | none => false)
    | .struct fs => rowsOk T cl fs 0 ti.size
    | _ => false
  | none => false

/-- The cells of the world, as they are now. -/
def wS (w : World) : Store := fun b o => w.cell? ⟨b, o, none⟩

def CellsOf (S : Store) (pcs : List PV) (cs : List Value) : Prop := cs.length = pcs.length ∧ ∀ i (hi : i < pcs.length) (hj : i < cs.length), V0 S pcs[i] cs[i]

theorem cell1 {S : Store} {p : PV} {v : Value} (h : V0 S p v) : CellsOf S [p] [v] := ⟨rfl, fun i hi hj => by
  obtain rfl : i = 0 := by simp at hi; omega
  exact h⟩

theorem any_beq {l : List Nat} {x : Nat} (h : l.any (Nat.beq x) = true) : x ∈ l := by
  obtain ⟨y, hy, e⟩ := List.any_eq_true.1 h
  rw [Nat.eq_of_beq_eq_true e]; exact hy

theorem rowsOk_le {T : TypeId → Option TI} {cl : List TypeId} : ∀ {fs : List (Nat × TypeId)} {o n : Nat}, rowsOk T cl fs o n = true → o ≤ n
  | [], o, n, h => by simp only [rowsOk] at h; exact Nat.le_of_eq (Nat.eq_of_beq_eq_true h)
  | (o', ft) :: r, o, n, h => by
    simp only [rowsOk, Bool.and_eq_true] at h
    obtain ⟨_, _, h3⟩ := h
    split at h3
    · have := rowsOk_le h3; omega
    · cases h3

theorem rows_build {T : TypeId → Option TI} {cl : List TypeId} {S : Store} {cs : List Value} {n : Nat} (hn : cs.length = n) : ∀ (fs : List (Nat × TypeId)) (o : Nat), rowsOk T cl fs o n = true →
    (∀ o' ft fi, (o', ft) ∈ fs → ft ∈ cl → T ft = some fi → ∃ pcs, Sh T ft pcs ∧ CellsOf S pcs ((cs.drop o').take fi.size)) →
    ∃ rest, rest.length + o = n ∧ CellsOf S rest (cs.drop o) ∧ ∀ pre : List PV, pre.length = o → ∀ o' ft fi, (o', ft) ∈ fs → T ft = some fi → Sh T ft (((pre ++ rest).drop o').take fi.size)
  | [], o, h, _ => by
    simp only [rowsOk] at h
    have := Nat.eq_of_beq_eq_true h
    subst this
    refine ⟨[], by simp, ⟨by simp [hn], fun i hi => absurd hi (by simp)⟩, fun _ _ _ _ _ h => absurd h (by simp)⟩
  | (o1, ft) :: r, o, h, hf => by
    simp only [rowsOk, Bool.and_eq_true] at h
    obtain ⟨h1, h2, h3⟩ := h
    have := Nat.eq_of_beq_eq_true h1
    subst this
    split at h3
    · rename_i fi hfi
      obtain ⟨pcs, hs, hc⟩ := hf o1 ft fi List.mem_cons_self (any_beq h2) hfi
      have hle := rowsOk_le h3
      obtain ⟨rest, r1, r2, r3⟩ := rows_build hn r (o1 + fi.size) h3 fun o' ft' fi' hm => hf o' ft' fi' (List.mem_cons_of_mem _ hm)
      have hl : pcs.length = fi.size := by rw [← hc.1]; simp; omega
      refine ⟨pcs ++ rest, by simp; omega, ⟨by simp; omega, fun i hi hj => ?_⟩, fun pre hp o' ft' fi' hm hfi' => ?_⟩
      · by_cases hlt : i < pcs.length
        · rw [List.getElem_append_left hlt]
          have := hc.2 i hlt (by simp; omega)
          simpa using this
        · rw [List.getElem_append_right (by omega)]
          have := r2.2 (i - pcs.length) (by simp at hi; omega) (by simp; simp at hi; omega)
          have e : o1 + fi.size + (i - pcs.length) = o1 + i := by omega
          simpa only [List.getElem_drop, e] using this
      · rcases List.mem_cons.1 hm with e | hm
        · cases e
          rw [hfi] at hfi'
          cases hfi'
          rw [List.drop_append_of_le_length (by omega), List.drop_of_length_le (by omega), List.nil_append, List.take_append_of_le_length (by omega), List.take_of_length_le (by omega)]
          exact hs
        · have := r3 (pre ++ pcs) (by simp; omega) o' ft' fi' hm hfi'
          rwa [List.append_assoc] at this
    · cases h3

theorem list_of {α : Type} {R : Nat → α → Prop} : ∀ (n : Nat), (∀ i, i < n → ∃ x, R i x) → ∃ l : List α, l.length = n ∧ ∀ i (hi : i < l.length), R i l[i]
  | 0, _ => ⟨[], rfl, fun i hi => absurd hi (by simp)⟩
  | n + 1, h => by
    obtain ⟨l, h1, h2⟩ := list_of n fun i hi => h i (by omega)
    obtain ⟨x, hx⟩ := h n (by omega)
    refine ⟨l ++ [x], by simp [h1], fun i hi => ?_⟩
    by_cases e : i < l.length
    · rw [List.getElem_append_left e]; exact h2 i e
    · have e2 : i = n := by simp at hi; omega
      rw [List.getElem_append_right (by omega)]
      subst e2
      simpa using hx

section
variable {E : Env} {P : Program} {H : Type} {enc : TypeId × Value → H} {w : World} {base : Nat} {spare : Nat → Bool} {held : Bool} {cl : List TypeId}

theorem trod_sh (hE : TOk E P) (hcl : ∀ t, t ∈ cl → tyOk E.T cl t = true) : ∀ (n : Nat) (t : TypeId) (cs : List Value) (x : DataW H × List MemPlace), t ∈ cl → DataW.trod enc P w base spare held n t cs = some x → ∃ pcs, Sh E.T t pcs ∧ CellsOf (wS w) pcs cs
  | 0, t, cs, x, _, h => by simp [DataW.trod] at h
  | n + 1, t, cs, x, ht, h => by
    have hk := hcl t ht
    unfold tyOk at hk
    split at hk
    · rename_i ti hti
      obtain ⟨i, d, z, h1, h2, h3, rfl⟩ := hE.spec hti
      have hsz : P.cellsOf t = i.size := by simp [Program.cellsOf, h1]
      simp only at hk
      split at hk
      · rename_i hd
        have hd := tk_bool hd
        subst hd
        obtain ⟨b, rfl, -⟩ := DataW.trod_bool h2 h
        exact ⟨[.bool b], .bool hti rfl, cell1 (.bool b)⟩
      · rename_i k hd
        have hd := tk_int hd
        subst hd
        obtain ⟨m, rfl, -, hw⟩ := DataW.trod_int h2 h
        exact ⟨[.int k m], .int hti rfl hw, cell1 (.int k m)⟩
      · rename_i hd
        have hd := tk_string hd
        subst hd
        obtain ⟨s, rfl, -, hw⟩ := DataW.trod_string h2 h
        exact ⟨[.str s.data.toList], .str hti rfl (by simpa using hw), cell1 (.str _ s rfl)⟩
      · rename_i e hd
        have hd := tk_slice hd
        subst hd
        simp only [Bool.and_eq_true] at hk
        obtain ⟨_, he, hei⟩ := hk
        split at hei
        · rename_i ei hte
          obtain ⟨i', d', z', h1', h2', h3', rfl⟩ := hE.spec hte
          have hes : P.cellsOf e = i'.size := by simp [Program.cellsOf, h1']
          have hpos : 0 < i'.size := Nat.le_of_ble_eq_true hei
          rcases DataW.trod_slice h2 h with ⟨rfl, -⟩ | ⟨a, len, cap, elems, rest, m, hm, rfl, -, hb, hl, hcap, hlen, hel, -, -⟩
          · exact ⟨[.nils], .nils hti rfl, cell1 (.nils)⟩
          · cases hm
            have each : ∀ i, i < len → ∃ p : List PV × List Value, Sh E.T e p.1 ∧ CellsOf (wS w) p.1 p.2 ∧ w.cells? base (a.add (i * i'.size)) i'.size = some p.2 := fun i hi => by
              have hx := hel i hi
              have hy : elems[i]? = some (elems[i]'(by omega)) := List.getElem?_eq_getElem (by omega)
              rw [hy, Option.bind_eq_some_iff] at hx
              obtain ⟨cs', hc1, hc2⟩ := hx
              obtain ⟨pcs, q1, q2⟩ := trod_sh hE hcl n e cs' _ (any_beq he) hc2
              exact ⟨(pcs, cs'), q1, q2, by rw [← hes]; exact hc1⟩
            obtain ⟨L, hL1, hL2⟩ := list_of len each
            have hcell : ∀ i (hi : i < L.length) j, j < i'.size → w.cell? ((a.add (i * i'.size)).add j) = (L[i]).2[j]? := fun i hi j hj => by
              have := (World.cells?_some (hL2 i hi).2.2)
              exact this.2.2 j hj
            have hlen2 : ∀ i (hi : i < L.length), (L[i]).2.length = i'.size := fun i hi => (World.cells?_some (hL2 i hi).2.2).2.1
            have hspot : 0 < len → a = ⟨a.block, a.off, none⟩ := fun hp => by
              have h0 := hcell 0 (by omega) 0 hpos
              rw [List.getElem?_eq_getElem (by rw [hlen2 0 (by omega)]; exact hpos)] at h0
              simp only [Nat.zero_mul, Addr.add, if_true] at h0
              obtain ⟨ab, ao, asp⟩ := a
              cases asp with
              | none => rfl
              | some z =>
                simp only [World.cell?] at h0
                split at h0
                · simp at h0
                · cases h0
            have hw' : ∀ i (hi : i < L.length), (L[i]).1.length = i'.size := fun i hi => by rw [← (hL2 i hi).2.1.1]; exact hlen2 i hi
            refine ⟨[.sl .none i'.size (L.map (·.1))], .sl hti rfl hte (by simp; omega) (fun c hc => ?_), rfl, fun k hi hj => ?_⟩
            · obtain ⟨p, hp, rfl⟩ := List.mem_map.1 hc
              obtain ⟨q, hq, rfl⟩ := List.mem_iff_getElem.1 hp
              exact (hL2 q hq).1
            · obtain rfl : k = 0 := by simp at hi; omega
              have hLm : (L.map (·.1)).length = len := by simp [hL1]
              simp only [List.getElem_cons_zero]
              have key : V0 (wS w) (.sl .none i'.size (L.map (·.1))) (.slice (some a) (L.map (·.1)).length cap) := by
                refine .sl .none i'.size (L.map (·.1)) a a.block a.off cap (fun x y => ((L[x]?.map (·.2)).getD []).getD y undef) (fun hp => hspot (by omega)) (.inl rfl) (by omega) (fun x hx => ?_) (fun x y hx hy => ?_) (fun x hx y hy => ?_)
                · simpa using hw' x (by simpa using hx)
                · have hx' : x < L.length := by simpa using hx
                  have hcl := hcell x hx' y hy
                  have ha := hspot (by omega)
                  have e0 : ∀ A : Addr, A = ⟨a.block, a.off, none⟩ → (A.add (x * i'.size)).add y = ⟨a.block, a.off + x * i'.size + y, none⟩ := fun A hA => by rw [hA, add_plain', add_plain']
                  have e1 := e0 a ha
                  rw [e1] at hcl
                  simp only [wS]
                  rw [hcl, List.getElem?_eq_getElem hx']
                  have : y < (L[x]).2.length := by rw [hlen2 x hx']; exact hy
                  simp [this]
                · have hx' : x < L.length := by simpa using hx
                  have e1 : (L.map (·.1))[x] = (L[x]).1 := by simp
                  have hy1 : y < (L[x]).1.length := by rw [← e1]; exact hy
                  have := (hL2 x hx').2.1.2 y hy1 (by rw [(hL2 x hx').2.1.1]; exact hy1)
                  have hy2 : y < (L[x]).2.length := by rw [(hL2 x hx').2.1.1]; exact hy1
                  simpa [e1, List.getElem?_eq_getElem hx', hy2] using this
              rwa [hLm] at key
        · cases hei
      · rename_i fs hd
        obtain ⟨fs', hd, hfs⟩ := tk_struct hd
        subst hd
        obtain ⟨xs, m, hm, -, hlen, hxl, hf⟩ := DataW.trod_struct h2 h
        cases hm
        rw [hsz] at hlen
        obtain ⟨rest, r1, r2, r3⟩ := rows_build (S := wS w) hlen fs 0 hk fun o' ft fi hmem hft hfi => by
          rw [hfs] at hmem
          obtain ⟨f, hfm, hfe⟩ := List.mem_map.1 hmem
          obtain ⟨q, hq, hqe⟩ := List.mem_iff_getElem.1 hfm
          cases hfe
          obtain ⟨i', d', z', h1', h2', h3', rfl⟩ := hE.spec hfi
          have hx := hf q f (by rw [← hqe]; simp only [Array.getElem_toList]; exact Array.getElem?_eq_getElem (by simpa using hq))
          have hq' : q < xs.length := by rw [hxl]; simpa using hq
          rw [List.getElem?_eq_getElem hq'] at hx
          have hs' : P.cellsOf f.type = i'.size := by simp [Program.cellsOf, h1']
          rw [hs'] at hx
          exact trod_sh hE hcl n f.type _ _ hft hx
        refine ⟨rest, .struct (fs := fs) hti (by rw [hfs]; rfl) (by simpa using r1) (fun o ft fi hmem hfi => ?_), ?_⟩
        · have := r3 [] rfl o ft fi hmem hfi
          simpa using this
        · simpa using r2
      · cases hk
    · cases hk

end
end Go.Vm

/-
  From a call that is known of values to the call of a statement's function.
-/
namespace Go.Vm
open Go.RowKit

section
variable {E : Env} {P : Program} {w : World}

def wG (w : World) : Gh := { S := wS w, σ := fun _ => none, τ := fun _ => none, κ := fun _ => 0 }

theorem wG_inv (w : World) : Inv (wG w) hNil w where
  st _ _ _ h := h
  bx id es el h := by simp [hNil] at h
  mp id es h := by simp [hNil] at h
  inj i j b h := (nil_live h).elim
  sd _ _ := rfl
  td _ _ := rfl
  tk t b lo hi' h := by simp [hNil] at h
  tinj t t' b lo hi' lo' hi2 h := by simp [hNil] at h
  nd := List.nodup_nil
  lt t h := by simp [hNil] at h
  sz id b h := by simp [wG] at h
  ro := Nat.le_refl _
  rm id b c T m h := (nil_live h).elim

theorem grown_of_keep {g g' : Gh} {H' : Heap} {w' : World} (k : Keep g hNil w g' H' w') : Grown w w' := by
  refine ⟨⟨k.so.1, k.so.2, fun i hi => ?_⟩, k.fz, k.size⟩
  rw [k.heap i hi (nil_shut g i)]
  cases w.heap[i]? with
  | none => trivial
  | some o => cases o <;> simp

/-- The code of a statement's function, by what it comes to at the arguments' cells. -/
theorem calls_of {f : FuncId} {fn : Func} {c : Code} (hf : FnOk P f fn c) (hG : E.G = fun _ => none) {args : List PV} {r : PV} (h : CallOk E P f args hNil r hNil) {vals : Array Value} (hv : CellsOf (wS w) args vals.toList) :
    Calls P f vals w fun e w' => ∃ v, e = .returned v ∧ (∃ g', V g' r v) ∧ Grown w w' := by
  have hu := h (wG w) w vals (wG_inv w) (fun k cs e => by rw [hG] at e; cases e) ⟨hv.1, fun i h1 h2 => .pure _ _ (hv.2 i h1 h2)⟩
  rw [callFunc_enter hf] at hu
  exact Calls.mono hu fun e w' ⟨v, e1, g', hp, _, k⟩ => ⟨v, e1, ⟨g', hp⟩, grown_of_keep k⟩
end
end Go.Vm
