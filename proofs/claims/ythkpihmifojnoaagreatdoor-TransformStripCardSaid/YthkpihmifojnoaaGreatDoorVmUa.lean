/-
  The evaluator at a region that draws its order: the check of the order.
-/
import Derived.Test.YthkpihmifojnoaaGreatDoorVmU
namespace Go.Vm

section
variable {E : Env} {P : Program} {call : CallF} {own : Tmp → Bool} {n : Nat} {ops : Array Oper}

theorem fold_bit (acc : List Nat) (l : Nat) : ∀ (es : List Edge) (s : Nat),
    (es.foldl (fun s e => match Region.binds .any e with | true => s ||| (2 ^ e.on ||| (nth acc e.on).getD 0) | false => s) s).testBit l = true →
    s.testBit l = true ∨ ∃ e ∈ es, Region.binds .any e = true ∧ (e.on = l ∨ ((nth acc e.on).getD 0).testBit l = true)
  | [], s, h => .inl h
  | e :: es, s, h => by
    simp only [List.foldl_cons] at h
    rcases fold_bit acc l es _ h with h1 | ⟨e', he', hb, hx⟩
    · split at h1
      · rename_i hb
        simp only [Nat.testBit_or, Bool.or_eq_true, Nat.testBit_two_pow, decide_eq_true_eq] at h1
        rcases h1 with h1 | h1 | h1
        · exact .inl h1
        · exact .inr ⟨e, List.mem_cons_self, hb, .inl h1⟩
        · exact .inr ⟨e, List.mem_cons_self, hb, .inr h1⟩
      · exact .inl h1
    · exact .inr ⟨e', List.mem_cons_of_mem _ he', hb, hx⟩

theorem masks_ok : ∀ (r : List Oper) (acc : List Nat), r = ops.toList.drop acc.length → (∀ j l, ((nth acc j).getD 0).testBit l = true → Bef ops l j) → ∀ j l, ((nth (masks r acc) j).getD 0).testBit l = true → Bef ops l j
  | [], acc, _, h => h
  | o :: r, acc, hr, h => by
    simp only [masks]
    have ho : ops[acc.length]? = some o := by
      have := congrArg List.head? hr
      simp [List.head?_drop] at this
      exact this.symm
    refine masks_ok r _ ?_ fun j l hb => ?_
    · have := congrArg List.tail hr
      simpa using this
    · rw [nth_eq] at hb
      by_cases e : j < acc.length
      · rw [List.getElem?_append_left e, ← nth_eq] at hb
        exact h j l hb
      · by_cases e2 : j = acc.length
        · subst e2
          rw [List.getElem?_append_right (Nat.le_refl _)] at hb
          simp only [Nat.sub_self, List.getElem?_cons_zero, Option.getD_some, maskOf] at hb
          rcases fold_bit acc l _ _ hb with h1 | ⟨x, hx, hbi, h1 | h1⟩
          · simp at h1
          · exact .edge _ _ ⟨o, x, ho, hx, hbi, h1⟩
          · exact .step _ x.on _ (h _ _ h1) ⟨o, x, ho, hx, hbi, rfl⟩
        · rw [List.getElem?_append_right (by omega)] at hb
          have : ([maskOf acc o] : List Nat)[j - acc.length]? = none := by
            rw [List.getElem?_eq_none]; simp; omega
          rw [this] at hb
          simp at hb

theorem bef_ok {l i : Nat} (h : bef (masks ops.toList []) l i = true) : Bef ops l i :=
  masks_ok ops.toList [] (by simp) (fun j l h => by simp [nth_eq] at h) i l h

theorem backA_ok : ∀ (r : List Oper) (k : Nat), r = ops.toList.drop k → backA r k = true → ∀ l i, k ≤ i → Pre ops l i → l < i
  | [], k, hr, _, l, i, hk, ⟨o, e, ho, _⟩ => by
    have h1 : ops.size ≤ k := by
      rcases Nat.lt_or_ge k ops.size with h | h
      · have := congrArg List.length hr; simp at this; omega
      · exact h
    have h2 : ops[i]? = none := Array.getElem?_eq_none (by omega)
    rw [h2] at ho; cases ho
  | o' :: r, k, hr, h, l, i, hk, hp => by
    simp only [backA, Bool.and_eq_true] at h
    by_cases e : i = k
    · subst e
      obtain ⟨o, x, ho, hx, hb, rfl⟩ := hp
      have ho' : ops[i]? = some o' := by
        have := congrArg List.head? hr
        simp [List.head?_drop] at this
        exact this.symm
      rw [ho] at ho'
      cases ho'
      have := List.all_eq_true.1 h.1 x hx
      simp only [hb, Bool.not_true, Bool.false_or] at this
      exact Nat.le_of_ble_eq_true this
    · exact backA_ok r (k + 1) (by have := congrArg List.tail hr; simpa using this) h.2 l i (by omega) hp

theorem alL_mem : ∀ (r : List Oper) (k i : Nat), i ∈ alL E own r k ↔ ∃ o, k ≤ i ∧ r[i - k]? = some o ∧ clsO E own o = .al
  | [], k, i => by simp [alL]
  | o :: r, k, i => by
    have ih := alL_mem r (k + 1) i
    have split1 : (∃ o', k ≤ i ∧ (o :: r)[i - k]? = some o' ∧ clsO E own o' = .al) ↔ (i = k ∧ clsO E own o = .al) ∨ ∃ o', k + 1 ≤ i ∧ r[i - (k + 1)]? = some o' ∧ clsO E own o' = .al := by
      constructor
      · rintro ⟨o', h1, h2, h3⟩
        by_cases e : i = k
        · subst e
          simp at h2
          subst h2
          exact .inl ⟨rfl, h3⟩
        · have : i - k = (i - (k + 1)) + 1 := by omega
          rw [this, List.getElem?_cons_succ] at h2
          exact .inr ⟨o', by omega, h2, h3⟩
      · rintro (⟨rfl, h⟩ | ⟨o', h1, h2, h3⟩)
        · exact ⟨o, Nat.le_refl _, by simp, h⟩
        · have : i - k = (i - (k + 1)) + 1 := by omega
          exact ⟨o', by omega, by rw [this, List.getElem?_cons_succ]; exact h2, h3⟩
    rw [split1, ← ih]
    simp only [alL]
    split
    · rename_i h
      simp [h]
    · rename_i h
      have : ¬ clsO E own o = .al := h
      simp [this]

theorem stL_mem : ∀ (r : List Oper) (k i : Nat), i ∈ stL E own r k ↔ ∃ o, k ≤ i ∧ r[i - k]? = some o ∧ clsO E own o = .st
  | [], k, i => by simp [stL]
  | o :: r, k, i => by
    have ih := stL_mem r (k + 1) i
    have split1 : (∃ o', k ≤ i ∧ (o :: r)[i - k]? = some o' ∧ clsO E own o' = .st) ↔ (i = k ∧ clsO E own o = .st) ∨ ∃ o', k + 1 ≤ i ∧ r[i - (k + 1)]? = some o' ∧ clsO E own o' = .st := by
      constructor
      · rintro ⟨o', h1, h2, h3⟩
        by_cases e : i = k
        · subst e
          simp at h2
          subst h2
          exact .inl ⟨rfl, h3⟩
        · have : i - k = (i - (k + 1)) + 1 := by omega
          rw [this, List.getElem?_cons_succ] at h2
          exact .inr ⟨o', by omega, h2, h3⟩
      · rintro (⟨rfl, h⟩ | ⟨o', h1, h2, h3⟩)
        · exact ⟨o, Nat.le_refl _, by simp, h⟩
        · have : i - k = (i - (k + 1)) + 1 := by omega
          exact ⟨o', by omega, by rw [this, List.getElem?_cons_succ]; exact h2, h3⟩
    rw [split1, ← ih]
    simp only [stL]
    split
    · rename_i h
      simp [h]
    · rename_i h
      have : ¬ clsO E own o = .st := h
      simp [this]

theorem clsI_al {k : Nat} : clsI E own ops k = .al ↔ k ∈ alL E own ops.toList 0 := by
  rw [alL_mem]
  simp only [clsI, nth_eq, Nat.zero_le, true_and, Nat.sub_zero]
  cases h : ops.toList[k]? with
  | none => simp
  | some o => simp

theorem clsI_st {k : Nat} : clsI E own ops k = .st ↔ k ∈ stL E own ops.toList 0 := by
  rw [stL_mem]
  simp only [clsI, nth_eq, Nat.zero_le, true_and, Nat.sub_zero]
  cases h : ops.toList[k]? with
  | none => simp
  | some o => simp

theorem freeL_ok {ms : List Nat} {y : Oper} {i : Nat} : ∀ (r : List Oper) (k : Nat), r = ops.toList.drop k → freeL E own ops ms y i r k = true → ∀ l x, k ≤ l → l < i → ops[l]? = some x → freeB ops ms x y (clsO E own x) (clsO E own y) l i = true
  | [], k, hr, _, l, x, hk, _, hx => by
    have h1 : ops.size ≤ k := by
      rcases Nat.lt_or_ge k ops.size with h | h
      · have := congrArg List.length hr; simp at this; omega
      · exact h
    have h2 : ops[l]? = none := Array.getElem?_eq_none (by omega)
    rw [h2] at hx; cases hx
  | o' :: r, k, hr, h, l, x, hk, hl, hx => by
    simp only [freeL] at h
    split at h
    · rename_i hlt
      simp only [Bool.and_eq_true] at h
      by_cases e : l = k
      · subst e
        have ho' : ops[l]? = some o' := by
          have := congrArg List.head? hr
          simp [List.head?_drop] at this
          exact this.symm
        rw [hx] at ho'
        cases ho'
        exact h.1
      · exact freeL_ok r (k + 1) (by have := congrArg List.tail hr; simpa using this) h.2 l x (by omega) hl hx
    · rename_i hlt
      have : ¬ k < i := fun hki => by
        have : Nat.blt k i = true := Nat.ble_eq_true_of_le hki
        rw [this] at hlt; cases hlt
      omega

theorem freeA_ok {ms : List Nat} : ∀ (r : List Oper) (k : Nat), r = ops.toList.drop k → freeA E own ops ms r k = true → ∀ i y, k ≤ i → ops[i]? = some y → ∀ l x, l < i → ops[l]? = some x → freeB ops ms x y (clsO E own x) (clsO E own y) l i = true
  | [], k, hr, _, i, y, hk, hy => by
    have h1 : ops.size ≤ k := by
      rcases Nat.lt_or_ge k ops.size with h | h
      · have := congrArg List.length hr; simp at this; omega
      · exact h
    have h2 : ops[i]? = none := Array.getElem?_eq_none (by omega)
    rw [h2] at hy; cases hy
  | o' :: r, k, hr, h, i, y, hk, hy => by
    simp only [freeA, Bool.and_eq_true] at h
    by_cases e : i = k
    · subst e
      have ho' : ops[i]? = some o' := by
        have := congrArg List.head? hr
        simp [List.head?_drop] at this
        exact this.symm
      rw [hy] at ho'
      cases ho'
      exact fun l x hl hx => freeL_ok ops.toList 0 (by simp) h.1 l x (Nat.zero_le _) hl hx
    · exact freeA_ok r (k + 1) (by have := congrArg List.tail hr; simpa using this) h.2 i y (by omega) hy

theorem sched_ok {n0 r0 : Nat} {tg : Nat → Nat} (hr0 : r0 ≤ n0) (hb : backA ops.toList 0 = true) (hf : freeA E own ops (masks ops.toList []) ops.toList 0 = true) (htg : ∀ k ∈ stL E own ops.toList 0, r0 ≤ tg k) (hld : ∀ k, clsI E own ops k = .ld → tg k ≤ n0 + roomL E own ops) :
    Sched ops r0 n0 (roomL E own ops) (clsI E own ops) tg (mskS n0 (masks ops.toList []) (alL E own ops.toList 0) (stL E own ops.toList 0) tg) where
  back l i h := backA_ok ops.toList 0 (by simp) hb l i (Nat.zero_le _) h
  free l i hl hi hn := by
    have hy : ops[i]? = some ops[i] := Array.getElem?_eq_getElem hi
    have hx : ops[l]? = some ops[l] := Array.getElem?_eq_getElem (by omega)
    have h := freeA_ok ops.toList 0 (by simp) hf i _ (Nat.zero_le _) hy l _ hl hx
    have hbl : bef (masks ops.toList []) l i = false := by
      cases hc : bef (masks ops.toList []) l i with
      | false => rfl
      | true => exact (hn (bef_ok hc)).elim
    have ci : clsI E own ops i = clsO E own ops[i] := by simp [clsI, nth_eq, hi]
    have cl : clsI E own ops l = clsO E own ops[l] := by
      have : l < ops.size := by omega
      simp [clsI, nth_eq, this]
    simp only [freeB, hbl, Bool.false_or, Bool.and_eq_true] at h
    have hbi : bef (masks ops.toList []) i l = false := by simpa using h.2.2
    have b1 : Nat.beq l i = false := by
      cases e : Nat.beq l i with
      | false => rfl
      | true => have := Nat.eq_of_beq_eq_true e; omega
    have b2 : Nat.beq i l = false := by
      cases e : Nat.beq i l with
      | false => rfl
      | true => have := Nat.eq_of_beq_eq_true e; omega
    refine ⟨by omega, by rw [ci, cl]; exact h.1, fun hc => ?_, fun hc => ?_, fun hc => ?_, fun hc => ?_, fun x y hx' hy' => ?_⟩
    · exact List.mem_append_left _ (List.mem_map.2 ⟨i, List.mem_filter.2 ⟨clsI_al.1 hc, by rw [hbi]; rfl⟩, rfl⟩)
    · exact List.mem_append_left _ (List.mem_map.2 ⟨l, List.mem_filter.2 ⟨clsI_al.1 hc, by rw [hbl]; rfl⟩, rfl⟩)
    · exact List.mem_append_right _ (List.mem_map.2 ⟨l, List.mem_filter.2 ⟨clsI_st.1 hc, by rw [b1, hbl, hbi]; rfl⟩, rfl⟩)
    · exact List.mem_append_right _ (List.mem_map.2 ⟨i, List.mem_filter.2 ⟨clsI_st.1 hc, by rw [b2, hbi, hbl]; rfl⟩, rfl⟩)
    · rw [hx] at hx'; cases hx'
      rw [hy] at hy'; cases hy'
      exact h.2.1
  al k h := by
    have hal := clsI_al.1 h
    have hk : k < ops.size := by
      obtain ⟨o, _, h2, _⟩ := (alL_mem _ _ _).1 hal
      have := get_lt h2
      simpa using this
    unfold roomL
    split
    · rename_i e; rw [e] at hal; cases hal
    · exact hk
  ld := hld
  msk i k h := by
    rcases List.mem_append.1 h with h | h
    · obtain ⟨x, _, rfl⟩ := List.mem_map.1 h
      omega
    · obtain ⟨x, hx, rfl⟩ := List.mem_map.1 h
      exact htg x (List.mem_filter.1 hx).1

end
end Go.Vm
