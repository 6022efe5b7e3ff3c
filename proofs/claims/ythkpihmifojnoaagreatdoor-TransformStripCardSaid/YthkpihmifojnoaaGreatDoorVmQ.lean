/-
  Regions that draw their order: two heaps that differ in slots, and the steps that commute.
-/
import Derived.Test.YthkpihmifojnoaaGreatDoorVmP
namespace Go.Vm

/-! ### slots made dead, and brought back -/
def deadL : List Nat → List Box → List Box
  | [], b => b
  | k :: r, b => deadL r (b.set k .dead)
def maskH (l : List Nat) (H : Heap) : Heap := { H with bx := deadL l H.bx }
noncomputable def backL (o : List Box) : List Nat → List Box → List Box
  | [], b => b
  | k :: r, b => backL o r (match nth o k with | some x => b.set k x | none => b)
noncomputable def mergeH (l : List Nat) (H M : Heap) : Heap := { M with bx := backL H.bx l M.bx }

theorem deadL_len (l : List Nat) (b : List Box) : (deadL l b).length = b.length := by
  induction l generalizing b with
  | nil => rfl
  | cons k r ih => simp [deadL, ih]
theorem backL_len (o : List Box) (l : List Nat) (b : List Box) : (backL o l b).length = b.length := by
  induction l generalizing b with
  | nil => rfl
  | cons k r ih => simp only [backL]; rw [ih]; split <;> simp

theorem deadL_get (l : List Nat) (b : List Box) (i : Nat) : (deadL l b)[i]? = if i ∈ l ∧ i < b.length then some .dead else b[i]? := by
  induction l generalizing b with
  | nil => simp [deadL]
  | cons k r ih =>
    simp only [deadL, ih, List.length_set, List.mem_cons]
    by_cases h1 : i ∈ r ∧ i < b.length
    · rw [if_pos h1, if_pos ⟨.inr h1.1, h1.2⟩]
    · rw [if_neg h1, List.getElem?_set]
      by_cases h2 : k = i
      · subst h2
        by_cases h3 : k < b.length
        · simp [h3]
        · simp [h3]
      · rw [if_neg h2]
        have : ¬ ((i = k ∨ i ∈ r) ∧ i < b.length) := fun h => by
          rcases h.1 with e | e
          · exact h2 e.symm
          · exact h1 ⟨e, h.2⟩
        rw [if_neg this]

theorem backL_get (o : List Box) (l : List Nat) (b : List Box) (hl : o.length ≤ b.length) (i : Nat) : (backL o l b)[i]? = if i ∈ l ∧ i < o.length then o[i]? else b[i]? := by
  induction l generalizing b with
  | nil => simp [backL]
  | cons k r ih =>
    simp only [backL, nth_eq]
    rw [ih _ (by split <;> simp [hl])]
    by_cases h1 : i ∈ r ∧ i < o.length
    · rw [if_pos h1, if_pos ⟨List.mem_cons_of_mem _ h1.1, h1.2⟩]
    · rw [if_neg h1]
      by_cases h2 : i = k
      · subst h2
        by_cases h3 : i < o.length
        · have e : o[i]? = some o[i] := List.getElem?_eq_getElem h3
          rw [if_pos ⟨List.mem_cons_self, h3⟩, e]
          simp only
          rw [List.getElem?_set_self (by omega)]
        · have e : o[i]? = none := List.getElem?_eq_none (Nat.le_of_not_lt h3)
          rw [if_neg (fun h => h3 h.2), e]
      · have : ¬ (i ∈ k :: r ∧ i < o.length) := fun h => by
          rcases List.mem_cons.1 h.1 with e | e
          · exact h2 e
          · exact h1 ⟨e, h.2⟩
        rw [if_neg this]
        split
        · rw [List.getElem?_set_ne (Ne.symm h2)]
        · rfl

theorem Heap.ext' {H K : Heap} (h1 : H.bx = K.bx) (h2 : H.ro = K.ro) (h3 : H.live = K.live) (h4 : H.nt = K.nt) : H = K := by
  cases H; cases K; simp_all

def setB (H : Heap) (k : Nat) (b : Box) : Heap := { H with bx := H.bx.set k b }

theorem maskH_setB {l : List Nat} {H : Heap} {k : Nat} {b : Box} (h : k ∈ l) : maskH l (setB H k b) = maskH l H := by
  refine Heap.ext' (List.ext_getElem? fun i => ?_) rfl rfl rfl
  simp only [maskH, setB, deadL_get, List.length_set]
  by_cases e : i = k
  · subst e
    by_cases h2 : i < H.bx.length
    · rw [if_pos ⟨h, h2⟩, if_pos ⟨h, h2⟩]
    · rw [if_neg (fun h => h2 h.2), if_neg (fun h => h2 h.2)]
      simp [h2]
  · rw [List.getElem?_set_ne (Ne.symm e)]

theorem mergeH_setB {l : List Nat} {H M : Heap} {k : Nat} {b : Box} (h : k ∈ l) (hk : k < H.bx.length) (hl : H.bx.length ≤ M.bx.length) : mergeH l (setB H k b) M = setB (mergeH l H M) k b := by
  refine Heap.ext' (List.ext_getElem? fun i => ?_) rfl rfl rfl
  show (backL (H.bx.set k b) l M.bx)[i]? = ((backL H.bx l M.bx).set k b)[i]?
  rw [backL_get _ _ _ (by simpa using hl)]
  by_cases e : i = k
  · subst e
    rw [if_pos ⟨h, by simpa using hk⟩, List.getElem?_set_self hk, List.getElem?_set_self (by rw [backL_len]; omega)]
  · rw [List.getElem?_set_ne (Ne.symm e), List.getElem?_set_ne (Ne.symm e), backL_get _ _ _ hl, List.length_set]

/-! ### the kinds of operations -/
inductive Cls where
  | sc
  | qu
  | al
  | ef
  | st
  | ld
  | tk
  deriving DecidableEq

/-- With the boxes that a call has made, and its tokens. -/
def growH (H M : Heap) : Heap := { bx := H.bx ++ M.bx.drop H.bx.length, ro := H.ro, live := M.live, nt := M.nt }

theorem growH_take {l : List Nat} {H M : Heap} {N : Nat} (h : N ≤ H.bx.length) : (maskH l (growH H M)).bx.take N = (maskH l H).bx.take N := by
  refine List.ext_getElem? fun i => ?_
  rw [List.getElem?_take, List.getElem?_take]
  split
  · rename_i hi
    have h1 : i < H.bx.length := by omega
    simp only [maskH, deadL_get, growH, List.length_append]
    rw [List.getElem?_append_left h1]
    by_cases e : i ∈ l
    · rw [if_pos ⟨e, by omega⟩, if_pos ⟨e, h1⟩]
    · rw [if_neg (fun h => e h.1), if_neg (fun h => e h.1)]
  · rfl

section
variable (E : Env) (P : Program) (own : Tmp → Bool) (ops : Array Oper) (n0 : Nat) (cls : Nat → Cls) (tgt : Nat → Nat) (msk : Nat → List Nat)

/-- What the i-th operation gives, and what it makes of the heap. -/
inductive Hp (i : Nat) (o : Oper) (tm : TM) : Heap → PV → Heap → Prop
  | pass (H : Heap) (hw : wantedA ops.toList tm o = some false) : Hp i o tm H unset H
  | sc (H : Heap) (p : PV) (hw : wantedA ops.toList tm o = some true) (h : ∀ M, OpTo E P own tm o M p M) : Hp i o tm H p H
  | qu (H : Heap) (p : PV) (hw : wantedA ops.toList tm o = some true) (hc : cls i = .qu) (h : OpTo E P own tm o (maskH (msk i) H) p (maskH (msk i) H)) : Hp i o tm H p H
  | al (H : Heap) (e : TypeId) (ei : TI) (hw : wantedA ops.toList tm o = some true) (hc : cls i = .al) (ho : o.op = .alloc e) (he : E.T e = some ei) (hz : ei.zero.cells.length = ei.size) (hp : 0 < ei.size)
      (hd : H.bx[n0 + i]? = some .dead) : Hp i o tm H (.ptr (n0 + i) ei.size 0 0) (setB H (n0 + i) (.cells ei.size [ei.zero.cells]))
  | bo (H : Heap) (e : TypeId) (x : Operand) (hw : wantedA ops.toList tm o = some true) (hc : cls i = .al) (ho : o.op = .box e x) (hp : 0 < (evalO E tm x).cells.length)
      (hd : H.bx[n0 + i]? = some .dead) : Hp i o tm H (.ptr (n0 + i) (evalO E tm x).cells.length 0 0) (setB H (n0 + i) (.cells (evalO E tm x).cells.length [(evalO E tm x).cells]))
  | ef (H : Heap) (p : PV) (M : Heap) (hw : wantedA ops.toList tm o = some true) (hc : cls i = .ef) (h : OpTo E P own tm o (maskH (msk i) H) p M) (hl : H.bx.length ≤ M.bx.length) : Hp i o tm H p (mergeH (msk i) H M)
  | st (H : Heap) (p : PV) (b : Box) (hw : wantedA ops.toList tm o = some true) (hc : cls i = .st) (h : OpTo E P own tm o (maskH (msk i) H) p (setB (maskH (msk i) H) (tgt i) b)) (hs : tgt i ∉ msk i) : Hp i o tm H p (setB H (tgt i) b)
  | ld (H : Heap) (p : PV) (hw : wantedA ops.toList tm o = some true) (hc : cls i = .ld) (h : ∀ K : Heap, K.bx.take (tgt i) = (maskH (msk i) H).bx.take (tgt i) → OpTo E P own tm o K p K) : Hp i o tm H p H
  | tk (H : Heap) (p : PV) (M : Heap) (hw : wantedA ops.toList tm o = some true) (hc : cls i = .tk) (h : OpTo E P own tm o { maskH (msk i) H with ro := H.bx.length } p M) (hl : H.bx.length ≤ M.bx.length) : Hp i o tm H p (growH H M)

variable {E P own ops n0 cls tgt msk}

theorem Hp.len {i : Nat} {o : Oper} {tm : TM} {H H' : Heap} {p : PV} (h : Hp E P own ops n0 cls tgt msk i o tm H p H') : H.bx.length ≤ H'.bx.length := by
  cases h <;> simp [setB, mergeH, growH, backL_len] <;> try assumption

theorem Hp.set {i : Nat} {o : Oper} {tm : TM} {d : Option Tmp} {v : PV} {H H' : Heap} {p : PV} (hd : ∀ t, d = some t → t ∉ o.looksAt ops) (h : Hp E P own ops n0 cls tgt msk i o tm H p H') :
    Hp E P own ops n0 cls tgt msk i o (setD tm d v) H p H' := by
  cases h with
  | pass hw => exact .pass _ (by rw [wantedA_set hd]; exact hw)
  | sc _ hw h => exact .sc _ _ (by rw [wantedA_set hd]; exact hw) fun M => (h M).set hd
  | qu _ hw hc h => exact .qu _ _ (by rw [wantedA_set hd]; exact hw) hc (h.set hd)
  | al e ei hw hc ho he hz hp hdd => exact .al _ e ei (by rw [wantedA_set hd]; exact hw) hc ho he hz hp hdd
  | bo e x hw hc ho hp hdd =>
    have hx : evalO E (setD tm d v) x = evalO E tm x := evalO_set fun t ht e' => hd t ht (operands_looks (by rw [ho, ← e']; simp [Op.operands]))
    have := Hp.bo (E := E) (P := P) (own := own) (ops := ops) (n0 := n0) (cls := cls) (tgt := tgt) (msk := msk) (tm := setD tm d v) (i := i) H e x (by rw [wantedA_set hd]; exact hw) hc ho (by rw [hx]; exact hp) hdd
    rwa [hx] at this
  | ef _ M hw hc h hl => exact .ef _ _ M (by rw [wantedA_set hd]; exact hw) hc (h.set hd) hl
  | st _ b hw hc h hs => exact .st _ _ b (by rw [wantedA_set hd]; exact hw) hc (h.set hd) hs
  | ld _ hw hc h => exact .ld _ _ (by rw [wantedA_set hd]; exact hw) hc fun K e => (h K e).set hd
  | tk _ M hw hc h hl => exact .tk _ _ M (by rw [wantedA_set hd]; exact hw) hc (h.set hd) hl

theorem Hp.reset {i : Nat} {o : Oper} {tm : TM} {d : Option Tmp} {v : PV} {H H' : Heap} {p : PV} (hd : ∀ t, d = some t → t ∉ o.looksAt ops) (h : Hp E P own ops n0 cls tgt msk i o (setD tm d v) H p H') :
    Hp E P own ops n0 cls tgt msk i o tm H p H' := by
  have hw' := wantedA_set (tm := tm) (v := v) hd
  cases h with
  | pass hw => exact .pass _ (by rw [← hw']; exact hw)
  | sc _ hw h => exact .sc _ _ (by rw [← hw']; exact hw) fun M => (h M).unset hd
  | qu _ hw hc h => exact .qu _ _ (by rw [← hw']; exact hw) hc (h.unset hd)
  | al e ei hw hc ho he hz hp hdd => exact .al _ e ei (by rw [← hw']; exact hw) hc ho he hz hp hdd
  | bo e x hw hc ho hp hdd =>
    have hx : evalO E (setD tm d v) x = evalO E tm x := evalO_set fun t ht e' => hd t ht (operands_looks (by rw [ho, ← e']; simp [Op.operands]))
    rw [hx] at hp ⊢
    exact .bo _ e x (by rw [← hw']; exact hw) hc ho hp hdd
  | ef _ M hw hc h hl => exact .ef _ _ M (by rw [← hw']; exact hw) hc (h.unset hd) hl
  | st _ b hw hc h hs => exact .st _ _ b (by rw [← hw']; exact hw) hc (h.unset hd) hs
  | ld _ hw hc h => exact .ld _ _ (by rw [← hw']; exact hw) hc fun K e => (h K e).unset hd
  | tk _ M hw hc h hl => exact .tk _ _ M (by rw [← hw']; exact hw) hc (h.unset hd) hl

/-- May two operations that are not ordered change places? -/
def perm (a b : Cls) : Bool := match a, b with
  | .qu, .ef => false
  | .ef, .qu => false
  | .ef, .ef => false
  | .ef, .st => false
  | .st, .ef => false
  | .ef, .ld => false
  | .ld, .ef => false
  | .ef, .tk => false
  | .tk, .ef => false
  | .tk, .tk => false
  | .tk, .qu => false
  | .qu, .tk => false
  | .tk, .st => false
  | .st, .tk => false
  | .tk, .al => false
  | .al, .tk => false
  | _, _ => true

theorem Hp.swap {i j : Nat} {oi oj : Oper} {tm : TM} {H H1 H2 : Heap} {p q : PV} (hi : Hp E P own ops n0 cls tgt msk i oi tm H p H1) (hj : Hp E P own ops n0 cls tgt msk j oj tm H1 q H2)
    (hne : i ≠ j) (hpm : perm (cls i) (cls j) = true) (hmi : cls j = .al → n0 + j ∈ msk i) (hmj : cls i = .al → n0 + i ∈ msk j) (hlj : cls j = .al → n0 + j < H.bx.length)
    (hti : cls i = .st → tgt i ∈ msk j) (htj : cls j = .st → tgt j ∈ msk i)
    (hli : cls i = .ld → tgt i ≤ H.bx.length) (hlj' : cls j = .ld → tgt j ≤ H.bx.length) :
    ∃ H1', Hp E P own ops n0 cls tgt msk j oj tm H q H1' ∧ Hp E P own ops n0 cls tgt msk i oi tm H1' p H2 := by
  have hsl : n0 + i ≠ n0 + j := by omega
  have hset : ∀ (K : Heap) (b c : Box), setB (setB K (n0 + i) b) (n0 + j) c = setB (setB K (n0 + j) c) (n0 + i) b := fun K b c => by
    simp only [setB, Heap.mk.injEq, and_self, and_true]
    exact List.set_comm _ _ hsl
  have hget : ∀ (K : Heap) (b : Box), (setB K (n0 + i) b).bx[n0 + j]? = K.bx[n0 + j]? := fun K b => by simp [setB, List.getElem?_set_ne hsl]
  have hget' : ∀ (K : Heap) (b : Box), (setB K (n0 + j) b).bx[n0 + i]? = K.bx[n0 + i]? := fun K b => by simp [setB, List.getElem?_set_ne (Ne.symm hsl)]
  -- the first one leaves the heap as it was, whatever the heap
  have free : H1 = H → (∀ K, Hp E P own ops n0 cls tgt msk i oi tm K p K) → ∃ H1', Hp E P own ops n0 cls tgt msk j oj tm H q H1' ∧ Hp E P own ops n0 cls tgt msk i oi tm H1' p H2 := fun e f => by
    subst e; exact ⟨H2, hj, f H2⟩
  cases hi with
  | pass hw => exact free rfl fun K => .pass K hw
  | sc _ hw h => exact free rfl fun K => .sc K p hw h
  | qu _ hw hc h =>
    cases hj with
    | pass hw' => exact ⟨H, .pass _ hw', .qu _ _ hw hc h⟩
    | sc _ hw' h' => exact ⟨H, .sc _ _ hw' h', .qu _ _ hw hc h⟩
    | qu _ hw' hc' h' => exact ⟨H, .qu _ _ hw' hc' h', .qu _ _ hw hc h⟩
    | al e ei hw' hc' ho he hz hp hd => exact ⟨_, .al _ e ei hw' hc' ho he hz hp hd, .qu _ _ hw hc (by rw [maskH_setB (hmi hc')]; exact h)⟩
    | bo e x hw' hc' ho hp hd => exact ⟨_, .bo _ e x hw' hc' ho hp hd, .qu _ _ hw hc (by rw [maskH_setB (hmi hc')]; exact h)⟩
    | ef _ M hw' hc' h' hl => rw [hc, hc'] at hpm; cases hpm
    | st _ b hw' hc' h' hs => exact ⟨_, .st _ _ b hw' hc' h' hs, .qu _ _ hw hc (by rw [maskH_setB (htj hc')]; exact h)⟩
    | ld _ hw' hc' h' => exact ⟨H, .ld _ _ hw' hc' h', .qu _ _ hw hc h⟩
    | tk _ M hw' hc' h' hl => rw [hc, hc'] at hpm; cases hpm
  | al e ei hw hc ho he hz hp hd =>
    cases hj with
    | pass hw' => exact ⟨H, .pass _ hw', .al _ e ei hw hc ho he hz hp hd⟩
    | sc _ hw' h' => exact ⟨H, .sc _ _ hw' h', .al _ e ei hw hc ho he hz hp hd⟩
    | qu _ hw' hc' h' => exact ⟨H, .qu _ _ hw' hc' (by rw [maskH_setB (hmj hc)] at h'; exact h'), .al _ e ei hw hc ho he hz hp hd⟩
    | al e' ei' hw' hc' ho' he' hz' hp' hd' =>
      rw [hget] at hd'
      rw [hset]
      exact ⟨_, .al _ e' ei' hw' hc' ho' he' hz' hp' hd', .al _ e ei hw hc ho he hz hp (by rw [hget']; exact hd)⟩
    | bo e' x' hw' hc' ho' hp' hd' =>
      rw [hget] at hd'
      rw [hset]
      exact ⟨_, .bo _ e' x' hw' hc' ho' hp' hd', .al _ e ei hw hc ho he hz hp (by rw [hget']; exact hd)⟩
    | ef _ M hw' hc' h' hl =>
      have hk := get_lt hd
      have hl' : H.bx.length ≤ M.bx.length := by simpa [setB] using hl
      rw [maskH_setB (hmj hc)] at h'
      rw [mergeH_setB (hmj hc) hk hl']
      exact ⟨_, .ef _ _ M hw' hc' h' hl', .al _ e ei hw hc ho he hz hp (by
        simp only [mergeH]; rw [backL_get _ _ _ hl', if_pos ⟨hmj hc, hk⟩]; exact hd)⟩
    | st _ b hw' hc' h' hs =>
      have hne' : n0 + i ≠ tgt j := fun e => hs (e ▸ hmj hc)
      rw [maskH_setB (hmj hc)] at h'
      have hcm : ∀ (K : Heap) (x y : Box), setB (setB K (n0 + i) x) (tgt j) y = setB (setB K (tgt j) y) (n0 + i) x := fun K x y => by
        simp only [setB, Heap.mk.injEq, and_self, and_true]
        exact List.set_comm _ _ hne'
      rw [hcm]
      exact ⟨_, .st _ _ b hw' hc' h' hs, .al _ e ei hw hc ho he hz hp (by simpa [setB, List.getElem?_set_ne (Ne.symm hne')] using hd)⟩
    | ld _ hw' hc' h' => exact ⟨H, .ld _ _ hw' hc' (by rw [maskH_setB (hmj hc)] at h'; exact h'), .al _ e ei hw hc ho he hz hp hd⟩
    | tk _ M hw' hc' h' hl => rw [hc, hc'] at hpm; cases hpm
  | bo e x hw hc ho hp hd =>
    cases hj with
    | pass hw' => exact ⟨H, .pass _ hw', .bo _ e x hw hc ho hp hd⟩
    | sc _ hw' h' => exact ⟨H, .sc _ _ hw' h', .bo _ e x hw hc ho hp hd⟩
    | qu _ hw' hc' h' => exact ⟨H, .qu _ _ hw' hc' (by rw [maskH_setB (hmj hc)] at h'; exact h'), .bo _ e x hw hc ho hp hd⟩
    | al e' ei' hw' hc' ho' he' hz' hp' hd' =>
      rw [hget] at hd'
      rw [hset]
      exact ⟨_, .al _ e' ei' hw' hc' ho' he' hz' hp' hd', .bo _ e x hw hc ho hp (by rw [hget']; exact hd)⟩
    | bo e' x' hw' hc' ho' hp' hd' =>
      rw [hget] at hd'
      rw [hset]
      exact ⟨_, .bo _ e' x' hw' hc' ho' hp' hd', .bo _ e x hw hc ho hp (by rw [hget']; exact hd)⟩
    | ef _ M hw' hc' h' hl =>
      have hk := get_lt hd
      have hl' : H.bx.length ≤ M.bx.length := by simpa [setB] using hl
      rw [maskH_setB (hmj hc)] at h'
      rw [mergeH_setB (hmj hc) hk hl']
      exact ⟨_, .ef _ _ M hw' hc' h' hl', .bo _ e x hw hc ho hp (by
        simp only [mergeH]; rw [backL_get _ _ _ hl', if_pos ⟨hmj hc, hk⟩]; exact hd)⟩
    | st _ b hw' hc' h' hs =>
      have hne' : n0 + i ≠ tgt j := fun e => hs (e ▸ hmj hc)
      rw [maskH_setB (hmj hc)] at h'
      have hcm : ∀ (K : Heap) (x y : Box), setB (setB K (n0 + i) x) (tgt j) y = setB (setB K (tgt j) y) (n0 + i) x := fun K x y => by
        simp only [setB, Heap.mk.injEq, and_self, and_true]
        exact List.set_comm _ _ hne'
      rw [hcm]
      exact ⟨_, .st _ _ b hw' hc' h' hs, .bo _ e x hw hc ho hp (by simpa [setB, List.getElem?_set_ne (Ne.symm hne')] using hd)⟩
    | ld _ hw' hc' h' => exact ⟨H, .ld _ _ hw' hc' (by rw [maskH_setB (hmj hc)] at h'; exact h'), .bo _ e x hw hc ho hp hd⟩
    | tk _ M hw' hc' h' hl => rw [hc, hc'] at hpm; cases hpm
  | ef _ M hw hc h hl =>
    have hde : ∀ {hk : cls j = .al}, (mergeH (msk i) H M).bx[n0 + j]? = some .dead → n0 + j < H.bx.length → H.bx[n0 + j]? = some .dead := fun {hk} hd hlt => by
      simp only [mergeH] at hd
      rw [backL_get _ _ _ hl, if_pos ⟨hmi hk, hlt⟩] at hd
      exact hd
    cases hj with
    | pass hw' => exact ⟨H, .pass _ hw', .ef _ _ M hw hc h hl⟩
    | sc _ hw' h' => exact ⟨H, .sc _ _ hw' h', .ef _ _ M hw hc h hl⟩
    | qu _ hw' hc' h' => rw [hc, hc'] at hpm; cases hpm
    | al e' ei' hw' hc' ho' he' hz' hp' hd' =>
      have hlt := hlj hc'
      exact ⟨_, .al _ e' ei' hw' hc' ho' he' hz' hp' (hde (hk := hc') hd' hlt), by
        rw [← mergeH_setB (hmi hc') hlt hl]
        exact .ef _ _ M hw hc (by rw [maskH_setB (hmi hc')]; exact h) (by simpa [setB] using hl)⟩
    | bo e' x' hw' hc' ho' hp' hd' =>
      have hlt := hlj hc'
      exact ⟨_, .bo _ e' x' hw' hc' ho' hp' (hde (hk := hc') hd' hlt), by
        rw [← mergeH_setB (hmi hc') hlt hl]
        exact .ef _ _ M hw hc (by rw [maskH_setB (hmi hc')]; exact h) (by simpa [setB] using hl)⟩
    | ef _ M' hw' hc' h' hl' => rw [hc, hc'] at hpm; cases hpm
    | st _ b hw' hc' h' hs => rw [hc, hc'] at hpm; cases hpm
    | ld _ hw' hc' h' => rw [hc, hc'] at hpm; cases hpm
    | tk _ M' hw' hc' h' hl' => rw [hc, hc'] at hpm; cases hpm
  | st _ b hw hc h hs =>
    have hcm : ∀ (K : Heap) (k : Nat) (x y : Box), tgt i ≠ k → setB (setB K (tgt i) x) k y = setB (setB K k y) (tgt i) x := fun K k x y hk => by
      simp only [setB, Heap.mk.injEq, and_self, and_true]
      exact List.set_comm _ _ hk
    cases hj with
    | pass hw' => exact ⟨H, .pass _ hw', .st _ _ b hw hc h hs⟩
    | sc _ hw' h' => exact ⟨H, .sc _ _ hw' h', .st _ _ b hw hc h hs⟩
    | qu _ hw' hc' h' => exact ⟨H, .qu _ _ hw' hc' (by rw [maskH_setB (hti hc)] at h'; exact h'), .st _ _ b hw hc h hs⟩
    | al e' ei' hw' hc' ho' he' hz' hp' hd' =>
      have hne' : tgt i ≠ n0 + j := fun e => hs (e ▸ hmi hc')
      rw [hcm _ _ _ _ hne']
      exact ⟨_, .al _ e' ei' hw' hc' ho' he' hz' hp' (by simpa [setB, List.getElem?_set_ne hne'] using hd'), .st _ _ b hw hc (by rw [maskH_setB (hmi hc')]; exact h) hs⟩
    | bo e' x' hw' hc' ho' hp' hd' =>
      have hne' : tgt i ≠ n0 + j := fun e => hs (e ▸ hmi hc')
      rw [hcm _ _ _ _ hne']
      exact ⟨_, .bo _ e' x' hw' hc' ho' hp' (by simpa [setB, List.getElem?_set_ne hne'] using hd'), .st _ _ b hw hc (by rw [maskH_setB (hmi hc')]; exact h) hs⟩
    | ef _ M' hw' hc' h' hl' => rw [hc, hc'] at hpm; cases hpm
    | st _ b' hw' hc' h' hs' =>
      have hne' : tgt i ≠ tgt j := fun e => hs' (e ▸ hti hc)
      rw [maskH_setB (hti hc)] at h'
      rw [hcm _ _ _ _ hne']
      exact ⟨_, .st _ _ b' hw' hc' h' hs', .st _ _ b hw hc (by rw [maskH_setB (htj hc')]; exact h) hs⟩
    | ld _ hw' hc' h' => exact ⟨H, .ld _ _ hw' hc' (by rw [maskH_setB (hti hc)] at h'; exact h'), .st _ _ b hw hc h hs⟩
    | tk _ M hw' hc' h' hl => rw [hc, hc'] at hpm; cases hpm
  | ld _ hw hc h =>
    cases hj with
    | pass hw' => exact ⟨H, .pass _ hw', .ld _ _ hw hc h⟩
    | sc _ hw' h' => exact ⟨H, .sc _ _ hw' h', .ld _ _ hw hc h⟩
    | qu _ hw' hc' h' => exact ⟨H, .qu _ _ hw' hc' h', .ld _ _ hw hc h⟩
    | al e ei hw' hc' ho he hz hp hd => exact ⟨_, .al _ e ei hw' hc' ho he hz hp hd, .ld _ _ hw hc (by rw [maskH_setB (hmi hc')]; exact h)⟩
    | bo e x hw' hc' ho hp hd => exact ⟨_, .bo _ e x hw' hc' ho hp hd, .ld _ _ hw hc (by rw [maskH_setB (hmi hc')]; exact h)⟩
    | ef _ M hw' hc' h' hl => rw [hc, hc'] at hpm; cases hpm
    | st _ b hw' hc' h' hs => exact ⟨_, .st _ _ b hw' hc' h' hs, .ld _ _ hw hc (by rw [maskH_setB (htj hc')]; exact h)⟩
    | ld _ hw' hc' h' => exact ⟨H, .ld _ _ hw' hc' h', .ld _ _ hw hc h⟩
    | tk _ M hw' hc' h' hl => exact ⟨_, .tk _ _ M hw' hc' h' hl, .ld _ _ hw hc (by rw [growH_take (hli hc)]; exact h)⟩
  | tk _ M hw hc h hl =>
    cases hj with
    | pass hw' => exact ⟨H, .pass _ hw', .tk _ _ M hw hc h hl⟩
    | sc _ hw' h' => exact ⟨H, .sc _ _ hw' h', .tk _ _ M hw hc h hl⟩
    | qu _ hw' hc' h' => rw [hc, hc'] at hpm; cases hpm
    | al e ei hw' hc' ho he hz hp hd => rw [hc, hc'] at hpm; cases hpm
    | bo e x hw' hc' ho hp hd => rw [hc, hc'] at hpm; cases hpm
    | ef _ M' hw' hc' h' hl' => rw [hc, hc'] at hpm; cases hpm
    | st _ b hw' hc' h' hs => rw [hc, hc'] at hpm; cases hpm
    | ld _ hw' hc' h' => exact ⟨H, .ld _ _ hw' hc' (by rw [growH_take (hlj' hc')] at h'; exact h'), .tk _ _ M hw hc h hl⟩
    | tk _ M' hw' hc' h' hl' => rw [hc, hc'] at hpm; cases hpm

end
end Go.Vm
