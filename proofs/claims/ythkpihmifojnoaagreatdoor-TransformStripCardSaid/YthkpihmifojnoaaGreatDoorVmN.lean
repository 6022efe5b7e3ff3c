/-
  Code, region after region, and calls.
-/
import Derived.Test.YthkpihmifojnoaaGreatDoorVmM
namespace Go.Vm

inductive Ex where
  | normal
  | exit (n : Nat)
  | ret

/-- The operations of a region, in the order of the text. -/
inductive RegTo (E : Env) (P : Program) (own : Tmp → Bool) (n : Nat) (all : List Oper) : List Oper → TM → Heap → TM → Heap → Prop
  | nil (tm : TM) (H : Heap) : RegTo E P own n all [] tm H tm H
  | op (o : Oper) (r : List Oper) (tm : TM) (H : Heap) (p : PV) (H1 : Heap) (tm' : TM) (H' : Heap) (hw : wantedA all tm o = some true) (ho : OpTo E P own tm o H p H1) (hd : ∀ t, o.dst = some t → t < n)
      (hr : RegTo E P own n all r (setD tm o.dst p) H1 tm' H') : RegTo E P own n all (o :: r) tm H tm' H'
  | pass (o : Oper) (r : List Oper) (tm : TM) (H : Heap) (tm' : TM) (H' : Heap) (hw : wantedA all tm o = some false) (hd : ∀ t, o.dst = some t → t < n)
      (hr : RegTo E P own n all r (setD tm o.dst unset) H tm' H') : RegTo E P own n all (o :: r) tm H tm' H'

section
variable {E : Env} {P : Program} {g : Gh} {n : Nat} {tm : TM} {H : Heap} {a : Act} {w : World}

theorem regTo_ok (hE : TOk E P) {own : Tmp → Bool} {ops : Array Oper} {Q : Exit → Act → World → Prop} {l : List Oper} {tm' : TM} {H' : Heap} (h : RegTo E P own n ops.toList l tm H tm' H') :
    ∀ (k : Nat) (g : Gh) (a : Act) (w : World), l = ops.toList.drop k → Rel E g n tm H a w →
      (∀ g' a' w', Rel E g' n tm' H' a' w' → Keep g H w g' H' w' → Q .normal a' w') → wpOps P ops Q ((List.range ops.size).drop k) a w := by
  induction h with
  | nil tm H =>
    intro k g a w hl hr hq
    have hk : ops.size ≤ k := by
      rcases Nat.lt_or_ge k ops.size with h | h
      · have := congrArg List.length hl; simp at this; omega
      · exact h
    rw [List.drop_eq_nil_of_le (by simpa using hk)]
    exact hq g a w hr (.refl _ _ _)
  | op o r tm H p H1 tm' H' hw ho hd _ ih =>
    intro k g a w hl hr hq
    have hk : k < ops.size := by
      rcases Nat.lt_or_ge k ops.size with h | h
      · exact h
      · rw [List.drop_eq_nil_of_le (by simpa using h)] at hl; cases hl
    have e1 : ops[k]? = some o := by
      have := congrArg List.head? hl
      simp [List.head?_drop] at this
      exact this.symm
    have e2 : (List.range ops.size).drop k = k :: (List.range ops.size).drop (k + 1) := by
      rw [List.drop_eq_getElem_cons (by simpa using hk)]; simp
    have e3 : r = ops.toList.drop (k + 1) := by
      have := congrArg List.tail hl
      simpa using this
    rw [e2]
    simp only [wpOps, e1]
    rw [if_pos (wanted_ok hw hr)]
    exact .inl (op_upon hE ho hr fun v w' g' hv hi hk => ih (k + 1) g' _ w' e3 (hr.put hi hk hd hv) fun g2 a2 w2 h2 k2 => hq g2 a2 w2 h2 (hk.then hr.inv k2))
  | pass o r tm H tm' H' hw hd _ ih =>
    intro k g a w hl hr hq
    have hk : k < ops.size := by
      rcases Nat.lt_or_ge k ops.size with h | h
      · exact h
      · rw [List.drop_eq_nil_of_le (by simpa using h)] at hl; cases hl
    have e1 : ops[k]? = some o := by
      have := congrArg List.head? hl
      simp [List.head?_drop] at this
      exact this.symm
    have e2 : (List.range ops.size).drop k = k :: (List.range ops.size).drop (k + 1) := by
      rw [List.drop_eq_getElem_cons (by simpa using hk)]; simp
    have e3 : r = ops.toList.drop (k + 1) := by
      have := congrArg List.tail hl
      simpa using this
    rw [e2]
    simp only [wpOps, e1]
    rw [if_neg (by rw [wanted_ok hw hr]; simp)]
    exact ih (k + 1) g _ w e3 (hr.put hr.inv (.refl _ _ _) hd (V.unset g)) hq

/-- A region that draws its order, by what is proved of it elsewhere. -/
def DrawOk (E : Env) (P : Program) (own : Tmp → Bool) (n : Nat) (ops : Array Oper) (tm : TM) (H : Heap) (tm' : TM) (H' : Heap) : Prop :=
  ∀ (id : Nat) (g : Gh) (a : Act) (w : World) (Q : Exit → Act → World → Prop), Rel E g n tm H a w →
    (∀ g' a' w', Rel E g' n tm' H' a' w' → Keep g H w g' H' w' → Q .normal a' w') → (Code.region id ops true).wp P Q a w

inductive CodeTo (E : Env) (P : Program) (own : Tmp → Bool) (n : Nat) : Code → TM → Heap → Ex → TM → Heap → Prop
  | skip (tm : TM) (H : Heap) : CodeTo E P own n .skip tm H .normal tm H
  | label (l : Nat) (tm : TM) (H : Heap) : CodeTo E P own n (.label l) tm H .normal tm H
  | ret (tm : TM) (H : Heap) : CodeTo E P own n .ret tm H .ret tm H
  | exit (i : Nat) (tm : TM) (H : Heap) : CodeTo E P own n (.exit i) tm H (.exit i) tm H
  | region (id : Nat) (ops : Array Oper) (tm : TM) (H : Heap) (tm' : TM) (H' : Heap) (h : RegTo E P own n ops.toList ops.toList tm H tm' H') : CodeTo E P own n (.region id ops false) tm H .normal tm' H'
  | draw (id : Nat) (ops : Array Oper) (tm : TM) (H : Heap) (tm' : TM) (H' : Heap) (h : DrawOk E P own n ops tm H tm' H') : CodeTo E P own n (.region id ops true) tm H .normal tm' H'
  | seq (c d : Code) (tm : TM) (H : Heap) (tm1 : TM) (H1 : Heap) (ex : Ex) (tm' : TM) (H' : Heap) (h1 : CodeTo E P own n c tm H .normal tm1 H1) (h2 : CodeTo E P own n d tm1 H1 ex tm' H') : CodeTo E P own n (.seq c d) tm H ex tm' H'
  | seqOut (c d : Code) (tm : TM) (H : Heap) (ex : Ex) (tm' : TM) (H' : Heap) (h1 : CodeTo E P own n c tm H ex tm' H') (hx : ex ≠ .normal) : CodeTo E P own n (.seq c d) tm H ex tm' H'
  | cond (x : Operand) (c d : Code) (b : Bool) (tm : TM) (H : Heap) (ex : Ex) (tm' : TM) (H' : Heap) (hx : evalO E tm x = .bool b) (h : CodeTo E P own n (if b then c else d) tm H ex tm' H') : CodeTo E P own n (.cond x c d) tm H ex tm' H'
  | block (i : Nat) (c : Code) (tm : TM) (H : Heap) (ex : Ex) (tm' : TM) (H' : Heap) (h : CodeTo E P own n c tm H ex tm' H') (hx : ex ≠ .exit i) : CodeTo E P own n (.block i c) tm H ex tm' H'
  | blockOut (i : Nat) (c : Code) (tm : TM) (H : Heap) (tm' : TM) (H' : Heap) (h : CodeTo E P own n c tm H (.exit i) tm' H') : CodeTo E P own n (.block i c) tm H .normal tm' H'
  | loop (c : Code) (tm : TM) (H : Heap) (tm1 : TM) (H1 : Heap) (ex : Ex) (tm' : TM) (H' : Heap) (h1 : CodeTo E P own n c tm H .normal tm1 H1) (h2 : CodeTo E P own n (.loop c) tm1 H1 ex tm' H') : CodeTo E P own n (.loop c) tm H ex tm' H'
  | loopOut (c : Code) (tm : TM) (H : Heap) (ex : Ex) (tm' : TM) (H' : Heap) (h1 : CodeTo E P own n c tm H ex tm' H') (hx : ex ≠ .normal) : CodeTo E P own n (.loop c) tm H ex tm' H'

def exTo : Ex → Exit
  | .normal => .normal
  | .exit i => .exit i
  | .ret => .ret

theorem exTo_normal {ex : Ex} (h : ex ≠ .normal) : exTo ex ≠ .normal := by cases ex <;> simp [exTo] at * 

def LoopWp (P : Program) (c : Code) (Q : Exit → Act → World → Prop) (a : Act) (w : World) : Prop :=
  ∀ (b : Frame) (k : List Item) (cs : List Frame), ∃ e a' w', Q e a' w' ∧ Arrives P (lone (b.at a (.code c :: .inLoop c :: k)) cs w) b k cs e a' w'

theorem wp_of_loopWp {c : Code} {Q : Exit → Act → World → Prop} (h : LoopWp P c Q a w) : (Code.loop c).wp P Q a w :=
  fun b k cs => let ⟨e, a', w', hq, hr⟩ := h b k cs; ⟨e, a', w', hq, .of_steps (.one step_loop) hr⟩

theorem codeTo_ok (hE : TOk E P) {own : Tmp → Bool} {c : Code} {ex : Ex} {tm' : TM} {H' : Heap} (h : CodeTo E P own n c tm H ex tm' H') :
    ∀ (g : Gh) (a : Act) (w : World) (Q : Exit → Act → World → Prop), Rel E g n tm H a w →
      (∀ g' a' w', Rel E g' n tm' H' a' w' → Keep g H w g' H' w' → Q (exTo ex) a' w') → c.wp P Q a w ∧ ∀ b, c = .loop b → LoopWp P b Q a w := by
  induction h with
  | skip tm H => intro g a w Q hr hq; exact ⟨wp_skip (hq g a w hr (.refl _ _ _)), fun b h => by cases h⟩
  | label l tm H => intro g a w Q hr hq; exact ⟨wp_label (hq g a w hr (.refl _ _ _)), fun b h => by cases h⟩
  | ret tm H => intro g a w Q hr hq; exact ⟨wp_ret (hq g a w hr (.refl _ _ _)), fun b h => by cases h⟩
  | exit i tm H => intro g a w Q hr hq; exact ⟨wp_exit (hq g a w hr (.refl _ _ _)), fun b h => by cases h⟩
  | region id ops tm H tm' H' h =>
    intro g a w Q hr hq
    refine ⟨wp_region ?_, fun b h => by cases h⟩
    have := regTo_ok (Q := Q) hE h 0 g a w (by simp) hr hq
    simpa using this
  | draw id ops tm H tm' H' h => intro g a w Q hr hq; exact ⟨h id g a w Q hr hq, fun b h => by cases h⟩
  | seq c d tm H tm1 H1 ex tm' H' _ _ ih1 ih2 =>
    intro g a w Q hr hq
    refine ⟨wp_seq (ih1 g a w _ hr fun g1 a1 w1 h1 k1 => ?_).1, fun b h => by cases h⟩
    exact (ih2 g1 a1 w1 Q h1 fun g2 a2 w2 h2 k2 => hq g2 a2 w2 h2 (k1.then hr.inv k2)).1
  | seqOut c d tm H ex tm' H' _ hx ih =>
    intro g a w Q hr hq
    refine ⟨wp_seq (ih g a w _ hr fun g1 a1 w1 h1 k1 => ?_).1, fun b h => by cases h⟩
    have := hq g1 a1 w1 h1 k1
    cases ex <;> simp [exTo, Exit.then] at * <;> exact this
  | cond x c d b tm H ex tm' H' hx _ ih =>
    intro g a w Q hr hq
    have hv := hr.eval x
    rw [hx] at hv
    exact ⟨wp_cond hv.bool_inv (ih g a w Q hr hq).1, fun b h => by cases h⟩
  | block i c tm H ex tm' H' _ hx ih =>
    intro g a w Q hr hq
    refine ⟨wp_block (ih g a w _ hr fun g1 a1 w1 h1 k1 => ?_).1, fun b h => by cases h⟩
    have := hq g1 a1 w1 h1 k1
    cases ex with
    | normal => exact this
    | ret => exact this
    | exit j =>
      have hj : j ≠ i := fun e => hx (by rw [e])
      simp only [exTo, Exit.inBlock]
      rw [if_neg hj]; exact this
  | blockOut i c tm H tm' H' _ ih =>
    intro g a w Q hr hq
    refine ⟨wp_block (ih g a w _ hr fun g1 a1 w1 h1 k1 => ?_).1, fun b h => by cases h⟩
    simp only [exTo, Exit.inBlock, if_true]
    exact hq g1 a1 w1 h1 k1
  | loop c tm H tm1 H1 ex tm' H' _ _ ih1 ih2 =>
    intro g a w Q hr hq
    have hl : LoopWp P c Q a w := by
      intro b k cs
      have h1 := (ih1 g a w (fun e a' w' => e = .normal ∧ LoopWp P c Q a' w') hr fun g1 a1 w1 h1 k1 => ⟨rfl, (ih2 g1 a1 w1 Q h1 fun g2 a2 w2 h2 k2 => hq g2 a2 w2 h2 (k1.then hr.inv k2)).2 c rfl⟩).1
      obtain ⟨e, a1, w1, ⟨rfl, hl⟩, harr⟩ := h1 b (.inLoop c :: k) cs
      obtain ⟨e2, a2, w2, hq2, harr2⟩ := hl b k cs
      exact ⟨e2, a2, w2, hq2, .of_steps (Steps.trans harr (.one step_inLoop)) harr2⟩
    exact ⟨wp_of_loopWp hl, fun b h => by cases h; exact hl⟩
  | loopOut c tm H ex tm' H' _ hx ih =>
    intro g a w Q hr hq
    have hl : LoopWp P c Q a w := by
      intro b k cs
      obtain ⟨e, a1, w1, ⟨he, hq1⟩, harr⟩ := (ih g a w (fun e a' w' => e = exTo ex ∧ Q e a' w') hr fun g1 a1 w1 h1 k1 => ⟨rfl, hq g1 a1 w1 h1 k1⟩).1 b (.inLoop c :: k) cs
      exact ⟨e, a1, w1, hq1, .pass (x := .inLoop c) rfl (fun _ _ => .inl (by rw [he]; exact exTo_normal hx)) harr⟩
    exact ⟨wp_of_loopWp hl, fun b h => by cases h; exact hl⟩

end
end Go.Vm
