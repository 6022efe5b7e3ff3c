/-
  Code walked by rules: slots and values may be symbolic.
-/
import Derived.Test.YthkpihmifojnoaaGreatDoorVmY
namespace Go.Vm

/-- The code comes to an end as Q says. -/
structure Wp (E : Env) (P : Program) (own : Tmp → Bool) (n : Nat) (c : Code) (Q : Ex → TM → Heap → Prop) (tm : TM) (H : Heap) : Prop where
  out : ∃ ex tm' H', CodeTo E P own n c tm H ex tm' H' ∧ Q ex tm' H'

def seqR (E : Env) (P : Program) (own : Tmp → Bool) (n : Nat) (d : Code) (Q : Ex → TM → Heap → Prop) : Ex → TM → Heap → Prop
  | .normal => Wp E P own n d Q
  | .exit i => Q (.exit i)
  | .ret => Q .ret
def blockR (i : Nat) (Q : Ex → TM → Heap → Prop) : Ex → TM → Heap → Prop
  | .normal => Q .normal
  | .exit j => match Nat.beq j i with | true => Q .normal | false => Q (.exit j)
  | .ret => Q .ret
structure SeqQ (E : Env) (P : Program) (own : Tmp → Bool) (n : Nat) (d : Code) (Q : Ex → TM → Heap → Prop) (ex : Ex) (tm : TM) (H : Heap) : Prop where
  out : seqR E P own n d Q ex tm H
structure BlockQ (i : Nat) (Q : Ex → TM → Heap → Prop) (ex : Ex) (tm : TM) (H : Heap) : Prop where
  out : blockR i Q ex tm H
structure LoopQ (E : Env) (P : Program) (own : Tmp → Bool) (n : Nat) (c : Code) (Q : Ex → TM → Heap → Prop) (ex : Ex) (tm : TM) (H : Heap) : Prop where
  out : seqR E P own n (.loop c) Q ex tm H

/-- The operations of a region in the text's order, and what follows. -/
structure RegQ (E : Env) (P : Program) (own : Tmp → Bool) (n : Nat) (all l : List Oper) (K : TM → Heap → Prop) (tm : TM) (H : Heap) : Prop where
  out : ∃ tm' H', RegTo E P own n all l tm H tm' H' ∧ K tm' H'
/-- The same of a region that draws its order. -/
structure DrwQ (E : Env) (P : Program) (own : Tmp → Bool) (n : Nat) (ops : Array Oper) (n0 i : Nat) (r : List Oper) (K : TM → Heap → Prop) (tm : TM) (H : Heap) : Prop where
  out : r = ops.toList.drop i → ∃ tm' H', Run E P own n ops n0 (clsI E own ops) (fun _ => n0) (fun _ => []) ((List.range ops.size).drop i) tm H tm' H' ∧ K tm' H'

section
variable {E : Env} {P : Program} {own : Tmp → Bool} {n : Nat} {Q : Ex → TM → Heap → Prop} {K : TM → Heap → Prop} {tm : TM} {H : Heap}

theorem Wp.mono {Q' : Ex → TM → Heap → Prop} {c : Code} (h : Wp E P own n c Q tm H) (hq : ∀ ex tm H, Q ex tm H → Q' ex tm H) : Wp E P own n c Q' tm H :=
  let ⟨ex, tm', H', h1, h2⟩ := h.out; ⟨ex, tm', H', h1, hq _ _ _ h2⟩
theorem Wp.skip (h : Q .normal tm H) : Wp E P own n .skip Q tm H := ⟨_, _, _, .skip _ _, h⟩
theorem Wp.label {l : Nat} (h : Q .normal tm H) : Wp E P own n (.label l) Q tm H := ⟨_, _, _, .label _ _ _, h⟩
theorem Wp.ret (h : Q .ret tm H) : Wp E P own n .ret Q tm H := ⟨_, _, _, .ret _ _, h⟩
theorem Wp.exit {i : Nat} (h : Q (.exit i) tm H) : Wp E P own n (.exit i) Q tm H := ⟨_, _, _, .exit _ _ _, h⟩

theorem Wp.seq {c d : Code} (h : Wp E P own n c (SeqQ E P own n d Q) tm H) : Wp E P own n (.seq c d) Q tm H := by
  obtain ⟨ex, tm', H', h1, h2⟩ := h.out
  cases ex with
  | normal =>
    obtain ⟨ex2, tm2, H2, h3, h4⟩ := (show Wp E P own n d Q tm' H' from h2.out).out
    exact ⟨ex2, tm2, H2, .seq _ _ _ _ _ _ _ _ _ h1 h3, h4⟩
  | exit i => exact ⟨.exit i, tm', H', .seqOut _ _ _ _ _ _ _ h1 (by simp), h2.out⟩
  | ret => exact ⟨.ret, tm', H', .seqOut _ _ _ _ _ _ _ h1 (by simp), h2.out⟩
theorem SeqQ.go {d : Code} (h : Wp E P own n d Q tm H) : SeqQ E P own n d Q .normal tm H := ⟨h⟩
theorem SeqQ.ret {d : Code} (h : Q .ret tm H) : SeqQ E P own n d Q .ret tm H := ⟨h⟩
theorem SeqQ.exit {d : Code} {i : Nat} (h : Q (.exit i) tm H) : SeqQ E P own n d Q (.exit i) tm H := ⟨h⟩

theorem Wp.block {i : Nat} {c : Code} (h : Wp E P own n c (BlockQ i Q) tm H) : Wp E P own n (.block i c) Q tm H := by
  obtain ⟨ex, tm', H', h1, ⟨h2⟩⟩ := h.out
  cases ex with
  | normal => exact ⟨.normal, tm', H', .block _ _ _ _ _ _ _ h1 (by simp), h2⟩
  | ret => exact ⟨.ret, tm', H', .block _ _ _ _ _ _ _ h1 (by simp), h2⟩
  | exit j =>
    cases e : Nat.beq j i with
    | true =>
      simp only [blockR, e] at h2
      have := Nat.eq_of_beq_eq_true e
      subst this
      exact ⟨.normal, tm', H', .blockOut _ _ _ _ _ _ h1, h2⟩
    | false =>
      simp only [blockR, e] at h2
      exact ⟨.exit j, tm', H', .block _ _ _ _ _ _ _ h1 (by intro h; cases h; rw [Nat.beq_refl] at e; cases e), h2⟩
theorem BlockQ.go {i : Nat} (h : Q .normal tm H) : BlockQ i Q .normal tm H := ⟨h⟩
theorem BlockQ.ret {i : Nat} (h : Q .ret tm H) : BlockQ i Q .ret tm H := ⟨h⟩
theorem BlockQ.hit {i j : Nat} (e : Nat.beq j i = true) (h : Q .normal tm H) : BlockQ i Q (.exit j) tm H := ⟨by simp only [blockR, e]; exact h⟩
theorem BlockQ.miss {i j : Nat} (e : Nat.beq j i = false) (h : Q (.exit j) tm H) : BlockQ i Q (.exit j) tm H := ⟨by simp only [blockR, e]; exact h⟩

theorem Wp.loop {c : Code} (h : Wp E P own n c (LoopQ E P own n c Q) tm H) : Wp E P own n (.loop c) Q tm H := by
  obtain ⟨ex, tm', H', h1, h2⟩ := h.out
  cases ex with
  | normal =>
    obtain ⟨ex2, tm2, H2, h3, h4⟩ := (show Wp E P own n (.loop c) Q tm' H' from h2.out).out
    exact ⟨ex2, tm2, H2, .loop _ _ _ _ _ _ _ _ h1 h3, h4⟩
  | exit i => exact ⟨.exit i, tm', H', .loopOut _ _ _ _ _ _ h1 (by simp), h2.out⟩
  | ret => exact ⟨.ret, tm', H', .loopOut _ _ _ _ _ _ h1 (by simp), h2.out⟩
theorem LoopQ.go {c : Code} (h : Wp E P own n (.loop c) Q tm H) : LoopQ E P own n c Q .normal tm H := ⟨h⟩
theorem LoopQ.ret {c : Code} (h : Q .ret tm H) : LoopQ E P own n c Q .ret tm H := ⟨h⟩
theorem LoopQ.exit {c : Code} {i : Nat} (h : Q (.exit i) tm H) : LoopQ E P own n c Q (.exit i) tm H := ⟨h⟩

theorem Wp.cond {x : Operand} {c d : Code} {b : Bool} (hx : evalO E tm x = .bool b) (h1 : b = true → Wp E P own n c Q tm H) (h2 : b = false → Wp E P own n d Q tm H) : Wp E P own n (.cond x c d) Q tm H := by
  cases b with
  | true =>
    obtain ⟨ex, tm', H', h3, h4⟩ := (h1 rfl).out
    exact ⟨ex, tm', H', .cond x c d true _ _ _ _ _ hx h3, h4⟩
  | false =>
    obtain ⟨ex, tm', H', h3, h4⟩ := (h2 rfl).out
    exact ⟨ex, tm', H', .cond x c d false _ _ _ _ _ hx h3, h4⟩
theorem Wp.condT {x : Operand} {c d : Code} (hx : evalO E tm x = .bool true) (h1 : Wp E P own n c Q tm H) : Wp E P own n (.cond x c d) Q tm H :=
  .cond hx (fun _ => h1) (fun e => by cases e)
theorem Wp.condF {x : Operand} {c d : Code} (hx : evalO E tm x = .bool false) (h1 : Wp E P own n d Q tm H) : Wp E P own n (.cond x c d) Q tm H :=
  .cond hx (fun e => by cases e) (fun _ => h1)

theorem Wp.region {id : Nat} {ops : Array Oper} (h : RegQ E P own n ops.toList ops.toList (Q .normal) tm H) : Wp E P own n (.region id ops false) Q tm H := by
  obtain ⟨tm', H', h1, h2⟩ := h.out
  exact ⟨.normal, tm', H', .region _ _ _ _ _ _ h1, h2⟩

theorem RegQ.nil {all : List Oper} (h : K tm H) : RegQ E P own n all [] K tm H := ⟨_, _, .nil _ _, h⟩
theorem RegQ.op {all r : List Oper} {o : Oper} {p : PV} {H1 : Heap} (hw : wantedA all tm o = some true) (hd : dstOk n o = true) (h : aOp E (own (o.dst.getD 0)) (evalO E tm) o.op H = some (p, H1))
    (hr : RegQ E P own n all r K (setD tm o.dst p) H1) : RegQ E P own n all (o :: r) K tm H := by
  obtain ⟨tm', H', h1, h2⟩ := hr.out
  exact ⟨tm', H', .op o r tm H p H1 tm' H' hw (.op _ _ h) (dstOk_spec hd) h1, h2⟩
theorem RegQ.call {all r : List Oper} {o : Oper} {p : PV} {H1 : Heap} (hw : wantedA all tm o = some true) (hd : dstOk n o = true) {f : Operand} {args : Array Operand} {ats : Array TypeId} {k : FuncId} {caps al : List PV}
    (ho : o.op = .call { callee := .value f, args := args, argTypes := ats }) (hf : evalO E tm f = .fn k caps) (ha : args.toList.map (evalO E tm) ++ caps = al) (h : CallOk E P k al H p H1)
    (hr : RegQ E P own n all r K (setD tm o.dst p) H1) : RegQ E P own n all (o :: r) K tm H := by
  obtain ⟨tm', H', h1, h2⟩ := hr.out
  exact ⟨tm', H', .op o r tm H p H1 tm' H' hw (.call f args ats k caps _ _ ho hf (by rw [ha]; exact h)) (dstOk_spec hd) h1, h2⟩
theorem RegQ.pass {all r : List Oper} {o : Oper} (hw : wantedA all tm o = some false) (hd : dstOk n o = true) (hr : RegQ E P own n all r K (setD tm o.dst unset) H) : RegQ E P own n all (o :: r) K tm H := by
  obtain ⟨tm', H', h1, h2⟩ := hr.out
  exact ⟨tm', H', .pass o r tm H tm' H' hw (dstOk_spec hd) h1, h2⟩
/-- A guard that is not decided yet. -/
theorem RegQ.ask {all r : List Oper} {o : Oper} (b : Bool) (hw : wantedA all tm o = some b) (h : ∀ b', b = b' → wantedA all tm o = some b' → RegQ E P own n all (o :: r) K tm H) : RegQ E P own n all (o :: r) K tm H := h b rfl hw

/-! ### regions that draw their order -/
noncomputable def statD (E : Env) (own : Tmp → Bool) (ops : Array Oper) : Bool :=
  backA ops.toList 0 && freeA E own ops (masks ops.toList []) ops.toList 0 && (alL E own ops.toList 0).isEmpty && (stL E own ops.toList 0).isEmpty

theorem Wp.draw (hE : TOk E P) (hm : P.follows .mixedOrders = true) {id : Nat} {ops : Array Oper} (hs : statD E own ops = true) (h : DrwQ E P own n ops H.bx.length 0 ops.toList (Q .normal) tm H) : Wp E P own n (.region id ops true) Q tm H := by
  obtain ⟨tm', H', h1, h2⟩ := h.out (by simp)
  simp only [statD, Bool.and_eq_true] at hs
  obtain ⟨⟨⟨b1, b2⟩, b3⟩, b4⟩ := hs
  have ea : alL E own ops.toList 0 = [] := by simpa using b3
  have es : stL E own ops.toList 0 = [] := by simpa using b4
  have er : roomL E own ops = 0 := by simp [roomL, ea]
  refine ⟨.normal, tm', H', .draw _ _ _ _ _ _ fun id g a w Q hr hq => ?_, h2⟩
  have hS := sched_ok (tg := fun _ => H.bx.length) hr.inv.ro b1 b2 (by rw [es]; simp) (fun k _ => Nat.le_add_right _ _)
  rw [er] at hS
  have hmk : mskS H.bx.length (masks ops.toList []) (alL E own ops.toList 0) (stL E own ops.toList 0) (fun _ => H.bx.length) = fun _ => [] := by
    rw [ea, es]; rfl
  rw [hmk] at hS
  have hx : extH H 0 = H := by simp [extH]
  exact drawOk hE hm hS (by rw [hx]; exact h1) id g a w Q hr hq

theorem DrwQ.nil {ops : Array Oper} {n0 i : Nat} (h : K tm H) : DrwQ E P own n ops n0 i [] K tm H := ⟨fun hr => by
  have h1 : ops.size ≤ i := by
    rcases Nat.lt_or_ge i ops.size with h | h
    · have := congrArg List.length hr; simp at this; omega
    · exact h
  rw [List.drop_eq_nil_of_le (by simpa using h1)]
  exact ⟨tm, H, .nil _ _, h⟩⟩

theorem DrwQ.step {ops : Array Oper} {n0 i : Nat} {o : Oper} {r : List Oper} {p : PV} {H1 : Heap} (hd : dstOk n o = true)
    (h : ops[i]? = some o → Hp E P own ops n0 (clsI E own ops) (fun _ => n0) (fun _ => []) i o tm H p H1) (hr : DrwQ E P own n ops n0 (i + 1) r K (setD tm o.dst p) H1) : DrwQ E P own n ops n0 i (o :: r) K tm H := ⟨fun hl => by
  have ho : ops[i]? = some o := by
    have := congrArg List.head? hl
    simp [List.head?_drop] at this
    exact this.symm
  have hi : i < ops.size := by
    rcases Nat.lt_or_ge i ops.size with h | h
    · exact h
    · rw [Array.getElem?_eq_none h] at ho; cases ho
  have hr' : r = ops.toList.drop (i + 1) := by
    have := congrArg List.tail hl
    simpa using this
  have hdr : (List.range ops.size).drop i = i :: (List.range ops.size).drop (i + 1) := by
    rw [List.drop_eq_getElem_cons (by simpa using hi)]
    simp
  obtain ⟨tm', H', h1, h2⟩ := hr.out hr'
  rw [hdr]
  exact ⟨tm', H', .cons i _ o _ _ p H1 _ _ ho (dstOk_spec hd) (h ho) h1, h2⟩⟩

/-- What a drawn operation that is no call must be like. -/
noncomputable def okD (E : Env) (own : Tmp → Bool) (n0 : Nat) (tm : TM) (o : Oper) (H H1 : Heap) : Bool :=
  match clsO E own o with
  | .sc => true
  | .qu => true
  | .ld => seenO E tm o n0
  | .ef => Nat.ble H.bx.length H1.bx.length
  | _ => false

theorem mask_nil (H : Heap) : maskH [] H = H := rfl
theorem merge_nil (H M : Heap) : mergeH [] H M = M := rfl

theorem DrwQ.op {ops : Array Oper} {n0 i : Nat} {o : Oper} {r : List Oper} {p : PV} {H1 : Heap} (hw : wantedA ops.toList tm o = some true) (hd : dstOk n o = true) (h : aOp E (own (o.dst.getD 0)) (evalO E tm) o.op H = some (p, H1))
    (hk : okD E own n0 tm o H H1 = true) (hr : DrwQ E P own n ops n0 (i + 1) r K (setD tm o.dst p) H1) : DrwQ E P own n ops n0 i (o :: r) K tm H := by
  refine .step hd (fun ho => ?_) hr
  have hci := clsI_eq (E := E) (own := own) ho
  unfold okD at hk
  cases hcl : clsO E own o with
  | sc =>
    have h1 := aOp_sc hcl h H
    rw [h] at h1
    have e : H1 = H := by simpa using h1
    subst e
    exact .sc _ _ hw fun M => .op _ _ (aOp_sc hcl h M)
  | qu =>
    rw [hcl] at hci
    have e := aOp_qu hcl h
    subst e
    exact .qu _ _ hw hci (.op _ _ h)
  | ld =>
    rw [hcl] at hci hk
    have h1 := aOp_ld hcl h hk (K := H) rfl
    rw [h] at h1
    have e : H1 = H := by simpa using h1
    subst e
    exact .ld _ _ hw hci fun K hK => .op _ _ (aOp_ld hcl h hk hK)
  | ef =>
    rw [hcl] at hci hk
    exact .ef _ _ H1 hw hci (.op _ _ h) (Nat.le_of_ble_eq_true hk)
  | al => rw [hcl] at hk; cases hk
  | st => rw [hcl] at hk; cases hk
  | tk => rw [hcl] at hk; cases hk

theorem DrwQ.call {ops : Array Oper} {n0 i : Nat} {o : Oper} {r : List Oper} {p : PV} (hw : wantedA ops.toList tm o = some true) (hd : dstOk n o = true) {f : Operand} {args : Array Operand} {ats : Array TypeId} {k : FuncId} {caps al : List PV}
    (ho : o.op = .call { callee := .value f, args := args, argTypes := ats }) (hf : evalO E tm f = .fn k caps) (ha : args.toList.map (evalO E tm) ++ caps = al) (hc : clsO E own o = .qu) (h : CallOk E P k al H p H)
    (hr : DrwQ E P own n ops n0 (i + 1) r K (setD tm o.dst p) H) : DrwQ E P own n ops n0 i (o :: r) K tm H :=
  .step hd (fun ho' => .qu _ _ hw ((clsI_eq (E := E) (own := own) ho').trans hc) (.call f args ats k caps _ _ ho hf (by rw [ha]; exact h))) hr
theorem DrwQ.pass {ops : Array Oper} {n0 i : Nat} {o : Oper} {r : List Oper} (hw : wantedA ops.toList tm o = some false) (hd : dstOk n o = true) (hr : DrwQ E P own n ops n0 (i + 1) r K (setD tm o.dst unset) H) : DrwQ E P own n ops n0 i (o :: r) K tm H :=
  .step hd (fun _ => .pass _ hw) hr

/-! ### slots of which alone something is known -/
noncomputable def ovr (base : TM) : List (Nat × PV) → TM
  | [] => base
  | (d, v) :: r => setD (ovr base r) (some d) v
def okL (tm : TM) : List (Nat × PV) → Prop
  | [] => True
  | (d, v) :: r => tm d = v ∧ okL tm r
theorem ovr_self : ∀ {l : List (Nat × PV)}, okL tm l → ovr tm l = tm
  | [], _ => rfl
  | (d, v) :: r, h => by
    funext t
    simp only [ovr, setD]
    rw [ovr_self h.2]
    split
    · rename_i e; subst e; exact h.1.symm
    · rfl
theorem Wp.norm {c : Code} (l : List (Nat × PV)) (h : okL tm l) (hw : ∀ base, Wp E P own n c Q (ovr base l) H) : Wp E P own n c Q tm H := by
  have := hw tm
  rwa [ovr_self h] at this

/-! ### calls -/
def retR (E : Env) (fn : Func) (r : PV) (ex : Ex) (tm : TM) (H : Heap) : Prop := match ex with
  | .exit _ => False
  | _ => ∃ ps, resA E tm H fn.results.toList = some ps ∧ frz3 0 H (one ps) = some r
structure RetQ (E : Env) (fn : Func) (r : PV) (ex : Ex) (tm : TM) (H : Heap) : Prop where
  out : retR E fn r ex tm H
theorem RetQ.ret {fn : Func} {r : PV} {ps : List PV} (h1 : resA E tm H fn.results.toList = some ps) (h2 : frz3 0 H (one ps) = some r) : RetQ E fn r .ret tm H := ⟨⟨ps, h1, h2⟩⟩
theorem RetQ.go {fn : Func} {r : PV} {ps : List PV} (h1 : resA E tm H fn.results.toList = some ps) (h2 : frz3 0 H (one ps) = some r) : RetQ E fn r .normal tm H := ⟨⟨ps, h1, h2⟩⟩

theorem arg1_frz {p : PV} (h : frz1 p = some p) : arg1 p = p := by
  cases p <;> simp only [frz1, arg1] at h ⊢ <;> first | rfl | (cases h; rfl) | cases h
theorem arg1_frzL : ∀ {l : List PV}, frzL l = some l → l.map arg1 = l
  | [], _ => rfl
  | p :: r, h => by
    simp only [frzL] at h
    split at h
    · rename_i p' hp
      split at h
      · rename_i r' hr
        simp only [Option.some.injEq, List.cons.injEq] at h
        obtain ⟨rfl, rfl⟩ := h
        simp only [List.map_cons, arg1_frz hp, arg1_frzL hr]
      · cases h
    · cases h
theorem argV_frz {p : PV} (h : frzG p = some p) : argV p = p := by
  unfold frzG at h
  split at h
  · rename_i cs
    split at h
    · rename_i cs' hc
      simp only [Option.some.injEq, PV.agg.injEq] at h
      subst h
      simp only [argV, arg1_frzL hc]
    · cases h
  · rename_i hn
    cases p <;> simp only [argV] <;> first | exact arg1_frz h | exact (hn _ rfl).elim
theorem args_frz : ∀ {l : List PV}, frzGL l = some l → l.map argV = l
  | [], _ => rfl
  | p :: r, h => by
    simp only [frzGL] at h
    split at h
    · rename_i p' hp
      split at h
      · rename_i r' hr
        simp only [Option.some.injEq, List.cons.injEq] at h
        obtain ⟨rfl, rfl⟩ := h
        simp only [List.map_cons, argV_frz hp, args_frz hr]
      · cases h
    · cases h

/-- A call whose code has been walked at the empty heap. -/
theorem callOk_wp (hE : TOk E P) {f : FuncId} {fn : Func} {c : Code} (hf : FnOk P f fn c) {args : List PV} (ha : frzGL args = some args) {r : PV} (hr : frz3 0 hNil r = some r)
    (h : Wp E P own fn.ntmps c (RetQ E fn r) (tm0 args) hNil) (H : Heap) : CallOk E P f args H r H := by
  obtain ⟨ex, tm', H', h1, ⟨h2⟩⟩ := h.out
  refine callOk_lift ?_ ha hr H
  have hx : ∀ i, ex ≠ .exit i := fun i e => by subst e; exact h2
  obtain ⟨ps, h3, h4⟩ : ∃ ps, resA E tm' H' fn.results.toList = some ps ∧ frz3 0 H' (one ps) = some r := by
    cases ex with
    | normal => exact h2
    | ret => exact h2
    | exit i => exact h2.elim
  exact callOk_pure (own := own) hE hf (by rw [args_frz ha]; exact h1) hx h3 h4
end
end Go.Vm
