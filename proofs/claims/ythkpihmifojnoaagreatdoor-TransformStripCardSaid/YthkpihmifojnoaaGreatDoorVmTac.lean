/-
  Rules for walking code step by step: each value is brought to its head form, each comparison is decided at once.
-/
import Derived.Test.YthkpihmifojnoaaGreatDoorVmOut
namespace Go.Vm

/-- A slice that is nil or not, with its elements. -/
def slV (b : Bool) (es : Nat) (el : List (List PV)) : PV := match el with
  | [] => match b with | true => .nils | false => .sl .none es []
  | c :: r => .sl .none es (c :: r)

mutual
inductive IsV : PV → PV → Prop
  | bool (b : Bool) : IsV (.bool b) (.bool b)
  | int (k : IntKind) (n : Int) : IsV (.int k n) (.int k n)
  | str (s : List UInt8) : IsV (.str s) (.str s)
  | nilp : IsV .nilp .nilp
  | nils : IsV .nils .nils
  | nilm : IsV .nilm .nilm
  | nilf : IsV .nilf .nilf
  | undef : IsV .undef .undef
  | ptr (a b c d : Nat) : IsV (.ptr a b c d) (.ptr a b c d)
  | fptr (cs : List PV) (o : Nat) : IsV (.fptr cs o) (.fptr cs o)
  | sl (tl : Tail) (es : Nat) (el : List (List PV)) : IsV (.sl tl es el) (.sl tl es el)
  | slV (b : Bool) (es : Nat) (el : List (List PV)) : IsV (slV b es el) (slV b es el)
  | own (a b c d : Nat) : IsV (.own a b c d) (.own a b c d)
  | map (i : Nat) : IsV (.map i) (.map i)
  | fn (f : FuncId) (cs : List PV) : IsV (.fn f cs) (.fn f cs)
  | agg (cs cs' : List PV) (h : IsL cs cs') : IsV (.agg cs) (.agg cs')
  | tup (cs cs' : List PV) (h : IsL cs cs') : IsV (.tup cs) (.tup cs')
  | any (v : PV) : IsV v v
inductive IsL : List PV → List PV → Prop
  | nil : IsL [] []
  | cons (a a' : PV) (l l' : List PV) (h : IsV a a') (hl : IsL l l') : IsL (a :: l) (a' :: l')
  | any (l : List PV) : IsL l l
end
theorem IsV.eq {a b : PV} (h : IsV a b) : a = b := by
  refine @IsV.rec (fun a b _ => a = b) (fun a b _ => a = b) ?_ ?_ ?_ ?_ ?_ ?_ ?_ ?_ ?_ ?_ ?_ ?_ ?_ ?_ ?_ ?_ ?_ ?_ ?_ ?_ ?_ a b h
  all_goals intros
  all_goals first | rfl | (simp_all; done)

theorem IsL.eq {a b : List PV} (h : IsL a b) : a = b := by
  have e := (show IsV (.agg a) (.agg b) from .agg _ _ h).eq
  simpa using e
theorem IsV.ptr4 {a b c d a' b' c' d' : Nat} (h1 : a = a') (h2 : b = b') (h3 : c = c') (h4 : d = d') : IsV (.ptr a b c d) (.ptr a' b' c' d') := by
  subst h1 h2 h3 h4; exact .ptr _ _ _ _
inductive IsLL : List (List PV) → List (List PV) → Prop
  | nil : IsLL [] []
  | cons (a a' : List PV) (l l' : List (List PV)) (h : IsL a a') (hl : IsLL l l') : IsLL (a :: l) (a' :: l')
  | any (l : List (List PV)) : IsLL l l
theorem IsLL.eq {a b : List (List PV)} (h : IsLL a b) : a = b := by
  induction h with
  | nil => rfl
  | cons a a' l l' h _ ih => rw [h.eq, ih]
  | any => rfl
inductive IsBL : List Box → List Box → Prop
  | nil : IsBL [] []
  | cells (es es' : Nat) (el el' : List (List PV)) (l l' : List Box) (he : es = es') (h : IsLL el el') (hl : IsBL l l') : IsBL (.cells es el :: l) (.cells es' el' :: l')
  | cons (b : Box) (l l' : List Box) (hl : IsBL l l') : IsBL (b :: l) (b :: l')
  | any (l : List Box) : IsBL l l
theorem IsBL.eq {a b : List Box} (h : IsBL a b) : a = b := by
  induction h with
  | nil => rfl
  | cells _ _ _ _ _ _ he h _ ih => rw [he, h.eq, ih]
  | cons _ _ _ _ ih => rw [ih]
  | any => rfl
inductive IsH : Heap → Heap → Prop
  | mk (bx bx' : List Box) (ro ro' nt nt' : Nat) (lv lv' : List Nat) (h : IsBL bx bx') (h1 : ro = ro') (h2 : lv = lv') (h3 : nt = nt') : IsH ⟨bx, ro, lv, nt⟩ ⟨bx', ro', lv', nt'⟩
theorem IsH.eq {a b : Heap} (h : IsH a b) : a = b := by
  cases h with | mk _ _ _ _ _ _ _ _ h h1 h2 h3 => rw [h.eq, h1, h2, h3]

section
variable {E : Env} {P : Program} {own : Tmp → Bool} {n : Nat} {Q : Ex → TM → Heap → Prop} {K : TM → Heap → Prop} {tm : TM} {H : Heap}

theorem dstOk_of {o : Oper} {d : Nat} (hd : o.dst = some d) (hn : Nat.blt d n = true) : dstOk n o = true := by simp only [dstOk, hd, hn]

/-- An operation whose value is brought to its head form. -/
theorem RegQ.run {all r : List Oper} {o : Oper} {d : Nat} {p p' : PV} {H1 : Heap} (hw : wantedA all tm o = some true) (hd : o.dst = some d) (hn : Nat.blt d n = true) (h : aOp E (own d) (evalO E tm) o.op H = some (p, H1)) (hv : IsV p p')
    (hr : RegQ E P own n all r K (setD tm (some d) p') H1) : RegQ E P own n all (o :: r) K tm H :=
  .op hw (dstOk_of hd hn) (p := p) (by rw [hd]; exact h) (by rw [hd, hv.eq]; exact hr)
/-- A store. -/
theorem RegQ.put {all r : List Oper} {o : Oper} {p : PV} {H1 : Heap} (hw : wantedA all tm o = some true) (hd : o.dst = none) (h : aOp E (own 0) (evalO E tm) o.op H = some (p, H1))
    (hr : RegQ E P own n all r K tm H1) : RegQ E P own n all (o :: r) K tm H :=
  .op hw (by simp only [dstOk, hd]) (p := p) (by rw [hd]; exact h) (by rw [hd]; exact hr)
theorem RegQ.runH {all r : List Oper} {o : Oper} {d : Nat} {p p' : PV} {H1 H1' : Heap} (hw : wantedA all tm o = some true) (hd : o.dst = some d) (hn : Nat.blt d n = true) (h : aOp E (own d) (evalO E tm) o.op H = some (p, H1)) (hv : IsV p p') (hh : IsH H1 H1')
    (hr : RegQ E P own n all r K (setD tm (some d) p') H1') : RegQ E P own n all (o :: r) K tm H :=
  .run hw hd hn h hv (by rw [hh.eq]; exact hr)
theorem RegQ.putH {all r : List Oper} {o : Oper} {p : PV} {H1 H1' : Heap} (hw : wantedA all tm o = some true) (hd : o.dst = none) (h : aOp E (own 0) (evalO E tm) o.op H = some (p, H1)) (hh : IsH H1 H1')
    (hr : RegQ E P own n all r K tm H1') : RegQ E P own n all (o :: r) K tm H :=
  .put hw hd h (by rw [hh.eq]; exact hr)
/-- A comparison. -/
theorem RegQ.runB {all r : List Oper} {o : Oper} {d : Nat} {e : Bool} {H1 : Heap} (hw : wantedA all tm o = some true) (hd : o.dst = some d) (hn : Nat.blt d n = true) (h : aOp E (own d) (evalO E tm) o.op H = some (.bool e, H1))
    (ht : e = true → RegQ E P own n all r K (setD tm (some d) (.bool true)) H1) (hf : e = false → RegQ E P own n all r K (setD tm (some d) (.bool false)) H1) : RegQ E P own n all (o :: r) K tm H := by
  cases e with
  | true => exact .run hw hd hn h (.bool _) (ht rfl)
  | false => exact .run hw hd hn h (.bool _) (hf rfl)
theorem RegQ.skip {all r : List Oper} {o : Oper} {d : Nat} (hw : wantedA all tm o = some false) (hd : o.dst = some d) (hn : Nat.blt d n = true) (hr : RegQ E P own n all r K (setD tm (some d) unset) H) : RegQ E P own n all (o :: r) K tm H :=
  .pass hw (dstOk_of hd hn) (by rw [hd]; exact hr)
theorem RegQ.skip0 {all r : List Oper} {o : Oper} (hw : wantedA all tm o = some false) (hd : o.dst = none) (hr : RegQ E P own n all r K tm H) : RegQ E P own n all (o :: r) K tm H :=
  .pass hw (by simp only [dstOk, hd]) (by rw [hd]; exact hr)
/-- A call of what is known by a contract. -/
theorem RegQ.does {all r : List Oper} {o : Oper} {d : Nat} {p p' : PV} {H1 : Heap} {f : Operand} {args : Array Operand} {ats : Array TypeId} {k : FuncId} {caps al : List PV} (hw : wantedA all tm o = some true) (hd : o.dst = some d) (hn : Nat.blt d n = true)
    (ho : o.op = .call { callee := .value f, args := args, argTypes := ats }) (hf : evalO E tm f = .fn k caps) (ha : IsL (args.toList.map (evalO E tm) ++ caps) al) (h : CallOk E P k al H p H1) (hv : IsV p p')
    (hr : RegQ E P own n all r K (setD tm (some d) p') H1) : RegQ E P own n all (o :: r) K tm H :=
  .call hw (dstOk_of hd hn) ho hf (show _ = al from (show IsV (.agg _) (.agg al) from .agg _ _ ha).eq |> fun e => by simpa using e) h (by rw [hd, hv.eq]; exact hr)

theorem DrwQ.run {ops : Array Oper} {n0 i : Nat} {r : List Oper} {o : Oper} {d : Nat} {p p' : PV} {H1 : Heap} (hw : wantedA ops.toList tm o = some true) (hd : o.dst = some d) (hn : Nat.blt d n = true) (h : aOp E (own d) (evalO E tm) o.op H = some (p, H1)) (hv : IsV p p')
    (hk : okD E own n0 tm o H H1 = true) (hr : DrwQ E P own n ops n0 (i + 1) r K (setD tm (some d) p') H1) : DrwQ E P own n ops n0 i (o :: r) K tm H :=
  .op hw (dstOk_of hd hn) (p := p) (by rw [hd]; exact h) hk (by rw [hd, hv.eq]; exact hr)
theorem DrwQ.runH {ops : Array Oper} {n0 i : Nat} {r : List Oper} {o : Oper} {d : Nat} {p p' : PV} {H1 H1' : Heap} (hw : wantedA ops.toList tm o = some true) (hd : o.dst = some d) (hn : Nat.blt d n = true) (h : aOp E (own d) (evalO E tm) o.op H = some (p, H1)) (hv : IsV p p') (hh : IsH H1 H1')
    (hk : okD E own n0 tm o H H1 = true) (hr : DrwQ E P own n ops n0 (i + 1) r K (setD tm (some d) p') H1') : DrwQ E P own n ops n0 i (o :: r) K tm H :=
  .run hw hd hn h hv hk (by rw [hh.eq]; exact hr)
theorem DrwQ.runB {ops : Array Oper} {n0 i : Nat} {r : List Oper} {o : Oper} {d : Nat} {e : Bool} {H1 : Heap} (hw : wantedA ops.toList tm o = some true) (hd : o.dst = some d) (hn : Nat.blt d n = true) (h : aOp E (own d) (evalO E tm) o.op H = some (.bool e, H1))
    (hk : okD E own n0 tm o H H1 = true) (ht : e = true → DrwQ E P own n ops n0 (i + 1) r K (setD tm (some d) (.bool true)) H1) (hf : e = false → DrwQ E P own n ops n0 (i + 1) r K (setD tm (some d) (.bool false)) H1) : DrwQ E P own n ops n0 i (o :: r) K tm H := by
  cases e with
  | true => exact .run hw hd hn h (.bool _) hk (ht rfl)
  | false => exact .run hw hd hn h (.bool _) hk (hf rfl)
theorem DrwQ.skip {ops : Array Oper} {n0 i : Nat} {r : List Oper} {o : Oper} {d : Nat} (hw : wantedA ops.toList tm o = some false) (hd : o.dst = some d) (hn : Nat.blt d n = true) (hr : DrwQ E P own n ops n0 (i + 1) r K (setD tm (some d) unset) H) : DrwQ E P own n ops n0 i (o :: r) K tm H :=
  .pass hw (dstOk_of hd hn) (by rw [hd]; exact hr)
theorem DrwQ.does {ops : Array Oper} {n0 i : Nat} {r : List Oper} {o : Oper} {d : Nat} {p p' : PV} {f : Operand} {args : Array Operand} {ats : Array TypeId} {k : FuncId} {caps al : List PV} (hw : wantedA ops.toList tm o = some true) (hd : o.dst = some d) (hn : Nat.blt d n = true)
    (ho : o.op = .call { callee := .value f, args := args, argTypes := ats }) (hf : evalO E tm f = .fn k caps) (ha : IsL (args.toList.map (evalO E tm) ++ caps) al) (hc : clsO E own o = .qu) (h : CallOk E P k al H p H) (hv : IsV p p')
    (hr : DrwQ E P own n ops n0 (i + 1) r K (setD tm (some d) p') H) : DrwQ E P own n ops n0 i (o :: r) K tm H :=
  .call hw (dstOk_of hd hn) ho hf (show _ = al from (show IsV (.agg _) (.agg al) from .agg _ _ ha).eq |> fun e => by simpa using e) hc h (by rw [hd, hv.eq]; exact hr)

/-! ### loops with an invariant -/
def loopR (I : Nat → TM → Heap → Prop) (m : Nat) (Q : Ex → TM → Heap → Prop) : Ex → TM → Heap → Prop
  | .normal => fun tm H => ∃ m', m' < m ∧ I m' tm H
  | .exit i => Q (.exit i)
  | .ret => Q .ret
structure LoopI (I : Nat → TM → Heap → Prop) (m : Nat) (Q : Ex → TM → Heap → Prop) (ex : Ex) (tm : TM) (H : Heap) : Prop where
  out : loopR I m Q ex tm H
theorem LoopI.go {I : Nat → TM → Heap → Prop} {m : Nat} (m' : Nat) (hlt : m' < m) (h : I m' tm H) : LoopI I m Q .normal tm H := ⟨⟨m', hlt, h⟩⟩
theorem LoopI.ret {I : Nat → TM → Heap → Prop} {m : Nat} (h : Q .ret tm H) : LoopI I m Q .ret tm H := ⟨h⟩
theorem LoopI.exit {I : Nat → TM → Heap → Prop} {m i : Nat} (h : Q (.exit i) tm H) : LoopI I m Q (.exit i) tm H := ⟨h⟩
theorem Wp.while {c : Code} (I : Nat → TM → Heap → Prop) (step : ∀ m tm H, I m tm H → Wp E P own n c (LoopI I m Q) tm H) : ∀ (m : Nat) (tm : TM) (H : Heap), I m tm H → Wp E P own n (.loop c) Q tm H := by
  intro m
  induction m using Nat.strongRecOn with
  | _ m ih =>
    intro tm H h
    refine .loop ?_
    obtain ⟨ex, tm', H', h1, ⟨h2⟩⟩ := (step m tm H h).out
    refine ⟨ex, tm', H', h1, ?_⟩
    cases ex with
    | normal =>
      obtain ⟨m', hlt, h3⟩ := h2
      exact .go (ih m' hlt tm' H' h3)
    | exit i => exact .exit h2
    | ret => exact .ret h2

/-! ### slices that may be nil -/
theorem frz1_slV (b : Bool) (es : Nat) (el : List (List PV)) : frz1 (slV b es el) = some (slV b es el) := by
  cases el with
  | nil => cases b <;> rfl
  | cons c r => rfl

theorem frzC_slV (m : Nat) (H : Heap) (b : Bool) (es : Nat) (el : List (List PV)) : frzC m H (slV b es el) = some (slV b es el) := by
  cases el with
  | nil => cases b <;> rfl
  | cons c r => rfl
theorem frzC_int (m : Nat) (H : Heap) (k : IntKind) (n : Int) : frzC m H (.int k n) = some (.int k n) := rfl
theorem frzC_str (m : Nat) (H : Heap) (s : List UInt8) : frzC m H (.str s) = some (.str s) := rfl
theorem frzC_bool (m : Nat) (H : Heap) (b : Bool) : frzC m H (.bool b) = some (.bool b) := rfl
theorem frzC_nils (m : Nat) (H : Heap) : frzC m H .nils = some .nils := rfl
theorem frz3_tup (m : Nat) (H : Heap) (l : List PV) : frz3 m H (.tup l) = match frz2L m H l with | some l' => some (.tup l') | none => none := rfl
theorem frz3_agg (m : Nat) (H : Heap) (l : List PV) : frz3 m H (.agg l) = match frzCL m H l with | some l' => some (.agg l') | none => none := rfl
theorem frz2_agg (m : Nat) (H : Heap) (l : List PV) : frz2 m H (.agg l) = match frzCL m H l with | some l' => some (.agg l') | none => none := rfl
theorem frz2_int (m : Nat) (H : Heap) (k : IntKind) (n : Int) : frz2 m H (.int k n) = some (.int k n) := rfl
theorem frz2_str (m : Nat) (H : Heap) (s : List UInt8) : frz2 m H (.str s) = some (.str s) := rfl
theorem frz2_bool (m : Nat) (H : Heap) (b : Bool) : frz2 m H (.bool b) = some (.bool b) := rfl
theorem frz2_nils (m : Nat) (H : Heap) : frz2 m H .nils = some .nils := rfl
theorem frz2_slV (m : Nat) (H : Heap) (b : Bool) (es : Nat) (el : List (List PV)) : frz2 m H (slV b es el) = some (slV b es el) := by
  cases el with
  | nil => cases b <;> rfl
  | cons c r => rfl
theorem frz3_slV (m : Nat) (H : Heap) (b : Bool) (es : Nat) (el : List (List PV)) : frz3 m H (slV b es el) = some (slV b es el) := by
  cases el with
  | nil => cases b <;> rfl
  | cons c r => rfl

theorem frzG_slV (b : Bool) (es : Nat) (el : List (List PV)) : frzG (slV b es el) = some (slV b es el) := by
  cases el with
  | nil => cases b <;> rfl
  | cons c r => rfl
theorem slV_cons (b : Bool) (es : Nat) (c : List PV) (r : List (List PV)) : slV b es (c :: r) = .sl .none es (c :: r) := rfl
theorem slV_nil_true (es : Nat) : slV true es [] = .nils := rfl
theorem slV_nil_false (es : Nat) : slV false es [] = .sl .none es [] := rfl

theorem aLen_slV {t : TypeId} {ti : TI} {e : TypeId} (ht : E.T t = some ti) (hk : ti.tk = .slice e) (b : Bool) (es : Nat) (el : List (List PV)) (H : Heap) : aLen E t (slV b es el) H = some (.int .i64 (el.length : Int)) := by
  cases el with
  | nil => cases b <;> simp [slV, aLen, ht, hk]
  | cons c r => simp [slV, aLen, ht, hk]

theorem RetQ.fin {fn : Func} {r : PV} {ps ps' : List PV} (h1 : resA E tm H fn.results.toList = some ps) (hp : IsL ps ps') (h2 : frz3 0 H (one ps') = some r) : RetQ E fn r .ret tm H :=
  .ret h1 (by have e := (show IsV (.agg ps) (.agg ps') from .agg _ _ hp).eq; simp only [PV.agg.injEq] at e; rw [e]; exact h2)
theorem RetQ.end {fn : Func} {r v v' : PV} {ps : List PV} (h1 : resA E tm H fn.results.toList = some ps) (h2 : frz3 0 H (one ps) = some v) (hv : IsV v v') (he : v' = r) : RetQ E fn r .ret tm H := .ret h1 (by rw [h2, hv.eq, he])
theorem RetQ.endN {fn : Func} {r v v' : PV} {ps : List PV} (h1 : resA E tm H fn.results.toList = some ps) (h2 : frz3 0 H (one ps) = some v) (hv : IsV v v') (he : v' = r) : RetQ E fn r .normal tm H := .go h1 (by rw [h2, hv.eq, he])

/-- The length of such a slice. -/
theorem RegQ.lenV {all r : List Oper} {o : Oper} {d : Nat} {t ti e x ats b es el} (hw : wantedA all tm o = some true) (hd : o.dst = some d) (hn : Nat.blt d n = true)
    (ho : o.op = .call { callee := .builtin .len, args := #[x], argTypes := ats }) (hts : ats.toList = [t]) (ht : E.T t = some ti) (hk : ti.tk = .slice e) (hx : evalO E tm x = slV b es el)
    (hr : RegQ E P own n all r K (setD tm (some d) (.int .i64 (el.length : Int))) H) : RegQ E P own n all (o :: r) K tm H :=
  .run hw hd hn (p := .int .i64 (el.length : Int)) (by rw [ho]; simp [aOp, aBuiltin, hts, hx, aLen_slV ht hk]) (.int _ _) hr
theorem DrwQ.lenV {ops : Array Oper} {n0 i : Nat} {r : List Oper} {o : Oper} {d : Nat} {t ti e x ats b es el} (hw : wantedA ops.toList tm o = some true) (hd : o.dst = some d) (hn : Nat.blt d n = true)
    (ho : o.op = .call { callee := .builtin .len, args := #[x], argTypes := ats }) (hts : ats.toList = [t]) (ht : E.T t = some ti) (hk : ti.tk = .slice e) (hx : evalO E tm x = slV b es el) (hc : clsO E own o = .qu)
    (hr : DrwQ E P own n ops n0 (i + 1) r K (setD tm (some d) (.int .i64 (el.length : Int))) H) : DrwQ E P own n ops n0 i (o :: r) K tm H :=
  .run hw hd hn (p := .int .i64 (el.length : Int)) (by rw [ho]; simp [aOp, aBuiltin, hts, hx, aLen_slV ht hk]) (.int _ _) (by simp [okD, hc]) hr

theorem aIndexAddr_slV {t : TypeId} {ti ei : TI} {e : TypeId} (ht : E.T t = some ti) (hk : ti.tk = .slice e) (he : E.T e = some ei) {es : Nat} (hes : ei.size = es) (b : Bool) {el : List (List PV)} {k : IntKind} {j : Nat} {cs : List PV} (hj : el[j]? = some cs) :
    aIndexAddr E t (slV b es el) (.int k (j : Int)) = some (.fptr cs 0) := by
  cases el with
  | nil => simp at hj
  | cons c r =>
    have h : nth (c :: r) j = some cs := by rw [nth_eq]; exact hj
    have hn : nat? (.int k (j : Int)) = some j := rfl
    simp [slV, aIndexAddr, ht, hn, hk, he, hes, h]
/-- An element of such a slice. -/
theorem RegQ.idxV {all r : List Oper} {o : Oper} {d : Nat} {t e : TypeId} {ti ei : TI} {x y : Operand} {b : Bool} {es : Nat} {el : List (List PV)} {k : IntKind} {j : Nat} {cs : List PV} (hw : wantedA all tm o = some true) (hd : o.dst = some d) (hn : Nat.blt d n = true)
    (ho : o.op = .indexAddr t x y) (ht : E.T t = some ti) (hk : ti.tk = .slice e) (he : E.T e = some ei) (hes : ei.size = es) (hx : evalO E tm x = slV b es el) (hy : evalO E tm y = .int k (j : Int)) (hj : el[j]? = some cs)
    (hr : RegQ E P own n all r K (setD tm (some d) (.fptr cs 0)) H) : RegQ E P own n all (o :: r) K tm H :=
  .run hw hd hn (p := .fptr cs 0) (by rw [ho]; simp [aOp, hx, hy, aIndexAddr_slV ht hk he hes b hj]) (.fptr _ _) hr
theorem DrwQ.idxV {ops : Array Oper} {n0 i : Nat} {r : List Oper} {o : Oper} {d : Nat} {t e : TypeId} {ti ei : TI} {x y : Operand} {b : Bool} {es : Nat} {el : List (List PV)} {k : IntKind} {j : Nat} {cs : List PV} (hw : wantedA ops.toList tm o = some true) (hd : o.dst = some d) (hn : Nat.blt d n = true)
    (ho : o.op = .indexAddr t x y) (ht : E.T t = some ti) (hk : ti.tk = .slice e) (he : E.T e = some ei) (hes : ei.size = es) (hx : evalO E tm x = slV b es el) (hy : evalO E tm y = .int k (j : Int)) (hj : el[j]? = some cs)
    (hr : DrwQ E P own n ops n0 (i + 1) r K (setD tm (some d) (.fptr cs 0)) H) : DrwQ E P own n ops n0 i (o :: r) K tm H :=
  .run hw hd hn (p := .fptr cs 0) (by rw [ho]; simp [aOp, hx, hy, aIndexAddr_slV ht hk he hes b hj]) (.fptr _ _) (by simp [okD, clsO, ho]) hr

/-! ### by the type of what comes out -/
theorem RegQ.rOp {all r : List Oper} {d : Nat} {OP : Op} {ty : TypeId} {pos : String} {aft : Array Edge} {grd : Option (Nat × Bool)} {p p' : PV} {H1 : Heap} (hw : wantedA all tm ⟨some d, OP, ty, pos, aft, grd⟩ = some true) (hn : Nat.blt d n = true) (h : aOp E (own d) (evalO E tm) OP H = some (p, H1)) (hv : IsV p p')
    (hr : RegQ E P own n all r K (setD tm (some d) p') H1) : RegQ E P own n all (⟨some d, OP, ty, pos, aft, grd⟩ :: r) K tm H := .run hw rfl hn h hv hr
theorem RegQ.rOpH {all r : List Oper} {d : Nat} {OP : Op} {ty : TypeId} {pos : String} {aft : Array Edge} {grd : Option (Nat × Bool)} {p p' : PV} {H1 H1' : Heap} (hw : wantedA all tm ⟨some d, OP, ty, pos, aft, grd⟩ = some true) (hn : Nat.blt d n = true) (h : aOp E (own d) (evalO E tm) OP H = some (p, H1)) (hv : IsV p p') (hh : IsH H1 H1')
    (hr : RegQ E P own n all r K (setD tm (some d) p') H1') : RegQ E P own n all (⟨some d, OP, ty, pos, aft, grd⟩ :: r) K tm H := .runH hw rfl hn h hv hh hr
theorem RegQ.rB {all r : List Oper} {d : Nat} {OP : Op} {ty : TypeId} {pos : String} {aft : Array Edge} {grd : Option (Nat × Bool)} {e : Bool} {H1 : Heap} (hw : wantedA all tm ⟨some d, OP, ty, pos, aft, grd⟩ = some true) (hn : Nat.blt d n = true) (h : aOp E (own d) (evalO E tm) OP H = some (.bool e, H1))
    (ht : e = true → RegQ E P own n all r K (setD tm (some d) (.bool true)) H1) (hf : e = false → RegQ E P own n all r K (setD tm (some d) (.bool false)) H1) : RegQ E P own n all (⟨some d, OP, ty, pos, aft, grd⟩ :: r) K tm H := .runB hw rfl hn h ht hf
theorem RegQ.rSkip {all r : List Oper} {d : Nat} {OP : Op} {ty : TypeId} {pos : String} {aft : Array Edge} {j : Nat} {w : Bool} (hw : wantedA all tm ⟨some d, OP, ty, pos, aft, some (j, w)⟩ = some false) (hn : Nat.blt d n = true)
    (hr : RegQ E P own n all r K (setD tm (some d) unset) H) : RegQ E P own n all (⟨some d, OP, ty, pos, aft, some (j, w)⟩ :: r) K tm H := .skip hw rfl hn hr
theorem cellOk_slV (b : Bool) (es : Nat) (el : List (List PV)) : cellOk (slV b es el) = true := by
  cases el with
  | nil => cases b <;> rfl
  | cons c r => rfl
theorem RegQ.rSt {all r : List Oper} {t : TypeId} {a v : Operand} {ty : TypeId} {pos : String} {aft : Array Edge} {grd : Option (Nat × Bool)} {ti : TI} {cs cs' : List PV} {H1 H1' : Heap} (hw : wantedA all tm ⟨none, .store t a v, ty, pos, aft, grd⟩ = some true) (ht : E.T t = some ti)
    (hcs : (evalO E tm v).cells = cs) (hn : IsL cs cs') (hl : (Nat.beq cs'.length ti.size && Nat.blt 0 ti.size) = true) (hc : cs'.all cellOk = true) (hwr : H.wr (evalO E tm a) cs' = some H1) (hh : IsH H1 H1')
    (hr : RegQ E P own n all r K tm H1') : RegQ E P own n all (⟨none, .store t a v, ty, pos, aft, grd⟩ :: r) K tm H := by
  have e := hn.eq
  subst e
  subst hcs
  simp only [Bool.and_eq_true] at hl
  have h1 := Nat.eq_of_beq_eq_true hl.1
  have h2 : 0 < ti.size := Nat.le_of_ble_eq_true hl.2
  refine .putH (p := .undef) hw rfl ?_ hh hr
  simp only [aOp, ht]
  rw [if_pos ⟨h1, h2, hc⟩, hwr]
  rfl
theorem RegQ.rLen {all r : List Oper} {d : Nat} {x : Operand} {t : TypeId} {ty : TypeId} {pos : String} {aft : Array Edge} {grd : Option (Nat × Bool)} {ti : TI} {e : TypeId} {b : Bool} {es : Nat} {el : List (List PV)} (hw : wantedA all tm ⟨some d, .call { callee := .builtin .len, args := #[x], argTypes := #[t] }, ty, pos, aft, grd⟩ = some true)
    (hn : Nat.blt d n = true) (hx : evalO E tm x = slV b es el) (ht : E.T t = some ti) (hk : ti.tk = .slice e) (hr : RegQ E P own n all r K (setD tm (some d) (.int .i64 (el.length : Int))) H) :
    RegQ E P own n all (⟨some d, .call { callee := .builtin .len, args := #[x], argTypes := #[t] }, ty, pos, aft, grd⟩ :: r) K tm H := .lenV hw rfl hn rfl rfl ht hk hx hr
theorem RegQ.rIdx {all r : List Oper} {d : Nat} {t e : TypeId} {x y : Operand} {ty : TypeId} {pos : String} {aft : Array Edge} {grd : Option (Nat × Bool)} {ti ei : TI} {b : Bool} {es : Nat} {el : List (List PV)} {k : IntKind} {j : Nat} {cs : List PV} (hw : wantedA all tm ⟨some d, .indexAddr t x y, ty, pos, aft, grd⟩ = some true) (hn : Nat.blt d n = true)
    (hx : evalO E tm x = slV b es el) (ht : E.T t = some ti) (hk : ti.tk = .slice e) (he : E.T e = some ei) (hes : ei.size = es) (hy : evalO E tm y = .int k (j : Int)) (hj : el[j]? = some cs)
    (hr : RegQ E P own n all r K (setD tm (some d) (.fptr cs 0)) H) : RegQ E P own n all (⟨some d, .indexAddr t x y, ty, pos, aft, grd⟩ :: r) K tm H := .idxV hw rfl hn rfl ht hk he hes hx hy hj hr
theorem RegQ.rCall {all r : List Oper} {d : Nat} {ty : TypeId} {pos : String} {aft : Array Edge} {grd : Option (Nat × Bool)} {p p' : PV} {H1 : Heap} {f : Operand} {args : Array Operand} {ats : Array TypeId} {k : FuncId} {caps al : List PV}
    (hw : wantedA all tm ⟨some d, .call { callee := .value f, args := args, argTypes := ats }, ty, pos, aft, grd⟩ = some true) (hn : Nat.blt d n = true) (hf : evalO E tm f = .fn k caps) (ha : args.toList.map (evalO E tm) ++ caps = al) (h : CallOk E P k al H p H1) (hv : IsV p p')
    (hr : RegQ E P own n all r K (setD tm (some d) p') H1) : RegQ E P own n all (⟨some d, .call { callee := .value f, args := args, argTypes := ats }, ty, pos, aft, grd⟩ :: r) K tm H :=
  .does hw rfl hn rfl hf (by rw [ha]; exact .any _) h hv hr

theorem DrwQ.rOp {ops : Array Oper} {n0 i : Nat} {r : List Oper} {d : Nat} {OP : Op} {ty : TypeId} {pos : String} {aft : Array Edge} {grd : Option (Nat × Bool)} {p p' : PV} {H1 : Heap} (hw : wantedA ops.toList tm ⟨some d, OP, ty, pos, aft, grd⟩ = some true) (hn : Nat.blt d n = true) (h : aOp E (own d) (evalO E tm) OP H = some (p, H1)) (hv : IsV p p')
    (hk : okD E own n0 tm ⟨some d, OP, ty, pos, aft, grd⟩ H H1 = true) (hr : DrwQ E P own n ops n0 (i + 1) r K (setD tm (some d) p') H1) : DrwQ E P own n ops n0 i (⟨some d, OP, ty, pos, aft, grd⟩ :: r) K tm H := .run hw rfl hn h hv hk hr
theorem DrwQ.rOpH {ops : Array Oper} {n0 i : Nat} {r : List Oper} {d : Nat} {OP : Op} {ty : TypeId} {pos : String} {aft : Array Edge} {grd : Option (Nat × Bool)} {p p' : PV} {H1 H1' : Heap} (hw : wantedA ops.toList tm ⟨some d, OP, ty, pos, aft, grd⟩ = some true) (hn : Nat.blt d n = true) (h : aOp E (own d) (evalO E tm) OP H = some (p, H1)) (hv : IsV p p') (hh : IsH H1 H1')
    (hk : okD E own n0 tm ⟨some d, OP, ty, pos, aft, grd⟩ H H1 = true) (hr : DrwQ E P own n ops n0 (i + 1) r K (setD tm (some d) p') H1') : DrwQ E P own n ops n0 i (⟨some d, OP, ty, pos, aft, grd⟩ :: r) K tm H := .runH hw rfl hn h hv hh hk hr
theorem DrwQ.rB {ops : Array Oper} {n0 i : Nat} {r : List Oper} {d : Nat} {OP : Op} {ty : TypeId} {pos : String} {aft : Array Edge} {grd : Option (Nat × Bool)} {e : Bool} {H1 : Heap} (hw : wantedA ops.toList tm ⟨some d, OP, ty, pos, aft, grd⟩ = some true) (hn : Nat.blt d n = true) (h : aOp E (own d) (evalO E tm) OP H = some (.bool e, H1))
    (hk : okD E own n0 tm ⟨some d, OP, ty, pos, aft, grd⟩ H H1 = true) (ht : e = true → DrwQ E P own n ops n0 (i + 1) r K (setD tm (some d) (.bool true)) H1) (hf : e = false → DrwQ E P own n ops n0 (i + 1) r K (setD tm (some d) (.bool false)) H1) : DrwQ E P own n ops n0 i (⟨some d, OP, ty, pos, aft, grd⟩ :: r) K tm H := .runB hw rfl hn h hk ht hf
theorem DrwQ.rSkip {ops : Array Oper} {n0 i : Nat} {r : List Oper} {d : Nat} {OP : Op} {ty : TypeId} {pos : String} {aft : Array Edge} {j : Nat} {w : Bool} (hw : wantedA ops.toList tm ⟨some d, OP, ty, pos, aft, some (j, w)⟩ = some false) (hn : Nat.blt d n = true)
    (hr : DrwQ E P own n ops n0 (i + 1) r K (setD tm (some d) unset) H) : DrwQ E P own n ops n0 i (⟨some d, OP, ty, pos, aft, some (j, w)⟩ :: r) K tm H := .skip hw rfl hn hr
theorem DrwQ.rLen {ops : Array Oper} {n0 i : Nat} {r : List Oper} {d : Nat} {x : Operand} {t : TypeId} {ty : TypeId} {pos : String} {aft : Array Edge} {grd : Option (Nat × Bool)} {ti : TI} {e : TypeId} {b : Bool} {es : Nat} {el : List (List PV)} (hw : wantedA ops.toList tm ⟨some d, .call { callee := .builtin .len, args := #[x], argTypes := #[t] }, ty, pos, aft, grd⟩ = some true)
    (hn : Nat.blt d n = true) (hx : evalO E tm x = slV b es el) (ht : E.T t = some ti) (hk : ti.tk = .slice e) (hr : DrwQ E P own n ops n0 (i + 1) r K (setD tm (some d) (.int .i64 (el.length : Int))) H) :
    DrwQ E P own n ops n0 i (⟨some d, .call { callee := .builtin .len, args := #[x], argTypes := #[t] }, ty, pos, aft, grd⟩ :: r) K tm H := .lenV hw rfl hn rfl rfl ht hk hx rfl hr
theorem DrwQ.rIdx {ops : Array Oper} {n0 i : Nat} {r : List Oper} {d : Nat} {t e : TypeId} {x y : Operand} {ty : TypeId} {pos : String} {aft : Array Edge} {grd : Option (Nat × Bool)} {ti ei : TI} {b : Bool} {es : Nat} {el : List (List PV)} {k : IntKind} {j : Nat} {cs : List PV} (hw : wantedA ops.toList tm ⟨some d, .indexAddr t x y, ty, pos, aft, grd⟩ = some true) (hn : Nat.blt d n = true)
    (hx : evalO E tm x = slV b es el) (ht : E.T t = some ti) (hk : ti.tk = .slice e) (he : E.T e = some ei) (hes : ei.size = es) (hy : evalO E tm y = .int k (j : Int)) (hj : el[j]? = some cs)
    (hr : DrwQ E P own n ops n0 (i + 1) r K (setD tm (some d) (.fptr cs 0)) H) : DrwQ E P own n ops n0 i (⟨some d, .indexAddr t x y, ty, pos, aft, grd⟩ :: r) K tm H := .idxV hw rfl hn rfl ht hk he hes hx hy hj hr
theorem DrwQ.rCall {ops : Array Oper} {n0 i : Nat} {r : List Oper} {d : Nat} {ty : TypeId} {pos : String} {aft : Array Edge} {grd : Option (Nat × Bool)} {p p' : PV} {f : Operand} {args : Array Operand} {ats : Array TypeId} {k : FuncId} {caps al : List PV}
    (hw : wantedA ops.toList tm ⟨some d, .call { callee := .value f, args := args, argTypes := ats }, ty, pos, aft, grd⟩ = some true) (hn : Nat.blt d n = true) (hf : evalO E tm f = .fn k caps) (ha : args.toList.map (evalO E tm) ++ caps = al) (hc : clsO E own ⟨some d, .call { callee := .value f, args := args, argTypes := ats }, ty, pos, aft, grd⟩ = .qu) (h : CallOk E P k al H p H) (hv : IsV p p')
    (hr : DrwQ E P own n ops n0 (i + 1) r K (setD tm (some d) p') H) : DrwQ E P own n ops n0 i (⟨some d, .call { callee := .value f, args := args, argTypes := ats }, ty, pos, aft, grd⟩ :: r) K tm H :=
  .does hw rfl hn rfl hf (by rw [ha]; exact .any _) hc h hv hr

theorem frzLL_row {el : List (List PV)} (h : frzLL el = some el) : frzLL el = some el := h
/-- A slice of what is written down. -/
theorem RegQ.rBs {all r : List Oper} {d : Nat} {t : TypeId} {m : Nat} {ps : Array (Nat × Operand)} {ty : TypeId} {pos : String} {aft : Array Edge} {grd : Option (Nat × Bool)} {es : Nat} {el el' : List (List PV)} (hw : wantedA all tm ⟨some d, .buildSlice t m ps, ty, pos, aft, grd⟩ = some true) (hn : Nat.blt d n = true)
    (ho : own d = false) (h : aBuildSlice E t m (ps.toList.map fun p => (p.1, evalO E tm p.2)) = some (es, el)) (hl : IsLL el el') (hf : frzLL el' = some el')
    (hr : RegQ E P own n all r K (setD tm (some d) (.sl .full es el')) H) : RegQ E P own n all (⟨some d, .buildSlice t m ps, ty, pos, aft, grd⟩ :: r) K tm H := by
  have e := hl.eq
  subst e
  refine .run hw rfl hn (p := .sl .full es el) ?_ (.any _) hr
  simp only [aOp, h, ho, Bool.false_eq_true, if_false, hf]
end
attribute [irreducible] slV
end Go.Vm
