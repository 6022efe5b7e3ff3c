/-
  Rules for walking code step by step: each value is brought to its head form, each comparison is decided at once.
-/
import Derived.Test.YtgmafijeepapbaaGreatDoorVe
import Derived.IntWalk
import Derived.WideShapes
import Derived.Test.YtgmafijeepapbaaGreatDoorVc
namespace Go.Vm

/-- A slice that is nil or not, with its elements. -/
def slV (b : Bool) (es : Nat) (el : List (List PV)) : PV := match el with
  | [] => match b with | true => .nils | false => .sl .none es []
  | c :: r => .sl .none es (c :: r)

mutual
inductive IsV : PV → PV → Prop
  | bool (b : Bool) : IsV (.bool b) (.bool b)
  | int (k : IntKind) (n : Int) : IsV (.int k n) (.int k n)
  | str (s : List UInt8) : IsV (.str s) (.str s)
  | nilp : IsV .nilp .nilp
  | nils : IsV .nils .nils
  | nilm : IsV .nilm .nilm
  | nilf : IsV .nilf .nilf
  | undef : IsV .undef .undef
  | ptr (a b c d : Nat) : IsV (.ptr a b c d) (.ptr a b c d)
  | fptr (cs : List PV) (o : Nat) : IsV (.fptr cs o) (.fptr cs o)
  | sl (tl : Tail) (es : Nat) (el : List (List PV)) : IsV (.sl tl es el) (.sl tl es el)
  | slV (b : Bool) (es : Nat) (el : List (List PV)) : IsV (slV b es el) (slV b es el)
  | own (a b c d : Nat) : IsV (.own a b c d) (.own a b c d)
  | map (i : Nat) : IsV (.map i) (.map i)
  | fn (f : FuncId) (cs : List PV) : IsV (.fn f cs) (.fn f cs)
  | agg (cs cs' : List PV) (h : IsL cs cs') : IsV (.agg cs) (.agg cs')
  | tup (cs cs' : List PV) (h : IsL cs cs') : IsV (.tup cs) (.tup cs')
  | any (v : PV) : IsV v v
inductive IsL : List PV → List PV → Prop
  | nil : IsL [] []
  | cons (a a' : PV) (l l' : List PV) (h : IsV a a') (hl : IsL l l') : IsL (a :: l) (a' :: l')
  | any (l : List PV) : IsL l l
end
theorem IsV.eq {a b : PV} (h : IsV a b) : a = b := by
  refine @IsV.rec (fun a b _ => a = b) (fun a b _ => a = b) ?_ ?_ ?_ ?_ ?_ ?_ ?_ ?_ ?_ ?_ ?_ ?_ ?_ ?_ ?_ ?_ ?_ ?_ ?_ ?_ ?_ a b h
  all_goals intros
  all_goals first | rfl | (simp_all; done)

theorem IsL.eq {a b : List PV} (h : IsL a b) : a = b := by
  have e := (show IsV (.agg a) (.agg b) from .agg _ _ h).eq
  simpa using e
theorem IsV.ptr4 {a b c d a' b' c' d' : Nat} (h1 : a = a') (h2 : b = b') (h3 : c = c') (h4 : d = d') : IsV (.ptr a b c d) (.ptr a' b' c' d') := by
  subst h1 h2 h3 h4; exact .ptr _ _ _ _
inductive IsLL : List (List PV) → List (List PV) → Prop
  | nil : IsLL [] []
  | cons (a a' : List PV) (l l' : List (List PV)) (h : IsL a a') (hl : IsLL l l') : IsLL (a :: l) (a' :: l')
  | any (l : List (List PV)) : IsLL l l
theorem IsLL.eq {a b : List (List PV)} (h : IsLL a b) : a = b := by
  induction h with
  | nil => rfl
  | cons a a' l l' h _ ih => rw [h.eq, ih]
  | any => rfl
inductive IsBL : List Box → List Box → Prop
  | nil : IsBL [] []
  | cells (es es' : Nat) (el el' : List (List PV)) (l l' : List Box) (he : es = es') (h : IsLL el el') (hl : IsBL l l') : IsBL (.cells es el :: l) (.cells es' el' :: l')
  | cons (b : Box) (l l' : List Box) (hl : IsBL l l') : IsBL (b :: l) (b :: l')
  | any (l : List Box) : IsBL l l
theorem IsBL.eq {a b : List Box} (h : IsBL a b) : a = b := by
  induction h with
  | nil => rfl
  | cells _ _ _ _ _ _ he h _ ih => rw [he, h.eq, ih]
  | cons _ _ _ _ ih => rw [ih]
  | any => rfl
inductive IsH : Heap → Heap → Prop
  | mk (bx bx' : List Box) (ro ro' nt nt' : Nat) (lv lv' : List Nat) (h : IsBL bx bx') (h1 : ro = ro') (h2 : lv = lv') (h3 : nt = nt') : IsH ⟨bx, ro, lv, nt⟩ ⟨bx', ro', lv', nt'⟩
theorem IsH.eq {a b : Heap} (h : IsH a b) : a = b := by
  cases h with | mk _ _ _ _ _ _ _ _ h h1 h2 h3 => rw [h.eq, h1, h2, h3]

section
variable {E : Env} {P : Program} {own : Tmp → Bool} {n : Nat} {Q : Ex → TM → Heap → Prop} {K : TM → Heap → Prop} {tm : TM} {H : Heap}

theorem dstOk_of {o : Oper} {d : Nat} (hd : o.dst = some d) (hn : Nat.blt d n = true) : dstOk n o = true := by simp only [dstOk, hd, hn]

/-- An operation whose value is brought to its head form. -/
theorem RegQ.run {all r : List Oper} {o : Oper} {d : Nat} {p p' : PV} {H1 : Heap} (hw : wantedA all tm o = some true) (hd : o.dst = some d) (hn : Nat.blt d n = true) (h : aOp E (own d) (evalO E tm) o.op H = some (p, H1)) (hv : IsV p p')
    (hr : RegQ E P own n all r K (setD tm (some d) p') H1) : RegQ E P own n all (o :: r) K tm H :=
  .op hw (dstOk_of hd hn) (p := p) (by rw [hd]; exact h) (by rw [hd, hv.eq]; exact hr)
/-- A store. -/
theorem RegQ.put {all r : List Oper} {o : Oper} {p : PV} {H1 : Heap} (hw : wantedA all tm o = some true) (hd : o.dst = none) (h : aOp E (own 0) (evalO E tm) o.op H = some (p, H1))
    (hr : RegQ E P own n all r K tm H1) : RegQ E P own n all (o :: r) K tm H :=
  .op hw (by simp only [dstOk, hd]) (p := p) (by rw [hd]; exact h) (by rw [hd]; exact hr)
theorem RegQ.runH {all r : List Oper} {o : Oper} {d : Nat} {p p' : PV} {H1 H1' : Heap} (hw : wantedA all tm o = some true) (hd : o.dst = some d) (hn : Nat.blt d n = true) (h : aOp E (own d) (evalO E tm) o.op H = some (p, H1)) (hv : IsV p p') (hh : IsH H1 H1')
    (hr : RegQ E P own n all r K (setD tm (some d) p') H1') : RegQ E P own n all (o :: r) K tm H :=
  .run hw hd hn h hv (by rw [hh.eq]; exact hr)
theorem RegQ.putH {all r : List Oper} {o : Oper} {p : PV} {H1 H1' : Heap} (hw : wantedA all tm o = some true) (hd : o.dst = none) (h : aOp E (own 0) (evalO E tm) o.op H = some (p, H1)) (hh : IsH H1 H1')
    (hr : RegQ E P own n all r K tm H1') : RegQ E P own n all (o :: r) K tm H :=
  .put hw hd h (by rw [hh.eq]; exact hr)
/-- A comparison. -/
theorem RegQ.runB {all r : List Oper} {o : Oper} {d : Nat} {e : Bool} {H1 : Heap} (hw : wantedA all tm o = some true) (hd : o.dst = some d) (hn : Nat.blt d n = true) (h : aOp E (own d) (evalO E tm) o.op H = some (.bool e, H1))
    (ht : e = true → RegQ E P own n all r K (setD tm (some d) (.bool true)) H1) (hf : e = false → RegQ E P own n all r K (setD tm (some d) (.bool false)) H1) : RegQ E P own n all (o :: r) K tm H := by
  cases e with
  | true => exact .run hw hd hn h (.bool _) (ht rfl)
  | false => exact .run hw hd hn h (.bool _) (hf rfl)
theorem RegQ.skip {all r : List Oper} {o : Oper} {d : Nat} (hw : wantedA all tm o = some false) (hd : o.dst = some d) (hn : Nat.blt d n = true) (hr : RegQ E P own n all r K (setD tm (some d) unset) H) : RegQ E P own n all (o :: r) K tm H :=
  .pass hw (dstOk_of hd hn) (by rw [hd]; exact hr)
theorem RegQ.skip0 {all r : List Oper} {o : Oper} (hw : wantedA all tm o = some false) (hd : o.dst = none) (hr : RegQ E P own n all r K tm H) : RegQ E P own n all (o :: r) K tm H :=
  .pass hw (by simp only [dstOk, hd]) (by rw [hd]; exact hr)
/-- A call of what is known by a contract. -/
theorem RegQ.does {all r : List Oper} {o : Oper} {d : Nat} {p p' : PV} {H1 : Heap} {f : Operand} {args : Array Operand} {ats : Array TypeId} {k : FuncId} {caps al : List PV} (hw : wantedA all tm o = some true) (hd : o.dst = some d) (hn : Nat.blt d n = true)
    (ho : o.op = .call { callee := .value f, args := args, argTypes := ats }) (hf : evalO E tm f = .fn k caps) (ha : IsL (args.toList.map (evalO E tm) ++ caps) al) (h : CallOk E P k al H p H1) (hv : IsV p p')
    (hr : RegQ E P own n all r K (setD tm (some d) p') H1) : RegQ E P own n all (o :: r) K tm H :=
  .call hw (dstOk_of hd hn) ho hf (show _ = al from (show IsV (.agg _) (.agg al) from .agg _ _ ha).eq |> fun e => by simpa using e) h (by rw [hd, hv.eq]; exact hr)

theorem DrwQ.run {ops : Array Oper} {n0 i : Nat} {r : List Oper} {o : Oper} {d : Nat} {p p' : PV} {H1 : Heap} (hw : wantedA ops.toList tm o = some true) (hd : o.dst = some d) (hn : Nat.blt d n = true) (h : aOp E (own d) (evalO E tm) o.op H = some (p, H1)) (hv : IsV p p')
    (hk : okD E own n0 tm o H H1 = true) (hr : DrwQ E P own n ops n0 (i + 1) r K (setD tm (some d) p') H1) : DrwQ E P own n ops n0 i (o :: r) K tm H :=
  .op hw (dstOk_of hd hn) (p := p) (by rw [hd]; exact h) hk (by rw [hd, hv.eq]; exact hr)
theorem DrwQ.runH {ops : Array Oper} {n0 i : Nat} {r : List Oper} {o : Oper} {d : Nat} {p p' : PV} {H1 H1' : Heap} (hw : wantedA ops.toList tm o = some true) (hd : o.dst = some d) (hn : Nat.blt d n = true) (h : aOp E (own d) (evalO E tm) o.op H = some (p, H1)) (hv : IsV p p') (hh : IsH H1 H1')
    (hk : okD E own n0 tm o H H1 = true) (hr : DrwQ E P own n ops n0 (i + 1) r K (setD tm (some d) p') H1') : DrwQ E P own n ops n0 i (o :: r) K tm H :=
  .run hw hd hn h hv hk (by rw [hh.eq]; exact hr)
theorem DrwQ.runB {ops : Array Oper} {n0 i : Nat} {r : List Oper} {o : Oper} {d : Nat} {e : Bool} {H1 : Heap} (hw : wantedA ops.toList tm o = some true) (hd : o.dst = some d) (hn : Nat.blt d n = true) (h : aOp E (own d) (evalO E tm) o.op H = some (.bool e, H1))
    (hk : okD E own n0 tm o H H1 = true) (ht : e = true → DrwQ E P own n ops n0 (i + 1) r K (setD tm (some d) (.bool true)) H1) (hf : e = false → DrwQ E P own n ops n0 (i + 1) r K (setD tm (some d) (.bool false)) H1) : DrwQ E P own n ops n0 i (o :: r) K tm H := by
  cases e with
  | true => exact .run hw hd hn h (.bool _) hk (ht rfl)
  | false => exact .run hw hd hn h (.bool _) hk (hf rfl)
theorem DrwQ.skip {ops : Array Oper} {n0 i : Nat} {r : List Oper} {o : Oper} {d : Nat} (hw : wantedA ops.toList tm o = some false) (hd : o.dst = some d) (hn : Nat.blt d n = true) (hr : DrwQ E P own n ops n0 (i + 1) r K (setD tm (some d) unset) H) : DrwQ E P own n ops n0 i (o :: r) K tm H :=
  .pass hw (dstOk_of hd hn) (by rw [hd]; exact hr)
theorem DrwQ.does {ops : Array Oper} {n0 i : Nat} {r : List Oper} {o : Oper} {d : Nat} {p p' : PV} {f : Operand} {args : Array Operand} {ats : Array TypeId} {k : FuncId} {caps al : List PV} (hw : wantedA ops.toList tm o = some true) (hd : o.dst = some d) (hn : Nat.blt d n = true)
    (ho : o.op = .call { callee := .value f, args := args, argTypes := ats }) (hf : evalO E tm f = .fn k caps) (ha : IsL (args.toList.map (evalO E tm) ++ caps) al) (hc : clsO E own o = .qu) (h : CallOk E P k al H p H) (hv : IsV p p')
    (hr : DrwQ E P own n ops n0 (i + 1) r K (setD tm (some d) p') H) : DrwQ E P own n ops n0 i (o :: r) K tm H :=
  .call hw (dstOk_of hd hn) ho hf (show _ = al from (show IsV (.agg _) (.agg al) from .agg _ _ ha).eq |> fun e => by simpa using e) hc h (by rw [hd, hv.eq]; exact hr)

/-! ### loops with an invariant -/
def loopR (I : Nat → TM → Heap → Prop) (m : Nat) (Q : Ex → TM → Heap → Prop) : Ex → TM → Heap → Prop
  | .normal => fun tm H => ∃ m', m' < m ∧ I m' tm H
  | .exit i => Q (.exit i)
  | .ret => Q .ret
structure LoopI (I : Nat → TM → Heap → Prop) (m : Nat) (Q : Ex → TM → Heap → Prop) (ex : Ex) (tm : TM) (H : Heap) : Prop where
  out : loopR I m Q ex tm H
theorem LoopI.go {I : Nat → TM → Heap → Prop} {m : Nat} (m' : Nat) (hlt : m' < m) (h : I m' tm H) : LoopI I m Q .normal tm H := ⟨⟨m', hlt, h⟩⟩
theorem LoopI.ret {I : Nat → TM → Heap → Prop} {m : Nat} (h : Q .ret tm H) : LoopI I m Q .ret tm H := ⟨h⟩
theorem LoopI.exit {I : Nat → TM → Heap → Prop} {m i : Nat} (h : Q (.exit i) tm H) : LoopI I m Q (.exit i) tm H := ⟨h⟩
theorem Wp.while {c : Code} (I : Nat → TM → Heap → Prop) (step : ∀ m tm H, I m tm H → Wp E P own n c (LoopI I m Q) tm H) : ∀ (m : Nat) (tm : TM) (H : Heap), I m tm H → Wp E P own n (.loop c) Q tm H := by
  intro m
  induction m using Nat.strongRecOn with
  | _ m ih =>
    intro tm H h
    refine .loop ?_
    obtain ⟨ex, tm', H', h1, ⟨h2⟩⟩ := (step m tm H h).out
    refine ⟨ex, tm', H', h1, ?_⟩
    cases ex with
    | normal =>
      obtain ⟨m', hlt, h3⟩ := h2
      exact .go (ih m' hlt tm' H' h3)
    | exit i => exact .exit h2
    | ret => exact .ret h2

/-! ### slices that may be nil -/
theorem frz1_slV (b : Bool) (es : Nat) (el : List (List PV)) : frz1 (slV b es el) = some (slV b es el) := by
  cases el with
  | nil => cases b <;> rfl
  | cons c r => rfl

theorem frzC_slV (m : Nat) (H : Heap) (b : Bool) (es : Nat) (el : List (List PV)) : frzC m H (slV b es el) = some (slV b es el) := by
  cases el with
  | nil => cases b <;> rfl
  | cons c r => rfl
theorem frzC_int (m : Nat) (H : Heap) (k : IntKind) (n : Int) : frzC m H (.int k n) = some (.int k n) := rfl
theorem frzC_str (m : Nat) (H : Heap) (s : List UInt8) : frzC m H (.str s) = some (.str s) := rfl
theorem frzC_bool (m : Nat) (H : Heap) (b : Bool) : frzC m H (.bool b) = some (.bool b) := rfl
theorem frzC_nils (m : Nat) (H : Heap) : frzC m H .nils = some .nils := rfl
theorem frz3_tup (m : Nat) (H : Heap) (l : List PV) : frz3 m H (.tup l) = match frz2L m H l with | some l' => some (.tup l') | none => none := rfl
theorem frz3_agg (m : Nat) (H : Heap) (l : List PV) : frz3 m H (.agg l) = match frzCL m H l with | some l' => some (.agg l') | none => none := rfl
theorem frz2_agg (m : Nat) (H : Heap) (l : List PV) : frz2 m H (.agg l) = match frzCL m H l with | some l' => some (.agg l') | none => none := rfl
theorem frz2_int (m : Nat) (H : Heap) (k : IntKind) (n : Int) : frz2 m H (.int k n) = some (.int k n) := rfl
theorem frz2_str (m : Nat) (H : Heap) (s : List UInt8) : frz2 m H (.str s) = some (.str s) := rfl
theorem frz2_bool (m : Nat) (H : Heap) (b : Bool) : frz2 m H (.bool b) = some (.bool b) := rfl
theorem frz2_nils (m : Nat) (H : Heap) : frz2 m H .nils = some .nils := rfl
theorem frz2_slV (m : Nat) (H : Heap) (b : Bool) (es : Nat) (el : List (List PV)) : frz2 m H (slV b es el) = some (slV b es el) := by
  cases el with
  | nil => cases b <;> rfl
  | cons c r => rfl
theorem frz3_slV (m : Nat) (H : Heap) (b : Bool) (es : Nat) (el : List (List PV)) : frz3 m H (slV b es el) = some (slV b es el) := by
  cases el with
  | nil => cases b <;> rfl
  | cons c r => rfl

theorem frzG_slV (b : Bool) (es : Nat) (el : List (List PV)) : frzG (slV b es el) = some (slV b es el) := by
  cases el with
  | nil => cases b <;> rfl
  | cons c r => rfl
theorem slV_cons (b : Bool) (es : Nat) (c : List PV) (r : List (List PV)) : slV b es (c :: r) = .sl .none es (c :: r) := rfl
theorem slV_nil_true (es : Nat) : slV true es [] = .nils := rfl
theorem slV_nil_false (es : Nat) : slV false es [] = .sl .none es [] := rfl

theorem argV_slV (b : Bool) (es : Nat) (el : List (List PV)) : argV (slV b es el) = slV b es el := by
  cases el with
  | nil => cases b <;> rfl
  | cons c r => rfl
theorem aLen_slV {t : TypeId} {ti : TI} {e : TypeId} (ht : E.T t = some ti) (hk : ti.tk = .slice e) (b : Bool) (es : Nat) (el : List (List PV)) (H : Heap) : aLen E t (slV b es el) H = some (.int .i64 (el.length : Int)) := by
  cases el with
  | nil => cases b <;> simp [slV, aLen, ht, hk]
  | cons c r => simp [slV, aLen, ht, hk]

theorem RetQ.fin {fn : Func} {r : PV} {ps ps' : List PV} (h1 : resA E tm H fn.results.toList = some ps) (hp : IsL ps ps') (h2 : frz3 0 H (one ps') = some r) : RetQ E fn r .ret tm H :=
  .ret h1 (by have e := (show IsV (.agg ps) (.agg ps') from .agg _ _ hp).eq; simp only [PV.agg.injEq] at e; rw [e]; exact h2)
theorem RetQ.end {fn : Func} {r v v' : PV} {ps : List PV} (h1 : resA E tm H fn.results.toList = some ps) (h2 : frz3 0 H (one ps) = some v) (hv : IsV v v') (he : v' = r) : RetQ E fn r .ret tm H := .ret h1 (by rw [h2, hv.eq, he])
theorem RetQ.endN {fn : Func} {r v v' : PV} {ps : List PV} (h1 : resA E tm H fn.results.toList = some ps) (h2 : frz3 0 H (one ps) = some v) (hv : IsV v v') (he : v' = r) : RetQ E fn r .normal tm H := .go h1 (by rw [h2, hv.eq, he])

/-- The length of such a slice. -/
theorem RegQ.lenV {all r : List Oper} {o : Oper} {d : Nat} {t ti e x ats b es el} (hw : wantedA all tm o = some true) (hd : o.dst = some d) (hn : Nat.blt d n = true)
    (ho : o.op = .call { callee := .builtin .len, args := #[x], argTypes := ats }) (hts : ats.toList = [t]) (ht : E.T t = some ti) (hk : ti.tk = .slice e) (hx : evalO E tm x = slV b es el)
    (hr : RegQ E P own n all r K (setD tm (some d) (.int .i64 (el.length : Int))) H) : RegQ E P own n all (o :: r) K tm H :=
  .run hw hd hn (p := .int .i64 (el.length : Int)) (by rw [ho]; simp [aOp, aBuiltin, hts, hx, aLen_slV ht hk]) (.int _ _) hr
theorem DrwQ.lenV {ops : Array Oper} {n0 i : Nat} {r : List Oper} {o : Oper} {d : Nat} {t ti e x ats b es el} (hw : wantedA ops.toList tm o = some true) (hd : o.dst = some d) (hn : Nat.blt d n = true)
    (ho : o.op = .call { callee := .builtin .len, args := #[x], argTypes := ats }) (hts : ats.toList = [t]) (ht : E.T t = some ti) (hk : ti.tk = .slice e) (hx : evalO E tm x = slV b es el) (hc : clsO E own o = .qu)
    (hr : DrwQ E P own n ops n0 (i + 1) r K (setD tm (some d) (.int .i64 (el.length : Int))) H) : DrwQ E P own n ops n0 i (o :: r) K tm H :=
  .run hw hd hn (p := .int .i64 (el.length : Int)) (by rw [ho]; simp [aOp, aBuiltin, hts, hx, aLen_slV ht hk]) (.int _ _) (by simp [okD, hc]) hr

theorem aIndexAddr_slV {t : TypeId} {ti ei : TI} {e : TypeId} (ht : E.T t = some ti) (hk : ti.tk = .slice e) (he : E.T e = some ei) {es : Nat} (hes : ei.size = es) (b : Bool) {el : List (List PV)} {k : IntKind} {j : Nat} {cs : List PV} (hj : el[j]? = some cs) :
    aIndexAddr E t (slV b es el) (.int k (j : Int)) = some (.fptr cs 0) := by
  cases el with
  | nil => simp at hj
  | cons c r =>
    have h : nth (c :: r) j = some cs := by rw [nth_eq]; exact hj
    have hn : nat? (.int k (j : Int)) = some j := rfl
    simp [slV, aIndexAddr, ht, hn, hk, he, hes, h]
/-- An element of such a slice. -/
theorem RegQ.idxV {all r : List Oper} {o : Oper} {d : Nat} {t e : TypeId} {ti ei : TI} {x y : Operand} {b : Bool} {es : Nat} {el : List (List PV)} {k : IntKind} {j : Nat} {cs : List PV} (hw : wantedA all tm o = some true) (hd : o.dst = some d) (hn : Nat.blt d n = true)
    (ho : o.op = .indexAddr t x y) (ht : E.T t = some ti) (hk : ti.tk = .slice e) (he : E.T e = some ei) (hes : ei.size = es) (hx : evalO E tm x = slV b es el) (hy : evalO E tm y = .int k (j : Int)) (hj : el[j]? = some cs)
    (hr : RegQ E P own n all r K (setD tm (some d) (.fptr cs 0)) H) : RegQ E P own n all (o :: r) K tm H :=
  .run hw hd hn (p := .fptr cs 0) (by rw [ho]; simp [aOp, hx, hy, aIndexAddr_slV ht hk he hes b hj]) (.fptr _ _) hr
theorem DrwQ.idxV {ops : Array Oper} {n0 i : Nat} {r : List Oper} {o : Oper} {d : Nat} {t e : TypeId} {ti ei : TI} {x y : Operand} {b : Bool} {es : Nat} {el : List (List PV)} {k : IntKind} {j : Nat} {cs : List PV} (hw : wantedA ops.toList tm o = some true) (hd : o.dst = some d) (hn : Nat.blt d n = true)
    (ho : o.op = .indexAddr t x y) (ht : E.T t = some ti) (hk : ti.tk = .slice e) (he : E.T e = some ei) (hes : ei.size = es) (hx : evalO E tm x = slV b es el) (hy : evalO E tm y = .int k (j : Int)) (hj : el[j]? = some cs)
    (hr : DrwQ E P own n ops n0 (i + 1) r K (setD tm (some d) (.fptr cs 0)) H) : DrwQ E P own n ops n0 i (o :: r) K tm H :=
  .run hw hd hn (p := .fptr cs 0) (by rw [ho]; simp [aOp, hx, hy, aIndexAddr_slV ht hk he hes b hj]) (.fptr _ _) (by simp [okD, clsO, ho]) hr

/-! ### by the type of what comes out -/
theorem RegQ.rOp {all r : List Oper} {d : Nat} {OP : Op} {ty : TypeId} {pos : String} {aft : Array Edge} {grd : Option (Nat × Bool)} {p p' : PV} {H1 : Heap} (hw : wantedA all tm ⟨some d, OP, ty, pos, aft, grd⟩ = some true) (hn : Nat.blt d n = true) (h : aOp E (own d) (evalO E tm) OP H = some (p, H1)) (hv : IsV p p')
    (hr : RegQ E P own n all r K (setD tm (some d) p') H1) : RegQ E P own n all (⟨some d, OP, ty, pos, aft, grd⟩ :: r) K tm H := .run hw rfl hn h hv hr
theorem RegQ.rOpH {all r : List Oper} {d : Nat} {OP : Op} {ty : TypeId} {pos : String} {aft : Array Edge} {grd : Option (Nat × Bool)} {p p' : PV} {H1 H1' : Heap} (hw : wantedA all tm ⟨some d, OP, ty, pos, aft, grd⟩ = some true) (hn : Nat.blt d n = true) (h : aOp E (own d) (evalO E tm) OP H = some (p, H1)) (hv : IsV p p') (hh : IsH H1 H1')
    (hr : RegQ E P own n all r K (setD tm (some d) p') H1') : RegQ E P own n all (⟨some d, OP, ty, pos, aft, grd⟩ :: r) K tm H := .runH hw rfl hn h hv hh hr
theorem RegQ.rB {all r : List Oper} {d : Nat} {OP : Op} {ty : TypeId} {pos : String} {aft : Array Edge} {grd : Option (Nat × Bool)} {e : Bool} {H1 : Heap} (hw : wantedA all tm ⟨some d, OP, ty, pos, aft, grd⟩ = some true) (hn : Nat.blt d n = true) (h : aOp E (own d) (evalO E tm) OP H = some (.bool e, H1))
    (ht : e = true → RegQ E P own n all r K (setD tm (some d) (.bool true)) H1) (hf : e = false → RegQ E P own n all r K (setD tm (some d) (.bool false)) H1) : RegQ E P own n all (⟨some d, OP, ty, pos, aft, grd⟩ :: r) K tm H := .runB hw rfl hn h ht hf
theorem RegQ.rSkip {all r : List Oper} {d : Nat} {OP : Op} {ty : TypeId} {pos : String} {aft : Array Edge} {j : Nat} {w : Bool} (hw : wantedA all tm ⟨some d, OP, ty, pos, aft, some (j, w)⟩ = some false) (hn : Nat.blt d n = true)
    (hr : RegQ E P own n all r K (setD tm (some d) unset) H) : RegQ E P own n all (⟨some d, OP, ty, pos, aft, some (j, w)⟩ :: r) K tm H := .skip hw rfl hn hr
theorem cellOk_slV (b : Bool) (es : Nat) (el : List (List PV)) : cellOk (slV b es el) = true := by
  cases el with
  | nil => cases b <;> rfl
  | cons c r => rfl
theorem RegQ.rSt {all r : List Oper} {t : TypeId} {a v : Operand} {ty : TypeId} {pos : String} {aft : Array Edge} {grd : Option (Nat × Bool)} {ti : TI} {cs cs' : List PV} {H1 H1' : Heap} (hw : wantedA all tm ⟨none, .store t a v, ty, pos, aft, grd⟩ = some true) (ht : E.T t = some ti)
    (hcs : (evalO E tm v).cells = cs) (hn : IsL cs cs') (hl : (Nat.beq cs'.length ti.size && Nat.blt 0 ti.size) = true) (hc : cs'.all cellOk = true) (hwr : H.wr (evalO E tm a) cs' = some H1) (hh : IsH H1 H1')
    (hr : RegQ E P own n all r K tm H1') : RegQ E P own n all (⟨none, .store t a v, ty, pos, aft, grd⟩ :: r) K tm H := by
  have e := hn.eq
  subst e
  subst hcs
  simp only [Bool.and_eq_true] at hl
  have h1 := Nat.eq_of_beq_eq_true hl.1
  have h2 : 0 < ti.size := Nat.le_of_ble_eq_true hl.2
  refine .putH (p := .undef) hw rfl ?_ hh hr
  simp only [aOp, ht]
  rw [if_pos ⟨h1, h2, hc⟩, hwr]
  rfl
theorem RegQ.rLen {all r : List Oper} {d : Nat} {x : Operand} {t : TypeId} {ty : TypeId} {pos : String} {aft : Array Edge} {grd : Option (Nat × Bool)} {ti : TI} {e : TypeId} {b : Bool} {es : Nat} {el : List (List PV)} (hw : wantedA all tm ⟨some d, .call { callee := .builtin .len, args := #[x], argTypes := #[t] }, ty, pos, aft, grd⟩ = some true)
    (hn : Nat.blt d n = true) (hx : evalO E tm x = slV b es el) (ht : E.T t = some ti) (hk : ti.tk = .slice e) (hr : RegQ E P own n all r K (setD tm (some d) (.int .i64 (el.length : Int))) H) :
    RegQ E P own n all (⟨some d, .call { callee := .builtin .len, args := #[x], argTypes := #[t] }, ty, pos, aft, grd⟩ :: r) K tm H := .lenV hw rfl hn rfl rfl ht hk hx hr
theorem RegQ.rIdx {all r : List Oper} {d : Nat} {t e : TypeId} {x y : Operand} {ty : TypeId} {pos : String} {aft : Array Edge} {grd : Option (Nat × Bool)} {ti ei : TI} {b : Bool} {es : Nat} {el : List (List PV)} {k : IntKind} {j : Nat} {cs : List PV} (hw : wantedA all tm ⟨some d, .indexAddr t x y, ty, pos, aft, grd⟩ = some true) (hn : Nat.blt d n = true)
    (hx : evalO E tm x = slV b es el) (ht : E.T t = some ti) (hk : ti.tk = .slice e) (he : E.T e = some ei) (hes : ei.size = es) (hy : evalO E tm y = .int k (j : Int)) (hj : el[j]? = some cs)
    (hr : RegQ E P own n all r K (setD tm (some d) (.fptr cs 0)) H) : RegQ E P own n all (⟨some d, .indexAddr t x y, ty, pos, aft, grd⟩ :: r) K tm H := .idxV hw rfl hn rfl ht hk he hes hx hy hj hr
theorem RegQ.rCall {all r : List Oper} {d : Nat} {ty : TypeId} {pos : String} {aft : Array Edge} {grd : Option (Nat × Bool)} {p p' : PV} {H1 : Heap} {f : Operand} {args : Array Operand} {ats : Array TypeId} {k : FuncId} {caps al : List PV}
    (hw : wantedA all tm ⟨some d, .call { callee := .value f, args := args, argTypes := ats }, ty, pos, aft, grd⟩ = some true) (hn : Nat.blt d n = true) (hf : evalO E tm f = .fn k caps) (ha : args.toList.map (evalO E tm) ++ caps = al) (h : CallOk E P k al H p H1) (hv : IsV p p')
    (hr : RegQ E P own n all r K (setD tm (some d) p') H1) : RegQ E P own n all (⟨some d, .call { callee := .value f, args := args, argTypes := ats }, ty, pos, aft, grd⟩ :: r) K tm H :=
  .does hw rfl hn rfl hf (by rw [ha]; exact .any _) h hv hr

theorem DrwQ.rOp {ops : Array Oper} {n0 i : Nat} {r : List Oper} {d : Nat} {OP : Op} {ty : TypeId} {pos : String} {aft : Array Edge} {grd : Option (Nat × Bool)} {p p' : PV} {H1 : Heap} (hw : wantedA ops.toList tm ⟨some d, OP, ty, pos, aft, grd⟩ = some true) (hn : Nat.blt d n = true) (h : aOp E (own d) (evalO E tm) OP H = some (p, H1)) (hv : IsV p p')
    (hk : okD E own n0 tm ⟨some d, OP, ty, pos, aft, grd⟩ H H1 = true) (hr : DrwQ E P own n ops n0 (i + 1) r K (setD tm (some d) p') H1) : DrwQ E P own n ops n0 i (⟨some d, OP, ty, pos, aft, grd⟩ :: r) K tm H := .run hw rfl hn h hv hk hr
theorem DrwQ.rOpH {ops : Array Oper} {n0 i : Nat} {r : List Oper} {d : Nat} {OP : Op} {ty : TypeId} {pos : String} {aft : Array Edge} {grd : Option (Nat × Bool)} {p p' : PV} {H1 H1' : Heap} (hw : wantedA ops.toList tm ⟨some d, OP, ty, pos, aft, grd⟩ = some true) (hn : Nat.blt d n = true) (h : aOp E (own d) (evalO E tm) OP H = some (p, H1)) (hv : IsV p p') (hh : IsH H1 H1')
    (hk : okD E own n0 tm ⟨some d, OP, ty, pos, aft, grd⟩ H H1 = true) (hr : DrwQ E P own n ops n0 (i + 1) r K (setD tm (some d) p') H1') : DrwQ E P own n ops n0 i (⟨some d, OP, ty, pos, aft, grd⟩ :: r) K tm H := .runH hw rfl hn h hv hh hk hr
theorem DrwQ.rB {ops : Array Oper} {n0 i : Nat} {r : List Oper} {d : Nat} {OP : Op} {ty : TypeId} {pos : String} {aft : Array Edge} {grd : Option (Nat × Bool)} {e : Bool} {H1 : Heap} (hw : wantedA ops.toList tm ⟨some d, OP, ty, pos, aft, grd⟩ = some true) (hn : Nat.blt d n = true) (h : aOp E (own d) (evalO E tm) OP H = some (.bool e, H1))
    (hk : okD E own n0 tm ⟨some d, OP, ty, pos, aft, grd⟩ H H1 = true) (ht : e = true → DrwQ E P own n ops n0 (i + 1) r K (setD tm (some d) (.bool true)) H1) (hf : e = false → DrwQ E P own n ops n0 (i + 1) r K (setD tm (some d) (.bool false)) H1) : DrwQ E P own n ops n0 i (⟨some d, OP, ty, pos, aft, grd⟩ :: r) K tm H := .runB hw rfl hn h hk ht hf
theorem DrwQ.rSkip {ops : Array Oper} {n0 i : Nat} {r : List Oper} {d : Nat} {OP : Op} {ty : TypeId} {pos : String} {aft : Array Edge} {j : Nat} {w : Bool} (hw : wantedA ops.toList tm ⟨some d, OP, ty, pos, aft, some (j, w)⟩ = some false) (hn : Nat.blt d n = true)
    (hr : DrwQ E P own n ops n0 (i + 1) r K (setD tm (some d) unset) H) : DrwQ E P own n ops n0 i (⟨some d, OP, ty, pos, aft, some (j, w)⟩ :: r) K tm H := .skip hw rfl hn hr
theorem DrwQ.rLen {ops : Array Oper} {n0 i : Nat} {r : List Oper} {d : Nat} {x : Operand} {t : TypeId} {ty : TypeId} {pos : String} {aft : Array Edge} {grd : Option (Nat × Bool)} {ti : TI} {e : TypeId} {b : Bool} {es : Nat} {el : List (List PV)} (hw : wantedA ops.toList tm ⟨some d, .call { callee := .builtin .len, args := #[x], argTypes := #[t] }, ty, pos, aft, grd⟩ = some true)
    (hn : Nat.blt d n = true) (hx : evalO E tm x = slV b es el) (ht : E.T t = some ti) (hk : ti.tk = .slice e) (hr : DrwQ E P own n ops n0 (i + 1) r K (setD tm (some d) (.int .i64 (el.length : Int))) H) :
    DrwQ E P own n ops n0 i (⟨some d, .call { callee := .builtin .len, args := #[x], argTypes := #[t] }, ty, pos, aft, grd⟩ :: r) K tm H := .lenV hw rfl hn rfl rfl ht hk hx rfl hr
theorem DrwQ.rIdx {ops : Array Oper} {n0 i : Nat} {r : List Oper} {d : Nat} {t e : TypeId} {x y : Operand} {ty : TypeId} {pos : String} {aft : Array Edge} {grd : Option (Nat × Bool)} {ti ei : TI} {b : Bool} {es : Nat} {el : List (List PV)} {k : IntKind} {j : Nat} {cs : List PV} (hw : wantedA ops.toList tm ⟨some d, .indexAddr t x y, ty, pos, aft, grd⟩ = some true) (hn : Nat.blt d n = true)
    (hx : evalO E tm x = slV b es el) (ht : E.T t = some ti) (hk : ti.tk = .slice e) (he : E.T e = some ei) (hes : ei.size = es) (hy : evalO E tm y = .int k (j : Int)) (hj : el[j]? = some cs)
    (hr : DrwQ E P own n ops n0 (i + 1) r K (setD tm (some d) (.fptr cs 0)) H) : DrwQ E P own n ops n0 i (⟨some d, .indexAddr t x y, ty, pos, aft, grd⟩ :: r) K tm H := .idxV hw rfl hn rfl ht hk he hes hx hy hj hr
theorem DrwQ.rCall {ops : Array Oper} {n0 i : Nat} {r : List Oper} {d : Nat} {ty : TypeId} {pos : String} {aft : Array Edge} {grd : Option (Nat × Bool)} {p p' : PV} {f : Operand} {args : Array Operand} {ats : Array TypeId} {k : FuncId} {caps al : List PV}
    (hw : wantedA ops.toList tm ⟨some d, .call { callee := .value f, args := args, argTypes := ats }, ty, pos, aft, grd⟩ = some true) (hn : Nat.blt d n = true) (hf : evalO E tm f = .fn k caps) (ha : args.toList.map (evalO E tm) ++ caps = al) (hc : clsO E own ⟨some d, .call { callee := .value f, args := args, argTypes := ats }, ty, pos, aft, grd⟩ = .qu) (h : CallOk E P k al H p H) (hv : IsV p p')
    (hr : DrwQ E P own n ops n0 (i + 1) r K (setD tm (some d) p') H) : DrwQ E P own n ops n0 i (⟨some d, .call { callee := .value f, args := args, argTypes := ats }, ty, pos, aft, grd⟩ :: r) K tm H :=
  .does hw rfl hn rfl hf (by rw [ha]; exact .any _) hc h hv hr

theorem frzLL_row {el : List (List PV)} (h : frzLL el = some el) : frzLL el = some el := h
/-- A slice of what is written down. -/
theorem RegQ.rBs {all r : List Oper} {d : Nat} {t : TypeId} {m : Nat} {ps : Array (Nat × Operand)} {ty : TypeId} {pos : String} {aft : Array Edge} {grd : Option (Nat × Bool)} {es : Nat} {el el' : List (List PV)} (hw : wantedA all tm ⟨some d, .buildSlice t m ps, ty, pos, aft, grd⟩ = some true) (hn : Nat.blt d n = true)
    (ho : own d = false) (h : aBuildSlice E t m (ps.toList.map fun p => (p.1, evalO E tm p.2)) = some (es, el)) (hl : IsLL el el') (hf : frzLL el' = some el')
    (hr : RegQ E P own n all r K (setD tm (some d) (.sl .full es el')) H) : RegQ E P own n all (⟨some d, .buildSlice t m ps, ty, pos, aft, grd⟩ :: r) K tm H := by
  have e := hl.eq
  subst e
  refine .run hw rfl hn (p := .sl .full es el) ?_ (.any _) hr
  simp only [aOp, h, ho, Bool.false_eq_true, if_false, hf]

/-! ### operations that want a fact -/
theorem RegQ.rSl {all r : List Oper} {d : Nat} {ty : TypeId} {pos : String} {aft : Array Edge} {grd : Option (Nat × Bool)} {t : TypeId} {x : Operand} {lo hi mx : Option Operand} {X : PV} {LO HI MX : Option PV} {p p' : PV} (hw : wantedA all tm ⟨some d, .slice t x lo hi mx, ty, pos, aft, grd⟩ = some true) (hn : Nat.blt d n = true) (hx : evalO E tm x = X) (h1 : optV (evalO E tm) lo = LO) (h2 : optV (evalO E tm) hi = HI) (h3 : optV (evalO E tm) mx = MX) (h : aSlice E t X LO HI MX = some p) (hv : IsV p p')
    (hr : RegQ E P own n all r K (setD tm (some d) p') H) : RegQ E P own n all (⟨some d, .slice t x lo hi mx, ty, pos, aft, grd⟩ :: r) K tm H := .run hw rfl hn (p := p) (by simp only [aOp, hx, h1, h2, h3, h, Option.map_some]) hv hr
theorem DrwQ.rSl {ops : Array Oper} {n0 i : Nat} {r : List Oper} {d : Nat} {ty : TypeId} {pos : String} {aft : Array Edge} {grd : Option (Nat × Bool)} {t : TypeId} {x : Operand} {lo hi mx : Option Operand} {X : PV} {LO HI MX : Option PV} {p p' : PV} (hw : wantedA ops.toList tm ⟨some d, .slice t x lo hi mx, ty, pos, aft, grd⟩ = some true) (hn : Nat.blt d n = true) (hx : evalO E tm x = X) (h1 : optV (evalO E tm) lo = LO) (h2 : optV (evalO E tm) hi = HI) (h3 : optV (evalO E tm) mx = MX) (h : aSlice E t X LO HI MX = some p) (hv : IsV p p')
    (hk : okD E own n0 tm ⟨some d, .slice t x lo hi mx, ty, pos, aft, grd⟩ H H = true) (hr : DrwQ E P own n ops n0 (i + 1) r K (setD tm (some d) p') H) : DrwQ E P own n ops n0 i (⟨some d, .slice t x lo hi mx, ty, pos, aft, grd⟩ :: r) K tm H := .run hw rfl hn (p := p) (by simp only [aOp, hx, h1, h2, h3, h, Option.map_some]) hv hk hr
theorem RegQ.rBi {all r : List Oper} {d : Nat} {ty : TypeId} {pos : String} {aft : Array Edge} {grd : Option (Nat × Bool)} {op : BinOp} {t yt : TypeId} {x y : Operand} {X Y : PV} {p p' : PV} (hw : wantedA all tm ⟨some d, .binOp op t x y yt, ty, pos, aft, grd⟩ = some true) (hn : Nat.blt d n = true) (hx : evalO E tm x = X) (hy : evalO E tm y = Y) (h : aBin E op t X Y = some p) (hv : IsV p p')
    (hr : RegQ E P own n all r K (setD tm (some d) p') H) : RegQ E P own n all (⟨some d, .binOp op t x y yt, ty, pos, aft, grd⟩ :: r) K tm H := .run hw rfl hn (p := p) (by simp only [aOp, hx, hy, h, Option.map_some]) hv hr
theorem DrwQ.rBi {ops : Array Oper} {n0 i : Nat} {r : List Oper} {d : Nat} {ty : TypeId} {pos : String} {aft : Array Edge} {grd : Option (Nat × Bool)} {op : BinOp} {t yt : TypeId} {x y : Operand} {X Y : PV} {p p' : PV} (hw : wantedA ops.toList tm ⟨some d, .binOp op t x y yt, ty, pos, aft, grd⟩ = some true) (hn : Nat.blt d n = true) (hx : evalO E tm x = X) (hy : evalO E tm y = Y) (h : aBin E op t X Y = some p) (hv : IsV p p')
    (hk : okD E own n0 tm ⟨some d, .binOp op t x y yt, ty, pos, aft, grd⟩ H H = true) (hr : DrwQ E P own n ops n0 (i + 1) r K (setD tm (some d) p') H) : DrwQ E P own n ops n0 i (⟨some d, .binOp op t x y yt, ty, pos, aft, grd⟩ :: r) K tm H := .run hw rfl hn (p := p) (by simp only [aOp, hx, hy, h, Option.map_some]) hv hk hr
theorem RegQ.rIx {all r : List Oper} {d : Nat} {ty : TypeId} {pos : String} {aft : Array Edge} {grd : Option (Nat × Bool)} {t : TypeId} {x y : Operand} {X Y : PV} {p p' : PV} (hw : wantedA all tm ⟨some d, .index t x y, ty, pos, aft, grd⟩ = some true) (hn : Nat.blt d n = true) (hx : evalO E tm x = X) (hy : evalO E tm y = Y) (h : aIndex E t X Y = some p) (hv : IsV p p')
    (hr : RegQ E P own n all r K (setD tm (some d) p') H) : RegQ E P own n all (⟨some d, .index t x y, ty, pos, aft, grd⟩ :: r) K tm H := .run hw rfl hn (p := p) (by simp only [aOp, hx, hy, h, Option.map_some]) hv hr
theorem DrwQ.rIx {ops : Array Oper} {n0 i : Nat} {r : List Oper} {d : Nat} {ty : TypeId} {pos : String} {aft : Array Edge} {grd : Option (Nat × Bool)} {t : TypeId} {x y : Operand} {X Y : PV} {p p' : PV} (hw : wantedA ops.toList tm ⟨some d, .index t x y, ty, pos, aft, grd⟩ = some true) (hn : Nat.blt d n = true) (hx : evalO E tm x = X) (hy : evalO E tm y = Y) (h : aIndex E t X Y = some p) (hv : IsV p p')
    (hk : okD E own n0 tm ⟨some d, .index t x y, ty, pos, aft, grd⟩ H H = true) (hr : DrwQ E P own n ops n0 (i + 1) r K (setD tm (some d) p') H) : DrwQ E P own n ops n0 i (⟨some d, .index t x y, ty, pos, aft, grd⟩ :: r) K tm H := .run hw rfl hn (p := p) (by simp only [aOp, hx, hy, h, Option.map_some]) hv hk hr
theorem RegQ.rMk {all r : List Oper} {d : Nat} {ty : TypeId} {pos : String} {aft : Array Edge} {grd : Option (Nat × Bool)} {t : TypeId} {l c : Operand} {X Y p : PV} {H1 : Heap} (hw : wantedA all tm ⟨some d, .makeSlice t l c, ty, pos, aft, grd⟩ = some true) (hn : Nat.blt d n = true) (ho : own d = true)
    (hx : evalO E tm l = X) (hy : evalO E tm c = Y) (h : aMakeSlice E t X Y H = some (p, H1)) (hr : RegQ E P own n all r K (setD tm (some d) p) H1) : RegQ E P own n all (⟨some d, .makeSlice t l c, ty, pos, aft, grd⟩ :: r) K tm H :=
  .run hw rfl hn (p := p) (by simp only [aOp, ho, if_true, hx, hy, h]) (.any _) hr
theorem RegQ.rAp {all r : List Oper} {d : Nat} {ty : TypeId} {pos : String} {aft : Array Edge} {grd : Option (Nat × Bool)} {t u : TypeId} {x y : Operand} {X Y p : PV} {H1 : Heap} (hw : wantedA all tm ⟨some d, .call { callee := .builtin .append, args := #[x, y], argTypes := #[t, u] }, ty, pos, aft, grd⟩ = some true) (hn : Nat.blt d n = true) (ho : own d = false)
    (hx : evalO E tm x = X) (hy : evalO E tm y = Y) (h : aAppend E t u X Y H = some (p, H1)) (hr : RegQ E P own n all r K (setD tm (some d) p) H1) : RegQ E P own n all (⟨some d, .call { callee := .builtin .append, args := #[x, y], argTypes := #[t, u] }, ty, pos, aft, grd⟩ :: r) K tm H :=
  .run hw rfl hn (p := p) (by simp [aOp, aBuiltin, ho, hx, hy, h]) (.any _) hr
theorem DrwQ.rAp {ops : Array Oper} {n0 i : Nat} {r : List Oper} {d : Nat} {ty : TypeId} {pos : String} {aft : Array Edge} {grd : Option (Nat × Bool)} {t u : TypeId} {x y : Operand} {X Y p : PV} {H1 : Heap} (hw : wantedA ops.toList tm ⟨some d, .call { callee := .builtin .append, args := #[x, y], argTypes := #[t, u] }, ty, pos, aft, grd⟩ = some true) (hn : Nat.blt d n = true) (ho : own d = false)
    (hx : evalO E tm x = X) (hy : evalO E tm y = Y) (h : aAppend E t u X Y H = some (p, H1)) (hk : okD E own n0 tm ⟨some d, .call { callee := .builtin .append, args := #[x, y], argTypes := #[t, u] }, ty, pos, aft, grd⟩ H H1 = true)
    (hr : DrwQ E P own n ops n0 (i + 1) r K (setD tm (some d) p) H1) : DrwQ E P own n ops n0 i (⟨some d, .call { callee := .builtin .append, args := #[x, y], argTypes := #[t, u] }, ty, pos, aft, grd⟩ :: r) K tm H :=
  .run hw rfl hn (p := p) (by simp [aOp, aBuiltin, ho, hx, hy, h]) (.any _) hk hr

theorem RegQ.rIa {all r : List Oper} {d : Nat} {ty : TypeId} {pos : String} {aft : Array Edge} {grd : Option (Nat × Bool)} {t : TypeId} {x y : Operand} {X Y p p' : PV} (hw : wantedA all tm ⟨some d, .indexAddr t x y, ty, pos, aft, grd⟩ = some true) (hn : Nat.blt d n = true) (hx : evalO E tm x = X) (hy : evalO E tm y = Y) (h : aIndexAddr E t X Y = some p) (hv : IsV p p')
    (hr : RegQ E P own n all r K (setD tm (some d) p') H) : RegQ E P own n all (⟨some d, .indexAddr t x y, ty, pos, aft, grd⟩ :: r) K tm H := .run hw rfl hn (p := p) (by simp only [aOp, hx, hy, h, Option.map_some]) hv hr
theorem RegQ.rMin {all r : List Oper} {d : Nat} {ty : TypeId} {pos : String} {aft : Array Edge} {grd : Option (Nat × Bool)} {ats : Array TypeId} {x y : Operand} {X Y p : PV} (hw : wantedA all tm ⟨some d, .call { callee := .builtin .min, args := #[x, y], argTypes := ats }, ty, pos, aft, grd⟩ = some true) (hn : Nat.blt d n = true) (hx : evalO E tm x = X) (hy : evalO E tm y = Y) (h : aMinL [Y] X = some p)
    (hr : RegQ E P own n all r K (setD tm (some d) p) H) : RegQ E P own n all (⟨some d, .call { callee := .builtin .min, args := #[x, y], argTypes := ats }, ty, pos, aft, grd⟩ :: r) K tm H := .run hw rfl hn (p := p) (by
      simp only [aOp, List.map_cons, List.map_nil, hx, hy]
      cases ats.toList <;> simp [aBuiltin, h]) (.any _) hr

theorem RegQ.rLd {all r : List Oper} {d : Nat} {ty : TypeId} {pos : String} {aft : Array Edge} {grd : Option (Nat × Bool)} {t : TypeId} {x : Operand} {X p p' : PV} (hw : wantedA all tm ⟨some d, .load t x, ty, pos, aft, grd⟩ = some true) (hn : Nat.blt d n = true) (hx : evalO E tm x = X) (h : aLoad E t X H = some p) (hv : IsV p p')
    (hr : RegQ E P own n all r K (setD tm (some d) p') H) : RegQ E P own n all (⟨some d, .load t x, ty, pos, aft, grd⟩ :: r) K tm H := .run hw rfl hn (p := p) (by simp only [aOp, hx, h, Option.map_some]) hv hr

theorem RegQ.rAl {all r : List Oper} {d : Nat} {ty : TypeId} {pos : String} {aft : Array Edge} {grd : Option (Nat × Bool)} {t : TypeId} {p : PV} {H1 : Heap} (hw : wantedA all tm ⟨some d, .alloc t, ty, pos, aft, grd⟩ = some true) (hn : Nat.blt d n = true) (h : ∀ ρ, aOp E (own d) ρ (.alloc t) H = some (p, H1))
    (hr : RegQ E P own n all r K (setD tm (some d) p) H1) : RegQ E P own n all (⟨some d, .alloc t, ty, pos, aft, grd⟩ :: r) K tm H := .run hw rfl hn (p := p) (h _) (.any _) hr

/-! ### calls that look into a box of the caller's -/
def retM (E : Env) (fn : Func) (m : Nat) (r : PV) (ex : Ex) (tm : TM) (H : Heap) : Prop := match ex with
  | .exit _ => False
  | _ => ∃ ps, resA E tm H fn.results.toList = some ps ∧ frz3 m H (one ps) = some r
structure RetM (E : Env) (fn : Func) (m : Nat) (r : PV) (ex : Ex) (tm : TM) (H : Heap) : Prop where
  out : retM E fn m r ex tm H
theorem RetM.fin {fn : Func} {m : Nat} {r : PV} {ps ps' : List PV} (h1 : resA E tm H fn.results.toList = some ps) (hp : IsL ps ps') (h2 : frz3 m H (one ps') = some r) : RetM E fn m r .ret tm H :=
  ⟨⟨ps, h1, by rw [hp.eq]; exact h2⟩⟩
theorem callOk_wpH (hE : TOk E P) {f : FuncId} {fn : Func} {c : Code} (hf : FnOk P f fn c) {args : List PV} {r : PV} {H : Heap}
    (h : Wp E P own fn.ntmps c (RetM E fn H.bx.length r) (tm0 (args.map argV)) (inner H)) : CallOk E P f args H r H := by
  obtain ⟨ex, tm', H', h1, ⟨h2⟩⟩ := h.out
  have hx : ∀ i, ex ≠ .exit i := fun i e => by subst e; exact h2
  obtain ⟨ps, h3, h4⟩ : ∃ ps, resA E tm' H' fn.results.toList = some ps ∧ frz3 H.bx.length H' (one ps) = some r := by
    cases ex with
    | normal => exact h2
    | ret => exact h2
    | exit i => exact h2.elim
  exact callOk_pure (own := own) hE hf h1 hx h3 h4
end
attribute [irreducible] slV
end Go.Vm

/-
  Terms as they come in: a tree, its cells, its size.
-/
namespace Go.Vm

inductive Tm where
  | mk (kind : Int) (name : List UInt8) (sort : Int) (nil : Bool) (kids : List Tm)

mutual
def Tm.cells : Tm → List PV
  | .mk k nm s b kids => [.int .i64 k, .str nm, .int .i64 s, slV b 4 (cellsL kids)]
def cellsL : List Tm → List (List PV)
  | [] => []
  | t :: r => t.cells :: cellsL r
end
mutual
def Tm.size : Tm → Nat
  | .mk _ _ _ _ kids => 1 + sizeL kids
def sizeL : List Tm → Nat
  | [] => 0
  | t :: r => t.size + sizeL r
end

theorem cellsL_eq : ∀ l : List Tm, cellsL l = l.map Tm.cells
  | [] => rfl
  | t :: r => by simp [cellsL, cellsL_eq r]
theorem cellsL_length (l : List Tm) : (cellsL l).length = l.length := by simp [cellsL_eq]
theorem cellsL_get {l : List Tm} {i : Nat} {k : Int} {nm : List UInt8} {s : Int} {b : Bool} {kids : List Tm} (h : l[i]? = some (.mk k nm s b kids)) :
    (cellsL l)[i]? = some [.int .i64 k, .str nm, .int .i64 s, slV b 4 (cellsL kids)] := by
  simp [cellsL_eq, h, Tm.cells]

theorem sizeL_take {l : List Tm} : ∀ {i : Nat} {t : Tm}, l[i]? = some t → sizeL (l.take (i + 1)) = sizeL (l.take i) + t.size := by
  induction l with
  | nil => intro i t h; simp at h
  | cons a r ih =>
    intro i t h
    cases i with
    | zero => simp at h; subst h; simp [sizeL]
    | succ i => simp at h; simp only [List.take_succ_cons, sizeL, ih h]; omega
theorem sizeL_take_le (l : List Tm) (i : Nat) : sizeL (l.take i) ≤ sizeL l := by
  induction l generalizing i with
  | nil => simp
  | cons a r ih => cases i with
    | zero => simp [sizeL]
    | succ i => simp only [List.take_succ_cons, sizeL]; have := ih i; omega
theorem size_le {l : List Tm} {t : Tm} (h : t ∈ l) : t.size ≤ sizeL l := by
  induction l with
  | nil => simp at h
  | cons a r ih =>
    simp only [sizeL]
    rcases List.mem_cons.1 h with rfl | h
    · omega
    · have := ih h; omega
theorem ovr_mk {tm : TM} {l : List (Nat × PV)} (h : okL tm l) : tm = ovr tm l := (ovr_self h).symm
theorem int_eq {k : IntKind} {a b : Int} (h : a = b) : PV.int k a = PV.int k b := by rw [h]

/-- As a reading gives it: no list is longer than a list can be. -/
inductive Tm.Ok : Tm → Prop
  | mk {k : Int} {nm : List UInt8} {s : Int} {b : Bool} {kids : List Tm} (hk : (Lit.int .i64 k).wf = true) (hs : (Lit.int .i64 s).wf = true) (hn : nm.length ≤ maxLen) (hl : kids.length ≤ maxLen) (h : ∀ t, t ∈ kids → t.Ok) : Tm.Ok (.mk k nm s b kids)

theorem wrap_nat {n : Nat} (h : n < 9223372036854775808) : IntKind.i64.wrap (n : Int) = (n : Int) := IntWalk.i64_in _ (by omega)
end Go.Vm

/-
  More rules by the type of what comes out: operations in drawn regions, and lengths, that want a fact.
-/
namespace Go.Vm

section
variable {E : Env} {P : Program} {own : Tmp → Bool} {n : Nat} {Q : Ex → TM → Heap → Prop} {K : TM → Heap → Prop} {tm : TM} {H : Heap}

theorem DrwQ.rIa {ops : Array Oper} {n0 i : Nat} {r : List Oper} {d : Nat} {ty : TypeId} {pos : String} {aft : Array Edge} {grd : Option (Nat × Bool)} {t : TypeId} {x y : Operand} {X Y p p' : PV} (hw : wantedA ops.toList tm ⟨some d, .indexAddr t x y, ty, pos, aft, grd⟩ = some true) (hn : Nat.blt d n = true) (hx : evalO E tm x = X) (hy : evalO E tm y = Y) (h : aIndexAddr E t X Y = some p) (hv : IsV p p')
    (hr : DrwQ E P own n ops n0 (i + 1) r K (setD tm (some d) p') H) : DrwQ E P own n ops n0 i (⟨some d, .indexAddr t x y, ty, pos, aft, grd⟩ :: r) K tm H := .run hw rfl hn (p := p) (by simp only [aOp, hx, hy, h, Option.map_some]) hv (by simp [okD, clsO]) hr
theorem DrwQ.rLd {ops : Array Oper} {n0 i : Nat} {r : List Oper} {d : Nat} {ty : TypeId} {pos : String} {aft : Array Edge} {grd : Option (Nat × Bool)} {t : TypeId} {x : Operand} {X p p' : PV} (hw : wantedA ops.toList tm ⟨some d, .load t x, ty, pos, aft, grd⟩ = some true) (hn : Nat.blt d n = true) (hx : evalO E tm x = X) (h : aLoad E t X H = some p) (hv : IsV p p')
    (hk : okD E own n0 tm ⟨some d, .load t x, ty, pos, aft, grd⟩ H H = true) (hr : DrwQ E P own n ops n0 (i + 1) r K (setD tm (some d) p') H) : DrwQ E P own n ops n0 i (⟨some d, .load t x, ty, pos, aft, grd⟩ :: r) K tm H := .run hw rfl hn (p := p) (by simp only [aOp, hx, h, Option.map_some]) hv hk hr

/-- A length that a fact says. -/
theorem RegQ.rLe {all r : List Oper} {d : Nat} {x : Operand} {X p p' : PV} {t : TypeId} {ty : TypeId} {pos : String} {aft : Array Edge} {grd : Option (Nat × Bool)} (hw : wantedA all tm ⟨some d, .call { callee := .builtin .len, args := #[x], argTypes := #[t] }, ty, pos, aft, grd⟩ = some true)
    (hn : Nat.blt d n = true) (hx : evalO E tm x = X) (h : ∀ H, aLen E t X H = some p) (hv : IsV p p') (hr : RegQ E P own n all r K (setD tm (some d) p') H) :
    RegQ E P own n all (⟨some d, .call { callee := .builtin .len, args := #[x], argTypes := #[t] }, ty, pos, aft, grd⟩ :: r) K tm H :=
  .run hw rfl hn (p := p) (by simp [aOp, aBuiltin, hx, h]) hv hr
theorem DrwQ.rLe {ops : Array Oper} {n0 i : Nat} {r : List Oper} {d : Nat} {x : Operand} {X p p' : PV} {t : TypeId} {ty : TypeId} {pos : String} {aft : Array Edge} {grd : Option (Nat × Bool)} (hw : wantedA ops.toList tm ⟨some d, .call { callee := .builtin .len, args := #[x], argTypes := #[t] }, ty, pos, aft, grd⟩ = some true)
    (hn : Nat.blt d n = true) (hx : evalO E tm x = X) (h : ∀ H, aLen E t X H = some p) (hv : IsV p p') (hk : okD E own n0 tm ⟨some d, .call { callee := .builtin .len, args := #[x], argTypes := #[t] }, ty, pos, aft, grd⟩ H H = true)
    (hr : DrwQ E P own n ops n0 (i + 1) r K (setD tm (some d) p') H) :
    DrwQ E P own n ops n0 i (⟨some d, .call { callee := .builtin .len, args := #[x], argTypes := #[t] }, ty, pos, aft, grd⟩ :: r) K tm H :=
  .run hw rfl hn (p := p) (by simp [aOp, aBuiltin, hx, h]) hv hk hr
/-- A slice of what is written down, in a drawn region. -/
theorem DrwQ.rBs {ops : Array Oper} {n0 i : Nat} {r : List Oper} {d : Nat} {t : TypeId} {m : Nat} {ps : Array (Nat × Operand)} {ty : TypeId} {pos : String} {aft : Array Edge} {grd : Option (Nat × Bool)} {es : Nat} {el el' : List (List PV)} (hw : wantedA ops.toList tm ⟨some d, .buildSlice t m ps, ty, pos, aft, grd⟩ = some true) (hn : Nat.blt d n = true)
    (ho : own d = false) (h : aBuildSlice E t m (ps.toList.map fun p => (p.1, evalO E tm p.2)) = some (es, el)) (hl : IsLL el el') (hf : frzLL el' = some el') (hk : okD E own n0 tm ⟨some d, .buildSlice t m ps, ty, pos, aft, grd⟩ H H = true)
    (hr : DrwQ E P own n ops n0 (i + 1) r K (setD tm (some d) (.sl .full es el')) H) : DrwQ E P own n ops n0 i (⟨some d, .buildSlice t m ps, ty, pos, aft, grd⟩ :: r) K tm H := by
  have e := hl.eq
  subst e
  refine .run hw rfl hn (p := .sl .full es el) ?_ (.any _) hk hr
  simp only [aOp, h, ho, Bool.false_eq_true, if_false, hf]
/-- An operation that makes rooms alone. -/
theorem DrwQ.tk {ops : Array Oper} {n0 i : Nat} {o : Oper} {r : List Oper} {p : PV} {M : Heap} (hw : wantedA ops.toList tm o = some true) (hd : dstOk n o = true) (hc : clsO E own o = .tk)
    (h : aOp E (own (o.dst.getD 0)) (evalO E tm) o.op { H with ro := H.bx.length } = some (p, M)) (hl : H.bx.length ≤ M.bx.length)
    (hr : DrwQ E P own n ops n0 (i + 1) r K (setD tm o.dst p) (growH H M)) : DrwQ E P own n ops n0 i (o :: r) K tm H :=
  .step hd (fun ho' => .tk _ _ M hw ((clsI_eq (E := E) (own := own) ho').trans hc) (.op _ _ h) hl) hr
theorem DrwQ.rApT {ops : Array Oper} {n0 i : Nat} {r : List Oper} {d : Nat} {ty : TypeId} {pos : String} {aft : Array Edge} {grd : Option (Nat × Bool)} {t u : TypeId} {x y : Operand} {X Y p : PV} {bx : List Box} {ro nt nt' : Nat} {lv lv' : List Nat} (hw : wantedA ops.toList tm ⟨some d, .call { callee := .builtin .append, args := #[x, y], argTypes := #[t, u] }, ty, pos, aft, grd⟩ = some true) (hn : Nat.blt d n = true) (ho : own d = false) (ht : own (d + 5000) = true)
    (hx : evalO E tm x = X) (hy : evalO E tm y = Y) (h : ∀ ro, aAppend E t u X Y ⟨bx, ro, lv, nt⟩ = some (p, ⟨bx, ro, lv', nt'⟩))
    (hr : DrwQ E P own n ops n0 (i + 1) r K (setD tm (some d) p) ⟨bx, ro, lv', nt'⟩) : DrwQ E P own n ops n0 i (⟨some d, .call { callee := .builtin .append, args := #[x, y], argTypes := #[t, u] }, ty, pos, aft, grd⟩ :: r) K tm ⟨bx, ro, lv, nt⟩ := by
  refine .tk (M := ⟨bx, bx.length, lv', nt'⟩) (p := p) hw ?_ ?_ ?_ (Nat.le_refl _) ?_
  · simp only [dstOk, hn]
  · simp [clsO, ht]
  · simp [aOp, aBuiltin, ho, hx, hy, h]
  · have e : growH ⟨bx, ro, lv, nt⟩ ⟨bx, bx.length, lv', nt'⟩ = ⟨bx, ro, lv', nt'⟩ := by simp [growH]
    rw [e]
    exact hr
end
end Go.Vm

/-
  The rules of VmTac and VmTac2 once more, under short names, with what closes their side goals written beside them.
-/
namespace Go.Vm

theorem IsV.aggN {cs cs' : List PV} (h : IsL cs cs' := by repeat' first | exact Go.Vm.IsL.nil | exact Go.Vm.IsV.int _ _ | exact Go.Vm.IsV.str _ | exact Go.Vm.IsV.slV _ _ _ | exact Go.Vm.IsV.nils | exact Go.Vm.IsV.bool _ | exact Go.Vm.IsV.sl _ _ _ | apply Go.Vm.IsL.cons | apply Go.Vm.IsV.agg | exact Go.Vm.IsV.any _ | exact Go.Vm.IsL.any _) : IsV (.agg cs) (.agg cs') := .agg _ _ h
theorem IsV.tupN {cs cs' : List PV} (h : IsL cs cs' := by repeat' first | exact Go.Vm.IsL.nil | exact Go.Vm.IsV.int _ _ | exact Go.Vm.IsV.str _ | exact Go.Vm.IsV.slV _ _ _ | exact Go.Vm.IsV.nils | exact Go.Vm.IsV.bool _ | exact Go.Vm.IsV.sl _ _ _ | apply Go.Vm.IsL.cons | apply Go.Vm.IsV.agg | exact Go.Vm.IsV.any _ | exact Go.Vm.IsL.any _) : IsV (.tup cs) (.tup cs') := .tup _ _ h
theorem IsV.ptrN {a b c d a' b' c' d' : Nat} (h1 : a = a' := by first | exact (rfl : (_ : Nat) = 0) | exact (rfl : (_ : Nat) = 1) | exact (rfl : (_ : Nat) = 2) | exact (rfl : (_ : Nat) = 3) | exact (rfl : (_ : Nat) = 4) | exact (rfl : (_ : Nat) = 5) | exact (rfl : (_ : Nat) = 6) | exact (rfl : (_ : Nat) = 7) | exact (rfl : (_ : Nat) = 8) | exact rfl)
    (h2 : b = b' := by first | exact (rfl : (_ : Nat) = 1) | exact (rfl : (_ : Nat) = 2) | exact (rfl : (_ : Nat) = 3) | exact (rfl : (_ : Nat) = 4) | exact (rfl : (_ : Nat) = 5) | exact (rfl : (_ : Nat) = 6) | exact (rfl : (_ : Nat) = 7) | exact (rfl : (_ : Nat) = 8) | exact rfl)
    (h3 : c = c' := by first | exact (rfl : (_ : Nat) = 0) | exact (rfl : (_ : Nat) = 1) | exact (rfl : (_ : Nat) = 2) | exact rfl)
    (h4 : d = d' := by first | exact (rfl : (_ : Nat) = 0) | exact (rfl : (_ : Nat) = 1) | exact (rfl : (_ : Nat) = 2) | exact (rfl : (_ : Nat) = 3) | exact (rfl : (_ : Nat) = 4) | exact (rfl : (_ : Nat) = 5) | exact (rfl : (_ : Nat) = 6) | exact (rfl : (_ : Nat) = 7) | exact (rfl : (_ : Nat) = 8) | exact rfl) : IsV (.ptr a b c d) (.ptr a' b' c' d') := .ptr4 h1 h2 h3 h4
theorem IsH.mkN {bx bx' : List Box} {ro ro' nt nt' : Nat} {lv lv' : List Nat}
    (h : IsBL bx bx' := by repeat' first | exact Go.Vm.IsBL.nil | apply Go.Vm.IsBL.cells | apply Go.Vm.IsBL.cons | exact Go.Vm.IsLL.nil | apply Go.Vm.IsLL.cons | exact Go.Vm.IsL.nil | exact Go.Vm.IsV.int _ _ | exact Go.Vm.IsV.str _ | exact Go.Vm.IsV.slV _ _ _ | exact Go.Vm.IsV.nils | exact Go.Vm.IsV.bool _ | exact Go.Vm.IsV.sl _ _ _ | apply Go.Vm.IsL.cons | exact Go.Vm.IsV.any _ | exact Go.Vm.IsL.any _ | exact Go.Vm.IsLL.any _ | exact Go.Vm.IsBL.any _ | exact (rfl : (_ : Nat) = 1) | exact (rfl : (_ : Nat) = 2) | exact (rfl : (_ : Nat) = 3) | exact (rfl : (_ : Nat) = 4) | exact (rfl : (_ : Nat) = 5) | exact (rfl : (_ : Nat) = 6) | exact (rfl : (_ : Nat) = 7) | exact (rfl : (_ : Nat) = 8) | exact rfl)
    (h1 : ro = ro' := by first | exact (rfl : (_ : Nat) = 0) | exact (rfl : (_ : Nat) = 1) | exact rfl) (h2 : lv = lv' := by first | exact (rfl : (_ : List Nat) = []) | exact rfl)
    (h3 : nt = nt' := by first | exact (rfl : (_ : Nat) = 0) | exact (rfl : (_ : Nat) = 1) | exact (rfl : (_ : Nat) = 2) | exact (rfl : (_ : Nat) = 3) | exact (rfl : (_ : Nat) = 4) | exact rfl) : IsH ⟨bx, ro, lv, nt⟩ ⟨bx', ro', lv', nt'⟩ := .mk _ _ _ _ _ _ _ _ h h1 h2 h3
theorem IsL.n {l l' : List PV} (h : IsL l l' := by repeat' first | exact Go.Vm.IsL.nil | exact Go.Vm.IsV.int _ _ | exact Go.Vm.IsV.str _ | exact Go.Vm.IsV.slV _ _ _ | exact Go.Vm.IsV.nils | exact Go.Vm.IsV.bool _ | exact Go.Vm.IsV.sl _ _ _ | exact Go.Vm.IsV.ptrN | apply Go.Vm.IsL.cons | apply Go.Vm.IsV.agg | exact Go.Vm.IsV.any _ | exact Go.Vm.IsL.any _) : IsL l l' := h
theorem IsLL.n {l l' : List (List PV)} (h : IsLL l l' := by repeat' first | exact Go.Vm.IsLL.nil | apply Go.Vm.IsLL.cons | exact Go.Vm.IsL.nil | exact Go.Vm.IsV.int _ _ | exact Go.Vm.IsV.str _ | exact Go.Vm.IsV.slV _ _ _ | exact Go.Vm.IsV.nils | exact Go.Vm.IsV.bool _ | exact Go.Vm.IsV.sl _ _ _ | exact Go.Vm.IsV.ptrN | apply Go.Vm.IsL.cons | apply Go.Vm.IsV.agg | exact Go.Vm.IsV.any _ | exact Go.Vm.IsL.any _ | exact Go.Vm.IsLL.any _) : IsLL l l' := h
section
variable {E : Env} {P : Program} {own : Tmp → Bool} {n : Nat} {Q : Ex → TM → Heap → Prop} {K : TM → Heap → Prop} {tm : TM} {H : Heap}

theorem qI {all r : List Oper} {d : Nat} {OP : Op} {ty : TypeId} {pos : String} {aft : Array Edge} {grd : Option (Nat × Bool)} {k : IntKind} {m : Int} {H1 : Heap} (hw : wantedA all tm ⟨some d, OP, ty, pos, aft, grd⟩ = some true) (hn : Nat.blt d n = true) (h : aOp E (own d) (evalO E tm) OP H = some (.int k m, H1)) (hr : RegQ E P own n all r K (setD tm (some d) (.int k m)) H1) : RegQ E P own n all (⟨some d, OP, ty, pos, aft, grd⟩ :: r) K tm H := .rOp hw hn h (.int _ _) hr
theorem dI {ops : Array Oper} {n0 i : Nat} {r : List Oper} {d : Nat} {OP : Op} {ty : TypeId} {pos : String} {aft : Array Edge} {grd : Option (Nat × Bool)} {k : IntKind} {m : Int} {H1 : Heap} (hw : wantedA ops.toList tm ⟨some d, OP, ty, pos, aft, grd⟩ = some true) (hn : Nat.blt d n = true) (h : aOp E (own d) (evalO E tm) OP H = some (.int k m, H1)) (hk : okD E own n0 tm ⟨some d, OP, ty, pos, aft, grd⟩ H H1 = true) (hr : DrwQ E P own n ops n0 (i + 1) r K (setD tm (some d) (.int k m)) H1) : DrwQ E P own n ops n0 i (⟨some d, OP, ty, pos, aft, grd⟩ :: r) K tm H := .rOp hw hn h (.int _ _) hk hr
theorem qT {all r : List Oper} {d : Nat} {OP : Op} {ty : TypeId} {pos : String} {aft : Array Edge} {grd : Option (Nat × Bool)} {H1 : Heap} (hw : wantedA all tm ⟨some d, OP, ty, pos, aft, grd⟩ = some true) (hn : Nat.blt d n = true) (h : aOp E (own d) (evalO E tm) OP H = some (.bool true, H1)) (hr : RegQ E P own n all r K (setD tm (some d) (.bool true)) H1) : RegQ E P own n all (⟨some d, OP, ty, pos, aft, grd⟩ :: r) K tm H := .rOp hw hn h (.bool _) hr
theorem dT {ops : Array Oper} {n0 i : Nat} {r : List Oper} {d : Nat} {OP : Op} {ty : TypeId} {pos : String} {aft : Array Edge} {grd : Option (Nat × Bool)} {H1 : Heap} (hw : wantedA ops.toList tm ⟨some d, OP, ty, pos, aft, grd⟩ = some true) (hn : Nat.blt d n = true) (h : aOp E (own d) (evalO E tm) OP H = some (.bool true, H1)) (hk : okD E own n0 tm ⟨some d, OP, ty, pos, aft, grd⟩ H H1 = true) (hr : DrwQ E P own n ops n0 (i + 1) r K (setD tm (some d) (.bool true)) H1) : DrwQ E P own n ops n0 i (⟨some d, OP, ty, pos, aft, grd⟩ :: r) K tm H := .rOp hw hn h (.bool _) hk hr
theorem qF {all r : List Oper} {d : Nat} {OP : Op} {ty : TypeId} {pos : String} {aft : Array Edge} {grd : Option (Nat × Bool)} {H1 : Heap} (hw : wantedA all tm ⟨some d, OP, ty, pos, aft, grd⟩ = some true) (hn : Nat.blt d n = true) (h : aOp E (own d) (evalO E tm) OP H = some (.bool false, H1)) (hr : RegQ E P own n all r K (setD tm (some d) (.bool false)) H1) : RegQ E P own n all (⟨some d, OP, ty, pos, aft, grd⟩ :: r) K tm H := .rOp hw hn h (.bool _) hr
theorem dF {ops : Array Oper} {n0 i : Nat} {r : List Oper} {d : Nat} {OP : Op} {ty : TypeId} {pos : String} {aft : Array Edge} {grd : Option (Nat × Bool)} {H1 : Heap} (hw : wantedA ops.toList tm ⟨some d, OP, ty, pos, aft, grd⟩ = some true) (hn : Nat.blt d n = true) (h : aOp E (own d) (evalO E tm) OP H = some (.bool false, H1)) (hk : okD E own n0 tm ⟨some d, OP, ty, pos, aft, grd⟩ H H1 = true) (hr : DrwQ E P own n ops n0 (i + 1) r K (setD tm (some d) (.bool false)) H1) : DrwQ E P own n ops n0 i (⟨some d, OP, ty, pos, aft, grd⟩ :: r) K tm H := .rOp hw hn h (.bool _) hk hr
theorem qS {all r : List Oper} {d : Nat} {OP : Op} {ty : TypeId} {pos : String} {aft : Array Edge} {grd : Option (Nat × Bool)} {s : List UInt8} {H1 : Heap} (hw : wantedA all tm ⟨some d, OP, ty, pos, aft, grd⟩ = some true) (hn : Nat.blt d n = true) (h : aOp E (own d) (evalO E tm) OP H = some (.str s, H1)) (hr : RegQ E P own n all r K (setD tm (some d) (.str s)) H1) : RegQ E P own n all (⟨some d, OP, ty, pos, aft, grd⟩ :: r) K tm H := .rOp hw hn h (.str _) hr
theorem dS {ops : Array Oper} {n0 i : Nat} {r : List Oper} {d : Nat} {OP : Op} {ty : TypeId} {pos : String} {aft : Array Edge} {grd : Option (Nat × Bool)} {s : List UInt8} {H1 : Heap} (hw : wantedA ops.toList tm ⟨some d, OP, ty, pos, aft, grd⟩ = some true) (hn : Nat.blt d n = true) (h : aOp E (own d) (evalO E tm) OP H = some (.str s, H1)) (hk : okD E own n0 tm ⟨some d, OP, ty, pos, aft, grd⟩ H H1 = true) (hr : DrwQ E P own n ops n0 (i + 1) r K (setD tm (some d) (.str s)) H1) : DrwQ E P own n ops n0 i (⟨some d, OP, ty, pos, aft, grd⟩ :: r) K tm H := .rOp hw hn h (.str _) hk hr
theorem qV {all r : List Oper} {d : Nat} {OP : Op} {ty : TypeId} {pos : String} {aft : Array Edge} {grd : Option (Nat × Bool)} {b : Bool} {es : Nat} {el : List (List PV)} {H1 : Heap} (hw : wantedA all tm ⟨some d, OP, ty, pos, aft, grd⟩ = some true) (hn : Nat.blt d n = true) (h : aOp E (own d) (evalO E tm) OP H = some (slV b es el, H1)) (hr : RegQ E P own n all r K (setD tm (some d) (slV b es el)) H1) : RegQ E P own n all (⟨some d, OP, ty, pos, aft, grd⟩ :: r) K tm H := .rOp hw hn h (.slV _ _ _) hr
theorem dV {ops : Array Oper} {n0 i : Nat} {r : List Oper} {d : Nat} {OP : Op} {ty : TypeId} {pos : String} {aft : Array Edge} {grd : Option (Nat × Bool)} {b : Bool} {es : Nat} {el : List (List PV)} {H1 : Heap} (hw : wantedA ops.toList tm ⟨some d, OP, ty, pos, aft, grd⟩ = some true) (hn : Nat.blt d n = true) (h : aOp E (own d) (evalO E tm) OP H = some (slV b es el, H1)) (hk : okD E own n0 tm ⟨some d, OP, ty, pos, aft, grd⟩ H H1 = true) (hr : DrwQ E P own n ops n0 (i + 1) r K (setD tm (some d) (slV b es el)) H1) : DrwQ E P own n ops n0 i (⟨some d, OP, ty, pos, aft, grd⟩ :: r) K tm H := .rOp hw hn h (.slV _ _ _) hk hr
theorem qN {all r : List Oper} {d : Nat} {OP : Op} {ty : TypeId} {pos : String} {aft : Array Edge} {grd : Option (Nat × Bool)} {H1 : Heap} (hw : wantedA all tm ⟨some d, OP, ty, pos, aft, grd⟩ = some true) (hn : Nat.blt d n = true) (h : aOp E (own d) (evalO E tm) OP H = some (.nils, H1)) (hr : RegQ E P own n all r K (setD tm (some d) (.nils)) H1) : RegQ E P own n all (⟨some d, OP, ty, pos, aft, grd⟩ :: r) K tm H := .rOp hw hn h .nils hr
theorem dN {ops : Array Oper} {n0 i : Nat} {r : List Oper} {d : Nat} {OP : Op} {ty : TypeId} {pos : String} {aft : Array Edge} {grd : Option (Nat × Bool)} {H1 : Heap} (hw : wantedA ops.toList tm ⟨some d, OP, ty, pos, aft, grd⟩ = some true) (hn : Nat.blt d n = true) (h : aOp E (own d) (evalO E tm) OP H = some (.nils, H1)) (hk : okD E own n0 tm ⟨some d, OP, ty, pos, aft, grd⟩ H H1 = true) (hr : DrwQ E P own n ops n0 (i + 1) r K (setD tm (some d) (.nils)) H1) : DrwQ E P own n ops n0 i (⟨some d, OP, ty, pos, aft, grd⟩ :: r) K tm H := .rOp hw hn h .nils hk hr
theorem qM {all r : List Oper} {d : Nat} {OP : Op} {ty : TypeId} {pos : String} {aft : Array Edge} {grd : Option (Nat × Bool)} {H1 : Heap} (hw : wantedA all tm ⟨some d, OP, ty, pos, aft, grd⟩ = some true) (hn : Nat.blt d n = true) (h : aOp E (own d) (evalO E tm) OP H = some (.nilm, H1)) (hr : RegQ E P own n all r K (setD tm (some d) (.nilm)) H1) : RegQ E P own n all (⟨some d, OP, ty, pos, aft, grd⟩ :: r) K tm H := .rOp hw hn h .nilm hr
theorem dM {ops : Array Oper} {n0 i : Nat} {r : List Oper} {d : Nat} {OP : Op} {ty : TypeId} {pos : String} {aft : Array Edge} {grd : Option (Nat × Bool)} {H1 : Heap} (hw : wantedA ops.toList tm ⟨some d, OP, ty, pos, aft, grd⟩ = some true) (hn : Nat.blt d n = true) (h : aOp E (own d) (evalO E tm) OP H = some (.nilm, H1)) (hk : okD E own n0 tm ⟨some d, OP, ty, pos, aft, grd⟩ H H1 = true) (hr : DrwQ E P own n ops n0 (i + 1) r K (setD tm (some d) (.nilm)) H1) : DrwQ E P own n ops n0 i (⟨some d, OP, ty, pos, aft, grd⟩ :: r) K tm H := .rOp hw hn h .nilm hk hr
theorem qX {all r : List Oper} {d : Nat} {OP : Op} {ty : TypeId} {pos : String} {aft : Array Edge} {grd : Option (Nat × Bool)} {a : PV} {H1 : Heap} (hw : wantedA all tm ⟨some d, OP, ty, pos, aft, grd⟩ = some true) (hn : Nat.blt d n = true) (h : aOp E (own d) (evalO E tm) OP H = some (a, H1)) (hr : RegQ E P own n all r K (setD tm (some d) (a)) H1) : RegQ E P own n all (⟨some d, OP, ty, pos, aft, grd⟩ :: r) K tm H := .rOp hw hn h (.any _) hr
theorem dX {ops : Array Oper} {n0 i : Nat} {r : List Oper} {d : Nat} {OP : Op} {ty : TypeId} {pos : String} {aft : Array Edge} {grd : Option (Nat × Bool)} {a : PV} {H1 : Heap} (hw : wantedA ops.toList tm ⟨some d, OP, ty, pos, aft, grd⟩ = some true) (hn : Nat.blt d n = true) (h : aOp E (own d) (evalO E tm) OP H = some (a, H1)) (hk : okD E own n0 tm ⟨some d, OP, ty, pos, aft, grd⟩ H H1 = true) (hr : DrwQ E P own n ops n0 (i + 1) r K (setD tm (some d) (a)) H1) : DrwQ E P own n ops n0 i (⟨some d, OP, ty, pos, aft, grd⟩ :: r) K tm H := .rOp hw hn h (.any _) hk hr
theorem qP {all r : List Oper} {d : Nat} {OP : Op} {ty : TypeId} {pos : String} {aft : Array Edge} {grd : Option (Nat × Bool)} {cs : List PV} {o : Nat} {H1 : Heap} (hw : wantedA all tm ⟨some d, OP, ty, pos, aft, grd⟩ = some true) (hn : Nat.blt d n = true) (h : aOp E (own d) (evalO E tm) OP H = some (.fptr cs o, H1)) (hr : RegQ E P own n all r K (setD tm (some d) (.fptr cs o)) H1) : RegQ E P own n all (⟨some d, OP, ty, pos, aft, grd⟩ :: r) K tm H := .rOp hw hn h (.fptr _ _) hr
theorem dP {ops : Array Oper} {n0 i : Nat} {r : List Oper} {d : Nat} {OP : Op} {ty : TypeId} {pos : String} {aft : Array Edge} {grd : Option (Nat × Bool)} {cs : List PV} {o : Nat} {H1 : Heap} (hw : wantedA ops.toList tm ⟨some d, OP, ty, pos, aft, grd⟩ = some true) (hn : Nat.blt d n = true) (h : aOp E (own d) (evalO E tm) OP H = some (.fptr cs o, H1)) (hk : okD E own n0 tm ⟨some d, OP, ty, pos, aft, grd⟩ H H1 = true) (hr : DrwQ E P own n ops n0 (i + 1) r K (setD tm (some d) (.fptr cs o)) H1) : DrwQ E P own n ops n0 i (⟨some d, OP, ty, pos, aft, grd⟩ :: r) K tm H := .rOp hw hn h (.fptr _ _) hk hr
theorem qC {all r : List Oper} {d : Nat} {OP : Op} {ty : TypeId} {pos : String} {aft : Array Edge} {grd : Option (Nat × Bool)} {f : FuncId} {cs : List PV} {H1 : Heap} (hw : wantedA all tm ⟨some d, OP, ty, pos, aft, grd⟩ = some true) (hn : Nat.blt d n = true) (h : aOp E (own d) (evalO E tm) OP H = some (.fn f cs, H1)) (hr : RegQ E P own n all r K (setD tm (some d) (.fn f cs)) H1) : RegQ E P own n all (⟨some d, OP, ty, pos, aft, grd⟩ :: r) K tm H := .rOp hw hn h (.fn _ _) hr
theorem dC {ops : Array Oper} {n0 i : Nat} {r : List Oper} {d : Nat} {OP : Op} {ty : TypeId} {pos : String} {aft : Array Edge} {grd : Option (Nat × Bool)} {f : FuncId} {cs : List PV} {H1 : Heap} (hw : wantedA ops.toList tm ⟨some d, OP, ty, pos, aft, grd⟩ = some true) (hn : Nat.blt d n = true) (h : aOp E (own d) (evalO E tm) OP H = some (.fn f cs, H1)) (hk : okD E own n0 tm ⟨some d, OP, ty, pos, aft, grd⟩ H H1 = true) (hr : DrwQ E P own n ops n0 (i + 1) r K (setD tm (some d) (.fn f cs)) H1) : DrwQ E P own n ops n0 i (⟨some d, OP, ty, pos, aft, grd⟩ :: r) K tm H := .rOp hw hn h (.fn _ _) hk hr
theorem qA {all r : List Oper} {d : Nat} {OP : Op} {ty : TypeId} {pos : String} {aft : Array Edge} {grd : Option (Nat × Bool)} {cs cs' : List PV} {H1 : Heap} (hw : wantedA all tm ⟨some d, OP, ty, pos, aft, grd⟩ = some true) (hn : Nat.blt d n = true) (h : aOp E (own d) (evalO E tm) OP H = some (.agg cs, H1)) (hl : IsL cs cs') (hr : RegQ E P own n all r K (setD tm (some d) (.agg cs')) H1) : RegQ E P own n all (⟨some d, OP, ty, pos, aft, grd⟩ :: r) K tm H := .rOp hw hn h (.agg _ _ hl) hr
theorem dA {ops : Array Oper} {n0 i : Nat} {r : List Oper} {d : Nat} {OP : Op} {ty : TypeId} {pos : String} {aft : Array Edge} {grd : Option (Nat × Bool)} {cs cs' : List PV} {H1 : Heap} (hw : wantedA ops.toList tm ⟨some d, OP, ty, pos, aft, grd⟩ = some true) (hn : Nat.blt d n = true) (h : aOp E (own d) (evalO E tm) OP H = some (.agg cs, H1)) (hl : IsL cs cs') (hk : okD E own n0 tm ⟨some d, OP, ty, pos, aft, grd⟩ H H1 = true) (hr : DrwQ E P own n ops n0 (i + 1) r K (setD tm (some d) (.agg cs')) H1) : DrwQ E P own n ops n0 i (⟨some d, OP, ty, pos, aft, grd⟩ :: r) K tm H := .rOp hw hn h (.agg _ _ hl) hk hr
theorem qU {all r : List Oper} {d : Nat} {OP : Op} {ty : TypeId} {pos : String} {aft : Array Edge} {grd : Option (Nat × Bool)} {cs cs' : List PV} {H1 : Heap} (hw : wantedA all tm ⟨some d, OP, ty, pos, aft, grd⟩ = some true) (hn : Nat.blt d n = true) (h : aOp E (own d) (evalO E tm) OP H = some (.tup cs, H1)) (hl : IsL cs cs') (hr : RegQ E P own n all r K (setD tm (some d) (.tup cs')) H1) : RegQ E P own n all (⟨some d, OP, ty, pos, aft, grd⟩ :: r) K tm H := .rOp hw hn h (.tup _ _ hl) hr
theorem dU {ops : Array Oper} {n0 i : Nat} {r : List Oper} {d : Nat} {OP : Op} {ty : TypeId} {pos : String} {aft : Array Edge} {grd : Option (Nat × Bool)} {cs cs' : List PV} {H1 : Heap} (hw : wantedA ops.toList tm ⟨some d, OP, ty, pos, aft, grd⟩ = some true) (hn : Nat.blt d n = true) (h : aOp E (own d) (evalO E tm) OP H = some (.tup cs, H1)) (hl : IsL cs cs') (hk : okD E own n0 tm ⟨some d, OP, ty, pos, aft, grd⟩ H H1 = true) (hr : DrwQ E P own n ops n0 (i + 1) r K (setD tm (some d) (.tup cs')) H1) : DrwQ E P own n ops n0 i (⟨some d, OP, ty, pos, aft, grd⟩ :: r) K tm H := .rOp hw hn h (.tup _ _ hl) hk hr
theorem qL {all r : List Oper} {d : Nat} {OP : Op} {ty : TypeId} {pos : String} {aft : Array Edge} {grd : Option (Nat × Bool)} {tl : Tail} {es : Nat} {el : List (List PV)} {H1 H1' : Heap} (hw : wantedA all tm ⟨some d, OP, ty, pos, aft, grd⟩ = some true) (hn : Nat.blt d n = true) (h : aOp E (own d) (evalO E tm) OP H = some (.sl tl es el, H1)) (hh : IsH H1 H1') (hr : RegQ E P own n all r K (setD tm (some d) (.sl tl es el)) H1') : RegQ E P own n all (⟨some d, OP, ty, pos, aft, grd⟩ :: r) K tm H := .rOpH hw hn h (.sl _ _ _) hh hr
theorem dL {ops : Array Oper} {n0 i : Nat} {r : List Oper} {d : Nat} {OP : Op} {ty : TypeId} {pos : String} {aft : Array Edge} {grd : Option (Nat × Bool)} {tl : Tail} {es : Nat} {el : List (List PV)} {H1 H1' : Heap} (hw : wantedA ops.toList tm ⟨some d, OP, ty, pos, aft, grd⟩ = some true) (hn : Nat.blt d n = true) (h : aOp E (own d) (evalO E tm) OP H = some (.sl tl es el, H1)) (hh : IsH H1 H1') (hk : okD E own n0 tm ⟨some d, OP, ty, pos, aft, grd⟩ H H1 = true) (hr : DrwQ E P own n ops n0 (i + 1) r K (setD tm (some d) (.sl tl es el)) H1') : DrwQ E P own n ops n0 i (⟨some d, OP, ty, pos, aft, grd⟩ :: r) K tm H := .rOpH hw hn h (.sl _ _ _) hh hk hr
theorem qO {all r : List Oper} {d : Nat} {OP : Op} {ty : TypeId} {pos : String} {aft : Array Edge} {grd : Option (Nat × Bool)} {id es ix ln : Nat} {H1 H1' : Heap} (hw : wantedA all tm ⟨some d, OP, ty, pos, aft, grd⟩ = some true) (hn : Nat.blt d n = true) (h : aOp E (own d) (evalO E tm) OP H = some (.own id es ix ln, H1)) (hh : IsH H1 H1') (hr : RegQ E P own n all r K (setD tm (some d) (.own id es ix ln)) H1') : RegQ E P own n all (⟨some d, OP, ty, pos, aft, grd⟩ :: r) K tm H := .rOpH hw hn h (.own _ _ _ _) hh hr
theorem dO {ops : Array Oper} {n0 i : Nat} {r : List Oper} {d : Nat} {OP : Op} {ty : TypeId} {pos : String} {aft : Array Edge} {grd : Option (Nat × Bool)} {id es ix ln : Nat} {H1 H1' : Heap} (hw : wantedA ops.toList tm ⟨some d, OP, ty, pos, aft, grd⟩ = some true) (hn : Nat.blt d n = true) (h : aOp E (own d) (evalO E tm) OP H = some (.own id es ix ln, H1)) (hh : IsH H1 H1') (hk : okD E own n0 tm ⟨some d, OP, ty, pos, aft, grd⟩ H H1 = true) (hr : DrwQ E P own n ops n0 (i + 1) r K (setD tm (some d) (.own id es ix ln)) H1') : DrwQ E P own n ops n0 i (⟨some d, OP, ty, pos, aft, grd⟩ :: r) K tm H := .rOpH hw hn h (.own _ _ _ _) hh hk hr
theorem qG {all r : List Oper} {d : Nat} {OP : Op} {ty : TypeId} {pos : String} {aft : Array Edge} {grd : Option (Nat × Bool)} {id : Nat} {H1 H1' : Heap} (hw : wantedA all tm ⟨some d, OP, ty, pos, aft, grd⟩ = some true) (hn : Nat.blt d n = true) (h : aOp E (own d) (evalO E tm) OP H = some (.map id, H1)) (hh : IsH H1 H1') (hr : RegQ E P own n all r K (setD tm (some d) (.map id)) H1') : RegQ E P own n all (⟨some d, OP, ty, pos, aft, grd⟩ :: r) K tm H := .rOpH hw hn h (.map _) hh hr
theorem dG {ops : Array Oper} {n0 i : Nat} {r : List Oper} {d : Nat} {OP : Op} {ty : TypeId} {pos : String} {aft : Array Edge} {grd : Option (Nat × Bool)} {id : Nat} {H1 H1' : Heap} (hw : wantedA ops.toList tm ⟨some d, OP, ty, pos, aft, grd⟩ = some true) (hn : Nat.blt d n = true) (h : aOp E (own d) (evalO E tm) OP H = some (.map id, H1)) (hh : IsH H1 H1') (hk : okD E own n0 tm ⟨some d, OP, ty, pos, aft, grd⟩ H H1 = true) (hr : DrwQ E P own n ops n0 (i + 1) r K (setD tm (some d) (.map id)) H1') : DrwQ E P own n ops n0 i (⟨some d, OP, ty, pos, aft, grd⟩ :: r) K tm H := .rOpH hw hn h (.map _) hh hk hr
theorem qR {all r : List Oper} {d : Nat} {OP : Op} {ty : TypeId} {pos : String} {aft : Array Edge} {grd : Option (Nat × Bool)} {p : PV} {a b c e : Nat} {H1 H1' : Heap} (hw : wantedA all tm ⟨some d, OP, ty, pos, aft, grd⟩ = some true) (hn : Nat.blt d n = true) (h : aOp E (own d) (evalO E tm) OP H = some (p, H1)) (hv : IsV p (.ptr a b c e)) (hh : IsH H1 H1') (hr : RegQ E P own n all r K (setD tm (some d) (.ptr a b c e)) H1') : RegQ E P own n all (⟨some d, OP, ty, pos, aft, grd⟩ :: r) K tm H := .rOpH hw hn h hv hh hr
theorem dR {ops : Array Oper} {n0 i : Nat} {r : List Oper} {d : Nat} {OP : Op} {ty : TypeId} {pos : String} {aft : Array Edge} {grd : Option (Nat × Bool)} {p : PV} {a b c e : Nat} {H1 H1' : Heap} (hw : wantedA ops.toList tm ⟨some d, OP, ty, pos, aft, grd⟩ = some true) (hn : Nat.blt d n = true) (h : aOp E (own d) (evalO E tm) OP H = some (p, H1)) (hv : IsV p (.ptr a b c e)) (hh : IsH H1 H1') (hk : okD E own n0 tm ⟨some d, OP, ty, pos, aft, grd⟩ H H1 = true) (hr : DrwQ E P own n ops n0 (i + 1) r K (setD tm (some d) (.ptr a b c e)) H1') : DrwQ E P own n ops n0 i (⟨some d, OP, ty, pos, aft, grd⟩ :: r) K tm H := .rOpH hw hn h hv hh hk hr
theorem qB {all r : List Oper} {d : Nat} {OP : Op} {ty : TypeId} {pos : String} {aft : Array Edge} {grd : Option (Nat × Bool)} {e : Bool} {H1 : Heap} (hw : wantedA all tm ⟨some d, OP, ty, pos, aft, grd⟩ = some true) (hn : Nat.blt d n = true) (h : aOp E (own d) (evalO E tm) OP H = some (.bool e, H1)) (ht : e = true → RegQ E P own n all r K (setD tm (some d) (.bool true)) H1) (hf : e = false → RegQ E P own n all r K (setD tm (some d) (.bool false)) H1) : RegQ E P own n all (⟨some d, OP, ty, pos, aft, grd⟩ :: r) K tm H := .rB hw hn h ht hf
theorem qK {all r : List Oper} {d : Nat} {OP : Op} {ty : TypeId} {pos : String} {aft : Array Edge} {j : Nat} {w : Bool} (hw : wantedA all tm ⟨some d, OP, ty, pos, aft, some (j, w)⟩ = some false) (hn : Nat.blt d n = true) (hr : RegQ E P own n all r K (setD tm (some d) unset) H) : RegQ E P own n all (⟨some d, OP, ty, pos, aft, some (j, w)⟩ :: r) K tm H := .rSkip hw hn hr
theorem qLn {all r : List Oper} {d : Nat} {x : Operand} {t : TypeId} {ty : TypeId} {pos : String} {aft : Array Edge} {grd : Option (Nat × Bool)} {ti : TI} {e : TypeId} {b : Bool} {es : Nat} {el : List (List PV)} (hw : wantedA all tm ⟨some d, .call { callee := .builtin .len, args := #[x], argTypes := #[t] }, ty, pos, aft, grd⟩ = some true) (hn : Nat.blt d n = true) (hx : evalO E tm x = slV b es el) (ht : E.T t = some ti) (hk : ti.tk = .slice e) (hr : RegQ E P own n all r K (setD tm (some d) (.int .i64 (el.length : Int))) H) : RegQ E P own n all (⟨some d, .call { callee := .builtin .len, args := #[x], argTypes := #[t] }, ty, pos, aft, grd⟩ :: r) K tm H := .rLen hw hn hx ht hk hr
theorem qIx {all r : List Oper} {d : Nat} {t e : TypeId} {x y : Operand} {ty : TypeId} {pos : String} {aft : Array Edge} {grd : Option (Nat × Bool)} {ti ei : TI} {b : Bool} {es : Nat} {el : List (List PV)} {k : IntKind} {j : Nat} {cs : List PV} (hw : wantedA all tm ⟨some d, .indexAddr t x y, ty, pos, aft, grd⟩ = some true) (hn : Nat.blt d n = true) (hx : evalO E tm x = slV b es el) (ht : E.T t = some ti) (hk : ti.tk = .slice e) (he : E.T e = some ei) (hes : ei.size = es) (hy : evalO E tm y = .int k (j : Int)) (hj : el[j]? = some cs) (hr : RegQ E P own n all r K (setD tm (some d) (.fptr cs 0)) H) : RegQ E P own n all (⟨some d, .indexAddr t x y, ty, pos, aft, grd⟩ :: r) K tm H := .rIdx hw hn hx ht hk he hes hy hj hr
theorem dB {ops : Array Oper} {n0 i : Nat} {r : List Oper} {d : Nat} {OP : Op} {ty : TypeId} {pos : String} {aft : Array Edge} {grd : Option (Nat × Bool)} {e : Bool} {H1 : Heap} (hw : wantedA ops.toList tm ⟨some d, OP, ty, pos, aft, grd⟩ = some true) (hn : Nat.blt d n = true) (h : aOp E (own d) (evalO E tm) OP H = some (.bool e, H1)) (hk : okD E own n0 tm ⟨some d, OP, ty, pos, aft, grd⟩ H H1 = true) (ht : e = true → DrwQ E P own n ops n0 (i + 1) r K (setD tm (some d) (.bool true)) H1) (hf : e = false → DrwQ E P own n ops n0 (i + 1) r K (setD tm (some d) (.bool false)) H1) : DrwQ E P own n ops n0 i (⟨some d, OP, ty, pos, aft, grd⟩ :: r) K tm H := .rB hw hn h hk ht hf
theorem dK {ops : Array Oper} {n0 i : Nat} {r : List Oper} {d : Nat} {OP : Op} {ty : TypeId} {pos : String} {aft : Array Edge} {j : Nat} {w : Bool} (hw : wantedA ops.toList tm ⟨some d, OP, ty, pos, aft, some (j, w)⟩ = some false) (hn : Nat.blt d n = true) (hr : DrwQ E P own n ops n0 (i + 1) r K (setD tm (some d) unset) H) : DrwQ E P own n ops n0 i (⟨some d, OP, ty, pos, aft, some (j, w)⟩ :: r) K tm H := .rSkip hw hn hr
theorem dLn {ops : Array Oper} {n0 i : Nat} {r : List Oper} {d : Nat} {x : Operand} {t : TypeId} {ty : TypeId} {pos : String} {aft : Array Edge} {grd : Option (Nat × Bool)} {ti : TI} {e : TypeId} {b : Bool} {es : Nat} {el : List (List PV)} (hw : wantedA ops.toList tm ⟨some d, .call { callee := .builtin .len, args := #[x], argTypes := #[t] }, ty, pos, aft, grd⟩ = some true) (hn : Nat.blt d n = true) (hx : evalO E tm x = slV b es el) (ht : E.T t = some ti) (hk : ti.tk = .slice e) (hr : DrwQ E P own n ops n0 (i + 1) r K (setD tm (some d) (.int .i64 (el.length : Int))) H) : DrwQ E P own n ops n0 i (⟨some d, .call { callee := .builtin .len, args := #[x], argTypes := #[t] }, ty, pos, aft, grd⟩ :: r) K tm H := .rLen hw hn hx ht hk hr
theorem dIx {ops : Array Oper} {n0 i : Nat} {r : List Oper} {d : Nat} {t e : TypeId} {x y : Operand} {ty : TypeId} {pos : String} {aft : Array Edge} {grd : Option (Nat × Bool)} {ti ei : TI} {b : Bool} {es : Nat} {el : List (List PV)} {k : IntKind} {j : Nat} {cs : List PV} (hw : wantedA ops.toList tm ⟨some d, .indexAddr t x y, ty, pos, aft, grd⟩ = some true) (hn : Nat.blt d n = true) (hx : evalO E tm x = slV b es el) (ht : E.T t = some ti) (hk : ti.tk = .slice e) (he : E.T e = some ei) (hes : ei.size = es) (hy : evalO E tm y = .int k (j : Int)) (hj : el[j]? = some cs) (hr : DrwQ E P own n ops n0 (i + 1) r K (setD tm (some d) (.fptr cs 0)) H) : DrwQ E P own n ops n0 i (⟨some d, .indexAddr t x y, ty, pos, aft, grd⟩ :: r) K tm H := .rIdx hw hn hx ht hk he hes hy hj hr
theorem qSt {all r : List Oper} {t : TypeId} {a v : Operand} {ty : TypeId} {pos : String} {aft : Array Edge} {grd : Option (Nat × Bool)} {ti : TI} {cs cs' : List PV} {H1 H1' : Heap} (hw : wantedA all tm ⟨none, .store t a v, ty, pos, aft, grd⟩ = some true) (ht : E.T t = some ti) (hcs : (evalO E tm v).cells = cs) (hn : IsL cs cs') (hl : (Nat.beq cs'.length ti.size && Nat.blt 0 ti.size) = true) (hc : cs'.all cellOk = true) (hwr : H.wr (evalO E tm a) cs' = some H1) (hh : IsH H1 H1') (hr : RegQ E P own n all r K tm H1') :
    RegQ E P own n all (⟨none, .store t a v, ty, pos, aft, grd⟩ :: r) K tm H := .rSt hw ht hcs hn hl hc hwr hh hr
theorem qSl {all r : List Oper} {d : Nat} {ty : TypeId} {pos : String} {aft : Array Edge} {grd : Option (Nat × Bool)} {t : TypeId} {x : Operand} {lo hi mx : Option Operand} {X : PV} {LO HI MX : Option PV} {p p' : PV} (hw : wantedA all tm ⟨some d, .slice t x lo hi mx, ty, pos, aft, grd⟩ = some true) (hn : Nat.blt d n = true) (hx : evalO E tm x = X) (h1 : optV (evalO E tm) lo = LO) (h2 : optV (evalO E tm) hi = HI) (h3 : optV (evalO E tm) mx = MX) (h : aSlice E t X LO HI MX = some p) (hv : IsV p p') (hr : RegQ E P own n all r K (setD tm (some d) p') H) : RegQ E P own n all (⟨some d, .slice t x lo hi mx, ty, pos, aft, grd⟩ :: r) K tm H := .rSl hw hn hx h1 h2 h3 h hv hr
theorem dSl {ops : Array Oper} {n0 i : Nat} {r : List Oper} {d : Nat} {ty : TypeId} {pos : String} {aft : Array Edge} {grd : Option (Nat × Bool)} {t : TypeId} {x : Operand} {lo hi mx : Option Operand} {X : PV} {LO HI MX : Option PV} {p p' : PV} (hw : wantedA ops.toList tm ⟨some d, .slice t x lo hi mx, ty, pos, aft, grd⟩ = some true) (hn : Nat.blt d n = true) (hx : evalO E tm x = X) (h1 : optV (evalO E tm) lo = LO) (h2 : optV (evalO E tm) hi = HI) (h3 : optV (evalO E tm) mx = MX) (h : aSlice E t X LO HI MX = some p) (hv : IsV p p') (hk : okD E own n0 tm ⟨some d, .slice t x lo hi mx, ty, pos, aft, grd⟩ H H = true) (hr : DrwQ E P own n ops n0 (i + 1) r K (setD tm (some d) p') H) : DrwQ E P own n ops n0 i (⟨some d, .slice t x lo hi mx, ty, pos, aft, grd⟩ :: r) K tm H := .rSl hw hn hx h1 h2 h3 h hv hk hr
theorem qBi {all r : List Oper} {d : Nat} {ty : TypeId} {pos : String} {aft : Array Edge} {grd : Option (Nat × Bool)} {op : BinOp} {t yt : TypeId} {x y : Operand} {X Y : PV} {p p' : PV} (hw : wantedA all tm ⟨some d, .binOp op t x y yt, ty, pos, aft, grd⟩ = some true) (hn : Nat.blt d n = true) (hx : evalO E tm x = X) (hy : evalO E tm y = Y) (h : aBin E op t X Y = some p) (hv : IsV p p') (hr : RegQ E P own n all r K (setD tm (some d) p') H) : RegQ E P own n all (⟨some d, .binOp op t x y yt, ty, pos, aft, grd⟩ :: r) K tm H := .rBi hw hn hx hy h hv hr
theorem dBi {ops : Array Oper} {n0 i : Nat} {r : List Oper} {d : Nat} {ty : TypeId} {pos : String} {aft : Array Edge} {grd : Option (Nat × Bool)} {op : BinOp} {t yt : TypeId} {x y : Operand} {X Y : PV} {p p' : PV} (hw : wantedA ops.toList tm ⟨some d, .binOp op t x y yt, ty, pos, aft, grd⟩ = some true) (hn : Nat.blt d n = true) (hx : evalO E tm x = X) (hy : evalO E tm y = Y) (h : aBin E op t X Y = some p) (hv : IsV p p') (hk : okD E own n0 tm ⟨some d, .binOp op t x y yt, ty, pos, aft, grd⟩ H H = true) (hr : DrwQ E P own n ops n0 (i + 1) r K (setD tm (some d) p') H) : DrwQ E P own n ops n0 i (⟨some d, .binOp op t x y yt, ty, pos, aft, grd⟩ :: r) K tm H := .rBi hw hn hx hy h hv hk hr
theorem qXi {all r : List Oper} {d : Nat} {ty : TypeId} {pos : String} {aft : Array Edge} {grd : Option (Nat × Bool)} {t : TypeId} {x y : Operand} {X Y : PV} {p p' : PV} (hw : wantedA all tm ⟨some d, .index t x y, ty, pos, aft, grd⟩ = some true) (hn : Nat.blt d n = true) (hx : evalO E tm x = X) (hy : evalO E tm y = Y) (h : aIndex E t X Y = some p) (hv : IsV p p') (hr : RegQ E P own n all r K (setD tm (some d) p') H) : RegQ E P own n all (⟨some d, .index t x y, ty, pos, aft, grd⟩ :: r) K tm H := .rIx hw hn hx hy h hv hr
theorem dXi {ops : Array Oper} {n0 i : Nat} {r : List Oper} {d : Nat} {ty : TypeId} {pos : String} {aft : Array Edge} {grd : Option (Nat × Bool)} {t : TypeId} {x y : Operand} {X Y : PV} {p p' : PV} (hw : wantedA ops.toList tm ⟨some d, .index t x y, ty, pos, aft, grd⟩ = some true) (hn : Nat.blt d n = true) (hx : evalO E tm x = X) (hy : evalO E tm y = Y) (h : aIndex E t X Y = some p) (hv : IsV p p') (hk : okD E own n0 tm ⟨some d, .index t x y, ty, pos, aft, grd⟩ H H = true) (hr : DrwQ E P own n ops n0 (i + 1) r K (setD tm (some d) p') H) : DrwQ E P own n ops n0 i (⟨some d, .index t x y, ty, pos, aft, grd⟩ :: r) K tm H := .rIx hw hn hx hy h hv hk hr
theorem qIa {all r : List Oper} {d : Nat} {ty : TypeId} {pos : String} {aft : Array Edge} {grd : Option (Nat × Bool)} {t : TypeId} {x y : Operand} {X Y : PV} {p p' : PV} (hw : wantedA all tm ⟨some d, .indexAddr t x y, ty, pos, aft, grd⟩ = some true) (hn : Nat.blt d n = true) (hx : evalO E tm x = X) (hy : evalO E tm y = Y) (h : aIndexAddr E t X Y = some p) (hv : IsV p p') (hr : RegQ E P own n all r K (setD tm (some d) p') H) : RegQ E P own n all (⟨some d, .indexAddr t x y, ty, pos, aft, grd⟩ :: r) K tm H := .rIa hw hn hx hy h hv hr
theorem dIa {ops : Array Oper} {n0 i : Nat} {r : List Oper} {d : Nat} {ty : TypeId} {pos : String} {aft : Array Edge} {grd : Option (Nat × Bool)} {t : TypeId} {x y : Operand} {X Y : PV} {p p' : PV} (hw : wantedA ops.toList tm ⟨some d, .indexAddr t x y, ty, pos, aft, grd⟩ = some true) (hn : Nat.blt d n = true) (hx : evalO E tm x = X) (hy : evalO E tm y = Y) (h : aIndexAddr E t X Y = some p) (hv : IsV p p') (hr : DrwQ E P own n ops n0 (i + 1) r K (setD tm (some d) p') H) : DrwQ E P own n ops n0 i (⟨some d, .indexAddr t x y, ty, pos, aft, grd⟩ :: r) K tm H := .rIa hw hn hx hy h hv hr
theorem qLd {all r : List Oper} {d : Nat} {ty : TypeId} {pos : String} {aft : Array Edge} {grd : Option (Nat × Bool)} {t : TypeId} {x : Operand} {X : PV} {p p' : PV} (hw : wantedA all tm ⟨some d, .load t x, ty, pos, aft, grd⟩ = some true) (hn : Nat.blt d n = true) (hx : evalO E tm x = X) (h : aLoad E t X H = some p) (hv : IsV p p') (hr : RegQ E P own n all r K (setD tm (some d) p') H) : RegQ E P own n all (⟨some d, .load t x, ty, pos, aft, grd⟩ :: r) K tm H := .rLd hw hn hx h hv hr
theorem dLd {ops : Array Oper} {n0 i : Nat} {r : List Oper} {d : Nat} {ty : TypeId} {pos : String} {aft : Array Edge} {grd : Option (Nat × Bool)} {t : TypeId} {x : Operand} {X : PV} {p p' : PV} (hw : wantedA ops.toList tm ⟨some d, .load t x, ty, pos, aft, grd⟩ = some true) (hn : Nat.blt d n = true) (hx : evalO E tm x = X) (h : aLoad E t X H = some p) (hv : IsV p p') (hk : okD E own n0 tm ⟨some d, .load t x, ty, pos, aft, grd⟩ H H = true) (hr : DrwQ E P own n ops n0 (i + 1) r K (setD tm (some d) p') H) : DrwQ E P own n ops n0 i (⟨some d, .load t x, ty, pos, aft, grd⟩ :: r) K tm H := .rLd hw hn hx h hv hk hr
theorem qLe {all r : List Oper} {d : Nat} {ty : TypeId} {pos : String} {aft : Array Edge} {grd : Option (Nat × Bool)} {t : TypeId} {x : Operand} {X : PV} {p p' : PV} (hw : wantedA all tm ⟨some d, .call { callee := .builtin .len, args := #[x], argTypes := #[t] }, ty, pos, aft, grd⟩ = some true) (hn : Nat.blt d n = true) (hx : evalO E tm x = X) (h : ∀ H, aLen E t X H = some p) (hv : IsV p p') (hr : RegQ E P own n all r K (setD tm (some d) p') H) : RegQ E P own n all (⟨some d, .call { callee := .builtin .len, args := #[x], argTypes := #[t] }, ty, pos, aft, grd⟩ :: r) K tm H := .rLe hw hn hx h hv hr
theorem dLe {ops : Array Oper} {n0 i : Nat} {r : List Oper} {d : Nat} {ty : TypeId} {pos : String} {aft : Array Edge} {grd : Option (Nat × Bool)} {t : TypeId} {x : Operand} {X : PV} {p p' : PV} (hw : wantedA ops.toList tm ⟨some d, .call { callee := .builtin .len, args := #[x], argTypes := #[t] }, ty, pos, aft, grd⟩ = some true) (hn : Nat.blt d n = true) (hx : evalO E tm x = X) (h : ∀ H, aLen E t X H = some p) (hv : IsV p p') (hk : okD E own n0 tm ⟨some d, .call { callee := .builtin .len, args := #[x], argTypes := #[t] }, ty, pos, aft, grd⟩ H H = true) (hr : DrwQ E P own n ops n0 (i + 1) r K (setD tm (some d) p') H) : DrwQ E P own n ops n0 i (⟨some d, .call { callee := .builtin .len, args := #[x], argTypes := #[t] }, ty, pos, aft, grd⟩ :: r) K tm H := .rLe hw hn hx h hv hk hr
theorem qMk {all r : List Oper} {d : Nat} {ty : TypeId} {pos : String} {aft : Array Edge} {grd : Option (Nat × Bool)} {t : TypeId} {l c : Operand} {X Y : PV} {p : PV} {H1 : Heap} (hw : wantedA all tm ⟨some d, .makeSlice t l c, ty, pos, aft, grd⟩ = some true) (hn : Nat.blt d n = true) (ho : own d = true) (hx : evalO E tm l = X) (hy : evalO E tm c = Y) (h : aMakeSlice E t X Y H = some (p, H1)) (hr : RegQ E P own n all r K (setD tm (some d) p) H1) : RegQ E P own n all (⟨some d, .makeSlice t l c, ty, pos, aft, grd⟩ :: r) K tm H := .rMk hw hn ho hx hy h hr
theorem qAp {all r : List Oper} {d : Nat} {ty : TypeId} {pos : String} {aft : Array Edge} {grd : Option (Nat × Bool)} {t u : TypeId} {x y : Operand} {X Y : PV} {p : PV} {H1 : Heap} (hw : wantedA all tm ⟨some d, .call { callee := .builtin .append, args := #[x, y], argTypes := #[t, u] }, ty, pos, aft, grd⟩ = some true) (hn : Nat.blt d n = true) (ho : own d = false) (hx : evalO E tm x = X) (hy : evalO E tm y = Y) (h : aAppend E t u X Y H = some (p, H1)) (hr : RegQ E P own n all r K (setD tm (some d) p) H1) : RegQ E P own n all (⟨some d, .call { callee := .builtin .append, args := #[x, y], argTypes := #[t, u] }, ty, pos, aft, grd⟩ :: r) K tm H := .rAp hw hn ho hx hy h hr
theorem dAp {ops : Array Oper} {n0 i : Nat} {r : List Oper} {d : Nat} {ty : TypeId} {pos : String} {aft : Array Edge} {grd : Option (Nat × Bool)} {t u : TypeId} {x y : Operand} {X Y : PV} {p : PV} {H1 : Heap} (hw : wantedA ops.toList tm ⟨some d, .call { callee := .builtin .append, args := #[x, y], argTypes := #[t, u] }, ty, pos, aft, grd⟩ = some true) (hn : Nat.blt d n = true) (ho : own d = false) (hx : evalO E tm x = X) (hy : evalO E tm y = Y) (h : aAppend E t u X Y H = some (p, H1)) (hk : okD E own n0 tm ⟨some d, .call { callee := .builtin .append, args := #[x, y], argTypes := #[t, u] }, ty, pos, aft, grd⟩ H H1 = true) (hr : DrwQ E P own n ops n0 (i + 1) r K (setD tm (some d) p) H1) : DrwQ E P own n ops n0 i (⟨some d, .call { callee := .builtin .append, args := #[x, y], argTypes := #[t, u] }, ty, pos, aft, grd⟩ :: r) K tm H := .rAp hw hn ho hx hy h hk hr
theorem qCl {all r : List Oper} {d : Nat} {ty : TypeId} {pos : String} {aft : Array Edge} {grd : Option (Nat × Bool)} {p : PV} {f : Operand} {args : Array Operand} {ats : Array TypeId} {k : FuncId} {caps al : List PV} {H1 : Heap} (hw : wantedA all tm ⟨some d, .call { callee := .value f, args := args, argTypes := ats }, ty, pos, aft, grd⟩ = some true) (hn : Nat.blt d n = true) (hf : evalO E tm f = .fn k caps) (ha : args.toList.map (evalO E tm) ++ caps = al) (h : CallOk E P k al H p H1) (hr : RegQ E P own n all r K (setD tm (some d) p) H1) : RegQ E P own n all (⟨some d, .call { callee := .value f, args := args, argTypes := ats }, ty, pos, aft, grd⟩ :: r) K tm H := .rCall hw hn hf ha h (.any _) hr
theorem dCl {ops : Array Oper} {n0 i : Nat} {r : List Oper} {d : Nat} {ty : TypeId} {pos : String} {aft : Array Edge} {grd : Option (Nat × Bool)} {p : PV} {f : Operand} {args : Array Operand} {ats : Array TypeId} {k : FuncId} {caps al : List PV} (hw : wantedA ops.toList tm ⟨some d, .call { callee := .value f, args := args, argTypes := ats }, ty, pos, aft, grd⟩ = some true) (hn : Nat.blt d n = true) (hf : evalO E tm f = .fn k caps) (ha : args.toList.map (evalO E tm) ++ caps = al) (hc : clsO E own ⟨some d, .call { callee := .value f, args := args, argTypes := ats }, ty, pos, aft, grd⟩ = .qu) (h : CallOk E P k al H p H) (hr : DrwQ E P own n ops n0 (i + 1) r K (setD tm (some d) p) H) : DrwQ E P own n ops n0 i (⟨some d, .call { callee := .value f, args := args, argTypes := ats }, ty, pos, aft, grd⟩ :: r) K tm H := .rCall hw hn hf ha hc h (.any _) hr
theorem dAq {ops : Array Oper} {n0 i : Nat} {r : List Oper} {d : Nat} {ty : TypeId} {pos : String} {aft : Array Edge} {grd : Option (Nat × Bool)} {t u : TypeId} {x y : Operand} {X Y p : PV} {bx : List Box} {ro nt nt' : Nat} {lv lv' : List Nat} (hw : wantedA ops.toList tm ⟨some d, .call { callee := .builtin .append, args := #[x, y], argTypes := #[t, u] }, ty, pos, aft, grd⟩ = some true) (hn : Nat.blt d n = true) (ho : own d = false) (ht : own (d + 5000) = true) (hx : evalO E tm x = X) (hy : evalO E tm y = Y) (h : ∀ ro, aAppend E t u X Y ⟨bx, ro, lv, nt⟩ = some (p, ⟨bx, ro, lv', nt'⟩)) (hr : DrwQ E P own n ops n0 (i + 1) r K (setD tm (some d) p) ⟨bx, ro, lv', nt'⟩) : DrwQ E P own n ops n0 i (⟨some d, .call { callee := .builtin .append, args := #[x, y], argTypes := #[t, u] }, ty, pos, aft, grd⟩ :: r) K tm ⟨bx, ro, lv, nt⟩ := .rApT hw hn ho ht hx hy h hr
theorem qBs {all r : List Oper} {d : Nat} {ty : TypeId} {pos : String} {aft : Array Edge} {grd : Option (Nat × Bool)} {t : TypeId} {m : Nat} {ps : Array (Nat × Operand)} {es : Nat} {el el' : List (List PV)} (hw : wantedA all tm ⟨some d, .buildSlice t m ps, ty, pos, aft, grd⟩ = some true) (hn : Nat.blt d n = true) (ho : own d = false) (h : aBuildSlice E t m (ps.toList.map fun p => (p.1, evalO E tm p.2)) = some (es, el)) (hl : IsLL el el') (hf : frzLL el' = some el') (hr : RegQ E P own n all r K (setD tm (some d) (.sl .full es el')) H) : RegQ E P own n all (⟨some d, .buildSlice t m ps, ty, pos, aft, grd⟩ :: r) K tm H := .rBs hw hn ho h hl hf hr
theorem dBs {ops : Array Oper} {n0 i : Nat} {r : List Oper} {d : Nat} {ty : TypeId} {pos : String} {aft : Array Edge} {grd : Option (Nat × Bool)} {t : TypeId} {m : Nat} {ps : Array (Nat × Operand)} {es : Nat} {el el' : List (List PV)} (hw : wantedA ops.toList tm ⟨some d, .buildSlice t m ps, ty, pos, aft, grd⟩ = some true) (hn : Nat.blt d n = true) (ho : own d = false) (h : aBuildSlice E t m (ps.toList.map fun p => (p.1, evalO E tm p.2)) = some (es, el)) (hl : IsLL el el') (hf : frzLL el' = some el') (hk : okD E own n0 tm ⟨some d, .buildSlice t m ps, ty, pos, aft, grd⟩ H H = true) (hr : DrwQ E P own n ops n0 (i + 1) r K (setD tm (some d) (.sl .full es el')) H) : DrwQ E P own n ops n0 i (⟨some d, .buildSlice t m ps, ty, pos, aft, grd⟩ :: r) K tm H := .rBs hw hn ho h hl hf hk hr
theorem rFin {fn : Func} {r : PV} {ps ps' : List PV} (h1 : resA E tm H fn.results.toList = some ps) (hp : IsL ps ps') (h2 : frz3 0 H (one ps') = some r) : RetQ E fn r .ret tm H := .fin h1 hp h2
theorem mFin {fn : Func} {m : Nat} {r : PV} {ps ps' : List PV} (h1 : resA E tm H fn.results.toList = some ps) (hp : IsL ps ps') (h2 : frz3 m H (one ps') = some r) : RetM E fn m r .ret tm H := .fin h1 hp h2
theorem rInt {fn : Func} {r : PV} {ps : List PV} {k : IntKind} {m : Int} (h1 : resA E tm H fn.results.toList = some ps) (h2 : frz3 0 H (one ps) = some (.int k m)) (he : .int k m = r) : RetQ E fn r .ret tm H := .end h1 h2 (.int _ _) he
theorem rBool {fn : Func} {r : PV} {ps : List PV} {b : Bool} (h1 : resA E tm H fn.results.toList = some ps) (h2 : frz3 0 H (one ps) = some (.bool b)) (he : .bool b = r) : RetQ E fn r .ret tm H := .end h1 h2 (.bool _) he
end
end Go.Vm

/-
  Rules for an operation of any kind: its value and the heap behind it are brought to their head forms.
-/
namespace Go.Vm

theorem IsV.n {p p' : PV} (h : IsV p p' := by first | exact Go.Vm.IsV.int _ _ | exact Go.Vm.IsV.str _ | exact Go.Vm.IsV.slV _ _ _ | exact Go.Vm.IsV.nils | exact Go.Vm.IsV.sl _ _ _ | exact Go.Vm.IsV.ptrN | exact Go.Vm.IsV.aggN | exact Go.Vm.IsV.tupN | exact Go.Vm.IsV.fptr _ _ | exact Go.Vm.IsV.own _ _ _ _ | exact Go.Vm.IsV.fn _ _ | exact Go.Vm.IsV.nilp | exact Go.Vm.IsV.nilm | exact Go.Vm.IsV.map _ | exact Go.Vm.IsV.nilf | exact Go.Vm.IsV.any _) : IsV p p' := h

section
variable {E : Env} {P : Program} {own : Tmp → Bool} {n : Nat} {Q : Ex → TM → Heap → Prop} {K : TM → Heap → Prop} {tm : TM} {H : Heap}
theorem g0 {all r : List Oper} {d : Nat} {OP : Op} {ty : TypeId} {pos : String} {aft : Array Edge} {grd : Option (Nat × Bool)} {p p' : PV} (hw : wantedA all tm ⟨some d, OP, ty, pos, aft, grd⟩ = some true) (hn : Nat.blt d n = true) (h : aOp E (own d) (evalO E tm) OP H = some (p, H)) (hv : IsV p p')
    (hr : RegQ E P own n all r K (setD tm (some d) p') H) : RegQ E P own n all (⟨some d, OP, ty, pos, aft, grd⟩ :: r) K tm H := .rOp hw hn h hv hr
theorem g1 {all r : List Oper} {d : Nat} {OP : Op} {ty : TypeId} {pos : String} {aft : Array Edge} {grd : Option (Nat × Bool)} {p p' : PV} {H1 H1' : Heap} (hw : wantedA all tm ⟨some d, OP, ty, pos, aft, grd⟩ = some true) (hn : Nat.blt d n = true) (h : aOp E (own d) (evalO E tm) OP H = some (p, H1)) (hv : IsV p p') (hh : IsH H1 H1')
    (hr : RegQ E P own n all r K (setD tm (some d) p') H1') : RegQ E P own n all (⟨some d, OP, ty, pos, aft, grd⟩ :: r) K tm H := .rOpH hw hn h hv hh hr
theorem h0 {ops : Array Oper} {n0 i : Nat} {r : List Oper} {d : Nat} {OP : Op} {ty : TypeId} {pos : String} {aft : Array Edge} {grd : Option (Nat × Bool)} {p p' : PV} (hw : wantedA ops.toList tm ⟨some d, OP, ty, pos, aft, grd⟩ = some true) (hn : Nat.blt d n = true) (h : aOp E (own d) (evalO E tm) OP H = some (p, H)) (hv : IsV p p')
    (hk : okD E own n0 tm ⟨some d, OP, ty, pos, aft, grd⟩ H H = true) (hr : DrwQ E P own n ops n0 (i + 1) r K (setD tm (some d) p') H) : DrwQ E P own n ops n0 i (⟨some d, OP, ty, pos, aft, grd⟩ :: r) K tm H := .rOp hw hn h hv hk hr
theorem h1 {ops : Array Oper} {n0 i : Nat} {r : List Oper} {d : Nat} {OP : Op} {ty : TypeId} {pos : String} {aft : Array Edge} {grd : Option (Nat × Bool)} {p p' : PV} {H1 H1' : Heap} (hw : wantedA ops.toList tm ⟨some d, OP, ty, pos, aft, grd⟩ = some true) (hn : Nat.blt d n = true) (h : aOp E (own d) (evalO E tm) OP H = some (p, H1)) (hv : IsV p p') (hh : IsH H1 H1')
    (hk : okD E own n0 tm ⟨some d, OP, ty, pos, aft, grd⟩ H H1 = true) (hr : DrwQ E P own n ops n0 (i + 1) r K (setD tm (some d) p') H1') : DrwQ E P own n ops n0 i (⟨some d, OP, ty, pos, aft, grd⟩ :: r) K tm H := .rOpH hw hn h hv hh hk hr
/-! ### boxes that are looked at no more -/
theorem under_slV (n : Nat) (b : Bool) (es : Nat) (el : List (List PV)) : under n (slV b es el) = true := by
  unfold slV
  cases el with
  | nil => cases b <;> rfl
  | cons c r => rfl
def dropR (n0 : Nat) (Q : Ex → TM → Heap → Prop) (ex : Ex) (tm : TM) (H : Heap) : Prop :=
  Q ex tm H ∨ ∃ tm2, (∀ t, tm2 t = .undef ∨ (tm2 t = tm t ∧ under n0 (tm t) = true)) ∧ (H.bx.take n0).all (boxU n0) = true ∧ Q ex tm2 { H with bx := H.bx.take n0 }
structure DropQ (n0 : Nat) (Q : Ex → TM → Heap → Prop) (ex : Ex) (tm : TM) (H : Heap) : Prop where
  out : dropR n0 Q ex tm H
theorem Wp.drop {c : Code} (h : Wp E P own n c (DropQ H.bx.length Q) tm H) : Wp E P own n c Q tm H := by
  obtain ⟨ex, tm', H', h1, ⟨h2⟩⟩ := h.out
  rcases h2 with h2 | ⟨tm2, a, b, h3⟩
  · exact ⟨ex, tm', H', h1, h2⟩
  · exact ⟨ex, tm2, _, .drop _ _ _ _ _ _ _ h1 a b, h3⟩
theorem DropQ.ret {n0 : Nat} (h : Q .ret tm H) : DropQ n0 Q .ret tm H := ⟨.inl h⟩
theorem DropQ.exit {n0 i : Nat} (h : Q (.exit i) tm H) : DropQ n0 Q (.exit i) tm H := ⟨.inl h⟩
theorem ovr_undef {l : List (Nat × PV)} : okL tm l → (l.all fun x => under n x.2) = true → ∀ t, ovr (fun _ => .undef) l t = .undef ∨ (ovr (fun _ => .undef) l t = tm t ∧ under n (tm t) = true) := by
  induction l with
  | nil => intro _ _ t; exact .inl rfl
  | cons x r ih =>
    obtain ⟨d, v⟩ := x
    intro h hu t
    simp only [List.all_cons, Bool.and_eq_true] at hu
    simp only [ovr, setD]
    split
    · rename_i e
      subst e
      exact .inr ⟨h.1.symm, by rw [h.1]; exact hu.1⟩
    · exact ih h.2 hu.2 t
/-- Back at a loop's head: the slots that matter, the boxes that were there before. -/
theorem DropQ.go {n0 : Nat} {ex : Ex} (l : List (Nat × PV)) {bx bx' : List Box} {ro nt : Nat} {lv : List Nat} (hl : okL tm l) (hu : (l.all fun x => under n0 x.2) = true) (hb : bx.take n0 = bx') (hbu : bx'.all (boxU n0) = true)
    (h : Q ex (ovr (fun _ => .undef) l) ⟨bx', ro, lv, nt⟩) : DropQ n0 Q ex tm ⟨bx, ro, lv, nt⟩ := by
  subst hb
  exact ⟨.inr ⟨_, ovr_undef hl hu, hbu, h⟩⟩
end
end Go.Vm

/-
  Terms: what is left of a budget of nodes, what is small, what is stripped.
-/
namespace Go.Vm

mutual
def Tm.budget : Tm → Int → Int
  | .mk _ nm _ _ kids, n => if n ≤ 0 ∨ 40 < nm.length then -1 else budgetL kids (n - 1)
def budgetL : List Tm → Int → Int
  | [], n => n
  | t :: r, n => if t.budget n < 0 then -1 else budgetL r (t.budget n)
end

mutual
theorem Tm.budget_eq : ∀ (t : Tm) (n : Int), 0 ≤ t.budget n → t.budget n = n - (t.size : Int)
  | .mk k nm s b kids, n, h => by
    simp only [Tm.budget] at h ⊢
    split at h
    · omega
    · rename_i hc
      rw [if_neg hc, budgetL_eq kids (n - 1) (by omega) h]
      simp only [Tm.size]
      omega
theorem budgetL_eq : ∀ (l : List Tm) (n : Int), 0 ≤ n → 0 ≤ budgetL l n → budgetL l n = n - (sizeL l : Int)
  | [], n, _, _ => by simp [budgetL, sizeL]
  | t :: r, n, hn, h => by
    simp only [budgetL] at h ⊢
    split at h
    · omega
    · rename_i hc
      rw [if_neg hc]
      have h1 := Tm.budget_eq t n (by omega)
      rw [budgetL_eq r _ (by omega) h, h1]
      simp only [sizeL]
      omega
end

/-- Few, at a list with a budget. -/
def fewL : List Tm → Int → Bool
  | [], _ => true
  | t :: r, n => if t.budget n < 0 then false else fewL r (t.budget n)
def fewF (l : List Tm) (n most : Int) : Bool := if n < (l.length : Int) then false else fewL l most

def Tm.zero : Tm := .mk 0 [] 0 true []

def isF (kind : Int) (nm w : List UInt8) : Bool := decide (kind = 3) && (nm == w)

/-- Strip: what a transformation did is undone; else an error. -/
def stripF (k : Int) : Tm → Tm × Int
  | .mk kd nm _ _ kids => if k < 1 ∨ 4 < k then (.zero, 7) else
    if kd = 3 ∧ nm = (if k = 4 then [97, 101, 110, 99] else [112, 97, 105, 114]) then match kids with
      | [.mk xk xn xs xb xl, y] => if k = 1 then (if xk = 2 ∧ xs = 5 then (y, 0) else (.zero, 10)) else if k = 3 then (y, 0) else (.mk xk xn xs xb xl, 0)
      | _ => (.zero, 10)
    else (.zero, 10)

theorem drop_cons {α : Type} {l : List α} {i : Nat} {t : α} (h : l[i]? = some t) : l.drop i = t :: l.drop (i + 1) := by
  have hl : i < l.length := by
    rcases Nat.lt_or_ge i l.length with h' | h'
    · exact h'
    · rw [List.getElem?_eq_none h'] at h; cases h
  rw [List.drop_eq_getElem_cons hl]
  rw [List.getElem?_eq_getElem hl] at h
  simp only [Option.some.injEq] at h
  rw [h]

theorem bytesLess_irrefl : ∀ a : List UInt8, Op.bytesLess a a = false
  | [] => rfl
  | x :: r => by simp [Op.bytesLess, bytesLess_irrefl r]

theorem Tm.ok_zero : Tm.zero.Ok := .mk (by decide) (by decide) (Nat.zero_le _) (Nat.zero_le _) (fun t h => absurd h (by simp))
theorem Tm.Ok.kid {k : Int} {nm : List UInt8} {s : Int} {b : Bool} {kids : List Tm} (h : (Tm.mk k nm s b kids).Ok) {t : Tm} (ht : t ∈ kids) : t.Ok := by
  cases h with | mk _ _ _ _ h => exact h t ht

theorem stripF_case (k : Int) (t : Tm) : (stripF k t).1 = .zero ∨ ∃ kd nm s b kids, t = .mk kd nm s b kids ∧ (stripF k t).1 ∈ kids := by
  obtain ⟨kd, nm, s, b, kids⟩ := t
  simp only [stripF]
  repeat' split
  all_goals first
    | exact .inl rfl
    | exact .inr ⟨kd, nm, s, b, _, rfl, by simp⟩

theorem stripF_ok (k : Int) {t : Tm} (ht : t.Ok) : (stripF k t).1.Ok := by
  rcases stripF_case k t with h | ⟨kd, nm, s, b, kids, rfl, h⟩
  · rw [h]; exact Tm.ok_zero
  · exact ht.kid h
theorem size_pos (t : Tm) : 0 < t.size := by
  cases t
  simp only [Tm.size]
  omega
theorem stripF_size (k : Int) (t : Tm) : (stripF k t).1.size ≤ t.size := by
  rcases stripF_case k t with h | ⟨kd, nm, s, b, kids, rfl, h⟩
  · rw [h]
    have := size_pos t
    simp only [Tm.zero, Tm.size, sizeL]
    omega
  · have := size_le h
    simp only [Tm.size]
    omega

/-- What passes Few alone has few nodes. -/
theorem few_size {t : Tm} {n most : Int} (h : fewF [t] n most = true) : (t.size : Int) ≤ most := by
  simp only [fewF] at h
  split at h
  · cases h
  · simp only [fewL] at h
    split at h
    · cases h
    · rename_i hb
      have := t.budget_eq most (by omega)
      omega
end Go.Vm

/-
  A term that is read is a tree; the call of a statement's function, and what it leaves as it was.
-/
namespace Go.Vm
open Go.RowKit

section
variable {T : TypeId → Option TI}

theorem sh_int {x : TypeId} {cs : List PV} (h : Sh T x cs) {ti : TI} {k : IntKind} (ht : T x = some ti) (hk : ti.tk = .int k) : ∃ n, cs = [.int k n] ∧ (Lit.int k n).wf = true := by
  cases h with
  | int h' hk' hn => rw [ht] at h'; cases h'; rw [hk] at hk'; cases hk'; exact ⟨_, rfl, hn⟩
  | bool h' hk' => rw [ht] at h'; cases h'; rw [hk] at hk'; cases hk'
  | str h' hk' => rw [ht] at h'; cases h'; rw [hk] at hk'; cases hk'
  | nils h' hk' => rw [ht] at h'; cases h'; rw [hk] at hk'; cases hk'
  | sl h' hk' => rw [ht] at h'; cases h'; rw [hk] at hk'; cases hk'
  | struct h' hk' => rw [ht] at h'; cases h'; rw [hk] at hk'; cases hk'
theorem sh_str {x : TypeId} {cs : List PV} (h : Sh T x cs) {ti : TI} (ht : T x = some ti) (hk : ti.tk = .string) : ∃ s, cs = [.str s] ∧ s.length ≤ maxLen := by
  cases h with
  | int h' hk' => rw [ht] at h'; cases h'; rw [hk] at hk'; cases hk'
  | bool h' hk' => rw [ht] at h'; cases h'; rw [hk] at hk'; cases hk'
  | str h' hk' hs => exact ⟨_, rfl, hs⟩
  | nils h' hk' => rw [ht] at h'; cases h'; rw [hk] at hk'; cases hk'
  | sl h' hk' => rw [ht] at h'; cases h'; rw [hk] at hk'; cases hk'
  | struct h' hk' => rw [ht] at h'; cases h'; rw [hk] at hk'; cases hk'

theorem kids_of : ∀ (el : List (List PV)), (∀ c, c ∈ el → ∃ t : Tm, c = t.cells ∧ t.Ok) → ∃ kids : List Tm, el = cellsL kids ∧ ∀ t, t ∈ kids → t.Ok
  | [], _ => ⟨[], rfl, fun t h => absurd h (by simp)⟩
  | c :: r, h => by
    obtain ⟨t, ht, ho⟩ := h c List.mem_cons_self
    obtain ⟨kids, hk, hko⟩ := kids_of r fun c hc => h c (List.mem_cons_of_mem _ hc)
    refine ⟨t :: kids, by simp only [cellsL, ht, hk], fun u hu => ?_⟩
    rcases List.mem_cons.1 hu with rfl | hu
    · exact ho
    · exact hko u hu

theorem slV_false (es : Nat) (el : List (List PV)) : slV false es el = .sl .none es el := by
  cases el with
  | nil => exact slV_nil_false es
  | cons c r => exact slV_cons false es c r

theorem len4 {α : Type} {l : List α} (h : l.length = 4) : ∃ a b c d, l = [a, b, c, d] := by
  match l, h with
  | [a, b, c, d], _ => exact ⟨a, b, c, d, rfl⟩

theorem sh_tm {i s l t : TypeId} {ii si li ti : TI} (hi : T i = some ii) (ki : ii.tk = .int .i64) (zi : ii.size = 1) (hs : T s = some si) (ks : si.tk = .string) (zs : si.size = 1) (hl : T l = some li) (kl : li.tk = .slice t) (zl : li.size = 1)
    (ht : T t = some ti) (kt : ti.tk = .struct [(0, i), (1, s), (2, i), (3, l)]) (zt : ti.size = 4) {x : TypeId} {cs : List PV} (h : Sh T x cs) :
    (x = t → ∃ tm : Tm, cs = tm.cells ∧ tm.Ok) ∧ (x = l → ∃ b kids, cs = [slV b 4 (cellsL kids)] ∧ (∀ k, k ∈ kids → k.Ok) ∧ kids.length ≤ maxLen) := by
  induction h with
  | bool h' hk' => exact ⟨fun e => (by subst e; rw [ht] at h'; cases h'; rw [kt] at hk'; cases hk'), fun e => (by subst e; rw [hl] at h'; cases h'; rw [kl] at hk'; cases hk')⟩
  | int h' hk' => exact ⟨fun e => (by subst e; rw [ht] at h'; cases h'; rw [kt] at hk'; cases hk'), fun e => (by subst e; rw [hl] at h'; cases h'; rw [kl] at hk'; cases hk')⟩
  | str h' hk' => exact ⟨fun e => (by subst e; rw [ht] at h'; cases h'; rw [kt] at hk'; cases hk'), fun e => (by subst e; rw [hl] at h'; cases h'; rw [kl] at hk'; cases hk')⟩
  | nils h' hk' => exact ⟨fun e => (by subst e; rw [ht] at h'; cases h'; rw [kt] at hk'; cases hk'), fun e => ⟨true, [], by rw [cellsL, slV_nil_true], fun k hk => absurd hk (by simp), Nat.zero_le _⟩⟩
  | @sl x' ti' e' ei' el' h' hk' he hlen hel ih =>
    refine ⟨fun e => (by subst e; rw [ht] at h'; cases h'; rw [kt] at hk'; cases hk'), fun e => ?_⟩
    subst e
    rw [hl] at h'; cases h'
    rw [kl] at hk'; cases hk'
    rw [ht] at he; cases he
    obtain ⟨kids, hk, hok⟩ := kids_of el' fun c hc => (ih c hc).1 rfl
    refine ⟨false, kids, by rw [slV_false, ← hk, zt], hok, ?_⟩
    rw [hk, cellsL_length] at hlen
    exact hlen
  | @struct x' ti' fs' cs' h' hk' hlen hf ih =>
    refine ⟨fun e => ?_, fun e => (by subst e; rw [hl] at h'; cases h'; rw [kl] at hk'; cases hk')⟩
    subst e
    rw [ht] at h'; cases h'
    rw [kt] at hk'; cases hk'
    rw [zt] at hlen
    obtain ⟨a, b, c, d, rfl⟩ := len4 hlen
    have q0 := hf 0 i ii (by simp) hi
    have q1 := hf 1 s si (by simp) hs
    have q2 := hf 2 i ii (by simp) hi
    have q3 := (ih 3 l li (by simp) hl).2 rfl
    rw [zi] at q0 q2
    rw [zs] at q1
    rw [zl] at q3
    obtain ⟨n0, e0, w0⟩ := sh_int q0 hi ki
    obtain ⟨n1, e1, w1⟩ := sh_str q1 hs ks
    obtain ⟨n2, e2, w2⟩ := sh_int q2 hi ki
    obtain ⟨b3, kids, e3, w3, w4⟩ := q3
    simp only [List.drop_zero, List.drop_succ_cons, List.take_succ_cons, List.take_zero, List.cons.injEq, and_true] at e0 e1 e2 e3
    subst e0 e1 e2 e3
    exact ⟨.mk n0 n1 n2 b3 kids, rfl, .mk w0 w2 w1 w4 w3⟩
end

section
variable {E : Env} {P : Program} {w : World}
/-- The code of a statement's function; what it leaves as it was. -/
theorem calls_of2 {f : FuncId} {fn : Func} {c : Code} (hf : FnOk P f fn c) (hG : E.G = fun _ => none) {args : List PV} {r : PV} (h : CallOk E P f args hNil r hNil) {vals : Array Value} (hv : CellsOf (wS w) args vals.toList) :
    Calls P f vals w fun e w' => ∃ v, e = .returned v ∧ (∃ g', V g' r v) ∧ GrownB w w' ∧ ∀ k, k < w.heap.size → w'.heap[k]? = w.heap[k]? := by
  have hu := h (wG w) w vals (wG_inv w) (fun k cs e => by rw [hG] at e; cases e) ⟨hv.1, fun i h1 h2 => .pure _ _ (hv.2 i h1 h2)⟩
  rw [callFunc_enter hf] at hu
  exact Calls.mono hu fun e w' ⟨v, e1, g', hp, _, k⟩ => ⟨v, e1, ⟨g', hp⟩, grown_of_keep k, fun i hi => k.heap i hi (nil_shut _ i)⟩
theorem same_of {w' : World} (h : ∀ k, k < w.heap.size → w'.heap[k]? = w.heap[k]?) {p : MemPlace} (hp : p.block < w.heap.size) : w.sameAt w' p := by
  cases p with
  | cell b o => exact World.cell?_of_block (w := w) (h b hp)
  | map b => exact h b hp
/-- An aggregate out of its cells. -/
theorem agg_of {S : Store} {pcs : List PV} {cs : Array Value} (h : CellsOf S pcs cs.toList) : V0 S (.agg pcs) (.agg cs) :=
  .agg _ _ (by have := h.1; simpa using this) fun i hi => by
    have := h.2 i hi (by rw [h.1]; exact hi)
    simpa using this
end
end Go.Vm

/-
  Moments of a trace: their cells; what of them is sent, of a session, of some kinds; when a trace is small.
-/
namespace Go.Vm

abbrev Byts := List UInt8
/-- Strings as the cells of a slice. -/
def strC (l : List Byts) : List (List PV) := l.map fun s => [.str s]
theorem strC_len (l : List Byts) : (strC l).length = l.length := by simp [strC]
theorem strC_get {l : List Byts} {i : Nat} {x : Byts} (h : l[i]? = some x) : (strC l)[i]? = some [.str x] := by simp [strC, h]
/-- Numbers as the cells of a slice. -/
def intC (l : List Int) : List (List PV) := l.map fun n => [.int .i64 n]
theorem intC_len (l : List Int) : (intC l).length = l.length := by simp [intC]
theorem intC_get {l : List Int} {i : Nat} {x : Int} (h : l[i]? = some x) : (intC l)[i]? = some [.int .i64 x] := by simp [intC, h]

structure Mo where
  kind : Int
  num : Int
  role : Int
  an : Bool
  agents : List Byts
  goal : Int
  tn : Bool
  terms : List Tm

def Mo.cells (m : Mo) : List PV := [.int .i64 m.kind, .int .i64 m.num, .int .i64 m.role, slV m.an 1 (strC m.agents), .int .i64 m.goal, slV m.tn 4 (cellsL m.terms)]
def moC (l : List Mo) : List (List PV) := l.map Mo.cells
theorem moC_len (l : List Mo) : (moC l).length = l.length := by simp [moC]
theorem moC_get {l : List Mo} {i : Nat} {m : Mo} (h : l[i]? = some m) : (moC l)[i]? = some m.cells := by simp [moC, h]
theorem moC_append (a b : List Mo) : moC (a ++ b) = moC a ++ moC b := by simp [moC]

structure Mo.Ok (m : Mo) : Prop where
  kind : (Lit.int .i64 m.kind).wf = true
  num : (Lit.int .i64 m.num).wf = true
  role : (Lit.int .i64 m.role).wf = true
  goal : (Lit.int .i64 m.goal).wf = true
  al : m.agents.length ≤ maxLen
  as : ∀ s, s ∈ m.agents → s.length ≤ maxLen
  tl : m.terms.length ≤ maxLen
  ts : ∀ t, t ∈ m.terms → t.Ok

def sentF (l : List Mo) : List Tm := l.flatMap fun m => if m.kind = 3 then m.terms else []
def ofF (n : Int) (l : List Mo) : List Mo := l.filter fun m => decide (m.kind ≠ 6) && decide (m.num = n)
def kindsF (ks : List Int) (l : List Mo) : List Mo := l.filter fun m => ks.any (fun k => decide (k = m.kind))

/-- A moment is small. -/
def fewM (m : Mo) : Bool := !(decide (8 < m.agents.length)) && (!(decide (14 < m.terms.length)) && m.agents.all fun s => !(decide (40 < s.length)))
def fewMo (l : List Mo) : Bool := if 420 < l.length then false else if l.all fewM then fewF (l.flatMap (·.terms)) 1000 800 else false

theorem cellsL_append (a b : List Tm) : cellsL (a ++ b) = cellsL a ++ cellsL b := by simp [cellsL_eq]
theorem cellsL_cellOk (l : List Tm) : (cellsL l).all (fun c => c.all cellOk) = true := by
  rw [cellsL_eq, List.all_map, List.all_eq_true]
  rintro ⟨k, nm, s, b, kids⟩ _
  simp only [Function.comp, Tm.cells, List.all_cons, List.all_nil, cellOk_slV]
  rfl
theorem Mo.cells_ok (m : Mo) : m.cells.all cellOk = true := by
  simp only [Mo.cells, List.all_cons, List.all_nil, cellOk_slV]
  rfl

theorem len6 {α : Type} {l : List α} (h : l.length = 6) : ∃ a b c d e f, l = [a, b, c, d, e, f] := by
  match l, h with
  | [a, b, c, d, e, f], _ => exact ⟨a, b, c, d, e, f, rfl⟩
end Go.Vm

/-
  A slice that grows by appends: what it holds, and the rooms that stay its own.
-/
namespace Go.Vm

def tokOf : PV → Option Nat
  | .sl (.tok k) _ _ => some k
  | _ => none

/-- A slice under construction: it began as nil (b) or as an empty or full one, and holds L now. -/
inductive ApV (b : Bool) (es : Nat) : List (List PV) → PV → List Nat → Nat → Prop
  | nil (lv : List Nat) (nt : Nat) (h : b = true) : ApV b es [] .nils lv nt
  | full (L : List (List PV)) (lv : List Nat) (nt : Nat) (h : b = false) (hB : noB L = true) : ApV b es L (.sl .full es L) lv nt
  | tok (L : List (List PV)) (k : Nat) (lv : List Nat) (nt : Nat) (hL : L ≠ []) (hk : k ∈ lv) (hn : k < nt) (hB : noB L = true) : ApV b es L (.sl (.tok k) es L) lv nt

theorem noB_append {L M : List (List PV)} (h : noB L = true) (h2 : noB M = true) : noB (L ++ M) = true := by
  simp only [noB, List.all_append, Bool.and_eq_true] at h h2 ⊢
  exact ⟨h, h2⟩
theorem eraseTok_mem : ∀ {l : List Nat} {k : Nat}, k ∈ l → ∃ l', eraseTok k l = some l' ∧ ∀ j, j ∈ l → j ≠ k → j ∈ l'
  | x :: r, k, h => by
    simp only [eraseTok]
    by_cases e : x = k
    · rw [if_pos e]
      refine ⟨r, rfl, fun j hj hn => ?_⟩
      rcases List.mem_cons.1 hj with e2 | hj
      · exact absurd (e2.trans e) hn
      · exact hj
    · rw [if_neg e]
      have hr : k ∈ r := by
        rcases List.mem_cons.1 h with e2 | h
        · exact absurd e2.symm e
        · exact h
      obtain ⟨l', h1, h2⟩ := eraseTok_mem hr
      rw [h1]
      refine ⟨x :: l', rfl, fun j hj hn => ?_⟩
      rcases List.mem_cons.1 hj with e2 | hj
      · rw [e2]; exact List.mem_cons_self
      · exact List.mem_cons_of_mem _ (h2 j hj hn)

theorem ApV.under {b : Bool} {es : Nat} {L : List (List PV)} {out : PV} {lv : List Nat} {nt : Nat} (h : ApV b es L out lv nt) (n : Nat) : under n out = true := by
  cases h <;> rfl
theorem ApV.frz1 {b : Bool} {es : Nat} {L : List (List PV)} {out : PV} {lv : List Nat} {nt : Nat} (h : ApV b es L out lv nt) : frz1 out = some (slV b es L) := by
  cases h with
  | nil lv nt h => subst h; rw [slV_nil_true]; rfl
  | full L lv nt h =>
    subst h
    cases L with
    | nil => rw [slV_nil_false]; rfl
    | cons c r => rw [slV_cons]; rfl
  | tok L k lv nt hL =>
    cases L with
    | nil => exact absurd rfl hL
    | cons c r => rw [slV_cons]; rfl
theorem ApV.frzC {b : Bool} {es : Nat} {L : List (List PV)} {out : PV} {lv : List Nat} {nt : Nat} (h : ApV b es L out lv nt) (m : Nat) (H : Heap) : frzC m H out = some (slV b es L) := by
  have h1 := h.frz1
  cases h <;> exact h1
theorem ApV.frz2 {b : Bool} {es : Nat} {L : List (List PV)} {out : PV} {lv : List Nat} {nt : Nat} (h : ApV b es L out lv nt) (m : Nat) (H : Heap) : frz2 m H out = some (slV b es L) := by
  have h1 := h.frz1
  cases h <;> exact h1
theorem ApV.frz3 {b : Bool} {es : Nat} {L : List (List PV)} {out : PV} {lv : List Nat} {nt : Nat} (h : ApV b es L out lv nt) (m : Nat) (H : Heap) : frz3 m H out = some (slV b es L) := by
  have h1 := h.frz1
  cases h <;> exact h1
theorem ApV.frzG {b : Bool} {es : Nat} {L : List (List PV)} {out : PV} {lv : List Nat} {nt : Nat} (h : ApV b es L out lv nt) : frzG out = some (slV b es L) := by
  have h1 := h.frz1
  cases h <;> exact h1
theorem ApV.argV {b : Bool} {es : Nat} {L : List (List PV)} {out : PV} {lv : List Nat} {nt : Nat} (h : ApV b es L out lv nt) : argV out = slV b es L := by
  cases h with
  | nil lv nt h => subst h; rw [slV_nil_true]; rfl
  | full L lv nt h => subst h; cases L with
    | nil => rw [slV_nil_false]; rfl
    | cons c r => rw [slV_cons]; rfl
  | tok L k lv nt hL => cases L with
    | nil => exact absurd rfl hL
    | cons c r => rw [slV_cons]; rfl

/-- What an append adds: the elements of a slice, whatever room it has. -/
structure ElV (es : Nat) (x : PV) (el : List (List PV)) : Prop where
  el : ∀ H, slElems H x = some el
  size : slSize es x = es
theorem ElV.slV (b : Bool) (es : Nat) (el : List (List PV)) : ElV es (slV b es el) el := by
  cases el with
  | nil => cases b
           · rw [slV_nil_false]; exact ⟨fun _ => rfl, rfl⟩
           · rw [slV_nil_true]; exact ⟨fun _ => rfl, rfl⟩
  | cons c r => rw [slV_cons]; exact ⟨fun _ => rfl, rfl⟩
theorem ElV.sl (tl : Tail) (es : Nat) (el : List (List PV)) : ElV es (.sl tl es el) el := ⟨fun _ => rfl, rfl⟩
theorem ElV.nils (es : Nat) : ElV es .nils [] := ⟨fun _ => rfl, rfl⟩

section
variable {E : Env}
/-- The types that an append wants to know. -/
structure ApT (E : Env) (t u : TypeId) (es by_ : Nat) : Prop where
  h : ∃ ti ui e f ei, E.T t = some ti ∧ E.T u = some ui ∧ ti.tk = .slice e ∧ ui.tk = .slice f ∧ E.T e = some ei ∧ ei.size = es ∧ ei.bytes = by_ ∧ 0 < ei.size ∧ ei.zero.cells.length = ei.size
theorem apElems_of {t u : TypeId} {es by_ : Nat} (hT : ApT E t u es by_) {s x : PV} {el : List (List PV)} (hx : ElV es x el) (hok : el.all (fun c => c.all cellOk) = true) (hs : slSize es s = es) (ho : slOk s = true) (H : Heap) :
    apElems E t u s x H = some (es, by_, el) := by
  obtain ⟨ti, ui, e, f, ei, h1, h2, h3, h4, h5, h6, h7, h8, h9⟩ := hT.h
  simp only [apElems, h1, h2, h3, h4, h5]
  subst h6 h7
  rw [if_pos ⟨h8, h9, hs, hx.size⟩, hx.el H]
  simp only [hok, ho, and_self, if_true]

theorem ApV.app {b : Bool} {es : Nat} {L : List (List PV)} {out : PV} {lv : List Nat} {nt : Nat} (h : ApV b es L out lv nt) {t u : TypeId} {by_ : Nat} (hT : ApT E t u es by_) {x : PV} {el : List (List PV)} (hx : ElV es x el)
    (hok : el.all (fun c => c.all cellOk) = true) (hf : apFits L.length el.length by_ = true) (hnb : noB el = true) :
    ∃ out' lv' nt', (∀ bx ro, aAppend E t u out x ⟨bx, ro, lv, nt⟩ = some (out', ⟨bx, ro, lv', nt'⟩)) ∧ ApV b es (L ++ el) out' lv' nt' ∧
      ∀ b2 es2 L2 out2, ApV b2 es2 L2 out2 lv nt → (tokOf out2 = none ∨ tokOf out2 ≠ tokOf out) → ApV b2 es2 L2 out2 lv' nt' ∧ (tokOf out2 = none ∨ tokOf out2 ≠ tokOf out') := by
  have hs : slSize es out = es := by cases h <;> rfl
  have ho : slOk out = true := by cases h <;> rfl
  cases el with
  | nil =>
    refine ⟨out, lv, nt, fun bx ro => ?_, by rw [List.append_nil]; exact h, fun b2 es2 L2 out2 h2 hne => ⟨h2, hne⟩⟩
    simp only [aAppend, apElems_of hT hx hok hs ho]
  | cons y yr =>
    have fresh : ∀ (lv' : List Nat), (∀ j, j ∈ lv → some j ≠ tokOf out → j ∈ lv') → ∀ b2 es2 L2 out2, ApV b2 es2 L2 out2 lv nt → (tokOf out2 = none ∨ tokOf out2 ≠ tokOf out) → ApV b2 es2 L2 out2 (nt :: lv') (nt + 1) ∧ (tokOf out2 = none ∨ tokOf out2 ≠ tokOf (.sl (.tok nt) es (L ++ y :: yr))) := fun lv' hl b2 es2 L2 out2 h2 hne => by
      cases h2 with
      | nil _ _ hb => exact ⟨.nil _ _ hb, .inl rfl⟩
      | full _ _ _ hb hB => exact ⟨.full _ _ _ hb hB, .inl rfl⟩
      | tok _ k _ _ hL hk hn hB =>
        have hne2 : some k ≠ tokOf out := by
          rcases hne with h | h
          · simp [tokOf] at h
          · exact h
        refine ⟨.tok _ k _ _ hL (List.mem_cons_of_mem _ (hl k hk hne2)) (by omega) hB, .inr ?_⟩
        simp only [tokOf, ne_eq, Option.some.injEq]
        omega
    cases h with
    | nil _ _ hb =>
      refine ⟨.sl (.tok nt) es (y :: yr), nt :: lv, nt + 1, fun bx ro => ?_, .tok _ nt _ _ (by simp) List.mem_cons_self (Nat.lt_succ_self _) hnb, fresh lv fun j hj _ => hj⟩
      simp only [aAppend, apElems_of hT hx hok hs ho, slFull, List.nil_append]
      exact if_pos (by rw [hf, tokB_of hnb]; rfl)
    | full _ _ _ hb hB =>
      refine ⟨.sl (.tok nt) es (L ++ y :: yr), nt :: lv, nt + 1, fun bx ro => ?_, .tok _ nt _ _ (by simp) List.mem_cons_self (Nat.lt_succ_self _) (noB_append hB hnb), fresh lv fun j hj _ => hj⟩
      simp only [aAppend, apElems_of hT hx hok hs ho, slFull]
      rw [if_pos (by rw [hf, tokB_of (noB_append hB hnb)]; rfl)]
    | tok _ k _ _ hL hk hn hB =>
      obtain ⟨l', h1, h2⟩ := eraseTok_mem hk
      refine ⟨.sl (.tok nt) es (L ++ y :: yr), nt :: l', nt + 1, fun bx ro => ?_, .tok _ nt _ _ (by simp) List.mem_cons_self (Nat.lt_succ_self _) (noB_append hB hnb), fresh l' fun j hj hne => h2 j hj fun e => hne (by rw [e]; rfl)⟩
      simp only [aAppend, apElems_of hT hx hok hs ho]
      rw [if_pos (by rw [hf, tokB_of (noB_append hB hnb), hnb, Bool.or_true]; rfl), h1]
end
end Go.Vm
