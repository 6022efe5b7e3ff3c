/-
  The evaluator: what it computes is so.
-/
import Derived.Test.YthkpihmifojnoaaGreatDoorVmT
namespace Go.Vm

noncomputable def dstOk (n : Nat) (o : Oper) : Bool :=
  match o.dst with
  | some d => Nat.blt d n
  | none => true

theorem dstOk_spec {n : Nat} {o : Oper} (h : dstOk n o = true) : ∀ t, o.dst = some t → t < n := fun t ht => by
  simp only [dstOk, ht] at h
  exact Nat.le_of_ble_eq_true h

abbrev CallF := FuncId → List PV → Heap → Option (PV × Heap)

/-- The operations of a region in the text's order. -/
noncomputable def evOps (E : Env) (call : CallF) (own : Tmp → Bool) (n : Nat) (all l : List Oper) : Tr → Heap → Option (Tr × Heap) :=
  List.rec (motive := fun _ => Tr → Heap → Option (Tr × Heap)) (fun t H => some (t, H))
    (fun o _ ih t H => match dstOk n o with
      | false => none
      | true => match wantedA all (tget t) o with
        | some true => match evOp E call own (tget t) o H with
          | some (p, H') => ih (setT t o.dst p) H'
          | none => none
        | some false => ih (setT t o.dst unset) H
        | none => none) l

/-! ### regions that draw their order -/
noncomputable def clsO (E : Env) (own : Tmp → Bool) (o : Oper) : Cls :=
  match o.op with
  | .alloc _ => .al
  | .box _ _ => .al
  | .store _ _ _ => .st
  | .mapUpdate _ _ _ _ => .st
  | .makeMap _ _ => .ef
  | .buildSlice _ _ _ => if own (o.dst.getD 0) then .tk else .sc
  | .load _ _ => .ld
  | .lookup _ _ _ _ => .qu
  | .call { callee := .builtin b, .. } => match b with
    | .append => .ef
    | .len => .qu
    | .max => .sc
    | .min => .sc
    | _ => .ef
  | .call { callee := .value (.func k), .. } => match E.eff k with
    | true => match own (o.dst.getD 0 + 5000) with
      | true => .tk
      | false => .ef
    | false => .qu
  | .call _ => .qu
  | _ => .sc

noncomputable def maskOf (acc : List Nat) (o : Oper) : Nat :=
  o.after.toList.foldl (fun s e => match Region.binds .any e with | true => s ||| (2 ^ e.on ||| (nth acc e.on).getD 0) | false => s) 0
noncomputable def masks : List Oper → List Nat → List Nat
  | [], acc => acc
  | o :: r, acc => masks r (acc ++ [maskOf acc o])

noncomputable def bef (ms : List Nat) (l i : Nat) : Bool := ((nth ms i).getD 0).testBit l

noncomputable def clsI (E : Env) (own : Tmp → Bool) (ops : Array Oper) (i : Nat) : Cls :=
  match nth ops.toList i with
  | some o => clsO E own o
  | none => .sc

noncomputable def alL (E : Env) (own : Tmp → Bool) : List Oper → Nat → List Nat
  | [], _ => []
  | o :: r, i => match clsO E own o with
    | .al => i :: alL E own r (i + 1)
    | _ => alL E own r (i + 1)

noncomputable def stL (E : Env) (own : Tmp → Bool) : List Oper → Nat → List Nat
  | [], _ => []
  | o :: r, i => match clsO E own o with
    | .st => i :: stL E own r (i + 1)
    | _ => stL E own r (i + 1)

/-- The box that an operation writes; for a load, how many of the boxes it may look at. -/
noncomputable def tgtO (E : Env) (N : Nat) (tm : TM) (o : Oper) : Nat :=
  match o.op with
  | .load _ _ => N
  | .store _ a _ => match evalO E tm a with
    | .ptr id _ _ _ => id
    | _ => 0
  | .mapUpdate _ m _ _ => match evalO E tm m with
    | .map id => id
    | _ => 0
  | _ => 0
noncomputable def tgtI (E : Env) (N : Nat) (tm : TM) (ops : Array Oper) (i : Nat) : Nat :=
  match nth ops.toList i with
  | some o => tgtO E N tm o
  | none => 0

noncomputable def mskI (n0 : Nat) (ms al : List Nat) (i : Nat) : List Nat := (al.filter fun k => !bef ms k i).map (n0 + ·)

noncomputable def freeB (ops : Array Oper) (ms : List Nat) (x y : Oper) (cx cy : Cls) (l i : Nat) : Bool :=
  bef ms l i || (perm cx cy && (x.apart ops y && !bef ms i l))

/-- With the boxes that operations write which are not ordered against this one. -/
noncomputable def mskS (n0 : Nat) (ms al st : List Nat) (tg : Nat → Nat) (i : Nat) : List Nat :=
  mskI n0 ms al i ++ (st.filter fun k => !Nat.beq k i && (!bef ms k i && !bef ms i k)).map tg

/-- Every earlier operation against one. -/
noncomputable def freeL (E : Env) (own : Tmp → Bool) (ops : Array Oper) (ms : List Nat) (y : Oper) (i : Nat) : List Oper → Nat → Bool
  | [], _ => true
  | x :: r, l => match Nat.blt l i with
    | true => freeB ops ms x y (clsO E own x) (clsO E own y) l i && freeL E own ops ms y i r (l + 1)
    | false => true
noncomputable def freeA (E : Env) (own : Tmp → Bool) (ops : Array Oper) (ms : List Nat) : List Oper → Nat → Bool
  | [], _ => true
  | y :: r, i => freeL E own ops ms y i ops.toList 0 && freeA E own ops ms r (i + 1)
noncomputable def backA : List Oper → Nat → Bool
  | [], _ => true
  | o :: r, i => o.after.toList.all (fun e => !Region.binds .any e || Nat.blt e.on i) && backA r (i + 1)

/-- Does a load look at the first boxes only? -/
noncomputable def seenO (E : Env) (tm : TM) (o : Oper) (s : Nat) : Bool :=
  match o.op with
  | .load _ a => match evalO E tm a with
    | .ptr id _ _ _ => Nat.blt id s
    | _ => true
  | _ => true

noncomputable def evHp (E : Env) (call : CallF) (own : Tmp → Bool) (n0 : Nat) (msk : List Nat) (tg : Option Nat) (t : Tr) (o : Oper) (i : Nat) (H : Heap) : Option (PV × Heap) :=
  match clsO E own o with
  | .sc => match aOp E (own (o.dst.getD 0)) (evalO E (tget t)) o.op H with
    | some (p, _) => some (p, H)
    | none => none
  | .qu => match o.op with
    | .call { callee := .value f, args, .. } => match evalO E (tget t) f with
      | .fn k caps => match E.eff k with
        | true => none
        | false => match call k (args.toList.map (evalO E (tget t)) ++ caps) (maskH msk H) with
          | some (p, _) => some (p, H)
          | none => none
      | _ => none
    | _ => match aOp E (own (o.dst.getD 0)) (evalO E (tget t)) o.op (maskH msk H) with
      | some (p, _) => some (p, H)
      | none => none
  | .al => match nth H.bx (n0 + i) with
    | some .dead => match o.op with
      | .alloc e => match E.T e with
        | some ei => if ei.zero.cells.length = ei.size ∧ 0 < ei.size then some (.ptr (n0 + i) ei.size 0 0, setB H (n0 + i) (.cells ei.size [ei.zero.cells])) else none
        | none => none
      | .box _ x => if 0 < (evalO E (tget t) x).cells.length then
          some (.ptr (n0 + i) (evalO E (tget t) x).cells.length 0 0, setB H (n0 + i) (.cells (evalO E (tget t) x).cells.length [(evalO E (tget t) x).cells])) else none
      | _ => none
    | _ => none
  | .st => match aOp E (own (o.dst.getD 0)) (evalO E (tget t)) o.op (maskH msk H) with
    | some (p, M) => match nth M.bx (tgtO E 0 (tget t) o) with
      | some b => match tg with
        | some s => match Nat.beq s (tgtO E 0 (tget t) o) && !msk.any (Nat.beq s) with
          | true => some (p, setB H s b)
          | false => none
        | none => some (p, setB H (tgtO E 0 (tget t) o) b)
      | none => none
    | none => none
  | .ld => match aOp E (own (o.dst.getD 0)) (evalO E (tget t)) o.op (maskH msk H) with
    | some (p, _) => match tg with
      | some s => match seenO E (tget t) o s with
        | true => some (p, H)
        | false => none
      | none => some (p, H)
    | none => none
  | .tk => match evOp E call own (tget t) o { maskH msk H with ro := H.bx.length } with
    | some (p, M) => match Nat.ble H.bx.length M.bx.length with
      | true => some (p, growH H M)
      | false => none
    | none => none
  | .ef => match evOp E call own (tget t) o (maskH msk H) with
    | some (p, M) => match Nat.ble H.bx.length M.bx.length with
      | true => some (p, mergeH msk H M)
      | false => none
    | none => none

noncomputable def evDrawL (E : Env) (call : CallF) (own : Tmp → Bool) (n n0 : Nat) (mk : Nat → List Nat) (tg : Nat → Option Nat) (all : List Oper) : List Oper → Nat → Tr → Heap → Option (Tr × Heap)
  | [], _, t, H => some (t, H)
  | o :: r, i, t, H => match dstOk n o with
    | false => none
    | true => match wantedA all (tget t) o with
      | some true => match evHp E call own n0 (mk i) (tg i) t o i H with
        | some (p, H') => evDrawL E call own n n0 mk tg all r (i + 1) (setT t o.dst p) H'
        | none => none
      | some false => evDrawL E call own n n0 mk tg all r (i + 1) (setT t o.dst unset) H
      | none => none

noncomputable def roomL (E : Env) (own : Tmp → Bool) (ops : Array Oper) : Nat := match alL E own ops.toList 0 with | [] => 0 | _ => ops.size

noncomputable def evDraw (E : Env) (call : CallF) (own : Tmp → Bool) (n : Nat) (ops : Array Oper) (t : Tr) (H : Heap) : Option (Tr × Heap) :=
  match backA ops.toList 0 && freeA E own ops (masks ops.toList []) ops.toList 0 with
  | true => match evDrawL E call own n H.bx.length (mskI H.bx.length (masks ops.toList []) (alL E own ops.toList 0)) (fun _ => none) ops.toList ops.toList 0 t (extH H (roomL E own ops)) with
    | some (t1, _) => match (stL E own ops.toList 0).all fun k => Nat.ble H.ro (tgtI E (H.bx.length + roomL E own ops) (tget t1) ops k) with
      | true => evDrawL E call own n H.bx.length (mskS H.bx.length (masks ops.toList []) (alL E own ops.toList 0) (stL E own ops.toList 0) (tgtI E (H.bx.length + roomL E own ops) (tget t1) ops))
          (fun i => some (tgtI E (H.bx.length + roomL E own ops) (tget t1) ops i)) ops.toList ops.toList 0 t (extH H (roomL E own ops))
      | false => none
    | none => none
  | false => none

noncomputable def evLoop (body : Tr → Heap → Option (Ex × Tr × Heap)) (k : Nat) : Tr → Heap → Option (Ex × Tr × Heap) :=
  Nat.rec (motive := fun _ => Tr → Heap → Option (Ex × Tr × Heap)) (fun _ _ => none)
    (fun _ ih t H => match body t H with
      | some (.normal, t', H') => ih t' H'
      | r => r) k

noncomputable def evCode (E : Env) (call : CallF) (own : Tmp → Bool) (n fuel : Nat) (c : Code) : Tr → Heap → Option (Ex × Tr × Heap) :=
  Code.rec (motive := fun _ => Tr → Heap → Option (Ex × Tr × Heap))
    (fun t H => some (.normal, t, H))
    (fun _ ops draw t H => match draw with
      | false => match evOps E call own n ops.toList ops.toList t H with
        | some (t', H') => some (.normal, t', H')
        | none => none
      | true => match evDraw E call own n ops t H with
        | some (t', H') => some (.normal, t', H')
        | none => none)
    (fun _ _ ia ib t H => match ia t H with
      | some (.normal, t', H') => ib t' H'
      | r => r)
    (fun x _ _ ia ib t H => match evalO E (tget t) x with
      | .bool true => ia t H
      | .bool false => ib t H
      | _ => none)
    (fun i _ ib t H => match ib t H with
      | some (.exit j, t', H') => if j = i then some (.normal, t', H') else some (.exit j, t', H')
      | r => r)
    (fun _ ib t H => evLoop ib fuel t H)
    (fun _ _ _ _ _ _ _ _ => none)
    (fun i t H => some (.exit i, t, H))
    (fun _ _ _ _ => none)
    (fun _ t H => some (.normal, t, H))
    (fun _ _ _ => none)
    (fun t H => some (.ret, t, H))
    (fun _ _ _ => none) c

noncomputable def evCall (E : Env) (call : CallF) (fuel : Nat) (f : FuncId) (args : List PV) (H : Heap) : Option (PV × Heap) :=
  match E.F f with
  | some fn => match fn.body with
    | some c => match Nat.blt args.length 3000 with
      | true => match E.eff f with
        | true => match evCode E call (E.own f) fn.ntmps fuel c (tree0 args 0 .leaf) H with
          | some (ex, t, H') => match ex with
            | .exit _ => none
            | _ => match resA E (tget t) H' fn.results.toList with
              | some vs => some (one vs, H')
              | none => none
          | none => none
        | false => match evCode E call (E.own f) fn.ntmps fuel c (tree0 (args.map argV) 0 .leaf) (inner H) with
          | some (ex, t, H') => match ex with
            | .exit _ => none
            | _ => match resA E (tget t) H' fn.results.toList with
              | some vs => match frz3 H.bx.length H' (one vs) with
                | some v => some (v, H)
                | none => none
              | none => none
          | none => none
      | false => none
    | none => none
  | none => E.Z f args H

noncomputable def ev (E : Env) (fuel : Nat) (k : Nat) : CallF :=
  Nat.rec (motive := fun _ => CallF) (fun _ _ _ => none) (fun _ ih f args H => evCall E ih fuel f args H) k

end Go.Vm
