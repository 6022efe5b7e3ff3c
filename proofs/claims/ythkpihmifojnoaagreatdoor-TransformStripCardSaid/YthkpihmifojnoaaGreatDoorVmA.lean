/-
  An abstract evaluator for the model's code: pure values, a small heap of boxes, no tape. Its definitions alone; that it is sound is proved in the texts that follow.
-/
import Derived.Orders
import Derived.RowKit3
import Derived.KernelRfl
namespace Go.Vm

/-- The n-th of a list, by the recursor itself: cheap for the kernel. -/
noncomputable def nth {α : Type} (l : List α) : Nat → Option α :=
  List.rec (motive := fun _ => Nat → Option α) (fun _ => none) (fun a _ ih n => Nat.rec (motive := fun _ => Option α) (some a) (fun m _ => ih m) n) l
theorem nth_eq {α : Type} (l : List α) (n : Nat) : nth l n = l[n]? := by
  induction l generalizing n with
  | nil => rfl
  | cons a l ih => cases n with
    | zero => rfl
    | succ n => show nth l n = _; simpa using ih n

/-- What is known of the room behind a slice: nothing; that there is none; that this token owns it. -/
inductive Tail where
  | none
  | full
  | tok (n : Nat)

inductive PV where
  | bool (b : Bool)
  | int (k : IntKind) (n : Int)
  | str (s : List UInt8)
  | nilp
  | ptr (id es ix off : Nat)
  | fptr (cells : List PV) (off : Nat)
  | nils
  | sl (tl : Tail) (es : Nat) (el : List (List PV))
  | own (id es ix len : Nat)
  | nilm
  | map (id : Nat)
  | nilf
  | fn (f : FuncId) (cap : List PV)
  | agg (cells : List PV)
  | tup (vs : List PV)
  | undef

def PV.cells : PV → List PV
  | .agg cs => cs
  | .undef => []
  | v => [v]

/-- May it stand in one cell? -/
def cellOk : PV → Bool
  | .agg _ | .tup _ | .undef => false
  | _ => true

inductive Box where
  | cells (es : Nat) (el : List (List PV))
  | map (es : List (PV × PV))
  | dead

structure Heap where
  bx : List Box
  ro : Nat
  live : List Nat
  nt : Nat

inductive TK where
  | int (k : IntKind)
  | bool
  | string
  | slice (e : TypeId)
  | struct (fs : List (Nat × TypeId))
  | array (n : Nat) (e : TypeId)
  | map (k e : TypeId)
  | pointer (e : TypeId)
  | func
  | other

structure TI where
  tk : TK
  size : Nat
  bytes : Nat
  zero : PV

def ofScalar : Value → PV
  | .bool b => .bool b
  | .int k n => .int k n
  | .string s => .str s.data.toList
  | .pointer none => .nilp
  | .slice none 0 0 => .nils
  | .map none => .nilm
  | .nilFunc => .nilf
  | _ => .undef

def ofConst : Value → PV
  | .agg cs => .agg (cs.toList.map ofScalar)
  | v => ofScalar v

def tkOf : TypeDesc → TK
  | .int k => .int k
  | .bool => .bool
  | .string => .string
  | .slice e => .slice e
  | .struct fs => .struct (fs.toList.map fun f => (f.offset, f.type))
  | .array n e => .array n e
  | .map k e => .map k e
  | .pointer e => .pointer e
  | .func _ _ _ => .func
  | _ => .other

def tiOf (P : Program) (t : TypeId) : Option TI :=
  match P.info? t, P.underlying t with
  | some i, some d => match i.zero with
    | some z => some { tk := tkOf d, size := i.size, bytes := i.bytes, zero := ofConst z }
    | none => none
  | _, _ => none

structure Env where
  T : TypeId → Option TI
  F : FuncId → Option Func
  G : Nat → Option (List PV)
  Z : FuncId → List PV → Heap → Option (PV × Heap)
  eff : FuncId → Bool
  own : FuncId → Tmp → Bool

/-! ### reading and writing -/
noncomputable def Heap.rd (H : Heap) (p : PV) (n : Nat) : Option (List PV) :=
  match p with
  | .ptr id es ix off => match nth H.bx id with
    | some (.cells es' el) => if es = es' then match nth el ix with
      | some cs => if off + n ≤ cs.length then some ((cs.drop off).take n) else none
      | none => none else none
    | _ => none
  | .fptr cs off => if off + n ≤ cs.length then some ((cs.drop off).take n) else none
  | _ => none

noncomputable def Heap.put (H : Heap) (id : Nat) (b : Box) : Option Heap :=
  if id < H.ro then none else some { H with bx := H.bx.set id b }

noncomputable def Heap.wr (H : Heap) (p : PV) (cs : List PV) : Option Heap :=
  match p with
  | .ptr id es ix off => match nth H.bx id with
    | some (.cells es' el) => if es = es' then match nth el ix with
      | some old => if off + cs.length ≤ old.length then H.put id (.cells es' (el.set ix (old.take off ++ (cs ++ old.drop (off + cs.length))))) else none
      | none => none else none
    | _ => none
  | _ => none

noncomputable def Heap.push (H : Heap) (b : Box) : Heap := { H with bx := H.bx ++ [b] }

def isAggK : TK → Bool
  | .struct _ | .array _ _ => true
  | _ => false

def toVal (ti : TI) (cs : List PV) : Option PV :=
  if isAggK ti.tk then some (.agg cs) else match cs with
    | [v] => some v
    | _ => none

noncomputable def aLoad (E : Env) (t : TypeId) (p : PV) (H : Heap) : Option PV :=
  match E.T t with
  | some ti => match H.rd p (if isAggK ti.tk then ti.size else 1) with
    | some cs => toVal ti cs
    | none => none
  | none => none

/-- Frozen: no box, no token left in it. -/
def frz1 : PV → Option PV
  | .bool b => some (.bool b)
  | .int k n => some (.int k n)
  | .str s => some (.str s)
  | .nilp => some .nilp
  | .nils => some .nils
  | .nilm => some .nilm
  | .nilf => some .nilf
  | .sl _ es el => some (.sl .none es el)
  | .fptr cs off => some (.fptr cs off)
  | _ => none

def frzL : List PV → Option (List PV)
  | [] => some []
  | v :: r => match frz1 v with
    | some v' => match frzL r with
      | some r' => some (v' :: r')
      | none => none
    | none => none

def frzLL : List (List PV) → Option (List (List PV))
  | [] => some []
  | v :: r => match frzL v with
    | some v' => match frzLL r with
      | some r' => some (v' :: r')
      | none => none
    | none => none

/-- A cell as it leaves a call: what it holds of the call's own boxes is read out. -/
noncomputable def frzC (n : Nat) (H : Heap) : PV → Option PV
  | .own id es ix len => if id < n then none else match nth H.bx id with
    | some (.cells es' el) => if es = es' ∧ ix + len ≤ el.length then
        match frzLL ((el.drop ix).take len) with | some el' => some (.sl .none es el') | none => none
      else none
    | _ => none
  | v => frz1 v

noncomputable def frzCL (n : Nat) (H : Heap) : List PV → Option (List PV)
  | [] => some []
  | v :: r => match frzC n H v with
    | some v' => match frzCL n H r with
      | some r' => some (v' :: r')
      | none => none
    | none => none

noncomputable def frz2 (n : Nat) (H : Heap) : PV → Option PV
  | .agg cs => match frzCL n H cs with | some cs' => some (.agg cs') | none => none
  | v => frzC n H v

noncomputable def frz2L (n : Nat) (H : Heap) : List PV → Option (List PV)
  | [] => some []
  | v :: r => match frz2 n H v with
    | some v' => match frz2L n H r with
      | some r' => some (v' :: r')
      | none => none
    | none => none

/-- A value as it leaves a call. -/
noncomputable def frz3 (n : Nat) (H : Heap) : PV → Option PV
  | .tup vs => match frz2L n H vs with | some vs' => some (.tup vs') | none => none
  | v => frz2 n H v

/-- An argument as it enters a call. -/
def arg1 : PV → PV
  | .sl _ es el => .sl .none es el
  | v => v
def argV : PV → PV
  | .agg cs => .agg (cs.map arg1)
  | v => arg1 v

/-! ### operations -/
noncomputable def aArith (op : BinOp) (k : IntKind) (a b : Int) : Option PV :=
  match op with
  | .add => some (.int k (k.wrap (a + b)))
  | .sub => some (.int k (k.wrap (a - b)))
  | .mul => some (.int k (k.wrap (a * b)))
  | .quo => if b = 0 then none else some (.int k (k.wrap (a.tdiv b)))
  | .rem => if b = 0 then none else some (.int k (a.tmod b))
  | .and => some (.int k (k.wrap (BitVec.ofInt k.bits a &&& BitVec.ofInt k.bits b).toNat))
  | .or => some (.int k (k.wrap (BitVec.ofInt k.bits a ||| BitVec.ofInt k.bits b).toNat))
  | .xor => some (.int k (k.wrap (BitVec.ofInt k.bits a ^^^ BitVec.ofInt k.bits b).toNat))
  | .andNot => some (.int k (k.wrap (BitVec.ofInt k.bits a &&& ~~~ BitVec.ofInt k.bits b).toNat))
  | .eql => some (.bool (a == b))
  | .neq => some (.bool (a != b))
  | .lss => some (.bool (decide (a < b)))
  | .leq => some (.bool (decide (a ≤ b)))
  | .gtr => some (.bool (decide (b < a)))
  | .geq => some (.bool (decide (b ≤ a)))
  | _ => none

noncomputable def aShift (op : BinOp) (k : IntKind) (a b : Int) : Option PV :=
  if b < 0 then none else match op with
    | .shl => some (.int k (k.wrap (a * 2 ^ (min b.toNat k.bits))))
    | .shr => some (.int k (a.fdiv (2 ^ (min b.toNat k.bits))))
    | _ => none

noncomputable def aStr (op : BinOp) (a b : List UInt8) : Option PV :=
  match op with
  | .add => if a.length + b.length ≤ 281474976710656 then some (.str (a ++ b)) else none
  | .eql => some (.bool (a == b))
  | .neq => some (.bool (!(a == b)))
  | .lss => some (.bool (Op.bytesLess a b))
  | .leq => some (.bool (Op.bytesLess a b || a == b))
  | .gtr => some (.bool (!(Op.bytesLess a b || a == b)))
  | .geq => some (.bool (!Op.bytesLess a b))
  | _ => none

/-- Equality with nil, and of bools. -/
noncomputable def aEq (tk : TK) : PV → PV → Option Bool
  | .bool a, .bool b => match tk with | .bool => some (a == b) | _ => none
  | x, y => match tk, x, y with
    | .slice _, .nils, .nils => some true
    | .slice _, .nils, .sl _ _ _ => some false
    | .slice _, .sl _ _ _, .nils => some false
    | .slice _, .own _ _ _ _, .nils => some false
    | .pointer _, .nilp, .nilp => some true
    | .pointer _, .ptr _ _ _ _, .nilp => some false
    | .pointer _, .nilp, .ptr _ _ _ _ => some false
    | .map _ _, .nilm, .nilm => some true
    | .map _ _, .map _, .nilm => some false
    | .func, .nilf, .nilf => some true
    | .func, .fn _ _, .nilf => some false
    | .func, .nilf, .fn _ _ => some false
    | _, _, _ => none

noncomputable def aBin (E : Env) (op : BinOp) (t : TypeId) (x y : PV) : Option PV :=
  match x, y with
  | .int k a, .int k' b => match op with
    | .shl => aShift .shl k a b
    | .shr => aShift .shr k a b
    | _ => if k = k' then aArith op k a b else none
  | .str a, .str b => aStr op a b
  | x, y => match op with
    | .eql => match E.T t with | some ti => (aEq ti.tk x y).map .bool | none => none
    | .neq => match E.T t with | some ti => (aEq ti.tk x y).map fun b => .bool (!b) | none => none
    | _ => none

noncomputable def aUn (op : UnOp) (x : PV) : Option PV :=
  match op, x with
  | .not, .bool b => some (.bool (!b))
  | .neg, .int k n => some (.int k (k.wrap (0 - n)))
  | .xor, .int k n => some (.int k (k.wrap (BitVec.ofInt k.bits (if k.signed then -1 else k.max) ^^^ BitVec.ofInt k.bits n).toNat))
  | _, _ => none

noncomputable def aConv (E : Env) (s d : TypeId) (x : PV) : Option PV :=
  match E.T s, E.T d with
  | some si, some di => match si.tk, di.tk, x with
    | .int _, .int k, .int _ n => some (.int k (k.wrap n))
    | .string, .string, .str b => some (.str b)
    | _, _, _ => none
  | _, _ => none

def nat? : PV → Option Nat
  | .int _ (.ofNat n) => some n
  | _ => none

/-- The bounds of a slice expression: low, high; the third where it is written. -/
noncomputable def bound (d : Nat) (most : Nat) : Option PV → Option Nat
  | some v => match nat? v with | some n => if n ≤ most then some n else none | none => none
  | none => some d

noncomputable def cutTail (tl : Tail) (len h : Nat) (mx : Option Nat) : Tail :=
  match mx with
  | some m => if m = h then .full else .none
  | none => if h = len then tl else .none

noncomputable def maxOf (len : Nat) (hi : Option PV) : Option PV → Option (Option Nat)
  | some v => match hi with
    | some _ => match nat? v with | some n => if n ≤ len then some (some n) else none | none => none
    | none => none
  | none => some none

noncomputable def aSlice (E : Env) (t : TypeId) (x : PV) (lo hi mx : Option PV) : Option PV :=
  match E.T t with
  | some ti => match ti.tk, x with
    | .string, .str s => match mx with
      | some _ => none
      | none => match bound s.length s.length hi with
        | some h => match bound 0 h lo with
          | some l => some (.str ((s.take h).drop l))
          | none => none
        | none => none
    | .slice e, .sl tl es el => match E.T e with
      | some ei => if ei.size = es then match maxOf el.length hi mx with
        | some m => match bound el.length (m.getD el.length) hi with
          | some h => match bound 0 h lo with
            | some l => some (.sl (cutTail tl el.length h m) es ((el.take h).drop l))
            | none => none
          | none => none
        | none => none else none
      | none => none
    | .slice e, .nils => match E.T e with
      | some _ => match maxOf 0 hi mx with
        | some _ => match bound 0 0 hi with
          | some _ => match bound 0 0 lo with
            | some _ => some .nils
            | none => none
          | none => none
        | none => none
      | none => none
    | .slice e, .own id es ix len => match E.T e, mx with
      | some ei, none => if ei.size = es then match bound len len hi with
          | some h => match bound 0 h lo with
            | some l => some (.own id es (ix + l) (h - l))
            | none => none
          | none => none else none
      | _, _ => none
    | _, _ => none
  | none => none

noncomputable def aIndexAddr (E : Env) (t : TypeId) (x i : PV) : Option PV :=
  match E.T t, nat? i with
  | some ti, some n => match ti.tk, x with
    | .slice e, .sl _ es el => match E.T e with
      | some ei => if ei.size = es then match nth el n with | some cs => some (.fptr cs 0) | none => none else none
      | none => none
    | .slice e, .own id es ix len => match E.T e with
      | some ei => if ei.size = es then if n < len then some (.ptr id es (ix + n) 0) else none else none
      | none => none
    | .array len e, .ptr id es ix off => match E.T e with
      | some ei => if n < len then some (.ptr id es ix (off + n * ei.size)) else none
      | none => none
    | .array len e, .fptr cs off => match E.T e with
      | some ei => if n < len then some (.fptr cs (off + n * ei.size)) else none
      | none => none
    | _, _ => none
  | _, _ => none

noncomputable def aFieldAddr (E : Env) (t : TypeId) (x : PV) (f : Nat) : Option PV :=
  match E.T t with
  | some ti => match ti.tk with
    | .struct fs => match nth fs f with
      | some (o, ft) => match E.T ft with
        | some fi => if fi.size = 0 then none else match x with
          | .ptr id es ix off => some (.ptr id es ix (off + o))
          | .fptr cs off => some (.fptr cs (off + o))
          | _ => none
        | none => none
      | none => none
    | _ => none
  | none => none

noncomputable def aPart (E : Env) (t : TypeId) (cs : List PV) (off : Nat) : Option PV :=
  match E.T t with
  | some ti => if isAggK ti.tk then (if off + ti.size ≤ cs.length then some (.agg ((cs.drop off).take ti.size)) else none) else nth cs off
  | none => none

noncomputable def aField (E : Env) (t : TypeId) (x : PV) (f : Nat) : Option PV :=
  match E.T t, x with
  | some ti, .agg cs => match ti.tk with
    | .struct fs => match nth fs f with
      | some (o, ft) => aPart E ft cs o
      | none => none
    | _ => none
  | _, _ => none

noncomputable def aIndex (E : Env) (t : TypeId) (x i : PV) : Option PV :=
  match E.T t, nat? i with
  | some ti, some n => match ti.tk, x with
    | .string, .str s => match nth s n with | some b => some (.int .u8 (.ofNat b.toNat)) | none => none
    | .array len e, .agg cs => match E.T e with
      | some ei => if n < len then aPart E e cs (n * ei.size) else none
      | none => none
    | _, _ => none
  | _, _ => none

noncomputable def aFill (fs : List (Nat × TypeId)) (E : Env) (cells : List PV) : List (Nat × PV) → Option (List PV)
  | [] => some cells
  | (i, v) :: r => match nth fs i with
    | some (o, ft) => match E.T ft with
      | some fi => if v.cells.length = fi.size ∧ 0 < fi.size ∧ o + fi.size ≤ cells.length then
          aFill fs E (cells.take o ++ (v.cells ++ cells.drop (o + fi.size))) r else none
      | none => none
    | none => none

noncomputable def aBuild (E : Env) (t : TypeId) (parts : List (Nat × PV)) : Option PV :=
  match E.T t with
  | some ti => match ti.tk with
    | .struct fs => if fs.all (fun f => (E.T f.2).isSome) = true ∧ 0 < ti.zero.cells.length then match aFill fs E ti.zero.cells parts with | some cs => some (.agg cs) | none => none else none
    | _ => none
  | none => none

noncomputable def aFillS (es : Nat) (el : List (List PV)) : List (Nat × PV) → Option (List (List PV))
  | [] => some el
  | (i, v) :: r => if v.cells.length = es ∧ i < el.length then aFillS es (el.set i v.cells) r else none

noncomputable def aBuildSlice (E : Env) (t : TypeId) (len : Nat) (parts : List (Nat × PV)) : Option (Nat × List (List PV)) :=
  match E.T t with
  | some ti => match ti.tk with
    | .slice e => match E.T e with
      | some ei => if ei.zero.cells.length = ei.size ∧ 0 < ei.size ∧ len * ei.size ≤ 65536 then
          match aFillS ei.size (List.replicate len ei.zero.cells) parts with
          | some el => some (ei.size, el)
          | none => none
        else none
      | none => none
    | _ => none
  | none => none

noncomputable def aLen (E : Env) (t : TypeId) (x : PV) (H : Heap) : Option PV :=
  match E.T t with
  | some ti => match ti.tk, x with
    | .string, .str s => some (.int .i64 (.ofNat s.length))
    | .slice _, .sl _ _ el => some (.int .i64 (.ofNat el.length))
    | .slice _, .nils => some (.int .i64 0)
    | .slice _, .own _ _ _ len => some (.int .i64 (.ofNat len))
    | .map _ _, .nilm => some (.int .i64 0)
    | .map _ _, .map id => match nth H.bx id with | some (.map es) => some (.int .i64 (.ofNat es.length)) | _ => none
    | .array n _, _ => some (.int .i64 (.ofNat n))
    | _, _ => none
  | none => none

noncomputable def slElems (H : Heap) : PV → Option (List (List PV))
  | .nils => some []
  | .sl _ _ el => some el
  | .own id es ix len => match nth H.bx id with
    | some (.cells es' el) => if es = es' ∧ ix + len ≤ el.length then frzLL ((el.drop ix).take len) else none
    | _ => none
  | _ => none

noncomputable def slSize (d : Nat) : PV → Nat
  | .sl _ es _ => es
  | .own _ es _ _ => es
  | _ => d

noncomputable def eraseTok (t : Nat) : List Nat → Option (List Nat)
  | [] => none
  | x :: r => if x = t then some r else match eraseTok t r with | some r' => some (x :: r') | none => none

def slFull : PV → Option (List (List PV))
  | .nils => some []
  | .sl .full _ el => some el
  | _ => none

def slOk : PV → Bool
  | .nils => true
  | .sl _ _ _ => true
  | .own _ _ _ _ => true
  | _ => false

/-- The elements that an append adds; where there are none the slice is as it was. -/
noncomputable def apElems (E : Env) (t u : TypeId) (s x : PV) (H : Heap) : Option (Nat × Nat × List (List PV)) :=
  match E.T t, E.T u with
  | some ti, some ui => match ti.tk, ui.tk with
    | .slice e, .slice _ => match E.T e with
      | some ei => if 0 < ei.size ∧ ei.zero.cells.length = ei.size ∧ slSize ei.size s = ei.size ∧ slSize ei.size x = ei.size then
          match slElems H x with
          | some ys => if ys.all (fun c => c.all cellOk) = true ∧ slOk s = true then some (ei.size, ei.bytes, ys) else none
          | none => none
        else none
      | none => none
    | _, _ => none
  | _, _ => none

noncomputable def apFits (n m by_ : Nat) : Bool := Nat.ble ((n + m + 96) * by_) 140737488355328 && Nat.ble (n + m) 4611686018427387904

/-- 'append' at a place that is to make a box: what came in has no room. -/
noncomputable def aAppendOwn (E : Env) (t u : TypeId) (s x : PV) (H : Heap) : Option (PV × Heap) :=
  match apElems E t u s x H with
  | some (es, by_, ys) => match ys with
    | [] => some (s, H)
    | y :: yr => match slFull s with
      | some el => if apFits el.length (y :: yr).length by_ = true then
          some (.own H.bx.length es 0 (el.length + (y :: yr).length), H.push (.cells es (el ++ y :: yr))) else none
      | none => none
  | none => none

noncomputable def aAppend (E : Env) (t u : TypeId) (s x : PV) (H : Heap) : Option (PV × Heap) :=
  match apElems E t u s x H with
  | some (es, by_, ys) => match ys with
    | [] => some (s, H)
    | y :: yr => match s with
      | .sl (.tok k) _ el => if apFits el.length (y :: yr).length by_ = true then
          match eraseTok k H.live with
          | some l => some (.sl (.tok H.nt) es (el ++ y :: yr), { H with nt := H.nt + 1, live := H.nt :: l })
          | none => none else none
      | s => match slFull s with
        | some el => if apFits el.length (y :: yr).length by_ = true then
          some (.sl (.tok H.nt) es (el ++ y :: yr), { H with nt := H.nt + 1, live := H.nt :: H.live }) else none
        | none => none
  | none => none

noncomputable def aMakeSlice (E : Env) (t : TypeId) (l c : PV) (H : Heap) : Option (PV × Heap) :=
  match E.T t with
  | some ti => match ti.tk with
    | .slice e => match E.T e, nat? l, nat? c with
      | some ei, some n, some m =>
        if ei.zero.cells.length = ei.size ∧ 0 < ei.size ∧ m * ei.bytes ≤ 140737488355328 ∧ m ≤ 1073741824 then
          if n = m then some (.own H.bx.length ei.size 0 n, H.push (.cells ei.size (List.replicate n ei.zero.cells)))
          else if n = 0 then some (.sl (.tok H.nt) ei.size [], { H with nt := H.nt + 1, live := H.nt :: H.live })
          else none
        else none
      | _, _, _ => none
    | _ => none
  | none => none

noncomputable def keyEq : PV → PV → Option Bool
  | .str a, .str b => some (a == b)
  | .int k a, .int k' b => if k = k' then some (a == b) else none
  | .bool a, .bool b => some (a == b)
  | _, _ => none

noncomputable def findE (k : PV) : List (PV × PV) → Nat → Option (Option (Nat × PV))
  | [], _ => some none
  | (k', v) :: r, i => match keyEq k k' with
    | some true => some (some (i, v))
    | some false => findE k r (i + 1)
    | none => none

noncomputable def keyOk (E : Env) (t : TypeId) (k : PV) : Bool :=
  match E.T t with
  | some ti => match ti.tk, k with
    | .string, .str _ => true
    | .int k, .int k' _ => k = k'
    | .bool, .bool _ => true
    | _, _ => false
  | none => false

noncomputable def aLookup (E : Env) (t : TypeId) (x k : PV) (ok : Bool) (H : Heap) : Option PV :=
  match E.T t with
  | some ti => match ti.tk with
    | .map kt e => if keyOk E kt k then
        match (match x with | .nilm => some [] | .map id => (match nth H.bx id with | some (.map es) => some es | _ => none) | _ => none) with
        | some es => match findE k es 0 with
          | some (some (_, v)) => some (if ok then .tup [v, .bool true] else v)
          | some none => match E.T e with
            | some ei => some (if ok then .tup [ei.zero, .bool false] else ei.zero)
            | none => none
          | none => none
        | none => none
      else none
    | _ => none
  | none => none

noncomputable def aMapUpdate (E : Env) (t : TypeId) (m k v : PV) (H : Heap) : Option Heap :=
  match E.T t with
  | some ti => match ti.tk, m with
    | .map kt _, .map id => if keyOk E kt k then match nth H.bx id with
      | some (.map es) => match findE k es 0 with
        | some (some (i, _)) => H.put id (.map (es.set i (k, v)))
        | some none => H.put id (.map (es ++ [(k, v)]))
        | none => none
      | _ => none else none
    | _, _ => none
  | none => none

noncomputable def aMaxL : List PV → PV → Option PV
  | [], x => some x
  | .int _ y :: r, .int k x => aMaxL r (.int k (if x < y then y else x))
  | _, _ => none
noncomputable def aMinL : List PV → PV → Option PV
  | [], x => some x
  | .int _ y :: r, .int k x => aMinL r (.int k (if y < x then y else x))
  | _, _ => none

noncomputable def aBuiltin (E : Env) (own : Bool) (b : Builtin) (ts : List TypeId) (args : List PV) (H : Heap) : Option (PV × Heap) :=
  match b, ts, args with
  | .len, [t], [x] => (aLen E t x H).map (·, H)
  | .append, [t, u], [s, x] => if own then aAppendOwn E t u s x H else aAppend E t u s x H
  | .max, _, x :: r => (aMaxL r x).map (·, H)
  | .min, _, x :: r => (aMinL r x).map (·, H)
  | _, _, _ => none

noncomputable def optV (ρ : Operand → PV) : Option Operand → Option PV
  | some x => some (ρ x)
  | none => none

/-- An operation that is no call. -/
noncomputable def aOp (E : Env) (own : Bool) (ρ : Operand → PV) (o : Op) (H : Heap) : Option (PV × Heap) :=
  match o with
  | .move x => some (ρ x, H)
  | .assign x => some (ρ x, H)
  | .pick c a b => match ρ c with | .bool t => some (if t then ρ a else ρ b, H) | _ => none
  | .alloc e => match E.T e with
    | some ei => if ei.zero.cells.length = ei.size ∧ 0 < ei.size then some (.ptr H.bx.length ei.size 0 0, H.push (.cells ei.size [ei.zero.cells])) else none
    | none => none
  | .box _ x => if 0 < (ρ x).cells.length then some (.ptr H.bx.length (ρ x).cells.length 0 0, H.push (.cells (ρ x).cells.length [(ρ x).cells])) else none
  | .build t ps => (aBuild E t (ps.toList.map fun p => (p.1, ρ p.2))).map (·, H)
  | .buildSlice t n ps => match aBuildSlice E t n (ps.toList.map fun p => (p.1, ρ p.2)) with
    | some (es, el) => if own then some (.own H.bx.length es 0 n, H.push (.cells es el))
      else match frzLL el with | some el' => some (.sl .full es el', H) | none => none
    | none => none
  | .load t a => (aLoad E t (ρ a) H).map (·, H)
  | .store t a v => match E.T t with
    | some ti => if (ρ v).cells.length = ti.size ∧ 0 < ti.size ∧ (ρ v).cells.all cellOk = true then (H.wr (ρ a) (ρ v).cells).map (.undef, ·) else none
    | none => none
  | .nilCheck x => match ρ x with
    | .ptr a b c d => some (.ptr a b c d, H)
    | .fptr a b => some (.fptr a b, H)
    | .fn f c => some (.fn f c, H)
    | _ => none
  | .binOp op t x y _ => (aBin E op t (ρ x) (ρ y)).map (·, H)
  | .unOp op _ x => (aUn op (ρ x)).map (·, H)
  | .convert s d x => (aConv E s d (ρ x)).map (·, H)
  | .makeFunc (.func f) fi ca => if fi.isEmpty then some (.fn f (ca.toList.map ρ), H) else none
  | .makeMap _ none => some (.map H.bx.length, H.push (.map []))
  | .slice t x lo hi mx => (aSlice E t (ρ x) (optV ρ lo) (optV ρ hi) (optV ρ mx)).map (·, H)
  | .fieldAddr t x f => (aFieldAddr E t (ρ x) f).map (·, H)
  | .field t x f => (aField E t (ρ x) f).map (·, H)
  | .indexAddr t x i => (aIndexAddr E t (ρ x) (ρ i)).map (·, H)
  | .index t x i => (aIndex E t (ρ x) (ρ i)).map (·, H)
  | .lookup t x i ok => (aLookup E t (ρ x) (ρ i) ok H).map (·, H)
  | .mapUpdate t m k v => (aMapUpdate E t (ρ m) (ρ k) (ρ v) H).map (.undef, ·)
  | .extract x i => match ρ x with | .tup vs => (nth vs i).map (·, H) | _ => none
  | .call { callee := .builtin b, args, argTypes } => aBuiltin E own b argTypes.toList (args.toList.map ρ) H
  | _ => none

abbrev TM := Nat → PV

noncomputable def evalO (E : Env) (tm : TM) : Operand → PV
  | .tmp t => tm t
  | .const v => ofConst v
  | .global g => match E.G g with | some cs => .fptr cs 0 | none => .undef
  | .func f => .fn f []

noncomputable def setD (tm : TM) (d : Option Tmp) (v : PV) : TM :=
  match d with
  | some d => fun t => if t = d then v else tm t
  | none => tm

def one : List PV → PV
  | [v] => v
  | vs => .tup vs

end Go.Vm
