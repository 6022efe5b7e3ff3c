/-
  The operations that read and compute: each abstract operation is met by the mode
-/
import Derived.Orders
import Derived.RowKit3
import Derived.KernelRfl
import Derived.Laws.CopyRow
import Derived.Laws.Tables
import Derived.ChangeKeysEq
import Derived.Laws.Entries
import Derived.Laws.Cells
import Derived.Laws.Strings
import Derived.Laws.StructEq
noncomputable section
namespace Go.Vm
variable {α:Type} {T e t:TypeId} {N b es i ix len n o off:Nat} {k:IntKind} {w':World} {d:TypeDesc} {a:Value}
noncomputable def nth (l:List α):Nat→Option α:=
 List.rec (motive:=fun _=>Nat→Option α) (fun _=>none) (fun a _ ih n=>Nat.rec (motive:=fun _=>Option α) (some a) (fun m _=>ih m) n) l
theorem Zm (l:List α) (n:Nat):nth l n=l[n]? :=by
 induction l generalizing n with
 |nil=>rfl
 | cons a l ih => cases n with
   | zero=>rfl
   | succ n=>show nth l n=_;simpa using ih n
inductive Tail where
 |none
 |full
 |tok (n:Nat)
variable {tl:Tail}
inductive PV where
 |bool (b:Bool)
 |int (k:IntKind) (n:Int)
 |str (s:List UInt8)
 |nilp
 |ptr (id es ix off:Nat)
 |fptr (cells:List PV) (off:Nat)
 |nils
 |sl (tl:Tail) (es:Nat) (el:List (List PV))
 |own (id es ix len:Nat)
 |nilm
 |map (id:Nat)
 |nilf
 |nili
 |ifc
 |fn (f:FuncId) (cap:List PV)
 |agg (cells:List PV)
 |tup (vs:List PV)
 |undef
variable {p q:PV} {L M el:List (List PV)} {cs:List PV}
def PV.cells:PV→List PV
 | .agg cs=>cs
 | .undef=>[]
 |v=>[v]
def ZL:PV→Bool
 | .agg _| .tup _| .undef=>false
 |_=>true
inductive Box where
 |cells (es:Nat) (el:List (List PV))
 |map (es:List (PV×PV))
 |sp (T:TypeId) (cs:List PV)
 |dead
structure Heap where
 bx:List Box
 ro:Nat
 live:List Nat
 nt:Nat
inductive TK where
 |int (k:IntKind)
 |bool
 |string
 |slice (e:TypeId)
 |struct (fs:List (Nat×TypeId))
 |array (n:Nat) (e:TypeId)
 |map (k e:TypeId)
 |pointer (e:TypeId)
 |func
 |iface
 |other
structure TI where
 tk:TK
 size:Nat
 bytes:Nat
 zero:PV
variable {ti:TI}
def ofScalar:Value→PV
 | .bool b=> .bool b
 | .int k n=> .int k n
 | .string s=> .str s.data.toList
 | .pointer none=> .nilp
 | .slice none 0 0=> .nils
 | .map none=> .nilm
 | .nilFunc=> .nilf
 | .nilIface=> .nili
 |_=> .undef
def ofConst:Value→PV
 | .agg cs=> .agg (cs.toList.map ofScalar)
 |v=>ofScalar v
def VT:TypeDesc→TK
 | .int k=> .int k
 | .bool=> .bool
 | .string=> .string
 | .slice e=> .slice e
 | .struct fs=> .struct (fs.toList.map fun f=>(f.offset,f.type))
 | .array n e=> .array n e
 | .map k e=> .map k e
 | .pointer e=> .pointer e
 | .func _ _ _=> .func
 | .interface _=> .iface
 |_=> .other
def Zpl (P:Program) (t:TypeId):Option TI:=
 match P.info? t,P.underlying t with
 | some i, some d => match i.zero with
   | some z=>some {tk:=VT d,size:=i.size,bytes:=i.bytes,zero:=ofConst z}
   | none=>none
 |_,_=>none
def Zeh:Value→Bool
 | .iface _ _=>true
 |_=>false
def ZhX:Value→Bool
 | .int .i64 _=>true
 |_=>false
structure Env where
 T:TypeId→Option TI
 F:FuncId→Option Func
 G:Nat→Option (List PV)
 Z:FuncId→List PV→Heap→Option (PV×Heap)
 eff:FuncId→Bool
 own:FuncId→Tmp→Bool
 tyd:TypeId→Bool
 I:Nat→Option (Value→Bool)
 mono:Bool
 Q:TypeId→Bool:=fun _=>false
def Heap.rd (H:Heap) (p:PV) (n:Nat):Option (List PV):=
 match p with
 | .ptr id es ix off => match nth H.bx id with
   | some (.cells es' el) => if es = es' then match nth el ix with
     | some cs=>if off+n≤cs.length then some ((cs.drop off).take n) else none
     | none=>none else none
   | some (.sp _ cs)=>if es=cs.length∧ix=0∧off+n≤cs.length then some ((cs.drop off).take n) else none
   | _=>none
 | .fptr cs off=>if off+n≤cs.length then some ((cs.drop off).take n) else none
 |_=>none
def Heap.put (H:Heap) (id:Nat) (b:Box):Option Heap:=
 if id<H.ro then none else some {H with bx:=H.bx.set id b}
def Heap.wr (H:Heap) (p:PV) (cs:List PV):Option Heap:=
 match p with
 | .ptr id es ix off => match nth H.bx id with
   | some (.cells es' el) => if es = es' then match nth el ix with
     | some old=>if off+cs.length≤old.length then H.put id (.cells es' (el.set ix (old.take off++(cs++old.drop (off+cs.length))))) else none
     | none=>none else none
   | some (.sp T old)=>if es=old.length∧ix=0∧off+cs.length≤old.length then H.put id (.sp T (old.take off++(cs++old.drop (off+cs.length)))) else none
   | _=>none
 |_=>none
def Heap.push (H:Heap) (b:Box):Heap:={H with bx:=H.bx++ [b]}
def XL:TK→Bool
 | .struct _| .array _ _=>true
 |_=>false
def Qe (ti:TI) (cs:List PV):Option PV:=
 if XL ti.tk then some (.agg cs) else match cs with
  | [v]=>some v
  | _=>none
def ZZ (E:Env) (t:TypeId) (p:PV) (H:Heap):Option PV:=
 match E.T t with
 | some ti => match H.rd p (if XL ti.tk then ti.size else 1) with
   | some cs=>Qe ti cs
   | none=>none
 |none=>none
def frz1:PV→Option PV
 | .bool b=>some (.bool b)
 | .int k n=>some (.int k n)
 | .str s=>some (.str s)
 | .nilp=>some .nilp
 | .nils=>some .nils
 | .nilm=>some .nilm
 | .nilf=>some .nilf
 | .nili=>some .nili
 | .ifc=>some .ifc
 | .sl _ es el=>some (.sl .none es el)
 | .fptr cs off=>some (.fptr cs off)
 |_=>none
def Vn:List PV→Option (List PV)
 | []=>some []
 | v :: r => match frz1 v with
   | some v' => match Vn r with
     | some r'=>some (v'::r')
     | none=>none
   | none=>none
def Yo:List (List PV)→Option (List (List PV))
 | []=>some []
 | v :: r => match Vn v with
   | some v' => match Yo r with
     | some r'=>some (v'::r')
     | none=>none
   | none=>none
def frzC (n:Nat) (H:Heap):PV→Option PV
 | .own id es ix len => if id < n then none else match nth H.bx id with
   | some (.cells es' el) => if es = es' ∧ ix + len ≤ el.length then
       match Yo ((el.drop ix).take len) with|some el'=>some (.sl .none es el')|none=>none
     else none
   | _=>none
 |v=>frz1 v
def Wr (n:Nat) (H:Heap):List PV→Option (List PV)
 | []=>some []
 | v :: r => match frzC n H v with
   | some v' => match Wr n H r with
     | some r'=>some (v'::r')
     | none=>none
   | none=>none
def frz2 (n:Nat) (H:Heap):PV→Option PV
 | .agg cs=>match Wr n H cs with|some cs'=>some (.agg cs')|none=>none
 |v=>frzC n H v
def Wu (n:Nat) (H:Heap):List PV→Option (List PV)
 | []=>some []
 | v :: r => match frz2 n H v with
   | some v' => match Wu n H r with
     | some r'=>some (v'::r')
     | none=>none
   | none=>none
def frz3 (n:Nat) (H:Heap):PV→Option PV
 | .tup vs=>match Wu n H vs with|some vs'=>some (.tup vs')|none=>none
 |v=>frz2 n H v
def arg1:PV→PV
 | .sl _ es el=> .sl .none es el
 |v=>v
def argV:PV→PV
 | .agg cs=> .agg (cs.map arg1)
 |v=>arg1 v
def ZdB (op:BinOp) (k:IntKind) (a b:Int):Option PV:=
 match op with
 | .add=>some (.int k (k.wrap (a+b)))
 | .sub=>some (.int k (k.wrap (a-b)))
 | .mul=>some (.int k (k.wrap (a*b)))
 | .quo=>if b=0 then none else some (.int k (k.wrap (a.tdiv b)))
 | .rem=>if b=0 then none else some (.int k (a.tmod b))
 | .and=>some (.int k (k.wrap (BitVec.ofInt k.bits a &&& BitVec.ofInt k.bits b).toNat))
 | .or=>some (.int k (k.wrap (BitVec.ofInt k.bits a ||| BitVec.ofInt k.bits b).toNat))
 | .xor=>some (.int k (k.wrap (BitVec.ofInt k.bits a ^^^ BitVec.ofInt k.bits b).toNat))
 | .andNot=>some (.int k (k.wrap (BitVec.ofInt k.bits a &&& ~~~ BitVec.ofInt k.bits b).toNat))
 | .eql=>some (.bool (a==b))
 | .neq=>some (.bool (a != b))
 | .lss=>some (.bool (decide (a<b)))
 | .leq=>some (.bool (decide (a≤b)))
 | .gtr=>some (.bool (decide (b<a)))
 | .geq=>some (.bool (decide (b≤a)))
 |_=>none
def Zfk (op:BinOp) (k:IntKind) (a b:Int):Option PV:=
 if b<0 then none else match op with
  | .shl=>some (.int k (k.wrap (a*2 ^ (min b.toNat k.bits))))
  | .shr=>some (.int k (a.fdiv (2 ^ (min b.toNat k.bits))))
  | _=>none
def Znr (op:BinOp) (a b:List UInt8):Option PV:=
 match op with
 | .add=>if a.length+b.length≤281474976710656 then some (.str (a++b)) else none
 | .eql=>some (.bool (a==b))
 | .neq=>some (.bool (!(a==b)))
 | .lss=>some (.bool (Op.bytesLess a b))
 | .leq=>some (.bool (Op.bytesLess a b||a==b))
 | .gtr=>some (.bool (!(Op.bytesLess a b||a==b)))
 | .geq=>some (.bool (!Op.bytesLess a b))
 |_=>none
def aEq (tk:TK):PV→PV→Option Bool
 | .bool a,.bool b=>match tk with| .bool=>some (a==b)|_=>none
 | x, y => match tk, x, y with
   | .slice _,.nils,.nils=>some true
   | .slice _,.nils,.sl _ _ _=>some false
   | .slice _,.sl _ _ _,.nils=>some false
   | .slice _,.own _ _ _ _,.nils=>some false
   | .pointer _,.nilp,.nilp=>some true
   | .pointer _,.ptr _ _ _ _,.nilp=>some false
   | .pointer _,.nilp,.ptr _ _ _ _=>some false
   | .map _ _,.nilm,.nilm=>some true
   | .map _ _,.map _,.nilm=>some false
   | .func,.nilf,.nilf=>some true
   | .func,.fn _ _,.nilf=>some false
   | .func,.nilf,.fn _ _=>some false
   | .iface,.ifc,.nili=>some false
   | _,_,_=>none
def ZgB (E:Env) (t:TypeId) (cs:List PV) (off:Nat):Option PV:=
 match E.T t with
 |some ti=>if XL ti.tk then(if off+ti.size≤cs.length then some (.agg ((cs.drop off).take ti.size)) else none) else nth cs off
 |none=>none
def Zm1 (E:Env) (a b:List PV):List (Nat×TypeId)→Option Bool
 | []=>some true
 | (o, t) :: r => match E.T t with
   | some ti => match ti.tk, ZgB E t a o, ZgB E t b o with
     | .string, some (.str x), some (.str y) => match Zm1 E a b r with
       | some c=>some (decide (x=y)&&c)
       | none=>none
     | .int _, some (.int k x), some (.int k' y) => if k = k' then(match Zm1 E a b r with
       | some c=>some (decide (x=y)&&c)
       | none=>none) else none
     | _,_,_=>none
   | none=>none
def ZoC (E:Env) (t:TypeId) (x y:PV):Option Bool:=
 match E.T t with
 | some ti => match ti.tk, x, y with
   | .struct fs,.agg a,.agg b=>if E.Q t=true then Zm1 E a b fs else none
   | tk,x,y=>aEq tk x y
 |none=>none
def XM (E:Env) (op:BinOp) (t:TypeId) (x y:PV):Option PV:=
 match x,y with
 | .int k a, .int k' b => match op with
   | .shl=>Zfk .shl k a b
   | .shr=>Zfk .shr k a b
   | _=>if k=k' then ZdB op k a b else none
 | .str a,.str b=>Znr op a b
 | x, y => match op with
   | .eql=>(ZoC E t x y).map .bool
   | .neq=>(ZoC E t x y).map fun b=> .bool (!b)
   | _=>none
def ZtI (E:Env) (op:BinOp) (t:TypeId):Operand→Option PV
 | .const _ => match E.T t with
   | some ti => match ti.tk, op with
     | .iface,.eql=>some (.bool true)
     | .iface,.neq=>some (.bool false)
     | _,_=>none
   | none=>none
 |_=>none
def Zoo (E:Env) (op:BinOp) (t:TypeId) (y:Operand) (p q:PV):Option PV:=
 match p,q with
 | .nili,.nili=>ZtI E op t y
 |p,q=>XM E op t p q
theorem Zmq {E:Env} {op:BinOp} {y:Operand} {r:PV} (h:XM E op t p q=some r):Zoo E op t y p q=some r:=by
 unfold Zoo;split
 ·have hq:ZoC E t .nili .nili=none:=by unfold ZoC;split;{split;{simp at *};{unfold aEq;split<;>simp_all}};{rfl}
  unfold XM at h;simp only[hq]at h;cases op<;>simp at h
 {exact h}
def aUn (op:UnOp) (x:PV):Option PV:=
 match op,x with
 | .not,.bool b=>some (.bool (!b))
 | .neg,.int k n=>some (.int k (k.wrap (0-n)))
 | .xor,.int k n=>some (.int k (k.wrap (BitVec.ofInt k.bits (if k.signed then -1 else k.max) ^^^ BitVec.ofInt k.bits n).toNat))
 |_,_=>none
def WS:List (List PV)→Option (List UInt8)
 | []=>some []
 | c :: r => match c with
   | [.int .u8 n] => match decide (0 ≤ n) && decide (n ≤ 255) with
     | true => match WS r with
       | some l=>some (n.toNat.toUInt8::l)
       | none=>none
     | false=>none
   | _=>none
def Zdb (E:Env) (s d:TypeId) (x:PV):Option PV:=
 match E.T s,E.T d with
 | some si, some di => match si.tk, di.tk, x with
   | .int _,.int k,.int _ n=>some (.int k (k.wrap n))
   | .string,.string,.str b=>some (.str b)
   | .slice e, .string, .sl _ es el => match Nat.beq es 1, E.T e with
     | true, some ei => match ei.tk with
       | .int .u8=>(WS el).map .str
       | _=>none
     | _,_=>none
   | .slice e, .string, .nils => match E.T e with
     | some ei => match ei.tk with
       | .int .u8=>some (.str [])
       | _=>none
     | none=>none
   | _,_,_=>none
 |_,_=>none
def nat? :PV→Option Nat
 | .int _ (.ofNat n)=>some n
 |_=>none
def XP (d:Nat) (most:Nat):Option PV→Option Nat
 |some v=>match nat? v with|some n=>if n≤most then some n else none|none=>none
 |none=>some d
def Zcz (tl:Tail) (len h:Nat) (mx:Option Nat):Tail:=
 match mx with
 |some m=>if m=h then .full else .none
 |none=>if h=len then tl else .none
def ZbK (len:Nat) (hi:Option PV):Option PV→Option (Option Nat)
 | some v => match hi with
   | some _=>match nat? v with|some n=>if n≤len then some (some n) else none|none=>none
   | none=>none
 |none=>some none
def Yf (E:Env) (t:TypeId) (x:PV) (lo hi mx:Option PV):Option PV:=
 match E.T t with
 | some ti => match ti.tk, x with
   | .string, .str s => match mx with
     | some _=>none
     | none => match XP s.length s.length hi with
       | some h => match XP 0 h lo with
         | some l=>some (.str ((s.take h).drop l))
         | none=>none
       | none=>none
   | .slice e, .sl tl es el => match E.T e with
     | some ei => if ei.size = es then match ZbK el.length hi mx with
       | some m => match XP el.length (m.getD el.length) hi with
         | some h => match XP 0 h lo with
           | some l=>some (.sl (Zcz tl el.length h m) es ((el.take h).drop l))
           | none=>none
         | none=>none
       | none=>none else none
     | none=>none
   | .slice e, .nils => match E.T e with
     | some _ => match ZbK 0 hi mx with
       | some _ => match XP 0 0 hi with
         | some _ => match XP 0 0 lo with
           | some _=>some .nils
           | none=>none
         | none=>none
       | none=>none
     | none=>none
   | .slice e, .own id es ix len => match E.T e, mx with
     | some ei, none => if ei.size = es then match XP len len hi with
         | some h => match XP 0 h lo with
           | some l=>some (.own id es (ix+l) (h-l))
           | none=>none
         | none=>none else none
     | _,_=>none
   | _,_=>none
 |none=>none
def Zy (E:Env) (t:TypeId) (x i:PV):Option PV:=
 match E.T t,nat? i with
 | some ti, some n => match ti.tk, x with
   | .slice e, .sl _ es el => match E.T e with
     | some ei=>if ei.size=es then match nth el n with|some cs=>some (.fptr cs 0)|none=>none else none
     | none=>none
   | .slice e, .own id es ix len => match E.T e with
     | some ei=>if ei.size=es then if n<len then some (.ptr id es (ix+n) 0) else none else none
     | none=>none
   | .array len e, .ptr id es ix off => match E.T e with
     | some ei=>if n<len then some (.ptr id es ix (off+n*ei.size)) else none
     | none=>none
   | .array len e, .fptr cs off => match E.T e with
     | some ei=>if n<len then some (.fptr cs (off+n*ei.size)) else none
     | none=>none
   | _,_=>none
 |_,_=>none
def U7 (E:Env) (t:TypeId) (x:PV) (f:Nat):Option PV:=
 match E.T t with
 | some ti => match ti.tk with
   | .struct fs => match nth fs f with
     | some (o, ft) => match E.T ft with
       | some fi => if fi.size = 0 then none else match x with
         | .ptr id es ix off=>some (.ptr id es ix (off+o))
         | .fptr cs off=>some (.fptr cs (off+o))
         | _=>none
       | none=>none
     | none=>none
   | _=>none
 |none=>none
def ZiY (E:Env) (t:TypeId) (x:PV) (f:Nat):Option PV:=
 match E.T t,x with
 | some ti, .agg cs => match ti.tk with
   | .struct fs => match nth fs f with
     | some (o,ft)=>ZgB E ft cs o
     | none=>none
   | _=>none
 |_,_=>none
def UH (E:Env) (t:TypeId) (x i:PV):Option PV:=
 match E.T t,nat? i with
 | some ti, some n => match ti.tk, x with
   | .string,.str s=>match nth s n with|some b=>some (.int .u8 (.ofNat b.toNat))|none=>none
   | .array len e, .agg cs => match E.T e with
     | some ei=>if n<len then ZgB E e cs (n*ei.size) else none
     | none=>none
   | _,_=>none
 |_,_=>none
def Zhd (fs:List (Nat×TypeId)) (E:Env) (cells:List PV):List (Nat×PV)→Option (List PV)
 | []=>some cells
 | (i, v) :: r => match nth fs i with
   | some (o, ft) => match E.T ft with
     | some fi => if v.cells.length = fi.size ∧ 0 < fi.size ∧ o + fi.size ≤ cells.length then
         Zhd fs E (cells.take o++(v.cells++cells.drop (o+fi.size))) r else none
     | none=>none
   | none=>none
def Zav (E:Env) (t:TypeId) (parts:List (Nat×PV)):Option PV:=
 match E.T t with
 | some ti => match ti.tk with
   | .struct fs=>if fs.all (fun f=>(E.T f.2).isSome)=true∧0<ti.zero.cells.length then match Zhd fs E ti.zero.cells parts with|some cs=>some (.agg cs)|none=>none else none
   | _=>none
 |none=>none
def Zdp (es:Nat) (el:List (List PV)):List (Nat×PV)→Option (List (List PV))
 | []=>some el
 |(i,v)::r=>if v.cells.length=es∧i<el.length then Zdp es (el.set i v.cells) r else none
def Z1 (E:Env) (t:TypeId) (len:Nat) (parts:List (Nat×PV)):Option (Nat×List (List PV)):=
 match E.T t with
 | some ti => match ti.tk with
   | .slice e => match E.T e with
     | some ei => if ei.zero.cells.length = ei.size ∧ 0 < ei.size ∧ len * ei.size ≤ 65536 then
         match Zdp ei.size (List.replicate len ei.zero.cells) parts with
         | some el=>some (ei.size,el)
         | none=>none
       else none
     | none=>none
   | _=>none
 |none=>none
def Zc0 (E:Env) (t:TypeId) (x:PV) (H:Heap):Option PV:=
 match E.T t with
 | some ti => match ti.tk, x with
   | .string,.str s=>some (.int .i64 (.ofNat s.length))
   | .slice _,.sl _ _ el=>some (.int .i64 (.ofNat el.length))
   | .slice _,.nils=>some (.int .i64 0)
   | .slice _,.own _ _ _ len=>some (.int .i64 (.ofNat len))
   | .map _ _,.nilm=>some (.int .i64 0)
   | .map _ _,.map id=>match nth H.bx id with|some (.map es)=>some (.int .i64 (.ofNat es.length))|_=>none
   | .array n _,_=>some (.int .i64 (.ofNat n))
   | _,_=>none
 |none=>none
def YK (H:Heap):PV→Option (List (List PV))
 | .nils=>some []
 | .sl _ _ el=>some el
 | .own id es ix len => match nth H.bx id with
   | some (.cells es' el)=>if es=es'∧ix+len≤el.length then Yo ((el.drop ix).take len) else none
   | _=>none
 |_=>none
def Wi (d:Nat):PV→Nat
 | .sl _ es _=>es
 | .own _ es _ _=>es
 |_=>d
def X5 (t:Nat):List Nat→Option (List Nat)
 | []=>none
 |x::r=>if x=t then some r else match X5 t r with|some r'=>some (x::r')|none=>none
def YD:PV→Option (List (List PV))
 | .nils=>some []
 | .sl .full _ el=>some el
 |_=>none
def Zkt:PV→Bool
 | .nils=>true
 | .sl _ _ _=>true
 | .own _ _ _ _=>true
 |_=>false
def Zo (b:List UInt8):List (List PV):=b.map fun x=>[.int .u8 (Int.ofNat x.toNat)]
def XK (E:Env) (t u:TypeId) (s x:PV) (H:Heap):Option (Nat×Nat×List (List PV)):=
 match E.T t,E.T u with
 | some ti, some ui => match ti.tk, ui.tk with
   | .slice e, .string => match E.T e, x with
     | some ei, .str b => match ei.tk with
       | .int .u8=>if ei.size=1∧ei.zero.cells.length=1∧Wi 1 s=1∧Zkt s=true then some (1,ei.bytes,Zo b) else none
       | _=>none
     | _,_=>none
   | .slice e, .slice _ => match E.T e with
     | some ei => if 0 < ei.size ∧ ei.zero.cells.length = ei.size ∧ Wi ei.size s = ei.size ∧ Wi ei.size x = ei.size then
         match YK H x with
         | some ys=>if ys.all (fun c=>c.all ZL)=true∧Zkt s=true then some (ei.size,ei.bytes,ys) else none
         | none=>none
       else none
     | none=>none
   | _,_=>none
 |_,_=>none
def Zg4 (T:TypeId) (c:List PV):Bool:=match c with
 | [.int .u8 _]=>Nat.beq T 5
 |_=>true
def Zbg (T:TypeId) (l:List (List PV)):Bool:=l.all (Zg4 T)
def noC (c:List PV):Bool:=match c with
 | [.int .u8 _]=>false
 |_=>true
def noB (l:List (List PV)):Bool:=l.all noC
def Znp (l:List (List PV)):Bool:=match l with
 |c::_=> !noC c
 | []=>false
theorem Zkv {c:List PV} (h:noC c=true):Zg4 T c=true:=by unfold noC at h;unfold Zg4;split at h;{cases h};{rfl}
theorem ZbF {l:List (List PV)} (h:noB l=true):Zbg T l=true:=by simp only[noB,Zbg,List.all_eq_true]at h ⊢;exact fun x hx=>Zkv (h x hx)
theorem Vf (l:List (List PV)):Zbg 5 l=true:=by simp only[Zbg,List.all_eq_true];intro x _;unfold Zg4;split<;>rfl
theorem ZnH (h:Zbg T L=true) (hc:(Znp L||noB M)=true):Zbg T M=true:=by
 rw[Bool.or_eq_true]at hc;rcases hc with hc|hc
 ·cases L with
  | nil=>cases hc
  | cons c r=>simp only[Zbg,List.all_cons,Bool.and_eq_true]at h;have h1:=h.1;simp only[Znp,noC,Bool.not_eq_true']at hc;unfold Zg4 at h1;split at hc;{rw[Nat.eq_of_beq_eq_true h1];exact Vf M};{cases hc}
 {exact ZbF hc}
theorem ZeD (h:Zbg T L=true) (hm:Zbg T M=true):Zbg T (L++M)=true:=by simp only[Zbg,List.all_append,Bool.and_eq_true]at h hm ⊢;exact⟨h,hm⟩
theorem Ziv (h:Zbg T L=true) (n:Nat):Zbg T (L.drop n)=true:=by simp only[Zbg,List.all_eq_true]at h ⊢;exact fun x hx=>h x (List.mem_of_mem_drop hx)
def Zcf (E:Env) (t:TypeId):TypeId:=
 match E.T t with
 |some ti=>match ti.tk with| .slice e=>e|_=>0
 |none=>0
def VX (n m by_:Nat):Bool:=Nat.ble ((n+m+256)*by_) 211106232532992&&Nat.ble (n+m) 4611686018427387904
def WH (s:PV) (es by_:Nat) (ys:List (List PV)) (H:Heap):Option (PV×Heap):=
 match s with
 | .own id _ ix len => match YK H s with
   | some el => if ix = 0 ∧ H.ro ≤ id ∧ el.length = len ∧ VX el.length ys.length by_ = true then
       some (.own H.bx.length es 0 (el.length+ys.length),{H with bx:=H.bx.set id .dead++ [.cells es (el++ys)]}) else none
   | none=>none
 |_=>none
def ZK (E:Env) (t u:TypeId) (s x:PV) (H:Heap):Option (PV×Heap):=
 match XK E t u s x H with
 | some (es, by_, ys) => match ys with
   | []=>some (s,H)
   | y :: yr => match YD s with
     | some el => if VX el.length (y :: yr).length by_ = true then
         some (.own H.bx.length es 0 (el.length+(y::yr).length),H.push (.cells es (el++y::yr))) else none
     | none=>WH s es by_ (y::yr) H
 |none=>none
def ZP (E:Env) (t u:TypeId) (s x:PV) (H:Heap):Option (PV×Heap):=
 match XK E t u s x H with
 | some (es, by_, ys) => match ys with
   | []=>some (s,H)
   | y :: yr => match s with
     | .sl (.tok k) _ el => if(VX el.length (y :: yr).length by_ && Zbg (Zcf E t) (el ++ y :: yr) && (Znp el || noB (y :: yr))) = true then
         match X5 k H.live with
         | some l=>some (.sl (.tok H.nt) es (el++y::yr),{H with nt:=H.nt+1,live:=H.nt::l})
         | none=>none else none
     | s => match YD s with
       | some el => if(VX el.length (y :: yr).length by_ && Zbg (Zcf E t) (el ++ y :: yr)) = true then
         some (.sl (.tok H.nt) es (el++y::yr),{H with nt:=H.nt+1,live:=H.nt::H.live}) else none
       | none=>WH s es by_ (y::yr) H
 |none=>none
def Xn (E:Env) (t:TypeId) (l c:PV) (H:Heap):Option (PV×Heap):=
 match E.T t with
 | some ti => match ti.tk with
   | .slice e => match E.T e, nat? l, nat? c with
     | some ei, some n, some m =>
       if ei.zero.cells.length=ei.size∧0<ei.size∧m*ei.bytes≤140737488355328∧m≤1073741824 then
        if n=m then some (.own H.bx.length ei.size 0 n,H.push (.cells ei.size (List.replicate n ei.zero.cells))) else none
       else none
     | _,_,_=>none
   | _=>none
 |none=>none
def ZeX:PV→PV→Option Bool
 | .str a,.str b=>some (a==b)
 | .int k a,.int k' b=>if k=k' then some (a==b) else none
 | .bool a,.bool b=>some (a==b)
 |_,_=>none
def V7 (k:PV):List (PV×PV)→Nat→Option (Option (Nat×PV))
 | [],_=>some none
 | (k', v) :: r, i => match ZeX k k' with
   | some true=>some (some (i,v))
   | some false=>V7 k r (i+1)
   | none=>none
def Zdj (E:Env) (t:TypeId) (k:PV):Bool:=
 match E.T t with
 | some ti => match ti.tk, k with
   | .string,.str _=>true
   | .int k,.int k' _=>k=k'
   | .bool,.bool _=>true
   | _,_=>false
 |none=>false
def Wg (E:Env) (t:TypeId) (x k:PV) (ok:Bool) (H:Heap):Option PV:=
 match E.T t with
 | some ti => match ti.tk with
   | .map kt e => if Zdj E kt k then
       match(match x with| .nilm=>some []| .map id=>(match nth H.bx id with|some (.map es)=>some es|_=>none)|_=>none) with
       | some es => match V7 k es 0 with
         | some (some (_,v))=>some (if ok then .tup [v,.bool true] else v)
         | some none => match E.T e with
           | some ei=>some (if ok then .tup [ei.zero,.bool false] else ei.zero)
           | none=>none
         | none=>none
       | none=>none
     else none
   | _=>none
 |none=>none
def Yj (E:Env) (t:TypeId) (m k v:PV) (H:Heap):Option Heap:=
 match E.T t with
 | some ti => match ti.tk, m with
   | .map kt _, .map id => if Zdj E kt k then match nth H.bx id with
     | some (.map es) => match V7 k es 0 with
       | some (some (i,_))=>H.put id (.map (es.set i (k,v)))
       | some none=>H.put id (.map (es++ [(k,v)]))
       | none=>none
     | _=>none else none
   | _,_=>none
 |none=>none
def Zi9:List PV→PV→Option PV
 | [],x=>some x
 | .int _ y::r,.int k x=>Zi9 r (.int k (if x<y then y else x))
 |_,_=>none
def ZjT:List PV→PV→Option PV
 | [],x=>some x
 | .int _ y::r,.int k x=>ZjT r (.int k (if y<x then y else x))
 |_,_=>none
def Zab (E:Env) (t:TypeId) (x:PV) (H:Heap):Option (PV×Heap):=
 match E.T t,x with
 | some ti, .own id es ix len => match ti.tk with
   | .slice e => match E.T e with
     | some ei => match nth H.bx id with
       | some (.cells es' el) => if es' = es ∧ ei.zero.cells.length = ei.size ∧ ei.size = es ∧ 0 < es ∧ H.ro ≤ id ∧ ix + len ≤ el.length ∧ ei.zero.cells.all ZL = true then
           some (.tup [],{H with bx:=H.bx.set id (.cells es (el.take ix++(List.replicate len ei.zero.cells++el.drop (ix+len))))}) else none
       | _=>none
     | none=>none
   | _=>none
 |_,_=>none
def Z9 (E:Env) (own:Bool) (b:Builtin) (ts:List TypeId) (args:List PV) (H:Heap):Option (PV×Heap):=
 match b,ts,args with
 | .len,[t],[x]=>(Zc0 E t x H).map (·,H)
 | .append,[t,u],[s,x]=>if own then ZK E t u s x H else ZP E t u s x H
 | .max,_,x::r=>(Zi9 r x).map (·,H)
 | .min,_,x::r=>(ZjT r x).map (·,H)
 | .clear,[t],[x]=>Zab E t x H
 |_,_,_=>none
def ZbE (ρ:Operand→PV):Option Operand→Option PV
 |some x=>some (ρ x)
 |none=>none
def aOp (E:Env) (own:Bool) (ρ:Operand→PV) (o:Op) (H:Heap):Option (PV×Heap):=
 match o with
 | .move x=>some (ρ x,H)
 | .assign x=>some (ρ x,H)
 | .pick c a b=>match ρ c with| .bool t=>some (if t then ρ a else ρ b,H)|_=>none
 | .alloc e => match E.T e with
   | some ei=>if ei.zero.cells.length=ei.size∧0<ei.size then some (.ptr H.bx.length ei.size 0 0,H.push (match E.tyd e with|true=> .sp e ei.zero.cells|false=> .cells ei.size [ei.zero.cells])) else none
   | none=>none
 | .box _ x=>if 0<(ρ x).cells.length then some (.ptr H.bx.length (ρ x).cells.length 0 0,H.push (.cells (ρ x).cells.length [(ρ x).cells])) else none
 | .build t ps=>(Zav E t (ps.toList.map fun p=>(p.1,ρ p.2))).map (·,H)
 | .buildSlice t n ps => match Z1 E t n (ps.toList.map fun p => (p.1, ρ p.2)) with
   | some (es, el) => if own then some (.own H.bx.length es 0 n, H.push (.cells es el))
     else match Yo el with|some el'=>some (.sl .full es el',H)|none=>none
   | none=>none
 | .load t a=>(ZZ E t (ρ a) H).map (·,H)
 | .store t a v => match E.T t with
   | some ti=>if(ρ v).cells.length=ti.size∧0<ti.size∧(ρ v).cells.all ZL=true then(H.wr (ρ a) (ρ v).cells).map (.undef, ·) else none
   | none=>none
 | .nilCheck x => match ρ x with
   | .ptr a b c d=>some (.ptr a b c d,H)
   | .fptr a b=>some (.fptr a b,H)
   | .fn f c=>some (.fn f c,H)
   | _=>none
 | .binOp op t x y _=>(Zoo E op t y (ρ x) (ρ y)).map (·,H)
 | .unOp op _ x=>(aUn op (ρ x)).map (·,H)
 | .convert s d x=>(Zdb E s d (ρ x)).map (·,H)
 | .makeFunc (.func f) fi ca=>if fi.isEmpty then some (.fn f (ca.toList.map ρ),H) else none
 | .makeMap _ none=>some (.map H.bx.length,H.push (.map []))
 | .makeSlice t l c=>if own then Xn E t (ρ l) (ρ c) H else none
 | .slice t x lo hi mx=>(Yf E t (ρ x) (ZbE ρ lo) (ZbE ρ hi) (ZbE ρ mx)).map (·,H)
 | .fieldAddr t x f=>(U7 E t (ρ x) f).map (·,H)
 | .field t x f=>(ZiY E t (ρ x) f).map (·,H)
 | .indexAddr t x i=>(Zy E t (ρ x) (ρ i)).map (·,H)
 | .index t x i=>(UH E t (ρ x) (ρ i)).map (·,H)
 | .lookup t x i ok=>(Wg E t (ρ x) (ρ i) ok H).map (·,H)
 | .mapUpdate t m k v=>(Yj E t (ρ m) (ρ k) (ρ v) H).map (.undef, ·)
 | .extract x i=>match ρ x with| .tup vs=>(nth vs i).map (·,H)|_=>none
 | .call {callee:= .builtin b,args,argTypes}=>Z9 E own b argTypes.toList (args.toList.map ρ) H
 |_=>none
abbrev TM:=Nat→PV
def Zh (E:Env) (tm:TM):Operand→PV
 | .tmp t=>tm t
 | .const v=>ofConst v
 | .global g=>match E.G g with|some cs=> .fptr cs 0|none=> .undef
 | .func f=> .fn f []
def ZN (tm:TM) (d:Option Tmp) (v:PV):TM:=
 match d with
 |some d=>fun t=>if t=d then v else tm t
 |none=>tm
def one:List PV→PV
 | [v]=>v
 |vs=> .tup vs
abbrev VN:=Nat→Nat→Option Value
structure Gh where
 S:VN
 σ:Nat→Option Nat
 τ:Nat→Option (Nat×Nat×Nat×TypeId)
 κ:Nat→Nat
 mono:Bool
inductive V0 (S:VN):PV→Value→Prop
 |bool (b:Bool):V0 S (.bool b) (.bool b)
 |int (k:IntKind) (n:Int):V0 S (.int k n) (.int k n)
 |str (s:List UInt8) (b:ByteArray) (h:b.data.toList=s):V0 S (.str s) (.string b)
 |nilp:V0 S .nilp (.pointer none)
 |nils:V0 S .nils (.slice none 0 0)
 |nilm:V0 S .nilm (.map none)
 |nilf:V0 S .nilf .nilFunc
 |nili:V0 S .nili .nilIface
 |ifc (t:TypeId) (p:Value):V0 S .ifc (.iface t p)
 |undef (v:Value):V0 S .undef v
 | sl (tl : Tail) (es : Nat) (el : List (List PV)) (a : Addr) (b o cap : Nat) (vals : Nat → Nat → Value) (ha : 0 < el.length → a = ⟨b, o, none⟩)
     (ht:tl= .none∨(tl= .full∧cap=el.length)) (hc:el.length≤cap) (hw:∀i (hi:i<el.length),(el[i]).length=es)
     (hs:∀i j,i<el.length→j<es→S b (o+i*es+j)=some (vals i j))
     (hv:∀i (hi:i<el.length) j (hj:j<(el[i]).length),V0 S ((el[i])[j]) (vals i j)) :
     V0 S (.sl tl es el) (.slice (some a) el.length cap)
 | fptr (cs : List PV) (off b o : Nat) (vals : Nat → Value)
     (hs:∀j,j<cs.length→S b (o+j)=some (vals j))
     (hv:∀j (hj:j<cs.length),V0 S (cs[j]) (vals j)) :
     V0 S (.fptr cs off) (.pointer (some ⟨b,o+off,none⟩))
 | agg (cs : List PV) (vs : Array Value) (hl : vs.size = cs.length) (hv : ∀i (hi : i < cs.length), V0 S (cs[i]) (vs[i]'(by omega))) :
     V0 S (.agg cs) (.agg vs)
 | tup (cs : List PV) (vs : Array Value) (hl : vs.size = cs.length) (hv : ∀i (hi : i < cs.length), V0 S (cs[i]) (vs[i]'(by omega))) :
     V0 S (.tup cs) (.tuple vs)
 | fn (f : FuncId) (cs : List PV) (vs : Array Value) (hl : vs.size = cs.length) (hv : ∀i (hi : i < cs.length), V0 S (cs[i]) (vs[i]'(by omega))) :
     V0 S (.fn f cs) (.func (.func f) #[] vs)
inductive V (g:Gh):PV→Value→Prop
 |pure (p:PV) (v:Value) (h:V0 g.S p v):V g p v
 |ptr (id es ix off b:Nat) (h:g.σ id=some b):V g (.ptr id es ix off) (.pointer (some ⟨b,ix*es+off,none⟩))
 | own (id es ix len b cap : Nat) (a : Addr) (h : g.σ id = some b) (hc : len ≤ cap) (ha : 0 < len ∨ ix = 0 → a = ⟨b, ix * es, none⟩) (hsp : a.spot = none) (hk : (ix + cap) * es ≤ g.κ id ∧ cap ≤ 9223372036854775807) :
     V g (.own id es ix len) (.slice (some a) len cap)
 |map (id b:Nat) (h:g.σ id=some b):V g (.map id) (.map (some b))
 | tok (t : Nat) (es : Nat) (el : List (List PV)) (b o cap : Nat) (h : V0 g.S (.sl .none es el) (.slice (some ⟨b, o, none⟩) el.length cap))
     (T:TypeId) (hT:Zbg T el=true) (ht:(el.length=0∧cap=0)∨g.τ t=some (b,o+el.length*es,(o+cap*es,T))) :
     V g (.sl (.tok t) es el) (.slice (some ⟨b,o,none⟩) el.length cap)
 | agg (cs : List PV) (vs : Array Value) (hl : vs.size = cs.length) (hv : ∀i (hi : i < cs.length), V g (cs[i]) (vs[i]'(by omega))) :
     V g (.agg cs) (.agg vs)
 | tup (cs : List PV) (vs : Array Value) (hl : vs.size = cs.length) (hv : ∀i (hi : i < cs.length), V g (cs[i]) (vs[i]'(by omega))) :
     V g (.tup cs) (.tuple vs)
 | fn (f : FuncId) (cs : List PV) (vs : Array Value) (hl : vs.size = cs.length) (hv : ∀i (hi : i < cs.length), V g (cs[i]) (vs[i]'(by omega))) :
     V g (.fn f cs) (.func (.func f) #[] vs)
structure Gh.Le (g g':Gh):Prop where
 S:∀b o v,g.S b o=some v→g'.S b o=some v
 σ:∀i b,g.σ i=some b→g'.σ i=some b
 τ:∀t x,g.τ t=some x→g'.τ t=some x
 κ:∀i b,g.σ i=some b→g'.κ i=g.κ i
 mono:g'.mono=g.mono
theorem Gh.Le.refl (g:Gh):g.Le g:=⟨fun _ _ _ h=>h,fun _ _ h=>h,fun _ _ h=>h,fun _ _ _=>rfl,rfl⟩
theorem Gh.Le.trans {a b c:Gh} (h:a.Le b) (h':b.Le c):a.Le c:=
 ⟨fun _ _ _ x=>h'.S _ _ _ (h.S _ _ _ x),fun _ _ x=>h'.σ _ _ (h.σ _ _ x),fun _ _ x=>h'.τ _ _ (h.τ _ _ x),fun _ _ x=>(h'.κ _ _ (h.σ _ _ x)).trans (h.κ _ _ x),h'.mono.trans h.mono⟩
theorem V0.mono {S S':VN} (h:∀b o v,S b o=some v→S' b o=some v) {v:Value} (x:V0 S p v):V0 S' p v:=by
 induction x with
 |bool b=>exact .bool b
 |int k n=>exact .int k n
 |str s b e=>exact .str s b e
 |nilp=>exact .nilp
 |nils=>exact .nils
 |nilm=>exact .nilm
 |nilf=>exact .nilf
 |nili=>exact .nili
 |ifc t p=>exact .ifc t p
 |undef v=>exact .undef v
 |sl tl es el a b o cap vals ha ht hc hw hs hv ih=>exact .sl tl es el a b o cap vals ha ht hc hw (fun i j hi hj=>h _ _ _ (hs i j hi hj)) ih
 |fptr cs off b o vals hs hv ih=>exact .fptr cs off b o vals (fun j hj=>h _ _ _ (hs j hj)) ih
 |agg cs vs hl hv ih=>exact .agg cs vs hl ih
 |tup cs vs hl hv ih=>exact .tup cs vs hl ih
 |fn f cs vs hl hv ih=>exact .fn f cs vs hl ih
theorem V.mono {g g':Gh} (h:g.Le g') {p:PV} {v:Value} (x:V g p v):V g' p v:=by
 induction x with
 |pure p v x=>exact .pure p v (x.mono h.S)
 |ptr id es ix off b e=>exact .ptr id es ix off b (h.σ _ _ e)
 |own id es ix len b cap a e hc ha hsp hk=>exact .own id es ix len b cap a (h.σ _ _ e) hc ha hsp ⟨by rw[h.κ _ _ e];exact hk.1,hk.2⟩
 |map id b e=>exact .map id b (h.σ _ _ e)
 |tok t es el b o cap e T hT ht=>exact .tok t es el b o cap (e.mono h.S) T hT (ht.imp id (h.τ _ _))
 |agg cs vs hl hv ih=>exact .agg cs vs hl ih
 |tup cs vs hl hv ih=>exact .tup cs vs hl ih
 |fn f cs vs hl hv ih=>exact .fn f cs vs hl ih
section inv
variable {g:Gh} {S:VN} {v:Value}
theorem V.bool_inv {b:Bool} (h:V g (.bool b) v):v= .bool b:=by cases h with|pure _ _ h=>cases h;rfl
theorem V.int_inv {n:Int} (h:V g (.int k n) v):v= .int k n:=by cases h with|pure _ _ h=>cases h;rfl
theorem V.str_inv {s:List UInt8} (h:V g (.str s) v):∃b:ByteArray,v= .string b∧b.data.toList=s:=by cases h with|pure _ _ h=>cases h with|str _ b e=>exact⟨b,rfl,e⟩
theorem V.nilp_inv (h:V g .nilp v):v= .pointer none:=by cases h with|pure _ _ h=>cases h;rfl
theorem V.nils_inv (h:V g .nils v):v= .slice none 0 0:=by cases h with|pure _ _ h=>cases h;rfl
theorem V.nilm_inv (h:V g .nilm v):v= .map none:=by cases h with|pure _ _ h=>cases h;rfl
theorem V.nilf_inv (h:V g .nilf v):v= .nilFunc:=by cases h with|pure _ _ h=>cases h;rfl
theorem V.nili_inv (h:V g .nili v):v= .nilIface:=by cases h with|pure _ _ h=>cases h;rfl
theorem V.ifc_inv (h:V g .ifc v):∃t p,v= .iface t p:=by cases h with|pure _ _ h=>cases h;exact⟨_,_,rfl⟩
theorem V.ptr_inv {id:Nat} (h:V g (.ptr id es ix off) v):∃b,g.σ id=some b∧v= .pointer (some ⟨b,ix*es+off,none⟩):=by
 cases h with
 |pure _ _ h=>cases h
 |ptr _ _ _ _ b e=>exact⟨b,e,rfl⟩
theorem V.map_inv {id:Nat} (h:V g (.map id) v):∃b,g.σ id=some b∧v= .map (some b):=by
 cases h with
 |pure _ _ h=>cases h
 |map _ b e=>exact⟨b,e,rfl⟩
theorem V.own_inv {id:Nat} (h:V g (.own id es ix len) v):∃b cap a,g.σ id=some b∧len≤cap∧(0<len∨ix=0→a=⟨b,ix*es,none⟩)∧a.spot=none∧v= .slice (some a) len cap:=by
 cases h with
 |pure _ _ h=>cases h
 |own _ _ _ _ b cap a e hc ha hsp _=>exact⟨b,cap,a,e,hc,ha,hsp,rfl⟩
theorem V.own_inv2 {id:Nat} (h:V g (.own id es ix len) v):∃b cap a,g.σ id=some b∧len≤cap∧(0<len∨ix=0→a=⟨b,ix*es,none⟩)∧a.spot=none∧((ix+cap)*es≤g.κ id∧cap≤9223372036854775807)∧v= .slice (some a) len cap:=by
 cases h with
 |pure _ _ h=>cases h
 |own _ _ _ _ b cap a e hc ha hsp hk=>exact⟨b,cap,a,e,hc,ha,hsp,hk,rfl⟩
theorem V.fptr_inv (h:V g (.fptr cs off) v):∃b o,∃vals:Nat→Value,(∀j,j<cs.length→g.S b (o+j)=some (vals j))∧(∀j (hj:j<cs.length),V0 g.S (cs[j]) (vals j))∧v= .pointer (some ⟨b,o+off,none⟩):=by cases h with|pure _ _ h=>cases h with|fptr _ _ b o vals hs hv=>exact⟨b,o,vals,hs,hv,rfl⟩
theorem V0.sl_none (h:V0 S (.sl tl es el) v):V0 S (.sl .none es el) v:=by cases h with|sl _ _ _ a b o cap vals ha ht hc hw hs hv=>exact .sl .none es el a b o cap vals ha (.inl rfl) hc hw hs hv
def ZcK (g:Gh) (tl:Tail) (es:Nat) (L:List (List PV)) (b o cap:Nat):Prop:=match tl with
 | .none=>True
 | .full=>cap=L.length
 | .tok t=>∃T,Zbg T L=true∧((L.length=0∧cap=0)∨g.τ t=some (b,o+L.length*es,(o+cap*es,T)))
theorem V.sl_inv (h : V g (.sl tl es el) v) :
  ∃b o cap,∃vals:Nat→Nat→Value,∃a:Addr,v= .slice (some a) el.length cap∧el.length≤cap∧(∀i (hi:i<el.length),(el[i]).length=es)∧
   (∀i j,i<el.length→j<es→g.S b (o+i*es+j)=some (vals i j))∧
   (∀i (hi:i<el.length) j (hj:j<(el[i]).length),V0 g.S ((el[i])[j]) (vals i j))∧
   ZcK g tl es el b o cap∧((0<el.length∨∃t,tl= .tok t)→a=⟨b,o,none⟩):=by
 cases h with
 | pure _ _ h => cases h with
   | sl _ _ _ a b o cap vals ha ht hc hw hs hv =>
     refine⟨b,o,cap,vals,a,rfl,hc,hw,hs,hv,?_,fun h=>?_⟩
     · rcases ht with rfl | ⟨rfl, e⟩
       · trivial
       · exact e
     · rcases h with h | ⟨t, h⟩
       · exact ha h
       · subst h;rcases ht with h|⟨h,_⟩<;>cases h
 | tok t _ _ b o cap h T hT ht => cases h with
   | sl _ _ _ _ b' o' _ vals ha ht' hc hw hs hv =>
     by_cases h0:0<el.length
     · have := ha h0
       cases this
       exact⟨b,o,cap,vals,_,rfl,hc,hw,hs,hv,⟨T,hT,ht⟩,fun _=>rfl⟩
     · exact⟨b,o,cap,vals,_,rfl,hc,fun i hi=>absurd hi (by omega),fun i j hi=>absurd hi (by omega),fun i hi=>absurd hi (by omega),⟨T,hT,ht⟩,fun _=>rfl⟩
theorem V.sl_mk {cap:Nat} (vals:Nat→Nat→Value) (hn:n=el.length) (hc:el.length≤cap) (hw:∀i (hi:i<el.length),(el[i]).length=es) (hs:∀i j,i<el.length→j<es→g.S b (o+i*es+j)=some (vals i j)) (hv:∀i (hi:i<el.length) j (hj:j<(el[i]).length),V0 g.S ((el[i])[j]) (vals i j)) (ht:ZcK g tl es el b o cap):V g (.sl tl es el) (.slice (some ⟨b,o,none⟩) n cap):=by
 subst hn;cases tl with
 |none=>exact .pure _ _ (.sl .none es el _ b o cap vals (fun _=>rfl) (.inl rfl) hc hw hs hv)
 |full=>exact .pure _ _ (.sl .full es el _ b o cap vals (fun _=>rfl) (.inr ⟨rfl,ht⟩) hc hw hs hv)
 |tok t=>obtain⟨T,hT,ht⟩:=ht;exact .tok t es el b o cap (.sl .none es el _ b o cap vals (fun _=>rfl) (.inl rfl) hc hw hs hv) T hT ht
theorem V.agg_inv (h:V g (.agg cs) v):∃vs:Array Value,∃hl:vs.size=cs.length,v= .agg vs∧∀i (hi:i<cs.length),V g (cs[i]) (vs[i]'(by omega)):=by
 cases h with
 |pure _ _ h=>cases h with|agg _ vs hl hv=>exact⟨vs,hl,rfl,fun i hi=> .pure _ _ (hv i hi)⟩
 |agg _ vs hl hv=>exact⟨vs,hl,rfl,hv⟩
theorem V.tup_inv (h:V g (.tup cs) v):∃vs:Array Value,∃hl:vs.size=cs.length,v= .tuple vs∧∀i (hi:i<cs.length),V g (cs[i]) (vs[i]'(by omega)):=by
 cases h with
 |pure _ _ h=>cases h with|tup _ vs hl hv=>exact⟨vs,hl,rfl,fun i hi=> .pure _ _ (hv i hi)⟩
 |tup _ vs hl hv=>exact⟨vs,hl,rfl,hv⟩
theorem V.fn_inv {f:FuncId} (h:V g (.fn f cs) v):∃vs:Array Value,∃hl:vs.size=cs.length,v= .func (.func f) #[] vs∧∀i (hi:i<cs.length),V g (cs[i]) (vs[i]'(by omega)):=by
 cases h with
 |pure _ _ h=>cases h with|fn _ _ vs hl hv=>exact⟨vs,hl,rfl,fun i hi=> .pure _ _ (hv i hi)⟩
 |fn _ _ vs hl hv=>exact⟨vs,hl,rfl,hv⟩
end inv
def VL (g:Gh) (cs:List PV) (vs:List Value):Prop:=vs.length=cs.length∧∀(i:Nat) (hi:i<cs.length) (hj:i<vs.length),V g (cs[i]) (vs[i])
theorem V.cells {g:Gh} {p:PV} {v:Value} (h:V g p v) (hp:0<p.cells.length):VL g p.cells v.cells.toList:=by
 have one:∀{p:PV} {v:Value},V g p v→p.cells= [p]→v.cells= #[v]→VL g p.cells v.cells.toList:=by
  intro p v h e1 e2;rw[e1,e2];refine⟨rfl,fun i hi hj=>?_⟩;obtain rfl:i=0:=by simp at hi;omega
  simpa using h
 have agg:∀{cs:List PV} {vs:Array Value} (hl:vs.size=cs.length),(∀i (hi:i<cs.length),V g (cs[i]) (vs[i]'(by omega)))→VL g cs vs.toList:=fun hl hv=>⟨by simpa using hl,fun i hi hj=>by simpa using hv i hi⟩;have h':=h;cases h with
 |pure _ _ h0=>
  cases h0 with
  | agg cs vs hl hv=>exact agg hl fun i hi=> .pure _ _ (hv i hi)
  | undef v=>simp[PV.cells]at hp
  | _=>exact one h' rfl rfl
 |agg cs vs hl hv=>exact agg hl hv
 |_=>exact one h' rfl rfl
def Box.alive:Box→Prop
 | .dead=>False
 |_=>True
def Heap.liveAt (H:Heap) (id:Nat):Prop:=∃b,H.bx[id]? = some b∧b.alive
structure Inv (g:Gh) (H:Heap) (w:World):Prop where
 st:∀b o v,g.S b o=some v→w.cell? ⟨b,o,none⟩=some v
 bx:∀id es el,H.bx[id]? = some (.cells es el)→∃b c T,g.σ id=some b∧w.heap[b]? = some (.cells c T (0,0))∧
  (∀i (hi:i<el.length),(el[i]).length=es)∧el.length*es≤c.size∧
  (∀i (hi:i<el.length) j (hj:j<(el[i]).length),∃v,c[i*es+j]? = some v∧V g ((el[i])[j]) v)∧∀o,g.S b o=none
 mp:∀id es,H.bx[id]? = some (.map es)→∃b ents clk,g.σ id=some b∧w.heap[b]? = some (.map ents clk)∧ents.size=es.length∧
  (∀i (hi:i<es.length),∃e,ents[i]? = some e∧V g (es[i]).1 e.key∧V g (es[i]).2 e.val)∧∀o,g.S b o=none
 sp:∀id T cs,H.bx[id]? = some (.sp T cs)→∃b c,g.σ id=some b∧w.heap[b]? = some (.cells c T (0,0))∧c.size=cs.length∧
  (∀j (hj:j<cs.length),∃v,c[j]? = some v∧V g (cs[j]) v)∧∀o,g.S b o=none
 inj:∀i j b,H.liveAt i→H.liveAt j→g.σ i=some b→g.σ j=some b→i=j
 sd:∀id,H.bx.length≤id→g.σ id=none
 td:∀t,H.nt≤t→g.τ t=none
 tk:∀t b lo hi,t∈H.live→g.τ t=some (b,lo,hi)→(∃c T,w.heap[b]? = some (.cells c T (0,0))∧(hi.1≤c.size∧T=hi.2))∧
  (∀o,lo≤o→g.S b o=none)∧∀id,H.liveAt id→g.σ id≠some b
 tinj:∀t t' b lo hi lo' hi',t∈H.live→t'∈H.live→g.τ t=some (b,lo,hi)→g.τ t'=some (b,lo',hi')→t=t'
 nd:H.live.Nodup
 lt:∀t,t∈H.live→t<H.nt
 sz:∀id b,g.σ id=some b→b<w.heap.size
 ro:H.ro≤H.bx.length
 rm:∀id b c T m,H.liveAt id→g.σ id=some b→w.heap[b]? = some (.cells c T m)→g.κ id≤c.size
def Shut (g:Gh) (H:Heap) (b:Nat):Prop:=
 (∀id,H.ro≤id→H.liveAt id→g.σ id≠some b)∧∀t lo hi,t∈H.live→g.τ t≠some (b,lo,hi)
def SameOut (g:Gh) (w w':World):Prop:=w'.os=w.os∧w'.output=w.output∧w'.tape=w.tape∧(g.mono=true→w.drawn≤w'.drawn)
theorem SameOut.rfls {g:Gh} {w:World} (h1:w'.os=w.os:=by rfl) (h2:w'.output=w.output:=by rfl) (h3:w'.tape=w.tape:=by rfl) (h4:w.drawn≤w'.drawn:=by first|exact Nat.le_refl _|exact Nat.le_succ _|(simp;done)):SameOut g w w':=
 ⟨h1,h2,h3,fun _=>h4⟩
theorem SameOut.trans {g g':Gh} {w w' w'':World} (h:SameOut g w w') (h':SameOut g' w' w'') (e:g'.mono=g.mono):SameOut g w w'':=
 ⟨h'.1.trans h.1,h'.2.1.trans h.2.1,h'.2.2.1.trans h.2.2.1,fun m=>Nat.le_trans (h.2.2.2 m) (h'.2.2.2 (e.trans m))⟩
structure KeepN (N:Nat) (g:Gh) (H:Heap) (w:World) (g':Gh) (H':Heap) (w':World):Prop where
 le:g.Le g'
 heap:∀b,b<w.heap.size→Shut g H b→w'.heap[b]? = w.heap[b]?
 store:∀b,b<w.heap.size→Shut g H b→∀o,g'.S b o=g.S b o
 size:w.heap.size≤w'.heap.size
 new:∀id b,g.σ id=none→g'.σ id=some b→w.heap.size≤b∨∃id',H.ro≤id'∧H.liveAt id'∧g.σ id'=some b
 tnew:∀t b lo hi,g.τ t=none→g'.τ t=some (b,lo,hi)→w.heap.size≤b∨∃t' lo' hi',t'∈H.live∧g.τ t'=some (b,lo',hi')
 ro:H'.ro=H.ro
 bxl:H.bx.length≤H'.bx.length
 bx:∀id,id<H.ro→H'.bx[id]? = H.bx[id]?
 nt:H.nt≤H'.nt
 lv:∀t,t∈H'.live→t∈H.live∨H.nt≤t
 al:∀id b,g.σ id=some b→H'.liveAt id→H.liveAt id
 ns:∀id,id<N→g.σ id=none→g'.σ id=none
 so:SameOut g w w'
abbrev Keep (g:Gh) (H:Heap) (w:World) (g':Gh) (H':Heap) (w':World):Prop:=KeepN H.bx.length g H w g' H' w'
theorem KeepN.refl (N:Nat) (g:Gh) (H:Heap) (w:World):KeepN N g H w g H w where
 le:= .refl g
 heap _ _ _:=rfl
 store _ _ _ _:=rfl
 size:=Nat.le_refl _
 new id b h h':=by rw[h]at h';cases h'
 tnew t b lo hi h h':=by rw[h]at h';cases h'
 ro:=rfl
 bxl:=Nat.le_refl _
 bx _ _:=rfl
 nt:=Nat.le_refl _
 lv t h:= .inl h
 al _ _ _ h:=h
 ns _ _ h:=h
 so:= .rfls
theorem Keep.refl (g:Gh) (H:Heap) (w:World):Keep g H w g H w:=KeepN.refl _ g H w
theorem KeepN.shut {g g':Gh} {H H':Heap} {w:World} (hi:Inv g H w) (k:KeepN N g H w g' H' w') (hb:b<w.heap.size) (h:Shut g H b):Shut g' H' b:=by
 refine⟨fun id hro hl hs=>?_,fun t lo hi' ht hs=>?_⟩
 ·cases e:g.σ id with
  | none=>rcases k.new id b e hs with h1|⟨id',h1,h2,h3⟩;{omega};{exact h.1 id' h1 h2 h3}
  | some b'=>have:=k.le.σ _ _ e;rw[hs]at this;cases this;exact h.1 id (k.ro ▸ hro) (k.al _ _ e hl) e
 ·cases e:g.τ t with
  | none=>rcases k.tnew t b lo hi' e hs with h1|⟨t',lo',hi2,h1,h2⟩;{omega};{exact h.2 t' lo' hi2 h1 h2}
  | some x=>have:=k.le.τ _ _ e;rw[hs]at this;cases this;rcases k.lv t ht with h1|h1;{exact h.2 t lo hi' h1 e};{rw[hi.td t h1]at e;cases e}
theorem KeepN.trans {N N' : Nat} {g₁ g₂ g₃ : Gh} {H₁ H₂ H₃ : Heap} {w₁ w₂ w₃ : World} (hi : Inv g₁ H₁ w₁) (k : KeepN N g₁ H₁ w₁ g₂ H₂ w₂) (k' : KeepN N' g₂ H₂ w₂ g₃ H₃ w₃) (hN : N ≤ N') :
  KeepN N g₁ H₁ w₁ g₃ H₃ w₃ where
 le:=k.le.trans k'.le
 heap b hb h:=(k'.heap b (Nat.lt_of_lt_of_le hb k.size) (k.shut hi hb h)).trans (k.heap b hb h)
 store b hb h o:=(k'.store b (Nat.lt_of_lt_of_le hb k.size) (k.shut hi hb h) o).trans (k.store b hb h o)
 size:=Nat.le_trans k.size k'.size
 new id b h h':=by
  cases e:g₂.σ id with
  | none =>
    rcases k'.new id b e h' with h1|⟨id',h1,h2,h3⟩
    · exact .inl (Nat.le_trans k.size h1)
    · cases e' : g₁.σ id' with
      | none=>exact k.new id' b e' h3
      | some x =>
        have:=k.le.σ _ _ e'
        rw[h3]at this
        cases this
        exact .inr ⟨id',k.ro ▸ h1,k.al _ _ e' h2,e'⟩
  | some b' =>
    have:=k'.le.σ _ _ e
    rw[h']at this
    cases this
    exact k.new id b h e
 tnew t b lo hi' h h':=by
  cases e:g₂.τ t with
  | none =>
    rcases k'.tnew t b lo hi' e h' with h1|⟨t',lo',hi2,h1,h2⟩
    · exact .inl (Nat.le_trans k.size h1)
    · cases e' : g₁.τ t' with
      | none=>exact k.tnew t' b lo' hi2 e' h2
      | some x =>
        have:=k.le.τ _ _ e'
        rw[h2]at this
        cases this
        rcases k.lv t' h1 with h3|h3
        · exact .inr ⟨t',lo',hi2,h3,e'⟩
        · rw[hi.td t' h3]at e';cases e'
  | some x =>
    have:=k'.le.τ _ _ e
    rw[h']at this
    cases this
    exact k.tnew t b lo hi' h e
 ro:=k'.ro.trans k.ro
 bxl:=Nat.le_trans k.bxl k'.bxl
 bx id h:=(k'.bx id (k.ro ▸ h)).trans (k.bx id h)
 nt:=Nat.le_trans k.nt k'.nt
 lv t h:=by
  rcases k'.lv t h with h1|h1
  · exact k.lv t h1
  · exact .inr (Nat.le_trans k.nt h1)
 al id b h h':=k.al id b h (k'.al id b (k.le.σ _ _ h) h')
 ns id h h':=k'.ns id (Nat.lt_of_lt_of_le h hN) (k.ns id h h')
 so:=k.so.trans k'.so k.le.mono
theorem KeepN.then {g₁ g₂ g₃:Gh} {H₁ H₂ H₃:Heap} {w₁ w₂ w₃:World} (k:Keep g₁ H₁ w₁ g₂ H₂ w₂) (hi:Inv g₁ H₁ w₁) (k':Keep g₂ H₂ w₂ g₃ H₃ w₃):Keep g₁ H₁ w₁ g₃ H₃ w₃:=
 KeepN.trans hi k k' k.bxl
theorem Inv.S_lt {g:Gh} {H:Heap} {w:World} (hi:Inv g H w) {v:Value} (h:g.S b o=some v):b<w.heap.size:=by have:=hi.st _ _ _ h;rcases Nat.lt_or_ge b w.heap.size with h'|h';{exact h'};{simp[World.cell?,Array.getElem?_eq_none h']at this}
theorem Inv.S_new {g:Gh} {H:Heap} {w:World} (hi:Inv g H w) (h:w.heap.size≤b):g.S b o=none:=by
 cases e:g.S b o with
 |none=>rfl
 |some v=>have:=hi.S_lt e;omega
theorem cell_of_heap {w:World} (h:w'.heap[b]? = w.heap[b]?) (o:Nat):w'.cell? ⟨b,o,none⟩=w.cell? ⟨b,o,none⟩:=by simp[World.cell?,h]
theorem Inv.same {g:Gh} {H:Heap} {w:World} (hi:Inv g H w) (h:w'.heap=w.heap):Inv g H w' where
 st b o v hs:=by rw[cell_of_heap (w:=w) (by rw[h])];exact hi.st b o v hs
 bx id es el hb:=by rw[h];exact hi.bx id es el hb
 mp id es hb:=by rw[h];exact hi.mp id es hb
 sp id T cs hb:=by rw[h];exact hi.sp id T cs hb
 inj:=hi.inj
 sd:=hi.sd
 td:=hi.td
 tk t b lo hi' h1 h2:=by rw[h];exact hi.tk t b lo hi' h1 h2
 tinj:=hi.tinj
 nd:=hi.nd
 lt:=hi.lt
 sz id b h1:=by rw[h];exact hi.sz id b h1
 ro:=hi.ro
 rm id b c T m h1 h2 h3:=hi.rm id b c T m h1 h2 (by rw[← h];exact h3)
theorem KeepN.same {g:Gh} {H:Heap} {w:World} (h:w'.heap=w.heap) (hso:SameOut g w w':=by exact .rfls):KeepN N g H w g H w' where
 le:= .refl g
 heap b _ _:=by rw[h]
 store _ _ _ _:=rfl
 size:=by rw[h];exact Nat.le_refl _
 new id b h h':=by rw[h]at h';cases h'
 tnew t b lo hi h h':=by rw[h]at h';cases h'
 ro:=rfl
 bxl:=Nat.le_refl _
 bx _ _:=rfl
 nt:=Nat.le_refl _
 lv t h:= .inl h
 al _ _ _ h:=h
 ns _ _ h:=h
 so:=hso
def Gh.addS (g:Gh) (n:Nat) (s:Nat→Option Value):Gh:={g with S:=fun b o=>if b=n then s o else g.S b o}
theorem Gh.addS_le {g:Gh} {s:Nat→Option Value} (h:∀o,g.S n o=none):g.Le (g.addS n s) where
 S b o v hs:=by
  simp only[Gh.addS]
  split
  · rename_i e;subst e;rw[h]at hs;cases hs
  · exact hs
 σ _ _ h:=h
 τ _ _ h:=h
 κ _ _ _:=rfl
 mono:=rfl
theorem Zq (w:World) (o:Obj) (h:b<w.heap.size):(w.alloc o).heap[b]? = w.heap[b]? :=by show(w.heap.push o)[b]? = _;simp[Array.getElem?_push,Nat.ne_of_lt h]
theorem Z5 (w:World) (o:Obj):(w.alloc o).heap[w.heap.size]? = some o:=by show(w.heap.push o)[w.heap.size]? = _;simp
theorem UY (w:World) (o:Obj) (h:w.heap.size<b):(w.alloc o).heap[b]? = none:=by show(w.heap.push o)[b]? = _;simp;omega
def ZnP:Obj→Prop
 | .cells _ _ fz=>fz=(0,0)
 |_=>True
theorem Zdy {g:Gh} {H:Heap} {w:World} (hi:Inv g H w) (ob:Obj) (s:Nat→Option Value) (hs:∀o v,s o=some v→(w.alloc ob).cell? ⟨w.heap.size,o,none⟩=some v) (_hz:ZnP ob):Inv (g.addS w.heap.size s) H (w.alloc ob)∧Keep g H w (g.addS w.heap.size s) H (w.alloc ob):=by
 have hn:∀o,g.S w.heap.size o=none:=fun o=>hi.S_new (Nat.le_refl _);have hle:=Gh.addS_le (s:=s) hn;have hne:∀b o,b≠w.heap.size→(g.addS w.heap.size s).S b o=g.S b o:=fun b o h=>by simp[Gh.addS,h]
 refine⟨⟨?_,?_,?_,?_,hi.inj,hi.sd,hi.td,?_,hi.tinj,hi.nd,hi.lt,?_,?_,fun id b c T m h1 h2 h3=>hi.rm id b c T m h1 h2 (by rw[← Zq w ob (hi.sz _ _ h2)];exact h3)⟩,⟨hle,?_,?_,?_,?_,?_,rfl,Nat.le_refl _,fun _ _=>rfl,Nat.le_refl _,fun _ h=> .inl h,fun _ _ _ h=>h,fun _ _ h=>h,.rfls⟩⟩;{intro b o v h;by_cases e:b=w.heap.size;{subst e;exact hs o v (by simpa[Gh.addS] using h)};{rw[hne b o e]at h;rw[cell_of_heap (Zq w ob (hi.S_lt h))];exact hi.st _ _ _ h}};{intro id es el h;obtain⟨b,c,T,h1,h2,h3,h4,h5,h6⟩:=hi.bx id es el h;have hb:=hi.sz _ _ h1;exact⟨b,c,T,h1,by rw[Zq w ob hb];exact h2,h3,h4,fun i hi' j hj=>let ⟨v,e,x⟩:=h5 i hi' j hj;⟨v,e,x.mono hle⟩,fun o=>by rw[hne b o (by omega)];exact h6 o⟩};{intro id es h;obtain⟨b,c,T,h1,h2,h3,h4,h5⟩:=hi.mp id es h;have hb:=hi.sz _ _ h1;exact⟨b,c,T,h1,by rw[Zq w ob hb];exact h2,h3,fun i hi'=>let ⟨e,a,x,y⟩:=h4 i hi';⟨e,a,x.mono hle,y.mono hle⟩,fun o=>by rw[hne b o (by omega)];exact h5 o⟩};{intro id T cs h;obtain⟨b,c,h1,h2,h3,h4,h5⟩:=hi.sp id T cs h;have hb:=hi.sz _ _ h1;exact⟨b,c,h1,by rw[Zq w ob hb];exact h2,h3,fun j hj=>let ⟨v,e,x⟩:=h4 j hj;⟨v,e,x.mono hle⟩,fun o=>by rw[hne b o (by omega)];exact h5 o⟩}
 ·intro t b lo hi' h1 h2;obtain⟨⟨c,T,h3,h4⟩,h5,h6⟩:=hi.tk t b lo hi' h1 h2;have hb:b<w.heap.size:=by rcases Nat.lt_or_ge b w.heap.size with h|h;{exact h};{simp[Array.getElem?_eq_none h]at h3}
  exact⟨⟨c,T,by rw[Zq w ob hb];exact h3,h4⟩,fun o ho=>by rw[hne b o (by omega)];exact h5 o ho,h6⟩
 {intro id b h;have:=hi.sz _ _ h;rw[World.size_alloc];omega};{exact hi.ro};{intro b hb _;exact Zq w ob hb};{intro b hb _ o;exact hne b o (by omega)};{rw[World.size_alloc];omega};{intro id b h h';rw[show(g.addS w.heap.size s).σ id=g.σ id from rfl,h]at h';cases h'};{intro t b lo hi' h h';rw[show(g.addS w.heap.size s).τ t=g.τ t from rfl,h]at h';cases h'}
def ZeJ (c:Array Value) (k:Nat):Nat→Option Value:=fun o=>if o<k then c[o]? else none
theorem ZjE {g : Gh} {H : Heap} {w : World} (hi : Inv g H w) (c : Array Value) (T : TypeId) (k : Nat) :
  Inv (g.addS w.heap.size (ZeJ c k)) H (w.alloc (.cells c T))∧Keep g H w (g.addS w.heap.size (ZeJ c k)) H (w.alloc (.cells c T)):=
 Zdy hi _ _ (fun o v h=>by
  simp only[ZeJ]at h
  split at h
  · rw[World.cell?_alloc_new];exact h
  · cases h) rfl
def Gh.link (g:Gh) (id b:Nat) (K:Nat:=0):Gh:={g with σ:=fun i=>if i=id then some b else g.σ i,κ:=fun i=>if i=id then K else g.κ i}
theorem YP {H:Heap} {b:Box} (h:(H.push b).liveAt i):(i<H.bx.length∧H.liveAt i)∨i=H.bx.length:=by
 obtain⟨x,hx,ha⟩:=h;simp only[Heap.push]at hx;rcases Nat.lt_trichotomy i H.bx.length with h|h|h;{exact .inl ⟨h,x,by rwa [List.getElem?_append_left h]at hx,ha⟩};{exact .inr h}
 ·simp[List.getElem?_append_right (Nat.le_of_lt h)]at hx;have:i-H.bx.length≠0:=by omega
  simp[this]at hx
theorem QB {H:Heap} {b:Box} (h:i<H.bx.length):(H.push b).bx[i]? = H.bx[i]? :=by simp[Heap.push,List.getElem?_append_left h]
theorem Zce {H:Heap} {b:Box}:(H.push b).bx[H.bx.length]? = some b:=by simp[Heap.push]
theorem Vv {g:Gh} {H:Heap} {w:World} (hi:Inv g H w) (ob:Obj) (bo:Box) (_hz:ZnP ob) (hc:∀es el,bo= .cells es el→∃c T,ob= .cells c T (0,0)∧(∀i (hi:i<el.length),(el[i]).length=es)∧el.length*es≤c.size∧∀i (hi:i<el.length) j (hj:j<(el[i]).length),∃v,c[i*es+j]? = some v∧V g ((el[i])[j]) v) (hm:∀es,bo= .map es→∃ents clk,ob= .map ents clk∧ents.size=es.length∧∀i (hi:i<es.length),∃e,ents[i]? = some e∧V g (es[i]).1 e.key∧V g (es[i]).2 e.val) (K:Nat:=0) (hK:∀c T m,ob= .cells c T m→K≤c.size:=by intros;exact Nat.zero_le _) (hsp:∀T cs,bo= .sp T cs→∃c,ob= .cells c T (0,0)∧c.size=cs.length∧∀j (hj:j<cs.length),∃v,c[j]? = some v∧V g (cs[j]) v:=by intro T cs h;cases h):Inv (g.link H.bx.length w.heap.size K) (H.push bo) (w.alloc ob)∧Keep g H w (g.link H.bx.length w.heap.size K) (H.push bo) (w.alloc ob):=by
 have hsn:g.σ H.bx.length=none:=hi.sd _ (Nat.le_refl _);have hle:g.Le (g.link H.bx.length w.heap.size K):=⟨fun _ _ _ h=>h,fun i b h=>by
  simp only[Gh.link]
  split
  · rename_i e;subst e;rw[hsn]at h;cases h
  · exact h,fun _ _ h=>h,fun i b h=>by
  simp only[Gh.link]
  rw[if_neg (fun e=>by subst e;rw[hsn]at h;cases h)],rfl⟩
 have hσ:∀i,i<H.bx.length→(g.link H.bx.length w.heap.size K).σ i=g.σ i:=fun i h=>by simp[Gh.link,Nat.ne_of_lt h]
 have hσn:(g.link H.bx.length w.heap.size K).σ H.bx.length=some w.heap.size:=by simp[Gh.link]
 have hlt:∀i b,H.bx[i]? = some b→i<H.bx.length:=fun i b h=>by rcases Nat.lt_or_ge i H.bx.length with h'|h';{exact h'};{simp[List.getElem?_eq_none h']at h}
 refine⟨⟨?_,?_,?_,?_,?_,?_,hi.td,?_,hi.tinj,hi.nd,hi.lt,?_,?_,?_⟩,⟨hle,?_,fun _ _ _ _=>rfl,?_,?_,?_,rfl,?_,?_,Nat.le_refl _,fun _ h=> .inl h,?_,fun i h h'=>(hσ i h).trans h',.rfls⟩⟩;{intro b o v h;rw[cell_of_heap (Zq w ob (hi.S_lt h))];exact hi.st _ _ _ h};{intro id es el h;by_cases e:id<H.bx.length;{rw[QB e]at h;obtain⟨b,c,T,h1,h2,h3,h4,h5,h6⟩:=hi.bx id es el h;exact⟨b,c,T,by rw[hσ id e];exact h1,by rw[Zq w ob (hi.sz _ _ h1)];exact h2,h3,h4,fun i hi' j hj=>let ⟨v,e,x⟩:=h5 i hi' j hj;⟨v,e,x.mono hle⟩,h6⟩};{(have:id=H.bx.length:=by rcases YP ⟨_,h,trivial⟩ with h'|h';{exact absurd h'.1 e};{exact h'});subst this;rw[Zce]at h;obtain⟨c,T,rfl,h3,h4,h5⟩:=hc es el (by simpa using h);exact⟨_,c,T,hσn,Z5 w _,h3,h4,fun i hi' j hj=>let ⟨v,e,x⟩:=h5 i hi' j hj;⟨v,e,x.mono hle⟩,fun o=>hi.S_new (Nat.le_refl _)⟩}};{intro id es h;by_cases e:id<H.bx.length;{rw[QB e]at h;obtain⟨b,c,T,h1,h2,h3,h4,h5⟩:=hi.mp id es h;exact⟨b,c,T,by rw[hσ id e];exact h1,by rw[Zq w ob (hi.sz _ _ h1)];exact h2,h3,fun i hi'=>let ⟨e,a,x,y⟩:=h4 i hi';⟨e,a,x.mono hle,y.mono hle⟩,h5⟩};{(have:id=H.bx.length:=by rcases YP ⟨_,h,trivial⟩ with h'|h';{exact absurd h'.1 e};{exact h'});subst this;rw[Zce]at h;obtain⟨ents,clk,rfl,h3,h4⟩:=hm es (by simpa using h);exact⟨_,ents,clk,hσn,Z5 w _,h3,fun i hi'=>let ⟨e,a,x,y⟩:=h4 i hi';⟨e,a,x.mono hle,y.mono hle⟩,fun o=>hi.S_new (Nat.le_refl _)⟩}};{intro id T cs h;by_cases e:id<H.bx.length;{rw[QB e]at h;obtain⟨b,c,h1,h2,h3,h4,h5⟩:=hi.sp id T cs h;exact⟨b,c,by rw[hσ id e];exact h1,by rw[Zq w ob (hi.sz _ _ h1)];exact h2,h3,fun j hj=>let ⟨v,e,x⟩:=h4 j hj;⟨v,e,x.mono hle⟩,h5⟩};{(have:id=H.bx.length:=by rcases YP ⟨_,h,trivial⟩ with h'|h';{exact absurd h'.1 e};{exact h'});subst this;rw[Zce]at h;obtain⟨c,rfl,h3,h4⟩:=hsp T cs (by simpa using h);exact⟨_,c,hσn,Z5 w _,h3,fun j hj=>let ⟨v,e,x⟩:=h4 j hj;⟨v,e,x.mono hle⟩,fun o=>hi.S_new (Nat.le_refl _)⟩}};{intro i j b h1 h2 h3 h4;rcases YP h1 with⟨l1,h1⟩|rfl<;>rcases YP h2 with⟨l2,h2⟩|rfl;{rw[hσ _ l1]at h3;rw[hσ _ l2]at h4;exact hi.inj i j b h1 h2 h3 h4};{rw[hσ _ l1]at h3;rw[hσn]at h4;cases h4;have:=hi.sz _ _ h3;omega};{rw[hσ _ l2]at h4;rw[hσn]at h3;cases h3;have:=hi.sz _ _ h4;omega};{rfl}};{intro id h;simp only[Heap.push,List.length_append,List.length_singleton]at h;simp only[Gh.link];rw[if_neg (by omega)];exact hi.sd id (by omega)}
 ·intro t b lo hi' h1 h2;obtain⟨⟨c,T,h3,h4⟩,h5,h6⟩:=hi.tk t b lo hi' h1 h2;have hb:b<w.heap.size:=by rcases Nat.lt_or_ge b w.heap.size with h|h;{exact h};{simp[Array.getElem?_eq_none h]at h3}
  refine⟨⟨c,T,by rw[Zq w ob hb];exact h3,h4⟩,h5,fun id hl=>?_⟩;rcases YP hl with⟨l,hl⟩|rfl;{rw[hσ _ l];exact h6 id hl};{rw[hσn];intro e;cases e;omega}
 {intro id b h;by_cases e:id=H.bx.length;{subst e;rw[hσn]at h;cases h;rw[World.size_alloc];omega};{(have:g.σ id=some b:=by simpa[Gh.link,e] using h);have:=hi.sz _ _ this;rw[World.size_alloc];omega}};{simp only[Heap.push,List.length_append];have:=hi.ro;omega};{intro id b c T m h1 h2 h3;rcases YP h1 with⟨l,h1⟩|rfl;{rw[hσ _ l]at h2;rw[Zq w ob (hi.sz _ _ h2)]at h3;simp only[Gh.link];rw[if_neg (by omega)];exact hi.rm id b c T m h1 h2 h3};{rw[hσn]at h2;cases h2;rw[Z5]at h3;simp only[Gh.link,if_true];exact hK c T m (by simpa using h3)}};{intro b hb _;exact Zq w ob hb};{rw[World.size_alloc];omega};{intro id b h h';by_cases e:id=H.bx.length;{subst e;rw[hσn]at h';cases h';exact .inl (Nat.le_refl _)};{(have:g.σ id=some b:=by simpa[Gh.link,e] using h');rw[h]at this;cases this}};{intro t b lo hi' h h';rw[show(g.link H.bx.length w.heap.size K).τ t=g.τ t from rfl,h]at h';cases h'};{simp[Heap.push]};{intro id h;exact QB (Nat.lt_of_lt_of_le h hi.ro)};{intro id b h h';rcases YP h' with⟨_,h'⟩|rfl;{exact h'};{rw[hsn]at h;cases h}}
theorem WA {H:Heap} {b:Box} {id:Nat} (h:({H with bx:=H.bx.set id b}:Heap).liveAt i):(i≠id∧H.liveAt i)∨(i=id∧b.alive∧id<H.bx.length):=by obtain⟨x,hx,ha⟩:=h;by_cases e:i=id;{subst e;by_cases hl:i<H.bx.length;{simp[hl]at hx;subst hx;exact .inr ⟨rfl,ha,hl⟩};{simp[hl]at hx}};{exact .inl ⟨e,x,by simpa[List.getElem?_set,Ne.symm e] using hx,ha⟩}
theorem Uc {g:Gh} {H:Heap} {w:World} (hi:Inv g H w) {id:Nat} {bo old:Box} {ob:Obj} (hro:H.ro≤id) (hid:H.bx[id]? = some old) (hold:old.alive) (hσ:g.σ id=some b) (hS:∀o,g.S b o=none) (ho:∀k,k≠b→w'.heap[k]? = w.heap[k]?) (hsz:w'.heap.size=w.heap.size) (hn:w'.heap[b]? = some ob) (_hfz:∀a,w'.frozen? a=w.frozen? a) (hc:∀es el,bo= .cells es el→∃c T,ob= .cells c T (0,0)∧(∀i (hi:i<el.length),(el[i]).length=es)∧el.length*es≤c.size∧∀i (hi:i<el.length) j (hj:j<(el[i]).length),∃v,c[i*es+j]? = some v∧V g ((el[i])[j]) v) (hm:∀es,bo= .map es→∃ents clk,ob= .map ents clk∧ents.size=es.length∧∀i (hi:i<es.length),∃e,ents[i]? = some e∧V g (es[i]).1 e.key∧V g (es[i]).2 e.val) (hrm:∀c T m,ob= .cells c T m→g.κ id≤c.size) (hso:SameOut g w w') (hsp:∀T cs,bo= .sp T cs→∃c,ob= .cells c T (0,0)∧c.size=cs.length∧∀j (hj:j<cs.length),∃v,c[j]? = some v∧V g (cs[j]) v:=by intro T cs h;cases h):Inv g {H with bx:=H.bx.set id bo} w'∧Keep g H w g {H with bx:=H.bx.set id bo} w':=by
 have hlen:id<H.bx.length:=by rcases Nat.lt_or_ge id H.bx.length with h'|h';{exact h'};{simp[List.getElem?_eq_none h']at hid}
 have hlive:H.liveAt id:=⟨old,hid,hold⟩;have hne:∀i k,i≠id→H.liveAt i→g.σ i=some k→k≠b:=fun i k h1 h2 h3 e=>h1 (hi.inj i id b h2 hlive (e ▸ h3) hσ);have hget:∀i,i≠id→({H with bx:=H.bx.set id bo}:Heap).bx[i]? = H.bx[i]? :=fun i h=>by simp[Ne.symm h]
 have hgetn:({H with bx:=H.bx.set id bo}:Heap).bx[id]? = some bo:=by simp[hlen]
 refine⟨⟨?_,?_,?_,?_,?_,?_,hi.td,?_,hi.tinj,hi.nd,hi.lt,?_,?_,?_⟩,⟨.refl g,?_,fun _ _ _ _=>rfl,?_,?_,?_,rfl,?_,?_,Nat.le_refl _,fun _ h=> .inl h,?_,fun _ _ h=>h,hso⟩⟩
 ·intro k o v h;have:k≠b:=fun e=>by subst e;rw[hS]at h;cases h
  rw[cell_of_heap (ho k this)];exact hi.st _ _ _ h
 {intro i es el h;by_cases e:i=id;{subst e;rw[hgetn]at h;obtain⟨c,T,rfl,h3,h4,h5⟩:=hc es el (by simpa using h);exact⟨b,c,T,hσ,hn,h3,h4,h5,hS⟩};{rw[hget i e]at h;obtain⟨k,c,T,h1,h2,h3,h4,h5,h6⟩:=hi.bx i es el h;exact⟨k,c,T,h1,by rw[ho k (hne i k e ⟨_,h,trivial⟩ h1)];exact h2,h3,h4,h5,h6⟩}};{intro i es h;by_cases e:i=id;{subst e;rw[hgetn]at h;obtain⟨c,T,rfl,h3,h4⟩:=hm es (by simpa using h);exact⟨b,c,T,hσ,hn,h3,h4,hS⟩};{rw[hget i e]at h;obtain⟨k,c,T,h1,h2,h3,h4,h5⟩:=hi.mp i es h;exact⟨k,c,T,h1,by rw[ho k (hne i k e ⟨_,h,trivial⟩ h1)];exact h2,h3,h4,h5⟩}};{intro i T cs h;by_cases e:i=id;{subst e;rw[hgetn]at h;obtain⟨c,rfl,h3,h4⟩:=hsp T cs (by simpa using h);exact⟨b,c,hσ,hn,h3,h4,hS⟩};{rw[hget i e]at h;obtain⟨k,c,h1,h2,h3,h4,h5⟩:=hi.sp i T cs h;exact⟨k,c,h1,by rw[ho k (hne i k e ⟨_,h,trivial⟩ h1)];exact h2,h3,h4,h5⟩}}
 ·intro i j k h1 h2 h3 h4;have a1:H.liveAt i:=by rcases WA h1 with⟨_,h⟩|⟨rfl,_⟩;{exact h};{exact hlive}
  have a2:H.liveAt j:=by rcases WA h2 with⟨_,h⟩|⟨rfl,_⟩;{exact h};{exact hlive}
  exact hi.inj i j k a1 a2 h3 h4
 {intro i h;exact hi.sd i (by simpa using h)};{intro t k lo hi' h1 h2;obtain⟨⟨c,T,h3,h4⟩,h5,h6⟩:=hi.tk t k lo hi' h1 h2;have hkb:k≠b:=fun e=>h6 id hlive (e ▸ hσ);refine⟨⟨c,T,by rw[ho k hkb];exact h3,h4⟩,h5,fun i hl=>?_⟩;rcases WA hl with⟨_,hl⟩|⟨rfl,_⟩;{exact h6 i hl};{exact h6 i hlive}};{intro i k h;rw[hsz];exact hi.sz _ _ h};{simpa using hi.ro};{intro i k c T m h1 h2 h3;rcases WA h1 with⟨e,h1⟩|⟨rfl,_⟩;{rw[ho k (hne i k e h1 h2)]at h3;exact hi.rm i k c T m h1 h2 h3};{rw[hσ]at h2;cases h2;rw[hn]at h3;exact hrm c T m (by simpa using h3)}};{intro k hk hsh;exact ho k fun e=>hsh.1 id hro hlive (e ▸ hσ)};{rw[hsz];exact Nat.le_refl _};{intro i k h h';rw[h]at h';cases h'};{intro t k lo hi' h h';rw[h]at h';cases h'};{simp};{intro i h;exact hget i (by omega)};{intro i k h h';rcases WA h' with⟨_,h'⟩|⟨rfl,_⟩;{exact h'};{exact hlive}}
def Gh.tok (g:Gh) (t:Nat) (x:Nat×Nat×Nat×TypeId):Gh:={g with τ:=fun i=>if i=t then some x else g.τ i}
theorem ZaP {g:Gh} {H:Heap} {w:World} (hi:Inv g H w) (c:Array Value) (T:TypeId) (k m:Nat) (hm:m≤c.size) (l:List Nat) (hl:l.Sublist H.live):Inv ((g.addS w.heap.size (ZeJ c k)).tok H.nt (w.heap.size,k,(m,T))) {H with nt:=H.nt+1,live:=H.nt::l} (w.alloc (.cells c T))∧Keep g H w ((g.addS w.heap.size (ZeJ c k)).tok H.nt (w.heap.size,k,(m,T))) {H with nt:=H.nt+1,live:=H.nt::l} (w.alloc (.cells c T)):=by
 obtain⟨i1,k1⟩:=ZjE hi c T k;have htn:g.τ H.nt=none:=hi.td _ (Nat.le_refl _);have hle:(g.addS w.heap.size (ZeJ c k)).Le ((g.addS w.heap.size (ZeJ c k)).tok H.nt (w.heap.size,k,(m,T))):=⟨fun _ _ _ h=>h,fun _ _ h=>h,fun t x h=>by
  simp only[Gh.tok]
  split
  · rename_i e;subst e;rw[show(g.addS w.heap.size (ZeJ c k)).τ H.nt=g.τ H.nt from rfl,htn]at h;cases h
  · exact h,fun _ _ _=>rfl,rfl⟩
 have hτ:∀t,t≠H.nt→((g.addS w.heap.size (ZeJ c k)).tok H.nt (w.heap.size,k,(m,T))).τ t=g.τ t:=fun t h=>by simp[Gh.tok,h,Gh.addS]
 have hτn:((g.addS w.heap.size (ZeJ c k)).tok H.nt (w.heap.size,k,(m,T))).τ H.nt=some (w.heap.size,k,(m,T)):=by simp[Gh.tok]
 have hold:∀t,t∈l→t≠H.nt:=fun t h e=>by have:=hi.lt t (hl.subset h);omega
 have hblk:∀t b lo hi',t∈l→g.τ t=some (b,lo,hi')→b<w.heap.size:=fun t b lo hi' h1 h2=>by obtain⟨⟨c,T,h3,_⟩,_⟩:=hi.tk t b lo hi' (hl.subset h1) h2;rcases Nat.lt_or_ge b w.heap.size with h|h;{exact h};{simp[Array.getElem?_eq_none h]at h3}
 refine⟨⟨i1.st,?_,?_,?_,i1.inj,i1.sd,?_,?_,?_,?_,?_,i1.sz,i1.ro,i1.rm⟩,⟨k1.le.trans hle,fun b hb h=>k1.heap b hb h,fun b hb h=>k1.store b hb h,k1.size,k1.new,?_,rfl,Nat.le_refl _,fun _ _=>rfl,Nat.le_succ _,?_,fun _ _ _ h=>h,fun _ _ h=>h,k1.so⟩⟩;{intro id es el h;obtain⟨b,c,T,h1,h2,h3,h4,h5,h6⟩:=i1.bx id es el h;exact⟨b,c,T,h1,h2,h3,h4,fun i hi' j hj=>let ⟨v,e,x⟩:=h5 i hi' j hj;⟨v,e,x.mono hle⟩,h6⟩};{intro id es h;obtain⟨b,c,T,h1,h2,h3,h4,h5⟩:=i1.mp id es h;exact⟨b,c,T,h1,h2,h3,fun i hi'=>let ⟨e,a,x,y⟩:=h4 i hi';⟨e,a,x.mono hle,y.mono hle⟩,h5⟩};{intro id T cs h;obtain⟨b,c,h1,h2,h3,h4,h5⟩:=i1.sp id T cs h;exact⟨b,c,h1,h2,h3,fun j hj=>let ⟨v,e,x⟩:=h4 j hj;⟨v,e,x.mono hle⟩,h5⟩};{intro t h;have h:H.nt+1≤t:=h;rw[hτ t (by omega)];exact hi.td t (by omega)};{intro t b lo hi' h1 h2;rcases List.mem_cons.1 h1 with rfl|h1;{rw[hτn]at h2;cases h2;refine⟨⟨c,T,Z5 w _,hm,rfl⟩,fun o ho=>?_,fun id hl' e=>?_⟩;{simp[Gh.tok,Gh.addS,ZeJ,Nat.not_lt.2 ho]};{have:=hi.sz id _ e;omega}};{rw[hτ t (hold t h1)]at h2;exact i1.tk t b lo hi' (hl.subset h1) h2}};{intro t t' b lo hi' lo' hi2 h1 h2 h3 h4;rcases List.mem_cons.1 h1 with rfl|h1<;>rcases List.mem_cons.1 h2 with rfl|h2;{rfl};{rw[hτn]at h3;cases h3;rw[hτ t' (hold t' h2)]at h4;have:=hblk t' _ _ _ h2 h4;omega};{rw[hτn]at h4;cases h4;rw[hτ t (hold t h1)]at h3;have:=hblk t _ _ _ h1 h3;omega};{rw[hτ t (hold t h1)]at h3;rw[hτ t' (hold t' h2)]at h4;exact hi.tinj t t' b _ _ _ _ (hl.subset h1) (hl.subset h2) h3 h4}};{exact List.nodup_cons.2 ⟨fun h=>hold _ h rfl,hi.nd.sublist hl⟩};{intro t h;show t<H.nt+1;rcases List.mem_cons.1 h with rfl|h;{omega};{have:=hi.lt t (hl.subset h);omega}};{intro t b lo hi' h h';by_cases e:t=H.nt;{subst e;rw[hτn]at h';cases h';exact .inl (Nat.le_refl _)};{rw[hτ t e,h]at h';cases h'}};{intro t h;rcases List.mem_cons.1 h with rfl|h;{exact .inr (Nat.le_refl _)};{exact .inl (hl.subset h)}}
theorem ZbH {g:Gh} {H:Heap} {w:World} (hi:Inv g H w) {t lo:Nat} {hi':Nat×TypeId} (ht:t∈H.live) (hτ0:g.τ t=some (b,lo,hi')) (c:Array Value) (c':Array Value) (T:TypeId) (k:Nat) (hb:w.heap[b]? = some (.cells c T (0,0))) (hw:w'.heap[b]? = some (.cells c' T (0,0))) (hcs:c'.size=c.size) (hpre:∀o,o<lo→c'[o]? = c[o]?) (ho:∀x,x≠b→w'.heap[x]? = w.heap[x]?) (hsz:w'.heap.size=w.heap.size) (_hfz:∀a,w'.frozen? a=w.frozen? a) (l:List Nat) (hl:∀x,x∈l→x∈H.live∧x≠t) (hln:l.Nodup) (s:Nat→Option Value) (hs:∀o v,s o=some v→(o<lo∧g.S b o=some v)∨(lo≤o∧o<lo+k∧c'[o]? = some v)) (hs':∀o v,g.S b o=some v→s o=some v) (hso:SameOut g w w'):Inv ((g.addS b s).tok H.nt (b,lo+k,hi')) {H with nt:=H.nt+1,live:=H.nt::l} w'∧Keep g H w ((g.addS b s).tok H.nt (b,lo+k,hi')) {H with nt:=H.nt+1,live:=H.nt::l} w':=by
 obtain⟨⟨c0,T0,e0,hsize⟩,hfree,hnob⟩:=hi.tk t b lo hi' ht hτ0;rw[hb]at e0;cases e0;have htn:g.τ H.nt=none:=hi.td _ (Nat.le_refl _);have hle:g.Le ((g.addS b s).tok H.nt (b,lo+k,hi')):=⟨fun x o v h=>by
  simp only[Gh.tok,Gh.addS]
  split
  · rename_i e;subst e;exact hs' o v h
  · exact h,fun _ _ h=>h,fun t x h=>by
  simp only[Gh.tok]
  split
  · rename_i e;subst e;rw[htn]at h;cases h
  · exact h,fun _ _ _=>rfl,rfl⟩
 have hτ:∀t,t≠H.nt→((g.addS b s).tok H.nt (b,lo+k,hi')).τ t=g.τ t:=fun t h=>by simp[Gh.tok,h,Gh.addS]
 have hτn:((g.addS b s).tok H.nt (b,lo+k,hi')).τ H.nt=some (b,lo+k,hi'):=by simp[Gh.tok]
 have hS:∀x o,x≠b→((g.addS b s).tok H.nt (b,lo+k,hi')).S x o=g.S x o:=fun x o h=>by simp[Gh.tok,Gh.addS,h]
 have hSb:∀o,((g.addS b s).tok H.nt (b,lo+k,hi')).S b o=s o:=fun o=>by simp[Gh.tok,Gh.addS]
 have hold:∀t,t∈l→t≠H.nt:=fun t h e=>by have:=hi.lt t (hl t h).1;omega
 refine⟨⟨?_,?_,?_,?_,hi.inj,hi.sd,?_,?_,?_,?_,?_,?_,hi.ro,fun id x c2 T2 m2 h1 h2 h3=>hi.rm id x c2 T2 m2 h1 h2 (by rw[← ho x (fun e=>hnob id h1 (e ▸ h2))];exact h3)⟩,⟨hle,?_,?_,?_,?_,?_,rfl,Nat.le_refl _,fun _ _=>rfl,Nat.le_succ _,?_,fun _ _ _ h=>h,fun _ _ h=>h,hso⟩⟩;{intro x o v h;by_cases e:x=b;{subst e;rw[hSb]at h;rcases hs o v h with⟨h1,h2⟩|⟨h1,h2,h3⟩;{have:=hi.st _ _ _ h2;simp only[World.cell?,hb]at this;simp only[World.cell?,hw];simpa[hpre o h1] using this};{simp[World.cell?,hw,h3]}};{rw[hS x o e]at h;rw[cell_of_heap (ho x e)];exact hi.st _ _ _ h}};{intro id es el h;obtain⟨x,c,T,h1,h2,h3,h4,h5,h6⟩:=hi.bx id es el h;have hne:x≠b:=fun e=>hnob id ⟨_,h,trivial⟩ (e ▸ h1);exact⟨x,c,T,h1,by rw[ho x hne];exact h2,h3,h4,fun i hi' j hj=>let ⟨v,e,y⟩:=h5 i hi' j hj;⟨v,e,y.mono hle⟩,fun o=>by rw[hS x o hne];exact h6 o⟩};{intro id es h;obtain⟨x,c,T,h1,h2,h3,h4,h5⟩:=hi.mp id es h;have hne:x≠b:=fun e=>hnob id ⟨_,h,trivial⟩ (e ▸ h1);exact⟨x,c,T,h1,by rw[ho x hne];exact h2,h3,fun i hi'=>let ⟨e,a,y,z⟩:=h4 i hi';⟨e,a,y.mono hle,z.mono hle⟩,fun o=>by rw[hS x o hne];exact h5 o⟩};{intro id T cs h;obtain⟨x,c,h1,h2,h3,h4,h5⟩:=hi.sp id T cs h;have hne:x≠b:=fun e=>hnob id ⟨_,h,trivial⟩ (e ▸ h1);exact⟨x,c,h1,by rw[ho x hne];exact h2,h3,fun j hj=>let ⟨v,e,y⟩:=h4 j hj;⟨v,e,y.mono hle⟩,fun o=>by rw[hS x o hne];exact h5 o⟩};{intro u h;have h:H.nt+1≤u:=h;rw[hτ u (by omega)];exact hi.td u (by omega)}
 ·intro u x lo2 hi2 h1 h2;rcases List.mem_cons.1 h1 with rfl|h1
  ·rw[hτn]at h2;cases h2;refine⟨⟨c',T,hw,by have:=hsize.1;omega,hsize.2⟩,fun o ho=>?_,hnob⟩;rw[hSb];cases e:s o with
   | none=>rfl
   | some v=>rcases hs o v e with⟨h1,_⟩|⟨_,h2,_⟩<;>omega
  {rw[hτ u (hold u h1)]at h2;obtain⟨⟨c2,T2,h3,h4⟩,h5,h6⟩:=hi.tk u x lo2 hi2 (hl u h1).1 h2;have hne:x≠b:=fun e=>(hl u h1).2 (hi.tinj u t b lo2 hi2 lo hi' (hl u h1).1 ht (e ▸ h2) hτ0);exact⟨⟨c2,T2,by rw[ho x hne];exact h3,h4⟩,fun o h=>by rw[hS x o hne];exact h5 o h,h6⟩}
 {intro u u' x lo1 hi1 lo2 hi2 h1 h2 h3 h4;rcases List.mem_cons.1 h1 with rfl|h1<;>rcases List.mem_cons.1 h2 with rfl|h2;{rfl};{rw[hτn]at h3;cases h3;rw[hτ u' (hold u' h2)]at h4;exact absurd (hi.tinj u' t _ _ _ _ _ (hl u' h2).1 ht h4 hτ0) (hl u' h2).2};{rw[hτn]at h4;cases h4;rw[hτ u (hold u h1)]at h3;exact absurd (hi.tinj u t _ _ _ _ _ (hl u h1).1 ht h3 hτ0) (hl u h1).2};{rw[hτ u (hold u h1)]at h3;rw[hτ u' (hold u' h2)]at h4;exact hi.tinj u u' x _ _ _ _ (hl u h1).1 (hl u' h2).1 h3 h4}};{exact List.nodup_cons.2 ⟨fun h=>hold _ h rfl,hln⟩};{intro u h;show u<H.nt+1;rcases List.mem_cons.1 h with rfl|h;{omega};{have:=hi.lt u (hl u h).1;omega}};{intro id x h;rw[hsz];exact hi.sz _ _ h};{intro x _ hsh;exact ho x fun e=>hsh.2 t lo hi' ht (e ▸ hτ0)};{intro x _ hsh o;exact hS x o fun e=>hsh.2 t lo hi' ht (e ▸ hτ0)};{rw[hsz];exact Nat.le_refl _};{intro id x h h';rw[show((g.addS b s).tok H.nt (b,lo+k,hi')).σ id=g.σ id from rfl,h]at h';cases h'};{intro u x lo2 hi2 h h';by_cases e:u=H.nt;{subst e;rw[hτn]at h';cases h';exact .inr ⟨t,lo,hi',ht,hτ0⟩};{rw[hτ u e,h]at h';cases h'}};{intro u h;rcases List.mem_cons.1 h with rfl|h;{exact .inr (Nat.le_refl _)};{exact .inl (hl u h).1}}
theorem Zh6 {P:Program} (h:Zpl P t=some ti):∃i d z,P.info? t=some i∧P.underlying t=some d∧i.zero=some z∧ti=⟨VT d,i.size,i.bytes,ofConst z⟩:=by
 unfold Zpl at h;cases h1:P.info? t with
 |none=>simp[h1]at h
 |some i=>
  cases h2:P.underlying t with
  | none=>simp[h1,h2]at h
  | some d=>
   cases h3:i.zero with
   | none=>simp[h1,h2,h3]at h
   | some z=>simp[h1,h2,h3]at h;exact⟨i,d,z,rfl,rfl,h3,h.symm⟩
theorem V0.ofScalar (S:VN) (v:Value):V0 S (ofScalar v) v:=by unfold Vm.ofScalar;split;{exact .bool _};{exact .int _ _};{exact .str _ _ rfl};{exact .nilp};{exact .nils};{exact .nilm};{exact .nilf};{exact .nili};{exact .undef _}
theorem V0.ofConst (S:VN) (v:Value):V0 S (ofConst v) v:=by unfold Vm.ofConst;split;{rename_i cs;exact .agg _ _ (by simp) fun i hi=>by simpa using V0.ofScalar S _};{exact V0.ofScalar S _}
def qOk (P:Program) (t:TypeId):Bool:= !P.stoodInHeld t&&(!P.eqGuardType P.depth t&&(P.fieldsOf t).toList.all fun f=>f.name != "_")
theorem ZhR {E:Env} {P:Program} (h:E.Q=fun _=>false):∀t,E.Q t=true→qOk P t=true:=fun t e=>by rw[h]at e;cases e
structure TOk (E:Env) (P:Program):Prop where
 T:∀t ti,E.T t=some ti→Zpl P t=some ti
 Q:∀t,E.Q t=true→qOk P t=true
def GOk (E:Env) (g:Gh):Prop:=(∀k cs,E.G k=some cs→V0 g.S (.fptr cs 0) (.pointer (some ⟨k,0,none⟩)))∧(g.mono=true→E.mono=true)∧∀k q,E.I k=some q→∃v,g.S k 0=some v∧q v=true
theorem TOk.spec {E : Env} {P : Program} (hE : TOk E P) (h : E.T t = some ti) :
  ∃i d z,P.info? t=some i∧P.underlying t=some d∧i.zero=some z∧ti=⟨VT d,i.size,i.bytes,Vm.ofConst z⟩:=Zh6 (hE.T _ _ h)
theorem QY (h:VT d= .int k):d= .int k:=by cases d<;>simp[VT]at h;subst h;rfl
theorem ZeI (h:VT d= .bool):d= .bool:=by cases d<;>simp[VT]at h;rfl
theorem YE (h:VT d= .string):d= .string:=by cases d<;>simp[VT]at h;rfl
theorem Yg (h:VT d= .slice e):d= .slice e:=by cases d<;>simp[VT]at h;subst h;rfl
theorem Zg1 (h:VT d= .pointer e):d= .pointer e:=by cases d<;>simp[VT]at h;subst h;rfl
theorem QN (h:VT d= .array n e):d= .array n e:=by cases d<;>simp[VT]at h;obtain⟨rfl,rfl⟩:=h;rfl
theorem Zdq {k:TypeId} (h:VT d= .map k e):d= .map k e:=by cases d<;>simp[VT]at h;obtain⟨rfl,rfl⟩:=h;rfl
theorem Zgi (h:VT d= .iface):∃a,d= .interface a:=by cases d<;>simp[VT]at h;exact⟨_,rfl⟩
theorem Zm6 (h:VT d= .func):∃a b c,d= .func a b c:=by cases d<;>simp[VT]at h;exact⟨_,_,_,rfl⟩
theorem Vg {fs:List (Nat×TypeId)} (h:VT d= .struct fs):∃a:Array Field,d= .struct a∧fs=a.toList.map fun f=>(f.offset,f.type):=by cases d<;>simp[VT]at h;exact⟨_,rfl,h.symm⟩
theorem ZG {P:Program} {i:TypeInfo} (h:P.info? t=some i) (w:World):(sizeOf t).run P w= .ok i.size w:=by simp[sizeOf,typeInfo,h]
theorem XD {P:Program} {i:TypeInfo} {z:Value} (h:P.info? t=some i) (hz:i.zero=some z) (w:World):(zeroValue t).run P w= .ok z w:=by simp[zeroValue,typeInfo,h,hz]
theorem VD {P:Program} (h:P.underlying t=some d) (w:World):(isAgg t).run P w= .ok (XL (VT d)) w:=by simp only[isAgg,Sem.run_bind,run_underlying h,Result.andThen_ok];cases d<;>rfl
def OpOk (g:Gh) (H:Heap) (w:World) (r:Result Next) (p:PV) (H':Heap):Prop:=
 ∃n v w' g',r= .ok n w'∧(n= .value v∨(n= .skip∧v=undef))∧V g' p v∧Inv g' H' w'∧Keep g H w g' H' w'
theorem OpOk.val {g:Gh} {H:Heap} {w:World} {r:Result Next} (v:Value) (hr:r= .ok (.value v) w) (hv:V g p v) (hi:Inv g H w):OpOk g H w r p H:=
 ⟨_,v,w,g,hr,.inl rfl,hv,hi,.refl _ _ _⟩
section
variable {E:Env} {P:Program} {g:Gh} {H:Heap} {w:World}
theorem Zsx (hi:Inv g H w) (hp:V g p a) (h:H.rd p n=some cs):∃b o,∃vs:List Value,a= .pointer (some ⟨b,o,none⟩)∧cs.length=n∧VL g cs vs∧∀j (hj:j<vs.length),w.cell? ⟨b,o+j,none⟩=some vs[j]:=by unfold Heap.rd at h;split at h;{rename_i id es ix off;rw[Zm]at h;split at h;{rename_i es' el hb;split at h;{rename_i he;subst he;rw[Zm]at h;split at h;{rename_i cs0 hcs;split at h;{rename_i hle;cases h;obtain⟨b,hσ,rfl⟩:=hp.ptr_inv;obtain⟨b',c,T,h1,h2,h3,h4,h5,h6⟩:=hi.bx _ _ _ hb;rw[hσ]at h1;cases h1;(have hix:ix<el.length:=by rcases Nat.lt_or_ge ix el.length with h'|h';{exact h'};{simp[List.getElem?_eq_none h']at hcs});(have hel:el[ix]=cs0:=by simpa[List.getElem?_eq_getElem hix] using hcs);have hlen:cs0.length=es:=hel ▸ h3 ix hix;(have hf:∀j,∃v,j<cs0.length→c[ix*es+j]? = some v∧∀(hj:j<cs0.length),V g cs0[j] v:=fun j=>by by_cases hj:j<cs0.length;{obtain⟨v,e1,e2⟩:=h5 ix hix j (by rw[hel];exact hj);exact⟨v,fun _=>⟨e1,fun hj=>by simpa[hel] using e2⟩⟩};{exact⟨undef,fun h=>absurd h hj⟩});obtain⟨f,hf⟩:=Classical.axiomOfChoice hf;refine⟨b,ix*es+off,(List.range n).map fun j=>f (off+j),rfl,by simp;omega,⟨by simp;omega,fun i hi1 hi2=>?_⟩,fun j hj=>?_⟩;{(have:i<n:=by simpa using hi2);have:=(hf (off+i) (by omega)).2 (by omega);simpa using this};{(have hj':j<n:=by simpa using hj);have:=(hf (off+j) (by omega)).1;simp only[World.cell?,h2];simp[Nat.add_assoc,this]}};{cases h}};{cases h}};{cases h}};{rename_i T cs0 hb;split at h;{rename_i hc;obtain⟨rfl,rfl,hle⟩:=hc;cases h;obtain⟨b,hσ,rfl⟩:=hp.ptr_inv;obtain⟨b',c,h1,h2,h3,h4,h6⟩:=hi.sp _ _ _ hb;rw[hσ]at h1;cases h1;(have hf:∀j,∃v,j<cs0.length→c[j]? = some v∧∀(hj:j<cs0.length),V g cs0[j] v:=fun j=>by by_cases hj:j<cs0.length;{obtain⟨v,e1,e2⟩:=h4 j hj;exact⟨v,fun _=>⟨e1,fun _=>e2⟩⟩};{exact⟨undef,fun h=>absurd h hj⟩});obtain⟨f,hf⟩:=Classical.axiomOfChoice hf;refine⟨b,0*cs0.length+off,(List.range n).map fun j=>f (off+j),rfl,by simp;omega,⟨by simp;omega,fun i hi1 hi2=>?_⟩,fun j hj=>?_⟩;{(have:i<n:=by simpa using hi2);have:=(hf (off+i) (by omega)).2 (by omega);simpa using this};{(have hj':j<n:=by simpa using hj);have:=(hf (off+j) (by omega)).1;simp only[World.cell?,h2];simp[this]}};{cases h}};{cases h}};{rename_i cs0 off;split at h;{rename_i hle;cases h;obtain⟨b,o,vals,h2,h3,rfl⟩:=hp.fptr_inv;refine⟨b,o+off,(List.range n).map fun j=>vals (off+j),rfl,by simp;omega,⟨by simp;omega,fun i hi1 hi2=>?_⟩,fun j hj=>?_⟩;{(have:i<n:=by simpa using hi2);simpa using V.pure _ _ (h3 (off+i) (by omega))};{(have hj':j<n:=by simpa using hj);have:=hi.st _ _ _ (h2 (off+j) (by omega));simpa[Nat.add_assoc] using this}};{cases h}};{cases h}
theorem ZV (b o n:Nat):(⟨b,o,none⟩:Addr).add n=⟨b,o+n,none⟩:=by unfold Addr.add;split<;>simp_all
theorem Zi0 (hE:TOk E P) (hi:Inv g H w) (hp:V g p a) (h:ZZ E t p H=some q):∃v,(Instr.loadAt t a).run P w= .ok v w∧V g q v:=by
 unfold ZZ at h;split at h
 ·rename_i ti ht;split at h
  ·rename_i cs hr;obtain⟨i,d,z,h1,h2,h3,rfl⟩:=hE.spec ht;obtain⟨b,o,vs,rfl,hlen,hvl,hc⟩:=Zsx hi hp hr;simp only[Qe]at h;by_cases hA:XL (VT d)=true
   ·simp only[hA, if_true]at h hlen;cases h;have hl:=run_loadCells_list (P:=P) w ⟨b,o,none⟩ vs (fun j v hj=>by
     rw[ZV]
     have hj':j<vs.length:=by
      rcases Nat.lt_or_ge j vs.length with h|h
      · exact h
      · simp[List.getElem?_eq_none h]at hj
     rw[hc j hj']
     simpa[List.getElem?_eq_getElem hj'] using hj)
    (have hsz:vs.length=i.size:=by rw[hvl.1];exact hlen);rw[hsz]at hl;refine⟨.agg vs.toArray,?_,.agg _ _ (by simp[hvl.1]) fun k hk=>by simpa using hvl.2 k hk (by have:=hvl.1;omega)⟩;simp[Instr.loadAt,Instr.sureAddr,loadVar,VD h2,hA,ZG h1,hl]
   ·simp only[hA,Bool.false_eq_true,if_false]at h hlen;match cs,h,hvl,hlen with
    | [x],h,hvl,_=>cases h;have hv1:vs.length=1:=hvl.1;have hc0:=hc 0 (by omega);refine⟨vs[0],?_,by simpa using hvl.2 0 (by simp) (by omega)⟩;simp only[Nat.add_zero]at hc0;simp[Instr.loadAt,Instr.sureAddr,loadVar,VD h2,hA,hc0]
  {cases h}
 {cases h}
end
