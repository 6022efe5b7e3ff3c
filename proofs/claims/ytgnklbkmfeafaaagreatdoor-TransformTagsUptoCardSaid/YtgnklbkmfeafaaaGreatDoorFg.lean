/-
  Narrations: what they are made of, their cells, and what the checks of syntax an
-/
import Derived.Test.YtgnklbkmfeafaaaGreatDoorFf
import Derived.IntWalk
import Derived.Lib.UnsafeStr
import Derived.Lib.Join
import Derived.Lib.Bytealg
import Derived.Laws.Externs
import Derived.Below
import Derived.WideShapes
namespace Go.Vm
variable {al args caps cs cs' ps ps':List PV} {a a' b' c' d d' es i ix j m n0 nt nt' off ro ro':Nat} {b:Bool} {bx bx':List Box} {lv lv':List Nat} {all:List Oper} {OP:Op} {e t ty u yt:TypeId} {pos:String} {aft:Array Edge} {grd:Option (Nat×Bool)} {H' H0 H1 H1':Heap} {ops:Array Oper} {v x y:Operand} {ei ti:TI} {el el':List (List PV)} {k:IntKind} {hi lo mx:Option Operand} {X Y p':PV} {HI LO MX:Option PV} {op:BinOp} {f:FuncId} {ats:Array TypeId} {fn:Func} {ex:Ex} {Pr:PV→Heap→Prop} {α:Type}
theorem IsV.aggN (h:IsL cs cs':=by repeat' first|exact Go.Vm.IsL.nil|exact Go.Vm.IsV.int _ _|exact Go.Vm.IsV.str _|exact Go.Vm.IsV.slV _ _ _|exact Go.Vm.IsV.nils|exact Go.Vm.IsV.bool _|exact Go.Vm.IsV.sl _ _ _|apply Go.Vm.IsL.cons|apply Go.Vm.IsV.agg|exact Go.Vm.IsV.any _|exact Go.Vm.IsL.any _):IsV (.agg cs) (.agg cs'):= .agg _ _ h
theorem IsV.tupN (h:IsL cs cs':=by repeat' first|exact Go.Vm.IsL.nil|exact Go.Vm.IsV.int _ _|exact Go.Vm.IsV.str _|exact Go.Vm.IsV.slV _ _ _|exact Go.Vm.IsV.nils|exact Go.Vm.IsV.bool _|exact Go.Vm.IsV.sl _ _ _|apply Go.Vm.IsL.cons|apply Go.Vm.IsV.agg|exact Go.Vm.IsV.any _|exact Go.Vm.IsL.any _):IsV (.tup cs) (.tup cs'):= .tup _ _ h
theorem IsV.ptrN {b c : Nat} (h1 : a = a' := by first | exact (rfl : (_ : Nat) = 0) | exact (rfl : (_ : Nat) = 1) | exact (rfl : (_ : Nat) = 2) | exact (rfl : (_ : Nat) = 3) | exact (rfl : (_ : Nat) = 4) | exact (rfl : (_ : Nat) = 5) | exact (rfl : (_ : Nat) = 6) | exact (rfl : (_ : Nat) = 7) | exact (rfl : (_ : Nat) = 8) | exact rfl)
  (h2:b=b':=by first|exact (rfl:(_:Nat)=1)|exact (rfl:(_:Nat)=2)|exact (rfl:(_:Nat)=3)|exact (rfl:(_:Nat)=4)|exact (rfl:(_:Nat)=5)|exact (rfl:(_:Nat)=6)|exact (rfl:(_:Nat)=7)|exact (rfl:(_:Nat)=8)|exact rfl)
  (h3:c=c':=by first|exact (rfl:(_:Nat)=0)|exact (rfl:(_:Nat)=1)|exact (rfl:(_:Nat)=2)|exact rfl)
  (h4:d=d':=by first|exact (rfl:(_:Nat)=0)|exact (rfl:(_:Nat)=1)|exact (rfl:(_:Nat)=2)|exact (rfl:(_:Nat)=3)|exact (rfl:(_:Nat)=4)|exact (rfl:(_:Nat)=5)|exact (rfl:(_:Nat)=6)|exact (rfl:(_:Nat)=7)|exact (rfl:(_:Nat)=8)|exact rfl):IsV (.ptr a b c d) (.ptr a' b' c' d'):= .ptr4 h1 h2 h3 h4
theorem IsH.mkN
  (h:IsBL bx bx':=by repeat' first|exact Go.Vm.IsBL.nil|apply Go.Vm.IsBL.cells|apply Go.Vm.IsBL.cons|exact Go.Vm.IsLL.nil|apply Go.Vm.IsLL.cons|exact Go.Vm.IsL.nil|exact Go.Vm.IsV.int _ _|exact Go.Vm.IsV.str _|exact Go.Vm.IsV.slV _ _ _|exact Go.Vm.IsV.nils|exact Go.Vm.IsV.bool _|exact Go.Vm.IsV.sl _ _ _|apply Go.Vm.IsL.cons|exact Go.Vm.IsV.any _|exact Go.Vm.IsL.any _|exact Go.Vm.IsLL.any _|exact Go.Vm.IsBL.any _|exact (rfl:(_:Nat)=1)|exact (rfl:(_:Nat)=2)|exact (rfl:(_:Nat)=3)|exact (rfl:(_:Nat)=4)|exact (rfl:(_:Nat)=5)|exact (rfl:(_:Nat)=6)|exact (rfl:(_:Nat)=7)|exact (rfl:(_:Nat)=8)|exact rfl)
  (h1:ro=ro':=by first|exact (rfl:(_:Nat)=0)|exact (rfl:(_:Nat)=1)|exact rfl) (h2:lv=lv':=by first|exact (rfl:(_:List Nat)= [])|exact rfl)
  (h3:nt=nt':=by first|exact (rfl:(_:Nat)=0)|exact (rfl:(_:Nat)=1)|exact (rfl:(_:Nat)=2)|exact (rfl:(_:Nat)=3)|exact (rfl:(_:Nat)=4)|exact rfl):IsH ⟨bx,ro,lv,nt⟩ ⟨bx',ro',lv',nt'⟩:= .mk _ _ _ _ _ _ _ _ h h1 h2 h3
theorem IsL.n {l l':List PV} (h:IsL l l':=by repeat' first|exact Go.Vm.IsL.nil|exact Go.Vm.IsV.int _ _|exact Go.Vm.IsV.str _|exact Go.Vm.IsV.slV _ _ _|exact Go.Vm.IsV.nils|exact Go.Vm.IsV.bool _|exact Go.Vm.IsV.sl _ _ _|exact Go.Vm.IsV.ptrN|apply Go.Vm.IsL.cons|apply Go.Vm.IsV.agg|exact Go.Vm.IsV.any _|exact Go.Vm.IsL.any _):IsL l l':=h
theorem IsLL.n {l l':List (List PV)} (h:IsLL l l':=by repeat' first|exact Go.Vm.IsLL.nil|apply Go.Vm.IsLL.cons|exact Go.Vm.IsL.nil|exact Go.Vm.IsV.int _ _|exact Go.Vm.IsV.str _|exact Go.Vm.IsV.slV _ _ _|exact Go.Vm.IsV.nils|exact Go.Vm.IsV.bool _|exact Go.Vm.IsV.sl _ _ _|exact Go.Vm.IsV.ptrN|apply Go.Vm.IsL.cons|apply Go.Vm.IsV.agg|exact Go.Vm.IsV.any _|exact Go.Vm.IsL.any _|exact Go.Vm.IsLL.any _):IsLL l l':=h
section
variable {E:Env} {P:Program} {own:Tmp→Bool} {n:Nat} {Q:Ex→TM→Heap→Prop} {K:TM→Heap→Prop} {tm:TM} {H:Heap}
theorem qT {r:List Oper} (hw:Zc all tm ⟨some d,OP,ty,pos,aft,grd⟩=some true) (hn:Nat.blt d n=true) (h:aOp E (own d) (Zd E tm) OP H=some (.bool true,H1)) (hr:RegQ E P own n all r K (ZE tm (some d) (.bool true)) H1):RegQ E P own n all (⟨some d,OP,ty,pos,aft,grd⟩::r) K tm H:= .rOp hw hn h (.bool _) hr
theorem dT {r:List Oper} (hw:Zc ops.toList tm ⟨some d,OP,ty,pos,aft,grd⟩=some true) (hn:Nat.blt d n=true) (h:aOp E (own d) (Zd E tm) OP H=some (.bool true,H1)) (hk:okD E own n0 tm ⟨some d,OP,ty,pos,aft,grd⟩ H H1=true) (hr:DrwQ E P own n ops n0 (i+1) r K (ZE tm (some d) (.bool true)) H1):DrwQ E P own n ops n0 i (⟨some d,OP,ty,pos,aft,grd⟩::r) K tm H:= .rOp hw hn h (.bool _) hk hr
theorem qF {r:List Oper} (hw:Zc all tm ⟨some d,OP,ty,pos,aft,grd⟩=some true) (hn:Nat.blt d n=true) (h:aOp E (own d) (Zd E tm) OP H=some (.bool false,H1)) (hr:RegQ E P own n all r K (ZE tm (some d) (.bool false)) H1):RegQ E P own n all (⟨some d,OP,ty,pos,aft,grd⟩::r) K tm H:= .rOp hw hn h (.bool _) hr
theorem dF {r:List Oper} (hw:Zc ops.toList tm ⟨some d,OP,ty,pos,aft,grd⟩=some true) (hn:Nat.blt d n=true) (h:aOp E (own d) (Zd E tm) OP H=some (.bool false,H1)) (hk:okD E own n0 tm ⟨some d,OP,ty,pos,aft,grd⟩ H H1=true) (hr:DrwQ E P own n ops n0 (i+1) r K (ZE tm (some d) (.bool false)) H1):DrwQ E P own n ops n0 i (⟨some d,OP,ty,pos,aft,grd⟩::r) K tm H:= .rOp hw hn h (.bool _) hk hr
theorem qG {r:List Oper} {id:Nat} (hw:Zc all tm ⟨some d,OP,ty,pos,aft,grd⟩=some true) (hn:Nat.blt d n=true) (h:aOp E (own d) (Zd E tm) OP H=some (.map id,H1)) (hh:IsH H1 H1') (hr:RegQ E P own n all r K (ZE tm (some d) (.map id)) H1'):RegQ E P own n all (⟨some d,OP,ty,pos,aft,grd⟩::r) K tm H:= .rOpH hw hn h (.map _) hh hr
theorem qB {r:List Oper} {e:Bool} (hw:Zc all tm ⟨some d,OP,ty,pos,aft,grd⟩=some true) (hn:Nat.blt d n=true) (h:aOp E (own d) (Zd E tm) OP H=some (.bool e,H1)) (ht:e=true→RegQ E P own n all r K (ZE tm (some d) (.bool true)) H1) (hf:e=false→RegQ E P own n all r K (ZE tm (some d) (.bool false)) H1):RegQ E P own n all (⟨some d,OP,ty,pos,aft,grd⟩::r) K tm H:= .rB hw hn h ht hf
theorem qK {r:List Oper} {w:Bool} (hw:Zc all tm ⟨some d,OP,ty,pos,aft,some (j,w)⟩=some false) (hn:Nat.blt d n=true) (hr:RegQ E P own n all r K (ZE tm (some d) unset) H):RegQ E P own n all (⟨some d,OP,ty,pos,aft,some (j,w)⟩::r) K tm H:= .rSkip hw hn hr
theorem qLn {r:List Oper} (hw:Zc all tm ⟨some d,.call {callee:= .builtin .len,args:= #[x],argTypes:= #[t]},ty,pos,aft,grd⟩=some true) (hn:Nat.blt d n=true) (hx:Zd E tm x=slV b es el) (ht:E.T t=some ti) (hk:ti.tk= .slice e) (hr:RegQ E P own n all r K (ZE tm (some d) (.int .i64 (el.length:Int))) H):RegQ E P own n all (⟨some d,.call {callee:= .builtin .len,args:= #[x],argTypes:= #[t]},ty,pos,aft,grd⟩::r) K tm H:= .rLen hw hn hx ht hk hr
theorem qIx {r:List Oper} (hw:Zc all tm ⟨some d,.indexAddr t x y,ty,pos,aft,grd⟩=some true) (hn:Nat.blt d n=true) (hx:Zd E tm x=slV b es el) (ht:E.T t=some ti) (hk:ti.tk= .slice e) (he:E.T e=some ei) (hes:ei.size=es) (hy:Zd E tm y= .int k (j:Int)) (hj:el[j]? = some cs) (hr:RegQ E P own n all r K (ZE tm (some d) (.fptr cs 0)) H):RegQ E P own n all (⟨some d,.indexAddr t x y,ty,pos,aft,grd⟩::r) K tm H:= .rIdx hw hn hx ht hk he hes hy hj hr
theorem dB {r:List Oper} {e:Bool} (hw:Zc ops.toList tm ⟨some d,OP,ty,pos,aft,grd⟩=some true) (hn:Nat.blt d n=true) (h:aOp E (own d) (Zd E tm) OP H=some (.bool e,H1)) (hk:okD E own n0 tm ⟨some d,OP,ty,pos,aft,grd⟩ H H1=true) (ht:e=true→DrwQ E P own n ops n0 (i+1) r K (ZE tm (some d) (.bool true)) H1) (hf:e=false→DrwQ E P own n ops n0 (i+1) r K (ZE tm (some d) (.bool false)) H1):DrwQ E P own n ops n0 i (⟨some d,OP,ty,pos,aft,grd⟩::r) K tm H:= .rB hw hn h hk ht hf
theorem dK {r:List Oper} {w:Bool} (hw:Zc ops.toList tm ⟨some d,OP,ty,pos,aft,some (j,w)⟩=some false) (hn:Nat.blt d n=true) (hns:ZhP E own ⟨some d,OP,ty,pos,aft,some (j,w)⟩=true) (hr:DrwQ E P own n ops n0 (i+1) r K (ZE tm (some d) unset) H):DrwQ E P own n ops n0 i (⟨some d,OP,ty,pos,aft,some (j,w)⟩::r) K tm H:= .rSkip hw hn hns hr
theorem dLn {r:List Oper} (hw:Zc ops.toList tm ⟨some d,.call {callee:= .builtin .len,args:= #[x],argTypes:= #[t]},ty,pos,aft,grd⟩=some true) (hn:Nat.blt d n=true) (hx:Zd E tm x=slV b es el) (ht:E.T t=some ti) (hk:ti.tk= .slice e) (hr:DrwQ E P own n ops n0 (i+1) r K (ZE tm (some d) (.int .i64 (el.length:Int))) H):DrwQ E P own n ops n0 i (⟨some d,.call {callee:= .builtin .len,args:= #[x],argTypes:= #[t]},ty,pos,aft,grd⟩::r) K tm H:= .rLen hw hn hx ht hk hr
theorem dIx {r:List Oper} (hw:Zc ops.toList tm ⟨some d,.indexAddr t x y,ty,pos,aft,grd⟩=some true) (hn:Nat.blt d n=true) (hx:Zd E tm x=slV b es el) (ht:E.T t=some ti) (hk:ti.tk= .slice e) (he:E.T e=some ei) (hes:ei.size=es) (hy:Zd E tm y= .int k (j:Int)) (hj:el[j]? = some cs) (hr:DrwQ E P own n ops n0 (i+1) r K (ZE tm (some d) (.fptr cs 0)) H):DrwQ E P own n ops n0 i (⟨some d,.indexAddr t x y,ty,pos,aft,grd⟩::r) K tm H:= .rIdx hw hn hx ht hk he hes hy hj hr
theorem qSt {r : List Oper} {a : Operand} (hw : Zc all tm ⟨none, .store t a v, ty, pos, aft, grd⟩ = some true) (ht : E.T t = some ti) (hcs : (Zd E tm v).cells = cs) (hn : IsL cs cs') (hl : (Nat.beq cs'.length ti.size && Nat.blt 0 ti.size) = true) (hc : cs'.all Zp = true) (hwr : H.wr (Zd E tm a) cs' = some H1) (hh : IsH H1 H1') (hr : RegQ E P own n all r K tm H1') :
  RegQ E P own n all (⟨none,.store t a v,ty,pos,aft,grd⟩::r) K tm H:= .rSt hw ht hcs hn hl hc hwr hh hr
theorem qSl {r:List Oper} {p:PV} (hw:Zc all tm ⟨some d,.slice t x lo hi mx,ty,pos,aft,grd⟩=some true) (hn:Nat.blt d n=true) (hx:Zd E tm x=X) (h1:Qx (Zd E tm) lo=LO) (h2:Qx (Zd E tm) hi=HI) (h3:Qx (Zd E tm) mx=MX) (h:YY E t X LO HI MX=some p) (hv:IsV p p') (hr:RegQ E P own n all r K (ZE tm (some d) p') H):RegQ E P own n all (⟨some d,.slice t x lo hi mx,ty,pos,aft,grd⟩::r) K tm H:= .rSl hw hn hx h1 h2 h3 h hv hr
theorem dSl {r:List Oper} {p:PV} (hw:Zc ops.toList tm ⟨some d,.slice t x lo hi mx,ty,pos,aft,grd⟩=some true) (hn:Nat.blt d n=true) (hx:Zd E tm x=X) (h1:Qx (Zd E tm) lo=LO) (h2:Qx (Zd E tm) hi=HI) (h3:Qx (Zd E tm) mx=MX) (h:YY E t X LO HI MX=some p) (hv:IsV p p') (hk:okD E own n0 tm ⟨some d,.slice t x lo hi mx,ty,pos,aft,grd⟩ H H=true) (hr:DrwQ E P own n ops n0 (i+1) r K (ZE tm (some d) p') H):DrwQ E P own n ops n0 i (⟨some d,.slice t x lo hi mx,ty,pos,aft,grd⟩::r) K tm H:= .rSl hw hn hx h1 h2 h3 h hv hk hr
theorem qBi {r:List Oper} {p:PV} (hw:Zc all tm ⟨some d,.binOp op t x y yt,ty,pos,aft,grd⟩=some true) (hn:Nat.blt d n=true) (hx:Zd E tm x=X) (hy:Zd E tm y=Y) (h:WL E op t X Y=some p) (hv:IsV p p') (hr:RegQ E P own n all r K (ZE tm (some d) p') H):RegQ E P own n all (⟨some d,.binOp op t x y yt,ty,pos,aft,grd⟩::r) K tm H:= .rBi hw hn hx hy h hv hr
theorem dBi {r:List Oper} {p:PV} (hw:Zc ops.toList tm ⟨some d,.binOp op t x y yt,ty,pos,aft,grd⟩=some true) (hn:Nat.blt d n=true) (hx:Zd E tm x=X) (hy:Zd E tm y=Y) (h:WL E op t X Y=some p) (hv:IsV p p') (hk:okD E own n0 tm ⟨some d,.binOp op t x y yt,ty,pos,aft,grd⟩ H H=true) (hr:DrwQ E P own n ops n0 (i+1) r K (ZE tm (some d) p') H):DrwQ E P own n ops n0 i (⟨some d,.binOp op t x y yt,ty,pos,aft,grd⟩::r) K tm H:= .rBi hw hn hx hy h hv hk hr
theorem qXi {r:List Oper} {p:PV} (hw:Zc all tm ⟨some d,.index t x y,ty,pos,aft,grd⟩=some true) (hn:Nat.blt d n=true) (hx:Zd E tm x=X) (hy:Zd E tm y=Y) (h:W2 E t X Y=some p) (hv:IsV p p') (hr:RegQ E P own n all r K (ZE tm (some d) p') H):RegQ E P own n all (⟨some d,.index t x y,ty,pos,aft,grd⟩::r) K tm H:= .rIx hw hn hx hy h hv hr
theorem dXi {r:List Oper} {p:PV} (hw:Zc ops.toList tm ⟨some d,.index t x y,ty,pos,aft,grd⟩=some true) (hn:Nat.blt d n=true) (hx:Zd E tm x=X) (hy:Zd E tm y=Y) (h:W2 E t X Y=some p) (hv:IsV p p') (hk:okD E own n0 tm ⟨some d,.index t x y,ty,pos,aft,grd⟩ H H=true) (hr:DrwQ E P own n ops n0 (i+1) r K (ZE tm (some d) p') H):DrwQ E P own n ops n0 i (⟨some d,.index t x y,ty,pos,aft,grd⟩::r) K tm H:= .rIx hw hn hx hy h hv hk hr
theorem qIa {r:List Oper} {p:PV} (hw:Zc all tm ⟨some d,.indexAddr t x y,ty,pos,aft,grd⟩=some true) (hn:Nat.blt d n=true) (hx:Zd E tm x=X) (hy:Zd E tm y=Y) (h:ZP E t X Y=some p) (hv:IsV p p') (hr:RegQ E P own n all r K (ZE tm (some d) p') H):RegQ E P own n all (⟨some d,.indexAddr t x y,ty,pos,aft,grd⟩::r) K tm H:= .rIa hw hn hx hy h hv hr
theorem dIa {r:List Oper} {p:PV} (hw:Zc ops.toList tm ⟨some d,.indexAddr t x y,ty,pos,aft,grd⟩=some true) (hn:Nat.blt d n=true) (hx:Zd E tm x=X) (hy:Zd E tm y=Y) (h:ZP E t X Y=some p) (hv:IsV p p') (hr:DrwQ E P own n ops n0 (i+1) r K (ZE tm (some d) p') H):DrwQ E P own n ops n0 i (⟨some d,.indexAddr t x y,ty,pos,aft,grd⟩::r) K tm H:= .rIa hw hn hx hy h hv hr
theorem qLd {r:List Oper} {p:PV} (hw:Zc all tm ⟨some d,.load t x,ty,pos,aft,grd⟩=some true) (hn:Nat.blt d n=true) (hx:Zd E tm x=X) (h:XC E t X H=some p) (hv:IsV p p') (hr:RegQ E P own n all r K (ZE tm (some d) p') H):RegQ E P own n all (⟨some d,.load t x,ty,pos,aft,grd⟩::r) K tm H:= .rLd hw hn hx h hv hr
theorem dLd {r:List Oper} {p:PV} (hw:Zc ops.toList tm ⟨some d,.load t x,ty,pos,aft,grd⟩=some true) (hn:Nat.blt d n=true) (hx:Zd E tm x=X) (h:XC E t X H=some p) (hv:IsV p p') (hk:okD E own n0 tm ⟨some d,.load t x,ty,pos,aft,grd⟩ H H=true) (hr:DrwQ E P own n ops n0 (i+1) r K (ZE tm (some d) p') H):DrwQ E P own n ops n0 i (⟨some d,.load t x,ty,pos,aft,grd⟩::r) K tm H:= .rLd hw hn hx h hv hk hr
theorem qAp {r:List Oper} {p:PV} (hw:Zc all tm ⟨some d,.call {callee:= .builtin .append,args:= #[x,y],argTypes:= #[t,u]},ty,pos,aft,grd⟩=some true) (hn:Nat.blt d n=true) (ho:own d=false) (hx:Zd E tm x=X) (hy:Zd E tm y=Y) (h:ZL E t u X Y H=some (p,H1)) (hr:RegQ E P own n all r K (ZE tm (some d) p) H1):RegQ E P own n all (⟨some d,.call {callee:= .builtin .append,args:= #[x,y],argTypes:= #[t,u]},ty,pos,aft,grd⟩::r) K tm H:= .rAp hw hn ho hx hy h hr
theorem dAp {r:List Oper} {p:PV} (hw:Zc ops.toList tm ⟨some d,.call {callee:= .builtin .append,args:= #[x,y],argTypes:= #[t,u]},ty,pos,aft,grd⟩=some true) (hn:Nat.blt d n=true) (ho:own d=false) (hx:Zd E tm x=X) (hy:Zd E tm y=Y) (h:ZL E t u X Y H=some (p,H1)) (hk:okD E own n0 tm ⟨some d,.call {callee:= .builtin .append,args:= #[x,y],argTypes:= #[t,u]},ty,pos,aft,grd⟩ H H1=true) (hr:DrwQ E P own n ops n0 (i+1) r K (ZE tm (some d) p) H1):DrwQ E P own n ops n0 i (⟨some d,.call {callee:= .builtin .append,args:= #[x,y],argTypes:= #[t,u]},ty,pos,aft,grd⟩::r) K tm H:= .rAp hw hn ho hx hy h hk hr
theorem qCl {r:List Oper} {p:PV} {f:Operand} {args:Array Operand} {k:FuncId} (hw:Zc all tm ⟨some d,.call {callee:= .value f,args:=args,argTypes:=ats},ty,pos,aft,grd⟩=some true) (hn:Nat.blt d n=true) (hf:Zd E tm f= .fn k caps) (ha:args.toList.map (Zd E tm)++caps=al) (h:CallOk E P k al H p H1) (hr:RegQ E P own n all r K (ZE tm (some d) p) H1):RegQ E P own n all (⟨some d,.call {callee:= .value f,args:=args,argTypes:=ats},ty,pos,aft,grd⟩::r) K tm H:= .rCall hw hn hf ha h (.any _) hr
theorem dCl {r:List Oper} {p:PV} {f:Operand} {args:Array Operand} {k:FuncId} (hw:Zc ops.toList tm ⟨some d,.call {callee:= .value f,args:=args,argTypes:=ats},ty,pos,aft,grd⟩=some true) (hn:Nat.blt d n=true) (hf:Zd E tm f= .fn k caps) (ha:args.toList.map (Zd E tm)++caps=al) (hc:Yx E own ⟨some d,.call {callee:= .value f,args:=args,argTypes:=ats},ty,pos,aft,grd⟩= .qu) (h:CallOk E P k al H p H) (hr:DrwQ E P own n ops n0 (i+1) r K (ZE tm (some d) p) H):DrwQ E P own n ops n0 i (⟨some d,.call {callee:= .value f,args:=args,argTypes:=ats},ty,pos,aft,grd⟩::r) K tm H:= .rCall hw hn hf ha hc h (.any _) hr
theorem dAq {r:List Oper} {p:PV} (hw:Zc ops.toList tm ⟨some d,.call {callee:= .builtin .append,args:= #[x,y],argTypes:= #[t,u]},ty,pos,aft,grd⟩=some true) (hn:Nat.blt d n=true) (ho:own d=false) (ht:own (d+5000)=true) (hx:Zd E tm x=X) (hy:Zd E tm y=Y) (h:∀ ro,ZL E t u X Y ⟨bx,ro,lv,nt⟩=some (p,⟨bx,ro,lv',nt'⟩)) (hr:DrwQ E P own n ops n0 (i+1) r K (ZE tm (some d) p) ⟨bx,ro,lv',nt'⟩):DrwQ E P own n ops n0 i (⟨some d,.call {callee:= .builtin .append,args:= #[x,y],argTypes:= #[t,u]},ty,pos,aft,grd⟩::r) K tm ⟨bx,ro,lv,nt⟩:= .rApT hw hn ho ht hx hy h hr
theorem qBs {r:List Oper} {ps:Array (Nat×Operand)} (hw:Zc all tm ⟨some d,.buildSlice t m ps,ty,pos,aft,grd⟩=some true) (hn:Nat.blt d n=true) (ho:own d=false) (h:Z8 E t m (ps.toList.map fun p=>(p.1,Zd E tm p.2))=some (es,el)) (hl:IsLL el el') (hf:Y0 el'=some el') (hr:RegQ E P own n all r K (ZE tm (some d) (.sl .full es el')) H):RegQ E P own n all (⟨some d,.buildSlice t m ps,ty,pos,aft,grd⟩::r) K tm H:= .rBs hw hn ho h hl hf hr
theorem dBs {r:List Oper} {ps:Array (Nat×Operand)} (hw:Zc ops.toList tm ⟨some d,.buildSlice t m ps,ty,pos,aft,grd⟩=some true) (hn:Nat.blt d n=true) (ho:own d=false) (h:Z8 E t m (ps.toList.map fun p=>(p.1,Zd E tm p.2))=some (es,el)) (hl:IsLL el el') (hf:Y0 el'=some el') (hk:okD E own n0 tm ⟨some d,.buildSlice t m ps,ty,pos,aft,grd⟩ H H=true) (hr:DrwQ E P own n ops n0 (i+1) r K (ZE tm (some d) (.sl .full es el')) H):DrwQ E P own n ops n0 i (⟨some d,.buildSlice t m ps,ty,pos,aft,grd⟩::r) K tm H:= .rBs hw hn ho h hl hf hk hr
theorem ZkM {r:PV} (h1:Wn E tm H fn.results.toList=some ps) (hp:IsL ps ps') (h2:frz3 0 H (one ps')=some r):RetQ E fn r .ret tm H:= .fin h1 hp h2
theorem ZkS {r:PV} (h1:Wn E tm H fn.results.toList=some ps) (hp:IsL ps ps') (h2:frz3 m H (one ps')=some r):RetM E fn m r .ret tm H:= .fin h1 hp h2
theorem Zj4 {r:PV} {m:Int} (h1:Wn E tm H fn.results.toList=some ps) (h2:frz3 0 H (one ps)=some (.int k m)) (he: .int k m=r):RetQ E fn r .ret tm H:= .end h1 h2 (.int _ _) he
theorem Zh4 {r:PV} (h1:Wn E tm H fn.results.toList=some ps) (h2:frz3 0 H (one ps)=some (.bool b)) (he: .bool b=r):RetQ E fn r .ret tm H:= .end h1 h2 (.bool _) he
end
theorem IsV.n {p:PV} (h:IsV p p':=by first|exact Go.Vm.IsV.int _ _|exact Go.Vm.IsV.str _|exact Go.Vm.IsV.slV _ _ _|exact Go.Vm.IsV.nils|exact Go.Vm.IsV.sl _ _ _|exact Go.Vm.IsV.ptrN|exact Go.Vm.IsV.aggN|exact Go.Vm.IsV.tupN|exact Go.Vm.IsV.fptr _ _|exact Go.Vm.IsV.own _ _ _ _|exact Go.Vm.IsV.fn _ _|exact Go.Vm.IsV.nilp|exact Go.Vm.IsV.nilm|exact Go.Vm.IsV.map _|exact Go.Vm.IsV.nilf|exact Go.Vm.IsV.any _):IsV p p':=h
section
variable {E:Env} {P:Program} {own:Tmp→Bool} {n:Nat} {Q:Ex→TM→Heap→Prop} {K:TM→Heap→Prop} {tm:TM} {H:Heap}
theorem g0 {r : List Oper} {p : PV} (hw : Zc all tm ⟨some d, OP, ty, pos, aft, grd⟩ = some true) (hn : Nat.blt d n = true) (h : aOp E (own d) (Zd E tm) OP H = some (p, H)) (hv : IsV p p')
  (hr:RegQ E P own n all r K (ZE tm (some d) p') H):RegQ E P own n all (⟨some d,OP,ty,pos,aft,grd⟩::r) K tm H:= .rOp hw hn h hv hr
theorem g1 {r : List Oper} {p : PV} (hw : Zc all tm ⟨some d, OP, ty, pos, aft, grd⟩ = some true) (hn : Nat.blt d n = true) (h : aOp E (own d) (Zd E tm) OP H = some (p, H1)) (hv : IsV p p') (hh : IsH H1 H1')
  (hr:RegQ E P own n all r K (ZE tm (some d) p') H1'):RegQ E P own n all (⟨some d,OP,ty,pos,aft,grd⟩::r) K tm H:= .rOpH hw hn h hv hh hr
theorem h0 {r : List Oper} {p : PV} (hw : Zc ops.toList tm ⟨some d, OP, ty, pos, aft, grd⟩ = some true) (hn : Nat.blt d n = true) (h : aOp E (own d) (Zd E tm) OP H = some (p, H)) (hv : IsV p p')
  (hk:okD E own n0 tm ⟨some d,OP,ty,pos,aft,grd⟩ H H=true) (hr:DrwQ E P own n ops n0 (i+1) r K (ZE tm (some d) p') H):DrwQ E P own n ops n0 i (⟨some d,OP,ty,pos,aft,grd⟩::r) K tm H:= .rOp hw hn h hv hk hr
theorem h1 {r : List Oper} {p : PV} (hw : Zc ops.toList tm ⟨some d, OP, ty, pos, aft, grd⟩ = some true) (hn : Nat.blt d n = true) (h : aOp E (own d) (Zd E tm) OP H = some (p, H1)) (hv : IsV p p') (hh : IsH H1 H1')
  (hk:okD E own n0 tm ⟨some d,OP,ty,pos,aft,grd⟩ H H1=true) (hr:DrwQ E P own n ops n0 (i+1) r K (ZE tm (some d) p') H1'):DrwQ E P own n ops n0 i (⟨some d,OP,ty,pos,aft,grd⟩::r) K tm H:= .rOpH hw hn h hv hh hk hr
theorem Ze (n:Nat) (b:Bool) (es:Nat) (el:List (List PV)):under n (slV b es el)=true:=by
 unfold slV
 cases el with
 |nil=>cases b<;>rfl
 |cons c r=>rfl
def Ziv (n0:Nat) (Q:Ex→TM→Heap→Prop) (ex:Ex) (tm:TM) (H:Heap):Prop:=
 Q ex tm H∨∃ tm2,(∀ t,tm2 t= .undef∨(tm2 t=tm t∧under n0 (tm t)=true))∧(H.bx.take n0).all (ZO n0)=true∧Q ex tm2 {H with bx:=H.bx.take n0}
structure DropQ (n0:Nat) (Q:Ex→TM→Heap→Prop) (ex:Ex) (tm:TM) (H:Heap):Prop where
 out:Ziv n0 Q ex tm H
theorem Wp.drop {c:Code} (h:Wp E P own n c (DropQ H.bx.length Q) tm H):Wp E P own n c Q tm H:=by
 obtain ⟨ex,tm',H',h1,⟨h2⟩⟩:=h.out
 rcases h2 with h2|⟨tm2,a,b,h3⟩
 · exact ⟨ex,tm',H',h1,h2⟩
 · exact ⟨ex,tm2,_,.drop _ _ _ _ _ _ _ h1 a b,h3⟩
theorem DropQ.ret {n0:Nat} (h:Q .ret tm H):DropQ n0 Q .ret tm H:=⟨.inl h⟩
theorem DropQ.exit {n0 i:Nat} (h:Q (.exit i) tm H):DropQ n0 Q (.exit i) tm H:=⟨.inl h⟩
theorem ZdA {l:List (Nat×PV)}:okL tm l→(l.all fun x=>under n x.2)=true→∀ t,ovr (fun _=> .undef) l t= .undef∨(ovr (fun _=> .undef) l t=tm t∧under n (tm t)=true):=by
 induction l with
 |nil=>intro _ _ t;exact .inl rfl
 | cons x r ih =>
   obtain ⟨d,v⟩:=x
   intro h hu t
   simp only [List.all_cons,Bool.and_eq_true] at hu
   simp only [ovr,ZE]
   split
   · rename_i e
     subst e
     exact .inr ⟨h.1.symm,by rw [h.1];exact hu.1⟩
   · exact ih h.2 hu.2 t
theorem DropQ.go (l : List (Nat × PV)) (hl : okL tm l) (hu : (l.all fun x => under n0 x.2) = true) (hb : bx.take n0 = bx') (hbu : bx'.all (ZO n0) = true)
  (h:Q ex (ovr (fun _=> .undef) l) ⟨bx',ro,lv,nt⟩):DropQ n0 Q ex tm ⟨bx,ro,lv,nt⟩:=by
 subst hb
 exact ⟨.inr ⟨_,ZdA hl hu,hbu,h⟩⟩
theorem dSt {r : List Oper} {a : Operand} {id : Nat} (hw : Zc ops.toList tm ⟨none, .store t a v, ty, pos, aft, grd⟩ = some true) (ht : E.T t = some ti)
  (ha:Zd E tm a= .ptr id es ix off) (hcs:(Zd E tm v).cells=cs) (hn:IsL cs cs') (hl:(Nat.beq cs'.length ti.size&&Nat.blt 0 ti.size)=true) (hc:cs'.all Zp=true) (hwr:H.wr (.ptr id es ix off) cs'=some H1) (hh:IsH H1 H1')
  (hb:(nth H1'.bx id).isSome=true) (hf:own (30000+i)=Nat.ble n0 id) (hq:(match own 29999 with|false=>true|true=>Nat.beq id (tgB own i))=true) (hr:DrwQ E P own n ops n0 (i+1) r K tm H1'):DrwQ E P own n ops n0 i (⟨none,.store t a v,ty,pos,aft,grd⟩::r) K tm H:=by
 have e:=hn.eq
 subst e
 subst hcs
 have e2:=hh.eq
 subst e2
 simp only [Bool.and_eq_true] at hl
 have h1:=Nat.eq_of_beq_eq_true hl.1
 have h2:0<ti.size:=Nat.le_of_ble_eq_true hl.2
 obtain ⟨b,hb⟩:=Option.isSome_iff_exists.1 hb
 exact .opS hw ht ha ⟨h1,h2,hc⟩ hwr hb hf (fun e=>by rw [e] at hq;exact Nat.eq_of_beq_eq_true hq) hr
theorem qCv {r : List Oper} {p : PV} (hw : Zc all tm ⟨some d, .convert t u x, ty, pos, aft, grd⟩ = some true) (hn : Nat.blt d n = true) (hx : Zd E tm x = X) (h : Zan E t u X = some p) (hv : IsV p p')
  (hr:RegQ E P own n all r K (ZE tm (some d) p') H):RegQ E P own n all (⟨some d,.convert t u x,ty,pos,aft,grd⟩::r) K tm H:= .run hw rfl hn (p:=p) (by simp only [aOp,hx,h,Option.map_some]) hv hr
theorem dCv {r : List Oper} {p : PV} (hw : Zc ops.toList tm ⟨some d, .convert t u x, ty, pos, aft, grd⟩ = some true) (hn : Nat.blt d n = true) (hx : Zd E tm x = X) (h : Zan E t u X = some p) (hv : IsV p p')
  (hk:okD E own n0 tm ⟨some d,.convert t u x,ty,pos,aft,grd⟩ H H=true) (hr:DrwQ E P own n ops n0 (i+1) r K (ZE tm (some d) p') H):DrwQ E P own n ops n0 i (⟨some d,.convert t u x,ty,pos,aft,grd⟩::r) K tm H:= .run hw rfl hn (p:=p) (by simp only [aOp,hx,h,Option.map_some]) hv hk hr
theorem IsV.ptrM {b c : Nat} (h1 : a = a' := by first | exact (rfl : (_ : Nat) = 0) | exact (rfl : (_ : Nat) = 1) | exact (rfl : (_ : Nat) = 2) | exact (rfl : (_ : Nat) = 3) | exact (rfl : (_ : Nat) = 4) | exact (rfl : (_ : Nat) = 5) | exact (rfl : (_ : Nat) = 6) | exact (rfl : (_ : Nat) = 7) | exact (rfl : (_ : Nat) = 8) | exact (rfl : (_ : Nat) = 9) | exact (rfl : (_ : Nat) = 10) | exact (rfl : (_ : Nat) = 11) | exact (rfl : (_ : Nat) = 12) | exact (rfl : (_ : Nat) = 13) | exact (rfl : (_ : Nat) = 14) | exact (rfl : (_ : Nat) = 15) | exact (rfl : (_ : Nat) = 16) | exact (rfl : (_ : Nat) = 17) | exact (rfl : (_ : Nat) = 18) | exact (rfl : (_ : Nat) = 19) | exact (rfl : (_ : Nat) = 20) | exact (rfl : (_ : Nat) = 21) | exact (rfl : (_ : Nat) = 22) | exact (rfl : (_ : Nat) = 23) | exact (rfl : (_ : Nat) = 24) | exact (rfl : (_ : Nat) = 25) | exact (rfl : (_ : Nat) = 26) | exact (rfl : (_ : Nat) = 27) | exact (rfl : (_ : Nat) = 28) | exact (rfl : (_ : Nat) = 29) | exact (rfl : (_ : Nat) = 30) | exact (rfl : (_ : Nat) = 31) | exact (rfl : (_ : Nat) = 32) | exact (rfl : (_ : Nat) = 33) | exact (rfl : (_ : Nat) = 34) | exact (rfl : (_ : Nat) = 35) | exact (rfl : (_ : Nat) = 36) | exact (rfl : (_ : Nat) = 37) | exact (rfl : (_ : Nat) = 38) | exact (rfl : (_ : Nat) = 39) | exact (rfl : (_ : Nat) = 40) | exact (rfl : (_ : Nat) = 41) | exact (rfl : (_ : Nat) = 42) | exact (rfl : (_ : Nat) = 43) | exact (rfl : (_ : Nat) = 44) | exact (rfl : (_ : Nat) = 45) | exact (rfl : (_ : Nat) = 46) | exact (rfl : (_ : Nat) = 47) | exact rfl)
  (h2:b=b':=by first|exact (rfl:(_:Nat)=1)|exact (rfl:(_:Nat)=2)|exact (rfl:(_:Nat)=3)|exact (rfl:(_:Nat)=4)|exact (rfl:(_:Nat)=5)|exact (rfl:(_:Nat)=6)|exact (rfl:(_:Nat)=7)|exact (rfl:(_:Nat)=8)|exact rfl)
  (h3:c=c':=by exact rfl) (h4:d=d':=by exact rfl):IsV (.ptr a b c d) (.ptr a' b' c' d'):= .ptr4 h1 h2 h3 h4
theorem dAl {r : List Oper} {p : PV} (hw : Zc ops.toList tm ⟨some d, .alloc e, ty, pos, aft, grd⟩ = some true) (hn : Nat.blt d n = true)
  (he:E.T e=some ei) (hz:(Nat.beq ei.zero.cells.length ei.size&&Nat.blt 0 ei.size)=true) (hv:IsV (.ptr (n0+i) ei.size 0 0) p) (hs:IsH (ZY H (n0+i) (.cells ei.size [ei.zero.cells])) H1)
  (hr:DrwQ E P own n ops n0 (i+1) r K (ZE tm (some d) p) H1):DrwQ E P own n ops n0 i (⟨some d,.alloc e,ty,pos,aft,grd⟩::r) K tm H:=by
 have e1:=hv.eq
 subst e1
 exact .al hw hn he hz hs.eq hr
theorem dWA {id : Nat} (hE : TOk E P) (hm : P.follows .mixedOrders = true) (hs : (Zbi E own ops && !(alL E own ops.toList 0).isEmpty) = true) (hro : H.ro = 0) (hH : IsH (UA H ops.size) H0)
  (h:DrwQ E P own n ops H.bx.length 0 ops.toList (Q .normal) tm H0):Wp E P own n (.region id ops true) Q tm H:=by
 simp only [Bool.and_eq_true,Bool.not_eq_true'] at hs
 have hr:Xz E own ops=ops.size:=by
  unfold Xz
  cases e:alL E own ops.toList 0 with
  | nil=>rw [e] at hs;simp at hs
  | cons a l=>rfl
 have e:=hH.eq
 subst e
 exact .drawA hE hm hs.1 hro (by rw [hr]) h
end
section
variable {E:Env} {P:Program}
theorem ZbQ {ext:List Box} (h:i<bx.length):(⟨bx++ext,ro,lv,nt⟩:Heap).liveAt i↔(⟨bx,ro,lv,nt⟩:Heap).liveAt i:=by
 simp only [Heap.liveAt,List.getElem?_append_left h]
theorem ZeV {ext:List Box} (hl:bx'.length=bx.length) (h:bx.length≤i):(⟨bx'++ext,ro',lv',nt'⟩:Heap).liveAt i↔(⟨bx++ext,ro,lv,nt⟩:Heap).liveAt i:=by
 simp only [Heap.liveAt,List.getElem?_append_right h,List.getElem?_append_right (show bx'.length≤i by omega),hl]
def Gh.glue (g' g:Gh) (n:Nat):Gh:={g' with σ:=fun i=>if i<n then g'.σ i else g.σ i,κ:=fun i=>if i<n then g'.κ i else g.κ i}
theorem CallOk.ext {f : FuncId} {args : List PV} {r : PV} {bx bx' ext : List Box} {ro nt nt' : Nat} {lv lv' : List Nat} (h : CallOk E P f args ⟨bx, ro, lv, nt⟩ r ⟨bx', ro, lv', nt'⟩) (hl : bx'.length = bx.length)
  (hu:Zo bx.length args=true) (hb:bx.all (ZO bx.length)=true) (hro:ro≤bx.length):CallOk E P f args ⟨bx++ext,ro,lv,nt⟩ r ⟨bx'++ext,ro,lv',nt'⟩:=by
 intro g w vals hi hg hv
 have htake:(bx++ext).take bx.length=bx:=by simp
 have hic:=Qr (n:=bx.length) hi (by simp) hro (by simpa [htake] using hb)
 simp only [htake] at hic
 have hvc:VL (g.cutσ bx.length) args vals.toList:=⟨hv.1,fun i h1 h2=>(hv.2 i h1 h2).cut (YF hu i h1)⟩
 refine UponCall.mono (fun v w' ⟨g',hp,hi',k⟩=>?_) (h (g.cutσ bx.length) w vals hic hg hvc)
 have hsd:∀ i,bx.length≤i→g'.σ i=none:=fun i hi0=>hi'.sd i (by simpa [hl] using hi0)
 have s1:∀ i,i<bx.length→(g'.glue g bx.length).σ i=g'.σ i:=fun i h=>by simp [Gh.glue,h]
 have s2:∀ i,bx.length≤i→(g'.glue g bx.length).σ i=g.σ i:=fun i h=>by simp [Gh.glue,Nat.not_lt.2 h]
 have le1:g'.Le (g'.glue g bx.length):=⟨fun _ _ _ h=>h,fun i b h=>(by
  by_cases e:i<bx.length
  · rw [s1 i e];exact h
  · rw [hsd i (by omega)] at h;cases h),fun _ _ h=>h,fun i b h=>(by
  by_cases e:i<bx.length
  · simp [Gh.glue,e]
  · rw [hsd i (by omega)] at h;cases h),rfl⟩
 have le2:g.Le (g'.glue g bx.length):=⟨fun b o v h=>k.le.S b o v h,fun i b h=>(by
  by_cases e:i<bx.length
  · rw [s1 i e];exact k.le.σ i b (by rw [YU e];exact h)
  · rw [s2 i (by omega)];exact h),fun t x h=>k.le.τ t x h,fun i b h=>(by
  by_cases e:i<bx.length
  · simp only [Gh.glue, e, if_true]
    exact k.le.κ i b (by rw [YU e];exact h)
  · simp [Gh.glue,e]),k.le.mono⟩
 have cutlive:∀ {i},(⟨bx,ro,lv,nt⟩:Heap).liveAt i→i<bx.length∧(⟨bx++ext,ro,lv,nt⟩:Heap).liveAt i:=fun {i} h=>by
  obtain ⟨b,hb,ha⟩:=h
  have:=ZJ hb
  exact ⟨this,(ZbQ this).2 ⟨b,hb,ha⟩⟩
 have shutE:∀ j b,bx.length≤j→(⟨bx++ext,ro,lv,nt⟩:Heap).liveAt j→g.σ j=some b→Shut (g.cutσ bx.length) ⟨bx,ro,lv,nt⟩ b:=fun j b hj hlj hs=>
  ⟨fun id _ hlid he => by
    obtain ⟨h1,h2⟩:=Z5 he
    have:=hi.inj id j b (cutlive hlid).2 hlj h2 hs
    omega,fun t lo hi2 ht he=>(hi.tk t b lo hi2 ht he).2.2 j hlj hs⟩
 have heapE:∀ j b,bx.length≤j→(⟨bx++ext,ro,lv,nt⟩:Heap).liveAt j→g.σ j=some b→w'.heap[b]? = w.heap[b]? ∧∀ o,g'.S b o=g.S b o:=fun j b hj hlj hs=>
  ⟨k.heap b (hi.sz j b hs) (shutE j b hj hlj hs),k.store b (hi.sz j b hs) (shutE j b hj hlj hs)⟩
 have notnew:∀ i j b,i<bx.length→(⟨bx',ro,lv',nt'⟩:Heap).liveAt i→bx.length≤j→(⟨bx++ext,ro,lv,nt⟩:Heap).liveAt j→g'.σ i=some b→g.σ j=some b→False:=fun i j b hi1 hli hj hlj h1 h2=>by
  cases e:(g.cutσ bx.length).σ i with
  | some b0 =>
    have:=k.le.σ _ _ e
    rw [h1] at this
    cases this
    have hl0:=k.al i b e hli
    have:=hi.inj i j b (cutlive hl0).2 hlj (Z5 e).2 h2
    omega
  | none =>
    rcases k.new i b e h1 with h3|⟨id',_,h4,h5⟩
    · have:=hi.sz j b h2;omega
    · have h6 := hi.inj id' j b (cutlive h4).2 hlj (Z5 h5).2 h2
      have:=(Z5 h5).1
      omega
 have getl:∀ i,i<bx.length→(bx'++ext)[i]? = bx'[i]? :=fun i h=>List.getElem?_append_left (by omega)
 have getr:∀ i,bx.length≤i→(bx'++ext)[i]? = (bx++ext)[i]? :=fun i h=>by
  rw [List.getElem?_append_right (by omega),List.getElem?_append_right h,hl]
 have liveSplit:∀ i,(⟨bx'++ext,ro,lv',nt'⟩:Heap).liveAt i→(i<bx.length∧(⟨bx',ro,lv',nt'⟩:Heap).liveAt i)∨(bx.length≤i∧(⟨bx++ext,ro,lv,nt⟩:Heap).liveAt i):=fun i h=>by
  by_cases e:i<bx.length
  · exact .inl ⟨e,(ZbQ (by omega)).1 h⟩
  · exact .inr ⟨by omega,(ZeV hl (by omega)).1 h⟩
 refine ⟨g'.glue g bx.length,hp.mono le1,⟨hi'.st,fun id es el h=>?_,fun id es h=>?_,fun id T cs h=>?_,fun i j b h1 h2 h3 h4=>?_,fun id h=>?_,hi'.td,fun t b lo hi2 ht hτ=>?_,hi'.tinj,hi'.nd,hi'.lt,fun id b h=>?_,?_,fun id b c T m h1 h2 h3=>?_⟩,
  ⟨le2,fun b hb hs=>k.heap b hb ?_,fun b hb hs=>k.store b hb ?_,k.size,fun id b h h'=>?_,fun t b lo hi2 h h'=>k.tnew t b lo hi2 h h',rfl,by simp [hl],fun id h=>?_,k.nt,k.lv,fun id b h h'=>?_,fun id h h'=>?_,k.so⟩⟩
 · by_cases e : id < bx.length
   · obtain ⟨b, c, T, h1, h2, h3, h4, h5, h6⟩ := hi'.bx id es el (by rw [← getl id e]; exact h)
     exact ⟨b,c,T,by rw [s1 id e];exact h1,h2,h3,h4,fun i hi0 j hj=>let ⟨v,a,x⟩:=h5 i hi0 j hj;⟨v,a,x.mono le1⟩,h6⟩
   · have hg0 : (bx ++ ext)[id]? = some (.cells es el) := by rw [← getr id (by omega)]; exact h
     obtain ⟨b,c,T,h1,h2,h3,h4,h5,h6⟩:=hi.bx id es el hg0
     obtain ⟨hh,hS⟩:=heapE id b (by omega) ⟨_,hg0,trivial⟩ h1
     exact ⟨b,c,T,by rw [s2 id (by omega)];exact h1,by rw [hh];exact h2,h3,h4,fun i hi0 j hj=>let ⟨v,a,x⟩:=h5 i hi0 j hj;⟨v,a,x.mono le2⟩,fun o=>(hS o).trans (h6 o)⟩
 · by_cases e : id < bx.length
   · obtain ⟨b, c, T, h1, h2, h3, h4, h5⟩ := hi'.mp id es (by rw [← getl id e]; exact h)
     exact ⟨b,c,T,by rw [s1 id e];exact h1,h2,h3,fun i hi0=>let ⟨a,z,x,y⟩:=h4 i hi0;⟨a,z,x.mono le1,y.mono le1⟩,h5⟩
   · have hg0 : (bx ++ ext)[id]? = some (.map es) := by rw [← getr id (by omega)]; exact h
     obtain ⟨b,c,T,h1,h2,h3,h4,h5⟩:=hi.mp id es hg0
     obtain ⟨hh,hS⟩:=heapE id b (by omega) ⟨_,hg0,trivial⟩ h1
     exact ⟨b,c,T,by rw [s2 id (by omega)];exact h1,by rw [hh];exact h2,h3,fun i hi0=>let ⟨a,z,x,y⟩:=h4 i hi0;⟨a,z,x.mono le2,y.mono le2⟩,fun o=>(hS o).trans (h5 o)⟩
 · by_cases e : id < bx.length
   · obtain ⟨b, c, h1, h2, h3, h4, h5⟩ := hi'.sp id T cs (by rw [← getl id e]; exact h)
     exact ⟨b,c,by rw [s1 id e];exact h1,h2,h3,fun j hj=>let ⟨v,a,x⟩:=h4 j hj;⟨v,a,x.mono le1⟩,h5⟩
   · have hg0 : (bx ++ ext)[id]? = some (.sp T cs) := by rw [← getr id (by omega)]; exact h
     obtain ⟨b,c,h1,h2,h3,h4,h5⟩:=hi.sp id T cs hg0
     obtain ⟨hh,hS⟩:=heapE id b (by omega) ⟨_,hg0,trivial⟩ h1
     exact ⟨b,c,by rw [s2 id (by omega)];exact h1,by rw [hh];exact h2,h3,fun j hj=>let ⟨v,a,x⟩:=h4 j hj;⟨v,a,x.mono le2⟩,fun o=>(hS o).trans (h5 o)⟩
 · rcases liveSplit i h1 with ⟨a1, a2⟩ | ⟨a1, a2⟩ <;> rcases liveSplit j h2 with ⟨b1, b2⟩ | ⟨b1, b2⟩
   · rw [s1 i a1] at h3;rw [s1 j b1] at h4;exact hi'.inj i j b a2 b2 h3 h4
   · rw [s1 i a1] at h3;rw [s2 j b1] at h4;exact (notnew i j b a1 a2 b1 b2 h3 h4).elim
   · rw [s2 i a1] at h3;rw [s1 j b1] at h4;exact (notnew j i b b1 b2 a1 a2 h4 h3).elim
   · rw [s2 i a1] at h3;rw [s2 j b1] at h4;exact hi.inj i j b a2 b2 h3 h4
 · have h : bx.length + ext.length ≤ id := by simpa [hl] using h
   rw [s2 id (by omega)]
   exact hi.sd id (by simpa using h)
 · obtain ⟨h3, h5, h6⟩ := hi'.tk t b lo hi2 ht hτ
   refine ⟨h3,h5,fun id hlid he=>?_⟩
   rcases liveSplit id hlid with ⟨a1,a2⟩|⟨a1,a2⟩
   · rw [s1 id a1] at he;exact h6 id a2 he
   · rw [s2 id a1] at he
     cases e:(g.cutσ bx.length).τ t with
     | some x =>
       have:=k.le.τ _ _ e
       have hτ':g'.τ t=some (b,lo,hi2):=hτ
       rw [hτ'] at this
       cases this
       rcases k.lv t ht with h7|h7
       · exact (hi.tk t b lo hi2 h7 e).2.2 id a2 he
       · rw [show (g.cutσ bx.length).τ t=g.τ t from rfl,hi.td t h7] at e;cases e
     | none =>
       rcases k.tnew t b lo hi2 e hτ with h7|⟨t',lo',hi3,h8,h9⟩
       · have:=hi.sz id b he;omega
       · exact (hi.tk t' b lo' hi3 h8 h9).2.2 id a2 he
 · by_cases e : id < bx.length
   · rw [s1 id e] at h;exact hi'.sz id b h
   · rw [s2 id (by omega)] at h;exact Nat.lt_of_lt_of_le (hi.sz id b h) k.size
 · simp [hl];omega
 · rcases liveSplit id h1 with ⟨a1, a2⟩ | ⟨a1, a2⟩
   · rw [s1 id a1] at h2
     simp only [Gh.glue,a1,if_true]
     exact hi'.rm id b c T m a2 h2 h3
   · rw [s2 id a1] at h2
     simp only [Gh.glue,Nat.not_lt.2 a1,if_false]
     rw [(heapE id b a1 a2 h2).1] at h3
     exact hi.rm id b c T m a2 h2 h3
 · exact ⟨fun id hr hlid he=>hs.1 id hr (cutlive hlid).2 (Z5 he).2,hs.2⟩
 · exact ⟨fun id hr hlid he=>hs.1 id hr (cutlive hlid).2 (Z5 he).2,hs.2⟩
 · by_cases e : id < bx.length
   · rw [s1 id e] at h'
     exact (k.new id b (by rw [YU e];exact h) h').imp (fun h=>h) fun ⟨id',a,b,c⟩=>⟨id',a,(cutlive b).2,(Z5 c).2⟩
   · rw [s2 id (by omega),h] at h';cases h'
 · have h : id < ro := h
   have hx:=k.bx id h
   rw [getl id (by omega),List.getElem?_append_left (by omega)]
   exact hx
 · rcases liveSplit id h' with ⟨a1, a2⟩ | ⟨a1, a2⟩
   · exact (cutlive (k.al id b (by rw [YU a1];exact h) a2)).2
   · exact a2
 · by_cases e : id < bx.length
   · rw [s1 id e];exact k.ns id e (by rw [YU e];exact h')
   · rw [s2 id (by omega)];exact h'
structure RetE (E:Env) (fn:Func) (r:PV) (H':Heap) (ex:Ex) (tm:TM) (H1:Heap):Prop where
 nx:∀ i,ex≠ .exit i
 res:∃ ps,Wn E tm H1 fn.results.toList=some ps∧one ps=r
 hp:H1=H'
theorem Zs (hE : TOk E P) {own : Tmp → Bool} {c : Code} (hf : FnOk P f fn c) {r : PV} {H : Heap}
  (h:Wp E P own fn.ntmps c (RetE E fn r H') (tm0 args) H):CallOk E P f args H r H':=by
 obtain ⟨ex,tm',H1,h1,h2⟩:=h.out
 obtain ⟨ps,h3,rfl⟩:=h2.res
 obtain rfl:=h2.hp
 exact WB (own:=own) hE hf h1 h2.nx h3
structure DropF (n0:Nat) (Q:Ex→TM→Heap→Prop) (ex:Ex) (tm:TM) (H:Heap):Prop where
 out:DropQ n0 Q ex tm H
theorem U4 (hE : TOk E P) {own : Tmp → Bool} {c : Code} (hf : FnOk P f fn c) {r : PV} {H : Heap}
  (h:Wp E P own fn.ntmps c (DropF H.bx.length (RetE E fn r H')) (tm0 args) H):CallOk E P f args H r H':=by
 refine Zs (own:=own) hE hf (Wp.drop ?_)
 obtain ⟨ex,tm',H1,h1,h2⟩:=h.out
 exact ⟨ex,tm',H1,h1,h2.out⟩
theorem DropF.ret {Q : Ex → TM → Heap → Prop} {tm : TM} (l : List (Nat × PV)) (hl : okL tm l) (hu : (l.all fun x => under n0 x.2) = true) (hb : bx.take n0 = bx') (hbu : bx'.all (ZO n0) = true)
  (h:Q ex (ovr (fun _=> .undef) l) ⟨bx',ro,lv,nt⟩):DropF n0 Q ex tm ⟨bx,ro,lv,nt⟩:=⟨DropQ.go l hl hu hb hbu h⟩
theorem RetE.ret {fn:Func} {r:PV} {H' H1:Heap} {tm:TM} {ps:List PV} (h1:Wn E tm H1 fn.results.toList=some ps) (h2:one ps=r) (h3:H1=H'):RetE E fn r H' .ret tm H1:=⟨fun i h=>(by cases h),⟨ps,h1,h2⟩,h3⟩
theorem RetE.go {r:PV} {tm:TM} (h1:Wn E tm H1 fn.results.toList=some ps) (h2:one ps=r) (h3:H1=H'):RetE E fn r H' .normal tm H1:=⟨fun i h=>(by cases h),⟨ps,h1,h2⟩,h3⟩
structure RetP (E:Env) (fn:Func) (r:PV) (Pr:Heap→Prop) (ex:Ex) (tm:TM) (H1:Heap):Prop where
 nx:∀ i,ex≠ .exit i
 res:∃ ps,Wn E tm H1 fn.results.toList=some ps∧one ps=r
 hp:Pr H1
theorem RetP.ret {fn:Func} {r:PV} {Pr:Heap→Prop} {H1:Heap} {tm:TM} {ps:List PV} (h1:Wn E tm H1 fn.results.toList=some ps) (h2:one ps=r) (h3:Pr H1):RetP E fn r Pr .ret tm H1:=⟨fun i h=>(by cases h),⟨ps,h1,h2⟩,h3⟩
theorem RetP.go {r:PV} {Pr:Heap→Prop} {tm:TM} (h1:Wn E tm H1 fn.results.toList=some ps) (h2:one ps=r) (h3:Pr H1):RetP E fn r Pr .normal tm H1:=⟨fun i h=>(by cases h),⟨ps,h1,h2⟩,h3⟩
structure RetR (E:Env) (fn:Func) (Pr:PV→Heap→Prop) (ex:Ex) (tm:TM) (H1:Heap):Prop where
 nx:∀ i,ex≠ .exit i
 res:∃ ps,Wn E tm H1 fn.results.toList=some ps∧Pr (one ps) H1
theorem YS (hE : TOk E P) {own : Tmp → Bool} {c : Code} (hf : FnOk P f fn c) {H : Heap}
  (h:Wp E P own fn.ntmps c (RetR E fn Pr) (tm0 args) H):∃ r H',CallOk E P f args H r H'∧Pr r H':=by
 obtain ⟨ex,tm',H1,h1,h2⟩:=h.out
 obtain ⟨ps,h3,h4⟩:=h2.res
 exact ⟨_,H1,WB (own:=own) hE hf h1 h2.nx h3,h4⟩
theorem RetR.ret {fn:Func} {Pr:PV→Heap→Prop} {H1:Heap} {tm:TM} {ps:List PV} (h1:Wn E tm H1 fn.results.toList=some ps) (h3:Pr (one ps) H1):RetR E fn Pr .ret tm H1:=⟨fun i h=>(by cases h),ps,h1,h3⟩
theorem RetR.go {tm:TM} (h1:Wn E tm H1 fn.results.toList=some ps) (h3:Pr (one ps) H1):RetR E fn Pr .normal tm H1:=⟨fun i h=>(by cases h),ps,h1,h3⟩
theorem ZhF {H:Heap} {id n:Nat} (hb:nth H.bx id=some (.cells es el)) (he:nth el ix=some cs) (hl:off+n≤cs.length):H.rd (.ptr id es ix off) n=some ((cs.drop off).take n):=by
 simp only [Heap.rd,hb,he,if_true,if_pos hl]
theorem Ze4 {H : Heap} {id : Nat} {old : List PV} (hb : nth H.bx id = some (.cells es el)) (he : nth el ix = some old) (hl : off + cs.length ≤ old.length) (hro : H.ro ≤ id) :
  H.wr (.ptr id es ix off) cs=some {H with bx:=H.bx.set id (.cells es (el.set ix (old.take off++(cs++old.drop (off+cs.length)))))}:=by
 simp only [Heap.wr,hb,he,if_true,if_pos hl,Heap.put,if_neg (Nat.not_lt.2 hro)]
theorem ZfD {H : Heap} {id : Nat} {v : PV} (ht : E.T t = some ti) (hk : VG ti.tk = false) (hb : nth H.bx id = some (.cells es el)) (he : nth el ix = some cs) (hv : nth cs off = some v) :
  XC E t (.ptr id es ix off) H=some v:=by
 simp only [XC,ht,hk]
 rw [Zr] at hv
 have hlt:=ZJ hv
 have h1:(cs.drop off).take 1= [v]:=by
  rw [List.drop_eq_getElem_cons hlt]
  simp [Wu hv]
 simp only [Bool.false_eq_true,if_false]
 rw [ZhF hb he (by omega),h1]
 simp [Zfn,hk]
theorem ZfP {id len:Nat} (ht:E.T t=some ti) (hk:ti.tk= .slice e) (he:E.T e=some ei) (hes:ei.size=es) (hj:j<len):ZP E t (.own id es ix len) (.int k (j:Int))=some (.ptr id es (ix+j) 0):=by
 have hn:nat? (.int k (j:Int))=some j:=by simp [nat?]
 simp only [ZP,ht,hn,hk,he,if_pos hes,if_pos hj]
end
section
variable {E:Env} {P:Program} {own:Tmp→Bool} {n:Nat} {K:TM→Heap→Prop} {tm:TM} {H:Heap}
end
section
variable {E:Env} {P:Program}
theorem CallOk.shed {r : PV} (h : CallOk E P f args ⟨bx, ro, lv, nt⟩ r ⟨bx', ro', lv', nt'⟩) (hl : bx.length ≤ bx'.length) (hro : ro' ≤ bx.length)
  (hu:under bx.length r=true) (hb:(bx'.take bx.length).all (ZO bx.length)=true):CallOk E P f args ⟨bx,ro,lv,nt⟩ r ⟨bx'.take bx.length,ro',lv',nt'⟩:=by
 intro g w vals hi hg hv
 refine UponCall.mono (fun v w' ⟨g',hp,hi',k⟩=>?_) (h g w vals hi hg hv)
 exact ⟨g'.cutσ bx.length,hp.cut hu,Qr hi' hl hro hb,Zci hi k⟩
theorem CallOk.free {r : PV} (h : CallOk E P f args ⟨[], 0, lv, nt⟩ r ⟨bx', 0, lv', nt'⟩) (ha : Zo 0 args = true) (hu : under 0 r = true) (bx : List Box) :
  CallOk E P f args ⟨bx,0,lv,nt⟩ r ⟨bx,0,lv',nt'⟩:=by
 have h1:=h.shed (Nat.zero_le _) (Nat.le_refl _) hu rfl
 have h2:=CallOk.ext (bx:=[]) (bx':=[]) (ext:=bx) (by simpa using h1) rfl ha rfl (Nat.le_refl _)
 simpa using h2
end
section
variable {E:Env} {P:Program} {own:Tmp→Bool} {n:Nat} {Q:Ex→TM→Heap→Prop} {tm:TM} {H:Heap}
def Zju (o:Oper):Bool:=match o.op with
 | .alloc _=>true
 | .box _ _=>true
 |_=>false
theorem dWS {id:Nat} (hE:TOk E P) (hm:P.follows .mixedOrders=true) (_hal:ops.toList.any Zju=false) (hs:ZgV E own ops=true) (hro:H.ro=0) (h:DrwQ E P own n ops H.bx.length 0 ops.toList (Q .normal) tm H):Wp E P own n (.region id ops true) Q tm H:= .drawS hE hm hs hro h
theorem dWB {id : Nat} (hE : TOk E P) (hm : P.follows .mixedOrders = true) (_hal : ops.toList.any Zju = true) (hs : (Zbi E own ops && !(alL E own ops.toList 0).isEmpty) = true) (hro : H.ro = 0) (hH : IsH (UA H ops.size) H0)
  (h:DrwQ E P own n ops H.bx.length 0 ops.toList (Q .normal) tm H0):Wp E P own n (.region id ops true) Q tm H:=dWA hE hm hs hro hH h
end
section
variable {E:Env} {P:Program} {own:Tmp→Bool} {n:Nat} {K:TM→Heap→Prop} {tm:TM} {H:Heap}
theorem qBd {r : List Oper} {ps : Array (Nat × Operand)} {X : List (Nat × PV)} {p : PV} (hw : Zc all tm ⟨some d, .build t ps, ty, pos, aft, grd⟩ = some true) (hn : Nat.blt d n = true) (hx : (ps.toList.map fun p => (p.1, Zd E tm p.2)) = X) (h : U3 E t X = some p) (hv : IsV p p')
  (hr:RegQ E P own n all r K (ZE tm (some d) p') H):RegQ E P own n all (⟨some d,.build t ps,ty,pos,aft,grd⟩::r) K tm H:= .run hw rfl hn (p:=p) (by simp only [aOp,hx,h,Option.map_some]) hv hr
end
inductive Tm where
 |mk (kind:Int) (name:List UInt8) (sort:Int) (nil:Bool) (kz:List Tm)
variable {l:List Tm}
mutual
def Tm.cells:Tm→List PV
 | .mk k nm s b kz=>[.int .i64 k,.str nm,.int .i64 s,slV b 4 (Zb kz)]
def Zb:List Tm→List (List PV)
 | []=>[]
 |t::r=>t.cells::Zb r
end
mutual
def Tm.size:Tm→Nat
 | .mk _ _ _ _ kz=>1+ZW kz
def ZW:List Tm→Nat
 | []=>0
 |t::r=>t.size+ZW r
end
theorem X8:∀ l:List Tm,Zb l=l.map Tm.cells
 | []=>rfl
 |t::r=>by simp [Zb,X8 r]
theorem Za (l:List Tm):(Zb l).length=l.length:=by simp [X8]
theorem Zh {k : Int} {nm : List UInt8} {s : Int} {kz : List Tm} (h : l[i]? = some (.mk k nm s b kz)) :
  (Zb l)[i]? = some [.int .i64 k,.str nm,.int .i64 s,slV b 4 (Zb kz)]:=by
 simp [X8,h,Tm.cells]
theorem U2:∀ {i:Nat} {t:Tm},l[i]? = some t→ZW (l.take (i+1))=ZW (l.take i)+t.size:=by
 induction l with
 |nil=>intro i t h;simp at h
 | cons a r ih =>
   intro i t h
   cases i with
   | zero=>simp at h;subst h;simp [ZW]
   | succ i=>simp at h;simp only [List.take_succ_cons,ZW,ih h];omega
theorem WX (l:List Tm) (i:Nat):ZW (l.take i)≤ZW l:=by
 induction l generalizing i with
 |nil=>simp
 | cons a r ih => cases i with
   | zero=>simp [ZW]
   | succ i=>simp only [List.take_succ_cons,ZW];have:=ih i;omega
theorem Un {t:Tm} (h:t∈l):t.size≤ZW l:=by
 induction l with
 |nil=>simp at h
 | cons a r ih =>
   simp only [ZW]
   rcases List.mem_cons.1 h with rfl|h
   · omega
   · have:=ih h;omega
theorem Zf {tm:TM} {l:List (Nat×PV)} (h:okL tm l):tm=ovr tm l:=(Zcb h).symm
theorem Zz {a b:Int} (h:a=b):PV.int k a=PV.int k b:=by rw [h]
inductive Tm.Ok:Tm→Prop
 |mk {k:Int} {nm:List UInt8} {s:Int} {b:Bool} {kz:List Tm} (hk:(Lit.int .i64 k).wf=true) (hs:(Lit.int .i64 s).wf=true) (hn:nm.length≤maxLen) (hl:kz.length≤maxLen) (h:∀ t,t∈kz→t.Ok):Tm.Ok (.mk k nm s b kz)
theorem YB {n:Nat} (h:n<9223372036854775808):IntKind.i64.wrap (n:Int)=(n:Int):=IntWalk.i64_in _ (by omega)
mutual
def Tm.budget:Tm→Int→Int
 | .mk _ nm _ _ kz,n=>if n≤0∨40<nm.length then -1 else Xt kz (n-1)
def Xt:List Tm→Int→Int
 | [],n=>n
 |t::r,n=>if t.budget n<0 then -1 else Xt r (t.budget n)
end
mutual
theorem Tm.budget_eq:∀ (t:Tm) (n:Int),0≤t.budget n→t.budget n=n-(t.size:Int)
 | .mk k nm s b kz, n, h => by
   simp only [Tm.budget] at h ⊢
   split at h
   · omega
   · rename_i hc
     rw [if_neg hc,U1 kz (n-1) (by omega) h]
     simp only [Tm.size]
     omega
theorem U1:∀ (l:List Tm) (n:Int),0≤n→0≤Xt l n→Xt l n=n-(ZW l:Int)
 | [],n,_,_=>by simp [Xt,ZW]
 | t :: r, n, hn, h => by
   simp only [Xt] at h ⊢
   split at h
   · omega
   · rename_i hc
     rw [if_neg hc]
     have h1:=Tm.budget_eq t n (by omega)
     rw [U1 r _ (by omega) h,h1]
     simp only [ZW]
     omega
end
def ZfU:List Tm→Int→Bool
 | [],_=>true
 |t::r,n=>if t.budget n<0 then false else ZfU r (t.budget n)
def Zdd (l:List Tm) (n most:Int):Bool:=if n<(l.length:Int) then false else ZfU l most
def Tm.zero:Tm:= .mk 0 [] 0 true []
def isF (kind:Int) (nm w:List UInt8):Bool:=decide (kind=3)&&(nm==w)
theorem ZA {l:List α} {t:α} (h:l[i]? = some t):l.drop i=t::l.drop (i+1):=by
 have hl:i<l.length:=by
  rcases Nat.lt_or_ge i l.length with h'|h'
  · exact h'
  · rw [List.getElem?_eq_none h'] at h;cases h
 rw [List.drop_eq_getElem_cons hl]
 rw [List.getElem?_eq_getElem hl] at h
 simp only [Option.some.injEq] at h
 rw [h]
theorem XT:∀ a:List UInt8,Op.bytesLess a a=false
 | []=>rfl
 |x::r=>by simp [Op.bytesLess,XT r]
theorem ZeF (t:Tm):0<t.size:=by
 cases t
 simp only [Tm.size]
 omega
structure Kp (q:Prop):Prop where
 out:q
section
variable {p q r c:Prop}
theorem Jh (k : q) (h : Kp q → p := by
  intro h
  (first|(apply dSt;rfl;rfl;rfl;rfl;exact IsL.n;rfl;(first|rfl|assumption|(simp only [List.all_cons,List.all_nil,Z4,Bool.and_true];rfl));(first|rfl|assumption);exact IsH.mkN;(first|rfl|(simp [Zr];done));(first|rfl|(simp;done));rfl)|(apply h0;rfl;rfl;rfl;exact IsV.n;rfl)|(apply h1;rfl;rfl;rfl;exact IsV.n;exact IsH.mkN;rfl))
  exact h.out):p:=h ⟨k⟩
theorem Jo (k : q) (h : Kp q → p := by
  intro h
  (first|apply RegQ.nil|apply DrwQ.nil|(apply g0;rfl;rfl;rfl;exact IsV.n)|(apply g1;rfl;rfl;rfl;exact IsV.n;exact IsH.mkN)|(apply qSt;rfl;rfl;rfl;exact IsL.n;(first|rfl|assumption);(first|rfl|assumption|(simp only [List.all_cons,List.all_nil,Z4,Bool.and_true];rfl));(first|rfl|assumption);exact IsH.mkN)|apply Wp.seq|apply SeqQ.go|apply Wp.region|(apply Wp.condT;rfl)|(apply Wp.condF;rfl)|apply Wp.skip|apply Wp.ret|apply Wp.exit|apply SeqQ.exit|apply Wp.block|apply BlockQ.go|apply BlockQ.ret|apply SeqQ.ret|(apply BlockQ.hit;rfl)|(apply BlockQ.miss;rfl)|apply LoopI.ret|apply LoopI.exit|apply DropQ.ret|apply DropQ.exit|(apply Zj4;rfl;rfl)|(apply Zh4;rfl;rfl)|(apply ZkM;rfl;exact IsL.n)|(apply ZkS;rfl;exact IsL.n))
  exact h.out):p:=h ⟨k⟩
theorem Jt (k : q) (h : Kp q → p := by
  intro h
  (first|(apply qT (ty:=4);rfl;rfl;rfl)|(apply qF (ty:=4);rfl;rfl;rfl))
  exact h.out):p:=h ⟨k⟩
theorem Jb (k : q) (l : r) (h : Kp q → Kp r → p := by
  intro h h'
  apply qB (ty:=4);rfl;rfl;rfl
  exact h.out
  exact h'.out):p:=h ⟨k⟩ ⟨l⟩
theorem Jl (k : q) (h : Kp q → p := by
  intro h
  apply qLn;rfl;rfl;rfl;rfl;rfl
  exact h.out):p:=h ⟨k⟩
theorem Jk (k : q) (h : Kp q → p := by
  intro h
  apply qK;rfl;rfl
  exact h.out):p:=h ⟨k⟩
theorem Ji (k : q) (h : Kp q → p := by
  intro h
  apply qBi;rfl;rfl;rfl;rfl;assumption;exact IsV.any _
  exact h.out):p:=h ⟨k⟩
theorem Jx (k : q) (h : Kp q → p := by
  intro h
  apply qIx;rfl;rfl;rfl;rfl;rfl;rfl;rfl;rfl;assumption
  exact h.out):p:=h ⟨k⟩
theorem Js (k : q) (h : Kp q → p := by
  intro h
  apply qBs;rfl;rfl;rfl;rfl;exact IsLL.n;(first|rfl|(simp only [Y0,Uy,Yy];rfl))
  exact h.out):p:=h ⟨k⟩
theorem JA (k : q) (h : Kp q → p := by
  intro h
  apply qAp;rfl;rfl;rfl;rfl;rfl;(first|assumption|solve_by_elim)
  exact h.out):p:=h ⟨k⟩
theorem JB (k : q) (h : Kp q → p := by
  intro h
  apply dBs;rfl;rfl;rfl;rfl;exact IsLL.n;(first|rfl|(simp only [Y0,Uy,Yy];rfl));rfl
  exact h.out):p:=h ⟨k⟩
theorem JI (k : q) (h : Kp q → p := by
  intro h
  apply dIx;rfl;rfl;rfl;rfl;rfl;rfl;rfl;rfl;assumption
  exact h.out):p:=h ⟨k⟩
theorem JS (k : q) (h : Kp q → p := by
  intro h
  apply qSl;rfl;rfl;rfl;rfl;rfl;rfl;assumption;exact IsV.any _
  exact h.out):p:=h ⟨k⟩
theorem JX (k : q) (h : Kp q → p := by
  intro h
  apply qXi;rfl;rfl;rfl;rfl;assumption;exact IsV.any _
  exact h.out):p:=h ⟨k⟩
theorem JJ (k : q) (h : Kp q → p := by
  intro h
  apply qIa;rfl;rfl;rfl;rfl;assumption;exact IsV.any _
  exact h.out):p:=h ⟨k⟩
theorem JK (k : q) (h : Kp q → p := by
  intro h
  apply dIa;rfl;rfl;rfl;rfl;assumption;exact IsV.any _
  exact h.out):p:=h ⟨k⟩
theorem JD (k : q) (h : Kp q → p := by
  intro h
  apply dBi;rfl;rfl;rfl;rfl;assumption;exact IsV.any _;rfl
  exact h.out):p:=h ⟨k⟩
theorem Jz (k : q) (l : r) (h : Kp q → Kp r → p := by
  intro h h'
  apply qB (ty:=0);rfl;rfl;rfl
  exact h.out
  exact h'.out):p:=h ⟨k⟩ ⟨l⟩
theorem Jc (x : c) (k : q) (h : Kp c → Kp q → p := by
  intro x h
  apply qCl;rfl;rfl;rfl;rfl;exact x.out
  exact h.out):p:=h ⟨x⟩ ⟨k⟩
theorem Jd (x : c) (k : q) (h : Kp c → Kp q → p := by
  intro x h
  apply dCl;rfl;rfl;rfl;rfl;rfl;exact x.out
  exact h.out):p:=h ⟨x⟩ ⟨k⟩
end
section
variable {E:Env} {P:Program}
theorem Jw (hE : TOk E P) {C D : Code} (hf : FnOk P f fn (.seq C D)) {r : PV} (hr : frz3 0 hNil r = some r)
  (h:Wp E P (fun _=>false) fn.ntmps C (SeqQ E P (fun _=>false) fn.ntmps D (RetQ E fn r)) (tm0 args) hNil) (ha:Zt args=some args:=by first|rfl|(simp only [Zt,frzG,Uy,Yy];rfl)|(simp only [Zt,WZ];done)|(simp only [Zt,WZ];rfl)|(simp [Zt,frzG,Tm.cells,Zay];done)) (H:Heap):CallOk E P f args H r H:=
 Xh hE hf ha hr (Wp.seq h) H
end
open Go.RowKit
abbrev ZF:=List PV→Heap→Option (PV×Heap)
noncomputable def Zes:List (Nat×ZF)→FuncId→ZF
 | [],_,_,_=>none
 | (k, z) :: r, f, args, H => match Nat.beq f k with
   | true=>z args H
   | false=>Zes r f args H
noncomputable def Zjc:List (Nat×ZF)→FuncId→Bool
 | [],_=>false
 | (k, _) :: r, f => match Nat.beq f k with
   | true=>true
   | false=>Zjc r f
def ZOk (E:Env) (P:Program) (x:Nat×ZF):Prop:=∀ args H p H',x.2 args H=some (p,H')→CallOk E P x.1 args H p H'∧(E.eff x.1=false→H'=H)
theorem ZbS {E:Env} {P:Program}:∀ {l:List (Nat×ZF)},(∀ x,x∈l→ZOk E P x)→Yd E P (Zes l)
 | [],_=>fun f args H p H' h=>by simp [Zes] at h
 | (k, z) :: r, hl => fun f args H p H' h => by
   simp only [Zes] at h
   split at h
   · rename_i hf
     obtain rfl:=Nat.eq_of_beq_eq_true hf
     exact hl (f,z) List.mem_cons_self args H p H' h
   · exact ZbS (fun x hx=>hl x (List.mem_cons_of_mem _ hx)) f args H p H' h
theorem Zgz {p:Nat×ZF→Prop}:∀ x,x∈([]:List (Nat×ZF))→p x:=fun _ h=>absurd h (by simp)
theorem Zfo {p:Nat×ZF→Prop} {a:Nat×ZF} {l:List (Nat×ZF)} (h:p a) (hl:∀ x,x∈l→p x):∀ x,x∈a::l→p x:=fun x hx=>by
 rcases List.mem_cons.1 hx with rfl|hx
 · exact h
 · exact hl x hx
def Zcf:List UInt8→Int→Nat→Int
 | [],_,_=> -1
 |b::r,c,i=>if (b.toNat:Int)=c then i else Zcf r c (i+1)
noncomputable def ZhX:ZF:=fun args H=>match args with
 | [.str s, .int k c] => match decide (k = .u8) && (decide (0 ≤ c) && decide (c ≤ 255)) with
   | true=>some (.int .i64 (Zcf s c 0),H)
   | false=>none
 |_=>none
theorem Zdo (c:UInt8):∀ (l:List UInt8) (k:Nat),Zcf l (c.toNat:Int) (k:Nat)=if Lib.indexByte l c= -1 then -1 else Lib.indexByte l c+k
 | [],k=>by simp [Zcf,Lib.indexByte]
 | b :: l, k => by
   have ih:=Zdo c l (k+1)
   have hge:=Lib.indexByte_ge l c
   unfold Zcf Lib.indexByte
   by_cases h:b=c
   · subst h
     simp
   · have h1 : ¬ (b.toNat : Int) = (c.toNat : Int) := fun e => h (UInt8.toNat_inj.1 (by exact_mod_cast e))
     have h2:(b==c)=false:=by simpa using h
     rw [if_neg h1,h2]
     simp only [Bool.false_eq_true,if_false]
     rw [ih]
     by_cases e:Lib.indexByte l c= -1
     · simp [e]
     · have e' : (Lib.indexByte l c == -1) = false := by simpa using e
       rw [if_neg e,e']
       simp only [Bool.false_eq_true,if_false]
       rw [if_neg (by omega)]
       omega
section
variable {E:Env} {P:Program}
theorem Zfi {g:Gh} {p q:PV} {vals:Array Value} (hv:VL g [p,q] vals.toList):∃ v0 v1,vals= #[v0,v1]∧V g p v0∧V g q v1:=by
 obtain ⟨l,hv⟩:=hv
 have hl:vals.toList.length=2:=by simpa using l
 obtain ⟨v0,v1,hvals⟩:∃ v0 v1,vals.toList= [v0,v1]:=by
  match h:vals.toList,hl with
  | [a,b],_=>exact ⟨a,b,rfl⟩
 rw [hvals] at hv
 exact ⟨v0,v1,Array.toList_inj.1 (by simpa using hvals),by simpa using hv 0 (by simp) (by simp),by simpa using hv 1 (by simp) (by simp)⟩
theorem ZgI {c:Int} (h0:0≤c) (h1:c≤255):((c.toNat.toUInt8).toNat:Int)=c:=by
 have:c.toNat<256:=by omega
 simp [Nat.mod_eq_of_lt this]
 omega
theorem Zhe (hf:P.funcs[f]? = some fn) (hn:(fn.name == "runtime.NumGoroutine") = false) (hb : fn.body.isNone = true) (hx : Extern.findNext fn = none) (he : Extern.find fn = some Extern.BytealgIndexByte.indexByte) :
  ZOk E P (f,ZhX):=by
 intro args H p H' h
 simp only [ZhX] at h
 split at h
 · rename_i s k c
   split at h
   · rename_i hc
     simp only [Bool.and_eq_true,decide_eq_true_eq] at hc
     obtain ⟨rfl,h0,h1⟩:=hc
     cases h
     refine ⟨fun g w vals hi hg hv=>?_,fun _=>rfl⟩
     obtain ⟨v0,v1,rfl,e0,e1⟩:=Zfi hv
     obtain ⟨b,rfl,hb2⟩:=e0.str_inv
     obtain rfl:=e1.int_inv
     rw [run_callFunc_extern (e:=Extern.BytealgIndexByte.indexByte) hf hn hb hx he,Lib.run_indexByteString]
     have hc:=ZgI h0 h1
     have e:=Zdo c.toNat.toUInt8 s 0
     rw [hc] at e
     have e2:Zcf s c 0=Lib.indexByte s c.toNat.toUInt8:=by
      rw [e]
      split
      · rename_i h;exact h.symm
      · simp
     simp only [Result.andThen,UponCall]
     rw [e2,hb2]
     exact ⟨g,.pure _ _ (.int _ _),hi,KeepN.refl _ _ _ _⟩
   · cases h
 · cases h
end
section
variable {P:Program} (w:World)
end
section
variable {g:Gh} {H:Heap} {w w':World}
end
section
variable {E:Env} {P:Program}
end
def XX (c:Int):Bool:=(decide (97≤c)&&decide (c≤122))||(decide (65≤c)&&decide (c≤90))
def Uz (c:Int):Bool:=decide (48≤c)&&decide (c≤57)
def Qo (c:Int):Bool:=XX c||(Uz c||(decide (c=95)||decide (c=35)))
def Yr (c:UInt8):Bool:=Qo (Int.ofNat c.toNat)
def WK (s:List UInt8):Bool:=match s with
 | []=>false
 |c::_=>decide (s.length≤24)&&(XX (Int.ofNat c.toNat)&&s.all Yr)
def Wo (k:Int) (nm:List UInt8) (s:Int) (n:Nat):Int:=
 if ¬ (k=1∨k=2∨k=3)∨s<0∨5<s∨(k=3∧s≠0)∨(k≠3∧0<n) then 1 else if WK nm=false then 2 else if 8<n then 3 else 0
mutual
def Tm.nodes:Tm→Int
 | .mk k nm s _ kz=>if Wo k nm s kz.length≠0 then Wo k nm s kz.length else XU kz
def XU:List Tm→Int
 | []=>0
 |t::r=>if t.nodes≠0 then t.nodes else XU r
end
mutual
def Tm.depth:Tm→Nat
 | .mk _ _ _ _ kz=>YQ kz+1
def YQ:List Tm→Nat
 | []=>0
 |t::r=>max t.depth (YQ r)
end
def Tm.valid (t:Tm):Int:=if t.nodes≠0 then t.nodes else if 400<t.size∨40<t.depth then 3 else 0
mutual
def Tm.check:Tm→Int→Int→Int→Int×Int×Int
 | .mk k nm s _ kz,lvl,n,d=>if Wo k nm s kz.length≠0 then (Wo k nm s kz.length,n+1,if d<lvl then lvl else d) else YP kz (lvl+1) (n+1) (if d<lvl then lvl else d)
def YP:List Tm→Int→Int→Int→Int×Int×Int
 | [],_,n,d=>(0,n,d)
 |t::r,lvl,n,d=>if (t.check lvl n d).1≠0 then t.check lvl n d else YP r lvl (t.check lvl n d).2.1 (t.check lvl n d).2.2
end
mutual
theorem Tm.check_eq:∀ (t:Tm) (lvl n d:Int),(t.check lvl n d).1=t.nodes∧(t.nodes=0→0≤lvl→(t.check lvl n d).2=(n+(t.size:Int),max d (lvl+(t.depth:Int)-1)))
 | .mk k nm s b kz, lvl, n, d => by
   simp only [Tm.check,Tm.nodes,Tm.size,Tm.depth]
   split
   · rename_i h
     exact ⟨rfl,fun h'=>absurd h' h⟩
   · obtain ⟨h1, h2⟩ := Zad kz (lvl + 1) (n + 1) (if d < lvl then lvl else d)
     refine ⟨h1,fun h3 h4=>?_⟩
     rw [h2 h3 (by omega)]
     refine Prod.ext_iff.2 ⟨?_,?_⟩
     · simp;omega
     · simp only []
       split
       · split<;>omega
       · split<;>omega
theorem Zad:∀ (l:List Tm) (lvl n d:Int),(YP l lvl n d).1=XU l∧(XU l=0→0≤lvl→(YP l lvl n d).2=(n+(ZW l:Int),if YQ l=0 then d else max d (lvl+(YQ l:Int)-1)))
 | [],lvl,n,d=>by simp [YP,XU,ZW,YQ]
 | t :: r, lvl, n, d => by
   obtain ⟨h1,h2⟩:=Tm.check_eq t lvl n d
   have hD:YQ (t::r)=max t.depth (YQ r):=by simp only [YQ]
   simp only [YP,XU,ZW,h1]
   generalize YQ (t::r)=D at hD ⊢
   split
   · rename_i h
     exact ⟨h1,fun h'=>absurd h' h⟩
   · rename_i h
     have h0:t.nodes=0:=by simpa using h
     obtain ⟨h3,h4⟩:=Zad r lvl (t.check lvl n d).2.1 (t.check lvl n d).2.2
     refine ⟨h3,fun h5 h6=>?_⟩
     rw [h4 h5 h6,h2 h0 h6]
     have hp:1≤t.depth:=by cases t;simp [Tm.depth]
     refine Prod.ext_iff.2 ⟨?_,?_⟩
     · simp;omega
     · simp only []
       split<;>split<;>omega
end
theorem Tm.valid_check (t:Tm):t.valid=(if (t.check 1 0 0).1≠0 then (t.check 1 0 0).1 else if 400<(t.check 1 0 0).2.1∨40<(t.check 1 0 0).2.2 then 3 else 0):=by
 obtain ⟨h1,h2⟩:=t.check_eq 1 0 0
 rw [h1]
 unfold Tm.valid
 split
 · rfl
 · rename_i h
   rw [h2 (by simpa using h) (by omega)]
   congr 1
   apply propext
   simp only []
   omega
mutual
theorem Tm.depth_le:∀ t:Tm,t.depth≤t.size
 | .mk _ _ _ _ kz=>by have:=Uv kz;simp only [Tm.depth,Tm.size];omega
theorem Uv:∀ l:List Tm,YQ l≤ZW l
 | []=>by simp [YQ]
 |t::r=>by have:=t.depth_le;have:=Uv r;simp only [YQ,ZW];omega
end
theorem Zbc:∀ {i:Nat} {t:Tm},l[i]? = some t→YQ (l.take (i+1))=max (YQ (l.take i)) t.depth:=by
 induction l with
 |nil=>intro i t h;simp at h
 | cons a r ih =>
   intro i t h
   cases i with
   | zero=>simp at h;subst h;simp [YQ]
   | succ i=>simp at h;simp only [List.take_succ_cons,YQ,ih h];omega
mutual
theorem Tm.check_range:∀ (t:Tm) (lvl n d:Int),n≤(t.check lvl n d).2.1∧(t.check lvl n d).2.1≤n+(t.size:Int)∧d≤(t.check lvl n d).2.2∧(t.check lvl n d).2.2≤max d (lvl+(t.size:Int))
 | .mk k nm s b kz, lvl, n, d => by
   simp only [Tm.check,Tm.size]
   split
   · simp only []
     split<;>omega
   · have := VI kz (lvl + 1) (n + 1) (if d < lvl then lvl else d)
     split at this<;>split<;>omega
theorem VI:∀ (l:List Tm) (lvl n d:Int),n≤(YP l lvl n d).2.1∧(YP l lvl n d).2.1≤n+(ZW l:Int)∧d≤(YP l lvl n d).2.2∧(YP l lvl n d).2.2≤max d (lvl+(ZW l:Int))
 | [],lvl,n,d=>by simp [YP,ZW];omega
 | t :: r, lvl, n, d => by
   have h1:=t.check_range lvl n d
   simp only [YP,ZW]
   split
   · omega
   · have h2 := VI r lvl (t.check lvl n d).2.1 (t.check lvl n d).2.2
     omega
end
structure Sym where
 name:List UInt8
 least:Int
 most:Int
 kind:Int
def Sym.cells (s:Sym):List PV:=[.str s.name,.int .i64 s.least,.int .i64 s.most,.int .i64 s.kind]
def Sym.zero:Sym:=⟨[],0,0,0⟩
def ZjD:List Sym:=[
 ⟨[112,97,105,114],2,2,1⟩,⟨[101,110,99],2,2,1⟩,⟨[97,101,110,99],2,2,1⟩,⟨[112,107],1,1,1⟩,⟨[115,105,103,110],2,2,1⟩,⟨[104,97,115,104],1,1,1⟩,
 ⟨[120,111,114],2,8,1⟩,⟨[122,101,114,111],0,0,1⟩,⟨[101,120,112],2,2,1⟩,⟨[109,117,108],2,8,1⟩,⟨[105,110,118],1,1,1⟩,⟨[111,110,101],0,0,1⟩,
 ⟨[115,107],1,1,2⟩,⟨[115,104,107],2,2,2⟩,⟨[110,101,119],1,8,2⟩,
 ⟨[102,115,116],1,1,3⟩,⟨[115,110,100],1,1,3⟩,⟨[100,101,99],2,2,3⟩,⟨[97,100,101,99],2,2,3⟩,⟨[111,112,101,110],2,2,3⟩,⟨[114,101,97,100],1,1,3⟩]
def ZhJ (nm:List UInt8):List Sym→Option Sym
 | []=>none
 |s::r=>if (s.name==nm)=true then some s else ZhJ nm r
def Zha (nm:List UInt8):Sym:=(ZhJ nm ZjD).getD .zero
def ZhY (nm:List UInt8) (kz:List Tm):Bool:=if nm= [110,101,119] then (match kz with| .mk k _ _ _ _::_=>decide (k=2)| []=>false) else kz.all fun t=>match t with| .mk k _ s _ _=> !(decide (k=3))&&decide (s=1)
mutual
def Tm.th:Tm→Int
 | .mk k nm _ _ kz=>if k≠3 then 0 else if (Zha nm).kind=0 then 10 else if (kz.length:Int)<(Zha nm).least∨(Zha nm).most<(kz.length:Int) then 6 else if (Zha nm).kind=2∧ZhY nm kz=false then 10 else thL kz
def thL:List Tm→Int
 | []=>0
 |t::r=>if t.th≠0 then t.th else thL r
end
def ZkX (nm:List UInt8):Bool:=(nm== [120,111,114])||(nm== [122,101,114,111])||(nm== [101,120,112])||(nm== [109,117,108])||(nm== [105,110,118])||(nm== [111,110,101])
def Zko (nm:List UInt8):Bool:= !(ZkX nm)&&decide ((Zha nm).kind≠3)
mutual
def Tm.fre:Tm→Bool
 | .mk k nm _ _ kz=>(if k=3 then Zko nm else true)&&Zje kz
def Zje:List Tm→Bool
 | []=>true
 |t::r=>t.fre&&Zje r
end
section
variable {T:TypeId→Option TI}
theorem UP {x:TypeId} (h:Sh T x cs) (ht:T x=some ti) (hk:ti.tk= .int k):∃ n,cs= [.int k n]∧(Lit.int k n).wf=true:=by
 cases h with
 |int h' hk' hn=>rw [ht] at h';cases h';rw [hk] at hk';cases hk';exact ⟨_,rfl,hn⟩
 |bool h' hk'=>rw [ht] at h';cases h';rw [hk] at hk';cases hk'
 |str h' hk'=>rw [ht] at h';cases h';rw [hk] at hk';cases hk'
 |nils h' hk'=>rw [ht] at h';cases h';rw [hk] at hk';cases hk'
 |sl h' hk'=>rw [ht] at h';cases h';rw [hk] at hk';cases hk'
 |struct h' hk'=>rw [ht] at h';cases h';rw [hk] at hk';cases hk'
theorem ZfF {x:TypeId} (h:Sh T x cs) (ht:T x=some ti) (hk:ti.tk= .string):∃ s,cs= [.str s]∧s.length≤maxLen:=by
 cases h with
 |int h' hk'=>rw [ht] at h';cases h';rw [hk] at hk';cases hk'
 |bool h' hk'=>rw [ht] at h';cases h';rw [hk] at hk';cases hk'
 |str h' hk' hs=>exact ⟨_,rfl,hs⟩
 |nils h' hk'=>rw [ht] at h';cases h';rw [hk] at hk';cases hk'
 |sl h' hk'=>rw [ht] at h';cases h';rw [hk] at hk';cases hk'
 |struct h' hk'=>rw [ht] at h';cases h';rw [hk] at hk';cases hk'
theorem ZdT:∀ (el:List (List PV)),(∀ c,c∈el→∃ t:Tm,c=t.cells∧t.Ok)→∃ kz:List Tm,el=Zb kz∧∀ t,t∈kz→t.Ok
 | [],_=>⟨[],rfl,fun t h=>absurd h (by simp)⟩
 | c :: r, h => by
   obtain ⟨t,ht,ho⟩:=h c List.mem_cons_self
   obtain ⟨kz,hk,hko⟩:=ZdT r fun c hc=>h c (List.mem_cons_of_mem _ hc)
   refine ⟨t::kz,by simp only [Zb,ht,hk],fun u hu=>?_⟩
   rcases List.mem_cons.1 hu with rfl|hu
   · exact ho
   · exact hko u hu
theorem Up (es:Nat) (el:List (List PV)):slV false es el= .sl .none es el:=by
 cases el with
 |nil=>exact ZB es
 |cons c r=>exact Zx false es c r
theorem ZjH {l:List α} (h:l.length=4):∃ a b c d,l= [a,b,c,d]:=by
 match l,h with
 | [a,b,c,d],_=>exact ⟨a,b,c,d,rfl⟩
theorem ZiX {i s l : TypeId} {ii si li : TI} (hi : T i = some ii) (ki : ii.tk = .int .i64) (zi : ii.size = 1) (hs : T s = some si) (ks : si.tk = .string) (zs : si.size = 1) (hl : T l = some li) (kl : li.tk = .slice t) (zl : li.size = 1)
  (ht:T t=some ti) (kt:ti.tk= .struct [(0,i),(1,s),(2,i),(3,l)]) (zt:ti.size=4) {x:TypeId} (h:Sh T x cs) :
  (x=t→∃ tm:Tm,cs=tm.cells∧tm.Ok)∧(x=l→∃ b kz,cs= [slV b 4 (Zb kz)]∧(∀ k,k∈kz→k.Ok)∧kz.length≤maxLen):=by
 induction h with
 |bool h' hk'=>exact ⟨fun e=>(by subst e;rw [ht] at h';cases h';rw [kt] at hk';cases hk'),fun e=>(by subst e;rw [hl] at h';cases h';rw [kl] at hk';cases hk')⟩
 |int h' hk'=>exact ⟨fun e=>(by subst e;rw [ht] at h';cases h';rw [kt] at hk';cases hk'),fun e=>(by subst e;rw [hl] at h';cases h';rw [kl] at hk';cases hk')⟩
 |str h' hk'=>exact ⟨fun e=>(by subst e;rw [ht] at h';cases h';rw [kt] at hk';cases hk'),fun e=>(by subst e;rw [hl] at h';cases h';rw [kl] at hk';cases hk')⟩
 |nils h' hk'=>exact ⟨fun e=>(by subst e;rw [ht] at h';cases h';rw [kt] at hk';cases hk'),fun e=>⟨true,[],by rw [Zb,Zq],fun k hk=>absurd hk (by simp),Nat.zero_le _⟩⟩
 | @sl x' ti' e' ei' el' h' hk' he hlen hel ih =>
   refine ⟨fun e=>(by subst e;rw [ht] at h';cases h';rw [kt] at hk';cases hk'),fun e=>?_⟩
   subst e
   rw [hl] at h';cases h'
   rw [kl] at hk';cases hk'
   rw [ht] at he;cases he
   obtain ⟨kz,hk,hok⟩:=ZdT el' fun c hc=>(ih c hc).1 rfl
   refine ⟨false,kz,by rw [Up, ← hk,zt],hok,?_⟩
   rw [hk,Za] at hlen
   exact hlen
 | @struct x' ti' fs' cs' h' hk' hlen hf ih =>
   refine ⟨fun e=>?_,fun e=>(by subst e;rw [hl] at h';cases h';rw [kl] at hk';cases hk')⟩
   subst e
   rw [ht] at h';cases h'
   rw [kt] at hk';cases hk'
   rw [zt] at hlen
   obtain ⟨a,b,c,d,rfl⟩:=ZjH hlen
   have q0:=hf 0 i ii (by simp) hi
   have q1:=hf 1 s si (by simp) hs
   have q2:=hf 2 i ii (by simp) hi
   have q3:=(ih 3 l li (by simp) hl).2 rfl
   rw [zi] at q0 q2
   rw [zs] at q1
   rw [zl] at q3
   obtain ⟨n0,e0,w0⟩:=UP q0 hi ki
   obtain ⟨n1,e1,w1⟩:=ZfF q1 hs ks
   obtain ⟨n2,e2,w2⟩:=UP q2 hi ki
   obtain ⟨b3,kz,e3,w3,w4⟩:=q3
   simp only [List.drop_zero,List.drop_succ_cons,List.take_succ_cons,List.take_zero,List.cons.injEq,and_true] at e0 e1 e2 e3
   subst e0 e1 e2 e3
   exact ⟨.mk n0 n1 n2 b3 kz,rfl,.mk w0 w2 w1 w4 w3⟩
end
section
variable {E:Env} {P:Program} {w:World}
theorem Zgj {w':World} (h:∀ k,k<w.heap.size→w'.heap[k]? = w.heap[k]?) {p:MemPlace} (hp:p.block<w.heap.size):w.sameAt w' p:=by
 cases p with
 |cell b o=>exact World.cell?_of_block (w:=w) (h b hp)
 |map b=>exact h b hp
theorem Zhs {S:X4} {pcs:List PV} {cs:Array Value} (h:WC S pcs cs.toList):V0 S (.agg pcs) (.agg cs):=
 .agg _ _ (by have:=h.1;simpa using this) fun i hi=>by
  have:=h.2 i hi (by rw [h.1];exact hi)
  simpa using this
end
abbrev Zg:=List UInt8
def Zi (l:List Zg):List (List PV):=l.map fun s=>[.str s]
theorem ZC (l:List Zg):(Zi l).length=l.length:=by simp [Zi]
theorem Yf {l:List Zg} {x:Zg} (h:l[i]? = some x):(Zi l)[i]? = some [.str x]:=by simp [Zi,h]
def Xy (l:List Int):List (List PV):=l.map fun n=>[.int .i64 n]
theorem Wl (l:List Int):(Xy l).length=l.length:=by simp [Xy]
theorem Ze2 {l:List Int} {x:Int} (h:l[i]? = some x):(Xy l)[i]? = some [.int .i64 x]:=by simp [Xy,h]
structure Mo where
 kind:Int
 num:Int
 role:Int
 an:Bool
 agents:List Zg
 goal:Int
 tn:Bool
 terms:List Tm
def Mo.cells (m:Mo):List PV:=[.int .i64 m.kind,.int .i64 m.num,.int .i64 m.role,slV m.an 1 (Zi m.agents),.int .i64 m.goal,slV m.tn 4 (Zb m.terms)]
structure Mo.Ok (m:Mo):Prop where
 kind:(Lit.int .i64 m.kind).wf=true
 num:(Lit.int .i64 m.num).wf=true
 role:(Lit.int .i64 m.role).wf=true
 goal:(Lit.int .i64 m.goal).wf=true
 al:m.agents.length≤maxLen
 ags:∀ s,s∈m.agents→s.length≤maxLen
 tl:m.terms.length≤maxLen
 ts:∀ t,t∈m.terms→t.Ok
theorem Y6 (a b:List Tm):Zb (a++b)=Zb a++Zb b:=by simp [X8]
theorem Z9 (l:List Tm):(Zb l).all (fun c=>c.all Zp)=true:=by
 rw [X8,List.all_map,List.all_eq_true]
 rintro ⟨k,nm,s,b,kz⟩ _
 simp only [Function.comp,Tm.cells,List.all_cons,List.all_nil,Z4]
 rfl
structure Fr where
 role:Zg
 name:Zg
 sort:Int
structure Sp where
 frm:Zg
 to:Zg
 msg:Tm
 line:Int
structure Gl where
 kind:Int
 role:Zg
 wth:Zg
 dn:Bool
 data:List Tm
 line:Int
structure Na where
 name:Zg
 rn:Bool
 roles:List Zg
 fn:Bool
 fresh:List Fr
 tn:Bool
 tags:List Zg
 sn:Bool
 steps:List Sp
 gn:Bool
 goals:List Gl
def Fr.cells (f:Fr):List PV:=[.str f.role,.str f.name,.int .i64 f.sort]
def Sp.cells (s:Sp):List PV:= .str s.frm:: .str s.to::(s.msg.cells++ [.int .i64 s.line])
def Gl.cells (g:Gl):List PV:=[.int .i64 g.kind,.str g.role,.str g.wth,slV g.dn 4 (Zb g.data),.int .i64 g.line]
def frC (l:List Fr):List (List PV):=l.map Fr.cells
def spC (l:List Sp):List (List PV):=l.map Sp.cells
def glC (l:List Gl):List (List PV):=l.map Gl.cells
def Na.cells (n:Na):List PV:=[.str n.name,slV n.rn 1 (Zi n.roles),slV n.fn 3 (frC n.fresh),slV n.tn 1 (Zi n.tags),slV n.sn 7 (spC n.steps),slV n.gn 5 (glC n.goals)]
theorem YI (l:List Fr):(frC l).length=l.length:=by simp [frC]
theorem ZI (l:List Sp):(spC l).length=l.length:=by simp [spC]
theorem YR (l:List Gl):(glC l).length=l.length:=by simp [glC]
theorem Wb {l:List Fr} {x:Fr} (h:l[i]? = some x):(frC l)[i]? = some [.str x.role,.str x.name,.int .i64 x.sort]:=by simp [frC,h,Fr.cells]
theorem ZX {l:List Sp} {x:Sp} (h:l[i]? = some x):(spC l)[i]? = some x.cells:=by simp [spC,h]
theorem XO {l:List Gl} {x:Gl} (h:l[i]? = some x):(glC l)[i]? = some [.int .i64 x.kind,.str x.role,.str x.wth,slV x.dn 4 (Zb x.data),.int .i64 x.line]:=by simp [glC,h,Gl.cells]
def Zb5:Zg→Bool
 | []=>true
 |c::r=> !(decide (c=35)&&decide (r.head? = some 35))&&Zb5 r
def YG (s:Zg):Bool:=WK s&&Zb5 s
def ZaQ:Zg→Nat
 | []=>0
 |c::r=>if Yr c=true∧¬ (c=35∧r.head? = some 35) then ZaQ r+1 else 0
theorem Zcr:∀ s:Zg,(ZaQ s=s.length)↔(s.all Yr=true∧Zb5 s=true)
 | []=>by simp [ZaQ,Zb5]
 | c :: r => by
   simp only [ZaQ,List.length_cons,List.all_cons,Zb5,Bool.and_eq_true]
   have ih:=Zcr r
   by_cases h:Yr c=true∧¬ (c=35∧r.head? = some 35)
   · rw [if_pos h]
     constructor
     · intro h1
       have h2:=ih.1 (by omega)
       refine ⟨⟨h.1,h2.1⟩,?_,h2.2⟩
       have:=h.2
       simp only [not_and] at this
       simp only [Bool.not_eq_true',Bool.and_eq_false_iff,decide_eq_false_iff_not]
       by_cases hc:c=35
       · exact .inr (this hc)
       · exact .inl hc
     · rintro ⟨⟨_, h2⟩, _, h4⟩
       rw [ih.2 ⟨h2,h4⟩]
   · rw [if_neg h]
     constructor
     · intro h1;omega
     · rintro ⟨⟨h1, h2⟩, h3, h4⟩
       exact absurd ⟨h1,fun hh=>by simp [hh.1,hh.2] at h3⟩ h
mutual
def Tm.raw:Tm→Int
 | .mk k nm s _ kz=>if k=1∨s≠0 then 10 else if YG nm=false then 2 else ZfJ kz
def ZfJ:List Tm→Int
 | []=>0
 |t::r=>if t.raw≠0 then t.raw else ZfJ r
end
def Tm.rawV (t:Tm):Int:=if t.valid≠0 then t.valid else t.raw
def Tm.msgE (t:Tm):Int:=if t.rawV≠0 then t.rawV else if 40<t.size then 3 else 0
def ZcW:List Tm→Int
 | []=>0
 |t::r=>if t.msgE≠0 then t.msgE else ZcW r
theorem Q8 {t:Tm} {e:Int} (h:l[i]? = some t) (he:t.raw=e):ZfJ (l.drop i)=if e≠0 then e else ZfJ (l.drop (i+1)):=by
 rw [ZA h, ← he];rfl
theorem WY {t:Tm} {e:Int} (h:l[i]? = some t) (he:t.msgE=e):ZcW (l.drop i)=if e≠0 then e else ZcW (l.drop (i+1)):=by
 rw [ZA h, ← he];rfl
def Zce (k:Int):Bool:=decide (k=2)||decide (k=3)
def Gl.err (g:Gl):Int:=
 if g.kind<1∨5<g.kind then 10 else if YG g.role=false∨(Zce g.kind=true∧YG g.wth=false) then 2 else if Zce g.kind=false∧g.wth≠ [] then 1
 else if g.data.length<1∨4<g.data.length∨(Zce g.kind=false∧1<g.data.length) then 6 else ZcW g.data
def Fr.err (f:Fr):Int:=if YG f.role=false∨YG f.name=false then 2 else if f.sort<2∨4<f.sort then 10 else 0
def Sp.err (s:Sp):Int:=if YG s.frm=false∨YG s.to=false then 2 else s.msg.msgE
def Zv {α:Type} (f:α→Int):List α→Int
 | []=>0
 |x::r=>if f x≠0 then f x else Zv f r
theorem Zl {f:α→Int} {l:List α} {x:α} {e:Int} (h:l[i]? = some x) (he:f x=e):Zv f (l.drop i)=if e≠0 then e else Zv f (l.drop (i+1)):=by
 rw [ZA h, ← he];rfl
theorem Um {α:Type} {f:α→Int}:∀ {l:List α},Zv f l=0→∀ x,x∈l→f x=0
 | [],_,_,h=>by cases h
 | y :: r, h, x, hx => by
   simp only [Zv] at h
   split at h
   · contradiction
   · rename_i h1
     rcases List.mem_cons.1 hx with rfl|hx
     · simpa using h1
     · exact Um h x hx
def Na.nums (n:Na):Int:=
 if n.roles.length<2 then 8 else if 4<n.roles.length∨12<n.fresh.length∨8<n.tags.length then 3 else if n.steps.length=0 then 8 else if 8<n.steps.length∨8<n.goals.length then 3 else 0
def Na.head (n:Na):Int:=
 if YG n.name=false then 2 else if n.nums≠0 then n.nums else if n.roles.all YG=false then 2 else if Zv Fr.err n.fresh≠0 then Zv Fr.err n.fresh else if n.tags.all YG=false then 2 else 0
def Na.syn (n:Na):Int:=if n.head≠0 then n.head else if Zv Sp.err n.steps≠0 then Zv Sp.err n.steps else Zv Gl.err n.goals
abbrev ZN:Zg:=[112,97,105,114]
abbrev Ze5:Zg:=[101,110,99]
abbrev WA:Zg:=[104,97,115,104]
abbrev Vb:Zg:=[97,101,110,99]
abbrev VK:Zg:=[115,105,103,110]
abbrev nSk:Zg:=[115,107]
abbrev nPk:Zg:=[112,107]
abbrev ZbZ:Zg:=[115,104,107]
def Tm.knd:Tm→Int| .mk k _ _ _ _=>k
def Tm.nam:Tm→Zg| .mk _ nm _ _ _=>nm
def Tm.kds:Tm→List Tm| .mk _ _ _ _ l=>l
def ZU (R:List Zg) (s:Zg):Bool:=R.any fun x=>decide (x=s)
def WM (R:List Zg) (t:Tm):Bool:=decide (t.knd=2)&&ZU R t.nam
def isA (t:Tm) (w:Zg) (n:Nat):Bool:=decide (t.knd=3)&&(decide (t.nam=w)&&decide (t.kds.length=n))
def VW (R:List Zg) (t:Tm):Bool:=isA t nSk 1&&t.kds.all (WM R)
def WJ (R:List Zg) (t:Tm):Bool:=isA t nPk 1&&t.kds.all (VW R)
def scK (R:List Zg) (t:Tm):Nat:=
 if isA t ZN 2=true∨isA t Ze5 2=true then 2 else if isA t WA 1=true then 1
 else if isA t Vb 2=true∧(t.kds.drop 1).all (WJ R)=true then 1 else if isA t VK 2=true∧(t.kds.drop 1).all (VW R)=true then 1
 else if WJ R t=true then 0 else if isA t ZbZ 2=true∧t.kds.all (WM R)=true∧(t.kds.map Tm.nam).head? ≠((t.kds.drop 1).map Tm.nam).head? then 0 else 9
mutual
def Tm.sc (R N:List Zg):Tm→Int
 | .mk k nm s b kz=>if k≠3 then (if ZU N nm=true then 0 else 13) else if scK R (.mk k nm s b kz)=9 then 10 else scL R N kz (scK R (.mk k nm s b kz))
def scL (R N:List Zg):List Tm→Nat→Int
 | [],_=>0
 | t :: r, n => match n with
   | 0=>0
   | m+1=>if t.sc R N≠0 then t.sc R N else scL R N r m
end
def Na.items (n:Na):List (Zg×Option Zg):=n.roles.map (fun s=>(s,none))++(n.fresh.map (fun f=>(f.name,some f.role))++n.tags.map fun s=>(s,none))
def Na.nms (n:Na):List Zg:=n.roles++(n.fresh.map (·.name)++n.tags)
def itE (R seen:List Zg) (x:Zg×Option Zg):Int:=
 if x.1.contains 35=true then 2 else if x.2≠none∧(x.1= [101]∨x.1= [103]) then 1 else if ZU seen x.1=true then 5 else match x.2 with
  | some r=>if ZU R r=true then 0 else 13
  | none=>0
def itL (R:List Zg):List Zg→List (Zg×Option Zg)→Int
 |_,[]=>0
 |seen,x::r=>if itE R seen x≠0 then itE R seen x else itL R (seen++ [x.1]) r
def Na.dec (n:Na):Int:=itL n.roles [] n.items
def Sp.sce (R N:List Zg) (s:Sp):Int:=if ZU R s.frm=false∨ZU R s.to=false then 13 else if s.frm=s.to then 1 else s.msg.sc R N
def Gl.sce (R N:List Zg) (g:Gl):Int:=
 if ZU R g.role=false then 13 else if Zce g.kind=true∧ZU R g.wth=false then 13 else if Zce g.kind=true∧g.role=g.wth then 1 else Zv (Tm.sc R N) g.data
def YT {α:Type} (f:α→Int) (ln:α→Int):List α→Int×Int
 | []=>(0,0)
 |x::r=>if f x≠0 then (ln x,f x) else YT f ln r
theorem Wk {f ln:α→Int} {l:List α} {x:α} {e:Int} (h:l[i]? = some x) (he:f x=e):YT f ln (l.drop i)=if e≠0 then (ln x,e) else YT f ln (l.drop (i+1)):=by
 rw [ZA h, ← he];rfl
def Na.chk (n:Na):Int×Int:=
 if n.syn≠0 then (0,n.syn) else if n.dec≠0 then (0,n.dec) else if (YT (Sp.sce n.roles n.nms) (·.line) n.steps).2≠0 then YT (Sp.sce n.roles n.nms) (·.line) n.steps
 else YT (Gl.sce n.roles n.nms) (·.line) n.goals
