/-
  Oracles of the evaluator: what some functions of Go's library make of the abstra
-/
import Derived.Test.YtnghnjdabbjcnaaGreatDoorVFf
import Derived.IntWalk
import Derived.Lib.UnsafeStr
import Derived.Lib.Join
import Derived.Lib.Bytealg
import Derived.Laws.Externs
import Derived.Below
noncomputable section
namespace Go.Vm
variable {ops:Array Oper} {a a' b' c' d d' es i ix j len m n0 nt nt' off ro ro':Nat} {e t ty u yt:TypeId} {pos:String} {grd:Option (Nat×Bool)} {v x y:Operand} {X Y p':PV} {all:List Oper} {ps:Array (Nat×Operand)} {el el':List (List PV)} {al args caps cs cs':List PV} {b w:Bool} {bx bx':List Box} {lv lv':List Nat} {OP:Op} {H' H0 H1 H1':Heap} {ei ti:TI} {k:IntKind} {hi lo mx:Option Operand} {HI LO MX:Option PV} {op:BinOp} {f:FuncId} {ats:Array TypeId} {fn:Func} {ex:Ex} {Pr:Heap→Prop} {nm:List UInt8} {s:Int} {g:Gh} {vals:Array Value}
section
variable {E:Env} {P:Program} {own:Tmp→Bool} {n:Nat} {Q:Ex→TM→Heap→Prop} {K:TM→Heap→Prop} {tm:TM} {H:Heap}
theorem DrwQ.rIa {r : List Oper} {aft : Array Edge} {p : PV} (hw : Zf ops.toList tm ⟨some d, .indexAddr t x y, ty, pos, aft, grd⟩ = some true) (hn : Nat.blt d n = true) (hx : Zh E tm x = X) (hy : Zh E tm y = Y) (h : Zy E t X Y = some p) (hv : IsV p p')
  (hr:DrwQ E P own n ops n0 (i+1) r K (ZN tm (some d) p') H):DrwQ E P own n ops n0 i (⟨some d,.indexAddr t x y,ty,pos,aft,grd⟩::r) K tm H:= .run hw rfl hn (p:=p) (by simp only[aOp,hx,hy,h,Option.map_some]) hv (by simp[okD,Y2]) hr
theorem DrwQ.rLd {r : List Oper} {aft : Array Edge} {p : PV} (hw : Zf ops.toList tm ⟨some d, .load t x, ty, pos, aft, grd⟩ = some true) (hn : Nat.blt d n = true) (hx : Zh E tm x = X) (h : ZZ E t X H = some p) (hv : IsV p p')
  (hk:okD E own n0 tm ⟨some d,.load t x,ty,pos,aft,grd⟩ H H=true) (hr:DrwQ E P own n ops n0 (i+1) r K (ZN tm (some d) p') H):DrwQ E P own n ops n0 i (⟨some d,.load t x,ty,pos,aft,grd⟩::r) K tm H:= .run hw rfl hn (p:=p) (by simp only[aOp,hx,h,Option.map_some]) hv hk hr
theorem RegQ.rLe {r : List Oper} {p : PV} {aft : Array Edge} (hw : Zf all tm ⟨some d, .call { callee := .builtin .len, args := #[x], argTypes := #[t] }, ty, pos, aft, grd⟩ = some true)
  (hn:Nat.blt d n=true) (hx:Zh E tm x=X) (h:∀H,Zc0 E t X H=some p) (hv:IsV p p') (hr:RegQ E P own n all r K (ZN tm (some d) p') H) :
  RegQ E P own n all (⟨some d,.call {callee:= .builtin .len,args:= #[x],argTypes:= #[t]},ty,pos,aft,grd⟩::r) K tm H:=
 .run hw rfl hn (p:=p) (by simp[aOp,Z9,hx,h]) hv hr
theorem DrwQ.rLe {r : List Oper} {p : PV} {aft : Array Edge} (hw : Zf ops.toList tm ⟨some d, .call { callee := .builtin .len, args := #[x], argTypes := #[t] }, ty, pos, aft, grd⟩ = some true)
  (hn:Nat.blt d n=true) (hx:Zh E tm x=X) (h:∀H,Zc0 E t X H=some p) (hv:IsV p p') (hk:okD E own n0 tm ⟨some d,.call {callee:= .builtin .len,args:= #[x],argTypes:= #[t]},ty,pos,aft,grd⟩ H H=true)
  (hr:DrwQ E P own n ops n0 (i+1) r K (ZN tm (some d) p') H) :
  DrwQ E P own n ops n0 i (⟨some d,.call {callee:= .builtin .len,args:= #[x],argTypes:= #[t]},ty,pos,aft,grd⟩::r) K tm H:=
 .run hw rfl hn (p:=p) (by simp[aOp,Z9,hx,h]) hv hk hr
theorem DrwQ.rBs {r:List Oper} {aft:Array Edge} (hw:Zf ops.toList tm ⟨some d,.buildSlice t m ps,ty,pos,aft,grd⟩=some true) (hn:Nat.blt d n=true) (ho:own d=false) (h:Z1 E t m (ps.toList.map fun p=>(p.1,Zh E tm p.2))=some (es,el)) (hl:IsLL el el') (hf:Yo el'=some el') (hk:okD E own n0 tm ⟨some d,.buildSlice t m ps,ty,pos,aft,grd⟩ H H=true) (hr:DrwQ E P own n ops n0 (i+1) r K (ZN tm (some d) (.sl .full es el')) H):DrwQ E P own n ops n0 i (⟨some d,.buildSlice t m ps,ty,pos,aft,grd⟩::r) K tm H:=by have e:=hl.eq;subst e;refine .run hw rfl hn (p:= .sl .full es el) ?_ (.any _) hk hr;simp only[aOp,h,ho,Bool.false_eq_true,if_false,hf]
end
theorem IsV.aggN (h:IsL cs cs':=by repeat' first|exact Go.Vm.IsL.nil|exact Go.Vm.IsV.int _ _|exact Go.Vm.IsV.str _|exact Go.Vm.IsV.slV _ _ _|exact Go.Vm.IsV.nils|exact Go.Vm.IsV.bool _|exact Go.Vm.IsV.sl _ _ _|apply Go.Vm.IsL.cons|apply Go.Vm.IsV.agg|exact Go.Vm.IsV.any _|exact Go.Vm.IsL.any _):IsV (.agg cs) (.agg cs'):= .agg _ _ h
theorem IsV.tupN (h:IsL cs cs':=by repeat' first|exact Go.Vm.IsL.nil|exact Go.Vm.IsV.int _ _|exact Go.Vm.IsV.str _|exact Go.Vm.IsV.slV _ _ _|exact Go.Vm.IsV.nils|exact Go.Vm.IsV.bool _|exact Go.Vm.IsV.sl _ _ _|apply Go.Vm.IsL.cons|apply Go.Vm.IsV.agg|exact Go.Vm.IsV.any _|exact Go.Vm.IsL.any _):IsV (.tup cs) (.tup cs'):= .tup _ _ h
theorem IsV.ptrN {b c : Nat} (h1 : a = a' := by first | exact(rfl : (_ : Nat) = 0) | exact(rfl : (_ : Nat) = 1) | exact(rfl : (_ : Nat) = 2) | exact(rfl : (_ : Nat) = 3) | exact(rfl : (_ : Nat) = 4) | exact(rfl : (_ : Nat) = 5) | exact(rfl : (_ : Nat) = 6) | exact(rfl : (_ : Nat) = 7) | exact(rfl : (_ : Nat) = 8) | exact rfl)
  (h2:b=b':=by first|exact(rfl:(_:Nat)=1)|exact(rfl:(_:Nat)=2)|exact(rfl:(_:Nat)=3)|exact(rfl:(_:Nat)=4)|exact(rfl:(_:Nat)=5)|exact(rfl:(_:Nat)=6)|exact(rfl:(_:Nat)=7)|exact(rfl:(_:Nat)=8)|exact rfl)
  (h3:c=c':=by first|exact(rfl:(_:Nat)=0)|exact(rfl:(_:Nat)=1)|exact(rfl:(_:Nat)=2)|exact rfl)
  (h4:d=d':=by first|exact(rfl:(_:Nat)=0)|exact(rfl:(_:Nat)=1)|exact(rfl:(_:Nat)=2)|exact(rfl:(_:Nat)=3)|exact(rfl:(_:Nat)=4)|exact(rfl:(_:Nat)=5)|exact(rfl:(_:Nat)=6)|exact(rfl:(_:Nat)=7)|exact(rfl:(_:Nat)=8)|exact rfl):IsV (.ptr a b c d) (.ptr a' b' c' d'):= .ptr4 h1 h2 h3 h4
theorem IsH.mkN
  (h:IsBL bx bx':=by repeat' first|exact Go.Vm.IsBL.nil|apply Go.Vm.IsBL.cells|apply Go.Vm.IsBL.cons|exact Go.Vm.IsLL.nil|apply Go.Vm.IsLL.cons|exact Go.Vm.IsL.nil|exact Go.Vm.IsV.int _ _|exact Go.Vm.IsV.str _|exact Go.Vm.IsV.slV _ _ _|exact Go.Vm.IsV.nils|exact Go.Vm.IsV.bool _|exact Go.Vm.IsV.sl _ _ _|apply Go.Vm.IsL.cons|exact Go.Vm.IsV.any _|exact Go.Vm.IsL.any _|exact Go.Vm.IsLL.any _|exact Go.Vm.IsBL.any _|exact(rfl:(_:Nat)=1)|exact(rfl:(_:Nat)=2)|exact(rfl:(_:Nat)=3)|exact(rfl:(_:Nat)=4)|exact(rfl:(_:Nat)=5)|exact(rfl:(_:Nat)=6)|exact(rfl:(_:Nat)=7)|exact(rfl:(_:Nat)=8)|exact rfl)
  (h1:ro=ro':=by first|exact(rfl:(_:Nat)=0)|exact(rfl:(_:Nat)=1)|exact rfl) (h2:lv=lv':=by first|exact(rfl:(_:List Nat)= [])|exact rfl)
  (h3:nt=nt':=by first|exact(rfl:(_:Nat)=0)|exact(rfl:(_:Nat)=1)|exact(rfl:(_:Nat)=2)|exact(rfl:(_:Nat)=3)|exact(rfl:(_:Nat)=4)|exact rfl):IsH ⟨bx,ro,lv,nt⟩ ⟨bx',ro',lv',nt'⟩:= .mk _ _ _ _ _ _ _ _ h h1 h2 h3
theorem IsL.n {l l':List PV} (h:IsL l l':=by repeat' first|exact Go.Vm.IsL.nil|exact Go.Vm.IsV.int _ _|exact Go.Vm.IsV.str _|exact Go.Vm.IsV.slV _ _ _|exact Go.Vm.IsV.nils|exact Go.Vm.IsV.bool _|exact Go.Vm.IsV.sl _ _ _|exact Go.Vm.IsV.ptrN|apply Go.Vm.IsL.cons|apply Go.Vm.IsV.agg|exact Go.Vm.IsV.any _|exact Go.Vm.IsL.any _):IsL l l':=h
theorem IsLL.n {l l':List (List PV)} (h:IsLL l l':=by repeat' first|exact Go.Vm.IsLL.nil|apply Go.Vm.IsLL.cons|exact Go.Vm.IsL.nil|exact Go.Vm.IsV.int _ _|exact Go.Vm.IsV.str _|exact Go.Vm.IsV.slV _ _ _|exact Go.Vm.IsV.nils|exact Go.Vm.IsV.bool _|exact Go.Vm.IsV.sl _ _ _|exact Go.Vm.IsV.ptrN|apply Go.Vm.IsL.cons|apply Go.Vm.IsV.agg|exact Go.Vm.IsV.any _|exact Go.Vm.IsL.any _|exact Go.Vm.IsLL.any _):IsLL l l':=h
section
variable {E:Env} {P:Program} {own:Tmp→Bool} {n:Nat} {Q:Ex→TM→Heap→Prop} {K:TM→Heap→Prop} {tm:TM} {H:Heap}
theorem qT {r:List Oper} {aft:Array Edge} (hw:Zf all tm ⟨some d,OP,ty,pos,aft,grd⟩=some true) (hn:Nat.blt d n=true) (h:aOp E (own d) (Zh E tm) OP H=some (.bool true,H1)) (hr:RegQ E P own n all r K (ZN tm (some d) (.bool true)) H1):RegQ E P own n all (⟨some d,OP,ty,pos,aft,grd⟩::r) K tm H:= .rOp hw hn h (.bool _) hr
theorem dT {r:List Oper} {aft:Array Edge} (hw:Zf ops.toList tm ⟨some d,OP,ty,pos,aft,grd⟩=some true) (hn:Nat.blt d n=true) (h:aOp E (own d) (Zh E tm) OP H=some (.bool true,H1)) (hk:okD E own n0 tm ⟨some d,OP,ty,pos,aft,grd⟩ H H1=true) (hr:DrwQ E P own n ops n0 (i+1) r K (ZN tm (some d) (.bool true)) H1):DrwQ E P own n ops n0 i (⟨some d,OP,ty,pos,aft,grd⟩::r) K tm H:= .rOp hw hn h (.bool _) hk hr
theorem qF {r:List Oper} {aft:Array Edge} (hw:Zf all tm ⟨some d,OP,ty,pos,aft,grd⟩=some true) (hn:Nat.blt d n=true) (h:aOp E (own d) (Zh E tm) OP H=some (.bool false,H1)) (hr:RegQ E P own n all r K (ZN tm (some d) (.bool false)) H1):RegQ E P own n all (⟨some d,OP,ty,pos,aft,grd⟩::r) K tm H:= .rOp hw hn h (.bool _) hr
theorem dF {r:List Oper} {aft:Array Edge} (hw:Zf ops.toList tm ⟨some d,OP,ty,pos,aft,grd⟩=some true) (hn:Nat.blt d n=true) (h:aOp E (own d) (Zh E tm) OP H=some (.bool false,H1)) (hk:okD E own n0 tm ⟨some d,OP,ty,pos,aft,grd⟩ H H1=true) (hr:DrwQ E P own n ops n0 (i+1) r K (ZN tm (some d) (.bool false)) H1):DrwQ E P own n ops n0 i (⟨some d,OP,ty,pos,aft,grd⟩::r) K tm H:= .rOp hw hn h (.bool _) hk hr
theorem qB {r:List Oper} {aft:Array Edge} {e:Bool} (hw:Zf all tm ⟨some d,OP,ty,pos,aft,grd⟩=some true) (hn:Nat.blt d n=true) (h:aOp E (own d) (Zh E tm) OP H=some (.bool e,H1)) (ht:e=true→RegQ E P own n all r K (ZN tm (some d) (.bool true)) H1) (hf:e=false→RegQ E P own n all r K (ZN tm (some d) (.bool false)) H1):RegQ E P own n all (⟨some d,OP,ty,pos,aft,grd⟩::r) K tm H:= .rB hw hn h ht hf
theorem qK {r:List Oper} {aft:Array Edge} (hw:Zf all tm ⟨some d,OP,ty,pos,aft,some (j,w)⟩=some false) (hn:Nat.blt d n=true) (hr:RegQ E P own n all r K (ZN tm (some d) unset) H):RegQ E P own n all (⟨some d,OP,ty,pos,aft,some (j,w)⟩::r) K tm H:= .rSkip hw hn hr
theorem qLn {r:List Oper} {aft:Array Edge} (hw:Zf all tm ⟨some d,.call {callee:= .builtin .len,args:= #[x],argTypes:= #[t]},ty,pos,aft,grd⟩=some true) (hn:Nat.blt d n=true) (hx:Zh E tm x=slV b es el) (ht:E.T t=some ti) (hk:ti.tk= .slice e) (hr:RegQ E P own n all r K (ZN tm (some d) (.int .i64 (el.length:Int))) H):RegQ E P own n all (⟨some d,.call {callee:= .builtin .len,args:= #[x],argTypes:= #[t]},ty,pos,aft,grd⟩::r) K tm H:= .rLen hw hn hx ht hk hr
theorem qIx {r:List Oper} {aft:Array Edge} (hw:Zf all tm ⟨some d,.indexAddr t x y,ty,pos,aft,grd⟩=some true) (hn:Nat.blt d n=true) (hx:Zh E tm x=slV b es el) (ht:E.T t=some ti) (hk:ti.tk= .slice e) (he:E.T e=some ei) (hes:ei.size=es) (hy:Zh E tm y= .int k (j:Int)) (hj:el[j]? = some cs) (hr:RegQ E P own n all r K (ZN tm (some d) (.fptr cs 0)) H):RegQ E P own n all (⟨some d,.indexAddr t x y,ty,pos,aft,grd⟩::r) K tm H:= .rIdx hw hn hx ht hk he hes hy hj hr
theorem dB {r:List Oper} {aft:Array Edge} {e:Bool} (hw:Zf ops.toList tm ⟨some d,OP,ty,pos,aft,grd⟩=some true) (hn:Nat.blt d n=true) (h:aOp E (own d) (Zh E tm) OP H=some (.bool e,H1)) (hk:okD E own n0 tm ⟨some d,OP,ty,pos,aft,grd⟩ H H1=true) (ht:e=true→DrwQ E P own n ops n0 (i+1) r K (ZN tm (some d) (.bool true)) H1) (hf:e=false→DrwQ E P own n ops n0 (i+1) r K (ZN tm (some d) (.bool false)) H1):DrwQ E P own n ops n0 i (⟨some d,OP,ty,pos,aft,grd⟩::r) K tm H:= .rB hw hn h hk ht hf
theorem dK {r:List Oper} {aft:Array Edge} (hw:Zf ops.toList tm ⟨some d,OP,ty,pos,aft,some (j,w)⟩=some false) (hn:Nat.blt d n=true) (hns:ZpA E own ⟨some d,OP,ty,pos,aft,some (j,w)⟩=true) (hr:DrwQ E P own n ops n0 (i+1) r K (ZN tm (some d) unset) H):DrwQ E P own n ops n0 i (⟨some d,OP,ty,pos,aft,some (j,w)⟩::r) K tm H:= .rSkip hw hn hns hr
theorem dLn {r:List Oper} {aft:Array Edge} (hw:Zf ops.toList tm ⟨some d,.call {callee:= .builtin .len,args:= #[x],argTypes:= #[t]},ty,pos,aft,grd⟩=some true) (hn:Nat.blt d n=true) (hx:Zh E tm x=slV b es el) (ht:E.T t=some ti) (hk:ti.tk= .slice e) (hr:DrwQ E P own n ops n0 (i+1) r K (ZN tm (some d) (.int .i64 (el.length:Int))) H):DrwQ E P own n ops n0 i (⟨some d,.call {callee:= .builtin .len,args:= #[x],argTypes:= #[t]},ty,pos,aft,grd⟩::r) K tm H:= .rLen hw hn hx ht hk hr
theorem dIx {r:List Oper} {aft:Array Edge} (hw:Zf ops.toList tm ⟨some d,.indexAddr t x y,ty,pos,aft,grd⟩=some true) (hn:Nat.blt d n=true) (hx:Zh E tm x=slV b es el) (ht:E.T t=some ti) (hk:ti.tk= .slice e) (he:E.T e=some ei) (hes:ei.size=es) (hy:Zh E tm y= .int k (j:Int)) (hj:el[j]? = some cs) (hr:DrwQ E P own n ops n0 (i+1) r K (ZN tm (some d) (.fptr cs 0)) H):DrwQ E P own n ops n0 i (⟨some d,.indexAddr t x y,ty,pos,aft,grd⟩::r) K tm H:= .rIdx hw hn hx ht hk he hes hy hj hr
theorem qSt {r : List Oper} {a : Operand} {aft : Array Edge} (hw : Zf all tm ⟨none, .store t a v, ty, pos, aft, grd⟩ = some true) (ht : E.T t = some ti) (hcs : (Zh E tm v).cells = cs) (hn : IsL cs cs') (hl : (Nat.beq cs'.length ti.size && Nat.blt 0 ti.size) = true) (hc : cs'.all ZL = true) (hwr : H.wr (Zh E tm a) cs' = some H1) (hh : IsH H1 H1') (hr : RegQ E P own n all r K tm H1') :
  RegQ E P own n all (⟨none,.store t a v,ty,pos,aft,grd⟩::r) K tm H:= .rSt hw ht hcs hn hl hc hwr hh hr
theorem qSl {r:List Oper} {aft:Array Edge} {p:PV} (hw:Zf all tm ⟨some d,.slice t x lo hi mx,ty,pos,aft,grd⟩=some true) (hn:Nat.blt d n=true) (hx:Zh E tm x=X) (h1:ZbE (Zh E tm) lo=LO) (h2:ZbE (Zh E tm) hi=HI) (h3:ZbE (Zh E tm) mx=MX) (h:Yf E t X LO HI MX=some p) (hv:IsV p p') (hr:RegQ E P own n all r K (ZN tm (some d) p') H):RegQ E P own n all (⟨some d,.slice t x lo hi mx,ty,pos,aft,grd⟩::r) K tm H:= .rSl hw hn hx h1 h2 h3 h hv hr
theorem dSl {r:List Oper} {aft:Array Edge} {p:PV} (hw:Zf ops.toList tm ⟨some d,.slice t x lo hi mx,ty,pos,aft,grd⟩=some true) (hn:Nat.blt d n=true) (hx:Zh E tm x=X) (h1:ZbE (Zh E tm) lo=LO) (h2:ZbE (Zh E tm) hi=HI) (h3:ZbE (Zh E tm) mx=MX) (h:Yf E t X LO HI MX=some p) (hv:IsV p p') (hk:okD E own n0 tm ⟨some d,.slice t x lo hi mx,ty,pos,aft,grd⟩ H H=true) (hr:DrwQ E P own n ops n0 (i+1) r K (ZN tm (some d) p') H):DrwQ E P own n ops n0 i (⟨some d,.slice t x lo hi mx,ty,pos,aft,grd⟩::r) K tm H:= .rSl hw hn hx h1 h2 h3 h hv hk hr
theorem qBi {r:List Oper} {aft:Array Edge} {p:PV} (hw:Zf all tm ⟨some d,.binOp op t x y yt,ty,pos,aft,grd⟩=some true) (hn:Nat.blt d n=true) (hx:Zh E tm x=X) (hy:Zh E tm y=Y) (h:XM E op t X Y=some p) (hv:IsV p p') (hr:RegQ E P own n all r K (ZN tm (some d) p') H):RegQ E P own n all (⟨some d,.binOp op t x y yt,ty,pos,aft,grd⟩::r) K tm H:= .rBi hw hn hx hy h hv hr
theorem dBi {r:List Oper} {aft:Array Edge} {p:PV} (hw:Zf ops.toList tm ⟨some d,.binOp op t x y yt,ty,pos,aft,grd⟩=some true) (hn:Nat.blt d n=true) (hx:Zh E tm x=X) (hy:Zh E tm y=Y) (h:XM E op t X Y=some p) (hv:IsV p p') (hk:okD E own n0 tm ⟨some d,.binOp op t x y yt,ty,pos,aft,grd⟩ H H=true) (hr:DrwQ E P own n ops n0 (i+1) r K (ZN tm (some d) p') H):DrwQ E P own n ops n0 i (⟨some d,.binOp op t x y yt,ty,pos,aft,grd⟩::r) K tm H:= .rBi hw hn hx hy h hv hk hr
theorem qXi {r:List Oper} {aft:Array Edge} {p:PV} (hw:Zf all tm ⟨some d,.index t x y,ty,pos,aft,grd⟩=some true) (hn:Nat.blt d n=true) (hx:Zh E tm x=X) (hy:Zh E tm y=Y) (h:UH E t X Y=some p) (hv:IsV p p') (hr:RegQ E P own n all r K (ZN tm (some d) p') H):RegQ E P own n all (⟨some d,.index t x y,ty,pos,aft,grd⟩::r) K tm H:= .rIx hw hn hx hy h hv hr
theorem dXi {r:List Oper} {aft:Array Edge} {p:PV} (hw:Zf ops.toList tm ⟨some d,.index t x y,ty,pos,aft,grd⟩=some true) (hn:Nat.blt d n=true) (hx:Zh E tm x=X) (hy:Zh E tm y=Y) (h:UH E t X Y=some p) (hv:IsV p p') (hk:okD E own n0 tm ⟨some d,.index t x y,ty,pos,aft,grd⟩ H H=true) (hr:DrwQ E P own n ops n0 (i+1) r K (ZN tm (some d) p') H):DrwQ E P own n ops n0 i (⟨some d,.index t x y,ty,pos,aft,grd⟩::r) K tm H:= .rIx hw hn hx hy h hv hk hr
theorem qIa {r:List Oper} {aft:Array Edge} {p:PV} (hw:Zf all tm ⟨some d,.indexAddr t x y,ty,pos,aft,grd⟩=some true) (hn:Nat.blt d n=true) (hx:Zh E tm x=X) (hy:Zh E tm y=Y) (h:Zy E t X Y=some p) (hv:IsV p p') (hr:RegQ E P own n all r K (ZN tm (some d) p') H):RegQ E P own n all (⟨some d,.indexAddr t x y,ty,pos,aft,grd⟩::r) K tm H:= .rIa hw hn hx hy h hv hr
theorem dIa {r:List Oper} {aft:Array Edge} {p:PV} (hw:Zf ops.toList tm ⟨some d,.indexAddr t x y,ty,pos,aft,grd⟩=some true) (hn:Nat.blt d n=true) (hx:Zh E tm x=X) (hy:Zh E tm y=Y) (h:Zy E t X Y=some p) (hv:IsV p p') (hr:DrwQ E P own n ops n0 (i+1) r K (ZN tm (some d) p') H):DrwQ E P own n ops n0 i (⟨some d,.indexAddr t x y,ty,pos,aft,grd⟩::r) K tm H:= .rIa hw hn hx hy h hv hr
theorem qLd {r:List Oper} {aft:Array Edge} {p:PV} (hw:Zf all tm ⟨some d,.load t x,ty,pos,aft,grd⟩=some true) (hn:Nat.blt d n=true) (hx:Zh E tm x=X) (h:ZZ E t X H=some p) (hv:IsV p p') (hr:RegQ E P own n all r K (ZN tm (some d) p') H):RegQ E P own n all (⟨some d,.load t x,ty,pos,aft,grd⟩::r) K tm H:= .rLd hw hn hx h hv hr
theorem dLd {r:List Oper} {aft:Array Edge} {p:PV} (hw:Zf ops.toList tm ⟨some d,.load t x,ty,pos,aft,grd⟩=some true) (hn:Nat.blt d n=true) (hx:Zh E tm x=X) (h:ZZ E t X H=some p) (hv:IsV p p') (hk:okD E own n0 tm ⟨some d,.load t x,ty,pos,aft,grd⟩ H H=true) (hr:DrwQ E P own n ops n0 (i+1) r K (ZN tm (some d) p') H):DrwQ E P own n ops n0 i (⟨some d,.load t x,ty,pos,aft,grd⟩::r) K tm H:= .rLd hw hn hx h hv hk hr
theorem qLe {r:List Oper} {aft:Array Edge} {p:PV} (hw:Zf all tm ⟨some d,.call {callee:= .builtin .len,args:= #[x],argTypes:= #[t]},ty,pos,aft,grd⟩=some true) (hn:Nat.blt d n=true) (hx:Zh E tm x=X) (h:∀H,Zc0 E t X H=some p) (hv:IsV p p') (hr:RegQ E P own n all r K (ZN tm (some d) p') H):RegQ E P own n all (⟨some d,.call {callee:= .builtin .len,args:= #[x],argTypes:= #[t]},ty,pos,aft,grd⟩::r) K tm H:= .rLe hw hn hx h hv hr
theorem dLe {r:List Oper} {aft:Array Edge} {p:PV} (hw:Zf ops.toList tm ⟨some d,.call {callee:= .builtin .len,args:= #[x],argTypes:= #[t]},ty,pos,aft,grd⟩=some true) (hn:Nat.blt d n=true) (hx:Zh E tm x=X) (h:∀H,Zc0 E t X H=some p) (hv:IsV p p') (hk:okD E own n0 tm ⟨some d,.call {callee:= .builtin .len,args:= #[x],argTypes:= #[t]},ty,pos,aft,grd⟩ H H=true) (hr:DrwQ E P own n ops n0 (i+1) r K (ZN tm (some d) p') H):DrwQ E P own n ops n0 i (⟨some d,.call {callee:= .builtin .len,args:= #[x],argTypes:= #[t]},ty,pos,aft,grd⟩::r) K tm H:= .rLe hw hn hx h hv hk hr
theorem qMk {r:List Oper} {aft:Array Edge} {l c:Operand} {p:PV} (hw:Zf all tm ⟨some d,.makeSlice t l c,ty,pos,aft,grd⟩=some true) (hn:Nat.blt d n=true) (ho:own d=true) (hx:Zh E tm l=X) (hy:Zh E tm c=Y) (h:Xn E t X Y H=some (p,H1)) (hr:RegQ E P own n all r K (ZN tm (some d) p) H1):RegQ E P own n all (⟨some d,.makeSlice t l c,ty,pos,aft,grd⟩::r) K tm H:= .rMk hw hn ho hx hy h hr
theorem qAp {r:List Oper} {aft:Array Edge} {p:PV} (hw:Zf all tm ⟨some d,.call {callee:= .builtin .append,args:= #[x,y],argTypes:= #[t,u]},ty,pos,aft,grd⟩=some true) (hn:Nat.blt d n=true) (ho:own d=false) (hx:Zh E tm x=X) (hy:Zh E tm y=Y) (h:ZP E t u X Y H=some (p,H1)) (hr:RegQ E P own n all r K (ZN tm (some d) p) H1):RegQ E P own n all (⟨some d,.call {callee:= .builtin .append,args:= #[x,y],argTypes:= #[t,u]},ty,pos,aft,grd⟩::r) K tm H:= .rAp hw hn ho hx hy h hr
theorem dAp {r:List Oper} {aft:Array Edge} {p:PV} (hw:Zf ops.toList tm ⟨some d,.call {callee:= .builtin .append,args:= #[x,y],argTypes:= #[t,u]},ty,pos,aft,grd⟩=some true) (hn:Nat.blt d n=true) (ho:own d=false) (hx:Zh E tm x=X) (hy:Zh E tm y=Y) (h:ZP E t u X Y H=some (p,H1)) (hk:okD E own n0 tm ⟨some d,.call {callee:= .builtin .append,args:= #[x,y],argTypes:= #[t,u]},ty,pos,aft,grd⟩ H H1=true) (hr:DrwQ E P own n ops n0 (i+1) r K (ZN tm (some d) p) H1):DrwQ E P own n ops n0 i (⟨some d,.call {callee:= .builtin .append,args:= #[x,y],argTypes:= #[t,u]},ty,pos,aft,grd⟩::r) K tm H:= .rAp hw hn ho hx hy h hk hr
theorem qCl {r:List Oper} {aft:Array Edge} {p:PV} {f:Operand} {args:Array Operand} {k:FuncId} (hw:Zf all tm ⟨some d,.call {callee:= .value f,args:=args,argTypes:=ats},ty,pos,aft,grd⟩=some true) (hn:Nat.blt d n=true) (hf:Zh E tm f= .fn k caps) (ha:args.toList.map (Zh E tm)++caps=al) (h:CallOk E P k al H p H1) (hr:RegQ E P own n all r K (ZN tm (some d) p) H1):RegQ E P own n all (⟨some d,.call {callee:= .value f,args:=args,argTypes:=ats},ty,pos,aft,grd⟩::r) K tm H:= .rCall hw hn hf ha h (.any _) hr
theorem dCl {r:List Oper} {aft:Array Edge} {p:PV} {f:Operand} {args:Array Operand} {k:FuncId} (hw:Zf ops.toList tm ⟨some d,.call {callee:= .value f,args:=args,argTypes:=ats},ty,pos,aft,grd⟩=some true) (hn:Nat.blt d n=true) (hf:Zh E tm f= .fn k caps) (ha:args.toList.map (Zh E tm)++caps=al) (hc:Y2 E own ⟨some d,.call {callee:= .value f,args:=args,argTypes:=ats},ty,pos,aft,grd⟩= .qu) (h:CallOk E P k al H p H) (hr:DrwQ E P own n ops n0 (i+1) r K (ZN tm (some d) p) H):DrwQ E P own n ops n0 i (⟨some d,.call {callee:= .value f,args:=args,argTypes:=ats},ty,pos,aft,grd⟩::r) K tm H:= .rCall hw hn hf ha hc h (.any _) hr
theorem qBs {r:List Oper} {aft:Array Edge} (hw:Zf all tm ⟨some d,.buildSlice t m ps,ty,pos,aft,grd⟩=some true) (hn:Nat.blt d n=true) (ho:own d=false) (h:Z1 E t m (ps.toList.map fun p=>(p.1,Zh E tm p.2))=some (es,el)) (hl:IsLL el el') (hf:Yo el'=some el') (hr:RegQ E P own n all r K (ZN tm (some d) (.sl .full es el')) H):RegQ E P own n all (⟨some d,.buildSlice t m ps,ty,pos,aft,grd⟩::r) K tm H:= .rBs hw hn ho h hl hf hr
theorem dBs {r:List Oper} {aft:Array Edge} (hw:Zf ops.toList tm ⟨some d,.buildSlice t m ps,ty,pos,aft,grd⟩=some true) (hn:Nat.blt d n=true) (ho:own d=false) (h:Z1 E t m (ps.toList.map fun p=>(p.1,Zh E tm p.2))=some (es,el)) (hl:IsLL el el') (hf:Yo el'=some el') (hk:okD E own n0 tm ⟨some d,.buildSlice t m ps,ty,pos,aft,grd⟩ H H=true) (hr:DrwQ E P own n ops n0 (i+1) r K (ZN tm (some d) (.sl .full es el')) H):DrwQ E P own n ops n0 i (⟨some d,.buildSlice t m ps,ty,pos,aft,grd⟩::r) K tm H:= .rBs hw hn ho h hl hf hk hr
theorem Zva {r:PV} {ps ps':List PV} (h1:U0 E tm H fn.results.toList=some ps) (hp:IsL ps ps') (h2:frz3 0 H (one ps')=some r):RetQ E fn r .ret tm H:= .fin h1 hp h2
theorem Zv4 {r:PV} {ps:List PV} {m:Int} (h1:U0 E tm H fn.results.toList=some ps) (h2:frz3 0 H (one ps)=some (.int k m)) (he: .int k m=r):RetQ E fn r .ret tm H:= .end h1 h2 (.int _ _) he
theorem ZrP {r:PV} {ps:List PV} (h1:U0 E tm H fn.results.toList=some ps) (h2:frz3 0 H (one ps)=some (.bool b)) (he: .bool b=r):RetQ E fn r .ret tm H:= .end h1 h2 (.bool _) he
end
theorem IsV.n {p:PV} (h:IsV p p':=by first|exact Go.Vm.IsV.int _ _|exact Go.Vm.IsV.str _|exact Go.Vm.IsV.slV _ _ _|exact Go.Vm.IsV.nils|exact Go.Vm.IsV.sl _ _ _|exact Go.Vm.IsV.ptrN|exact Go.Vm.IsV.aggN|exact Go.Vm.IsV.tupN|exact Go.Vm.IsV.fptr _ _|exact Go.Vm.IsV.own _ _ _ _|exact Go.Vm.IsV.fn _ _|exact Go.Vm.IsV.nilp|exact Go.Vm.IsV.nilm|exact Go.Vm.IsV.map _|exact Go.Vm.IsV.nilf|exact Go.Vm.IsV.any _):IsV p p':=h
section
variable {E:Env} {P:Program} {own:Tmp→Bool} {n:Nat} {Q:Ex→TM→Heap→Prop} {K:TM→Heap→Prop} {tm:TM} {H:Heap}
theorem g0 {r : List Oper} {aft : Array Edge} {p : PV} (hw : Zf all tm ⟨some d, OP, ty, pos, aft, grd⟩ = some true) (hn : Nat.blt d n = true) (h : aOp E (own d) (Zh E tm) OP H = some (p, H)) (hv : IsV p p')
  (hr:RegQ E P own n all r K (ZN tm (some d) p') H):RegQ E P own n all (⟨some d,OP,ty,pos,aft,grd⟩::r) K tm H:= .rOp hw hn h hv hr
theorem g1 {r : List Oper} {aft : Array Edge} {p : PV} (hw : Zf all tm ⟨some d, OP, ty, pos, aft, grd⟩ = some true) (hn : Nat.blt d n = true) (h : aOp E (own d) (Zh E tm) OP H = some (p, H1)) (hv : IsV p p') (hh : IsH H1 H1')
  (hr:RegQ E P own n all r K (ZN tm (some d) p') H1'):RegQ E P own n all (⟨some d,OP,ty,pos,aft,grd⟩::r) K tm H:= .rOpH hw hn h hv hh hr
theorem h0 {r : List Oper} {aft : Array Edge} {p : PV} (hw : Zf ops.toList tm ⟨some d, OP, ty, pos, aft, grd⟩ = some true) (hn : Nat.blt d n = true) (h : aOp E (own d) (Zh E tm) OP H = some (p, H)) (hv : IsV p p')
  (hk:okD E own n0 tm ⟨some d,OP,ty,pos,aft,grd⟩ H H=true) (hr:DrwQ E P own n ops n0 (i+1) r K (ZN tm (some d) p') H):DrwQ E P own n ops n0 i (⟨some d,OP,ty,pos,aft,grd⟩::r) K tm H:= .rOp hw hn h hv hk hr
theorem h1 {r : List Oper} {aft : Array Edge} {p : PV} (hw : Zf ops.toList tm ⟨some d, OP, ty, pos, aft, grd⟩ = some true) (hn : Nat.blt d n = true) (h : aOp E (own d) (Zh E tm) OP H = some (p, H1)) (hv : IsV p p') (hh : IsH H1 H1')
  (hk:okD E own n0 tm ⟨some d,OP,ty,pos,aft,grd⟩ H H1=true) (hr:DrwQ E P own n ops n0 (i+1) r K (ZN tm (some d) p') H1'):DrwQ E P own n ops n0 i (⟨some d,OP,ty,pos,aft,grd⟩::r) K tm H:= .rOpH hw hn h hv hh hk hr
theorem Zl (n:Nat) (b:Bool) (es:Nat) (el:List (List PV)):under n (slV b es el)=true:=by
 unfold slV;cases el with
 |nil=>cases b<;>rfl
 |cons c r=>rfl
def ZrS (n0:Nat) (Q:Ex→TM→Heap→Prop) (ex:Ex) (tm:TM) (H:Heap):Prop:=
 Q ex tm H∨∃tm2,(∀t,tm2 t= .undef∨(tm2 t=tm t∧under n0 (tm t)=true))∧(H.bx.take n0).all (Yy n0)=true∧Q ex tm2 {H with bx:=H.bx.take n0}
structure DropQ (n0:Nat) (Q:Ex→TM→Heap→Prop) (ex:Ex) (tm:TM) (H:Heap):Prop where
 out:ZrS n0 Q ex tm H
theorem Wp.drop {c:Code} (h:Wp E P own n c (DropQ H.bx.length Q) tm H):Wp E P own n c Q tm H:=by obtain⟨ex,tm',H',h1,⟨h2⟩⟩:=h.out;rcases h2 with h2|⟨tm2,a,b,h3⟩;{exact⟨ex,tm',H',h1,h2⟩};{exact⟨ex,tm2,_,.drop _ _ _ _ _ _ _ h1 a b,h3⟩}
theorem DropQ.ret {n0:Nat} (h:Q .ret tm H):DropQ n0 Q .ret tm H:=⟨.inl h⟩
theorem DropQ.exit {n0 i:Nat} (h:Q (.exit i) tm H):DropQ n0 Q (.exit i) tm H:=⟨.inl h⟩
theorem Zjy {l:List (Nat×PV)}:okL tm l→(l.all fun x=>under n x.2)=true→∀t,ovr (fun _=> .undef) l t= .undef∨(ovr (fun _=> .undef) l t=tm t∧under n (tm t)=true):=by
 induction l with
 |nil=>intro _ _ t;exact .inl rfl
 |cons x r ih=>obtain⟨d,v⟩:=x;intro h hu t;simp only[List.all_cons,Bool.and_eq_true]at hu;simp only[ovr,ZN];split;{rename_i e;subst e;exact .inr ⟨h.1.symm,by rw[h.1];exact hu.1⟩};{exact ih h.2 hu.2 t}
theorem DropQ.go (l:List (Nat×PV)) (hl:okL tm l) (hu:(l.all fun x=>under n0 x.2)=true) (hb:bx.take n0=bx') (hbu:bx'.all (Yy n0)=true) (h:Q ex (ovr (fun _=> .undef) l) ⟨bx',ro,lv,nt⟩):DropQ n0 Q ex tm ⟨bx,ro,lv,nt⟩:=by subst hb;exact⟨.inr ⟨_,Zjy hl hu,hbu,h⟩⟩
theorem dSt {r:List Oper} {a:Operand} {aft:Array Edge} {id:Nat} (hw:Zf ops.toList tm ⟨none,.store t a v,ty,pos,aft,grd⟩=some true) (ht:E.T t=some ti) (ha:Zh E tm a= .ptr id es ix off) (hcs:(Zh E tm v).cells=cs) (hn:IsL cs cs') (hl:(Nat.beq cs'.length ti.size&&Nat.blt 0 ti.size)=true) (hc:cs'.all ZL=true) (hwr:H.wr (.ptr id es ix off) cs'=some H1) (hh:IsH H1 H1') (hb:(nth H1'.bx id).isSome=true) (hf:own (30000+i)=Nat.ble n0 id) (hq:(match own 29999 with|false=>true|true=>Nat.beq id (tgB own i))=true) (hr:DrwQ E P own n ops n0 (i+1) r K tm H1'):DrwQ E P own n ops n0 i (⟨none,.store t a v,ty,pos,aft,grd⟩::r) K tm H:=by have e:=hn.eq;subst e;subst hcs;have e2:=hh.eq;subst e2;simp only[Bool.and_eq_true]at hl;have h1:=Nat.eq_of_beq_eq_true hl.1;have h2:0<ti.size:=Nat.le_of_ble_eq_true hl.2;obtain⟨b,hb⟩:=Option.isSome_iff_exists.1 hb;exact .opS hw ht ha ⟨h1,h2,hc⟩ hwr hb hf (fun e=>by rw[e]at hq;exact Nat.eq_of_beq_eq_true hq) hr
theorem ZqH {r:List Oper} {aft:Array Edge} {p:PV} (hw:Zf ops.toList tm ⟨some d,.call {callee:= .builtin .append,args:= #[x,y],argTypes:= #[t,u]},ty,pos,aft,grd⟩=some true) (hn:Nat.blt d n=true) (ho:own d=true) (ho2:own (d+5000)=false) (hx:Zh E tm x=X) (hy:Zh E tm y=Y) (h:ZK E t u X Y H=some (p,H1)) (hl:H.bx.length≤H1.bx.length) (hr:DrwQ E P own n ops n0 (i+1) r K (ZN tm (some d) p) H1):DrwQ E P own n ops n0 i (⟨some d,.call {callee:= .builtin .append,args:= #[x,y],argTypes:= #[t,u]},ty,pos,aft,grd⟩::r) K tm H:=by refine .op (p:=p) hw (by simp only[X4,hn]) ?_ ?_ hr;{simp[aOp,Z9,ho,hx,hy,h]};{simp only[okD,Y2,Option.getD_some,ho2];exact Nat.ble_eq_true_of_le hl}
theorem qCv {r : List Oper} {aft : Array Edge} {p : PV} (hw : Zf all tm ⟨some d, .convert t u x, ty, pos, aft, grd⟩ = some true) (hn : Nat.blt d n = true) (hx : Zh E tm x = X) (h : Zdb E t u X = some p) (hv : IsV p p')
  (hr:RegQ E P own n all r K (ZN tm (some d) p') H):RegQ E P own n all (⟨some d,.convert t u x,ty,pos,aft,grd⟩::r) K tm H:= .run hw rfl hn (p:=p) (by simp only[aOp,hx,h,Option.map_some]) hv hr
theorem dCv {r : List Oper} {aft : Array Edge} {p : PV} (hw : Zf ops.toList tm ⟨some d, .convert t u x, ty, pos, aft, grd⟩ = some true) (hn : Nat.blt d n = true) (hx : Zh E tm x = X) (h : Zdb E t u X = some p) (hv : IsV p p')
  (hk:okD E own n0 tm ⟨some d,.convert t u x,ty,pos,aft,grd⟩ H H=true) (hr:DrwQ E P own n ops n0 (i+1) r K (ZN tm (some d) p') H):DrwQ E P own n ops n0 i (⟨some d,.convert t u x,ty,pos,aft,grd⟩::r) K tm H:= .run hw rfl hn (p:=p) (by simp only[aOp,hx,h,Option.map_some]) hv hk hr
theorem IsV.ptrM {b c : Nat} (h1 : a = a' := by first | exact(rfl : (_ : Nat) = 0) | exact(rfl : (_ : Nat) = 1) | exact(rfl : (_ : Nat) = 2) | exact(rfl : (_ : Nat) = 3) | exact(rfl : (_ : Nat) = 4) | exact(rfl : (_ : Nat) = 5) | exact(rfl : (_ : Nat) = 6) | exact(rfl : (_ : Nat) = 7) | exact(rfl : (_ : Nat) = 8) | exact(rfl : (_ : Nat) = 9) | exact(rfl : (_ : Nat) = 10) | exact(rfl : (_ : Nat) = 11) | exact(rfl : (_ : Nat) = 12) | exact(rfl : (_ : Nat) = 13) | exact(rfl : (_ : Nat) = 14) | exact(rfl : (_ : Nat) = 15) | exact(rfl : (_ : Nat) = 16) | exact(rfl : (_ : Nat) = 17) | exact(rfl : (_ : Nat) = 18) | exact(rfl : (_ : Nat) = 19) | exact(rfl : (_ : Nat) = 20) | exact(rfl : (_ : Nat) = 21) | exact(rfl : (_ : Nat) = 22) | exact(rfl : (_ : Nat) = 23) | exact(rfl : (_ : Nat) = 24) | exact(rfl : (_ : Nat) = 25) | exact(rfl : (_ : Nat) = 26) | exact(rfl : (_ : Nat) = 27) | exact(rfl : (_ : Nat) = 28) | exact(rfl : (_ : Nat) = 29) | exact(rfl : (_ : Nat) = 30) | exact(rfl : (_ : Nat) = 31) | exact(rfl : (_ : Nat) = 32) | exact(rfl : (_ : Nat) = 33) | exact(rfl : (_ : Nat) = 34) | exact(rfl : (_ : Nat) = 35) | exact(rfl : (_ : Nat) = 36) | exact(rfl : (_ : Nat) = 37) | exact(rfl : (_ : Nat) = 38) | exact(rfl : (_ : Nat) = 39) | exact(rfl : (_ : Nat) = 40) | exact(rfl : (_ : Nat) = 41) | exact(rfl : (_ : Nat) = 42) | exact(rfl : (_ : Nat) = 43) | exact(rfl : (_ : Nat) = 44) | exact(rfl : (_ : Nat) = 45) | exact(rfl : (_ : Nat) = 46) | exact(rfl : (_ : Nat) = 47) | exact rfl)
  (h2:b=b':=by first|exact(rfl:(_:Nat)=1)|exact(rfl:(_:Nat)=2)|exact(rfl:(_:Nat)=3)|exact(rfl:(_:Nat)=4)|exact(rfl:(_:Nat)=5)|exact(rfl:(_:Nat)=6)|exact(rfl:(_:Nat)=7)|exact(rfl:(_:Nat)=8)|exact rfl)
  (h3:c=c':=by exact rfl) (h4:d=d':=by exact rfl):IsV (.ptr a b c d) (.ptr a' b' c' d'):= .ptr4 h1 h2 h3 h4
theorem dAl {r:List Oper} {aft:Array Edge} {p:PV} (hw:Zf ops.toList tm ⟨some d,.alloc e,ty,pos,aft,grd⟩=some true) (hn:Nat.blt d n=true) (he:E.T e=some ei) (hz:(Nat.beq ei.zero.cells.length ei.size&&Nat.blt 0 ei.size)=true) (hv:IsV (.ptr (n0+i) ei.size 0 0) p) (hs:IsH (Ym H (n0+i) (.cells ei.size [ei.zero.cells])) H1) (hr:DrwQ E P own n ops n0 (i+1) r K (ZN tm (some d) p) H1):DrwQ E P own n ops n0 i (⟨some d,.alloc e,ty,pos,aft,grd⟩::r) K tm H:=by have e1:=hv.eq;subst e1;exact .al hw hn he hz hs.eq hr
theorem dWA {id:Nat} (hE:TOk E P) (hm:P.follows .mixedOrders=true) (hs:(ZeA E own ops&& !(alL E own ops.toList 0).isEmpty)=true) (hro:H.ro=0) (hH:IsH (ZaE H ops.size) H0) (h:DrwQ E P own n ops H.bx.length 0 ops.toList (Q .normal) tm H0):Wp E P own n (.region id ops true) Q tm H:=by
 simp only[Bool.and_eq_true,Bool.not_eq_true']at hs;have hr:Wm E own ops=ops.size:=by
  unfold Wm
  cases e:alL E own ops.toList 0 with
  | nil=>rw[e]at hs;simp at hs
  | cons a l=>rfl
 have e:=hH.eq;subst e;exact .drawA hE hm hs.1 hro (by rw[hr]) h
end
section
variable {E:Env} {P:Program}
theorem Zf5 {ext:List Box} (h:i<bx.length):(⟨bx++ext,ro,lv,nt⟩:Heap).liveAt i↔(⟨bx,ro,lv,nt⟩:Heap).liveAt i:=by simp only[Heap.liveAt,List.getElem?_append_left h]
theorem ZkG {ext:List Box} (hl:bx'.length=bx.length) (h:bx.length≤i):(⟨bx'++ext,ro',lv',nt'⟩:Heap).liveAt i↔(⟨bx++ext,ro,lv,nt⟩:Heap).liveAt i:=by simp only[Heap.liveAt,List.getElem?_append_right h,List.getElem?_append_right (show bx'.length≤i by omega),hl]
def Gh.glue (g' g:Gh) (n:Nat):Gh:={g' with σ:=fun i=>if i<n then g'.σ i else g.σ i,κ:=fun i=>if i<n then g'.κ i else g.κ i}
theorem CallOk.ext {f:FuncId} {args:List PV} {r:PV} {bx bx' ext:List Box} {ro nt nt':Nat} {lv lv':List Nat} (h:CallOk E P f args ⟨bx,ro,lv,nt⟩ r ⟨bx',ro,lv',nt'⟩) (hl:bx'.length=bx.length) (hu:ZO bx.length args=true) (hb:bx.all (Yy bx.length)=true) (hro:ro≤bx.length):CallOk E P f args ⟨bx++ext,ro,lv,nt⟩ r ⟨bx'++ext,ro,lv',nt'⟩:=by
 intro g w vals hi hg hv;have htake:(bx++ext).take bx.length=bx:=by simp
 have hic:=Zek (n:=bx.length) hi (by simp) hro (by simpa[htake] using hb);simp only[htake]at hic;have hvc:VL (g.cutσ bx.length) args vals.toList:=⟨hv.1,fun i h1 h2=>(hv.2 i h1 h2).cut (Xr hu i h1)⟩;refine UponCall.mono (fun v w' ⟨g',hp,hi',k⟩=>?_) (h (g.cutσ bx.length) w vals hic hg hvc);have hsd:∀i,bx.length≤i→g'.σ i=none:=fun i hi0=>hi'.sd i (by simpa[hl] using hi0);have s1:∀i,i<bx.length→(g'.glue g bx.length).σ i=g'.σ i:=fun i h=>by simp[Gh.glue,h]
 have s2:∀i,bx.length≤i→(g'.glue g bx.length).σ i=g.σ i:=fun i h=>by simp[Gh.glue,Nat.not_lt.2 h]
 have le1:g'.Le (g'.glue g bx.length):=⟨fun _ _ _ h=>h,fun i b h=>(by
  by_cases e:i<bx.length
  · rw[s1 i e];exact h
  · rw[hsd i (by omega)]at h;cases h),fun _ _ h=>h,fun i b h=>(by
  by_cases e:i<bx.length
  · simp[Gh.glue,e]
  · rw[hsd i (by omega)]at h;cases h),rfl⟩
 have le2:g.Le (g'.glue g bx.length):=⟨fun b o v h=>k.le.S b o v h,fun i b h=>(by
  by_cases e:i<bx.length
  · rw[s1 i e];exact k.le.σ i b (by rw[Xo e];exact h)
  · rw[s2 i (by omega)];exact h),fun t x h=>k.le.τ t x h,fun i b h=>(by
  by_cases e:i<bx.length
  · simp only[Gh.glue, e, if_true]
    exact k.le.κ i b (by rw[Xo e];exact h)
  · simp[Gh.glue,e]),k.le.mono⟩
 have cutlive:∀{i},(⟨bx,ro,lv,nt⟩:Heap).liveAt i→i<bx.length∧(⟨bx++ext,ro,lv,nt⟩:Heap).liveAt i:=fun {i} h=>by obtain⟨b,hb,ha⟩:=h;have:=Zz hb;exact⟨this,(Zf5 this).2 ⟨b,hb,ha⟩⟩
 have shutE:∀j b,bx.length≤j→(⟨bx++ext,ro,lv,nt⟩:Heap).liveAt j→g.σ j=some b→Shut (g.cutσ bx.length) ⟨bx,ro,lv,nt⟩ b:=fun j b hj hlj hs=>
  ⟨fun id _ hlid he => by
    obtain⟨h1,h2⟩:=Yu he
    have:=hi.inj id j b (cutlive hlid).2 hlj h2 hs
    omega,fun t lo hi2 ht he=>(hi.tk t b lo hi2 ht he).2.2 j hlj hs⟩
 have heapE:∀j b,bx.length≤j→(⟨bx++ext,ro,lv,nt⟩:Heap).liveAt j→g.σ j=some b→w'.heap[b]? = w.heap[b]? ∧∀o,g'.S b o=g.S b o:=fun j b hj hlj hs=>
  ⟨k.heap b (hi.sz j b hs) (shutE j b hj hlj hs),k.store b (hi.sz j b hs) (shutE j b hj hlj hs)⟩
 have notnew:∀i j b,i<bx.length→(⟨bx',ro,lv',nt'⟩:Heap).liveAt i→bx.length≤j→(⟨bx++ext,ro,lv,nt⟩:Heap).liveAt j→g'.σ i=some b→g.σ j=some b→False:=fun i j b hi1 hli hj hlj h1 h2=>by
  cases e:(g.cutσ bx.length).σ i with
  | some b0 =>
    have:=k.le.σ _ _ e
    rw[h1]at this
    cases this
    have hl0:=k.al i b e hli
    have:=hi.inj i j b (cutlive hl0).2 hlj (Yu e).2 h2
    omega
  | none =>
    rcases k.new i b e h1 with h3|⟨id',_,h4,h5⟩
    · have:=hi.sz j b h2;omega
    · have h6 := hi.inj id' j b (cutlive h4).2 hlj (Yu h5).2 h2
      have:=(Yu h5).1
      omega
 have getl:∀i,i<bx.length→(bx'++ext)[i]? = bx'[i]? :=fun i h=>List.getElem?_append_left (by omega);have getr:∀i,bx.length≤i→(bx'++ext)[i]? = (bx++ext)[i]? :=fun i h=>by rw[List.getElem?_append_right (by omega),List.getElem?_append_right h,hl]
 have liveSplit:∀i,(⟨bx'++ext,ro,lv',nt'⟩:Heap).liveAt i→(i<bx.length∧(⟨bx',ro,lv',nt'⟩:Heap).liveAt i)∨(bx.length≤i∧(⟨bx++ext,ro,lv,nt⟩:Heap).liveAt i):=fun i h=>by by_cases e:i<bx.length;{exact .inl ⟨e,(Zf5 (by omega)).1 h⟩};{exact .inr ⟨by omega,(ZkG hl (by omega)).1 h⟩}
 refine⟨g'.glue g bx.length,hp.mono le1,⟨hi'.st,fun id es el h=>?_,fun id es h=>?_,fun id T cs h=>?_,fun i j b h1 h2 h3 h4=>?_,fun id h=>?_,hi'.td,fun t b lo hi2 ht hτ=>?_,hi'.tinj,hi'.nd,hi'.lt,fun id b h=>?_,?_,fun id b c T m h1 h2 h3=>?_⟩,⟨le2,fun b hb hs=>k.heap b hb ?_,fun b hb hs=>k.store b hb ?_,k.size,fun id b h h'=>?_,fun t b lo hi2 h h'=>k.tnew t b lo hi2 h h',rfl,by simp[hl],fun id h=>?_,k.nt,k.lv,fun id b h h'=>?_,fun id h h'=>?_,k.so⟩⟩;{by_cases e:id<bx.length;{obtain⟨b,c,T,h1,h2,h3,h4,h5,h6⟩:=hi'.bx id es el (by rw[← getl id e];exact h);exact⟨b,c,T,by rw[s1 id e];exact h1,h2,h3,h4,fun i hi0 j hj=>let ⟨v,a,x⟩:=h5 i hi0 j hj;⟨v,a,x.mono le1⟩,h6⟩};{(have hg0:(bx++ext)[id]? = some (.cells es el):=by rw[← getr id (by omega)];exact h);obtain⟨b,c,T,h1,h2,h3,h4,h5,h6⟩:=hi.bx id es el hg0;obtain⟨hh,hS⟩:=heapE id b (by omega) ⟨_,hg0,trivial⟩ h1;exact⟨b,c,T,by rw[s2 id (by omega)];exact h1,by rw[hh];exact h2,h3,h4,fun i hi0 j hj=>let ⟨v,a,x⟩:=h5 i hi0 j hj;⟨v,a,x.mono le2⟩,fun o=>(hS o).trans (h6 o)⟩}};{by_cases e:id<bx.length;{obtain⟨b,c,T,h1,h2,h3,h4,h5⟩:=hi'.mp id es (by rw[← getl id e];exact h);exact⟨b,c,T,by rw[s1 id e];exact h1,h2,h3,fun i hi0=>let ⟨a,z,x,y⟩:=h4 i hi0;⟨a,z,x.mono le1,y.mono le1⟩,h5⟩};{(have hg0:(bx++ext)[id]? = some (.map es):=by rw[← getr id (by omega)];exact h);obtain⟨b,c,T,h1,h2,h3,h4,h5⟩:=hi.mp id es hg0;obtain⟨hh,hS⟩:=heapE id b (by omega) ⟨_,hg0,trivial⟩ h1;exact⟨b,c,T,by rw[s2 id (by omega)];exact h1,by rw[hh];exact h2,h3,fun i hi0=>let ⟨a,z,x,y⟩:=h4 i hi0;⟨a,z,x.mono le2,y.mono le2⟩,fun o=>(hS o).trans (h5 o)⟩}};{by_cases e:id<bx.length;{obtain⟨b,c,h1,h2,h3,h4,h5⟩:=hi'.sp id T cs (by rw[← getl id e];exact h);exact⟨b,c,by rw[s1 id e];exact h1,h2,h3,fun j hj=>let ⟨v,a,x⟩:=h4 j hj;⟨v,a,x.mono le1⟩,h5⟩};{(have hg0:(bx++ext)[id]? = some (.sp T cs):=by rw[← getr id (by omega)];exact h);obtain⟨b,c,h1,h2,h3,h4,h5⟩:=hi.sp id T cs hg0;obtain⟨hh,hS⟩:=heapE id b (by omega) ⟨_,hg0,trivial⟩ h1;exact⟨b,c,by rw[s2 id (by omega)];exact h1,by rw[hh];exact h2,h3,fun j hj=>let ⟨v,a,x⟩:=h4 j hj;⟨v,a,x.mono le2⟩,fun o=>(hS o).trans (h5 o)⟩}};{rcases liveSplit i h1 with⟨a1,a2⟩|⟨a1,a2⟩<;>rcases liveSplit j h2 with⟨b1,b2⟩|⟨b1,b2⟩;{rw[s1 i a1]at h3;rw[s1 j b1]at h4;exact hi'.inj i j b a2 b2 h3 h4};{rw[s1 i a1]at h3;rw[s2 j b1]at h4;exact(notnew i j b a1 a2 b1 b2 h3 h4).elim};{rw[s2 i a1]at h3;rw[s1 j b1]at h4;exact(notnew j i b b1 b2 a1 a2 h4 h3).elim};{rw[s2 i a1]at h3;rw[s2 j b1]at h4;exact hi.inj i j b a2 b2 h3 h4}}
 ·have h:bx.length+ext.length≤id:=by simpa[hl] using h
  rw[s2 id (by omega)];exact hi.sd id (by simpa using h)
 ·obtain⟨h3,h5,h6⟩:=hi'.tk t b lo hi2 ht hτ;refine⟨h3,h5,fun id hlid he=>?_⟩;rcases liveSplit id hlid with⟨a1,a2⟩|⟨a1,a2⟩;{rw[s1 id a1]at he;exact h6 id a2 he}
  ·rw[s2 id a1]at he;cases e:(g.cutσ bx.length).τ t with
   | some x=>have:=k.le.τ _ _ e;have hτ':g'.τ t=some (b,lo,hi2):=hτ;rw[hτ']at this;cases this;rcases k.lv t ht with h7|h7;{exact(hi.tk t b lo hi2 h7 e).2.2 id a2 he};{rw[show(g.cutσ bx.length).τ t=g.τ t from rfl,hi.td t h7]at e;cases e}
   | none=>rcases k.tnew t b lo hi2 e hτ with h7|⟨t',lo',hi3,h8,h9⟩;{have:=hi.sz id b he;omega};{exact(hi.tk t' b lo' hi3 h8 h9).2.2 id a2 he}
 {by_cases e:id<bx.length;{rw[s1 id e]at h;exact hi'.sz id b h};{rw[s2 id (by omega)]at h;exact Nat.lt_of_lt_of_le (hi.sz id b h) k.size}};{simp[hl];omega};{rcases liveSplit id h1 with⟨a1,a2⟩|⟨a1,a2⟩;{rw[s1 id a1]at h2;simp only[Gh.glue,a1,if_true];exact hi'.rm id b c T m a2 h2 h3};{rw[s2 id a1]at h2;simp only[Gh.glue,Nat.not_lt.2 a1,if_false];rw[(heapE id b a1 a2 h2).1]at h3;exact hi.rm id b c T m a2 h2 h3}};{exact⟨fun id hr hlid he=>hs.1 id hr (cutlive hlid).2 (Yu he).2,hs.2⟩};{exact⟨fun id hr hlid he=>hs.1 id hr (cutlive hlid).2 (Yu he).2,hs.2⟩};{by_cases e:id<bx.length;{rw[s1 id e]at h';exact(k.new id b (by rw[Xo e];exact h) h').imp (fun h=>h) fun ⟨id',a,b,c⟩=>⟨id',a,(cutlive b).2,(Yu c).2⟩};{rw[s2 id (by omega),h]at h';cases h'}};{have h:id<ro:=h;have hx:=k.bx id h;rw[getl id (by omega),List.getElem?_append_left (by omega)];exact hx};{rcases liveSplit id h' with⟨a1,a2⟩|⟨a1,a2⟩;{exact(cutlive (k.al id b (by rw[Xo a1];exact h) a2)).2};{exact a2}};{by_cases e:id<bx.length;{rw[s1 id e];exact k.ns id e (by rw[Xo e];exact h')};{rw[s2 id (by omega)];exact h'}}
structure RetE (E:Env) (fn:Func) (r:PV) (H':Heap) (ex:Ex) (tm:TM) (H1:Heap):Prop where
 nx:∀i,ex≠ .exit i
 res:∃ps,U0 E tm H1 fn.results.toList=some ps∧one ps=r
 hp:H1=H'
theorem ZU (hE:TOk E P) {own:Tmp→Bool} {c:Code} (hf:FnOk P f fn c) {r:PV} {H:Heap} (h:Wp E P own fn.ntmps c (RetE E fn r H') (tm0 args) H):CallOk E P f args H r H':=by obtain⟨ex,tm',H1,h1,h2⟩:=h.out;obtain⟨ps,h3,rfl⟩:=h2.res;obtain rfl:=h2.hp;exact WN (own:=own) hE hf h1 h2.nx h3
structure DropF (n0:Nat) (Q:Ex→TM→Heap→Prop) (ex:Ex) (tm:TM) (H:Heap):Prop where
 out:DropQ n0 Q ex tm H
theorem ZgI (hE:TOk E P) {own:Tmp→Bool} {c:Code} (hf:FnOk P f fn c) {r:PV} {H:Heap} (h:Wp E P own fn.ntmps c (DropF H.bx.length (RetE E fn r H')) (tm0 args) H):CallOk E P f args H r H':=by refine ZU (own:=own) hE hf (Wp.drop ?_);obtain⟨ex,tm',H1,h1,h2⟩:=h.out;exact⟨ex,tm',H1,h1,h2.out⟩
theorem DropF.ret {Q : Ex → TM → Heap → Prop} {tm : TM} (l : List (Nat × PV)) (hl : okL tm l) (hu : (l.all fun x => under n0 x.2) = true) (hb : bx.take n0 = bx') (hbu : bx'.all (Yy n0) = true)
  (h:Q ex (ovr (fun _=> .undef) l) ⟨bx',ro,lv,nt⟩):DropF n0 Q ex tm ⟨bx,ro,lv,nt⟩:=⟨DropQ.go l hl hu hb hbu h⟩
theorem RetE.ret {fn:Func} {r:PV} {H' H1:Heap} {tm:TM} {ps:List PV} (h1:U0 E tm H1 fn.results.toList=some ps) (h2:one ps=r) (h3:H1=H'):RetE E fn r H' .ret tm H1:=⟨fun i h=>(by cases h),⟨ps,h1,h2⟩,h3⟩
structure RetP (E:Env) (fn:Func) (r:PV) (Pr:Heap→Prop) (ex:Ex) (tm:TM) (H1:Heap):Prop where
 nx:∀i,ex≠ .exit i
 res:∃ps,U0 E tm H1 fn.results.toList=some ps∧one ps=r
 hp:Pr H1
theorem Za3 (hE:TOk E P) {own:Tmp→Bool} {c:Code} (hf:FnOk P f fn c) {r:PV} {H:Heap} (h:Wp E P own fn.ntmps c (RetP E fn r Pr) (tm0 args) H):∃H',CallOk E P f args H r H'∧Pr H':=by obtain⟨ex,tm',H1,h1,h2⟩:=h.out;obtain⟨ps,h3,rfl⟩:=h2.res;exact⟨H1,WN (own:=own) hE hf h1 h2.nx h3,h2.hp⟩
theorem RetP.go {r:PV} {tm:TM} {ps:List PV} (h1:U0 E tm H1 fn.results.toList=some ps) (h2:one ps=r) (h3:Pr H1):RetP E fn r Pr .normal tm H1:=⟨fun i h=>(by cases h),⟨ps,h1,h2⟩,h3⟩
structure RetR (E:Env) (fn:Func) (Pr:PV→Heap→Prop) (ex:Ex) (tm:TM) (H1:Heap):Prop where
 nx:∀i,ex≠ .exit i
 res:∃ps,U0 E tm H1 fn.results.toList=some ps∧Pr (one ps) H1
theorem Zt (hE:TOk E P) {own:Tmp→Bool} {c:Code} (hf:FnOk P f fn c) {H:Heap} {Pr:PV→Heap→Prop} (h:Wp E P own fn.ntmps c (RetR E fn Pr) (tm0 args) H):∃r H',CallOk E P f args H r H'∧Pr r H':=by obtain⟨ex,tm',H1,h1,h2⟩:=h.out;obtain⟨ps,h3,h4⟩:=h2.res;exact⟨_,H1,WN (own:=own) hE hf h1 h2.nx h3,h4⟩
theorem RetR.ret {fn:Func} {Pr:PV→Heap→Prop} {H1:Heap} {tm:TM} {ps:List PV} (h1:U0 E tm H1 fn.results.toList=some ps) (h3:Pr (one ps) H1):RetR E fn Pr .ret tm H1:=⟨fun i h=>(by cases h),ps,h1,h3⟩
theorem RetR.go {Pr:PV→Heap→Prop} {tm:TM} {ps:List PV} (h1:U0 E tm H1 fn.results.toList=some ps) (h3:Pr (one ps) H1):RetR E fn Pr .normal tm H1:=⟨fun i h=>(by cases h),ps,h1,h3⟩
theorem Zur {own : Tmp → Bool} {n : Nat} {K : TM → Heap → Prop} {tm : TM} {H : Heap} {r : List Oper} {p : PV} {aft : Array Edge} (hw : Zf all tm ⟨none, .call { callee := .builtin .clear, args := #[x], argTypes := #[t] }, ty, pos, aft, grd⟩ = some true)
  (hx:Zh E tm x=X) (h:Zab E t X H=some (p,H1)) (hr:RegQ E P own n all r K tm H1):RegQ E P own n all (⟨none,.call {callee:= .builtin .clear,args:= #[x],argTypes:= #[t]},ty,pos,aft,grd⟩::r) K tm H:=
 .op (p:=p) hw rfl (by simp[aOp,Z9,hx,h]) hr
theorem Zk1 {id:Nat} {H:Heap} (ht:E.T t=some ti) (hk:ti.tk= .slice e) (he:E.T e=some ei) (hz:ei.zero.cells.length=ei.size) (hes:ei.size=es) (hpos:0<es) (hzo:ei.zero.cells.all ZL=true) (hb:nth H.bx id=some (.cells es el)) (hro:H.ro≤id) (hl:ix+len≤el.length):Zab E t (.own id es ix len) H=some (.tup [],{H with bx:=H.bx.set id (.cells es (el.take ix++(List.replicate len ei.zero.cells++el.drop (ix+len))))}):=by simp only[Zab,ht,hk,he,hb];rw[if_pos ⟨trivial,hz,hes,hpos,hro,hl,hzo⟩]
theorem ZnD {H:Heap} {id n:Nat} (hb:nth H.bx id=some (.cells es el)) (he:nth el ix=some cs) (hl:off+n≤cs.length):H.rd (.ptr id es ix off) n=some ((cs.drop off).take n):=by simp only[Heap.rd,hb,he,if_true,if_pos hl]
theorem U6 {H:Heap} {id:Nat} {old:List PV} (hb:nth H.bx id=some (.cells es el)) (he:nth el ix=some old) (hl:off+cs.length≤old.length) (hro:H.ro≤id):H.wr (.ptr id es ix off) cs=some {H with bx:=H.bx.set id (.cells es (el.set ix (old.take off++(cs++old.drop (off+cs.length)))))}:=by simp only[Heap.wr,hb,he,if_true,if_pos hl,Heap.put,if_neg (Nat.not_lt.2 hro)]
theorem WT {H:Heap} {id:Nat} (ht:E.T t=some ti) (hk:XL ti.tk=true) (hb:nth H.bx id=some (.cells es el)) (he:nth el ix=some cs) (hl:cs.length=ti.size):ZZ E t (.ptr id es ix 0) H=some (.agg cs):=by simp only[ZZ,ht,hk,if_true];rw[ZnD hb he (by omega)];simp only[Qe,hk,if_true];rw[List.drop_zero, ← hl,List.take_length]
theorem Zfd {H:Heap} {id:Nat} {v:PV} (ht:E.T t=some ti) (hk:XL ti.tk=false) (hb:nth H.bx id=some (.cells es el)) (he:nth el ix=some cs) (hv:nth cs off=some v):ZZ E t (.ptr id es ix off) H=some v:=by
 simp only[ZZ,ht,hk];rw[Zm]at hv;have hlt:=Zz hv;have h1:(cs.drop off).take 1= [v]:=by rw[List.drop_eq_getElem_cons hlt];simp[VV hv]
 simp only[Bool.false_eq_true,if_false];rw[ZnD hb he (by omega),h1];simp[Qe,hk]
theorem ZdO {id:Nat} (ht:E.T t=some ti) (hk:ti.tk= .slice e) (he:E.T e=some ei) (hes:ei.size=es) (hj:j<len):Zy E t (.own id es ix len) (.int k (j:Int))=some (.ptr id es (ix+j) 0):=by
 have hn:nat? (.int k (j:Int))=some j:=by simp[nat?]
 simp only[Zy,ht,hn,hk,he,if_pos hes,if_pos hj]
end
section
variable {E:Env} {P:Program} {own:Tmp→Bool} {n:Nat} {K:TM→Heap→Prop} {tm:TM} {H:Heap}
end
section
variable {E:Env} {P:Program}
theorem CallOk.shed {r:PV} (h:CallOk E P f args ⟨bx,ro,lv,nt⟩ r ⟨bx',ro',lv',nt'⟩) (hl:bx.length≤bx'.length) (hro:ro'≤bx.length) (hu:under bx.length r=true) (hb:(bx'.take bx.length).all (Yy bx.length)=true):CallOk E P f args ⟨bx,ro,lv,nt⟩ r ⟨bx'.take bx.length,ro',lv',nt'⟩:=by intro g w vals hi hg hv;refine UponCall.mono (fun v w' ⟨g',hp,hi',k⟩=>?_) (h g w vals hi hg hv);exact⟨g'.cutσ bx.length,hp.cut hu,Zek hi' hl hro hb,Zgk hi k⟩
end
section
variable {E:Env} {P:Program} {own:Tmp→Bool} {n:Nat} {Q:Ex→TM→Heap→Prop} {tm:TM} {H:Heap}
def ZtF (o:Oper):Bool:=match o.op with
 | .alloc _=>true
 | .box _ _=>true
 |_=>false
theorem dWS {id:Nat} (hE:TOk E P) (hm:P.follows .mixedOrders=true) (_hal:ops.toList.any ZtF=false) (hs:ZnK E own ops=true) (hro:H.ro=0) (h:DrwQ E P own n ops H.bx.length 0 ops.toList (Q .normal) tm H):Wp E P own n (.region id ops true) Q tm H:= .drawS hE hm hs hro h
theorem dWB {id : Nat} (hE : TOk E P) (hm : P.follows .mixedOrders = true) (_hal : ops.toList.any ZtF = true) (hs : (ZeA E own ops && !(alL E own ops.toList 0).isEmpty) = true) (hro : H.ro = 0) (hH : IsH (ZaE H ops.size) H0)
  (h:DrwQ E P own n ops H.bx.length 0 ops.toList (Q .normal) tm H0):Wp E P own n (.region id ops true) Q tm H:=dWA hE hm hs hro hH h
end
section
variable {E:Env} {P:Program} {own:Tmp→Bool} {n:Nat} {K:TM→Heap→Prop} {tm:TM} {H:Heap}
theorem qBd {r : List Oper} {aft : Array Edge} {X : List (Nat × PV)} {p : PV} (hw : Zf all tm ⟨some d, .build t ps, ty, pos, aft, grd⟩ = some true) (hn : Nat.blt d n = true) (hx : (ps.toList.map fun p => (p.1, Zh E tm p.2)) = X) (h : Zav E t X = some p) (hv : IsV p p')
  (hr:RegQ E P own n all r K (ZN tm (some d) p') H):RegQ E P own n all (⟨some d,.build t ps,ty,pos,aft,grd⟩::r) K tm H:= .run hw rfl hn (p:=p) (by simp only[aOp,hx,h,Option.map_some]) hv hr
theorem dBd {r : List Oper} {aft : Array Edge} {X : List (Nat × PV)} {p : PV} (hw : Zf ops.toList tm ⟨some d, .build t ps, ty, pos, aft, grd⟩ = some true) (hn : Nat.blt d n = true) (hx : (ps.toList.map fun p => (p.1, Zh E tm p.2)) = X) (h : Zav E t X = some p) (hv : IsV p p')
  (hk:okD E own n0 tm ⟨some d,.build t ps,ty,pos,aft,grd⟩ H H=true) (hr:DrwQ E P own n ops n0 (i+1) r K (ZN tm (some d) p') H):DrwQ E P own n ops n0 i (⟨some d,.build t ps,ty,pos,aft,grd⟩::r) K tm H:= .run hw rfl hn (p:=p) (by simp only[aOp,hx,h,Option.map_some]) hv hk hr
end
inductive Tm where
 |mk (kind:Int) (name:List UInt8) (sort:Int) (nil:Bool) (kz:List Tm)
variable {kz l:List Tm}
mutual
def Tm.cells:Tm→List PV
 | .mk k nm s b kz=>[.int .i64 k,.str nm,.int .i64 s,slV b 4 (Za kz)]
def Za:List Tm→List (List PV)
 | []=>[]
 |t::r=>t.cells::Za r
end
mutual
def Tm.size:Tm→Nat
 | .mk _ _ _ _ kz=>1+Zk kz
def Zk:List Tm→Nat
 | []=>0
 |t::r=>t.size+Zk r
end
theorem Ys:∀l:List Tm,Za l=l.map Tm.cells
 | []=>rfl
 |t::r=>by simp[Za,Ys r]
theorem Zb (l:List Tm):(Za l).length=l.length:=by simp[Ys]
theorem Zj {k:Int} (h:l[i]? = some (.mk k nm s b kz)):(Za l)[i]? = some [.int .i64 k,.str nm,.int .i64 s,slV b 4 (Za kz)]:=by simp[Ys,h,Tm.cells]
theorem Wo:∀{i:Nat} {t:Tm},l[i]? = some t→Zk (l.take (i+1))=Zk (l.take i)+t.size:=by
 induction l with
 |nil=>intro i t h;simp at h
 |cons a r ih=>
  intro i t h;cases i with
  | zero=>simp at h;subst h;simp[Zk]
  | succ i=>simp at h;simp only[List.take_succ_cons,Zk,ih h];omega
theorem ZA (l:List Tm) (i:Nat):Zk (l.take i)≤Zk l:=by
 induction l generalizing i with
 |nil=>simp
 | cons a r ih => cases i with
   | zero=>simp[Zk]
   | succ i=>simp only[List.take_succ_cons,Zk];have:=ih i;omega
theorem XH {t:Tm} (h:t∈l):t.size≤Zk l:=by
 induction l with
 |nil=>simp at h
 |cons a r ih=>simp only[Zk];rcases List.mem_cons.1 h with rfl|h;{omega};{have:=ih h;omega}
theorem Ze {tm:TM} {l:List (Nat×PV)} (h:okL tm l):tm=ovr tm l:=(ZfG h).symm
theorem Zg {a b:Int} (h:a=b):PV.int k a=PV.int k b:=by rw[h]
inductive Tm.Ok:Tm→Prop
 |mk {k:Int} {nm:List UInt8} {s:Int} {b:Bool} {kz:List Tm} (hk:(Lit.int .i64 k).wf=true) (hs:(Lit.int .i64 s).wf=true) (hn:nm.length≤maxLen) (hl:kz.length≤maxLen) (h:∀t,t∈kz→t.Ok):Tm.Ok (.mk k nm s b kz)
theorem Zd {n:Nat} (h:n<9223372036854775808):IntKind.i64.wrap (n:Int)=(n:Int):=IntWalk.i64_in _ (by omega)
mutual
def Tm.budget:Tm→Int→Int
 | .mk _ nm _ _ kz,n=>if n≤0∨40<nm.length then -1 else Wf kz (n-1)
def Wf:List Tm→Int→Int
 | [],n=>n
 |t::r,n=>if t.budget n<0 then -1 else Wf r (t.budget n)
end
mutual
theorem Tm.budget_eq:∀(t:Tm) (n:Int),0≤t.budget n→t.budget n=n-(t.size:Int)
 | .mk k nm s b kz,n,h=>by simp only[Tm.budget]at h ⊢;split at h;{omega};{rename_i hc;rw[if_neg hc,ZaZ kz (n-1) (by omega) h];simp only[Tm.size];omega}
theorem ZaZ:∀(l:List Tm) (n:Int),0≤n→0≤Wf l n→Wf l n=n-(Zk l:Int)
 | [],n,_,_=>by simp[Wf,Zk]
 |t::r,n,hn,h=>by simp only[Wf]at h ⊢;split at h;{omega};{rename_i hc;rw[if_neg hc];have h1:=Tm.budget_eq t n (by omega);rw[ZaZ r _ (by omega) h,h1];simp only[Zk];omega}
end
def Zj2:List Tm→Int→Bool
 | [],_=>true
 |t::r,n=>if t.budget n<0 then false else Zj2 r (t.budget n)
def ZiN (l:List Tm) (n most:Int):Bool:=if n<(l.length:Int) then false else Zj2 l most
def Tm.zero:Tm:= .mk 0 [] 0 true []
def isF (kind:Int) (nm w:List UInt8):Bool:=decide (kind=3)&&(nm==w)
theorem Zw {α:Type} {l:List α} {t:α} (h:l[i]? = some t):l.drop i=t::l.drop (i+1):=by
 have hl:i<l.length:=by rcases Nat.lt_or_ge i l.length with h'|h';{exact h'};{rw[List.getElem?_eq_none h']at h;cases h}
 rw[List.drop_eq_getElem_cons hl];rw[List.getElem?_eq_getElem hl]at h;simp only[Option.some.injEq]at h;rw[h]
theorem XF:∀a:List UInt8,Op.bytesLess a a=false
 | []=>rfl
 |x::r=>by simp[Op.bytesLess,XF r]
theorem Tm.ok_zero:Tm.zero.Ok:= .mk (by decide) (by decide) (Nat.zero_le _) (Nat.zero_le _) (fun t h=>absurd h (by simp))
theorem Tm.Ok.kid {k:Int} (h:(Tm.mk k nm s b kz).Ok) {t:Tm} (ht:t∈kz):t.Ok:=by cases h with|mk _ _ _ _ h=>exact h t ht
theorem WQ (t:Tm):0<t.size:=by cases t;simp only[Tm.size];omega
structure Kp (q:Prop):Prop where
 out:q
section
variable {p q r c:Prop}
theorem Jh (k:q) (h:Kp q→p:=by intro h;(first|(apply dSt;rfl;rfl;rfl;rfl;exact IsL.n;rfl;(first|rfl|assumption|(simp only[List.all_cons,List.all_nil,Yd,Bool.and_true];rfl));(first|rfl|assumption);exact IsH.mkN;(first|rfl|(simp[Zm];done));(first|rfl|(simp;done));rfl)|(apply h0;rfl;rfl;rfl;exact IsV.n;rfl)|(apply h1;rfl;rfl;rfl;exact IsV.n;exact IsH.mkN;rfl));exact h.out):p:=h ⟨k⟩
theorem Jo (k:q) (h:Kp q→p:=by intro h;(first|apply RegQ.nil|apply DrwQ.nil|(apply g0;rfl;rfl;rfl;exact IsV.n)|(apply g1;rfl;rfl;rfl;exact IsV.n;exact IsH.mkN)|(apply qSt;rfl;rfl;rfl;exact IsL.n;(first|rfl|assumption);(first|rfl|assumption|(simp only[List.all_cons,List.all_nil,Yd,Bool.and_true];rfl));(first|rfl|assumption);exact IsH.mkN)|apply Wp.seq|apply SeqQ.go|apply Wp.region|(apply Wp.condT;rfl)|(apply Wp.condF;rfl)|apply Wp.skip|apply Wp.ret|apply Wp.exit|apply SeqQ.exit|apply Wp.block|apply BlockQ.go|apply BlockQ.ret|apply SeqQ.ret|(apply BlockQ.hit;rfl)|(apply BlockQ.miss;rfl)|apply LoopI.ret|apply LoopI.exit|apply DropQ.ret|apply DropQ.exit|(apply Zv4;rfl;rfl)|(apply ZrP;rfl;rfl)|(apply Zva;rfl;exact IsL.n)|(apply mFin;rfl;exact IsL.n));exact h.out):p:=h ⟨k⟩
theorem Jt (k:q) (h:Kp q→p:=by intro h;(first|(apply qT (ty:=4);rfl;rfl;rfl)|(apply qF (ty:=4);rfl;rfl;rfl));exact h.out):p:=h ⟨k⟩
theorem Jb (k:q) (l:r) (h:Kp q→Kp r→p:=by intro h h';apply qB (ty:=4);rfl;rfl;rfl;exact h.out;exact h'.out):p:=h ⟨k⟩ ⟨l⟩
theorem Jl (k:q) (h:Kp q→p:=by intro h;apply qLn;rfl;rfl;rfl;rfl;rfl;exact h.out):p:=h ⟨k⟩
theorem Jk (k:q) (h:Kp q→p:=by intro h;apply qK;rfl;rfl;exact h.out):p:=h ⟨k⟩
theorem Ji (k:q) (h:Kp q→p:=by intro h;apply qBi;rfl;rfl;rfl;rfl;assumption;exact IsV.any _;exact h.out):p:=h ⟨k⟩
theorem Jx (k:q) (h:Kp q→p:=by intro h;apply qIx;rfl;rfl;rfl;rfl;rfl;rfl;rfl;rfl;assumption;exact h.out):p:=h ⟨k⟩
theorem Js (k:q) (h:Kp q→p:=by intro h;apply qBs;rfl;rfl;rfl;rfl;exact IsLL.n;(first|rfl|(simp only[Yo,Vn,ZX];rfl));exact h.out):p:=h ⟨k⟩
theorem JA (k:q) (h:Kp q→p:=by intro h;apply qAp;rfl;rfl;rfl;rfl;rfl;(first|assumption|solve_by_elim);exact h.out):p:=h ⟨k⟩
theorem JB (k:q) (h:Kp q→p:=by intro h;apply dBs;rfl;rfl;rfl;rfl;exact IsLL.n;(first|rfl|(simp only[Yo,Vn,ZX];rfl));rfl;exact h.out):p:=h ⟨k⟩
theorem JI (k:q) (h:Kp q→p:=by intro h;apply dIx;rfl;rfl;rfl;rfl;rfl;rfl;rfl;rfl;assumption;exact h.out):p:=h ⟨k⟩
theorem JS (k:q) (h:Kp q→p:=by intro h;apply qSl;rfl;rfl;rfl;rfl;rfl;rfl;assumption;exact IsV.any _;exact h.out):p:=h ⟨k⟩
theorem JX (k:q) (h:Kp q→p:=by intro h;apply qXi;rfl;rfl;rfl;rfl;assumption;exact IsV.any _;exact h.out):p:=h ⟨k⟩
theorem JJ (k:q) (h:Kp q→p:=by intro h;apply qIa;rfl;rfl;rfl;rfl;assumption;exact IsV.any _;exact h.out):p:=h ⟨k⟩
theorem JK (k:q) (h:Kp q→p:=by intro h;apply dIa;rfl;rfl;rfl;rfl;assumption;exact IsV.any _;exact h.out):p:=h ⟨k⟩
theorem JD (k:q) (h:Kp q→p:=by intro h;apply dBi;rfl;rfl;rfl;rfl;assumption;exact IsV.any _;rfl;exact h.out):p:=h ⟨k⟩
theorem Jz (k:q) (l:r) (h:Kp q→Kp r→p:=by intro h h';apply qB (ty:=0);rfl;rfl;rfl;exact h.out;exact h'.out):p:=h ⟨k⟩ ⟨l⟩
theorem Jc (x:c) (k:q) (h:Kp c→Kp q→p:=by intro x h;apply qCl;rfl;rfl;rfl;rfl;exact x.out;exact h.out):p:=h ⟨x⟩ ⟨k⟩
theorem Jd (x:c) (k:q) (h:Kp c→Kp q→p:=by intro x h;apply dCl;rfl;rfl;rfl;rfl;rfl;exact x.out;exact h.out):p:=h ⟨x⟩ ⟨k⟩
end
section
variable {E:Env} {P:Program}
theorem Jw (hE : TOk E P) {C D : Code} (hf : FnOk P f fn (.seq C D)) {r : PV} (hr : frz3 0 hNil r = some r)
  (h:Wp E P (fun _=>false) fn.ntmps C (SeqQ E P (fun _=>false) fn.ntmps D (RetQ E fn r)) (tm0 args) hNil) (ha:ZH args=some args:=by first|rfl|(simp only[ZH,frzG,Vn,ZX];rfl)|(simp only[ZH,Xx];done)|(simp only[ZH,Xx];rfl)|(simp[ZH,frzG,Tm.cells,XA];done)) (H:Heap):CallOk E P f args H r H:=
 Yt hE hf ha hr (Wp.seq h) H
end
open Go.RowKit
abbrev ZF:=List PV→Heap→Option (PV×Heap)
def Zii:List (Nat×ZF)→FuncId→ZF
 | [],_,_,_=>none
 | (k, z) :: r, f, args, H => match Nat.beq f k with
   | true=>z args H
   | false=>Zii r f args H
def Ztr:List (Nat×ZF)→FuncId→Bool
 | [],_=>false
 | (k, _) :: r, f => match Nat.beq f k with
   | true=>true
   | false=>Ztr r f
def ZOk (E:Env) (P:Program) (x:Nat×ZF):Prop:=∀args H p H',x.2 args H=some (p,H')→CallOk E P x.1 args H p H'∧(E.eff x.1=false→H'=H)
theorem Zfh {E:Env} {P:Program}:∀{l:List (Nat×ZF)},(∀x,x∈l→ZOk E P x)→YF E P (Zii l)
 | [],_=>fun f args H p H' h=>by simp[Zii]at h
 |(k,z)::r,hl=>fun f args H p H' h=>by simp only[Zii]at h;split at h;{rename_i hf;obtain rfl:=Nat.eq_of_beq_eq_true hf;exact hl (f,z) List.mem_cons_self args H p H' h};{exact Zfh (fun x hx=>hl x (List.mem_cons_of_mem _ hx)) f args H p H' h}
theorem ZnT {p:Nat×ZF→Prop}:∀x,x∈([]:List (Nat×ZF))→p x:=fun _ h=>absurd h (by simp)
theorem VC {p:Nat×ZF→Prop} {a:Nat×ZF} {l:List (Nat×ZF)} (h:p a) (hl:∀x,x∈l→p x):∀x,x∈a::l→p x:=fun x hx=>by
 rcases List.mem_cons.1 hx with rfl|hx
 · exact h
 · exact hl x hx
def Zox:List UInt8→Int→Nat→Int
 | [],_,_=> -1
 |b::r,c,i=>if(b.toNat:Int)=c then i else Zox r c (i+1)
def Zos:List UInt8→Int→Int
 | [],_=>0
 |b::r,c=>if(b.toNat:Int)=c then Zos r c+1 else Zos r c
def ZqK:ZF:=fun args H=>match args with
 | [.str s, .int k c] => match decide (k = .u8) && (decide (0 ≤ c) && decide (c ≤ 255)) with
   | true=>some (.int .i64 (Zos s c),H)
   | false=>none
 |_=>none
def ZqU:ZF:=fun args H=>match args with
 | [.str s, .int k c] => match decide (k = .u8) && (decide (0 ≤ c) && decide (c ≤ 255)) with
   | true=>some (.int .i64 (Zox s c 0),H)
   | false=>none
 |_=>none
def Zpd:ZF:=fun args H=>match args with
 | [.str a,.str b]=>some (.int .i64 (Lib.compareBytes a b),H)
 |_=>none
theorem ZhQ (c:UInt8):∀(l:List UInt8) (k:Nat),Zox l (c.toNat:Int) (k:Nat)=if Lib.indexByte l c= -1 then -1 else Lib.indexByte l c+k
 | [],k=>by simp[Zox,Lib.indexByte]
 |b::l,k=>by have ih:=ZhQ c l (k+1);have hge:=Lib.indexByte_ge l c;unfold Zox Lib.indexByte;by_cases h:b=c;{subst h;simp};{have h1:¬ (b.toNat:Int)=(c.toNat:Int):=fun e=>h (UInt8.toNat_inj.1 (by exact_mod_cast e));(have h2:(b==c)=false:=by simpa using h);rw[if_neg h1,h2];simp only[Bool.false_eq_true,if_false];rw[ih];by_cases e:Lib.indexByte l c= -1;{simp[e]};{(have e':(Lib.indexByte l c== -1)=false:=by simpa using e);rw[if_neg e,e'];simp only[Bool.false_eq_true,if_false];rw[if_neg (by omega)];omega}}
theorem Zie (c:UInt8):∀l:List UInt8,Zos l (c.toNat:Int)=(Lib.countByte l c:Int)
 | []=>by simp[Zos,Lib.countByte]
 |b::l=>by have ih:=Zie c l;unfold Zos;unfold Lib.countByte at ih ⊢;rw[List.count_cons];by_cases h:b=c;{subst h;rw[if_pos rfl,ih];simp};{have h1:¬ (b.toNat:Int)=(c.toNat:Int):=fun e=>h (UInt8.toNat_inj.1 (by exact_mod_cast e));(have h2:(b==c)=false:=by simpa using h);rw[if_neg h1,ih,h2];simp}
section
variable {E:Env} {P:Program}
theorem Xt {p q:PV} (hv:VL g [p,q] vals.toList):∃v0 v1,vals= #[v0,v1]∧V g p v0∧V g q v1:=by
 obtain⟨l,hv⟩:=hv;have hl:vals.toList.length=2:=by simpa using l
 obtain⟨v0,v1,hvals⟩:∃v0 v1,vals.toList= [v0,v1]:=by
  match h:vals.toList,hl with
  | [a,b],_=>exact⟨a,b,rfl⟩
 rw[hvals]at hv;exact⟨v0,v1,Array.toList_inj.1 (by simpa using hvals),by simpa using hv 0 (by simp) (by simp),by simpa using hv 1 (by simp) (by simp)⟩
theorem ZeG {p:PV} (hv:VL g [p] vals.toList):∃v0,vals= #[v0]∧V g p v0:=by
 obtain⟨l,hv⟩:=hv;have hl:vals.toList.length=1:=by simpa using l
 obtain⟨v0,hvals⟩:∃v0,vals.toList= [v0]:=by
  match h:vals.toList,hl with
  | [a],_=>exact⟨a,rfl⟩
 rw[hvals]at hv;exact⟨v0,Array.toList_inj.1 (by simpa using hvals),by simpa using hv 0 (by simp) (by simp)⟩
theorem Zem {c:Int} (h0:0≤c) (h1:c≤255):((c.toNat.toUInt8).toNat:Int)=c:=by
 have:c.toNat<256:=by omega
 simp[Nat.mod_eq_of_lt this];omega
theorem ZqD (hf:P.funcs[f]? = some fn) (hn:(fn.name == "runtime.NumGoroutine")=false) (hb:fn.body.isNone=true) (hx:Extern.findNext fn=none) (he:Extern.find fn=some Extern.BytealgIndexByte.indexByte):ZOk E P (f,ZqU):=by intro args H p H' h;simp only[ZqU]at h;split at h;{rename_i s k c;split at h;{rename_i hc;simp only[Bool.and_eq_true,decide_eq_true_eq]at hc;obtain⟨rfl,h0,h1⟩:=hc;cases h;refine⟨fun g w vals hi hg hv=>?_,fun _=>rfl⟩;obtain⟨v0,v1,rfl,e0,e1⟩:=Xt hv;obtain⟨b,rfl,hb2⟩:=e0.str_inv;obtain rfl:=e1.int_inv;rw[run_callFunc_extern (e:=Extern.BytealgIndexByte.indexByte) hf hn hb hx he,Lib.run_indexByteString];have hc:=Zem h0 h1;have e:=ZhQ c.toNat.toUInt8 s 0;rw[hc]at e;(have e2:Zox s c 0=Lib.indexByte s c.toNat.toUInt8:=by rw[e];split;{rename_i h;exact h.symm};{simp});simp only[Result.andThen,UponCall];rw[e2,hb2];exact⟨g,.pure _ _ (.int _ _),hi,KeepN.refl _ _ _ _⟩};{cases h}};{cases h}
theorem Zqv (hf:P.funcs[f]? = some fn) (hn:(fn.name == "runtime.NumGoroutine")=false) (hb:fn.body.isNone=true) (hx:Extern.findNext fn=none) (he:Extern.find fn=some Extern.BytealgCount.count):ZOk E P (f,ZqK):=by intro args H p H' h;simp only[ZqK]at h;split at h;{rename_i s k c;split at h;{rename_i hc;simp only[Bool.and_eq_true,decide_eq_true_eq]at hc;obtain⟨rfl,h0,h1⟩:=hc;cases h;refine⟨fun g w vals hi hg hv=>?_,fun _=>rfl⟩;obtain⟨v0,v1,rfl,e0,e1⟩:=Xt hv;obtain⟨b,rfl,hb2⟩:=e0.str_inv;obtain rfl:=e1.int_inv;rw[run_callFunc_extern (e:=Extern.BytealgCount.count) hf hn hb hx he,Lib.run_countString];have hc:=Zem h0 h1;have e:=Zie c.toNat.toUInt8 s;rw[hc]at e;simp only[Result.andThen,UponCall];rw[e,hb2];exact⟨g,.pure _ _ (.int _ _),hi,KeepN.refl _ _ _ _⟩};{cases h}};{cases h}
theorem Zmu (hf:P.funcs[f]? = some fn) (hn:(fn.name == "runtime.NumGoroutine")=false) (hb:fn.body.isNone=true) (hx:Extern.findNext fn=none) (he:Extern.find fn=some Extern.BytealgCompare.compare):ZOk E P (f,Zpd):=by intro args H p H' h;simp only[Zpd]at h;split at h;{rename_i s t;cases h;refine⟨fun g w vals hi hg hv=>?_,fun _=>rfl⟩;obtain⟨v0,v1,rfl,e0,e1⟩:=Xt hv;obtain⟨a,rfl,ha⟩:=e0.str_inv;obtain⟨b,rfl,hb2⟩:=e1.str_inv;rw[run_callFunc_extern (e:=Extern.BytealgCompare.compare) hf hn hb hx he,Lib.run_compareString];simp only[Result.andThen,UponCall];rw[ha,hb2];exact⟨g,.pure _ _ (.int _ _),hi,KeepN.refl _ _ _ _⟩};{cases h}
theorem UV {H:Heap} {w w':World} (hi:Inv g H w) (hh:∀k,k<w.heap.size→w'.heap[k]? = w.heap[k]?) (hs:w.heap.size≤w'.heap.size) (hso:SameOut g w w'):Inv g H w'∧Keep g H w g H w':=by
 refine⟨⟨fun b o v h=>?_,fun id es el h=>?_,fun id es h=>?_,fun id T cs h=>?_,hi.inj,hi.sd,hi.td,fun t b lo hi' h1 h2=>?_,hi.tinj,hi.nd,hi.lt,fun id b h=>Nat.lt_of_lt_of_le (hi.sz id b h) hs,hi.ro,fun id b c T m h1 h2 h3=>?_⟩,⟨.refl g,fun b hb _=>hh b hb,fun _ _ _ _=>rfl,hs,fun i b h h'=>(by rw[h]at h';cases h'),fun i b _ _ h h'=>(by rw[h]at h';cases h'),rfl,Nat.le_refl _,fun _ _=>rfl,Nat.le_refl _,fun _ h=> .inl h,fun _ _ _ h=>h,fun _ _ h=>h,hso⟩⟩;{rw[cell_of_heap (hh b (hi.S_lt h))];exact hi.st _ _ _ h};{obtain⟨b,c,T,h1,h2,h3,h4,h5,h6⟩:=hi.bx id es el h;exact⟨b,c,T,h1,by rw[hh b (hi.sz _ _ h1)];exact h2,h3,h4,h5,h6⟩};{obtain⟨b,c,T,h1,h2,h3⟩:=hi.mp id es h;exact⟨b,c,T,h1,by rw[hh b (hi.sz _ _ h1)];exact h2,h3⟩};{obtain⟨b,c,h1,h2,h3⟩:=hi.sp id T cs h;exact⟨b,c,h1,by rw[hh b (hi.sz _ _ h1)];exact h2,h3⟩}
 ·obtain⟨⟨c,T,h3,h4⟩,h5,h6⟩:=hi.tk t b lo hi' h1 h2;have hb:b<w.heap.size:=by rcases Nat.lt_or_ge b w.heap.size with h'|h';{exact h'};{simp[Array.getElem?_eq_none h']at h3}
  exact⟨⟨c,T,by rw[hh b hb];exact h3,h4⟩,h5,h6⟩
 {rw[hh b (hi.sz _ _ h2)]at h3;exact hi.rm id b c T m h1 h2 h3}
def ZeS:List (List PV)→Option (List (List UInt8))
 | []=>some []
 | c :: r => match c with
   | [.str s] => match ZeS r with
     | some l=>some (s::l)
     | none=>none
   | _=>none
def WP (sep:List UInt8):List (List UInt8)→List UInt8
 | []=>[]
 | x :: r => match r with
   | []=>x
   | _::_=>x++(sep++WP sep r)
def Zgx:ZF:=fun args H=>match args with
 | [l, .str sep] => match(match l with | .nils => some [] | .sl _ es el => (match Nat.beq es 1 with | true => ZeS el | false => none) | _ => none) with
   | some xs => match Nat.ble xs.length 1000000 && Nat.ble (WP sep xs).length 1000000 with
     | true=>some (.str (WP sep xs),H)
     | false=>none
   | none=>none
 |_=>none
theorem ZbA:∀{el:List (List PV)} {l:List (List UInt8)},ZeS el=some l→el=l.map fun s=>[.str s]
 | [],l,h=>by simp[ZeS]at h;subst h;rfl
 |c::r,l,h=>by simp only[ZeS]at h;split at h;{split at h;{rename_i l' hl;cases h;rw[ZbA hl];rfl};{cases h}};{cases h}
theorem Zah (sep:List UInt8):∀(x:List UInt8) (r:List (List UInt8)),WP sep (x::r)=x++Lib.joinTail sep r
 |x,[]=>by simp[WP,Lib.joinTail]
 |x,y::r=>by have:=Zah sep y r;simp only[WP,Lib.joinTail,List.map_cons,List.flatten_cons]at this ⊢;simp only[this,List.append_assoc]
theorem ZfH (sep:List UInt8) (xs:List (List UInt8)):WP sep xs=Lib.join xs sep:=by
 cases xs with
 |nil=>rw[Lib.join_nil];rfl
 |cons x r=>rw[Zah,Lib.join_cons]
theorem Zoe {c:Code} (hf:FnOk P f fn c) (hmono:E.mono=false) (h0:∀(a:Option Addr) (c:Nat) (sep:ByteArray) (w:World),Calls P f #[.slice a 0 c,.string sep] w fun e w'=>e= .returned (.string ⟨#[]⟩)∧w'=w) (h1:∀(bk o c:Nat) (xs:List ByteArray) (sep:ByteArray) (w:World),(∀(j:Nat) x,xs[j]? = some x→w.cell? ⟨bk,o+j,none⟩=some (.string x))→bk<w.heap.size→xs.length≤140737488355328→xs.length≤c→(Lib.join (xs.map (·.data.toList)) sep.data.toList).length≤140737488355328→Calls P f #[.slice (some ⟨bk,o,none⟩) xs.length c,.string sep] w fun e w'=>e= .returned (.string ⟨(Lib.join (xs.map (·.data.toList)) sep.data.toList).toArray⟩)∧Below w.heap.size w w'):ZOk E P (f,Zgx):=by
 intro args H p H' h;simp only[Zgx]at h;split at h
 ·rename_i l sep;split at h
  ·rename_i xs hxs;split at h
   ·rename_i hle;simp only[Bool.and_eq_true,Nat.ble_eq]at hle;cases h;refine⟨fun g w vals hi hg hv=>?_,fun _=>rfl⟩;obtain⟨v0,v1,rfl,e0,e1⟩:=Xt hv;obtain⟨sb,rfl,hsb⟩:=e1.str_inv;(have none_case:∀a c,v0= .slice a 0 c→xs= []→UponCall P (fun v w'=>∃g',V g' (.str (WP sep xs)) v∧Inv g' H w'∧Keep g H w g' H w') ((callFunc f #[v0,.string sb]).run P w):=fun a c hv hx=>by subst hv hx;rw[Zv hf];exact Calls.mono (h0 a c sb w) fun e w' ⟨he,hw⟩=>⟨_,he,g,.pure _ _ (.str _ _ rfl),by subst hw;exact⟨hi,KeepN.refl _ _ _ _⟩⟩);split at hxs;{cases hxs;exact none_case none 0 e0.nils_inv rfl}
    ·rename_i tl es el;split at hxs
     ·rename_i hes;obtain rfl:=Nat.eq_of_beq_eq_true hes;have hel:=ZbA hxs;obtain⟨b,o,cap,vv,a,rfl,hcap,hw,hS,hV, -,ha⟩:=e0.sl_inv;by_cases hx:xs= [];{subst hx;(have:el= []:=by simpa using hel);subst this;exact none_case (some a) cap rfl rfl}
      ·(have hlen : el.length = xs.length := by rw[hel]; simp);have hpos:0<xs.length:=List.length_pos_iff.2 hx;have ha:=ha (.inl (by omega));subst ha;have hcell:∀(j:Nat) (x:ByteArray),(xs.map fun s=>(⟨s.toArray⟩:ByteArray))[j]? = some x→g.S b (o+j)=some (.string x):=fun j x hj=>by
        rw[List.getElem?_map]at hj
        obtain⟨s,hs,rfl⟩:=Option.map_eq_some_iff.1 hj
        have hjl:j<xs.length:=Zz hs
        have hje:j<el.length:=by omega
        have h1:=hS j 0 hje (by omega)
        have ej:el[j]= [.str s]:=by
         have:el[j]? = some [.str s]:=by rw[hel,List.getElem?_map,hs];rfl
         rw[List.getElem?_eq_getElem hje]at this
         simpa using this
        have h2:=hV j hje 0 (by rw[ej];simp)
        have h3:V0 g.S (.str s) (vv j 0):=by
         have e:(el[j])[0]'(by rw[ej];simp)= .str s:=by simp[ej]
         rwa [e]at h2
        cases hq:vv j 0 with
        | string bb =>
          rw[hq]at h3
          cases h3 with
          | str _ _ he =>
            have:bb=⟨s.toArray⟩:=by
             apply ByteArray.ext
             apply Array.toList_inj.1
             simpa using he
            rw[hq,this]at h1
            simpa using h1
        | _=>rw[hq]at h3;cases h3
       have hb:b<w.heap.size:=hi.S_lt (hcell 0 _ (by rw[List.getElem?_map,List.getElem?_eq_getElem hpos];rfl));(have hmap:(xs.map fun s=>(⟨s.toArray⟩:ByteArray)).map (·.data.toList)=xs:=by simp[Function.comp_def]);have hc:=h1 b o cap (xs.map fun s=>⟨s.toArray⟩) sb w (fun j x hj=>hi.st _ _ _ (hcell j x hj)) hb (by simp;omega) (by simp;omega) (by rw[hmap,hsb, ← ZfH];omega);rw[hmap,hsb, ← ZfH]at hc;rw[Zv hf];(have hn:(xs.map fun s=>(⟨s.toArray⟩:ByteArray)).length=el.length:=by simp[hlen]);rw[hn]at hc;exact Calls.mono hc fun e w' ⟨he,hbl⟩=>by obtain⟨j1,j2⟩:=UV hi (fun k hk=>hbl.block k hk) hbl.size ⟨hbl.os,hbl.output,hbl.tape,fun hm=>absurd (hg.2.1 hm) (by rw[hmono];simp)⟩;exact⟨_,he,g,.pure _ _ (.str _ _ (by simp)),j1,j2⟩
     {cases hxs}
    {cases hxs}
   {cases h}
  {cases h}
 {cases h}
end
