/-
  Rules for an operation of any kind: its value and the heap behind it are brought
-/
import Derived.Test.YtpgfeijkfmgnjaaGreatDoorFf
namespace Go.Vm
variable {a a' b' c c' d d' es i j m n0 nt nt' ro:Nat} {b w:Bool} {o:Oper} {all r:List Oper} {X Y p p':PV} {H1 H1':Heap} {e t ty u yt:TypeId} {f l v x y:Operand} {args:Array Operand} {ats:Array TypeId} {k:IntKind} {al caps cs cs' ps ps':List PV} {ops:Array Oper} {ei ti:TI} {fn:Func} {el el':List (List PV)} {OP:Op} {pos:String} {aft:Array Edge} {grd:Option (Nat×Bool)} {hi lo mx:Option Operand} {HI LO MX:Option PV} {op:BinOp} {bx bx':List Box} {lv lv':List Nat}
def slV (b:Bool) (es:Nat) (el:List (List PV)):PV:=match el with
 | []=>match b with|true=> .nils|false=> .sl .none es []
 |c::r=> .sl .none es (c::r)
mutual
inductive IsV:PV→PV→Prop
 |bool (b:Bool):IsV (.bool b) (.bool b)
 |int (k:IntKind) (n:Int):IsV (.int k n) (.int k n)
 |str (s:List UInt8):IsV (.str s) (.str s)
 |nilp:IsV .nilp .nilp
 |nils:IsV .nils .nils
 |nilm:IsV .nilm .nilm
 |nilf:IsV .nilf .nilf
 |undef:IsV .undef .undef
 |ptr (a b c d:Nat):IsV (.ptr a b c d) (.ptr a b c d)
 |fptr (cs:List PV) (o:Nat):IsV (.fptr cs o) (.fptr cs o)
 |sl (tl:Tail) (es:Nat) (el:List (List PV)):IsV (.sl tl es el) (.sl tl es el)
 |slV (b:Bool) (es:Nat) (el:List (List PV)):IsV (slV b es el) (slV b es el)
 |own (a b c d:Nat):IsV (.own a b c d) (.own a b c d)
 |map (i:Nat):IsV (.map i) (.map i)
 |fn (f:FuncId) (cs:List PV):IsV (.fn f cs) (.fn f cs)
 |agg (cs cs':List PV) (h:IsL cs cs'):IsV (.agg cs) (.agg cs')
 |tup (cs cs':List PV) (h:IsL cs cs'):IsV (.tup cs) (.tup cs')
 |any (v:PV):IsV v v
inductive IsL:List PV→List PV→Prop
 |nil:IsL [] []
 |cons (a a':PV) (l l':List PV) (h:IsV a a') (hl:IsL l l'):IsL (a::l) (a'::l')
 |any (l:List PV):IsL l l
end
theorem IsV.eq {a b:PV} (h:IsV a b):a=b:=by
 refine @IsV.rec (fun a b _=>a=b) (fun a b _=>a=b) ?_ ?_ ?_ ?_ ?_ ?_ ?_ ?_ ?_ ?_ ?_ ?_ ?_ ?_ ?_ ?_ ?_ ?_ ?_ ?_ ?_ a b h
 all_goals intros
 all_goals first|rfl|(simp_all;done)
theorem IsL.eq {a b:List PV} (h:IsL a b):a=b:=by
 have e:=(show IsV (.agg a) (.agg b) from .agg _ _ h).eq
 simpa using e
theorem IsV.ptr4 {b:Nat} (h1:a=a') (h2:b=b') (h3:c=c') (h4:d=d'):IsV (.ptr a b c d) (.ptr a' b' c' d'):=by
 subst h1 h2 h3 h4;exact .ptr _ _ _ _
inductive IsLL:List (List PV)→List (List PV)→Prop
 |nil:IsLL [] []
 |cons (a a':List PV) (l l':List (List PV)) (h:IsL a a') (hl:IsLL l l'):IsLL (a::l) (a'::l')
 |any (l:List (List PV)):IsLL l l
theorem IsLL.eq {a b:List (List PV)} (h:IsLL a b):a=b:=by
 induction h with
 |nil=>rfl
 |cons a a' l l' h _ ih=>rw [h.eq,ih]
 |any=>rfl
inductive IsBL:List Box→List Box→Prop
 |nil:IsBL [] []
 |cells (es es':Nat) (el el':List (List PV)) (l l':List Box) (he:es=es') (h:IsLL el el') (hl:IsBL l l'):IsBL (.cells es el::l) (.cells es' el'::l')
 |cons (b:Box) (l l':List Box) (hl:IsBL l l'):IsBL (b::l) (b::l')
 |any (l:List Box):IsBL l l
theorem IsBL.eq {a b:List Box} (h:IsBL a b):a=b:=by
 induction h with
 |nil=>rfl
 |cells _ _ _ _ _ _ he h _ ih=>rw [he,h.eq,ih]
 |cons _ _ _ _ ih=>rw [ih]
 |any=>rfl
inductive IsH:Heap→Heap→Prop
 |mk (bx bx':List Box) (ro ro' nt nt':Nat) (lv lv':List Nat) (h:IsBL bx bx') (h1:ro=ro') (h2:lv=lv') (h3:nt=nt'):IsH ⟨bx,ro,lv,nt⟩ ⟨bx',ro',lv',nt'⟩
theorem IsH.eq {a b:Heap} (h:IsH a b):a=b:=by
 cases h with|mk _ _ _ _ _ _ _ _ h h1 h2 h3=>rw [h.eq,h1,h2,h3]
section
variable {E:Env} {P:Program} {own:Tmp→Bool} {n:Nat} {Q:Ex→TM→Heap→Prop} {K:TM→Heap→Prop} {tm:TM} {H:Heap}
theorem W9 (hd:o.dst=some d) (hn:Nat.blt d n=true):Wq n o=true:=by simp only [Wq,hd,hn]
theorem RegQ.run (hw : Ze all tm o = some true) (hd : o.dst = some d) (hn : Nat.blt d n = true) (h : aOp E (own d) (Zh E tm) o.op H = some (p, H1)) (hv : IsV p p')
  (hr:RegQ E P own n all r K (ZX tm (some d) p') H1):RegQ E P own n all (o::r) K tm H:=
 .op hw (W9 hd hn) (p:=p) (by rw [hd];exact h) (by rw [hd,hv.eq];exact hr)
theorem RegQ.put (hw : Ze all tm o = some true) (hd : o.dst = none) (h : aOp E (own 0) (Zh E tm) o.op H = some (p, H1))
  (hr:RegQ E P own n all r K tm H1):RegQ E P own n all (o::r) K tm H:=
 .op hw (by simp only [Wq,hd]) (p:=p) (by rw [hd];exact h) (by rw [hd];exact hr)
theorem RegQ.runH (hw : Ze all tm o = some true) (hd : o.dst = some d) (hn : Nat.blt d n = true) (h : aOp E (own d) (Zh E tm) o.op H = some (p, H1)) (hv : IsV p p') (hh : IsH H1 H1')
  (hr:RegQ E P own n all r K (ZX tm (some d) p') H1'):RegQ E P own n all (o::r) K tm H:=
 .run hw hd hn h hv (by rw [hh.eq];exact hr)
theorem RegQ.putH (hw : Ze all tm o = some true) (hd : o.dst = none) (h : aOp E (own 0) (Zh E tm) o.op H = some (p, H1)) (hh : IsH H1 H1')
  (hr:RegQ E P own n all r K tm H1'):RegQ E P own n all (o::r) K tm H:=
 .put hw hd h (by rw [hh.eq];exact hr)
theorem RegQ.runB {e : Bool} (hw : Ze all tm o = some true) (hd : o.dst = some d) (hn : Nat.blt d n = true) (h : aOp E (own d) (Zh E tm) o.op H = some (.bool e, H1))
  (ht:e=true→RegQ E P own n all r K (ZX tm (some d) (.bool true)) H1) (hf:e=false→RegQ E P own n all r K (ZX tm (some d) (.bool false)) H1):RegQ E P own n all (o::r) K tm H:=by
 cases e with
 |true=>exact .run hw hd hn h (.bool _) (ht rfl)
 |false=>exact .run hw hd hn h (.bool _) (hf rfl)
theorem RegQ.skip (hw:Ze all tm o=some false) (hd:o.dst=some d) (hn:Nat.blt d n=true) (hr:RegQ E P own n all r K (ZX tm (some d) unset) H):RegQ E P own n all (o::r) K tm H:=
 .pass hw (W9 hd hn) (by rw [hd];exact hr)
theorem RegQ.does {k : FuncId} (hw : Ze all tm o = some true) (hd : o.dst = some d) (hn : Nat.blt d n = true)
  (ho:o.op= .call {callee:= .value f,args:=args,argTypes:=ats}) (hf:Zh E tm f= .fn k caps) (ha:IsL (args.toList.map (Zh E tm)++caps) al) (h:CallOk E P k al H p H1) (hv:IsV p p')
  (hr:RegQ E P own n all r K (ZX tm (some d) p') H1):RegQ E P own n all (o::r) K tm H:=
 .call hw (W9 hd hn) ho hf (show _=al from (show IsV (.agg _) (.agg al) from .agg _ _ ha).eq |> fun e=>by simpa using e) h (by rw [hd,hv.eq];exact hr)
theorem DrwQ.run (hw : Ze ops.toList tm o = some true) (hd : o.dst = some d) (hn : Nat.blt d n = true) (h : aOp E (own d) (Zh E tm) o.op H = some (p, H1)) (hv : IsV p p')
  (hk:okD E own n0 tm o H H1=true) (hr:DrwQ E P own n ops n0 (i+1) r K (ZX tm (some d) p') H1):DrwQ E P own n ops n0 i (o::r) K tm H:=
 .op hw (W9 hd hn) (p:=p) (by rw [hd];exact h) hk (by rw [hd,hv.eq];exact hr)
theorem DrwQ.runH (hw : Ze ops.toList tm o = some true) (hd : o.dst = some d) (hn : Nat.blt d n = true) (h : aOp E (own d) (Zh E tm) o.op H = some (p, H1)) (hv : IsV p p') (hh : IsH H1 H1')
  (hk:okD E own n0 tm o H H1=true) (hr:DrwQ E P own n ops n0 (i+1) r K (ZX tm (some d) p') H1'):DrwQ E P own n ops n0 i (o::r) K tm H:=
 .run hw hd hn h hv hk (by rw [hh.eq];exact hr)
theorem DrwQ.runB {e : Bool} (hw : Ze ops.toList tm o = some true) (hd : o.dst = some d) (hn : Nat.blt d n = true) (h : aOp E (own d) (Zh E tm) o.op H = some (.bool e, H1))
  (hk:okD E own n0 tm o H H1=true) (ht:e=true→DrwQ E P own n ops n0 (i+1) r K (ZX tm (some d) (.bool true)) H1) (hf:e=false→DrwQ E P own n ops n0 (i+1) r K (ZX tm (some d) (.bool false)) H1):DrwQ E P own n ops n0 i (o::r) K tm H:=by
 cases e with
 |true=>exact .run hw hd hn h (.bool _) hk (ht rfl)
 |false=>exact .run hw hd hn h (.bool _) hk (hf rfl)
theorem DrwQ.skip (hw:Ze ops.toList tm o=some false) (hd:o.dst=some d) (hn:Nat.blt d n=true) (hns:Zor E own o=true) (hr:DrwQ E P own n ops n0 (i+1) r K (ZX tm (some d) unset) H):DrwQ E P own n ops n0 i (o::r) K tm H:=
 .pass hw (W9 hd hn) hns (by rw [hd];exact hr)
theorem DrwQ.does {k : FuncId} (hw : Ze ops.toList tm o = some true) (hd : o.dst = some d) (hn : Nat.blt d n = true)
  (ho:o.op= .call {callee:= .value f,args:=args,argTypes:=ats}) (hf:Zh E tm f= .fn k caps) (ha:IsL (args.toList.map (Zh E tm)++caps) al) (hc:Xc E own o= .qu) (h:CallOk E P k al H p H) (hv:IsV p p')
  (hr:DrwQ E P own n ops n0 (i+1) r K (ZX tm (some d) p') H):DrwQ E P own n ops n0 i (o::r) K tm H:=
 .call hw (W9 hd hn) ho hf (show _=al from (show IsV (.agg _) (.agg al) from .agg _ _ ha).eq |> fun e=>by simpa using e) hc h (by rw [hd,hv.eq];exact hr)
def ZqB (I:Nat→TM→Heap→Prop) (m:Nat) (Q:Ex→TM→Heap→Prop):Ex→TM→Heap→Prop
 | .normal=>fun tm H=>∃ m',m'<m∧I m' tm H
 | .exit i=>Q (.exit i)
 | .ret=>Q .ret
structure LoopI (I:Nat→TM→Heap→Prop) (m:Nat) (Q:Ex→TM→Heap→Prop) (ex:Ex) (tm:TM) (H:Heap):Prop where
 out:ZqB I m Q ex tm H
theorem LoopI.go {I:Nat→TM→Heap→Prop} (m':Nat) (hlt:m'<m) (h:I m' tm H):LoopI I m Q .normal tm H:=⟨⟨m',hlt,h⟩⟩
theorem LoopI.ret {I:Nat→TM→Heap→Prop} {m:Nat} (h:Q .ret tm H):LoopI I m Q .ret tm H:=⟨h⟩
theorem LoopI.exit {I:Nat→TM→Heap→Prop} {m i:Nat} (h:Q (.exit i) tm H):LoopI I m Q (.exit i) tm H:=⟨h⟩
theorem Wp.while {c:Code} (I:Nat→TM→Heap→Prop) (step:∀ m tm H,I m tm H→Wp E P own n c (LoopI I m Q) tm H):∀ (m:Nat) (tm:TM) (H:Heap),I m tm H→Wp E P own n (.loop c) Q tm H:=by
 intro m
 induction m using Nat.strongRecOn with
 | _ m ih =>
   intro tm H h
   refine .loop ?_
   obtain ⟨ex,tm',H',h1,⟨h2⟩⟩:=(step m tm H h).out
   refine ⟨ex,tm',H',h1,?_⟩
   cases ex with
   | normal =>
     obtain ⟨m',hlt,h3⟩:=h2
     exact .go (ih m' hlt tm' H' h3)
   | exit i=>exact .exit h2
   | ret=>exact .ret h2
theorem ZD (b:Bool) (es:Nat) (el:List (List PV)):frz1 (slV b es el)=some (slV b es el):=by
 cases el with
 |nil=>cases b<;>rfl
 |cons c r=>rfl
theorem U0 (m:Nat) (H:Heap) (b:Bool) (es:Nat) (el:List (List PV)):frzC m H (slV b es el)=some (slV b es el):=by
 cases el with
 |nil=>cases b<;>rfl
 |cons c r=>rfl
theorem Ws (m:Nat) (H:Heap) (l:List PV):frz3 m H (.agg l)=match Qf m H l with|some l'=>some (.agg l')|none=>none:=rfl
theorem ZfT (m:Nat) (H:Heap) (b:Bool) (es:Nat) (el:List (List PV)):frz2 m H (slV b es el)=some (slV b es el):=by
 cases el with
 |nil=>cases b<;>rfl
 |cons c r=>rfl
theorem Y5 (m:Nat) (H:Heap) (b:Bool) (es:Nat) (el:List (List PV)):frz3 m H (slV b es el)=some (slV b es el):=by
 cases el with
 |nil=>cases b<;>rfl
 |cons c r=>rfl
theorem Yy (b:Bool) (es:Nat) (el:List (List PV)):frzG (slV b es el)=some (slV b es el):=by
 cases el with
 |nil=>cases b<;>rfl
 |cons c r=>rfl
theorem Zw (b:Bool) (es:Nat) (c:List PV) (r:List (List PV)):slV b es (c::r)= .sl .none es (c::r):=rfl
theorem Zq (es:Nat):slV true es []= .nils:=rfl
theorem Yd (es:Nat):slV false es []= .sl .none es []:=rfl
theorem ZfX (ht:E.T t=some ti) (hk:ti.tk= .slice e) (b:Bool) (es:Nat) (el:List (List PV)) (H:Heap):ZfP E t (slV b es el) H=some (.int .i64 (el.length:Int)):=by
 cases el with
 |nil=>cases b<;>simp [slV,ZfP,ht,hk]
 |cons c r=>simp [slV,ZfP,ht,hk]
theorem RetQ.fin {r:PV} (h1:V4 E tm H fn.results.toList=some ps) (hp:IsL ps ps') (h2:frz3 0 H (one ps')=some r):RetQ E fn r .ret tm H:=
 .ret h1 (by have e:=(show IsV (.agg ps) (.agg ps') from .agg _ _ hp).eq;simp only [PV.agg.injEq] at e;rw [e];exact h2)
theorem RetQ.end {r v v':PV} (h1:V4 E tm H fn.results.toList=some ps) (h2:frz3 0 H (one ps)=some v) (hv:IsV v v') (he:v'=r):RetQ E fn r .ret tm H:= .ret h1 (by rw [h2,hv.eq,he])
theorem RegQ.lenV {t ti e x ats b es el} (hw : Ze all tm o = some true) (hd : o.dst = some d) (hn : Nat.blt d n = true)
  (ho:o.op= .call {callee:= .builtin .len,args:= #[x],argTypes:=ats}) (hts:ats.toList= [t]) (ht:E.T t=some ti) (hk:ti.tk= .slice e) (hx:Zh E tm x=slV b es el)
  (hr:RegQ E P own n all r K (ZX tm (some d) (.int .i64 (el.length:Int))) H):RegQ E P own n all (o::r) K tm H:=
 .run hw hd hn (p:= .int .i64 (el.length:Int)) (by rw [ho];simp [aOp,Yt,hts,hx,ZfX ht hk]) (.int _ _) hr
theorem DrwQ.lenV {t ti e x ats b es el} (hw : Ze ops.toList tm o = some true) (hd : o.dst = some d) (hn : Nat.blt d n = true)
  (ho:o.op= .call {callee:= .builtin .len,args:= #[x],argTypes:=ats}) (hts:ats.toList= [t]) (ht:E.T t=some ti) (hk:ti.tk= .slice e) (hx:Zh E tm x=slV b es el) (hc:Xc E own o= .qu)
  (hr:DrwQ E P own n ops n0 (i+1) r K (ZX tm (some d) (.int .i64 (el.length:Int))) H):DrwQ E P own n ops n0 i (o::r) K tm H:=
 .run hw hd hn (p:= .int .i64 (el.length:Int)) (by rw [ho];simp [aOp,Yt,hts,hx,ZfX ht hk]) (.int _ _) (by simp [okD,hc]) hr
theorem Wy (ht : E.T t = some ti) (hk : ti.tk = .slice e) (he : E.T e = some ei) (hes : ei.size = es) (b : Bool) (hj : el[j]? = some cs) :
  Zp E t (slV b es el) (.int k (j:Int))=some (.fptr cs 0):=by
 cases el with
 |nil=>simp at hj
 | cons c r =>
   have h:nth (c::r) j=some cs:=by rw [ZA];exact hj
   have hn:nat? (.int k (j:Int))=some j:=rfl
   simp [slV,Zp,ht,hn,hk,he,hes,h]
theorem RegQ.idxV (hw : Ze all tm o = some true) (hd : o.dst = some d) (hn : Nat.blt d n = true)
  (ho:o.op= .indexAddr t x y) (ht:E.T t=some ti) (hk:ti.tk= .slice e) (he:E.T e=some ei) (hes:ei.size=es) (hx:Zh E tm x=slV b es el) (hy:Zh E tm y= .int k (j:Int)) (hj:el[j]? = some cs)
  (hr:RegQ E P own n all r K (ZX tm (some d) (.fptr cs 0)) H):RegQ E P own n all (o::r) K tm H:=
 .run hw hd hn (p:= .fptr cs 0) (by rw [ho];simp [aOp,hx,hy,Wy ht hk he hes b hj]) (.fptr _ _) hr
theorem DrwQ.idxV (hw : Ze ops.toList tm o = some true) (hd : o.dst = some d) (hn : Nat.blt d n = true)
  (ho:o.op= .indexAddr t x y) (ht:E.T t=some ti) (hk:ti.tk= .slice e) (he:E.T e=some ei) (hes:ei.size=es) (hx:Zh E tm x=slV b es el) (hy:Zh E tm y= .int k (j:Int)) (hj:el[j]? = some cs)
  (hr:DrwQ E P own n ops n0 (i+1) r K (ZX tm (some d) (.fptr cs 0)) H):DrwQ E P own n ops n0 i (o::r) K tm H:=
 .run hw hd hn (p:= .fptr cs 0) (by rw [ho];simp [aOp,hx,hy,Wy ht hk he hes b hj]) (.fptr _ _) (by simp [okD,Xc,ho]) hr
theorem RegQ.rOp (hw : Ze all tm ⟨some d, OP, ty, pos, aft, grd⟩ = some true) (hn : Nat.blt d n = true) (h : aOp E (own d) (Zh E tm) OP H = some (p, H1)) (hv : IsV p p')
  (hr:RegQ E P own n all r K (ZX tm (some d) p') H1):RegQ E P own n all (⟨some d,OP,ty,pos,aft,grd⟩::r) K tm H:= .run hw rfl hn h hv hr
theorem RegQ.rOpH (hw : Ze all tm ⟨some d, OP, ty, pos, aft, grd⟩ = some true) (hn : Nat.blt d n = true) (h : aOp E (own d) (Zh E tm) OP H = some (p, H1)) (hv : IsV p p') (hh : IsH H1 H1')
  (hr:RegQ E P own n all r K (ZX tm (some d) p') H1'):RegQ E P own n all (⟨some d,OP,ty,pos,aft,grd⟩::r) K tm H:= .runH hw rfl hn h hv hh hr
theorem RegQ.rB {e : Bool} (hw : Ze all tm ⟨some d, OP, ty, pos, aft, grd⟩ = some true) (hn : Nat.blt d n = true) (h : aOp E (own d) (Zh E tm) OP H = some (.bool e, H1))
  (ht:e=true→RegQ E P own n all r K (ZX tm (some d) (.bool true)) H1) (hf:e=false→RegQ E P own n all r K (ZX tm (some d) (.bool false)) H1):RegQ E P own n all (⟨some d,OP,ty,pos,aft,grd⟩::r) K tm H:= .runB hw rfl hn h ht hf
theorem RegQ.rSkip (hw : Ze all tm ⟨some d, OP, ty, pos, aft, some (j, w)⟩ = some false) (hn : Nat.blt d n = true)
  (hr:RegQ E P own n all r K (ZX tm (some d) unset) H):RegQ E P own n all (⟨some d,OP,ty,pos,aft,some (j,w)⟩::r) K tm H:= .skip hw rfl hn hr
theorem Ya (b:Bool) (es:Nat) (el:List (List PV)):Z7 (slV b es el)=true:=by
 cases el with
 |nil=>cases b<;>rfl
 |cons c r=>rfl
theorem RegQ.rSt {a : Operand} (hw : Ze all tm ⟨none, .store t a v, ty, pos, aft, grd⟩ = some true) (ht : E.T t = some ti)
  (hcs:(Zh E tm v).cells=cs) (hn:IsL cs cs') (hl:(Nat.beq cs'.length ti.size&&Nat.blt 0 ti.size)=true) (hc:cs'.all Z7=true) (hwr:H.wr (Zh E tm a) cs'=some H1) (hh:IsH H1 H1')
  (hr:RegQ E P own n all r K tm H1'):RegQ E P own n all (⟨none,.store t a v,ty,pos,aft,grd⟩::r) K tm H:=by
 have e:=hn.eq
 subst e
 subst hcs
 simp only [Bool.and_eq_true] at hl
 have h1:=Nat.eq_of_beq_eq_true hl.1
 have h2:0<ti.size:=Nat.le_of_ble_eq_true hl.2
 refine .putH (p:= .undef) hw rfl ?_ hh hr
 simp only [aOp,ht]
 rw [if_pos ⟨h1,h2,hc⟩,hwr]
 rfl
theorem RegQ.rLen (hw : Ze all tm ⟨some d, .call { callee := .builtin .len, args := #[x], argTypes := #[t] }, ty, pos, aft, grd⟩ = some true)
  (hn:Nat.blt d n=true) (hx:Zh E tm x=slV b es el) (ht:E.T t=some ti) (hk:ti.tk= .slice e) (hr:RegQ E P own n all r K (ZX tm (some d) (.int .i64 (el.length:Int))) H) :
  RegQ E P own n all (⟨some d,.call {callee:= .builtin .len,args:= #[x],argTypes:= #[t]},ty,pos,aft,grd⟩::r) K tm H:= .lenV hw rfl hn rfl rfl ht hk hx hr
theorem RegQ.rIdx (hw : Ze all tm ⟨some d, .indexAddr t x y, ty, pos, aft, grd⟩ = some true) (hn : Nat.blt d n = true)
  (hx:Zh E tm x=slV b es el) (ht:E.T t=some ti) (hk:ti.tk= .slice e) (he:E.T e=some ei) (hes:ei.size=es) (hy:Zh E tm y= .int k (j:Int)) (hj:el[j]? = some cs)
  (hr:RegQ E P own n all r K (ZX tm (some d) (.fptr cs 0)) H):RegQ E P own n all (⟨some d,.indexAddr t x y,ty,pos,aft,grd⟩::r) K tm H:= .idxV hw rfl hn rfl ht hk he hes hx hy hj hr
theorem RegQ.rCall {k : FuncId}
  (hw:Ze all tm ⟨some d,.call {callee:= .value f,args:=args,argTypes:=ats},ty,pos,aft,grd⟩=some true) (hn:Nat.blt d n=true) (hf:Zh E tm f= .fn k caps) (ha:args.toList.map (Zh E tm)++caps=al) (h:CallOk E P k al H p H1) (hv:IsV p p')
  (hr:RegQ E P own n all r K (ZX tm (some d) p') H1):RegQ E P own n all (⟨some d,.call {callee:= .value f,args:=args,argTypes:=ats},ty,pos,aft,grd⟩::r) K tm H:=
 .does hw rfl hn rfl hf (by rw [ha];exact .any _) h hv hr
theorem DrwQ.rOp (hw : Ze ops.toList tm ⟨some d, OP, ty, pos, aft, grd⟩ = some true) (hn : Nat.blt d n = true) (h : aOp E (own d) (Zh E tm) OP H = some (p, H1)) (hv : IsV p p')
  (hk:okD E own n0 tm ⟨some d,OP,ty,pos,aft,grd⟩ H H1=true) (hr:DrwQ E P own n ops n0 (i+1) r K (ZX tm (some d) p') H1):DrwQ E P own n ops n0 i (⟨some d,OP,ty,pos,aft,grd⟩::r) K tm H:= .run hw rfl hn h hv hk hr
theorem DrwQ.rOpH (hw : Ze ops.toList tm ⟨some d, OP, ty, pos, aft, grd⟩ = some true) (hn : Nat.blt d n = true) (h : aOp E (own d) (Zh E tm) OP H = some (p, H1)) (hv : IsV p p') (hh : IsH H1 H1')
  (hk:okD E own n0 tm ⟨some d,OP,ty,pos,aft,grd⟩ H H1=true) (hr:DrwQ E P own n ops n0 (i+1) r K (ZX tm (some d) p') H1'):DrwQ E P own n ops n0 i (⟨some d,OP,ty,pos,aft,grd⟩::r) K tm H:= .runH hw rfl hn h hv hh hk hr
theorem DrwQ.rB {e : Bool} (hw : Ze ops.toList tm ⟨some d, OP, ty, pos, aft, grd⟩ = some true) (hn : Nat.blt d n = true) (h : aOp E (own d) (Zh E tm) OP H = some (.bool e, H1))
  (hk:okD E own n0 tm ⟨some d,OP,ty,pos,aft,grd⟩ H H1=true) (ht:e=true→DrwQ E P own n ops n0 (i+1) r K (ZX tm (some d) (.bool true)) H1) (hf:e=false→DrwQ E P own n ops n0 (i+1) r K (ZX tm (some d) (.bool false)) H1):DrwQ E P own n ops n0 i (⟨some d,OP,ty,pos,aft,grd⟩::r) K tm H:= .runB hw rfl hn h hk ht hf
theorem DrwQ.rSkip (hw : Ze ops.toList tm ⟨some d, OP, ty, pos, aft, some (j, w)⟩ = some false) (hn : Nat.blt d n = true) (hns : Zor E own ⟨some d, OP, ty, pos, aft, some (j, w)⟩ = true)
  (hr:DrwQ E P own n ops n0 (i+1) r K (ZX tm (some d) unset) H):DrwQ E P own n ops n0 i (⟨some d,OP,ty,pos,aft,some (j,w)⟩::r) K tm H:= .skip hw rfl hn hns hr
theorem DrwQ.rLen (hw : Ze ops.toList tm ⟨some d, .call { callee := .builtin .len, args := #[x], argTypes := #[t] }, ty, pos, aft, grd⟩ = some true)
  (hn:Nat.blt d n=true) (hx:Zh E tm x=slV b es el) (ht:E.T t=some ti) (hk:ti.tk= .slice e) (hr:DrwQ E P own n ops n0 (i+1) r K (ZX tm (some d) (.int .i64 (el.length:Int))) H) :
  DrwQ E P own n ops n0 i (⟨some d,.call {callee:= .builtin .len,args:= #[x],argTypes:= #[t]},ty,pos,aft,grd⟩::r) K tm H:= .lenV hw rfl hn rfl rfl ht hk hx rfl hr
theorem DrwQ.rIdx (hw : Ze ops.toList tm ⟨some d, .indexAddr t x y, ty, pos, aft, grd⟩ = some true) (hn : Nat.blt d n = true)
  (hx:Zh E tm x=slV b es el) (ht:E.T t=some ti) (hk:ti.tk= .slice e) (he:E.T e=some ei) (hes:ei.size=es) (hy:Zh E tm y= .int k (j:Int)) (hj:el[j]? = some cs)
  (hr:DrwQ E P own n ops n0 (i+1) r K (ZX tm (some d) (.fptr cs 0)) H):DrwQ E P own n ops n0 i (⟨some d,.indexAddr t x y,ty,pos,aft,grd⟩::r) K tm H:= .idxV hw rfl hn rfl ht hk he hes hx hy hj hr
theorem DrwQ.rCall {k : FuncId}
  (hw:Ze ops.toList tm ⟨some d,.call {callee:= .value f,args:=args,argTypes:=ats},ty,pos,aft,grd⟩=some true) (hn:Nat.blt d n=true) (hf:Zh E tm f= .fn k caps) (ha:args.toList.map (Zh E tm)++caps=al) (hc:Xc E own ⟨some d,.call {callee:= .value f,args:=args,argTypes:=ats},ty,pos,aft,grd⟩= .qu) (h:CallOk E P k al H p H) (hv:IsV p p')
  (hr:DrwQ E P own n ops n0 (i+1) r K (ZX tm (some d) p') H):DrwQ E P own n ops n0 i (⟨some d,.call {callee:= .value f,args:=args,argTypes:=ats},ty,pos,aft,grd⟩::r) K tm H:=
 .does hw rfl hn rfl hf (by rw [ha];exact .any _) hc h hv hr
theorem RegQ.rBs {ps : Array (Nat × Operand)} (hw : Ze all tm ⟨some d, .buildSlice t m ps, ty, pos, aft, grd⟩ = some true) (hn : Nat.blt d n = true)
  (ho:own d=false) (h:YK E t m (ps.toList.map fun p=>(p.1,Zh E tm p.2))=some (es,el)) (hl:IsLL el el') (hf:Xm el'=some el')
  (hr:RegQ E P own n all r K (ZX tm (some d) (.sl .full es el')) H):RegQ E P own n all (⟨some d,.buildSlice t m ps,ty,pos,aft,grd⟩::r) K tm H:=by
 have e:=hl.eq
 subst e
 refine .run hw rfl hn (p:= .sl .full es el) ?_ (.any _) hr
 simp only [aOp,h,ho,Bool.false_eq_true,if_false,hf]
theorem RegQ.rSl (hw : Ze all tm ⟨some d, .slice t x lo hi mx, ty, pos, aft, grd⟩ = some true) (hn : Nat.blt d n = true) (hx : Zh E tm x = X) (h1 : Zb2 (Zh E tm) lo = LO) (h2 : Zb2 (Zh E tm) hi = HI) (h3 : Zb2 (Zh E tm) mx = MX) (h : ZW E t X LO HI MX = some p) (hv : IsV p p')
  (hr:RegQ E P own n all r K (ZX tm (some d) p') H):RegQ E P own n all (⟨some d,.slice t x lo hi mx,ty,pos,aft,grd⟩::r) K tm H:= .run hw rfl hn (p:=p) (by simp only [aOp,hx,h1,h2,h3,h,Option.map_some]) hv hr
theorem DrwQ.rSl (hw : Ze ops.toList tm ⟨some d, .slice t x lo hi mx, ty, pos, aft, grd⟩ = some true) (hn : Nat.blt d n = true) (hx : Zh E tm x = X) (h1 : Zb2 (Zh E tm) lo = LO) (h2 : Zb2 (Zh E tm) hi = HI) (h3 : Zb2 (Zh E tm) mx = MX) (h : ZW E t X LO HI MX = some p) (hv : IsV p p')
  (hk:okD E own n0 tm ⟨some d,.slice t x lo hi mx,ty,pos,aft,grd⟩ H H=true) (hr:DrwQ E P own n ops n0 (i+1) r K (ZX tm (some d) p') H):DrwQ E P own n ops n0 i (⟨some d,.slice t x lo hi mx,ty,pos,aft,grd⟩::r) K tm H:= .run hw rfl hn (p:=p) (by simp only [aOp,hx,h1,h2,h3,h,Option.map_some]) hv hk hr
theorem RegQ.rBi (hw : Ze all tm ⟨some d, .binOp op t x y yt, ty, pos, aft, grd⟩ = some true) (hn : Nat.blt d n = true) (hx : Zh E tm x = X) (hy : Zh E tm y = Y) (h : ZP E op t X Y = some p) (hv : IsV p p')
  (hr:RegQ E P own n all r K (ZX tm (some d) p') H):RegQ E P own n all (⟨some d,.binOp op t x y yt,ty,pos,aft,grd⟩::r) K tm H:= .run hw rfl hn (p:=p) (by simp only [aOp,hx,hy,h,Option.map_some]) hv hr
theorem DrwQ.rBi (hw : Ze ops.toList tm ⟨some d, .binOp op t x y yt, ty, pos, aft, grd⟩ = some true) (hn : Nat.blt d n = true) (hx : Zh E tm x = X) (hy : Zh E tm y = Y) (h : ZP E op t X Y = some p) (hv : IsV p p')
  (hk:okD E own n0 tm ⟨some d,.binOp op t x y yt,ty,pos,aft,grd⟩ H H=true) (hr:DrwQ E P own n ops n0 (i+1) r K (ZX tm (some d) p') H):DrwQ E P own n ops n0 i (⟨some d,.binOp op t x y yt,ty,pos,aft,grd⟩::r) K tm H:= .run hw rfl hn (p:=p) (by simp only [aOp,hx,hy,h,Option.map_some]) hv hk hr
theorem RegQ.rIx (hw : Ze all tm ⟨some d, .index t x y, ty, pos, aft, grd⟩ = some true) (hn : Nat.blt d n = true) (hx : Zh E tm x = X) (hy : Zh E tm y = Y) (h : Vi E t X Y = some p) (hv : IsV p p')
  (hr:RegQ E P own n all r K (ZX tm (some d) p') H):RegQ E P own n all (⟨some d,.index t x y,ty,pos,aft,grd⟩::r) K tm H:= .run hw rfl hn (p:=p) (by simp only [aOp,hx,hy,h,Option.map_some]) hv hr
theorem DrwQ.rIx (hw : Ze ops.toList tm ⟨some d, .index t x y, ty, pos, aft, grd⟩ = some true) (hn : Nat.blt d n = true) (hx : Zh E tm x = X) (hy : Zh E tm y = Y) (h : Vi E t X Y = some p) (hv : IsV p p')
  (hk:okD E own n0 tm ⟨some d,.index t x y,ty,pos,aft,grd⟩ H H=true) (hr:DrwQ E P own n ops n0 (i+1) r K (ZX tm (some d) p') H):DrwQ E P own n ops n0 i (⟨some d,.index t x y,ty,pos,aft,grd⟩::r) K tm H:= .run hw rfl hn (p:=p) (by simp only [aOp,hx,hy,h,Option.map_some]) hv hk hr
theorem RegQ.rMk {c : Operand} (hw : Ze all tm ⟨some d, .makeSlice t l c, ty, pos, aft, grd⟩ = some true) (hn : Nat.blt d n = true) (ho : own d = true)
  (hx:Zh E tm l=X) (hy:Zh E tm c=Y) (h:XF E t X Y H=some (p,H1)) (hr:RegQ E P own n all r K (ZX tm (some d) p) H1):RegQ E P own n all (⟨some d,.makeSlice t l c,ty,pos,aft,grd⟩::r) K tm H:=
 .run hw rfl hn (p:=p) (by simp only [aOp,ho,if_true,hx,hy,h]) (.any _) hr
theorem RegQ.rAp (hw : Ze all tm ⟨some d, .call { callee := .builtin .append, args := #[x, y], argTypes := #[t, u] }, ty, pos, aft, grd⟩ = some true) (hn : Nat.blt d n = true) (ho : own d = false)
  (hx:Zh E tm x=X) (hy:Zh E tm y=Y) (h:Yf E t u X Y H=some (p,H1)) (hr:RegQ E P own n all r K (ZX tm (some d) p) H1):RegQ E P own n all (⟨some d,.call {callee:= .builtin .append,args:= #[x,y],argTypes:= #[t,u]},ty,pos,aft,grd⟩::r) K tm H:=
 .run hw rfl hn (p:=p) (by simp [aOp,Yt,ho,hx,hy,h]) (.any _) hr
theorem DrwQ.rAp (hw : Ze ops.toList tm ⟨some d, .call { callee := .builtin .append, args := #[x, y], argTypes := #[t, u] }, ty, pos, aft, grd⟩ = some true) (hn : Nat.blt d n = true) (ho : own d = false)
  (hx:Zh E tm x=X) (hy:Zh E tm y=Y) (h:Yf E t u X Y H=some (p,H1)) (hk:okD E own n0 tm ⟨some d,.call {callee:= .builtin .append,args:= #[x,y],argTypes:= #[t,u]},ty,pos,aft,grd⟩ H H1=true)
  (hr:DrwQ E P own n ops n0 (i+1) r K (ZX tm (some d) p) H1):DrwQ E P own n ops n0 i (⟨some d,.call {callee:= .builtin .append,args:= #[x,y],argTypes:= #[t,u]},ty,pos,aft,grd⟩::r) K tm H:=
 .run hw rfl hn (p:=p) (by simp [aOp,Yt,ho,hx,hy,h]) (.any _) hk hr
theorem RegQ.rIa (hw : Ze all tm ⟨some d, .indexAddr t x y, ty, pos, aft, grd⟩ = some true) (hn : Nat.blt d n = true) (hx : Zh E tm x = X) (hy : Zh E tm y = Y) (h : Zp E t X Y = some p) (hv : IsV p p')
  (hr:RegQ E P own n all r K (ZX tm (some d) p') H):RegQ E P own n all (⟨some d,.indexAddr t x y,ty,pos,aft,grd⟩::r) K tm H:= .run hw rfl hn (p:=p) (by simp only [aOp,hx,hy,h,Option.map_some]) hv hr
theorem RegQ.rMin (hw : Ze all tm ⟨some d, .call { callee := .builtin .min, args := #[x, y], argTypes := ats }, ty, pos, aft, grd⟩ = some true) (hn : Nat.blt d n = true) (hx : Zh E tm x = X) (hy : Zh E tm y = Y) (h : ZdH [Y] X = some p)
  (hr : RegQ E P own n all r K (ZX tm (some d) p) H) : RegQ E P own n all (⟨some d, .call { callee := .builtin .min, args := #[x, y], argTypes := ats }, ty, pos, aft, grd⟩ :: r) K tm H := .run hw rfl hn (p := p) (by
    simp only [aOp,List.map_cons,List.map_nil,hx,hy]
    cases ats.toList<;>simp [Yt,h]) (.any _) hr
theorem RegQ.rLd (hw : Ze all tm ⟨some d, .load t x, ty, pos, aft, grd⟩ = some true) (hn : Nat.blt d n = true) (hx : Zh E tm x = X) (h : YO E t X H = some p) (hv : IsV p p')
  (hr:RegQ E P own n all r K (ZX tm (some d) p') H):RegQ E P own n all (⟨some d,.load t x,ty,pos,aft,grd⟩::r) K tm H:= .run hw rfl hn (p:=p) (by simp only [aOp,hx,h,Option.map_some]) hv hr
theorem RegQ.rAl (hw : Ze all tm ⟨some d, .alloc t, ty, pos, aft, grd⟩ = some true) (hn : Nat.blt d n = true) (h : ∀ ρ, aOp E (own d) ρ (.alloc t) H = some (p, H1))
  (hr:RegQ E P own n all r K (ZX tm (some d) p) H1):RegQ E P own n all (⟨some d,.alloc t,ty,pos,aft,grd⟩::r) K tm H:= .run hw rfl hn (p:=p) (h _) (.any _) hr
def ZsN (E:Env) (fn:Func) (m:Nat) (r:PV) (ex:Ex) (tm:TM) (H:Heap):Prop:=match ex with
 | .exit _=>False
 |_=>∃ ps,V4 E tm H fn.results.toList=some ps∧frz3 m H (one ps)=some r
structure RetM (E:Env) (fn:Func) (m:Nat) (r:PV) (ex:Ex) (tm:TM) (H:Heap):Prop where
 out:ZsN E fn m r ex tm H
theorem RetM.fin {r:PV} (h1:V4 E tm H fn.results.toList=some ps) (hp:IsL ps ps') (h2:frz3 m H (one ps')=some r):RetM E fn m r .ret tm H:=
 ⟨⟨ps,h1,by rw [hp.eq];exact h2⟩⟩
theorem Qp (hE : TOk E P) {f : FuncId} {c : Code} (hf : FnOk P f fn c) {args : List PV} {r : PV} {H : Heap}
  (h:Wp E P own fn.ntmps c (RetM E fn H.bx.length r) (tm0 (args.map argV)) (UK H)):CallOk E P f args H r H:=by
 obtain ⟨ex,tm',H',h1,⟨h2⟩⟩:=h.out
 have hx:∀ i,ex≠ .exit i:=fun i e=>by subst e;exact h2
 obtain ⟨ps,h3,h4⟩:∃ ps,V4 E tm' H' fn.results.toList=some ps∧frz3 H.bx.length H' (one ps)=some r:=by
  cases ex with
  | normal=>exact h2
  | ret=>exact h2
  | exit i=>exact h2.elim
 exact Ut (own:=own) hE hf h1 hx h3 h4
end
attribute [irreducible] slV
section
variable {E:Env} {P:Program} {own:Tmp→Bool} {n:Nat} {Q:Ex→TM→Heap→Prop} {K:TM→Heap→Prop} {tm:TM} {H:Heap}
theorem DrwQ.rIa (hw : Ze ops.toList tm ⟨some d, .indexAddr t x y, ty, pos, aft, grd⟩ = some true) (hn : Nat.blt d n = true) (hx : Zh E tm x = X) (hy : Zh E tm y = Y) (h : Zp E t X Y = some p) (hv : IsV p p')
  (hr:DrwQ E P own n ops n0 (i+1) r K (ZX tm (some d) p') H):DrwQ E P own n ops n0 i (⟨some d,.indexAddr t x y,ty,pos,aft,grd⟩::r) K tm H:= .run hw rfl hn (p:=p) (by simp only [aOp,hx,hy,h,Option.map_some]) hv (by simp [okD,Xc]) hr
theorem DrwQ.rLd (hw : Ze ops.toList tm ⟨some d, .load t x, ty, pos, aft, grd⟩ = some true) (hn : Nat.blt d n = true) (hx : Zh E tm x = X) (h : YO E t X H = some p) (hv : IsV p p')
  (hk:okD E own n0 tm ⟨some d,.load t x,ty,pos,aft,grd⟩ H H=true) (hr:DrwQ E P own n ops n0 (i+1) r K (ZX tm (some d) p') H):DrwQ E P own n ops n0 i (⟨some d,.load t x,ty,pos,aft,grd⟩::r) K tm H:= .run hw rfl hn (p:=p) (by simp only [aOp,hx,h,Option.map_some]) hv hk hr
theorem RegQ.rLe (hw : Ze all tm ⟨some d, .call { callee := .builtin .len, args := #[x], argTypes := #[t] }, ty, pos, aft, grd⟩ = some true)
  (hn:Nat.blt d n=true) (hx:Zh E tm x=X) (h:∀ H,ZfP E t X H=some p) (hv:IsV p p') (hr:RegQ E P own n all r K (ZX tm (some d) p') H) :
  RegQ E P own n all (⟨some d,.call {callee:= .builtin .len,args:= #[x],argTypes:= #[t]},ty,pos,aft,grd⟩::r) K tm H:=
 .run hw rfl hn (p:=p) (by simp [aOp,Yt,hx,h]) hv hr
theorem DrwQ.rLe (hw : Ze ops.toList tm ⟨some d, .call { callee := .builtin .len, args := #[x], argTypes := #[t] }, ty, pos, aft, grd⟩ = some true)
  (hn:Nat.blt d n=true) (hx:Zh E tm x=X) (h:∀ H,ZfP E t X H=some p) (hv:IsV p p') (hk:okD E own n0 tm ⟨some d,.call {callee:= .builtin .len,args:= #[x],argTypes:= #[t]},ty,pos,aft,grd⟩ H H=true)
  (hr:DrwQ E P own n ops n0 (i+1) r K (ZX tm (some d) p') H) :
  DrwQ E P own n ops n0 i (⟨some d,.call {callee:= .builtin .len,args:= #[x],argTypes:= #[t]},ty,pos,aft,grd⟩::r) K tm H:=
 .run hw rfl hn (p:=p) (by simp [aOp,Yt,hx,h]) hv hk hr
theorem DrwQ.rBs {ps : Array (Nat × Operand)} (hw : Ze ops.toList tm ⟨some d, .buildSlice t m ps, ty, pos, aft, grd⟩ = some true) (hn : Nat.blt d n = true)
  (ho:own d=false) (h:YK E t m (ps.toList.map fun p=>(p.1,Zh E tm p.2))=some (es,el)) (hl:IsLL el el') (hf:Xm el'=some el') (hk:okD E own n0 tm ⟨some d,.buildSlice t m ps,ty,pos,aft,grd⟩ H H=true)
  (hr:DrwQ E P own n ops n0 (i+1) r K (ZX tm (some d) (.sl .full es el')) H):DrwQ E P own n ops n0 i (⟨some d,.buildSlice t m ps,ty,pos,aft,grd⟩::r) K tm H:=by
 have e:=hl.eq
 subst e
 refine .run hw rfl hn (p:= .sl .full es el) ?_ (.any _) hk hr
 simp only [aOp,h,ho,Bool.false_eq_true,if_false,hf]
theorem DrwQ.tk {ops : Array Oper} {n0 i : Nat} {o : Oper} {r : List Oper} {p : PV} {M : Heap} (hw : Ze ops.toList tm o = some true) (hd : Wq n o = true) (hc : Xc E own o = .tk)
  (h:aOp E (own (o.dst.getD 0)) (Zh E tm) o.op {H with ro:=H.bx.length}=some (p,M)) (hl:H.bx.length≤M.bx.length)
  (hr:DrwQ E P own n ops n0 (i+1) r K (ZX tm o.dst p) (WR H M)):DrwQ E P own n ops n0 i (o::r) K tm H:=
 .stepN hd (.inr (.inr ⟨hc,fun j b hj=>by simp only [WR];rw [List.getElem?_append_left (List.getElem?_eq_some_iff.1 hj).1];exact hj⟩)) (fun ho'=>by
  have hci:=(WA (E:=E) (own:=own) ho').trans hc
  exact ⟨by rw [hci];simp,.inr (.inl ⟨by rw [hci];exact ⟨by simp,by simp,by simp⟩,.tk _ _ M hw hci (.op _ _ h) hl⟩)⟩) hr
theorem DrwQ.rApT (hw : Ze ops.toList tm ⟨some d, .call { callee := .builtin .append, args := #[x, y], argTypes := #[t, u] }, ty, pos, aft, grd⟩ = some true) (hn : Nat.blt d n = true) (ho : own d = false) (ht : own (d + 5000) = true)
  (hx:Zh E tm x=X) (hy:Zh E tm y=Y) (h:∀ ro,Yf E t u X Y ⟨bx,ro,lv,nt⟩=some (p,⟨bx,ro,lv',nt'⟩))
  (hr:DrwQ E P own n ops n0 (i+1) r K (ZX tm (some d) p) ⟨bx,ro,lv',nt'⟩):DrwQ E P own n ops n0 i (⟨some d,.call {callee:= .builtin .append,args:= #[x,y],argTypes:= #[t,u]},ty,pos,aft,grd⟩::r) K tm ⟨bx,ro,lv,nt⟩:=by
 refine .tk (M:=⟨bx,bx.length,lv',nt'⟩) (p:=p) hw ?_ ?_ ?_ (Nat.le_refl _) ?_
 · simp only [Wq,hn]
 · simp [Xc,ht]
 · simp [aOp,Yt,ho,hx,hy,h]
 · have e : WR ⟨bx, ro, lv, nt⟩ ⟨bx, bx.length, lv', nt'⟩ = ⟨bx, ro, lv', nt'⟩ := by simp [WR]
   rw [e]
   exact hr
end
theorem IsV.aggN (h:IsL cs cs':=by repeat' first|exact Go.Vm.IsL.nil|exact Go.Vm.IsV.int _ _|exact Go.Vm.IsV.str _|exact Go.Vm.IsV.slV _ _ _|exact Go.Vm.IsV.nils|exact Go.Vm.IsV.bool _|exact Go.Vm.IsV.sl _ _ _|apply Go.Vm.IsL.cons|apply Go.Vm.IsV.agg|exact Go.Vm.IsV.any _|exact Go.Vm.IsL.any _):IsV (.agg cs) (.agg cs'):= .agg _ _ h
theorem IsV.tupN (h:IsL cs cs':=by repeat' first|exact Go.Vm.IsL.nil|exact Go.Vm.IsV.int _ _|exact Go.Vm.IsV.str _|exact Go.Vm.IsV.slV _ _ _|exact Go.Vm.IsV.nils|exact Go.Vm.IsV.bool _|exact Go.Vm.IsV.sl _ _ _|apply Go.Vm.IsL.cons|apply Go.Vm.IsV.agg|exact Go.Vm.IsV.any _|exact Go.Vm.IsL.any _):IsV (.tup cs) (.tup cs'):= .tup _ _ h
theorem IsV.ptrN {b : Nat} (h1 : a = a' := by first | exact (rfl : (_ : Nat) = 0) | exact (rfl : (_ : Nat) = 1) | exact (rfl : (_ : Nat) = 2) | exact (rfl : (_ : Nat) = 3) | exact (rfl : (_ : Nat) = 4) | exact (rfl : (_ : Nat) = 5) | exact (rfl : (_ : Nat) = 6) | exact (rfl : (_ : Nat) = 7) | exact (rfl : (_ : Nat) = 8) | exact rfl)
  (h2:b=b':=by first|exact (rfl:(_:Nat)=1)|exact (rfl:(_:Nat)=2)|exact (rfl:(_:Nat)=3)|exact (rfl:(_:Nat)=4)|exact (rfl:(_:Nat)=5)|exact (rfl:(_:Nat)=6)|exact (rfl:(_:Nat)=7)|exact (rfl:(_:Nat)=8)|exact rfl)
  (h3:c=c':=by first|exact (rfl:(_:Nat)=0)|exact (rfl:(_:Nat)=1)|exact (rfl:(_:Nat)=2)|exact rfl)
  (h4:d=d':=by first|exact (rfl:(_:Nat)=0)|exact (rfl:(_:Nat)=1)|exact (rfl:(_:Nat)=2)|exact (rfl:(_:Nat)=3)|exact (rfl:(_:Nat)=4)|exact (rfl:(_:Nat)=5)|exact (rfl:(_:Nat)=6)|exact (rfl:(_:Nat)=7)|exact (rfl:(_:Nat)=8)|exact rfl):IsV (.ptr a b c d) (.ptr a' b' c' d'):= .ptr4 h1 h2 h3 h4
theorem IsH.mkN {ro' : Nat}
  (h:IsBL bx bx':=by repeat' first|exact Go.Vm.IsBL.nil|apply Go.Vm.IsBL.cells|apply Go.Vm.IsBL.cons|exact Go.Vm.IsLL.nil|apply Go.Vm.IsLL.cons|exact Go.Vm.IsL.nil|exact Go.Vm.IsV.int _ _|exact Go.Vm.IsV.str _|exact Go.Vm.IsV.slV _ _ _|exact Go.Vm.IsV.nils|exact Go.Vm.IsV.bool _|exact Go.Vm.IsV.sl _ _ _|apply Go.Vm.IsL.cons|exact Go.Vm.IsV.any _|exact Go.Vm.IsL.any _|exact Go.Vm.IsLL.any _|exact Go.Vm.IsBL.any _|exact (rfl:(_:Nat)=1)|exact (rfl:(_:Nat)=2)|exact (rfl:(_:Nat)=3)|exact (rfl:(_:Nat)=4)|exact (rfl:(_:Nat)=5)|exact (rfl:(_:Nat)=6)|exact (rfl:(_:Nat)=7)|exact (rfl:(_:Nat)=8)|exact rfl)
  (h1:ro=ro':=by first|exact (rfl:(_:Nat)=0)|exact (rfl:(_:Nat)=1)|exact rfl) (h2:lv=lv':=by first|exact (rfl:(_:List Nat)= [])|exact rfl)
  (h3:nt=nt':=by first|exact (rfl:(_:Nat)=0)|exact (rfl:(_:Nat)=1)|exact (rfl:(_:Nat)=2)|exact (rfl:(_:Nat)=3)|exact (rfl:(_:Nat)=4)|exact rfl):IsH ⟨bx,ro,lv,nt⟩ ⟨bx',ro',lv',nt'⟩:= .mk _ _ _ _ _ _ _ _ h h1 h2 h3
theorem IsL.n {l l':List PV} (h:IsL l l':=by repeat' first|exact Go.Vm.IsL.nil|exact Go.Vm.IsV.int _ _|exact Go.Vm.IsV.str _|exact Go.Vm.IsV.slV _ _ _|exact Go.Vm.IsV.nils|exact Go.Vm.IsV.bool _|exact Go.Vm.IsV.sl _ _ _|exact Go.Vm.IsV.ptrN|apply Go.Vm.IsL.cons|apply Go.Vm.IsV.agg|exact Go.Vm.IsV.any _|exact Go.Vm.IsL.any _):IsL l l':=h
theorem IsLL.n {l l':List (List PV)} (h:IsLL l l':=by repeat' first|exact Go.Vm.IsLL.nil|apply Go.Vm.IsLL.cons|exact Go.Vm.IsL.nil|exact Go.Vm.IsV.int _ _|exact Go.Vm.IsV.str _|exact Go.Vm.IsV.slV _ _ _|exact Go.Vm.IsV.nils|exact Go.Vm.IsV.bool _|exact Go.Vm.IsV.sl _ _ _|exact Go.Vm.IsV.ptrN|apply Go.Vm.IsL.cons|apply Go.Vm.IsV.agg|exact Go.Vm.IsV.any _|exact Go.Vm.IsL.any _|exact Go.Vm.IsLL.any _):IsLL l l':=h
section
variable {E:Env} {P:Program} {own:Tmp→Bool} {n:Nat} {Q:Ex→TM→Heap→Prop} {K:TM→Heap→Prop} {tm:TM} {H:Heap}
theorem qT (hw:Ze all tm ⟨some d,OP,ty,pos,aft,grd⟩=some true) (hn:Nat.blt d n=true) (h:aOp E (own d) (Zh E tm) OP H=some (.bool true,H1)) (hr:RegQ E P own n all r K (ZX tm (some d) (.bool true)) H1):RegQ E P own n all (⟨some d,OP,ty,pos,aft,grd⟩::r) K tm H:= .rOp hw hn h (.bool _) hr
theorem dT (hw:Ze ops.toList tm ⟨some d,OP,ty,pos,aft,grd⟩=some true) (hn:Nat.blt d n=true) (h:aOp E (own d) (Zh E tm) OP H=some (.bool true,H1)) (hk:okD E own n0 tm ⟨some d,OP,ty,pos,aft,grd⟩ H H1=true) (hr:DrwQ E P own n ops n0 (i+1) r K (ZX tm (some d) (.bool true)) H1):DrwQ E P own n ops n0 i (⟨some d,OP,ty,pos,aft,grd⟩::r) K tm H:= .rOp hw hn h (.bool _) hk hr
theorem qF (hw:Ze all tm ⟨some d,OP,ty,pos,aft,grd⟩=some true) (hn:Nat.blt d n=true) (h:aOp E (own d) (Zh E tm) OP H=some (.bool false,H1)) (hr:RegQ E P own n all r K (ZX tm (some d) (.bool false)) H1):RegQ E P own n all (⟨some d,OP,ty,pos,aft,grd⟩::r) K tm H:= .rOp hw hn h (.bool _) hr
theorem dF (hw:Ze ops.toList tm ⟨some d,OP,ty,pos,aft,grd⟩=some true) (hn:Nat.blt d n=true) (h:aOp E (own d) (Zh E tm) OP H=some (.bool false,H1)) (hk:okD E own n0 tm ⟨some d,OP,ty,pos,aft,grd⟩ H H1=true) (hr:DrwQ E P own n ops n0 (i+1) r K (ZX tm (some d) (.bool false)) H1):DrwQ E P own n ops n0 i (⟨some d,OP,ty,pos,aft,grd⟩::r) K tm H:= .rOp hw hn h (.bool _) hk hr
theorem qB {e:Bool} (hw:Ze all tm ⟨some d,OP,ty,pos,aft,grd⟩=some true) (hn:Nat.blt d n=true) (h:aOp E (own d) (Zh E tm) OP H=some (.bool e,H1)) (ht:e=true→RegQ E P own n all r K (ZX tm (some d) (.bool true)) H1) (hf:e=false→RegQ E P own n all r K (ZX tm (some d) (.bool false)) H1):RegQ E P own n all (⟨some d,OP,ty,pos,aft,grd⟩::r) K tm H:= .rB hw hn h ht hf
theorem qK (hw:Ze all tm ⟨some d,OP,ty,pos,aft,some (j,w)⟩=some false) (hn:Nat.blt d n=true) (hr:RegQ E P own n all r K (ZX tm (some d) unset) H):RegQ E P own n all (⟨some d,OP,ty,pos,aft,some (j,w)⟩::r) K tm H:= .rSkip hw hn hr
theorem qLn (hw:Ze all tm ⟨some d,.call {callee:= .builtin .len,args:= #[x],argTypes:= #[t]},ty,pos,aft,grd⟩=some true) (hn:Nat.blt d n=true) (hx:Zh E tm x=slV b es el) (ht:E.T t=some ti) (hk:ti.tk= .slice e) (hr:RegQ E P own n all r K (ZX tm (some d) (.int .i64 (el.length:Int))) H):RegQ E P own n all (⟨some d,.call {callee:= .builtin .len,args:= #[x],argTypes:= #[t]},ty,pos,aft,grd⟩::r) K tm H:= .rLen hw hn hx ht hk hr
theorem qIx (hw:Ze all tm ⟨some d,.indexAddr t x y,ty,pos,aft,grd⟩=some true) (hn:Nat.blt d n=true) (hx:Zh E tm x=slV b es el) (ht:E.T t=some ti) (hk:ti.tk= .slice e) (he:E.T e=some ei) (hes:ei.size=es) (hy:Zh E tm y= .int k (j:Int)) (hj:el[j]? = some cs) (hr:RegQ E P own n all r K (ZX tm (some d) (.fptr cs 0)) H):RegQ E P own n all (⟨some d,.indexAddr t x y,ty,pos,aft,grd⟩::r) K tm H:= .rIdx hw hn hx ht hk he hes hy hj hr
theorem dB {e:Bool} (hw:Ze ops.toList tm ⟨some d,OP,ty,pos,aft,grd⟩=some true) (hn:Nat.blt d n=true) (h:aOp E (own d) (Zh E tm) OP H=some (.bool e,H1)) (hk:okD E own n0 tm ⟨some d,OP,ty,pos,aft,grd⟩ H H1=true) (ht:e=true→DrwQ E P own n ops n0 (i+1) r K (ZX tm (some d) (.bool true)) H1) (hf:e=false→DrwQ E P own n ops n0 (i+1) r K (ZX tm (some d) (.bool false)) H1):DrwQ E P own n ops n0 i (⟨some d,OP,ty,pos,aft,grd⟩::r) K tm H:= .rB hw hn h hk ht hf
theorem dK (hw:Ze ops.toList tm ⟨some d,OP,ty,pos,aft,some (j,w)⟩=some false) (hn:Nat.blt d n=true) (hns:Zor E own ⟨some d,OP,ty,pos,aft,some (j,w)⟩=true) (hr:DrwQ E P own n ops n0 (i+1) r K (ZX tm (some d) unset) H):DrwQ E P own n ops n0 i (⟨some d,OP,ty,pos,aft,some (j,w)⟩::r) K tm H:= .rSkip hw hn hns hr
theorem dLn (hw:Ze ops.toList tm ⟨some d,.call {callee:= .builtin .len,args:= #[x],argTypes:= #[t]},ty,pos,aft,grd⟩=some true) (hn:Nat.blt d n=true) (hx:Zh E tm x=slV b es el) (ht:E.T t=some ti) (hk:ti.tk= .slice e) (hr:DrwQ E P own n ops n0 (i+1) r K (ZX tm (some d) (.int .i64 (el.length:Int))) H):DrwQ E P own n ops n0 i (⟨some d,.call {callee:= .builtin .len,args:= #[x],argTypes:= #[t]},ty,pos,aft,grd⟩::r) K tm H:= .rLen hw hn hx ht hk hr
theorem dIx (hw:Ze ops.toList tm ⟨some d,.indexAddr t x y,ty,pos,aft,grd⟩=some true) (hn:Nat.blt d n=true) (hx:Zh E tm x=slV b es el) (ht:E.T t=some ti) (hk:ti.tk= .slice e) (he:E.T e=some ei) (hes:ei.size=es) (hy:Zh E tm y= .int k (j:Int)) (hj:el[j]? = some cs) (hr:DrwQ E P own n ops n0 (i+1) r K (ZX tm (some d) (.fptr cs 0)) H):DrwQ E P own n ops n0 i (⟨some d,.indexAddr t x y,ty,pos,aft,grd⟩::r) K tm H:= .rIdx hw hn hx ht hk he hes hy hj hr
theorem qSt {a : Operand} (hw : Ze all tm ⟨none, .store t a v, ty, pos, aft, grd⟩ = some true) (ht : E.T t = some ti) (hcs : (Zh E tm v).cells = cs) (hn : IsL cs cs') (hl : (Nat.beq cs'.length ti.size && Nat.blt 0 ti.size) = true) (hc : cs'.all Z7 = true) (hwr : H.wr (Zh E tm a) cs' = some H1) (hh : IsH H1 H1') (hr : RegQ E P own n all r K tm H1') :
  RegQ E P own n all (⟨none,.store t a v,ty,pos,aft,grd⟩::r) K tm H:= .rSt hw ht hcs hn hl hc hwr hh hr
theorem qSl (hw:Ze all tm ⟨some d,.slice t x lo hi mx,ty,pos,aft,grd⟩=some true) (hn:Nat.blt d n=true) (hx:Zh E tm x=X) (h1:Zb2 (Zh E tm) lo=LO) (h2:Zb2 (Zh E tm) hi=HI) (h3:Zb2 (Zh E tm) mx=MX) (h:ZW E t X LO HI MX=some p) (hv:IsV p p') (hr:RegQ E P own n all r K (ZX tm (some d) p') H):RegQ E P own n all (⟨some d,.slice t x lo hi mx,ty,pos,aft,grd⟩::r) K tm H:= .rSl hw hn hx h1 h2 h3 h hv hr
theorem dSl (hw:Ze ops.toList tm ⟨some d,.slice t x lo hi mx,ty,pos,aft,grd⟩=some true) (hn:Nat.blt d n=true) (hx:Zh E tm x=X) (h1:Zb2 (Zh E tm) lo=LO) (h2:Zb2 (Zh E tm) hi=HI) (h3:Zb2 (Zh E tm) mx=MX) (h:ZW E t X LO HI MX=some p) (hv:IsV p p') (hk:okD E own n0 tm ⟨some d,.slice t x lo hi mx,ty,pos,aft,grd⟩ H H=true) (hr:DrwQ E P own n ops n0 (i+1) r K (ZX tm (some d) p') H):DrwQ E P own n ops n0 i (⟨some d,.slice t x lo hi mx,ty,pos,aft,grd⟩::r) K tm H:= .rSl hw hn hx h1 h2 h3 h hv hk hr
theorem qBi (hw:Ze all tm ⟨some d,.binOp op t x y yt,ty,pos,aft,grd⟩=some true) (hn:Nat.blt d n=true) (hx:Zh E tm x=X) (hy:Zh E tm y=Y) (h:ZP E op t X Y=some p) (hv:IsV p p') (hr:RegQ E P own n all r K (ZX tm (some d) p') H):RegQ E P own n all (⟨some d,.binOp op t x y yt,ty,pos,aft,grd⟩::r) K tm H:= .rBi hw hn hx hy h hv hr
theorem dBi (hw:Ze ops.toList tm ⟨some d,.binOp op t x y yt,ty,pos,aft,grd⟩=some true) (hn:Nat.blt d n=true) (hx:Zh E tm x=X) (hy:Zh E tm y=Y) (h:ZP E op t X Y=some p) (hv:IsV p p') (hk:okD E own n0 tm ⟨some d,.binOp op t x y yt,ty,pos,aft,grd⟩ H H=true) (hr:DrwQ E P own n ops n0 (i+1) r K (ZX tm (some d) p') H):DrwQ E P own n ops n0 i (⟨some d,.binOp op t x y yt,ty,pos,aft,grd⟩::r) K tm H:= .rBi hw hn hx hy h hv hk hr
theorem qXi (hw:Ze all tm ⟨some d,.index t x y,ty,pos,aft,grd⟩=some true) (hn:Nat.blt d n=true) (hx:Zh E tm x=X) (hy:Zh E tm y=Y) (h:Vi E t X Y=some p) (hv:IsV p p') (hr:RegQ E P own n all r K (ZX tm (some d) p') H):RegQ E P own n all (⟨some d,.index t x y,ty,pos,aft,grd⟩::r) K tm H:= .rIx hw hn hx hy h hv hr
theorem qIa (hw:Ze all tm ⟨some d,.indexAddr t x y,ty,pos,aft,grd⟩=some true) (hn:Nat.blt d n=true) (hx:Zh E tm x=X) (hy:Zh E tm y=Y) (h:Zp E t X Y=some p) (hv:IsV p p') (hr:RegQ E P own n all r K (ZX tm (some d) p') H):RegQ E P own n all (⟨some d,.indexAddr t x y,ty,pos,aft,grd⟩::r) K tm H:= .rIa hw hn hx hy h hv hr
theorem dIa (hw:Ze ops.toList tm ⟨some d,.indexAddr t x y,ty,pos,aft,grd⟩=some true) (hn:Nat.blt d n=true) (hx:Zh E tm x=X) (hy:Zh E tm y=Y) (h:Zp E t X Y=some p) (hv:IsV p p') (hr:DrwQ E P own n ops n0 (i+1) r K (ZX tm (some d) p') H):DrwQ E P own n ops n0 i (⟨some d,.indexAddr t x y,ty,pos,aft,grd⟩::r) K tm H:= .rIa hw hn hx hy h hv hr
theorem qLd (hw:Ze all tm ⟨some d,.load t x,ty,pos,aft,grd⟩=some true) (hn:Nat.blt d n=true) (hx:Zh E tm x=X) (h:YO E t X H=some p) (hv:IsV p p') (hr:RegQ E P own n all r K (ZX tm (some d) p') H):RegQ E P own n all (⟨some d,.load t x,ty,pos,aft,grd⟩::r) K tm H:= .rLd hw hn hx h hv hr
theorem dLd (hw:Ze ops.toList tm ⟨some d,.load t x,ty,pos,aft,grd⟩=some true) (hn:Nat.blt d n=true) (hx:Zh E tm x=X) (h:YO E t X H=some p) (hv:IsV p p') (hk:okD E own n0 tm ⟨some d,.load t x,ty,pos,aft,grd⟩ H H=true) (hr:DrwQ E P own n ops n0 (i+1) r K (ZX tm (some d) p') H):DrwQ E P own n ops n0 i (⟨some d,.load t x,ty,pos,aft,grd⟩::r) K tm H:= .rLd hw hn hx h hv hk hr
theorem qLe (hw:Ze all tm ⟨some d,.call {callee:= .builtin .len,args:= #[x],argTypes:= #[t]},ty,pos,aft,grd⟩=some true) (hn:Nat.blt d n=true) (hx:Zh E tm x=X) (h:∀ H,ZfP E t X H=some p) (hv:IsV p p') (hr:RegQ E P own n all r K (ZX tm (some d) p') H):RegQ E P own n all (⟨some d,.call {callee:= .builtin .len,args:= #[x],argTypes:= #[t]},ty,pos,aft,grd⟩::r) K tm H:= .rLe hw hn hx h hv hr
theorem qMk {c:Operand} (hw:Ze all tm ⟨some d,.makeSlice t l c,ty,pos,aft,grd⟩=some true) (hn:Nat.blt d n=true) (ho:own d=true) (hx:Zh E tm l=X) (hy:Zh E tm c=Y) (h:XF E t X Y H=some (p,H1)) (hr:RegQ E P own n all r K (ZX tm (some d) p) H1):RegQ E P own n all (⟨some d,.makeSlice t l c,ty,pos,aft,grd⟩::r) K tm H:= .rMk hw hn ho hx hy h hr
theorem qAp (hw:Ze all tm ⟨some d,.call {callee:= .builtin .append,args:= #[x,y],argTypes:= #[t,u]},ty,pos,aft,grd⟩=some true) (hn:Nat.blt d n=true) (ho:own d=false) (hx:Zh E tm x=X) (hy:Zh E tm y=Y) (h:Yf E t u X Y H=some (p,H1)) (hr:RegQ E P own n all r K (ZX tm (some d) p) H1):RegQ E P own n all (⟨some d,.call {callee:= .builtin .append,args:= #[x,y],argTypes:= #[t,u]},ty,pos,aft,grd⟩::r) K tm H:= .rAp hw hn ho hx hy h hr
theorem dAp (hw:Ze ops.toList tm ⟨some d,.call {callee:= .builtin .append,args:= #[x,y],argTypes:= #[t,u]},ty,pos,aft,grd⟩=some true) (hn:Nat.blt d n=true) (ho:own d=false) (hx:Zh E tm x=X) (hy:Zh E tm y=Y) (h:Yf E t u X Y H=some (p,H1)) (hk:okD E own n0 tm ⟨some d,.call {callee:= .builtin .append,args:= #[x,y],argTypes:= #[t,u]},ty,pos,aft,grd⟩ H H1=true) (hr:DrwQ E P own n ops n0 (i+1) r K (ZX tm (some d) p) H1):DrwQ E P own n ops n0 i (⟨some d,.call {callee:= .builtin .append,args:= #[x,y],argTypes:= #[t,u]},ty,pos,aft,grd⟩::r) K tm H:= .rAp hw hn ho hx hy h hk hr
theorem qCl {k:FuncId} (hw:Ze all tm ⟨some d,.call {callee:= .value f,args:=args,argTypes:=ats},ty,pos,aft,grd⟩=some true) (hn:Nat.blt d n=true) (hf:Zh E tm f= .fn k caps) (ha:args.toList.map (Zh E tm)++caps=al) (h:CallOk E P k al H p H1) (hr:RegQ E P own n all r K (ZX tm (some d) p) H1):RegQ E P own n all (⟨some d,.call {callee:= .value f,args:=args,argTypes:=ats},ty,pos,aft,grd⟩::r) K tm H:= .rCall hw hn hf ha h (.any _) hr
theorem dCl {k:FuncId} (hw:Ze ops.toList tm ⟨some d,.call {callee:= .value f,args:=args,argTypes:=ats},ty,pos,aft,grd⟩=some true) (hn:Nat.blt d n=true) (hf:Zh E tm f= .fn k caps) (ha:args.toList.map (Zh E tm)++caps=al) (hc:Xc E own ⟨some d,.call {callee:= .value f,args:=args,argTypes:=ats},ty,pos,aft,grd⟩= .qu) (h:CallOk E P k al H p H) (hr:DrwQ E P own n ops n0 (i+1) r K (ZX tm (some d) p) H):DrwQ E P own n ops n0 i (⟨some d,.call {callee:= .value f,args:=args,argTypes:=ats},ty,pos,aft,grd⟩::r) K tm H:= .rCall hw hn hf ha hc h (.any _) hr
theorem dAq (hw:Ze ops.toList tm ⟨some d,.call {callee:= .builtin .append,args:= #[x,y],argTypes:= #[t,u]},ty,pos,aft,grd⟩=some true) (hn:Nat.blt d n=true) (ho:own d=false) (ht:own (d+5000)=true) (hx:Zh E tm x=X) (hy:Zh E tm y=Y) (h:∀ ro,Yf E t u X Y ⟨bx,ro,lv,nt⟩=some (p,⟨bx,ro,lv',nt'⟩)) (hr:DrwQ E P own n ops n0 (i+1) r K (ZX tm (some d) p) ⟨bx,ro,lv',nt'⟩):DrwQ E P own n ops n0 i (⟨some d,.call {callee:= .builtin .append,args:= #[x,y],argTypes:= #[t,u]},ty,pos,aft,grd⟩::r) K tm ⟨bx,ro,lv,nt⟩:= .rApT hw hn ho ht hx hy h hr
theorem qBs {ps:Array (Nat×Operand)} (hw:Ze all tm ⟨some d,.buildSlice t m ps,ty,pos,aft,grd⟩=some true) (hn:Nat.blt d n=true) (ho:own d=false) (h:YK E t m (ps.toList.map fun p=>(p.1,Zh E tm p.2))=some (es,el)) (hl:IsLL el el') (hf:Xm el'=some el') (hr:RegQ E P own n all r K (ZX tm (some d) (.sl .full es el')) H):RegQ E P own n all (⟨some d,.buildSlice t m ps,ty,pos,aft,grd⟩::r) K tm H:= .rBs hw hn ho h hl hf hr
theorem dBs {ps:Array (Nat×Operand)} (hw:Ze ops.toList tm ⟨some d,.buildSlice t m ps,ty,pos,aft,grd⟩=some true) (hn:Nat.blt d n=true) (ho:own d=false) (h:YK E t m (ps.toList.map fun p=>(p.1,Zh E tm p.2))=some (es,el)) (hl:IsLL el el') (hf:Xm el'=some el') (hk:okD E own n0 tm ⟨some d,.buildSlice t m ps,ty,pos,aft,grd⟩ H H=true) (hr:DrwQ E P own n ops n0 (i+1) r K (ZX tm (some d) (.sl .full es el')) H):DrwQ E P own n ops n0 i (⟨some d,.buildSlice t m ps,ty,pos,aft,grd⟩::r) K tm H:= .rBs hw hn ho h hl hf hk hr
theorem Zve {r:PV} (h1:V4 E tm H fn.results.toList=some ps) (hp:IsL ps ps') (h2:frz3 0 H (one ps')=some r):RetQ E fn r .ret tm H:= .fin h1 hp h2
theorem ZuA {r:PV} (h1:V4 E tm H fn.results.toList=some ps) (hp:IsL ps ps') (h2:frz3 m H (one ps')=some r):RetM E fn m r .ret tm H:= .fin h1 hp h2
theorem Zuy {r:PV} {m:Int} (h1:V4 E tm H fn.results.toList=some ps) (h2:frz3 0 H (one ps)=some (.int k m)) (he: .int k m=r):RetQ E fn r .ret tm H:= .end h1 h2 (.int _ _) he
theorem Zqf {r:PV} (h1:V4 E tm H fn.results.toList=some ps) (h2:frz3 0 H (one ps)=some (.bool b)) (he: .bool b=r):RetQ E fn r .ret tm H:= .end h1 h2 (.bool _) he
end
theorem IsV.n (h:IsV p p':=by first|exact Go.Vm.IsV.int _ _|exact Go.Vm.IsV.str _|exact Go.Vm.IsV.slV _ _ _|exact Go.Vm.IsV.nils|exact Go.Vm.IsV.sl _ _ _|exact Go.Vm.IsV.ptrN|exact Go.Vm.IsV.aggN|exact Go.Vm.IsV.tupN|exact Go.Vm.IsV.fptr _ _|exact Go.Vm.IsV.own _ _ _ _|exact Go.Vm.IsV.fn _ _|exact Go.Vm.IsV.nilp|exact Go.Vm.IsV.nilm|exact Go.Vm.IsV.map _|exact Go.Vm.IsV.nilf|exact Go.Vm.IsV.any _):IsV p p':=h
section
variable {E:Env} {P:Program} {own:Tmp→Bool} {n:Nat} {Q:Ex→TM→Heap→Prop} {K:TM→Heap→Prop} {tm:TM} {H:Heap}
theorem g0 (hw : Ze all tm ⟨some d, OP, ty, pos, aft, grd⟩ = some true) (hn : Nat.blt d n = true) (h : aOp E (own d) (Zh E tm) OP H = some (p, H)) (hv : IsV p p')
  (hr:RegQ E P own n all r K (ZX tm (some d) p') H):RegQ E P own n all (⟨some d,OP,ty,pos,aft,grd⟩::r) K tm H:= .rOp hw hn h hv hr
theorem g1 (hw : Ze all tm ⟨some d, OP, ty, pos, aft, grd⟩ = some true) (hn : Nat.blt d n = true) (h : aOp E (own d) (Zh E tm) OP H = some (p, H1)) (hv : IsV p p') (hh : IsH H1 H1')
  (hr:RegQ E P own n all r K (ZX tm (some d) p') H1'):RegQ E P own n all (⟨some d,OP,ty,pos,aft,grd⟩::r) K tm H:= .rOpH hw hn h hv hh hr
theorem h0 (hw : Ze ops.toList tm ⟨some d, OP, ty, pos, aft, grd⟩ = some true) (hn : Nat.blt d n = true) (h : aOp E (own d) (Zh E tm) OP H = some (p, H)) (hv : IsV p p')
  (hk:okD E own n0 tm ⟨some d,OP,ty,pos,aft,grd⟩ H H=true) (hr:DrwQ E P own n ops n0 (i+1) r K (ZX tm (some d) p') H):DrwQ E P own n ops n0 i (⟨some d,OP,ty,pos,aft,grd⟩::r) K tm H:= .rOp hw hn h hv hk hr
theorem h1 (hw : Ze ops.toList tm ⟨some d, OP, ty, pos, aft, grd⟩ = some true) (hn : Nat.blt d n = true) (h : aOp E (own d) (Zh E tm) OP H = some (p, H1)) (hv : IsV p p') (hh : IsH H1 H1')
  (hk:okD E own n0 tm ⟨some d,OP,ty,pos,aft,grd⟩ H H1=true) (hr:DrwQ E P own n ops n0 (i+1) r K (ZX tm (some d) p') H1'):DrwQ E P own n ops n0 i (⟨some d,OP,ty,pos,aft,grd⟩::r) K tm H:= .rOpH hw hn h hv hh hk hr
theorem Zl (n:Nat) (b:Bool) (es:Nat) (el:List (List PV)):under n (slV b es el)=true:=by
 unfold slV
 cases el with
 |nil=>cases b<;>rfl
 |cons c r=>rfl
def ZpA (n0:Nat) (Q:Ex→TM→Heap→Prop) (ex:Ex) (tm:TM) (H:Heap):Prop:=
 Q ex tm H∨∃ tm2,(∀ t,tm2 t= .undef∨(tm2 t=tm t∧under n0 (tm t)=true))∧(H.bx.take n0).all (Yw n0)=true∧Q ex tm2 {H with bx:=H.bx.take n0}
structure DropQ (n0:Nat) (Q:Ex→TM→Heap→Prop) (ex:Ex) (tm:TM) (H:Heap):Prop where
 out:ZpA n0 Q ex tm H
theorem Wp.drop {c:Code} (h:Wp E P own n c (DropQ H.bx.length Q) tm H):Wp E P own n c Q tm H:=by
 obtain ⟨ex,tm',H',h1,⟨h2⟩⟩:=h.out
 rcases h2 with h2|⟨tm2,a,b,h3⟩
 · exact ⟨ex,tm',H',h1,h2⟩
 · exact ⟨ex,tm2,_,.drop _ _ _ _ _ _ _ h1 a b,h3⟩
theorem DropQ.ret {n0:Nat} (h:Q .ret tm H):DropQ n0 Q .ret tm H:=⟨.inl h⟩
theorem DropQ.exit {n0 i:Nat} (h:Q (.exit i) tm H):DropQ n0 Q (.exit i) tm H:=⟨.inl h⟩
theorem ZjL {l:List (Nat×PV)}:okL tm l→(l.all fun x=>under n x.2)=true→∀ t,ovr (fun _=> .undef) l t= .undef∨(ovr (fun _=> .undef) l t=tm t∧under n (tm t)=true):=by
 induction l with
 |nil=>intro _ _ t;exact .inl rfl
 | cons x r ih =>
   obtain ⟨d,v⟩:=x
   intro h hu t
   simp only [List.all_cons,Bool.and_eq_true] at hu
   simp only [ovr,ZX]
   split
   · rename_i e
     subst e
     exact .inr ⟨h.1.symm,by rw [h.1];exact hu.1⟩
   · exact ih h.2 hu.2 t
theorem DropQ.go {ex : Ex} (l : List (Nat × PV)) (hl : okL tm l) (hu : (l.all fun x => under n0 x.2) = true) (hb : bx.take n0 = bx') (hbu : bx'.all (Yw n0) = true)
  (h:Q ex (ovr (fun _=> .undef) l) ⟨bx',ro,lv,nt⟩):DropQ n0 Q ex tm ⟨bx,ro,lv,nt⟩:=by
 subst hb
 exact ⟨.inr ⟨_,ZjL hl hu,hbu,h⟩⟩
theorem dSt {a : Operand} {id ix off : Nat} (hw : Ze ops.toList tm ⟨none, .store t a v, ty, pos, aft, grd⟩ = some true) (ht : E.T t = some ti)
  (ha:Zh E tm a= .ptr id es ix off) (hcs:(Zh E tm v).cells=cs) (hn:IsL cs cs') (hl:(Nat.beq cs'.length ti.size&&Nat.blt 0 ti.size)=true) (hc:cs'.all Z7=true) (hwr:H.wr (.ptr id es ix off) cs'=some H1) (hh:IsH H1 H1')
  (hb:(nth H1'.bx id).isSome=true) (hf:own (30000+i)=Nat.ble n0 id) (hq:(match own 29999 with|false=>true|true=>Nat.beq id (tgB own i))=true) (hr:DrwQ E P own n ops n0 (i+1) r K tm H1'):DrwQ E P own n ops n0 i (⟨none,.store t a v,ty,pos,aft,grd⟩::r) K tm H:=by
 have e:=hn.eq
 subst e
 subst hcs
 have e2:=hh.eq
 subst e2
 simp only [Bool.and_eq_true] at hl
 have h1:=Nat.eq_of_beq_eq_true hl.1
 have h2:0<ti.size:=Nat.le_of_ble_eq_true hl.2
 obtain ⟨b,hb⟩:=Option.isSome_iff_exists.1 hb
 exact .opS hw ht ha ⟨h1,h2,hc⟩ hwr hb hf (fun e=>by rw [e] at hq;exact Nat.eq_of_beq_eq_true hq) hr
theorem dCs {k : FuncId} {id : Nat} {b : Box} (hw : Ze ops.toList tm ⟨some d, .call { callee := .value f, args := args, argTypes := ats }, ty, pos, aft, grd⟩ = some true) (hn : Nat.blt d n = true) (hf : Zh E tm f = .fn k caps)
  (ha:args.toList.map (Zh E tm)++caps=al) (hc:Xc E own ⟨some d,.call {callee:= .value f,args:=args,argTypes:=ats},ty,pos,aft,grd⟩= .st) (h:ZhO E P k al H p id b) (hh:IsH (Yo H id b) H1)
  (hl:own (30000+i)=Nat.ble n0 id) (hq:(match own 29999 with|false=>true|true=>Nat.beq id (tgB own i))=true)
  (hr:DrwQ E P own n ops n0 (i+1) r K (ZX tm (some d) p) H1):DrwQ E P own n ops n0 i (⟨some d,.call {callee:= .value f,args:=args,argTypes:=ats},ty,pos,aft,grd⟩::r) K tm H:=by
 have e:=hh.eq
 subst e
 exact .callS hw (W9 rfl hn) rfl hf ha hc h hl (fun e=>by rw [e] at hq;exact Nat.eq_of_beq_eq_true hq) hr
theorem Zpp (hw : Ze ops.toList tm ⟨some d, .call { callee := .builtin .append, args := #[x, y], argTypes := #[t, u] }, ty, pos, aft, grd⟩ = some true) (hn : Nat.blt d n = true)
  (ho:own d=true) (ho2:own (d+5000)=false) (hx:Zh E tm x=X) (hy:Zh E tm y=Y) (h:Z3 E t u X Y H=some (p,H1)) (hl:H.bx.length≤H1.bx.length)
  (hr:DrwQ E P own n ops n0 (i+1) r K (ZX tm (some d) p) H1):DrwQ E P own n ops n0 i (⟨some d,.call {callee:= .builtin .append,args:= #[x,y],argTypes:= #[t,u]},ty,pos,aft,grd⟩::r) K tm H:=by
 refine .op (p:=p) hw (by simp only [Wq,hn]) ?_ ?_ hr
 · simp [aOp,Yt,ho,hx,hy,h]
 · simp only [okD, Xc, Option.getD_some, ho2]
   exact Nat.ble_eq_true_of_le hl
theorem qCv (hw : Ze all tm ⟨some d, .convert t u x, ty, pos, aft, grd⟩ = some true) (hn : Nat.blt d n = true) (hx : Zh E tm x = X) (h : Zdg E t u X = some p) (hv : IsV p p')
  (hr:RegQ E P own n all r K (ZX tm (some d) p') H):RegQ E P own n all (⟨some d,.convert t u x,ty,pos,aft,grd⟩::r) K tm H:= .run hw rfl hn (p:=p) (by simp only [aOp,hx,h,Option.map_some]) hv hr
theorem dCv (hw : Ze ops.toList tm ⟨some d, .convert t u x, ty, pos, aft, grd⟩ = some true) (hn : Nat.blt d n = true) (hx : Zh E tm x = X) (h : Zdg E t u X = some p) (hv : IsV p p')
  (hk:okD E own n0 tm ⟨some d,.convert t u x,ty,pos,aft,grd⟩ H H=true) (hr:DrwQ E P own n ops n0 (i+1) r K (ZX tm (some d) p') H):DrwQ E P own n ops n0 i (⟨some d,.convert t u x,ty,pos,aft,grd⟩::r) K tm H:= .run hw rfl hn (p:=p) (by simp only [aOp,hx,h,Option.map_some]) hv hk hr
theorem IsV.ptrM {b : Nat} (h1 : a = a' := by first | exact (rfl : (_ : Nat) = 0) | exact (rfl : (_ : Nat) = 1) | exact (rfl : (_ : Nat) = 2) | exact (rfl : (_ : Nat) = 3) | exact (rfl : (_ : Nat) = 4) | exact (rfl : (_ : Nat) = 5) | exact (rfl : (_ : Nat) = 6) | exact (rfl : (_ : Nat) = 7) | exact (rfl : (_ : Nat) = 8) | exact (rfl : (_ : Nat) = 9) | exact (rfl : (_ : Nat) = 10) | exact (rfl : (_ : Nat) = 11) | exact (rfl : (_ : Nat) = 12) | exact (rfl : (_ : Nat) = 13) | exact (rfl : (_ : Nat) = 14) | exact (rfl : (_ : Nat) = 15) | exact (rfl : (_ : Nat) = 16) | exact (rfl : (_ : Nat) = 17) | exact (rfl : (_ : Nat) = 18) | exact (rfl : (_ : Nat) = 19) | exact (rfl : (_ : Nat) = 20) | exact (rfl : (_ : Nat) = 21) | exact (rfl : (_ : Nat) = 22) | exact (rfl : (_ : Nat) = 23) | exact (rfl : (_ : Nat) = 24) | exact (rfl : (_ : Nat) = 25) | exact (rfl : (_ : Nat) = 26) | exact (rfl : (_ : Nat) = 27) | exact (rfl : (_ : Nat) = 28) | exact (rfl : (_ : Nat) = 29) | exact (rfl : (_ : Nat) = 30) | exact (rfl : (_ : Nat) = 31) | exact (rfl : (_ : Nat) = 32) | exact (rfl : (_ : Nat) = 33) | exact (rfl : (_ : Nat) = 34) | exact (rfl : (_ : Nat) = 35) | exact (rfl : (_ : Nat) = 36) | exact (rfl : (_ : Nat) = 37) | exact (rfl : (_ : Nat) = 38) | exact (rfl : (_ : Nat) = 39) | exact (rfl : (_ : Nat) = 40) | exact (rfl : (_ : Nat) = 41) | exact (rfl : (_ : Nat) = 42) | exact (rfl : (_ : Nat) = 43) | exact (rfl : (_ : Nat) = 44) | exact (rfl : (_ : Nat) = 45) | exact (rfl : (_ : Nat) = 46) | exact (rfl : (_ : Nat) = 47) | exact rfl)
  (h2:b=b':=by first|exact (rfl:(_:Nat)=1)|exact (rfl:(_:Nat)=2)|exact (rfl:(_:Nat)=3)|exact (rfl:(_:Nat)=4)|exact (rfl:(_:Nat)=5)|exact (rfl:(_:Nat)=6)|exact (rfl:(_:Nat)=7)|exact (rfl:(_:Nat)=8)|exact rfl)
  (h3:c=c':=by exact rfl) (h4:d=d':=by exact rfl):IsV (.ptr a b c d) (.ptr a' b' c' d'):= .ptr4 h1 h2 h3 h4
theorem dAl (hw : Ze ops.toList tm ⟨some d, .alloc e, ty, pos, aft, grd⟩ = some true) (hn : Nat.blt d n = true)
  (he:E.T e=some ei) (hz:(Nat.beq ei.zero.cells.length ei.size&&Nat.blt 0 ei.size)=true) (hv:IsV (.ptr (n0+i) ei.size 0 0) p) (hs:IsH (Yo H (n0+i) (.cells ei.size [ei.zero.cells])) H1)
  (hr:DrwQ E P own n ops n0 (i+1) r K (ZX tm (some d) p) H1):DrwQ E P own n ops n0 i (⟨some d,.alloc e,ty,pos,aft,grd⟩::r) K tm H:=by
 have e1:=hv.eq
 subst e1
 exact .al hw hn he hz hs.eq hr
theorem dWA {id : Nat} {H0 : Heap} (hE : TOk E P) (hm : P.follows .mixedOrders = true) (hs : (ZeQ E own ops && !(alL E own ops.toList 0).isEmpty) = true) (hro : H.ro = 0) (hH : IsH (Za5 H ops.size) H0)
  (h:DrwQ E P own n ops H.bx.length 0 ops.toList (Q .normal) tm H0):Wp E P own n (.region id ops true) Q tm H:=by
 simp only [Bool.and_eq_true,Bool.not_eq_true'] at hs
 have hr:WK E own ops=ops.size:=by
  unfold WK
  cases e:alL E own ops.toList 0 with
  | nil=>rw [e] at hs;simp at hs
  | cons a l=>rfl
 have e:=hH.eq
 subst e
 exact .drawA hE hm hs.1 hro (by rw [hr]) h
end
