/-
  Slots against worlds: boxes made dead and brought back; a new box in a slot.
-/
import Derived.Test.YtnghnjdabbjcnaaGreatDoorVFc
noncomputable section
namespace Go.Vm
variable {Q:Exit→Act→World→Prop} {tm':TM} {c:Code} {fn:Func} {args ps:List PV} {i k m:Nat} {p r v:PV} {f:FuncId} {o:Oper} {d:Option Tmp} {b:Box}
inductive Ex where
 |normal
 |exit (n:Nat)
 |ret
variable {ex:Ex}
inductive RegTo (E:Env) (P:Program) (own:Tmp→Bool) (n:Nat) (all:List Oper):List Oper→TM→Heap→TM→Heap→Prop
 |nil (tm:TM) (H:Heap):RegTo E P own n all [] tm H tm H
 | op (o : Oper) (r : List Oper) (tm : TM) (H : Heap) (p : PV) (H1 : Heap) (tm' : TM) (H' : Heap) (hw : Zf all tm o = some true) (ho : OpTo E P own tm o H p H1) (hd : ∀t, o.dst = some t → t < n)
     (hr:RegTo E P own n all r (ZN tm o.dst p) H1 tm' H'):RegTo E P own n all (o::r) tm H tm' H'
 | pass (o : Oper) (r : List Oper) (tm : TM) (H : Heap) (tm' : TM) (H' : Heap) (hw : Zf all tm o = some false) (hd : ∀t, o.dst = some t → t < n)
     (hr:RegTo E P own n all r (ZN tm o.dst unset) H tm' H'):RegTo E P own n all (o::r) tm H tm' H'
section
variable {E:Env} {P:Program} {g:Gh} {n:Nat} {tm:TM} {H:Heap} {a:Act} {w:World}
theorem Zki (hE:TOk E P) {own:Tmp→Bool} {ops:Array Oper} {l:List Oper} {H':Heap} (h:RegTo E P own n ops.toList l tm H tm' H'):∀(k:Nat) (g:Gh) (a:Act) (w:World),l=ops.toList.drop k→Rel E g n tm H a w→(∀g' a' w',Rel E g' n tm' H' a' w'→Keep g H w g' H' w'→Q .normal a' w')→wpOps P ops Q ((List.range ops.size).drop k) a w:=by
 induction h with
 |nil tm H=>
  intro k g a w hl hr hq;have hk:ops.size≤k:=by rcases Nat.lt_or_ge k ops.size with h|h;{have:=congrArg List.length hl;simp at this;omega};{exact h}
  rw[List.drop_eq_nil_of_le (by simpa using hk)];exact hq g a w hr (.refl _ _ _)
 |op o r tm H p H1 tm' H' hw ho hd _ ih=>
  intro k g a w hl hr hq;have hk:k<ops.size:=by rcases Nat.lt_or_ge k ops.size with h|h;{exact h};{rw[List.drop_eq_nil_of_le (by simpa using h)]at hl;cases hl}
  have e1:ops[k]? = some o:=by have:=congrArg List.head? hl;simp[List.head?_drop]at this;exact this.symm
  have e2:(List.range ops.size).drop k=k::(List.range ops.size).drop (k+1):=by rw[List.drop_eq_getElem_cons (by simpa using hk)];simp
  have e3:r=ops.toList.drop (k+1):=by have:=congrArg List.tail hl;simpa using this
  rw[e2];simp only[wpOps,e1];rw[if_pos (YL hw hr)];exact .inl (V8 hE ho hr fun v w' g' hv hi hk=>ih (k+1) g' _ w' e3 (hr.put hi hk hd hv) fun g2 a2 w2 h2 k2=>hq g2 a2 w2 h2 (hk.then hr.inv k2))
 |pass o r tm H tm' H' hw hd _ ih=>
  intro k g a w hl hr hq;have hk:k<ops.size:=by rcases Nat.lt_or_ge k ops.size with h|h;{exact h};{rw[List.drop_eq_nil_of_le (by simpa using h)]at hl;cases hl}
  have e1:ops[k]? = some o:=by have:=congrArg List.head? hl;simp[List.head?_drop]at this;exact this.symm
  have e2:(List.range ops.size).drop k=k::(List.range ops.size).drop (k+1):=by rw[List.drop_eq_getElem_cons (by simpa using hk)];simp
  have e3:r=ops.toList.drop (k+1):=by have:=congrArg List.tail hl;simpa using this
  rw[e2];simp only[wpOps,e1];rw[if_neg (by rw[YL hw hr];simp)];exact ih (k+1) g _ w e3 (hr.put hr.inv (.refl _ _ _) hd (V.unset g)) hq
def Zhn (E:Env) (P:Program) (_own:Tmp→Bool) (n:Nat) (ops:Array Oper) (tm:TM) (H:Heap) (tm':TM) (H':Heap):Prop:=
 ∀(id:Nat) (g:Gh) (a:Act) (w:World) (Q:Exit→Act→World→Prop),Rel E g n tm H a w→
  (∀g' a' w',Rel E g' n tm' H' a' w'→Keep g H w g' H' w'→Q .normal a' w')→(Code.region id ops true).wp P Q a w
inductive CodeTo (E:Env) (P:Program) (own:Tmp→Bool) (n:Nat):Code→TM→Heap→Ex→TM→Heap→Prop
 |skip (tm:TM) (H:Heap):CodeTo E P own n .skip tm H .normal tm H
 |label (l:Nat) (tm:TM) (H:Heap):CodeTo E P own n (.label l) tm H .normal tm H
 |ret (tm:TM) (H:Heap):CodeTo E P own n .ret tm H .ret tm H
 |exit (i:Nat) (tm:TM) (H:Heap):CodeTo E P own n (.exit i) tm H (.exit i) tm H
 |region (id:Nat) (ops:Array Oper) (tm:TM) (H:Heap) (tm':TM) (H':Heap) (h:RegTo E P own n ops.toList ops.toList tm H tm' H'):CodeTo E P own n (.region id ops false) tm H .normal tm' H'
 |draw (id:Nat) (ops:Array Oper) (tm:TM) (H:Heap) (tm':TM) (H':Heap) (h:Zhn E P own n ops tm H tm' H'):CodeTo E P own n (.region id ops true) tm H .normal tm' H'
 |seq (c d:Code) (tm:TM) (H:Heap) (tm1:TM) (H1:Heap) (ex:Ex) (tm':TM) (H':Heap) (h1:CodeTo E P own n c tm H .normal tm1 H1) (h2:CodeTo E P own n d tm1 H1 ex tm' H'):CodeTo E P own n (.seq c d) tm H ex tm' H'
 |seqOut (c d:Code) (tm:TM) (H:Heap) (ex:Ex) (tm':TM) (H':Heap) (h1:CodeTo E P own n c tm H ex tm' H') (hx:ex≠ .normal):CodeTo E P own n (.seq c d) tm H ex tm' H'
 |cond (x:Operand) (c d:Code) (b:Bool) (tm:TM) (H:Heap) (ex:Ex) (tm':TM) (H':Heap) (hx:Zh E tm x= .bool b) (h:CodeTo E P own n (if b then c else d) tm H ex tm' H'):CodeTo E P own n (.cond x c d) tm H ex tm' H'
 |block (i:Nat) (c:Code) (tm:TM) (H:Heap) (ex:Ex) (tm':TM) (H':Heap) (h:CodeTo E P own n c tm H ex tm' H') (hx:ex≠ .exit i):CodeTo E P own n (.block i c) tm H ex tm' H'
 |blockOut (i:Nat) (c:Code) (tm:TM) (H:Heap) (tm':TM) (H':Heap) (h:CodeTo E P own n c tm H (.exit i) tm' H'):CodeTo E P own n (.block i c) tm H .normal tm' H'
 |loop (c:Code) (tm:TM) (H:Heap) (tm1:TM) (H1:Heap) (ex:Ex) (tm':TM) (H':Heap) (h1:CodeTo E P own n c tm H .normal tm1 H1) (h2:CodeTo E P own n (.loop c) tm1 H1 ex tm' H'):CodeTo E P own n (.loop c) tm H ex tm' H'
 |loopOut (c:Code) (tm:TM) (H:Heap) (ex:Ex) (tm':TM) (H':Heap) (h1:CodeTo E P own n c tm H ex tm' H') (hx:ex≠ .normal):CodeTo E P own n (.loop c) tm H ex tm' H'
 | drop (c : Code) (tm : TM) (H : Heap) (ex : Ex) (tm' : TM) (H' : Heap) (tm2 : TM) (h : CodeTo E P own n c tm H ex tm' H') (hs : ∀t, tm2 t = .undef ∨ (tm2 t = tm' t ∧ under H.bx.length (tm' t) = true)) (hu : (H'.bx.take H.bx.length).all (Yy H.bx.length) = true) :
     CodeTo E P own n c tm H ex tm2 {H' with bx:=H'.bx.take H.bx.length}
def Znk:Ex→Exit
 | .normal=> .normal
 | .exit i=> .exit i
 | .ret=> .ret
theorem Zei (h:ex≠ .normal):Znk ex≠ .normal:=by cases ex<;>simp[Znk]at *
def ZcI (P:Program) (c:Code) (Q:Exit→Act→World→Prop) (a:Act) (w:World):Prop:=
 ∀(b:Frame) (k:List Item) (cs:List Frame),∃e a' w',Q e a' w'∧Arrives P (lone (b.at a (.code c:: .inLoop c::k)) cs w) b k cs e a' w'
theorem Qo (h:ZcI P c Q a w):(Code.loop c).wp P Q a w:=
 fun b k cs=>let ⟨e,a',w',hq,hr⟩:=h b k cs;⟨e,a',w',hq,.of_steps (.one step_loop) hr⟩
theorem ZcT (hE:TOk E P) {own:Tmp→Bool} {H':Heap} (h:CodeTo E P own n c tm H ex tm' H'):∀(g:Gh) (a:Act) (w:World) (Q:Exit→Act→World→Prop),Rel E g n tm H a w→(∀g' a' w',Rel E g' n tm' H' a' w'→Keep g H w g' H' w'→Q (Znk ex) a' w')→c.wp P Q a w∧∀b,c= .loop b→ZcI P b Q a w:=by
 induction h with
 |skip tm H=>intro g a w Q hr hq;exact⟨wp_skip (hq g a w hr (.refl _ _ _)),fun b h=>by cases h⟩
 |label l tm H=>intro g a w Q hr hq;exact⟨wp_label (hq g a w hr (.refl _ _ _)),fun b h=>by cases h⟩
 |ret tm H=>intro g a w Q hr hq;exact⟨wp_ret (hq g a w hr (.refl _ _ _)),fun b h=>by cases h⟩
 |exit i tm H=>intro g a w Q hr hq;exact⟨wp_exit (hq g a w hr (.refl _ _ _)),fun b h=>by cases h⟩
 |region id ops tm H tm' H' h=>intro g a w Q hr hq;refine⟨wp_region ?_,fun b h=>by cases h⟩;have:=Zki (Q:=Q) hE h 0 g a w (by simp) hr hq;simpa using this
 |draw id ops tm H tm' H' h=>intro g a w Q hr hq;exact⟨h id g a w Q hr hq,fun b h=>by cases h⟩
 |seq c d tm H tm1 H1 ex tm' H' _ _ ih1 ih2=>intro g a w Q hr hq;refine⟨wp_seq (ih1 g a w _ hr fun g1 a1 w1 h1 k1=>?_).1,fun b h=>by cases h⟩;exact(ih2 g1 a1 w1 Q h1 fun g2 a2 w2 h2 k2=>hq g2 a2 w2 h2 (k1.then hr.inv k2)).1
 |seqOut c d tm H ex tm' H' _ hx ih=>intro g a w Q hr hq;refine⟨wp_seq (ih g a w _ hr fun g1 a1 w1 h1 k1=>?_).1,fun b h=>by cases h⟩;have:=hq g1 a1 w1 h1 k1;cases ex<;>simp[Znk,Exit.then]at* <;> exact this
 |cond x c d b tm H ex tm' H' hx _ ih=>intro g a w Q hr hq;have hv:=hr.eval x;rw[hx]at hv;exact⟨wp_cond hv.bool_inv (ih g a w Q hr hq).1,fun b h=>by cases h⟩
 |block i c tm H ex tm' H' _ hx ih=>
  intro g a w Q hr hq;refine⟨wp_block (ih g a w _ hr fun g1 a1 w1 h1 k1=>?_).1,fun b h=>by cases h⟩;have:=hq g1 a1 w1 h1 k1;cases ex with
  | normal=>exact this
  | ret=>exact this
  | exit j=>have hj:j≠i:=fun e=>hx (by rw[e]);simp only[Znk,Exit.inBlock];rw[if_neg hj];exact this
 |blockOut i c tm H tm' H' _ ih=>intro g a w Q hr hq;refine⟨wp_block (ih g a w _ hr fun g1 a1 w1 h1 k1=>?_).1,fun b h=>by cases h⟩;simp only[Znk,Exit.inBlock,if_true];exact hq g1 a1 w1 h1 k1
 |loop c tm H tm1 H1 ex tm' H' _ _ ih1 ih2=>
  intro g a w Q hr hq;have hl:ZcI P c Q a w:=by intro b k cs;have h1:=(ih1 g a w (fun e a' w'=>e= .normal∧ZcI P c Q a' w') hr fun g1 a1 w1 h1 k1=>⟨rfl,(ih2 g1 a1 w1 Q h1 fun g2 a2 w2 h2 k2=>hq g2 a2 w2 h2 (k1.then hr.inv k2)).2 c rfl⟩).1;obtain⟨e,a1,w1,⟨rfl,hl⟩,harr⟩:=h1 b (.inLoop c::k) cs;obtain⟨e2,a2,w2,hq2,harr2⟩:=hl b k cs;exact⟨e2,a2,w2,hq2,.of_steps (Steps.trans harr (.one step_inLoop)) harr2⟩
  exact⟨Qo hl,fun b h=>by cases h;exact hl⟩
 |loopOut c tm H ex tm' H' _ hx ih=>
  intro g a w Q hr hq;have hl:ZcI P c Q a w:=by intro b k cs;obtain⟨e,a1,w1,⟨he,hq1⟩,harr⟩:=(ih g a w (fun e a' w'=>e=Znk ex∧Q e a' w') hr fun g1 a1 w1 h1 k1=>⟨rfl,hq g1 a1 w1 h1 k1⟩).1 b (.inLoop c::k) cs;exact⟨e,a1,w1,hq1,.pass (x:= .inLoop c) rfl (fun _ _=> .inl (by rw[he];exact Zei hx)) harr⟩
  exact⟨Qo hl,fun b h=>by cases h;exact hl⟩
 |drop c tm H ex tm' H' tm2 _ hs hu ih=>
  intro g a w Q hr hq;refine ih g a w Q hr fun g1 a1 w1 h1 k1=>?_;have hro:H'.ro≤H.bx.length:=by rw[k1.ro];exact hr.inv.ro
  refine hq (g1.cutσ H.bx.length) a1 w1 ⟨h1.sz,fun t=>?_,Zek h1.inv k1.bxl hro hu,⟨fun k cs e=>h1.gl.1 k cs e,h1.gl.2⟩,h1.df⟩ (Zgk hr.inv k1);rcases hs t with e|⟨e,hu⟩;{rw[e];exact .pure _ _ (.undef _)};{rw[e];exact(h1.tm t).cut hu}
end
section
variable {E:Env} {P:Program} {g:Gh} {n:Nat} {tm:TM} {H:Heap} {a:Act} {w:World}
def U0 (E:Env) (tm:TM) (H:Heap):List ResultVar→Option (List PV)
 | []=>some []
 | .tmp t::r=>match U0 E tm H r with|some vs=>some (tm t::vs)|none=>none
 | .cell a t :: r => match ZZ E t (tm a) H with
   | some v=>match U0 E tm H r with|some vs=>some (v::vs)|none=>none
   | none=>none
def Zbh (tmps:Array Value):ResultVar→Sem Value
 | .tmp t=>pure (tmps.getD t undef)
 | .cell x t=>do loadVar t (← asAddr (tmps.getD x undef))
theorem ZgX (fn:Func) (tmps:Array Value):results fn tmps=(fn.results.mapM (Zbh tmps) >>= fun vs=>pure (if h:vs.size=1 then vs[0] else .tuple vs)):=by unfold results;congr 2
theorem Zep (hE : TOk E P) (hr : Rel E g n tm H a w) : ∀{l : List ResultVar} {ps : List PV}, U0 E tm H l = some ps →
  ∃vs:List Value,(l.mapM (Zbh a.tmps)).run P w= .ok vs w∧VL g ps vs
 | [],ps,h=>by simp only[U0,Option.some.injEq]at h;subst h;exact⟨[],by simp,rfl,fun i hi=>absurd hi (by simp)⟩
 | .tmp t::r,ps,h=>by simp only[U0]at h;split at h;{rename_i vs hvs;cases h;obtain⟨us,h1,h2⟩:=Zep hE hr hvs;refine⟨a.tmps.getD t undef::us,by simp[List.mapM_cons,Zbh,h1],VL.append (a:=[tm t]) (x:=[a.tmps.getD t undef]) ⟨rfl,fun i hi hj=>?_⟩ h2⟩;(obtain rfl:i=0:=by simp at hi;omega);exact hr.tm t};{cases h}
 | .cell x t::r,ps,h=>by
  simp only[U0]at h;split at h
  ·rename_i v hv;split at h
   ·rename_i vs hvs;cases h;obtain⟨us,h1,h2⟩:=Zep hE hr hvs;obtain⟨u,h3,h4⟩:=Zi0 (w:=w) hE hr.inv (hr.tm x) hv;have h5:(Zbh a.tmps (.cell x t)).run P w= .ok u w:=by
     have e:∃ad,a.tmps.getD x undef= .pointer (some ad):=by
      cases hc:a.tmps.getD x undef with
      | pointer o =>
        cases o with
        | some ad=>exact⟨ad,rfl⟩
        | none=>rw[hc]at h3;simp[Instr.loadAt,Instr.sureAddr,stuck,Sem.run]at h3
      | _=>rw[hc]at h3;simp[Instr.loadAt,Instr.sureAddr,stuck,Sem.run]at h3
     obtain⟨ad,e⟩:=e;rw[e]at h3;simpa[Zbh,e,Instr.loadAt,Instr.sureAddr,asAddr] using h3
    refine⟨u::us,by simp[List.mapM_cons,h5,h1],VL.append (a:=[v]) (x:=[u]) ⟨rfl,fun i hi hj=>?_⟩ h2⟩;(obtain rfl:i=0:=by simp at hi;omega);exact h4
   {cases h}
  {cases h}
theorem Zbz (hE:TOk E P) (hr:Rel E g n tm H a w) (h:U0 E tm H fn.results.toList=some ps):∃v,(results fn a.tmps).run P w= .ok v w∧V g (one ps) v:=by
 obtain⟨vs,h1,h2⟩:=Zep hE hr h;have hm:(fn.results.mapM (Zbh a.tmps)).run P w= .ok vs.toArray w:=by rw[Array.mapM_eq_mapM_toList,Sem.run_map,h1];rfl
 refine⟨if h:vs.toArray.size=1 then vs.toArray[0] else .tuple vs.toArray,?_,?_⟩;{rw[ZgX,Sem.run_bind,hm];rfl}
 ·have hl:=h2.1;match ps,vs,hl,h2 with
  | [p],[v],_,h2=>simpa[one] using h2.2 0 (by simp) (by simp)
  | [],[],_,h2=>exact V.unset g
  | p::q::r,v::u::s,_,h2=>simp only[one];rw[dif_neg (by simp)];exact .tup _ _ (by simpa using h2.1) fun i hi=>by simpa using h2.2 i hi (by have:=h2.1;omega)
def WW (g:Gh) (w w':World):Gh:={g with S:=fun b o=>if b<w.heap.size then g.S b o else w'.cell? ⟨b,o,none⟩}
def ZbI (H:Heap):Heap:={bx:=H.bx,ro:=H.bx.length,live:=[],nt:=H.nt}
theorem ZaW (g:Gh) (H:Heap) (b:Nat):Shut g (ZbI H) b:=by refine⟨fun id hro hl=>?_,fun t lo hi ht=>?_⟩;{obtain⟨x,hx,_⟩:=hl;have:id<H.bx.length:=Zz hx;have hro:H.bx.length≤id:=hro;omega};{simp[ZbI]at ht}
theorem ZjV (hi:Inv g H w):Inv g (ZbI H) w where
 st:=hi.st
 bx:=hi.bx
 mp:=hi.mp
 sp:=hi.sp
 inj:=hi.inj
 sd:=hi.sd
 td:=hi.td
 tk t b lo hi' h:=by simp[ZbI]at h
 tinj t t' b lo hi' lo' hi2 h:=by simp[ZbI]at h
 nd:=List.nodup_nil
 lt t h:=by simp[ZbI]at h
 sz:=hi.sz
 ro:=Nat.le_refl _
 rm:=hi.rm
theorem ZgT (hi:Inv g H w) {g':Gh} {H':Heap} {w':World} (k:Keep g (ZbI H) w g' H' w'):Inv (WW g w w') H w'∧Keep g H w (WW g w w') H w'∧∀b o v,g'.S b o=some v→w'.cell? ⟨b,o,none⟩=some v→(WW g w w').S b o=some v:=by
 have hh:∀b,b<w.heap.size→w'.heap[b]? = w.heap[b]? :=fun b hb=>k.heap b hb (ZaW g H b);have hS:∀b o,b<w.heap.size→(WW g w w').S b o=g.S b o:=fun b o hb=>by simp[WW,hb]
 have hle:g.Le (WW g w w'):=⟨fun b o v h=>by rw[hS b o (hi.S_lt h)];exact h,fun _ _ h=>h,fun _ _ h=>h,fun _ _ _=>rfl,rfl⟩;refine⟨⟨?_,?_,?_,?_,hi.inj,hi.sd,hi.td,?_,hi.tinj,hi.nd,hi.lt,?_,hi.ro,fun id b c T m h1 h2 h3=>hi.rm id b c T m h1 h2 (by rw[← hh b (hi.sz _ _ h2)];exact h3)⟩,⟨hle,fun b hb _=>hh b hb,fun b hb _ o=>hS b o hb,k.size,?_,?_,rfl,Nat.le_refl _,fun _ _=>rfl,Nat.le_refl _,fun _ h=> .inl h,fun _ _ _ h=>h,fun _ _ h=>h,k.so⟩,?_⟩;{intro b o v h;by_cases hb:b<w.heap.size;{rw[hS b o hb]at h;rw[cell_of_heap (hh b hb)];exact hi.st _ _ _ h};{simpa[WW,hb] using h}};{intro id es el h;obtain⟨b,c,T,h1,h2,h3,h4,h5,h6⟩:=hi.bx id es el h;have hb:=hi.sz _ _ h1;exact⟨b,c,T,h1,by rw[hh b hb];exact h2,h3,h4,fun i hi' j hj=>let ⟨v,e,x⟩:=h5 i hi' j hj;⟨v,e,x.mono hle⟩,fun o=>by rw[hS b o hb];exact h6 o⟩};{intro id es h;obtain⟨b,c,T,h1,h2,h3,h4,h5⟩:=hi.mp id es h;have hb:=hi.sz _ _ h1;exact⟨b,c,T,h1,by rw[hh b hb];exact h2,h3,fun i hi'=>let ⟨e,a,x,y⟩:=h4 i hi';⟨e,a,x.mono hle,y.mono hle⟩,fun o=>by rw[hS b o hb];exact h5 o⟩};{intro id T cs h;obtain⟨b,c,h1,h2,h3,h4,h5⟩:=hi.sp id T cs h;have hb:=hi.sz _ _ h1;exact⟨b,c,h1,by rw[hh b hb];exact h2,h3,fun j hj=>let ⟨v,e,x⟩:=h4 j hj;⟨v,e,x.mono hle⟩,fun o=>by rw[hS b o hb];exact h5 o⟩}
 ·intro t b lo hi' h1 h2;obtain⟨⟨c,T,h3,h4⟩,h5,h6⟩:=hi.tk t b lo hi' h1 h2;have hb:b<w.heap.size:=by rcases Nat.lt_or_ge b w.heap.size with h|h;{exact h};{simp[Array.getElem?_eq_none h]at h3}
  exact⟨⟨c,T,by rw[hh b hb];exact h3,h4⟩,fun o ho=>by rw[hS b o hb];exact h5 o ho,h6⟩
 {intro id b h;exact Nat.lt_of_lt_of_le (hi.sz _ _ h) k.size};{intro id b h h';rw[show(WW g w w').σ id=g.σ id from rfl,h]at h';cases h'};{intro t b lo hi' h h';rw[show(WW g w w').τ t=g.τ t from rfl,h]at h';cases h'};{intro b o v h h';by_cases hb:b<w.heap.size;{rw[hS b o hb, ← k.store b hb (ZaW g H b) o];exact h};{simpa[WW,hb] using h'}}
section frz
variable {g':Gh} {H':Heap} {w':World} {S:VN}
theorem Zim (hi':Inv g' H' w') (hS:∀b o v,g'.S b o=some v→S b o=some v) (hO:∀id b o v,m≤id→g'.σ id=some b→w'.cell? ⟨b,o,none⟩=some v→S b o=some v) {v:Value} (hp:V g' p v) (h:frzC m H' p=some r):V0 S r v:=by unfold frzC at h;split at h;{rename_i id es ix len;split at h;{cases h};{rename_i hid;rw[Zm]at h;split at h;{rename_i es' el hb;split at h;{rename_i hcond;obtain⟨rfl,hle⟩:=hcond;split at h;{rename_i el' hf;cases h;obtain⟨b,cap,ad,hσ,hc,ha,hsp,rfl⟩:=hp.own_inv;obtain⟨b',c,T,h1,h2,h3,h4,h5,h6⟩:=hi'.bx _ _ _ hb;rw[hσ]at h1;cases h1;obtain⟨f1,f2⟩:=QK hf;(have hl:el'.length=len:=by rw[f1];simp;omega);subst hl;obtain⟨ab,ao,asp⟩:=ad;simp only at hsp;subst hsp;by_cases h0:el'.length=0;{exact .sl .none es el' ⟨ab,ao,none⟩ ab ao cap (fun _ _=>undef) (fun _=>rfl) (.inl rfl) hc (fun i hi=>by omega) (fun i j hi=>by omega) (fun i hi=>by omega)};{have:=ha (by omega);cases this;(have hrow:∀i (hi:i<el'.length),(el'[i]).length=es∧∀j (hj:j<(el'[i]).length),∃u,c[(ix+i)*es+j]? = some u∧V0 S ((el'[i])[j]) u:=fun i hi=>by(have hi2:ix+i<el.length:=by omega);(have e1:((el.drop ix).take el'.length)[i]'(by simp;omega)=el[ix+i]:=by simp);have q:=f2 i (by simp;omega) hi;rw[e1]at q;obtain⟨q1,q2⟩:=ZaA q;(have hw:(el'[i]).length=es:=by rw[q1];exact h3 _ hi2);refine⟨hw,fun j hj=>?_⟩;obtain⟨u,x1,x2⟩:=h5 (ix+i) hi2 j (by rw[h3 _ hi2];omega);exact⟨u,x1,(Ul x2 (q2 j (by rw[h3 _ hi2];omega) hj)).mono hS⟩);refine .sl .none es el' ⟨b,ix*es,none⟩ b (ix*es) cap (fun i j=>(c[(ix+i)*es+j]?).getD undef) (fun _=>rfl) (.inl rfl) hc (fun i hi=>(hrow i hi).1) (fun i j hi hj=>?_) (fun i hi j hj=>?_);{obtain⟨u,x1, -⟩:=(hrow i hi).2 j (by rw[(hrow i hi).1];exact hj);refine hO id b _ _ (by omega) hσ ?_;(have e2:ix*es+i*es+j=(ix+i)*es+j:=by rw[Nat.add_mul]);simp[World.cell?,h2,e2,x1]};{obtain⟨u,x1,x2⟩:=(hrow i hi).2 j hj;simpa only[x1,Option.getD_some] using x2}}};{cases h}};{cases h}};{cases h}}};{exact(Ul hp h).mono hS}
theorem ZfD {m:Nat}:∀{cs cs':List PV},Wr m H' cs=some cs'→cs'.length=cs.length∧∀i (hi:i<cs.length) (hi':i<cs'.length),frzC m H' cs[i]=some cs'[i]
 | [],cs',h=>by simp only[Wr,Option.some.injEq]at h;subst h;exact⟨rfl,fun i hi=>absurd hi (by simp)⟩
 |c::cs,cs',h=>by
  simp only[Wr]at h;split at h
  ·rename_i c' hc;split at h
   ·rename_i r' hr;cases h;obtain⟨h1,h2⟩:=ZfD hr;refine⟨by simp[h1],fun i hi hi'=>?_⟩;cases i with
    | zero=>simpa using hc
    | succ i=>exact h2 i (by simpa using hi) (by simpa using hi')
   {cases h}
  {cases h}
theorem ZeL (hi':Inv g' H' w') (hS:∀b o v,g'.S b o=some v→S b o=some v) (hO:∀id b o v,m≤id→g'.σ id=some b→w'.cell? ⟨b,o,none⟩=some v→S b o=some v) {v:Value} (hp:V g' p v) (h:frz2 m H' p=some r):V0 S r v:=by unfold frz2 at h;split at h;{rename_i cs;split at h;{rename_i cs' hc;cases h;obtain⟨vs,hl,rfl,hv⟩:=hp.agg_inv;obtain⟨f1,f2⟩:=ZfD hc;exact .agg _ _ (by omega) fun i hi=>Zim hi' hS hO (hv i (by omega)) (f2 i (by omega) hi)};{cases h}};{exact Zim hi' hS hO hp h}
theorem Zcg {m:Nat}:∀{cs cs':List PV},Wu m H' cs=some cs'→cs'.length=cs.length∧∀i (hi:i<cs.length) (hi':i<cs'.length),frz2 m H' cs[i]=some cs'[i]
 | [],cs',h=>by simp only[Wu,Option.some.injEq]at h;subst h;exact⟨rfl,fun i hi=>absurd hi (by simp)⟩
 |c::cs,cs',h=>by
  simp only[Wu]at h;split at h
  ·rename_i c' hc;split at h
   ·rename_i r' hr;cases h;obtain⟨h1,h2⟩:=Zcg hr;refine⟨by simp[h1],fun i hi hi'=>?_⟩;cases i with
    | zero=>simpa using hc
    | succ i=>exact h2 i (by simpa using hi) (by simpa using hi')
   {cases h}
  {cases h}
theorem Zjv (hi':Inv g' H' w') (hS:∀b o v,g'.S b o=some v→S b o=some v) (hO:∀id b o v,m≤id→g'.σ id=some b→w'.cell? ⟨b,o,none⟩=some v→S b o=some v) {v:Value} (hp:V g' p v) (h:frz3 m H' p=some r):V0 S r v:=by unfold frz3 at h;split at h;{rename_i cs;split at h;{rename_i cs' hc;cases h;obtain⟨vs,hl,rfl,hv⟩:=hp.tup_inv;obtain⟨f1,f2⟩:=Zcg hc;exact .tup _ _ (by omega) fun i hi=>ZeL hi' hS hO (hv i (by omega)) (f2 i (by omega) hi)};{cases h}};{exact ZeL hi' hS hO hp h}
end frz
theorem V.arg1 {p:PV} {v:Value} (h:V g p v):V g (arg1 p) v:=by
 unfold Vm.arg1;split
 ·rename_i tl es el;cases h with
  | pure _ _ h=>exact .pure _ _ h.sl_none
  | tok _ _ _ _ _ _ h _=>exact .pure _ _ h
 {exact h}
theorem V.argV {p:PV} {v:Value} (h:V g p v):V g (argV p) v:=by unfold Vm.argV;split;{obtain⟨vs,hl,rfl,hv⟩:=h.agg_inv;exact .agg _ _ (by simpa using hl) fun i hi=>by simpa using (hv i (by simpa using hi)).arg1};{exact h.arg1}
def tm0 (args:List PV):TM:=fun t=>args.getD t unset
theorem Zdk {vals:Array Value} (hi:Inv g H w) (hg:GOk E g) (hv:VL g args vals.toList) (m:Nat):Rel E g m (tm0 args) H {tmps:=vals++Array.replicate (m-vals.size) undef,defers:=[]} w:=by
 refine⟨by simp;omega,fun t=>?_,hi,hg,rfl⟩;have hl:vals.size=args.length:=by have:=hv.1;simpa using this
 simp only[tm0];by_cases ht:t<args.length
 ·have h1:=hv.2 t ht (by simp;omega);have e1:args.getD t unset=args[t]:=by simp[List.getD,ht]
  have e2:(vals++Array.replicate (m-vals.size) undef).getD t undef=vals.toList[t]'(by simp;omega):=by(have:t<vals.size:=by omega);simp[Array.getD_eq_getD_getElem?,Array.getElem?_append_left this,this]
  rw[e1,e2];exact h1
 ·have e1:args.getD t unset=unset:=by simp[List.getD,List.getElem?_eq_none (Nat.le_of_not_lt ht)]
  have e2:(vals++Array.replicate (m-vals.size) undef).getD t undef=undef:=by rw[Array.getD_eq_getD_getElem?,Array.getElem?_append_right (by omega),Array.getElem?_replicate];split<;>rfl
  rw[e1,e2];exact V.unset g
structure FnOk (P:Program) (f:FuncId) (fn:Func) (c:Code):Prop where
 get:P.funcs[f]? = some fn
 body:fn.body=some c
 name:(fn.name == "runtime.NumGoroutine")=false
theorem Zv (h:FnOk P f fn c) (vals:Array Value):(callFunc f vals).run P w= .ok (.enter f vals) w:=by
 have hp:program.run P w= .ok P w:=rfl;have hn:¬ fn.name= "runtime.NumGoroutine" :=by simpa using h.name
 simp[callFunc,hp,h.get,hn,h.body]
theorem Q2 (hE:TOk E P) (hf:FnOk P f fn c) {own:Tmp→Bool} {H':Heap} (hc:CodeTo E P own fn.ntmps c (tm0 (args.map argV)) (ZbI H) ex tm' H') (hx:∀i,ex≠ .exit i) (hres:U0 E tm' H' fn.results.toList=some ps) (hfr:frz3 H.bx.length H' (one ps)=some r):CallOk E P f args H r H:=by
 intro g w vals hi hg hv;rw[Zv hf];simp only[UponCall];have hv':VL g (args.map argV) vals.toList:=⟨by simpa using hv.1,fun i hi hj=>by simpa using (hv.2 i (by simpa using hi) hj).argV⟩;refine calls_of_wp hf.get hf.body (ZcT hE hc g _ w _ (Zdk (ZjV hi) hg hv' fn.ntmps) fun g' a' w' hr k=>?_).1;obtain⟨v,hrun,hp⟩:=Zbz hE hr hres;obtain⟨i1,k1,hS⟩:=ZgT hi k;have hq:V0 (WW g w w').S r v:=Zjv hr.inv (fun b o v h=>hS b o v h (hr.inv.st _ _ _ h)) (fun id b o v hid hσ hcell=>by
  have hn:g.σ id=none:=hi.sd id hid
  have hb:w.heap.size≤b:=(k.new id b hn hσ).elim (fun h=>h) fun ⟨id',a,⟨x,hx,_⟩,_⟩=>by
   have h1:id'<H.bx.length:=Zz (show H.bx[id']? = some x from hx)
   have h2:H.bx.length≤id':=a
   omega
  simp[WW,Nat.not_lt.2 hb,hcell]) hp hfr
 have hpost:∃u,(results fn a'.tmps).run P w'= .ok u w'∧∃v,Ending.returned u= .returned v∧∃g'',V g'' r v∧Inv g'' H w'∧Keep g H w g'' H w':=⟨v,hrun,v,rfl,WW g w w',.pure _ _ hq,i1,k1⟩;cases ex with
 |normal=>exact⟨hr.df,hpost⟩
 |ret=>exact⟨hr.df,hpost⟩
 |exit i=>exact(hx i rfl).elim
theorem WN (hE:TOk E P) (hf:FnOk P f fn c) {own:Tmp→Bool} {H':Heap} (hc:CodeTo E P own fn.ntmps c (tm0 args) H ex tm' H') (hx:∀i,ex≠ .exit i) (hres:U0 E tm' H' fn.results.toList=some ps):CallOk E P f args H (one ps) H':=by
 intro g w vals hi hg hv;rw[Zv hf];simp only[UponCall];refine calls_of_wp hf.get hf.body (ZcT hE hc g _ w _ (Zdk hi hg hv fn.ntmps) fun g' a' w' hr k=>?_).1;obtain⟨v,hrun,hp⟩:=Zbz hE hr hres;have hpost:∃u,(results fn a'.tmps).run P w'= .ok u w'∧∃v,Ending.returned u= .returned v∧∃g'',V g'' (one ps) v∧Inv g'' H' w'∧Keep g H w g'' H' w':=⟨v,hrun,v,rfl,g',hp,hr.inv,k⟩;cases ex with
 |normal=>exact⟨hr.df,hpost⟩
 |ret=>exact⟨hr.df,hpost⟩
 |exit i=>exact(hx i rfl).elim
end
section
variable {E:Env} {P:Program}
theorem Zdd {own:Bool} {ρ ρ':Operand→PV} {o:Op} (h:∀x∈o.operands.toList,ρ x=ρ' x) (H:Heap):aOp E own ρ o H=aOp E own ρ' o H:=by
 have hm:∀(ps:Array (Nat×Operand)),(∀x∈(ps.toList.map (·.2)),ρ x=ρ' x)→(ps.toList.map fun p=>(p.1,ρ p.2))=ps.toList.map fun p=>(p.1,ρ' p.2):=fun ps hp=>
  List.map_congr_left fun p hp'=>by rw[hp p.2 (List.mem_map.2 ⟨p,hp',rfl⟩)]
 have ho:∀(x:Option Operand),(∀y∈x.toArray.toList,ρ y=ρ' y)→ZbE ρ x=ZbE ρ' x:=fun x hx=>by
  cases x with
  | none=>rfl
  | some y=>simp only[ZbE];rw[hx y (by simp)]
 cases o with
 |move x=>simp only[aOp];rw[h x (by simp[Op.operands])]
 |assign x=>simp only[aOp];rw[h x (by simp[Op.operands])]
 |pick c a b=>simp only[aOp];rw[h c (by simp[Op.operands]),h a (by simp[Op.operands]),h b (by simp[Op.operands])]
 |box e x=>simp only[aOp];rw[h x (by simp[Op.operands])]
 |build t ps=>simp only[aOp];rw[hm ps (fun x hx=>h x (by simpa[Op.operands] using hx))]
 |buildSlice t n ps=>simp only[aOp];rw[hm ps (fun x hx=>h x (by simpa[Op.operands] using hx))]
 |load t a=>simp only[aOp];rw[h a (by simp[Op.operands])]
 |store t a v=>simp only[aOp];rw[h a (by simp[Op.operands]),h v (by simp[Op.operands])]
 |nilCheck x=>simp only[aOp];rw[h x (by simp[Op.operands])]
 |binOp op t x y yt=>simp only[aOp];rw[h x (by simp[Op.operands]),h y (by simp[Op.operands])]
 |unOp op t x=>simp only[aOp];rw[h x (by simp[Op.operands])]
 |convert s d x=>simp only[aOp];rw[h x (by simp[Op.operands])]
 |makeFunc f fi ca=>have:ca.toList.map ρ=ca.toList.map ρ':=List.map_congr_left fun x hx=>h x (by simp[Op.operands];exact .inr (by simpa using hx));cases f<;>simp only[aOp];rw[this]
 |slice t x lo hi mx=>simp only[aOp];rw[h x (by simp[Op.operands]),ho lo (fun y hy=>h y (by simp[Op.operands]at hy ⊢;simp[hy])),ho hi (fun y hy=>h y (by simp[Op.operands]at hy ⊢;simp[hy])),ho mx (fun y hy=>h y (by simp[Op.operands]at hy ⊢;simp[hy]))]
 |fieldAddr t x f=>simp only[aOp];rw[h x (by simp[Op.operands])]
 |field t x f=>simp only[aOp];rw[h x (by simp[Op.operands])]
 |indexAddr t x i=>simp only[aOp];rw[h x (by simp[Op.operands]),h i (by simp[Op.operands])]
 |index t x i=>simp only[aOp];rw[h x (by simp[Op.operands]),h i (by simp[Op.operands])]
 |lookup t x i ok=>simp only[aOp];rw[h x (by simp[Op.operands]),h i (by simp[Op.operands])]
 |mapUpdate t m k v=>simp only[aOp];rw[h m (by simp[Op.operands]),h k (by simp[Op.operands]),h v (by simp[Op.operands])]
 |extract x i=>simp only[aOp];rw[h x (by simp[Op.operands])]
 |call c=>
  obtain⟨callee,args,ats⟩:=c;cases callee with
  | builtin b=>have:args.toList.map ρ=args.toList.map ρ':=List.map_congr_left fun x hx=>h x (by simp[Op.operands,Call.operands];simpa using hx);simp only[aOp];rw[this]
  | value f=>rfl
  | invoke r m=>rfl
 |makeMap t r=>cases r<;>rfl
 |makeSlice t l c=>simp only[aOp];rw[h l (by simp[Op.operands]),h c (by simp[Op.operands])]
 |_=>rfl
theorem UJ {tm:TM} {x:Operand} (h:∀t,d=some t→x≠ .tmp t):Zh E (ZN tm d v) x=Zh E tm x:=by
 cases d with
 |none=>rfl
 |some d=>
  cases x with
  | tmp t=>have:t≠d:=fun e=>h d rfl (by rw[e]);simp[Zh,ZN,this]
  | _=>rfl
theorem Xv {ops:Array Oper} {t:Tmp} (h:Operand.tmp t∈o.op.operands.toList):t∈o.looksAt ops:=by simp only[Oper.looksAt,List.mem_append,List.mem_filterMap];exact .inl ⟨.tmp t,h,rfl⟩
theorem OpTo.set {own:Tmp→Bool} {ops:Array Oper} {tm:TM} {H H':Heap} (hd:∀t,d=some t→t∉o.looksAt ops) (h:OpTo E P own tm o H p H'):OpTo E P own (ZN tm d v) o H p H':=by
 have he:∀x∈o.op.operands.toList,Zh E (ZN tm d v) x=Zh E tm x:=fun x hx=>UJ fun t ht e=>hd t ht (Xv (e ▸ hx));cases h with
 |op _ _ h=>exact .op _ _ (by rw[Zdd he];exact h)
 |call f args ats k caps _ _ ho hf h=>have hf':Zh E (ZN tm d v) f=Zh E tm f:=he f (by simp[ho,Op.operands,Call.operands]);have ha:args.toList.map (Zh E (ZN tm d v))=args.toList.map (Zh E tm):=List.map_congr_left fun x hx=>he x (by simp only[ho,Op.operands,Call.operands];simp;exact .inr (by simpa using hx));exact .call f args ats k caps _ _ ho (by rw[hf'];exact hf) (by rw[ha];exact h)
theorem OpTo.unset {own:Tmp→Bool} {ops:Array Oper} {tm:TM} {H H':Heap} (hd:∀t,d=some t→t∉o.looksAt ops) (h:OpTo E P own (ZN tm d v) o H p H'):OpTo E P own tm o H p H':=by
 have he:∀x∈o.op.operands.toList,Zh E (ZN tm d v) x=Zh E tm x:=fun x hx=>UJ fun t ht e=>hd t ht (Xv (e ▸ hx));cases h with
 |op _ _ h=>exact .op _ _ (by rw[← Zdd he];exact h)
 |call f args ats k caps _ _ ho hf h=>have hf':Zh E (ZN tm d v) f=Zh E tm f:=he f (by simp[ho,Op.operands,Call.operands]);have ha:args.toList.map (Zh E (ZN tm d v))=args.toList.map (Zh E tm):=List.map_congr_left fun x hx=>he x (by simp only[ho,Op.operands,Call.operands];simp;exact .inr (by simpa using hx));exact .call f args ats k caps _ _ ho (by rw[← hf'];exact hf) (by rw[← ha];exact h)
theorem Yn {ops:Array Oper} {tm:TM} (hd:∀t,d=some t→t∉o.looksAt ops):Zf ops.toList (ZN tm d v) o=Zf ops.toList tm o:=by
 unfold Zf;cases hg:o.guard with
 |none=>rfl
 |some x=>
  obtain⟨j,want⟩:=x;simp only[Zm];cases hj:ops.toList[j]? with
  | none=>rfl
  | some oj=>
   simp only;cases he:oj.dst with
   | none=>rfl
   | some e=>
    simp only;have:ZN tm d v e=tm e:=by
     cases d with
     | none=>rfl
     | some d =>
       have hne:e≠d:=fun h=>hd d rfl (by
        have hj':ops[j]? = some oj:=by simpa using hj
        simp only[Oper.looksAt,List.mem_append,hg]
        right
        simp[hj',he,h])
       simp[ZN,hne]
    rw[this]
theorem ZjS {tm:TM} {e:Option Tmp} {u:PV} (h:∀t,d=some t→e≠some t):ZN (ZN tm d v) e u=ZN (ZN tm e u) d v:=by
 cases d with
 |none=>rfl
 |some d=>
  cases e with
  | none=>rfl
  | some e=>funext t;have hne:d≠e:=fun x=>h d rfl (by rw[x]);simp only[ZN];by_cases h1:t=e;{subst h1;simp[Ne.symm hne]};{simp[h1]}
end
def Zd2:List Nat→List Box→List Box
 | [],b=>b
 |k::r,b=>Zd2 r (b.set k .dead)
def ZQ (l:List Nat) (H:Heap):Heap:={H with bx:=Zd2 l H.bx}
def ZbP (o:List Box):List Nat→List Box→List Box
 | [],b=>b
 |k::r,b=>ZbP o r (match nth o k with|some x=>b.set k x|none=>b)
def Xd (l:List Nat) (H M:Heap):Heap:={M with bx:=ZbP H.bx l M.bx}
theorem Yr (l:List Nat) (b:List Box):(Zd2 l b).length=b.length:=by
 induction l generalizing b with
 |nil=>rfl
 |cons k r ih=>simp[Zd2,ih]
theorem Vq (o:List Box) (l:List Nat) (b:List Box):(ZbP o l b).length=b.length:=by
 induction l generalizing b with
 |nil=>rfl
 |cons k r ih=>simp only[ZbP];rw[ih];split<;>simp
theorem Wz (l:List Nat) (b:List Box) (i:Nat):(Zd2 l b)[i]? = if i∈l∧i<b.length then some .dead else b[i]? :=by
 induction l generalizing b with
 |nil=>simp[Zd2]
 |cons k r ih=>simp only[Zd2,ih,List.length_set,List.mem_cons];by_cases h1:i∈r∧i<b.length;{rw[if_pos h1,if_pos ⟨.inr h1.1,h1.2⟩]};{rw[if_neg h1,List.getElem?_set];by_cases h2:k=i;{subst h2;by_cases h3:k<b.length;{simp[h3]};{simp[h3]}};{rw[if_neg h2];(have:¬ ((i=k∨i∈r)∧i<b.length):=fun h=>by rcases h.1 with e|e;{exact h2 e.symm};{exact h1 ⟨e,h.2⟩});rw[if_neg this]}}
theorem Ww (o:List Box) (l:List Nat) (b:List Box) (hl:o.length≤b.length) (i:Nat):(ZbP o l b)[i]? = if i∈l∧i<o.length then o[i]? else b[i]? :=by
 induction l generalizing b with
 |nil=>simp[ZbP]
 |cons k r ih=>simp only[ZbP,Zm];rw[ih _ (by split<;>simp[hl])];by_cases h1:i∈r∧i<o.length;{rw[if_pos h1,if_pos ⟨List.mem_cons_of_mem _ h1.1,h1.2⟩]};{rw[if_neg h1];by_cases h2:i=k;{subst h2;by_cases h3:i<o.length;{have e:o[i]? = some o[i]:=List.getElem?_eq_getElem h3;rw[if_pos ⟨List.mem_cons_self,h3⟩,e];simp only;rw[List.getElem?_set_self (by omega)]};{have e:o[i]? = none:=List.getElem?_eq_none (Nat.le_of_not_lt h3);rw[if_neg (fun h=>h3 h.2),e]}};{(have:¬ (i∈k::r∧i<o.length):=fun h=>by rcases List.mem_cons.1 h.1 with e|e;{exact h2 e};{exact h1 ⟨e,h.2⟩});rw[if_neg this];split;{rw[List.getElem?_set_ne (Ne.symm h2)]};{rfl}}}
theorem Heap.ext' {H K:Heap} (h1:H.bx=K.bx) (h2:H.ro=K.ro) (h3:H.live=K.live) (h4:H.nt=K.nt):H=K:=by cases H;cases K;simp_all
def Ym (H:Heap) (k:Nat) (b:Box):Heap:={H with bx:=H.bx.set k b}
theorem Zx {l:List Nat} {H:Heap} (h:k∈l):ZQ l (Ym H k b)=ZQ l H:=by refine Heap.ext' (List.ext_getElem? fun i=>?_) rfl rfl rfl;simp only[ZQ,Ym,Wz,List.length_set];by_cases e:i=k;{subst e;by_cases h2:i<H.bx.length;{rw[if_pos ⟨h,h2⟩,if_pos ⟨h,h2⟩]};{rw[if_neg (fun h=>h2 h.2),if_neg (fun h=>h2 h.2)];simp[h2]}};{rw[List.getElem?_set_ne (Ne.symm e)]}
theorem WO {l:List Nat} {H M:Heap} (h:k∈l) (hk:k<H.bx.length) (hl:H.bx.length≤M.bx.length):Xd l (Ym H k b) M=Ym (Xd l H M) k b:=by refine Heap.ext' (List.ext_getElem? fun i=>?_) rfl rfl rfl;show(ZbP (H.bx.set k b) l M.bx)[i]? = ((ZbP H.bx l M.bx).set k b)[i]?;rw[Ww _ _ _ (by simpa using hl)];by_cases e:i=k;{subst e;rw[if_pos ⟨h,by simpa using hk⟩,List.getElem?_set_self hk,List.getElem?_set_self (by rw[Vq];omega)]};{rw[List.getElem?_set_ne (Ne.symm e),List.getElem?_set_ne (Ne.symm e),Ww _ _ _ hl,List.length_set]}
inductive Cls where
 |sc
 |qu
 |al
 |ef
 |st
 |ld
 |tk
 deriving DecidableEq
def VR (H M:Heap):Heap:={bx:=H.bx++M.bx.drop H.bx.length,ro:=H.ro,live:=M.live,nt:=M.nt}
theorem Zbp {l:List Nat} {H M:Heap} {N:Nat} (h:N≤H.bx.length):(ZQ l (VR H M)).bx.take N=(ZQ l H).bx.take N:=by
 refine List.ext_getElem? fun i=>?_;rw[List.getElem?_take,List.getElem?_take];split
 ·rename_i hi;have h1:i<H.bx.length:=by omega
  simp only[ZQ,Wz,VR,List.length_append];rw[List.getElem?_append_left h1];by_cases e:i∈l;{rw[if_pos ⟨e,by omega⟩,if_pos ⟨e,h1⟩]};{rw[if_neg (fun h=>e h.1),if_neg (fun h=>e h.1)]}
 {rfl}
theorem Vw {H M:Heap} (hk:k<H.bx.length):VR (Ym H k b) M=Ym (VR H M) k b:=by simp only[VR,Ym,Heap.mk.injEq,and_true,List.length_set];exact(List.set_append_left _ _ hk).symm
section
variable (E:Env) (P:Program) (own:Tmp→Bool) (ops:Array Oper) (n0:Nat) (cls:Nat→Cls) (tgt:Nat→Nat) (msk:Nat→List Nat)
inductive Hp (i:Nat) (o:Oper) (tm:TM):Heap→PV→Heap→Prop
 |pass (H:Heap) (hw:Zf ops.toList tm o=some false):Hp i o tm H unset H
 |sc (H:Heap) (p:PV) (hw:Zf ops.toList tm o=some true) (h:∀M,OpTo E P own tm o M p M):Hp i o tm H p H
 |qu (H:Heap) (p:PV) (hw:Zf ops.toList tm o=some true) (hc:cls i= .qu) (h:OpTo E P own tm o (ZQ (msk i) H) p (ZQ (msk i) H)):Hp i o tm H p H
 | al (H : Heap) (e : TypeId) (ei : TI) (hw : Zf ops.toList tm o = some true) (hc : cls i = .al) (ho : o.op = .alloc e) (he : E.T e = some ei) (hz : ei.zero.cells.length = ei.size) (hp : 0 < ei.size)
     (hd:H.bx[n0+i]? = some .dead):Hp i o tm H (.ptr (n0+i) ei.size 0 0) (Ym H (n0+i) (.cells ei.size [ei.zero.cells]))
 | bo (H : Heap) (e : TypeId) (x : Operand) (hw : Zf ops.toList tm o = some true) (hc : cls i = .al) (ho : o.op = .box e x) (hp : 0 < (Zh E tm x).cells.length)
     (hd:H.bx[n0+i]? = some .dead):Hp i o tm H (.ptr (n0+i) (Zh E tm x).cells.length 0 0) (Ym H (n0+i) (.cells (Zh E tm x).cells.length [(Zh E tm x).cells]))
 |ef (H:Heap) (p:PV) (M:Heap) (hw:Zf ops.toList tm o=some true) (hc:cls i= .ef) (h:OpTo E P own tm o (ZQ (msk i) H) p M) (hl:H.bx.length≤M.bx.length):Hp i o tm H p (Xd (msk i) H M)
 |st (H:Heap) (p:PV) (b:Box) (hw:Zf ops.toList tm o=some true) (hc:cls i= .st) (h:OpTo E P own tm o (ZQ (msk i) H) p (Ym (ZQ (msk i) H) (tgt i) b)) (hs:tgt i∉msk i):Hp i o tm H p (Ym H (tgt i) b)
 |ld (H:Heap) (p:PV) (hw:Zf ops.toList tm o=some true) (hc:cls i= .ld) (h:∀K:Heap,K.bx.take (tgt i)=(ZQ (msk i) H).bx.take (tgt i)→OpTo E P own tm o K p K):Hp i o tm H p H
 |tk (H:Heap) (p:PV) (M:Heap) (hw:Zf ops.toList tm o=some true) (hc:cls i= .tk) (h:OpTo E P own tm o {ZQ (msk i) H with ro:=H.bx.length} p M) (hl:H.bx.length≤M.bx.length):Hp i o tm H p (VR H M)
variable {E P own ops n0 cls tgt msk}
theorem Hp.len {tm:TM} {H H':Heap} (h:Hp E P own ops n0 cls tgt msk i o tm H p H'):H.bx.length≤H'.bx.length:=by cases h<;>simp[Ym,Xd,VR,Vq]<;>try assumption
theorem Hp.set {i:Nat} {o:Oper} {tm:TM} {d:Option Tmp} {v:PV} {H H':Heap} {p:PV} (hd:∀t,d=some t→t∉o.looksAt ops) (h:Hp E P own ops n0 cls tgt msk i o tm H p H'):Hp E P own ops n0 cls tgt msk i o (ZN tm d v) H p H':=by
 cases h with
 |pass hw=>exact .pass _ (by rw[Yn hd];exact hw)
 |sc _ hw h=>exact .sc _ _ (by rw[Yn hd];exact hw) fun M=>(h M).set hd
 |qu _ hw hc h=>exact .qu _ _ (by rw[Yn hd];exact hw) hc (h.set hd)
 |al e ei hw hc ho he hz hp hdd=>exact .al _ e ei (by rw[Yn hd];exact hw) hc ho he hz hp hdd
 |bo e x hw hc ho hp hdd=>have hx:Zh E (ZN tm d v) x=Zh E tm x:=UJ fun t ht e'=>hd t ht (Xv (by rw[ho, ← e'];simp[Op.operands]));have:=Hp.bo (E:=E) (P:=P) (own:=own) (ops:=ops) (n0:=n0) (cls:=cls) (tgt:=tgt) (msk:=msk) (tm:=ZN tm d v) (i:=i) H e x (by rw[Yn hd];exact hw) hc ho (by rw[hx];exact hp) hdd;rwa [hx]at this
 |ef _ M hw hc h hl=>exact .ef _ _ M (by rw[Yn hd];exact hw) hc (h.set hd) hl
 |st _ b hw hc h hs=>exact .st _ _ b (by rw[Yn hd];exact hw) hc (h.set hd) hs
 |ld _ hw hc h=>exact .ld _ _ (by rw[Yn hd];exact hw) hc fun K e=>(h K e).set hd
 |tk _ M hw hc h hl=>exact .tk _ _ M (by rw[Yn hd];exact hw) hc (h.set hd) hl
theorem Hp.reset {tm:TM} {H H':Heap} (hd:∀t,d=some t→t∉o.looksAt ops) (h:Hp E P own ops n0 cls tgt msk i o (ZN tm d v) H p H'):Hp E P own ops n0 cls tgt msk i o tm H p H':=by
 have hw':=Yn (tm:=tm) (v:=v) hd;cases h with
 |pass hw=>exact .pass _ (by rw[← hw'];exact hw)
 |sc _ hw h=>exact .sc _ _ (by rw[← hw'];exact hw) fun M=>(h M).unset hd
 |qu _ hw hc h=>exact .qu _ _ (by rw[← hw'];exact hw) hc (h.unset hd)
 |al e ei hw hc ho he hz hp hdd=>exact .al _ e ei (by rw[← hw'];exact hw) hc ho he hz hp hdd
 |bo e x hw hc ho hp hdd=>have hx:Zh E (ZN tm d v) x=Zh E tm x:=UJ fun t ht e'=>hd t ht (Xv (by rw[ho, ← e'];simp[Op.operands]));rw[hx]at hp ⊢;exact .bo _ e x (by rw[← hw'];exact hw) hc ho hp hdd
 |ef _ M hw hc h hl=>exact .ef _ _ M (by rw[← hw'];exact hw) hc (h.unset hd) hl
 |st _ b hw hc h hs=>exact .st _ _ b (by rw[← hw'];exact hw) hc (h.unset hd) hs
 |ld _ hw hc h=>exact .ld _ _ (by rw[← hw'];exact hw) hc fun K e=>(h K e).unset hd
 |tk _ M hw hc h hl=>exact .tk _ _ M (by rw[← hw'];exact hw) hc (h.unset hd) hl
def perm (a b:Cls):Bool:=match a,b with
 | .qu,.ef=>false
 | .ef,.qu=>false
 | .ef,.ef=>false
 | .ef,.st=>false
 | .st,.ef=>false
 | .ef,.ld=>false
 | .ld,.ef=>false
 | .ef,.tk=>false
 | .tk,.ef=>false
 | .tk,.tk=>false
 | .tk,.qu=>false
 | .qu,.tk=>false
 | .tk,.st=>false
 | .st,.tk=>false
 |_,_=>true
theorem Hp.swap {j:Nat} {oi oj:Oper} {tm:TM} {H H1 H2:Heap} {q:PV} (hi:Hp E P own ops n0 cls tgt msk i oi tm H p H1) (hj:Hp E P own ops n0 cls tgt msk j oj tm H1 q H2) (hne:i≠j) (hpm:perm (cls i) (cls j)=true) (hmi:cls j= .al→n0+j∈msk i) (hmj:cls i= .al→n0+i∈msk j) (hlj:cls j= .al→n0+j<H.bx.length) (hti:cls i= .st→tgt i∈msk j) (htj:cls j= .st→tgt j∈msk i) (hli:cls i= .ld→tgt i≤H.bx.length) (hlj':cls j= .ld→tgt j≤H.bx.length):∃H1',Hp E P own ops n0 cls tgt msk j oj tm H q H1'∧Hp E P own ops n0 cls tgt msk i oi tm H1' p H2:=by
 have hsl:n0+i≠n0+j:=by omega
 have hset:∀(K:Heap) (b c:Box),Ym (Ym K (n0+i) b) (n0+j) c=Ym (Ym K (n0+j) c) (n0+i) b:=fun K b c=>by simp only[Ym,Heap.mk.injEq,and_self,and_true];exact List.set_comm _ _ hsl
 have hget:∀(K:Heap) (b:Box),(Ym K (n0+i) b).bx[n0+j]? = K.bx[n0+j]? :=fun K b=>by simp[Ym,List.getElem?_set_ne hsl]
 have hget':∀(K:Heap) (b:Box),(Ym K (n0+j) b).bx[n0+i]? = K.bx[n0+i]? :=fun K b=>by simp[Ym,List.getElem?_set_ne (Ne.symm hsl)]
 have free:H1=H→(∀K,Hp E P own ops n0 cls tgt msk i oi tm K p K)→∃H1',Hp E P own ops n0 cls tgt msk j oj tm H q H1'∧Hp E P own ops n0 cls tgt msk i oi tm H1' p H2:=fun e f=>by subst e;exact⟨H2,hj,f H2⟩
 cases hi with
 |pass hw=>exact free rfl fun K=> .pass K hw
 |sc _ hw h=>exact free rfl fun K=> .sc K p hw h
 |qu _ hw hc h=>
  cases hj with
  | pass hw'=>exact⟨H,.pass _ hw',.qu _ _ hw hc h⟩
  | sc _ hw' h'=>exact⟨H,.sc _ _ hw' h',.qu _ _ hw hc h⟩
  | qu _ hw' hc' h'=>exact⟨H,.qu _ _ hw' hc' h',.qu _ _ hw hc h⟩
  | al e ei hw' hc' ho he hz hp hd=>exact⟨_,.al _ e ei hw' hc' ho he hz hp hd,.qu _ _ hw hc (by rw[Zx (hmi hc')];exact h)⟩
  | bo e x hw' hc' ho hp hd=>exact⟨_,.bo _ e x hw' hc' ho hp hd,.qu _ _ hw hc (by rw[Zx (hmi hc')];exact h)⟩
  | ef _ M hw' hc' h' hl=>rw[hc,hc']at hpm;cases hpm
  | st _ b hw' hc' h' hs=>exact⟨_,.st _ _ b hw' hc' h' hs,.qu _ _ hw hc (by rw[Zx (htj hc')];exact h)⟩
  | ld _ hw' hc' h'=>exact⟨H,.ld _ _ hw' hc' h',.qu _ _ hw hc h⟩
  | tk _ M hw' hc' h' hl=>rw[hc,hc']at hpm;cases hpm
 |al e ei hw hc ho he hz hp hd=>
  cases hj with
  | pass hw'=>exact⟨H,.pass _ hw',.al _ e ei hw hc ho he hz hp hd⟩
  | sc _ hw' h'=>exact⟨H,.sc _ _ hw' h',.al _ e ei hw hc ho he hz hp hd⟩
  | qu _ hw' hc' h'=>exact⟨H,.qu _ _ hw' hc' (by rw[Zx (hmj hc)]at h';exact h'),.al _ e ei hw hc ho he hz hp hd⟩
  | al e' ei' hw' hc' ho' he' hz' hp' hd'=>rw[hget]at hd';rw[hset];exact⟨_,.al _ e' ei' hw' hc' ho' he' hz' hp' hd',.al _ e ei hw hc ho he hz hp (by rw[hget'];exact hd)⟩
  | bo e' x' hw' hc' ho' hp' hd'=>rw[hget]at hd';rw[hset];exact⟨_,.bo _ e' x' hw' hc' ho' hp' hd',.al _ e ei hw hc ho he hz hp (by rw[hget'];exact hd)⟩
  | ef _ M hw' hc' h' hl=>
   have hk:=Zz hd;(have hl':H.bx.length≤M.bx.length:=by simpa[Ym] using hl);rw[Zx (hmj hc)]at h';rw[WO (hmj hc) hk hl'];exact⟨_,.ef _ _ M hw' hc' h' hl',.al _ e ei hw hc ho he hz hp (by
    simp only[Xd];rw[Ww _ _ _ hl',if_pos ⟨hmj hc,hk⟩];exact hd)⟩
  | st _ b hw' hc' h' hs=>have hne':n0+i≠tgt j:=fun e=>hs (e ▸ hmj hc);rw[Zx (hmj hc)]at h';(have hcm:∀(K:Heap) (x y:Box),Ym (Ym K (n0+i) x) (tgt j) y=Ym (Ym K (tgt j) y) (n0+i) x:=fun K x y=>by simp only[Ym,Heap.mk.injEq,and_self,and_true];exact List.set_comm _ _ hne');rw[hcm];exact⟨_,.st _ _ b hw' hc' h' hs,.al _ e ei hw hc ho he hz hp (by simpa[Ym,List.getElem?_set_ne (Ne.symm hne')] using hd)⟩
  | ld _ hw' hc' h'=>exact⟨H,.ld _ _ hw' hc' (by rw[Zx (hmj hc)]at h';exact h'),.al _ e ei hw hc ho he hz hp hd⟩
  | tk _ M hw' hc' h' hl=>have hk:=Zz hd;(have hl':H.bx.length≤M.bx.length:=by simpa[Ym] using hl);(have hlen:∀B:Box,(Ym H (n0+i) B).bx.length=H.bx.length:=fun B=>by simp[Ym]);rw[Zx (hmj hc),hlen]at h';rw[Vw hk];exact⟨_,.tk _ _ M hw' hc' h' hl',.al _ e ei hw hc ho he hz hp (by simp only[VR];rw[List.getElem?_append_left hk];exact hd)⟩
 |bo e x hw hc ho hp hd=>
  cases hj with
  | pass hw'=>exact⟨H,.pass _ hw',.bo _ e x hw hc ho hp hd⟩
  | sc _ hw' h'=>exact⟨H,.sc _ _ hw' h',.bo _ e x hw hc ho hp hd⟩
  | qu _ hw' hc' h'=>exact⟨H,.qu _ _ hw' hc' (by rw[Zx (hmj hc)]at h';exact h'),.bo _ e x hw hc ho hp hd⟩
  | al e' ei' hw' hc' ho' he' hz' hp' hd'=>rw[hget]at hd';rw[hset];exact⟨_,.al _ e' ei' hw' hc' ho' he' hz' hp' hd',.bo _ e x hw hc ho hp (by rw[hget'];exact hd)⟩
  | bo e' x' hw' hc' ho' hp' hd'=>rw[hget]at hd';rw[hset];exact⟨_,.bo _ e' x' hw' hc' ho' hp' hd',.bo _ e x hw hc ho hp (by rw[hget'];exact hd)⟩
  | ef _ M hw' hc' h' hl=>
   have hk:=Zz hd;(have hl':H.bx.length≤M.bx.length:=by simpa[Ym] using hl);rw[Zx (hmj hc)]at h';rw[WO (hmj hc) hk hl'];exact⟨_,.ef _ _ M hw' hc' h' hl',.bo _ e x hw hc ho hp (by
    simp only[Xd];rw[Ww _ _ _ hl',if_pos ⟨hmj hc,hk⟩];exact hd)⟩
  | st _ b hw' hc' h' hs=>have hne':n0+i≠tgt j:=fun e=>hs (e ▸ hmj hc);rw[Zx (hmj hc)]at h';(have hcm:∀(K:Heap) (x y:Box),Ym (Ym K (n0+i) x) (tgt j) y=Ym (Ym K (tgt j) y) (n0+i) x:=fun K x y=>by simp only[Ym,Heap.mk.injEq,and_self,and_true];exact List.set_comm _ _ hne');rw[hcm];exact⟨_,.st _ _ b hw' hc' h' hs,.bo _ e x hw hc ho hp (by simpa[Ym,List.getElem?_set_ne (Ne.symm hne')] using hd)⟩
  | ld _ hw' hc' h'=>exact⟨H,.ld _ _ hw' hc' (by rw[Zx (hmj hc)]at h';exact h'),.bo _ e x hw hc ho hp hd⟩
  | tk _ M hw' hc' h' hl=>have hk:=Zz hd;(have hl':H.bx.length≤M.bx.length:=by simpa[Ym] using hl);(have hlen:∀B:Box,(Ym H (n0+i) B).bx.length=H.bx.length:=fun B=>by simp[Ym]);rw[Zx (hmj hc),hlen]at h';rw[Vw hk];exact⟨_,.tk _ _ M hw' hc' h' hl',.bo _ e x hw hc ho hp (by simp only[VR];rw[List.getElem?_append_left hk];exact hd)⟩
 |ef _ M hw hc h hl=>
  have hde:∀{hk:cls j= .al},(Xd (msk i) H M).bx[n0+j]? = some .dead→n0+j<H.bx.length→H.bx[n0+j]? = some .dead:=fun {hk} hd hlt=>by simp only[Xd]at hd;rw[Ww _ _ _ hl,if_pos ⟨hmi hk,hlt⟩]at hd;exact hd
  cases hj with
  | pass hw'=>exact⟨H,.pass _ hw',.ef _ _ M hw hc h hl⟩
  | sc _ hw' h'=>exact⟨H,.sc _ _ hw' h',.ef _ _ M hw hc h hl⟩
  | qu _ hw' hc' h'=>rw[hc,hc']at hpm;cases hpm
  | al e' ei' hw' hc' ho' he' hz' hp' hd'=>
   have hlt:=hlj hc';exact⟨_,.al _ e' ei' hw' hc' ho' he' hz' hp' (hde (hk:=hc') hd' hlt),by
    rw[← WO (hmi hc') hlt hl]
    exact .ef _ _ M hw hc (by rw[Zx (hmi hc')];exact h) (by simpa[Ym] using hl)⟩
  | bo e' x' hw' hc' ho' hp' hd'=>
   have hlt:=hlj hc';exact⟨_,.bo _ e' x' hw' hc' ho' hp' (hde (hk:=hc') hd' hlt),by
    rw[← WO (hmi hc') hlt hl]
    exact .ef _ _ M hw hc (by rw[Zx (hmi hc')];exact h) (by simpa[Ym] using hl)⟩
  | ef _ M' hw' hc' h' hl'=>rw[hc,hc']at hpm;cases hpm
  | st _ b hw' hc' h' hs=>rw[hc,hc']at hpm;cases hpm
  | ld _ hw' hc' h'=>rw[hc,hc']at hpm;cases hpm
  | tk _ M' hw' hc' h' hl'=>rw[hc,hc']at hpm;cases hpm
 |st _ b hw hc h hs=>
  have hcm:∀(K:Heap) (k:Nat) (x y:Box),tgt i≠k→Ym (Ym K (tgt i) x) k y=Ym (Ym K k y) (tgt i) x:=fun K k x y hk=>by simp only[Ym,Heap.mk.injEq,and_self,and_true];exact List.set_comm _ _ hk
  cases hj with
  | pass hw'=>exact⟨H,.pass _ hw',.st _ _ b hw hc h hs⟩
  | sc _ hw' h'=>exact⟨H,.sc _ _ hw' h',.st _ _ b hw hc h hs⟩
  | qu _ hw' hc' h'=>exact⟨H,.qu _ _ hw' hc' (by rw[Zx (hti hc)]at h';exact h'),.st _ _ b hw hc h hs⟩
  | al e' ei' hw' hc' ho' he' hz' hp' hd'=>have hne':tgt i≠n0+j:=fun e=>hs (e ▸ hmi hc');rw[hcm _ _ _ _ hne'];exact⟨_,.al _ e' ei' hw' hc' ho' he' hz' hp' (by simpa[Ym,List.getElem?_set_ne hne'] using hd'),.st _ _ b hw hc (by rw[Zx (hmi hc')];exact h) hs⟩
  | bo e' x' hw' hc' ho' hp' hd'=>have hne':tgt i≠n0+j:=fun e=>hs (e ▸ hmi hc');rw[hcm _ _ _ _ hne'];exact⟨_,.bo _ e' x' hw' hc' ho' hp' (by simpa[Ym,List.getElem?_set_ne hne'] using hd'),.st _ _ b hw hc (by rw[Zx (hmi hc')];exact h) hs⟩
  | ef _ M' hw' hc' h' hl'=>rw[hc,hc']at hpm;cases hpm
  | st _ b' hw' hc' h' hs'=>have hne':tgt i≠tgt j:=fun e=>hs' (e ▸ hti hc);rw[Zx (hti hc)]at h';rw[hcm _ _ _ _ hne'];exact⟨_,.st _ _ b' hw' hc' h' hs',.st _ _ b hw hc (by rw[Zx (htj hc')];exact h) hs⟩
  | ld _ hw' hc' h'=>exact⟨H,.ld _ _ hw' hc' (by rw[Zx (hti hc)]at h';exact h'),.st _ _ b hw hc h hs⟩
  | tk _ M hw' hc' h' hl=>rw[hc,hc']at hpm;cases hpm
 |ld _ hw hc h=>
  cases hj with
  | pass hw'=>exact⟨H,.pass _ hw',.ld _ _ hw hc h⟩
  | sc _ hw' h'=>exact⟨H,.sc _ _ hw' h',.ld _ _ hw hc h⟩
  | qu _ hw' hc' h'=>exact⟨H,.qu _ _ hw' hc' h',.ld _ _ hw hc h⟩
  | al e ei hw' hc' ho he hz hp hd=>exact⟨_,.al _ e ei hw' hc' ho he hz hp hd,.ld _ _ hw hc (by rw[Zx (hmi hc')];exact h)⟩
  | bo e x hw' hc' ho hp hd=>exact⟨_,.bo _ e x hw' hc' ho hp hd,.ld _ _ hw hc (by rw[Zx (hmi hc')];exact h)⟩
  | ef _ M hw' hc' h' hl=>rw[hc,hc']at hpm;cases hpm
  | st _ b hw' hc' h' hs=>exact⟨_,.st _ _ b hw' hc' h' hs,.ld _ _ hw hc (by rw[Zx (htj hc')];exact h)⟩
  | ld _ hw' hc' h'=>exact⟨H,.ld _ _ hw' hc' h',.ld _ _ hw hc h⟩
  | tk _ M hw' hc' h' hl=>exact⟨_,.tk _ _ M hw' hc' h' hl,.ld _ _ hw hc (by rw[Zbp (hli hc)];exact h)⟩
 |tk _ M hw hc h hl=>
  cases hj with
  | pass hw'=>exact⟨H,.pass _ hw',.tk _ _ M hw hc h hl⟩
  | sc _ hw' h'=>exact⟨H,.sc _ _ hw' h',.tk _ _ M hw hc h hl⟩
  | qu _ hw' hc' h'=>rw[hc,hc']at hpm;cases hpm
  | al e ei hw' hc' ho he hz hp hd=>have hlt:=hlj hc';(have hd':H.bx[n0+j]? = some .dead:=by simp only[VR]at hd;rwa [List.getElem?_append_left hlt]at hd);refine⟨_,.al _ e ei hw' hc' ho he hz hp hd',?_⟩;(have hlen:∀B:Box,(Ym H (n0+j) B).bx.length=H.bx.length:=fun B=>by simp[Ym]);rw[← Vw hlt];exact .tk _ _ M hw hc (by rw[Zx (hmi hc'),hlen];exact h) (by rw[hlen];exact hl)
  | bo e x hw' hc' ho hp hd=>have hlt:=hlj hc';(have hd':H.bx[n0+j]? = some .dead:=by simp only[VR]at hd;rwa [List.getElem?_append_left hlt]at hd);refine⟨_,.bo _ e x hw' hc' ho hp hd',?_⟩;(have hlen:∀B:Box,(Ym H (n0+j) B).bx.length=H.bx.length:=fun B=>by simp[Ym]);rw[← Vw hlt];exact .tk _ _ M hw hc (by rw[Zx (hmi hc'),hlen];exact h) (by rw[hlen];exact hl)
  | ef _ M' hw' hc' h' hl'=>rw[hc,hc']at hpm;cases hpm
  | st _ b hw' hc' h' hs=>rw[hc,hc']at hpm;cases hpm
  | ld _ hw' hc' h'=>exact⟨H,.ld _ _ hw' hc' (by rw[Zbp (hlj' hc')]at h';exact h'),.tk _ _ M hw hc h hl⟩
  | tk _ M' hw' hc' h' hl'=>rw[hc,hc']at hpm;cases hpm
end
section
variable {E:Env} {P:Program} {g g':Gh} {n:Nat} {tm:TM} {H M:Heap} {a:Act} {w w':World} {l:List Nat}
theorem Wt (l:List Nat) (H:Heap) (i:Nat):(ZQ l H).bx[i]? = if i∈l∧i<H.bx.length then some .dead else H.bx[i]? :=Wz l H.bx i
theorem Y6 (l:List Nat) (H M:Heap) (hl:H.bx.length≤M.bx.length) (i:Nat):(Xd l H M).bx[i]? = if i∈l∧i<H.bx.length then H.bx[i]? else M.bx[i]? :=Ww _ _ _ hl i
theorem Vj (h:(ZQ l H).bx[i]? = some b) (hb:b≠ .dead):H.bx[i]? = some b∧i∉l:=by rw[Wt]at h;split at h;{simp only[Option.some.injEq]at h;exact(hb h.symm).elim};{rename_i hn;exact⟨h,fun hi=>hn ⟨hi,Zz h⟩⟩}
theorem YM (h:(ZQ l H).liveAt i):H.liveAt i∧i∉l:=by
 obtain⟨b,hb,ha⟩:=h;have hd:b≠ .dead:=fun e=>by subst e;exact ha
 exact⟨⟨b,(Vj hb hd).1,ha⟩,(Vj hb hd).2⟩
theorem Zge (hi:Inv g H w) (l:List Nat):Inv g (ZQ l H) w where
 st:=hi.st
 bx id es el h:=hi.bx id es el (Vj h (by simp)).1
 mp id es h:=hi.mp id es (Vj h (by simp)).1
 sp id T cs h:=hi.sp id T cs (Vj h (by simp)).1
 inj i j b h1 h2:=hi.inj i j b (YM h1).1 (YM h2).1
 sd id h:=hi.sd id (by simpa[ZQ,Yr] using h)
 td:=hi.td
 tk t b lo hi' h1 h2:=let ⟨a,b,c⟩:=hi.tk t b lo hi' h1 h2;⟨a,b,fun id hl=>c id (YM hl).1⟩
 tinj:=hi.tinj
 nd:=hi.nd
 lt:=hi.lt
 sz:=hi.sz
 ro:=by simpa[ZQ,Yr] using hi.ro
 rm id b c T m h:=hi.rm id b c T m (YM h).1
theorem UA (h:Rel E g n tm H a w) (l:List Nat):Rel E g n tm (ZQ l H) a w:=⟨h.sz,h.tm,Zge h.inv l,h.gl,h.df⟩
theorem Za9 (l:List Nat) (H:Heap):Xd l H (ZQ l H)=H:=by refine Heap.ext' (List.ext_getElem? fun i=>?_) rfl rfl rfl;rw[Y6 _ _ _ (by simp[ZQ,Yr]),Wt];split<;>rfl
theorem ZjK {l:List Nat} {H:Heap} {s:Nat} (hs:s∉l):Xd l H (Ym (ZQ l H) s b)=Ym H s b:=by
 refine Heap.ext' (List.ext_getElem? fun i=>?_) rfl rfl rfl;have hl:H.bx.length≤(Ym (ZQ l H) s b).bx.length:=by simp[Ym,ZQ,Yr]
 rw[Y6 _ _ _ hl];by_cases e:i=s;{subst e;rw[if_neg (fun h=>hs h.1)];simp only[Ym,ZQ];by_cases h2:i<H.bx.length;{rw[List.getElem?_set_self (by rw[Yr];exact h2),List.getElem?_set_self h2]};{rw[List.getElem?_eq_none (by simp[Yr];omega),List.getElem?_eq_none (by simp;omega)]}}
 ·have e1:(Ym H s b).bx[i]? = H.bx[i]? :=by simp[Ym,List.getElem?_set_ne (Ne.symm e)]
  have e2:(Ym (ZQ l H) s b).bx[i]? = (ZQ l H).bx[i]? :=by simp[Ym,List.getElem?_set_ne (Ne.symm e)]
  rw[e1,e2,Wt];split<;>rfl
theorem Shut.mask {b:Nat} (h:Shut g H b) (l:List Nat):Shut g (ZQ l H) b:=⟨fun id hro hl=>h.1 id hro (YM hl).1,h.2⟩
theorem W5 (hi:Inv g H w) (hsl:∀k,k∈l→H.ro≤k) (k:Keep g (ZQ l H) w g' M w') (hm:Inv g' M w') (hl:H.bx.length≤M.bx.length):Inv g' (Xd l H M) w'∧Keep g H w g' (Xd l H M) w':=by
 have hin:∀id,id∈l→H.liveAt id→∀b,g.σ id=some b→Shut g (ZQ l H) b:=fun id hid hl b hσ=>by refine⟨fun id' _ hl' hσ'=>?_,fun t lo hi' ht hτ=>(hi.tk t b lo hi' ht hτ).2.2 id hl hσ⟩;obtain⟨h1,h2⟩:=YM hl';have:=hi.inj id id' b hl h1 hσ hσ';subst this;exact h2 hid
 have hlt:∀id,H.liveAt id→id<H.bx.length:=fun id ⟨b,hb,_⟩=>Zz hb;have hlive:∀id,(Xd l H M).liveAt id→(id∈l∧H.liveAt id)∨(M.liveAt id∧¬ (id∈l∧id<H.bx.length)):=fun id ⟨b,hb,ha⟩=>by rw[Y6 _ _ _ hl]at hb;split at hb;{rename_i h;exact .inl ⟨h.1,b,hb,ha⟩};{rename_i h;exact .inr ⟨⟨b,hb,ha⟩,h⟩}
 have hold:∀id,H.liveAt id→∃b,g.σ id=some b:=fun id ⟨b,hb,ha⟩=>by
  cases b with
  | cells es el=>obtain⟨b,_,_,h,_⟩:=hi.bx _ _ _ hb;exact⟨b,h⟩
  | map es=>obtain⟨b,_,_,h,_⟩:=hi.mp _ _ hb;exact⟨b,h⟩
  | sp T cs=>obtain⟨b,_,h,_⟩:=hi.sp _ _ _ hb;exact⟨b,h⟩
  | dead=>exact ha.elim
 have hdiff:∀i j b,i∈l→H.liveAt i→M.liveAt j→¬ (j∈l∧j<H.bx.length)→g'.σ i=some b→g'.σ j=some b→i=j:=fun i j b hil hi1 hj hjn h1 h2=>by
  obtain⟨bi,hbi⟩:=hold i hi1
  have e1:=k.le.σ _ _ hbi
  rw[h1]at e1
  cases e1
  cases e:g.σ j with
  | none =>
    rcases k.new j b e h2 with h|⟨id',_,h4,h5⟩
    · have:=hi.sz _ _ hbi;omega
    · obtain⟨h6, h7⟩ := YM h4
      have:=hi.inj i id' b hi1 h6 hbi h5
      subst this
      exact(h7 hil).elim
  | some bj =>
    have e2:=k.le.σ _ _ e
    rw[h2]at e2
    cases e2
    have hml:=k.al j b e hj
    obtain⟨hjl,hjn'⟩:=YM hml
    exact hi.inj i j b hi1 hjl hbi e
 refine⟨⟨hm.st,?_,?_,?_,?_,?_,hm.td,?_,hm.tinj,hm.nd,hm.lt,hm.sz,?_,?_⟩,⟨k.le,fun b hb h=>k.heap b hb (h.mask l),fun b hb h=>k.store b hb (h.mask l),k.size,fun id b h h'=>(k.new id b h h').imp (fun h=>h) fun ⟨id',a,b,c⟩=>⟨id',a,(YM b).1,c⟩,k.tnew,k.ro,?_,?_,k.nt,k.lv,?_,fun id h=>k.ns id (by simpa[ZQ,Yr] using h),k.so⟩⟩;{intro id es el h;rw[Y6 _ _ _ hl]at h;split at h;{rename_i hc;obtain⟨b,c,T,h1,h2,h3,h4,h5,h6⟩:=hi.bx id es el h;have hb:=hi.sz _ _ h1;have hs:=hin id hc.1 ⟨_,h,trivial⟩ b h1;exact⟨b,c,T,k.le.σ _ _ h1,by rw[k.heap b hb hs];exact h2,h3,h4,fun i hi' j hj=>let ⟨v,e,x⟩:=h5 i hi' j hj;⟨v,e,x.mono k.le⟩,fun o=>by rw[k.store b hb hs];exact h6 o⟩};{exact hm.bx id es el h}};{intro id es h;rw[Y6 _ _ _ hl]at h;split at h;{rename_i hc;obtain⟨b,c,T,h1,h2,h3,h4,h5⟩:=hi.mp id es h;have hb:=hi.sz _ _ h1;have hs:=hin id hc.1 ⟨_,h,trivial⟩ b h1;exact⟨b,c,T,k.le.σ _ _ h1,by rw[k.heap b hb hs];exact h2,h3,fun i hi'=>let ⟨e,a,x,y⟩:=h4 i hi';⟨e,a,x.mono k.le,y.mono k.le⟩,fun o=>by rw[k.store b hb hs];exact h5 o⟩};{exact hm.mp id es h}};{intro id T cs h;rw[Y6 _ _ _ hl]at h;split at h;{rename_i hc;obtain⟨b,c,h1,h2,h3,h4,h5⟩:=hi.sp id T cs h;have hb:=hi.sz _ _ h1;have hs:=hin id hc.1 ⟨_,h,trivial⟩ b h1;exact⟨b,c,k.le.σ _ _ h1,by rw[k.heap b hb hs];exact h2,h3,fun j hj=>let ⟨v,e,x⟩:=h4 j hj;⟨v,e,x.mono k.le⟩,fun o=>by rw[k.store b hb hs];exact h5 o⟩};{exact hm.sp id T cs h}};{intro i j b h1 h2 h3 h4;rcases hlive i h1 with⟨i1,i2⟩|⟨i1,i2⟩<;>rcases hlive j h2 with⟨j1,j2⟩|⟨j1,j2⟩;{obtain⟨bi,hbi⟩:=hold i i2;obtain⟨bj,hbj⟩:=hold j j2;have e1:=k.le.σ _ _ hbi;have e2:=k.le.σ _ _ hbj;rw[h3]at e1;cases e1;rw[h4]at e2;cases e2;exact hi.inj i j b i2 j2 hbi hbj};{exact hdiff i j b i1 i2 j1 j2 h3 h4};{exact(hdiff j i b j1 j2 i1 i2 h4 h3).symm};{exact hm.inj i j b i1 j1 h3 h4}};{intro id h;exact hm.sd id (by simpa[Xd,Vq] using h)}
 ·intro t b lo hi' h1 h2;obtain⟨x,y,z⟩:=hm.tk t b lo hi' h1 h2;refine⟨x,y,fun id hl' hσ=>?_⟩;rcases hlive id hl' with⟨i1,i2⟩|⟨i1,_⟩
  ·obtain⟨bi,hbi⟩:=hold id i2;have e1:=k.le.σ _ _ hbi;rw[hσ]at e1;cases e1;have hs:=hin id i1 i2 b hbi;have hbs:=hi.sz _ _ hbi;cases e:g.τ t with
   | none=>rcases k.tnew t b lo hi' e h2 with h|⟨t',lo',hi2,h3,h4⟩;{omega};{exact hs.2 t' lo' hi2 h3 h4}
   | some x=>have e2:=k.le.τ _ _ e;rw[h2]at e2;cases e2;rcases k.lv t h1 with h|h;{exact hs.2 t lo hi' h e};{have:=hi.td t h;rw[this]at e;cases e}
  {exact z id i1 hσ}
 {simpa[Xd,Vq] using hm.ro};{intro id b c T m h1 h2 h3;rcases hlive id h1 with⟨i1,i2⟩|⟨i1,_⟩;{obtain⟨bi,hbi⟩:=hold id i2;have e1:=k.le.σ _ _ hbi;rw[h2]at e1;cases e1;rw[k.le.κ _ _ hbi];rw[k.heap b (hi.sz _ _ hbi) (hin id i1 i2 b hbi)]at h3;exact hi.rm id b c T m i2 hbi h3};{exact hm.rm id b c T m i1 h2 h3}};{simpa[Xd,Vq] using hl}
 ·intro id h;rw[Y6 _ _ _ hl];have hnl:id∉l:=fun hid=>by have:=hsl id hid;omega
  rw[if_neg (fun hc=>hnl hc.1),k.bx id h,Wt,if_neg (fun hc=>hnl hc.1)]
 {intro id b h h';rcases hlive id h' with⟨_,i2⟩|⟨i1,_⟩;{exact i2};{exact(YM (k.al id b h i1)).1}}
theorem Zfi (hi:Inv g H w) {id:Nat} (hid:H.bx[id]? = some .dead) (hσ:g.σ id=none) (hro:H.ro≤id) (ob:Obj) (bo:Box) (_hz:ZnP ob) (hc:∀es el,bo= .cells es el→∃c T,ob= .cells c T (0,0)∧(∀i (hi:i<el.length),(el[i]).length=es)∧el.length*es≤c.size∧∀i (hi:i<el.length) j (hj:j<(el[i]).length),∃v,c[i*es+j]? = some v∧V g ((el[i])[j]) v) (hm:∀es,bo≠ .map es) (N:Nat) (hN:N≤id) (hsp:∀T cs,bo≠ .sp T cs:=by intro T cs h;cases h):Inv (g.link id w.heap.size) (Ym H id bo) (w.alloc ob)∧KeepN N g H w (g.link id w.heap.size) (Ym H id bo) (w.alloc ob):=by
 have hidlt:=Zz hid;have hle:g.Le (g.link id w.heap.size):=⟨fun _ _ _ h=>h,fun i b h=>by
  simp only[Gh.link]
  split
  · rename_i e;subst e;rw[hσ]at h;cases h
  · exact h,fun _ _ h=>h,fun i b h=>by
  simp only[Gh.link]
  rw[if_neg (fun e=>by subst e;rw[hσ]at h;cases h)],rfl⟩
 have hσo:∀i,i≠id→(g.link id w.heap.size).σ i=g.σ i:=fun i h=>by simp[Gh.link,h]
 have hσn:(g.link id w.heap.size).σ id=some w.heap.size:=by simp[Gh.link]
 have hget:∀i,i≠id→(Ym H id bo).bx[i]? = H.bx[i]? :=fun i h=>by simp[Ym,List.getElem?_set_ne (Ne.symm h)]
 have hgetn:(Ym H id bo).bx[id]? = some bo:=by simp[Ym,hidlt]
 have hlive:∀i,(Ym H id bo).liveAt i→(i≠id∧H.liveAt i)∨i=id:=fun i ⟨x,hx,ha⟩=>by by_cases e:i=id;{exact .inr e};{rw[hget i e]at hx;exact .inl ⟨e,x,hx,ha⟩}
 refine⟨⟨?_,?_,?_,?_,?_,?_,hi.td,?_,hi.tinj,hi.nd,hi.lt,?_,?_,?_⟩,⟨hle,?_,fun _ _ _ _=>rfl,?_,?_,?_,rfl,?_,?_,Nat.le_refl _,fun _ h=> .inl h,?_,fun i h h'=>(hσo i (by omega)).trans h',.rfls⟩⟩;{intro b o v h;rw[cell_of_heap (Zq w ob (hi.S_lt h))];exact hi.st _ _ _ h};{intro i es el h;by_cases e:i=id;{subst e;rw[hgetn]at h;obtain⟨c,T,rfl,h3,h4,h5⟩:=hc es el (by simpa using h);exact⟨_,c,T,hσn,Z5 w _,h3,h4,fun i hi' j hj=>let ⟨v,e,x⟩:=h5 i hi' j hj;⟨v,e,x.mono hle⟩,fun o=>hi.S_new (Nat.le_refl _)⟩};{rw[hget i e]at h;obtain⟨b,c,T,h1,h2,h3,h4,h5,h6⟩:=hi.bx i es el h;exact⟨b,c,T,by rw[hσo i e];exact h1,by rw[Zq w ob (hi.sz _ _ h1)];exact h2,h3,h4,fun i hi' j hj=>let ⟨v,e,x⟩:=h5 i hi' j hj;⟨v,e,x.mono hle⟩,h6⟩}};{intro i es h;by_cases e:i=id;{subst e;rw[hgetn]at h;exact(hm es (by simpa using h)).elim};{rw[hget i e]at h;obtain⟨b,c,T,h1,h2,h3,h4,h5⟩:=hi.mp i es h;exact⟨b,c,T,by rw[hσo i e];exact h1,by rw[Zq w ob (hi.sz _ _ h1)];exact h2,h3,fun i hi'=>let ⟨e,a,x,y⟩:=h4 i hi';⟨e,a,x.mono hle,y.mono hle⟩,h5⟩}};{intro i T cs h;by_cases e:i=id;{subst e;rw[hgetn]at h;exact(hsp T cs (by simpa using h)).elim};{rw[hget i e]at h;obtain⟨b,c,h1,h2,h3,h4,h5⟩:=hi.sp i T cs h;exact⟨b,c,by rw[hσo i e];exact h1,by rw[Zq w ob (hi.sz _ _ h1)];exact h2,h3,fun j hj=>let ⟨v,e,x⟩:=h4 j hj;⟨v,e,x.mono hle⟩,h5⟩}};{intro i j b h1 h2 h3 h4;rcases hlive i h1 with⟨l1,h1⟩|rfl<;>rcases hlive j h2 with⟨l2,h2⟩|rfl;{rw[hσo _ l1]at h3;rw[hσo _ l2]at h4;exact hi.inj i j b h1 h2 h3 h4};{rw[hσo _ l1]at h3;rw[hσn]at h4;cases h4;have:=hi.sz _ _ h3;omega};{rw[hσo _ l2]at h4;rw[hσn]at h3;cases h3;have:=hi.sz _ _ h4;omega};{rfl}}
 ·intro i h;have h:H.bx.length≤i:=by simpa[Ym] using h
  rw[hσo i (by omega)];exact hi.sd i h
 ·intro t b lo hi' h1 h2;obtain⟨⟨c,T,h3,h4⟩,h5,h6⟩:=hi.tk t b lo hi' h1 h2;have hb:b<w.heap.size:=by rcases Nat.lt_or_ge b w.heap.size with h|h;{exact h};{simp[Array.getElem?_eq_none h]at h3}
  refine⟨⟨c,T,by rw[Zq w ob hb];exact h3,h4⟩,h5,fun i hl=>?_⟩;rcases hlive i hl with⟨l,hl⟩|rfl;{rw[hσo _ l];exact h6 i hl};{rw[hσn];intro e;cases e;omega}
 {intro i b h;rw[World.size_alloc];by_cases e:i=id;{subst e;rw[hσn]at h;cases h;omega};{rw[hσo i e]at h;have:=hi.sz _ _ h;omega}};{simpa[Ym] using hi.ro};{intro i b c T m h1 h2 h3;rcases hlive i h1 with⟨l,h1⟩|rfl;{rw[hσo i l]at h2;rw[Zq w ob (hi.sz _ _ h2)]at h3;simp only[Gh.link];rw[if_neg l];exact hi.rm i b c T m h1 h2 h3};{simp[Gh.link]}};{intro b hb _;exact Zq w ob hb};{rw[World.size_alloc];omega};{intro i b h h';by_cases e:i=id;{subst e;rw[hσn]at h';cases h';exact .inl (Nat.le_refl _)};{rw[hσo i e,h]at h';cases h'}};{intro t b lo hi' h h';rw[show(g.link id w.heap.size).τ t=g.τ t from rfl,h]at h';cases h'};{simp[Ym]};{intro i h;exact hget i (by omega)};{intro i b h h';rcases hlive i h' with⟨_,h'⟩|rfl;{exact h'};{rw[hσ]at h;cases h}}
end
