/-
  Calls: by the code of the function that is called. Regions that draw their order: what an operation looks at. Regions that draw their order: two heaps that differ in slots, and the steps that commute. Slots against worlds: boxes made dead and brought back; a new box in a slot. Regions that draw their order: whatever the order, it comes to what the text's order comes to. Slots in a tree, for the kernel.
-/
import Derived.Test.YtjokjgoppbmaiaaGreatDoorFc
namespace Go.Vm
section
variable {E:Env} {P:Program} {g:Gh} {n:Nat} {tm:TM} {H:Heap} {a:Act} {w:World}
noncomputable def resA (E:Env) (tm:TM) (H:Heap):List ResultVar→Option (List PV)
 | []=>some []
 | .tmp t :: r=>match resA E tm H r with | some vs=>some (tm t :: vs) | none=>none
 | .cell a t :: r => match aLoad E t (tm a) H with
   | some v=>match resA E tm H r with | some vs=>some (v :: vs) | none=>none
   | none=>none
def resOne (tmps:Array Value):ResultVar→Sem Value
 | .tmp t=>pure (tmps.getD t undef)
 | .cell x t=>do loadVar t (← asAddr (tmps.getD x undef))
theorem results_eq (fn:Func) (tmps:Array Value):results fn tmps=(fn.results.mapM (resOne tmps) >>= fun vs=>pure (if h:vs.size=1 then vs[0] else .tuple vs)):=by
 unfold results
 congr 2
theorem resA_ok (hE : TOk E P) (hr : Rel E g n tm H a w) : ∀ {l : List ResultVar} {ps : List PV}, resA E tm H l = some ps →
  ∃ vs:List Value,(l.mapM (resOne a.tmps)).run P w= .ok vs w∧VL g ps vs
 | [], ps, h => by
   simp only [resA,Option.some.injEq] at h
   subst h
   exact ⟨[],by simp,rfl,fun i hi=>absurd hi (by simp)⟩
 | .tmp t :: r, ps, h => by
   simp only [resA] at h
   split at h
   · rename_i vs hvs
     cases h
     obtain ⟨us,h1,h2⟩:=resA_ok hE hr hvs
     refine ⟨a.tmps.getD t undef :: us,by simp [List.mapM_cons,resOne,h1],VL.append (a:=[tm t]) (x:=[a.tmps.getD t undef]) ⟨rfl,fun i hi hj=> ?_⟩ h2⟩
     obtain rfl:i=0:=by simp at hi;omega
     exact hr.tm t
   · cases h
 | .cell x t :: r, ps, h => by
   simp only [resA] at h
   split at h
   · rename_i v hv
     split at h
     · rename_i vs hvs
       cases h
       obtain ⟨us,h1,h2⟩:=resA_ok hE hr hvs
       obtain ⟨u,h3,h4⟩:=load_ok (w:=w) hE hr.inv (hr.tm x) hv
       have h5:(resOne a.tmps (.cell x t)).run P w= .ok u w:=by
        have e:∃ ad,a.tmps.getD x undef= .pointer (some ad):=by
         cases hc:a.tmps.getD x undef with
         | pointer o =>
           cases o with
           | some ad=>exact ⟨ad,rfl⟩
           | none=>rw [hc] at h3;simp [Instr.loadAt,Instr.sureAddr,stuck,Sem.run] at h3
         | _=>rw [hc] at h3;simp [Instr.loadAt,Instr.sureAddr,stuck,Sem.run] at h3
        obtain ⟨ad,e⟩:=e
        rw [e] at h3
        simpa [resOne,e,Instr.loadAt,Instr.sureAddr,asAddr] using h3
       refine ⟨u :: us,by simp [List.mapM_cons,h5,h1],VL.append (a:=[v]) (x:=[u]) ⟨rfl,fun i hi hj=> ?_⟩ h2⟩
       obtain rfl:i=0:=by simp at hi;omega
       exact h4
     · cases h
   · cases h
theorem results_ok (hE : TOk E P) (hr : Rel E g n tm H a w) {fn : Func} {ps : List PV} (h : resA E tm H fn.results.toList = some ps) :
  ∃ v,(results fn a.tmps).run P w= .ok v w∧V g (one ps) v:=by
 obtain ⟨vs,h1,h2⟩:=resA_ok hE hr h
 have hm:(fn.results.mapM (resOne a.tmps)).run P w= .ok vs.toArray w:=by
  rw [Array.mapM_eq_mapM_toList,Sem.run_map,h1];rfl
 refine ⟨if h:vs.toArray.size=1 then vs.toArray[0] else .tuple vs.toArray,?_,?_⟩
 · rw [results_eq, Sem.run_bind, hm]
   rfl
 · have hl := h2.1
   match ps,vs,hl,h2 with
   | [p],[v],_,h2=>simpa [one] using h2.2 0 (by simp) (by simp)
   | [],[],_,h2=>exact V.unset g
   | p :: q :: r, v :: u :: s, _, h2 =>
     simp only [one]
     rw [dif_neg (by simp)]
     exact .tup _ _ (by simpa using h2.1) fun i hi=>by simpa using h2.2 i hi (by have:=h2.1;omega)
noncomputable def retG (g:Gh) (w w':World):Gh:={g with S:=fun b o=>if b < w.heap.size then g.S b o else w'.cell? ⟨b,o,none⟩}
def inner (H:Heap):Heap:={bx:=H.bx,ro:=H.bx.length,live:=[],nt:=H.nt}
theorem inner_shut (g:Gh) (H:Heap) (b:Nat):Shut g (inner H) b:=by
 refine ⟨fun id hro hl=> ?_,fun t lo hi ht=> ?_⟩
 · obtain ⟨x, hx, _⟩ := hl
   have:id < H.bx.length:=get_lt hx
   have hro:H.bx.length≤id:=hro
   omega
 · simp [inner] at ht
theorem inner_inv (hi:Inv g H w):Inv g (inner H) w where
 st:=hi.st
 bx:=hi.bx
 mp:=hi.mp
 sp:=hi.sp
 inj:=hi.inj
 sd:=hi.sd
 td:=hi.td
 tk t b lo hi' h:=by simp [inner] at h
 tinj t t' b lo hi' lo' hi2 h:=by simp [inner] at h
 nd:=List.nodup_nil
 lt t h:=by simp [inner] at h
 sz:=hi.sz
 ro:=Nat.le_refl _
 rm:=hi.rm
theorem return_inv (hi : Inv g H w) {g' : Gh} {H' : Heap} {w' : World} (k : Keep g (inner H) w g' H' w') :
  Inv (retG g w w') H w'∧Keep g H w (retG g w w') H w'∧∀ b o v,g'.S b o=some v→w'.cell? ⟨b,o,none⟩=some v→(retG g w w').S b o=some v:=by
 have hh:∀ b,b < w.heap.size→w'.heap[b]? = w.heap[b]? :=fun b hb=>k.heap b hb (inner_shut g H b)
 have hS:∀ b o,b < w.heap.size→(retG g w w').S b o=g.S b o:=fun b o hb=>by simp [retG,hb]
 have hle:g.Le (retG g w w'):=⟨fun b o v h=>by rw [hS b o (hi.S_lt h)];exact h,fun _ _ h=>h,fun _ _ h=>h,fun _ _ _=>rfl,rfl⟩
 refine ⟨⟨?_,?_,?_,?_,hi.inj,hi.sd,hi.td,?_,hi.tinj,hi.nd,hi.lt,?_,hi.ro,fun id b c T m h1 h2 h3=>hi.rm id b c T m h1 h2 (by rw [← hh b (hi.sz _ _ h2)];exact h3)⟩,⟨hle,fun b hb _=>hh b hb,fun b hb _ o=>hS b o hb,k.size,?_,?_,rfl,Nat.le_refl _,fun _ _=>rfl,Nat.le_refl _,fun _ h=> .inl h,fun _ _ _ h=>h,fun _ _ h=>h,k.so⟩,?_⟩
 · intro b o v h
   by_cases hb:b < w.heap.size
   · rw [hS b o hb] at h
     rw [cell_of_heap (hh b hb)]
     exact hi.st _ _ _ h
   · simpa [retG,hb] using h
 · intro id es el h
   obtain ⟨b,c,T,h1,h2,h3,h4,h5,h6⟩:=hi.bx id es el h
   have hb:=hi.sz _ _ h1
   exact ⟨b,c,T,h1,by rw [hh b hb];exact h2,h3,h4,fun i hi' j hj=>let ⟨v,e,x⟩:=h5 i hi' j hj;⟨v,e,x.mono hle⟩,fun o=>by rw [hS b o hb];exact h6 o⟩
 · intro id es h
   obtain ⟨b,c,T,h1,h2,h3,h4,h5⟩:=hi.mp id es h
   have hb:=hi.sz _ _ h1
   exact ⟨b,c,T,h1,by rw [hh b hb];exact h2,h3,fun i hi'=>let ⟨e,a,x,y⟩:=h4 i hi';⟨e,a,x.mono hle,y.mono hle⟩,fun o=>by rw [hS b o hb];exact h5 o⟩
 · intro id T cs h
   obtain ⟨b,c,h1,h2,h3,h4,h5⟩:=hi.sp id T cs h
   have hb:=hi.sz _ _ h1
   exact ⟨b,c,h1,by rw [hh b hb];exact h2,h3,fun j hj=>let ⟨v,e,x⟩:=h4 j hj;⟨v,e,x.mono hle⟩,fun o=>by rw [hS b o hb];exact h5 o⟩
 · intro t b lo hi' h1 h2
   obtain ⟨⟨c,T,h3,h4⟩,h5,h6⟩:=hi.tk t b lo hi' h1 h2
   have hb:b < w.heap.size:=by
    rcases Nat.lt_or_ge b w.heap.size with h | h
    · exact h
    · simp [Array.getElem?_eq_none h] at h3
   exact ⟨⟨c,T,by rw [hh b hb];exact h3,h4⟩,fun o ho=>by rw [hS b o hb];exact h5 o ho,h6⟩
 · intro id b h
   exact Nat.lt_of_lt_of_le (hi.sz _ _ h) k.size
 · intro id b h h'
   rw [show (retG g w w').σ id=g.σ id from rfl,h] at h';cases h'
 · intro t b lo hi' h h'
   rw [show (retG g w w').τ t=g.τ t from rfl,h] at h';cases h'
 · intro b o v h h'
   by_cases hb:b < w.heap.size
   · rw [hS b o hb, ← k.store b hb (inner_shut g H b) o];exact h
   · simpa [retG,hb] using h'
section frz
variable {g':Gh} {H':Heap} {w':World} {S:Store}
theorem frzC_ok (hi' : Inv g' H' w') {m : Nat} (hS : ∀ b o v, g'.S b o = some v → S b o = some v) (hO : ∀ id b o v, m ≤ id → g'.σ id = some b → w'.cell? ⟨b, o, none⟩ = some v → S b o = some v)
  {p r:PV} {v:Value} (hp:V g' p v) (h:frzC m H' p=some r):V0 S r v:=by
 unfold frzC at h
 split at h
 · rename_i id es ix len
   split at h
   · cases h
   · rename_i hid
     rw [nth_eq] at h
     split at h
     · rename_i es' el hb
       split at h
       · rename_i hcond
         obtain ⟨rfl,hle⟩:=hcond
         split at h
         · rename_i el' hf
           cases h
           obtain ⟨b,cap,ad,hσ,hc,ha,hsp,rfl⟩:=hp.own_inv
           obtain ⟨b',c,T,h1,h2,h3,h4,h5,h6⟩:=hi'.bx _ _ _ hb
           rw [hσ] at h1;cases h1
           obtain ⟨f1,f2⟩:=frzLL_ok hf
           have hl:el'.length=len:=by rw [f1];simp;omega
           subst hl
           obtain ⟨ab,ao,asp⟩:=ad
           simp only at hsp
           subst hsp
           by_cases h0:el'.length=0
           · exact .sl .none es el' ⟨ab,ao,none⟩ ab ao cap (fun _ _=>undef) (fun _=>rfl) (.inl rfl) hc (fun i hi=>by omega) (fun i j hi=>by omega) (fun i hi=>by omega)
           · have := ha (by omega)
             cases this
             have hrow:∀ i (hi:i < el'.length),(el'[i]).length=es∧∀ j (hj:j < (el'[i]).length),∃ u,c[(ix+i) * es+j]? = some u∧V0 S ((el'[i])[j]) u:=fun i hi=>by
              have hi2:ix+i < el.length:=by omega
              have e1:((el.drop ix).take el'.length)[i]'(by simp;omega)=el[ix+i]:=by simp
              have q:=f2 i (by simp;omega) hi
              rw [e1] at q
              obtain ⟨q1,q2⟩:=frzL_ok q
              have hw:(el'[i]).length=es:=by rw [q1];exact h3 _ hi2
              refine ⟨hw,fun j hj=> ?_⟩
              obtain ⟨u,x1,x2⟩:=h5 (ix+i) hi2 j (by rw [h3 _ hi2];omega)
              exact ⟨u,x1,(frz1_ok x2 (q2 j (by rw [h3 _ hi2];omega) hj)).mono hS⟩
             refine .sl .none es el' ⟨b,ix * es,none⟩ b (ix * es) cap (fun i j=>(c[(ix+i) * es+j]?).getD undef) (fun _=>rfl) (.inl rfl) hc (fun i hi=>(hrow i hi).1) (fun i j hi hj=> ?_) (fun i hi j hj=> ?_)
             · obtain ⟨u, x1, -⟩ := (hrow i hi).2 j (by rw [(hrow i hi).1]; exact hj)
               refine hO id b _ _ (by omega) hσ ?_
               have e2:ix * es+i * es+j=(ix+i) * es+j:=by rw [Nat.add_mul]
               simp [World.cell?,h2,e2,x1]
             · obtain ⟨u, x1, x2⟩ := (hrow i hi).2 j hj
               simpa only [x1,Option.getD_some] using x2
         · cases h
       · cases h
     · cases h
 · exact (frz1_ok hp h).mono hS
theorem frzCL_ok {m:Nat}:∀ {cs cs':List PV},frzCL m H' cs=some cs'→cs'.length=cs.length∧∀ i (hi:i < cs.length) (hi':i < cs'.length),frzC m H' cs[i]=some cs'[i]
 | [],cs',h=>by simp only [frzCL,Option.some.injEq] at h;subst h;exact ⟨rfl,fun i hi=>absurd hi (by simp)⟩
 | c :: cs, cs', h => by
   simp only [frzCL] at h
   split at h
   · rename_i c' hc
     split at h
     · rename_i r' hr
       cases h
       obtain ⟨h1,h2⟩:=frzCL_ok hr
       refine ⟨by simp [h1],fun i hi hi'=> ?_⟩
       cases i with
       | zero=>simpa using hc
       | succ i=>exact h2 i (by simpa using hi) (by simpa using hi')
     · cases h
   · cases h
theorem frz2_ok (hi' : Inv g' H' w') {m : Nat} (hS : ∀ b o v, g'.S b o = some v → S b o = some v) (hO : ∀ id b o v, m ≤ id → g'.σ id = some b → w'.cell? ⟨b, o, none⟩ = some v → S b o = some v)
  {p r:PV} {v:Value} (hp:V g' p v) (h:frz2 m H' p=some r):V0 S r v:=by
 unfold frz2 at h
 split at h
 · rename_i cs
   split at h
   · rename_i cs' hc
     cases h
     obtain ⟨vs,hl,rfl,hv⟩:=hp.agg_inv
     obtain ⟨f1,f2⟩:=frzCL_ok hc
     exact .agg _ _ (by omega) fun i hi=>frzC_ok hi' hS hO (hv i (by omega)) (f2 i (by omega) hi)
   · cases h
 · exact frzC_ok hi' hS hO hp h
theorem frz2L_ok {m:Nat}:∀ {cs cs':List PV},frz2L m H' cs=some cs'→cs'.length=cs.length∧∀ i (hi:i < cs.length) (hi':i < cs'.length),frz2 m H' cs[i]=some cs'[i]
 | [],cs',h=>by simp only [frz2L,Option.some.injEq] at h;subst h;exact ⟨rfl,fun i hi=>absurd hi (by simp)⟩
 | c :: cs, cs', h => by
   simp only [frz2L] at h
   split at h
   · rename_i c' hc
     split at h
     · rename_i r' hr
       cases h
       obtain ⟨h1,h2⟩:=frz2L_ok hr
       refine ⟨by simp [h1],fun i hi hi'=> ?_⟩
       cases i with
       | zero=>simpa using hc
       | succ i=>exact h2 i (by simpa using hi) (by simpa using hi')
     · cases h
   · cases h
theorem frz3_ok (hi' : Inv g' H' w') {m : Nat} (hS : ∀ b o v, g'.S b o = some v → S b o = some v) (hO : ∀ id b o v, m ≤ id → g'.σ id = some b → w'.cell? ⟨b, o, none⟩ = some v → S b o = some v)
  {p r:PV} {v:Value} (hp:V g' p v) (h:frz3 m H' p=some r):V0 S r v:=by
 unfold frz3 at h
 split at h
 · rename_i cs
   split at h
   · rename_i cs' hc
     cases h
     obtain ⟨vs,hl,rfl,hv⟩:=hp.tup_inv
     obtain ⟨f1,f2⟩:=frz2L_ok hc
     exact .tup _ _ (by omega) fun i hi=>frz2_ok hi' hS hO (hv i (by omega)) (f2 i (by omega) hi)
   · cases h
 · exact frz2_ok hi' hS hO hp h
end frz
theorem V.arg1 {p:PV} {v:Value} (h:V g p v):V g (arg1 p) v:=by
 unfold Vm.arg1
 split
 · rename_i tl es el
   cases h with
   | pure _ _ h=>exact .pure _ _ h.sl_none
   | tok _ _ _ _ _ _ h _=>exact .pure _ _ h
 · exact h
theorem V.argV {p:PV} {v:Value} (h:V g p v):V g (argV p) v:=by
 unfold Vm.argV
 split
 · obtain ⟨vs, hl, rfl, hv⟩ := h.agg_inv
   exact .agg _ _ (by simpa using hl) fun i hi=>by simpa using (hv i (by simpa using hi)).arg1
 · exact h.arg1
def tm0 (args:List PV):TM:=fun t=>args.getD t unset
theorem enter_rel {args : List PV} {vals : Array Value} (hi : Inv g H w) (hg : GOk E g) (hv : VL g args vals.toList) (m : Nat) :
  Rel E g m (tm0 args) H {tmps:=vals ++ Array.replicate (m - vals.size) undef,defers:=[]} w:=by
 refine ⟨by simp;omega,fun t=> ?_,hi,hg,rfl⟩
 have hl:vals.size=args.length:=by have:=hv.1;simpa using this
 simp only [tm0]
 by_cases ht:t < args.length
 · have h1 := hv.2 t ht (by simp; omega)
   have e1:args.getD t unset=args[t]:=by simp [List.getD,ht]
   have e2:(vals ++ Array.replicate (m - vals.size) undef).getD t undef=vals.toList[t]'(by simp;omega):=by
    have:t < vals.size:=by omega
    simp [Array.getD_eq_getD_getElem?,Array.getElem?_append_left this,this]
   rw [e1,e2];exact h1
 · have e1 : args.getD t unset = unset := by simp [List.getD, List.getElem?_eq_none (Nat.le_of_not_lt ht)]
   have e2:(vals ++ Array.replicate (m - vals.size) undef).getD t undef=undef:=by
    rw [Array.getD_eq_getD_getElem?,Array.getElem?_append_right (by omega),Array.getElem?_replicate]
    split <;> rfl
   rw [e1,e2];exact V.unset g
structure FnOk (P:Program) (f:FuncId) (fn:Func) (c:Code):Prop where
 get:P.funcs[f]? = some fn
 body:fn.body=some c
 name:(fn.name == "runtime.NumGoroutine")=false
theorem callFunc_enter {f:FuncId} {fn:Func} {c:Code} (h:FnOk P f fn c) (vals:Array Value):(callFunc f vals).run P w= .ok (.enter f vals) w:=by
 have hp:program.run P w= .ok P w:=rfl
 have hn:¬ fn.name= "runtime.NumGoroutine" :=by simpa using h.name
 simp [callFunc,hp,h.get,hn,h.body]
theorem callOk_pure (hE : TOk E P) {f : FuncId} {fn : Func} {c : Code} (hf : FnOk P f fn c) {args : List PV} {own : Tmp → Bool} {ex : Ex} {tm' : TM} {H' : Heap} {ps : List PV} {r : PV}
  (hc:CodeTo E P own fn.ntmps c (tm0 (args.map argV)) (inner H) ex tm' H') (hx:∀ i,ex≠ .exit i) (hres:resA E tm' H' fn.results.toList=some ps) (hfr:frz3 H.bx.length H' (one ps)=some r) :
  CallOk E P f args H r H:=by
 intro g w vals hi hg hv
 rw [callFunc_enter hf]
 simp only [UponCall]
 have hv':VL g (args.map argV) vals.toList:=⟨by simpa using hv.1,fun i hi hj=>by simpa using (hv.2 i (by simpa using hi) hj).argV⟩
 refine calls_of_wp hf.get hf.body (codeTo_ok hE hc g _ w _ (enter_rel (inner_inv hi) hg hv' fn.ntmps) fun g' a' w' hr k=> ?_).1
 obtain ⟨v,hrun,hp⟩:=results_ok hE hr hres
 obtain ⟨i1,k1,hS⟩:=return_inv hi k
 have hq:V0 (retG g w w').S r v:=frz3_ok hr.inv (fun b o v h=>hS b o v h (hr.inv.st _ _ _ h)) (fun id b o v hid hσ hcell=>by
  have hn:g.σ id=none:=hi.sd id hid
  have hb:w.heap.size≤b:=(k.new id b hn hσ).elim (fun h=>h) fun ⟨id',a,⟨x,hx,_⟩,_⟩=>by
   have h1:id' < H.bx.length:=get_lt (show H.bx[id']? = some x from hx)
   have h2:H.bx.length≤id':=a
   omega
  simp [retG,Nat.not_lt.2 hb,hcell]) hp hfr
 have hpost:∃ u,(results fn a'.tmps).run P w'= .ok u w'∧∃ v,Ending.returned u= .returned v∧∃ g'',V g'' r v∧Inv g'' H w'∧Keep g H w g'' H w':=
  ⟨v,hrun,v,rfl,retG g w w',.pure _ _ hq,i1,k1⟩
 cases ex with
 | normal=>exact ⟨hr.df,hpost⟩
 | ret=>exact ⟨hr.df,hpost⟩
 | exit i=>exact (hx i rfl).elim
theorem callOk_full (hE : TOk E P) {f : FuncId} {fn : Func} {c : Code} (hf : FnOk P f fn c) {args : List PV} {own : Tmp → Bool} {ex : Ex} {tm' : TM} {H' : Heap} {ps : List PV}
  (hc:CodeTo E P own fn.ntmps c (tm0 args) H ex tm' H') (hx:∀ i,ex≠ .exit i) (hres:resA E tm' H' fn.results.toList=some ps) :
  CallOk E P f args H (one ps) H':=by
 intro g w vals hi hg hv
 rw [callFunc_enter hf]
 simp only [UponCall]
 refine calls_of_wp hf.get hf.body (codeTo_ok hE hc g _ w _ (enter_rel hi hg hv fn.ntmps) fun g' a' w' hr k=> ?_).1
 obtain ⟨v,hrun,hp⟩:=results_ok hE hr hres
 have hpost:∃ u,(results fn a'.tmps).run P w'= .ok u w'∧∃ v,Ending.returned u= .returned v∧∃ g'',V g'' (one ps) v∧Inv g'' H' w'∧Keep g H w g'' H' w':=
  ⟨v,hrun,v,rfl,g',hp,hr.inv,k⟩
 cases ex with
 | normal=>exact ⟨hr.df,hpost⟩
 | ret=>exact ⟨hr.df,hpost⟩
 | exit i=>exact (hx i rfl).elim
end
end Go.Vm
namespace Go.Vm
section
variable {E:Env} {P:Program}
theorem aOp_congr {own:Bool} {ρ ρ':Operand→PV} {o:Op} (h:∀ x∈o.operands.toList,ρ x=ρ' x) (H:Heap):aOp E own ρ o H=aOp E own ρ' o H:=by
 have hm:∀ (ps:Array (Nat×Operand)),(∀ x∈(ps.toList.map (·.2)),ρ x=ρ' x)→(ps.toList.map fun p=>(p.1,ρ p.2))=ps.toList.map fun p=>(p.1,ρ' p.2):=fun ps hp=>
  List.map_congr_left fun p hp'=>by rw [hp p.2 (List.mem_map.2 ⟨p,hp',rfl⟩)]
 have ho:∀ (x:Option Operand),(∀ y∈x.toArray.toList,ρ y=ρ' y)→optV ρ x=optV ρ' x:=fun x hx=>by
  cases x with
  | none=>rfl
  | some y=>simp only [optV];rw [hx y (by simp)]
 cases o with
 | move x=>simp only [aOp];rw [h x (by simp [Op.operands])]
 | assign x=>simp only [aOp];rw [h x (by simp [Op.operands])]
 | pick c a b=>simp only [aOp];rw [h c (by simp [Op.operands]),h a (by simp [Op.operands]),h b (by simp [Op.operands])]
 | box e x=>simp only [aOp];rw [h x (by simp [Op.operands])]
 | build t ps=>simp only [aOp];rw [hm ps (fun x hx=>h x (by simpa [Op.operands] using hx))]
 | buildSlice t n ps=>simp only [aOp];rw [hm ps (fun x hx=>h x (by simpa [Op.operands] using hx))]
 | load t a=>simp only [aOp];rw [h a (by simp [Op.operands])]
 | store t a v=>simp only [aOp];rw [h a (by simp [Op.operands]),h v (by simp [Op.operands])]
 | nilCheck x=>simp only [aOp];rw [h x (by simp [Op.operands])]
 | binOp op t x y yt=>simp only [aOp];rw [h x (by simp [Op.operands]),h y (by simp [Op.operands])]
 | unOp op t x=>simp only [aOp];rw [h x (by simp [Op.operands])]
 | convert s d x=>simp only [aOp];rw [h x (by simp [Op.operands])]
 | makeFunc f fi ca =>
   have:ca.toList.map ρ=ca.toList.map ρ':=List.map_congr_left fun x hx=>h x (by simp [Op.operands];exact .inr (by simpa using hx))
   cases f <;> simp only [aOp]
   rw [this]
 | slice t x lo hi mx =>
   simp only [aOp]
   rw [h x (by simp [Op.operands]),ho lo (fun y hy=>h y (by simp [Op.operands] at hy ⊢;simp [hy])),ho hi (fun y hy=>h y (by simp [Op.operands] at hy ⊢;simp [hy])),ho mx (fun y hy=>h y (by simp [Op.operands] at hy ⊢;simp [hy]))]
 | fieldAddr t x f=>simp only [aOp];rw [h x (by simp [Op.operands])]
 | field t x f=>simp only [aOp];rw [h x (by simp [Op.operands])]
 | indexAddr t x i=>simp only [aOp];rw [h x (by simp [Op.operands]),h i (by simp [Op.operands])]
 | index t x i=>simp only [aOp];rw [h x (by simp [Op.operands]),h i (by simp [Op.operands])]
 | lookup t x i ok=>simp only [aOp];rw [h x (by simp [Op.operands]),h i (by simp [Op.operands])]
 | mapUpdate t m k v=>simp only [aOp];rw [h m (by simp [Op.operands]),h k (by simp [Op.operands]),h v (by simp [Op.operands])]
 | extract x i=>simp only [aOp];rw [h x (by simp [Op.operands])]
 | call c =>
   obtain ⟨callee,args,ats⟩:=c
   cases callee with
   | builtin b =>
     have:args.toList.map ρ=args.toList.map ρ':=List.map_congr_left fun x hx=>h x (by simp [Op.operands,Call.operands];simpa using hx)
     simp only [aOp]
     rw [this]
   | value f=>rfl
   | invoke r m=>rfl
 | makeMap t r=>cases r <;> rfl
 | makeSlice t l c=>simp only [aOp];rw [h l (by simp [Op.operands]),h c (by simp [Op.operands])]
 | _=>rfl
theorem evalO_set {tm:TM} {d:Option Tmp} {v:PV} {x:Operand} (h:∀ t,d=some t→x≠ .tmp t):evalO E (setD tm d v) x=evalO E tm x:=by
 cases d with
 | none=>rfl
 | some d =>
   cases x with
   | tmp t =>
     have:t≠d:=fun e=>h d rfl (by rw [e])
     simp [evalO,setD,this]
   | _=>rfl
theorem operands_looks {ops:Array Oper} {o:Oper} {t:Tmp} (h:Operand.tmp t∈o.op.operands.toList):t∈o.looksAt ops:=by
 simp only [Oper.looksAt,List.mem_append,List.mem_filterMap]
 exact .inl ⟨.tmp t,h,rfl⟩
theorem OpTo.set {own : Tmp → Bool} {ops : Array Oper} {o : Oper} {tm : TM} {d : Option Tmp} {v : PV} {H H' : Heap} {p : PV} (hd : ∀ t, d = some t → t ∉ o.looksAt ops) (h : OpTo E P own tm o H p H') :
  OpTo E P own (setD tm d v) o H p H':=by
 have he:∀ x∈o.op.operands.toList,evalO E (setD tm d v) x=evalO E tm x:=fun x hx=>evalO_set fun t ht e=>hd t ht (operands_looks (e ▸ hx))
 cases h with
 | op _ _ h=>exact .op _ _ (by rw [aOp_congr he];exact h)
 | call f args ats k caps _ _ ho hf h =>
   have hf':evalO E (setD tm d v) f=evalO E tm f:=he f (by simp [ho,Op.operands,Call.operands])
   have ha:args.toList.map (evalO E (setD tm d v))=args.toList.map (evalO E tm):=List.map_congr_left fun x hx=>he x (by simp only [ho,Op.operands,Call.operands];simp;exact .inr (by simpa using hx))
   exact .call f args ats k caps _ _ ho (by rw [hf'];exact hf) (by rw [ha];exact h)
theorem OpTo.unset {own : Tmp → Bool} {ops : Array Oper} {o : Oper} {tm : TM} {d : Option Tmp} {v : PV} {H H' : Heap} {p : PV} (hd : ∀ t, d = some t → t ∉ o.looksAt ops) (h : OpTo E P own (setD tm d v) o H p H') :
  OpTo E P own tm o H p H':=by
 have he:∀ x∈o.op.operands.toList,evalO E (setD tm d v) x=evalO E tm x:=fun x hx=>evalO_set fun t ht e=>hd t ht (operands_looks (e ▸ hx))
 cases h with
 | op _ _ h=>exact .op _ _ (by rw [← aOp_congr he];exact h)
 | call f args ats k caps _ _ ho hf h =>
   have hf':evalO E (setD tm d v) f=evalO E tm f:=he f (by simp [ho,Op.operands,Call.operands])
   have ha:args.toList.map (evalO E (setD tm d v))=args.toList.map (evalO E tm):=List.map_congr_left fun x hx=>he x (by simp only [ho,Op.operands,Call.operands];simp;exact .inr (by simpa using hx))
   exact .call f args ats k caps _ _ ho (by rw [← hf'];exact hf) (by rw [← ha];exact h)
theorem wantedA_set {ops:Array Oper} {o:Oper} {tm:TM} {d:Option Tmp} {v:PV} (hd:∀ t,d=some t→t∉o.looksAt ops):wantedA ops.toList (setD tm d v) o=wantedA ops.toList tm o:=by
 unfold wantedA
 cases hg:o.guard with
 | none=>rfl
 | some x =>
   obtain ⟨j,want⟩:=x
   simp only [nth_eq]
   cases hj:ops.toList[j]? with
   | none=>rfl
   | some oj =>
     simp only
     cases he:oj.dst with
     | none=>rfl
     | some e =>
       simp only
       have:setD tm d v e=tm e:=by
        cases d with
        | none=>rfl
        | some d =>
          have hne:e≠d:=fun h=>hd d rfl (by
           have hj':ops[j]? = some oj:=by simpa using hj
           simp only [Oper.looksAt,List.mem_append,hg]
           right
           simp [hj',he,h])
          simp [setD,hne]
       rw [this]
theorem setD_comm {tm:TM} {d e:Option Tmp} {v u:PV} (h:∀ t,d=some t→e≠some t):setD (setD tm d v) e u=setD (setD tm e u) d v:=by
 cases d with
 | none=>rfl
 | some d =>
   cases e with
   | none=>rfl
   | some e =>
     funext t
     have hne:d≠e:=fun x=>h d rfl (by rw [x])
     simp only [setD]
     by_cases h1:t=e
     · subst h1;simp [Ne.symm hne]
     · simp [h1]
end
end Go.Vm
namespace Go.Vm
def deadL:List Nat→List Box→List Box
 | [],b=>b
 | k :: r,b=>deadL r (b.set k .dead)
def maskH (l:List Nat) (H:Heap):Heap:={H with bx:=deadL l H.bx}
noncomputable def backL (o:List Box):List Nat→List Box→List Box
 | [],b=>b
 | k :: r,b=>backL o r (match nth o k with | some x=>b.set k x | none=>b)
noncomputable def mergeH (l:List Nat) (H M:Heap):Heap:={M with bx:=backL H.bx l M.bx}
theorem deadL_len (l:List Nat) (b:List Box):(deadL l b).length=b.length:=by
 induction l generalizing b with
 | nil=>rfl
 | cons k r ih=>simp [deadL,ih]
theorem backL_len (o:List Box) (l:List Nat) (b:List Box):(backL o l b).length=b.length:=by
 induction l generalizing b with
 | nil=>rfl
 | cons k r ih=>simp only [backL];rw [ih];split <;> simp
theorem deadL_get (l:List Nat) (b:List Box) (i:Nat):(deadL l b)[i]? = if i∈l∧i < b.length then some .dead else b[i]? :=by
 induction l generalizing b with
 | nil=>simp [deadL]
 | cons k r ih =>
   simp only [deadL,ih,List.length_set,List.mem_cons]
   by_cases h1:i∈r∧i < b.length
   · rw [if_pos h1,if_pos ⟨.inr h1.1,h1.2⟩]
   · rw [if_neg h1, List.getElem?_set]
     by_cases h2:k=i
     · subst h2
       by_cases h3:k < b.length
       · simp [h3]
       · simp [h3]
     · rw [if_neg h2]
       have:¬ ((i=k∨i∈r)∧i < b.length):=fun h=>by
        rcases h.1 with e | e
        · exact h2 e.symm
        · exact h1 ⟨e,h.2⟩
       rw [if_neg this]
theorem backL_get (o:List Box) (l:List Nat) (b:List Box) (hl:o.length≤b.length) (i:Nat):(backL o l b)[i]? = if i∈l∧i < o.length then o[i]? else b[i]? :=by
 induction l generalizing b with
 | nil=>simp [backL]
 | cons k r ih =>
   simp only [backL,nth_eq]
   rw [ih _ (by split <;> simp [hl])]
   by_cases h1:i∈r∧i < o.length
   · rw [if_pos h1,if_pos ⟨List.mem_cons_of_mem _ h1.1,h1.2⟩]
   · rw [if_neg h1]
     by_cases h2:i=k
     · subst h2
       by_cases h3:i < o.length
       · have e : o[i]? = some o[i] := List.getElem?_eq_getElem h3
         rw [if_pos ⟨List.mem_cons_self,h3⟩,e]
         simp only
         rw [List.getElem?_set_self (by omega)]
       · have e : o[i]? = none := List.getElem?_eq_none (Nat.le_of_not_lt h3)
         rw [if_neg (fun h=>h3 h.2),e]
     · have : ¬ (i ∈ k :: r ∧ i < o.length) := fun h => by
         rcases List.mem_cons.1 h.1 with e | e
         · exact h2 e
         · exact h1 ⟨e,h.2⟩
       rw [if_neg this]
       split
       · rw [List.getElem?_set_ne (Ne.symm h2)]
       · rfl
theorem Heap.ext' {H K:Heap} (h1:H.bx=K.bx) (h2:H.ro=K.ro) (h3:H.live=K.live) (h4:H.nt=K.nt):H=K:=by
 cases H;cases K;simp_all
def setB (H:Heap) (k:Nat) (b:Box):Heap:={H with bx:=H.bx.set k b}
theorem maskH_setB {l:List Nat} {H:Heap} {k:Nat} {b:Box} (h:k∈l):maskH l (setB H k b)=maskH l H:=by
 refine Heap.ext' (List.ext_getElem? fun i=> ?_) rfl rfl rfl
 simp only [maskH,setB,deadL_get,List.length_set]
 by_cases e:i=k
 · subst e
   by_cases h2:i < H.bx.length
   · rw [if_pos ⟨h,h2⟩,if_pos ⟨h,h2⟩]
   · rw [if_neg (fun h => h2 h.2), if_neg (fun h => h2 h.2)]
     simp [h2]
 · rw [List.getElem?_set_ne (Ne.symm e)]
theorem mergeH_setB {l:List Nat} {H M:Heap} {k:Nat} {b:Box} (h:k∈l) (hk:k < H.bx.length) (hl:H.bx.length≤M.bx.length):mergeH l (setB H k b) M=setB (mergeH l H M) k b:=by
 refine Heap.ext' (List.ext_getElem? fun i=> ?_) rfl rfl rfl
 show (backL (H.bx.set k b) l M.bx)[i]? = ((backL H.bx l M.bx).set k b)[i]?
 rw [backL_get _ _ _ (by simpa using hl)]
 by_cases e:i=k
 · subst e
   rw [if_pos ⟨h,by simpa using hk⟩,List.getElem?_set_self hk,List.getElem?_set_self (by rw [backL_len];omega)]
 · rw [List.getElem?_set_ne (Ne.symm e),List.getElem?_set_ne (Ne.symm e),backL_get _ _ _ hl,List.length_set]
inductive Cls where
 | sc
 | qu
 | al
 | ef
 | st
 | ld
 | tk
 deriving DecidableEq
def growH (H M:Heap):Heap:={bx:=H.bx ++ M.bx.drop H.bx.length,ro:=H.ro,live:=M.live,nt:=M.nt}
theorem growH_take {l:List Nat} {H M:Heap} {N:Nat} (h:N≤H.bx.length):(maskH l (growH H M)).bx.take N=(maskH l H).bx.take N:=by
 refine List.ext_getElem? fun i=> ?_
 rw [List.getElem?_take,List.getElem?_take]
 split
 · rename_i hi
   have h1:i < H.bx.length:=by omega
   simp only [maskH,deadL_get,growH,List.length_append]
   rw [List.getElem?_append_left h1]
   by_cases e:i∈l
   · rw [if_pos ⟨e,by omega⟩,if_pos ⟨e,h1⟩]
   · rw [if_neg (fun h=>e h.1),if_neg (fun h=>e h.1)]
 · rfl
theorem growH_setB {H M:Heap} {k:Nat} {b:Box} (hk:k < H.bx.length):growH (setB H k b) M=setB (growH H M) k b:=by
 simp only [growH,setB,Heap.mk.injEq,and_true,List.length_set]
 exact (List.set_append_left _ _ hk).symm
section
variable (E:Env) (P:Program) (own:Tmp→Bool) (ops:Array Oper) (n0:Nat) (cls:Nat→Cls) (tgt:Nat→Nat) (msk:Nat→List Nat)
inductive Hp (i:Nat) (o:Oper) (tm:TM):Heap→PV→Heap→Prop
 | pass (H:Heap) (hw:wantedA ops.toList tm o=some false):Hp i o tm H unset H
 | sc (H:Heap) (p:PV) (hw:wantedA ops.toList tm o=some true) (h:∀ M,OpTo E P own tm o M p M):Hp i o tm H p H
 | qu (H:Heap) (p:PV) (hw:wantedA ops.toList tm o=some true) (hc:cls i= .qu) (h:OpTo E P own tm o (maskH (msk i) H) p (maskH (msk i) H)):Hp i o tm H p H
 | al (H : Heap) (e : TypeId) (ei : TI) (hw : wantedA ops.toList tm o = some true) (hc : cls i = .al) (ho : o.op = .alloc e) (he : E.T e = some ei) (hz : ei.zero.cells.length = ei.size) (hp : 0 < ei.size)
     (hd:H.bx[n0+i]? = some .dead):Hp i o tm H (.ptr (n0+i) ei.size 0 0) (setB H (n0+i) (.cells ei.size [ei.zero.cells]))
 | bo (H : Heap) (e : TypeId) (x : Operand) (hw : wantedA ops.toList tm o = some true) (hc : cls i = .al) (ho : o.op = .box e x) (hp : 0 < (evalO E tm x).cells.length)
     (hd:H.bx[n0+i]? = some .dead):Hp i o tm H (.ptr (n0+i) (evalO E tm x).cells.length 0 0) (setB H (n0+i) (.cells (evalO E tm x).cells.length [(evalO E tm x).cells]))
 | ef (H:Heap) (p:PV) (M:Heap) (hw:wantedA ops.toList tm o=some true) (hc:cls i= .ef) (h:OpTo E P own tm o (maskH (msk i) H) p M) (hl:H.bx.length≤M.bx.length):Hp i o tm H p (mergeH (msk i) H M)
 | st (H:Heap) (p:PV) (b:Box) (hw:wantedA ops.toList tm o=some true) (hc:cls i= .st) (h:OpTo E P own tm o (maskH (msk i) H) p (setB (maskH (msk i) H) (tgt i) b)) (hs:tgt i∉msk i):Hp i o tm H p (setB H (tgt i) b)
 | ld (H:Heap) (p:PV) (hw:wantedA ops.toList tm o=some true) (hc:cls i= .ld) (h:∀ K:Heap,K.bx.take (tgt i)=(maskH (msk i) H).bx.take (tgt i)→OpTo E P own tm o K p K):Hp i o tm H p H
 | tk (H:Heap) (p:PV) (M:Heap) (hw:wantedA ops.toList tm o=some true) (hc:cls i= .tk) (h:OpTo E P own tm o {maskH (msk i) H with ro:=H.bx.length} p M) (hl:H.bx.length≤M.bx.length):Hp i o tm H p (growH H M)
variable {E P own ops n0 cls tgt msk}
theorem Hp.len {i:Nat} {o:Oper} {tm:TM} {H H':Heap} {p:PV} (h:Hp E P own ops n0 cls tgt msk i o tm H p H'):H.bx.length≤H'.bx.length:=by
 cases h <;> simp [setB,mergeH,growH,backL_len] <;> try assumption
theorem Hp.set {i : Nat} {o : Oper} {tm : TM} {d : Option Tmp} {v : PV} {H H' : Heap} {p : PV} (hd : ∀ t, d = some t → t ∉ o.looksAt ops) (h : Hp E P own ops n0 cls tgt msk i o tm H p H') :
  Hp E P own ops n0 cls tgt msk i o (setD tm d v) H p H':=by
 cases h with
 | pass hw=>exact .pass _ (by rw [wantedA_set hd];exact hw)
 | sc _ hw h=>exact .sc _ _ (by rw [wantedA_set hd];exact hw) fun M=>(h M).set hd
 | qu _ hw hc h=>exact .qu _ _ (by rw [wantedA_set hd];exact hw) hc (h.set hd)
 | al e ei hw hc ho he hz hp hdd=>exact .al _ e ei (by rw [wantedA_set hd];exact hw) hc ho he hz hp hdd
 | bo e x hw hc ho hp hdd =>
   have hx:evalO E (setD tm d v) x=evalO E tm x:=evalO_set fun t ht e'=>hd t ht (operands_looks (by rw [ho, ← e'];simp [Op.operands]))
   have:=Hp.bo (E:=E) (P:=P) (own:=own) (ops:=ops) (n0:=n0) (cls:=cls) (tgt:=tgt) (msk:=msk) (tm:=setD tm d v) (i:=i) H e x (by rw [wantedA_set hd];exact hw) hc ho (by rw [hx];exact hp) hdd
   rwa [hx] at this
 | ef _ M hw hc h hl=>exact .ef _ _ M (by rw [wantedA_set hd];exact hw) hc (h.set hd) hl
 | st _ b hw hc h hs=>exact .st _ _ b (by rw [wantedA_set hd];exact hw) hc (h.set hd) hs
 | ld _ hw hc h=>exact .ld _ _ (by rw [wantedA_set hd];exact hw) hc fun K e=>(h K e).set hd
 | tk _ M hw hc h hl=>exact .tk _ _ M (by rw [wantedA_set hd];exact hw) hc (h.set hd) hl
theorem Hp.reset {i : Nat} {o : Oper} {tm : TM} {d : Option Tmp} {v : PV} {H H' : Heap} {p : PV} (hd : ∀ t, d = some t → t ∉ o.looksAt ops) (h : Hp E P own ops n0 cls tgt msk i o (setD tm d v) H p H') :
  Hp E P own ops n0 cls tgt msk i o tm H p H':=by
 have hw':=wantedA_set (tm:=tm) (v:=v) hd
 cases h with
 | pass hw=>exact .pass _ (by rw [← hw'];exact hw)
 | sc _ hw h=>exact .sc _ _ (by rw [← hw'];exact hw) fun M=>(h M).unset hd
 | qu _ hw hc h=>exact .qu _ _ (by rw [← hw'];exact hw) hc (h.unset hd)
 | al e ei hw hc ho he hz hp hdd=>exact .al _ e ei (by rw [← hw'];exact hw) hc ho he hz hp hdd
 | bo e x hw hc ho hp hdd =>
   have hx:evalO E (setD tm d v) x=evalO E tm x:=evalO_set fun t ht e'=>hd t ht (operands_looks (by rw [ho, ← e'];simp [Op.operands]))
   rw [hx] at hp ⊢
   exact .bo _ e x (by rw [← hw'];exact hw) hc ho hp hdd
 | ef _ M hw hc h hl=>exact .ef _ _ M (by rw [← hw'];exact hw) hc (h.unset hd) hl
 | st _ b hw hc h hs=>exact .st _ _ b (by rw [← hw'];exact hw) hc (h.unset hd) hs
 | ld _ hw hc h=>exact .ld _ _ (by rw [← hw'];exact hw) hc fun K e=>(h K e).unset hd
 | tk _ M hw hc h hl=>exact .tk _ _ M (by rw [← hw'];exact hw) hc (h.unset hd) hl
def perm (a b:Cls):Bool:=match a,b with
 | .qu,.ef=>false
 | .ef,.qu=>false
 | .ef,.ef=>false
 | .ef,.st=>false
 | .st,.ef=>false
 | .ef,.ld=>false
 | .ld,.ef=>false
 | .ef,.tk=>false
 | .tk,.ef=>false
 | .tk,.tk=>false
 | .tk,.qu=>false
 | .qu,.tk=>false
 | .tk,.st=>false
 | .st,.tk=>false
 | _,_=>true
theorem Hp.swap {i j : Nat} {oi oj : Oper} {tm : TM} {H H1 H2 : Heap} {p q : PV} (hi : Hp E P own ops n0 cls tgt msk i oi tm H p H1) (hj : Hp E P own ops n0 cls tgt msk j oj tm H1 q H2)
  (hne:i≠j) (hpm:perm (cls i) (cls j)=true) (hmi:cls j= .al→n0+j∈msk i) (hmj:cls i= .al→n0+i∈msk j) (hlj:cls j= .al→n0+j < H.bx.length)
  (hti:cls i= .st→tgt i∈msk j) (htj:cls j= .st→tgt j∈msk i)
  (hli:cls i= .ld→tgt i≤H.bx.length) (hlj':cls j= .ld→tgt j≤H.bx.length) :
  ∃ H1',Hp E P own ops n0 cls tgt msk j oj tm H q H1'∧Hp E P own ops n0 cls tgt msk i oi tm H1' p H2:=by
 have hsl:n0+i≠n0+j:=by omega
 have hset:∀ (K:Heap) (b c:Box),setB (setB K (n0+i) b) (n0+j) c=setB (setB K (n0+j) c) (n0+i) b:=fun K b c=>by
  simp only [setB,Heap.mk.injEq,and_self,and_true]
  exact List.set_comm _ _ hsl
 have hget:∀ (K:Heap) (b:Box),(setB K (n0+i) b).bx[n0+j]? = K.bx[n0+j]? :=fun K b=>by simp [setB,List.getElem?_set_ne hsl]
 have hget':∀ (K:Heap) (b:Box),(setB K (n0+j) b).bx[n0+i]? = K.bx[n0+i]? :=fun K b=>by simp [setB,List.getElem?_set_ne (Ne.symm hsl)]
 have free:H1=H→(∀ K,Hp E P own ops n0 cls tgt msk i oi tm K p K)→∃ H1',Hp E P own ops n0 cls tgt msk j oj tm H q H1'∧Hp E P own ops n0 cls tgt msk i oi tm H1' p H2:=fun e f=>by
  subst e;exact ⟨H2,hj,f H2⟩
 cases hi with
 | pass hw=>exact free rfl fun K=> .pass K hw
 | sc _ hw h=>exact free rfl fun K=> .sc K p hw h
 | qu _ hw hc h =>
   cases hj with
   | pass hw'=>exact ⟨H,.pass _ hw',.qu _ _ hw hc h⟩
   | sc _ hw' h'=>exact ⟨H,.sc _ _ hw' h',.qu _ _ hw hc h⟩
   | qu _ hw' hc' h'=>exact ⟨H,.qu _ _ hw' hc' h',.qu _ _ hw hc h⟩
   | al e ei hw' hc' ho he hz hp hd=>exact ⟨_,.al _ e ei hw' hc' ho he hz hp hd,.qu _ _ hw hc (by rw [maskH_setB (hmi hc')];exact h)⟩
   | bo e x hw' hc' ho hp hd=>exact ⟨_,.bo _ e x hw' hc' ho hp hd,.qu _ _ hw hc (by rw [maskH_setB (hmi hc')];exact h)⟩
   | ef _ M hw' hc' h' hl=>rw [hc,hc'] at hpm;cases hpm
   | st _ b hw' hc' h' hs=>exact ⟨_,.st _ _ b hw' hc' h' hs,.qu _ _ hw hc (by rw [maskH_setB (htj hc')];exact h)⟩
   | ld _ hw' hc' h'=>exact ⟨H,.ld _ _ hw' hc' h',.qu _ _ hw hc h⟩
   | tk _ M hw' hc' h' hl=>rw [hc,hc'] at hpm;cases hpm
 | al e ei hw hc ho he hz hp hd =>
   cases hj with
   | pass hw'=>exact ⟨H,.pass _ hw',.al _ e ei hw hc ho he hz hp hd⟩
   | sc _ hw' h'=>exact ⟨H,.sc _ _ hw' h',.al _ e ei hw hc ho he hz hp hd⟩
   | qu _ hw' hc' h'=>exact ⟨H,.qu _ _ hw' hc' (by rw [maskH_setB (hmj hc)] at h';exact h'),.al _ e ei hw hc ho he hz hp hd⟩
   | al e' ei' hw' hc' ho' he' hz' hp' hd' =>
     rw [hget] at hd'
     rw [hset]
     exact ⟨_,.al _ e' ei' hw' hc' ho' he' hz' hp' hd',.al _ e ei hw hc ho he hz hp (by rw [hget'];exact hd)⟩
   | bo e' x' hw' hc' ho' hp' hd' =>
     rw [hget] at hd'
     rw [hset]
     exact ⟨_,.bo _ e' x' hw' hc' ho' hp' hd',.al _ e ei hw hc ho he hz hp (by rw [hget'];exact hd)⟩
   | ef _ M hw' hc' h' hl =>
     have hk:=get_lt hd
     have hl':H.bx.length≤M.bx.length:=by simpa [setB] using hl
     rw [maskH_setB (hmj hc)] at h'
     rw [mergeH_setB (hmj hc) hk hl']
     exact ⟨_,.ef _ _ M hw' hc' h' hl',.al _ e ei hw hc ho he hz hp (by
      simp only [mergeH];rw [backL_get _ _ _ hl',if_pos ⟨hmj hc,hk⟩];exact hd)⟩
   | st _ b hw' hc' h' hs =>
     have hne':n0+i≠tgt j:=fun e=>hs (e ▸ hmj hc)
     rw [maskH_setB (hmj hc)] at h'
     have hcm:∀ (K:Heap) (x y:Box),setB (setB K (n0+i) x) (tgt j) y=setB (setB K (tgt j) y) (n0+i) x:=fun K x y=>by
      simp only [setB,Heap.mk.injEq,and_self,and_true]
      exact List.set_comm _ _ hne'
     rw [hcm]
     exact ⟨_,.st _ _ b hw' hc' h' hs,.al _ e ei hw hc ho he hz hp (by simpa [setB,List.getElem?_set_ne (Ne.symm hne')] using hd)⟩
   | ld _ hw' hc' h'=>exact ⟨H,.ld _ _ hw' hc' (by rw [maskH_setB (hmj hc)] at h';exact h'),.al _ e ei hw hc ho he hz hp hd⟩
   | tk _ M hw' hc' h' hl =>
     have hk:=get_lt hd
     have hl':H.bx.length≤M.bx.length:=by simpa [setB] using hl
     have hlen:∀ B:Box,(setB H (n0+i) B).bx.length=H.bx.length:=fun B=>by simp [setB]
     rw [maskH_setB (hmj hc),hlen] at h'
     rw [growH_setB hk]
     exact ⟨_,.tk _ _ M hw' hc' h' hl',.al _ e ei hw hc ho he hz hp (by simp only [growH];rw [List.getElem?_append_left hk];exact hd)⟩
 | bo e x hw hc ho hp hd =>
   cases hj with
   | pass hw'=>exact ⟨H,.pass _ hw',.bo _ e x hw hc ho hp hd⟩
   | sc _ hw' h'=>exact ⟨H,.sc _ _ hw' h',.bo _ e x hw hc ho hp hd⟩
   | qu _ hw' hc' h'=>exact ⟨H,.qu _ _ hw' hc' (by rw [maskH_setB (hmj hc)] at h';exact h'),.bo _ e x hw hc ho hp hd⟩
   | al e' ei' hw' hc' ho' he' hz' hp' hd' =>
     rw [hget] at hd'
     rw [hset]
     exact ⟨_,.al _ e' ei' hw' hc' ho' he' hz' hp' hd',.bo _ e x hw hc ho hp (by rw [hget'];exact hd)⟩
   | bo e' x' hw' hc' ho' hp' hd' =>
     rw [hget] at hd'
     rw [hset]
     exact ⟨_,.bo _ e' x' hw' hc' ho' hp' hd',.bo _ e x hw hc ho hp (by rw [hget'];exact hd)⟩
   | ef _ M hw' hc' h' hl =>
     have hk:=get_lt hd
     have hl':H.bx.length≤M.bx.length:=by simpa [setB] using hl
     rw [maskH_setB (hmj hc)] at h'
     rw [mergeH_setB (hmj hc) hk hl']
     exact ⟨_,.ef _ _ M hw' hc' h' hl',.bo _ e x hw hc ho hp (by
      simp only [mergeH];rw [backL_get _ _ _ hl',if_pos ⟨hmj hc,hk⟩];exact hd)⟩
   | st _ b hw' hc' h' hs =>
     have hne':n0+i≠tgt j:=fun e=>hs (e ▸ hmj hc)
     rw [maskH_setB (hmj hc)] at h'
     have hcm:∀ (K:Heap) (x y:Box),setB (setB K (n0+i) x) (tgt j) y=setB (setB K (tgt j) y) (n0+i) x:=fun K x y=>by
      simp only [setB,Heap.mk.injEq,and_self,and_true]
      exact List.set_comm _ _ hne'
     rw [hcm]
     exact ⟨_,.st _ _ b hw' hc' h' hs,.bo _ e x hw hc ho hp (by simpa [setB,List.getElem?_set_ne (Ne.symm hne')] using hd)⟩
   | ld _ hw' hc' h'=>exact ⟨H,.ld _ _ hw' hc' (by rw [maskH_setB (hmj hc)] at h';exact h'),.bo _ e x hw hc ho hp hd⟩
   | tk _ M hw' hc' h' hl =>
     have hk:=get_lt hd
     have hl':H.bx.length≤M.bx.length:=by simpa [setB] using hl
     have hlen:∀ B:Box,(setB H (n0+i) B).bx.length=H.bx.length:=fun B=>by simp [setB]
     rw [maskH_setB (hmj hc),hlen] at h'
     rw [growH_setB hk]
     exact ⟨_,.tk _ _ M hw' hc' h' hl',.bo _ e x hw hc ho hp (by simp only [growH];rw [List.getElem?_append_left hk];exact hd)⟩
 | ef _ M hw hc h hl =>
   have hde:∀ {hk:cls j= .al},(mergeH (msk i) H M).bx[n0+j]? = some .dead→n0+j < H.bx.length→H.bx[n0+j]? = some .dead:=fun {hk} hd hlt=>by
    simp only [mergeH] at hd
    rw [backL_get _ _ _ hl,if_pos ⟨hmi hk,hlt⟩] at hd
    exact hd
   cases hj with
   | pass hw'=>exact ⟨H,.pass _ hw',.ef _ _ M hw hc h hl⟩
   | sc _ hw' h'=>exact ⟨H,.sc _ _ hw' h',.ef _ _ M hw hc h hl⟩
   | qu _ hw' hc' h'=>rw [hc,hc'] at hpm;cases hpm
   | al e' ei' hw' hc' ho' he' hz' hp' hd' =>
     have hlt:=hlj hc'
     exact ⟨_,.al _ e' ei' hw' hc' ho' he' hz' hp' (hde (hk:=hc') hd' hlt),by
      rw [← mergeH_setB (hmi hc') hlt hl]
      exact .ef _ _ M hw hc (by rw [maskH_setB (hmi hc')];exact h) (by simpa [setB] using hl)⟩
   | bo e' x' hw' hc' ho' hp' hd' =>
     have hlt:=hlj hc'
     exact ⟨_,.bo _ e' x' hw' hc' ho' hp' (hde (hk:=hc') hd' hlt),by
      rw [← mergeH_setB (hmi hc') hlt hl]
      exact .ef _ _ M hw hc (by rw [maskH_setB (hmi hc')];exact h) (by simpa [setB] using hl)⟩
   | ef _ M' hw' hc' h' hl'=>rw [hc,hc'] at hpm;cases hpm
   | st _ b hw' hc' h' hs=>rw [hc,hc'] at hpm;cases hpm
   | ld _ hw' hc' h'=>rw [hc,hc'] at hpm;cases hpm
   | tk _ M' hw' hc' h' hl'=>rw [hc,hc'] at hpm;cases hpm
 | st _ b hw hc h hs =>
   have hcm:∀ (K:Heap) (k:Nat) (x y:Box),tgt i≠k→setB (setB K (tgt i) x) k y=setB (setB K k y) (tgt i) x:=fun K k x y hk=>by
    simp only [setB,Heap.mk.injEq,and_self,and_true]
    exact List.set_comm _ _ hk
   cases hj with
   | pass hw'=>exact ⟨H,.pass _ hw',.st _ _ b hw hc h hs⟩
   | sc _ hw' h'=>exact ⟨H,.sc _ _ hw' h',.st _ _ b hw hc h hs⟩
   | qu _ hw' hc' h'=>exact ⟨H,.qu _ _ hw' hc' (by rw [maskH_setB (hti hc)] at h';exact h'),.st _ _ b hw hc h hs⟩
   | al e' ei' hw' hc' ho' he' hz' hp' hd' =>
     have hne':tgt i≠n0+j:=fun e=>hs (e ▸ hmi hc')
     rw [hcm _ _ _ _ hne']
     exact ⟨_,.al _ e' ei' hw' hc' ho' he' hz' hp' (by simpa [setB,List.getElem?_set_ne hne'] using hd'),.st _ _ b hw hc (by rw [maskH_setB (hmi hc')];exact h) hs⟩
   | bo e' x' hw' hc' ho' hp' hd' =>
     have hne':tgt i≠n0+j:=fun e=>hs (e ▸ hmi hc')
     rw [hcm _ _ _ _ hne']
     exact ⟨_,.bo _ e' x' hw' hc' ho' hp' (by simpa [setB,List.getElem?_set_ne hne'] using hd'),.st _ _ b hw hc (by rw [maskH_setB (hmi hc')];exact h) hs⟩
   | ef _ M' hw' hc' h' hl'=>rw [hc,hc'] at hpm;cases hpm
   | st _ b' hw' hc' h' hs' =>
     have hne':tgt i≠tgt j:=fun e=>hs' (e ▸ hti hc)
     rw [maskH_setB (hti hc)] at h'
     rw [hcm _ _ _ _ hne']
     exact ⟨_,.st _ _ b' hw' hc' h' hs',.st _ _ b hw hc (by rw [maskH_setB (htj hc')];exact h) hs⟩
   | ld _ hw' hc' h'=>exact ⟨H,.ld _ _ hw' hc' (by rw [maskH_setB (hti hc)] at h';exact h'),.st _ _ b hw hc h hs⟩
   | tk _ M hw' hc' h' hl=>rw [hc,hc'] at hpm;cases hpm
 | ld _ hw hc h =>
   cases hj with
   | pass hw'=>exact ⟨H,.pass _ hw',.ld _ _ hw hc h⟩
   | sc _ hw' h'=>exact ⟨H,.sc _ _ hw' h',.ld _ _ hw hc h⟩
   | qu _ hw' hc' h'=>exact ⟨H,.qu _ _ hw' hc' h',.ld _ _ hw hc h⟩
   | al e ei hw' hc' ho he hz hp hd=>exact ⟨_,.al _ e ei hw' hc' ho he hz hp hd,.ld _ _ hw hc (by rw [maskH_setB (hmi hc')];exact h)⟩
   | bo e x hw' hc' ho hp hd=>exact ⟨_,.bo _ e x hw' hc' ho hp hd,.ld _ _ hw hc (by rw [maskH_setB (hmi hc')];exact h)⟩
   | ef _ M hw' hc' h' hl=>rw [hc,hc'] at hpm;cases hpm
   | st _ b hw' hc' h' hs=>exact ⟨_,.st _ _ b hw' hc' h' hs,.ld _ _ hw hc (by rw [maskH_setB (htj hc')];exact h)⟩
   | ld _ hw' hc' h'=>exact ⟨H,.ld _ _ hw' hc' h',.ld _ _ hw hc h⟩
   | tk _ M hw' hc' h' hl=>exact ⟨_,.tk _ _ M hw' hc' h' hl,.ld _ _ hw hc (by rw [growH_take (hli hc)];exact h)⟩
 | tk _ M hw hc h hl =>
   cases hj with
   | pass hw'=>exact ⟨H,.pass _ hw',.tk _ _ M hw hc h hl⟩
   | sc _ hw' h'=>exact ⟨H,.sc _ _ hw' h',.tk _ _ M hw hc h hl⟩
   | qu _ hw' hc' h'=>rw [hc,hc'] at hpm;cases hpm
   | al e ei hw' hc' ho he hz hp hd =>
     have hlt:=hlj hc'
     have hd':H.bx[n0+j]? = some .dead:=by
      simp only [growH] at hd
      rwa [List.getElem?_append_left hlt] at hd
     refine ⟨_,.al _ e ei hw' hc' ho he hz hp hd',?_⟩
     have hlen:∀ B:Box,(setB H (n0+j) B).bx.length=H.bx.length:=fun B=>by simp [setB]
     rw [← growH_setB hlt]
     exact .tk _ _ M hw hc (by rw [maskH_setB (hmi hc'),hlen];exact h) (by rw [hlen];exact hl)
   | bo e x hw' hc' ho hp hd =>
     have hlt:=hlj hc'
     have hd':H.bx[n0+j]? = some .dead:=by
      simp only [growH] at hd
      rwa [List.getElem?_append_left hlt] at hd
     refine ⟨_,.bo _ e x hw' hc' ho hp hd',?_⟩
     have hlen:∀ B:Box,(setB H (n0+j) B).bx.length=H.bx.length:=fun B=>by simp [setB]
     rw [← growH_setB hlt]
     exact .tk _ _ M hw hc (by rw [maskH_setB (hmi hc'),hlen];exact h) (by rw [hlen];exact hl)
   | ef _ M' hw' hc' h' hl'=>rw [hc,hc'] at hpm;cases hpm
   | st _ b hw' hc' h' hs=>rw [hc,hc'] at hpm;cases hpm
   | ld _ hw' hc' h'=>exact ⟨H,.ld _ _ hw' hc' (by rw [growH_take (hlj' hc')] at h';exact h'),.tk _ _ M hw hc h hl⟩
   | tk _ M' hw' hc' h' hl'=>rw [hc,hc'] at hpm;cases hpm
end
end Go.Vm
namespace Go.Vm
section
variable {E:Env} {P:Program} {g g':Gh} {n:Nat} {tm:TM} {H M:Heap} {a:Act} {w w':World} {l:List Nat}
theorem maskH_get (l:List Nat) (H:Heap) (i:Nat):(maskH l H).bx[i]? = if i∈l∧i < H.bx.length then some .dead else H.bx[i]? :=deadL_get l H.bx i
theorem mergeH_get (l:List Nat) (H M:Heap) (hl:H.bx.length≤M.bx.length) (i:Nat):(mergeH l H M).bx[i]? = if i∈l∧i < H.bx.length then H.bx[i]? else M.bx[i]? :=backL_get _ _ _ hl i
theorem mask_some {i:Nat} {b:Box} (h:(maskH l H).bx[i]? = some b) (hb:b≠ .dead):H.bx[i]? = some b∧i∉l:=by
 rw [maskH_get] at h
 split at h
 · simp only [Option.some.injEq] at h;exact (hb h.symm).elim
 · rename_i hn
   exact ⟨h,fun hi=>hn ⟨hi,get_lt h⟩⟩
theorem mask_live {i:Nat} (h:(maskH l H).liveAt i):H.liveAt i∧i∉l:=by
 obtain ⟨b,hb,ha⟩:=h
 have hd:b≠ .dead:=fun e=>by subst e;exact ha
 exact ⟨⟨b,(mask_some hb hd).1,ha⟩,(mask_some hb hd).2⟩
theorem inv_mask (hi:Inv g H w) (l:List Nat):Inv g (maskH l H) w where
 st:=hi.st
 bx id es el h:=hi.bx id es el (mask_some h (by simp)).1
 mp id es h:=hi.mp id es (mask_some h (by simp)).1
 sp id T cs h:=hi.sp id T cs (mask_some h (by simp)).1
 inj i j b h1 h2:=hi.inj i j b (mask_live h1).1 (mask_live h2).1
 sd id h:=hi.sd id (by simpa [maskH,deadL_len] using h)
 td:=hi.td
 tk t b lo hi' h1 h2:=let ⟨a,b,c⟩:=hi.tk t b lo hi' h1 h2;⟨a,b,fun id hl=>c id (mask_live hl).1⟩
 tinj:=hi.tinj
 nd:=hi.nd
 lt:=hi.lt
 sz:=hi.sz
 ro:=by simpa [maskH,deadL_len] using hi.ro
 rm id b c T m h:=hi.rm id b c T m (mask_live h).1
theorem rel_mask (h:Rel E g n tm H a w) (l:List Nat):Rel E g n tm (maskH l H) a w:=⟨h.sz,h.tm,inv_mask h.inv l,h.gl,h.df⟩
theorem merge_mask (l:List Nat) (H:Heap):mergeH l H (maskH l H)=H:=by
 refine Heap.ext' (List.ext_getElem? fun i=> ?_) rfl rfl rfl
 rw [mergeH_get _ _ _ (by simp [maskH,deadL_len]),maskH_get]
 split <;> rfl
theorem merge_set {l:List Nat} {H:Heap} {s:Nat} {b:Box} (hs:s∉l):mergeH l H (setB (maskH l H) s b)=setB H s b:=by
 refine Heap.ext' (List.ext_getElem? fun i=> ?_) rfl rfl rfl
 have hl:H.bx.length≤(setB (maskH l H) s b).bx.length:=by simp [setB,maskH,deadL_len]
 rw [mergeH_get _ _ _ hl]
 by_cases e:i=s
 · subst e
   rw [if_neg (fun h=>hs h.1)]
   simp only [setB,maskH]
   by_cases h2:i < H.bx.length
   · rw [List.getElem?_set_self (by rw [deadL_len];exact h2),List.getElem?_set_self h2]
   · rw [List.getElem?_eq_none (by simp [deadL_len];omega),List.getElem?_eq_none (by simp;omega)]
 · have e1 : (setB H s b).bx[i]? = H.bx[i]? := by simp [setB, List.getElem?_set_ne (Ne.symm e)]
   have e2:(setB (maskH l H) s b).bx[i]? = (maskH l H).bx[i]? :=by simp [setB,List.getElem?_set_ne (Ne.symm e)]
   rw [e1,e2,maskH_get]
   split <;> rfl
theorem Shut.mask {b:Nat} (h:Shut g H b) (l:List Nat):Shut g (maskH l H) b:=⟨fun id hro hl=>h.1 id hro (mask_live hl).1,h.2⟩
theorem inv_merge (hi : Inv g H w) (hsl : ∀ k, k ∈ l → H.ro ≤ k) (k : Keep g (maskH l H) w g' M w') (hm : Inv g' M w') (hl : H.bx.length ≤ M.bx.length) :
  Inv g' (mergeH l H M) w'∧Keep g H w g' (mergeH l H M) w':=by
 have hin:∀ id,id∈l→H.liveAt id→∀ b,g.σ id=some b→Shut g (maskH l H) b:=fun id hid hl b hσ=>by
  refine ⟨fun id' _ hl' hσ'=> ?_,fun t lo hi' ht hτ=>(hi.tk t b lo hi' ht hτ).2.2 id hl hσ⟩
  obtain ⟨h1,h2⟩:=mask_live hl'
  have:=hi.inj id id' b hl h1 hσ hσ'
  subst this
  exact h2 hid
 have hlt:∀ id,H.liveAt id→id < H.bx.length:=fun id ⟨b,hb,_⟩=>get_lt hb
 have hlive:∀ id,(mergeH l H M).liveAt id→(id∈l∧H.liveAt id)∨(M.liveAt id∧¬ (id∈l∧id < H.bx.length)):=fun id ⟨b,hb,ha⟩=>by
  rw [mergeH_get _ _ _ hl] at hb
  split at hb
  · rename_i h;exact .inl ⟨h.1,b,hb,ha⟩
  · rename_i h;exact .inr ⟨⟨b,hb,ha⟩,h⟩
 have hold:∀ id,H.liveAt id→∃ b,g.σ id=some b:=fun id ⟨b,hb,ha⟩=>by
  cases b with
  | cells es el=>obtain ⟨b,_,_,h,_⟩:=hi.bx _ _ _ hb;exact ⟨b,h⟩
  | map es=>obtain ⟨b,_,_,h,_⟩:=hi.mp _ _ hb;exact ⟨b,h⟩
  | sp T cs=>obtain ⟨b,_,h,_⟩:=hi.sp _ _ _ hb;exact ⟨b,h⟩
  | dead=>exact ha.elim
 have hdiff:∀ i j b,i∈l→H.liveAt i→M.liveAt j→¬ (j∈l∧j < H.bx.length)→g'.σ i=some b→g'.σ j=some b→i=j:=fun i j b hil hi1 hj hjn h1 h2=>by
  obtain ⟨bi,hbi⟩:=hold i hi1
  have e1:=k.le.σ _ _ hbi
  rw [h1] at e1
  cases e1
  cases e:g.σ j with
  | none =>
    rcases k.new j b e h2 with h | ⟨id',_,h4,h5⟩
    · have:=hi.sz _ _ hbi;omega
    · obtain ⟨h6, h7⟩ := mask_live h4
      have:=hi.inj i id' b hi1 h6 hbi h5
      subst this
      exact (h7 hil).elim
  | some bj =>
    have e2:=k.le.σ _ _ e
    rw [h2] at e2
    cases e2
    have hml:=k.al j b e hj
    obtain ⟨hjl,hjn'⟩:=mask_live hml
    exact hi.inj i j b hi1 hjl hbi e
 refine ⟨⟨hm.st,?_,?_,?_,?_,?_,hm.td,?_,hm.tinj,hm.nd,hm.lt,hm.sz,?_,?_⟩,⟨k.le,fun b hb h=>k.heap b hb (h.mask l),fun b hb h=>k.store b hb (h.mask l),k.size,fun id b h h'=>(k.new id b h h').imp (fun h=>h) fun ⟨id',a,b,c⟩=>⟨id',a,(mask_live b).1,c⟩,k.tnew,k.ro,?_,?_,k.nt,k.lv,?_,fun id h=>k.ns id (by simpa [maskH,deadL_len] using h),k.so⟩⟩
 · intro id es el h
   rw [mergeH_get _ _ _ hl] at h
   split at h
   · rename_i hc
     obtain ⟨b,c,T,h1,h2,h3,h4,h5,h6⟩:=hi.bx id es el h
     have hb:=hi.sz _ _ h1
     have hs:=hin id hc.1 ⟨_,h,trivial⟩ b h1
     exact ⟨b,c,T,k.le.σ _ _ h1,by rw [k.heap b hb hs];exact h2,h3,h4,fun i hi' j hj=>let ⟨v,e,x⟩:=h5 i hi' j hj;⟨v,e,x.mono k.le⟩,fun o=>by rw [k.store b hb hs];exact h6 o⟩
   · exact hm.bx id es el h
 · intro id es h
   rw [mergeH_get _ _ _ hl] at h
   split at h
   · rename_i hc
     obtain ⟨b,c,T,h1,h2,h3,h4,h5⟩:=hi.mp id es h
     have hb:=hi.sz _ _ h1
     have hs:=hin id hc.1 ⟨_,h,trivial⟩ b h1
     exact ⟨b,c,T,k.le.σ _ _ h1,by rw [k.heap b hb hs];exact h2,h3,fun i hi'=>let ⟨e,a,x,y⟩:=h4 i hi';⟨e,a,x.mono k.le,y.mono k.le⟩,fun o=>by rw [k.store b hb hs];exact h5 o⟩
   · exact hm.mp id es h
 · intro id T cs h
   rw [mergeH_get _ _ _ hl] at h
   split at h
   · rename_i hc
     obtain ⟨b,c,h1,h2,h3,h4,h5⟩:=hi.sp id T cs h
     have hb:=hi.sz _ _ h1
     have hs:=hin id hc.1 ⟨_,h,trivial⟩ b h1
     exact ⟨b,c,k.le.σ _ _ h1,by rw [k.heap b hb hs];exact h2,h3,fun j hj=>let ⟨v,e,x⟩:=h4 j hj;⟨v,e,x.mono k.le⟩,fun o=>by rw [k.store b hb hs];exact h5 o⟩
   · exact hm.sp id T cs h
 · intro i j b h1 h2 h3 h4
   rcases hlive i h1 with ⟨i1,i2⟩ | ⟨i1,i2⟩ <;> rcases hlive j h2 with ⟨j1,j2⟩ | ⟨j1,j2⟩
   · obtain ⟨bi, hbi⟩ := hold i i2
     obtain ⟨bj,hbj⟩:=hold j j2
     have e1:=k.le.σ _ _ hbi
     have e2:=k.le.σ _ _ hbj
     rw [h3] at e1;cases e1
     rw [h4] at e2;cases e2
     exact hi.inj i j b i2 j2 hbi hbj
   · exact hdiff i j b i1 i2 j1 j2 h3 h4
   · exact (hdiff j i b j1 j2 i1 i2 h4 h3).symm
   · exact hm.inj i j b i1 j1 h3 h4
 · intro id h
   exact hm.sd id (by simpa [mergeH,backL_len] using h)
 · intro t b lo hi' h1 h2
   obtain ⟨x,y,z⟩:=hm.tk t b lo hi' h1 h2
   refine ⟨x,y,fun id hl' hσ=> ?_⟩
   rcases hlive id hl' with ⟨i1,i2⟩ | ⟨i1,_⟩
   · obtain ⟨bi, hbi⟩ := hold id i2
     have e1:=k.le.σ _ _ hbi
     rw [hσ] at e1;cases e1
     have hs:=hin id i1 i2 b hbi
     have hbs:=hi.sz _ _ hbi
     cases e:g.τ t with
     | none =>
       rcases k.tnew t b lo hi' e h2 with h | ⟨t',lo',hi2,h3,h4⟩
       · omega
       · exact hs.2 t' lo' hi2 h3 h4
     | some x =>
       have e2:=k.le.τ _ _ e
       rw [h2] at e2
       cases e2
       rcases k.lv t h1 with h | h
       · exact hs.2 t lo hi' h e
       · have:=hi.td t h;rw [this] at e;cases e
   · exact z id i1 hσ
 · simpa [mergeH,backL_len] using hm.ro
 · intro id b c T m h1 h2 h3
   rcases hlive id h1 with ⟨i1,i2⟩ | ⟨i1,_⟩
   · obtain ⟨bi, hbi⟩ := hold id i2
     have e1:=k.le.σ _ _ hbi
     rw [h2] at e1;cases e1
     rw [k.le.κ _ _ hbi]
     rw [k.heap b (hi.sz _ _ hbi) (hin id i1 i2 b hbi)] at h3
     exact hi.rm id b c T m i2 hbi h3
   · exact hm.rm id b c T m i1 h2 h3
 · simpa [mergeH,backL_len] using hl
 · intro id h
   rw [mergeH_get _ _ _ hl]
   have hnl:id∉l:=fun hid=>by have:=hsl id hid;omega
   rw [if_neg (fun hc=>hnl hc.1),k.bx id h,maskH_get,if_neg (fun hc=>hnl hc.1)]
 · intro id b h h'
   rcases hlive id h' with ⟨_,i2⟩ | ⟨i1,_⟩
   · exact i2
   · exact (mask_live (k.al id b h i1)).1
theorem inv_fill (hi : Inv g H w) {id : Nat} (hid : H.bx[id]? = some .dead) (hσ : g.σ id = none) (hro : H.ro ≤ id) (ob : Obj) (bo : Box) (_hz : okObj ob)
  (hc : ∀ es el, bo = .cells es el → ∃ c T, ob = .cells c T (0, 0) ∧ (∀ i (hi : i < el.length), (el[i]).length = es) ∧ el.length * es ≤ c.size ∧
    ∀ i (hi:i < el.length) j (hj:j < (el[i]).length),∃ v,c[i * es+j]? = some v∧V g ((el[i])[j]) v)
  (hm:∀ es,bo≠ .map es) (N:Nat) (hN:N≤id) (hsp:∀ T cs,bo≠ .sp T cs:=by intro T cs h;cases h) :
  Inv (g.link id w.heap.size) (setB H id bo) (w.alloc ob)∧KeepN N g H w (g.link id w.heap.size) (setB H id bo) (w.alloc ob):=by
 have hidlt:=get_lt hid
 have hle:g.Le (g.link id w.heap.size):=⟨fun _ _ _ h=>h,fun i b h=>by
  simp only [Gh.link]
  split
  · rename_i e;subst e;rw [hσ] at h;cases h
  · exact h,fun _ _ h=>h,fun i b h=>by
  simp only [Gh.link]
  rw [if_neg (fun e=>by subst e;rw [hσ] at h;cases h)],rfl⟩
 have hσo:∀ i,i≠id→(g.link id w.heap.size).σ i=g.σ i:=fun i h=>by simp [Gh.link,h]
 have hσn:(g.link id w.heap.size).σ id=some w.heap.size:=by simp [Gh.link]
 have hget:∀ i,i≠id→(setB H id bo).bx[i]? = H.bx[i]? :=fun i h=>by simp [setB,List.getElem?_set_ne (Ne.symm h)]
 have hgetn:(setB H id bo).bx[id]? = some bo:=by simp [setB,hidlt]
 have hlive:∀ i,(setB H id bo).liveAt i→(i≠id∧H.liveAt i)∨i=id:=fun i ⟨x,hx,ha⟩=>by
  by_cases e:i=id
  · exact .inr e
  · rw [hget i e] at hx;exact .inl ⟨e,x,hx,ha⟩
 refine ⟨⟨?_,?_,?_,?_,?_,?_,hi.td,?_,hi.tinj,hi.nd,hi.lt,?_,?_,?_⟩,⟨hle,?_,fun _ _ _ _=>rfl,?_,?_,?_,rfl,?_,?_,Nat.le_refl _,fun _ h=> .inl h,?_,fun i h h'=>(hσo i (by omega)).trans h',.rfls⟩⟩
 · intro b o v h
   rw [cell_of_heap (heap_alloc_lt w ob (hi.S_lt h))]
   exact hi.st _ _ _ h
 · intro i es el h
   by_cases e:i=id
   · subst e
     rw [hgetn] at h
     obtain ⟨c,T,rfl,h3,h4,h5⟩:=hc es el (by simpa using h)
     exact ⟨_,c,T,hσn,heap_alloc_new w _,h3,h4,fun i hi' j hj=>let ⟨v,e,x⟩:=h5 i hi' j hj;⟨v,e,x.mono hle⟩,fun o=>hi.S_new (Nat.le_refl _)⟩
   · rw [hget i e] at h
     obtain ⟨b,c,T,h1,h2,h3,h4,h5,h6⟩:=hi.bx i es el h
     exact ⟨b,c,T,by rw [hσo i e];exact h1,by rw [heap_alloc_lt w ob (hi.sz _ _ h1)];exact h2,h3,h4,fun i hi' j hj=>let ⟨v,e,x⟩:=h5 i hi' j hj;⟨v,e,x.mono hle⟩,h6⟩
 · intro i es h
   by_cases e:i=id
   · subst e
     rw [hgetn] at h
     exact (hm es (by simpa using h)).elim
   · rw [hget i e] at h
     obtain ⟨b,c,T,h1,h2,h3,h4,h5⟩:=hi.mp i es h
     exact ⟨b,c,T,by rw [hσo i e];exact h1,by rw [heap_alloc_lt w ob (hi.sz _ _ h1)];exact h2,h3,fun i hi'=>let ⟨e,a,x,y⟩:=h4 i hi';⟨e,a,x.mono hle,y.mono hle⟩,h5⟩
 · intro i T cs h
   by_cases e:i=id
   · subst e
     rw [hgetn] at h
     exact (hsp T cs (by simpa using h)).elim
   · rw [hget i e] at h
     obtain ⟨b,c,h1,h2,h3,h4,h5⟩:=hi.sp i T cs h
     exact ⟨b,c,by rw [hσo i e];exact h1,by rw [heap_alloc_lt w ob (hi.sz _ _ h1)];exact h2,h3,fun j hj=>let ⟨v,e,x⟩:=h4 j hj;⟨v,e,x.mono hle⟩,h5⟩
 · intro i j b h1 h2 h3 h4
   rcases hlive i h1 with ⟨l1,h1⟩ | rfl <;> rcases hlive j h2 with ⟨l2,h2⟩ | rfl
   · rw [hσo _ l1] at h3;rw [hσo _ l2] at h4;exact hi.inj i j b h1 h2 h3 h4
   · rw [hσo _ l1] at h3;rw [hσn] at h4;cases h4;have:=hi.sz _ _ h3;omega
   · rw [hσo _ l2] at h4;rw [hσn] at h3;cases h3;have:=hi.sz _ _ h4;omega
   · rfl
 · intro i h
   have h:H.bx.length≤i:=by simpa [setB] using h
   rw [hσo i (by omega)]
   exact hi.sd i h
 · intro t b lo hi' h1 h2
   obtain ⟨⟨c,T,h3,h4⟩,h5,h6⟩:=hi.tk t b lo hi' h1 h2
   have hb:b < w.heap.size:=by
    rcases Nat.lt_or_ge b w.heap.size with h | h
    · exact h
    · simp [Array.getElem?_eq_none h] at h3
   refine ⟨⟨c,T,by rw [heap_alloc_lt w ob hb];exact h3,h4⟩,h5,fun i hl=> ?_⟩
   rcases hlive i hl with ⟨l,hl⟩ | rfl
   · rw [hσo _ l];exact h6 i hl
   · rw [hσn];intro e;cases e;omega
 · intro i b h
   rw [World.size_alloc]
   by_cases e:i=id
   · subst e;rw [hσn] at h;cases h;omega
   · rw [hσo i e] at h;have:=hi.sz _ _ h;omega
 · simpa [setB] using hi.ro
 · intro i b c T m h1 h2 h3
   rcases hlive i h1 with ⟨l,h1⟩ | rfl
   · rw [hσo i l] at h2
     rw [heap_alloc_lt w ob (hi.sz _ _ h2)] at h3
     simp only [Gh.link]
     rw [if_neg l]
     exact hi.rm i b c T m h1 h2 h3
   · simp [Gh.link]
 · intro b hb _
   exact heap_alloc_lt w ob hb
 · rw [World.size_alloc];omega
 · intro i b h h'
   by_cases e:i=id
   · subst e;rw [hσn] at h';cases h';exact .inl (Nat.le_refl _)
   · rw [hσo i e,h] at h';cases h'
 · intro t b lo hi' h h'
   rw [show (g.link id w.heap.size).τ t=g.τ t from rfl,h] at h';cases h'
 · simp [setB]
 · intro i h
   exact hget i (by omega)
 · intro i b h h'
   rcases hlive i h' with ⟨_,h'⟩ | rfl
   · exact h'
   · rw [hσ] at h;cases h
end
end Go.Vm
namespace Go.Vm
def Pre (ops:Array Oper) (l i:Nat):Prop:=∃ o e,ops[i]? = some o∧e∈o.after.toList∧Region.binds .any e=true∧e.on=l
inductive Bef (ops:Array Oper):Nat→Nat→Prop
 | edge (l i:Nat) (h:Pre ops l i):Bef ops l i
 | step (l p i:Nat) (h:Bef ops l p) (h':Pre ops p i):Bef ops l i
section
variable {E:Env} {P:Program} {own:Tmp→Bool} {n:Nat} {ops:Array Oper} {n0 m:Nat} {cls:Nat→Cls} {tgt:Nat→Nat} {msk:Nat→List Nat}
inductive Run (E:Env) (P:Program) (own:Tmp→Bool) (n:Nat) (ops:Array Oper) (n0:Nat) (cls:Nat→Cls) (tgt:Nat→Nat) (msk:Nat→List Nat):List Nat→TM→Heap→TM→Heap→Prop
 | nil (tm:TM) (H:Heap):Run E P own n ops n0 cls tgt msk [] tm H tm H
 | cons (i : Nat) (r : List Nat) (o : Oper) (tm : TM) (H : Heap) (p : PV) (H1 : Heap) (tm' : TM) (H' : Heap) (ho : ops[i]? = some o) (hd : ∀ t, o.dst = some t → t < n) (h : Hp E P own ops n0 cls tgt msk i o tm H p H1)
     (hr:Run E P own n ops n0 cls tgt msk r (setD tm o.dst p) H1 tm' H'):Run E P own n ops n0 cls tgt msk (i :: r) tm H tm' H'
structure Free (ops:Array Oper) (n0:Nat) (cls:Nat→Cls) (tgt:Nat→Nat) (msk:Nat→List Nat) (i j:Nat):Prop where
 ne:i≠j
 perm:perm (cls i) (cls j)=true
 mi:cls j= .al→n0+j∈msk i
 mj:cls i= .al→n0+i∈msk j
 ti:cls i= .st→tgt i∈msk j
 tj:cls j= .st→tgt j∈msk i
 apart:∀ x y,ops[i]? = some x→ops[j]? = some y→x.apart ops y=true
theorem Run.front {i : Nat} {L2 : List Nat} {tm' : TM} {H' : Heap} (hin : ∀ k, cls k = .al → k < m) (hld : ∀ k, cls k = .ld → tgt k ≤ n0 + m) : ∀ (L1 : List Nat) (tm : TM) (H : Heap), n0 + m ≤ H.bx.length → (∀ l ∈ L1, Free ops n0 cls tgt msk l i) →
  Run E P own n ops n0 cls tgt msk (L1 ++ i :: L2) tm H tm' H'→Run E P own n ops n0 cls tgt msk (i :: (L1 ++ L2)) tm H tm' H'
 | [],tm,H,_,_,h=>h
 | l :: L1, tm, H, hlen, hf, h => by
   cases h with
   | cons _ _ ol _ _ p H1 _ _ ho hd hp hr =>
     have hr':=Run.front hin hld L1 _ _ (Nat.le_trans hlen hp.len) (fun x hx=>hf x (List.mem_cons_of_mem _ hx)) hr
     cases hr' with
     | cons _ _ oi _ _ q H2 _ _ ho' hd' hq hrest =>
       have f:=hf l List.mem_cons_self
       obtain ⟨a1,a2,a3⟩:=Oper.apart_spec (f.apart _ _ ho ho')
       have hq':=hq.reset a1
       obtain ⟨H1',x1,x2⟩:=hp.swap hq' f.ne f.perm f.mi f.mj (fun hc=>by have:=hin i hc;omega) f.ti f.tj (fun hc=>Nat.le_trans (hld l hc) hlen) (fun hc=>Nat.le_trans (hld i hc) hlen)
       refine .cons i _ oi tm H q H1' _ _ ho' hd' x1 (.cons l _ ol _ _ p H2 _ _ ho hd (x2.set a3) ?_)
       rw [← setD_comm a2]
       exact hrest
def SlotsNone (n0 m:Nat) (S:Nat→Prop) (g:Gh):Prop:=∀ k,k < m→S k→g.σ (n0+k)=none
theorem keep_ro {g g' : Gh} {H M : Heap} {w w' : World} {l : List Nat} (hm : Inv g' M w') (hk : Keep g { maskH l H with ro := H.bx.length } w g' M w') (hl : H.bx.length ≤ M.bx.length) (hro : H.ro ≤ H.bx.length) :
  Inv g' {M with ro:=H.ro} w'∧Keep g (maskH l H) w g' {M with ro:=H.ro} w'∧∀ i,i < H.bx.length→M.bx[i]? = (maskH l H).bx[i]? :=by
 have hb:∀ i,i < H.bx.length→M.bx[i]? = (maskH l H).bx[i]? :=fun i e=>hk.bx i e
 have hsh:∀ b,Shut g (maskH l H) b→Shut g {maskH l H with ro:=H.bx.length} b:=fun b h=>⟨fun id hi hl=>h.1 id (Nat.le_trans hro hi) hl,h.2⟩
 refine ⟨⟨hm.st,hm.bx,hm.mp,hm.sp,hm.inj,hm.sd,hm.td,hm.tk,hm.tinj,hm.nd,hm.lt,hm.sz,by show H.ro≤M.bx.length;omega,hm.rm⟩,⟨hk.le,fun b h1 h2=>hk.heap b h1 (hsh b h2),fun b h1 h2=>hk.store b h1 (hsh b h2),hk.size,fun id b h h'=>(hk.new id b h h').imp (fun h=>h) fun ⟨id',a,b,c⟩=>⟨id',Nat.le_trans hro a,b,c⟩,hk.tnew,rfl,hk.bxl,fun id h=> ?_,hk.nt,hk.lv,hk.al,hk.ns,hk.so⟩,hb⟩
 exact hk.bx id (Nat.lt_of_lt_of_le h hro)
theorem hp_wp (hE : TOk E P) {i : Nat} {o : Oper} (ho : ops[i]? = some o) {tm : TM} {H H' : Heap} {p : PV} (h : Hp E P own ops n0 cls tgt msk i o tm H p H') (hm : ∀ k, k ∈ msk i → H.ro ≤ k) {g : Gh} {a : Act} {w : World} (hr : Rel E g n tm H a w)
  (hal:∀ k,cls k= .al→k < m) (hro:H.ro≤n0) (hlen:n0+m≤H.bx.length) {S:Nat→Prop} (hSi:S i) (hs:SlotsNone n0 m S g) {Q:Exit→Act→World→Prop} {K:Act→World→Prop}
  (hK:∀ v w' g',V g' p v→Inv g' H' w'→KeepN n0 g H w g' H' w'→SlotsNone n0 m (fun k=>S k∧k≠i) g'→K (a.put o.dst v) w'):wpOp P ops Q i K a w:=by
 have down:∀ {g':Gh} {H2:Heap} {w':World},Keep g H w g' H2 w'→KeepN n0 g H w g' H2 w':=fun k=>⟨k.le,k.heap,k.store,k.size,k.new,k.tnew,k.ro,k.bxl,k.bx,k.nt,k.lv,k.al,fun id h=>k.ns id (by omega),k.so⟩
 unfold wpOp
 simp only [ho]
 cases h with
 | pass hw =>
   rw [if_neg (by rw [wanted_ok hw hr];simp)]
   exact hK undef w g (V.unset g) hr.inv (.refl _ _ _ _) fun k hk1 hk2=>hs k hk1 hk2.1
 | sc _ hw h =>
   rw [if_pos (wanted_ok hw hr)]
   exact .inl (op_upon hE (h _) hr fun v w' g' hv hi' hk=>hK v w' g' hv hi' (down hk) fun k hk1 hk2=>hk.ns _ (by omega) (hs k hk1 hk2.1))
 | qu _ hw hc h =>
   rw [if_pos (wanted_ok hw hr)]
   refine .inl (op_upon hE h (rel_mask hr _) fun v w' g' hv hi' hk=> ?_)
   obtain ⟨i1,k1⟩:=inv_merge hr.inv (fun k hk=>hm k hk) hk hi' (by simp [maskH,deadL_len])
   rw [merge_mask] at i1 k1
   exact hK v w' g' hv i1 (down k1) fun k hk1 hk2=>k1.ns _ (by omega) (hs k hk1 hk2.1)
 | ld _ hw hc h =>
   rw [if_pos (wanted_ok hw hr)]
   refine .inl (op_upon hE (h _ rfl) (rel_mask hr _) fun v w' g' hv hi' hk=> ?_)
   obtain ⟨i1,k1⟩:=inv_merge hr.inv (fun k hk=>hm k hk) hk hi' (by simp [maskH,deadL_len])
   rw [merge_mask] at i1 k1
   exact hK v w' g' hv i1 (down k1) fun k hk1 hk2=>k1.ns _ (by omega) (hs k hk1 hk2.1)
 | tk _ M hw hc h hl =>
   rw [if_pos (wanted_ok hw hr)]
   have hroI:=hr.inv.ro
   have hrel:Rel E g n tm {maskH (msk i) H with ro:=H.bx.length} a w:=by
    have h0:=rel_mask hr (msk i)
    have hi0:=h0.inv
    refine ⟨h0.sz,h0.tm,⟨hi0.st,hi0.bx,hi0.mp,hi0.sp,hi0.inj,hi0.sd,hi0.td,hi0.tk,hi0.tinj,hi0.nd,hi0.lt,hi0.sz,?_,hi0.rm⟩,h0.gl,h0.df⟩
    simp [maskH,deadL_len]
   refine .inl (op_upon hE h hrel fun v w' g' hv hi' hk=> ?_)
   obtain ⟨i0,k0,hb⟩:=keep_ro hi' hk hl hroI
   obtain ⟨i1,k1⟩:=inv_merge hr.inv (fun k hk=>hm k hk) k0 i0 (by show H.bx.length≤M.bx.length;omega)
   have he:mergeH (msk i) H {M with ro:=H.ro}=growH H M:=by
    refine Heap.ext' (List.ext_getElem? fun k=> ?_) rfl rfl rfl
    rw [mergeH_get _ _ _ (by show H.bx.length≤M.bx.length;exact hl)]
    simp only [growH]
    by_cases e:k < H.bx.length
    · rw [List.getElem?_append_left e]
      by_cases e2:k∈msk i
      · rw [if_pos ⟨e2,e⟩]
      · rw [if_neg (fun h=>e2 h.1),hb k e,maskH_get,if_neg (fun h=>e2 h.1)]
    · rw [if_neg (fun h => e h.2), List.getElem?_append_right (by omega), List.getElem?_drop]
      congr 1
      omega
   rw [he] at i1 k1
   exact hK v w' g' hv i1 (down k1) fun k hk1 hk2=>k1.ns _ (by omega) (hs k hk1 hk2.1)
 | ef _ M hw hc h hl =>
   rw [if_pos (wanted_ok hw hr)]
   refine .inl (op_upon hE h (rel_mask hr _) fun v w' g' hv hi' hk=> ?_)
   obtain ⟨i1,k1⟩:=inv_merge hr.inv (fun k hk=>hm k hk) hk hi' hl
   exact hK v w' g' hv i1 (down k1) fun k hk1 hk2=>k1.ns _ (by omega) (hs k hk1 hk2.1)
 | st _ b hw hc h hst =>
   rw [if_pos (wanted_ok hw hr)]
   refine .inl (op_upon hE h (rel_mask hr _) fun v w' g' hv hi' hk=> ?_)
   obtain ⟨i1,k1⟩:=inv_merge hr.inv (fun k hk=>hm k hk) hk hi' (by simp [setB,maskH,deadL_len])
   rw [merge_set hst] at i1 k1
   exact hK v w' g' hv i1 (down k1) fun k hk1 hk2=>k1.ns _ (by omega) (hs k hk1 hk2.1)
 | al e ei hw hc hop he hz hp hd =>
   rw [if_pos (wanted_ok hw hr)]
   left
   obtain ⟨inf,d,z,h1,h2,h3,rfl⟩:=hE.spec he
   simp only at hz hp
   have hvl:VL g (ofConst z).cells z.cells.toList:=VL.zero z (by omega)
   obtain ⟨i1,k1⟩:=inv_fill hr.inv hd (hs i (hal i hc) hSi) (by omega) (.cells z.cells e) (.cells inf.size [(ofConst z).cells]) rfl (fun es el h0=>by
    cases h0
    refine ⟨_,e,rfl,fun i hi=> ?_,?_,fun i hi j hj=> ?_⟩
    · obtain rfl : i = 0 := by simp at hi; omega
      simpa using hz
    · have:=hvl.1;simp at this ⊢;omega
    · obtain rfl : i = 0 := by simp at hi; omega
      have hj':j < (ofConst z).cells.length:=by simpa using hj
      have hj2:j < z.cells.toList.length:=by rw [hvl.1];exact hj'
      exact ⟨z.cells.toList[j],by simp,by simpa using hvl.2 j hj' hj2⟩) (fun es h=>by cases h) n0 (by omega)
   unfold Oper.wp
   have hx:(execOp a.eval o).run P w= .ok (.value (.pointer (some ⟨w.heap.size,0,none⟩))) (w.alloc (.cells z.cells e)):=by
    obtain ⟨dst,op,ty,pos,after,guard⟩:=o
    simp only at hop
    subst hop
    simp [execOp,Instr.alloc,run_zero' h1 h3,newVar,newRow,newObj]
    rfl
   rw [hx]
   refine hK _ _ _ ?_ i1 k1 fun k hk1 hk2=> ?_
   · have := V.ptr (g := g.link (n0 + i) w.heap.size) (n0 + i) inf.size 0 0 w.heap.size (by simp [Gh.link])
     simpa using this
   · have : n0 + i ≠ n0 + k := by have := hk2.2; omega
     simp only [Gh.link]
     rw [if_neg (Ne.symm this)]
     exact hs k hk1 hk2.1
 | bo e x hw hc hop hp hd =>
   rw [if_pos (wanted_ok hw hr)]
   left
   have hx0:=hr.eval x
   have hvl:=hx0.cells hp
   obtain ⟨i1,k1⟩:=inv_fill hr.inv hd (hs i (hal i hc) hSi) (by omega) (.cells (a.eval x).cells e) (.cells (evalO E tm x).cells.length [(evalO E tm x).cells]) rfl (fun es el h0=>by
    cases h0
    refine ⟨_,e,rfl,fun i hi=> ?_,?_,fun i hi j hj=> ?_⟩
    · obtain rfl : i = 0 := by simp at hi; omega
      rfl
    · have:=hvl.1;simp at this ⊢;omega
    · obtain rfl : i = 0 := by simp at hi; omega
      have hj':j < (evalO E tm x).cells.length:=by simpa using hj
      have hj2:j < (a.eval x).cells.toList.length:=by rw [hvl.1];exact hj'
      exact ⟨(a.eval x).cells.toList[j],by simp,by simpa using hvl.2 j hj' hj2⟩) (fun es h=>by cases h) n0 (by omega)
   unfold Oper.wp
   have hx:(execOp a.eval o).run P w= .ok (.value (.pointer (some ⟨w.heap.size,0,none⟩))) (w.alloc (.cells (a.eval x).cells e)):=by
    obtain ⟨dst,op,ty,pos,after,guard⟩:=o
    simp only at hop
    subst hop
    simp [execOp,Instr.box,newVar,newRow,newObj]
    rfl
   rw [hx]
   refine hK _ _ _ ?_ i1 k1 fun k hk1 hk2=> ?_
   · have := V.ptr (g := g.link (n0 + i) w.heap.size) (n0 + i) (evalO E tm x).cells.length 0 0 w.heap.size (by simp [Gh.link])
     simpa using this
   · have : n0 + i ≠ n0 + k := by have := hk2.2; omega
     simp only [Gh.link]
     rw [if_neg (Ne.symm this)]
     exact hs k hk1 hk2.1
theorem ready_mem {md:Region.Mode} {listed:Array Bool} {i:Nat}:i∈Region.ready md ops listed↔i < ops.size∧listed.getD i true=false∧∃ o,ops[i]? = some o∧∀ e∈o.after.toList,Region.binds md e=true→listed.getD e.on false=true:=by
 simp only [Region.ready,List.mem_filter,List.mem_range,Bool.and_eq_true,Bool.not_eq_true']
 constructor
 · rintro ⟨h1, h2, h3⟩
   refine ⟨h1,h2,?_⟩
   have ho:ops[i]? = some ops[i]:=Array.getElem?_eq_getElem h1
   refine ⟨ops[i],ho,fun e he hb=> ?_⟩
   rw [ho] at h3
   simp only [Option.map_some,Option.getD_some] at h3
   have:=(Array.all_eq_true'.1 h3) e (by simpa using he)
   simpa [hb] using this
 · rintro ⟨h1, h2, o, ho, h3⟩
   refine ⟨h1,h2,?_⟩
   rw [ho]
   simp only [Option.map_some,Option.getD_some]
   refine Array.all_eq_true'.2 fun e he=> ?_
   by_cases hb:Region.binds md e=true
   · simp [hb,h3 e (by simpa using he) hb]
   · simp [hb]
structure Sched (ops:Array Oper) (r n0 m:Nat) (cls:Nat→Cls) (tgt:Nat→Nat) (msk:Nat→List Nat):Prop where
 back:∀ l i,Pre ops l i→l < i
 free:∀ l i,l < i→i < ops.size→¬ Bef ops l i→Free ops n0 cls tgt msk l i
 al:∀ k,cls k= .al→k < m
 ld:∀ k,cls k= .ld→tgt k≤n0+m
 msk:∀ i k,k∈msk i→r≤k
theorem Sched.lt {r0:Nat} (hS:Sched ops r0 n0 m cls tgt msk) {l i:Nat} (h:Bef ops l i):l < i:=by
 induction h with
 | edge i h=>exact hS.back _ _ h
 | step p i _ h' ih=>have:=hS.back _ _ h';omega
def todo (m:Nat) (listed:Array Bool):List Nat:=(List.range m).filter fun k=> !listed.getD k true
theorem todo_split {m : Nat} {listed : Array Bool} {i : Nat} (hi : i < m) (hsz : listed.size = m) (hl : listed.getD i true = false) :
  ∃ L1 L2,todo m listed=L1 ++ i :: L2∧todo m (listed.setIfInBounds i true)=L1 ++ L2∧∀ l∈L1,l < i∧listed.getD l true=false:=by
 have hr:List.range m=List.range i ++ i :: (List.range (m - (i+1))).map (i+1+ ·):=by
  have:m=i+(1+(m - (i+1))):=by omega
  conv=>lhs;rw [this]
  rw [List.range_add,List.range_add]
  simp [Nat.add_assoc]
 refine ⟨(List.range i).filter fun k=> !listed.getD k true,((List.range (m - (i+1))).map (i+1+ ·)).filter fun k=> !listed.getD k true,?_,?_,?_⟩
 · unfold todo
   rw [hr,List.filter_append,List.filter_cons]
   simp [hl]
 · unfold todo
   rw [hr,List.filter_append,List.filter_cons]
   have hii:(listed.setIfInBounds i true).getD i true=true:=by simp [Array.getD]
   simp only [hii,Bool.not_true,Bool.false_eq_true,if_false]
   have hne:∀ k,k≠i→(listed.setIfInBounds i true).getD k true=listed.getD k true:=fun k hk=>by
    simp only [Array.getD_eq_getD_getElem?,Array.getElem?_setIfInBounds]
    rw [if_neg (Ne.symm hk)]
   congr 1
   · refine List.filter_congr fun k hk => ?_
     rw [hne k (by have:=List.mem_range.1 hk;omega)]
   · refine List.filter_congr fun k hk => ?_
     obtain ⟨x,_,rfl⟩:=List.mem_map.1 hk
     rw [hne _ (by omega)]
 · intro l hlm
   obtain ⟨h1,h2⟩:=List.mem_filter.1 hlm
   exact ⟨List.mem_range.1 h1,by simpa using h2⟩
theorem draw_any (hE : TOk E P) {r0 : Nat} (hS : Sched ops r0 n0 m cls tgt msk) {Q : Exit → Act → World → Prop} {tm' : TM} {H' : Heap} {g0 : Gh} {H0 : Heap} {w0 : World} (hi0 : Inv g0 H0 w0) (hn0 : H0.bx.length = n0) (_hro0 : H0.ro ≤ n0)
  (hQ:∀ g a w,Rel E g n tm' H' a w→Keep g0 H0 w0 g H' w→Q .normal a w) :
  ∀ (fuel:Nat) (listed:Array Bool) (tm:TM) (H:Heap) (g:Gh) (a:Act) (w:World),listed.size=ops.size→(todo ops.size listed).length≤fuel→
   (∀ i l,listed.getD i false=true→Pre ops l i→listed.getD l false=true)→
   Run E P own n ops n0 cls tgt msk (todo ops.size listed) tm H tm' H'→Rel E g n tm H a w→H.ro=r0→H.ro≤n0→n0+m≤H.bx.length→SlotsNone n0 m (fun k=>k∈todo ops.size listed) g→Keep g0 H0 w0 g H w→
   wpAny P .any ops Q fuel listed a w:=by
 have empty:∀ (listed:Array Bool) (tm:TM) (H:Heap) (g:Gh) (a:Act) (w:World),Run E P own n ops n0 cls tgt msk (todo ops.size listed) tm H tm' H'→Rel E g n tm H a w→Keep g0 H0 w0 g H w→todo ops.size listed= []→Q .normal a w:=by
  intro listed tm H g a w hrun hr hk he
  rw [he] at hrun
  cases hrun with
  | nil=>exact hQ g a w hr hk
 have noready:∀ (listed:Array Bool),listed.size=ops.size→Region.ready .any ops listed= []→todo ops.size listed= []:=by
  intro listed hsz hr
  have:∀ i,i < ops.size→listed.getD i true=true:=by
   intro i
   induction i using Nat.strongRecOn with
   | _ i ih =>
     intro hi
     cases hc:listed.getD i true with
     | true=>rfl
     | false =>
       have hm:i∈Region.ready .any ops listed:=ready_mem.2 ⟨hi,hc,ops[i],Array.getElem?_eq_getElem hi,fun e he hb=>by
        have hp:Pre ops e.on i:=⟨ops[i],e,Array.getElem?_eq_getElem hi,he,hb,rfl⟩
        have hlt:=hS.back _ _ hp
        have:=ih e.on hlt (by omega)
        have hsz':e.on < listed.size:=by omega
        simpa [Array.getD,hsz'] using this⟩
       rw [hr] at hm
       cases hm
  unfold todo
  refine List.filter_eq_nil_iff.2 fun k hk=> ?_
  simp [this k (List.mem_range.1 hk)]
 intro fuel
 induction fuel with
 | zero =>
   intro listed tm H g a w hsz hfu hcl hrun hr hrr hro hlen hsn hk
   have he:todo ops.size listed= []:=by simpa using hfu
   refine ⟨?_,empty listed tm H g a w hrun hr hk he⟩
   cases hc:Region.ready .any ops listed with
   | nil=>rfl
   | cons i r =>
     have hm:i∈Region.ready .any ops listed:=by rw [hc];exact List.mem_cons_self
     obtain ⟨h1,h2,_⟩:=ready_mem.1 hm
     have:i∈todo ops.size listed:=List.mem_filter.2 ⟨List.mem_range.2 h1,by simp [h2]⟩
     rw [he] at this
     cases this
 | succ fuel ih =>
   intro listed tm H g a w hsz hfu hcl hrun hr hrr hro hlen hsn hk
   refine ⟨fun he=>empty listed tm H g a w hrun hr hk (noready listed hsz he),fun i hi=> ?_⟩
   obtain ⟨h1,h2,o,ho,h3⟩:=ready_mem.1 hi
   obtain ⟨L1,L2,e1,e2,e3⟩:=todo_split h1 hsz h2
   have hdone:∀ l,listed.getD l true=false→listed.getD l false=false:=fun l h=>by
    by_cases hl:l < listed.size
    · simpa [Array.getD,hl] using h
    · simp [Array.getD,hl] at h
   have hbef:∀ l,Bef ops l i→listed.getD l false=true:=by
    have gen:∀ l k,Bef ops l k→(∀ p,Pre ops p k→listed.getD p false=true)→listed.getD l false=true:=by
     intro l k h
     induction h with
     | edge k h=>intro hp;exact hp l h
     | step p k _ h' ih=>intro hp;exact ih fun q hq=>hcl p q (hp p h') hq
    intro l h
    refine gen l i h fun p ⟨o',e,ho',he,hb,hon⟩=> ?_
    rw [ho] at ho'
    cases ho'
    rw [← hon]
    exact h3 e he hb
   have hfree:∀ l∈L1,Free ops n0 cls tgt msk l i:=fun l hl=>by
    obtain ⟨hlt,hld⟩:=e3 l hl
    refine hS.free l i hlt h1 fun hb=> ?_
    have:=hbef l hb
    rw [hdone l hld] at this
    cases this
   rw [e1] at hrun
   have hrun':=Run.front hS.al hS.ld L1 tm H hlen hfree hrun
   cases hrun' with
   | cons _ _ o' _ _ p H1 _ _ ho' hd hp hrest =>
     rw [ho] at ho'
     cases ho'
     refine hp_wp hE ho hp (fun k hk=>hrr ▸ hS.msk i k hk) hr hS.al hro hlen (S:=fun k=>k∈todo ops.size listed) (by rw [e1];simp) hsn fun v w' g' hv hinv hkeep hsn'=> ?_
     have hput:Rel E g' n (setD tm o.dst p) H1 (a.put o.dst v) w':=by
      have:Keep g H w g' H1 w'→_:=fun k=>hr.put hinv k hd hv
      refine ⟨?_,fun t=> ?_,hinv,⟨fun x cs hx=>(hr.gl.1 x cs hx).mono hkeep.le.S,fun m=>hr.gl.2.1 (hkeep.le.mono.symm.trans m),fun x hx=>let ⟨t,p,e⟩:=hr.gl.2.2 x hx;⟨t,p,hkeep.le.S _ _ _ e⟩⟩,?_⟩
      · have:=hr.sz;cases o.dst <;> simpa [Act.put] using this
      · cases hdst : o.dst with
        | none=>exact (hr.tm t).mono hkeep.le
        | some d =>
          have hlt:d < a.tmps.size:=Nat.lt_of_lt_of_le (hd d hdst) hr.sz
          simp only [setD,Act.put]
          by_cases e:t=d
          · subst e
            rw [if_pos rfl]
            simpa [Array.getD,hlt] using hv
          · rw [if_neg e]
            have:=(hr.tm t).mono hkeep.le
            have e2:(a.tmps.setIfInBounds d v).getD t undef=a.tmps.getD t undef:=by
             simp only [Array.getD_eq_getD_getElem?,Array.getElem?_setIfInBounds]
             rw [if_neg (Ne.symm e)]
            rw [e2];exact this
      · have:=hr.df;cases o.dst <;> simpa [Act.put] using this
     have hgi:∀ k,(listed.setIfInBounds i true).getD k false=true↔(k=i∨listed.getD k false=true):=fun k=>by
      by_cases e:k=i
      · subst e
        have:k < listed.size:=by omega
        simp [Array.getD,this]
      · simp only [Array.getD_eq_getD_getElem?, Array.getElem?_setIfInBounds]
        rw [if_neg (Ne.symm e)]
        simp [e]
     refine ih (listed.setIfInBounds i true) _ H1 g' _ w' (by simpa using hsz) (by rw [e2];rw [e1] at hfu;simp at hfu ⊢;omega) (fun k l hk' hp'=> ?_) (by rw [e2];exact hrest) hput (by rw [hkeep.ro];exact hrr) (by rw [hkeep.ro];exact hro) (Nat.le_trans hlen hp.len) (fun k hk1 hk2=>hsn' k hk1 ?_) (KeepN.trans hi0 hk hkeep (by omega))
     · rw [hgi]
       rcases (hgi k).1 hk' with rfl | h
       · right
         obtain ⟨o',e,ho'',he,hb,hon⟩:=hp'
         rw [ho] at ho''
         cases ho''
         rw [← hon]
         exact h3 e he hb
       · exact .inr (hcl k l h hp')
     · rw [e2] at hk2
       have hnd:(todo ops.size listed).Nodup:=List.nodup_range.filter _
       rw [e1] at hnd ⊢
       refine ⟨?_,fun e=> ?_⟩
       · simp only [List.mem_append, List.mem_cons] at hk2 ⊢
         rcases hk2 with h | h
         · exact .inl h
         · exact .inr (.inr h)
       · subst e
         have:=List.nodup_append.1 hnd
         obtain ⟨_,h2,h3⟩:=this
         rcases List.mem_append.1 hk2 with h | h
         · exact h3 k h k List.mem_cons_self rfl
         · exact (List.nodup_cons.1 h2).1 h
def extH (H:Heap) (m:Nat):Heap:={H with bx:=H.bx ++ List.replicate m .dead}
theorem ext_some {H:Heap} {m i:Nat} {b:Box} (h:(extH H m).bx[i]? = some b) (hb:b≠ .dead):H.bx[i]? = some b:=by
 simp only [extH] at h
 by_cases e:i < H.bx.length
 · rwa [List.getElem?_append_left e] at h
 · rw [List.getElem?_append_right (by omega), List.getElem?_replicate] at h
   split at h
   · simp only [Option.some.injEq] at h;exact (hb h.symm).elim
   · cases h
theorem ext_live {H:Heap} {m i:Nat} (h:(extH H m).liveAt i):H.liveAt i:=by
 obtain ⟨b,hb,ha⟩:=h
 exact ⟨b,ext_some hb (fun e=>by subst e;exact ha),ha⟩
theorem inv_ext {g:Gh} {H:Heap} {w:World} (hi:Inv g H w) (m:Nat):Inv g (extH H m) w where
 st:=hi.st
 bx id es el h:=hi.bx id es el (ext_some h (by simp))
 mp id es h:=hi.mp id es (ext_some h (by simp))
 sp id T cs h:=hi.sp id T cs (ext_some h (by simp))
 inj i j b h1 h2:=hi.inj i j b (ext_live h1) (ext_live h2)
 sd id h:=hi.sd id (by simp [extH] at h;omega)
 td:=hi.td
 tk t b lo hi' h1 h2:=let ⟨a,b,c⟩:=hi.tk t b lo hi' h1 h2;⟨a,b,fun id hl=>c id (ext_live hl)⟩
 tinj:=hi.tinj
 nd:=hi.nd
 lt:=hi.lt
 sz:=hi.sz
 ro:=by have:=hi.ro;simp [extH];omega
 rm id b c T m h:=hi.rm id b c T m (ext_live h)
theorem keep_ext {g:Gh} {H:Heap} {w:World} (hi:Inv g H w) (m:Nat):Keep g H w g (extH H m) w where
 le:= .refl g
 heap _ _ _:=rfl
 store _ _ _ _:=rfl
 size:=Nat.le_refl _
 new id b h h':=by rw [h] at h';cases h'
 tnew t b lo hi h h':=by rw [h] at h';cases h'
 ro:=rfl
 bxl:=by simp [extH]
 bx id h:=by have:=hi.ro;simp only [extH];rw [List.getElem?_append_left (by omega)]
 nt:=Nat.le_refl _
 lv t h:= .inl h
 al _ _ _ h:=ext_live h
 ns _ _ h:=h
 so:= .rfls
theorem drawOk (hE : TOk E P) (hm : P.follows .mixedOrders = true) {tm : TM} {H : Heap} {tm' : TM} {H' : Heap} (hS : Sched ops H.ro H.bx.length m cls tgt msk)
  (h:Run E P own n ops H.bx.length cls tgt msk (List.range ops.size) tm (extH H m) tm' H'):DrawOk E P own n ops tm H tm' H':=by
 intro id g a w Q hr hq
 refine wp_region_any hm ?_
 have hall:todo ops.size (Array.replicate ops.size false)=List.range ops.size:=by
  unfold todo
  refine List.filter_eq_self.2 fun k hk=> ?_
  have:=List.mem_range.1 hk
  simp [Array.getD,this]
 have hw:Inv g H {w with drawn:=w.drawn+1}:=hr.inv.same rfl
 have hk:Keep g H w g H {w with drawn:=w.drawn+1}:= .same rfl
 have hke:=hk.then hr.inv (keep_ext hw m)
 refine draw_any hE hS (Q:=Q) (tm':=tm') (H':=H') hr.inv rfl hr.inv.ro hq ops.size _ tm (extH H m) g a _ (by simp) (by rw [hall];simp) (fun i l hi=> ?_) (by rw [hall];exact h)
  ⟨hr.sz,hr.tm,inv_ext hw _,hr.gl,hr.df⟩ rfl hr.inv.ro (by simp [extH]) (fun k hk1 _=>hr.inv.sd _ (by omega)) hke
 by_cases hlt:i < ops.size
 · simp [Array.getD,hlt] at hi
 · simp [Array.getD,hlt] at hi
end
end Go.Vm
namespace Go.Vm
inductive Tr where
 | leaf
 | node (v:PV) (l r:Tr)
noncomputable def tget (t:Tr):Nat→PV:=
 Tr.rec (motive:=fun _=>Nat→PV) (fun _=>unset)
  (fun v _ _ il ir n=>Nat.rec (motive:=fun _=>PV) v (fun m _=>Nat.rec (motive:=fun _=>PV) (il (m / 2)) (fun _ _=>ir (m / 2)) (m % 2)) n) t
noncomputable def tset:Nat→Tr→Nat→PV→Tr:=fun d=>
 Nat.rec (motive:=fun _=>Tr→Nat→PV→Tr) (fun t _ _=>t) (fun _ ih t n v=>
  Tr.rec (motive:=fun _=>Tr)
   (Nat.rec (motive:=fun _=>Tr) (.node v .leaf .leaf) (fun m _=>Nat.rec (motive:=fun _=>Tr) (.node unset (ih .leaf (m / 2) v) .leaf) (fun _ _=> .node unset .leaf (ih .leaf (m / 2) v)) (m % 2)) n)
   (fun x l r _ _=>Nat.rec (motive:=fun _=>Tr) (.node v l r) (fun m _=>Nat.rec (motive:=fun _=>Tr) (.node x (ih l (m / 2) v) r) (fun _ _=> .node x l (ih r (m / 2) v)) (m % 2)) n) t) d
theorem tget_leaf (n:Nat):tget .leaf n=unset:=rfl
theorem tget_succ (v:PV) (l r:Tr) (m:Nat):tget (.node v l r) (m+1)=if m % 2=0 then tget l (m / 2) else tget r (m / 2):=by
 show Nat.rec (motive:=fun _=>PV) (tget l (m / 2)) (fun _ _=>tget r (m / 2)) (m % 2)=_
 cases m % 2 with
 | zero=>rfl
 | succ _=>rfl
theorem tset_leaf_zero (d:Nat) (v:PV):tset (d+1) .leaf 0 v= .node v .leaf .leaf:=rfl
theorem tset_node_zero (d:Nat) (x:PV) (l r:Tr) (v:PV):tset (d+1) (.node x l r) 0 v= .node v l r:=rfl
theorem tset_leaf_succ (d m:Nat) (v:PV):tset (d+1) .leaf (m+1) v=if m % 2=0 then .node unset (tset d .leaf (m / 2) v) .leaf else .node unset .leaf (tset d .leaf (m / 2) v):=by
 show Nat.rec (motive:=fun _=>Tr) (.node unset (tset d .leaf (m / 2) v) .leaf) (fun _ _=> .node unset .leaf (tset d .leaf (m / 2) v)) (m % 2)=_
 cases m % 2 with
 | zero=>rfl
 | succ _=>rfl
theorem tset_node_succ (d m:Nat) (x:PV) (l r:Tr) (v:PV):tset (d+1) (.node x l r) (m+1) v=if m % 2=0 then .node x (tset d l (m / 2) v) r else .node x l (tset d r (m / 2) v):=by
 show Nat.rec (motive:=fun _=>Tr) (.node x (tset d l (m / 2) v) r) (fun _ _=> .node x l (tset d r (m / 2) v)) (m % 2)=_
 cases m % 2 with
 | zero=>rfl
 | succ _=>rfl
theorem tget_tset:∀ (d:Nat) (t:Tr) (n:Nat) (v:PV) (k:Nat),n+1 < 2 ^ d→tget (tset d t n v) k=if k=n then v else tget t k
 | 0,t,n,v,k,h=>by simp at h
 | d + 1, t, n, v, k, h => by
   have hp:2 ^ (d+1)=2 * 2 ^ d:=by rw [Nat.pow_succ,Nat.mul_comm]
   cases n with
   | zero =>
     cases t with
     | leaf =>
       rw [tset_leaf_zero]
       cases k with
       | zero=>rfl
       | succ k=>rw [tget_succ];simp [tget_leaf]
     | node x l r =>
       rw [tset_node_zero]
       cases k with
       | zero=>rfl
       | succ k=>rw [tget_succ,tget_succ];simp
   | succ m =>
     have hm:m / 2+1 < 2 ^ d:=by omega
     have ih:=fun t k=>tget_tset d t (m / 2) v k hm
     cases t with
     | leaf =>
       rw [tset_leaf_succ]
       cases k with
       | zero=>split <;> rfl
       | succ k =>
         rw [tget_leaf]
         by_cases hm2:m % 2=0
         · rw [if_pos hm2, tget_succ, ih]
           simp only [tget_leaf]
           (repeat' split) <;> first | rfl | (exfalso;omega)
         · rw [if_neg hm2, tget_succ, ih]
           simp only [tget_leaf]
           (repeat' split) <;> first | rfl | (exfalso;omega)
     | node x l r =>
       rw [tset_node_succ]
       cases k with
       | zero=>split <;> rfl
       | succ k =>
         by_cases hm2:m % 2=0
         · rw [if_pos hm2, tget_succ, tget_succ, ih]
           (repeat' split) <;> first | rfl | (exfalso;omega)
         · rw [if_neg hm2, tget_succ, tget_succ, ih]
           (repeat' split) <;> first | rfl | (exfalso;omega)
noncomputable def setT (t:Tr) (d:Option Tmp) (v:PV):Tr:=
 match d with
 | some d=>tset 12 t d v
 | none=>t
theorem setT_eq {t:Tr} {d:Option Tmp} {v:PV} (h:∀ x,d=some x→x < 4000):tget (setT t d v)=setD (tget t) d v:=by
 cases d with
 | none=>rfl
 | some d =>
   funext k
   have:=h d rfl
   simp only [setT,setD]
   rw [tget_tset 12 t d v k (Nat.lt_of_lt_of_le (Nat.succ_lt_succ this) (by decide))]
noncomputable def tree0:List PV→Nat→Tr→Tr
 | [],_,t=>t
 | v :: r,i,t=>tree0 r (i+1) (tset 12 t i v)
theorem tree0_get:∀ (l:List PV) (i:Nat) (t:Tr) (k:Nat),i+l.length < 4000→tget (tree0 l i t) k=if i≤k∧k < i+l.length then l.getD (k - i) unset else tget t k
 | [], i, t, k, _ => by
   simp only [tree0,List.length_nil,Nat.add_zero]
   rw [if_neg (by omega)]
 | v :: l, i, t, k, h => by
   simp only [List.length_cons] at h
   simp only [tree0]
   rw [tree0_get l (i+1) _ k (by omega)]
   by_cases h1:i+1≤k∧k < i+1+l.length
   · rw [if_pos h1, if_pos (by simp only [List.length_cons]; omega)]
     have:k - i=(k - (i+1))+1:=by omega
     rw [this];rfl
   · rw [if_neg h1, tget_tset 12 t i v k (by omega)]
     by_cases e:k=i
     · subst e
       rw [if_pos rfl,if_pos (by simp only [List.length_cons];omega)]
       simp
     · rw [if_neg e,if_neg (by simp only [List.length_cons];omega)]
theorem tree0_eq {l:List PV} (h:l.length < 4000):tget (tree0 l 0 .leaf)=tm0 l:=by
 funext k
 rw [tree0_get l 0 .leaf k (by omega)]
 simp only [tm0]
 by_cases hk:k < l.length
 · rw [if_pos ⟨Nat.zero_le _,by omega⟩];rfl
 · rw [if_neg (by omega)]
   simp [List.getD,List.getElem?_eq_none (Nat.le_of_not_lt hk),tget_leaf]
end Go.Vm
