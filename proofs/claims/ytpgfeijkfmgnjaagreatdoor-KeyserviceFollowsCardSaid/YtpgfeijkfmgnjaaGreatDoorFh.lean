/-
  The order of terms, and that it is one.
-/
import Derived.Test.YtpgfeijkfmgnjaaGreatDoorFg
import Derived.IntWalk
import Derived.Lib.UnsafeStr
import Derived.Lib.Join
import Derived.Lib.Bytealg
import Derived.Laws.Externs
import Derived.Below
noncomputable section
namespace Go.Vm
variable {bx bx':List Box} {d es i ix len n0 nt nt' off ro ro':Nat} {lv lv':List Nat} {f:FuncId} {fn:Func} {args cs ps:List PV} {H' H1:Heap} {Pr:Heap→Prop} {all:List Oper} {bT e t ty:TypeId} {X:List (Nat×PV)} {pos:String} {aft:Array Edge} {grd:Option (Nat×Bool)} {ei ti:TI} {el:List (List PV)} {k:IntKind} {ops:Array Oper} {p':PV} {nm:List UInt8} {a b s:Int} {vals:Array Value}
section
variable {E:Env} {P:Program}
theorem Zfo {ext:List Box} (h:i<bx.length):(⟨bx++ext,ro,lv,nt⟩:Heap).liveAt i↔(⟨bx,ro,lv,nt⟩:Heap).liveAt i:=by
 simp only [Heap.liveAt,List.getElem?_append_left h]
theorem ZjU {ext:List Box} (hl:bx'.length=bx.length) (h:bx.length≤i):(⟨bx'++ext,ro',lv',nt'⟩:Heap).liveAt i↔(⟨bx++ext,ro,lv,nt⟩:Heap).liveAt i:=by
 simp only [Heap.liveAt,List.getElem?_append_right h,List.getElem?_append_right (show bx'.length≤i by omega),hl]
def Gh.glue (g' g:Gh) (n:Nat):Gh:={g' with σ:=fun i=>if i<n then g'.σ i else g.σ i,κ:=fun i=>if i<n then g'.κ i else g.κ i}
theorem CallOk.ext {f : FuncId} {args : List PV} {r : PV} {bx bx' ext : List Box} {ro nt nt' : Nat} {lv lv' : List Nat} (h : CallOk E P f args ⟨bx, ro, lv, nt⟩ r ⟨bx', ro, lv', nt'⟩) (hl : bx'.length = bx.length)
  (hu:ZI bx.length args=true) (hb:bx.all (Yw bx.length)=true) (hro:ro≤bx.length):CallOk E P f args ⟨bx++ext,ro,lv,nt⟩ r ⟨bx'++ext,ro,lv',nt'⟩:=by
 intro g w vals hi hg hv
 have htake:(bx++ext).take bx.length=bx:=by simp
 have hic:=Zey (n:=bx.length) hi (by simp) hro (by simpa [htake] using hb)
 simp only [htake] at hic
 have hvc:VL (g.cutσ bx.length) args vals.toList:=⟨hv.1,fun i h1 h2=>(hv.2 i h1 h2).cut (XL hu i h1)⟩
 refine UponCall.mono (fun v w' ⟨g',hp,hi',k⟩=>?_) (h (g.cutσ bx.length) w vals hic hg hvc)
 have hsd:∀ i,bx.length≤i→g'.σ i=none:=fun i hi0=>hi'.sd i (by simpa [hl] using hi0)
 have s1:∀ i,i<bx.length→(g'.glue g bx.length).σ i=g'.σ i:=fun i h=>by simp [Gh.glue,h]
 have s2:∀ i,bx.length≤i→(g'.glue g bx.length).σ i=g.σ i:=fun i h=>by simp [Gh.glue,Nat.not_lt.2 h]
 have le1:g'.Le (g'.glue g bx.length):=⟨fun _ _ _ h=>h,fun i b h=>(by
  by_cases e:i<bx.length
  · rw [s1 i e];exact h
  · rw [hsd i (by omega)] at h;cases h),fun _ _ h=>h,fun i b h=>(by
  by_cases e:i<bx.length
  · simp [Gh.glue,e]
  · rw [hsd i (by omega)] at h;cases h),rfl⟩
 have le2:g.Le (g'.glue g bx.length):=⟨fun b o v h=>k.le.S b o v h,fun i b h=>(by
  by_cases e:i<bx.length
  · rw [s1 i e];exact k.le.σ i b (by rw [XK e];exact h)
  · rw [s2 i (by omega)];exact h),fun t x h=>k.le.τ t x h,fun i b h=>(by
  by_cases e:i<bx.length
  · simp only [Gh.glue, e, if_true]
    exact k.le.κ i b (by rw [XK e];exact h)
  · simp [Gh.glue,e]),k.le.mono⟩
 have cutlive:∀ {i},(⟨bx,ro,lv,nt⟩:Heap).liveAt i→i<bx.length∧(⟨bx++ext,ro,lv,nt⟩:Heap).liveAt i:=fun {i} h=>by
  obtain ⟨b,hb,ha⟩:=h
  have:=ZK hb
  exact ⟨this,(Zfo this).2 ⟨b,hb,ha⟩⟩
 have shutE:∀ j b,bx.length≤j→(⟨bx++ext,ro,lv,nt⟩:Heap).liveAt j→g.σ j=some b→Shut (g.cutσ bx.length) ⟨bx,ro,lv,nt⟩ b:=fun j b hj hlj hs=>
  ⟨fun id _ hlid he => by
    obtain ⟨h1,h2⟩:=YD he
    have:=hi.inj id j b (cutlive hlid).2 hlj h2 hs
    omega,fun t lo hi2 ht he=>(hi.tk t b lo hi2 ht he).2.2 j hlj hs⟩
 have heapE:∀ j b,bx.length≤j→(⟨bx++ext,ro,lv,nt⟩:Heap).liveAt j→g.σ j=some b→w'.heap[b]? = w.heap[b]? ∧∀ o,g'.S b o=g.S b o:=fun j b hj hlj hs=>
  ⟨k.heap b (hi.sz j b hs) (shutE j b hj hlj hs),k.store b (hi.sz j b hs) (shutE j b hj hlj hs)⟩
 have notnew:∀ i j b,i<bx.length→(⟨bx',ro,lv',nt'⟩:Heap).liveAt i→bx.length≤j→(⟨bx++ext,ro,lv,nt⟩:Heap).liveAt j→g'.σ i=some b→g.σ j=some b→False:=fun i j b hi1 hli hj hlj h1 h2=>by
  cases e:(g.cutσ bx.length).σ i with
  | some b0 =>
    have:=k.le.σ _ _ e
    rw [h1] at this
    cases this
    have hl0:=k.al i b e hli
    have:=hi.inj i j b (cutlive hl0).2 hlj (YD e).2 h2
    omega
  | none =>
    rcases k.new i b e h1 with h3|⟨id',_,h4,h5⟩
    · have:=hi.sz j b h2;omega
    · have h6 := hi.inj id' j b (cutlive h4).2 hlj (YD h5).2 h2
      have:=(YD h5).1
      omega
 have getl:∀ i,i<bx.length→(bx'++ext)[i]? = bx'[i]? :=fun i h=>List.getElem?_append_left (by omega)
 have getr:∀ i,bx.length≤i→(bx'++ext)[i]? = (bx++ext)[i]? :=fun i h=>by
  rw [List.getElem?_append_right (by omega),List.getElem?_append_right h,hl]
 have liveSplit:∀ i,(⟨bx'++ext,ro,lv',nt'⟩:Heap).liveAt i→(i<bx.length∧(⟨bx',ro,lv',nt'⟩:Heap).liveAt i)∨(bx.length≤i∧(⟨bx++ext,ro,lv,nt⟩:Heap).liveAt i):=fun i h=>by
  by_cases e:i<bx.length
  · exact .inl ⟨e,(Zfo (by omega)).1 h⟩
  · exact .inr ⟨by omega,(ZjU hl (by omega)).1 h⟩
 refine ⟨g'.glue g bx.length,hp.mono le1,⟨hi'.st,fun id es el h=>?_,fun id es h=>?_,fun id T cs h=>?_,fun i j b h1 h2 h3 h4=>?_,fun id h=>?_,hi'.td,fun t b lo hi2 ht hτ=>?_,hi'.tinj,hi'.nd,hi'.lt,fun id b h=>?_,?_,fun id b c T m h1 h2 h3=>?_⟩,
  ⟨le2,fun b hb hs=>k.heap b hb ?_,fun b hb hs=>k.store b hb ?_,k.size,fun id b h h'=>?_,fun t b lo hi2 h h'=>k.tnew t b lo hi2 h h',rfl,by simp [hl],fun id h=>?_,k.nt,k.lv,fun id b h h'=>?_,fun id h h'=>?_,k.so⟩⟩
 · by_cases e : id < bx.length
   · obtain ⟨b, c, T, h1, h2, h3, h4, h5, h6⟩ := hi'.bx id es el (by rw [← getl id e]; exact h)
     exact ⟨b,c,T,by rw [s1 id e];exact h1,h2,h3,h4,fun i hi0 j hj=>let ⟨v,a,x⟩:=h5 i hi0 j hj;⟨v,a,x.mono le1⟩,h6⟩
   · have hg0 : (bx ++ ext)[id]? = some (.cells es el) := by rw [← getr id (by omega)]; exact h
     obtain ⟨b,c,T,h1,h2,h3,h4,h5,h6⟩:=hi.bx id es el hg0
     obtain ⟨hh,hS⟩:=heapE id b (by omega) ⟨_,hg0,trivial⟩ h1
     exact ⟨b,c,T,by rw [s2 id (by omega)];exact h1,by rw [hh];exact h2,h3,h4,fun i hi0 j hj=>let ⟨v,a,x⟩:=h5 i hi0 j hj;⟨v,a,x.mono le2⟩,fun o=>(hS o).trans (h6 o)⟩
 · by_cases e : id < bx.length
   · obtain ⟨b, c, T, h1, h2, h3, h4, h5⟩ := hi'.mp id es (by rw [← getl id e]; exact h)
     exact ⟨b,c,T,by rw [s1 id e];exact h1,h2,h3,fun i hi0=>let ⟨a,z,x,y⟩:=h4 i hi0;⟨a,z,x.mono le1,y.mono le1⟩,h5⟩
   · have hg0 : (bx ++ ext)[id]? = some (.map es) := by rw [← getr id (by omega)]; exact h
     obtain ⟨b,c,T,h1,h2,h3,h4,h5⟩:=hi.mp id es hg0
     obtain ⟨hh,hS⟩:=heapE id b (by omega) ⟨_,hg0,trivial⟩ h1
     exact ⟨b,c,T,by rw [s2 id (by omega)];exact h1,by rw [hh];exact h2,h3,fun i hi0=>let ⟨a,z,x,y⟩:=h4 i hi0;⟨a,z,x.mono le2,y.mono le2⟩,fun o=>(hS o).trans (h5 o)⟩
 · by_cases e : id < bx.length
   · obtain ⟨b, c, h1, h2, h3, h4, h5⟩ := hi'.sp id T cs (by rw [← getl id e]; exact h)
     exact ⟨b,c,by rw [s1 id e];exact h1,h2,h3,fun j hj=>let ⟨v,a,x⟩:=h4 j hj;⟨v,a,x.mono le1⟩,h5⟩
   · have hg0 : (bx ++ ext)[id]? = some (.sp T cs) := by rw [← getr id (by omega)]; exact h
     obtain ⟨b,c,h1,h2,h3,h4,h5⟩:=hi.sp id T cs hg0
     obtain ⟨hh,hS⟩:=heapE id b (by omega) ⟨_,hg0,trivial⟩ h1
     exact ⟨b,c,by rw [s2 id (by omega)];exact h1,by rw [hh];exact h2,h3,fun j hj=>let ⟨v,a,x⟩:=h4 j hj;⟨v,a,x.mono le2⟩,fun o=>(hS o).trans (h5 o)⟩
 · rcases liveSplit i h1 with ⟨a1, a2⟩ | ⟨a1, a2⟩ <;> rcases liveSplit j h2 with ⟨b1, b2⟩ | ⟨b1, b2⟩
   · rw [s1 i a1] at h3;rw [s1 j b1] at h4;exact hi'.inj i j b a2 b2 h3 h4
   · rw [s1 i a1] at h3;rw [s2 j b1] at h4;exact (notnew i j b a1 a2 b1 b2 h3 h4).elim
   · rw [s2 i a1] at h3;rw [s1 j b1] at h4;exact (notnew j i b b1 b2 a1 a2 h4 h3).elim
   · rw [s2 i a1] at h3;rw [s2 j b1] at h4;exact hi.inj i j b a2 b2 h3 h4
 · have h : bx.length + ext.length ≤ id := by simpa [hl] using h
   rw [s2 id (by omega)]
   exact hi.sd id (by simpa using h)
 · obtain ⟨h3, h5, h6⟩ := hi'.tk t b lo hi2 ht hτ
   refine ⟨h3,h5,fun id hlid he=>?_⟩
   rcases liveSplit id hlid with ⟨a1,a2⟩|⟨a1,a2⟩
   · rw [s1 id a1] at he;exact h6 id a2 he
   · rw [s2 id a1] at he
     cases e:(g.cutσ bx.length).τ t with
     | some x =>
       have:=k.le.τ _ _ e
       have hτ':g'.τ t=some (b,lo,hi2):=hτ
       rw [hτ'] at this
       cases this
       rcases k.lv t ht with h7|h7
       · exact (hi.tk t b lo hi2 h7 e).2.2 id a2 he
       · rw [show (g.cutσ bx.length).τ t=g.τ t from rfl,hi.td t h7] at e;cases e
     | none =>
       rcases k.tnew t b lo hi2 e hτ with h7|⟨t',lo',hi3,h8,h9⟩
       · have:=hi.sz id b he;omega
       · exact (hi.tk t' b lo' hi3 h8 h9).2.2 id a2 he
 · by_cases e : id < bx.length
   · rw [s1 id e] at h;exact hi'.sz id b h
   · rw [s2 id (by omega)] at h;exact Nat.lt_of_lt_of_le (hi.sz id b h) k.size
 · simp [hl];omega
 · rcases liveSplit id h1 with ⟨a1, a2⟩ | ⟨a1, a2⟩
   · rw [s1 id a1] at h2
     simp only [Gh.glue,a1,if_true]
     exact hi'.rm id b c T m a2 h2 h3
   · rw [s2 id a1] at h2
     simp only [Gh.glue,Nat.not_lt.2 a1,if_false]
     rw [(heapE id b a1 a2 h2).1] at h3
     exact hi.rm id b c T m a2 h2 h3
 · exact ⟨fun id hr hlid he=>hs.1 id hr (cutlive hlid).2 (YD he).2,hs.2⟩
 · exact ⟨fun id hr hlid he=>hs.1 id hr (cutlive hlid).2 (YD he).2,hs.2⟩
 · by_cases e : id < bx.length
   · rw [s1 id e] at h'
     exact (k.new id b (by rw [XK e];exact h) h').imp (fun h=>h) fun ⟨id',a,b,c⟩=>⟨id',a,(cutlive b).2,(YD c).2⟩
   · rw [s2 id (by omega),h] at h';cases h'
 · have h : id < ro := h
   have hx:=k.bx id h
   rw [getl id (by omega),List.getElem?_append_left (by omega)]
   exact hx
 · rcases liveSplit id h' with ⟨a1, a2⟩ | ⟨a1, a2⟩
   · exact (cutlive (k.al id b (by rw [XK a1];exact h) a2)).2
   · exact a2
 · by_cases e : id < bx.length
   · rw [s1 id e];exact k.ns id e (by rw [XK e];exact h')
   · rw [s2 id (by omega)];exact h'
structure RetE (E:Env) (fn:Func) (r:PV) (H':Heap) (ex:Ex) (tm:TM) (H1:Heap):Prop where
 nx:∀ i,ex≠ .exit i
 res:∃ ps,V4 E tm H1 fn.results.toList=some ps∧one ps=r
 hp:H1=H'
theorem Ye (hE : TOk E P) {own : Tmp → Bool} {c : Code} (hf : FnOk P f fn c) {r : PV} {H : Heap}
  (h:Wp E P own fn.ntmps c (RetE E fn r H') (tm0 args) H):CallOk E P f args H r H':=by
 obtain ⟨ex,tm',H1,h1,h2⟩:=h.out
 obtain ⟨ps,h3,rfl⟩:=h2.res
 obtain rfl:=h2.hp
 exact Vf (own:=own) hE hf h1 h2.nx h3
structure DropF (n0:Nat) (Q:Ex→TM→Heap→Prop) (ex:Ex) (tm:TM) (H:Heap):Prop where
 out:DropQ n0 Q ex tm H
theorem ZgE (hE : TOk E P) {own : Tmp → Bool} {c : Code} (hf : FnOk P f fn c) {r : PV} {H : Heap}
  (h:Wp E P own fn.ntmps c (DropF H.bx.length (RetE E fn r H')) (tm0 args) H):CallOk E P f args H r H':=by
 refine Ye (own:=own) hE hf (Wp.drop ?_)
 obtain ⟨ex,tm',H1,h1,h2⟩:=h.out
 exact ⟨ex,tm',H1,h1,h2.out⟩
theorem DropF.ret {Q : Ex → TM → Heap → Prop} {ex : Ex} {tm : TM} (l : List (Nat × PV)) (hl : okL tm l) (hu : (l.all fun x => under n0 x.2) = true) (hb : bx.take n0 = bx') (hbu : bx'.all (Yw n0) = true)
  (h:Q ex (ovr (fun _=> .undef) l) ⟨bx',ro,lv,nt⟩):DropF n0 Q ex tm ⟨bx,ro,lv,nt⟩:=⟨DropQ.go l hl hu hb hbu h⟩
theorem RetE.ret {fn:Func} {r:PV} {H' H1:Heap} {tm:TM} {ps:List PV} (h1:V4 E tm H1 fn.results.toList=some ps) (h2:one ps=r) (h3:H1=H'):RetE E fn r H' .ret tm H1:=⟨fun i h=>(by cases h),⟨ps,h1,h2⟩,h3⟩
theorem RetE.go {r:PV} {tm:TM} (h1:V4 E tm H1 fn.results.toList=some ps) (h2:one ps=r) (h3:H1=H'):RetE E fn r H' .normal tm H1:=⟨fun i h=>(by cases h),⟨ps,h1,h2⟩,h3⟩
structure RetP (E:Env) (fn:Func) (r:PV) (Pr:Heap→Prop) (ex:Ex) (tm:TM) (H1:Heap):Prop where
 nx:∀ i,ex≠ .exit i
 res:∃ ps,V4 E tm H1 fn.results.toList=some ps∧one ps=r
 hp:Pr H1
theorem Zbu (hE : TOk E P) {own : Tmp → Bool} {c : Code} (hf : FnOk P f fn c) {r : PV} {H : Heap}
  (h:Wp E P own fn.ntmps c (RetP E fn r Pr) (tm0 args) H):∃ H',CallOk E P f args H r H'∧Pr H':=by
 obtain ⟨ex,tm',H1,h1,h2⟩:=h.out
 obtain ⟨ps,h3,rfl⟩:=h2.res
 exact ⟨H1,Vf (own:=own) hE hf h1 h2.nx h3,h2.hp⟩
theorem RetP.ret {fn:Func} {r:PV} {Pr:Heap→Prop} {H1:Heap} {tm:TM} {ps:List PV} (h1:V4 E tm H1 fn.results.toList=some ps) (h2:one ps=r) (h3:Pr H1):RetP E fn r Pr .ret tm H1:=⟨fun i h=>(by cases h),⟨ps,h1,h2⟩,h3⟩
theorem RetP.go {r:PV} {tm:TM} (h1:V4 E tm H1 fn.results.toList=some ps) (h2:one ps=r) (h3:Pr H1):RetP E fn r Pr .normal tm H1:=⟨fun i h=>(by cases h),⟨ps,h1,h2⟩,h3⟩
structure RetR (E:Env) (fn:Func) (Pr:PV→Heap→Prop) (ex:Ex) (tm:TM) (H1:Heap):Prop where
 nx:∀ i,ex≠ .exit i
 res:∃ ps,V4 E tm H1 fn.results.toList=some ps∧Pr (one ps) H1
theorem Z4 (hE : TOk E P) {own : Tmp → Bool} {c : Code} (hf : FnOk P f fn c) {H : Heap} {Pr : PV → Heap → Prop}
  (h:Wp E P own fn.ntmps c (RetR E fn Pr) (tm0 args) H):∃ r H',CallOk E P f args H r H'∧Pr r H':=by
 obtain ⟨ex,tm',H1,h1,h2⟩:=h.out
 obtain ⟨ps,h3,h4⟩:=h2.res
 exact ⟨_,H1,Vf (own:=own) hE hf h1 h2.nx h3,h4⟩
theorem RetR.ret {fn:Func} {Pr:PV→Heap→Prop} {H1:Heap} {tm:TM} {ps:List PV} (h1:V4 E tm H1 fn.results.toList=some ps) (h3:Pr (one ps) H1):RetR E fn Pr .ret tm H1:=⟨fun i h=>(by cases h),ps,h1,h3⟩
theorem RetR.go {Pr:PV→Heap→Prop} {tm:TM} (h1:V4 E tm H1 fn.results.toList=some ps) (h3:Pr (one ps) H1):RetR E fn Pr .normal tm H1:=⟨fun i h=>(by cases h),ps,h1,h3⟩
theorem Zsj {own : Tmp → Bool} {n : Nat} {K : TM → Heap → Prop} {tm : TM} {H : Heap} {r : List Oper} {x : Operand} {X p : PV} (hw : Ze all tm ⟨none, .call { callee := .builtin .clear, args := #[x], argTypes := #[t] }, ty, pos, aft, grd⟩ = some true)
  (hx:Zh E tm x=X) (h:QR E t X H=some (p,H1)) (hr:RegQ E P own n all r K tm H1):RegQ E P own n all (⟨none,.call {callee:= .builtin .clear,args:= #[x],argTypes:= #[t]},ty,pos,aft,grd⟩::r) K tm H:=
 .op (p:=p) hw rfl (by simp [aOp,Yt,hx,h]) hr
theorem Zgo {id : Nat} {H : Heap} (ht : E.T t = some ti) (hk : ti.tk = .slice e) (he : E.T e = some ei) (hz : ei.zero.cells.length = ei.size) (hes : ei.size = es) (hpos : 0 < es) (hzo : ei.zero.cells.all Z7 = true)
  (hb:nth H.bx id=some (.cells es el)) (hro:H.ro≤id) (hl:ix+len≤el.length) :
  QR E t (.own id es ix len) H=some (.tup [],{H with bx:=H.bx.set id (.cells es (el.take ix++(List.replicate len ei.zero.cells++el.drop (ix+len))))}):=by
 simp only [QR,ht,hk,he,hb]
 rw [if_pos ⟨trivial,hz,hes,hpos,hro,hl,hzo⟩]
theorem Zok {H:Heap} {id n:Nat} (hb:nth H.bx id=some (.cells es el)) (he:nth el ix=some cs) (hl:off+n≤cs.length):H.rd (.ptr id es ix off) n=some ((cs.drop off).take n):=by
 simp only [Heap.rd,hb,he,if_true,if_pos hl]
theorem ZgG {H : Heap} {id : Nat} {old : List PV} (hb : nth H.bx id = some (.cells es el)) (he : nth el ix = some old) (hl : off + cs.length ≤ old.length) (hro : H.ro ≤ id) :
  H.wr (.ptr id es ix off) cs=some {H with bx:=H.bx.set id (.cells es (el.set ix (old.take off++(cs++old.drop (off+cs.length)))))}:=by
 simp only [Heap.wr,hb,he,if_true,if_pos hl,Heap.put,if_neg (Nat.not_lt.2 hro)]
theorem ZaO {H : Heap} {id : Nat} (ht : E.T t = some ti) (hk : QH ti.tk = true) (hb : nth H.bx id = some (.cells es el)) (he : nth el ix = some cs) (hl : cs.length = ti.size) :
  YO E t (.ptr id es ix 0) H=some (.agg cs):=by
 simp only [YO,ht,hk,if_true]
 rw [Zok hb he (by omega)]
 simp only [Zkn,hk,if_true]
 rw [List.drop_zero, ← hl,List.take_length]
theorem ZlS {H : Heap} {id : Nat} {v : PV} (ht : E.T t = some ti) (hk : QH ti.tk = false) (hb : nth H.bx id = some (.cells es el)) (he : nth el ix = some cs) (hv : nth cs off = some v) :
  YO E t (.ptr id es ix off) H=some v:=by
 simp only [YO,ht,hk]
 rw [ZA] at hv
 have hlt:=ZK hv
 have h1:(cs.drop off).take 1= [v]:=by
  rw [List.drop_eq_getElem_cons hlt]
  simp [V9 hv]
 simp only [Bool.false_eq_true,if_false]
 rw [Zok hb he (by omega),h1]
 simp [Zkn,hk]
theorem ZgB {id j:Nat} (ht:E.T t=some ti) (hk:ti.tk= .slice e) (he:E.T e=some ei) (hes:ei.size=es) (hj:j<len):Zp E t (.own id es ix len) (.int k (j:Int))=some (.ptr id es (ix+j) 0):=by
 have hn:nat? (.int k (j:Int))=some j:=by simp [nat?]
 simp only [Zp,ht,hn,hk,he,if_pos hes,if_pos hj]
end
section
variable {E:Env} {P:Program} {own:Tmp→Bool} {n:Nat} {K:TM→Heap→Prop} {tm:TM} {H:Heap}
theorem Zvz {r : List Oper} {m : Nat} {ps : Array (Nat × Operand)} {el' : List (List PV)} (hw : Ze ops.toList tm ⟨some d, .buildSlice t m ps, ty, pos, aft, grd⟩ = some true) (hn : Nat.blt d n = true)
  (ho:own d=false) (h:YK E t m (ps.toList.map fun p=>(p.1,Zh E tm p.2))=some (es,el)) (hf:Xm el=some el') (hk:okD E own n0 tm ⟨some d,.buildSlice t m ps,ty,pos,aft,grd⟩ H H=true)
  (hr:DrwQ E P own n ops n0 (i+1) r K (ZX tm (some d) (.sl .full es el')) H):DrwQ E P own n ops n0 i (⟨some d,.buildSlice t m ps,ty,pos,aft,grd⟩::r) K tm H:=by
 refine .run hw rfl hn (p:= .sl .full es el') ?_ (.any _) hk hr
 simp only [aOp,h,ho,Bool.false_eq_true,if_false,hf]
end
section
variable {E:Env} {P:Program}
theorem CallOk.shed {r : PV} (h : CallOk E P f args ⟨bx, ro, lv, nt⟩ r ⟨bx', ro', lv', nt'⟩) (hl : bx.length ≤ bx'.length) (hro : ro' ≤ bx.length)
  (hu:under bx.length r=true) (hb:(bx'.take bx.length).all (Yw bx.length)=true):CallOk E P f args ⟨bx,ro,lv,nt⟩ r ⟨bx'.take bx.length,ro',lv',nt'⟩:=by
 intro g w vals hi hg hv
 refine UponCall.mono (fun v w' ⟨g',hp,hi',k⟩=>?_) (h g w vals hi hg hv)
 exact ⟨g'.cutσ bx.length,hp.cut hu,Zey hi' hl hro hb,Zfe hi k⟩
theorem CallOk.free {r : PV} (h : CallOk E P f args ⟨[], 0, lv, nt⟩ r ⟨bx', 0, lv', nt'⟩) (ha : ZI 0 args = true) (hu : under 0 r = true) (bx : List Box) :
  CallOk E P f args ⟨bx,0,lv,nt⟩ r ⟨bx,0,lv',nt'⟩:=by
 have h1:=h.shed (Nat.zero_le _) (Nat.le_refl _) hu rfl
 have h2:=CallOk.ext (bx:=[]) (bx':=[]) (ext:=bx) (by simpa using h1) rfl ha rfl (Nat.le_refl _)
 simpa using h2
end
section
variable {E:Env} {P:Program} {own:Tmp→Bool} {n:Nat} {Q:Ex→TM→Heap→Prop} {tm:TM} {H:Heap}
def Zsx (o:Oper):Bool:=match o.op with
 | .alloc _=>true
 | .box _ _=>true
 |_=>false
theorem dWS {id:Nat} (hE:TOk E P) (hm:P.follows .mixedOrders=true) (_hal:ops.toList.any Zsx=false) (hs:Zm5 E own ops=true) (hro:H.ro=0) (h:DrwQ E P own n ops H.bx.length 0 ops.toList (Q .normal) tm H):Wp E P own n (.region id ops true) Q tm H:= .drawS hE hm hs hro h
theorem dWB {id : Nat} {H0 : Heap} (hE : TOk E P) (hm : P.follows .mixedOrders = true) (_hal : ops.toList.any Zsx = true) (hs : (ZeQ E own ops && !(alL E own ops.toList 0).isEmpty) = true) (hro : H.ro = 0) (hH : IsH (Za5 H ops.size) H0)
  (h:DrwQ E P own n ops H.bx.length 0 ops.toList (Q .normal) tm H0):Wp E P own n (.region id ops true) Q tm H:=dWA hE hm hs hro hH h
end
section
variable {E:Env} {P:Program} {own:Tmp→Bool} {n:Nat} {K:TM→Heap→Prop} {tm:TM} {H:Heap}
theorem qBd {r : List Oper} {ps : Array (Nat × Operand)} {p : PV} (hw : Ze all tm ⟨some d, .build t ps, ty, pos, aft, grd⟩ = some true) (hn : Nat.blt d n = true) (hx : (ps.toList.map fun p => (p.1, Zh E tm p.2)) = X) (h : Wr E t X = some p) (hv : IsV p p')
  (hr:RegQ E P own n all r K (ZX tm (some d) p') H):RegQ E P own n all (⟨some d,.build t ps,ty,pos,aft,grd⟩::r) K tm H:= .run hw rfl hn (p:=p) (by simp only [aOp,hx,h,Option.map_some]) hv hr
theorem dBd {r : List Oper} {ps : Array (Nat × Operand)} {p : PV} (hw : Ze ops.toList tm ⟨some d, .build t ps, ty, pos, aft, grd⟩ = some true) (hn : Nat.blt d n = true) (hx : (ps.toList.map fun p => (p.1, Zh E tm p.2)) = X) (h : Wr E t X = some p) (hv : IsV p p')
  (hk:okD E own n0 tm ⟨some d,.build t ps,ty,pos,aft,grd⟩ H H=true) (hr:DrwQ E P own n ops n0 (i+1) r K (ZX tm (some d) p') H):DrwQ E P own n ops n0 i (⟨some d,.build t ps,ty,pos,aft,grd⟩::r) K tm H:= .run hw rfl hn (p:=p) (by simp only [aOp,hx,h,Option.map_some]) hv hk hr
end
inductive Tm where
 |mk (kind:Int) (name:List UInt8) (sort:Int) (nil:Bool) (kz:List Tm)
variable {kz l:List Tm}
mutual
def Tm.cells:Tm→List PV
 | .mk k nm s b kz=>[.int .i64 k,.str nm,.int .i64 s,slV b 4 (Za kz)]
def Za:List Tm→List (List PV)
 | []=>[]
 |t::r=>t.cells::Za r
end
mutual
def Tm.size:Tm→Nat
 | .mk _ _ _ _ kz=>1+Zx kz
def Zx:List Tm→Nat
 | []=>0
 |t::r=>t.size+Zx r
end
theorem YU:∀ l:List Tm,Za l=l.map Tm.cells
 | []=>rfl
 |t::r=>by simp [Za,YU r]
theorem Zb (l:List Tm):(Za l).length=l.length:=by simp [YU]
theorem Zn {k : Int} {b : Bool} (h : l[i]? = some (.mk k nm s b kz)) :
  (Za l)[i]? = some [.int .i64 k,.str nm,.int .i64 s,slV b 4 (Za kz)]:=by
 simp [YU,h,Tm.cells]
theorem VU:∀ {i:Nat} {t:Tm},l[i]? = some t→Zx (l.take (i+1))=Zx (l.take i)+t.size:=by
 induction l with
 |nil=>intro i t h;simp at h
 | cons a r ih =>
   intro i t h
   cases i with
   | zero=>simp at h;subst h;simp [Zx]
   | succ i=>simp at h;simp only [List.take_succ_cons,Zx,ih h];omega
theorem Xy (l:List Tm) (i:Nat):Zx (l.take i)≤Zx l:=by
 induction l generalizing i with
 |nil=>simp
 | cons a r ih => cases i with
   | zero=>simp [Zx]
   | succ i=>simp only [List.take_succ_cons,Zx];have:=ih i;omega
theorem XB {t:Tm} (h:t∈l):t.size≤Zx l:=by
 induction l with
 |nil=>simp at h
 | cons a r ih =>
   simp only [Zx]
   rcases List.mem_cons.1 h with rfl|h
   · omega
   · have:=ih h;omega
theorem Zi {tm:TM} {l:List (Nat×PV)} (h:okL tm l):tm=ovr tm l:=(ZfS h).symm
theorem Zj (h:a=b):PV.int k a=PV.int k b:=by rw [h]
inductive Tm.Ok:Tm→Prop
 |mk {k:Int} {nm:List UInt8} {s:Int} {b:Bool} {kz:List Tm} (hk:(Lit.int .i64 k).wf=true) (hs:(Lit.int .i64 s).wf=true) (hn:nm.length≤maxLen) (hl:kz.length≤maxLen) (h:∀ t,t∈kz→t.Ok):Tm.Ok (.mk k nm s b kz)
theorem Zg {n:Nat} (h:n<9223372036854775808):IntKind.i64.wrap (n:Int)=(n:Int):=IntWalk.i64_in _ (by omega)
mutual
def Tm.budget:Tm→Int→Int
 | .mk _ nm _ _ kz,n=>if n≤0∨40<nm.length then -1 else Qi kz (n-1)
def Qi:List Tm→Int→Int
 | [],n=>n
 |t::r,n=>if t.budget n<0 then -1 else Qi r (t.budget n)
end
mutual
theorem Tm.budget_eq:∀ (t:Tm) (n:Int),0≤t.budget n→t.budget n=n-(t.size:Int)
 | .mk k nm s b kz, n, h => by
   simp only [Tm.budget] at h ⊢
   split at h
   · omega
   · rename_i hc
     rw [if_neg hc,ZbA kz (n-1) (by omega) h]
     simp only [Tm.size]
     omega
theorem ZbA:∀ (l:List Tm) (n:Int),0≤n→0≤Qi l n→Qi l n=n-(Zx l:Int)
 | [],n,_,_=>by simp [Qi,Zx]
 | t :: r, n, hn, h => by
   simp only [Qi] at h ⊢
   split at h
   · omega
   · rename_i hc
     rw [if_neg hc]
     have h1:=Tm.budget_eq t n (by omega)
     rw [ZbA r _ (by omega) h,h1]
     simp only [Zx]
     omega
end
def Tm.zero:Tm:= .mk 0 [] 0 true []
def isF (kind:Int) (nm w:List UInt8):Bool:=decide (kind=3)&&(nm==w)
theorem Z0 {α:Type} {l:List α} {t:α} (h:l[i]? = some t):l.drop i=t::l.drop (i+1):=by
 have hl:i<l.length:=by
  rcases Nat.lt_or_ge i l.length with h'|h'
  · exact h'
  · rw [List.getElem?_eq_none h'] at h;cases h
 rw [List.drop_eq_getElem_cons hl]
 rw [List.getElem?_eq_getElem hl] at h
 simp only [Option.some.injEq] at h
 rw [h]
theorem XW:∀ a:List UInt8,Op.bytesLess a a=false
 | []=>rfl
 |x::r=>by simp [Op.bytesLess,XW r]
theorem Tm.ok_zero:Tm.zero.Ok:= .mk (by decide) (by decide) (Nat.zero_le _) (Nat.zero_le _) (fun t h=>absurd h (by simp))
theorem Tm.Ok.kid {k:Int} {b:Bool} (h:(Tm.mk k nm s b kz).Ok) {t:Tm} (ht:t∈kz):t.Ok:=by
 cases h with|mk _ _ _ _ h=>exact h t ht
theorem Y3 (t:Tm):0<t.size:=by
 cases t
 simp only [Tm.size]
 omega
structure Kp (q:Prop):Prop where
 out:q
section
variable {p q r c:Prop}
theorem Jh (k : q) (h : Kp q → p := by
  intro h
  (first|(apply dSt;rfl;rfl;rfl;rfl;exact IsL.n;rfl;(first|rfl|assumption|(simp only [List.all_cons,List.all_nil,Ya,Bool.and_true];rfl));(first|rfl|assumption);exact IsH.mkN;(first|rfl|(simp [ZA];done));(first|rfl|(simp;done));rfl)|(apply h0;rfl;rfl;rfl;exact IsV.n;rfl)|(apply h1;rfl;rfl;rfl;exact IsV.n;exact IsH.mkN;rfl))
  exact h.out):p:=h ⟨k⟩
theorem Jo (k : q) (h : Kp q → p := by
  intro h
  (first|apply RegQ.nil|apply DrwQ.nil|(apply g0;rfl;rfl;rfl;exact IsV.n)|(apply g1;rfl;rfl;rfl;exact IsV.n;exact IsH.mkN)|(apply qSt;rfl;rfl;rfl;exact IsL.n;(first|rfl|assumption);(first|rfl|assumption|(simp only [List.all_cons,List.all_nil,Ya,Bool.and_true];rfl));(first|rfl|assumption);exact IsH.mkN)|apply Wp.seq|apply SeqQ.go|apply Wp.region|(apply Wp.condT;rfl)|(apply Wp.condF;rfl)|apply Wp.skip|apply Wp.ret|apply Wp.exit|apply SeqQ.exit|apply Wp.block|apply BlockQ.go|apply BlockQ.ret|apply SeqQ.ret|(apply BlockQ.hit;rfl)|(apply BlockQ.miss;rfl)|apply LoopI.ret|apply LoopI.exit|apply DropQ.ret|apply DropQ.exit|(apply Zuy;rfl;rfl)|(apply Zqf;rfl;rfl)|(apply Zve;rfl;exact IsL.n)|(apply ZuA;rfl;exact IsL.n))
  exact h.out):p:=h ⟨k⟩
theorem Jt (k : q) (h : Kp q → p := by
  intro h
  (first|(apply qT (ty:=4);rfl;rfl;rfl)|(apply qF (ty:=4);rfl;rfl;rfl))
  exact h.out):p:=h ⟨k⟩
theorem Jb (k : q) (l : r) (h : Kp q → Kp r → p := by
  intro h h'
  apply qB (ty:=4);rfl;rfl;rfl
  exact h.out
  exact h'.out):p:=h ⟨k⟩ ⟨l⟩
theorem Jl (k : q) (h : Kp q → p := by
  intro h
  apply qLn;rfl;rfl;rfl;rfl;rfl
  exact h.out):p:=h ⟨k⟩
theorem Jk (k : q) (h : Kp q → p := by
  intro h
  apply qK;rfl;rfl
  exact h.out):p:=h ⟨k⟩
theorem Ji (k : q) (h : Kp q → p := by
  intro h
  apply qBi;rfl;rfl;rfl;rfl;assumption;exact IsV.any _
  exact h.out):p:=h ⟨k⟩
theorem Jx (k : q) (h : Kp q → p := by
  intro h
  apply qIx;rfl;rfl;rfl;rfl;rfl;rfl;rfl;rfl;assumption
  exact h.out):p:=h ⟨k⟩
theorem Js (k : q) (h : Kp q → p := by
  intro h
  apply qBs;rfl;rfl;rfl;rfl;exact IsLL.n;(first|rfl|(simp only [Xm,XY,ZD];rfl))
  exact h.out):p:=h ⟨k⟩
theorem JA (k : q) (h : Kp q → p := by
  intro h
  apply qAp;rfl;rfl;rfl;rfl;rfl;(first|assumption|solve_by_elim)
  exact h.out):p:=h ⟨k⟩
theorem JB (k : q) (h : Kp q → p := by
  intro h
  apply dBs;rfl;rfl;rfl;rfl;exact IsLL.n;(first|rfl|(simp only [Xm,XY,ZD];rfl));rfl
  exact h.out):p:=h ⟨k⟩
theorem JI (k : q) (h : Kp q → p := by
  intro h
  apply dIx;rfl;rfl;rfl;rfl;rfl;rfl;rfl;rfl;assumption
  exact h.out):p:=h ⟨k⟩
theorem JS (k : q) (h : Kp q → p := by
  intro h
  apply qSl;rfl;rfl;rfl;rfl;rfl;rfl;assumption;exact IsV.any _
  exact h.out):p:=h ⟨k⟩
theorem JX (k : q) (h : Kp q → p := by
  intro h
  apply qXi;rfl;rfl;rfl;rfl;assumption;exact IsV.any _
  exact h.out):p:=h ⟨k⟩
theorem JJ (k : q) (h : Kp q → p := by
  intro h
  apply qIa;rfl;rfl;rfl;rfl;assumption;exact IsV.any _
  exact h.out):p:=h ⟨k⟩
theorem JK (k : q) (h : Kp q → p := by
  intro h
  apply dIa;rfl;rfl;rfl;rfl;assumption;exact IsV.any _
  exact h.out):p:=h ⟨k⟩
theorem JD (k : q) (h : Kp q → p := by
  intro h
  apply dBi;rfl;rfl;rfl;rfl;assumption;exact IsV.any _;rfl
  exact h.out):p:=h ⟨k⟩
theorem Jz (k : q) (l : r) (h : Kp q → Kp r → p := by
  intro h h'
  apply qB (ty:=0);rfl;rfl;rfl
  exact h.out
  exact h'.out):p:=h ⟨k⟩ ⟨l⟩
theorem Jc (x : c) (k : q) (h : Kp c → Kp q → p := by
  intro x h
  apply qCl;rfl;rfl;rfl;rfl;exact x.out
  exact h.out):p:=h ⟨x⟩ ⟨k⟩
theorem Jd (x : c) (k : q) (h : Kp c → Kp q → p := by
  intro x h
  apply dCl;rfl;rfl;rfl;rfl;rfl;exact x.out
  exact h.out):p:=h ⟨x⟩ ⟨k⟩
end
section
variable {E:Env} {P:Program}
theorem Jw (hE : TOk E P) {C D : Code} (hf : FnOk P f fn (.seq C D)) {r : PV} (hr : frz3 0 hNil r = some r)
  (h:Wp E P (fun _=>false) fn.ntmps C (SeqQ E P (fun _=>false) fn.ntmps D (RetQ E fn r)) (tm0 args) hNil) (ha:ZJ args=some args:=by first|rfl|(simp only [ZJ,frzG,XY,ZD];rfl)|(simp only [ZJ,Yy];done)|(simp only [ZJ,Yy];rfl)|(simp [ZJ,frzG,Tm.cells,VF];done)) (H:Heap):CallOk E P f args H r H:=
 Zm hE hf ha hr (Wp.seq h) H
end
open Go.RowKit
abbrev ZF:=List PV→Heap→Option (PV×Heap)
def ZjG:List (Nat×ZF)→FuncId→ZF
 | [],_,_,_=>none
 | (k, z) :: r, f, args, H => match Nat.beq f k with
   | true=>z args H
   | false=>ZjG r f args H
def Zsi:List (Nat×ZF)→FuncId→Bool
 | [],_=>false
 | (k, _) :: r, f => match Nat.beq f k with
   | true=>true
   | false=>Zsi r f
def ZOk (E:Env) (P:Program) (x:Nat×ZF):Prop:=∀ args H p H',x.2 args H=some (p,H')→CallOk E P x.1 args H p H'∧(E.eff x.1=false→H'=H)
theorem Zgu {E:Env} {P:Program}:∀ {l:List (Nat×ZF)},(∀ x,x∈l→ZOk E P x)→YE E P (ZjG l)
 | [],_=>fun f args H p H' h=>by simp [ZjG] at h
 | (k, z) :: r, hl => fun f args H p H' h => by
   simp only [ZjG] at h
   split at h
   · rename_i hf
     obtain rfl:=Nat.eq_of_beq_eq_true hf
     exact hl (f,z) List.mem_cons_self args H p H' h
   · exact Zgu (fun x hx=>hl x (List.mem_cons_of_mem _ hx)) f args H p H' h
theorem Zmk {p:Nat×ZF→Prop}:∀ x,x∈([]:List (Nat×ZF))→p x:=fun _ h=>absurd h (by simp)
theorem VY {p:Nat×ZF→Prop} {a:Nat×ZF} {l:List (Nat×ZF)} (h:p a) (hl:∀ x,x∈l→p x):∀ x,x∈a::l→p x:=fun x hx=>by
 rcases List.mem_cons.1 hx with rfl|hx
 · exact h
 · exact hl x hx
def V7:List UInt8→Int→Nat→Int
 | [],_,_=> -1
 |b::r,c,i=>if (b.toNat:Int)=c then i else V7 r c (i+1)
def ZbQ:List UInt8→Int→Int
 | [],_=>0
 |b::r,c=>if (b.toNat:Int)=c then ZbQ r c+1 else ZbQ r c
def Zpq:ZF:=fun args H=>match args with
 | [.str s, .int k c] => match decide (k = .u8) && (decide (0 ≤ c) && decide (c ≤ 255)) with
   | true=>some (.int .i64 (ZbQ s c),H)
   | false=>none
 |_=>none
def Zpj:ZF:=fun args H=>match args with
 | [.str s, .int k c] => match decide (k = .u8) && (decide (0 ≤ c) && decide (c ≤ 255)) with
   | true=>some (.int .i64 (V7 s c 0),H)
   | false=>none
 |_=>none
def ZnY:ZF:=fun args H=>match args with
 | [.str a,.str b]=>some (.int .i64 (Lib.compareBytes a b),H)
 |_=>none
theorem ZhA (c:UInt8):∀ (l:List UInt8) (k:Nat),V7 l (c.toNat:Int) (k:Nat)=if Lib.indexByte l c= -1 then -1 else Lib.indexByte l c+k
 | [],k=>by simp [V7,Lib.indexByte]
 | b :: l, k => by
   have ih:=ZhA c l (k+1)
   have hge:=Lib.indexByte_ge l c
   unfold V7 Lib.indexByte
   by_cases h:b=c
   · subst h
     simp
   · have h1 : ¬ (b.toNat : Int) = (c.toNat : Int) := fun e => h (UInt8.toNat_inj.1 (by exact_mod_cast e))
     have h2:(b==c)=false:=by simpa using h
     rw [if_neg h1,h2]
     simp only [Bool.false_eq_true,if_false]
     rw [ih]
     by_cases e:Lib.indexByte l c= -1
     · simp [e]
     · have e' : (Lib.indexByte l c == -1) = false := by simpa using e
       rw [if_neg e,e']
       simp only [Bool.false_eq_true,if_false]
       rw [if_neg (by omega)]
       omega
theorem Zi9 (c:UInt8):∀ l:List UInt8,ZbQ l (c.toNat:Int)=(Lib.countByte l c:Int)
 | []=>by simp [ZbQ,Lib.countByte]
 | b :: l => by
   have ih:=Zi9 c l
   unfold ZbQ
   unfold Lib.countByte at ih ⊢
   rw [List.count_cons]
   by_cases h:b=c
   · subst h
     rw [if_pos rfl,ih]
     simp
   · have h1 : ¬ (b.toNat : Int) = (c.toNat : Int) := fun e => h (UInt8.toNat_inj.1 (by exact_mod_cast e))
     have h2:(b==c)=false:=by simpa using h
     rw [if_neg h1,ih,h2]
     simp
section
variable {E:Env} {P:Program}
theorem VM {g:Gh} {p q:PV} (hv:VL g [p,q] vals.toList):∃ v0 v1,vals= #[v0,v1]∧V g p v0∧V g q v1:=by
 obtain ⟨l,hv⟩:=hv
 have hl:vals.toList.length=2:=by simpa using l
 obtain ⟨v0,v1,hvals⟩:∃ v0 v1,vals.toList= [v0,v1]:=by
  match h:vals.toList,hl with
  | [a,b],_=>exact ⟨a,b,rfl⟩
 rw [hvals] at hv
 exact ⟨v0,v1,Array.toList_inj.1 (by simpa using hvals),by simpa using hv 0 (by simp) (by simp),by simpa using hv 1 (by simp) (by simp)⟩
theorem Zea {g:Gh} {p:PV} (hv:VL g [p] vals.toList):∃ v0,vals= #[v0]∧V g p v0:=by
 obtain ⟨l,hv⟩:=hv
 have hl:vals.toList.length=1:=by simpa using l
 obtain ⟨v0,hvals⟩:∃ v0,vals.toList= [v0]:=by
  match h:vals.toList,hl with
  | [a],_=>exact ⟨a,rfl⟩
 rw [hvals] at hv
 exact ⟨v0,Array.toList_inj.1 (by simpa using hvals),by simpa using hv 0 (by simp) (by simp)⟩
theorem ZeO {c:Int} (h0:0≤c) (h1:c≤255):((c.toNat.toUInt8).toNat:Int)=c:=by
 have:c.toNat<256:=by omega
 simp [Nat.mod_eq_of_lt this]
 omega
theorem Zo9 (hf:P.funcs[f]? = some fn) (hn:(fn.name == "runtime.NumGoroutine") = false) (hb : fn.body.isNone = true) (hx : Extern.findNext fn = none) (he : Extern.find fn = some Extern.BytealgIndexByte.indexByte) :
  ZOk E P (f,Zpj):=by
 intro args H p H' h
 simp only [Zpj] at h
 split at h
 · rename_i s k c
   split at h
   · rename_i hc
     simp only [Bool.and_eq_true,decide_eq_true_eq] at hc
     obtain ⟨rfl,h0,h1⟩:=hc
     cases h
     refine ⟨fun g w vals hi hg hv=>?_,fun _=>rfl⟩
     obtain ⟨v0,v1,rfl,e0,e1⟩:=VM hv
     obtain ⟨b,rfl,hb2⟩:=e0.str_inv
     obtain rfl:=e1.int_inv
     rw [run_callFunc_extern (e:=Extern.BytealgIndexByte.indexByte) hf hn hb hx he,Lib.run_indexByteString]
     have hc:=ZeO h0 h1
     have e:=ZhA c.toNat.toUInt8 s 0
     rw [hc] at e
     have e2:V7 s c 0=Lib.indexByte s c.toNat.toUInt8:=by
      rw [e]
      split
      · rename_i h;exact h.symm
      · simp
     simp only [Result.andThen,UponCall]
     rw [e2,hb2]
     exact ⟨g,.pure _ _ (.int _ _),hi,KeepN.refl _ _ _ _⟩
   · cases h
 · cases h
theorem ZnZ (hf:P.funcs[f]? = some fn) (hn:(fn.name == "runtime.NumGoroutine") = false) (hb : fn.body.isNone = true) (hx : Extern.findNext fn = none) (he : Extern.find fn = some Extern.BytealgCount.count) :
  ZOk E P (f,Zpq):=by
 intro args H p H' h
 simp only [Zpq] at h
 split at h
 · rename_i s k c
   split at h
   · rename_i hc
     simp only [Bool.and_eq_true,decide_eq_true_eq] at hc
     obtain ⟨rfl,h0,h1⟩:=hc
     cases h
     refine ⟨fun g w vals hi hg hv=>?_,fun _=>rfl⟩
     obtain ⟨v0,v1,rfl,e0,e1⟩:=VM hv
     obtain ⟨b,rfl,hb2⟩:=e0.str_inv
     obtain rfl:=e1.int_inv
     rw [run_callFunc_extern (e:=Extern.BytealgCount.count) hf hn hb hx he,Lib.run_countString]
     have hc:=ZeO h0 h1
     have e:=Zi9 c.toNat.toUInt8 s
     rw [hc] at e
     simp only [Result.andThen,UponCall]
     rw [e,hb2]
     exact ⟨g,.pure _ _ (.int _ _),hi,KeepN.refl _ _ _ _⟩
   · cases h
 · cases h
theorem ZlW (hf:P.funcs[f]? = some fn) (hn:(fn.name == "runtime.NumGoroutine") = false) (hb : fn.body.isNone = true) (hx : Extern.findNext fn = none) (he : Extern.find fn = some Extern.BytealgCompare.compare) :
  ZOk E P (f,ZnY):=by
 intro args H p H' h
 simp only [ZnY] at h
 split at h
 · rename_i s t
   cases h
   refine ⟨fun g w vals hi hg hv=>?_,fun _=>rfl⟩
   obtain ⟨v0,v1,rfl,e0,e1⟩:=VM hv
   obtain ⟨a,rfl,ha⟩:=e0.str_inv
   obtain ⟨b,rfl,hb2⟩:=e1.str_inv
   rw [run_callFunc_extern (e:=Extern.BytealgCompare.compare) hf hn hb hx he,Lib.run_compareString]
   simp only [Result.andThen,UponCall]
   rw [ha,hb2]
   exact ⟨g,.pure _ _ (.int _ _),hi,KeepN.refl _ _ _ _⟩
 · cases h
theorem ZaY {g:Gh} {H:Heap} {w w':World} (hi:Inv g H w) (hh:∀ k,k<w.heap.size→w'.heap[k]? = w.heap[k]?) (hs:w.heap.size≤w'.heap.size) (hso:SameOut g w w'):Inv g H w'∧Keep g H w g H w':=by
 refine ⟨⟨fun b o v h=>?_,fun id es el h=>?_,fun id es h=>?_,fun id T cs h=>?_,hi.inj,hi.sd,hi.td,fun t b lo hi' h1 h2=>?_,hi.tinj,hi.nd,hi.lt,fun id b h=>Nat.lt_of_lt_of_le (hi.sz id b h) hs,hi.ro,fun id b c T m h1 h2 h3=>?_⟩,
  ⟨.refl g,fun b hb _=>hh b hb,fun _ _ _ _=>rfl,hs,fun i b h h'=>(by rw [h] at h';cases h'),fun i b _ _ h h'=>(by rw [h] at h';cases h'),rfl,Nat.le_refl _,fun _ _=>rfl,Nat.le_refl _,fun _ h=> .inl h,fun _ _ _ h=>h,fun _ _ h=>h,hso⟩⟩
 · rw [cell_of_heap (hh b (hi.S_lt h))];exact hi.st _ _ _ h
 · obtain ⟨b, c, T, h1, h2, h3, h4, h5, h6⟩ := hi.bx id es el h
   exact ⟨b,c,T,h1,by rw [hh b (hi.sz _ _ h1)];exact h2,h3,h4,h5,h6⟩
 · obtain ⟨b, c, T, h1, h2, h3⟩ := hi.mp id es h
   exact ⟨b,c,T,h1,by rw [hh b (hi.sz _ _ h1)];exact h2,h3⟩
 · obtain ⟨b, c, h1, h2, h3⟩ := hi.sp id T cs h
   exact ⟨b,c,h1,by rw [hh b (hi.sz _ _ h1)];exact h2,h3⟩
 · obtain ⟨⟨c, T, h3, h4⟩, h5, h6⟩ := hi.tk t b lo hi' h1 h2
   have hb:b<w.heap.size:=by
    rcases Nat.lt_or_ge b w.heap.size with h'|h'
    · exact h'
    · simp [Array.getElem?_eq_none h'] at h3
   exact ⟨⟨c,T,by rw [hh b hb];exact h3,h4⟩,h5,h6⟩
 · rw [hh b (hi.sz _ _ h2)] at h3
   exact hi.rm id b c T m h1 h2 h3
def Zd8:List (List PV)→Option (List (List UInt8))
 | []=>some []
 | c :: r => match c with
   | [.str s] => match Zd8 r with
     | some l=>some (s::l)
     | none=>none
   | _=>none
def YW (sep:List UInt8):List (List UInt8)→List UInt8
 | []=>[]
 | x :: r => match r with
   | []=>x
   | _::_=>x++(sep++YW sep r)
def Zin:ZF:=fun args H=>match args with
 | [l, .str sep] => match (match l with | .nils => some [] | .sl _ es el => (match Nat.beq es 1 with | true => Zd8 el | false => none) | _ => none) with
   | some xs => match Nat.ble xs.length 1000000 && Nat.ble (YW sep xs).length 1000000 with
     | true=>some (.str (YW sep xs),H)
     | false=>none
   | none=>none
 |_=>none
theorem Zbx:∀ {el:List (List PV)} {l:List (List UInt8)},Zd8 el=some l→el=l.map fun s=>[.str s]
 | [],l,h=>by simp [Zd8] at h;subst h;rfl
 | c :: r, l, h => by
   simp only [Zd8] at h
   split at h
   · split at h
     · rename_i l' hl
       cases h
       rw [Zbx hl];rfl
     · cases h
   · cases h
theorem Za3 (sep:List UInt8):∀ (x:List UInt8) (r:List (List UInt8)),YW sep (x::r)=x++Lib.joinTail sep r
 |x,[]=>by simp [YW,Lib.joinTail]
 | x, y :: r => by
   have:=Za3 sep y r
   simp only [YW,Lib.joinTail,List.map_cons,List.flatten_cons] at this ⊢
   simp only [this,List.append_assoc]
theorem Zf2 (sep:List UInt8) (xs:List (List UInt8)):YW sep xs=Lib.join xs sep:=by
 cases xs with
 |nil=>rw [Lib.join_nil];rfl
 |cons x r=>rw [Za3,Lib.join_cons]
theorem ZmF {c : Code} (hf : FnOk P f fn c) (hmono : E.mono = false)
  (h0:∀ (a:Option Addr) (c:Nat) (sep:ByteArray) (w:World),Calls P f #[.slice a 0 c,.string sep] w fun e w'=>e= .returned (.string ⟨#[]⟩)∧w'=w)
  (h1 : ∀ (bk o c : Nat) (xs : List ByteArray) (sep : ByteArray) (w : World), (∀ (j : Nat) x, xs[j]? = some x → w.cell? ⟨bk, o + j, none⟩ = some (.string x)) → bk < w.heap.size → xs.length ≤ 140737488355328 → xs.length ≤ c →
    (Lib.join (xs.map (·.data.toList)) sep.data.toList).length≤140737488355328→Calls P f #[.slice (some ⟨bk,o,none⟩) xs.length c,.string sep] w fun e w'=>e= .returned (.string ⟨(Lib.join (xs.map (·.data.toList)) sep.data.toList).toArray⟩)∧Below w.heap.size w w') :
  ZOk E P (f,Zin):=by
 intro args H p H' h
 simp only [Zin] at h
 split at h
 · rename_i l sep
   split at h
   · rename_i xs hxs
     split at h
     · rename_i hle
       simp only [Bool.and_eq_true,Nat.ble_eq] at hle
       cases h
       refine ⟨fun g w vals hi hg hv=>?_,fun _=>rfl⟩
       obtain ⟨v0,v1,rfl,e0,e1⟩:=VM hv
       obtain ⟨sb,rfl,hsb⟩:=e1.str_inv
       have none_case:∀ a c,v0= .slice a 0 c→xs= []→UponCall P (fun v w'=>∃ g',V g' (.str (YW sep xs)) v∧Inv g' H w'∧Keep g H w g' H w') ((callFunc f #[v0,.string sb]).run P w):=fun a c hv hx=>by
        subst hv hx
        rw [Z2 hf]
        exact Calls.mono (h0 a c sb w) fun e w' ⟨he,hw⟩=>⟨_,he,g,.pure _ _ (.str _ _ rfl),by subst hw;exact ⟨hi,KeepN.refl _ _ _ _⟩⟩
       split at hxs
       · cases hxs
         exact none_case none 0 e0.nils_inv rfl
       · rename_i tl es el
         split at hxs
         · rename_i hes
           obtain rfl:=Nat.eq_of_beq_eq_true hes
           have hel:=Zbx hxs
           obtain ⟨b,o,cap,vv,a,rfl,hcap,hw,hS,hV, -,ha⟩:=e0.sl_inv
           by_cases hx:xs= []
           · subst hx
             have:el= []:=by simpa using hel
             subst this
             exact none_case (some a) cap rfl rfl
           · have hlen : el.length = xs.length := by rw [hel]; simp
             have hpos:0<xs.length:=List.length_pos_iff.2 hx
             have ha:=ha (.inl (by omega))
             subst ha
             have hcell:∀ (j:Nat) (x:ByteArray),(xs.map fun s=>(⟨s.toArray⟩:ByteArray))[j]? = some x→g.S b (o+j)=some (.string x):=fun j x hj=>by
              rw [List.getElem?_map] at hj
              obtain ⟨s,hs,rfl⟩:=Option.map_eq_some_iff.1 hj
              have hjl:j<xs.length:=ZK hs
              have hje:j<el.length:=by omega
              have h1:=hS j 0 hje (by omega)
              have ej:el[j]= [.str s]:=by
               have:el[j]? = some [.str s]:=by rw [hel,List.getElem?_map,hs];rfl
               rw [List.getElem?_eq_getElem hje] at this
               simpa using this
              have h2:=hV j hje 0 (by rw [ej];simp)
              have h3:V0 g.S (.str s) (vv j 0):=by
               have e:(el[j])[0]'(by rw [ej];simp)= .str s:=by simp [ej]
               rwa [e] at h2
              cases hq:vv j 0 with
              | string bb =>
                rw [hq] at h3
                cases h3 with
                | str _ _ he =>
                  have:bb=⟨s.toArray⟩:=by
                   apply ByteArray.ext
                   apply Array.toList_inj.1
                   simpa using he
                  rw [hq,this] at h1
                  simpa using h1
              | _=>rw [hq] at h3;cases h3
             have hb:b<w.heap.size:=hi.S_lt (hcell 0 _ (by rw [List.getElem?_map,List.getElem?_eq_getElem hpos];rfl))
             have hmap:(xs.map fun s=>(⟨s.toArray⟩:ByteArray)).map (·.data.toList)=xs:=by simp [Function.comp_def]
             have hc:=h1 b o cap (xs.map fun s=>⟨s.toArray⟩) sb w (fun j x hj=>hi.st _ _ _ (hcell j x hj)) hb (by simp;omega) (by simp;omega) (by rw [hmap,hsb, ← Zf2];omega)
             rw [hmap,hsb, ← Zf2] at hc
             rw [Z2 hf]
             have hn:(xs.map fun s=>(⟨s.toArray⟩:ByteArray)).length=el.length:=by simp [hlen]
             rw [hn] at hc
             exact Calls.mono hc fun e w' ⟨he,hbl⟩=>by
              obtain ⟨j1,j2⟩:=ZaY hi (fun k hk=>hbl.block k hk) hbl.size ⟨hbl.os,hbl.output,hbl.tape,fun hm=>absurd (hg.2.1 hm) (by rw [hmono];simp)⟩
              exact ⟨_,he,g,.pure _ _ (.str _ _ (by simp)),j1,j2⟩
         · cases hxs
       · cases hxs
     · cases h
   · cases h
 · cases h
end
section
variable {P:Program} (w:World)
theorem ZiE (hc:P.cellsOf e=1) (count off n:Nat) (hn:off+n≤count):liesAt P P.depth e count off e n=true:=by
 have hd:P.depth=(2*(P.types.size+Made.depth)+1)+1:=rfl
 rw [hd]
 simp only [liesAt,Bool.or_eq_true]
 left
 rw [hd]
 simp [rowAt,hc,hn,sameLayout,Nat.mod_one]
theorem Uv (pt it ty e : TypeId) (hp : P.underlying pt = some (.pointer e)) (hc : P.cellsOf e = 1) (g o cells : Nat) (hsh : w.shape? g = some (e, cells)) (l : List UInt8) (h0 : l ≠ []) (hn : o + l.length ≤ cells) (h63 : l.length ≤ 9223372036854775807)
  (hcell:∀ j x,l[j]? = some x→w.cell? ((⟨g,o,none⟩:Addr).add j)=some (.int .u8 x.toNat)) :
  (Builtin.unsafeString_ #[pt,it] ty #[.pointer (some ⟨g,o,none⟩),.int .i64 l.length]).run P w= .ok (.string ⟨l.toArray⟩) (w.freeze ⟨g,o,none⟩ l.length):=by
 have hl:l.length≠0:=by simpa using h0
 have hlb:=Lib.run_loadBytes (P:=P) w l ⟨g,o,none⟩ .empty hcell
 have hlies:=ZiE (P:=P) hc (cells / P.cellsOf e) o l.length (by rw [hc];simpa using hn)
 have h63':¬ (9223372036854775807:Int)<(l.length:Int):=by omega
 have hneg:¬ (l.length:Int)<0:=by omega
 have hmax:IntKind.i64.max=9223372036854775807:=rfl
 change Sem.run P (asInt (.int .i64 l.length) >>= _) w=_
 simp [asInt,asIntOf,hmax,h63',hneg,hl,variablesAt,hsh,elemOf,run_underlying hp,hlies,hlb]
end
section
variable {g:Gh} {H:Heap} {w w':World}
theorem Zkr (hi : Inv g H w) {k bb lo : Nat} {hi' : Nat × TypeId} {l : List Nat} (hk : k ∈ H.live) (hτ : g.τ k = some (bb, lo, hi')) (hl : l.Sublist H.live) (hn : ∀ x, x ∈ l → x ≠ k)
  (hh:∀ b,b≠bb→w'.heap[b]? = w.heap[b]?) (hc:∀ o,w'.cell? ⟨bb,o,none⟩=w.cell? ⟨bb,o,none⟩) (hs:w'.heap.size=w.heap.size) (hso:SameOut g w w') :
  Inv g {H with live:=l} w'∧Keep g H w g {H with live:=l} w':=by
 have hbx:∀ id b,H.liveAt id→g.σ id=some b→b≠bb:=fun id b h1 h2 e=>(hi.tk k bb lo hi' hk hτ).2.2 id h1 (by rw [h2,e])
 refine ⟨⟨fun b o v h=>?_,fun id es el h=>?_,fun id es h=>?_,fun id T cs h=>?_,hi.inj,hi.sd,hi.td,fun t b lo2 hi2 h1 h2=>?_,fun t t' b a1 a2 b1 b2 h1 h2=>hi.tinj t t' b a1 a2 b1 b2 (hl.subset h1) (hl.subset h2),hi.nd.sublist hl,fun t h=>hi.lt t (hl.subset h),fun id b h=>by rw [hs];exact hi.sz id b h,hi.ro,fun id b c T m h1 h2 h3=>?_⟩,
  ⟨.refl g,fun b hb hsh=>hh b fun e=>hsh.2 k lo hi' hk (by rw [e];exact hτ),fun _ _ _ _=>rfl,by rw [hs];exact Nat.le_refl _,fun i b h h'=>(by rw [h] at h';cases h'),fun i b _ _ h h'=>(by rw [h] at h';cases h'),rfl,Nat.le_refl _,fun _ _=>rfl,Nat.le_refl _,fun _ h=> .inl (hl.subset h),fun _ _ _ h=>h,fun _ _ h=>h,hso⟩⟩
 · by_cases e : b = bb
   · subst e;rw [hc];exact hi.st _ _ _ h
   · rw [cell_of_heap (hh b e)];exact hi.st _ _ _ h
 · obtain ⟨b, c, T, h1, h2, h3⟩ := hi.bx id es el h
   exact ⟨b,c,T,h1,by rw [hh b (hbx id b ⟨_,h,trivial⟩ h1)];exact h2,h3⟩
 · obtain ⟨b, c, T, h1, h2, h3⟩ := hi.mp id es h
   exact ⟨b,c,T,h1,by rw [hh b (hbx id b ⟨_,h,trivial⟩ h1)];exact h2,h3⟩
 · obtain ⟨b, c, h1, h2, h3⟩ := hi.sp id T cs h
   exact ⟨b,c,h1,by rw [hh b (hbx id b ⟨_,h,trivial⟩ h1)];exact h2,h3⟩
 · obtain ⟨⟨c, T, h3, h4⟩, h5, h6⟩ := hi.tk t b lo2 hi2 (hl.subset h1) h2
   have e:b≠bb:=fun e=>hn t h1 (hi.tinj t k bb lo2 hi2 lo hi' (hl.subset h1) hk (e ▸ h2) hτ)
   exact ⟨⟨c,T,by rw [hh b e];exact h3,h4⟩,h5,h6⟩
 · rw [hh b (hbx id b h1 h2)] at h3
   exact hi.rm id b c T m h1 h2 h3
end
def ccZ (bT:TypeId):ZF:=fun args H=>match args with
 | [.ptr id es ix off] => match Nat.beq es 2 && (Nat.beq ix 0 && Nat.beq off 0) with
   | true => match nth H.bx id with
     | some (.sp T cs) => match cs with
       | [p, v] => match Nat.beq T bT with
         | true => match p with
           | .nilp => match Nat.ble H.ro id with
             | true=>some (.tup [],{H with bx:=H.bx.set id (.sp T [.ptr id 2 0 0,v])})
             | false=>none
           | .ptr i es' ix' off' => match Nat.beq i id && (Nat.beq es' 2 && (Nat.beq ix' 0 && Nat.beq off' 0)) with
             | true=>some (.tup [],H)
             | false=>none
           | _=>none
         | false=>none
       | _=>none
     | _=>none
   | false=>none
 |_=>none
theorem UF (w:World) (b k:Nat) (v:Value) (o:Nat) (h:k≠b):(w.setCell ⟨b,o,none⟩ v).heap[k]? = w.heap[k]? :=by
 simp only [World.setCell,Array.getElem?_modify]
 rw [if_neg (Ne.symm h)]
theorem Zhb (w:World) (b:Nat) (v c0 c1:Value) (T:TypeId) (fr:Nat×Nat) (h:w.heap[b]? = some (.cells #[c0,c1] T fr)):(w.setCell ⟨b,0,none⟩ v).heap[b]? = some (.cells #[v,c1] T fr):=by
 simp only [World.setCell,Array.getElem?_modify,h]
 simp
theorem ZmE (w:World) (b o:Nat) (c:Array Value) (T:TypeId) (fr:Nat×Nat) (h:w.heap[b]? = some (.cells c T fr)):w.cell? ⟨b,o,none⟩=c[o]? :=by
 simp [World.cell?,h]
theorem Zln {c:Array Value} (h:c.size=2):∃ a b,c= #[a,b]:=by
 obtain ⟨l⟩:=c
 match l,h with
 | [a,b],_=>exact ⟨a,b,rfl⟩
section
variable {E:Env} {P:Program}
theorem ZpC {c : Code} (hf : FnOk P f fn c)
  (h0 : ∀ (b : Nat) (w : World), w.cell? ⟨b, 0, none⟩ = some (.pointer none) → w.shape? b = some (bT, 2) → w.frozen? ⟨b, 0, none⟩ = false →
    Calls P f #[.pointer (some ⟨b,0,none⟩)] w fun e w'=>e= .returned (.tuple #[])∧w'=w.setCell ⟨b,0,none⟩ (.pointer (some ⟨b,0,none⟩)))
  (h1:∀ (b:Nat) (w:World),w.cell? ⟨b,0,none⟩=some (.pointer (some ⟨b,0,none⟩))→Calls P f #[.pointer (some ⟨b,0,none⟩)] w fun e w'=>e= .returned (.tuple #[])∧w'=w)
  (he:E.eff f=true):ZOk E P (f,ccZ bT):=by
 intro args H p H' h
 simp only [ccZ] at h
 split at h
 · rename_i id es ix off
   split at h
   · rename_i hq
     simp only [Bool.and_eq_true] at hq
     obtain rfl:=Nat.eq_of_beq_eq_true hq.1
     obtain rfl:=Nat.eq_of_beq_eq_true hq.2.1
     obtain rfl:=Nat.eq_of_beq_eq_true hq.2.2
     split at h
     · rename_i T cs hb
       rw [ZA] at hb
       split at h
       · rename_i x v
         split at h
         · rename_i hT
           obtain rfl:=Nat.eq_of_beq_eq_true hT
           refine ⟨fun g w vals hi hg hv=>?_,fun hh=>by rw [he] at hh;cases hh⟩
           obtain ⟨v0,rfl,e0⟩:=Zea hv
           obtain ⟨b,hσ,rfl⟩:=e0.ptr_inv
           obtain ⟨b',c,z1,z2,z3,z4,z5⟩:=hi.sp _ _ _ hb
           rw [hσ] at z1;cases z1
           obtain ⟨c0,c1,rfl⟩:=Zln z3
           have y0:V g x c0:=by
            obtain ⟨u,hu,hx⟩:=z4 0 (by simp)
            simp at hu hx;rw [hu];exact hx
           have y1:V g v c1:=by
            obtain ⟨u,hu,hx⟩:=z4 1 (by simp)
            simp at hu hx;rw [hu];exact hx
           have hc0:w.cell? ⟨b,0,none⟩=some c0:=by rw [ZmE w b 0 _ _ _ z2];rfl
           rw [Z2 hf]
           simp only [Nat.zero_mul,Nat.zero_add]
           cases x with
           | nilp =>
             simp only at h
             split at h
             · rename_i hro
               cases h
               obtain rfl:=y0.nilp_inv
               refine Calls.mono (h0 b w hc0 (by simp [World.shape?,z2]) (by simp [World.frozen?,z2])) fun e w' ⟨h1,h2⟩=>?_
               subst h2
               have hat:=Zhb w b (.pointer (some ⟨b,0,none⟩)) _ _ _ _ z2
               obtain ⟨j1, j2⟩ := Qr hi (Nat.le_of_ble_eq_true hro) hb trivial hσ z5 (fun k hk => UF w b k _ 0 hk) (by simp [World.setCell]) hat (fun a => by
                 by_cases ea:a.block=b
                 · simp only [World.frozen?,ea,hat,z2]
                 · simp only [World.frozen?,UF w b a.block _ 0 ea]) (bo:= .sp T [.ptr id 2 0 0,v]) (fun es el h=>by cases h) (fun es h=>by cases h) (fun c2 T2 m2 h=>by
                 cases h
                 have h2:=hi.rm id b _ _ _ ⟨_,hb,trivial⟩ hσ z2
                 simpa using h2) .rfls (fun T2 cs2 h=>by
                 cases h
                 refine ⟨_,rfl,rfl,fun j hj=>?_⟩
                 match j,hj with
                 | 0,_=>exact ⟨_,rfl,by have:=V.ptr (g:=g) id 2 0 0 b hσ;simpa using this⟩
                 | 1,_=>exact ⟨_,rfl,y1⟩)
               exact ⟨_,h1,g,.tup _ _ rfl (fun i hi=>absurd hi (by simp)),j1,j2⟩
             · cases h
           | ptr i es' ix' off' =>
             simp only at h
             split at h
             · rename_i hq
               simp only [Bool.and_eq_true] at hq
               obtain rfl:=Nat.eq_of_beq_eq_true hq.1
               obtain rfl:=Nat.eq_of_beq_eq_true hq.2.1
               obtain rfl:=Nat.eq_of_beq_eq_true hq.2.2.1
               obtain rfl:=Nat.eq_of_beq_eq_true hq.2.2.2
               cases h
               obtain ⟨b2,hσ2,rfl⟩:=y0.ptr_inv
               rw [hσ] at hσ2;cases hσ2
               refine Calls.mono (h1 b w (by simpa using hc0)) fun e w' ⟨h1,h2⟩=>?_
               subst h2
               exact ⟨_,h1,g,.tup _ _ rfl (fun i hi=>absurd hi (by simp)),hi,KeepN.refl _ _ _ _⟩
             · cases h
           | _=>simp at h
         · cases h
       · cases h
     · cases h
   · cases h
 · cases h
theorem Zab:∀ {el:List (List PV)} {l:List UInt8},Uf el=some l→el=YI l
 | [],l,h=>by simp [Uf] at h;subst h;rfl
 | c :: r, l, h => by
   simp only [Uf] at h
   split at h
   · rename_i n
     split at h
     · rename_i hn
       simp only [Bool.and_eq_true,decide_eq_true_eq] at hn
       split at h
       · rename_i l' hl
         cases h
         have:=ZeO hn.1 hn.2
         rw [Zab hl,YI,YI,List.map_cons]
         congr 2
         rw [show Int.ofNat (n.toNat.toUInt8).toNat=n from this]
       · cases h
     · cases h
   · cases h
def ZkI (bT:TypeId):ZF:=fun args H=>match args with
 | [.ptr id es ix off] => match Nat.beq es 2 && (Nat.beq ix 0 && Nat.beq off 0) with
   | true => match nth H.bx id with
     | some (.sp T cs) => match cs with
       | [_, v] => match Nat.beq T bT with
         | true => match v with
           | .nils=>some (.str [],H)
           | .sl (.tok k) es' el => match Nat.beq es' 1, X5 k H.live, Uf el with
             | true, some l, some bs => match Nat.blt 0 bs.length && Nat.ble bs.length 1000000 with
               | true=>some (.str bs,{H with live:=l})
               | false=>none
             | _,_,_=>none
           | _=>none
         | false=>none
       | _=>none
     | _=>none
   | false=>none
 |_=>none
theorem Zc4 (w:World) (b o n k:Nat) (h:k≠b):(w.freeze ⟨b,o,none⟩ n).heap[k]? = w.heap[k]? :=by
 unfold World.freeze
 split
 · rfl
 · simp only [Array.getElem?_modify]
   rw [if_neg (Ne.symm h)]
theorem Zet (w:World) (b o n q:Nat) (c:Array Value) (T:TypeId) (fr:Nat×Nat) (h:w.heap[b]? = some (.cells c T fr)):(w.freeze ⟨b,o,none⟩ n).cell? ⟨b,q,none⟩=w.cell? ⟨b,q,none⟩:=by
 unfold World.freeze
 split
 · rfl
 · simp [World.cell?,Array.getElem?_modify,h]
theorem Zem (w:World) (a:Addr) (n:Nat):(w.freeze a n).heap.size=w.heap.size:=by
 unfold World.freeze
 split
 · rfl
 · simp
theorem ZiG (g:Gh) (w:World) (a:Addr) (n:Nat):SameOut g w (w.drew.freeze a n):=by
 unfold World.freeze
 split<;>exact .rfls
theorem Zm7 {c : Code} (hf : FnOk P f fn c)
  (h0:∀ (b:Nat) (p:Value) (w:World),w.heap[b]? = some (.cells #[p,.slice none 0 0] bT (0,0))→Calls P f #[.pointer (some ⟨b,0,none⟩)] w fun e w'=>e= .returned (.string ⟨#[]⟩)∧w'=w.drew)
  (h1 : ∀ (b : Nat) (p : Value) (bb o cap : Nat) (cur : Array Value) (l : List UInt8) (w : World), w.heap[b]? = some (.cells #[p, .slice (some ⟨bb, o, none⟩) l.length cap] bT (0, 0)) → w.heap[bb]? = some (.cells cur 5 (0, 0)) → l ≠ [] → l.length ≤ cap → o + cap ≤ cur.size → l.length ≤ 1000000 →
    (∀ j x,l[j]? = some x→w.cell? ⟨bb,o+j,none⟩=some (.int .u8 x.toNat))→Calls P f #[.pointer (some ⟨b,0,none⟩)] w fun e w'=>e= .returned (.string ⟨l.toArray⟩)∧w'=w.drew.freeze ⟨bb,o,none⟩ l.length)
  (he:E.eff f=true):ZOk E P (f,ZkI bT):=by
 intro args H p H' h
 simp only [ZkI] at h
 split at h
 · rename_i id es ix off
   split at h
   · rename_i hq
     simp only [Bool.and_eq_true] at hq
     obtain rfl:=Nat.eq_of_beq_eq_true hq.1
     obtain rfl:=Nat.eq_of_beq_eq_true hq.2.1
     obtain rfl:=Nat.eq_of_beq_eq_true hq.2.2
     split at h
     · rename_i T cs hb
       rw [ZA] at hb
       split at h
       · rename_i x v
         split at h
         · rename_i hT
           obtain rfl:=Nat.eq_of_beq_eq_true hT
           refine ⟨fun g w vals hi hg hv=>?_,fun hh=>by rw [he] at hh;cases hh⟩
           obtain ⟨v0,rfl,e0⟩:=Zea hv
           obtain ⟨b,hσ,rfl⟩:=e0.ptr_inv
           obtain ⟨b',c,z1,z2,z3,z4,z5⟩:=hi.sp _ _ _ hb
           rw [hσ] at z1;cases z1
           obtain ⟨c0,c1,rfl⟩:=Zln z3
           have y1:V g v c1:=by
            obtain ⟨u,hu,hx⟩:=z4 1 (by simp)
            simp at hu hx;rw [hu];exact hx
           rw [Z2 hf]
           simp only [Nat.zero_mul,Nat.zero_add]
           cases v with
           | nils =>
             simp only at h
             cases h
             obtain rfl:=y1.nils_inv
             refine Calls.mono (h0 b _ w z2) fun e w' ⟨h1,h2⟩=>?_
             subst h2
             exact ⟨_,h1,g,.pure _ _ (.str _ _ rfl),hi.same rfl,KeepN.same rfl⟩
           | sl tl es' el =>
             cases tl with
             | tok k =>
               simp only at h
               split at h
               · rename_i l bs hes hl hbs
                 split at h
                 · rename_i hle
                   simp only [Bool.and_eq_true] at hle
                   cases h
                   obtain rfl:=Nat.eq_of_beq_eq_true hes
                   have hel:=Zab hbs
                   have hpos:0<bs.length:=Nat.le_of_ble_eq_true hle.1
                   have hmax:=Nat.le_of_ble_eq_true hle.2
                   have hlen:el.length=bs.length:=by rw [hel];simp [YI]
                   obtain ⟨hk,hsub,hne⟩:=W4 hl
                   obtain ⟨bb,o,cap,vv,a,rfl,hcap,hw,hS,hV,⟨T2,hT2,hroom⟩,ha⟩:=y1.sl_inv
                   have ha:=ha (.inl (by omega))
                   subst ha
                   have hτ:g.τ k=some (bb,o+el.length*1,(o+cap*1,T2)):=by
                    rcases hroom with ⟨h,_⟩|h
                    · omega
                    · exact h
                   obtain ⟨⟨cur,T3,q1,q2⟩,q3,q4⟩:=hi.tk k _ _ _ hk hτ
                   have h5:T2=5:=by
                    rw [hel] at hT2
                    obtain ⟨y,r,rfl⟩:∃ y r,bs=y::r:=by
                     cases bs with
                     | nil=>simp at hpos
                     | cons y r=>exact ⟨y,r,rfl⟩
                    simp only [YI,List.map_cons,Zbg,List.all_cons,Bool.and_eq_true,ZgQ] at hT2
                    exact Nat.eq_of_beq_eq_true hT2.1
                   have q2b:T3=5:=q2.2.trans h5
                   subst q2b
                   have hcell:∀ j x,bs[j]? = some x→w.cell? ⟨bb,o+j,none⟩=some (.int .u8 x.toNat):=fun j x hj=>by
                    have hjl:j<bs.length:=ZK hj
                    have hje:j<el.length:=by omega
                    have s1:=hS j 0 hje (by omega)
                    have ej:el[j]= [.int .u8 (Int.ofNat x.toNat)]:=by
                     have:el[j]? = some [.int .u8 (Int.ofNat x.toNat)]:=by rw [hel,YI,List.getElem?_map,hj];rfl
                     rw [List.getElem?_eq_getElem hje] at this
                     simpa using this
                    have s2:=hV j hje 0 (by rw [ej];simp)
                    have e:(el[j])[0]'(by rw [ej];simp)= .int .u8 (Int.ofNat x.toNat):=by simp [ej]
                    rw [e] at s2
                    have s3:vv j 0= .int .u8 (Int.ofNat x.toNat):=by
                     revert s2
                     generalize vv j 0=u
                     intro s2
                     cases s2
                     rfl
                    rw [s3] at s1
                    have:=hi.st _ _ _ s1
                    simpa using this
                   have q2a:=q2.1
                   simp only [Nat.mul_one] at q2a
                   rw [hlen] at z2
                   have hne0:bs≠ []:=List.length_pos_iff.1 hpos
                   refine Calls.mono (h1 b _ bb o cap cur bs w z2 q1 hne0 (by omega) q2a hmax hcell) fun e w' ⟨h1,h2⟩=>?_
                   subst h2
                   have qd:w.drew.heap[bb]? = some (.cells cur 5 (0,0)):=q1
                   obtain ⟨j1,j2⟩:=Zkr (w':=w.drew.freeze ⟨bb,o,none⟩ bs.length) hi hk hτ hsub (hne hi.nd) (fun b2 hb2=>Zc4 w.drew bb o _ b2 hb2) (fun q=>Zet w.drew bb o _ q _ _ _ qd) (Zem _ _ _) (ZiG _ _ _ _)
                   exact ⟨_,h1,g,.pure _ _ (.str _ _ rfl),j1,j2⟩
                 · cases h
               · cases h
             | _=>simp at h
           | _=>simp at h
         · cases h
       · cases h
     · cases h
   · cases h
 · cases h
end
abbrev Bs:=List UInt8
def ZG:Bs→List Bs
 | []=>[[]]
 | c :: r => match c == 46 with
   | true=>[]::ZG r
   | false => match ZG r with
     | []=>[[c]]
     | x::l=>(c::x)::l
def ZeM:List Bs→Bs
 | []=>[]
 | [x]=>x
 |x::y::l=>x++46::ZeM (y::l)
theorem WM (s:Bs):ZG s≠ []:=by
 cases s with
 |nil=>simp [ZG]
 | cons c r =>
   simp only [ZG]
   split
   · simp
   · split<;>simp
theorem ZbC (s:Bs):ZeM (ZG s)=s:=by
 induction s with
 |nil=>rfl
 | cons c r ih =>
   simp only [ZG]
   split
   · rename_i h
     have hc:c=46:=by simpa using h
     subst hc
     cases hs:ZG r with
     | nil=>exact absurd hs (WM r)
     | cons x l=>rw [hs] at ih;simp [ZeM,ih]
   · cases hs : ZG r with
     | nil=>exact absurd hs (WM r)
     | cons x l =>
       rw [hs] at ih
       cases l with
       | nil=>simp only [ZeM] at ih ⊢;rw [ih]
       | cons y l=>simp only [ZeM,List.cons_append] at ih ⊢;rw [ih]
def ZkS (c:UInt8):Bool:=decide (97≤c.toNat)&&decide (c.toNat≤122)
def Zmi (c:UInt8):Bool:=decide (48≤c.toNat)&&decide (c.toNat≤57)
def Yx:Bs→Bool
 | []=>false
 |c::r=>ZkS c&&(r.all (fun x=>ZkS x||Zmi x)&&decide (r.length≤7))
def ZB (s:Bs):Bool:=decide ((ZG s).length≤4)&&(ZG s).all Yx
def Zga (c:Int):Bool:=(decide (97≤c)&&decide (c≤122))||(decide (65≤c)&&decide (c≤90))
def Znm (c:Int):Bool:=decide (48≤c)&&decide (c≤57)
def Ze5 (c:Int):Bool:=Zga c||(Znm c||(decide (c=95)||decide (c=35)))
def Vh (c:UInt8):Bool:=Ze5 (Int.ofNat c.toNat)
def Vs (s:List UInt8):Bool:=match s with
 | []=>false
 |c::_=>decide (s.length≤24)&&(Zga (Int.ofNat c.toNat)&&s.all Vh)
def Ve (k:Int) (nm:List UInt8) (s:Int) (n:Nat):Int:=
 if ¬ (k=1∨k=2∨k=3)∨s<0∨5<s∨(k=3∧s≠0)∨(k≠3∧0<n) then 1 else if Vs nm=false then 2 else if 8<n then 3 else 0
mutual
def Tm.nodes:Tm→Int
 | .mk k nm s _ kz=>if Ve k nm s kz.length≠0 then Ve k nm s kz.length else XC kz
def XC:List Tm→Int
 | []=>0
 |t::r=>if t.nodes≠0 then t.nodes else XC r
end
mutual
def Tm.depth:Tm→Nat
 | .mk _ _ _ _ kz=>Y9 kz+1
def Y9:List Tm→Nat
 | []=>0
 |t::r=>max t.depth (Y9 r)
end
def Tm.valid (t:Tm):Int:=if t.nodes≠0 then t.nodes else if 400<t.size∨40<t.depth then 3 else 0
mutual
def Tm.check:Tm→Int→Int→Int→Int×Int×Int
 | .mk k nm s _ kz,lvl,n,d=>if Ve k nm s kz.length≠0 then (Ve k nm s kz.length,n+1,if d<lvl then lvl else d) else XD kz (lvl+1) (n+1) (if d<lvl then lvl else d)
def XD:List Tm→Int→Int→Int→Int×Int×Int
 | [],_,n,d=>(0,n,d)
 |t::r,lvl,n,d=>if (t.check lvl n d).1≠0 then t.check lvl n d else XD r lvl (t.check lvl n d).2.1 (t.check lvl n d).2.2
end
mutual
theorem Tm.check_eq:∀ (t:Tm) (lvl n d:Int),(t.check lvl n d).1=t.nodes∧(t.nodes=0→0≤lvl→(t.check lvl n d).2=(n+(t.size:Int),max d (lvl+(t.depth:Int)-1)))
 | .mk k nm s b kz, lvl, n, d => by
   simp only [Tm.check,Tm.nodes,Tm.size,Tm.depth]
   split
   · rename_i h
     exact ⟨rfl,fun h'=>absurd h' h⟩
   · obtain ⟨h1, h2⟩ := Zdk kz (lvl + 1) (n + 1) (if d < lvl then lvl else d)
     refine ⟨h1,fun h3 h4=>?_⟩
     rw [h2 h3 (by omega)]
     refine Prod.ext_iff.2 ⟨?_,?_⟩
     · simp;omega
     · simp only []
       split
       · split<;>omega
       · split<;>omega
theorem Zdk:∀ (l:List Tm) (lvl n d:Int),(XD l lvl n d).1=XC l∧(XC l=0→0≤lvl→(XD l lvl n d).2=(n+(Zx l:Int),if Y9 l=0 then d else max d (lvl+(Y9 l:Int)-1)))
 | [],lvl,n,d=>by simp [XD,XC,Zx,Y9]
 | t :: r, lvl, n, d => by
   obtain ⟨h1,h2⟩:=Tm.check_eq t lvl n d
   have hD:Y9 (t::r)=max t.depth (Y9 r):=by simp only [Y9]
   simp only [XD,XC,Zx,h1]
   generalize Y9 (t::r)=D at hD ⊢
   split
   · rename_i h
     exact ⟨h1,fun h'=>absurd h' h⟩
   · rename_i h
     have h0:t.nodes=0:=by simpa using h
     obtain ⟨h3,h4⟩:=Zdk r lvl (t.check lvl n d).2.1 (t.check lvl n d).2.2
     refine ⟨h3,fun h5 h6=>?_⟩
     rw [h4 h5 h6,h2 h0 h6]
     have hp:1≤t.depth:=by cases t;simp [Tm.depth]
     refine Prod.ext_iff.2 ⟨?_,?_⟩
     · simp;omega
     · simp only []
       split<;>split<;>omega
end
theorem Tm.valid_check (t:Tm):t.valid=(if (t.check 1 0 0).1≠0 then (t.check 1 0 0).1 else if 400<(t.check 1 0 0).2.1∨40<(t.check 1 0 0).2.2 then 3 else 0):=by
 obtain ⟨h1,h2⟩:=t.check_eq 1 0 0
 rw [h1]
 unfold Tm.valid
 split
 · rfl
 · rename_i h
   rw [h2 (by simpa using h) (by omega)]
   congr 1
   apply propext
   simp only []
   omega
mutual
theorem Tm.depth_le:∀ t:Tm,t.depth≤t.size
 | .mk _ _ _ _ kz=>by have:=Zam kz;simp only [Tm.depth,Tm.size];omega
theorem Zam:∀ l:List Tm,Y9 l≤Zx l
 | []=>by simp [Y9]
 |t::r=>by have:=t.depth_le;have:=Zam r;simp only [Y9,Zx];omega
end
theorem ZeJ:∀ {i:Nat} {t:Tm},l[i]? = some t→Y9 (l.take (i+1))=max (Y9 (l.take i)) t.depth:=by
 induction l with
 |nil=>intro i t h;simp at h
 | cons a r ih =>
   intro i t h
   cases i with
   | zero=>simp at h;subst h;simp [Y9]
   | succ i=>simp at h;simp only [List.take_succ_cons,Y9,ih h];omega
mutual
theorem Tm.check_range:∀ (t:Tm) (lvl n d:Int),n≤(t.check lvl n d).2.1∧(t.check lvl n d).2.1≤n+(t.size:Int)∧d≤(t.check lvl n d).2.2∧(t.check lvl n d).2.2≤max d (lvl+(t.size:Int))
 | .mk k nm s b kz, lvl, n, d => by
   simp only [Tm.check,Tm.size]
   split
   · simp only []
     split<;>omega
   · have := QS kz (lvl + 1) (n + 1) (if d < lvl then lvl else d)
     split at this<;>split<;>omega
theorem QS:∀ (l:List Tm) (lvl n d:Int),n≤(XD l lvl n d).2.1∧(XD l lvl n d).2.1≤n+(Zx l:Int)∧d≤(XD l lvl n d).2.2∧(XD l lvl n d).2.2≤max d (lvl+(Zx l:Int))
 | [],lvl,n,d=>by simp [XD,Zx];omega
 | t :: r, lvl, n, d => by
   have h1:=t.check_range lvl n d
   simp only [XD,Zx]
   split
   · omega
   · have h2 := QS r lvl (t.check lvl n d).2.1 (t.check lvl n d).2.2
     omega
end
structure Sym where
 name:List UInt8
 least:Int
 most:Int
 kind:Int
def Sym.cells (s:Sym):List PV:=[.str s.name,.int .i64 s.least,.int .i64 s.most,.int .i64 s.kind]
def Sym.zero:Sym:=⟨[],0,0,0⟩
def Zce:List Sym:=[
 ⟨[112,97,105,114],2,2,1⟩,⟨[101,110,99],2,2,1⟩,⟨[97,101,110,99],2,2,1⟩,⟨[112,107],1,1,1⟩,⟨[115,105,103,110],2,2,1⟩,⟨[104,97,115,104],1,1,1⟩,
 ⟨[120,111,114],2,8,1⟩,⟨[122,101,114,111],0,0,1⟩,⟨[101,120,112],2,2,1⟩,⟨[109,117,108],2,8,1⟩,⟨[105,110,118],1,1,1⟩,⟨[111,110,101],0,0,1⟩,
 ⟨[115,107],1,1,2⟩,⟨[115,104,107],2,2,2⟩,⟨[110,101,119],1,8,2⟩,
 ⟨[102,115,116],1,1,3⟩,⟨[115,110,100],1,1,3⟩,⟨[100,101,99],2,2,3⟩,⟨[97,100,101,99],2,2,3⟩,⟨[111,112,101,110],2,2,3⟩,⟨[114,101,97,100],1,1,3⟩]
def Zch (l:List Sym):List (List PV):=l.map Sym.cells
theorem Qg (l:List Sym):(Zch l).length=l.length:=by simp [Zch]
theorem ZcG {l:List Sym} {s:Sym} (h:l[i]? = some s):(Zch l)[i]? = some s.cells:=by simp [Zch,h]
def Vk (nm:List UInt8):List Sym→Option Sym
 | []=>none
 |s::r=>if (s.name==nm)=true then some s else Vk nm r
def Qw (nm:List UInt8):Sym:=(Vk nm Zce).getD .zero
def QU (nm:List UInt8) (kz:List Tm):Bool:=if nm= [110,101,119] then (match kz with| .mk k _ _ _ _::_=>decide (k=2)| []=>false) else kz.all fun t=>match t with| .mk k _ s _ _=> !(decide (k=3))&&decide (s=1)
mutual
def Tm.th:Tm→Int
 | .mk k nm _ _ kz=>if k≠3 then 0 else if (Qw nm).kind=0 then 10 else if (kz.length:Int)<(Qw nm).least∨(Qw nm).most<(kz.length:Int) then 6 else if (Qw nm).kind=2∧QU nm kz=false then 10 else thL kz
def thL:List Tm→Int
 | []=>0
 |t::r=>if t.th≠0 then t.th else thL r
end
theorem Zdd {nm:List UInt8}:∀ {l:List Sym} {s:Sym},Vk nm l=some s→s∈l∧s.name=nm
 | a :: r, s, h => by
   simp only [Vk] at h
   split at h
   · rename_i e
     cases h
     exact ⟨List.mem_cons_self,by simpa using e⟩
   · obtain ⟨h1, h2⟩ := Zdd h
     exact ⟨List.mem_cons_of_mem _ h1,h2⟩
theorem Zib (nm:List UInt8):Qw nm= .zero∨(Qw nm∈Zce∧(Qw nm).name=nm):=by
 unfold Qw
 cases h:Vk nm Zce with
 |none=>exact .inl rfl
 |some s=>exact .inr (Zdd h)
theorem ZhE:(Qw nm).kind=2↔nm= [115,107]∨nm= [115,104,107]∨nm= [110,101,119]:=by
 constructor
 · intro h
   rcases Zib nm with e|⟨e1,e2⟩
   · rw [e] at h;simp [Sym.zero] at h
   · rw [← e2]
     revert h
     generalize Qw nm=s at e1
     simp only [Zce,List.mem_cons,List.not_mem_nil,or_false] at e1
     rcases e1 with rfl|rfl|rfl|rfl|rfl|rfl|rfl|rfl|rfl|rfl|rfl|rfl|rfl|rfl|rfl|rfl|rfl|rfl|rfl|rfl|rfl<;>simp
 · rintro (rfl|rfl|rfl)<;>rfl
def ZnO (nm:List UInt8):Bool:=(nm== [120,111,114])||(nm== [122,101,114,111])||(nm== [101,120,112])||(nm== [109,117,108])||(nm== [105,110,118])||(nm== [111,110,101])
def ZnB (nm:List UInt8):Bool:= !(ZnO nm)&&decide ((Qw nm).kind≠3)
mutual
def Tm.fre:Tm→Bool
 | .mk k nm _ _ kz=>(if k=3 then ZnB nm else true)&&ZgD kz
def ZgD:List Tm→Bool
 | []=>true
 |t::r=>t.fre&&ZgD r
end
def WY (a b:Int):Int:=if a<b then -1 else if b<a then 1 else 0
def Xx (a b:List UInt8):Int:=if Op.bytesLess a b=true then -1 else if a=b then 0 else 1
def thn (a b:Int):Int:=if a≠0 then a else b
mutual
def Tm.cmp:Tm→Tm→Int
 | .mk k nm s _ l,.mk k' nm' s' _ l'=>thn (WY ((1+Zx l:Nat):Int) ((1+Zx l':Nat):Int)) (thn (WY k k') (thn (Xx nm nm') (thn (WY s s') (thn (WY (l.length:Int) (l'.length:Int)) (UA l l')))))
def UA:List Tm→List Tm→Int
 | [],_=>0
 | a :: r, l' => match l' with
   | []=>0
   | b::r'=>thn (a.cmp b) (UA r r')
end
structure CmpOn {α:Type} (S:α→Prop) (c:α→α→Int):Prop where
 anti:∀ a b,S a→S b→c b a= - c a b
 tr:∀ a b d,S a→S b→S d→c a b≤0→c b d≤0→c a d≤0
section
variable {α:Type} {S:α→Prop} {c:α→α→Int}
theorem CmpOn.strict1 (h:CmpOn S c) {a b d:α} (ha:S a) (hb:S b) (hd:S d) (h1:c a b<0) (h2:c b d≤0):c a d<0:=by
 have h3:=h.tr a b d ha hb hd (by omega) h2
 rcases Int.lt_or_eq_of_le h3 with h4|h4
 · exact h4
 · exfalso
   have h5:=h.anti a d ha hd
   have h6:=h.tr b d a hb hd ha h2 (by omega)
   have h7:=h.anti a b ha hb
   omega
theorem CmpOn.strict2 (h:CmpOn S c) {a b d:α} (ha:S a) (hb:S b) (hd:S d) (h1:c a b≤0) (h2:c b d<0):c a d<0:=by
 have h3:=h.tr a b d ha hb hd h1 (by omega)
 rcases Int.lt_or_eq_of_le h3 with h4|h4
 · exact h4
 · exfalso
   have h5:=h.anti a d ha hd
   have h6:=h.tr d a b hd ha hb (by omega) h1
   have h7:=h.anti b d hb hd
   omega
theorem CmpOn.then_le (h:CmpOn S c) {a b d:α} (ha:S a) (hb:S b) (hd:S d) {x y z:Int} (hz:x≤0→y≤0→z≤0) (h1:thn (c a b) x≤0) (h2:thn (c b d) y≤0):thn (c a d) z≤0:=by
 unfold thn at *
 by_cases e1:c a b=0
 · rw [if_neg (by simpa using e1)] at h1
   by_cases e2:c b d=0
   · rw [if_neg (by simpa using e2)] at h2
     have h3:=h.tr a b d ha hb hd (by omega) (by omega)
     split
     · exact h3
     · exact hz h1 h2
   · rw [if_pos e2] at h2
     have:=h.strict2 ha hb hd (by omega) (show c b d<0 by omega)
     rw [if_pos (by omega)];omega
 · rw [if_pos e1] at h1
   have h2':c b d≤0:=by
    by_cases e2:c b d=0
    · omega
    · rw [if_pos e2] at h2;exact h2
   have:=h.strict1 ha hb hd (show c a b<0 by omega) h2'
   rw [if_pos (by omega)];omega
theorem Ql {a' b':Int} (h:a'= - a) (h':b'= - b):thn a' b'= - thn a b:=by
 subst h h'
 unfold thn
 by_cases e:a=0
 · simp [e]
 · rw [if_pos e,if_pos (by omega)]
end
theorem cmpI_on:CmpOn (fun _=>True) WY:=⟨fun a b _ _=>by simp only [WY];split<;>split<;>(try split)<;>omega,fun a b d _ _ _=>by simp only [WY];split<;>split<;>(try split)<;>(try split)<;>(try split)<;>omega⟩
theorem VE:∀ a b:List UInt8,Op.bytesLess a b=true→Op.bytesLess b a=false
 | [],[]=>by simp [Op.bytesLess]
 | [],_::_=>by simp [Op.bytesLess]
 |_::_,[]=>by simp [Op.bytesLess]
 | x :: a, y :: b => by
   have ih:=VE a b
   simp only [Op.bytesLess]
   by_cases h1:x<y
   · have h2 : ¬ y < x := by simp only [UInt8.lt_iff_toNat_lt] at *; omega
     have h3:¬ y=x:=by intro e;subst e;simp only [UInt8.lt_iff_toNat_lt] at *;omega
     simp [h1,h2,h3]
   · by_cases h2 : x = y
     · subst h2;simpa using ih
     · simp [h1,h2]
theorem VD:∀ a b:List UInt8,Op.bytesLess a b=false→a≠b→Op.bytesLess b a=true
 | [],[]=>by simp
 | [],_::_=>by simp [Op.bytesLess]
 |_::_,[]=>by simp [Op.bytesLess]
 | x :: a, y :: b => by
   have ih:=VD a b
   simp only [Op.bytesLess]
   intro h hne
   by_cases h2:x=y
   · subst h2
     simp at h hne ⊢
     exact ih h hne
   · have : ¬ x < y := by intro e; simp [e] at h
     have:y<x:=by
      have h3:x.toNat≠y.toNat:=fun e=>h2 (UInt8.toNat_inj.1 e)
      simp only [UInt8.lt_iff_toNat_lt] at *;omega
     simp [this]
theorem VB:∀ a b c:List UInt8,Op.bytesLess a b=true→Op.bytesLess b c=true→Op.bytesLess a c=true
 | [],[],_=>by simp [Op.bytesLess]
 | [],_::_,[]=>by simp [Op.bytesLess]
 | [],_::_,_::_=>by simp [Op.bytesLess]
 |_::_,[],_=>by simp [Op.bytesLess]
 |_::_,_::_,[]=>by simp [Op.bytesLess]
 | x :: a, y :: b, z :: c => by
   have ih:=VB a b c
   simp only [Op.bytesLess,Bool.or_eq_true,Bool.and_eq_true,decide_eq_true_eq,beq_iff_eq]
   rintro (h1|⟨rfl,h1⟩) (h2|⟨rfl,h2⟩)
   · left;simp only [UInt8.lt_iff_toNat_lt] at *;omega
   · exact .inl h1
   · exact .inl h2
   · exact .inr ⟨rfl,ih h1 h2⟩
theorem cmpB_on:CmpOn (fun _=>True) Xx where
 anti a b _ _:=by
  simp only [Xx]
  by_cases h1:Op.bytesLess a b=true
  · have := VE a b h1
    have hne:¬ b=a:=by intro e;subst e;rw [XW] at h1;cases h1
    simp [h1,this,hne]
  · simp only [Bool.not_eq_true] at h1
    by_cases e:a=b
    · subst e;simp [h1]
    · have := VD a b h1 e
      simp [h1,e,this]
 tr a b d _ _ _:=by
  simp only [Xx]
  intro h1 h2
  by_cases e1:Op.bytesLess a b=true
  · by_cases e2 : Op.bytesLess b d = true
    · simp [VB a b d e1 e2]
    · by_cases e3 : b = d
      · subst e3;simp [e1]
      · simp [e2,e3] at h2
  · by_cases e3 : a = b
    · subst e3;exact h2
    · simp [e1,e3] at h1
theorem Vy:∀ a b:List UInt8,Lib.compareBytes a b=Xx a b
 | [],[]=>by simp [Lib.compareBytes,Xx,Op.bytesLess]
 | [],_::_=>by simp [Lib.compareBytes,Xx,Op.bytesLess]
 |_::_,[]=>by simp [Lib.compareBytes,Xx,Op.bytesLess]
 | x :: a, y :: b => by
   have ih:=Vy a b
   simp only [Lib.compareBytes,ih,Xx,Op.bytesLess]
   by_cases h1:x<y
   · simp [h1]
   · by_cases h2 : x = y
     · subst h2;simp [h1]
     · have : y < x := by
         have h3:x.toNat≠y.toNat:=fun e=>h2 (UInt8.toNat_inj.1 e)
         simp only [UInt8.lt_iff_toNat_lt] at *;omega
       simp [h1,h2,this]
theorem ZjH {N:Nat} (h:CmpOn (fun t:Tm=>t.size≤N) Tm.cmp):∀ m:Nat,CmpOn (fun l:List Tm=>l.length=m∧∀ t,t∈l→t.size≤N) UA
 | 0 => ⟨fun a b ha hb => by
     obtain rfl:=List.length_eq_zero_iff.1 ha.1
     obtain rfl:=List.length_eq_zero_iff.1 hb.1
     simp [UA],fun a b d ha _ _ _ _=>by
     obtain rfl:=List.length_eq_zero_iff.1 ha.1
     simp [UA]⟩
 | m + 1 => by
   have ih:=ZjH h m
   have split:∀ l:List Tm,l.length=m+1∧(∀ t,t∈l→t.size≤N)→∃ a r,l=a::r∧a.size≤N∧r.length=m∧∀ t,t∈r→t.size≤N:=fun l hl=>by
    cases l with
    | nil=>simp at hl
    | cons a r=>exact ⟨a,r,rfl,hl.2 a List.mem_cons_self,by simpa using hl.1,fun t ht=>hl.2 t (List.mem_cons_of_mem _ ht)⟩
   refine ⟨fun x y hx hy=>?_,fun x y z hx hy hz h1 h2=>?_⟩
   · obtain ⟨a, r, rfl, a1, a2⟩ := split x hx
     obtain ⟨b,s,rfl,b1,b2⟩:=split y hy
     simp only [UA]
     exact Ql (h.anti a b a1 b1) (ih.anti r s a2 b2)
   · obtain ⟨a, r, rfl, a1, a2⟩ := split x hx
     obtain ⟨b,s,rfl,b1,b2⟩:=split y hy
     obtain ⟨d,u,rfl,d1,d2⟩:=split z hz
     simp only [UA] at h1 h2 ⊢
     exact h.then_le a1 b1 d1 (ih.tr r s u a2 b2 d2) h1 h2
theorem WO (h:WY a b=0):a=b:=by
 simp only [WY] at h
 split at h
 · omega
 · split at h<;>omega
theorem Zay:∀ N:Nat,CmpOn (fun t:Tm=>t.size≤N) Tm.cmp
 |0=>⟨fun a b ha _=>by have:=Y3 a;omega,fun a b d ha _ _ _ _=>by have:=Y3 a;omega⟩
 | N + 1 => by
   have hL:=ZjH (Zay N)
   have kid:∀ {k:Int} {nm:List UInt8} {s:Int} {b:Bool} {l:List Tm},(Tm.mk k nm s b l).size≤N+1→∀ t,t∈l→t.size≤N:=fun h t ht=>by
    simp only [Tm.size] at h
    have:=XB ht
    omega
   refine ⟨fun a b ha hb=>?_,fun a b d ha hb hd h1 h2=>?_⟩
   · obtain ⟨k, nm, s, n, l⟩ := a
     obtain ⟨k',nm',s',n',l'⟩:=b
     simp only [Tm.cmp]
     refine Ql (cmpI_on.anti _ _ trivial trivial) (Ql (cmpI_on.anti _ _ trivial trivial) (Ql (cmpB_on.anti _ _ trivial trivial) (Ql (cmpI_on.anti _ _ trivial trivial) ?_)))
     by_cases e:l.length=l'.length
     · exact Ql (cmpI_on.anti _ _ trivial trivial) ((hL l.length).anti l l' ⟨rfl,kid ha⟩ ⟨e.symm,kid hb⟩)
     · have h1 := cmpI_on.anti (l.length : Int) (l'.length : Int) trivial trivial
       have h2:WY (l.length:Int) (l'.length:Int)≠0:=fun h=>e (by have:=WO h;omega)
       unfold thn
       rw [if_pos h2,if_pos (by omega),h1]
   · obtain ⟨k, nm, s, n, l⟩ := a
     obtain ⟨k',nm',s',n',l'⟩:=b
     obtain ⟨k2,nm2,s2,n2,l2⟩:=d
     simp only [Tm.cmp] at h1 h2 ⊢
     refine cmpI_on.then_le trivial trivial trivial (fun h1 h2=>cmpI_on.then_le trivial trivial trivial (fun h1 h2=>cmpB_on.then_le trivial trivial trivial (fun h1 h2=>cmpI_on.then_le trivial trivial trivial (fun h1 h2=>?_) h1 h2) h1 h2) h1 h2) h1 h2
     by_cases e1:l.length=l'.length
     · by_cases e2 : l'.length = l2.length
       · exact cmpI_on.then_le trivial trivial trivial ((hL l.length).tr l l' l2 ⟨rfl,kid ha⟩ ⟨e1.symm,kid hb⟩ ⟨(e1.trans e2).symm,kid hd⟩) h1 h2
       · have h3 : WY (l'.length : Int) (l2.length : Int) ≠ 0 := fun h => e2 (by have := WO h; omega)
         simp only [thn,if_pos h3] at h2
         rw [e1]
         simp only [thn,if_pos h3]
         exact h2
     · have h3 : WY (l.length : Int) (l'.length : Int) ≠ 0 := fun h => e1 (by have := WO h; omega)
       simp only [thn,if_pos h3] at h1
       have h4:WY (l'.length:Int) (l2.length:Int)≤0:=by
        by_cases e:WY (l'.length:Int) (l2.length:Int)=0
        · omega
        · simp only [thn,if_pos e] at h2;exact h2
       have:=cmpI_on.strict1 (a:=(l.length:Int)) trivial trivial trivial (by omega) h4
       simp only [thn]
       rw [if_pos (by omega)];omega
