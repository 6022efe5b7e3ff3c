/-
  A call in a drawn region whose result lies in rooms of its own (mark: 5000 and its slot). A call that looks at no box is known over any boxes, be they
-/
import Derived.Test.YtkaocdljkonfaaaGreatDoorFj
namespace Go.Vm
variable {ops:Array Oper} {a b k k' t t':Tm} {nt nt':Nat} {lv lv':List Nat} {x y:Cred}
section
variable {E:Env} {P:Program} {own:Tmp→Bool} {n:Nat} {K:TM→Heap→Prop} {tm:TM}
theorem dCt {n0 i : Nat} {r : List Oper} {d : Nat} {ty : TypeId} {pos : String} {aft : Array Edge} {grd : Option (Nat × Bool)} {p : PV} {f : Operand} {args : Array Operand} {ats : Array TypeId} {k : FuncId} {caps al : List PV} {bx : List Box} {ro : Nat}
  (hw:Zd ops.toList tm ⟨some d,.call {callee:= .value f,args:=args,argTypes:=ats},ty,pos,aft,grd⟩=some true) (hn:Nat.blt d n=true) (hf:Zg E tm f= .fn k caps)
  (ha:args.toList.map (Zg E tm)++caps=al) (hc:Xc E own ⟨some d,.call {callee:= .value f,args:=args,argTypes:=ats},ty,pos,aft,grd⟩= .tk) (h:CallOk E P k al ⟨bx,bx.length,lv,nt⟩ p ⟨bx,bx.length,lv',nt'⟩)
  (hr:DrwQ E P own n ops n0 (i+1) r K (ZX tm (some d) p) ⟨bx,ro,lv',nt'⟩):DrwQ E P own n ops n0 i (⟨some d,.call {callee:= .value f,args:=args,argTypes:=ats},ty,pos,aft,grd⟩::r) K tm ⟨bx,ro,lv,nt⟩:=by
 have e:WR ⟨bx,ro,lv,nt⟩ ⟨bx,bx.length,lv',nt'⟩=⟨bx,ro,lv',nt'⟩:=by simp [WR]
 refine .stepN (p:=p) (H1:=⟨bx,ro,lv',nt'⟩) (by simp only [Wg,hn]) (.inr (.inr ⟨hc,fun j b hj=>hj⟩)) (fun ho'=>?_) hr
 have hci:=(WA (E:=E) (own:=own) ho').trans hc
 refine ⟨by rw [hci];simp,.inr (.inl ⟨by rw [hci];exact ⟨by simp,by simp,by simp⟩,?_⟩)⟩
 have:=Hp.tk (E:=E) (P:=P) (own:=own) (ops:=ops) (n0:=n0) (cls:=Xg E own ops) (tgt:=fun _=>n0) (msk:=fun _=>[]) (i:=i) (o:=⟨some d,.call {callee:= .value f,args:=args,argTypes:=ats},ty,pos,aft,grd⟩) (tm:=tm) ⟨bx,ro,lv,nt⟩ p ⟨bx,bx.length,lv',nt'⟩ hw hci
  (.call _ _ _ _ _ _ _ rfl hf (by rw [ha];exact h)) (Nat.le_refl _)
 rw [e] at this
 exact this
end
section
variable {E:Env} {P:Program}
def Gh.lay (g' g:Gh):Gh:={g' with σ:=g.σ,κ:=g.κ}
theorem CallOk.over {f:FuncId} {args:List PV} {r:PV} (h:CallOk E P f args ⟨[],0,lv,nt⟩ r ⟨[],0,lv',nt'⟩) (hu:ZH 0 args=true) (bx:List Box) (ro:Nat):CallOk E P f args ⟨bx,ro,lv,nt⟩ r ⟨bx,ro,lv',nt'⟩:=by
 intro g w vals hi hg hv
 have hi0:Inv g ⟨bx,0,lv,nt⟩ w:=⟨hi.st,hi.bx,hi.mp,hi.sp,hi.inj,hi.sd,hi.td,hi.tk,hi.tinj,hi.nd,hi.lt,hi.sz,Nat.zero_le _,hi.rm⟩
 have hic:=Zck (n:=0) hi0 (Nat.zero_le _) (Nat.le_refl _) rfl
 simp only [List.take_zero] at hic
 have hvc:VL (g.cutσ 0) args vals.toList:=⟨hv.1,fun i h1 h2=>(hv.2 i h1 h2).cut (Xh hu i h1)⟩
 refine UponCall.mono (fun v w' ⟨g',hp,hi',k⟩=>?_) (h (g.cutσ 0) w vals hic hg hvc)
 have hsd:∀ i,g'.σ i=none:=fun i=>hi'.sd i (Nat.zero_le _)
 have dead:∀ {ro nt:Nat} {lv:List Nat} {i:Nat},¬ (⟨[],ro,lv,nt⟩:Heap).liveAt i:=fun h=>by
  obtain ⟨b,hb,_⟩:=h
  simp at hb
 have le1:g'.Le (g'.lay g):=⟨fun _ _ _ h=>h,fun i b h=>(by rw [hsd i] at h;cases h),fun _ _ h=>h,fun i b h=>(by rw [hsd i] at h;cases h),rfl⟩
 have le2:g.Le (g'.lay g):=⟨fun b o v h=>k.le.S b o v h,fun i b h=>h,fun t x h=>k.le.τ t x h,fun i b _=>rfl,k.le.mono⟩
 have shutE:∀ j b,(⟨bx,ro,lv,nt⟩:Heap).liveAt j→g.σ j=some b→Shut (g.cutσ 0) ⟨[],0,lv,nt⟩ b:=fun j b hlj hs=>
  ⟨fun id _ hlid he=>(dead hlid).elim,fun t lo hi2 ht he=>(hi.tk t b lo hi2 ht he).2.2 j hlj hs⟩
 have heapE:∀ j b,(⟨bx,ro,lv,nt⟩:Heap).liveAt j→g.σ j=some b→w'.heap[b]? = w.heap[b]? ∧∀ o,g'.S b o=g.S b o:=fun j b hlj hs=>
  ⟨k.heap b (hi.sz j b hs) (shutE j b hlj hs),k.store b (hi.sz j b hs) (shutE j b hlj hs)⟩
 refine ⟨g'.lay g,hp.mono le1,⟨hi'.st,fun id es el h=>?_,fun id es h=>?_,fun id T cs h=>?_,hi.inj,hi.sd,hi'.td,fun t b lo hi2 ht hτ=>?_,hi'.tinj,hi'.nd,hi'.lt,fun id b h=>Nat.lt_of_lt_of_le (hi.sz id b h) k.size,hi.ro,fun id b c T m h1 h2 h3=>?_⟩,
  ⟨le2,fun b hb hs=>k.heap b hb ⟨fun _ _ hl=>(dead hl).elim,hs.2⟩,fun b hb hs=>k.store b hb ⟨fun _ _ hl=>(dead hl).elim,hs.2⟩,k.size,fun id b h h'=>?_,fun t b lo hi2 h h'=>k.tnew t b lo hi2 h h',rfl,Nat.le_refl _,fun id _=>rfl,k.nt,k.lv,fun id b _ h'=>h',fun id _ h'=>h',k.so⟩⟩
 · obtain ⟨b, c, T, h1, h2, h3, h4, h5, h6⟩ := hi.bx id es el h
   obtain ⟨hh,hS⟩:=heapE id b ⟨_,h,trivial⟩ h1
   exact ⟨b,c,T,h1,by rw [hh];exact h2,h3,h4,fun i hi0 j hj=>let ⟨v,a,x⟩:=h5 i hi0 j hj;⟨v,a,x.mono le2⟩,fun o=>(hS o).trans (h6 o)⟩
 · obtain ⟨b, c, T, h1, h2, h3, h4, h5⟩ := hi.mp id es h
   obtain ⟨hh,hS⟩:=heapE id b ⟨_,h,trivial⟩ h1
   exact ⟨b,c,T,h1,by rw [hh];exact h2,h3,fun i hi0=>let ⟨a,z,x,y⟩:=h4 i hi0;⟨a,z,x.mono le2,y.mono le2⟩,fun o=>(hS o).trans (h5 o)⟩
 · obtain ⟨b, c, h1, h2, h3, h4, h5⟩ := hi.sp id T cs h
   obtain ⟨hh,hS⟩:=heapE id b ⟨_,h,trivial⟩ h1
   exact ⟨b,c,h1,by rw [hh];exact h2,h3,fun j hj=>let ⟨v,a,x⟩:=h4 j hj;⟨v,a,x.mono le2⟩,fun o=>(hS o).trans (h5 o)⟩
 · obtain ⟨h3, h5, -⟩ := hi'.tk t b lo hi2 ht hτ
   refine ⟨h3,h5,fun id hlid he=>?_⟩
   have he:g.σ id=some b:=he
   cases e:(g.cutσ 0).τ t with
   | some x =>
     have:=k.le.τ _ _ e
     have hτ':g'.τ t=some (b,lo,hi2):=hτ
     rw [hτ'] at this
     cases this
     rcases k.lv t ht with h7|h7
     · exact (hi.tk t b lo hi2 h7 e).2.2 id hlid he
     · rw [show (g.cutσ 0).τ t=g.τ t from rfl,hi.td t h7] at e;cases e
   | none =>
     rcases k.tnew t b lo hi2 e hτ with h7|⟨t',lo',hi3,h8,h9⟩
     · have:=hi.sz id b he;omega
     · exact (hi.tk t' b lo' hi3 h8 h9).2.2 id hlid he
 · have h2 : g.σ id = some b := h2
   rw [(heapE id b h1 h2).1] at h3
   exact hi.rm id b c T m h1 h2 h3
 · have h' : g.σ id = some b := h'
   rw [h] at h'
   cases h'
theorem CodeTo.switch {own own':Tmp→Bool} {n id:Nat} {c:Code} {tm tm':TM} {H H':Heap} {ex:Ex} (h:CodeTo E P own' n c tm H ex tm' H'):c= .region id ops true→CodeTo E P own n c tm H ex tm' H':=by
 induction h with
 |draw id ops tm H tm' H' h=>intro _;exact .draw id ops tm H tm' H' h
 |drop c tm H ex tm' H' tm2 _ hs hu ih=>intro hc;exact .drop c tm H ex tm' H' tm2 (ih hc) hs hu
 |_=>intro hc;cases hc
theorem Wp.switch {own:Tmp→Bool} (own':Tmp→Bool) {n id:Nat} {ops:Array Oper} {Q:Ex→TM→Heap→Prop} {tm:TM} {H:Heap} (h:Wp E P own' n (.region id ops true) Q tm H):Wp E P own n (.region id ops true) Q tm H:=by
 obtain ⟨ex,tm',H',h1,h2⟩:=h.out
 exact ⟨ex,tm',H',h1.switch rfl,h2⟩
end
mutual
theorem ZlQ:∀ t:Tm,t.cl.all=t.all.map Tm.cl
 | .mk k nm s b kids=>by simp only [Tm.cl,Tm.all,List.map_cons,Zig kids]
theorem Zig:∀ l:List Tm,Us (clL l)=(Us l).map Tm.cl
 | []=>rfl
 |t::r=>by simp only [clL,Us,List.map_append,ZlQ t,Zig r]
end
theorem ZlJ (t:Tm):t.cl.knd=t.knd:=by cases t;rfl
theorem Zij (t:Tm):t.cl.ground=t.ground:=by
 unfold Tm.ground V8
 rw [ZlQ]
 have:∀ l:List Tm,((l.map Tm.cl).filter fun t=>decide (t.knd=1)).isEmpty=(l.filter fun t=>decide (t.knd=1)).isEmpty:=fun l=>by
  induction l with
  | nil=>rfl
  | cons a r ih =>
    by_cases h:a.knd=1
    · simp [h,ZlJ]
    · have h2 : ¬ a.cl.knd = 1 := by rw [ZlJ]; exact h
      simpa [List.filter_cons,h,h2] using ih
 exact this _
theorem ZlX (l:List Tm):(clL l).length=l.length:=Vj l
theorem ZkJ (nm:Bs):∀ l:List Tm,QK nm (clL l)=QK nm l:=fun l=>by
 unfold QK
 split
 · cases l with
   | nil=>rfl
   | cons a r=>cases a;rfl
 · have : ∀ l : List Tm, (clL l).all (fun t => match t with | .mk k _ s _ _ => !(decide (k = 3)) && decide (s = 1)) = l.all fun t => match t with | .mk k _ s _ _ => !(decide (k = 3)) && decide (s = 1) := fun l => by
     induction l with
     | nil=>rfl
     | cons a r ih =>
       simp only [clL,List.all_cons,ih]
       cases a
       rfl
   exact this l
mutual
theorem ZoI:∀ t:Tm,t.cl.th=t.th
 | .mk k nm s b kids=>by simp only [Tm.cl,Tm.th,ZlX,ZkJ,Zlq kids]
theorem Zlq:∀ l:List Tm,thL (clL l)=thL l
 | []=>rfl
 |t::r=>by simp only [clL,thL,ZoI t,Zlq r]
end
mutual
theorem ZlB:∀ t:Tm,t.cl.fre=t.fre
 | .mk k nm s b kids=>by simp only [Tm.cl,Tm.fre,Zh4 kids]
theorem Zh4:∀ l:List Tm,ZgW (clL l)=ZgW l
 | []=>rfl
 |t::r=>by simp only [clL,ZgW,ZlB t,Zh4 r]
end
theorem ZlR (t:Tm):t.cl.key=t.key:=by simp only [Tm.key,Q7,ZoI,Zij,ZlB]
theorem Zd4 (h:a.cl=b.cl):a.key=b.key:=by rw [← ZlR a,h,ZlR b]
theorem ZlA (t:Tm) (nm:Bs) (n:Nat):t.cl.isB nm n=t.isB nm n:=by
 cases t
 simp only [Tm.cl,Tm.isB,ZlX]
theorem ZhQ (nm:Bs) (n:Nat) (h:a.cl=b.cl):a.isB nm n=b.isB nm n:=by rw [← ZlA a,h,ZlA b]
structure CrEq (x y:Cred):Prop where
 sub:x.sub=y.sub
 key:x.key.cl=y.key.cl
 iss:x.iss=y.iss
 per:x.per=y.per
 exc:x.exc=y.exc
 ser:x.ser=y.ser
 fr:x.fr=y.fr
 till:x.till=y.till
theorem CrEq.symm {x y:Cred} (h:CrEq x y):CrEq y x:=⟨h.sub.symm,h.key.symm,h.iss.symm,h.per.symm,h.exc.symm,h.ser.symm,h.fr.symm,h.till.symm⟩
theorem Zja (h:CrEq x y):x.valid=y.valid:=by
 simp only [Cred.valid,h.sub,Zd4 h.key,ZhQ _ _ h.key,h.iss,h.per,h.exc,h.ser,h.fr,h.till]
theorem Zbu:∀ {l m:List Tm},l.map Tm.cl=m.map Tm.cl→(XQ l).cl=(XQ m).cl
 | [],[],_=>rfl
 | [],_::_,h=>by simp at h
 |_::_,[],h=>by simp at h
 | [a],[b],h=>by simpa [XQ] using h
 | [a],b::c::r,h=>by simp at h
 |a::c::r,[b],h=>by simp at h
 | a :: c :: r, b :: d :: q, h => by
   rw [List.map_cons,List.map_cons (l:=d::q)] at h
   injection h with h1 h2
   have ih:=Zbu h2
   show (ZeN a (XQ (c::r))).cl=(ZeN b (XQ (d::q))).cl
   simp only [ZeN,Tm.cl,clL,h1,ih]
theorem Zhf (h:CrEq x y) (hk:k.cl=k'.cl):(x.term k).cl=(y.term k').cl:=by
 have hb:x.body.cl=y.body.cl:=by
  refine Zbu ?_
  simp only [Cred.bodyL,List.map_cons,List.map_nil,h.sub,h.key,h.iss,h.per,h.exc,h.ser,h.fr,h.till]
 simp only [Cred.term,Tm.cl,clL,hb,hk]
theorem Zco (h:CrEq x y) (hk:k.cl=k'.cl):(x.issue k).2=(y.issue k').2∧(x.issue k).1.cl=(y.issue k').1.cl:=by
 have ht:=Zhf h hk
 unfold Cred.issue
 rw [Zja h,Zd4 hk,YL ht]
 split; · exact ⟨rfl,rfl⟩
 split; · exact ⟨rfl,rfl⟩
 split; · exact ⟨rfl,rfl⟩
 exact ⟨rfl,ht⟩
theorem Zjp (hc:t.cl=t'.cl) (h:(Zf t).2=0):(Zf t').2=0∧CrEq (Zf t).1 (Zf t').1:=by
 rcases UY t with e|⟨-,hv, -,s,b,u,key,rfl,e1,e2⟩
 · rw [e] at h;cases h
 · obtain ⟨s', b', kids', rfl⟩ : ∃ s' b' kids', t' = .mk 3 [115, 105, 103, 110] s' b' kids' := by
     obtain ⟨k,nm,s',b',kids'⟩:=t'
     simp only [Tm.cl,Tm.mk.injEq] at hc
     obtain ⟨rfl,rfl,rfl, -, -⟩:=hc
     exact ⟨_,_,_,rfl⟩
   simp only [Tm.cl,Tm.mk.injEq,clL] at hc
   obtain ⟨-, -,rfl, -,hk⟩:=hc
   obtain ⟨u',key',rfl,hu,hkey⟩:∃ u' key',kids'= [u',key']∧u.cl=u'.cl∧key.cl=key'.cl:=by
    match kids' with
    | []=>simp [clL] at hk
    | [_]=>simp [clL] at hk
    | _::_::_::_=>simp [clL] at hk
    | [u', key'] =>
      simp only [clL,List.cons.injEq,and_true] at hk
      exact ⟨u',key',rfl,hk⟩
   generalize hX:(Zf (.mk 3 [115,105,103,110] s b [u,key])).1=X at hv e1 e2 ⊢
   obtain ⟨i1,i2,i3,i4⟩:=Q6 e1
   have e3:=e2
   rw [i4] at e3
   have hb:=Zec e3
   obtain ⟨l,r,k,f1,f2,f3, -, -⟩:=UA i1 (u:=u') (by rw [← hu];exact hb)
   have hq:CrEq X ⟨X.sub,k,X.iss,true,X.per,true,X.exc,X.ser,X.fr,X.till⟩:=⟨rfl,f2.symm,rfl,rfl,rfl,rfl,rfl,rfl⟩
   have hi:=Zco hq hkey
   have ht:(X.issue key).1.cl=(Tm.mk 3 [115,105,103,110] s b' [u',key']).cl:=by
    rw [Z0.1 e2]
    simp only [Tm.cl,clL,hu,hkey]
   have hv2:(Tm.mk 3 [115,105,103,110] s b' [u',key']).valid=0:=by
    have q:=YL ht
    rw [← q,i4]
    exact i3
   have hr:Zf (.mk 3 [115,105,103,110] s b' [u',key'])=(⟨X.sub,k,X.iss,true,X.per,true,X.exc,X.ser,X.fr,X.till⟩,0):=by
    unfold Zf Zb7
    rw [if_neg (by rw [hv2];simp [Tm.isB])]
    simp only [f1,f3]
    rw [if_neg (by simp),if_neg]
    rintro (q|q)
    · exact q (hi.1.symm.trans e1)
    · exact q (Z0.2 (hi.2.symm.trans ht))
   rw [hr]
   exact ⟨rfl,hq⟩
theorem Zfz (t:Tm) (h:(Zf t).2≠0):Zf t=(.zero,2):=by
 rcases UY t with e|⟨e, -⟩
 · exact e
 · exact absurd e h
theorem Zhy (hc:t.cl=t'.cl):(Zf t).2=(Zf t').2∧CrEq (Zf t).1 (Zf t').1:=by
 by_cases h:(Zf t).2=0
 · obtain ⟨a, b⟩ := Zjp hc h
   exact ⟨h.trans a.symm,b⟩
 · have h' : (Zf t').2 ≠ 0 := fun e => h (Zjp hc.symm e).1
   rw [Zfz t h,Zfz t' h']
   exact ⟨rfl,rfl,rfl,rfl,rfl,rfl,rfl,rfl,rfl⟩
end Go.Vm
