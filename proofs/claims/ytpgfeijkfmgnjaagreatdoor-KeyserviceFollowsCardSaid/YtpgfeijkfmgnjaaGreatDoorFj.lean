/-
  What the listed variables hold; the call of a statement's function where the cod
-/
import Derived.Test.YtpgfeijkfmgnjaaGreatDoorFi
import Derived.Laws.IdiomCopy
import Derived.LaidByTextLater
namespace Go.Vm
variable {a b k k' t t':Tm} {x y:Cred} {r:PV} {f:FuncId} {args:List PV} {T:TypeId} {es:Nat} {D el:List (List PV)} {H':Heap}
mutual
theorem ZfE:∀ t:Tm,t.cl.nodes=t.nodes
 | .mk k nm s b kz=>by simp only [Tm.cl,Tm.nodes,We,Zdl kz]
theorem Zdl:∀ l:List Tm,XC (clL l)=XC l
 | []=>rfl
 |t::r=>by simp only [clL,XC,ZfE t,Zdl r]
end
mutual
theorem Zfn:∀ t:Tm,t.cl.depth=t.depth
 | .mk k nm s b kz=>by simp only [Tm.cl,Tm.depth,ZdF kz]
theorem ZdF:∀ l:List Tm,Y9 (clL l)=Y9 l
 | []=>rfl
 |t::r=>by simp only [clL,Y9,Zfn t,ZdF r]
end
theorem U1 (t:Tm):t.cl.valid=t.valid:=by simp only [Tm.valid,ZfE,YN,Zfn]
theorem YJ (h:a.cl=b.cl):a.valid=b.valid:=by rw [← U1 a,h,U1 b]
theorem Zee {x:Tm} (h:a.cl=b.cl):a.cmp x=0↔b.cmp x=0:=by rw [ZU,ZU,h]
def V2:List UInt8:=[115,105,103,110]
def Xf:List UInt8:=[108,101,100,103,101,114]
def Uz (n:Int) (h:Tm):Tm:= .mk 3 Z9 0 true [Ub n,h]
def Ur (n:Int) (h:Tm):Tm:= .mk 3 Z9 0 true [Wd Xf,Uz n h]
def Xn (h:Tm) (n:Int) (key:Tm):Tm:= .mk 3 V2 0 true [Ur n h,key]
def Z5 (c:Tm→Tm) (h:Tm) (n:Int) (key:Tm):Tm×Int:=
 if h.valid≠0 then (.zero,h.valid) else if key.valid≠0 then (.zero,key.valid) else if n<0∨32<n then (.zero,7) else
  if (Xn (c h) n (c key)).valid≠0 then (.zero,3) else (Xn (c h) n (c key),0)
theorem Zcy (h:Tm) (n:Int) (key:Tm):(Xn h.cl n key.cl).cl=(Xn h n key).cl:=by simp only [Xn,Ur,Uz,Tm.cl,clL,XR]
theorem UV (h:Tm) (n:Int) (key:Tm):(Z5 Tm.cl h n key).2=(Z5 id h n key).2∧(Z5 Tm.cl h n key).1.cl=(Z5 id h n key).1.cl:=by
 have e:=Zcy h n key
 have v:=YJ e
 unfold Z5
 simp only [id,v]
 split; · exact ⟨rfl,rfl⟩
 split; · exact ⟨rfl,rfl⟩
 split; · exact ⟨rfl,rfl⟩
 split; · exact ⟨rfl,rfl⟩
 exact ⟨rfl,e⟩
def XU:Nat→Nat→Nat→Tm→List Tm→Tm×List Tm×Bool
 |0,_,_,_,l=>(.zero,l,false)
 | f + 1, n, i, t, l => if n = 1 then (X6 t, l, true) else
   let r:=if i<Zd n then XU f (Zd n) i t l else XU f (n-Zd n) (i-Zd n) t l
   match r.2.1 with
   | []=>(r.1,[],false)
   | a::l'=>if r.2.2=false then (r.1,a::l',false) else if i<Zd n then (YL r.1 a,l',true) else (YL a r.1,l',true)
def Zjw (h:Tm) (n i:Int) (t:Tm) (l:List Tm):Bool:=
 if n<1∨32<n∨i<0∨n≤i∨32<l.length then false else
  (XU 32 n.toNat i.toNat t l).2.2&&(XU 32 n.toNat i.toNat t l).2.1.isEmpty&&decide ((XU 32 n.toNat i.toNat t l).1.cmp h=0)
theorem UI {p:List Tm×Bool} (h:p.2=true):(YM p).2.2=true:=by
 unfold YM;split
 · rfl
 · exact h
theorem ZaA:∀ (f n i:Nat) (t:Tm) (l:List Tm),n≤f→1≤n→(if (XU f n i t l).2.2=true then Vg f n i t (l,false)=((XU f n i t l).1,(XU f n i t l).2.1,false) else (Vg f n i t (l,false)).2.2=true)
 |0,n,i,t,l,h,h1=>by omega
 | f + 1, n, i, t, l, h, h1 => by
   simp only [XU,Vg]
   by_cases hn:n=1
   · simp only [if_pos hn,if_true]
   · have hhl := XG (n := n) (by omega)
     have hhp:=Y8 n
     simp only [if_neg hn]
     by_cases hi:i<Zd n
     · simp only [if_pos hi]
       have ih:=ZaA f (Zd n) i t l (by omega) hhp
       generalize XU f (Zd n) i t l=R at ih ⊢
       generalize Vg f (Zd n) i t (l,false)=Q at ih ⊢
       obtain ⟨x,r,ok⟩:=R
       cases ok with
       | false =>
         rw [if_neg (by simp)] at ih
         cases r<;>simp [UI ih]
       | true =>
         simp only [if_true] at ih
         subst ih
         cases r<;>simp [YM]
     · simp only [if_neg hi]
       have ih:=ZaA f (n-Zd n) (i-Zd n) t l (by omega) (by omega)
       generalize XU f (n-Zd n) (i-Zd n) t l=R at ih ⊢
       generalize Vg f (n-Zd n) (i-Zd n) t (l,false)=Q at ih ⊢
       obtain ⟨x,r,ok⟩:=R
       cases ok with
       | false =>
         rw [if_neg (by simp)] at ih
         cases r<;>simp [UI ih]
       | true =>
         simp only [if_true] at ih
         subst ih
         cases r<;>simp [YM]
theorem ZgW (h:Tm) (n i:Int) (t:Tm) (l:List Tm):Vv h n i t l=Zjw h n i t l:=by
 unfold Vv Zjw
 split
 · rfl
 · have ih := ZaA 32 n.toNat i.toNat t l (by omega) (by omega)
   generalize XU 32 n.toNat i.toNat t l=R at ih ⊢
   generalize Vg 32 n.toNat i.toNat t (l,false)=Q at ih ⊢
   obtain ⟨x,r,ok⟩:=R
   cases ok with
   | false =>
     rw [if_neg (by simp)] at ih
     simp [ih]
   | true =>
     simp only [if_true] at ih
     subst ih
     simp
def Wn:Nat→Nat→Nat→Bool→Tm→List Tm×Bool→(Tm×Tm)×List Tm×Bool
 |0,_,_,_,_,p=>((.zero,.zero),p)
 | f + 1, n, m, w, old, p => if n = m then (if w = true then ((old, old), p) else (((YM p).1, (YM p).1), (YM p).2)) else
   if n≤Zd m then (((Wn f n (Zd m) w old p).1.1,YL (Wn f n (Zd m) w old p).1.2 (YM (Wn f n (Zd m) w old p).2).1),(YM (Wn f n (Zd m) w old p).2).2)
   else ((YL (YM (Wn f (n-Zd m) (m-Zd m) false old p).2).1 (Wn f (n-Zd m) (m-Zd m) false old p).1.1,YL (YM (Wn f (n-Zd m) (m-Zd m) false old p).2).1 (Wn f (n-Zd m) (m-Zd m) false old p).1.2),(YM (Wn f (n-Zd m) (m-Zd m) false old p).2).2)
def V8 (old:Tm) (n:Int) (h:Tm) (m:Int) (l:List Tm):Bool:=
 if m<1∨32<m∨n<1∨m<n∨32<l.length then false else
  !(Wn 32 n.toNat m.toNat true old (l,false)).2.2&&(Wn 32 n.toNat m.toNat true old (l,false)).2.1.isEmpty&&decide ((Wn 32 n.toNat m.toNat true old (l,false)).1.1.cmp old=0)&&decide ((Wn 32 n.toNat m.toNat true old (l,false)).1.2.cmp h=0)
def WI:Nat→Tm→Nat→Nat→Bool→List Tm→(Tm×Tm)×List Tm×Bool
 |0,_,_,_,_,_=>((.zero,.zero),[],false)
 | f + 1, old, n, m, w, l => if n = m ∧ w = true then ((old, old), l, true) else if n = m then (match l with | [] => ((.zero, .zero), [], false) | a :: l' => ((a, a), l', true)) else
   let r:=if n≤Zd m then WI f old n (Zd m) w l else WI f old (n-Zd m) (m-Zd m) false l
   match r.2.1 with
   | []=>((.zero,.zero),[],false)
   | a::l'=>if r.2.2=false then ((.zero,.zero),[],false) else if n≤Zd m then ((r.1.1,YL r.1.2 a),l',true) else ((YL a r.1.1,YL a r.1.2),l',true)
def Zih (old:Tm) (n:Int) (h:Tm) (m:Int) (l:List Tm):Bool:=
 if m<1∨32<m∨n<1∨m<n∨32<l.length then false else
  (WI 32 old n.toNat m.toNat true l).2.2&&(WI 32 old n.toNat m.toNat true l).2.1.isEmpty&&decide ((WI 32 old n.toNat m.toNat true l).1.1.cmp old=0)&&decide ((WI 32 old n.toNat m.toNat true l).1.2.cmp h=0)
theorem Zb6:∀ (f n m:Nat) (w:Bool) (old:Tm) (l:List Tm),m≤f→1≤n→n≤m→(if (WI f old n m w l).2.2=true then Wn f n m w old (l,false)=((WI f old n m w l).1,(WI f old n m w l).2.1,false) else (Wn f n m w old (l,false)).2.2=true)
 |0,n,m,w,old,l,h,h1,h2=>by omega
 | f + 1, n, m, w, old, l, h, h1, h2 => by
   simp only [WI,Wn]
   by_cases hn:n=m
   · simp only [hn, true_and]
     cases w with
     | true=>simp
     | false=>cases l<;>simp [YM]
   · have hhl := XG (n := m) (by omega)
     have hhp:=Y8 m
     simp only [hn,false_and,if_false]
     by_cases hi:n≤Zd m
     · simp only [if_pos hi]
       have ih:=Zb6 f n (Zd m) w old l (by omega) h1 hi
       generalize WI f old n (Zd m) w l=R at ih ⊢
       generalize Wn f n (Zd m) w old (l,false)=Q at ih ⊢
       obtain ⟨x,r,ok⟩:=R
       cases ok with
       | false =>
         rw [if_neg (by simp)] at ih
         cases r<;>simp [UI ih]
       | true =>
         simp only [if_true] at ih
         subst ih
         cases r<;>simp [YM]
     · simp only [if_neg hi]
       have ih:=Zb6 f (n-Zd m) (m-Zd m) false old l (by omega) (by omega) (by omega)
       generalize WI f old (n-Zd m) (m-Zd m) false l=R at ih ⊢
       generalize Wn f (n-Zd m) (m-Zd m) false old (l,false)=Q at ih ⊢
       obtain ⟨x,r,ok⟩:=R
       cases ok with
       | false =>
         rw [if_neg (by simp)] at ih
         cases r<;>simp [UI ih]
       | true =>
         simp only [if_true] at ih
         subst ih
         cases r<;>simp [YM]
theorem ZgH (old:Tm) (n:Int) (h:Tm) (m:Int) (l:List Tm):V8 old n h m l=Zih old n h m l:=by
 unfold V8 Zih
 split
 · rfl
 · have ih := Zb6 32 n.toNat m.toNat true old l (by omega) (by omega) (by omega)
   generalize WI 32 old n.toNat m.toNat true l=R at ih ⊢
   generalize Wn 32 n.toNat m.toNat true old (l,false)=Q at ih ⊢
   obtain ⟨x,r,ok⟩:=R
   cases ok with
   | false =>
     rw [if_neg (by simp)] at ih
     simp [ih]
   | true =>
     simp only [if_true] at ih
     subst ih
     simp
structure Rd where
 svc:Tm
 size:Int
 head:Tm
 signed:Tm
def Rd.cells (c:Rd):List PV:=c.svc.cells++(.int .i64 c.size::(c.head.cells++c.signed.cells))
def Rd.zero:Rd:=⟨.zero,0,.zero,.zero⟩
structure An where
 name:List UInt8
 entry:Tm
 idx:Int
 size:Int
 head:Tm
 signed:Tm
 ib:Bool
 incl:List Tm
 eb:Bool
 ext:List Tm
def An.cells (a:An):List PV:= .str a.name::(a.entry.cells++(.int .i64 a.idx:: .int .i64 a.size::(a.head.cells++(a.signed.cells++ [slV a.ib 4 (Za a.incl),slV a.eb 4 (Za a.ext)]))))
def QV:Tm→Bool
 | .mk k nm s _ kz=>k==0&&nm== []&&s==0&&kz.isEmpty
def YB:Tm→Tm
 | .mk _ _ _ _ (x::_)=>x
 |_=> .zero
def pkB:Tm→Bool
 | .mk k nm _ _ _=>k==3&&nm== [112,107]
def Zhi (t:Tm):Bool:=pkB t&&(decide (t.valid=0∧t.th=0)&&t.fre)&&t.ground
theorem Zma (hk:pkB t=true) (ht:t.th=0):∃ s b x,t= .mk 3 [112,107] s b [x]:=by
 obtain ⟨k,nm,s,b,kz⟩:=t
 simp only [pkB,Bool.and_eq_true,beq_iff_eq] at hk
 obtain ⟨rfl,rfl⟩:=hk
 simp only [Tm.th] at ht
 rw [if_neg (by decide),if_neg (by decide)] at ht
 split at ht
 · cases ht
 · rename_i h
   have e1:(Qw [112,107]).least=1:=by decide
   have e2:(Qw [112,107]).most=1:=by decide
   rw [e1,e2] at h
   match kz,h with
   | [],h=>exfalso;simp at h
   | [x],_=>exact ⟨s,b,x,rfl⟩
   | x::y::r,h=>exfalso;simp at h;omega
def VI (f:Tm→Tm) (c:Rd):Bool:=
 Zhi c.svc&&if c.size=0 then QV c.head&&QV c.signed else if c.size<1∨32<c.size then false else
  decide ((Z5 f c.head c.size (YB c.svc)).2=0)&&decide ((Z5 f c.head c.size (YB c.svc)).1.cmp c.signed=0)
theorem Zcz (c:Rd):VI Tm.cl c=VI id c:=by
 have h:=UV c.head c.size (YB c.svc)
 have hc:=Zee (x:=c.signed) h.2
 unfold VI
 rw [h.1,decide_eq_decide.2 hc]
def Zv (name:List UInt8) (key:Tm) (i t:Int):Cred:=⟨name,key,false,true,[],true,[],i,0,t⟩
def ZjO (c:Rd) (a:An):Rd×Tm×Int:=
 if VI Tm.cl c=false then (.zero,.zero,1) else
 if (Zf a.entry).2≠0 then (.zero,.zero,2) else
 if ((Zv a.name (Zf a.entry).1.key a.idx 9999).issue (YB c.svc)).2≠0∨((Zv a.name (Zf a.entry).1.key a.idx 9999).issue (YB c.svc)).1.cmp a.entry≠0 then (.zero,.zero,2) else
 if a.size<c.size then (.zero,.zero,9) else
 if (Z5 Tm.cl a.head a.size (YB c.svc)).2≠0∨(Z5 Tm.cl a.head a.size (YB c.svc)).1.cmp a.signed≠0∨Vv a.head a.size a.idx a.entry a.incl=false∨(0<c.size∧V8 c.head c.size a.head a.size a.ext=false) then (.zero,.zero,18) else
 (⟨c.svc.cl,a.size,a.head.cl,a.signed.cl⟩,(Zf a.entry).1.key.cl,0)
section
variable {E:Env} {P:Program} {own:Tmp→Bool} {n:Nat} {K:TM→Heap→Prop} {tm:TM}
theorem dCt {ops : Array Oper} {n0 i : Nat} {r : List Oper} {d : Nat} {ty : TypeId} {pos : String} {aft : Array Edge} {grd : Option (Nat × Bool)} {p : PV} {f : Operand} {args : Array Operand} {ats : Array TypeId} {k : FuncId} {caps al : List PV} {bx : List Box} {ro nt nt' : Nat} {lv lv' : List Nat}
  (hw:Ze ops.toList tm ⟨some d,.call {callee:= .value f,args:=args,argTypes:=ats},ty,pos,aft,grd⟩=some true) (hn:Nat.blt d n=true) (hf:Zh E tm f= .fn k caps)
  (ha:args.toList.map (Zh E tm)++caps=al) (hc:Xc E own ⟨some d,.call {callee:= .value f,args:=args,argTypes:=ats},ty,pos,aft,grd⟩= .tk) (h:CallOk E P k al ⟨bx,bx.length,lv,nt⟩ p ⟨bx,bx.length,lv',nt'⟩)
  (hr:DrwQ E P own n ops n0 (i+1) r K (ZX tm (some d) p) ⟨bx,ro,lv',nt'⟩):DrwQ E P own n ops n0 i (⟨some d,.call {callee:= .value f,args:=args,argTypes:=ats},ty,pos,aft,grd⟩::r) K tm ⟨bx,ro,lv,nt⟩:=by
 have e:WR ⟨bx,ro,lv,nt⟩ ⟨bx,bx.length,lv',nt'⟩=⟨bx,ro,lv',nt'⟩:=by simp [WR]
 refine .stepN (p:=p) (H1:=⟨bx,ro,lv',nt'⟩) (by simp only [Wq,hn]) (.inr (.inr ⟨hc,fun j b hj=>hj⟩)) (fun ho'=>?_) hr
 have hci:=(WA (E:=E) (own:=own) ho').trans hc
 refine ⟨by rw [hci];simp,.inr (.inl ⟨by rw [hci];exact ⟨by simp,by simp,by simp⟩,?_⟩)⟩
 have:=Hp.tk (E:=E) (P:=P) (own:=own) (ops:=ops) (n0:=n0) (cls:=Xl E own ops) (tgt:=fun _=>n0) (msk:=fun _=>[]) (i:=i) (o:=⟨some d,.call {callee:= .value f,args:=args,argTypes:=ats},ty,pos,aft,grd⟩) (tm:=tm) ⟨bx,ro,lv,nt⟩ p ⟨bx,bx.length,lv',nt'⟩ hw hci
  (.call _ _ _ _ _ _ _ rfl hf (by rw [ha];exact h)) (Nat.le_refl _)
 rw [e] at this
 exact this
end
variable {P:Program}
theorem X7 (w : World) (dT sT ty elem : TypeId) (sz : Nat) (b o dLen dCap : Nat) (a : Addr) (sLen sCap : Nat) (cs : List Value)
  (hu:P.underlying dT=some (.slice elem)) (hs:(P.info? elem).map (·.size)=some sz) (hn:cs.length=Nat.min sLen dLen*sz)
  (hsrc:∀ j v,cs[j]? = some v→w.cell? (a.add j)=some v) (hc:∀ j,j<cs.length→(w.cell? ⟨b,o+j,none⟩).isSome=true) (hf:∀ j,j<cs.length→w.frozen? ⟨b,o+j,none⟩=false) (h1:∀ v∈cs,v.oneCell'=true) :
  (Builtin.copy_ #[dT,sT] ty #[.slice (some ⟨b,o,none⟩) dLen dCap,.slice (some a) sLen sCap]).run P w= .ok (goInt (Nat.min sLen dLen)) (w.setCells b o cs):=by
 have hl:=run_loadCells_list (P:=P) w a cs hsrc
 have hst:=run_storeCells_cells (P:=P) b o cs 0 w (by simpa using hc) (by simpa using hf) h1
 cases hq:P.info? elem with
 |none=>simp [hq] at hs
 | some i =>
   have hi:i.size=sz:=by simpa [hq] using hs
   rw [hn] at hl
   simp [Builtin.copy_,run_underlying hu,Builtin.lenOf,Builtin.firstCells,sizeOf,typeInfo,hq,hi,hl,hst]
section
variable {g:Gh} {H:Heap} {w:World}
theorem Ud (b:Nat):∀ (vs:List Value) (o:Nat) (w:World),(w.setCells b o vs).heap.size=w.heap.size
 | [],_,_=>rfl
 |v::r,o,w=>by rw [World.setCells,Ud b r];simp [World.setCell]
theorem Wt {b : Nat} {c : Array Value} {fr : Nat × Nat} (h : w.heap[b]? = some (.cells c T fr)) (vs : List Value) (o : Nat) (hsz : o + vs.length ≤ c.size) :
  ∃ c',(w.setCells b o vs).heap[b]? = some (.cells c' T fr)∧c'.size=c.size∧(∀ j (hj:j<vs.length),c'[o+j]? = some vs[j])∧(∀ j,j<o∨o+vs.length≤j→c'[j]? = c[j]?)∧
   (∀ k,k≠b→(w.setCells b o vs).heap[k]? = w.heap[k]?)∧(w.setCells b o vs).heap.size=w.heap.size∧((w.setCells b o vs).os=w.os∧(w.setCells b o vs).output=w.output)∧∀ a,(w.setCells b o vs).frozen? a=w.frozen? a:=by
 have hk:=World.keptBut_setCells b (may:=fun p=>∃ j,j<vs.length∧p= .cell b (o+j)) vs o w (fun j hj=>⟨j,hj,rfl⟩)
 have hb:b<w.heap.size:=by
  rcases Nat.lt_or_ge b w.heap.size with h'|h'
  · exact h'
  · simp [Array.getElem?_eq_none h'] at h
 have hs:=Ud b vs o w
 have hcell:∀ j,w.cell? ⟨b,j,none⟩=c[j]? :=fun j=>by simp [World.cell?,h]
 have hin:=World.cell?_setCells_in b vs o w (fun j hj=>by rw [hcell,Array.getElem?_eq_getElem (by omega)];rfl)
 have h1:=hk.2.2 b hb
 rw [h] at h1
 cases h2:(w.setCells b o vs).heap[b]? with
 |none=>rw [h2] at h1;exact absurd h1 (by simp)
 | some ob =>
   rw [h2] at h1
   cases ob with
   | cells c' T' fr' =>
     obtain ⟨rfl,rfl,h3,h4⟩:=h1
     refine ⟨c',rfl,h3,fun j hj=>?_,fun j hj=>h4 j ?_,fun k hne=>?_,hs,⟨hk.1,hk.2.1⟩,World.frozen?_setCells b vs o w⟩
     · have := hin j hj
       simpa [World.cell?,h2] using this
     · rintro ⟨i, hi, e⟩
       simp only [MemPlace.cell.injEq,true_and] at e
       omega
     · rcases Nat.lt_or_ge k w.heap.size with hlt | hge
       · have h5 := hk.2.2 k hlt
         rw [Array.getElem?_eq_getElem hlt] at h5 ⊢
         rw [Array.getElem?_eq_getElem (by omega)] at h5 ⊢
         generalize w.heap[k]=x at h5
         generalize (w.setCells b o vs).heap[k]'(by omega)=y at h5
         cases x with
         | cells cx tx fx =>
           cases y with
           | cells cy ty fy =>
             obtain ⟨rfl,rfl,h6,h7⟩:=h5
             have:cy=cx:=Array.ext_getElem? fun j=>h7 j (by rintro ⟨i,_,e⟩;simp only [MemPlace.cell.injEq] at e;exact hne e.1)
             rw [this]
           | _=>simp at h5
         | map es cl =>
           cases y with
           | map es' cl' =>
             simp only at h5
             rcases h5 with ⟨i,_,e⟩|⟨rfl,rfl⟩
             · cases e
             · rfl
           | _=>simp at h5
         | _=>cases y<;>simp_all
       · rw [Array.getElem?_eq_none hge,Array.getElem?_eq_none (by omega)]
   | _=>simp at h1
theorem ZiI {id:Nat} (hro:H.ro≤id) (w:World):Keep g H w g (ZV [id] H) w where
 le:= .refl g
 heap _ _ _:=rfl
 store _ _ _ _:=rfl
 size:=Nat.le_refl _
 new id b h h':=by rw [h] at h';cases h'
 tnew t b lo hi h h':=by rw [h] at h';cases h'
 ro:=rfl
 bxl:=by simp [ZV,YC]
 bx i h:=by
  rw [WN,if_neg]
  rintro ⟨h1,_⟩
  simp only [List.mem_singleton] at h1
  omega
 nt:=Nat.le_refl _
 lv t h:= .inl h
 al _ _ _ h:=(YV h).1
 ns _ _ h:=h
 so:= .rfls
theorem ZgY (hi:Inv g H w) {w':World} {id:Nat} (hro:H.ro≤id) {F:Array Value} (hh:w'.heap=(w.alloc (.cells F T)).heap) (hso:SameOut g w w')
 (hw:∀ i (hi:i<el.length),(el[i]).length=es) (hle:el.length*es≤F.size)
  (hv:∀ i (hi:i<el.length) j (hj:j<(el[i]).length),∃ v,F[i*es+j]? = some v∧V g ((el[i])[j]) v) (K:Nat) (hK:K≤F.size) :
  Inv (g.link H.bx.length w.heap.size K) {H with bx:=H.bx.set id .dead++ [.cells es el]} w'∧Keep g H w (g.link H.bx.length w.heap.size K) {H with bx:=H.bx.set id .dead++ [.cells es el]} w':=by
 have hl:(ZV [id] H).bx.length=H.bx.length:=by simp [ZV,YC]
 obtain ⟨i1,k1⟩:=UM (Zfp hi [id]) (.cells F T) (.cells es el) rfl (fun es0 el0 h0=>by cases h0;exact ⟨F,T,rfl,hw,hle,hv⟩) (fun es h=>by cases h) K (fun c T m h=>by cases h;exact hK)
 rw [hl] at i1 k1
 have k2:Keep (g.link H.bx.length w.heap.size K) ((ZV [id] H).push (.cells es el)) (w.alloc (.cells F T)) (g.link H.bx.length w.heap.size K) ((ZV [id] H).push (.cells es el)) w':= .same hh hso
 have k3:=(ZiI hro w).then hi k1
 exact ⟨i1.same hh,KeepN.then k3 hi k2⟩
end
section
variable {E:Env} {P:Program}
def hDead:Heap:=⟨[.dead],0,[],0⟩
theorem VK {id:Nat} (h:hDead.liveAt id):False:=by
 obtain ⟨b,hb,ha⟩:=h
 simp only [hDead] at hb
 match id,hb with
 |0,hb=>simp at hb;subst hb;exact ha
 |n+1,hb=>simp at hb
theorem ZbV {g:Gh} {b:Nat}:Shut g hDead b:=⟨fun _ _ h=>(VK h).elim,fun t lo hi h=>by simp [hDead] at h⟩
theorem CallOk.unkill (h:CallOk E P f args hDead r H'):CallOk E P f args hNil r H':=by
 intro g w vals hi hg hv
 have hi2:Inv g hDead w:={
  st:=hi.st
  bx:=fun id es el e=>by
   match id,e with
   | 0,e=>simp [hDead] at e
   | n+1,e=>simp [hDead] at e
  mp:=fun id es e=>by
   match id,e with
   | 0,e=>simp [hDead] at e
   | n+1,e=>simp [hDead] at e
  sp:=fun id T cs e=>by
   match id,e with
   | 0,e=>simp [hDead] at e
   | n+1,e=>simp [hDead] at e
  inj:=fun i j b e=>(VK e).elim
  sd:=fun id e=>hi.sd id (by simp [hNil])
  td:=hi.td
  tk:=fun t b lo hi' e=>by simp [hDead] at e
  tinj:=fun t t' b lo hi' lo' hi2 e=>by simp [hDead] at e
  nd:=List.nodup_nil
  lt:=fun t e=>by simp [hDead] at e
  sz:=hi.sz
  ro:=Nat.zero_le _
  rm:=fun id b c T m e=>(VK e).elim}
 refine UponCall.mono (fun v w' ⟨g',hp,hi',k⟩=>?_) (h g w vals hi2 hg hv)
 exact ⟨g',hp,hi',{
  le:=k.le
  heap:=fun b hb _=>k.heap b hb ZbV
  store:=fun b hb _=>k.store b hb ZbV
  size:=k.size
  new:=fun id b e1 e2=>(k.new id b e1 e2).imp (fun x=>x) fun ⟨_,_,a,_⟩=>(VK a).elim
  tnew:=fun t b lo hi e1 e2=>(k.tnew t b lo hi e1 e2).imp (fun x=>x) fun ⟨_,_,_,a,_⟩=>by simp [hDead] at a
  ro:=k.ro
  bxl:=Nat.zero_le _
  bx:=fun id e=>absurd e (Nat.not_lt_zero _)
  nt:=k.nt
  lv:=k.lv
  al:=fun id b e1 e2=>by
   have:=hi.sd id (by simp [hNil])
   rw [this] at e1
   cases e1
  ns:=fun id e=>absurd e (Nat.not_lt_zero _)
  so:=k.so}⟩
theorem XM {H:Heap} {id:Nat} (hb:H.bx[id]? = some (.cells es (el++D))) {j:Nat}:({H with bx:=H.bx.set id (.cells es el)}:Heap).liveAt j↔H.liveAt j:=by
 have hlt:=ZK hb
 simp only [Heap.liveAt]
 by_cases e:id=j
 · subst e
   rw [List.getElem?_set_self hlt,hb]
   exact ⟨fun _=>⟨_,rfl,trivial⟩,fun _=>⟨_,rfl,trivial⟩⟩
 · rw [List.getElem?_set_ne e]
theorem Zjq {g:Gh} {H:Heap} {w:World} (hi:Inv g H w) {id:Nat} (hb:H.bx[id]? = some (.cells es (el++D))):Inv g {H with bx:=H.bx.set id (.cells es el)} w where
 st:=hi.st
 bx:=fun j es' el' e=>by
  have hlt:=ZK hb
  by_cases e2:id=j
  · subst e2
    simp only [List.getElem?_set_self hlt,Option.some.injEq,Box.cells.injEq] at e
    obtain ⟨rfl,rfl⟩:=e
    obtain ⟨b,c,T,h1,h2,h3,h4,h5,h6⟩:=hi.bx _ _ _ hb
    have hl:(el++D).length=el.length+D.length:=List.length_append
    have hm:=Nat.mul_le_mul_right es (show el.length≤(el++D).length by omega)
    refine ⟨b,c,T,h1,h2,fun i hi'=>?_,by omega,fun i hi' j hj=>?_,h6⟩
    · have := h3 i (by omega)
      rwa [List.getElem_append_left hi'] at this
    · have := h5 i (by omega) j (by rw [List.getElem_append_left hi']; exact hj)
      simpa only [List.getElem_append_left hi'] using this
  · simp only [List.getElem?_set_ne e2] at e
    exact hi.bx j es' el' e
 mp:=fun j es' e=>by
  have hlt:=ZK hb
  by_cases e2:id=j
  · subst e2
    simp [List.getElem?_set_self hlt] at e
  · simp only [List.getElem?_set_ne e2] at e
    exact hi.mp j es' e
 sp:=fun j T cs e=>by
  have hlt:=ZK hb
  by_cases e2:id=j
  · subst e2
    simp [List.getElem?_set_self hlt] at e
  · simp only [List.getElem?_set_ne e2] at e
    exact hi.sp j T cs e
 inj:=fun i j b e1 e2=>hi.inj i j b ((XM hb).1 e1) ((XM hb).1 e2)
 sd:=fun j e=>hi.sd j (by simpa using e)
 td:=hi.td
 tk:=fun t b lo hi' e1 e2=>let ⟨a,c,d⟩:=hi.tk t b lo hi' e1 e2;⟨a,c,fun j h=>d j ((XM hb).1 h)⟩
 tinj:=hi.tinj
 nd:=hi.nd
 lt:=hi.lt
 sz:=hi.sz
 ro:=by simpa using hi.ro
 rm:=fun j b c T m e=>hi.rm j b c T m ((XM hb).1 e)
theorem CallOk.trunc {H:Heap} {id:Nat} (hb:H.bx[id]? = some (.cells es (el++D))) (hro:H.ro=0) (h:CallOk E P f args {H with bx:=H.bx.set id (.cells es el)} r H'):CallOk E P f args H r H':=by
 intro g w vals hi hg hv
 have sh:∀ {b},Shut g H b→Shut g {H with bx:=H.bx.set id (.cells es el)} b:=fun {b} hs=>⟨fun j e1 e2=>hs.1 j e1 ((XM hb).1 e2),hs.2⟩
 refine UponCall.mono (fun v w' ⟨g',hp,hi',k⟩=>?_) (h g w vals (Zjq hi hb) hg hv)
 exact ⟨g',hp,hi',{
  le:=k.le
  heap:=fun b hb' hs=>k.heap b hb' (sh hs)
  store:=fun b hb' hs=>k.store b hb' (sh hs)
  size:=k.size
  new:=fun j b e1 e2=>(k.new j b e1 e2).imp (fun x=>x) fun ⟨i,a,c,d⟩=>⟨i,a,(XM hb).1 c,d⟩
  tnew:=k.tnew
  ro:=k.ro
  bxl:=by simpa using k.bxl
  bx:=fun j e=>absurd e (by rw [hro];exact Nat.not_lt_zero _)
  nt:=k.nt
  lv:=k.lv
  al:=fun j b e1 e2=>(XM hb).1 (k.al j b e1 e2)
  ns:=fun j e1 e2=>k.ns j (by simpa using e1) e2
  so:=k.so}⟩
end
def Ue:Tm→Tm
 | .mk _ _ _ _ (_::x::_)=>x
 |_=> .zero
def Zi0:Tm→Bool
 | .mk k _ s _ _=>decide (k=2)&&decide (s=4)
def Zcg (t k:Tm):Bool:=t.isB V2 2&&(decide ((Ue t).cmp k=0)&&((YB t).isB Z9 2&&(decide ((YB (YB t)).cmp (Wd Xf)=0)&&((Ue (YB t)).isB Z9 2&&Zi0 (YB (Ue (YB t)))))))
def ZcI (a b k:Tm):Bool:=Zcg a k&&(Zcg b k&&(decide ((YB (Ue (YB a))).cmp (YB (Ue (YB b)))=0)&& !decide ((Ue (Ue (YB a))).cmp (Ue (Ue (YB b)))=0)))
def Znx (a b:Rd):Bool×Int:=if VI id a=false∨VI id b=false then (false,1) else if a.svc.cmp b.svc≠0 then (false,11) else (ZcI a.signed b.signed (YB a.svc),0)
theorem ZiW {nm:List UInt8} {x y:Tm} (e:t.cl=(Tm.mk 3 nm 0 true [x,y]).cl):t.isB nm 2=true∧(YB t).cl=x.cl∧(Ue t).cl=y.cl:=by
 obtain ⟨k,n,s,b,kz⟩:=t
 simp only [Tm.cl,clL,Tm.mk.injEq] at e
 obtain ⟨rfl,rfl, -, -,e⟩:=e
 match kz,e with
 | [],e=>simp [clL] at e
 | [a],e=>simp [clL] at e
 |a::c::d::r,e=>simp [clL] at e
 | [a, c], e =>
   simp only [clL,List.cons.injEq,and_true] at e
   exact ⟨by simp [Tm.isB],e.1,e.2⟩
theorem ZfB {h:Tm} {n:Int} (e:t.cl=(Xn h n k).cl):Zcg t k=true∧(YB (Ue (YB t))).cl=(Ub n).cl∧(Ue (Ue (YB t))).cl=h.cl:=by
 obtain ⟨a1,a2,a3⟩:=ZiW (show t.cl=(Tm.mk 3 V2 0 true [Ur n h,k]).cl from e)
 obtain ⟨b1,b2,b3⟩:=ZiW (show (YB t).cl=(Tm.mk 3 Z9 0 true [Wd Xf,Uz n h]).cl from a2)
 obtain ⟨c1,c2,c3⟩:=ZiW (show (Ue (YB t)).cl=(Tm.mk 3 Z9 0 true [Ub n,h]).cl from b3)
 have hat:Zi0 (YB (Ue (YB t)))=true:=by
  generalize YB (Ue (YB t))=u at c2
  obtain ⟨k',n',s',b',kz'⟩:=u
  simp only [Ub,Yn,Tm.cl,clL,Tm.mk.injEq] at c2
  simp [Zi0,c2.1,c2.2.2.1]
 refine ⟨?_,c2,c3⟩
 simp only [Zcg,a1,b1,c1,hat,decide_eq_true (ZU.2 a3),decide_eq_true (ZU.2 b2),Bool.and_self]
theorem VV {f:Tm→Tm} {c:Rd} (h:VI f c=true) (hp:0<c.size):c.signed.cl=(Xn (f c.head) c.size (f (YB c.svc))).cl:=by
 unfold VI at h
 simp only [Bool.and_eq_true] at h
 obtain ⟨-,h⟩:=h
 rw [if_neg (by omega)] at h
 split at h
 · cases h
 · simp only [Bool.and_eq_true, decide_eq_true_eq] at h
   obtain ⟨h1,h2⟩:=h
   rw [← ZU.1 h2]
   unfold Z5 at h1 ⊢
   split at h1; · contradiction
   split at h1; · contradiction
   split at h1; · contradiction
   split at h1; · contradiction
   rename_i q1 q2 q3 q4
   rw [if_neg q1,if_neg q2,if_neg q3,if_neg q4]
theorem Zez (h:a.cl=b.cl):(YB a).cl=(YB b).cl:=by
 obtain ⟨k,n,s,t,kz⟩:=a
 obtain ⟨k',n',s',t',kz'⟩:=b
 simp only [Tm.cl,Tm.mk.injEq] at h
 obtain ⟨-, -, -, -,h⟩:=h
 cases kz<;>cases kz'<;>simp [clL] at h
 · rfl
 · exact h.1
theorem ZgR {a b:Rd} (ha:VI id a=true) (hb:VI id b=true) (pa:0<a.size) (hs:a.size=b.size) (hv:a.svc.cl=b.svc.cl):ZcI a.signed b.signed (YB a.svc)= !decide (a.head.cmp b.head=0):=by
 have e1:=VV ha pa
 have e2:=VV hb (by omega)
 have e3:(Xn (id b.head) b.size (id (YB b.svc))).cl=(Xn b.head a.size (YB a.svc)).cl:=by
  rw [hs]
  simp only [id,Xn,Tm.cl,clL,Zez hv]
 rw [e3] at e2
 obtain ⟨x1,x2,x3⟩:=ZfB e1
 obtain ⟨y1,y2,y3⟩:=ZfB e2
 have z1:(YB (Ue (YB a.signed))).cmp (YB (Ue (YB b.signed)))=0:=ZU.2 (by rw [x2,y2])
 have x1:Zcg a.signed (YB a.svc)=true:=x1
 have z2:decide ((Ue (Ue (YB a.signed))).cmp (Ue (Ue (YB b.signed)))=0)=decide (a.head.cmp b.head=0):=by
  rw [decide_eq_decide,ZU,ZU,x3,y3]
  rfl
 simp only [ZcI,x1,y1,decide_eq_true z1,z2,Bool.true_and]
mutual
theorem ZlI:∀ t:Tm,t.cl.all=t.all.map Tm.cl
 | .mk k nm s b kz=>by simp only [Tm.cl,Tm.all,List.map_cons,ZhJ kz]
theorem ZhJ:∀ l:List Tm,UB (clL l)=(UB l).map Tm.cl
 | []=>rfl
 |t::r=>by simp only [clL,UB,List.map_append,ZlI t,ZhJ r]
end
theorem ZlN (t:Tm):t.cl.knd=t.knd:=by cases t;rfl
theorem ZaK (t:Tm):t.cl.ground=t.ground:=by
 unfold Tm.ground Uc
 rw [ZlI]
 have:∀ l:List Tm,((l.map Tm.cl).filter fun t=>decide (t.knd=1)).isEmpty=(l.filter fun t=>decide (t.knd=1)).isEmpty:=fun l=>by
  induction l with
  | nil=>rfl
  | cons a r ih =>
    by_cases h:a.knd=1
    · simp [h,ZlN]
    · have h2 : ¬ a.cl.knd = 1 := by rw [ZlN]; exact h
      simpa [List.filter_cons,h,h2] using ih
 exact this _
theorem ZlE (l:List Tm):(clL l).length=l.length:=We l
theorem ZkM (nm:Bs):∀ l:List Tm,QU nm (clL l)=QU nm l:=fun l=>by
 unfold QU
 split
 · cases l with
   | nil=>rfl
   | cons a r=>cases a;rfl
 · have : ∀ l : List Tm, (clL l).all (fun t => match t with | .mk k _ s _ _ => !(decide (k = 3)) && decide (s = 1)) = l.all fun t => match t with | .mk k _ s _ _ => !(decide (k = 3)) && decide (s = 1) := fun l => by
     induction l with
     | nil=>rfl
     | cons a r ih =>
       simp only [clL,List.all_cons,ih]
       cases a
       rfl
   exact this l
mutual
theorem ZjX:∀ t:Tm,t.cl.th=t.th
 | .mk k nm s b kz=>by simp only [Tm.cl,Tm.th,ZlE,ZkM,Zlt kz]
theorem Zlt:∀ l:List Tm,thL (clL l)=thL l
 | []=>rfl
 |t::r=>by simp only [clL,thL,ZjX t,Zlt r]
end
mutual
theorem Zgp:∀ t:Tm,t.cl.fre=t.fre
 | .mk k nm s b kz=>by simp only [Tm.cl,Tm.fre,ZjC kz]
theorem ZjC:∀ l:List Tm,ZgD (clL l)=ZgD l
 | []=>rfl
 |t::r=>by simp only [clL,ZgD,Zgp t,ZjC r]
end
theorem ZlV (t:Tm):t.cl.key=t.key:=by simp only [Tm.key,U1,ZjX,ZaK,Zgp]
theorem ZdZ (h:a.cl=b.cl):a.key=b.key:=by rw [← ZlV a,h,ZlV b]
theorem ZlQ (t:Tm) (nm:Bs) (n:Nat):t.cl.isB nm n=t.isB nm n:=by
 cases t
 simp only [Tm.cl,Tm.isB,ZlE]
theorem Zhu (nm:Bs) (n:Nat) (h:a.cl=b.cl):a.isB nm n=b.isB nm n:=by rw [← ZlQ a,h,ZlQ b]
structure CrEq (x y:Cred):Prop where
 sub:x.sub=y.sub
 key:x.key.cl=y.key.cl
 iss:x.iss=y.iss
 per:x.per=y.per
 exc:x.exc=y.exc
 ser:x.ser=y.ser
 fr:x.fr=y.fr
 till:x.till=y.till
theorem CrEq.symm {x y:Cred} (h:CrEq x y):CrEq y x:=⟨h.sub.symm,h.key.symm,h.iss.symm,h.per.symm,h.exc.symm,h.ser.symm,h.fr.symm,h.till.symm⟩
theorem Ziy (h:CrEq x y):x.valid=y.valid:=by
 simp only [Cred.valid,h.sub,ZdZ h.key,Zhu _ _ h.key,h.iss,h.per,h.exc,h.ser,h.fr,h.till]
theorem ZbY:∀ {l m:List Tm},l.map Tm.cl=m.map Tm.cl→(XN l).cl=(XN m).cl
 | [],[],_=>rfl
 | [],_::_,h=>by simp at h
 |_::_,[],h=>by simp at h
 | [a],[b],h=>by simpa [XN] using h
 | [a],b::c::r,h=>by simp at h
 |a::c::r,[b],h=>by simp at h
 | a :: c :: r, b :: d :: q, h => by
   rw [List.map_cons,List.map_cons (l:=d::q)] at h
   injection h with h1 h2
   have ih:=ZbY h2
   show (ZeG a (XN (c::r))).cl=(ZeG b (XN (d::q))).cl
   simp only [ZeG,Tm.cl,clL,h1,ih]
theorem Zg9 (h:CrEq x y) (hk:k.cl=k'.cl):(x.term k).cl=(y.term k').cl:=by
 have hb:x.body.cl=y.body.cl:=by
  refine ZbY ?_
  simp only [Cred.bodyL,List.map_cons,List.map_nil,h.sub,h.key,h.iss,h.per,h.exc,h.ser,h.fr,h.till]
 simp only [Cred.term,Tm.cl,clL,hb,hk]
theorem Zfy (h:CrEq x y) (hk:k.cl=k'.cl):(x.issue k).2=(y.issue k').2∧(x.issue k).1.cl=(y.issue k').1.cl:=by
 have ht:=Zg9 h hk
 unfold Cred.issue
 rw [Ziy h,ZdZ hk,YJ ht]
 split; · exact ⟨rfl,rfl⟩
 split; · exact ⟨rfl,rfl⟩
 split; · exact ⟨rfl,rfl⟩
 exact ⟨rfl,ht⟩
theorem ZjJ (hc:t.cl=t'.cl) (h:(Zf t).2=0):(Zf t').2=0∧CrEq (Zf t).1 (Zf t').1:=by
 rcases VQ t with e|⟨-,hv, -,s,b,u,key,rfl,e1,e2⟩
 · rw [e] at h;cases h
 · obtain ⟨s', b', kz', rfl⟩ : ∃ s' b' kz', t' = .mk 3 [115, 105, 103, 110] s' b' kz' := by
     obtain ⟨k,nm,s',b',kz'⟩:=t'
     simp only [Tm.cl,Tm.mk.injEq] at hc
     obtain ⟨rfl,rfl,rfl, -, -⟩:=hc
     exact ⟨_,_,_,rfl⟩
   simp only [Tm.cl,Tm.mk.injEq,clL] at hc
   obtain ⟨-, -,rfl, -,hk⟩:=hc
   obtain ⟨u',key',rfl,hu,hkey⟩:∃ u' key',kz'= [u',key']∧u.cl=u'.cl∧key.cl=key'.cl:=by
    match kz' with
    | []=>simp [clL] at hk
    | [_]=>simp [clL] at hk
    | _::_::_::_=>simp [clL] at hk
    | [u', key'] =>
      simp only [clL,List.cons.injEq,and_true] at hk
      exact ⟨u',key',rfl,hk⟩
   generalize hX:(Zf (.mk 3 [115,105,103,110] s b [u,key])).1=X at hv e1 e2 ⊢
   obtain ⟨i1,i2,i3,i4⟩:=Q0 e1
   have e3:=e2
   rw [i4] at e3
   have hb:=Zeh e3
   obtain ⟨l,r,k,f1,f2,f3, -, -⟩:=U7 i1 (u:=u') (by rw [← hu];exact hb)
   have hq:CrEq X ⟨X.sub,k,X.iss,true,X.per,true,X.exc,X.ser,X.fr,X.till⟩:=⟨rfl,f2.symm,rfl,rfl,rfl,rfl,rfl,rfl⟩
   have hi:=Zfy hq hkey
   have ht:(X.issue key).1.cl=(Tm.mk 3 [115,105,103,110] s b' [u',key']).cl:=by
    rw [ZU.1 e2]
    simp only [Tm.cl,clL,hu,hkey]
   have hv2:(Tm.mk 3 [115,105,103,110] s b' [u',key']).valid=0:=by
    have q:=YJ ht
    rw [← q,i4]
    exact i3
   have hr:Zf (.mk 3 [115,105,103,110] s b' [u',key'])=(⟨X.sub,k,X.iss,true,X.per,true,X.exc,X.ser,X.fr,X.till⟩,0):=by
    unfold Zf ZcH
    rw [if_neg (by rw [hv2];simp [Tm.isB])]
    simp only [f1,f3]
    rw [if_neg (by simp),if_neg]
    rintro (q|q)
    · exact q (hi.1.symm.trans e1)
    · exact q (ZU.2 (hi.2.symm.trans ht))
   rw [hr]
   exact ⟨rfl,hq⟩
theorem ZfK (t:Tm) (h:(Zf t).2≠0):Zf t=(.zero,2):=by
 rcases VQ t with e|⟨e, -⟩
 · exact e
 · exact absurd e h
theorem Zl6 (hc:t.cl=t'.cl):(Zf t).2=(Zf t').2∧CrEq (Zf t).1 (Zf t').1:=by
 by_cases h:(Zf t).2=0
 · obtain ⟨a, b⟩ := ZjJ hc h
   exact ⟨h.trans a.symm,b⟩
 · have h' : (Zf t').2 ≠ 0 := fun e => h (ZjJ hc.symm e).1
   rw [ZfK t h,ZfK t' h']
   exact ⟨rfl,rfl,rfl,rfl,rfl,rfl,rfl,rfl,rfl⟩
open Go.RowKit
section
variable {E:Env} {P:Program} {w:World}
theorem ZhM {fn : Func} {c : Code} (hf : FnOk P f fn c) (hG : GOk E (wG w)) (h : CallOk E P f args hNil r hNil) {vals : Array Value} (hv : Uh (wS w) args vals.toList) :
  Calls P f vals w fun e w'=>∃ v,e= .returned v∧(∃ g',V g' r v)∧GrownB w w'∧∀ k,k<w.heap.size→w'.heap[k]? = w.heap[k]? :=by
 have hu:=h (wG w) w vals (Zlq w) hG ⟨hv.1,fun i h1 h2=> .pure _ _ (hv.2 i h1 h2)⟩
 rw [Z2 hf] at hu
 exact Calls.mono hu fun e w' ⟨v,e1,g',hp,_,k⟩=>⟨v,e1,⟨g',hp⟩,ZcN k,fun i hi=>k.heap i hi (VW _ i)⟩
end
section
variable {P:Program} {H:Type} {enc:TypeId×Value→H} {w:World} {base:Nat} {spare:Nat→Bool} {held:Bool}
end
