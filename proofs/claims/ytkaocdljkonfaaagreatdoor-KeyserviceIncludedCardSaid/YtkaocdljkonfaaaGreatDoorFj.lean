/-
  A call that writes the third box of three, as a store in a drawn region; the heads of a log (ledger). Readers and answers of a key service: what is ac
-/
import Derived.Test.YtkaocdljkonfaaaGreatDoorFi
import Derived.LaidByTextLater
namespace Go.Vm
variable {p r:PV} {A B X Y:Box} {es nt:Nat} {lv:List Nat} {f:FuncId} {args:List PV} {g:Gh} {H':Heap} {D el:List (List PV)}
section
variable {E:Env} {P:Program}
theorem Zk3:∀ {m:List Nat} {A B X:Box} {ext:List Box},2∉m→∃ A' B' ext',Zdd m (A::B::X::ext)=A'::B'::X::ext'∧(A'=A∨A'= .dead)∧(B'=B∨B'= .dead)
 | [],A,B,X,ext,_=>⟨A,B,ext,rfl,.inl rfl,.inl rfl⟩
 | 0 :: m, A, B, X, ext, h => by
   obtain ⟨A',B',ext',e,h1,h2⟩:=Zk3 (m:=m) (A:= .dead) (B:=B) (X:=X) (ext:=ext) (fun x=>h (by simp [x]))
   exact ⟨A',B',ext',e,.inr (h1.elim id id),h2⟩
 | 1 :: m, A, B, X, ext, h => by
   obtain ⟨A',B',ext',e,h1,h2⟩:=Zk3 (m:=m) (A:=A) (B:= .dead) (X:=X) (ext:=ext) (fun x=>h (by simp [x]))
   exact ⟨A',B',ext',e,h1,.inr (h2.elim id id)⟩
 |2::m,A,B,X,ext,h=>absurd (by simp) h
 | (k + 3) :: m, A, B, X, ext, h => by
   obtain ⟨A',B',ext',e,h1,h2⟩:=Zk3 (m:=m) (A:=A) (B:=B) (X:=X) (ext:=ext.set k .dead) (fun x=>h (by simp [x]))
   exact ⟨A',B',ext',e,h1,h2⟩
theorem Zez {k:FuncId} {al:List PV} (h:∀ A B,YA 3 A=true→YA 3 B=true→CallOk E P k al ⟨[A,B,X],0,lv,nt⟩ p ⟨[A,B,Y],0,lv,nt⟩) (hu:ZH 3 al=true) (hX:YA 3 X=true) (hd:X≠ .dead)
 (hA:YA 3 A=true) (hB:YA 3 B=true) (ext:List Box):ZiZ E P k al ⟨A::B::X::ext,0,lv,nt⟩ p 2 Y:=by
 refine ⟨by simpa using hd,fun m hm=>?_⟩
 obtain ⟨A',B',ext',e,h1,h2⟩:=Zk3 (A:=A) (B:=B) (X:=X) (ext:=ext) hm
 have hA':YA 3 A'=true:=h1.elim (fun e=>e ▸ hA) (fun e=>e ▸ rfl)
 have hB':YA 3 B'=true:=h2.elim (fun e=>e ▸ hB) (fun e=>e ▸ rfl)
 have hc:=(h A' B' hA' hB').ext (ext:=ext') rfl hu (by simp [hA',hB',hX]) (Nat.zero_le _)
 have e1:ZU m ⟨A::B::X::ext,0,lv,nt⟩=⟨[A',B',X]++ext',0,lv,nt⟩:=by
  simp only [ZU,e];rfl
 have e2:Yr (ZU m ⟨A::B::X::ext,0,lv,nt⟩) 2 Y=⟨[A',B',Y]++ext',0,lv,nt⟩:=by
  rw [e1];rfl
 rw [e2,e1]
 exact hc
def ZvF (A B Y:Box) (lv:List Nat) (nt:Nat) (p:PV) (r:PV) (H':Heap):Prop:=r=p∧∃ ext,H'=⟨A::B::Y::ext,0,lv,nt⟩
theorem ZcS {lv' : List Nat} {nt' : Nat} (h : ∃ r H', CallOk E P f args ⟨[A, B, X], 0, lv, nt⟩ r H' ∧ ZvF A B Y lv' nt' p r H') (hp : under 3 p = true) (hA : YA 3 A = true) (hB : YA 3 B = true) (hY : YA 3 Y = true) :
  CallOk E P f args ⟨[A,B,X],0,lv,nt⟩ p ⟨[A,B,Y],0,lv',nt'⟩:=by
 obtain ⟨r,H',h1,rfl,ext,rfl⟩:=h
 exact h1.shed (by simp) (Nat.zero_le _) hp (by simp [hA,hB,hY])
end
def WC (nm:List UInt8):Tm:= .mk 2 nm 5 true []
def Wt:List UInt8:=[104,97,115,104]
def YJ:List UInt8:=[112,97,105,114]
def Zaf:List UInt8:=[108,101,97,102]
def Zah:List UInt8:=[110,111,100,101]
def XC (t:Tm):Tm:= .mk 3 Wt 0 true [.mk 3 YJ 0 true [WC Zaf,t]]
def YQ (a b:Tm):Tm:= .mk 3 Wt 0 true [.mk 3 YJ 0 true [WC Zah,.mk 3 YJ 0 true [a,b]]]
def Zo (n:Nat):Nat:=if n≤2 then 1 else if n≤4 then 2 else if n≤8 then 4 else if n≤16 then 8 else 16
def YU (p:List Tm×Bool):Tm×List Tm×Bool:=match p.1 with
 | []=>(.zero,[],true)
 |t::r=>(t,r,p.2)
def Vc:Nat→Nat→Nat→Tm→List Tm×Bool→Tm×List Tm×Bool
 |0,_,_,_,p=>(.zero,p)
 | m + 1, n, i, t, p => if n = 1 then (XC t, p) else if i < Zo n then (YQ (Vc m (Zo n) i t p).1 (YU (Vc m (Zo n) i t p).2).1, (YU (Vc m (Zo n) i t p).2).2)
   else (YQ (YU (Vc m (n-Zo n) (i-Zo n) t p).2).1 (Vc m (n-Zo n) (i-Zo n) t p).1,(YU (Vc m (n-Zo n) (i-Zo n) t p).2).2)
theorem WY (n:Nat):1≤Zo n:=by unfold Zo;(repeat' split)<;>omega
theorem Ur {n:Nat} (h:2≤n):Zo n<n:=by unfold Zo;(repeat' split)<;>omega
def Vh (h:Tm) (n i:Int) (t:Tm) (l:List Tm):Bool:=
 if n<1∨32<n∨i<0∨n≤i∨32<l.length then false else
  !(Vc 32 n.toNat i.toNat t (l,false)).2.2&&(Vc 32 n.toNat i.toNat t (l,false)).2.1.isEmpty&&decide ((Vc 32 n.toNat i.toNat t (l,false)).1.cmp h=0)
mutual
theorem Zge:∀ t:Tm,t.cl.nodes=t.nodes
 | .mk k nm s b kids=>by simp only [Tm.cl,Tm.nodes,Vj,Zd3 kids]
theorem Zd3:∀ l:List Tm,XB (clL l)=XB l
 | []=>rfl
 |t::r=>by simp only [clL,XB,Zge t,Zd3 r]
end
mutual
theorem Zf2:∀ t:Tm,t.cl.depth=t.depth
 | .mk k nm s b kids=>by simp only [Tm.cl,Tm.depth,Zdl kids]
theorem Zdl:∀ l:List Tm,Y7 (clL l)=Y7 l
 | []=>rfl
 |t::r=>by simp only [clL,Y7,Zf2 t,Zdl r]
end
theorem Q7 (t:Tm):t.cl.valid=t.valid:=by simp only [Tm.valid,Zge,YK,Zf2]
theorem YL {a b:Tm} (h:a.cl=b.cl):a.valid=b.valid:=by rw [← Q7 a,h,Q7 b]
def ZhV:List UInt8:=[115,105,103,110]
def W4:List UInt8:=[108,101,100,103,101,114]
def Qi (n:Int) (h:Tm):Tm:= .mk 3 YJ 0 true [Qq n,h]
def Qa (n:Int) (h:Tm):Tm:= .mk 3 YJ 0 true [WC W4,Qi n h]
def Wm (h:Tm) (n:Int) (key:Tm):Tm:= .mk 3 ZhV 0 true [Qa n h,key]
def Yw (c:Tm→Tm) (h:Tm) (n:Int) (key:Tm):Tm×Int:=
 if h.valid≠0 then (.zero,h.valid) else if key.valid≠0 then (.zero,key.valid) else if n<0∨32<n then (.zero,7) else
  if (Wm (c h) n (c key)).valid≠0 then (.zero,3) else (Wm (c h) n (c key),0)
theorem Zfg (h:Tm) (n:Int) (key:Tm):(Wm h.cl n key.cl).cl=(Wm h n key).cl:=by simp only [Wm,Qa,Qi,Tm.cl,clL,Zbh]
theorem ZhG (h:Tm) (n:Int) (key:Tm):(Yw Tm.cl h n key).2=(Yw id h n key).2∧(Yw Tm.cl h n key).1.cl=(Yw id h n key).1.cl:=by
 have e:=Zfg h n key
 have v:=YL e
 unfold Yw
 simp only [id,v]
 split; · exact ⟨rfl,rfl⟩
 split; · exact ⟨rfl,rfl⟩
 split; · exact ⟨rfl,rfl⟩
 split; · exact ⟨rfl,rfl⟩
 exact ⟨rfl,e⟩
def Y5:Nat→Nat→Nat→Tm→List Tm→Tm×List Tm×Bool
 |0,_,_,_,l=>(.zero,l,false)
 | f + 1, n, i, t, l => if n = 1 then (XC t, l, true) else
   let r:=if i<Zo n then Y5 f (Zo n) i t l else Y5 f (n-Zo n) (i-Zo n) t l
   match r.2.1 with
   | []=>(r.1,[],false)
   | a::l'=>if r.2.2=false then (r.1,a::l',false) else if i<Zo n then (YQ r.1 a,l',true) else (YQ a r.1,l',true)
def Zh2 (h:Tm) (n i:Int) (t:Tm) (l:List Tm):Bool:=
 if n<1∨32<n∨i<0∨n≤i∨32<l.length then false else
  (Y5 32 n.toNat i.toNat t l).2.2&&(Y5 32 n.toNat i.toNat t l).2.1.isEmpty&&decide ((Y5 32 n.toNat i.toNat t l).1.cmp h=0)
theorem Zdg {p:List Tm×Bool} (h:p.2=true):(YU p).2.2=true:=by
 unfold YU;split
 · rfl
 · exact h
theorem ZaS:∀ (f n i:Nat) (t:Tm) (l:List Tm),n≤f→1≤n→(if (Y5 f n i t l).2.2=true then Vc f n i t (l,false)=((Y5 f n i t l).1,(Y5 f n i t l).2.1,false) else (Vc f n i t (l,false)).2.2=true)
 |0,n,i,t,l,h,h1=>by omega
 | f + 1, n, i, t, l, h, h1 => by
   simp only [Y5,Vc]
   by_cases hn:n=1
   · simp only [if_pos hn,if_true]
   · have hhl := Ur (n := n) (by omega)
     have hhp:=WY n
     simp only [if_neg hn]
     by_cases hi:i<Zo n
     · simp only [if_pos hi]
       have ih:=ZaS f (Zo n) i t l (by omega) hhp
       generalize Y5 f (Zo n) i t l=R at ih ⊢
       generalize Vc f (Zo n) i t (l,false)=Q at ih ⊢
       obtain ⟨x,r,ok⟩:=R
       cases ok with
       | false =>
         rw [if_neg (by simp)] at ih
         cases r<;>simp [Zdg ih]
       | true =>
         simp only [if_true] at ih
         subst ih
         cases r<;>simp [YU]
     · simp only [if_neg hi]
       have ih:=ZaS f (n-Zo n) (i-Zo n) t l (by omega) (by omega)
       generalize Y5 f (n-Zo n) (i-Zo n) t l=R at ih ⊢
       generalize Vc f (n-Zo n) (i-Zo n) t (l,false)=Q at ih ⊢
       obtain ⟨x,r,ok⟩:=R
       cases ok with
       | false =>
         rw [if_neg (by simp)] at ih
         cases r<;>simp [Zdg ih]
       | true =>
         simp only [if_true] at ih
         subst ih
         cases r<;>simp [YU]
theorem Zg4 (h:Tm) (n i:Int) (t:Tm) (l:List Tm):Vh h n i t l=Zh2 h n i t l:=by
 unfold Vh Zh2
 split
 · rfl
 · have ih := ZaS 32 n.toNat i.toNat t l (by omega) (by omega)
   generalize Y5 32 n.toNat i.toNat t l=R at ih ⊢
   generalize Vc 32 n.toNat i.toNat t (l,false)=Q at ih ⊢
   obtain ⟨x,r,ok⟩:=R
   cases ok with
   | false =>
     rw [if_neg (by simp)] at ih
     simp [ih]
   | true =>
     simp only [if_true] at ih
     subst ih
     simp
def WQ:Nat→Nat→Nat→Bool→Tm→List Tm×Bool→(Tm×Tm)×List Tm×Bool
 |0,_,_,_,_,p=>((.zero,.zero),p)
 | f + 1, n, m, w, old, p => if n = m then (if w = true then ((old, old), p) else (((YU p).1, (YU p).1), (YU p).2)) else
   if n≤Zo m then (((WQ f n (Zo m) w old p).1.1,YQ (WQ f n (Zo m) w old p).1.2 (YU (WQ f n (Zo m) w old p).2).1),(YU (WQ f n (Zo m) w old p).2).2)
   else ((YQ (YU (WQ f (n-Zo m) (m-Zo m) false old p).2).1 (WQ f (n-Zo m) (m-Zo m) false old p).1.1,YQ (YU (WQ f (n-Zo m) (m-Zo m) false old p).2).1 (WQ f (n-Zo m) (m-Zo m) false old p).1.2),(YU (WQ f (n-Zo m) (m-Zo m) false old p).2).2)
def Zaq (old:Tm) (n:Int) (h:Tm) (m:Int) (l:List Tm):Bool:=
 if m<1∨32<m∨n<1∨m<n∨32<l.length then false else
  !(WQ 32 n.toNat m.toNat true old (l,false)).2.2&&(WQ 32 n.toNat m.toNat true old (l,false)).2.1.isEmpty&&decide ((WQ 32 n.toNat m.toNat true old (l,false)).1.1.cmp old=0)&&decide ((WQ 32 n.toNat m.toNat true old (l,false)).1.2.cmp h=0)
structure Rd where
 svc:Tm
 size:Int
 head:Tm
 signed:Tm
def Rd.cells (c:Rd):List PV:=c.svc.cells++(.int .i64 c.size::(c.head.cells++c.signed.cells))
def Rd.zero:Rd:=⟨.zero,0,.zero,.zero⟩
structure An where
 name:List UInt8
 entry:Tm
 idx:Int
 size:Int
 head:Tm
 signed:Tm
 ib:Bool
 incl:List Tm
 eb:Bool
 ext:List Tm
def An.cells (a:An):List PV:= .str a.name::(a.entry.cells++(.int .i64 a.idx:: .int .i64 a.size::(a.head.cells++(a.signed.cells++ [slV a.ib 4 (Za a.incl),slV a.eb 4 (Za a.ext)]))))
def Zcz:Tm→Bool
 | .mk k nm s _ kids=>k==0&&nm== []&&s==0&&kids.isEmpty
def Zal:Tm→Tm
 | .mk _ _ _ _ (x::_)=>x
 |_=> .zero
def pkB:Tm→Bool
 | .mk k nm _ _ _=>k==3&&nm== [112,107]
def ZlT (t:Tm):Bool:=pkB t&&(decide (t.valid=0∧t.th=0)&&t.fre)&&t.ground
theorem Zl7 {t:Tm} (hk:pkB t=true) (ht:t.th=0):∃ s b x,t= .mk 3 [112,107] s b [x]:=by
 obtain ⟨k,nm,s,b,kids⟩:=t
 simp only [pkB,Bool.and_eq_true,beq_iff_eq] at hk
 obtain ⟨rfl,rfl⟩:=hk
 simp only [Tm.th] at ht
 rw [if_neg (by decide),if_neg (by decide)] at ht
 split at ht
 · cases ht
 · rename_i h
   have e1:(Qd [112,107]).least=1:=by decide
   have e2:(Qd [112,107]).most=1:=by decide
   rw [e1,e2] at h
   match kids,h with
   | [],h=>exfalso;simp at h
   | [x],_=>exact ⟨s,b,x,rfl⟩
   | x::y::r,h=>exfalso;simp at h;omega
def ZgQ (f:Tm→Tm) (c:Rd):Bool:=
 ZlT c.svc&&if c.size=0 then Zcz c.head&&Zcz c.signed else if c.size<1∨32<c.size then false else
  decide ((Yw f c.head c.size (Zal c.svc)).2=0)&&decide ((Yw f c.head c.size (Zal c.svc)).1.cmp c.signed=0)
def Zj (name:List UInt8) (key:Tm) (i t:Int):Cred:=⟨name,key,false,true,[],true,[],i,0,t⟩
def Zhk (c:Rd) (a:An):Rd×Tm×Int:=
 if ZgQ Tm.cl c=false then (.zero,.zero,1) else
 if (Zf a.entry).2≠0 then (.zero,.zero,2) else
 if ((Zj a.name (Zf a.entry).1.key a.idx 9999).issue (Zal c.svc)).2≠0∨((Zj a.name (Zf a.entry).1.key a.idx 9999).issue (Zal c.svc)).1.cmp a.entry≠0 then (.zero,.zero,2) else
 if a.size<c.size then (.zero,.zero,9) else
 if (Yw Tm.cl a.head a.size (Zal c.svc)).2≠0∨(Yw Tm.cl a.head a.size (Zal c.svc)).1.cmp a.signed≠0∨Vh a.head a.size a.idx a.entry a.incl=false∨(0<c.size∧Zaq c.head c.size a.head a.size a.ext=false) then (.zero,.zero,18) else
 (⟨c.svc.cl,a.size,a.head.cl,a.signed.cl⟩,(Zf a.entry).1.key.cl,0)
section
variable {E:Env} {P:Program}
def hDead:Heap:=⟨[.dead],0,[],0⟩
theorem VW {id:Nat} (h:hDead.liveAt id):False:=by
 obtain ⟨b,hb,ha⟩:=h
 simp only [hDead] at hb
 match id,hb with
 |0,hb=>simp at hb;subst hb;exact ha
 |n+1,hb=>simp at hb
theorem Zb3 {b:Nat}:Shut g hDead b:=⟨fun _ _ h=>(VW h).elim,fun t lo hi h=>by simp [hDead] at h⟩
theorem CallOk.unkill (h:CallOk E P f args hDead r H'):CallOk E P f args hNil r H':=by
 intro g w vals hi hg hv
 have hi2:Inv g hDead w:={
  st:=hi.st
  bx:=fun id es el e=>by
   match id,e with
   | 0,e=>simp [hDead] at e
   | n+1,e=>simp [hDead] at e
  mp:=fun id es e=>by
   match id,e with
   | 0,e=>simp [hDead] at e
   | n+1,e=>simp [hDead] at e
  sp:=fun id T cs e=>by
   match id,e with
   | 0,e=>simp [hDead] at e
   | n+1,e=>simp [hDead] at e
  inj:=fun i j b e=>(VW e).elim
  sd:=fun id e=>hi.sd id (by simp [hNil])
  td:=hi.td
  tk:=fun t b lo hi' e=>by simp [hDead] at e
  tinj:=fun t t' b lo hi' lo' hi2 e=>by simp [hDead] at e
  nd:=List.nodup_nil
  lt:=fun t e=>by simp [hDead] at e
  sz:=hi.sz
  ro:=Nat.zero_le _
  rm:=fun id b c T m e=>(VW e).elim}
 refine UponCall.mono (fun v w' ⟨g',hp,hi',k⟩=>?_) (h g w vals hi2 hg hv)
 exact ⟨g',hp,hi',{
  le:=k.le
  heap:=fun b hb _=>k.heap b hb Zb3
  store:=fun b hb _=>k.store b hb Zb3
  size:=k.size
  new:=fun id b e1 e2=>(k.new id b e1 e2).imp (fun x=>x) fun ⟨_,_,a,_⟩=>(VW a).elim
  tnew:=fun t b lo hi e1 e2=>(k.tnew t b lo hi e1 e2).imp (fun x=>x) fun ⟨_,_,_,a,_⟩=>by simp [hDead] at a
  ro:=k.ro
  bxl:=Nat.zero_le _
  bx:=fun id e=>absurd e (Nat.not_lt_zero _)
  nt:=k.nt
  lv:=k.lv
  al:=fun id b e1 e2=>by
   have:=hi.sd id (by simp [hNil])
   rw [this] at e1
   cases e1
  ns:=fun id e=>absurd e (Nat.not_lt_zero _)
  so:=k.so}⟩
theorem XJ {H:Heap} {id:Nat} (hb:H.bx[id]? = some (.cells es (el++D))) {j:Nat}:({H with bx:=H.bx.set id (.cells es el)}:Heap).liveAt j↔H.liveAt j:=by
 have hlt:=ZN hb
 simp only [Heap.liveAt]
 by_cases e:id=j
 · subst e
   rw [List.getElem?_set_self hlt,hb]
   exact ⟨fun _=>⟨_,rfl,trivial⟩,fun _=>⟨_,rfl,trivial⟩⟩
 · rw [List.getElem?_set_ne e]
theorem ZhB {H:Heap} {w:World} (hi:Inv g H w) {id:Nat} (hb:H.bx[id]? = some (.cells es (el++D))):Inv g {H with bx:=H.bx.set id (.cells es el)} w where
 st:=hi.st
 bx:=fun j es' el' e=>by
  have hlt:=ZN hb
  by_cases e2:id=j
  · subst e2
    simp only [List.getElem?_set_self hlt,Option.some.injEq,Box.cells.injEq] at e
    obtain ⟨rfl,rfl⟩:=e
    obtain ⟨b,c,T,h1,h2,h3,h4,h5,h6⟩:=hi.bx _ _ _ hb
    have hl:(el++D).length=el.length+D.length:=List.length_append
    have hm:=Nat.mul_le_mul_right es (show el.length≤(el++D).length by omega)
    refine ⟨b,c,T,h1,h2,fun i hi'=>?_,by omega,fun i hi' j hj=>?_,h6⟩
    · have := h3 i (by omega)
      rwa [List.getElem_append_left hi'] at this
    · have := h5 i (by omega) j (by rw [List.getElem_append_left hi']; exact hj)
      simpa only [List.getElem_append_left hi'] using this
  · simp only [List.getElem?_set_ne e2] at e
    exact hi.bx j es' el' e
 mp:=fun j es' e=>by
  have hlt:=ZN hb
  by_cases e2:id=j
  · subst e2
    simp [List.getElem?_set_self hlt] at e
  · simp only [List.getElem?_set_ne e2] at e
    exact hi.mp j es' e
 sp:=fun j T cs e=>by
  have hlt:=ZN hb
  by_cases e2:id=j
  · subst e2
    simp [List.getElem?_set_self hlt] at e
  · simp only [List.getElem?_set_ne e2] at e
    exact hi.sp j T cs e
 inj:=fun i j b e1 e2=>hi.inj i j b ((XJ hb).1 e1) ((XJ hb).1 e2)
 sd:=fun j e=>hi.sd j (by simpa using e)
 td:=hi.td
 tk:=fun t b lo hi' e1 e2=>let ⟨a,c,d⟩:=hi.tk t b lo hi' e1 e2;⟨a,c,fun j h=>d j ((XJ hb).1 h)⟩
 tinj:=hi.tinj
 nd:=hi.nd
 lt:=hi.lt
 sz:=hi.sz
 ro:=by simpa using hi.ro
 rm:=fun j b c T m e=>hi.rm j b c T m ((XJ hb).1 e)
theorem CallOk.trunc {H:Heap} {id:Nat} (hb:H.bx[id]? = some (.cells es (el++D))) (hro:H.ro=0) (h:CallOk E P f args {H with bx:=H.bx.set id (.cells es el)} r H'):CallOk E P f args H r H':=by
 intro g w vals hi hg hv
 have sh:∀ {b},Shut g H b→Shut g {H with bx:=H.bx.set id (.cells es el)} b:=fun {b} hs=>⟨fun j e1 e2=>hs.1 j e1 ((XJ hb).1 e2),hs.2⟩
 refine UponCall.mono (fun v w' ⟨g',hp,hi',k⟩=>?_) (h g w vals (ZhB hi hb) hg hv)
 exact ⟨g',hp,hi',{
  le:=k.le
  heap:=fun b hb' hs=>k.heap b hb' (sh hs)
  store:=fun b hb' hs=>k.store b hb' (sh hs)
  size:=k.size
  new:=fun j b e1 e2=>(k.new j b e1 e2).imp (fun x=>x) fun ⟨i,a,c,d⟩=>⟨i,a,(XJ hb).1 c,d⟩
  tnew:=k.tnew
  ro:=k.ro
  bxl:=by simpa using k.bxl
  bx:=fun j e=>absurd e (by rw [hro];exact Nat.not_lt_zero _)
  nt:=k.nt
  lv:=k.lv
  al:=fun j b e1 e2=>(XJ hb).1 (k.al j b e1 e2)
  ns:=fun j e1 e2=>k.ns j (by simpa using e1) e2
  so:=k.so}⟩
end
open Go.RowKit
section
variable {E:Env} {P:Program} {w:World}
theorem Zau {fn : Func} {c : Code} (hf : FnOk P f fn c) (hG : GOk E (wG w)) (h : CallOk E P f args hNil r hNil) {vals : Array Value} (hv : W5 (wS w) args vals.toList) :
  Calls P f vals w fun e w'=>∃ v,e= .returned v∧(∃ g',V g' r v)∧GrownB w w'∧∀ k,k<w.heap.size→w'.heap[k]? = w.heap[k]? :=by
 have hu:=h (wG w) w vals (ZlM w) hG ⟨hv.1,fun i h1 h2=> .pure _ _ (hv.2 i h1 h2)⟩
 rw [ZY hf] at hu
 exact Calls.mono hu fun e w' ⟨v,e1,g',hp,_,k⟩=>⟨v,e1,⟨g',hp⟩,ZcQ k,fun i hi=>k.heap i hi (VP _ i)⟩
end
section
variable {P:Program} {H:Type} {enc:TypeId×Value→H} {w:World} {base:Nat} {spare:Nat→Bool} {held:Bool}
end
end Go.Vm
