/-
  Readers and answers of a key service: what is accepted, by the program and by the document's answer. A call in a drawn region whose result lies in roo
-/
import Derived.Test.YtkaocdljkonfaaaGreatDoorQFi
import Derived.Laws.IdiomCopy
import Derived.LaidByTextLater
namespace Go.Vm
variable {b es:Nat} {r:PV} {f:FuncId} {args:List PV} {T:TypeId} {D el:List (List PV)} {H':Heap}
mutual
theorem ZeP:∀ t:Tm,t.cl.nodes=t.nodes
 | .mk k nm s b kids=>by simp only [Tm.cl,Tm.nodes,W9,Zch kids]
theorem Zch:∀ l:List Tm,Xt (clL l)=Xt l
 | []=>rfl
 |t::r=>by simp only [clL,Xt,ZeP t,Zch r]
end
mutual
theorem Zex:∀ t:Tm,t.cl.depth=t.depth
 | .mk k nm s b kids=>by simp only [Tm.cl,Tm.depth,Zdo kids]
theorem Zdo:∀ l:List Tm,YZ (clL l)=YZ l
 | []=>rfl
 |t::r=>by simp only [clL,YZ,Zex t,Zdo r]
end
theorem QB (t:Tm):t.cl.valid=t.valid:=by simp only [Tm.valid,ZeP,Xq,Zex]
theorem VY {a b:Tm} (h:a.cl=b.cl):a.valid=b.valid:=by rw [← QB a,h,QB b]
def Zhx:List UInt8:=[115,105,103,110]
def W6:List UInt8:=[108,101,100,103,101,114]
def U4 (n:Int) (h:Tm):Tm:= .mk 3 YC 0 true [Qn n,h]
def U5 (n:Int) (h:Tm):Tm:= .mk 3 YC 0 true [Wv W6,U4 n h]
def Wb (h:Tm) (n:Int) (key:Tm):Tm:= .mk 3 Zhx 0 true [U5 n h,key]
def YI (c:Tm→Tm) (h:Tm) (n:Int) (key:Tm):Tm×Int:=
 if h.valid≠0 then (.zero,h.valid) else if key.valid≠0 then (.zero,key.valid) else if n<0∨32<n then (.zero,7) else
  if (Wb (c h) n (c key)).valid≠0 then (.zero,3) else (Wb (c h) n (c key),0)
theorem ZbC (h:Tm) (n:Int) (key:Tm):(Wb h.cl n key.cl).cl=(Wb h n key).cl:=by simp only [Wb,U5,U4,Tm.cl,clL,ZbR]
theorem Zgo (h:Tm) (n:Int) (key:Tm):(YI Tm.cl h n key).2=(YI id h n key).2∧(YI Tm.cl h n key).1.cl=(YI id h n key).1.cl:=by
 have e:=ZbC h n key
 have v:=VY e
 unfold YI
 simp only [id,v]
 split; · exact ⟨rfl,rfl⟩
 split; · exact ⟨rfl,rfl⟩
 split; · exact ⟨rfl,rfl⟩
 split; · exact ⟨rfl,rfl⟩
 exact ⟨rfl,e⟩
structure Rd where
 svc:Tm
 size:Int
 head:Tm
 signed:Tm
def Rd.cells (c:Rd):List PV:=c.svc.cells++(.int .i64 c.size::(c.head.cells++c.signed.cells))
def Rd.zero:Rd:=⟨.zero,0,.zero,.zero⟩
structure An where
 name:List UInt8
 entry:Tm
 idx:Int
 size:Int
 head:Tm
 signed:Tm
 ib:Bool
 incl:List Tm
 eb:Bool
 ext:List Tm
def An.cells (a:An):List PV:= .str a.name::(a.entry.cells++(.int .i64 a.idx:: .int .i64 a.size::(a.head.cells++(a.signed.cells++ [slV a.ib 4 (Za a.incl),slV a.eb 4 (Za a.ext)]))))
def ZA (name:List UInt8) (key:Tm) (i t:Int):Cred:=⟨name,key,false,true,[],true,[],i,0,t⟩
section
variable {E:Env} {P:Program} {own:Tmp→Bool} {n:Nat} {K:TM→Heap→Prop} {tm:TM}
theorem dCt {ops : Array Oper} {n0 i : Nat} {r : List Oper} {d : Nat} {ty : TypeId} {pos : String} {aft : Array Edge} {grd : Option (Nat × Bool)} {p : PV} {f : Operand} {args : Array Operand} {ats : Array TypeId} {k : FuncId} {caps al : List PV} {bx : List Box} {ro nt nt' : Nat} {lv lv' : List Nat}
  (hw:Ze ops.toList tm ⟨some d,.call {callee:= .value f,args:=args,argTypes:=ats},ty,pos,aft,grd⟩=some true) (hn:Nat.blt d n=true) (hf:Zg E tm f= .fn k caps)
  (ha:args.toList.map (Zg E tm)++caps=al) (hc:Y5 E own ⟨some d,.call {callee:= .value f,args:=args,argTypes:=ats},ty,pos,aft,grd⟩= .tk) (h:CallOk E P k al ⟨bx,bx.length,lv,nt⟩ p ⟨bx,bx.length,lv',nt'⟩)
  (hr:DrwQ E P own n ops n0 (i+1) r K (ZY tm (some d) p) ⟨bx,ro,lv',nt'⟩):DrwQ E P own n ops n0 i (⟨some d,.call {callee:= .value f,args:=args,argTypes:=ats},ty,pos,aft,grd⟩::r) K tm ⟨bx,ro,lv,nt⟩:=by
 have e:Wz ⟨bx,ro,lv,nt⟩ ⟨bx,bx.length,lv',nt'⟩=⟨bx,ro,lv',nt'⟩:=by simp [Wz]
 refine .stepN (p:=p) (H1:=⟨bx,ro,lv',nt'⟩) (by simp only [X7,hn]) (.inr (.inr ⟨hc,fun j b hj=>hj⟩)) (fun ho'=>?_) hr
 have hci:=(Wt (E:=E) (own:=own) ho').trans hc
 refine ⟨by rw [hci];simp,.inr (.inl ⟨by rw [hci];exact ⟨by simp,by simp,by simp⟩,?_⟩)⟩
 have:=Hp.tk (E:=E) (P:=P) (own:=own) (ops:=ops) (n0:=n0) (cls:=Xc E own ops) (tgt:=fun _=>n0) (msk:=fun _=>[]) (i:=i) (o:=⟨some d,.call {callee:= .value f,args:=args,argTypes:=ats},ty,pos,aft,grd⟩) (tm:=tm) ⟨bx,ro,lv,nt⟩ p ⟨bx,bx.length,lv',nt'⟩ hw hci
  (.call _ _ _ _ _ _ _ rfl hf (by rw [ha];exact h)) (Nat.le_refl _)
 rw [e] at this
 exact this
end
variable {P:Program}
theorem XU (w : World) (dT sT ty elem : TypeId) (sz : Nat) (b o dLen dCap : Nat) (a : Addr) (sLen sCap : Nat) (cs : List Value)
  (hu:P.underlying dT=some (.slice elem)) (hs:(P.info? elem).map (·.size)=some sz) (hn:cs.length=Nat.min sLen dLen*sz)
  (hsrc:∀ j v,cs[j]? = some v→w.cell? (a.add j)=some v) (hc:∀ j,j<cs.length→(w.cell? ⟨b,o+j,none⟩).isSome=true) (hf:∀ j,j<cs.length→w.frozen? ⟨b,o+j,none⟩=false) (h1:∀ v∈cs,v.oneCell'=true) :
  (Builtin.copy_ #[dT,sT] ty #[.slice (some ⟨b,o,none⟩) dLen dCap,.slice (some a) sLen sCap]).run P w= .ok (goInt (Nat.min sLen dLen)) (w.setCells b o cs):=by
 have hl:=run_loadCells_list (P:=P) w a cs hsrc
 have hst:=run_storeCells_cells (P:=P) b o cs 0 w (by simpa using hc) (by simpa using hf) h1
 cases hq:P.info? elem with
 |none=>simp [hq] at hs
 | some i =>
   have hi:i.size=sz:=by simpa [hq] using hs
   rw [hn] at hl
   simp [Builtin.copy_,run_underlying hu,Builtin.lenOf,Builtin.firstCells,sizeOf,typeInfo,hq,hi,hl,hst]
section
variable {g:Gh} {H:Heap} {w:World}
theorem VU (b:Nat):∀ (vs:List Value) (o:Nat) (w:World),(w.setCells b o vs).heap.size=w.heap.size
 | [],_,_=>rfl
 |v::r,o,w=>by rw [World.setCells,VU b r];simp [World.setCell]
theorem Wi {c : Array Value} {fr : Nat × Nat} (h : w.heap[b]? = some (.cells c T fr)) (vs : List Value) (o : Nat) (hsz : o + vs.length ≤ c.size) :
  ∃ c',(w.setCells b o vs).heap[b]? = some (.cells c' T fr)∧c'.size=c.size∧(∀ j (hj:j<vs.length),c'[o+j]? = some vs[j])∧(∀ j,j<o∨o+vs.length≤j→c'[j]? = c[j]?)∧
   (∀ k,k≠b→(w.setCells b o vs).heap[k]? = w.heap[k]?)∧(w.setCells b o vs).heap.size=w.heap.size∧((w.setCells b o vs).os=w.os∧(w.setCells b o vs).output=w.output)∧∀ a,(w.setCells b o vs).frozen? a=w.frozen? a:=by
 have hk:=World.keptBut_setCells b (may:=fun p=>∃ j,j<vs.length∧p= .cell b (o+j)) vs o w (fun j hj=>⟨j,hj,rfl⟩)
 have hb:b<w.heap.size:=by
  rcases Nat.lt_or_ge b w.heap.size with h'|h'
  · exact h'
  · simp [Array.getElem?_eq_none h'] at h
 have hs:=VU b vs o w
 have hcell:∀ j,w.cell? ⟨b,j,none⟩=c[j]? :=fun j=>by simp [World.cell?,h]
 have hin:=World.cell?_setCells_in b vs o w (fun j hj=>by rw [hcell,Array.getElem?_eq_getElem (by omega)];rfl)
 have h1:=hk.2.2 b hb
 rw [h] at h1
 cases h2:(w.setCells b o vs).heap[b]? with
 |none=>rw [h2] at h1;exact absurd h1 (by simp)
 | some ob =>
   rw [h2] at h1
   cases ob with
   | cells c' T' fr' =>
     obtain ⟨rfl,rfl,h3,h4⟩:=h1
     refine ⟨c',rfl,h3,fun j hj=>?_,fun j hj=>h4 j ?_,fun k hne=>?_,hs,⟨hk.1,hk.2.1⟩,World.frozen?_setCells b vs o w⟩
     · have := hin j hj
       simpa [World.cell?,h2] using this
     · rintro ⟨i, hi, e⟩
       simp only [MemPlace.cell.injEq,true_and] at e
       omega
     · rcases Nat.lt_or_ge k w.heap.size with hlt | hge
       · have h5 := hk.2.2 k hlt
         rw [Array.getElem?_eq_getElem hlt] at h5 ⊢
         rw [Array.getElem?_eq_getElem (by omega)] at h5 ⊢
         generalize w.heap[k]=x at h5
         generalize (w.setCells b o vs).heap[k]'(by omega)=y at h5
         cases x with
         | cells cx tx fx =>
           cases y with
           | cells cy ty fy =>
             obtain ⟨rfl,rfl,h6,h7⟩:=h5
             have:cy=cx:=Array.ext_getElem? fun j=>h7 j (by rintro ⟨i,_,e⟩;simp only [MemPlace.cell.injEq] at e;exact hne e.1)
             rw [this]
           | _=>simp at h5
         | map es cl =>
           cases y with
           | map es' cl' =>
             simp only at h5
             rcases h5 with ⟨i,_,e⟩|⟨rfl,rfl⟩
             · cases e
             · rfl
           | _=>simp at h5
         | _=>cases y<;>simp_all
       · rw [Array.getElem?_eq_none hge,Array.getElem?_eq_none (by omega)]
   | _=>simp at h1
theorem ZhL {id:Nat} (hro:H.ro≤id) (w:World):Keep g H w g (ZX [id] H) w where
 le:= .refl g
 heap _ _ _:=rfl
 store _ _ _ _:=rfl
 size:=Nat.le_refl _
 new id b h h':=by rw [h] at h';cases h'
 tnew t b lo hi h h':=by rw [h] at h';cases h'
 ro:=rfl
 bxl:=by simp [ZX,Yx]
 bx i h:=by
  rw [WC,if_neg]
  rintro ⟨h1,_⟩
  simp only [List.mem_singleton] at h1
  omega
 nt:=Nat.le_refl _
 lv t h:= .inl h
 al _ _ _ h:=(YP h).1
 ns _ _ h:=h
 so:= .rfls
theorem ZfP (hi:Inv g H w) {w':World} {id:Nat} (hro:H.ro≤id) {F:Array Value} (hh:w'.heap=(w.alloc (.cells F T)).heap) (hso:SameOut g w w')
 (hw:∀ i (hi:i<el.length),(el[i]).length=es) (hle:el.length*es≤F.size)
  (hv:∀ i (hi:i<el.length) j (hj:j<(el[i]).length),∃ v,F[i*es+j]? = some v∧V g ((el[i])[j]) v) (K:Nat) (hK:K≤F.size) :
  Inv (g.link H.bx.length w.heap.size K) {H with bx:=H.bx.set id .dead++ [.cells es el]} w'∧Keep g H w (g.link H.bx.length w.heap.size K) {H with bx:=H.bx.set id .dead++ [.cells es el]} w':=by
 have hl:(ZX [id] H).bx.length=H.bx.length:=by simp [ZX,Yx]
 obtain ⟨i1,k1⟩:=Ut (Zew hi [id]) (.cells F T) (.cells es el) rfl (fun es0 el0 h0=>by cases h0;exact ⟨F,T,rfl,hw,hle,hv⟩) (fun es h=>by cases h) K (fun c T m h=>by cases h;exact hK)
 rw [hl] at i1 k1
 have k2:Keep (g.link H.bx.length w.heap.size K) ((ZX [id] H).push (.cells es el)) (w.alloc (.cells F T)) (g.link H.bx.length w.heap.size K) ((ZX [id] H).push (.cells es el)) w':= .same hh hso
 have k3:=(ZhL hro w).then hi k1
 exact ⟨i1.same hh,KeepN.then k3 hi k2⟩
end
section
variable {E:Env} {P:Program}
def hDead:Heap:=⟨[.dead],0,[],0⟩
theorem VB {id:Nat} (h:hDead.liveAt id):False:=by
 obtain ⟨b,hb,ha⟩:=h
 simp only [hDead] at hb
 match id,hb with
 |0,hb=>simp at hb;subst hb;exact ha
 |n+1,hb=>simp at hb
theorem ZaU {g:Gh}:Shut g hDead b:=⟨fun _ _ h=>(VB h).elim,fun t lo hi h=>by simp [hDead] at h⟩
theorem CallOk.unkill (h:CallOk E P f args hDead r H'):CallOk E P f args hNil r H':=by
 intro g w vals hi hg hv
 have hi2:Inv g hDead w:={
  st:=hi.st
  bx:=fun id es el e=>by
   match id,e with
   | 0,e=>simp [hDead] at e
   | n+1,e=>simp [hDead] at e
  mp:=fun id es e=>by
   match id,e with
   | 0,e=>simp [hDead] at e
   | n+1,e=>simp [hDead] at e
  sp:=fun id T cs e=>by
   match id,e with
   | 0,e=>simp [hDead] at e
   | n+1,e=>simp [hDead] at e
  inj:=fun i j b e=>(VB e).elim
  sd:=fun id e=>hi.sd id (by simp [hNil])
  td:=hi.td
  tk:=fun t b lo hi' e=>by simp [hDead] at e
  tinj:=fun t t' b lo hi' lo' hi2 e=>by simp [hDead] at e
  nd:=List.nodup_nil
  lt:=fun t e=>by simp [hDead] at e
  sz:=hi.sz
  ro:=Nat.zero_le _
  rm:=fun id b c T m e=>(VB e).elim}
 refine UponCall.mono (fun v w' ⟨g',hp,hi',k⟩=>?_) (h g w vals hi2 hg hv)
 exact ⟨g',hp,hi',{
  le:=k.le
  heap:=fun b hb _=>k.heap b hb ZaU
  store:=fun b hb _=>k.store b hb ZaU
  size:=k.size
  new:=fun id b e1 e2=>(k.new id b e1 e2).imp (fun x=>x) fun ⟨_,_,a,_⟩=>(VB a).elim
  tnew:=fun t b lo hi e1 e2=>(k.tnew t b lo hi e1 e2).imp (fun x=>x) fun ⟨_,_,_,a,_⟩=>by simp [hDead] at a
  ro:=k.ro
  bxl:=Nat.zero_le _
  bx:=fun id e=>absurd e (Nat.not_lt_zero _)
  nt:=k.nt
  lv:=k.lv
  al:=fun id b e1 e2=>by
   have:=hi.sd id (by simp [hNil])
   rw [this] at e1
   cases e1
  ns:=fun id e=>absurd e (Nat.not_lt_zero _)
  so:=k.so}⟩
theorem Xu {H:Heap} {id:Nat} (hb:H.bx[id]? = some (.cells es (el++D))) {j:Nat}:({H with bx:=H.bx.set id (.cells es el)}:Heap).liveAt j↔H.liveAt j:=by
 have hlt:=ZS hb
 simp only [Heap.liveAt]
 by_cases e:id=j
 · subst e
   rw [List.getElem?_set_self hlt,hb]
   exact ⟨fun _=>⟨_,rfl,trivial⟩,fun _=>⟨_,rfl,trivial⟩⟩
 · rw [List.getElem?_set_ne e]
theorem Zg2 {g:Gh} {H:Heap} {w:World} (hi:Inv g H w) {id:Nat} (hb:H.bx[id]? = some (.cells es (el++D))):Inv g {H with bx:=H.bx.set id (.cells es el)} w where
 st:=hi.st
 bx:=fun j es' el' e=>by
  have hlt:=ZS hb
  by_cases e2:id=j
  · subst e2
    simp only [List.getElem?_set_self hlt,Option.some.injEq,Box.cells.injEq] at e
    obtain ⟨rfl,rfl⟩:=e
    obtain ⟨b,c,T,h1,h2,h3,h4,h5,h6⟩:=hi.bx _ _ _ hb
    have hl:(el++D).length=el.length+D.length:=List.length_append
    have hm:=Nat.mul_le_mul_right es (show el.length≤(el++D).length by omega)
    refine ⟨b,c,T,h1,h2,fun i hi'=>?_,by omega,fun i hi' j hj=>?_,h6⟩
    · have := h3 i (by omega)
      rwa [List.getElem_append_left hi'] at this
    · have := h5 i (by omega) j (by rw [List.getElem_append_left hi']; exact hj)
      simpa only [List.getElem_append_left hi'] using this
  · simp only [List.getElem?_set_ne e2] at e
    exact hi.bx j es' el' e
 mp:=fun j es' e=>by
  have hlt:=ZS hb
  by_cases e2:id=j
  · subst e2
    simp [List.getElem?_set_self hlt] at e
  · simp only [List.getElem?_set_ne e2] at e
    exact hi.mp j es' e
 sp:=fun j T cs e=>by
  have hlt:=ZS hb
  by_cases e2:id=j
  · subst e2
    simp [List.getElem?_set_self hlt] at e
  · simp only [List.getElem?_set_ne e2] at e
    exact hi.sp j T cs e
 inj:=fun i j b e1 e2=>hi.inj i j b ((Xu hb).1 e1) ((Xu hb).1 e2)
 sd:=fun j e=>hi.sd j (by simpa using e)
 td:=hi.td
 tk:=fun t b lo hi' e1 e2=>let ⟨a,c,d⟩:=hi.tk t b lo hi' e1 e2;⟨a,c,fun j h=>d j ((Xu hb).1 h)⟩
 tinj:=hi.tinj
 nd:=hi.nd
 lt:=hi.lt
 sz:=hi.sz
 ro:=by simpa using hi.ro
 rm:=fun j b c T m e=>hi.rm j b c T m ((Xu hb).1 e)
theorem CallOk.trunc {H:Heap} {id:Nat} (hb:H.bx[id]? = some (.cells es (el++D))) (hro:H.ro=0) (h:CallOk E P f args {H with bx:=H.bx.set id (.cells es el)} r H'):CallOk E P f args H r H':=by
 intro g w vals hi hg hv
 have sh:∀ {b},Shut g H b→Shut g {H with bx:=H.bx.set id (.cells es el)} b:=fun {b} hs=>⟨fun j e1 e2=>hs.1 j e1 ((Xu hb).1 e2),hs.2⟩
 refine UponCall.mono (fun v w' ⟨g',hp,hi',k⟩=>?_) (h g w vals (Zg2 hi hb) hg hv)
 exact ⟨g',hp,hi',{
  le:=k.le
  heap:=fun b hb' hs=>k.heap b hb' (sh hs)
  store:=fun b hb' hs=>k.store b hb' (sh hs)
  size:=k.size
  new:=fun j b e1 e2=>(k.new j b e1 e2).imp (fun x=>x) fun ⟨i,a,c,d⟩=>⟨i,a,(Xu hb).1 c,d⟩
  tnew:=k.tnew
  ro:=k.ro
  bxl:=by simpa using k.bxl
  bx:=fun j e=>absurd e (by rw [hro];exact Nat.not_lt_zero _)
  nt:=k.nt
  lv:=k.lv
  al:=fun j b e1 e2=>(Xu hb).1 (k.al j b e1 e2)
  ns:=fun j e1 e2=>k.ns j (by simpa using e1) e2
  so:=k.so}⟩
end
open Go.RowKit
section
variable {E:Env} {P:Program} {w:World}
theorem ZgD {fn : Func} {c : Code} (hf : FnOk P f fn c) (hG : GOk E (wG w)) (h : CallOk E P f args hNil r hNil) {vals : Array Value} (hv : Uc (wS w) args vals.toList) :
  Calls P f vals w fun e w'=>∃ v,e= .returned v∧(∃ g',V g' r v)∧GrownB w w'∧∀ k,k<w.heap.size→w'.heap[k]? = w.heap[k]? :=by
 have hu:=h (wG w) w vals (Zj2 w) hG ⟨hv.1,fun i h1 h2=> .pure _ _ (hv.2 i h1 h2)⟩
 rw [Z1 hf] at hu
 exact Calls.mono hu fun e w' ⟨v,e1,g',hp,_,k⟩=>⟨v,e1,⟨g',hp⟩,ZbV k,fun i hi=>k.heap i hi (VG _ i)⟩
end
section
variable {P:Program} {H:Type} {enc:TypeId×Value→H} {w:World} {base:Nat} {spare:Nat→Bool} {held:Bool}
end
end Go.Vm
