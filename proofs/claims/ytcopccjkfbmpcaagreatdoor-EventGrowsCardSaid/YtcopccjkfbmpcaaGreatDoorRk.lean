/-
  Moments of free terms; a trace that bytes describe is valid.
-/
import Derived.Test.YtcopccjkfbmpcaaGreatDoorRd
set_option maxHeartbeats 0
set_option maxRecDepth 100000
namespace Go.Vm
inductive BdS (id:Nat):PV→PV→Bs→List Nat→Nat→Prop
 |no (lv:List Nat) (nt:Nat):BdS id .nilp .nils [] lv nt
 |tok (s:Bs) (k:Nat) (lv:List Nat) (nt:Nat) (hs:s≠ []) (hk:k∈lv) (hn:k<nt):BdS id (.ptr id 2 0 0) (.sl (.tok k) 1 (Zw s)) s lv nt
theorem Vu (a b:Bs):Zw (a++b)=Zw a++Zw b:=by simp [Zw]
theorem Wg (a:Bs):(Zw a).length=a.length:=by simp [Zw]
end Go.Vm
namespace Go.Vm.Seat
variable {bx:List Box} {B:Box} {lv:List Nat} {nt:Nat} {p v:PV} {s x:Bs}
open Go.Proofs
theorem Qo {id:Nat} (h:id<bx.length):nth (bx.set id B) id=some B:=by rw [Zo];simp [h]
theorem Vz {id:Nat} (h:nth bx id=some B):id<bx.length:=by
 rw [Zo] at h
 by_cases e:id<bx.length
 · exact e
 · rw [List.getElem?_eq_none (by omega)] at h;cases h
theorem bCc {id : Nat} (hb : nth bx id = some (.sp 69 [p, v])) (hS : BdS id p v s lv nt) :
  CallOk E0 Tryz.prog 70 [.ptr id 2 0 0] ⟨bx,0,lv,nt⟩ (.tup []) ⟨bx.set id (.sp 69 [.ptr id 2 0 0,v]),0,lv,nt⟩:=by
 refine (z70 [.ptr id 2 0 0] ⟨bx,0,lv,nt⟩ _ _ ?_).1
 have hlt:=Vz hb
 cases hS with
 | no =>
   have:Nat.ble 0 id=true:=Nat.ble_eq_true_of_le (Nat.zero_le _)
   simp [ccZ,hb,this]
 | tok s k lv nt hs hk hn =>
   have e:bx.set id (.sp 69 [.ptr id 2 0 0,.sl (.tok k) 1 (Zw s)])=bx:=by
    rw [Zo] at hb
    refine List.ext_getElem? fun j=>?_
    rw [List.getElem?_set]
    split
    · rename_i h;subst h;rw [hb]
    · rfl
   rw [e]
   simp [ccZ,hb]
theorem ZpD {id : Nat} (hS : BdS id p v s lv nt) (hx : x ≠ []) (hl : (s ++ x).length ≤ 1000000) :
  ∃ lv',∀ bx ro,ZA E0 40 9 v (.str x) ⟨bx,ro,lv,nt⟩=some (.sl (.tok nt) 1 (Zw (s++x)),⟨bx,ro,nt::lv',nt+1⟩):=by
 have hT:Za8 E0 40=5:=by kernel_rfl
 have e1:E0.T 40=some ⟨.slice 5,1,24,.nils⟩:=by kernel_rfl
 have e2:E0.T 9=some ⟨.string,1,16,.str []⟩:=by kernel_rfl
 have e3:E0.T 5=some ⟨.int .u8,1,1,.int .u8 0⟩:=by kernel_rfl
 obtain ⟨a,r,rfl⟩:=List.exists_cons_of_ne_nil hx
 have hy:Zw (a::r)= [.int .u8 (Int.ofNat a.toNat)]::Zw r:=rfl
 rw [List.length_append] at hl
 cases hS with
 | no =>
   refine ⟨lv,fun bx ro=>?_⟩
   simp only [ZA,XF,e1,e2,e3,WE,ZlI,List.length_cons,List.length_nil,PV.cells,and_self,if_true,List.nil_append]
   rw [hy]
   simp only [Yu,List.nil_append,hT,XC]
   rw [if_pos (by rw [ZD (by have h2:=Wg r;simp only [List.length_cons,List.length_nil] at hl ⊢;omega) (by decide)];rfl)]
 | tok s k lv nt hs hk hn =>
   obtain ⟨b,q,rfl⟩:=List.exists_cons_of_ne_nil hs
   obtain ⟨l',h1, -⟩:=XB hk
   refine ⟨l',fun bx ro=>?_⟩
   simp only [ZA,XF,e1,e2,e3,WE,ZlI,List.length_cons,List.length_nil,PV.cells,and_self,if_true,Vu]
   rw [hy]
   simp only [hT,XC,h1]
   rw [if_pos (by rw [ZD (by have h2:=Wg r;have h3:=Wg (b::q);simp only [List.length_cons] at hl h3 ⊢;omega) (by decide)];rfl)]
theorem Zug {id:Nat} (hb:nth bx id=some (.sp 69 [p,v])) (hv:v= .nils∨∃ k L,v= .sl (.tok k) 1 L):Z4 E0 40 (.ptr id 2 0 1) ⟨bx,0,lv,nt⟩=some v:=by
 have e1:E0.T 40=some ⟨.slice 5,1,24,.nils⟩:=by kernel_rfl
 rcases hv with rfl|⟨k,L,rfl⟩
 · simp [Z4,e1,Heap.rd,hb,QL,X1]
 · simp [Z4,e1,Heap.rd,hb,QL,X1]
theorem ZtI {id:Nat} (hb:nth bx id=some (.sp 69 [p,v])) (x:PV):Heap.wr ⟨bx,0,lv,nt⟩ (.ptr id 2 0 1) [x]=some ⟨bx.set id (.sp 69 [p,x]),0,lv,nt⟩:=by
 simp [Heap.wr,hb,Heap.put]
theorem ZqD {id:Nat} (h:BdS id p v s lv nt):v= .nils∨∃ k L,v= .sl (.tok k) 1 L:=by
 cases h with
 |no=>exact .inl rfl
 |tok=>exact .inr ⟨_,_,rfl⟩
theorem wrS {id : Nat} (hb : nth bx id = some (.sp 69 [p, v])) (hS : BdS id p v s lv nt) (hx : x ≠ []) (hl : (s ++ x).length ≤ 1000000) :
  ∃ lv',CallOk E0 Tryz.prog 40 [.ptr id 2 0 0,.str x] ⟨bx,0,lv,nt⟩ (.tup [.int .i64 (x.length:Int),.undef]) ⟨bx.set id (.sp 69 [.ptr id 2 0 0,.sl (.tok nt) 1 (Zw (s++x))]),0,nt::lv',nt+1⟩:=by
 have hc:=bCc hb hS
 obtain ⟨lv',hap⟩:=ZpD hS hx hl
 refine ⟨lv',?_⟩
 have hlt:=Vz hb
 have hb2:nth (bx.set id (.sp 69 [.ptr id 2 0 0,v])) id=some (.sp 69 [.ptr id 2 0 0,v]):=Qo hlt
 have hld:=Zug (lv:=lv) (nt:=nt) hb2 (ZqD hS)
 have hwr:=ZtI (lv:=nt::lv') (nt:=nt+1) hb2 (.sl (.tok nt) 1 (Zw (s++x)))
 rw [List.set_set] at hwr
 clear hb2 hb hS
 refine Yg (own:=fun _=>false) tOk fe40.ok ?_
 refine Wp.seq ?_
 repeat' first|refine Jc hc ?_|refine JA ?_|(apply qLd;rfl;rfl;rfl;assumption;exact IsV.any _)|refine Jo ?_|fail
 all_goals exact RetE.ret rfl rfl rfl
theorem Zpo {id : Nat} (hS : BdS id p v s lv nt) (c : UInt8) (hl : s.length + 1 ≤ 1000000) :
  ∃ lv',∀ bx ro,ZA E0 40 40 v (.sl .full 1 [[.int .u8 (Int.ofNat c.toNat)]]) ⟨bx,ro,lv,nt⟩=some (.sl (.tok nt) 1 (Zw (s++ [c])),⟨bx,ro,nt::lv',nt+1⟩):=by
 have hT:Za8 E0 40=5:=by kernel_rfl
 have hz:ElV 1 (.sl .full 1 [[.int .u8 (Int.ofNat c.toNat)]]) [[.int .u8 (Int.ofNat c.toNat)]]:= .sl _ _ _
 have hy:Zw [c]= [[.int .u8 (Int.ofNat c.toNat)]]:=rfl
 cases hS with
 | no =>
   refine ⟨lv,fun bx ro=>?_⟩
   simp only [ZA,ZQ ZbP hz rfl (s:= .nils) rfl rfl]
   simp only [Yu,List.nil_append,hT,XC,hy]
   rfl
 | tok s k lv nt hs hk hn =>
   obtain ⟨b,q,rfl⟩:=List.exists_cons_of_ne_nil hs
   obtain ⟨l',h1, -⟩:=XB hk
   refine ⟨l',fun bx ro=>?_⟩
   simp only [ZA,ZQ ZbP hz rfl (s:= .sl (.tok k) 1 (Zw (b::q))) rfl rfl]
   simp only [hT,XC,h1,Vu,hy]
   rw [if_pos (by rw [ZD (by have h3:=Wg (b::q);simp only [List.length_cons,List.length_nil] at hl h3 ⊢;omega) (by decide)];rfl)]
theorem wrB {id : Nat} (hb : nth bx id = some (.sp 69 [p, v])) (hS : BdS id p v s lv nt) (hl : s.length + 1 ≤ 1000000) :
  ∃ lv',CallOk E0 Tryz.prog 137 [.ptr id 2 0 0,.int .u8 41] ⟨bx,0,lv,nt⟩ .undef ⟨bx.set id (.sp 69 [.ptr id 2 0 0,.sl (.tok nt) 1 (Zw (s++ [41]))]),0,nt::lv',nt+1⟩:=by
 have hc:=bCc hb hS
 obtain ⟨lv',hap⟩:=Zpo hS 41 hl
 refine ⟨lv',?_⟩
 have hlt:=Vz hb
 have hb2:nth (bx.set id (.sp 69 [.ptr id 2 0 0,v])) id=some (.sp 69 [.ptr id 2 0 0,v]):=Qo hlt
 have hld:=Zug (lv:=lv) (nt:=nt) hb2 (ZqD hS)
 have hwr:=ZtI (lv:=nt::lv') (nt:=nt+1) hb2 (.sl (.tok nt) 1 (Zw (s++ [41])))
 rw [List.set_set] at hwr
 clear hb2 hb hS
 refine Yg (own:=fun _=>false) tOk fe137.ok ?_
 refine Wp.seq ?_
 repeat' first|refine Jc hc ?_|refine Js ?_|refine JA ?_|(apply qLd;rfl;rfl;rfl;assumption;exact IsV.any _)|refine Jo ?_|fail
 all_goals exact RetE.ret rfl rfl rfl
theorem ZbU:∀ s:Bs,Vd (Zw s)=some s
 | []=>rfl
 | c :: r => by
   have:=ZbU r
   have hc:decide ((c.toNat:Int)≤255)=true:=decide_eq_true (by have:=UInt8.toNat_lt c;omega)
   simp [Zw,Vd] at this ⊢
   simp [this,hc]
theorem ZtJ {id : Nat} (hb : nth bx id = some (.sp 69 [p, v])) (hS : BdS id p v s lv nt) (hl : s.length ≤ 1000000) :
  ∃ lv',CallOk E0 Tryz.prog 42 [.ptr id 2 0 0] ⟨bx,0,lv,nt⟩ (.str s) ⟨bx,0,lv',nt⟩:=by
 cases hS with
 |no=>exact ⟨lv,(z42 [.ptr id 2 0 0] ⟨bx,0,lv,nt⟩ _ _ (by simp [ZhI,hb])).1⟩
 | tok s k lv nt hs hk hn =>
   obtain ⟨l',h1, -⟩:=XB hk
   have h2:Nat.blt 0 s.length=true:=by
    cases s with
    | nil=>exact absurd rfl hs
    | cons c r=>rfl
   have h3:Nat.ble s.length 1000000=true:=Nat.ble_eq_true_of_le hl
   exact ⟨l',(z42 [.ptr id 2 0 0] ⟨bx,0,lv,nt⟩ _ _ (by simp [ZhI,hb,h1,ZbU,h2,h3])).1⟩
end Go.Vm.Seat
namespace Go.Vm
def wdF (s:Int):Bs:=if s=0 then [97,110,121] else if s=1 then [97,103,101,110,116] else if s=2 then [110,111,110,99,101] else if s=3 then [107,101,121] else if s=4 then [100,97,116,97] else [116,97,103]
mutual
def wT:Tm→Bs
 | .mk k nm s _ kz=>if k=3 then (nm++ [40])++(wL kz true++ [41]) else (nm++ [58])++wdF s
def wL:List Tm→Bool→Bs
 | [],_=>[]
 |t::r,f=>(if f=true then [] else [44,32])++(wT t++wL r false)
end
mutual
def Tm.wr:Tm→Bool
 | .mk k nm s _ kz=>decide (nm.length≤24)&&(if k=3 then wrL kz else decide (k=2)&&(decide (0≤s)&&decide (s≤5)))
def wrL:List Tm→Bool
 | []=>true
 |t::r=>t.wr&&wrL r
end
theorem ZhQ (s:Int):(wdF s).length≤5:=by
 unfold wdF
 split; · decide
 split; · decide
 split; · decide
 split; · decide
 split<;>decide
mutual
theorem ZgG:∀ t:Tm,t.wr=true→(wT t).length+2≤40*t.size
 | .mk k nm s b kz, h => by
   rw [Tm.wr,Bool.and_eq_true,decide_eq_true_eq] at h
   rw [wT,Tm.size]
   have h1:=h.1
   split
   · rename_i hk
     rw [if_pos hk] at h
     have:=Zgo kz true h.2
     simp only [List.length_append,List.length_cons,List.length_nil]
     omega
   · have := ZhQ s
     simp only [List.length_append,List.length_cons,List.length_nil]
     omega
theorem Zgo:∀ (l:List Tm) (f:Bool),wrL l=true→(wL l f).length≤40*Zl l
 | [],f,_=>by simp [wL]
 | t :: r, f, h => by
   rw [wrL,Bool.and_eq_true] at h
   have h1:=ZgG t h.1
   have h2:=Zgo r false h.2
   rw [wL,Zl]
   have h3:(if f=true then ([]:Bs) else [44,32]).length≤2:=by split<;>decide
   simp only [List.length_append]
   omega
end
theorem ZmR:∀ (a b:List Tm) (f:Bool),wL (a++b) f=wL a f++wL b (f&&a.isEmpty)
 | [],b,f=>by simp [wL]
 | t :: r, b, f => by
   rw [List.cons_append,wL,wL,ZmR r b false]
   simp
theorem Zog {l:List Tm} {i:Nat} {x:Tm} (h:l[i]? = some x):wL (l.take (i+1)) true=wL (l.take i) true++((if i=0 then [] else [44,32])++wT x):=by
 have hlt:i<l.length:=by
  by_cases e:i<l.length
  · exact e
  · rw [List.getElem?_eq_none (by omega)] at h;cases h
 rw [List.take_add_one,h,ZmR]
 simp only [Option.toList_some,wL,List.append_nil,Bool.true_and]
 congr 2
 by_cases hi:i=0
 · subst hi;simp
 · rw [if_neg hi, if_neg]
   simp [hi]
   intro e
   subst e
   simp at hlt
theorem ZmJ:∀ {l:List Tm},wrL l=true→∀ x,x∈l→x.wr=true
 | a :: r, h, x, hx => by
   rw [wrL,Bool.and_eq_true] at h
   rcases List.mem_cons.1 hx with e|hx
   · rw [e];exact h.1
   · exact ZmJ h.2 x hx
theorem ZgE:∀ {l:List Tm},wrL l=true→∀ i,wrL (l.take i)=true
 | [],_,i=>by simp [wrL]
 |a::r,h,0=>rfl
 | a :: r, h, i + 1 => by
   rw [wrL,Bool.and_eq_true] at h
   rw [List.take_succ_cons,wrL,h.1,ZgE h.2 i];rfl
structure FrB (id:Nat) (bx bx':List Box):Prop where
 l:bx.length≤bx'.length
 f:∀ j,j<bx.length→j≠id→nth bx' j=nth bx j
theorem FrB.refl (id:Nat) (bx:List Box):FrB id bx bx:=⟨Nat.le_refl _,fun _ _ _=>rfl⟩
theorem FrB.trans {id:Nat} {a b c:List Box} (h:FrB id a b) (h2:FrB id b c):FrB id a c:=
 ⟨Nat.le_trans h.l h2.l,fun j hj hn=>(h2.f j (Nat.lt_of_lt_of_le hj h.l) hn).trans (h.f j hj hn)⟩
theorem FrB.more {id:Nat} {a:List Box} (B:Box):FrB id a (a++ [B]):=
 ⟨by simp,fun j hj _=>by rw [Zo,Zo,List.getElem?_append_left hj]⟩
theorem FrB.set {id:Nat} {a:List Box} (B:Box):FrB id a (a.set id B):=
 ⟨by simp,fun j hj hn=>by rw [Zo,Zo,List.getElem?_set];rw [if_neg (Ne.symm hn)]⟩
end Go.Vm
namespace Go.Vm.Seat
variable {L:List Box} {j:Nat} {k s:Int} {nm:Bs} {b:Bool} {kz:List Tm}
open Go.Proofs
theorem ZeY {bx:List Box} {id:Nat} {B C:Box} (h:nth bx id=some B):nth (bx++ [C]) id=some B:=by
 have:=Vz h
 rw [Zo] at h ⊢
 rw [List.getElem?_append_left this,h]
theorem Zul (h:nth L j=some (.cells 4 [[.int .i64 k,.str nm,.int .i64 s,slV b 4 (Za kz)]])) (lv:List Nat) (nt:Nat):Z4 E0 3 (.ptr j 4 0 0) ⟨L,0,lv,nt⟩=some (.int .i64 k):=by
 have e:E0.T 3=some ⟨.int .i64,1,8,.int .i64 0⟩:=by kernel_rfl
 rw [Zo] at h
 simp [Z4,e,Heap.rd,Zo,h,QL,X1]
theorem ZvQ (h:nth L j=some (.cells 4 [[.int .i64 k,.str nm,.int .i64 s,slV b 4 (Za kz)]])) (lv:List Nat) (nt:Nat):Z4 E0 9 (.ptr j 4 0 1) ⟨L,0,lv,nt⟩=some (.str nm):=by
 have e:E0.T 9=some ⟨.string,1,16,.str []⟩:=by kernel_rfl
 rw [Zo] at h
 simp [Z4,e,Heap.rd,Zo,h,QL,X1]
theorem ZvJ (h:nth L j=some (.cells 4 [[.int .i64 k,.str nm,.int .i64 s,slV b 4 (Za kz)]])) (lv:List Nat) (nt:Nat):Z4 E0 3 (.ptr j 4 0 2) ⟨L,0,lv,nt⟩=some (.int .i64 s):=by
 have e:E0.T 3=some ⟨.int .i64,1,8,.int .i64 0⟩:=by kernel_rfl
 rw [Zo] at h
 simp [Z4,e,Heap.rd,Zo,h,QL,X1]
theorem Zu8 (h:nth L j=some (.cells 4 [[.int .i64 k,.str nm,.int .i64 s,slV b 4 (Za kz)]])) (lv:List Nat) (nt:Nat):Z4 E0 29 (.ptr j 4 0 3) ⟨L,0,lv,nt⟩=some (slV b 4 (Za kz)):=by
 have e:E0.T 29=some ⟨.slice 48,1,24,.nils⟩:=by kernel_rfl
 rw [Zo] at h
 simp [Z4,e,Heap.rd,Zo,h,QL,X1]
theorem ZrY {x:Tm} (h:nth L j=some (.cells 4 [x.cells])) (lv:List Nat) (nt:Nat):Z4 E0 48 (.ptr j 4 0 0) ⟨L,0,lv,nt⟩=some (.agg x.cells):=by
 obtain ⟨k',nm',s',b',kz'⟩:=x
 exact U8 rfl rfl (el:=[(Tm.mk k' nm' s' b' kz').cells]) h rfl rfl
theorem ZvE (bx:List Box) (x:Tm) (lv:List Nat) (nt:Nat):Heap.wr ⟨bx++ [.cells 4 [zcT]],0,lv,nt⟩ (.ptr bx.length 4 0 0) x.cells=some ⟨bx++ [.cells 4 [x.cells]],0,lv,nt⟩:=by
 obtain ⟨k',nm',s',b',kz'⟩:=x
 have h:=Zc9 (H:=⟨bx++ [.cells 4 [zcT]],0,lv,nt⟩) (id:=bx.length) (es:=4) (ix:=0) (off:=0) (el:=[zcT]) (cs:=(Tm.mk k' nm' s' b' kz').cells) (old:=zcT) (XX _ _) rfl (Nat.le_refl 4) (Nat.zero_le _)
 rw [h]
 simp [Tm.cells,zcT]
def ZrH (f:FuncId) (args:List PV) (id:Nat) (bx:List Box) (lv:List Nat) (nt:Nat) (s x:Bs):Prop:=
 ∃ r H',CallOk E0 Tryz.prog f args ⟨bx,0,lv,nt⟩ r H'∧r= .tup []∧∃ bx' lv' nt' p' v',H'=⟨bx',0,lv',nt'⟩∧nth bx' id=some (.sp 69 [p',v'])∧BdS id p' v' (s++x) lv' nt'∧FrB id bx bx'
theorem VE {α:Type} (a:List α) {b:List α} (h:b≠ []):a++b≠ []:=fun e=>h (List.append_eq_nil_iff.1 e).2
theorem Zcy {a b:Bs} (h:a.length+b.length≤281474976710656):Xo E0 .add 9 (.str a) (.str b)=some (.str (a++b)):=by
 show ZpP .add a b=_
 simp only [ZpP]
 rw [if_pos (by omega)]
theorem wrT {t:Tm} (ht:t.Ok):t.wr=true→∀ {bx:List Box} {lv:List Nat} {nt id:Nat} {p v:PV} {s:Bs},nth bx id=some (.sp 69 [p,v])→BdS id p v s lv nt→s.length+40*t.size≤1000000→ZrH 110 [.ptr id 2 0 0,.agg t.cells] id bx lv nt s (wT t):=by
 induction ht with
 | @mk k nm so b kz hk hs hn hl hok ih=>
 intro hwr bx lv nt id p v s hb hS hlen
 rw [Tm.wr,Bool.and_eq_true,decide_eq_true_eq] at hwr
 obtain ⟨hnl,hwr⟩:=hwr
 obtain ⟨BX,hBX⟩:∃ BX,BX=bx++ [.cells 4 [[.int .i64 k,.str nm,.int .i64 so,slV b 4 (Za kz)]]]:=⟨_,rfl⟩
 have hF0:FrB id bx BX:=by rw [hBX];exact .more _
 have hlt:=Vz hb
 have hb0:nth BX id=some (.sp 69 [p,v]):=by rw [hBX];exact ZeY hb
 have hj:nth BX bx.length=some (.cells 4 [[.int .i64 k,.str nm,.int .i64 so,slV b 4 (Za kz)]]):=by rw [hBX];exact XX _ _
 have l0:=Zul hj lv nt
 have l1:=ZvQ hj lv nt
 have l2:=ZvJ hj lv nt
 rw [wT]
 rw [Tm.size] at hlen
 by_cases hk3:k=3
 · subst hk3
   rw [if_pos rfl] at hwr ⊢
   have hwm:=ZmJ hwr
   have hwl:=Zgo kz true hwr
   have hkl:=Zb kz
   have hks:=Yy kz
   have a1:=Zcy (a:=nm) (b:=[40]) (by simp only [List.length_cons,List.length_nil];omega)
   obtain ⟨lv',hc⟩:=wrS hb0 hS (x:=nm++ [40]) (VE _ (by simp)) (by simp only [List.length_append,List.length_cons,List.length_nil];omega)
   obtain ⟨BY,hBY⟩:∃ BY,BY=BX.set id (.sp 69 [.ptr id 2 0 0,.sl (.tok nt) 1 (Zw (s++(nm++ [40])))]):=⟨_,rfl⟩
   have hF1:FrB id bx BY:=by rw [hBY];exact hF0.trans (.set _)
   have hF2:FrB id BX BY:=by rw [hBY];exact .set _
   have hlx:=Vz hj
   have l3:=Zu8 (L:=BY) (by rw [hF2.f _ hlx (by omega)];exact hj) (nt::lv') (nt+1)
   have hb1:nth BY id=some (.sp 69 [.ptr id 2 0 0,.sl (.tok nt) 1 (Zw (s++(nm++ [40])))]):=by rw [hBY];exact Qo (Vz hb0)
   have hS1:BdS id (.ptr id 2 0 0) (.sl (.tok nt) 1 (Zw (s++(nm++ [40])))) (s++(nm++ [40])) (nt::lv') (nt+1):= .tok _ _ _ _ (VE _ (VE _ (by simp))) List.mem_cons_self (Nat.lt_succ_self _)
   rw [← hBY] at hc
   clear hb hS hj hb0 hF0 hF2 hBY hlx
   subst hBX
   refine ZT (own:=fun _=>false) tOk fe110.ok ?_
   refine Wp.seq ?_
   repeat' first|refine Jc hc ?_|refine Ji ?_|(apply qLd;rfl;rfl;rfl;assumption;exact IsV.any _)|refine Jl ?_|refine Jt ?_|refine Jo ?_|fail
   refine Wp.while (fun m tm H => ∃ (i : Nat) (base : TM) (B1 : List Box) (lv1 : List Nat) (nt1 : Nat) (p1 v1 : PV), i + m = kz.length ∧ nth B1 id = some (.sp 69 [p1, v1]) ∧ BdS id p1 v1 ((s ++ (nm ++ [40])) ++ wL (kz.take i) true) lv1 nt1 ∧ FrB id bx B1 ∧
     tm=ovr base [(0,.ptr id 2 0 0),(45,slV b 4 (Za kz)),(46,.int .i64 (kz.length:Int)),(47,.int .i64 (i:Int))]∧H=⟨B1,0,lv1,nt1⟩)
    (fun m tm H hI=>?_) kz.length _ _ ⟨0,_,_,_,_,_,_,by omega,hb1,by rw [List.take_zero,wL,List.append_nil];exact hS1,hF1,Zf ⟨rfl,rfl,Ze (by rw [hkl]),rfl,trivial⟩,rfl⟩
   obtain ⟨i,base,B1,lv1,nt1,p1,v1,hi,hB1,hS2,hF,rfl,rfl⟩:=hI
   clear hb1 hS1 hF1 l0 l1 l2 l3 hc a1
   have hlx:=Zq (i:Int) (kz.length:Int)
   by_cases hlt2:i<kz.length
   · obtain ⟨x, hx⟩ : ∃ x, kz[i]? = some x := ⟨kz[i], by simp⟩
     rw [decide_eq_true (by omega)] at hlx
     have hm:=List.mem_of_getElem? hx
     have hsnoc:=Zog hx
     have hsum:(wL (kz.take i) true).length+42*0≤40*Zl (kz.take i):=by
      have:wrL (kz.take i)=true:=ZgE hwr i
      have:=Zgo (kz.take i) true this
      omega
     have hst:=Wz hx
     have hst2:=ZL kz (i+1)
     have hal:∀ ρ,aOp E0 false ρ (.alloc 48) ⟨B1,0,lv1,nt1⟩=some (.ptr B1.length 4 0 0,⟨B1++ [.cells 4 [zcT]],0,lv1,nt1⟩):=fun ρ=>rfl
     have hwt:=ZvE B1 x lv1 nt1
     have hB2:nth (B1++ [.cells 4 [x.cells]]) id=some (.sp 69 [p1,v1]):=ZeY hB1
     have hid:=Vz hB1
     have hxs:=ZgG x (hwm x hm)
     have q4:=Xt (i:Int) 0
     by_cases hi0:i=0
     · rw [decide_eq_false (by omega)] at q4
       rw [if_pos hi0,List.nil_append] at hsnoc
       obtain ⟨r,H',hcr,rfl,bx',lv2,nt2,p2,v2,rfl,hb2,hS3,hF3⟩:=ih x hm (hwm x hm) hB2 hS2 (by simp only [List.length_append,List.length_cons,List.length_nil];omega)
       have hldt:=ZrY (L:=B1++ [.cells 4 [x.cells]]) (XX B1 _) lv1 nt1
       rw [List.append_assoc, ← hsnoc] at hS3
       have hFF:=hF.trans ((FrB.more _).trans hF3)
       clear ih hsum hB2 hS2 hF3
       obtain ⟨k',nm',s',b',kz'⟩:=x
       have hjx:=Zk hx
       simp only [Tm.cells] at hcr hldt hwt
       repeat' first|refine Jc hcr ?_|(apply RegQ.rAl;rfl;rfl;assumption)|refine Ji ?_|(apply qLd;rfl;rfl;rfl;assumption;exact IsV.any _)|refine Jx ?_|refine Jo ?_|fail
       exact LoopI.go (m-1) (by omega) ⟨i+1,_,bx',lv2,nt2,p2,v2,by omega,hb2,hS3,hFF,Zf ⟨rfl,rfl,rfl,Ze (Zd (n:=i+1) (by omega)),trivial⟩,rfl⟩
     · rw [decide_eq_true (by omega)] at q4
       rw [if_neg hi0] at hsnoc
       obtain ⟨lv3,hc3⟩:=wrS hB2 hS2 (x:=[44,32]) (by simp) (by simp only [List.length_append,List.length_cons,List.length_nil];omega)
       obtain ⟨B3,hB3⟩:∃ B3,B3=(B1++ [Box.cells 4 [x.cells]]).set id (.sp 69 [.ptr id 2 0 0,.sl (.tok nt1) 1 (Zw (((s++(nm++ [40]))++wL (kz.take i) true)++ [44,32]))]):=⟨_,rfl⟩
       have hF4:FrB id (B1++ [.cells 4 [x.cells]]) B3:=by rw [hB3];exact .set _
       have hb3:nth B3 id=some (.sp 69 [.ptr id 2 0 0,.sl (.tok nt1) 1 (Zw (((s++(nm++ [40]))++wL (kz.take i) true)++ [44,32]))]):=by rw [hB3];exact Qo (Vz hB2)
       have hS4:BdS id (.ptr id 2 0 0) (.sl (.tok nt1) 1 (Zw (((s++(nm++ [40]))++wL (kz.take i) true)++ [44,32]))) (((s++(nm++ [40]))++wL (kz.take i) true)++ [44,32]) (nt1::lv3) (nt1+1):= .tok _ _ _ _ (VE _ (by simp)) List.mem_cons_self (Nat.lt_succ_self _)
       have hldt:=ZrY (L:=B3) (x:=x) (j:=B1.length) (by rw [hF4.f _ (by simp) (by omega)];exact XX B1 _) (nt1::lv3) (nt1+1)
       rw [← hB3] at hc3
       obtain ⟨r,H',hcr,rfl,bx',lv2,nt2,p2,v2,rfl,hb2,hS3,hF3⟩:=ih x hm (hwm x hm) hb3 hS4 (by simp only [List.length_append,List.length_cons,List.length_nil];omega)
       rw [List.append_assoc,List.append_assoc, ← hsnoc] at hS3
       have hFF:=hF.trans ((FrB.more _).trans (hF4.trans hF3))
       clear ih hsum hB2 hS2 hF3 hF4 hB3 hb3 hS4
       obtain ⟨k',nm',s',b',kz'⟩:=x
       have hjx:=Zk hx
       simp only [Tm.cells] at hcr hldt hwt hc3
       repeat' first|refine Jc hc3 ?_|refine Jc hcr ?_|(apply RegQ.rAl;rfl;rfl;assumption)|refine Ji ?_|(apply qLd;rfl;rfl;rfl;assumption;exact IsV.any _)|refine Jx ?_|refine Jo ?_|fail
       exact LoopI.go (m-1) (by omega) ⟨i+1,_,bx',lv2,nt2,p2,v2,by omega,hb2,hS3,hFF,Zf ⟨rfl,rfl,rfl,Ze (Zd (n:=i+1) (by omega)),trivial⟩,rfl⟩
   · have e : i = kz.length := by omega
     subst e
     rw [decide_eq_false (by omega)] at hlx
     rw [List.take_length] at hS2
     obtain ⟨lv3,hc3⟩:=wrB hB1 hS2 (by simp only [List.length_append,List.length_cons,List.length_nil];omega)
     have hfin:∃ bx2 lv2 nt2 p' v',(⟨B1.set id (.sp 69 [.ptr id 2 0 0,.sl (.tok nt1) 1 (Zw (((s++(nm++ [40]))++wL kz true)++ [41]))]),0,nt1::lv3,nt1+1⟩:Heap)=⟨bx2,0,lv2,nt2⟩∧nth bx2 id=some (.sp 69 [p',v'])∧BdS id p' v' (s++((nm++ [40])++(wL kz true++ [41]))) lv2 nt2∧FrB id bx bx2:=
      ⟨_, _, _, _, _, rfl, Qo (Vz hB1), by
        have e:s++((nm++ [40])++(wL kz true++ [41]))=((s++(nm++ [40]))++wL kz true)++ [41]:=by simp only [List.append_assoc]
        rw [e]
        exact .tok _ _ _ _ (VE _ (by simp)) List.mem_cons_self (Nat.lt_succ_self _),hF.trans (.set _)⟩
     clear ih hS2 hB1
     repeat' first|refine Jc hc3 ?_|refine Ji ?_|refine Jo ?_|fail
     all_goals exact RetR.go rfl ⟨rfl,hfin⟩
 · rw [if_neg hk3] at hwr ⊢
   simp only [Bool.and_eq_true,decide_eq_true_eq] at hwr
   obtain ⟨rfl,h0,h5⟩:=hwr
   have hw:=ZhQ so
   obtain ⟨lv',hc⟩:=wrS hb0 hS (x:=(nm++ [58])++wdF so) (by rw [List.append_assoc];exact VE _ (by simp)) (by simp only [List.length_append,List.length_cons,List.length_nil];omega)
   have a1:=Zcy (a:=nm) (b:=[58]) (by simp only [List.length_cons,List.length_nil];omega)
   have a2:=Zcy (a:=nm++ [58]) (b:=wdF so) (by simp only [List.length_append,List.length_cons,List.length_nil];omega)
   have hres:∀ bx',bx'=BX.set id (.sp 69 [.ptr id 2 0 0,.sl (.tok nt) 1 (Zw (s++((nm++ [58])++wdF so)))])→∃ bx2 lv2 nt2 p' v',(⟨bx',0,nt::lv',nt+1⟩:Heap)=⟨bx2,0,lv2,nt2⟩∧nth bx2 id=some (.sp 69 [p',v'])∧BdS id p' v' (s++((nm++ [58])++wdF so)) lv2 nt2∧FrB id bx bx2:=fun bx' e=>by
    subst e
    exact ⟨_,_,_,_,_,rfl,Qo (Vz hb0),.tok _ _ _ _ (VE _ (by rw [List.append_assoc];exact VE _ (by simp))) List.mem_cons_self (Nat.lt_succ_self _),hF0.trans (.set _)⟩
   have hLe:BX.length≤(BX.set id (.sp 69 [.ptr id 2 0 0,.sl (.tok nt) 1 (Zw (s++((nm++ [58])++wdF so)))])).length:=by simp
   have hcase:so=0∨so=1∨so=2∨so=3∨so=4∨so=5:=by omega
   have hiw:Zv E0 22 (wordsC.getD 0 .undef) (.int .i64 so)=some (.fptr [.str (wdF so)] 0):=by
    rcases hcase with rfl|rfl|rfl|rfl|rfl|rfl<;>rfl
   clear ih hb hS hj hcase hw hb0 hF0
   subst hBX
   have hbt:Nat.blt bx.length (bx++ [Box.cells 4 [[.int .i64 2,.str nm,.int .i64 so,slV b 4 (Za kz)]]]).length=true:=by simp [Nat.blt]
   refine ZT (own:=fun _=>false) tOk fe110.ok ?_
   refine Wp.seq ?_
   repeat' first|(apply qLd;rfl;rfl;rfl;assumption;exact IsV.any _)|refine Jt ?_|refine Jo ?_|refine JD ?_|refine JK ?_|(apply dLd;rfl;rfl;rfl;assumption;exact IsV.any _;(first|rfl|(show Nat.blt _ _=true;first|assumption|(simp [Nat.blt];done))))|refine Jh ?_|(apply Wp.draw tOk follows;kernel_rfl)|fail
   refine dCe rfl rfl rfl rfl rfl hc hLe ?_
   repeat' first|refine Jo ?_|fail
   exact RetR.ret rfl ⟨rfl,hres _ rfl⟩
end Go.Vm.Seat
namespace Go.Vm
theorem Zmt {s:Bs} (h:YB s=true):s.length≤24:=by
 cases s with
 |nil=>exact Nat.zero_le _
 | cons c r =>
   simp only [YB,Bool.and_eq_true,decide_eq_true_eq] at h
   exact h.1
theorem ZjY {k:Int} {nm:Bs} {s:Int} {n:Nat} (h:YF k nm s n=0):YB nm=true:=by
 unfold YF at h
 split at h
 · cases h
 split at h
 · cases h
 · rename_i h2
   simpa using h2
theorem Ze1 {t:Tm} (h:t.Fr):t.size≤400:=Xe h.v
structure GdM (m:Mo):Prop where
 ts:∀ t,t∈m.terms→t.Ok∧t.Fr
 tl:m.terms.length≤14
 al:m.agents.length≤8
theorem ZqL (b:List Nat) {k n c:Nat} (hn:n<4):GdM (mkM b k n c):=by
 have h1:∀ b,(VZ b n).Ok∧(VZ b n).Fr:=fun b=>⟨Zja b n,ZnH b (by omega)⟩
 have hm:∀ t,t∈XQ b n (c % 4)→t.Ok∧t.Fr:=fun t ht=>by
  obtain ⟨j, -,rfl⟩:=List.mem_map.1 ht
  exact h1 _
 have hl:=W0 b n (c % 4)
 have h4:c % 4<4:=Nat.mod_lt _ (by omega)
 have ha:(agF c).length≤8:=by unfold agF;split<;>decide
 unfold mkM
 split
 · exact ⟨fun t ht=>(by cases ht),Nat.zero_le _,ha⟩
 split
 · exact ⟨fun t ht=>by rw [List.mem_singleton.1 ht];exact h1 _,by simp,Nat.zero_le _⟩
 split
 · exact ⟨fun t ht=>by rw [List.mem_singleton.1 ht];exact h1 _,by simp,Nat.zero_le _⟩
 split
 · exact ⟨hm,by simp only;omega,Nat.zero_le _⟩
 split
 · exact ⟨hm,by simp only;omega,Nat.zero_le _⟩
 split
 · exact ⟨fun t ht=>(by cases ht),Nat.zero_le _,by simp⟩
 · exact ⟨fun t ht=>(by cases ht),Nat.zero_le _,Nat.zero_le _⟩
theorem ZhT:∀ (l:List (Bool×List Nat)) (o:List Mo),(∀ m,m∈o→GdM m)→(Zz o).2=0→(∀ m,m∈l.foldl (fun o x=>Zew o x.2) o→GdM m)∧(Zz (l.foldl (fun o x=>Zew o x.2) o)).2=0
 | [],o,h,h0=>⟨h,h0⟩
 | x :: r, o, h, h0 => by
   rw [List.foldl_cons]
   refine ZhT r _ ?_ ?_
   · unfold Zew
     split
     · intro m hm
       rcases List.mem_append.1 hm with hm|hm
       · exact h m hm
       · rw [List.mem_singleton.1 hm];exact ZqL _ (Nat.mod_lt _ (by omega))
     · exact h
   · unfold Zew
     split
     · rename_i h1;exact h1
     · exact h0
