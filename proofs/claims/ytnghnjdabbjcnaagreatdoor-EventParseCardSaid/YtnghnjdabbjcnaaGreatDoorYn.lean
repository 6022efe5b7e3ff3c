/-
  The text of a term: the program's text.
-/
import Derived.Test.YtnghnjdabbjcnaaGreatDoorYm
set_option maxHeartbeats 0
set_option maxRecDepth 100000
namespace Go.Vm
inductive BdS (id:Nat):PV→PV→Bs→List Nat→Nat→Prop
 |no (lv:List Nat) (nt:Nat):BdS id .nilp .nils [] lv nt
 |tok (s:Bs) (k:Nat) (lv:List Nat) (nt:Nat) (hs:s≠ []) (hk:k∈lv) (hn:k<nt):BdS id (.ptr id 2 0 0) (.sl (.tok k) 1 (Zo s)) s lv nt
theorem VH (a b:Bs):Zo (a++b)=Zo a++Zo b:=by simp[Zo]
theorem Wd (a:Bs):(Zo a).length=a.length:=by simp[Zo]
end Go.Vm
namespace Go.Vm.Seat
variable {bx:List Box} {B:Box} {lv:List Nat} {nt:Nat} {p v:PV} {s x:Bs}
open Go.Proofs
theorem ZmD:ApT E0 47 47 1 1:=⟨_,_,_,_,_,rfl,rfl,rfl,rfl,rfl,rfl,rfl,by decide,rfl⟩
theorem Yi {id:Nat} (h:id<bx.length):nth (bx.set id B) id=some B:=by rw[Zj];simp[h]
theorem Yj {id:Nat} (h:nth bx id=some B):id<bx.length:=by rw[Zj]at h;by_cases e:id<bx.length;{exact e};{rw[List.getElem?_eq_none (by omega)]at h;cases h}
theorem bCc {id:Nat} (hb:nth bx id=some (.sp 49 [p,v])) (hS:BdS id p v s lv nt):CO 39 [.ptr id 2 0 0] ⟨bx,0,lv,nt⟩ (.tup []) ⟨bx.set id (.sp 49 [.ptr id 2 0 0,v]),0,lv,nt⟩:=by
 refine(z39 [.ptr id 2 0 0] ⟨bx,0,lv,nt⟩ _ _ ?_).1;have hlt:=Yj hb;cases hS with
 |no=>have:Nat.ble 0 id=true:=Nat.ble_eq_true_of_le (Nat.zero_le _);simp[ccZ,hb,this]
 |tok s k lv nt hs hk hn=>
  have e:bx.set id (.sp 49 [.ptr id 2 0 0,.sl (.tok k) 1 (Zo s)])=bx:=by rw[Zj]at hb;refine List.ext_getElem? fun j=>?_;rw[List.getElem?_set];split;{rename_i h;subst h;rw[hb]};{rfl}
  rw[e];simp[ccZ,hb]
theorem ZpQ {id:Nat} (hS:BdS id p v s lv nt) (hx:x≠ []) (hl:(s++x).length≤1000000):∃lv',∀bx ro,ZL E0 47 9 v (.str x) ⟨bx,ro,lv,nt⟩=some (.sl (.tok nt) 1 (Zo (s++x)),⟨bx,ro,nt::lv',nt+1⟩):=by
 have hT:Zcf E0 47=5:=by kernel_rfl
 have e1:E0.T 47=some ⟨.slice 5,1,24,.nils⟩:=by kernel_rfl
 have e2:E0.T 9=some ⟨.string,1,16,.str []⟩:=by kernel_rfl
 have e3:E0.T 5=some ⟨.int .u8,1,1,.int .u8 0⟩:=by kernel_rfl
 obtain⟨a,r,rfl⟩:=List.exists_cons_of_ne_nil hx;have hy:Zo (a::r)= [.int .u8 (Int.ofNat a.toNat)]::Zo r:=rfl;rw[List.length_append]at hl;cases hS with
 |no=>refine⟨lv,fun bx ro=>?_⟩;simp only[ZL,XI,e1,e2,e3,WH,Zk8,List.length_cons,List.length_nil,PV.cells,and_self,if_true,List.nil_append];rw[hy];simp only[YH,List.nil_append,hT,Vn];rw[if_pos (by rw[ZQ (by have h2:=Wd r;simp only[List.length_cons,List.length_nil]at hl ⊢;omega) (by decide)];rfl)]
 |tok s k lv nt hs hk hn=>obtain⟨b,q,rfl⟩:=List.exists_cons_of_ne_nil hs;obtain⟨l',h1, -⟩:=XF hk;refine⟨l',fun bx ro=>?_⟩;simp only[ZL,XI,e1,e2,e3,WH,Zk8,List.length_cons,List.length_nil,PV.cells,and_self,if_true,VH];rw[hy];simp only[hT,Vn,h1];rw[if_pos (by rw[ZQ (by have h2:=Wd r;have h3:=Wd (b::q);simp only[List.length_cons]at hl h3 ⊢;omega) (by decide)];rfl)]
theorem ZuT {id:Nat} (hb:nth bx id=some (.sp 49 [p,v])) (hv:v= .nils∨∃k L,v= .sl (.tok k) 1 L):Z2 E0 47 (.ptr id 2 0 1) ⟨bx,0,lv,nt⟩=some v:=by
 have e1:E0.T 47=some ⟨.slice 5,1,24,.nils⟩:=by kernel_rfl
 rcases hv with rfl|⟨k,L,rfl⟩;{simp[Z2,e1,Heap.rd,hb,Qv,XL]};{simp[Z2,e1,Heap.rd,hb,Qv,XL]}
theorem ZuI {id:Nat} (hb:nth bx id=some (.sp 49 [p,v])) (x:PV):Heap.wr ⟨bx,0,lv,nt⟩ (.ptr id 2 0 1) [x]=some ⟨bx.set id (.sp 49 [p,x]),0,lv,nt⟩:=by simp[Heap.wr,hb,Heap.put]
theorem ZqE {id:Nat} (h:BdS id p v s lv nt):v= .nils∨∃k L,v= .sl (.tok k) 1 L:=by
 cases h with
 |no=>exact .inl rfl
 |tok=>exact .inr ⟨_,_,rfl⟩
theorem wrS {id:Nat} (hb:nth bx id=some (.sp 49 [p,v])) (hS:BdS id p v s lv nt) (hx:x≠ []) (hl:(s++x).length≤1000000):∃lv',CO 18 [.ptr id 2 0 0,.str x] ⟨bx,0,lv,nt⟩ (.tup [.int .i64 (x.length:Int),.nili]) ⟨bx.set id (.sp 49 [.ptr id 2 0 0,.sl (.tok nt) 1 (Zo (s++x))]),0,nt::lv',nt+1⟩:=by
 have hc:=bCc hb hS;obtain⟨lv',hap⟩:=ZpQ hS hx hl;refine⟨lv',?_⟩;have hlt:=Yj hb;have hb2:nth (bx.set id (.sp 49 [.ptr id 2 0 0,v])) id=some (.sp 49 [.ptr id 2 0 0,v]):=Yi hlt;have hld:=ZuT (lv:=lv) (nt:=nt) hb2 (ZqE hS);have hwr:=ZuI (lv:=nt::lv') (nt:=nt+1) hb2 (.sl (.tok nt) 1 (Zo (s++x)));rw[List.set_set]at hwr;clear hb2 hb hS;refine ZW (own:=fun _=>false) tOk fe18.ok ?_;refine Wp.seq ?_;repeat' first|refine Jc hc ?_|refine JA ?_|refine Ki ?_|refine Jo ?_|fail
 all_goals exact RetE.ret rfl rfl rfl
theorem ZoY {id:Nat} (hS:BdS id p v s lv nt) (c:UInt8) (hl:s.length+1≤1000000):∃lv',∀bx ro,ZL E0 47 47 v (.sl .full 1 [[.int .u8 (Int.ofNat c.toNat)]]) ⟨bx,ro,lv,nt⟩=some (.sl (.tok nt) 1 (Zo (s++ [c])),⟨bx,ro,nt::lv',nt+1⟩):=by
 have hT:Zcf E0 47=5:=by kernel_rfl
 have hz:ElV 1 (.sl .full 1 [[.int .u8 (Int.ofNat c.toNat)]]) [[.int .u8 (Int.ofNat c.toNat)]]:= .sl _ _ _;have hy:Zo [c]= [[.int .u8 (Int.ofNat c.toNat)]]:=rfl;cases hS with
 |no=>refine⟨lv,fun bx ro=>?_⟩;simp only[ZL,ZY ZmD hz rfl (s:= .nils) rfl rfl];simp only[YH,List.nil_append,hT,Vn,hy];rfl
 |tok s k lv nt hs hk hn=>obtain⟨b,q,rfl⟩:=List.exists_cons_of_ne_nil hs;obtain⟨l',h1, -⟩:=XF hk;refine⟨l',fun bx ro=>?_⟩;simp only[ZL,ZY ZmD hz rfl (s:= .sl (.tok k) 1 (Zo (b::q))) rfl rfl];simp only[hT,Vn,h1,VH,hy];rw[if_pos (by rw[ZQ (by have h3:=Wd (b::q);simp only[List.length_cons,List.length_nil]at hl h3 ⊢;omega) (by decide)];rfl)]
theorem wrB {id:Nat} (hb:nth bx id=some (.sp 49 [p,v])) (hS:BdS id p v s lv nt) (hl:s.length+1≤1000000):∃lv',CO 116 [.ptr id 2 0 0,.int .u8 41] ⟨bx,0,lv,nt⟩ .nili ⟨bx.set id (.sp 49 [.ptr id 2 0 0,.sl (.tok nt) 1 (Zo (s++ [41]))]),0,nt::lv',nt+1⟩:=by
 have hc:=bCc hb hS;obtain⟨lv',hap⟩:=ZoY hS 41 hl;refine⟨lv',?_⟩;have hlt:=Yj hb;have hb2:nth (bx.set id (.sp 49 [.ptr id 2 0 0,v])) id=some (.sp 49 [.ptr id 2 0 0,v]):=Yi hlt;have hld:=ZuT (lv:=lv) (nt:=nt) hb2 (ZqE hS);have hwr:=ZuI (lv:=nt::lv') (nt:=nt+1) hb2 (.sl (.tok nt) 1 (Zo (s++ [41])));rw[List.set_set]at hwr;clear hb2 hb hS;refine ZW (own:=fun _=>false) tOk fe116.ok ?_;refine Wp.seq ?_;repeat' first|refine Jc hc ?_|refine Kv ?_|refine Ki ?_|refine Jo ?_|fail
 all_goals exact RetE.ret rfl rfl rfl
theorem ZbS:∀s:Bs,W9 (Zo s)=some s
 | []=>rfl
 |c::r=>by have:=ZbS r;have hc:decide ((c.toNat:Int)≤255)=true:=decide_eq_true (by have:=UInt8.toNat_lt c;omega);simp[Zo,W9]at this ⊢;simp[this,hc]
theorem ZwN {id:Nat} (hb:nth bx id=some (.sp 49 [p,v])) (hS:BdS id p v s lv nt) (hl:s.length≤1000000):∃lv',CO 20 [.ptr id 2 0 0] ⟨bx,0,lv,nt⟩ (.str s) ⟨bx,0,lv',nt⟩:=by
 cases hS with
 |no=>exact⟨lv,(z20 [.ptr id 2 0 0] ⟨bx,0,lv,nt⟩ _ _ (by simp[ZhG,hb])).1⟩
 |tok s k lv nt hs hk hn=>
  obtain⟨l',h1, -⟩:=XF hk;have h2:Nat.blt 0 s.length=true:=by
   cases s with
   | nil=>exact absurd rfl hs
   | cons c r=>rfl
  have h3:Nat.ble s.length 1000000=true:=Nat.ble_eq_true_of_le hl;exact⟨l',(z20 [.ptr id 2 0 0] ⟨bx,0,lv,nt⟩ _ _ (by simp[ZhG,hb,h1,ZbS,h2,h3])).1⟩
end Go.Vm.Seat
namespace Go.Vm
def wdF (s:Int):Bs:=if s=0 then[97,110,121] else if s=1 then[97,103,101,110,116] else if s=2 then[110,111,110,99,101] else if s=3 then[107,101,121] else if s=4 then[100,97,116,97] else[116,97,103]
mutual
def wT:Tm→Bs
 | .mk k nm s _ kz=>if k=3 then(nm++ [40])++(wL kz true++ [41]) else if k=1 then(63::nm)++(if s=0 then[] else 58::wdF s) else(nm++ [58])++wdF s
def wL:List Tm→Bool→Bs
 | [],_=>[]
 |t::r,f=>(if f=true then[] else[44,32])++(wT t++wL r false)
end
mutual
def Tm.wr:Tm→Bool
 | .mk k nm s _ kz=>decide (nm.length≤24)&&(if k=3 then wrL kz else decide (k=1∨k=2)&&(decide (0≤s)&&decide (s≤5)))
def wrL:List Tm→Bool
 | []=>true
 |t::r=>t.wr&&wrL r
end
theorem Zko (s:Int):(wdF s).length≤5:=by
 unfold wdF;split; · decide
 split; · decide
 split; · decide
 split; · decide
 split<;>decide
mutual
theorem ZiB:∀t:Tm,t.wr=true→(wT t).length+2≤40*t.size
 | .mk k nm s b kz,h=>by rw[Tm.wr,Bool.and_eq_true,decide_eq_true_eq]at h;rw[wT,Tm.size];have h1:=h.1;split;{rename_i hk;rw[if_pos hk]at h;have:=Zf7 kz true h.2;simp only[List.length_append,List.length_cons,List.length_nil];omega};{have:=Zko s;split;{split<;>(simp only[List.length_append,List.length_cons,List.length_nil];omega)};{simp only[List.length_append,List.length_cons,List.length_nil];omega}}
theorem Zf7:∀(l:List Tm) (f:Bool),wrL l=true→(wL l f).length≤40*Zm l
 | [],f,_=>by simp[wL]
 |t::r,f,h=>by
  rw[wrL,Bool.and_eq_true]at h;have h1:=ZiB t h.1;have h2:=Zf7 r false h.2;rw[wL,Zm];have h3:(if f=true then([]:Bs) else[44,32]).length≤2:=by split<;>decide
  simp only[List.length_append];omega
end
theorem Zjv:∀(a b:List Tm) (f:Bool),wL (a++b) f=wL a f++wL b (f&&a.isEmpty)
 | [],b,f=>by simp[wL]
 |t::r,b,f=>by rw[List.cons_append,wL,wL,Zjv r b false];simp
theorem ZoN {l:List Tm} {i:Nat} {x:Tm} (h:l[i]? = some x):wL (l.take (i+1)) true=wL (l.take i) true++((if i=0 then[] else[44,32])++wT x):=by
 have hlt:i<l.length:=by by_cases e:i<l.length;{exact e};{rw[List.getElem?_eq_none (by omega)]at h;cases h}
 rw[List.take_add_one,h,Zjv];simp only[Option.toList_some,wL,List.append_nil,Bool.true_and];congr 2;by_cases hi:i=0;{subst hi;simp};{rw[if_neg hi,if_neg];simp[hi];intro e;subst e;simp at hlt}
theorem Znt:∀{l:List Tm},wrL l=true→∀x,x∈l→x.wr=true
 |a::r,h,x,hx=>by rw[wrL,Bool.and_eq_true]at h;rcases List.mem_cons.1 hx with e|hx;{rw[e];exact h.1};{exact Znt h.2 x hx}
theorem ZgD:∀{l:List Tm},wrL l=true→∀i,wrL (l.take i)=true
 | [],_,i=>by simp[wrL]
 |a::r,h,0=>rfl
 |a::r,h,i+1=>by rw[wrL,Bool.and_eq_true]at h;rw[List.take_succ_cons,wrL,h.1,ZgD h.2 i];rfl
structure FrB (id:Nat) (bx bx':List Box):Prop where
 l:bx.length≤bx'.length
 f:∀j,j<bx.length→j≠id→nth bx' j=nth bx j
theorem FrB.trans {id:Nat} {a b c:List Box} (h:FrB id a b) (h2:FrB id b c):FrB id a c:=
 ⟨Nat.le_trans h.l h2.l,fun j hj hn=>(h2.f j (Nat.lt_of_lt_of_le hj h.l) hn).trans (h.f j hj hn)⟩
theorem FrB.more {id:Nat} {a:List Box} (B:Box):FrB id a (a++ [B]):=
 ⟨by simp,fun j hj _=>by rw[Zj,Zj,List.getElem?_append_left hj]⟩
theorem FrB.set {id:Nat} {a:List Box} (B:Box):FrB id a (a.set id B):=
 ⟨by simp,fun j hj hn=>by rw[Zj,Zj,List.getElem?_set];rw[if_neg (Ne.symm hn)]⟩
end Go.Vm
namespace Go.Vm.Seat
variable {L:List Box} {j:Nat} {k s:Int} {nm:Bs} {b:Bool} {kz:List Tm}
open Go.Proofs
theorem Qz {bx:List Box} {id:Nat} {B C:Box} (h:nth bx id=some B):nth (bx++ [C]) id=some B:=by have:=Yj h;rw[Zj]at h ⊢;rw[List.getElem?_append_left this,h]
theorem Zvn (h:nth L j=some (.cells 4 [[.int .i64 k,.str nm,.int .i64 s,slV b 4 (Za kz)]])) (lv:List Nat) (nt:Nat):Z2 E0 3 (.ptr j 4 0 0) ⟨L,0,lv,nt⟩=some (.int .i64 k):=by
 have e:E0.T 3=some ⟨.int .i64,1,8,.int .i64 0⟩:=by kernel_rfl
 rw[Zj]at h;simp[Z2,e,Heap.rd,Zj,h,Qv,XL]
theorem Zvc (h:nth L j=some (.cells 4 [[.int .i64 k,.str nm,.int .i64 s,slV b 4 (Za kz)]])) (lv:List Nat) (nt:Nat):Z2 E0 9 (.ptr j 4 0 1) ⟨L,0,lv,nt⟩=some (.str nm):=by
 have e:E0.T 9=some ⟨.string,1,16,.str []⟩:=by kernel_rfl
 rw[Zj]at h;simp[Z2,e,Heap.rd,Zj,h,Qv,XL]
theorem ZuQ (h:nth L j=some (.cells 4 [[.int .i64 k,.str nm,.int .i64 s,slV b 4 (Za kz)]])) (lv:List Nat) (nt:Nat):Z2 E0 3 (.ptr j 4 0 2) ⟨L,0,lv,nt⟩=some (.int .i64 s):=by
 have e:E0.T 3=some ⟨.int .i64,1,8,.int .i64 0⟩:=by kernel_rfl
 rw[Zj]at h;simp[Z2,e,Heap.rd,Zj,h,Qv,XL]
theorem ZwI (h:nth L j=some (.cells 4 [[.int .i64 k,.str nm,.int .i64 s,slV b 4 (Za kz)]])) (lv:List Nat) (nt:Nat):Z2 E0 30 (.ptr j 4 0 3) ⟨L,0,lv,nt⟩=some (slV b 4 (Za kz)):=by
 have e:E0.T 30=some ⟨.slice 39,1,24,.nils⟩:=by kernel_rfl
 rw[Zj]at h;simp[Z2,e,Heap.rd,Zj,h,Qv,XL]
theorem Zun {x:Tm} (h:nth L j=some (.cells 4 [x.cells])) (lv:List Nat) (nt:Nat):Z2 E0 39 (.ptr j 4 0 0) ⟨L,0,lv,nt⟩=some (.agg x.cells):=by obtain⟨k',nm',s',b',kz'⟩:=x;exact Vc rfl rfl (el:=[(Tm.mk k' nm' s' b' kz').cells]) h rfl rfl
theorem ZvJ (bx:List Box) (x:Tm) (lv:List Nat) (nt:Nat):Heap.wr ⟨bx++ [.cells 4 [zcT]],0,lv,nt⟩ (.ptr bx.length 4 0 0) x.cells=some ⟨bx++ [.cells 4 [x.cells]],0,lv,nt⟩:=by obtain⟨k',nm',s',b',kz'⟩:=x;have h:=Qq (H:=⟨bx++ [.cells 4 [zcT]],0,lv,nt⟩) (id:=bx.length) (es:=4) (ix:=0) (off:=0) (el:=[zcT]) (cs:=(Tm.mk k' nm' s' b' kz').cells) (old:=zcT) (XJ _ _) rfl (Nat.le_refl 4) (Nat.zero_le _);rw[h];simp[Tm.cells,zcT]
def Zsv (f:FuncId) (args:List PV) (id:Nat) (bx:List Box) (lv:List Nat) (nt:Nat) (s x:Bs):Prop:=
 ∃r H',CO f args ⟨bx,0,lv,nt⟩ r H'∧r= .tup []∧∃bx' lv' nt' p' v',H'=⟨bx',0,lv',nt'⟩∧nth bx' id=some (.sp 49 [p',v'])∧BdS id p' v' (s++x) lv' nt'∧FrB id bx bx'
theorem V6 {α:Type} (a:List α) {b:List α} (h:b≠ []):a++b≠ []:=fun e=>h (List.append_eq_nil_iff.1 e).2
theorem ZaU {a b:Bs} (h:a.length+b.length≤281474976710656):YS E0 .add 9 (.str a) (.str b)=some (.str (a++b)):=by show ZnJ .add a b=_;simp only[ZnJ];rw[if_pos (by omega)]
theorem wrT {t:Tm} (ht:t.Ok):t.wr=true→∀{bx:List Box} {lv:List Nat} {nt id:Nat} {p v:PV} {s:Bs},nth bx id=some (.sp 49 [p,v])→BdS id p v s lv nt→s.length+40*t.size≤1000000→Zsv 79 [.ptr id 2 0 0,.agg t.cells] id bx lv nt s (wT t):=by
 induction ht with
 | @mk k nm so b kz hk hs hn hl hok ih=>
 intro hwr bx lv nt id p v s hb hS hlen;rw[Tm.wr,Bool.and_eq_true,decide_eq_true_eq]at hwr;obtain⟨hnl,hwr⟩:=hwr;obtain⟨BX,hBX⟩:∃BX,BX=bx++ [.cells 4 [[.int .i64 k,.str nm,.int .i64 so,slV b 4 (Za kz)]]]:=⟨_,rfl⟩;have hF0:FrB id bx BX:=by rw[hBX];exact .more _
 have hlt:=Yj hb;have hb0:nth BX id=some (.sp 49 [p,v]):=by rw[hBX];exact Qz hb
 have hj:nth BX bx.length=some (.cells 4 [[.int .i64 k,.str nm,.int .i64 so,slV b 4 (Za kz)]]):=by rw[hBX];exact XJ _ _
 have l0:=Zvn hj lv nt;have l1:=Zvc hj lv nt;have l2:=ZuQ hj lv nt;rw[wT];rw[Tm.size]at hlen;by_cases hk3:k=3
 ·subst hk3;rw[if_pos rfl]at hwr ⊢;have hwm:=Znt hwr;have hwl:=Zf7 kz true hwr;have hkl:=Zb kz;have hks:=Yz kz;have a1:=ZaU (a:=nm) (b:=[40]) (by simp only[List.length_cons,List.length_nil];omega);obtain⟨lv',hc⟩:=wrS hb0 hS (x:=nm++ [40]) (V6 _ (by simp)) (by simp only[List.length_append,List.length_cons,List.length_nil];omega);obtain⟨BY,hBY⟩:∃BY,BY=BX.set id (.sp 49 [.ptr id 2 0 0,.sl (.tok nt) 1 (Zo (s++(nm++ [40])))]):=⟨_,rfl⟩;have hF1:FrB id bx BY:=by rw[hBY];exact hF0.trans (.set _)
  have hF2:FrB id BX BY:=by rw[hBY];exact .set _
  have hlx:=Yj hj;have l3:=ZwI (L:=BY) (by rw[hF2.f _ hlx (by omega)];exact hj) (nt::lv') (nt+1);have hb1:nth BY id=some (.sp 49 [.ptr id 2 0 0,.sl (.tok nt) 1 (Zo (s++(nm++ [40])))]):=by rw[hBY];exact Yi (Yj hb0)
  have hS1:BdS id (.ptr id 2 0 0) (.sl (.tok nt) 1 (Zo (s++(nm++ [40])))) (s++(nm++ [40])) (nt::lv') (nt+1):= .tok _ _ _ _ (V6 _ (V6 _ (by simp))) List.mem_cons_self (Nat.lt_succ_self _);rw[← hBY]at hc;clear hb hS hj hb0 hF0 hF2 hBY hlx;subst hBX;refine Zw (own:=fun _=>false) tOk fe79.ok ?_;refine Wp.seq ?_;repeat' first|refine Jc hc ?_|refine Ji ?_|refine Ki ?_|refine KO ?_|fail
  refine Wp.while (fun m tm H => ∃(i : Nat) (base : TM) (B1 : List Box) (lv1 : List Nat) (nt1 : Nat) (p1 v1 : PV), i + m = kz.length ∧ nth B1 id = some (.sp 49 [p1, v1]) ∧ BdS id p1 v1 ((s ++ (nm ++ [40])) ++ wL (kz.take i) true) lv1 nt1 ∧ FrB id bx B1 ∧
    tm=ovr base [(0,.ptr id 2 0 0),(45,slV b 4 (Za kz)),(46,.int .i64 (kz.length:Int)),(47,.int .i64 (i:Int))]∧H=⟨B1,0,lv1,nt1⟩)
   (fun m tm H hI=>?_) kz.length _ _ ⟨0,_,_,_,_,_,_,by omega,hb1,by rw[List.take_zero,wL,List.append_nil];exact hS1,hF1,Zd ⟨rfl,rfl,Zg (by rw[hkl]),rfl,trivial⟩,rfl⟩
  obtain⟨i,base,B1,lv1,nt1,p1,v1,hi,hB1,hS2,hF,rfl,rfl⟩:=hI;clear hb1 hS1 hF1 l0 l1 l2 l3 hc a1;have hlx:=Zv (i:Int) (kz.length:Int);by_cases hlt2:i<kz.length;{obtain⟨x,hx⟩:∃x,kz[i]? = some x:=⟨kz[i],by simp⟩;rw[decide_eq_true (by omega)]at hlx;have hm:=List.mem_of_getElem? hx;have hsnoc:=ZoN hx;(have hsum:(wL (kz.take i) true).length+42*0≤40*Zm (kz.take i):=by have:wrL (kz.take i)=true:=ZgD hwr i;have:=Zf7 (kz.take i) true this;omega);have hst:=WJ hx;have hst2:=ZD kz (i+1);have hal:∀ρ,aOp E0 false ρ (.alloc 39) ⟨B1,0,lv1,nt1⟩=some (.ptr B1.length 4 0 0,⟨B1++ [.cells 4 [zcT]],0,lv1,nt1⟩):=fun ρ=>rfl;have hwt:=ZvJ B1 x lv1 nt1;have hB2:nth (B1++ [.cells 4 [x.cells]]) id=some (.sp 49 [p1,v1]):=Qz hB1;have hid:=Yj hB1;have hxs:=ZiB x (hwm x hm);have q4:=Y7 (i:Int) 0;by_cases hi0:i=0;{rw[decide_eq_false (by omega)]at q4;rw[if_pos hi0,List.nil_append]at hsnoc;obtain⟨r,H',hcr,rfl,bx',lv2,nt2,p2,v2,rfl,hb2,hS3,hF3⟩:=ih x hm (hwm x hm) hB2 hS2 (by simp only[List.length_append,List.length_cons,List.length_nil];omega);have hldt:=Zun (L:=B1++ [.cells 4 [x.cells]]) (XJ B1 _) lv1 nt1;rw[List.append_assoc, ← hsnoc]at hS3;have hFF:=hF.trans ((FrB.more _).trans hF3);clear ih hsum hB2 hS2 hF3;obtain⟨k',nm',s',b',kz'⟩:=x;have hjx:=Zk hx;simp only[Tm.cells]at hcr hldt hwt;(repeat' first|refine Jc hcr ?_|refine KK ?_|refine Ki ?_|refine KB ?_|fail);exact LoopI.go (m-1) (by omega) ⟨i+1,_,bx',lv2,nt2,p2,v2,by omega,hb2,hS3,hFF,Zd ⟨rfl,rfl,rfl,Zg (Ze (n:=i+1) (by omega)),trivial⟩,rfl⟩};{rw[decide_eq_true (by omega)]at q4;rw[if_neg hi0]at hsnoc;obtain⟨lv3,hc3⟩:=wrS hB2 hS2 (x:=[44,32]) (by simp) (by simp only[List.length_append,List.length_cons,List.length_nil];omega);obtain⟨B3,hB3⟩:∃B3,B3=(B1++ [Box.cells 4 [x.cells]]).set id (.sp 49 [.ptr id 2 0 0,.sl (.tok nt1) 1 (Zo (((s++(nm++ [40]))++wL (kz.take i) true)++ [44,32]))]):=⟨_,rfl⟩;(have hF4:FrB id (B1++ [.cells 4 [x.cells]]) B3:=by rw[hB3];exact .set _);(have hb3:nth B3 id=some (.sp 49 [.ptr id 2 0 0,.sl (.tok nt1) 1 (Zo (((s++(nm++ [40]))++wL (kz.take i) true)++ [44,32]))]):=by rw[hB3];exact Yi (Yj hB2));have hS4:BdS id (.ptr id 2 0 0) (.sl (.tok nt1) 1 (Zo (((s++(nm++ [40]))++wL (kz.take i) true)++ [44,32]))) (((s++(nm++ [40]))++wL (kz.take i) true)++ [44,32]) (nt1::lv3) (nt1+1):= .tok _ _ _ _ (V6 _ (by simp)) List.mem_cons_self (Nat.lt_succ_self _);have hldt:=Zun (L:=B3) (x:=x) (j:=B1.length) (by rw[hF4.f _ (by simp) (by omega)];exact XJ B1 _) (nt1::lv3) (nt1+1);rw[← hB3]at hc3;obtain⟨r,H',hcr,rfl,bx',lv2,nt2,p2,v2,rfl,hb2,hS3,hF3⟩:=ih x hm (hwm x hm) hb3 hS4 (by simp only[List.length_append,List.length_cons,List.length_nil];omega);rw[List.append_assoc,List.append_assoc, ← hsnoc]at hS3;have hFF:=hF.trans ((FrB.more _).trans (hF4.trans hF3));clear ih hsum hB2 hS2 hF3 hF4 hB3 hb3 hS4;obtain⟨k',nm',s',b',kz'⟩:=x;have hjx:=Zk hx;simp only[Tm.cells]at hcr hldt hwt hc3;(repeat' first|refine Jc hc3 ?_|refine Jc hcr ?_|refine KK ?_|refine Ki ?_|refine KB ?_|fail);exact LoopI.go (m-1) (by omega) ⟨i+1,_,bx',lv2,nt2,p2,v2,by omega,hb2,hS3,hFF,Zd ⟨rfl,rfl,rfl,Zg (Ze (n:=i+1) (by omega)),trivial⟩,rfl⟩}}
  ·(have e : i = kz.length := by omega);subst e;rw[decide_eq_false (by omega)]at hlx;rw[List.take_length]at hS2;obtain⟨lv3,hc3⟩:=wrB hB1 hS2 (by simp only[List.length_append,List.length_cons,List.length_nil];omega);have hfin:∃bx2 lv2 nt2 p' v',(⟨B1.set id (.sp 49 [.ptr id 2 0 0,.sl (.tok nt1) 1 (Zo (((s++(nm++ [40]))++wL kz true)++ [41]))]),0,nt1::lv3,nt1+1⟩:Heap)=⟨bx2,0,lv2,nt2⟩∧nth bx2 id=some (.sp 49 [p',v'])∧BdS id p' v' (s++((nm++ [40])++(wL kz true++ [41]))) lv2 nt2∧FrB id bx bx2:=
    ⟨_, _, _, _, _, rfl, Yi (Yj hB1), by
      have e:s++((nm++ [40])++(wL kz true++ [41]))=((s++(nm++ [40]))++wL kz true)++ [41]:=by simp only[List.append_assoc]
      rw[e]
      exact .tok _ _ _ _ (V6 _ (by simp)) List.mem_cons_self (Nat.lt_succ_self _),hF.trans (.set _)⟩
   clear ih hS2 hB1;(repeat' first|refine Jc hc3 ?_|refine Kk ?_|fail);all_goals exact RetR.go rfl ⟨rfl,hfin⟩
 ·rw[if_neg hk3]at hwr ⊢;simp only[Bool.and_eq_true,decide_eq_true_eq]at hwr;obtain⟨hk12,h0,h5⟩:=hwr;have hw:=Zko so;have hcase:so=0∨so=1∨so=2∨so=3∨so=4∨so=5:=by omega
  have hiw:Zz E0 29 (wordsC.getD 0 .undef) (.int .i64 so)=some (.fptr [.str (wdF so)] 0):=by rcases hcase with rfl|rfl|rfl|rfl|rfl|rfl<;>rfl
  have hbt0:Nat.blt bx.length (bx++ [Box.cells 4 [[.int .i64 k,.str nm,.int .i64 so,slV b 4 (Za kz)]]]).length=true:=by simp[Nat.blt]
  by_cases hk1:k=1;{subst hk1;rw[if_pos rfl];have a1:=ZaU (a:=[63]) (b:=nm) (by simp only[List.length_cons,List.length_nil];omega);rw[show([63]:Bs)++nm=63::nm from rfl]at a1;obtain⟨lv',hc⟩:=wrS hb0 hS (x:=63::nm) (by simp) (by simp only[List.length_append,List.length_cons];omega);obtain⟨BY,hBY⟩:∃BY,BY=BX.set id (.sp 49 [.ptr id 2 0 0,.sl (.tok nt) 1 (Zo (s++(63::nm)))]):=⟨_,rfl⟩;(have hF1:FrB id bx BY:=by rw[hBY];exact hF0.trans (.set _));(have hF2:FrB id BX BY:=by rw[hBY];exact .set _);have hlx:=Yj hj;(have hj2:nth BY bx.length=some (.cells 4 [[.int .i64 1,.str nm,.int .i64 so,slV b 4 (Za kz)]]):=by rw[hF2.f _ hlx (by omega)];exact hj);have l3:=ZuQ hj2 (nt::lv') (nt+1);(have hb1:nth BY id=some (.sp 49 [.ptr id 2 0 0,.sl (.tok nt) 1 (Zo (s++(63::nm)))]):=by rw[hBY];exact Yi (Yj hb0));have hS1:BdS id (.ptr id 2 0 0) (.sl (.tok nt) 1 (Zo (s++(63::nm)))) (s++(63::nm)) (nt::lv') (nt+1):= .tok _ _ _ _ (V6 _ (by simp)) List.mem_cons_self (Nat.lt_succ_self _);rw[← hBY]at hc;have n0:=ZfI so 0;by_cases hso:so=0;{rw[decide_eq_true hso]at n0;rw[if_pos hso,List.append_nil];have hfin:∃bx2 lv2 nt2 p' v',(⟨BY,0,nt::lv',nt+1⟩:Heap)=⟨bx2,0,lv2,nt2⟩∧nth bx2 id=some (.sp 49 [p',v'])∧BdS id p' v' (s++(63::nm)) lv2 nt2∧FrB id bx bx2:=⟨_,_,_,_,_,rfl,hb1,hS1,hF1⟩;clear ih hb hS hj hj2 hcase hw hb0 hF0 hiw hF1 hF2 hBY hb1 hS1 hso;subst hBX;refine Zw (own:=fun _=>false) tOk fe79.ok ?_;refine Wp.seq ?_;(repeat' first|refine Jc hc ?_|refine Ji ?_|refine Ki ?_|refine Ka ?_|fail);exact RetR.ret rfl ⟨rfl,hfin⟩};{rw[decide_eq_false hso]at n0;rw[if_neg hso];have a2:=ZaU (a:=[58]) (b:=wdF so) (by simp only[List.length_cons,List.length_nil];omega);rw[show([58]:Bs)++wdF so=58::wdF so from rfl]at a2;obtain⟨lv3,hc3⟩:=wrS hb1 hS1 (x:=58::wdF so) (by simp) (by simp only[List.length_append,List.length_cons];omega);(have hfin:∀B,B=BY.set id (.sp 49 [.ptr id 2 0 0,.sl (.tok (nt+1)) 1 (Zo ((s++(63::nm))++(58::wdF so)))])→∃bx2 lv2 nt2 p' v',(⟨B,0,(nt+1)::lv3,nt+1+1⟩:Heap)=⟨bx2,0,lv2,nt2⟩∧nth bx2 id=some (.sp 49 [p',v'])∧BdS id p' v' (s++((63::nm)++(58::wdF so))) lv2 nt2∧FrB id bx bx2:=fun B e=>by subst e;refine⟨_,_,_,_,_,rfl,Yi (Yj hb1),?_,hF1.trans (.set _)⟩;rw[← List.append_assoc];exact .tok _ _ _ _ (V6 _ (by simp)) List.mem_cons_self (Nat.lt_succ_self _));clear ih hb hS hj hj2 hcase hw hb0 hF0 hF1 hF2 hBY hb1 hS1 hso;generalize 58::wdF so=wz at a2 hc3 hfin;subst hBX;refine Zw (own:=fun _=>false) tOk fe79.ok ?_;refine Wp.seq ?_;(repeat' first|refine Jc hc ?_|refine Jc hc3 ?_|refine Ko ?_|refine Ki ?_|refine Ka ?_|fail);exact RetR.ret rfl ⟨rfl,hfin _ rfl⟩}};rw[if_neg hk1];obtain rfl:k=2:=by omega
  obtain⟨lv',hc⟩:=wrS hb0 hS (x:=(nm++ [58])++wdF so) (by rw[List.append_assoc];exact V6 _ (by simp)) (by simp only[List.length_append,List.length_cons,List.length_nil];omega);have a1:=ZaU (a:=nm) (b:=[58]) (by simp only[List.length_cons,List.length_nil];omega);have a2:=ZaU (a:=nm++ [58]) (b:=wdF so) (by simp only[List.length_append,List.length_cons,List.length_nil];omega);have hres:∀bx',bx'=BX.set id (.sp 49 [.ptr id 2 0 0,.sl (.tok nt) 1 (Zo (s++((nm++ [58])++wdF so)))])→∃bx2 lv2 nt2 p' v',(⟨bx',0,nt::lv',nt+1⟩:Heap)=⟨bx2,0,lv2,nt2⟩∧nth bx2 id=some (.sp 49 [p',v'])∧BdS id p' v' (s++((nm++ [58])++wdF so)) lv2 nt2∧FrB id bx bx2:=fun bx' e=>by subst e;exact⟨_,_,_,_,_,rfl,Yi (Yj hb0),.tok _ _ _ _ (V6 _ (by rw[List.append_assoc];exact V6 _ (by simp))) List.mem_cons_self (Nat.lt_succ_self _),hF0.trans (.set _)⟩
  have hLe:BX.length≤(BX.set id (.sp 49 [.ptr id 2 0 0,.sl (.tok nt) 1 (Zo (s++((nm++ [58])++wdF so)))])).length:=by simp
  clear ih hb hS hj hcase hw hb0 hF0;subst hBX;have hbt:Nat.blt bx.length (bx++ [Box.cells 4 [[.int .i64 2,.str nm,.int .i64 so,slV b 4 (Za kz)]]]).length=true:=by simp[Nat.blt]
  refine Zw (own:=fun _=>false) tOk fe79.ok ?_;refine Wp.seq ?_;repeat' first|refine Ki ?_|refine Ka ?_|refine KG ?_|(apply dLd;rfl;rfl;rfl;assumption;exact IsV.any _;(first|rfl|(show Nat.blt _ _=true;first|assumption|(simp[Nat.blt];done))))|refine Kb ?_|fail
  refine dCe rfl rfl rfl rfl rfl hc hLe ?_;repeat' first|refine Jo ?_|fail
  exact RetR.ret rfl ⟨rfl,hres _ rfl⟩
