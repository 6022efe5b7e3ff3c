/-
  Itoa, Atoi, Split, Cut: what the shelf says of them.
-/
import Derived.Test.YtnghnjdabbjcnaaGreatDoorVYna
import Derived.Lib.Hide
import Derived.BigGuard
set_option maxHeartbeats 0
set_option maxRecDepth 100000
namespace Go.Vm
def wdF (s:Int):Bs:=if s=0 then[97,110,121] else if s=1 then[97,103,101,110,116] else if s=2 then[110,111,110,99,101] else if s=3 then[107,101,121] else if s=4 then[100,97,116,97] else[116,97,103]
mutual
def wT:Tm→Bs
 | .mk k nm s _ kz=>if k=3 then(nm++ [40])++(wL kz true++ [41]) else if k=1 then(63::nm)++(if s=0 then[] else 58::wdF s) else(nm++ [58])++wdF s
def wL:List Tm→Bool→Bs
 | [],_=>[]
 |t::r,f=>(if f=true then[] else[44,32])++(wT t++wL r false)
end
mutual
def Tm.wr:Tm→Bool
 | .mk k nm s _ kz=>decide (nm.length≤24)&&(if k=3 then wrL kz else decide (k=1∨k=2)&&(decide (0≤s)&&decide (s≤5)))
def wrL:List Tm→Bool
 | []=>true
 |t::r=>t.wr&&wrL r
end
theorem Zed (s:Int):(wdF s).length≤5:=by
 unfold wdF;split; · decide
 split; · decide
 split; · decide
 split; · decide
 split<;>decide
mutual
theorem Zc9:∀t:Tm,t.wr=true→(wT t).length+2≤33*t.size
 | .mk k nm s b kz,h=>by rw[Tm.wr,Bool.and_eq_true,decide_eq_true_eq]at h;rw[wT,Tm.size];have h1:=h.1;split;{rename_i hk;rw[if_pos hk]at h;have:=ZcS kz true h.2;simp only[List.length_append,List.length_cons,List.length_nil];omega};{have:=Zed s;split;{split<;>(simp only[List.length_append,List.length_cons,List.length_nil];omega)};{simp only[List.length_append,List.length_cons,List.length_nil];omega}}
theorem ZcS:∀(l:List Tm) (f:Bool),wrL l=true→(wL l f).length≤33*Zk l
 | [],f,_=>by simp[wL]
 |t::r,f,h=>by
  rw[wrL,Bool.and_eq_true]at h;have h1:=Zc9 t h.1;have h2:=ZcS r false h.2;rw[wL,Zk];have h3:(if f=true then([]:Bs) else[44,32]).length≤2:=by split<;>decide
  simp only[List.length_append];omega
end
theorem Zmb:∀(a b:List Tm) (f:Bool),wL (a++b) f=wL a f++wL b (f&&a.isEmpty)
 | [],b,f=>by simp[wL]
 |t::r,b,f=>by rw[List.cons_append,wL,wL,Zmb r b false];simp
theorem Ziw {l:List Tm} {i:Nat} {x:Tm} (h:l[i]? = some x):wL (l.take (i+1)) true=wL (l.take i) true++((if i=0 then[] else[44,32])++wT x):=by
 have hlt:i<l.length:=by by_cases e:i<l.length;{exact e};{rw[List.getElem?_eq_none (by omega)]at h;cases h}
 rw[List.take_add_one,h,Zmb];simp only[Option.toList_some,wL,List.append_nil,Bool.true_and];congr 2;by_cases hi:i=0;{subst hi;simp};{rw[if_neg hi,if_neg];simp[hi];intro e;subst e;simp at hlt}
theorem Zhm:∀{l:List Tm},wrL l=true→∀x,x∈l→x.wr=true
 |a::r,h,x,hx=>by rw[wrL,Bool.and_eq_true]at h;rcases List.mem_cons.1 hx with e|hx;{rw[e];exact h.1};{exact Zhm h.2 x hx}
theorem Zcw:∀{l:List Tm},wrL l=true→∀i,wrL (l.take i)=true
 | [],_,i=>by simp[wrL]
 |a::r,h,0=>rfl
 |a::r,h,i+1=>by rw[wrL,Bool.and_eq_true]at h;rw[List.take_succ_cons,wrL,h.1,Zcw h.2 i];rfl
structure FrB (id:Nat) (bx bx':List Box):Prop where
 l:bx.length≤bx'.length
 f:∀j,j<bx.length→j≠id→nth bx' j=nth bx j
theorem FrB.trans {id:Nat} {a b c:List Box} (h:FrB id a b) (h2:FrB id b c):FrB id a c:=
 ⟨Nat.le_trans h.l h2.l,fun j hj hn=>(h2.f j (Nat.lt_of_lt_of_le hj h.l) hn).trans (h.f j hj hn)⟩
theorem FrB.more {id:Nat} {a:List Box} (B:Box):FrB id a (a++ [B]):=
 ⟨by simp,fun j hj _=>by rw[Zm,Zm,List.getElem?_append_left hj]⟩
theorem FrB.set {id:Nat} {a:List Box} (B:Box):FrB id a (a.set id B):=
 ⟨by simp,fun j hj hn=>by rw[Zm,Zm,List.getElem?_set];rw[if_neg (Ne.symm hn)]⟩
end Go.Vm
namespace Go.Vm.Seat
variable {L:List Box} {j:Nat} {k s:Int} {nm:Bs} {b:Bool} {kz:List Tm}
open Go.Proofs
theorem ZbW {bx:List Box} {id:Nat} {B C:Box} (h:nth bx id=some B):nth (bx++ [C]) id=some B:=by have:=YI h;rw[Zm]at h ⊢;rw[List.getElem?_append_left this,h]
theorem ZvV (h:nth L j=some (.cells 4 [[.int .i64 k,.str nm,.int .i64 s,slV b 4 (Za kz)]])) (lv:List Nat) (nt:Nat):ZZ E0 3 (.ptr j 4 0 0) ⟨L,0,lv,nt⟩=some (.int .i64 k):=by
 have e:E0.T 3=some ⟨.int .i64,1,8,.int .i64 0⟩:=by kernel_rfl
 rw[Zm]at h;simp[ZZ,e,Heap.rd,Zm,h,Qe,XL]
theorem Zvu (h:nth L j=some (.cells 4 [[.int .i64 k,.str nm,.int .i64 s,slV b 4 (Za kz)]])) (lv:List Nat) (nt:Nat):ZZ E0 9 (.ptr j 4 0 1) ⟨L,0,lv,nt⟩=some (.str nm):=by
 have e:E0.T 9=some ⟨.string,1,16,.str []⟩:=by kernel_rfl
 rw[Zm]at h;simp[ZZ,e,Heap.rd,Zm,h,Qe,XL]
theorem Ztv (h:nth L j=some (.cells 4 [[.int .i64 k,.str nm,.int .i64 s,slV b 4 (Za kz)]])) (lv:List Nat) (nt:Nat):ZZ E0 3 (.ptr j 4 0 2) ⟨L,0,lv,nt⟩=some (.int .i64 s):=by
 have e:E0.T 3=some ⟨.int .i64,1,8,.int .i64 0⟩:=by kernel_rfl
 rw[Zm]at h;simp[ZZ,e,Heap.rd,Zm,h,Qe,XL]
theorem Zvv (h:nth L j=some (.cells 4 [[.int .i64 k,.str nm,.int .i64 s,slV b 4 (Za kz)]])) (lv:List Nat) (nt:Nat):ZZ E0 30 (.ptr j 4 0 3) ⟨L,0,lv,nt⟩=some (slV b 4 (Za kz)):=by
 have e:E0.T 30=some ⟨.slice 39,1,24,.nils⟩:=by kernel_rfl
 rw[Zm]at h;simp[ZZ,e,Heap.rd,Zm,h,Qe,XL]
theorem Zts {x:Tm} (h:nth L j=some (.cells 4 [x.cells])) (lv:List Nat) (nt:Nat):ZZ E0 39 (.ptr j 4 0 0) ⟨L,0,lv,nt⟩=some (.agg x.cells):=by obtain⟨k',nm',s',b',kz'⟩:=x;exact WT rfl rfl (el:=[(Tm.mk k' nm' s' b' kz').cells]) h rfl rfl
theorem Zuh (bx:List Box) (x:Tm) (lv:List Nat) (nt:Nat):Heap.wr ⟨bx++ [.cells 4 [zcT]],0,lv,nt⟩ (.ptr bx.length 4 0 0) x.cells=some ⟨bx++ [.cells 4 [x.cells]],0,lv,nt⟩:=by obtain⟨k',nm',s',b',kz'⟩:=x;have h:=U6 (H:=⟨bx++ [.cells 4 [zcT]],0,lv,nt⟩) (id:=bx.length) (es:=4) (ix:=0) (off:=0) (el:=[zcT]) (cs:=(Tm.mk k' nm' s' b' kz').cells) (old:=zcT) (XJ _ _) rfl (Nat.le_refl 4) (Nat.zero_le _);rw[h];simp[Tm.cells,zcT]
def Zs9 (f:FuncId) (args:List PV) (id:Nat) (bx:List Box) (lv:List Nat) (nt:Nat) (s x:Bs):Prop:=
 ∃r H',CO f args ⟨bx,0,lv,nt⟩ r H'∧r= .tup []∧∃bx' lv' nt' p' v',H'=⟨bx',0,lv',nt'⟩∧nth bx' id=some (.sp 49 [p',v'])∧BdS id p' v' (s++x) lv' nt'∧FrB id bx bx'
theorem Wk {α:Type} (a:List α) {b:List α} (h:b≠ []):a++b≠ []:=fun e=>h (List.append_eq_nil_iff.1 e).2
theorem Z3 {a b:Bs} (h:a.length+b.length≤281474976710656):XM E0 .add 9 (.str a) (.str b)=some (.str (a++b)):=by show Znr .add a b=_;simp only[Znr];rw[if_pos (by omega)]
theorem wrT {t:Tm} (ht:t.Ok):t.wr=true→∀{bx:List Box} {lv:List Nat} {nt id:Nat} {p v:PV} {s:Bs},nth bx id=some (.sp 49 [p,v])→BdS id p v s lv nt→s.length+40*t.size≤1000000→Zs9 79 [.ptr id 2 0 0,.agg t.cells] id bx lv nt s (wT t):=by
 induction ht with
 | @mk k nm so b kz hk hs hn hl hok ih=>
 intro hwr bx lv nt id p v s hb hS hlen;rw[Tm.wr,Bool.and_eq_true,decide_eq_true_eq]at hwr;obtain⟨hnl,hwr⟩:=hwr;obtain⟨BX,hBX⟩:∃BX,BX=bx++ [.cells 4 [[.int .i64 k,.str nm,.int .i64 so,slV b 4 (Za kz)]]]:=⟨_,rfl⟩;have hF0:FrB id bx BX:=by rw[hBX];exact .more _
 have hlt:=YI hb;have hb0:nth BX id=some (.sp 49 [p,v]):=by rw[hBX];exact ZbW hb
 have hj:nth BX bx.length=some (.cells 4 [[.int .i64 k,.str nm,.int .i64 so,slV b 4 (Za kz)]]):=by rw[hBX];exact XJ _ _
 have l0:=ZvV hj lv nt;have l1:=Zvu hj lv nt;have l2:=Ztv hj lv nt;rw[wT];rw[Tm.size]at hlen;by_cases hk3:k=3
 ·subst hk3;rw[if_pos rfl]at hwr ⊢;have hwm:=Zhm hwr;have hwl:=ZcS kz true hwr;have hkl:=Zb kz;have hks:=Yl kz;have a1:=Z3 (a:=nm) (b:=[40]) (by simp only[List.length_cons,List.length_nil];omega);obtain⟨lv',hc⟩:=wrS hb0 hS (x:=nm++ [40]) (Wk _ (by simp)) (by simp only[List.length_append,List.length_cons,List.length_nil];omega);obtain⟨BY,hBY⟩:∃BY,BY=BX.set id (.sp 49 [.ptr id 2 0 0,.sl (.tok nt) 1 (Zo (s++(nm++ [40])))]):=⟨_,rfl⟩;have hF1:FrB id bx BY:=by rw[hBY];exact hF0.trans (.set _)
  have hF2:FrB id BX BY:=by rw[hBY];exact .set _
  have hlx:=YI hj;have l3:=Zvv (L:=BY) (by rw[hF2.f _ hlx (by omega)];exact hj) (nt::lv') (nt+1);have hb1:nth BY id=some (.sp 49 [.ptr id 2 0 0,.sl (.tok nt) 1 (Zo (s++(nm++ [40])))]):=by rw[hBY];exact YV (YI hb0)
  have hS1:BdS id (.ptr id 2 0 0) (.sl (.tok nt) 1 (Zo (s++(nm++ [40])))) (s++(nm++ [40])) (nt::lv') (nt+1):= .tok _ _ _ _ (Wk _ (Wk _ (by simp))) List.mem_cons_self (Nat.lt_succ_self _);rw[← hBY]at hc;clear hb hS hj hb0 hF0 hF2 hBY hlx;subst hBX;refine Zt (own:=fun _=>false) tOk fe79.ok ?_;refine Wp.seq ?_;repeat' first|refine Jc hc ?_|refine Ji ?_|refine Kf ?_|refine KJ ?_|fail
  refine Wp.while (fun m tm H => ∃(i : Nat) (base : TM) (B1 : List Box) (lv1 : List Nat) (nt1 : Nat) (p1 v1 : PV), i + m = kz.length ∧ nth B1 id = some (.sp 49 [p1, v1]) ∧ BdS id p1 v1 ((s ++ (nm ++ [40])) ++ wL (kz.take i) true) lv1 nt1 ∧ FrB id bx B1 ∧
    tm=ovr base [(0,.ptr id 2 0 0),(45,slV b 4 (Za kz)),(46,.int .i64 (kz.length:Int)),(47,.int .i64 (i:Int))]∧H=⟨B1,0,lv1,nt1⟩)
   (fun m tm H hI=>?_) kz.length _ _ ⟨0,_,_,_,_,_,_,by omega,hb1,by rw[List.take_zero,wL,List.append_nil];exact hS1,hF1,Ze ⟨rfl,rfl,Zg (by rw[hkl]),rfl,trivial⟩,rfl⟩
  obtain⟨i,base,B1,lv1,nt1,p1,v1,hi,hB1,hS2,hF,rfl,rfl⟩:=hI;clear hb1 hS1 hF1 l0 l1 l2 l3 hc a1;have hlx:=Zu (i:Int) (kz.length:Int);by_cases hlt2:i<kz.length;{obtain⟨x,hx⟩:∃x,kz[i]? = some x:=⟨kz[i],by simp⟩;rw[decide_eq_true (by omega)]at hlx;have hm:=List.mem_of_getElem? hx;have hsnoc:=Ziw hx;(have hsum:(wL (kz.take i) true).length+42*0≤40*Zk (kz.take i):=by have:wrL (kz.take i)=true:=Zcw hwr i;have:=ZcS (kz.take i) true this;omega);have hst:=Wo hx;have hst2:=ZA kz (i+1);have hal:∀ρ,aOp E0 false ρ (.alloc 39) ⟨B1,0,lv1,nt1⟩=some (.ptr B1.length 4 0 0,⟨B1++ [.cells 4 [zcT]],0,lv1,nt1⟩):=fun ρ=>rfl;have hwt:=Zuh B1 x lv1 nt1;have hB2:nth (B1++ [.cells 4 [x.cells]]) id=some (.sp 49 [p1,v1]):=ZbW hB1;have hid:=YI hB1;have hxs:=Zc9 x (hwm x hm);have q4:=Xq (i:Int) 0;by_cases hi0:i=0;{rw[decide_eq_false (by omega)]at q4;rw[if_pos hi0,List.nil_append]at hsnoc;obtain⟨r,H',hcr,rfl,bx',lv2,nt2,p2,v2,rfl,hb2,hS3,hF3⟩:=ih x hm (hwm x hm) hB2 hS2 (by simp only[List.length_append,List.length_cons,List.length_nil];omega);have hldt:=Zts (L:=B1++ [.cells 4 [x.cells]]) (XJ B1 _) lv1 nt1;rw[List.append_assoc, ← hsnoc]at hS3;have hFF:=hF.trans ((FrB.more _).trans hF3);clear ih hsum hB2 hS2 hF3;obtain⟨k',nm',s',b',kz'⟩:=x;have hjx:=Zj hx;simp only[Tm.cells]at hcr hldt hwt;(repeat' first|refine Jc hcr ?_|refine KC ?_|refine Kf ?_|refine Kt ?_|fail);exact LoopI.go (m-1) (by omega) ⟨i+1,_,bx',lv2,nt2,p2,v2,by omega,hb2,hS3,hFF,Ze ⟨rfl,rfl,rfl,Zg (Zd (n:=i+1) (by omega)),trivial⟩,rfl⟩};{rw[decide_eq_true (by omega)]at q4;rw[if_neg hi0]at hsnoc;obtain⟨lv3,hc3⟩:=wrS hB2 hS2 (x:=[44,32]) (by simp) (by simp only[List.length_append,List.length_cons,List.length_nil];omega);obtain⟨B3,hB3⟩:∃B3,B3=(B1++ [Box.cells 4 [x.cells]]).set id (.sp 49 [.ptr id 2 0 0,.sl (.tok nt1) 1 (Zo (((s++(nm++ [40]))++wL (kz.take i) true)++ [44,32]))]):=⟨_,rfl⟩;(have hF4:FrB id (B1++ [.cells 4 [x.cells]]) B3:=by rw[hB3];exact .set _);(have hb3:nth B3 id=some (.sp 49 [.ptr id 2 0 0,.sl (.tok nt1) 1 (Zo (((s++(nm++ [40]))++wL (kz.take i) true)++ [44,32]))]):=by rw[hB3];exact YV (YI hB2));have hS4:BdS id (.ptr id 2 0 0) (.sl (.tok nt1) 1 (Zo (((s++(nm++ [40]))++wL (kz.take i) true)++ [44,32]))) (((s++(nm++ [40]))++wL (kz.take i) true)++ [44,32]) (nt1::lv3) (nt1+1):= .tok _ _ _ _ (Wk _ (by simp)) List.mem_cons_self (Nat.lt_succ_self _);have hldt:=Zts (L:=B3) (x:=x) (j:=B1.length) (by rw[hF4.f _ (by simp) (by omega)];exact XJ B1 _) (nt1::lv3) (nt1+1);rw[← hB3]at hc3;obtain⟨r,H',hcr,rfl,bx',lv2,nt2,p2,v2,rfl,hb2,hS3,hF3⟩:=ih x hm (hwm x hm) hb3 hS4 (by simp only[List.length_append,List.length_cons,List.length_nil];omega);rw[List.append_assoc,List.append_assoc, ← hsnoc]at hS3;have hFF:=hF.trans ((FrB.more _).trans (hF4.trans hF3));clear ih hsum hB2 hS2 hF3 hF4 hB3 hb3 hS4;obtain⟨k',nm',s',b',kz'⟩:=x;have hjx:=Zj hx;simp only[Tm.cells]at hcr hldt hwt hc3;(repeat' first|refine Jc hc3 ?_|refine Jc hcr ?_|refine KC ?_|refine Kf ?_|refine Kt ?_|fail);exact LoopI.go (m-1) (by omega) ⟨i+1,_,bx',lv2,nt2,p2,v2,by omega,hb2,hS3,hFF,Ze ⟨rfl,rfl,rfl,Zg (Zd (n:=i+1) (by omega)),trivial⟩,rfl⟩}}
  ·(have e : i = kz.length := by omega);subst e;rw[decide_eq_false (by omega)]at hlx;rw[List.take_length]at hS2;obtain⟨lv3,hc3⟩:=wrB hB1 hS2 (by simp only[List.length_append,List.length_cons,List.length_nil];omega);have hfin:∃bx2 lv2 nt2 p' v',(⟨B1.set id (.sp 49 [.ptr id 2 0 0,.sl (.tok nt1) 1 (Zo (((s++(nm++ [40]))++wL kz true)++ [41]))]),0,nt1::lv3,nt1+1⟩:Heap)=⟨bx2,0,lv2,nt2⟩∧nth bx2 id=some (.sp 49 [p',v'])∧BdS id p' v' (s++((nm++ [40])++(wL kz true++ [41]))) lv2 nt2∧FrB id bx bx2:=
    ⟨_, _, _, _, _, rfl, YV (YI hB1), by
      have e:s++((nm++ [40])++(wL kz true++ [41]))=((s++(nm++ [40]))++wL kz true)++ [41]:=by simp only[List.append_assoc]
      rw[e]
      exact .tok _ _ _ _ (Wk _ (by simp)) List.mem_cons_self (Nat.lt_succ_self _),hF.trans (.set _)⟩
   clear ih hS2 hB1;(repeat' first|refine Jc hc3 ?_|refine Ki ?_|fail);all_goals exact RetR.go rfl ⟨rfl,hfin⟩
 ·rw[if_neg hk3]at hwr ⊢;simp only[Bool.and_eq_true,decide_eq_true_eq]at hwr;obtain⟨hk12,h0,h5⟩:=hwr;have hw:=Zed so;have hcase:so=0∨so=1∨so=2∨so=3∨so=4∨so=5:=by omega
  have hiw:Zy E0 29 (wordsC.getD 0 .undef) (.int .i64 so)=some (.fptr [.str (wdF so)] 0):=by rcases hcase with rfl|rfl|rfl|rfl|rfl|rfl<;>rfl
  have hbt0:Nat.blt bx.length (bx++ [Box.cells 4 [[.int .i64 k,.str nm,.int .i64 so,slV b 4 (Za kz)]]]).length=true:=by simp[Nat.blt]
  by_cases hk1:k=1;{subst hk1;rw[if_pos rfl];have a1:=Z3 (a:=[63]) (b:=nm) (by simp only[List.length_cons,List.length_nil];omega);rw[show([63]:Bs)++nm=63::nm from rfl]at a1;obtain⟨lv',hc⟩:=wrS hb0 hS (x:=63::nm) (by simp) (by simp only[List.length_append,List.length_cons];omega);obtain⟨BY,hBY⟩:∃BY,BY=BX.set id (.sp 49 [.ptr id 2 0 0,.sl (.tok nt) 1 (Zo (s++(63::nm)))]):=⟨_,rfl⟩;(have hF1:FrB id bx BY:=by rw[hBY];exact hF0.trans (.set _));(have hF2:FrB id BX BY:=by rw[hBY];exact .set _);have hlx:=YI hj;(have hj2:nth BY bx.length=some (.cells 4 [[.int .i64 1,.str nm,.int .i64 so,slV b 4 (Za kz)]]):=by rw[hF2.f _ hlx (by omega)];exact hj);have l3:=Ztv hj2 (nt::lv') (nt+1);(have hb1:nth BY id=some (.sp 49 [.ptr id 2 0 0,.sl (.tok nt) 1 (Zo (s++(63::nm)))]):=by rw[hBY];exact YV (YI hb0));have hS1:BdS id (.ptr id 2 0 0) (.sl (.tok nt) 1 (Zo (s++(63::nm)))) (s++(63::nm)) (nt::lv') (nt+1):= .tok _ _ _ _ (Wk _ (by simp)) List.mem_cons_self (Nat.lt_succ_self _);rw[← hBY]at hc;have n0:=Q9 so 0;by_cases hso:so=0;{rw[decide_eq_true hso]at n0;rw[if_pos hso,List.append_nil];have hfin:∃bx2 lv2 nt2 p' v',(⟨BY,0,nt::lv',nt+1⟩:Heap)=⟨bx2,0,lv2,nt2⟩∧nth bx2 id=some (.sp 49 [p',v'])∧BdS id p' v' (s++(63::nm)) lv2 nt2∧FrB id bx bx2:=⟨_,_,_,_,_,rfl,hb1,hS1,hF1⟩;clear ih hb hS hj hj2 hcase hw hb0 hF0 hiw hF1 hF2 hBY hb1 hS1 hso;subst hBX;refine Zt (own:=fun _=>false) tOk fe79.ok ?_;refine Wp.seq ?_;(repeat' first|refine Jc hc ?_|refine Ji ?_|refine Kf ?_|refine Ka ?_|fail);exact RetR.ret rfl ⟨rfl,hfin⟩};{rw[decide_eq_false hso]at n0;rw[if_neg hso];have a2:=Z3 (a:=[58]) (b:=wdF so) (by simp only[List.length_cons,List.length_nil];omega);rw[show([58]:Bs)++wdF so=58::wdF so from rfl]at a2;obtain⟨lv3,hc3⟩:=wrS hb1 hS1 (x:=58::wdF so) (by simp) (by simp only[List.length_append,List.length_cons];omega);(have hfin:∀B,B=BY.set id (.sp 49 [.ptr id 2 0 0,.sl (.tok (nt+1)) 1 (Zo ((s++(63::nm))++(58::wdF so)))])→∃bx2 lv2 nt2 p' v',(⟨B,0,(nt+1)::lv3,nt+1+1⟩:Heap)=⟨bx2,0,lv2,nt2⟩∧nth bx2 id=some (.sp 49 [p',v'])∧BdS id p' v' (s++((63::nm)++(58::wdF so))) lv2 nt2∧FrB id bx bx2:=fun B e=>by subst e;refine⟨_,_,_,_,_,rfl,YV (YI hb1),?_,hF1.trans (.set _)⟩;rw[← List.append_assoc];exact .tok _ _ _ _ (Wk _ (by simp)) List.mem_cons_self (Nat.lt_succ_self _));clear ih hb hS hj hj2 hcase hw hb0 hF0 hF1 hF2 hBY hb1 hS1 hso;generalize 58::wdF so=wz at a2 hc3 hfin;subst hBX;refine Zt (own:=fun _=>false) tOk fe79.ok ?_;refine Wp.seq ?_;(repeat' first|refine Jc hc ?_|refine Jc hc3 ?_|refine KG ?_|refine Kf ?_|refine Ka ?_|fail);exact RetR.ret rfl ⟨rfl,hfin _ rfl⟩}};rw[if_neg hk1];obtain rfl:k=2:=by omega
  obtain⟨lv',hc⟩:=wrS hb0 hS (x:=(nm++ [58])++wdF so) (by rw[List.append_assoc];exact Wk _ (by simp)) (by simp only[List.length_append,List.length_cons,List.length_nil];omega);have a1:=Z3 (a:=nm) (b:=[58]) (by simp only[List.length_cons,List.length_nil];omega);have a2:=Z3 (a:=nm++ [58]) (b:=wdF so) (by simp only[List.length_append,List.length_cons,List.length_nil];omega);have hres:∀bx',bx'=BX.set id (.sp 49 [.ptr id 2 0 0,.sl (.tok nt) 1 (Zo (s++((nm++ [58])++wdF so)))])→∃bx2 lv2 nt2 p' v',(⟨bx',0,nt::lv',nt+1⟩:Heap)=⟨bx2,0,lv2,nt2⟩∧nth bx2 id=some (.sp 49 [p',v'])∧BdS id p' v' (s++((nm++ [58])++wdF so)) lv2 nt2∧FrB id bx bx2:=fun bx' e=>by subst e;exact⟨_,_,_,_,_,rfl,YV (YI hb0),.tok _ _ _ _ (Wk _ (by rw[List.append_assoc];exact Wk _ (by simp))) List.mem_cons_self (Nat.lt_succ_self _),hF0.trans (.set _)⟩
  have hLe:BX.length≤(BX.set id (.sp 49 [.ptr id 2 0 0,.sl (.tok nt) 1 (Zo (s++((nm++ [58])++wdF so)))])).length:=by simp
  clear ih hb hS hj hcase hw hb0 hF0;subst hBX;have hbt:Nat.blt bx.length (bx++ [Box.cells 4 [[.int .i64 2,.str nm,.int .i64 so,slV b 4 (Za kz)]]]).length=true:=by simp[Nat.blt]
  refine Zt (own:=fun _=>false) tOk fe79.ok ?_;refine Wp.seq ?_;repeat' first|refine Kf ?_|refine Ka ?_|refine JD ?_|refine JK ?_|(apply dLd;rfl;rfl;rfl;assumption;exact IsV.any _;(first|rfl|(show Nat.blt _ _=true;first|assumption|(simp[Nat.blt];done))))|refine Kb ?_|fail
  refine dCe rfl rfl rfl rfl rfl hc hLe ?_;repeat' first|refine Jo ?_|fail
  exact RetR.ret rfl ⟨rfl,hres _ rfl⟩
end Go.Vm.Seat
namespace Go.Vm
variable {a b v:Value} {S:VN} {p q:PV}
theorem QT (h:Zeh v=true):∃t p,v= .iface t p:=by cases v<;>first|exact⟨_,_,rfl⟩|cases h
theorem ZdK (h:ZhX v=true):∃m,v= .int .i64 m:=by
 cases v with
 |int k m=>cases k<;>first|exact⟨_,rfl⟩|cases h
 |_=>cases h
noncomputable def ZiK (s:List UInt8):PV:=match Lib.atoiAll s with
 | .ok v=> .tup [.int .i64 v,.nili]
 | .range=> .tup [.int .i64 (Lib.atoiSat s),.ifc]
 |_=> .tup [.int .i64 0,.ifc]
theorem V0.tup2 (h:V0 S p a) (h2:V0 S q b):V0 S (.tup [p,q]) (.tuple #[a,b]):=by
 refine .tup _ _ rfl fun i hi=>?_;match i,hi with
 |0,_=>exact h
 |1,_=>exact h2
 |n+2,h=>exact absurd h (by simp)
theorem V0.tup3 {r:PV} {c:Value} (h:V0 S p a) (h2:V0 S q b) (h3:V0 S r c):V0 S (.tup [p,q,r]) (.tuple #[a,b,c]):=by
 refine .tup _ _ rfl fun i hi=>?_;match i,hi with
 |0,_=>exact h
 |1,_=>exact h2
 |2,_=>exact h3
 |n+3,h=>exact absurd h (by simp)
end Go.Vm
namespace Go.Vm.Seat
variable {n:Int} {s sep:List UInt8}
open Go.Proofs Go.RowKit Go.Sort
def ZmW (w:World):Prop:=∀j,j<20→w.cell? ⟨4,j,none⟩=some (.int .u64 ((10 ^ j:Nat):Int))
theorem ZuN (u:Nat) (h1:1≤u) (h2:u<18446744073709551616) (w:World) (htab:ZmW w):Calls Tryz.prog 155 #[.int .u64 u] w fun e w'=>e= .returned (.int .i64 (Lib.nDigits u))∧w'=w:=by
 obtain⟨hnd,h19⟩:=Lib.numDigits_eq u h1 h2;have hL:Lib.bitLen u≤64:=Lib.bitLen_le u 64 (Nat.le_refl _) h2;have hcell:=htab (Lib.l10 (Lib.bitLen u)) (by omega);have hto:((u:Int)).toNat=u:=by omega
 generalize hq:Lib.l10 (Lib.bitLen u)=q at hnd h19 hcell;generalize hT:10 ^ q=T at hnd hcell;have h20:q<20:=by omega
 have Hnd:=Lib.hid hnd;clear hnd htab;have mixed:=follows;go_enter Tryz.func155,Tryz.ntmps155;go_wp2_with (first
  | (go_at_call 113;refine(Tryz.bits_Len64 _ _ (by omega) (by omega)).mono ?_;rintro e w' ⟨rfl,rfl⟩)
  | (go_at_call 183;refine(Tryz.internal_strconv_log10Pow2 _ (by first|exact hL|(rw[hto];exact hL)) _).mono ?_;rintro e w' ⟨rfl,rfl⟩)
  | (go_at_call 184;refine(Tryz.internal_strconv_bool2_int _ _).mono ?_;rintro e w' ⟨rfl,rfl⟩))
 all_goals go_ret
 all_goals (
  refine⟨?_,rfl⟩
  have hnd:=Hnd.out
  congr 2
  split at hnd<;>simp_all<;>omega)
theorem ZuF (u : Nat) (hu1 : 100 ≤ u) (hu2 : u ≤ 999999) (w : World) (htab : ZmW w) :
  Calls Tryz.prog 115 #[.int .i64 u,.int .i64 10] w fun e w'=>e= .returned (.string ⟨(Lib.decDigits u).toArray⟩)∧Below w.heap.size w w':=by
 have hu64:u<18446744073709551616:=by omega
 have hnd20:Lib.nDigits u≤20:=by have:=Lib.numDigits_eq u (by omega) hu64;split at this<;>omega
 have hb3:Lib.nDigits u≤23:=by omega
 have hlt:4<w.heap.size:=Lib.lt_of_cell (htab 0 (by omega))
 have htab2:ZmW (w.alloc (.cells Lib.zeros24 169)):=fun j hj=>by
  rw[← htab j hj]
  exact World.cell?_of_block (w:=w) (Below.heap_alloc w _ _ hlt)
 have hal:Tryz.prog.arrayLen 169=24:=by kernel_rfl
 have hsl1:∀W,(Instr.sliceAt 169 (.pointer (some ⟨w.heap.size,0,none⟩)) (some (.int .i64 1)) (some (.int .i64 (1+(Lib.nDigits u:Int)))) none).run Tryz.prog W= .ok (.slice (some ⟨w.heap.size,1,none⟩) (Lib.nDigits u) 23) W:=fun W=>by
  rw[run_sliceAt_array_lh W 169 ⟨w.heap.size,0,none⟩ (by kernel_rfl) .i64 .i64 1 (1+(Lib.nDigits u:Int)) (by omega) (by omega) (by rw[hal];omega)]
  go_simp
  omega
 have hH0:=Lib.holds_zero w 169 (Lib.nDigits u) (by omega)
 have hfmt:=Tryz.internal_strconv_formatBase10 w.heap.size 1 23 u (Array.replicate (Lib.nDigits u) 0) (w.alloc (.cells Lib.zeros24 169)) hH0 (by rw[Array.size_replicate];exact Lib.lt_pow_nDigits u) hu64 (by rw[Array.size_replicate];omega)
 rw[Array.size_replicate]at hfmt
 have HH0:=Lib.hid hH0
 clear hH0 hal
 have mixed:=follows
 go_enter Tryz.func115,Tryz.ntmps115
 go_wp2_with (first
  | (go_at_call 155;refine(ZuN u (by omega) hu64 _ htab2).mono ?_;rintro e w' ⟨rfl,rfl⟩))
 go_at_call 156
 refine hfmt.mono ?_
 rintro e w' ⟨rfl,k,v',dk,rfl,hF⟩
 have hcv:(convert 47 9 (.slice (some ⟨w.heap.size,1,none⟩) (Lib.nDigits u) 23)).run Tryz.prog ((putRow (fun (b:UInt8)=>Value.int .u8 (b.toNat:Int)) (w.alloc (.cells Lib.zeros24 169)) w.heap.size 1 dk).drewN k)= .ok (.string ⟨(Lib.decDigits u).toArray⟩) ((putRow (fun (b:UInt8)=>Value.int .u8 (b.toNat:Int)) (w.alloc (.cells Lib.zeros24 169)) w.heap.size 1 dk).drewN k):=by
  have h:=run_convert_bytes_back (P:=Tryz.prog) ((putRow (fun (b:UInt8)=>Value.int .u8 (b.toNat:Int)) (w.alloc (.cells Lib.zeros24 169)) w.heap.size 1 dk).drewN k) 47 9 5 ⟨w.heap.size,1,none⟩ 23 (Lib.decDigits u) Tryz.underlying47 Tryz.underlying5 Tryz.underlying9 (fun j hj=>by
   rw[Lib.row_is_numeral hF j hj,Lib.add_plain,World.cell?_drewN]
   exact cell?_putRow (fun (b:UInt8)=>Value.int .u8 (b.toNat:Int)) _ w.heap.size 1 _ dk HH0.out (by rw[hF.size,Array.size_replicate]) j (by rw[hF.size];rw[Lib.decDigits_length]at hj;exact hj))
  rw[Lib.decDigits_length]at h
  exact h
 go_wp2
 go_ret
 obtain⟨os,eo⟩:=Lib.fin_pos w (.cells Lib.zeros24 169) dk k
 refine⟨rfl,?_⟩
 rw[eo]
 exact ZgH w k os
theorem ZvM (u:Nat) (hu:u<100) (w:World):Calls Tryz.prog 115 #[.int .i64 u,.int .i64 10] w fun e w'=>e= .returned (.string ⟨(Lib.decDigits u).toArray⟩)∧Below w.heap.size w w':=by have mixed:=follows;go_enter Tryz.func115,Tryz.ntmps115;go_wp2_with (go_at_call 154;refine(Tryz.internal_strconv_small u hu _).mono ?_;rintro e w' ⟨rfl,rfl⟩);go_ret;exact⟨rfl,Below.refl _ _⟩
theorem Zih:∀j,j<20→Zbj[j]? = some (.int .u64 ((10 ^ j:Nat):Int)):=by
 intro j hj
 rcases(show j=0∨j=1∨j=2∨j=3∨j=4∨j=5∨j=6∨j=7∨j=8∨j=9∨j=10∨j=11∨j=12∨j=13∨j=14∨j=15∨j=16∨j=17∨j=18∨j=19 by omega) with
  rfl|rfl|rfl|rfl|rfl|rfl|rfl|rfl|rfl|rfl|rfl|rfl|rfl|rfl|rfl|rfl|rfl|rfl|rfl|rfl<;>rfl
theorem ZtW (h0:0≤n) (h1:n≤999999):∀H,CO 115 [.int .i64 n,.int .i64 10] H (.str (Lib.itoa n)) H:=by obtain⟨u,rfl⟩:∃u:Nat,n=(u:Int):=⟨n.toNat,by omega⟩;refine Qs fe115.ok rfl fun g w vals hst hg hv=>?_;obtain⟨v0,v1,rfl,e0,e1⟩:=Xt hv;obtain rfl:=e0.int_inv;obtain rfl:=e1.int_inv;refine⟨.string ⟨(Lib.decDigits u).toArray⟩,.str _ _ (by rw[Lib.itoa_nonneg]),?_⟩;by_cases hs:u<100;{exact ZvM u hs w};{exact ZuF u (by omega) (by omega) w fun j hj=>ZqB hg (k:=4) rfl hst (Zih j hj)}
theorem c78 (h0:0≤n) (h1:n≤999999):∀H,CO 78 [.int .i64 n] H (.str (Lib.itoa n)) H:=by
 have hc:=ZtW h0 h1;refine Jw tOk fe78.ok rfl ?_;repeat' first|refine Jc (hc _) ?_|refine Jo ?_|fail
 all_goals rfl
theorem c41 (h0:0≤n) (h1:n≤999999):∀H,CO 41 [.int .i64 n] H (.str (Lib.itoa n)) H:=by
 have hc:=c78 h0 h1;refine Jw tOk fe41.ok rfl ?_;repeat' first|refine Jc (hc _) ?_|refine Jo ?_|fail
 all_goals rfl
theorem ZbN {b:ByteArray} (h:b.data.toList=s):b.size=s.length:=by rw[← h];simp
theorem c52 (hs:s.length≤1000000):∀H,CO 52 [.str s] H (ZiK s) H:=by
 refine ZbT fe52.ok rfl fun g w vals hst hg hv=>?_;obtain⟨v0,rfl,e0⟩:=ZeG hv;obtain⟨b,rfl,hb⟩:=e0.str_inv;have hz:=ZbN hb;obtain⟨c1,q1,r1⟩:=hg.2.2 2 Zeh rfl;obtain⟨c2,q2,r2⟩:=hg.2.2 3 Zeh rfl;obtain⟨t1,p1,rfl⟩:=QT r1;obtain⟨t2,p2,rfl⟩:=QT r2;have y1:=hst _ _ _ q1;have y2:=hst _ _ _ q2;unfold ZiK;cases h:Lib.atoiAll s with
 |ok v=>refine(Tryz.strconv_Atoi_ok b (by omega) v (by rw[hb];exact h) w).mono fun e w' ⟨h1,h2⟩=>⟨_,h1,V0.tup2 (.int _ _) .nili,?_⟩;rcases h2 with rfl|⟨t,rfl⟩;{exact Below.refl _ _};{exact Lib.bytesWorld_below _ _ _}
 |range=>have hc:=Tryz.strconv_Atoi_range b (by omega) (by rw[hb];exact h) _ w y2 (.inr ⟨_,_,rfl⟩);rw[hb]at hc;exact hc.mono fun e w' ⟨N,h1,_,_,h2⟩=>⟨_,h1,V0.tup2 (.int _ _) (.ifc _ _),h2⟩
 |_=>have hc:=Tryz.strconv_Atoi_syntax b (by omega) (fun v e=>by rw[hb,h]at e;cases e) (fun e=>by rw[hb,h]at e;cases e) _ w y1 (.inr ⟨_,_,rfl⟩);exact hc.mono fun e w' ⟨N,h1,_,_,h2⟩=>⟨_,h1,V0.tup2 (.int _ _) (.ifc _ _),h2⟩
theorem c49 (hs:s.length≤1000000) (h1:1≤sep.length):∀H,CO 49 [.str s,.str sep] H (.sl .none 1 (ZD (spl sep s))) H:=by
 refine ZeP fe49.ok fun g w vals hst hg hv=>?_;obtain⟨v0,v1,rfl,e0,e1⟩:=Xt hv;obtain⟨b,rfl,hb⟩:=e0.str_inv;obtain⟨c,rfl,hc⟩:=e1.str_inv;have hz:=ZbN hb;have hz2:=ZbN hc;obtain⟨c1,q1,r1⟩:=hg.2.2 1 ZhX rfl;obtain⟨m,rfl⟩:=ZdK r1;have hne:sep≠ []:=fun e=>by rw[e]at h1;simp at h1
 have hm:=Lib.splitB_data c 0 (Lib.countB b c) b;rw[hb,hc]at hm;have hcB:Lib.countB b c=Lib.count s sep:=by rw[← hb, ← hc]
 have hcall:=Tryz.strings_Split b c m w (by omega) (hst _ _ _ q1) (by omega);have hlen:=Lib.splitB_all c (by omega) 0 _ b rfl;refine⟨Lib.splitB c 0 (Lib.countB b c) b,9,?_,?_⟩;{rw[hm,hcB,ZjU hne _ s (Nat.le_refl _)]};{rw[hlen];exact hcall}
theorem c24 (hs:s.length≤1000000):∀H,CO 24 [.str s,.str sep] H (.tup [.str (Lib.cut s sep).1,.str (Lib.cut s sep).2.1,.bool (Lib.cut s sep).2.2]) H:=by refine Qs fe24.ok rfl fun g w vals hst hg hv=>?_;obtain⟨v0,v1,rfl,e0,e1⟩:=Xt hv;obtain⟨b,rfl,hb⟩:=e0.str_inv;obtain⟨c,rfl,hc⟩:=e1.str_inv;have hz:=ZbN hb;obtain⟨c1,q1,r1⟩:=hg.2.2 1 ZhX rfl;obtain⟨m,rfl⟩:=ZdK r1;have hcall:=Tryz.strings_Cut b c m w (by omega) (hst _ _ _ q1);rw[hb,hc]at hcall;refine⟨_,V0.tup3 (.str _ _ rfl) (.str _ _ rfl) (.bool _),hcall.mono fun e w' ⟨h1,n,h2⟩=>⟨h1,?_⟩⟩;subst h2;exact⟨rfl,rfl,rfl,Nat.le_refl _,fun _ _=>rfl⟩
