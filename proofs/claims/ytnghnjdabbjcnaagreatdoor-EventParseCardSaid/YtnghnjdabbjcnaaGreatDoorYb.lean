/-
  A parser of terms (the program's text): the word of a sort.
-/
import Derived.Test.YtnghnjdabbjcnaaGreatDoorQh
set_option maxHeartbeats 0
set_option maxRecDepth 100000
namespace Go.Vm
variable {S:List UInt8} {p:Nat}
abbrev pB (S:List UInt8) (p:Nat):Box:= .cells 2 [[.str S,.int .i64 (p:Int)]]
theorem X5 (n:Nat) (S:List UInt8) (p:Nat):Ys n (pB S p)=true:=by simp[Ys,ZC,under]
theorem Zfx {c:UInt8} (h:S[p]? = some c):ZZ (S.drop p)=if Xk c=true then c::ZZ (S.drop (p+1)) else[]:=by rw[ZB h,ZdQ]
theorem Za0 (s:List UInt8):s.take (ZZ s).length=ZZ s:=by have h:=X8 s;generalize s.drop (ZZ s).length=z at h;rw[congrArg (List.take (ZZ s).length) h,List.take_left]
theorem Znr {w:List UInt8} (h:Z7 w (S.drop p)=true):p+w.length≤max p S.length:=by rw[Z7,decide_eq_true_eq]at h;have:=congrArg List.length h;rw[List.length_take,List.length_drop]at this;omega
end Go.Vm
namespace Go.Vm.Seat
variable {S s w:List UInt8} {k p:Nat}
open Go.Proofs
theorem Zmh (a b:List UInt8):YS E0 .eql 9 (.str a) (.str b)=some (.bool (decide (a=b))):=by by_cases h:a=b;{subst h;rw[decide_eq_true rfl];show some (PV.bool (a==a))=_;simp};{rw[decide_eq_false h];exact Vq h}
theorem e9p:E0.T 9=some ⟨.string,1,16,.str []⟩:=by kernel_rfl
theorem ZrH (h:k≤s.length):Z1 E0 9 (.str s) none (some (.int .i64 (k:Int))) none=some (.str (s.take k)):=by
 have en:nat? (.int .i64 (k:Int))=some k:=by simp[nat?]
 simp only[Z1,e9p,XS,en];rw[if_pos h];rfl
theorem ZoR (h:k≤s.length):Z1 E0 9 (.str s) (some (.int .i64 (k:Int))) none none=some (.str (s.drop k)):=by
 have en:nat? (.int .i64 (k:Int))=some k:=by simp[nat?]
 simp only[Z1,e9p,XS,en];rw[if_pos h,List.take_length]
theorem ZrU {i n:Nat} (h:i+n≤s.length):Z1 E0 9 (.str s) (some (.int .i64 (i:Int))) (some (.int .i64 ((i+n:Nat):Int))) none=some (.str ((s.drop i).take n)):=by
 have e1:nat? (.int .i64 (i:Int))=some i:=by simp[nat?]
 have e2:nat? (.int .i64 ((i+n:Nat):Int))=some (i+n):=by simp only[nat?]
 simp only[Z1,e9p,XS,e1,e2];rw[if_pos h];show(match if i≤i+n then some i else none with|some l=>some (PV.str ((s.take (i+n)).drop l))|none=>none)=_;rw[if_pos (by omega)];show some (PV.str ((s.take (i+n)).drop i))=_;rw[List.drop_take,Nat.add_sub_cancel_left]
theorem hpR:∀H,CO 200 [.str s,.str w] H (.bool (Z7 w s)) H:=by
 have hg:=XP (s.length:Int) (w.length:Int);by_cases h:w.length≤s.length
 ·rw[decide_eq_true (by omega)]at hg;have hs:=ZrH h;have he:=Zmh (s.take w.length) w;unfold Z7;generalize decide (s.take w.length=w)=B at he ⊢;refine Jw tOk fe200.ok rfl ?_;cases B;all_goals
   repeat' first|refine JS ?_|refine Kd ?_|fail
   all_goals rfl
 ·rw[decide_eq_false (by omega)]at hg;have e:Z7 w s=false:=decide_eq_false fun e=>by have:=congrArg List.length e;rw[List.length_take]at this;omega
  rw[e];refine Jw tOk fe200.ok rfl ?_;repeat' first|refine KF ?_|fail
  all_goals rfl
theorem Zw7 (s w:List UInt8):∀H,CO 179 [.str s,.str w] H (.bool (Z7 w s)) H:=by
 have hc:=hpR (s:=s) (w:=w);refine Jw tOk fe179.ok rfl ?_;repeat' first|refine Jc (hc _) ?_|refine Jt ?_|refine Jb ?_ ?_|refine Jo ?_|intro hb
 all_goals rw[hb]
theorem Zkb (hp:p≤S.length) (hS:S.length≤1000000) (hw:w.length≤100) (A:Box) (lv:List Nat) (nt:Nat):CO 136 [.ptr 1 2 0 0,.str w] ⟨[A,pB S p],0,lv,nt⟩ (.bool (Z7 w (S.drop p))) ⟨[A,pB S (if Z7 w (S.drop p)=true then p+w.length else p)],0,lv,nt⟩:=by
 have hsl:=ZoR hp;have hc:=Zw7 (S.drop p) w;have had:=Wa (a:=(p:Int)) (b:=(w.length:Int)) (by omega) (by omega);rw[show(p:Int)+(w.length:Int)=((p+w.length:Nat):Int) by omega]at had;cases hB:Z7 w (S.drop p) with
 |true=>
  rw[hB]at hc;rw[if_pos rfl];refine ZW (own:=fun _=>false) tOk fe136.ok ?_;refine Wp.seq ?_;repeat' first|refine Kd ?_|refine Jd (hc _) ?_|refine Ke ?_|refine Kr ?_|fail
  all_goals exact RetE.ret rfl rfl rfl
 |false=>
  rw[hB]at hc;rw[if_neg (by decide)];refine ZW (own:=fun _=>false) tOk fe136.ok ?_;refine Wp.seq ?_;repeat' first|refine Jt ?_|refine Jd (hc _) ?_|refine Ke ?_|refine Ks ?_|refine Jh ?_|refine Jo ?_|(apply Wp.draw tOk follows;kernel_rfl)|fail
  all_goals exact RetE.ret rfl rfl rfl
theorem Ztl (hp:p≤S.length) (hS:S.length≤1000000) (A:Box) (lv:List Nat) (nt:Nat):CO 137 [.ptr 1 2 0 0] ⟨[A,pB S p],0,lv,nt⟩ (.tup [.str (ZZ (S.drop p)),.bool (Z5 (ZZ (S.drop p)))]) ⟨[A,pB S (p+(ZZ (S.drop p)).length)],0,lv,nt⟩:=by
 have hnl:=Wj (S.drop p);rw[List.length_drop]at hnl;have hml:S.length≤maxLen:=Nat.le_trans hS (by decide);have hcI:=c145 (ZZ (S.drop p)) (by omega);have hsm:=ZrU (s:=S) (i:=p) (n:=(ZZ (S.drop p)).length) (by omega);have htk:(S.drop p).take (ZZ (S.drop p)).length=ZZ (S.drop p):=by exact Za0 _
 rw[htk]at hsm;obtain⟨nm,hnm⟩:∃nm,nm=ZZ (S.drop p):=⟨_,rfl⟩;rw[← hnm]at hcI hsm hnl ⊢;generalize Z5 nm=B at hcI ⊢;refine ZW (own:=fun _=>false) tOk fe137.ok ?_;refine Wp.seq ?_;repeat' first|refine Ka ?_|fail
 refine Wp.while (fun m tm H=>∃(j:Nat) (base:TM),j+m=nm.length∧(ZZ (S.drop (p+j))).length=m∧tm=ovr base [(0,.ptr 1 2 0 0),(4,.int .i64 (p:Int))]∧H=⟨[A,pB S (p+j)],0,lv,nt⟩)
  (fun m tm H hI=>?_) nm.length _ _ ⟨0,_,by omega,by rw[Nat.add_zero,hnm],Zd ⟨rfl,rfl,trivial⟩,rfl⟩
 obtain⟨j,base,hj,hm,rfl,rfl⟩:=hI;have hlx:=Zv ((p+j:Nat):Int) (S.length:Int);by_cases hlt:p+j<S.length
 ·rw[decide_eq_true (by omega)]at hlx;obtain⟨c,hc⟩:∃c,S[p+j]? = some c:=⟨S[p+j],by simp⟩;have hx:=Zhm hc;have hcp:=ZrL (c.toNat:Int);rw[Zfx hc]at hm;have hpb:Zcb (c.toNat:Int)=Xk c:=rfl;rw[hpb]at hcp;have had:=Wa (a:=((p+j:Nat):Int)) (b:=1) (by omega) (by omega);rw[show((p+j:Nat):Int)+1=((p+(j+1):Nat):Int) by omega]at had;cases hB:Xk c with
  | true=>rw[hB]at hcp;rw[if_pos hB,List.length_cons]at hm;(repeat' first|refine Kk ?_|refine Jd (hcp _) ?_|refine Kz ?_|refine KV ?_|fail);exact LoopI.go (m-1) (by omega) ⟨j+1,_,by omega,by rw[show p+(j+1)=p+j+1 by omega];omega,Zd ⟨rfl,rfl,trivial⟩,rfl⟩
  | false=>rw[hB]at hcp;rw[if_neg (by rw[hB];decide)]at hm;(have hjn:j=nm.length:=by simp at hm;omega);subst hjn;(repeat' first|refine Jd (hcp _) ?_|refine Jd (hcI _) ?_|refine Ke ?_|refine Kz ?_|refine Kc ?_|refine Jh ?_|refine Jo ?_|(apply Wp.draw tOk follows;kernel_rfl)|fail);all_goals exact RetE.ret rfl rfl rfl
 ·have hjn:j=nm.length:=by omega
  subst hjn;rw[decide_eq_false (by omega)]at hlx;repeat' first|refine KM ?_|refine Jd (hcI _) ?_|refine Ke ?_|refine JD ?_|(apply dF (ty:=4);rfl;rfl;rfl;rfl)|refine Jh ?_|refine Jo ?_|(apply Wp.draw tOk follows;kernel_rfl)|fail
  all_goals exact RetE.ret rfl rfl rfl
end Go.Vm.Seat
namespace Go.Vm
def ixW (v:List UInt8):List (List UInt8)→Nat→Int
 | [],_=> -1
 |x::r,i=>if v=x then(i:Int) else ixW v r (i+1)
theorem Zlb {v:List UInt8} {l:List (List UInt8)} {i:Nat} {x:List UInt8} (h:l[i]? = some x):ixW v (l.drop i) i=if v=x then(i:Int) else ixW v (l.drop (i+1)) (i+1):=by rw[ZB h];rfl
def Zc3:List (List UInt8):=[[97,110,121],[97,103,101,110,116],[110,111,110,99,101],[107,101,121],[100,97,116,97],[116,97,103]]
theorem ZnX (v:List UInt8):ixW v Zc3 0=V7 v:=by simp only[ixW,Zc3,V7];rfl
end Go.Vm
namespace Go.Vm.Seat
open Go.Proofs
theorem c69 {l:List (List UInt8)} (hl:l.length≤1000) (v:List UInt8) (b:Bool):∀H,CO 69 [slV b 1 (Zp l),.str v] H (.int .i64 (ixW v l 0)) H:=by
 have hsl:=Zu l;refine Jw tOk fe69.ok rfl ?_;repeat' first|refine KS ?_|fail
 refine Wp.while (fun m tm H => ∃(i : Nat) (base : TM), i + m = l.length ∧ ixW v l 0 = ixW v (l.drop i) i ∧
   tm=ovr base [(0,slV b 1 (Zp l)),(1,.str v),(7,.int .i64 (l.length:Int)),(8,.int .i64 (i:Int))]∧H=hNil)
  (fun m tm H hI=>?_) l.length _ _ ⟨0,_,by omega,by simp,Zd ⟨rfl,rfl,Zg (by rw[hsl]),rfl,trivial⟩,rfl⟩
 obtain⟨i,base,hi,hx,rfl,rfl⟩:=hI;rw[hx];by_cases hlt:i<l.length;{obtain⟨x,hk⟩:∃x,l[i]? = some x:=⟨l[i],by simp⟩;have hj:=YU hk;have hlx:=Zv (i:Int) (l.length:Int);rw[decide_eq_true (by omega)]at hlx;have he:=Zmh v x;rw[Zlb hk];have hii:=Wa (a:=(i:Int)) (b:=1) (by omega) (by omega);rw[show(i:Int)+1=((i+1:Nat):Int) by omega]at hii;by_cases c:v=x;{rw[decide_eq_true c]at he;rw[if_pos c];(repeat' first|refine KQ ?_|fail);all_goals rfl};{rw[decide_eq_false c]at he;rw[if_neg c];(repeat' first|refine KQ ?_|fail);exact LoopI.go (m-1) (by omega) ⟨i+1,_,by omega,rfl,Zd ⟨rfl,rfl,rfl,rfl,trivial⟩,rfl⟩}}
 ·have e:i=l.length:=by omega
  subst e;have hlx:=Zv (l.length:Int) (l.length:Int);rw[decide_eq_false (by omega)]at hlx;rw[List.drop_length];repeat' first|refine Kk ?_|fail
  all_goals rfl
abbrev ZrT (S:List UInt8) (p:Nat) (least:Int):PV:=if Z7 [58] (S.drop p)=true then .tup [.int .i64 (V7 (ZZ (S.drop (p+1)))),.bool (decide (least≤V7 (ZZ (S.drop (p+1)))))] else .tup [.int .i64 0,.bool false]
abbrev ZrR (S:List UInt8) (p:Nat):Nat:=if Z7 [58] (S.drop p)=true then p+1+(ZZ (S.drop (p+1))).length else p
theorem Zry {S:List UInt8} {p:Nat} (hp:p≤S.length) (hS:S.length≤1000000) (least:Int) (A:Box) (lv:List Nat) (nt:Nat):CO 138 [.ptr 1 2 0 0,.int .i64 least] ⟨[A,pB S p],0,lv,nt⟩ (ZrT S p least) ⟨[A,pB S (ZrR S p)],0,lv,nt⟩:=by
 have k1:=Zkb (w:=[58]) hp hS (by decide) A lv nt;unfold ZrT ZrR;cases hB:Z7 [58] (S.drop p) with
 |false=>
  rw[hB,if_neg (by decide)]at k1;rw[if_neg (by decide),if_neg (by decide)];refine ZW (own:=fun _=>false) tOk fe138.ok ?_;refine Wp.seq ?_;repeat' first|refine Jc k1 ?_|refine Ka ?_|fail
  all_goals exact RetE.ret rfl rfl rfl
 |true=>
  have hp1:=Znr hB;simp only[List.length_cons,List.length_nil]at hp1;have hpl:p+1≤S.length:=by(have:p≠S.length:=fun e=>by rw[e,List.drop_length,XB]at hB;cases hB);omega
  rw[hB,if_pos rfl]at k1;rw[if_pos rfl,if_pos rfl];have hnl:=Wj (S.drop (p+1));rw[List.length_drop]at hnl;have hcI:=c69 (l:=Zc3) (by decide) (ZZ (S.drop (p+1))) true;rw[ZnX]at hcI;simp only[Zc3,Zp,List.map_cons,List.map_nil,Zr]at hcI;have hsm:=ZrU (s:=S) (i:=p+1) (n:=(ZZ (S.drop (p+1))).length) (by omega);have htk:(S.drop (p+1)).take (ZZ (S.drop (p+1))).length=ZZ (S.drop (p+1)):=by exact Za0 _
  rw[htk]at hsm;obtain⟨nm,hnm⟩:∃nm,nm=ZZ (S.drop (p+1)):=⟨_,rfl⟩;rw[← hnm]at hcI hsm hnl ⊢;have hge:=XP (V7 nm) least;generalize V7 nm=so at hcI hge ⊢;generalize decide (least≤so)=B at hge ⊢;refine ZW (own:=fun _=>false) tOk fe138.ok ?_;refine Wp.seq ?_;repeat' first|refine Jc k1 ?_|refine Ka ?_|fail
  refine Wp.while (fun m tm H=>∃(j:Nat) (base:TM),j+m=nm.length∧(ZZ (S.drop (p+1+j))).length=m∧tm=ovr base [(0,.ptr 1 2 0 0),(1,.int .i64 least),(6,.int .i64 ((p+1:Nat):Int))]∧H=⟨[A,pB S (p+1+j)],0,lv,nt⟩)
   (fun m tm H hI=>?_) nm.length _ _ ⟨0,_,by omega,by rw[Nat.add_zero,hnm],Zd ⟨rfl,rfl,rfl,trivial⟩,rfl⟩
  obtain⟨j,base,hj,hm,rfl,rfl⟩:=hI;have hlx:=Zv ((p+1+j:Nat):Int) (S.length:Int);by_cases hlt:p+1+j<S.length
  ·rw[decide_eq_true (by omega)]at hlx;obtain⟨c,hc⟩:∃c,S[p+1+j]? = some c:=⟨S[p+1+j],by simp⟩;have hx:=Zhm hc;have hcp:=ZrL (c.toNat:Int);rw[Zfx hc]at hm;have hpb:Zcb (c.toNat:Int)=Xk c:=rfl;rw[hpb]at hcp;have had:=Wa (a:=((p+1+j:Nat):Int)) (b:=1) (by omega) (by omega);rw[show((p+1+j:Nat):Int)+1=((p+1+(j+1):Nat):Int) by omega]at had;cases hB2:Xk c with
   | true=>rw[hB2]at hcp;rw[if_pos hB2,List.length_cons]at hm;(repeat' first|refine Kk ?_|refine Jd (hcp _) ?_|refine Kz ?_|refine KV ?_|fail);exact LoopI.go (m-1) (by omega) ⟨j+1,_,by omega,by rw[show p+1+(j+1)=p+1+j+1 by omega];omega,Zd ⟨rfl,rfl,rfl,trivial⟩,rfl⟩
   | false=>rw[hB2]at hcp;rw[if_neg (by rw[hB2];decide)]at hm;(have hjn:j=nm.length:=by simp at hm;omega);subst hjn;(repeat' first|refine Kk ?_|refine Jd (hcp _) ?_|refine Jd (hcI _) ?_|refine Ke ?_|refine Kz ?_|refine KC ?_|fail);all_goals exact RetE.ret rfl rfl rfl
  {(have hjn:j=nm.length:=by omega);subst hjn;rw[decide_eq_false (by omega)]at hlx;(repeat' first|refine Kk ?_|refine KM ?_|refine Jd (hcI _) ?_|refine Ke ?_|refine JD ?_|refine Kr ?_|fail);all_goals exact RetE.ret rfl rfl rfl}
