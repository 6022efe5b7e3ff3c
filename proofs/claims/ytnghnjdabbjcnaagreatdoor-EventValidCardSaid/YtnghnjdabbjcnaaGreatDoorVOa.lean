/-
  Powers in the second text: the term of a product, the product of two.
-/
import Derived.Test.YtnghnjdabbjcnaaGreatDoorVNx
set_option maxHeartbeats 0
set_option maxRecDepth 100000
namespace Go.Vm
variable {l:List Pw}
def Vd (l:List Pw) (i:Nat):Option Tm:=if i=0 then none else(l[i-1]?).map (·.1)
theorem ZfJ {i:Nat} {x:Pw} (h:l[i]? = some x):pvL (Vd l i) (l.drop i)=if x.1.valid≠0 then x.1.valid else if x.1.sym=true then 1 else if(decide (x.2=0)||Ye x.2 1000)=true then 7 else if Uz (Vd l i) x.1=true then 5 else pvL (Vd l (i+1)) (l.drop (i+1)):=by
 have e:Vd l (i+1)=some x.1:=by unfold Vd;rw[if_neg (by omega),Nat.add_sub_cancel,h];rfl
 rw[Zw h,e];rfl
theorem Za8 {j:Nat} {y:Pw} (h:l[j]? = some y):Vd l (j+1)=some y.1:=by unfold Vd;rw[if_neg (by omega),Nat.add_sub_cancel,h];rfl
end Go.Vm
namespace Go.Vm.Seat
open Go.Proofs
theorem Xq (a b:Int):XM E0 .gtr 3 (.int .i64 a) (.int .i64 b)=some (.bool (decide (b<a))):=rfl
theorem XY (a b:Int):XM E0 .geq 3 (.int .i64 a) (.int .i64 b)=some (.bool (decide (b≤a))):=rfl
theorem Zo2 {a b:Int} (h: -9223372036854775808≤a-b) (h':a-b≤9223372036854775807):XM E0 .sub 3 (.int .i64 a) (.int .i64 b)=some (.int .i64 (a-b)):=by show some (PV.int .i64 (IntKind.i64.wrap (a-b)))=_;rw[IntWalk.i64_in _ (by omega)]
theorem ZsI {l:List Pw} (hl:∀x,x∈l→x.1.Ok∧x.1.size≤100000) (hlen:l.length≤1000000) (b:Bool):∀H,CO 248 [slV b 5 (pwL l)] H (.int .i64 (pvG l)) H:=by
 have hpl:=ZT l;unfold pvG;refine Jw tOk fe248.ok rfl ?_;by_cases h2:200<l.length
 ·rw[if_pos h2];repeat' first|refine Jl ?_|refine Jb ?_ ?_|refine Jo ?_|intro hb
  all_goals first
   | rfl
   | (exfalso;rw[hpl]at hb;simp only[decide_eq_false_iff_not]at hb;omega)
 ·rw[if_neg h2];repeat' first|refine Jl ?_|refine Jb ?_ ?_|refine Jo ?_|intro hb
  {exfalso;rw[hpl]at hb;simp only[decide_eq_true_eq]at hb;omega};refine Wp.while (fun m tm H => ∃(i : Nat) (base : TM), i + m = l.length ∧ pvL none l = pvL (Vd l i) (l.drop i) ∧
    tm=ovr base [(0,slV b 5 (pwL l)),(3,.int .i64 (i:Int))]∧H=hNil)
   (fun m tm H hI=>?_) l.length _ _ ⟨0,_,by omega,by rw[List.drop_zero];rfl,Ze ⟨rfl,rfl,trivial⟩,rfl⟩
  obtain⟨i,base,hi,hgo,rfl,rfl⟩:=hI;rw[hgo];clear hb hgo;by_cases hlt:i<l.length
  ·obtain⟨x,hx⟩:∃x,l[i]? = some x:=⟨l[i],by simp⟩;have hxs:=hl x (List.mem_of_getElem? hx);have hV:=c97 hxs.1 (by have:=hxs.2;omega);have hsp:=ZsC x.1;have hd:=ZfJ hx;have hlx:=Zu (i:Int) ((pwL l).length:Int);rw[decide_eq_true (by rw[hpl];omega)]at hlx;have hZ:=Z8 x.2 0;have hL:=Zu x.2 (-1000);have hG:=Xq x.2 1000;have hC:∀(j:Nat) (y:Pw),l[j]? = some y→∃c,(∀H,CO 92 [.agg y.1.cells,.agg x.1.cells] H (.int .i64 c) H)∧(i=j+1→Uz (Vd l i) x.1=decide (0≤c)):=fun j y hy=>⟨_,ZtC (hl y (List.mem_of_getElem? hy)) hxs,fun e=>by rw[e,Za8 hy];rfl⟩;(have hC0:i=0→Uz (Vd l i) x.1=false:=fun e=>by rw[e];rfl);have hj:=Xb hx;unfold Ye at hd;generalize pvL (Vd l i) (l.drop i)=R at hd ⊢;generalize Uz (Vd l i) x.1=LB at hd hC hC0;generalize decide (x.2=0)=bZ at hZ hd;generalize decide (x.2< -1000)=bL at hL hd;generalize decide ((1000:Int)<x.2)=bG at hG hd;generalize x.1.valid=v at hV hd;generalize x.1.sym=sy at hsp hd;obtain⟨⟨k',nm',s',b',kz'⟩,xn⟩:=x;simp only[pwC,Tm.cells,List.cons_append,List.nil_append]at hV hsp hj hC;by_cases hv:v≠0
   ·rw[if_pos hv]at hd;(repeat' first|refine Jc (hV _) ?_|refine Jc (hsp _) ?_|refine Kd ?_|refine Jx ?_|refine Jb ?_ ?_|refine Jo ?_|intro hb);all_goals first
     | (exfalso;simp at hb;exact hv hb)
     | rw[hd]
   have hv:=Classical.not_not.1 hv;subst hv;rw[if_neg (by simp)]at hd;cases sy;rotate_left;{rw[if_pos rfl]at hd;(repeat' first|refine Jc (hV _) ?_|refine Jc (hsp _) ?_|refine KE ?_|fail);all_goals rw[hd]};rw[if_neg (by decide)]at hd;by_cases hbad:(bZ||(bL||bG))=true
   ·rw[if_pos hbad]at hd;(cases bZ<;>cases bL<;>cases bG<;>first|(exact absurd hbad (by decide))|skip);all_goals
     repeat' first|refine Jk ?_|refine Jc (hV _) ?_|refine Jc (hsp _) ?_|refine KE ?_|fail
     all_goals rw[hd]
   ·rw[if_neg hbad]at hd;(obtain rfl:bZ=false:=by cases bZ<;>simp_all);(obtain rfl:bL=false:=by cases bL<;>simp_all);(obtain rfl:bG=false:=by cases bG<;>simp_all);match i,hi,hlt,hx,hj,hC0,hC,hlx with
    | 0,hi,hlt,hx,hj,hC0,hC,hlx=>rw[hC0 rfl,if_neg (by decide)]at hd;(repeat' first|refine Jc (hV _) ?_|refine Jc (hsp _) ?_|refine KE ?_|(apply dK;rfl;rfl;rfl)|refine Kl ?_|fail);all_goals exact LoopI.go (m-1) (by omega) ⟨0+1,_,by omega,by rw[hd],Ze ⟨rfl,Zg (Zd (n:=0+1) (by omega)),trivial⟩,rfl⟩
    | j+1,hi,hlt,hx,hj,hC0,hC,hlx=>obtain⟨y,hy⟩:∃y,l[j]? = some y:=⟨l[j],by simp⟩;obtain⟨c,hCy,hLB⟩:=hC j y hy;have hLB:=hLB rfl;have hg0:=Xq ((j+1:Nat):Int) 0;rw[decide_eq_true (by omega)]at hg0;(have hsb:XM E0 .sub 3 (.int .i64 ((j+1:Nat):Int)) (.int .i64 1)=some (.int .i64 (j:Int)):=by rw[Zo2 (by omega) (by omega)];congr 2;omega);have hjy:=Xb hy;have hge:=XY c 0;rw[← hLB]at hge;obtain⟨⟨k2,nm2,s2,b2,kz2⟩,yn⟩:=y;simp only[pwC,Tm.cells,List.cons_append,List.nil_append]at hCy hjy;cases LB;{rw[if_neg (by decide)]at hd;(repeat' first|refine Jc (hV _) ?_|refine Jc (hsp _) ?_|refine KE ?_|refine Jd (hCy _) ?_|refine JD ?_|refine JI ?_|refine KA ?_|fail);all_goals exact LoopI.go (m-1) (by omega) ⟨j+1+1,_,by omega,by rw[hd],Ze ⟨rfl,Zg (Zd (n:=j+1+1) (by omega)),trivial⟩,rfl⟩};{rw[if_pos rfl]at hd;(repeat' first|refine Jc (hV _) ?_|refine Jc (hsp _) ?_|refine KE ?_|refine Jd (hCy _) ?_|refine JD ?_|refine JI ?_|refine Ku ?_|fail);all_goals rw[hd]}
  {(have e:i=l.length:=by omega);subst e;have hlx:=Zu (l.length:Int) ((pwL l).length:Int);rw[decide_eq_false (by rw[hpl];omega)]at hlx;(repeat' first|refine Ks ?_|fail);rw[List.drop_length];rfl}
end Go.Vm.Seat
namespace Go.Vm
variable {α:Type} {l:List Pw} {i:Nat} {x:Pw}
theorem Uq (P R:List α) (n:Nat):(P.take n++R).take n=(P++R).take n:=by rw[List.take_append,List.take_append,List.take_take,Nat.min_self,List.length_take];by_cases h:n≤P.length;{rw[Nat.min_eq_left h,Nat.sub_self,Nat.sub_eq_zero_of_le h]};{rw[Nat.min_eq_right (by omega)]}
theorem ZfU {A:List α} {x:α} {k n:Nat} (h1:k≤n) (h2:A.length+k≤9) (h3:k=n∨A.length+k=9):A++List.replicate k x=(A++List.replicate n x).take 9:=by rcases h3 with rfl|h3;{rw[List.take_of_length_le (by simp;omega)]};{rw[List.take_append,List.take_of_length_le (by omega),List.take_replicate];congr 2;omega}
theorem QP (x:α) (k:Nat):List.replicate (k+1) x=List.replicate k x++ [x]:=List.replicate_succ'
theorem ZdP (h:l[i]? = some x):Qw (l.take (i+1))=Qw (l.take i)++List.replicate x.2.toNat x.1:=by
 have e:l.take (i+1)=l.take i++ [x]:=by rw[List.take_add_one,h];rfl
 rw[e];simp[Qw]
theorem ZcY (h:l[i]? = some x):Zbw (l.take (i+1))=Zbw (l.take i)++List.replicate (-x.2).toNat (Zfb x.1):=by
 have e:l.take (i+1)=l.take i++ [x]:=by rw[List.take_add_one,h];rfl
 rw[e];simp[Zbw]
end Go.Vm
namespace Go.Vm.Seat
open Go.Proofs
theorem ZjB {b:Bool} {L:List Tm} {out:PV} {lv:List Nat} {nt:Nat} (h:ApV b 4 (Za L) out lv nt):∀H,Zc0 E0 30 out H=some (.int .i64 (L.length:Int)):=by
 have hl:=Zb L;generalize Za L=C at h hl;intro H;rw[← hl];cases h with
 |nil=>rfl
 |full=>rfl
 |tok=>rfl
theorem ZnF (x:Tm):∀H,CO 212 [.str VG,.sl .full 4 [x.cells]] H (.agg (Zfb x).cells) H:=fun H=>by
 have:=Znu VG x H
 simp only[Zfb,Tm.cells,Za,Zp]at this ⊢
 exact this
theorem Zuq {l:List Pw} (hl:∀x,x∈l→ -1000000000≤x.2∧x.2≤1000000000) (hlen:l.length≤1000000) (b:Bool):∀H,CO 249 [slV b 5 (pwL l)] H (slV true 4 (Za ((WU l).take 9))) H:=by
 have hpl:=ZT l;refine Jw tOk fe249.ok (ZJ _ _ _ _ _) ?_;repeat' first|refine Jo ?_|fail
 refine Wp.while (fun m tm H => ∃(i : Nat) (base : TM) (out : PV) (lv : List Nat) (nt : Nat), i + m = l.length ∧ ApV true 4 (Za ((Qw (l.take i)).take 9)) out lv nt ∧
   tm=ovr base [(3,out),(0,slV b 5 (pwL l)),(4,.int .i64 (i:Int))]∧H=⟨[],0,lv,nt⟩)
  (fun m tm H hI=>?_) l.length _ _ ⟨0,_,_,_,_,by omega,.nil _ _ rfl,Ze ⟨rfl,rfl,rfl,trivial⟩,rfl⟩
 obtain⟨i,base,out,lv,nt,hi,hA,rfl,rfl⟩:=hI;by_cases hlt:i<l.length
 ·obtain⟨x,hx⟩:∃x,l[i]? = some x:=⟨l[i],by simp⟩;have hxb:=hl x (List.mem_of_getElem? hx);have hsn:=ZdP hx;have hlx:=Zu (i:Int) ((pwL l).length:Int);rw[decide_eq_true (by rw[hpl];omega)]at hlx;have hj:=Xb hx;have hfin:=Uq (Qw (l.take i)) (List.replicate x.2.toNat x.1) 9;have hAl:((Qw (l.take i)).take 9).length≤9:=by rw[List.length_take];omega
  rw[← hsn]at hfin;clear hsn;generalize (Qw (l.take i)).take 9=A at hA hfin hAl;obtain⟨X,hX⟩:∃X,X=x.1:=⟨_,rfl⟩;rw[← hX]at hfin;have hXc:X.cells=x.1.cells:=by rw[hX]
  obtain⟨⟨k',nm',s',b',kz'⟩,xn⟩:=x;simp only[pwC,Tm.cells,List.cons_append,List.nil_append]at hj hxb hfin hXc;repeat' first|refine Ks ?_|fail
  refine Wp.while (fun m2 tm H => ∃(k : Nat) (base : TM) (out : PV) (lv : List Nat) (nt : Nat), A.length + k + m2 = 9 ∧ k ≤ xn.toNat ∧ ApV true 4 (Za (A ++ List.replicate k X)) out lv nt ∧
    tm=ovr base [(3,out),(0,slV b 5 (pwL l)),(4,.int .i64 (i:Int)),(5,.int .i64 (k:Int))]∧H=⟨[],0,lv,nt⟩)
   (fun m2 tm H hI=>?_) (9-A.length) _ _ ⟨0,_,_,_,_,by omega,by omega,by rw[List.replicate_zero,List.append_nil];exact hA,Ze ⟨rfl,rfl,rfl,rfl,trivial⟩,rfl⟩
  clear hA;obtain⟨k,base2,out2,lv2,nt2,hk,hkn,hA,rfl,rfl⟩:=hI;have hL:=Zu (k:Int) xn;have hN:=Zu ((A++List.replicate k X).length:Int) 9;have hle:=ZjB hA;by_cases hgo:(k:Int)<xn∧(A++List.replicate k X).length<9;{rw[decide_eq_true hgo.1]at hL;rw[decide_eq_true (by have:=hgo.2;omega)]at hN;obtain⟨o1,lv1,nt1,hap1,hA1⟩:=Zel hA X (by have:=hgo.2;omega);rw[List.append_assoc, ← QP]at hA1;rw[hXc]at hap1;(have hm2:0<m2:=by have:=hgo.2;simp only[List.length_append,List.length_replicate]at this;omega);(have hkn2:k+1≤xn.toNat:=by have:=hgo.1;omega);clear hgo;generalize ((A++List.replicate k X).length:Int)=Q at hle hN;(repeat' first|refine Kw ?_|refine Kq ?_|refine Kk ?_|fail);exact LoopI.go (m2-1) (by omega) ⟨k+1,_,o1,lv1,nt1,by omega,hkn2,hA1,Ze ⟨rfl,rfl,rfl,Zg (Zd (n:=k+1) (by omega)),trivial⟩,rfl⟩}
  ·have hend : A ++ List.replicate k X = (A ++ List.replicate xn.toNat X).take 9 := ZfU hkn (by omega) (by
     simp only[List.length_append,List.length_replicate]at hgo
     omega)
   rw[hend,hfin]at hA;(have hcase:(decide ((k:Int)<xn)&&decide (((A++List.replicate k X).length:Int)<9))=false:=by rw[Bool.and_eq_false_iff,decide_eq_false_iff_not,decide_eq_false_iff_not];simp only[List.length_append,List.length_replicate]at hgo ⊢;omega);generalize ((A++List.replicate k X).length:Int)=Q at hle hN hcase;generalize decide ((k:Int)<xn)=c1 at hL hcase;generalize decide (Q<9)=c2 at hN hcase;(cases c1<;>cases c2<;>first|(exact absurd hcase (by decide))|skip);all_goals
    repeat' first|refine Jk ?_|refine Kq ?_|refine Kk ?_|fail
    exact LoopI.go (m-1) (by omega) ⟨i+1,_,out2,lv2,nt2,by omega,hA,Ze ⟨rfl,rfl,Zg (Zd (n:=i+1) (by omega)),trivial⟩,rfl⟩
 ·have e:i=l.length:=by omega
  subst e;have hlx:=Zu (l.length:Int) ((pwL l).length:Int);rw[decide_eq_false (by rw[hpl];omega)]at hlx;rw[List.take_length]at hA;repeat' first|refine Ks ?_|fail
  refine Wp.while (fun m tm H => ∃(i : Nat) (base : TM) (out : PV) (lv : List Nat) (nt : Nat), i + m = l.length ∧ ApV true 4 (Za ((Qw l ++ Zbw (l.take i)).take 9)) out lv nt ∧
    tm=ovr base [(3,out),(0,slV b 5 (pwL l)),(6,.int .i64 (i:Int))]∧H=⟨[],0,lv,nt⟩)
   (fun m tm H hI=>?_) l.length _ _ ⟨0,_,_,_,_,by omega,by rw[List.take_zero,show Zbw []= [] from rfl,List.append_nil];exact hA,Ze ⟨rfl,rfl,rfl,trivial⟩,rfl⟩
  clear hA hlx hlt hi;obtain⟨i,base,out,lv,nt,hi,hA,rfl,rfl⟩:=hI;by_cases hlt:i<l.length
  ·obtain⟨x, hx⟩ : ∃x, l[i]? = some x := ⟨l[i], by simp⟩;have hxb:=hl x (List.mem_of_getElem? hx);have hsn:=ZcY hx;have hlx:=Zu (i:Int) ((pwL l).length:Int);rw[decide_eq_true (by rw[hpl];omega)]at hlx;have hj:=Xb hx;have hfin:=Uq (Qw l++Zbw (l.take i)) (List.replicate (-x.2).toNat (Zfb x.1)) 9;(have hAl:((Qw l++Zbw (l.take i)).take 9).length≤9:=by rw[List.length_take];omega);rw[List.append_assoc (Qw l), ← hsn]at hfin;clear hsn;generalize (Qw l++Zbw (l.take i)).take 9=A at hA hfin hAl;have hIv:=ZnF x.1;obtain⟨X,hX⟩:∃X,X=Zfb x.1:=⟨_,rfl⟩;rw[← hX]at hfin hIv;(have hXc:X.cells= [.int .i64 3,.str VG,.int .i64 0,.sl .none 4 [x.1.cells]]:=by rw[hX];simp only[Zfb,Tm.cells,Za,Zp]);rw[hXc]at hIv;clear hX;obtain⟨⟨k',nm',s',b',kz'⟩,xn⟩:=x;simp only[pwC,Tm.cells,List.cons_append,List.nil_append,VG]at hj hxb hfin hXc hIv;(have hw:IntKind.i64.wrap (0-xn)= -xn:=by rw[IntWalk.i64_in _ (by omega)];omega);(repeat' first|refine Ks ?_|fail);refine Wp.while (fun m2 tm H => ∃(k : Nat) (base : TM) (out : PV) (lv : List Nat) (nt : Nat), A.length + k + m2 = 9 ∧ k ≤ (-xn).toNat ∧ ApV true 4 (Za (A ++ List.replicate k X)) out lv nt ∧
     tm=ovr base [(3,out),(0,slV b 5 (pwL l)),(6,.int .i64 (i:Int)),(7,.int .i64 (k:Int))]∧H=⟨[],0,lv,nt⟩)
    (fun m2 tm H hI=>?_) (9-A.length) _ _ ⟨0,_,_,_,_,by omega,by omega,by rw[List.replicate_zero,List.append_nil];exact hA,Ze ⟨rfl,rfl,rfl,rfl,trivial⟩,rfl⟩
   clear hA;obtain⟨k,base2,out2,lv2,nt2,hk,hkn,hA,rfl,rfl⟩:=hI;have hL:=Zu (k:Int) (IntKind.i64.wrap (0-xn));have hN:=Zu ((A++List.replicate k X).length:Int) 9;have hle:=ZjB hA;by_cases hgo:(k:Int)< -xn∧(A++List.replicate k X).length<9;{rw[decide_eq_true (by rw[hw];exact hgo.1)]at hL;rw[decide_eq_true (by have:=hgo.2;omega)]at hN;obtain⟨o1,lv1,nt1,hap1,hA1⟩:=Zel hA X (by have:=hgo.2;omega);rw[List.append_assoc, ← QP]at hA1;rw[hXc]at hap1;(have hm2:0<m2:=by have:=hgo.2;simp only[List.length_append,List.length_replicate]at this;omega);(have hkn2:k+1≤(-xn).toNat:=by have:=hgo.1;omega);clear hgo;generalize ((A++List.replicate k X).length:Int)=Q at hle hN;(repeat' first|refine Jc (hIv _) ?_|refine Kw ?_|refine Kq ?_|refine Kk ?_|fail);exact LoopI.go (m2-1) (by omega) ⟨k+1,_,o1,lv1,nt1,by omega,hkn2,hA1,Ze ⟨rfl,rfl,rfl,Zg (Zd (n:=k+1) (by omega)),trivial⟩,rfl⟩}
   ·have hend : A ++ List.replicate k X = (A ++ List.replicate (-xn).toNat X).take 9 := ZfU hkn (by omega) (by
      simp only[List.length_append,List.length_replicate]at hgo
      omega)
    rw[hend,hfin]at hA;(have hcase:(decide ((k:Int)<IntKind.i64.wrap (0-xn))&&decide (((A++List.replicate k X).length:Int)<9))=false:=by rw[hw,Bool.and_eq_false_iff,decide_eq_false_iff_not,decide_eq_false_iff_not];simp only[List.length_append,List.length_replicate]at hgo ⊢;omega);generalize ((A++List.replicate k X).length:Int)=Q at hle hN hcase;generalize decide ((k:Int)<IntKind.i64.wrap (0-xn))=c1 at hL hcase;generalize decide (Q<9)=c2 at hN hcase;(cases c1<;>cases c2<;>first|(exact absurd hcase (by decide))|skip);all_goals
     repeat' first|refine Jk ?_|refine Kq ?_|refine Kk ?_|fail
     exact LoopI.go (m-1) (by omega) ⟨i+1,_,out2,lv2,nt2,by omega,hA,Ze ⟨rfl,rfl,Zg (Zd (n:=i+1) (by omega)),trivial⟩,rfl⟩
  {(have e:i=l.length:=by omega);subst e;have hlx:=Zu (l.length:Int) ((pwL l).length:Int);rw[decide_eq_false (by rw[hpl];omega)]at hlx;rw[List.take_length]at hA;have hA:ApV true 4 (Za ((WU l).take 9)) out lv nt:=hA;(repeat' first|refine Ks ?_|fail);exact hA.frz3 _ _}
end Go.Vm.Seat
namespace Go.Vm
variable {l:List Pw}
theorem Zcd {M:Nat}:∀{l:List Tm},(∀x,x∈l→x.size≤M)→Zk l≤l.length*M
 | [],_=>by simp[Zk]
 |x::r,h=>by have h1:=h x List.mem_cons_self;have h2:=Zcd (M:=M) (l:=r) fun y hy=>h y (List.mem_cons_of_mem _ hy);rw[Zk,List.length_cons,Nat.add_mul];omega
theorem Ze7 (h:∀x,x∈l→x.1.size≤100000):∀z,z∈WU l→z.size≤100001:=fun z hz=>by
 rcases List.mem_append.1 hz with hz|hz
 · obtain⟨x, hx, hz⟩ := List.mem_flatMap.1 hz
   rw[(List.mem_replicate.1 hz).2]
   have:=h x hx
   omega
 · obtain⟨x, hx, hz⟩ := List.mem_flatMap.1 hz
   rw[(List.mem_replicate.1 hz).2]
   have:=h x hx
   simp only[Zfb,Tm.size,Zk]
   omega
theorem Zbo (f:Bool) (l:List Tm):(prodT f l).size≤1+Zk l:=by
 match l with
 | []=>simp[prodT,Tm.size,Zk]
 | [x]=>simp only[prodT,Zk];omega
 |x::y::r=>simp only[prodT,Tm.size];omega
def Zkz (l:List Pw):Int:=if l.any (fun x=>Ye x.2 1000)=true then 7 else if 200<l.length then 3 else 0
theorem ZjR (l:List Pw):ZgA l=(if Zkz l≠0 then[] else l,Zkz l):=by unfold ZgA Zkz;split;{rfl};{split<;>rfl}
theorem Zlv {i:Nat} {x:Pw} (h:l[i]? = some x):(l.drop i).any (fun x=>Ye x.2 1000)=(Ye x.2 1000||(l.drop (i+1)).any (fun x=>Ye x.2 1000)):=by rw[Zw h];rfl
end Go.Vm
namespace Go.Vm.Seat
variable {l:List Pw}
open Go.Proofs
theorem Zra (hl:PwB 1000000000 l) (hlen:l.length≤100000) (b:Bool):∀H,CO 237 [slV b 5 (pwL l)] H (.tup [.agg (Wa false l).1.cells,.int .i64 (Wa false l).2]) H:=by
 have hV:=ZsI (fun x hx=>(hl x hx).1) (by omega) b;have hO:=Zuq (fun x hx=>(hl x hx).2) (by omega) b;unfold Wa;by_cases h1:pvG l≠0
 ·rw[if_pos h1];generalize pvG l=v at hV h1 ⊢;clear hO;simp only[Zn];refine Jw tOk fe237.ok (Yi _ _ _) ?_;repeat' first|refine Jc (hV _) ?_|refine Jb ?_ ?_|refine Jo ?_|intro hb
  all_goals first
   | (exfalso;simp at hb;exact h1 hb)
   | rfl
 ·rw[if_neg h1];have h1:=Classical.not_not.1 h1;rw[h1]at hV;have hOm:∀z,z∈(WU l).take 9→z.Ok∧z.size≤100001:=fun z hz=>⟨cls_ok.ops (fun x hx=>(hl x hx).1.1) z (List.mem_of_mem_take hz),Ze7 (fun x hx=>(hl x hx).1.2) z (List.mem_of_mem_take hz)⟩;have hO9:((WU l).take 9).length≤9:=by rw[List.length_take];omega
  have hPV:=c97 (t:=prodT false ((WU l).take 9)) (cls_ok.prodT (fun x hx=>(hOm x hx).1) (by omega)) (by
   have h2:=Zbo false ((WU l).take 9)
   have h3:=Zcd (M:=100001) fun x hx=>(hOm x hx).2
   have h4:=Nat.mul_le_mul_right 100001 hO9
   omega)
  have hone:=c212 Um (l:=[]) (by decide) true;have hmul:=c212 Ug (l:=(WU l).take 9) (by omega) true;generalize (WU l).take 9=O at hO hO9 hPV hmul ⊢;have hlO:=Zb O;clear hOm;simp only[Tm.cells,Za,Zi,ZB,Um]at hone;by_cases h8:8<O.length
  ·rw[if_pos h8];simp only[Zn];refine Jw tOk fe237.ok (Yi _ _ _) ?_;(repeat' first|refine Jc (hV _) ?_|refine Jc (hO _) ?_|refine Kv ?_|refine Jb ?_ ?_|refine Jo ?_|intro hb);all_goals first
    | (exfalso;rw[hlO]at hb;simp only[decide_eq_false_iff_not]at hb;omega)
    | rfl
  ·rw[if_neg h8];obtain⟨U,hU⟩:∃U,U=prodT false O:=⟨_,rfl⟩;rw[← hU]at hPV ⊢;obtain⟨v,hv⟩:∃v,v=U.valid:=⟨_,rfl⟩;rw[← hv]at hPV ⊢;clear hv;(obtain⟨R,e,hRe,hU1,hU2⟩:∃(R:Tm) (e:Int),(if v≠0 then(Tm.zero,v) else(U,0))=(R,e)∧(v≠0→R= .zero∧e=v)∧(v=0→R=U∧e=0):=by by_cases h:v≠0;{exact⟨_,_,by rw[if_pos h],fun _=>⟨rfl,rfl⟩,fun h'=>absurd h' h⟩};{exact⟨_,_,by rw[if_neg h],fun h'=>absurd h' h,fun _=>⟨rfl,rfl⟩⟩});rw[hRe];clear hRe;show ∀H,CO 237 _ H (.tup [.agg R.cells,.int .i64 e]) H;have hfr:=ZM 0 hNil R e;refine Jw tOk fe237.ok hfr ?_;have hg8:=Xq (O.length:Int) 8;rw[decide_eq_false (by omega)]at hg8;match O,hO,hmul,hU,h8,hg8 with
   | [],hO,hmul,hU,h8,hg8=>
    subst hU;simp only[prodT,Tm.cells,Za,Zi,ZB,Ug,Um]at hO hmul hPV hU2;by_cases hv:v≠0
    ·obtain⟨rfl, rfl⟩ := hU1 hv;(repeat' first|(apply qCl;rfl;rfl;rfl;rfl;first|exact hV _|exact hO _|exact hmul _|exact hone _|exact hPV _)|refine Jt ?_|refine Jb ?_ ?_|refine Jo ?_|intro hb);all_goals first
      | (exfalso;simp at hb;exact hv hb)
      | (simp only[Zn];rfl)
    ·obtain⟨rfl, rfl⟩ := hU2 (Classical.not_not.1 hv);(repeat' first|(apply qCl;rfl;rfl;rfl;rfl;first|exact hV _|exact hO _|exact hmul _|exact hone _|exact hPV _)|refine Jt ?_|refine Jb ?_ ?_|refine Jo ?_|intro hb);all_goals first
      | (exfalso;simp at hb;exact hv hb)
      | (simp only[Tm.cells,Za,ZB];rfl)
   | [x],hO,hmul,hU,h8,hg8=>
    have hU:U=x:=hU;rw[hU]at hPV hU2;simp only[Za,Zp,Tm.cells,Ug]at hO hmul;by_cases hv:v≠0
    ·obtain⟨rfl, rfl⟩ := hU1 hv;obtain⟨k',nm',s',b',kz'⟩:=x;simp only[Tm.cells]at hO hmul hPV;(repeat' first|(apply qCl;rfl;rfl;rfl;rfl;first|exact hV _|exact hO _|exact hmul _|exact hPV _)|refine Jt ?_|refine Jb ?_ ?_|refine Jo ?_|intro hb);all_goals first
      | (exfalso;simp at hb;exact hv hb)
      | (simp only[Zn];rfl)
    ·obtain⟨hR, rfl⟩ := hU2 (Classical.not_not.1 hv);subst hR;have hfx:=fun m H=>ZM m H R 0;obtain⟨k',nm',s',b',kz'⟩:=R;simp only[Tm.cells]at hO hmul hPV hfx ⊢;(repeat' first|(apply qCl;rfl;rfl;rfl;rfl;first|exact hV _|exact hO _|exact hmul _|exact hPV _)|refine Jt ?_|refine Jb ?_ ?_|refine Jo ?_|intro hb);all_goals first
      | (exfalso;simp at hb;exact hv hb)
      | exact hfx _ _
   | x::y::r,hO,hmul,hU,h8,hg8=>
    subst hU;have e2:slV true 4 (Za (x::y::r))= .sl .none 4 (x.cells::y.cells::Za r):=Zp _ _ _ _;have e3:slV false 4 (Za (x::y::r))= .sl .none 4 (x.cells::y.cells::Za r):=Zp _ _ _ _;(have hE:(x.cells::y.cells::Za r).length=r.length+2:=by simp[Zb]);simp only[prodT,Tm.cells,Ug]at hPV hmul;rw[e2]at hO hmul;rw[e3]at hPV hmul;(have hx1:XM E0 .eql 3 (.int .i64 (Int.ofNat (x.cells::y.cells::Za r).length)) (.int .i64 0)=some (.bool false):=by show some (PV.bool (decide (_=_)))=_;rw[decide_eq_false (by simp;omega)]);(have hx2:XM E0 .eql 3 (.int .i64 (Int.ofNat (x.cells::y.cells::Za r).length)) (.int .i64 1)=some (.bool false):=by show some (PV.bool (decide (_=_)))=_;rw[decide_eq_false (by simp;omega)]);(have hx3:XM E0 .gtr 3 (.int .i64 (Int.ofNat (x.cells::y.cells::Za r).length)) (.int .i64 8)=some (.bool false):=by show some (PV.bool (decide (_<_)))=_;rw[decide_eq_false (by rw[hE];simp only[List.length_cons]at h8;simp;omega)]);by_cases hv:v≠0
    ·obtain⟨rfl, rfl⟩ := hU1 hv;(repeat' first|(apply qCl;rfl;rfl;rfl;rfl;first|exact hV _|exact hO _|exact hmul _|exact hPV _)|refine Ji ?_|refine Jb ?_ ?_|refine Jo ?_|intro hb);all_goals first
      | (exfalso;simp at hb;exact hv hb)
      | (simp only[Zn];rfl)
    ·obtain⟨rfl, rfl⟩ := hU2 (Classical.not_not.1 hv);(repeat' first|(apply qCl;rfl;rfl;rfl;rfl;first|exact hV _|exact hO _|exact hmul _|exact hPV _)|refine Ji ?_|refine Jb ?_ ?_|refine Jo ?_|intro hb);all_goals first
      | (exfalso;simp at hb;exact hv hb)
      | (simp only[prodT,Tm.cells,e3];rfl)
theorem Ztx (b:Bool) (hlen:l.length≤1000000):∀H,CO 251 [slV b 5 (pwL l)] H (.int .i64 (Zkz l)) H:=by
 have hpl:=ZT l;unfold Zkz;refine Jw tOk fe251.ok rfl ?_;repeat' first|refine Jo ?_|fail
 refine Wp.while (fun m tm H => ∃(i : Nat) (base : TM), i + m = l.length ∧ l.any (fun x => Ye x.2 1000) = (l.drop i).any (fun x => Ye x.2 1000) ∧
   tm=ovr base [(0,slV b 5 (pwL l)),(3,.int .i64 (i:Int))]∧H=hNil)
  (fun m tm H hI=>?_) l.length _ _ ⟨0,_,by omega,by rw[List.drop_zero],Ze ⟨rfl,rfl,trivial⟩,rfl⟩
 obtain⟨i,base,hi,hgo,rfl,rfl⟩:=hI;rw[hgo];by_cases hlt:i<l.length
 ·obtain⟨x, hx⟩ : ∃x, l[i]? = some x := ⟨l[i], by simp⟩;have hd:=Zlv hx;have hlx:=Zu (i:Int) ((pwL l).length:Int);rw[decide_eq_true (by rw[hpl];omega)]at hlx;have hL:=Zu x.2 (-1000);have hG:=Xq x.2 1000;have hj:=Xb hx;unfold Ye at hd hgo ⊢;generalize decide (x.2< -1000)=bL at hL hd;generalize decide ((1000:Int)<x.2)=bG at hG hd;obtain⟨⟨k',nm',s',b',kz'⟩,xn⟩:=x;simp only[pwC,Tm.cells,List.cons_append,List.nil_append]at hj;rw[hd];cases bL<;>cases bG;{rw[Bool.false_or, Bool.false_or];(repeat' first|refine KE ?_|fail);all_goals exact LoopI.go (m-1) (by omega) ⟨i+1,_,by omega,rfl,Ze ⟨rfl,Zg (Zd (n:=i+1) (by omega)),trivial⟩,rfl⟩};all_goals
   rw[if_pos (by simp)]
   repeat' first|refine Jk ?_|refine KE ?_|fail
   all_goals rfl
 ·have e:i=l.length:=by omega
  subst e;have hlx:=Zu (l.length:Int) ((pwL l).length:Int);rw[decide_eq_false (by rw[hpl];omega)]at hlx;rw[List.drop_length,if_neg (by simp)];by_cases h2:200<l.length
  ·rw[if_pos h2];(repeat' first|refine Kd ?_|refine Jb ?_ ?_|refine Jo ?_|intro hb);all_goals first
    | (exfalso;rw[hpl]at hb;simp only[decide_eq_false_iff_not]at hb;omega)
    | rfl
  ·rw[if_neg h2];(repeat' first|refine Kd ?_|refine Jb ?_ ?_|refine Jo ?_|intro hb);all_goals first
    | (exfalso;rw[hpl]at hb;simp only[decide_eq_true_eq]at hb;omega)
    | rfl
