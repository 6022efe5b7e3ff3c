/-
  Powers that stand in order: the place of a term among them.
-/
import Derived.Test.YtnghnjdabbjcnaaGreatDoorVOa
set_option maxHeartbeats 0
set_option maxRecDepth 100000
namespace Go.Vm
theorem Zin {B:Int} (hB:0≤B):∀(b:List Pw) {l:List Pw} {C:Int},0≤C→PwB C l→PwB B b→PwB (C+b.length*B) (insF l b)∧(insF l b).length≤l.length+b.length
 | [],l,C,hC,hl,_=>⟨by simpa[insF] using hl,by simp[insF]⟩
 | x :: r, l, C, hC, hl, hb => by
   have hx:=hb x List.mem_cons_self
   have h1:=hl.ins (t:=x.1) (n:=x.2) (c:=B) hx.1 hx.2 hC hB
   obtain⟨h2,h3⟩:=Zin hB r (l:=WV l x.1 x.2) (C:=C+B) (by omega) h1 hb.tail
   have h4:=Zcx l x.1 x.2
   refine⟨?_,?_⟩
   · have e : C + ((x :: r).length : Int) * B = C + B + (r.length : Int) * B := by
       rw[List.length_cons]
       push_cast
       rw[Int.add_mul]
       omega
     rw[e]
     exact h2
   · show(insF (WV l x.1 x.2) r).length ≤ _
     rw[List.length_cons]
     omega
theorem Zjl {b:List Pw} {i:Nat} {x:Pw} (a:List Pw) (h:b[i]? = some x):ZaK a (b.take (i+1))=Zj4 (ZaK a (b.take i)) x.1 x.2:=XS (f:=fun l (x:Pw)=>Zj4 l x.1 x.2) h
theorem Zbc {a b:List Pw} {B:Int} (hB:0≤B) (ha:PwB B a) (hb:PwB B b) (h1:pvG a=0) (h2:pvG b=0) (i:Nat) (hi:i≤b.length):PwB (B+i*B) (ZaK a (b.take i))∧(ZaK a (b.take i)).length≤a.length+i:=by rw[Zb6 _ _ (Qb h1).1 fun x hx=>(Qb h2).2 x (List.mem_of_mem_take hx)];have h:=Zin hB (b.take i) (l:=a) (C:=B) hB ha fun x hx=>hb x (List.mem_of_mem_take hx);rw[List.length_take,Nat.min_eq_left hi]at h;exact h
theorem Ue {l:List Pw} (h:pvG l=0):l.length≤200:=by unfold pvG at h;split at h;{exact absurd h (by decide)};{omega}
end Go.Vm
namespace Go.Vm.Seat
open Go.Proofs
theorem Y0 {v:Int} (h:v≠0):XM E0 .neq 25 (.int .i64 v) (.int .i64 0)=some (.bool true):=by show some (PV.bool (!(v==0)))=_;simp[h]
theorem ZvD {a b:List Pw} (ha:PwB 1000000 a) (hb':PwB 1000000 b) (hla:a.length≤100000) (hlb:b.length≤100000) (ba bb:Bool):∃f,∀H,CO 238 [slV ba 5 (pwL a),slV bb 5 (pwL b)] H (.tup [slV f 5 (pwL (ZbJ a b).1),.int .i64 (ZbJ a b).2]) H:=by
 have hVa:=ZsI (fun x hx=>(ha x hx).1) (by omega) ba;have hVb:=ZsI (fun x hx=>(hb' x hx).1) (by omega) bb;have hnil:slV true 5 (pwL [])= .nils:=Zi 5;unfold ZbJ ZlF;by_cases hP1:pvG a≠0
 ·rw[if_pos hP1];refine⟨true,?_⟩;rw[hnil];generalize pvG a=v at hVa hP1 ⊢;refine Jw tOk fe238.ok rfl ?_;have hne:=Y0 hP1;repeat' first|refine Jc (hVa _) ?_|refine Ki ?_|fail
  all_goals rfl
 rw[if_neg hP1];have hP1:=Classical.not_not.1 hP1;rw[hP1]at hVa;by_cases hP2:pvG b≠0
 ·rw[if_pos hP2];refine⟨true,?_⟩;rw[hnil];generalize pvG b=v at hVb hP2 ⊢;refine Jw tOk fe238.ok rfl ?_;have hne:=Y0 hP2;repeat' first|refine Jc (hVa _) ?_|refine Jc (hVb _) ?_|refine Kg ?_|fail
  all_goals rfl
 rw[if_neg hP2];have hP2:=Classical.not_not.1 hP2;rw[hP2]at hVb;have hb200:=Ue hP2;have ha200:=Ue hP1;have hpl:=ZT b;have hfacts:=Zbc (by decide) ha hb' hP1 hP2;rw[ZjR];have hA0:ApV false 5 [] (.sl .full 5 []) [] 0:= .full [] _ _ rfl rfl;obtain⟨out',lv',nt',hap,hA', -⟩:=hA0.app apT_pw (.slV ba 5 (pwL a)) (ZaB _) (ZR (by simp only[ZT,List.length_nil];omega) (by decide)) (ZhA _);rw[List.nil_append]at hA';obtain⟨tl,rfl⟩:=Zgr hA';obtain⟨hfN1,hfN2⟩:=hfacts b.length (Nat.le_refl _);rw[List.take_length]at hfN1 hfN2;have hR:=Ztx (l:=ZaK a b) (!b.isEmpty) (by omega);have hRt:b= []→∀H,CO 251 [.sl tl 5 (pwL a)] H (.int .i64 (Zkz (ZaK a b))) H:=fun e H=>by have:=Ztx (l:=a) false (by omega) H;rw[Z6]at this;rw[e];exact Z2 this rfl
 generalize Zkz (ZaK a b)=R at hR hRt ⊢;obtain⟨f,hf⟩:∃f,f=if R≠0 then true else !b.isEmpty:=⟨_,rfl⟩
 obtain⟨M,hM⟩:∃M,M=if R≠0 then[] else ZaK a b:=⟨_,rfl⟩
 refine⟨f,?_⟩;rw[← hM];refine Jw tOk fe238.ok (QV _ _ _ _ _) ?_;repeat' first|refine Jc (hVa _) ?_|refine Jc (hVb _) ?_|refine Kw ?_|refine Ka ?_|fail
 refine Wp.while (fun m tm H => ∃(i : Nat) (base : TM) (V : PV), i + m = b.length ∧ (i = 0 ∧ V = .sl tl 5 (pwL a) ∨ 0 < i ∧ V = slV true 5 (pwL (ZaK a (b.take i)))) ∧
   tm=ovr base [(8,V),(1,slV bb 5 (pwL b)),(9,.int .i64 (i:Int))]∧H=⟨[],0,lv',nt'⟩)
  (fun m tm H hI=>?_) b.length _ _ ⟨0,_,_,by omega,.inl ⟨rfl,rfl⟩,Ze ⟨rfl,rfl,rfl,trivial⟩,rfl⟩
 obtain⟨i,base,V,hi,hV,rfl,rfl⟩:=hI;clear hap;by_cases hlt:i<b.length;{obtain⟨x,hx⟩:∃x,b[i]? = some x:=⟨b[i],by simp⟩;have hxs:=hb' x (List.mem_of_getElem? hx);have hsn:=Zjl a hx;obtain⟨gA,gB⟩:=hfacts i (by omega);have hlx:=Zu (i:Int) ((pwL b).length:Int);rw[decide_eq_true (by rw[hpl];omega)]at hlx;have hct:=Zto (l:=ZaK a (b.take i)) (t:=x.1) (n:=x.2) (gA.mono (by omega)) hxs.1 (by omega) (by omega);rw[← hsn]at hct;have hj:=Xb hx;clear hR hRt hVa hVb;rcases hV with⟨hI0,rfl⟩|⟨hI0,rfl⟩;{have hct1:=hct false;(have e0:ZaK a (b.take i)=a:=by rw[hI0];rfl);rw[e0,Z6]at hct1;(have hct2:∀H,CO 250 [.sl tl 5 (pwL a),.agg x.1.cells,.int .i64 x.2] H (slV true 5 (pwL (ZaK a (b.take (i+1))))) H:=fun H=>by have:=hct1 H;obtain⟨⟨k',nm',s',b',kz'⟩,xn⟩:=x;simp only[Tm.cells]at this ⊢;exact Z2 this (by simp only[ZH,frzG,Vn,ZX];rfl));obtain⟨⟨k',nm',s',b',kz'⟩,xn⟩:=x;simp only[pwC,Tm.cells,List.cons_append,List.nil_append]at hj hct1 hct2;clear gA gB;(repeat' first|refine Ks ?_|refine Jd (hct2 _) ?_|refine JI ?_|refine Kb ?_|fail);all_goals exact LoopI.go (m-1) (by omega) ⟨i+1,_,_,by omega,.inr ⟨by omega,rfl⟩,Ze ⟨rfl,rfl,Zg (Zd (n:=i+1) (by omega)),trivial⟩,rfl⟩};{have hct1:=hct true;obtain⟨⟨k',nm',s',b',kz'⟩,xn⟩:=x;simp only[pwC,Tm.cells,List.cons_append,List.nil_append]at hj hct1;clear gA gB;(repeat' first|refine Ks ?_|refine Jd (hct1 _) ?_|refine JI ?_|refine Kb ?_|fail);all_goals exact LoopI.go (m-1) (by omega) ⟨i+1,_,_,by omega,.inr ⟨by omega,rfl⟩,Ze ⟨rfl,rfl,Zg (Zd (n:=i+1) (by omega)),trivial⟩,rfl⟩}}
 ·have e:i=b.length:=by omega
  subst e;have hlx:=Zu (b.length:Int) ((pwL b).length:Int);rw[decide_eq_false (by rw[hpl];omega)]at hlx;rw[List.take_length]at hV;rcases hV with⟨hI0,rfl⟩|⟨hI0,rfl⟩;{have e0:=List.length_eq_zero_iff.1 hI0;have hRt:=hRt e0;(have hRt2:∀H,CO 251 [.sl .none 5 (pwL a)] H (.int .i64 R) H:=fun H=>by have:=hR H;rw[e0]at this;rw[show slV (![].isEmpty) 5 (pwL (ZaK a []))= .sl .none 5 (pwL a) from Z6 _ _]at this;exact this);by_cases hRz:R≠0;{rw[if_pos hRz]at hf hM;rw[hf,hM,hnil];have hne:=Y0 hRz;(repeat' first|refine Jc (hRt _) ?_|refine Ks ?_|fail);all_goals rfl};{have hRz:=Classical.not_not.1 hRz;subst hRz;rw[if_neg (by simp)]at hf hM;rw[hf,hM,e0,show slV (![].isEmpty) 5 (pwL (ZaK a []))= .sl .none 5 (pwL a) from Z6 _ _];(repeat' first|refine Jc (hRt _) ?_|refine KJ ?_|fail);all_goals rfl}}
  ·have hbe : (!b.isEmpty) = true := by
     cases b with
     | nil=>exact absurd hI0 (by simp)
     | cons y r=>rfl
   rw[hbe]at hR hf;by_cases hRz:R≠0;{rw[if_pos hRz]at hf hM;rw[hf,hM,hnil];have hne:=Y0 hRz;(repeat' first|refine Jc (hR _) ?_|refine Ks ?_|fail);all_goals rfl};{have hRz:=Classical.not_not.1 hRz;subst hRz;rw[if_neg (by simp)]at hf hM;rw[hf,hM];(repeat' first|refine Jc (hR _) ?_|refine Ko ?_|fail);all_goals exact QV _ _ _ _ _}
theorem ZsB {l:List Pw} (hl:∀x,x∈l→x.1.Ok∧x.1.size≤100000) (hlen:l.length≤1000000) (b:Bool):∀H,CO 223 [slV b 5 (pwL l)] H (.int .i64 (pvG l)) H:=by
 have hpl:=ZT l;unfold pvG;refine Jw tOk fe223.ok rfl ?_;by_cases h2:200<l.length
 ·rw[if_pos h2];repeat' first|refine Jl ?_|refine Jb ?_ ?_|refine Jo ?_|intro hb
  all_goals first
   | rfl
   | (exfalso;rw[hpl]at hb;simp only[decide_eq_false_iff_not]at hb;omega)
 ·rw[if_neg h2];repeat' first|refine Jl ?_|refine Jb ?_ ?_|refine Jo ?_|intro hb
  {exfalso;rw[hpl]at hb;simp only[decide_eq_true_eq]at hb;omega};refine Wp.while (fun m tm H => ∃(i : Nat) (base : TM), i + m = l.length ∧ pvL none l = pvL (Vd l i) (l.drop i) ∧
    tm=ovr base [(0,slV b 5 (pwL l)),(9,slV b 5 (pwL l)),(10,.int .i64 (l.length:Int)),(11,.int .i64 (i:Int))]∧H=hNil)
   (fun m tm H hI=>Wp.drop ?_) l.length _ _ ⟨0,_,by omega,by rw[List.drop_zero];rfl,Ze ⟨rfl,rfl,Zg (by rw[hpl]),rfl,trivial⟩,rfl⟩
  obtain⟨i,base,hi,hgo,rfl,rfl⟩:=hI;rw[hgo];clear hb hgo;by_cases hlt:i<l.length
  ·obtain⟨x,hx⟩:∃x,l[i]? = some x:=⟨l[i],by simp⟩;have hxs:=hl x (List.mem_of_getElem? hx);have hV:=c65 hxs.1 (by have:=hxs.2;omega);have hsp:=Ztf x.1;have hd:=ZfJ hx;have hlx:=Zu (i:Int) (l.length:Int);rw[decide_eq_true (by omega)]at hlx;have hZ:=Z8 x.2 0;have hL:=Zu x.2 (-1000);have hG:=Xq x.2 1000;have hC:∀(j:Nat) (y:Pw),l[j]? = some y→∃c,(∀H,CO 35 [.agg y.1.cells,.agg x.1.cells] H (.int .i64 c) H)∧(i=j+1→Uz (Vd l i) x.1=decide (0≤c)):=fun j y hy=>⟨_,ZqF (hl y (List.mem_of_getElem? hy)) hxs,fun e=>by rw[e,Za8 hy];rfl⟩;(have hC0:i=0→Uz (Vd l i) x.1=false:=fun e=>by rw[e];rfl);have hj:=Xb hx;unfold Ye at hd;generalize pvL (Vd l i) (l.drop i)=R at hd ⊢;generalize Uz (Vd l i) x.1=LB at hd hC hC0;generalize decide (x.2=0)=bZ at hZ hd;generalize decide (x.2< -1000)=bL at hL hd;generalize decide ((1000:Int)<x.2)=bG at hG hd;generalize x.1.valid=v at hV hd;generalize x.1.sym=sy at hsp hd;obtain⟨⟨k',nm',s',b',kz'⟩,xn⟩:=x;simp only[pwC,Tm.cells,List.cons_append,List.nil_append]at hV hsp hj hC;by_cases hv:v≠0;{rw[if_pos hv]at hd;have hne:=Y0 hv;(repeat' first|refine Jc (hV _) ?_|refine KH ?_|fail);all_goals rw[hd]};have hv:=Classical.not_not.1 hv;subst hv;rw[if_neg (by simp)]at hd;cases sy;rotate_left;{rw[if_pos rfl]at hd;(repeat' first|refine Jc (hV _) ?_|refine Jc (hsp _) ?_|refine KF ?_|fail);all_goals rw[hd]};rw[if_neg (by decide)]at hd;by_cases hbad:(bZ||(bL||bG))=true
   ·rw[if_pos hbad]at hd;(cases bZ<;>cases bL<;>cases bG<;>first|(exact absurd hbad (by decide))|skip);all_goals
     repeat' first|refine Jk ?_|refine Jc (hV _) ?_|refine Jc (hsp _) ?_|refine KF ?_|fail
     all_goals rw[hd]
   ·rw[if_neg hbad]at hd;(obtain rfl:bZ=false:=by cases bZ<;>simp_all);(obtain rfl:bL=false:=by cases bL<;>simp_all);(obtain rfl:bG=false:=by cases bG<;>simp_all);match i,hi,hlt,hx,hj,hC0,hC,hlx with
    | 0,hi,hlt,hx,hj,hC0,hC,hlx=>
     rw[hC0 rfl,if_neg (by decide)]at hd;(repeat' first|refine Jc (hV _) ?_|refine Jc (hsp _) ?_|refine KF ?_|(apply dK;rfl;rfl;rfl)|refine Kl ?_|fail);all_goals
      refine DropQ.go [(0,slV b 5 (pwL l)),(9,slV b 5 (pwL l)),(10,.int .i64 (l.length:Int)),(11,.int .i64 ((0+1:Nat):Int))] ?_ ?_ rfl rfl ?_
      · exact⟨rfl,rfl,rfl,Zg (Zd (n:=0+1) (by omega)),trivial⟩
      · simp[Zl,under]
      · exact LoopI.go (m-1) (by omega) ⟨0+1,_,by omega,by rw[hd],rfl,rfl⟩
    | j+1,hi,hlt,hx,hj,hC0,hC,hlx=>
     obtain⟨y,hy⟩:∃y,l[j]? = some y:=⟨l[j],by simp⟩;obtain⟨c,hCy,hLB⟩:=hC j y hy;have hLB:=hLB rfl;have hg0:=Xq ((j+1:Nat):Int) 0;rw[decide_eq_true (by omega)]at hg0;(have hsb:XM E0 .sub 3 (.int .i64 ((j+1:Nat):Int)) (.int .i64 1)=some (.int .i64 (j:Int)):=by rw[Zo2 (by omega) (by omega)];congr 2;omega);have hjy:=Xb hy;have hge:=XY c 0;rw[← hLB]at hge;obtain⟨⟨k2,nm2,s2,b2,kz2⟩,yn⟩:=y;simp only[pwC,Tm.cells,List.cons_append,List.nil_append]at hCy hjy;cases LB
     ·rw[if_neg (by decide)]at hd;(repeat' first|refine Jc (hV _) ?_|refine Jc (hsp _) ?_|refine KF ?_|refine Jd (hCy _) ?_|refine JD ?_|refine JI ?_|refine KA ?_|fail);all_goals
       refine DropQ.go [(0,slV b 5 (pwL l)),(9,slV b 5 (pwL l)),(10,.int .i64 (l.length:Int)),(11,.int .i64 ((j+1+1:Nat):Int))] ?_ ?_ rfl rfl ?_
       · exact⟨rfl,rfl,rfl,Zg (Zd (n:=j+1+1) (by omega)),trivial⟩
       · simp[Zl,under]
       · exact LoopI.go (m-1) (by omega) ⟨j+1+1,_,by omega,by rw[hd],rfl,rfl⟩
     {rw[if_pos rfl]at hd;(repeat' first|refine Jc (hV _) ?_|refine Jc (hsp _) ?_|refine KF ?_|refine Jd (hCy _) ?_|refine JD ?_|refine JI ?_|refine Ku ?_|fail);all_goals rw[hd]}
  {(have e:i=l.length:=by omega);subst e;have hlx:=Zu (l.length:Int) (l.length:Int);rw[decide_eq_false (by omega)]at hlx;(repeat' first|refine Ki ?_|fail);rw[List.drop_length];rfl}
end Go.Vm.Seat
namespace Go.Vm
theorem Zip:∀{l:List Pw} {j k:Nat} {a b:Pw},VS l→j<k→l[j]? = some a→l[k]? = some b→a.1.cmp b.1<0
 | [],j,k,a,b,_,_,h,_=>by simp at h
 |x::r,0,k+1,a,b,hA,_,h1,h2=>by
  have e:x=a:=by simpa using h1
  subst e;exact hA.1.2 b (List.mem_of_getElem? (by simpa using h2))
 |x::r,j+1,k+1,a,b,hA,hjk,h1,h2=>Zip (l:=r) (j:=j) (k:=k) hA.2 (by omega) (by simpa using h1) (by simpa using h2)
structure PlaceE (l:List Pw) (t:Tm) (i:Nat):Prop where
 le:i≤l.length
 lo:∀(k:Nat) (x:Pw),k<i→l[k]? = some x→x.1.cmp t<0
 hi:∀(k:Nat) (x:Pw),i≤k→l[k]? = some x→¬ x.1.cmp t<0
theorem Zbl {t:Tm} {n:Int}:∀{l:List Pw} {i:Nat} {x:Pw},PlaceE l t i→l[i]? = some x→x.1.cmp t=0→WV l t n=if x.2+n=0 then l.take i++l.drop (i+1) else l.set i (x.1,x.2+n)
 | [],i,x,_,h,_=>by simp at h
 |y::r,0,x,hP,h,h0=>by
  have e:y=x:=by simpa using h
  subst e;have h1:¬ t.cmp y.1<0:=by rw[XO y.1 t];omega
  simp only[WV];rw[if_neg (by omega),if_neg h1];simp
 |y::r,i+1,x,hP,h,h0=>by have h1:=hP.lo 0 y (by omega) rfl;have ih:=Zbl (n:=n) (l:=r) (i:=i) (x:=x) ⟨by have:=hP.le;simp at this;omega,fun k z hk hz=>hP.lo (k+1) z (by omega) (by simpa using hz),fun k z hk hz=>hP.hi (k+1) z (by omega) (by simpa using hz)⟩ (by simpa using h) h0;simp only[WV];rw[if_pos h1,ih];split<;>simp
theorem Zgc {t:Tm} {n:Int}:∀{l:List Pw} {i:Nat},PlaceE l t i→(∀x,l[i]? = some x→x.1.cmp t≠0)→WV l t n=l.take i++ [(t,n)]++l.drop i
 | [],i,hP,_=>by simp[WV]
 |y::r,0,hP,h=>by
  have h1:=hP.hi 0 y (by omega) rfl;have h2:=h y rfl;have h3:t.cmp y.1<0:=by rw[XO y.1 t];omega
  simp only[WV];rw[if_neg h1,if_pos h3];simp
 |y::r,i+1,hP,h=>by have h1:=hP.lo 0 y (by omega) rfl;have ih:=Zgc (n:=n) (l:=r) (i:=i) ⟨by have:=hP.le;simp at this;omega,fun k z hk hz=>hP.lo (k+1) z (by omega) (by simpa using hz),fun k z hk hz=>hP.hi (k+1) z (by omega) (by simpa using hz)⟩ (fun x hx=>h x (by simpa using hx));simp only[WV];rw[if_pos h1,ih];simp
end Go.Vm
namespace Go.Vm.Seat
variable {j:Nat} {L:List Box} {l:List Pw} {t:Tm} {v0:PV}
open Go.Proofs
theorem Zeu (x:Pw):(pwC x).length=5:=by obtain⟨⟨k,nm,s,b,kz⟩,n⟩:=x;rfl
theorem ZkL {id ix len:Nat} (hj:j<len):Zy E0 207 (.own id 5 ix len) (.int .i64 (j:Int))=some (.ptr id 5 (ix+j) 0):=ZdO rfl rfl rfl rfl hj
theorem ZnY {id:Nat} {H:Heap} {L:List Pw} {x:Pw} (hb:nth H.bx id=some (.cells 5 (pwL L))) (hj:L[j]? = some x):ZZ E0 227 (.ptr id 5 j 0) H=some (.agg (pwC x)):=by obtain⟨⟨k,nm,s,b,kz⟩,n⟩:=x;exact WT rfl rfl hb ((Zm _ _).trans (Xb hj)) rfl
theorem Y8:∀l:List Pw,Yo (pwL l)=some (pwL l)
 | []=>rfl
 |⟨⟨k,nm,s,b,kz⟩,n⟩::r=>by have ih:=Y8 r;show Yo (pwC (⟨k,nm,s,b,kz⟩,n)::pwL r)=_;simp only[Yo,ih,pwC,Tm.cells,List.cons_append,List.nil_append,Vn,ZX];rfl
theorem Zuo (n:Nat) (l:List Pw):Yy n (.cells 5 (pwL l))=true:=by show(pwL l).all (ZO n)=true;rw[pwL,List.all_map,List.all_eq_true];rintro⟨⟨k,nm,s,b,kz⟩,m⟩ _;simp only[Function.comp,pwC,Tm.cells,List.cons_append,List.nil_append,ZO,under,Zl];rfl
theorem Zo5 (n:Nat) (t:Tm):under n (.agg t.cells)=true:=by obtain⟨k,nm,s,b,kz⟩:=t;simp only[Tm.cells,under,ZO,Zl];rfl
def ZqL (l:List Pw) (t:Tm) (B:List Box) (r:PV) (H:Heap):Prop:=∃(i:Nat) (fd:Bool),r= .tup [.int .i64 (i:Int),.bool fd]∧PlaceE l t i∧(fd=true↔∃x,l[i]? = some x∧x.1.cmp t=0)∧H=⟨B++ [.cells 4 [t.cells]],0,[],0⟩
theorem ZvO (t:Tm):∃r H',CO 252 [.nils,.agg t.cells,.fn 253 []] ⟨[],0,[],0⟩ r H'∧ZqL [] t [] r H':=by
 have key:∃r H',CO 252 [.nils,.agg t.cells,.fn 253 []] ⟨[],0,[],0⟩ r H'∧(r= .tup [.int .i64 0,.bool false]∧H'=⟨[]++ [.cells 4 [t.cells]],0,[],0⟩):=by
  obtain⟨k,nm,s,b,kz⟩:=t;simp only[Tm.cells];refine Zt (own:=fun _=>false) tOk fe252.ok ?_;refine Wp.seq ?_;repeat' first|refine Ka ?_|fail
  refine Wp.loop ?_;repeat' first|refine Ka ?_|fail
  refine LoopQ.exit ?_;repeat' first|(apply dK;rfl;rfl;rfl)|(apply dF (ty:=4);rfl;rfl;rfl;rfl)|refine Jh ?_|refine Jo ?_|(apply Wp.draw tOk follows;kernel_rfl)|fail
  all_goals exact RetR.ret rfl ⟨rfl,rfl⟩
 obtain⟨r,H',h1,rfl,rfl⟩:=key;exact⟨_,_,h1,0,false,rfl,⟨Nat.le_refl _,fun k x h=>absurd h (by omega),fun k x _ h=>by simp at h⟩,by simp,rfl⟩
theorem Zoo (hA:VS l) (hl:∀x,x∈l→x.1.Ok∧x.1.size≤100000) (ht:t.Ok∧t.size≤100000) (hlen:l.length≤1000):∃r H',CO 252 [.own 0 5 0 l.length,.agg t.cells,.fn 253 []] ⟨[.cells 5 (pwL l)],0,[],0⟩ r H'∧ZqL l t [.cells 5 (pwL l)] r H':=by
 have hins:∀x,x∈l→∀H,CO 253 [.agg (pwC x),.agg t.cells] H (.int .i64 (x.1.cmp t)) H:=fun x hx=>Zvy (hl x hx) ht;have hltT:∀(k p:Nat) (u x:Pw),l[k]? = some u→l[p]? = some x→k<p→x.1.cmp t≤0→u.1.cmp t<0:=fun k p u x h1 h2 h3 h4=>XX (Zip hA h3 h1 h2) h4;unfold ZqL;obtain⟨T,hT⟩:∃T,T=t:=⟨_,rfl⟩;have hTc:T.cells=t.cells:=by rw[hT]
 rw[← hT]at hltT ⊢;rw[← hT]at hins;rw[hTc]at hins ⊢;clear ht hT hTc;obtain⟨k0,nm0,s0,b0,kz0⟩:=t;simp only[Tm.cells]at hins ⊢;refine Zt (own:=fun _=>false) tOk fe252.ok ?_;refine Wp.seq ?_;repeat' first|refine Ka ?_|fail
 refine Wp.while (fun m tm H => ∃(i : Nat) (base : TM), i + m ≤ l.length ∧ (∀(k : Nat) (e : Pw), k < i → l[k]? = some e → e.1.cmp T < 0) ∧ (∀(k : Nat) (e : Pw), i + m ≤ k → l[k]? = some e → ¬ e.1.cmp T < 0) ∧
   tm=ovr base [(0,.own 0 5 0 l.length),(2,.fn 253 []),(4,.ptr 1 4 0 0),(8,.int .i64 (l.length:Int)),(9,.int .i64 (i:Int)),(10,.int .i64 ((i+m:Nat):Int))]∧H=⟨[.cells 5 (pwL l),.cells 4 [[.int .i64 k0,.str nm0,.int .i64 s0,slV b0 4 (Za kz0)]]],0,[],0⟩)
  (fun m tm H hI=>?_) l.length _ _ ⟨0,_,by omega,fun k e h=>absurd h (by omega),fun k e h h'=>absurd (Zz h') (by omega),Ze ⟨rfl,rfl,rfl,rfl,rfl,Zg (by rw[Nat.zero_add];rfl),trivial⟩,rfl⟩
 obtain⟨i,base,hi,hlo,hhi,rfl,rfl⟩:=hI;by_cases hm:0<m
 ·have hlx:=Zu (i:Int) ((i+m:Nat):Int);rw[decide_eq_true (by omega)]at hlx;obtain⟨p,hp⟩:∃p,p=(i+(i+m)) / 2:=⟨_,rfl⟩;have hpl:p<l.length:=by omega
  obtain⟨e,he⟩:∃e,l[p]? = some e:=⟨l[p],by simp⟩;have b1:XM E0 .add 3 (.int .i64 (i:Int)) (.int .i64 ((i+m:Nat):Int))=some (.int .i64 ((i+(i+m):Nat):Int)):=by show some (PV.int .i64 (IntKind.i64.wrap ((i:Int)+((i+m:Nat):Int))))=_;rw[IntWalk.i64_in _ (by omega)];congr 2
  have k1:Zdb E0 3 110 (.int .i64 ((i+(i+m):Nat):Int))=some (.int .u64 ((i+(i+m):Nat):Int)):=by show some (PV.int .u64 (IntKind.u64.wrap ((i+(i+m):Nat):Int)))=_;rw[IntWalk.u64_in _ (by omega)]
  have b2:∀c,(c:PV)= .int .i64 1∨c= .int .u64 1→XM E0 .shr 110 (.int .u64 ((i+(i+m):Nat):Int)) c=some (.int .u64 (p:Int)):=fun c hc=>by
   rcases hc with rfl|rfl;all_goals
    show some (PV.int .u64 (Int.fdiv ((i+(i+m):Nat):Int) (2 ^ (min (Int.toNat 1) 64))))=_
    congr 2
    rw[hp]
    show Int.fdiv _ 2=_
    rw[Int.fdiv_eq_ediv_of_nonneg _ (by decide)]
    omega
  have b3:=b2 (.int .i64 1) (.inl rfl);have b4:=b2 (.int .u64 1) (.inr rfl);have k2:Zdb E0 110 3 (.int .u64 (p:Int))=some (.int .i64 (p:Int)):=by show some (PV.int .i64 (IntKind.i64.wrap (p:Int)))=_;rw[IntWalk.i64_in _ (by omega)]
  have hia:=ZkL (id:=0) (ix:=0) hpl;have hld:ZZ E0 227 (.ptr 0 5 (0+p) 0) ⟨[.cells 5 (pwL l),.cells 4 [[.int .i64 k0,.str nm0,.int .i64 s0,slV b0 4 (Za kz0)]]],0,[],0⟩=some (.agg (pwC e)):=by rw[Nat.zero_add];exact ZnY rfl he
  have hc:=hins e (List.mem_of_getElem? he);have hcm:=Zu (e.1.cmp T) 0;by_cases hlt:e.1.cmp T<0;{rw[decide_eq_true hlt]at hcm;(have gA:∀(k:Nat) (u:Pw),k<p+1→l[k]? = some u→u.1.cmp T<0:=fun k u hk hu=>by rcases Nat.lt_or_ge k p with h|h;{exact hltT k p u e hu he h (by omega)};{(obtain rfl:k=p:=by omega);rw[he]at hu;cases hu;exact hlt});generalize e.1.cmp T=C at hc hcm;obtain⟨⟨k',nm',s',b',kz'⟩,en⟩:=e;simp only[pwC,Tm.cells,List.cons_append,List.nil_append]at hc hld;(repeat' first|refine Ji ?_|refine KP ?_|refine Jo ?_|refine Jd (hc _) ?_|refine JD ?_|refine JK ?_|(apply dLd;rfl;rfl;rfl;assumption;exact IsV.any _;(first|rfl|(show Nat.blt _ _=true;first|assumption|(simp[Nat.blt];done))))|refine Kb ?_|fail);exact LoopI.go (i+m-(p+1)) (by omega) ⟨p+1,_,by omega,gA,fun k u hk hu=>hhi k u (by omega) hu,Ze ⟨rfl,rfl,rfl,rfl,Zg (Zd (n:=p+1) (by omega)),Zg (by congr 1;omega),trivial⟩,rfl⟩};{rw[decide_eq_false hlt]at hcm;(have gB:∀(k:Nat) (u:Pw),p≤k→l[k]? = some u→¬ u.1.cmp T<0:=fun k u hk hu hn=>by rcases Nat.lt_or_ge p k with h|h;{exact hlt (hltT p k e u he hu h (by omega))};{(obtain rfl:k=p:=by omega);rw[he]at hu;cases hu;exact hlt hn});generalize e.1.cmp T=C at hc hcm;obtain⟨⟨k',nm',s',b',kz'⟩,en⟩:=e;simp only[pwC,Tm.cells,List.cons_append,List.nil_append]at hc hld;(repeat' first|refine Ji ?_|refine KP ?_|refine Jo ?_|refine Jd (hc _) ?_|refine JD ?_|refine JK ?_|(apply dLd;rfl;rfl;rfl;assumption;exact IsV.any _;(first|rfl|(show Nat.blt _ _=true;first|assumption|(simp[Nat.blt];done))))|refine Kb ?_|fail);exact LoopI.go (p-i) (by omega) ⟨i,_,by omega,hlo,fun k u hk hu=>gB k u (by omega) hu,Ze ⟨rfl,rfl,rfl,rfl,rfl,Zg (by congr 1;omega),trivial⟩,rfl⟩}
 ·obtain rfl:m=0:=by omega
  have hlx:=Zu (i:Int) ((i+0:Nat):Int);rw[decide_eq_false (by omega)]at hlx;have hPl:PlaceE l T i:=⟨by omega,hlo,fun k e hk he=>hhi k e (by omega) he⟩;by_cases hil:i<l.length
  ·obtain⟨e, he⟩ : ∃e, l[i]? = some e := ⟨l[i], by simp⟩;have hly:=Zu (i:Int) (l.length:Int);rw[decide_eq_true (by omega)]at hly;have hia:=ZkL (id:=0) (ix:=0) hil;(have hld:ZZ E0 227 (.ptr 0 5 (0+i) 0) ⟨[.cells 5 (pwL l),.cells 4 [[.int .i64 k0,.str nm0,.int .i64 s0,slV b0 4 (Za kz0)]]],0,[],0⟩=some (.agg (pwC e)):=by rw[Nat.zero_add];exact ZnY rfl he);have hc:=hins e (List.mem_of_getElem? he);(have hiff:(decide (e.1.cmp T=0))=true↔∃x,l[i]? = some x∧x.1.cmp T=0:=by rw[decide_eq_true_eq];exact⟨fun h=>⟨e,he,h⟩,fun ⟨x,h1,h2⟩=>by rw[he]at h1;cases h1;exact h2⟩);have hcm:=Z8 (e.1.cmp T) 0;generalize decide (e.1.cmp T=0)=fd at hcm hiff;generalize e.1.cmp T=C at hc hcm;obtain⟨⟨k',nm',s',b',kz'⟩,en⟩:=e;simp only[pwC,Tm.cells,List.cons_append,List.nil_append]at hc hld;cases fd;all_goals
    repeat' first|refine Ki ?_|refine Jd (hc _) ?_|refine JD ?_|refine JK ?_|(apply dLd;rfl;rfl;rfl;assumption;exact IsV.any _;(first|rfl|(show Nat.blt _ _=true;first|assumption|(simp[Nat.blt];done))))|refine KA ?_|fail
    all_goals exact RetR.ret rfl ⟨i,_,rfl,hPl,hiff,rfl⟩
  {have hly:=Zu (i:Int) (l.length:Int);rw[decide_eq_false (by omega)]at hly;have hiff:false=true↔∃x,l[i]? = some x∧x.1.cmp T=0:=⟨fun h=>(by cases h),fun ⟨x,h1,_⟩=>absurd (Zz h1) hil⟩;(repeat' first|refine Ki ?_|(apply dK;rfl;rfl;rfl)|refine JD ?_|refine Kl ?_|fail);all_goals exact RetR.ret rfl ⟨i,_,rfl,hPl,hiff,rfl⟩}
theorem X3 {es:Nat} {P:List (List PV)} (h:Mut0 es v0 L P):(v0= .nils∧L= []∧P= [])∨(v0= .own 0 es 0 P.length∧L= [.cells es P]):=by
 cases h with
 |nil=>exact .inl ⟨rfl,rfl,rfl⟩
 |own=>exact .inr ⟨rfl,rfl⟩
theorem Zcs (h:pwL l= []):l= []:=by have:=congrArg List.length h;rw[ZT]at this;exact List.length_eq_zero_iff.1 this
theorem ZuS (hA:VS l) (hl:∀x,x∈l→x.1.Ok∧x.1.size≤100000) (ht:t.Ok∧t.size≤100000) (hlen:l.length≤1000) (hM:Mut0 5 v0 L (pwL l)) (ext:List Box):∃(i:Nat) (fd:Bool),PlaceE l t i∧(fd=true↔∃x,l[i]? = some x∧x.1.cmp t=0)∧CO 252 [v0,.agg t.cells,.fn 253 []] ⟨L++ext,0,[],0⟩ (.tup [.int .i64 (i:Int),.bool fd]) ⟨L++ext,0,[],0⟩:=by
 have key:∃r H',CO 252 [v0,.agg t.cells,.fn 253 []] ⟨L,0,[],0⟩ r H'∧ZqL l t L r H':=by rcases X3 hM with⟨rfl,rfl,h⟩|⟨rfl,rfl⟩;{obtain rfl:=Zcs h;exact ZvO t};{rw[ZT];exact Zoo hA hl ht hlen}
 obtain⟨r,H',h1,i,fd,rfl,hP,hiff,rfl⟩:=key;refine⟨i,fd,hP,hiff,?_⟩;have hu:=Zo5 L.length t;have hLu:L.all (Yy L.length)=true∧ZO L.length [v0,.agg t.cells,.fn 253 []]=true:=by rcases X3 hM with⟨rfl,rfl,h⟩|⟨rfl,rfl⟩;{exact⟨rfl,by show(under _ _&&(under _ (.agg t.cells)&&_))=true;rw[hu];rfl⟩};{exact⟨by simp only[List.all_cons,List.all_nil,Zuo];rfl,by show(under _ _&&(under _ (.agg t.cells)&&_))=true;rw[hu];rfl⟩}
 have h2:=h1.shed (by simp) (Nat.zero_le _) rfl (by simpa using hLu.1);have e:(⟨List.take L.length (L++ [.cells 4 [t.cells]]),0,[],0⟩:Heap)=⟨L,0,[],0⟩:=by simp
 have h3:CO 252 [v0,.agg t.cells,.fn 253 []] ⟨L,0,[],0⟩ (.tup [.int .i64 (i:Int),.bool fd]) ⟨List.take L.length (L++ [.cells 4 [t.cells]]),0,[],0⟩:=h2;rw[e]at h3;exact h3.ext rfl hLu.2 hLu.1 (Nat.zero_le _)
