/-
  slices.Clone at terms, in every heap; a term that is copied kid by kid (exponent
-/
import Derived.Test.YtnghnjdabbjcnaaGreatDoorNf
set_option maxHeartbeats 0
set_option maxRecDepth 100000
namespace Go.Vm.Seat
variable {a t:Tm}
open Go.Proofs
theorem isR (t:Tm) (w:Bs):∀H,CO 230 [.agg t.cells,.str w] H (.bool (isA t w)) H:=by obtain⟨k,nm,s,b,kz⟩:=t;have e:isF k nm w=isA (.mk k nm s b kz) w:=rfl;rw[← e];exact Zw5 k nm s b kz w
theorem Yl (m:Nat) (H:Heap) (k:Int) (nm:Bs) (s:Int) (b:Bool) (l:List (List PV)) (x:Bool):frz3 m H (.tup [.agg [.int .i64 k,.str nm,.int .i64 s,slV b 4 l],.bool x])=some (.tup [.agg [.int .i64 k,.str nm,.int .i64 s,slV b 4 l],.bool x]):=by rw[Y2];simp only[X4,frz2,XO,U2];rfl
theorem Zlj (ha:a.okA=true) (b:Bool):∀H,CO 213 [.agg (Tm.mk 3 UA 0 b [a]).cells] H (.tup [.agg (Xy (.mk 3 UA 0 b [a])).cells,.bool (isA a XE)]) H:=by
 have hi:=isR a XE;have hd:Xy (.mk 3 UA 0 b [a])=if isA a XE=true then a.kd 0 else .mk 3 UA 0 b [a]:=by unfold Xy Zc7;simp[Zey,Tm.nm,Tm.kd,UA,Uc,VZ,YM,YP,Y3]
 rw[hd];cases hp:isA a XE with
 |true=>
  rw[hp]at hi;obtain⟨b1,x,y,rfl⟩:=Xg ha hp rfl;rw[if_pos rfl];show ∀H,CO 213 _ H (.tup [.agg (Tm.cells x),.bool true]) H;obtain⟨k1,n1,s1,f1,l1⟩:=x;obtain⟨k2,n2,s2,f2,l2⟩:=y;simp only[Tm.cells,VS,ZbH,UA,XE]at hi ⊢;refine Jw tOk fe213.ok (Yl _ _ _ _ _ _ _ _) ?_;repeat' first|refine Jc (hi _) ?_|refine Ka ?_|fail
  all_goals first
   | exact Yl _ _ _ _ _ _ _ _
   | (exfalso;simp at hb;done)
 |false=>
  rw[hp]at hi;rw[if_neg (by decide)];obtain⟨k1,n1,s1,f1,l1⟩:=a;simp only[Tm.cells,ZbH,UA]at hi ⊢;refine Jw tOk fe213.ok rfl ?_;repeat' first|refine Jk ?_|refine Jc (hi _) ?_|refine Kt ?_|refine Kr ?_|fail
  all_goals first
   | rfl
   | (exfalso;simp at hb;done)
theorem Zlt (ha:a.okA=true) (b:Bool):∀H,CO 213 [.agg (Tm.mk 3 Uc 0 b [a]).cells] H (.tup [.agg (Xy (.mk 3 Uc 0 b [a])).cells,.bool (isA a XE)]) H:=by
 have hi:=isR a XE;have hd:Xy (.mk 3 Uc 0 b [a])=if isA a XE=true then a.kd 1 else .mk 3 Uc 0 b [a]:=by unfold Xy Zc7;simp[Zey,Tm.nm,Tm.kd,UA,Uc,VZ,YM,YP,Y3]
 rw[hd];cases hp:isA a XE with
 |true=>
  rw[hp]at hi;obtain⟨b1,x,y,rfl⟩:=Xg ha hp rfl;rw[if_pos rfl];show ∀H,CO 213 _ H (.tup [.agg (Tm.cells y),.bool true]) H;obtain⟨k1,n1,s1,f1,l1⟩:=x;obtain⟨k2,n2,s2,f2,l2⟩:=y;simp only[Tm.cells,VS,ZbH,Uc,XE]at hi ⊢;refine Jw tOk fe213.ok (Yl _ _ _ _ _ _ _ _) ?_;repeat' first|refine Jk ?_|refine Jc (hi _) ?_|refine Ka ?_|fail
  all_goals first
   | exact Yl _ _ _ _ _ _ _ _
   | (exfalso;simp at hb;done)
 |false=>
  rw[hp]at hi;rw[if_neg (by decide)];obtain⟨k1,n1,s1,f1,l1⟩:=a;simp only[Tm.cells,ZbH,Uc]at hi ⊢;refine Jw tOk fe213.ok rfl ?_;repeat' first|refine Jk ?_|refine Jc (hi _) ?_|refine Kt ?_|refine Kr ?_|fail
  all_goals first
   | rfl
   | (exfalso;simp at hb;done)
theorem Zjd (ha:a.okA=true) (b:Bool):∀H,CO 213 [.agg (Tm.mk 3 Y3 0 b [a]).cells] H (.tup [.agg (Xy (.mk 3 Y3 0 b [a])).cells,.bool (isA a Xs)]) H:=by
 have hi:=isR a Xs;have hd:Xy (.mk 3 Y3 0 b [a])=if isA a Xs=true then a.kd 0 else .mk 3 Y3 0 b [a]:=by unfold Xy Zc7;simp[Zey,Tm.nm,Tm.kd,UA,Uc,VZ,YM,YP,Y3]
 rw[hd];cases hp:isA a Xs with
 |true=>
  rw[hp]at hi;obtain⟨b1,x,y,rfl⟩:=Xg ha hp rfl;rw[if_pos rfl];show ∀H,CO 213 _ H (.tup [.agg (Tm.cells x),.bool true]) H;obtain⟨k1,n1,s1,f1,l1⟩:=x;obtain⟨k2,n2,s2,f2,l2⟩:=y;simp only[Tm.cells,VS,ZbH,Y3,Xs]at hi ⊢;refine Jw tOk fe213.ok (Yl _ _ _ _ _ _ _ _) ?_;repeat' first|refine Jk ?_|refine Jc (hi _) ?_|refine Kt ?_|refine Kr ?_|fail
  all_goals first
   | exact Yl _ _ _ _ _ _ _ _
   | (exfalso;simp at hb;done)
 |false=>
  rw[hp]at hi;rw[if_neg (by decide)];obtain⟨k1,n1,s1,f1,l1⟩:=a;simp only[Tm.cells,ZbH,Y3]at hi ⊢;refine Jw tOk fe213.ok rfl ?_;repeat' first|refine Jk ?_|refine Jc (hi _) ?_|refine Kt ?_|refine Kr ?_|fail
  all_goals first
   | rfl
   | (exfalso;simp at hb;done)
theorem ZhF {u:Tm} (ht:t.Ok∧t.size≤200000) (hu:u.Ok∧u.size≤200000):∀H,CO 59 [.agg t.cells,.agg u.cells] H (.bool (decide (t.cmp u=0))) H:=by
 have hc:∀H,CO 92 [.agg t.cells,.agg u.cells] H (.int .i64 (t.cmp u)) H:=fun H=>Zpz (d92 ht.1 hu.1 (by have:=ht.2;omega) (by have:=hu.2;omega) H);generalize t.cmp u=c at hc ⊢;obtain⟨k,nm,s,b,kz⟩:=t;obtain⟨k',nm',s',b',kz'⟩:=u;simp only[Tm.cells]at hc ⊢;refine Jw tOk fe59.ok rfl ?_;repeat' first|refine Jc (hc _) ?_|refine Jt ?_|refine Jb ?_ ?_|refine Jo ?_|intro hb
 all_goals simp_all
theorem up2 (h:t.Ok∧t.size≤100000):t.Ok∧t.size≤200000:=⟨h.1,Nat.le_trans h.2 (by decide)⟩
theorem ZlT {key:Tm} (ha:a.okA=true) (ha':a.Ok∧a.size≤100000) (hk':key.Ok∧key.size≤100000) (b:Bool):∀H,CO 213 [.agg (Tm.mk 3 VZ 0 b [a,key]).cells] H (.tup [.agg (Xy (.mk 3 VZ 0 b [a,key])).cells,.bool (isA a Zfz&&decide ((a.kd 1).cmp key=0))]) H:=by
 have hi:=isR a Zfz;have hd:Xy (.mk 3 VZ 0 b [a,key])=if(isA a Zfz&&decide ((a.kd 1).cmp key=0))=true then a.kd 0 else .mk 3 VZ 0 b [a,key]:=by unfold Xy Zc7;simp[Zey,Tm.nm,Tm.kd,UA,Uc,VZ,YM,YP,Y3]
 rw[hd];cases hp:isA a Zfz with
 |false=>
  rw[hp]at hi;rw[if_neg (by simp),Bool.false_and];obtain⟨k1,n1,s1,f1,l1⟩:=a;obtain⟨k2,n2,s2,f2,l2⟩:=key;simp only[Tm.cells,VS,VZ]at hi ⊢;refine Jw tOk fe213.ok rfl ?_;repeat' first|refine Jk ?_|refine Kt ?_|refine Jd (hi _) ?_|refine KC ?_|fail
  all_goals first
   | exact Yl _ _ _ _ _ _ _ _
   | rfl
   | (exfalso;simp at hb;done)
 |true=>
  rw[hp]at hi;obtain⟨b1,x,y,rfl⟩:=Xg ha hp rfl;have hs:=ZhF (up2 (Ub ha' (x:=y) (by simp))) (up2 hk');show ∀H,CO 213 _ H (.tup [.agg (Tm.cells (if(true&&decide (y.cmp key=0))=true then x else _)),.bool (true&&decide (y.cmp key=0))]) H;rw[Bool.true_and];generalize decide (y.cmp key=0)=c at hs ⊢;obtain⟨k1,n1,s1,f1,l1⟩:=x;obtain⟨k2,n2,s2,f2,l2⟩:=y;obtain⟨k3,n3,s3,f3,l3⟩:=key;cases c
  ·rw[if_neg (by decide)];simp only[Tm.cells,VS,VZ,Zfz]at hi hs ⊢;refine Jw tOk fe213.ok rfl ?_;(repeat' first|refine Jk ?_|refine Kt ?_|refine Jd (hi _) ?_|refine Jd (hs _) ?_|refine KC ?_|fail);all_goals first
    | exact Yl _ _ _ _ _ _ _ _
    | rfl
    | (exfalso;simp at hb;done)
  ·rw[if_pos rfl];simp only[Tm.cells,VS,VZ,Zfz]at hi hs ⊢;refine Jw tOk fe213.ok (Yl _ _ _ _ _ _ _ _) ?_;(repeat' first|refine Jk ?_|refine Ka ?_|refine Jd (hi _) ?_|refine Jd (hs _) ?_|refine KV ?_|fail);all_goals first
    | exact Yl _ _ _ _ _ _ _ _
    | rfl
    | (exfalso;simp at hb;done)
end Go.Vm.Seat
namespace Go.Vm
variable {B:Int} {l:List Pw}
def PwB (B:Int) (l:List Pw):Prop:=∀x,x∈l→(x.1.Ok∧x.1.size≤100000)∧ -B≤x.2∧x.2≤B
theorem PwB.tail {x:Pw} {r:List Pw} (h:PwB B (x::r)):PwB B r:=fun t ht=>h t (List.mem_cons_of_mem _ ht)
theorem PwB.mono {C:Int} (h:PwB B l) (hc:B≤C):PwB C l:=fun x hx=>⟨(h x hx).1,by have:=(h x hx).2;omega,by have:=(h x hx).2;omega⟩
theorem PwB.nil (B:Int):PwB B []:=fun x hx=>by simp at hx
theorem PwB.ins {c:Int} {t:Tm} {n:Int} (h:PwB B l) (ht:t.Ok∧t.size≤100000) (hn: -c≤n∧n≤c) (hB:0≤B) (hc:0≤c):PwB (B+c) (Vh l t n):=by
 induction l with
 |nil=>intro x hx;simp only[Vh,List.mem_singleton]at hx;subst hx;exact⟨ht,by show -(B+c)≤n;omega,by show n≤B+c;omega⟩
 |cons y r ih=>have hy:=h y List.mem_cons_self;have hr:PwB (B+c) r:=h.tail.mono (by omega);have hyc:(y.1.Ok∧y.1.size≤100000)∧ -(B+c)≤y.2∧y.2≤B+c:=⟨hy.1,by omega,by omega⟩;intro x hx;simp only[Vh]at hx;split at hx;{rcases List.mem_cons.1 hx with rfl|hx;{exact hyc};{exact ih h.tail x hx}};{split at hx;{rcases List.mem_cons.1 hx with rfl|hx;{exact⟨ht,by show -(B+c)≤n;omega,by show n≤B+c;omega⟩};{rcases List.mem_cons.1 hx with rfl|hx;{exact hyc};{exact hr x hx}}};{split at hx;{exact hr x hx};{rcases List.mem_cons.1 hx with rfl|hx;{exact⟨hy.1,by show -(B+c)≤y.2+n;omega,by show y.2+n≤B+c;omega⟩};{exact hr x hx}}}}
theorem ZnP (t:Tm) (n:Int) (o:List Pw) (d:Bool) (x:Pw) (L Z M:Bool) (m:Int) (hL:L=decide (t.cmp x.1<0)) (hZ:Z=decide (t.cmp x.1=0)) (hm:m=if Z=true then x.2+n else x.2) (hM:M= !decide (m=0)):YC t n (o,d) x=(if M=true then(if(!d&&L)=true then o++ [(t,n)] else o)++ [(x.1,m)] else(if(!d&&L)=true then o++ [(t,n)] else o),d||(L||Z)):=by
 subst hL hZ hM;unfold YC;by_cases h1:t.cmp x.1<0
 ·have h2:¬ t.cmp x.1=0:=by omega
  simp only[h2,decide_false,Bool.false_eq_true,if_false]at hm;subst hm;cases d<;>simp[h1,h2]<;>split<;>simp_all
 {by_cases h2:t.cmp x.1=0;{simp only[h2,decide_true,if_true]at hm;subst hm;cases d<;>simp[h2]<;>split<;>simp_all};{simp only[h2,decide_false,Bool.false_eq_true,if_false]at hm;subst hm;cases d<;>simp[h1,h2]<;>split<;>simp_all}}
theorem Zej (t:Tm) (n:Int):∀(l:List Pw) (s:List Pw×Bool),(l.foldl (YC t n) s).1.length≤s.1.length+2*l.length
 | [],s=>by simp
 | x :: r, s => by
   have h:=Zej t n r (YC t n s x)
   have h2:(YC t n s x).1.length≤s.1.length+2:=by
    unfold YC
    dsimp only
    repeat' split
    all_goals first
     | omega
     | (simp only[List.length_append,List.length_singleton];omega)
   rw[List.foldl_cons,List.length_cons]
   omega
end Go.Vm
namespace Go.Vm.Seat
variable {l:List Pw} {L:List Tm} {t:Tm}
open Go.Proofs
def pwL (l:List Pw):List (List PV):=l.map pwC
theorem ZV (l:List Pw):(pwL l).length=l.length:=by simp[pwL]
theorem Xi {i:Nat} {x:Pw} (h:l[i]? = some x):(pwL l)[i]? = some (pwC x):=by simp[pwL,h]
theorem ZeK (l m:List Pw):pwL (l++m)=pwL l++pwL m:=by simp[pwL]
theorem ZaE (l:List Pw):(pwL l).all (fun c=>c.all ZP)=true:=by rw[pwL,List.all_map,List.all_eq_true];rintro⟨⟨k,nm,s,b,kz⟩,n⟩ _;simp[pwC,Tm.cells,ZU];exact⟨rfl,rfl,rfl,rfl⟩
theorem ZjA (l:List Pw):noB (pwL l)=true:=by simp only[pwL,noB,List.all_map,List.all_eq_true];rintro⟨⟨k,nm,s,b,kz⟩,n⟩ _;rfl
theorem apT_pw:ApT E0 207 207 5 64:=⟨_,_,_,_,_,rfl,rfl,rfl,rfl,rfl,rfl,rfl,by decide,rfl⟩
theorem ZrG {L:List Pw} {out:PV} {lv:List Nat} {nt:Nat} (hA:ApV true 5 (pwL L) out lv nt) (x:Pw) (hL:L.length≤1000000):∃out' lv' nt',(∀bx ro,ZL E0 207 207 out (.sl .full 5 [pwC x]) ⟨bx,ro,lv,nt⟩=some (out',⟨bx,ro,lv',nt'⟩))∧ApV true 5 (pwL (L++ [x])) out' lv' nt':=by obtain⟨out',lv',nt',hap,hA', -⟩:=hA.app apT_pw (.sl .full 5 (pwL [x])) (ZaE _) (ZQ (by simp only[ZV,List.length_cons,List.length_nil];omega) (by decide)) (ZjA _);rw[← ZeK]at hA';exact⟨out',lv',nt',hap,hA'⟩
theorem Zv (a b:Int):YS E0 .lss 3 (.int .i64 a) (.int .i64 b)=some (.bool (decide (a<b))):=rfl
theorem Z0 (a b:Int):YS E0 .eql 3 (.int .i64 a) (.int .i64 b)=some (.bool (decide (a=b))):=by show some (PV.bool (a==b))=_;by_cases h:a=b<;>simp[h]
theorem ZfI (a b:Int):YS E0 .neq 3 (.int .i64 a) (.int .i64 b)=some (.bool (!decide (a=b))):=by show some (PV.bool (!(a==b)))=_;by_cases h:a=b<;>simp[h]
theorem Wa {a b:Int} (h: -9223372036854775808≤a+b) (h':a+b≤9223372036854775807):YS E0 .add 3 (.int .i64 a) (.int .i64 b)=some (.int .i64 (a+b)):=by show some (PV.int .i64 (IntKind.i64.wrap (a+b)))=_;rw[IntWalk.i64_in _ (by omega)]
theorem ZuA {u:Tm} (ht:t.Ok∧t.size≤100000) (hu:u.Ok∧u.size≤100000):∀H,CO 92 [.agg t.cells,.agg u.cells] H (.int .i64 (t.cmp u)) H:=fun H=>
 Zpz (d92 ht.1 hu.1 (by have:=ht.2;omega) (by have:=hu.2;omega) H)
theorem ZuO {n:Int} (hl:PwB 1000000000 l) (ht:t.Ok∧t.size≤100000) (hn: -1000000000≤n∧n≤1000000000) (hlen:l.length≤100000) (b:Bool):∀H,CO 250 [slV b 5 (pwL l),.agg t.cells,.int .i64 n] H (slV true 5 (pwL (ZkR l t n))) H:=by
 have hcmp:∀x,x∈l→∀H,CO 92 [.agg t.cells,.agg x.1.cells] H (.int .i64 (t.cmp x.1)) H:=fun x hx=>ZuA ht (hl x hx).1;have hlen0:=fun i=>Zej t n (l.take i) ([],false);have hadd : ZkR l t n = match l.foldl (YC t n) ([], false) with
       | (o,true)=>o
       | (o,false)=>o++ [(t,n)]:=rfl
 rw[hadd];clear hadd;obtain⟨T,hT⟩:∃T,T=t:=⟨_,rfl⟩;rw[← hT]at hcmp hlen0 ⊢;have hTc:pwC (T,n)=t.cells++ [.int .i64 n]:=by rw[hT];rfl
 have hTc2:T.cells=t.cells:=by rw[hT]
 rw[hTc2];rw[hTc2]at hcmp;clear ht hT hTc2;obtain⟨k,nm,s,tb,kz⟩:=t;simp only[Tm.cells,List.cons_append,List.nil_append]at hcmp hTc ⊢;refine Jw tOk fe250.ok (ZJ _ _ _ _ _) ?_ (by simp only[ZG,Xv];simp[frzG,XK];rfl);repeat' first|refine Ka ?_|fail
 refine Wp.while (fun m tm H => ∃(i : Nat) (base : TM) (out : PV) (lv : List Nat) (nt : Nat), i + m = l.length ∧ ApV true 5 (pwL ((l.take i).foldl (YC T n) ([], false)).1) out lv nt ∧
   tm=ovr base [(7,out),(0,slV b 5 (pwL l)),(2,.int .i64 n),(4,.ptr 0 4 0 0),(8,.bool ((l.take i).foldl (YC T n) ([],false)).2),(9,.int .i64 (i:Int))]∧H=⟨[.cells 4 [[.int .i64 k,.str nm,.int .i64 s,slV tb 4 (Za kz)]]],0,lv,nt⟩)
  (fun m tm H hI=>Wp.drop ?_) l.length _ _ ⟨0,_,_,_,_,by omega,.nil _ _ rfl,Zd ⟨rfl,rfl,rfl,rfl,rfl,rfl,trivial⟩,rfl⟩
 obtain⟨i,base,out,lv,nt,hi,hA,rfl,rfl⟩:=hI;have hl1:=hlen0 i;have hl2:(l.take i).length≤l.length:=by rw[List.length_take];omega
 have hBU:Ys 1 (.cells 4 [[.int .i64 k,.str nm,.int .i64 s,slV tb 4 (Za kz)]])=true:=by simp[Ys,ZC,under,Zl]
 by_cases hlt:i<l.length
 ·obtain⟨x,hx⟩:∃x,l[i]? = some x:=⟨l[i],by simp⟩;have hm:x∈l:=List.mem_of_getElem? hx;have hs:=XW (f:=YC T n) (b:=([],false)) hx;generalize (l.take i).foldl (YC T n) ([],false)=S at hA hs hl1 ⊢;obtain⟨o,d⟩:=S;have hc:=hcmp x hm;have hxb:=(hl x hm).2;have hlo:o.length≤200000:=by simp only[List.length_nil]at hl1;omega
  obtain⟨L,hL⟩:∃L,L=decide (T.cmp x.1<0):=⟨_,rfl⟩;obtain⟨Z,hZ⟩:∃Z,Z=decide (T.cmp x.1=0):=⟨_,rfl⟩;obtain⟨m',hm'⟩:∃m',m'=if Z=true then x.2+n else x.2:=⟨_,rfl⟩
  obtain⟨M,hM⟩:∃M,M= !decide (m'=0):=⟨_,rfl⟩;rw[ZnP T n o d x L Z M m' hL hZ hm' hM]at hs;obtain⟨o1,v1,n1,hap1,hA1⟩:=ZrG hA (T,n) (by show o.length≤1000000;omega);obtain⟨o2,v2,n2,hap2,hA2⟩:=ZrG hA (x.1,m') (by show o.length≤1000000;omega);obtain⟨o3,v3,n3,hap3,hA3⟩:=ZrG hA1 (x.1,m') (by simp;omega);rw[hTc]at hap1;have hbL:=Zv (T.cmp x.1) 0;have hbZ:=Z0 (T.cmp x.1) 0;have hbM:=ZfI m' 0;have hadd:=Wa (a:=x.2) (b:=n) (by omega) (by omega);rw[← hL]at hbL;rw[← hZ]at hbZ;rw[← hM]at hbM;have hLZ:¬ (L=true∧Z=true):=fun h=>by rw[hL,hZ]at h;simp only[decide_eq_true_eq]at h;omega
  have hlx:=Zv (i:Int) ((pwL l).length:Int);rw[decide_eq_true (by rw[ZV];omega)]at hlx;clear hM hL;generalize T.cmp x.1=c at hc hbL hbZ hZ;clear hZ;have hj:=Xi hx;obtain⟨⟨k',nm',s',b',kz'⟩,xn⟩:=x;simp only[pwC,Tm.cells,List.cons_append,List.nil_append]at hc hap2 hap3 hj;cases Z
  ·(have hmx : m' = xn := by simpa using hm');subst hmx;cases L<;>cases d<;>cases M;all_goals
    simp only[Bool.not_false,Bool.not_true,Bool.and_true,Bool.and_false,Bool.false_eq_true,if_true,if_false,Bool.or_false,Bool.or_true]at hs
    repeat' first|refine Jk ?_|refine Kv ?_|refine KI ?_|refine Jd (hc _) ?_|refine JI ?_|refine Kb ?_|fail
    first
     | exact DropQ.go [(7, out), (0, slV b 5 (pwL l)), (2, .int .i64 n), (4, .ptr 0 4 0 0), (8, .bool ((l.take (i + 1)).foldl (YC T n) ([], false)).2), (9, .int .i64 ((i + 1 : Nat) : Int))] ⟨rfl, rfl, rfl, rfl, (by rw[hs]; rfl), Zg (Ze (n := i + 1) (by omega)), trivial⟩
         (by simp[hA.under,Zl,under]) rfl (by simpa using hBU) (LoopI.go (m-1) (by omega) ⟨i+1,_,out,lv,nt,by omega,by rw[hs];exact hA,rfl,rfl⟩)
     | exact DropQ.go [(7, o2), (0, slV b 5 (pwL l)), (2, .int .i64 n), (4, .ptr 0 4 0 0), (8, .bool ((l.take (i + 1)).foldl (YC T n) ([], false)).2), (9, .int .i64 ((i + 1 : Nat) : Int))] ⟨rfl, rfl, rfl, rfl, (by rw[hs]; rfl), Zg (Ze (n := i + 1) (by omega)), trivial⟩
         (by simp[hA2.under,Zl,under]) rfl (by simpa using hBU) (LoopI.go (m-1) (by omega) ⟨i+1,_,o2,v2,n2,by omega,by rw[hs];exact hA2,rfl,rfl⟩)
     | exact DropQ.go [(7, o1), (0, slV b 5 (pwL l)), (2, .int .i64 n), (4, .ptr 0 4 0 0), (8, .bool ((l.take (i + 1)).foldl (YC T n) ([], false)).2), (9, .int .i64 ((i + 1 : Nat) : Int))] ⟨rfl, rfl, rfl, rfl, (by rw[hs]; rfl), Zg (Ze (n := i + 1) (by omega)), trivial⟩
         (by simp[hA1.under,Zl,under]) rfl (by simpa using hBU) (LoopI.go (m-1) (by omega) ⟨i+1,_,o1,v1,n1,by omega,by rw[hs];exact hA1,rfl,rfl⟩)
     | exact DropQ.go [(7, o3), (0, slV b 5 (pwL l)), (2, .int .i64 n), (4, .ptr 0 4 0 0), (8, .bool ((l.take (i + 1)).foldl (YC T n) ([], false)).2), (9, .int .i64 ((i + 1 : Nat) : Int))] ⟨rfl, rfl, rfl, rfl, (by rw[hs]; rfl), Zg (Ze (n := i + 1) (by omega)), trivial⟩
         (by simp[hA3.under,Zl,under]) rfl (by simpa using hBU) (LoopI.go (m-1) (by omega) ⟨i+1,_,o3,v3,n3,by omega,by rw[hs];exact hA3,rfl,rfl⟩)
  ·(have hLf : L = false := by cases L;{rfl};{exact absurd ⟨rfl,rfl⟩ hLZ});subst hLf;(have hmx:m'=xn+n:=by simpa using hm');rw[hmx]at hbM hap2 hap3 hA2 hs;cases d<;>cases M;all_goals
    simp only[Bool.not_false,Bool.not_true,Bool.and_false,Bool.false_eq_true,if_true,if_false,Bool.or_true]at hs
    repeat' first|refine Jk ?_|refine Kv ?_|refine KI ?_|refine Jd (hc _) ?_|refine JI ?_|refine Kb ?_|fail
    first
     | exact DropQ.go [(7, out), (0, slV b 5 (pwL l)), (2, .int .i64 n), (4, .ptr 0 4 0 0), (8, .bool ((l.take (i + 1)).foldl (YC T n) ([], false)).2), (9, .int .i64 ((i + 1 : Nat) : Int))] ⟨rfl, rfl, rfl, rfl, (by rw[hs]; rfl), Zg (Ze (n := i + 1) (by omega)), trivial⟩
         (by simp[hA.under,Zl,under]) rfl (by simpa using hBU) (LoopI.go (m-1) (by omega) ⟨i+1,_,out,lv,nt,by omega,by rw[hs];exact hA,rfl,rfl⟩)
     | exact DropQ.go [(7, o2), (0, slV b 5 (pwL l)), (2, .int .i64 n), (4, .ptr 0 4 0 0), (8, .bool ((l.take (i + 1)).foldl (YC T n) ([], false)).2), (9, .int .i64 ((i + 1 : Nat) : Int))] ⟨rfl, rfl, rfl, rfl, (by rw[hs]; rfl), Zg (Ze (n := i + 1) (by omega)), trivial⟩
         (by simp[hA2.under,Zl,under]) rfl (by simpa using hBU) (LoopI.go (m-1) (by omega) ⟨i+1,_,o2,v2,n2,by omega,by rw[hs];exact hA2,rfl,rfl⟩)
 ·have e:i=l.length:=by omega
  subst e;have hlx:=Zv (l.length:Int) ((pwL l).length:Int);rw[decide_eq_false (by rw[ZV];omega)]at hlx;rw[List.take_length]at hA hl1 ⊢;generalize l.foldl (YC T n) ([],false)=S at hA hl1 ⊢;obtain⟨o,d⟩:=S;have hlo:o.length≤200000:=by simp only[List.length_nil]at hl1;omega
  obtain⟨o1,v1,n1,hap1,hA1⟩:=ZrG hA (T,n) (by show o.length≤1000000;omega);rw[hTc]at hap1;cases d;all_goals
   repeat' first|refine Kv ?_|refine Kw ?_|fail
   all_goals first
    | exact hA1.frz3 _ _
    | exact hA.frz3 _ _
theorem ZmX {l:List Tm} (h:l≠ []) (b:Bool):slV b 4 (Za l)= .sl .none 4 (Za l):=by
 cases l with
 |nil=>exact absurd rfl h
 |cons a r=>obtain⟨k,nm,s,b',kz⟩:=a;exact Zr _ _ _ _
theorem ZqC (hL:L≠ []) (hl:L.length≤1000000) (H:Heap):ZK E0 30 30 (.sl .full 4 []) (.sl .none 4 (Za L)) H=some (.own H.bx.length 4 0 L.length,H.push (.cells 4 (Za L))):=by
 have he:=ZY (s:= .sl .full 4 []) YD (ElV.slV true 4 (Za L)) (Zs _) rfl rfl H;rw[ZmX hL]at he;have hn:=Zb L;cases hE:Za L with
 |nil=>rw[hE]at hn;exact absurd (List.length_eq_zero_iff.1 hn.symm) hL
 |cons y yr=>rw[hE]at hn he;simp only[ZK,he,YH,List.nil_append];rw[if_pos (ZQ (by rw[hn];simp;omega) (by decide))];simp only[List.length_nil,Nat.zero_add];rw[hn]
theorem Zpk (hL:L≠ []) (hl:L.length≤1000000):CO 32 [.sl .none 4 (Za L)] hNil (.own 0 4 0 L.length) ⟨[.cells 4 (Za L)],0,[],0⟩:=by
 have hap:=ZqC hL hl hNil;refine ZW (own:=fun d=>Nat.beq d 7) tOk fe32.ok ?_;refine Wp.seq ?_;repeat' first|refine Js ?_|refine Ka ?_|fail
 refine Zsm rfl rfl rfl rfl rfl hap ?_;repeat' first|refine Jo ?_|fail
 all_goals exact RetE.ret rfl rfl rfl
theorem Zrs (hL:L≠ []) (hl:L.length≤1000000) (H:Heap):CO 32 [.sl .none 4 (Za L)] H (.own H.bx.length 4 0 L.length) {H with bx:=H.bx++ [.cells 4 (Za L)]}:=
 (Zpk hL hl).slot (L:=[]) (k:=0) (B:= .cells 4 (Za L)) (j:=0) (.inl rfl) (fun g g0 l hS _ x=>ZgC hS rfl x) (.inr ⟨4,Za L,[],rfl,by simp,Wx L⟩) (fun g1 g2 v hS hs x=>Q3 hs.1 hs.2 x)
theorem Zp9:∀H,CO 32 [.nils] H .nils H:=by
 refine Jw tOk fe32.ok rfl ?_;repeat' first|refine Ka ?_|fail
 all_goals rfl
theorem Zov:∀H,CO 32 [.sl .none 4 []] H (.sl .none 4 []) H:=by
 have hap:ZL E0 30 30 (.sl .full 4 []) (.sl .none 4 []) hNil=some (.sl .full 4 [],hNil):=by have he:=ZY (s:= .sl .full 4 []) YD (ElV.slV false 4 (Za [])) (Zs _) rfl rfl hNil;rw[show slV false 4 (Za [])= .sl .none 4 [] from ZE 4]at he;simp only[ZL,he];rfl
 refine Jw tOk fe32.ok rfl ?_;repeat' first|refine Kv ?_|refine Ka ?_|fail
 all_goals rfl
theorem Zmu {k:Int} {nm:Bs} {s:Int} {A Bx:Box}:frz3 0 ⟨[A,Bx,.cells 4 (Za L)],0,[],0⟩ (.agg [.int .i64 k,.str nm,.int .i64 s,.own 2 4 0 L.length])=some (.agg [.int .i64 k,.str nm,.int .i64 s,.sl .none 4 (Za L)]):=by
 have h:frzC 0 ⟨[A,Bx,.cells 4 (Za L)],0,[],0⟩ (.own 2 4 0 L.length)=some (.sl .none 4 (Za L)):=by have hn:nth ([A,Bx,.cells 4 (Za L)]:List Box) 2=some (.cells 4 (Za L)):=rfl;simp only[frzC,Nat.not_lt_zero,if_false,hn];rw[if_pos ⟨trivial,by rw[Zb];omega⟩,List.drop_zero, ← Zb L,List.take_length,Wx]
 rw[Zcn];simp only[XO,h];rfl
theorem ZtE (ht:t.Ok):t.size≤100000→∀H,CO 224 [.agg t.cells] H (.agg t.cells) H:=by
 induction ht with
 | @mk k nm s b kz hk hs hn hl hok ih=>
 intro hsz;simp only[Tm.size]at hsz;have hkl:=Yz kz;simp only[Tm.cells];refine Jw tOk fe224.ok (Yb _ _ _ _ _ _ _) ?_;by_cases hne:kz= []
 ·subst hne;clear ih;have hc1:=Zp9;have hc2:=Zov;cases b<;>simp only[Za,Zi,ZE];all_goals
   repeat' first|refine Jc (hc1 _) ?_|refine Jc (hc2 _) ?_|refine Jo ?_|fail
   refine Wp.loop ?_
   repeat' first|refine KN ?_|fail
   refine LoopQ.exit ?_
   repeat' first|refine Jo ?_|fail
   all_goals rfl
 ·have hcl:=Zrs hne (by omega) ⟨[.cells 4 [[.int .i64 k,.str nm,.int .i64 s,.sl .none 4 (Za kz)]],.cells 4 [zcT]],0,[],0⟩;rw[ZmX hne];repeat' first|refine Jc hcl ?_|refine Jo ?_|fail
  refine Wp.while (fun m tm H => ∃(i : Nat) (base : TM), i + m = kz.length ∧
    tm=ovr base [(1,.ptr 0 4 0 0),(2,.ptr 1 4 0 0),(10,.own 2 4 0 kz.length),(11,.int .i64 (kz.length:Int)),(12,.int .i64 (i:Int))]∧H=⟨[.cells 4 [[.int .i64 k,.str nm,.int .i64 s,.own 2 4 0 kz.length]],.cells 4 [zcT],.cells 4 (Za kz)],0,[],0⟩)
   (fun m tm H hI=>Wp.drop ?_) kz.length _ _ ⟨0,_,by omega,Zd ⟨rfl,rfl,rfl,rfl,rfl,trivial⟩,rfl⟩
  obtain⟨i,base,hi,rfl,rfl⟩:=hI;clear hcl;by_cases hlt:i<kz.length
  ·obtain⟨t', ht'⟩ : ∃t', kz[i]? = some t' := ⟨kz[i], by simp⟩;have hm:t'∈kz:=List.mem_of_getElem? ht';have hle:=Ya hm;have hc:=ih t' hm (by omega);have hlx:=Zv (i:Int) (kz.length:Int);rw[decide_eq_true (by omega)]at hlx;have hia:=Zfv (id:=2) (ix:=0) hlt;(have hld:Z2 E0 39 (.ptr 2 4 (0+i) 0) ⟨[.cells 4 [[.int .i64 k,.str nm,.int .i64 s,.own 2 4 0 kz.length]],.cells 4 [zcT],.cells 4 (Za kz)],0,[],0⟩=some (.agg t'.cells):=by rw[Nat.zero_add];exact ZiW rfl ht');have hwr:Heap.wr ⟨[.cells 4 [[.int .i64 k,.str nm,.int .i64 s,.own 2 4 0 kz.length]],.cells 4 [zcT],.cells 4 (Za kz),.cells 4 [t'.cells]],0,[],0⟩ (.ptr 2 4 (0+i) 0) t'.cells=some ⟨[.cells 4 [[.int .i64 k,.str nm,.int .i64 s,.own 2 4 0 kz.length]],.cells 4 [zcT],.cells 4 (Za kz),.cells 4 [t'.cells]],0,[],0⟩:=by
    rw[Nat.zero_add,Zqp (L:=kz) rfl ht' (Nat.zero_le _)];have e:kz.set i t'=kz:=List.ext_getElem? fun j=>by
     rw[List.getElem?_set];split
     ·rename_i h;subst h;first
       | rw[if_pos hlt,ht']
       | rw[ht']
       | simp[hlt,ht']
     {rfl}
    rw[e];rfl
   (have hBU:Ys 3 (.cells 4 (Za kz))=true:=by have:=Zhd 3 kz 0;simpa using this);obtain⟨k',nm',s',b',kz'⟩:=t';simp only[Tm.cells]at hc hld hwr;clear ih;(repeat' first|refine Ko ?_|refine Ki ?_|refine Jo ?_|refine Jd (hc _) ?_|refine JK ?_|refine Kg ?_|fail);refine DropQ.go [(1,.ptr 0 4 0 0),(2,.ptr 1 4 0 0),(10,.own 2 4 0 kz.length),(11,.int .i64 (kz.length:Int)),(12,.int .i64 ((i+1:Nat):Int))] ?_ rfl rfl ?_ ?_;{exact⟨rfl,rfl,rfl,rfl,Zg (Ze (n:=i+1) (by omega)),trivial⟩};{show(Ys 3 _&&(Ys 3 _&&(Ys 3 _&&true)))=true;rw[hBU];rfl};{exact LoopI.go (m-1) (by omega) ⟨i+1,_,by omega,rfl,rfl⟩}
  {(have e:i=kz.length:=by omega);subst e;clear ih;have hlx:=Zv (kz.length:Int) (kz.length:Int);rw[decide_eq_false (by omega)]at hlx;(repeat' first|refine Kk ?_|fail);exact Zmu}
