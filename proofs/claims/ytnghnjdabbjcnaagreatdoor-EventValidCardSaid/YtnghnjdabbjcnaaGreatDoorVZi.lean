/-
  EventValid: the law's function returns true for every list of moments.
-/
import Derived.Test.YtnghnjdabbjcnaaGreatDoorVZe
set_option maxHeartbeats 0
set_option maxRecDepth 100000
namespace Go.Vm
variable {m:Mo}
theorem Zfl {l:List Mo} {i:Nat} (h:l[i]? = some m):txL (l.take (i+1))=txL (l.take i)++(Xc m++ [10]):=by unfold txL;rw[List.take_add_one,h,List.flatMap_append];simp
theorem Zgh (l:List Mo) (i:Nat):(txL (l.take i)).length≤(txL l).length:=by
 have e:txL l=txL (l.take i)++txL (l.drop i):=by unfold txL;rw[← List.flatMap_append,List.take_append_drop]
 rw[e,List.length_append];omega
theorem Zjd:∀{l:List Tm},(∀t,t∈l→t.wr=true)→((l.map wT).flatMap ([32,124,32]++ ·)).length≤34*Zk l
 | [],_=>by simp
 |t::r,h=>by have h1:=Zc9 t (h t List.mem_cons_self);have h2:=Zjd fun u hu=>h u (List.mem_cons_of_mem _ hu);rw[List.map_cons,List.flatMap_cons,List.length_append,List.length_append,Zk];simp only[List.length_cons,List.length_nil];omega
theorem Zpa (h:m.Va):(Zcv m++m.agents).length≤7∧∀x,x∈Zcv m++m.agents→x.length≤24:=by
 have one:∀(f:Bool) (v:Int),0≤v→v≤999999→(onL f v).length≤1∧∀x,x∈onL f v→x.length≤24:=fun f v h0 h9=>by have:=Ua h0 h9;unfold onL;split;{exact⟨by simp,fun x hx=>by rw[List.mem_singleton]at hx;subst hx;omega⟩};{exact⟨by simp,fun x hx=>by cases hx⟩}
 have hn:=h.n;have hr:=h.r;have hg:=h.g;have hal:=h.al;obtain⟨a1,a2⟩:=one (flg m.kind).1 m.num (by omega) (by omega);obtain⟨b1,b2⟩:=one (flg m.kind).2.1 m.role (by omega) (by omega);obtain⟨c1,c2⟩:=one (flg m.kind).2.2 m.goal (by omega) (by omega);rw[ZiV];refine⟨by simp only[List.length_append];omega,fun x hx=>?_⟩;rcases List.mem_append.1 hx with hx|hx;{rcases List.mem_append.1 hx with hx|hx;{exact a2 x hx};{rcases List.mem_append.1 hx with hx|hx;{exact b2 x hx};{exact c2 x hx}}};{exact(Zej (h.a x hx)).2}
theorem Zhy (h:m.Va):(Xc m).length≤200+34*Zk m.terms:=by
 obtain⟨h1,h2⟩:=Zpa h;have e:=Ze3 [32] h2 (Zcv m++m.agents).length;rw[List.take_length]at e;have hmul:(24+([32]:ZY).length)*(Zcv m++m.agents).length≤25*7:=Nat.mul_le_mul_left _ h1;have hw:(nmK m.kind).length≤7:=by have:=h.k1;have:=h.k7;rcases(show m.kind=1∨m.kind=2∨m.kind=3∨m.kind=4∨m.kind=5∨m.kind=6∨m.kind=7 by omega) with h|h|h|h|h|h|h<;>rw[h]<;>decide
 have ht:=Zjd (l:=m.terms) fun t ht=>ZqV t (V6 (h.t t ht));rw[Za0,List.length_append,List.length_append];omega
theorem Zmy:∀{l:List Mo},(∀m,m∈l→m.Va)→(txL l).length≤201*l.length+34*Zk (l.flatMap (·.terms))
 | [],_=>by simp[txL]
 |m::r,h=>by have h1:=Zhy (h m List.mem_cons_self);have h2:=Zmy fun x hx=>h x (List.mem_cons_of_mem _ hx);unfold txL at h2 ⊢;rw[List.flatMap_cons,List.flatMap_cons,List.length_append,List.length_append,List.length_cons,Y9];simp only[List.length_cons,List.length_nil];omega
theorem Zjk:∀(l:List Tm) (n:Int),0≤n→Zj2 l n=true→(Zk l:Int)≤n
 | [],n,h,_=>by simpa[Zk] using h
 |a::r,n,h0,h=>by simp only[Zj2]at h;split at h;{cases h};{have e:=a.budget_eq n (by omega);have:=Zjk r _ (by omega) h;rw[Zk];omega}
def fmF (l:List Mo):ZY×Int:=if(ZI l).2≠0 then([],(ZI l).2) else(txL l,0)
theorem few_tx {l:List Mo} (h:U2 l=true) (hv:(ZI l).2=0):(txL l).length≤200000∧∀m,m∈l→(Xc m).length≤30000:=by obtain⟨hl,hva⟩:=Zdu hv;unfold U2 at h;rw[if_neg (by omega)]at h;split at h;{unfold ZiN at h;split at h;{cases h};{have hs:=Zjk _ _ (by decide) h;have e:=Zmy hva;refine⟨by omega,fun m hm=>?_⟩;have h1:=Zhy (hva m hm);(have h2:Zk m.terms≤Zk (l.flatMap (·.terms)):=by obtain⟨s,t,rfl⟩:=List.append_of_mem hm;rw[List.flatMap_append,List.flatMap_cons,Y9,Y9];omega);omega}};{cases h}
end Go.Vm
namespace Go.Vm.Seat
variable {l:List Mo}
open Go.Proofs
theorem c21 (hl:l.length≤400) (hv:∀m,m∈l→m.Va) (hok:∀m,m∈l→m.Ok) (hz:(txL l).length≤200000) (b:Bool):∀H,CO 21 [slV b 6 (moC l)] H (.str (txL l)) H:=by
 have hcl:=Y3 l;refine Jw tOk fe21.ok rfl ?_;repeat' first|refine Jo ?_|fail
 refine Wp.while (fun m tm H=>∃(i:Nat) (base:TM),i+m=l.length∧tm=ovr base [(0,slV b 6 (moC l)),(3,.str (txL (l.take i))),(4,.int .i64 (i:Int))]∧H=⟨[],0,[],0⟩)
  (fun m tm H hI=>?_) l.length _ _ ⟨0,_,by omega,Ze ⟨rfl,rfl,rfl,trivial⟩,rfl⟩
 obtain⟨i,base,hi,rfl,rfl⟩:=hI;have hlx:=Zu (i:Int) ((moC l).length:Int);by_cases hlt:i<l.length
 ·obtain⟨x,hx⟩:∃x,l[i]? = some x:=⟨l[i],by simp⟩;rw[decide_eq_true (by omega)]at hlx;have hm:=List.mem_of_getElem? hx;have hL:=c44 (hv x hm) (hok x hm).ts;have hj:=Vs hx;have e2:txL (l.take (i+1))=(txL (l.take i)++Xc x)++ [10]:=by rw[Zfl hx,List.append_assoc]
  have hz1:=Zgh l (i+1);rw[e2]at hz1;simp only[List.length_append,List.length_cons,List.length_nil]at hz1;obtain⟨X,hX⟩:∃X,X=txL (l.take (i+1)):=⟨_,rfl⟩;rw[← hX]at e2;generalize txL (l.take i)=O at e2 hz1;generalize Xc x=w at e2 hz1 hL;have a1:=Z3 (a:=O) (b:=w) (by omega);have a2:=Z3 (a:=O++w) (b:=[10]) (by simp only[List.length_append,List.length_cons,List.length_nil];omega);rw[← e2]at a2;obtain⟨kd,nu,ro,an,ag,go,tn,te⟩:=x;simp only[Mo.cells]at hj hL;repeat' first|refine Jc (hL _) ?_|refine KK ?_|fail
  exact LoopI.go (m-1) (by omega) ⟨i+1,_,by omega,Ze ⟨rfl,by rw[← hX];rfl,Zg (Zd (n:=i+1) (by omega)),trivial⟩,rfl⟩
 ·have e:i=l.length:=by omega
  subst e;rw[decide_eq_false (by omega)]at hlx;rw[List.take_length];repeat' first|refine Ks ?_|fail
  all_goals rfl
theorem c9 (hT:TrS l) (hz:(ZI l).2=0→(txL l).length≤200000) (b:Bool):∀H,CO 9 [slV b 6 (moC l)] H (.tup [.str (fmF l).1,.int .i64 (fmF l).2]) H:=by
 have hV:=c11 hT b;have n1:=WZ (ZI l).2 0;unfold fmF;by_cases h0:(ZI l).2=0
 ·rw[decide_eq_true h0]at n1;rw[h0]at n1 hV;rw[if_neg (by omega)];obtain⟨hl,hva⟩:=Zdu h0;have hX:=c21 hl hva (fun m hm=>(hT.2 m hm).ok) (hz h0) b;refine Jw tOk fe9.ok rfl ?_;repeat' first|refine Jc (hV _) ?_|refine Jc (hX _) ?_|refine Ki ?_|fail
  all_goals rfl
 ·rw[decide_eq_false h0]at n1;rw[if_pos h0];generalize (ZI l).2=e at n1 hV;refine Jw tOk fe9.ok rfl ?_;repeat' first|refine Jc (hV _) ?_|refine Ki ?_|fail
  all_goals rfl
theorem c7 (hT:TrS l) (hz:(ZI l).2=0→(txL l).length≤200000) (b:Bool):∀H,CO 7 [slV b 6 (moC l)] H (.tup [.str (fmF l).1,.int .i64 (fmF l).2]) H:=by
 have hV:=c10 hT b;have n1:=WZ (ZI l).2 0;unfold fmF;by_cases h0:(ZI l).2=0;case neg=>
  rw[decide_eq_false h0]at n1
  rw[if_pos h0]
  generalize (ZI l).2=e at n1 hV
  refine Jw tOk fe7.ok rfl ?_
  repeat' first|refine Jc (hV _) ?_|refine Ki ?_|fail
  all_goals rfl
 rw[decide_eq_true h0]at n1;rw[h0]at n1 hV;rw[if_neg (by omega)];obtain⟨hl,hva⟩:=Zdu h0;have hz:=hz h0;have hcl:=Y3 l;refine Jw tOk fe7.ok rfl ?_;repeat' first|refine Jc (hV _) ?_|refine Ks ?_|fail
 refine Wp.while (fun m tm H => ∃(i : Nat) (base : TM) (p v : PV) (lv : List Nat) (nt : Nat), i + m = l.length ∧ BdS 0 p v (txL (l.take i)) lv nt ∧
   tm=ovr base [(5,.ptr 0 2 0 0),(14,slV b 6 (moC l)),(15,.int .i64 (l.length:Int)),(16,.int .i64 (i:Int))]∧H=⟨[.sp 49 [p,v]],0,lv,nt⟩)
  (fun m tm H hI=>Wp.drop ?_) l.length _ _ ⟨0,_,_,_,_,_,by omega,.no _ _,Ze ⟨rfl,rfl,Zg (by rw[hcl]),rfl,trivial⟩,rfl⟩
 obtain⟨i,base,p,v,lv,nt,hi,hS,rfl,rfl⟩:=hI;have hlx:=Zu (i:Int) (l.length:Int);by_cases hlt:i<l.length
 ·obtain⟨x, hx⟩ : ∃x, l[i]? = some x := ⟨l[i], by simp⟩;rw[decide_eq_true (by omega)]at hlx;have hm:=List.mem_of_getElem? hx;have hL:=c19 (ZoZ (hva x hm) (hT.2 x hm).ok.ts);have hsn:=Zfl hx;have hz1:=Zgh l (i+1);rw[hsn]at hz1;simp only[List.length_append,List.length_cons,List.length_nil]at hz1;have a1:=Z3 (a:=Xc x) (b:=[10]) (by simp only[List.length_cons,List.length_nil];omega);obtain⟨lv',hc⟩:=wrS (bx:=[.sp 49 [p,v],.cells 6 [x.cells]]) (id:=0) rfl hS (x:=Xc x++ [10]) (Wk _ (by simp)) (by
   simp only[List.length_append,List.length_cons,List.length_nil];omega)
  rw[← hsn]at hc;have hS2:BdS 0 (.ptr 0 2 0 0) (.sl (.tok nt) 1 (Zo (txL (l.take (i+1))))) (txL (l.take (i+1))) (nt::lv') (nt+1):= .tok _ _ _ _ (by rw[hsn];exact Wk _ (Wk _ (by simp))) List.mem_cons_self (Nat.lt_succ_self _);clear hsn hS hz1;obtain⟨X,hX⟩:∃X,X=txL (l.take (i+1)):=⟨_,rfl⟩;rw[← hX]at hc hS2;generalize Xc x=w at hL a1 hc;obtain⟨kd,nu,ro,an,ag,go,tn,te⟩:=x;have hj:=Vs hx;simp only[Mo.cells]at hj hL hc;repeat' first|refine Jc (hL _) ?_|refine Jc hc ?_|refine KH ?_|fail
  refine DropQ.go [(5,.ptr 0 2 0 0),(14,slV b 6 (moC l)),(15,.int .i64 (l.length:Int)),(16,.int .i64 ((i+1:Nat):Int))] ⟨rfl,rfl,rfl,Zg (Zd (n:=i+1) (by omega)),trivial⟩ ?_ rfl ?_ (LoopI.go (m-1) (by omega) ⟨i+1,_,_,_,_,_,by omega,by rw[← hX];exact hS2,rfl,rfl⟩);{simp[Zl,under]};{simp[Yy,ZO,under]}
 ·have e:i=l.length:=by omega
  subst e;rw[decide_eq_false (by omega)]at hlx;rw[List.take_length]at hS;obtain⟨lv',hs⟩:=ZtK (bx:=[.sp 49 [p,v]]) (id:=0) rfl hS (by omega);repeat' first|refine Jc hs ?_|refine Ki ?_|fail
  all_goals rfl
theorem Zqk {l m:List Tm} (hl:∀t,t∈l→t.Ok∧t.size≤200000) (hm:∀t,t∈m→t.Ok∧t.size≤200000) (hll:l.length≤1000000) (he:l.map Tm.cl=m.map Tm.cl) (b c:Bool):∀H,CO 26 [slV b 4 (Za l),slV c 4 (Za m)] H (.bool true) H:=by
 have hlm:l.length=m.length:=by simpa using congrArg List.length he
 have g1':=Zb l;have g2':=Zb m;have hn:=Q9 ((Za l).length:Int) ((Za m).length:Int);rw[decide_eq_true (by omega),Bool.not_true]at hn;refine Jw tOk fe26.ok rfl ?_;repeat' first|refine Ko ?_|fail
 refine Wp.while (fun k tm H=>∃(i:Nat) (base:TM),i+k=l.length∧tm=ovr base [(0,slV b 4 (Za l)),(1,slV c 4 (Za m)),(5,.int .i64 (i:Int))]∧H=⟨[],0,[],0⟩)
  (fun k tm H hI=>?_) l.length _ _ ⟨0,_,by omega,Ze ⟨rfl,rfl,rfl,trivial⟩,rfl⟩
 obtain⟨i,base,hi,rfl,rfl⟩:=hI;by_cases hlt:i<l.length
 ·obtain⟨t',ht'⟩:∃t',l[i]? = some t':=⟨l[i],by simp⟩;obtain⟨u',hu'⟩:∃u',m[i]? = some u':=⟨m[i]'(by omega),by simp⟩;have hc:=ZeR (hl t' (List.mem_of_getElem? ht')) (hm u' (List.mem_of_getElem? hu'));have hcl:t'.cl=u'.cl:=by have:=congrArg (·[i]?) he;simpa[ht',hu'] using this
  rw[decide_eq_true (XG.2 hcl)]at hc;have hlx:=Zu (i:Int) ((Za l).length:Int);rw[decide_eq_true (by omega)]at hlx;clear hcl;obtain⟨k',nm',s',b',kz'⟩:=t';obtain⟨k2,nm2,s2,b2,kz2⟩:=u';have hj1:=Zj ht';have hj2:=Zj hu';simp only[Tm.cells]at hc;repeat' first|refine Ks ?_|refine Jd (hc _) ?_|refine JI ?_|refine Kl ?_|fail
  exact LoopI.go (k-1) (by omega) ⟨i+1,_,by omega,Ze ⟨rfl,rfl,Zg (Zd (n:=i+1) (by omega)),trivial⟩,rfl⟩
 ·have e:i=l.length:=by omega
  subst e;have hlx:=Zu (l.length:Int) ((Za l).length:Int);rw[decide_eq_false (by omega)]at hlx;repeat' first|refine Ko ?_|fail
  all_goals rfl
theorem Zp4 (a:Int):XM E0 .neq 3 (.int .i64 a) (.int .i64 a)=some (.bool false):=by rw[Q9,decide_eq_true rfl];rfl
theorem Zvg (x:ZY):XM E0 .neq 9 (.str x) (.str x)=some (.bool false):=by show some (PV.bool (x != x))=_;simp
theorem Zsg (hl:l.length≤420) (hT:TrS l) (b b':Bool):∀H,CO 13 [slV b 6 (moC l),slV b' 6 (moC (l.map Mo.cp))] H (.bool true) H:=by
 have hcl:=Y3 l;have hcl2:(moC (l.map Mo.cp)).length=l.length:=by rw[Y3,List.length_map]
 have hn:=Q9 ((moC l).length:Int) ((moC (l.map Mo.cp)).length:Int);rw[decide_eq_true (by omega),Bool.not_true]at hn;refine Jw tOk fe13.ok rfl ?_;repeat' first|refine Ko ?_|fail
 refine Wp.while (fun m tm H => ∃(i : Nat) (base : TM), i + m = l.length ∧
   tm=ovr base [(0,slV b 6 (moC l)),(1,slV b' 6 (moC (l.map Mo.cp))),(5,.int .i64 (i:Int))]∧H=hNil)
  (fun m tm H hI=>Wp.drop ?_) l.length _ _ ⟨0,_,by omega,Ze ⟨rfl,rfl,rfl,trivial⟩,rfl⟩
 obtain⟨i,base,hi,rfl,rfl⟩:=hI;have hlx:=Zu (i:Int) ((moC l).length:Int);by_cases hlt:i<l.length
 ·obtain⟨x, hx⟩ : ∃x, l[i]? = some x := ⟨l[i], by simp⟩;rw[decide_eq_true (by omega)]at hlx;have hs:=hT.2 x (List.mem_of_getElem? hx);have hj:=Vs hx;have hj2:(moC (l.map Mo.cp))[i]? = some x.cp.cells:=Vs (by rw[List.getElem?_map,hx];rfl);have hc:=Zqk (l:=x.terms) (m:=x.terms.map Tm.cl) (fun t ht=>⟨(hs.ts t ht).1,by have:=(hs.ts t ht).2;omega⟩) (fun t ht=>by
   obtain⟨u,hu,rfl⟩:=List.mem_map.1 ht
   exact⟨Zlb (hs.ts u hu).1,by rw[Zcb];have:=(hs.ts u hu).2;omega⟩) (by have:=hs.tl;omega) (by
   rw[List.map_map]
   exact List.map_congr_left fun t _=>(ZcV t).symm) x.tn true
  have hag:=hs.al;obtain⟨kd,nu,ro,an,ag,go,tn,te⟩:=x;have n1:=Zp4 kd;have n2:=Zp4 nu;have n3:=Zp4 ro;have n4:=Zp4 go;have n5:=Zp4 ((ZD ag).length:Int);simp only[Mo.cp,Mo.cells]at hj hj2 hc hag;generalize te.map Tm.cl=te2 at hj2 hc;repeat' first|refine Jc (hc _) ?_|refine KE ?_|fail
  refine Wp.while (fun m2 tm H => ∃(k : Nat) (base : TM), k + m2 = ag.length ∧
    tm=ovr base [(0,slV b 6 (moC l)),(1,slV b' 6 (moC (l.map Mo.cp))),(5,.int .i64 (i:Int)),(6,.ptr 0 6 0 0),(7,.ptr 1 6 0 0),(8,.int .i64 (k:Int))]∧
    H=⟨[.cells 6 [[.int .i64 kd,.int .i64 nu,.int .i64 ro,slV an 1 (ZD ag),.int .i64 go,slV tn 4 (Za te)]],.cells 6 [[.int .i64 kd,.int .i64 nu,.int .i64 ro,slV true 1 (ZD ag),.int .i64 go,slV true 4 (Za te2)]]],0,[],0⟩)
   (fun m2 tm H hI=>?_) ag.length _ _ ⟨0,_,by omega,Ze ⟨rfl,rfl,rfl,rfl,rfl,rfl,trivial⟩,rfl⟩
  clear hlx n1 n2 n3 n4 n5 hc;obtain⟨k,base,hk2,rfl,rfl⟩:=hI;have hly:=Zu (k:Int) ((ZD ag).length:Int);by_cases hlk:k<ag.length;{obtain⟨y,hy⟩:∃y,ag[k]? = some y:=⟨ag[k],by simp⟩;rw[decide_eq_true (by rw[ZC];omega)]at hly;have hj3:=Xf hy;have hne:=Zvg y;(repeat' first|refine Ks ?_|refine JD ?_|refine JI ?_|refine Kb ?_|fail);exact LoopI.go (m2-1) (by omega) ⟨k+1,_,by omega,Ze ⟨rfl,rfl,rfl,rfl,rfl,Zg (Zd (n:=k+1) (by omega)),trivial⟩,rfl⟩}
  ·(have e : k = ag.length := by omega);subst e;rw[decide_eq_false (by rw[ZC];omega)]at hly;(repeat' first|refine Ks ?_|fail);exact DropQ.go [(0, slV b 6 (moC l)), (1, slV b' 6 (moC (l.map Mo.cp))), (5, .int .i64 ((i + 1 : Nat) : Int))] ⟨rfl, rfl, Zg (Zd (n := i + 1) (by omega)), trivial⟩
     (by simp[Zl,under]) rfl rfl (LoopI.go (m-1) (by omega) ⟨i+1,_,by omega,rfl,rfl⟩)
 ·have e:i=l.length:=by omega
  subst e;rw[decide_eq_false (by omega)]at hlx;repeat' first|refine Ko ?_|fail
  all_goals rfl
theorem Zpq {S:ZY} (hS:S.length≤500000) (hN:(spl [10] S).length≤1001) (hX:∀x,x∈spl [10] S→x.length≤30000∧∀m,YJ x=some m→m.Sm):∀H,CO 12 [.str S] H (.tup [slV true 6 (moC (ZcD YJ ZI (spl [10] S) 0 []).1),.int .i64 (ZcD YJ ZI (spl [10] S) 0 []).2.1,.int .i64 (ZcD YJ ZI (spl [10] S) 0 []).2.2]) H:=by
 obtain⟨res,hres⟩:∃res,res=PV.tup [slV true 6 (moC (ZcD YJ ZI (spl [10] S) 0 []).1),.int .i64 (ZcD YJ ZI (spl [10] S) 0 []).2.1,.int .i64 (ZcD YJ ZI (spl [10] S) 0 []).2.2]:=⟨_,rfl⟩;rw[← hres];have hfr:frz3 0 hNil res=some res:=by rw[hres];exact Zj8 _ _ _ _ _ _
 refine Jw tOk fe12.ok hfr ?_;repeat' first|refine Jo ?_|fail
 refine Wp.while (fun m tm H => ∃(i : Nat) (T : ZY) (acc : List Mo) (base : TM) (o : PV) (lv : List Nat) (nt : Nat), T.length ≤ m ∧ T.length ≤ S.length ∧ i + (spl [10] T).length ≤ 1001 ∧ acc.length = i ∧ (∀x, x ∈ acc → x.Sm) ∧ (∀x, x ∈ spl [10] T → x.length ≤ 30000 ∧ ∀m, YJ x = some m → m.Sm) ∧ ZcD YJ ZI (spl [10] S) 0 [] = ZcD YJ ZI (spl [10] T) i acc ∧ ApV true 6 (moC acc) o lv nt ∧
   tm=ovr base [(0,.str T),(5,o),(6,.int .i64 (i:Int))]∧H=⟨[],0,lv,nt⟩)
  (fun m tm H hI=>Wp.drop ?_) S.length _ _ ⟨0,S,[],_,.nils,[],0,Nat.le_refl _,Nat.le_refl _,by omega,rfl,by simp,hX,rfl,.nil _ _ rfl,Ze ⟨rfl,rfl,rfl,trivial⟩,rfl⟩
 obtain⟨i,T,acc,base,o,lv,nt,hTm,hTS,h2i,hal,hsm,hXT,hpar,hO,rfl,rfl⟩:=hI;clear hX hN;have hsn:=List.length_pos_iff.2 (Zgs [10] T);rw[hpar]at hres;have hns:=ZtO T [];by_cases hT0:T= [];{subst hT0;rw[decide_eq_true rfl]at hns;rw[show spl [10] []= [[]] from rfl,Q5,if_pos rfl]at hres;have hTr:TrS acc:=⟨by omega,hsm⟩;have kF:=fun H=>Z2 (c22 hTr true H) (args:=[o]) (by simp only[ZH,hO.frzG]);unfold ZoD at hres;have n1:=WZ (ZI acc).2 0;by_cases h0:(ZI acc).2=0;{rw[decide_eq_true h0]at n1;rw[if_neg (by omega)]at hres;rw[h0]at kF n1;generalize (ZI acc).1=z at kF;have hfz:=fun (a b:Int) (m:Nat) (H:Heap)=>ZkJ hO a b m H;clear hpar hO hfr hXT;subst hres;(repeat' first|refine Jc (kF _) ?_|refine Ki ?_|fail);all_goals exact hfz _ _ _ _};{rw[decide_eq_false h0]at n1;rw[if_pos h0]at hres;simp only[moC,List.map_nil,Zi]at hres;obtain⟨z,hz⟩:∃z,z=(ZI acc).1:=⟨_,rfl⟩;rw[← hz]at kF hres;(have had:XM E0 .add 3 (.int .i64 z) (.int .i64 1)=some (.int .i64 (z+1)):=by have hzb:=ZkF acc;rw[← hz]at hzb;exact ZaJ (by omega) (by omega));generalize (ZI acc).2=e at kF hres n1;clear hpar hO hfr h0 hz hXT;subst hres;(repeat' first|refine Jc (kF _) ?_|refine Ki ?_|fail);all_goals rfl}}
 ·rw[decide_eq_false hT0]at hns;have hii:=ZaJ (a:=(i:Int)) (b:=1) (by omega) (by omega);rw[show(i:Int)+1=((i+1:Nat):Int) by omega]at hii;have cC:=c24 (s:=T) (sep:=[10]) (by omega);rcases ZoE T with⟨-,hc,hs⟩|⟨x,r,hc,hs,hxr⟩;{rw[hc]at cC;rw[hs,Q5,if_neg hT0,show((i:Int)+1)=((i+1:Nat):Int) by omega]at hres;simp only[moC,List.map_nil,Zi]at hres cC;clear hpar hO hfr hXT;subst hres;(repeat' first|refine Jc (cC _) ?_|refine Kg ?_|fail);all_goals rfl}
  ·rw[hc]at cC;rw[hs]at hres hpar h2i hXT;rw[List.length_cons]at h2i;simp only at cC;obtain⟨hx1,hx2⟩:=hXT x List.mem_cons_self;obtain⟨y,ok,hy,cR⟩:=c25 (s:=x) (by omega);have hne:=Zgs [10] r;cases ok with
   | false=>rw[Znv hne (by rw[hy];rfl),show((i:Int)+1)=((i+1:Nat):Int) by omega]at hres;simp only[moC,List.map_nil,Zi]at hres;obtain⟨kd,nu,ro,an,ag,go,tn,te⟩:=y;simp only[Mo.cells]at cR;clear hy hpar hO hfr hXT hx2;subst hres;(repeat' first|refine Jc (cC _) ?_|refine Jc (cR _) ?_|refine Kg ?_|fail);all_goals rfl
   | true=>(have hy:YJ x=some y:=by rw[hy];rfl);have hys:=hx2 y hy;rw[Zfe hne hy]at hpar hres;obtain⟨o2,lv2,nt2,hap,hO2, -⟩:=hO.app Zmz (.sl .full 6 (moC [y])) (ZlQ _) (ZR (by rw[Y3];simp[Y3];omega) (by decide)) (ZhY _);rw[← Zg2]at hO2;have hun:=hO2.under;(have hsm2:∀z,z∈acc++ [y]→z.Sm:=fun z hz=>by rcases List.mem_append.1 hz with hz|hz;{exact hsm z hz};{rw[List.mem_singleton]at hz;subst hz;exact hys});(have hal2:(acc++ [y]).length=i+1:=by simp[hal]);have hXr:∀x,x∈spl [10] r→x.length≤30000∧∀m,YJ x=some m→m.Sm:=fun z hz=>hXT z (List.mem_cons_of_mem _ hz);generalize acc++ [y]=acc2 at hO2 hpar hres hsm2 hal2;obtain⟨kd,nu,ro,an,ag,go,tn,te⟩:=y;simp only[moC,List.map_cons,List.map_nil,Mo.cells]at cR hap;clear hy hO hfr hys hne hXT hx2;(repeat' first|refine Jc (cC _) ?_|refine Jc (cR _) ?_|refine Kw ?_|refine Kg ?_|fail);refine DropQ.go [(0,.str r),(5,o2),(6,.int .i64 ((i+1:Nat):Int))] ⟨rfl,rfl,rfl,trivial⟩ (by simp[under,hun]) rfl rfl ?_;exact LoopI.go (m-1) (by omega) ⟨i+1,r,acc2,_,o2,lv2,nt2,by omega,by omega,by omega,hal2,hsm2,hXr,hpar,hO2,rfl,rfl⟩
end Go.Vm.Seat
namespace Go.Vm
theorem ZsZ {m:Mo} (h:m.Sm):m.cp.Sm where
 ok:=⟨h.ok.kind,h.ok.num,h.ok.role,h.ok.goal,h.ok.al,h.ok.ags,by show(m.terms.map Tm.cl).length≤maxLen;rw[List.length_map];exact h.ok.tl,fun t ht=>by
  obtain⟨u,hu,rfl⟩:=List.mem_map.1 ht
  exact Zlb (h.ok.ts u hu)⟩
 al:=h.al
 tl:=by show(m.terms.map Tm.cl).length≤1000;rw[List.length_map];exact h.tl
 ts:=fun t ht=>by
  obtain⟨u,hu,rfl⟩:=List.mem_map.1 ht
  exact⟨Zlb (h.ts u hu).1,by rw[Zcb];exact(h.ts u hu).2⟩
theorem Zpw:YJ []=none:=rfl
end Go.Vm
namespace Go.Vm.Seat
open Go.Proofs
theorem trs_few {l:List Mo} (hok:∀m,m∈l→m.Ok) (h:U2 l=true):TrS l∧l.length≤420:=by
 obtain⟨h1,h2, -⟩:=Zg8 h;have hts:∀t,t∈l.flatMap (·.terms)→t.size≤1000:=fun t ht=>by unfold U2 at h;rw[if_neg (by omega),if_pos (List.all_eq_true.2 h2)]at h;unfold ZiN at h;split at h;{cases h};{have:=QZ _ _ h t ht;omega}
 exact⟨⟨by omega,fun m hm=>⟨hok m hm,by have:=(fewM_lens.1 (h2 m hm)).1;omega,by have:=(fewM_lens.1 (h2 m hm)).2.1;omega,fun t ht=>⟨(hok m hm).ts t ht,by have:=hts t (List.mem_flatMap.2 ⟨m,hm,ht⟩);omega⟩⟩⟩,h1⟩
theorem c3 (awakeOk:∀H,CO 5 [] H (.bool true) H) {l:List Mo} (hok:∀m,m∈l→m.Ok) (b:Bool):∀H,CO 3 [slV b 6 (moC l)] H (.bool true) H:=by
 have kF:=c6 hok b;have hT:=@trs_few l hok;have hz:=@few_tx l;obtain⟨F,hF⟩:∃F,F=U2 l:=⟨_,rfl⟩;rw[← hF]at kF hT hz;cases F with
 |false=>
  refine Jw tOk fe3.ok rfl ?_;repeat' first|refine Jc (awakeOk _) ?_|refine Jc (kF _) ?_|refine Ka ?_|fail
  all_goals rfl
 |true=>
  obtain⟨hT,hl⟩:=hT rfl;have hz:=hz rfl;have k1:=c8 (l:=l) (by omega) b;have k2:=c7 hT (fun h=>(hz h).1) b;have k3:=c9 hT (fun h=>(hz h).1) b;have k4:=c10 hT b;have k5:=c11 hT b;have n1:=WZ (ZI l).2 (ZI l).2;have n2:=ZtO (fmF l).1 (fmF l).1;have n3:=WZ (fmF l).2 (fmF l).2;rw[decide_eq_true rfl,Bool.not_true]at n1 n2 n3;by_cases h0:(ZI l).2=0
  ·obtain⟨hl4, hva⟩ := Zdu h0;have n4:=WZ 0 0;have e1:=Zon 0 0;have e2:=Z8 0 0;rw[decide_eq_true rfl]at n4 e1 e2;rw[Bool.not_true]at n4;have hsp:=ZhP hva;have k6:=Zpq (S:=txL l) (by have:=(hz h0).1;omega) (by rw[hsp,List.length_append,List.length_map];simp only[List.length_cons,List.length_nil];omega) (by
    rw[hsp]
    intro x hx
    rcases List.mem_append.1 hx with hx|hx
    · obtain⟨m, hm, rfl⟩ := List.mem_map.1 hx
      refine⟨(hz h0).2 m hm,fun y hy=>?_⟩
      rw[Qj (hva m hm)]at hy
      cases hy
      exact ZsZ (hT.2 m hm)
    · rw[List.mem_singleton]at hx
      subst hx
      exact⟨by simp,fun y hy=>by rw[Zpw]at hy;cases hy⟩)
   rw[ZgL h0]at k6;have k7:=Zsg hl hT b true;(have e:fmF l=(txL l,0):=by unfold fmF;rw[if_neg (by omega)]);rw[e]at k2 k3 n2 n3;rw[h0]at k4 k5 n1;generalize txL l=S at k2 k3 n2 k6;generalize l.map Mo.cp=l2 at k6 k7;clear hz hT hva hsp e n3;simp only at k2 k3 n2 k6;refine Jw tOk fe3.ok rfl ?_;(repeat' first|(apply qCl;rfl;rfl;rfl;rfl;first|exact awakeOk _|exact kF _|exact k1 _|exact k2 _|exact k3 _|exact k4 _|exact k5 _|exact k6 _|exact k7 _)|refine Kg ?_|fail);all_goals rfl
  {have n4:=WZ (fmF l).2 0;(have e:fmF l=([],(ZI l).2):=by unfold fmF;rw[if_pos h0]);have e1:=Zon (ZI l).2 (ZI l).2;have e2:=Zpu (fmF l).1 (fmF l).1;rw[decide_eq_true rfl]at e1 e2;rw[e]at k2 k3 n2 n3 n4 e2;simp only at k2 k3 n2 n3 n4 e2;rw[decide_eq_false h0]at n4;generalize (ZI l).2=z at *;refine Jw tOk fe3.ok rfl ?_;(repeat' first|(apply qCl;rfl;rfl;rfl;rfl;first|exact awakeOk _|exact kF _|exact k1 _|exact k2 _|exact k3 _|exact k4 _|exact k5 _)|refine Kg ?_|fail);all_goals rfl}
