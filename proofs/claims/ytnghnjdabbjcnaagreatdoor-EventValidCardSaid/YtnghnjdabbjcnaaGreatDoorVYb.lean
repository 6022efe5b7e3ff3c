/-
  A parser of terms (the program's text): the word of a sort.
-/
import Derived.Test.YtnghnjdabbjcnaaGreatDoorVQg
set_option maxHeartbeats 0
set_option maxRecDepth 100000
namespace Go.Vm
variable {e s:Bool} {p:List Mo} {i:Nat} {m x:Mo}
theorem ZpZ {E:Env} {t e:TypeId} {ti ei:TI} {es:Nat} (hT:E.T t=some ti) (hk:ti.tk= .slice e) (he:E.T e=some ei) (hes:ei.size=es) (b:Bool) {L:List (List PV)} (hne:L≠ []) {k:Nat} (hl:k≤L.length):Yf E t (slV b es L) none (some (.int .i64 (k:Int))) none=some (slV false es (L.take k)):=by
 have hn:nat? (.int .i64 (k:Int))=some k:=by simp[nat?]
 obtain⟨c,r,rfl⟩:∃c r,L=c::r:=by cases L with
  | nil=>exact absurd rfl hne
  | cons c r=>exact⟨c,r,rfl⟩
 rw[Zp,Z6];simp only[Yf,hT,hk,he,hes,if_true,ZbK,XP,hn];rw[if_pos (by simpa using hl)];simp[Zcz]
theorem ZkZ (l:List Mo) (k:Nat):(moC l).take k=moC (l.take k):=by simp[moC]
theorem Zam (h:p[i]? = some x) (m:Mo) (s e:Bool):VB (p.drop i) m s e=if m.kind=6∧x.kind=6∧x.hd=m.hd then 5 else if x.num=m.num then VB (p.drop (i+1)) m (s||decide (x.kind=1)) (e||decide (x.kind=7)) else VB (p.drop (i+1)) m s e:=by rw[Zw h];rfl
theorem Zvo (h:p[i]? = some x) (h1:m.kind=6) (h2:x.kind=6) (h3:x.hd=m.hd):VB (p.drop i) m s e=5:=by rw[Zam h,if_pos ⟨h1,h2,h3⟩]
theorem ZtL (h:p[i]? = some x) (h1:¬ (m.kind=6∧x.kind=6∧x.hd=m.hd)) (h2:x.num=m.num):VB (p.drop i) m s e=VB (p.drop (i+1)) m (s||decide (x.kind=1)) (e||decide (x.kind=7)):=by rw[Zam h,if_neg h1,if_pos h2]
theorem ZtH (h:p[i]? = some x) (h1:¬ (m.kind=6∧x.kind=6∧x.hd=m.hd)) (h2:¬ x.num=m.num):VB (p.drop i) m s e=VB (p.drop (i+1)) m s e:=by rw[Zam h,if_neg h1,if_neg h2]
theorem ZjA {l:List Mo} (h:l[i]? = some m):ZlC p (l.drop i)=if m.alone≠0 then((p.length:Int),m.alone) else if VB p m false false≠0 then((p.length:Int),VB p m false false) else ZlC (p++ [m]) (l.drop (i+1)):=by rw[Zw h];rfl
end Go.Vm
namespace Go.Vm.Seat
variable {l:List Mo}
open Go.Proofs
theorem Zsd (a b:Bs):XM E0 .eql 9 (.str a) (.str b)=some (.bool (decide (a=b))):=by show some (PV.bool (a==b))=_;by_cases h:a=b<;>simp[h]
theorem c47 {p:List Mo} (hp:p.length≤1000) {m:Mo} (h6:m.kind=6→∃a,m.agents= [a]) (hp6:∀x,x∈p→x.kind=6→∃a,x.agents= [a]) (b:Bool):∀H,CO 47 [slV b 6 (moC p),.agg m.cells] H (.int .i64 (VB p m false false)) H:=by
 have hcl:=Y3 p;obtain⟨kd,nu,ro,an,ag,go,tn,te⟩:=m;simp only[Mo.cells]at h6 ⊢;refine Jw tOk fe47.ok rfl ?_ (by simp only[ZH,Xx];simp only[frzG,Vn,ZX];rfl);repeat' first|refine Ka ?_|fail
 have K6:=Z8 kd 6;refine Wp.while (fun m2 tm H=>∃(i:Nat) (base:TM) (s e:Bool),i+m2=p.length∧VB p ⟨kd,nu,ro,an,ag,go,tn,te⟩ false false=VB (p.drop i) ⟨kd,nu,ro,an,ag,go,tn,te⟩ s e∧tm=ovr base [(0,slV b 6 (moC p)),(3,.ptr 0 6 0 0),(5,.bool s),(6,.bool e),(7,.int .i64 (i:Int))]∧H=⟨[.cells 6 [[.int .i64 kd,.int .i64 nu,.int .i64 ro,slV an 1 (ZD ag),.int .i64 go,slV tn 4 (Za te)]]],0,[],0⟩)
  (fun m2 tm H hI=>?_) p.length _ _ ⟨0,_,false,false,by omega,by simp,Ze ⟨rfl,rfl,rfl,rfl,rfl,trivial⟩,rfl⟩
 obtain⟨i,base,s,e,hi,hgo,rfl,rfl⟩:=hI;rw[hgo];clear hgo;by_cases hlt:i<p.length
 ·obtain⟨x,hx⟩:∃x,p[i]? = some x:=⟨p[i],by simp⟩;have hj:=Vs hx;have hx6:=hp6 x (List.mem_of_getElem? hx);have hlx:=Zu (i:Int) ((moC p).length:Int);rw[decide_eq_true (by omega)]at hlx;obtain⟨kd2,nu2,ro2,an2,ag2,go2,tn2,te2⟩:=x;simp only[Mo.cells]at hj;have J6:=Z8 kd2 6;have W1:=Z8 kd2 1;have W7:=Z8 kd2 7;have N1:=Z8 nu2 nu;simp only at hx6;by_cases hk:kd=6∧kd2=6
  ·obtain⟨a,rfl⟩:=h6 hk.1;obtain⟨a2,rfl⟩:=hx6 hk.2;have ha:=Xf (l:=[a]) (i:=0) rfl;have ha2:=Xf (l:=[a2]) (i:=0) rfl;have S3:=Zsd a2 a;rw[decide_eq_true hk.1]at K6;rw[decide_eq_true hk.2]at J6;by_cases hs:a2=a;{rw[decide_eq_true hs]at S3;have hE:VB (p.drop i) ⟨kd,nu,ro,an,[a],go,tn,te⟩ s e=5:=Zvo hx hk.1 hk.2 hs;rw[hE];(repeat' first|refine Ks ?_|refine JD ?_|refine JI ?_|refine Ku ?_|fail);all_goals rfl};rw[decide_eq_false hs]at S3;by_cases hN:nu2=nu
   ·rw[decide_eq_true hN]at N1;have hE:VB (p.drop i) ⟨kd,nu,ro,an,[a],go,tn,te⟩ s e=VB (p.drop (i+1)) ⟨kd,nu,ro,an,[a],go,tn,te⟩ (s||decide (kd2=1)) (e||decide (kd2=7)):=ZtL hx (fun h=>hs h.2.2) hN;rw[hE];generalize decide (kd2=1)=w1 at W1 ⊢;generalize decide (kd2=7)=w7 at W7 ⊢;clear hE;cases s<;>cases e;all_goals
     repeat' first|refine Jk ?_|refine KE ?_|refine JD ?_|refine JI ?_|refine KA ?_|fail
     exact LoopI.go (m2-1) (by omega) ⟨i+1,_,_,_,by omega,rfl,Ze ⟨rfl,rfl,rfl,rfl,Zg (Zd (n:=i+1) (by omega)),trivial⟩,rfl⟩
   {rw[decide_eq_false hN]at N1;have hE:VB (p.drop i) ⟨kd,nu,ro,an,[a],go,tn,te⟩ s e=VB (p.drop (i+1)) ⟨kd,nu,ro,an,[a],go,tn,te⟩ s e:=ZtH hx (fun h=>hs h.2.2) hN;rw[hE];(repeat' first|refine Ks ?_|refine JD ?_|refine JI ?_|refine KA ?_|fail);exact LoopI.go (m2-1) (by omega) ⟨i+1,_,_,_,by omega,rfl,Ze ⟨rfl,rfl,rfl,rfl,Zg (Zd (n:=i+1) (by omega)),trivial⟩,rfl⟩}
  ·clear h6 hx6;(have hor:decide (kd=6)=false∨(decide (kd=6)=true∧decide (kd2=6)=false):=by by_cases h:kd=6;{right;exact⟨decide_eq_true h,decide_eq_false fun h2=>hk ⟨h,h2⟩⟩};{exact .inl (decide_eq_false h)});generalize decide (kd=6)=D6 at K6 hor;generalize decide (kd2=6)=E6 at J6 hor;by_cases hN:nu2=nu
   ·rw[decide_eq_true hN]at N1;have hE:VB (p.drop i) ⟨kd,nu,ro,an,ag,go,tn,te⟩ s e=VB (p.drop (i+1)) ⟨kd,nu,ro,an,ag,go,tn,te⟩ (s||decide (kd2=1)) (e||decide (kd2=7)):=ZtL hx (fun h=>hk ⟨h.1,h.2.1⟩) hN;rw[hE];generalize decide (kd2=1)=w1 at W1 ⊢;generalize decide (kd2=7)=w7 at W7 ⊢;clear hE;rcases hor with rfl|⟨rfl,rfl⟩<;>cases s<;>cases e;all_goals
     repeat' first|refine Jk ?_|refine KE ?_|(apply dK;rfl;rfl;rfl)|refine JD ?_|refine JI ?_|refine KA ?_|fail
     exact LoopI.go (m2-1) (by omega) ⟨i+1,_,_,_,by omega,rfl,Ze ⟨rfl,rfl,rfl,rfl,Zg (Zd (n:=i+1) (by omega)),trivial⟩,rfl⟩
   ·rw[decide_eq_false hN]at N1;have hE:VB (p.drop i) ⟨kd,nu,ro,an,ag,go,tn,te⟩ s e=VB (p.drop (i+1)) ⟨kd,nu,ro,an,ag,go,tn,te⟩ s e:=ZtH hx (fun h=>hk ⟨h.1,h.2.1⟩) hN;rw[hE];rcases hor with rfl|⟨rfl,rfl⟩;all_goals
     repeat' first|refine Ks ?_|(apply dK;rfl;rfl;rfl)|refine JD ?_|refine JI ?_|refine KA ?_|fail
     exact LoopI.go (m2-1) (by omega) ⟨i+1,_,_,_,by omega,rfl,Ze ⟨rfl,rfl,rfl,rfl,Zg (Zd (n:=i+1) (by omega)),trivial⟩,rfl⟩
 ·have ei:i=p.length:=by omega
  subst ei;have hlx:=Zu (p.length:Int) ((moC p).length:Int);rw[decide_eq_false (by omega)]at hlx;rw[List.drop_length];simp only[VB];have Q1:=Z8 kd 1;have P1:=Q9 kd 1;have P6:=Q9 kd 6;generalize decide (kd=1)=B1 at Q1 P1 ⊢;generalize decide (kd=6)=B6 at P6 K6 ⊢;cases B1<;>cases B6<;>cases s<;>cases e;all_goals
   repeat' first|refine Jk ?_|refine Ko ?_|fail
   all_goals rfl
theorem c23 (hl:TrS l) (b:Bool):∀H,CO 23 [slV b 6 (moC l)] H (.tup [.int .i64 (Za6 l).1,.int .i64 (Za6 l).2]) H:=by
 obtain⟨hl,hm⟩:=hl;have hcl:=Y3 l;have gq:=Xq ((moC l).length:Int) 400;unfold Za6;refine Jw tOk fe23.ok rfl ?_;by_cases h:400<l.length
 ·rw[decide_eq_true (by omega)]at gq;rw[if_pos h];repeat' first|refine Ks ?_|fail
  all_goals rfl
 rw[decide_eq_false (by omega)]at gq;rw[if_neg h];repeat' first|refine Ks ?_|fail
 refine Wp.while (fun m2 tm H=>∃(i:Nat) (base:TM),i+m2=l.length∧(∀x,x∈l.take i→x.alone=0)∧ZlC [] l=ZlC (l.take i) (l.drop i)∧tm=ovr base [(0,slV b 6 (moC l)),(4,.int .i64 (i:Int))]∧H=⟨[],0,[],0⟩)
  (fun m2 tm H hI=>?_) l.length _ _ ⟨0,_,by omega,by simp,by simp,Ze ⟨rfl,rfl,trivial⟩,rfl⟩
 obtain⟨i,base,hi,hal,hgo,rfl,rfl⟩:=hI;rw[hgo];by_cases hlt:i<l.length
 ·obtain⟨m,hx⟩:∃m,l[i]? = some m:=⟨l[i],by simp⟩;have hj:=Vs hx;have hA:=c46 (hm m (List.mem_of_getElem? hx));have hlx:=Zu (i:Int) ((moC l).length:Int);rw[decide_eq_true (by omega)]at hlx;have htk:l.take (i+1)=l.take i++ [m]:=by rw[List.take_add_one,hx];rfl
  have hsl:Yf E0 22 (slV b 6 (moC l)) none (some (.int .i64 (i:Int))) none=some (slV false 6 (moC (l.take i))):=by rw[← ZkZ];exact ZpZ (E:=E0) (t:=22) (L:=moC l) (es:=6) rfl rfl rfl rfl b (fun h=>by rw[h]at hcl;simp at hcl;omega) (by omega)
  rw[ZjA hx,List.length_take,show min i l.length=i by omega];have n1:=WZ m.alone 0;by_cases c1:m.alone=0;{have hB:=c47 (p:=l.take i) (by rw[List.length_take];omega) (form_6 c1) (fun x hx=>form_6 (hal x hx)) false;(have hal2:∀x,x∈l.take (i+1)→x.alone=0:=fun x hx=>by rw[htk]at hx;rcases List.mem_append.1 hx with h|h;{exact hal x h};{rw[List.mem_singleton.1 h];exact c1});rw[decide_eq_true c1]at n1;rw[if_neg (by omega:¬ m.alone≠0)];rw[c1]at hA n1;have n2:=WZ (VB (l.take i) m false false) 0;rw[← htk];generalize VB (l.take i) m false false=B at hB n2 ⊢;obtain⟨kd,nu,ro,an,ag,go,tn,te⟩:=m;simp only[Mo.cells]at hA hB hj;by_cases c2:B=0;{rw[decide_eq_true c2]at n2;rw[if_neg (by omega)];(repeat' first|refine Jc (hA _) ?_|refine KK ?_|refine Jd (hB _) ?_|refine Kh ?_|refine JI ?_|refine Kb ?_|fail);exact LoopI.go (m2-1) (by omega) ⟨i+1,_,by omega,hal2,rfl,Ze ⟨rfl,Zg (Zd (n:=i+1) (by omega)),trivial⟩,rfl⟩};{rw[decide_eq_false c2]at n2;rw[if_pos c2];(repeat' first|refine Jc (hA _) ?_|refine KK ?_|refine Jd (hB _) ?_|refine Kh ?_|refine JI ?_|refine Kb ?_|fail);all_goals rfl}};{rw[decide_eq_false c1]at n1;rw[if_pos c1];generalize m.alone=e at hA n1 ⊢;obtain⟨kd,nu,ro,an,ag,go,tn,te⟩:=m;simp only[Mo.cells]at hA hj;(repeat' first|refine Jc (hA _) ?_|refine KK ?_|fail);all_goals rfl}
 ·have e:i=l.length:=by omega
  subst e;have hlx:=Zu (l.length:Int) ((moC l).length:Int);rw[decide_eq_false (by omega)]at hlx;rw[List.drop_length];repeat' first|refine Ks ?_|fail
  all_goals rfl
theorem c11 (hl:TrS l) (b:Bool):∀H,CO 11 [slV b 6 (moC l)] H (.int .i64 (ZI l).2) H:=by
 have hc:=c23 hl b;rw[ZgQ];generalize Za6 l=f at hc ⊢;obtain⟨f1,f2⟩:=f;refine Jw tOk fe11.ok rfl ?_;repeat' first|refine Jc (hc _) ?_|refine Jo ?_|fail
 all_goals rfl
end Go.Vm.Seat
namespace Go.Vm
variable {S:List UInt8} {p:Nat}
abbrev pB (S:List UInt8) (p:Nat):Box:= .cells 2 [[.str S,.int .i64 (p:Int)]]
theorem XZ (n:Nat) (S:List UInt8) (p:Nat):Yy n (pB S p)=true:=by simp[Yy,ZO,under]
theorem ZhL {c:UInt8} (h:S[p]? = some c):YW (S.drop p)=if Yx c=true then c::YW (S.drop (p+1)) else[]:=by rw[Zw h,UT]
theorem Zdv (s:List UInt8):s.take (YW s).length=YW s:=by have h:=Q8 s;generalize s.drop (YW s).length=z at h;rw[congrArg (List.take (YW s).length) h,List.take_left]
theorem Zl0 {w:List UInt8} (h:YR w (S.drop p)=true):p+w.length≤max p S.length:=by rw[YR,decide_eq_true_eq]at h;have:=congrArg List.length h;rw[List.length_take,List.length_drop]at this;omega
end Go.Vm
namespace Go.Vm.Seat
variable {S s w:List UInt8} {k p:Nat}
open Go.Proofs
theorem Zpu (a b:List UInt8):XM E0 .eql 9 (.str a) (.str b)=some (.bool (decide (a=b))):=by by_cases h:a=b;{subst h;rw[decide_eq_true rfl];show some (PV.bool (a==a))=_;simp};{rw[decide_eq_false h];exact Vi h}
theorem e9p:E0.T 9=some ⟨.string,1,16,.str []⟩:=by kernel_rfl
theorem Zv0 (h:k≤s.length):Yf E0 9 (.str s) none (some (.int .i64 (k:Int))) none=some (.str (s.take k)):=by
 have en:nat? (.int .i64 (k:Int))=some k:=by simp[nat?]
 simp only[Yf,e9p,XP,en];rw[if_pos h];rfl
theorem Zup (h:k≤s.length):Yf E0 9 (.str s) (some (.int .i64 (k:Int))) none none=some (.str (s.drop k)):=by
 have en:nat? (.int .i64 (k:Int))=some k:=by simp[nat?]
 simp only[Yf,e9p,XP,en];rw[if_pos h,List.take_length]
theorem ZtM {i n:Nat} (h:i+n≤s.length):Yf E0 9 (.str s) (some (.int .i64 (i:Int))) (some (.int .i64 ((i+n:Nat):Int))) none=some (.str ((s.drop i).take n)):=by
 have e1:nat? (.int .i64 (i:Int))=some i:=by simp[nat?]
 have e2:nat? (.int .i64 ((i+n:Nat):Int))=some (i+n):=by simp only[nat?]
 simp only[Yf,e9p,XP,e1,e2];rw[if_pos h];show(match if i≤i+n then some i else none with|some l=>some (PV.str ((s.take (i+n)).drop l))|none=>none)=_;rw[if_pos (by omega)];show some (PV.str ((s.take (i+n)).drop i))=_;rw[List.drop_take,Nat.add_sub_cancel_left]
theorem hpR:∀H,CO 200 [.str s,.str w] H (.bool (YR w s)) H:=by
 have hg:=XY (s.length:Int) (w.length:Int);by_cases h:w.length≤s.length
 ·rw[decide_eq_true (by omega)]at hg;have hs:=Zv0 h;have he:=Zpu (s.take w.length) w;unfold YR;generalize decide (s.take w.length=w)=B at he ⊢;refine Jw tOk fe200.ok rfl ?_;cases B;all_goals
   repeat' first|refine JS ?_|refine Kg ?_|fail
   all_goals rfl
 ·rw[decide_eq_false (by omega)]at hg;have e:YR w s=false:=decide_eq_false fun e=>by have:=congrArg List.length e;rw[List.length_take]at this;omega
  rw[e];refine Jw tOk fe200.ok rfl ?_;repeat' first|refine Jk ?_|refine Kg ?_|fail
  all_goals rfl
theorem Zu0 (s w:List UInt8):∀H,CO 179 [.str s,.str w] H (.bool (YR w s)) H:=by
 have hc:=hpR (s:=s) (w:=w);refine Jw tOk fe179.ok rfl ?_;repeat' first|refine Jc (hc _) ?_|refine Jt ?_|refine Jb ?_ ?_|refine Jo ?_|intro hb
 all_goals rw[hb]
theorem Zjg (hp:p≤S.length) (hS:S.length≤1000000) (hw:w.length≤100) (A:Box) (lv:List Nat) (nt:Nat):CO 136 [.ptr 1 2 0 0,.str w] ⟨[A,pB S p],0,lv,nt⟩ (.bool (YR w (S.drop p))) ⟨[A,pB S (if YR w (S.drop p)=true then p+w.length else p)],0,lv,nt⟩:=by
 have hsl:=Zup hp;have hc:=Zu0 (S.drop p) w;have had:=ZaJ (a:=(p:Int)) (b:=(w.length:Int)) (by omega) (by omega);rw[show(p:Int)+(w.length:Int)=((p+w.length:Nat):Int) by omega]at had;cases hB:YR w (S.drop p) with
 |true=>
  rw[hB]at hc;rw[if_pos rfl];refine ZU (own:=fun _=>false) tOk fe136.ok ?_;refine Wp.seq ?_;repeat' first|refine Kg ?_|refine Jd (hc _) ?_|refine Kh ?_|refine Kl ?_|fail
  all_goals exact RetE.ret rfl rfl rfl
 |false=>
  rw[hB]at hc;rw[if_neg (by decide)];refine ZU (own:=fun _=>false) tOk fe136.ok ?_;refine Wp.seq ?_;repeat' first|refine Jt ?_|refine Jd (hc _) ?_|refine Kh ?_|(apply dT (ty:=4);rfl;rfl;rfl;rfl)|refine Jh ?_|refine Jo ?_|(apply Wp.draw tOk follows;kernel_rfl)|fail
  all_goals exact RetE.ret rfl rfl rfl
theorem ZsO (hp:p≤S.length) (hS:S.length≤1000000) (A:Box) (lv:List Nat) (nt:Nat):CO 137 [.ptr 1 2 0 0] ⟨[A,pB S p],0,lv,nt⟩ (.tup [.str (YW (S.drop p)),.bool (YA (YW (S.drop p)))]) ⟨[A,pB S (p+(YW (S.drop p)).length)],0,lv,nt⟩:=by
 have hnl:=UN (S.drop p);rw[List.length_drop]at hnl;have hml:S.length≤maxLen:=Nat.le_trans hS (by decide);have hcI:=c145 (YW (S.drop p)) (by omega);have hsm:=ZtM (s:=S) (i:=p) (n:=(YW (S.drop p)).length) (by omega);have htk:(S.drop p).take (YW (S.drop p)).length=YW (S.drop p):=by exact Zdv _
 rw[htk]at hsm;obtain⟨nm,hnm⟩:∃nm,nm=YW (S.drop p):=⟨_,rfl⟩;rw[← hnm]at hcI hsm hnl ⊢;generalize YA nm=B at hcI ⊢;refine ZU (own:=fun _=>false) tOk fe137.ok ?_;refine Wp.seq ?_;repeat' first|refine Ka ?_|fail
 refine Wp.while (fun m tm H=>∃(j:Nat) (base:TM),j+m=nm.length∧(YW (S.drop (p+j))).length=m∧tm=ovr base [(0,.ptr 1 2 0 0),(4,.int .i64 (p:Int))]∧H=⟨[A,pB S (p+j)],0,lv,nt⟩)
  (fun m tm H hI=>?_) nm.length _ _ ⟨0,_,by omega,by rw[Nat.add_zero,hnm],Ze ⟨rfl,rfl,trivial⟩,rfl⟩
 obtain⟨j,base,hj,hm,rfl,rfl⟩:=hI;have hlx:=Zu ((p+j:Nat):Int) (S.length:Int);by_cases hlt:p+j<S.length
 ·rw[decide_eq_true (by omega)]at hlx;obtain⟨c,hc⟩:∃c,S[p+j]? = some c:=⟨S[p+j],by simp⟩;have hx:=Zmc hc;have hcp:=ZqW (c.toNat:Int);rw[ZhL hc]at hm;have hpb:Zcr (c.toNat:Int)=Yx c:=rfl;rw[hpb]at hcp;have had:=ZaJ (a:=((p+j:Nat):Int)) (b:=1) (by omega) (by omega);rw[show((p+j:Nat):Int)+1=((p+(j+1):Nat):Int) by omega]at had;cases hB:Yx c with
  | true=>rw[hB]at hcp;rw[if_pos hB,List.length_cons]at hm;(repeat' first|refine Ki ?_|refine Jd (hcp _) ?_|refine Kz ?_|refine Ku ?_|fail);exact LoopI.go (m-1) (by omega) ⟨j+1,_,by omega,by rw[show p+(j+1)=p+j+1 by omega];omega,Ze ⟨rfl,rfl,trivial⟩,rfl⟩
  | false=>rw[hB]at hcp;rw[if_neg (by rw[hB];decide)]at hm;(have hjn:j=nm.length:=by simp at hm;omega);subst hjn;(repeat' first|refine Jd (hcp _) ?_|refine Jd (hcI _) ?_|refine Kh ?_|refine Kz ?_|refine Kc ?_|refine Jh ?_|refine Jo ?_|(apply Wp.draw tOk follows;kernel_rfl)|fail);all_goals exact RetE.ret rfl rfl rfl
 ·have hjn:j=nm.length:=by omega
  subst hjn;rw[decide_eq_false (by omega)]at hlx;repeat' first|(apply dK;rfl;rfl;rfl)|refine Jd (hcI _) ?_|refine Kh ?_|refine JD ?_|(apply dF (ty:=4);rfl;rfl;rfl;rfl)|refine Jh ?_|refine Jo ?_|(apply Wp.draw tOk follows;kernel_rfl)|fail
  all_goals exact RetE.ret rfl rfl rfl
end Go.Vm.Seat
namespace Go.Vm
def ixW (v:List UInt8):List (List UInt8)→Nat→Int
 | [],_=> -1
 |x::r,i=>if v=x then(i:Int) else ixW v r (i+1)
theorem ZkE {v:List UInt8} {l:List (List UInt8)} {i:Nat} {x:List UInt8} (h:l[i]? = some x):ixW v (l.drop i) i=if v=x then(i:Int) else ixW v (l.drop (i+1)) (i+1):=by rw[Zw h];rfl
def Zn5:List (List UInt8):=[[97,110,121],[97,103,101,110,116],[110,111,110,99,101],[107,101,121],[100,97,116,97],[116,97,103]]
theorem ZmC (v:List UInt8):ixW v Zn5 0=ZcB v:=by simp only[ixW,Zn5,ZcB];rfl
end Go.Vm
namespace Go.Vm.Seat
open Go.Proofs
theorem c69 {l:List (List UInt8)} (hl:l.length≤1000) (v:List UInt8) (b:Bool):∀H,CO 69 [slV b 1 (ZD l),.str v] H (.int .i64 (ixW v l 0)) H:=by
 have hsl:=ZC l;refine Jw tOk fe69.ok rfl ?_;repeat' first|refine KN ?_|fail
 refine Wp.while (fun m tm H => ∃(i : Nat) (base : TM), i + m = l.length ∧ ixW v l 0 = ixW v (l.drop i) i ∧
   tm=ovr base [(0,slV b 1 (ZD l)),(1,.str v),(7,.int .i64 (l.length:Int)),(8,.int .i64 (i:Int))]∧H=hNil)
  (fun m tm H hI=>?_) l.length _ _ ⟨0,_,by omega,by simp,Ze ⟨rfl,rfl,Zg (by rw[hsl]),rfl,trivial⟩,rfl⟩
 obtain⟨i,base,hi,hx,rfl,rfl⟩:=hI;rw[hx];by_cases hlt:i<l.length;{obtain⟨x,hk⟩:∃x,l[i]? = some x:=⟨l[i],by simp⟩;have hj:=Xf hk;have hlx:=Zu (i:Int) (l.length:Int);rw[decide_eq_true (by omega)]at hlx;have he:=Zpu v x;rw[ZkE hk];have hii:=ZaJ (a:=(i:Int)) (b:=1) (by omega) (by omega);rw[show(i:Int)+1=((i+1:Nat):Int) by omega]at hii;by_cases c:v=x;{rw[decide_eq_true c]at he;rw[if_pos c];(repeat' first|refine KH ?_|fail);all_goals rfl};{rw[decide_eq_false c]at he;rw[if_neg c];(repeat' first|refine KH ?_|fail);exact LoopI.go (m-1) (by omega) ⟨i+1,_,by omega,rfl,Ze ⟨rfl,rfl,rfl,rfl,trivial⟩,rfl⟩}}
 ·have e:i=l.length:=by omega
  subst e;have hlx:=Zu (l.length:Int) (l.length:Int);rw[decide_eq_false (by omega)]at hlx;rw[List.drop_length];repeat' first|refine Ki ?_|fail
  all_goals rfl
abbrev ZqP (S:List UInt8) (p:Nat) (least:Int):PV:=if YR [58] (S.drop p)=true then .tup [.int .i64 (ZcB (YW (S.drop (p+1)))),.bool (decide (least≤ZcB (YW (S.drop (p+1)))))] else .tup [.int .i64 0,.bool false]
abbrev ZqO (S:List UInt8) (p:Nat):Nat:=if YR [58] (S.drop p)=true then p+1+(YW (S.drop (p+1))).length else p
theorem Zpi {S:List UInt8} {p:Nat} (hp:p≤S.length) (hS:S.length≤1000000) (least:Int) (A:Box) (lv:List Nat) (nt:Nat):CO 138 [.ptr 1 2 0 0,.int .i64 least] ⟨[A,pB S p],0,lv,nt⟩ (ZqP S p least) ⟨[A,pB S (ZqO S p)],0,lv,nt⟩:=by
 have k1:=Zjg (w:=[58]) hp hS (by decide) A lv nt;unfold ZqP ZqO;cases hB:YR [58] (S.drop p) with
 |false=>
  rw[hB,if_neg (by decide)]at k1;rw[if_neg (by decide),if_neg (by decide)];refine ZU (own:=fun _=>false) tOk fe138.ok ?_;refine Wp.seq ?_;repeat' first|refine Jc k1 ?_|refine Ka ?_|fail
  all_goals exact RetE.ret rfl rfl rfl
 |true=>
  have hp1:=Zl0 hB;simp only[List.length_cons,List.length_nil]at hp1;have hpl:p+1≤S.length:=by(have:p≠S.length:=fun e=>by rw[e,List.drop_length,Ux]at hB;cases hB);omega
  rw[hB,if_pos rfl]at k1;rw[if_pos rfl,if_pos rfl];have hnl:=UN (S.drop (p+1));rw[List.length_drop]at hnl;have hcI:=c69 (l:=Zn5) (by decide) (YW (S.drop (p+1))) true;rw[ZmC]at hcI;simp only[Zn5,ZD,List.map_cons,List.map_nil,Zp]at hcI;have hsm:=ZtM (s:=S) (i:=p+1) (n:=(YW (S.drop (p+1))).length) (by omega);have htk:(S.drop (p+1)).take (YW (S.drop (p+1))).length=YW (S.drop (p+1)):=by exact Zdv _
  rw[htk]at hsm;obtain⟨nm,hnm⟩:∃nm,nm=YW (S.drop (p+1)):=⟨_,rfl⟩;rw[← hnm]at hcI hsm hnl ⊢;have hge:=XY (ZcB nm) least;generalize ZcB nm=so at hcI hge ⊢;generalize decide (least≤so)=B at hge ⊢;refine ZU (own:=fun _=>false) tOk fe138.ok ?_;refine Wp.seq ?_;repeat' first|refine Jc k1 ?_|refine Ka ?_|fail
  refine Wp.while (fun m tm H=>∃(j:Nat) (base:TM),j+m=nm.length∧(YW (S.drop (p+1+j))).length=m∧tm=ovr base [(0,.ptr 1 2 0 0),(1,.int .i64 least),(6,.int .i64 ((p+1:Nat):Int))]∧H=⟨[A,pB S (p+1+j)],0,lv,nt⟩)
   (fun m tm H hI=>?_) nm.length _ _ ⟨0,_,by omega,by rw[Nat.add_zero,hnm],Ze ⟨rfl,rfl,rfl,trivial⟩,rfl⟩
  obtain⟨j,base,hj,hm,rfl,rfl⟩:=hI;have hlx:=Zu ((p+1+j:Nat):Int) (S.length:Int);by_cases hlt:p+1+j<S.length
  ·rw[decide_eq_true (by omega)]at hlx;obtain⟨c,hc⟩:∃c,S[p+1+j]? = some c:=⟨S[p+1+j],by simp⟩;have hx:=Zmc hc;have hcp:=ZqW (c.toNat:Int);rw[ZhL hc]at hm;have hpb:Zcr (c.toNat:Int)=Yx c:=rfl;rw[hpb]at hcp;have had:=ZaJ (a:=((p+1+j:Nat):Int)) (b:=1) (by omega) (by omega);rw[show((p+1+j:Nat):Int)+1=((p+1+(j+1):Nat):Int) by omega]at had;cases hB2:Yx c with
   | true=>rw[hB2]at hcp;rw[if_pos hB2,List.length_cons]at hm;(repeat' first|refine Ki ?_|refine Jd (hcp _) ?_|refine Kz ?_|refine Ku ?_|fail);exact LoopI.go (m-1) (by omega) ⟨j+1,_,by omega,by rw[show p+1+(j+1)=p+1+j+1 by omega];omega,Ze ⟨rfl,rfl,rfl,trivial⟩,rfl⟩
   | false=>rw[hB2]at hcp;rw[if_neg (by rw[hB2];decide)]at hm;(have hjn:j=nm.length:=by simp at hm;omega);subst hjn;(repeat' first|refine Ki ?_|refine Jd (hcp _) ?_|refine Jd (hcI _) ?_|refine Kh ?_|refine Kz ?_|refine KA ?_|fail);all_goals exact RetE.ret rfl rfl rfl
  {(have hjn:j=nm.length:=by omega);subst hjn;rw[decide_eq_false (by omega)]at hlx;(repeat' first|refine Ki ?_|(apply dK;rfl;rfl;rfl)|refine Jd (hcI _) ?_|refine Kh ?_|refine JD ?_|refine Kl ?_|fail);all_goals exact RetE.ret rfl rfl rfl}
