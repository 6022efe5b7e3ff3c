/-
  The variables of a term, and what a key must be: the program's text.
-/
import Derived.Test.YtnghnjdabbjcnaaGreatDoorOu
import Derived.Test.YtnghnjdabbjcnaaGreatDoorProg
set_option maxHeartbeats 0
set_option maxRecDepth 100000
namespace Go.Vm
def YV (s:Bs):Bool:=decide ((Tm.mk 2 s 0 true []).valid=0)
def ixN:List Bs→Nat→Int
 | [],_=> -1
 |s::r,i=>if YV s=false then(i:Int) else ixN r (i+1)
theorem Zfg:∀(l:List Bs) (i:Nat),decide (0≤ixN l i)=l.any fun s=> !YV s
 | [],i=>by simp[ixN]
 |s::r,i=>by
  have e:ixN (s::r) i=if YV s=false then(i:Int) else ixN r (i+1):=rfl
  have ih:=Zfg r (i+1);by_cases h:YV s=false;{rw[if_pos h]at e;rw[e,List.any_cons,h];simp};{rw[if_neg h]at e;rw[e,List.any_cons,ih,show YV s=true by simpa using h];rfl}
theorem ZgQ {l:List Bs} {i:Nat} {a:Bs} (h:l[i]? = some a):ixN (l.drop i) i=if YV a=false then(i:Int) else ixN (l.drop (i+1)) (i+1):=by rw[ZB h];rfl
end Go.Vm
namespace Go.Vm.Seat
variable {s:Bs} {l:List Bs}
open Go.Proofs
theorem Ziq (s:Bs) (hs:s.length≤maxLen):(Tm.mk 2 s 0 true []).Ok:= .mk (by decide) (by decide) hs (by decide) fun t ht=>by simp at ht
theorem c58 (hs:s.length≤maxLen):∀H,CO 58 [.str s] H (.bool (YV s)) H:=by
 have hV:=c65 (Ziq s hs) (by simp[Tm.size,Zm]);unfold YV;generalize (Tm.mk 2 s 0 true []).valid=v at hV ⊢;rw[show(Tm.mk 2 s 0 true []).cells= [.int .i64 2,.str s,.int .i64 0,.nils] by simp only[Tm.cells,Za,Zi]]at hV;by_cases h:v=0
 ·subst h;refine Jw tOk fe58.ok rfl ?_;repeat' first|refine Jc (hV _) ?_|refine Ka ?_|fail
  all_goals rfl
 ·rw[decide_eq_false h];have heq:=Zqa h;refine Jw tOk fe58.ok rfl ?_;repeat' first|refine Jc (hV _) ?_|refine Kd ?_|fail
  all_goals rfl
theorem c83 (hs:s.length≤maxLen):∀H,CO 83 [.str s] H (.bool (!YV s)) H:=by
 have hc:=c58 hs;generalize YV s=B at hc ⊢;cases B;all_goals
  refine Jw tOk fe83.ok rfl ?_
  repeat' first|refine Jc (hc _) ?_|refine Ka ?_|fail
  all_goals rfl
theorem Zu7 (hl:∀s,s∈l→s.length≤maxLen) (hlen:l.length≤100000) (b:Bool):∀H,CO 91 [slV b 1 (Zp l),.fn 83 []] H (.int .i64 (ixN l 0)) H:=by
 have hsl:=Zu l;refine Jw tOk fe91.ok rfl ?_;repeat' first|refine KS ?_|fail
 refine Wp.while (fun m tm H=>∃(i:Nat) (base:TM),i+m=l.length∧ixN l 0=ixN (l.drop i) i∧tm=ovr base [(0,slV b 1 (Zp l)),(1,.fn 83 []),(7,.int .i64 (l.length:Int)),(8,.int .i64 (i:Int))]∧H=⟨[],0,[],0⟩)
  (fun m tm H hI=>?_) l.length _ _ ⟨0,_,by omega,by simp,Zd ⟨rfl,rfl,Zg (by rw[hsl]),rfl,trivial⟩,rfl⟩
 obtain⟨i,base,hi,hgo,rfl,rfl⟩:=hI;rw[hgo];by_cases hlt:i<l.length;{obtain⟨a,ha⟩:∃a,l[i]? = some a:=⟨l[i],by simp⟩;have hj:=YU ha;have hc:=c83 (hl a (List.mem_of_getElem? ha));have hlx:=Zv (i:Int) (l.length:Int);rw[decide_eq_true (by omega)]at hlx;rw[ZgQ ha];by_cases hd:YV a=false;{rw[if_pos hd];rw[hd]at hc;have hc:∀H,CO 83 [.str a] H (.bool true) H:=hc;(repeat' first|refine Jc (hc _) ?_|refine KQ ?_|fail);all_goals rfl};{rw[if_neg hd];rw[show YV a=true by simpa using hd]at hc;have hc:∀H,CO 83 [.str a] H (.bool false) H:=hc;(repeat' first|refine Jc (hc _) ?_|refine KQ ?_|fail);exact LoopI.go (m-1) (by omega) ⟨i+1,_,by omega,rfl,Zd ⟨rfl,rfl,rfl,Zg (Ze (n:=i+1) (by omega)),trivial⟩,rfl⟩}}
 ·have e:i=l.length:=by omega
  subst e;have hlx:=Zv (l.length:Int) (l.length:Int);rw[decide_eq_false (by omega)]at hlx;rw[List.drop_length];repeat' first|refine Kk ?_|fail
  all_goals rfl
theorem Zvx (hl:∀s,s∈l→s.length≤maxLen) (hlen:l.length≤100000) (b:Bool):∀H,CO 56 [slV b 1 (Zp l),.fn 83 []] H (.bool (l.any fun s=> !YV s)) H:=by
 have hc:=Zu7 hl hlen b;rw[← Zfg l 0];have hge:=XP (ixN l 0) 0;generalize ixN l 0=x at hc hge ⊢;generalize decide (0≤x)=A at hge ⊢;refine Jw tOk fe56.ok rfl ?_;cases A;all_goals
  repeat' first|refine Jc (hc _) ?_|refine Kd ?_|fail
  all_goals rfl
end Go.Vm.Seat
namespace Go.Vm
def X7 (num role goal:Bool) (la ma lt mt nu ro go a t:Int):Bool:=(num||decide (nu=0))&&((role||decide (ro=0))&&((goal||decide (go=0))&&(decide (la≤a)&&(decide (a≤ma)&&(decide (lt≤t)&&decide (t≤mt))))))
def Vy (m:Mo):Bool:=if m.kind<1∨7<m.kind then false else
 if m.kind=1 then X7 true true false 2 4 0 0 m.num m.role m.goal m.agents.length m.terms.length else
 if m.kind=2 then X7 true false false 0 0 1 1 m.num m.role m.goal m.agents.length m.terms.length else
 if m.kind=3 then X7 true false false 0 0 1 1 m.num m.role m.goal m.agents.length m.terms.length else
 if m.kind=4 then X7 true false true 0 0 0 12 m.num m.role m.goal m.agents.length m.terms.length else
 if m.kind=5 then X7 true false true 0 0 0 12 m.num m.role m.goal m.agents.length m.terms.length else
 if m.kind=6 then X7 false false false 1 1 0 0 m.num m.role m.goal m.agents.length m.terms.length else
 X7 true false false 0 0 0 0 m.num m.role m.goal m.agents.length m.terms.length
theorem ff5 (b0 b1 b2 b3 b4:Bool):(b0=false)∨(b0=true∧b1=false)∨(b0=true∧b1=true∧b2=false)∨(b0=true∧b1=true∧b2=true∧b3=false)∨(b0=true∧b1=true∧b2=true∧b3=true∧b4=false)∨(b0=true∧b1=true∧b2=true∧b3=true∧b4=true):=by cases b0<;>cases b1<;>cases b2<;>cases b3<;>cases b4<;>simp
theorem ff6 (b0 b1 b2 b3 b4 b5:Bool):(b0=false)∨(b0=true∧b1=false)∨(b0=true∧b1=true∧b2=false)∨(b0=true∧b1=true∧b2=true∧b3=false)∨(b0=true∧b1=true∧b2=true∧b3=true∧b4=false)∨(b0=true∧b1=true∧b2=true∧b3=true∧b4=true∧b5=false)∨(b0=true∧b1=true∧b2=true∧b3=true∧b4=true∧b5=true):=by cases b0<;>cases b1<;>cases b2<;>cases b3<;>cases b4<;>cases b5<;>simp
theorem ff7 (b0 b1 b2 b3 b4 b5 b6:Bool):(b0=false)∨(b0=true∧b1=false)∨(b0=true∧b1=true∧b2=false)∨(b0=true∧b1=true∧b2=true∧b3=false)∨(b0=true∧b1=true∧b2=true∧b3=true∧b4=false)∨(b0=true∧b1=true∧b2=true∧b3=true∧b4=true∧b5=false)∨(b0=true∧b1=true∧b2=true∧b3=true∧b4=true∧b5=true∧b6=false)∨(b0=true∧b1=true∧b2=true∧b3=true∧b4=true∧b5=true∧b6=true):=by cases b0<;>cases b1<;>cases b2<;>cases b3<;>cases b4<;>cases b5<;>cases b6<;>simp
end Go.Vm
namespace Go.Vm.Seat
open Go.Proofs
def shC:List (List PV):=[[.str [],.bool false,.bool false,.bool false,.int .i64 0,.int .i64 0,.int .i64 0,.int .i64 0],[.str [115,116,97,114,116],.bool true,.bool true,.bool false,.int .i64 2,.int .i64 4,.int .i64 0,.int .i64 0],[.str [114,101,99,101,105,118,101],.bool true,.bool false,.bool false,.int .i64 0,.int .i64 0,.int .i64 1,.int .i64 1],[.str [115,101,110,100],.bool true,.bool false,.bool false,.int .i64 0,.int .i64 0,.int .i64 1,.int .i64 1],[.str [98,101,103,105,110],.bool true,.bool false,.bool true,.int .i64 0,.int .i64 0,.int .i64 0,.int .i64 12],[.str [99,108,97,105,109],.bool true,.bool false,.bool true,.int .i64 0,.int .i64 0,.int .i64 0,.int .i64 12],[.str [114,101,118,101,97,108],.bool false,.bool false,.bool false,.int .i64 1,.int .i64 1,.int .i64 0,.int .i64 0],[.str [116,105,109,101,111,117,116],.bool true,.bool false,.bool false,.int .i64 0,.int .i64 0,.int .i64 0,.int .i64 0]]
theorem Zu1:Ui E0 100 60 ⟨40,[],.sl .none 8 shC⟩=true:=by kernel_rfl
theorem WT:∀H,CO 40 [] H (.sl .none 8 shC) H:=XD tOk follows fOk zOk Zu1
theorem Ve (a b:Int):YS E0 .leq 3 (.int .i64 a) (.int .i64 b)=some (.bool (decide (a≤b))):=rfl
theorem ZsI (nu ro go:Int) (an tn:Bool) (ag:List Z3) (te:List Tm):∀H,CO 55 [.agg [.int .i64 1,.int .i64 nu,.int .i64 ro,slV an 1 (Zp ag),.int .i64 go,slV tn 4 (Za te)]] H (.bool (X7 true true false 2 4 0 0 nu ro go ag.length te.length)) H:=by
 have hsh:=WT;unfold shC at hsh;rw[show(ag.length:Int)=((Zp ag).length:Int) by rw[Zu],show(te.length:Int)=((Za te).length:Int) by rw[Zb]];refine ZS (own:=fun d=>Nat.beq d 30006) tOk fe55.ok (by simp only[ZG,frzG,Wm,ZM];rfl) rfl ?_;refine Wp.seq ?_;unfold X7;have x3:=Z0 go 0;have x4:=XP ((Zp ag).length:Int) 2;have x5:=Ve ((Zp ag).length:Int) 4;have x6:=XP ((Za te).length:Int) 0;have x7:=Ve ((Za te).length:Int) 0;generalize decide (go=0)=x3v at x3 ⊢;generalize decide ((2:Int)≤  ((Zp ag).length:Int))=x4v at x4 ⊢;generalize decide (((Zp ag).length:Int)≤4)=x5v at x5 ⊢;generalize decide ((0:Int)≤  ((Za te).length:Int))=x6v at x6 ⊢;generalize decide (((Za te).length:Int)≤0)=x7v at x7 ⊢;rcases ff5 x3v x4v x5v x6v x7v with rfl|⟨rfl,rfl⟩|⟨rfl,rfl,rfl⟩|⟨rfl,rfl,rfl,rfl⟩|⟨rfl,rfl,rfl,rfl,rfl⟩|⟨rfl,rfl,rfl,rfl,rfl⟩;all_goals
  repeat' first|refine KF ?_|refine Jd (hsh _) ?_|refine Kq ?_|refine Jh ?_|refine Kl ?_|fail
  all_goals rfl
theorem Zt0 (nu ro go:Int) (an tn:Bool) (ag:List Z3) (te:List Tm):∀H,CO 55 [.agg [.int .i64 2,.int .i64 nu,.int .i64 ro,slV an 1 (Zp ag),.int .i64 go,slV tn 4 (Za te)]] H (.bool (X7 true false false 0 0 1 1 nu ro go ag.length te.length)) H:=by
 have hsh:=WT;unfold shC at hsh;rw[show(ag.length:Int)=((Zp ag).length:Int) by rw[Zu],show(te.length:Int)=((Za te).length:Int) by rw[Zb]];refine ZS (own:=fun d=>Nat.beq d 30006) tOk fe55.ok (by simp only[ZG,frzG,Wm,ZM];rfl) rfl ?_;refine Wp.seq ?_;unfold X7;have x2:=Z0 ro 0;have x3:=Z0 go 0;have x4:=XP ((Zp ag).length:Int) 0;have x5:=Ve ((Zp ag).length:Int) 0;have x6:=XP ((Za te).length:Int) 1;have x7:=Ve ((Za te).length:Int) 1;generalize decide (ro=0)=x2v at x2 ⊢;generalize decide (go=0)=x3v at x3 ⊢;generalize decide ((0:Int)≤  ((Zp ag).length:Int))=x4v at x4 ⊢;generalize decide (((Zp ag).length:Int)≤0)=x5v at x5 ⊢;generalize decide ((1:Int)≤  ((Za te).length:Int))=x6v at x6 ⊢;generalize decide (((Za te).length:Int)≤1)=x7v at x7 ⊢;rcases ff6 x2v x3v x4v x5v x6v x7v with rfl|⟨rfl,rfl⟩|⟨rfl,rfl,rfl⟩|⟨rfl,rfl,rfl,rfl⟩|⟨rfl,rfl,rfl,rfl,rfl⟩|⟨rfl,rfl,rfl,rfl,rfl,rfl⟩|⟨rfl,rfl,rfl,rfl,rfl,rfl⟩;all_goals
  repeat' first|refine KF ?_|refine Jd (hsh _) ?_|refine Kq ?_|refine Jh ?_|refine Kl ?_|fail
  all_goals rfl
theorem Ztk (nu ro go:Int) (an tn:Bool) (ag:List Z3) (te:List Tm):∀H,CO 55 [.agg [.int .i64 3,.int .i64 nu,.int .i64 ro,slV an 1 (Zp ag),.int .i64 go,slV tn 4 (Za te)]] H (.bool (X7 true false false 0 0 1 1 nu ro go ag.length te.length)) H:=by
 have hsh:=WT;unfold shC at hsh;rw[show(ag.length:Int)=((Zp ag).length:Int) by rw[Zu],show(te.length:Int)=((Za te).length:Int) by rw[Zb]];refine ZS (own:=fun d=>Nat.beq d 30006) tOk fe55.ok (by simp only[ZG,frzG,Wm,ZM];rfl) rfl ?_;refine Wp.seq ?_;unfold X7;have x2:=Z0 ro 0;have x3:=Z0 go 0;have x4:=XP ((Zp ag).length:Int) 0;have x5:=Ve ((Zp ag).length:Int) 0;have x6:=XP ((Za te).length:Int) 1;have x7:=Ve ((Za te).length:Int) 1;generalize decide (ro=0)=x2v at x2 ⊢;generalize decide (go=0)=x3v at x3 ⊢;generalize decide ((0:Int)≤  ((Zp ag).length:Int))=x4v at x4 ⊢;generalize decide (((Zp ag).length:Int)≤0)=x5v at x5 ⊢;generalize decide ((1:Int)≤  ((Za te).length:Int))=x6v at x6 ⊢;generalize decide (((Za te).length:Int)≤1)=x7v at x7 ⊢;rcases ff6 x2v x3v x4v x5v x6v x7v with rfl|⟨rfl,rfl⟩|⟨rfl,rfl,rfl⟩|⟨rfl,rfl,rfl,rfl⟩|⟨rfl,rfl,rfl,rfl,rfl⟩|⟨rfl,rfl,rfl,rfl,rfl,rfl⟩|⟨rfl,rfl,rfl,rfl,rfl,rfl⟩;all_goals
  repeat' first|refine KF ?_|refine Jd (hsh _) ?_|refine Kq ?_|refine Jh ?_|refine Kl ?_|fail
  all_goals rfl
theorem ZtY (nu ro go:Int) (an tn:Bool) (ag:List Z3) (te:List Tm):∀H,CO 55 [.agg [.int .i64 4,.int .i64 nu,.int .i64 ro,slV an 1 (Zp ag),.int .i64 go,slV tn 4 (Za te)]] H (.bool (X7 true false true 0 0 0 12 nu ro go ag.length te.length)) H:=by
 have hsh:=WT;unfold shC at hsh;rw[show(ag.length:Int)=((Zp ag).length:Int) by rw[Zu],show(te.length:Int)=((Za te).length:Int) by rw[Zb]];refine ZS (own:=fun d=>Nat.beq d 30006) tOk fe55.ok (by simp only[ZG,frzG,Wm,ZM];rfl) rfl ?_;refine Wp.seq ?_;unfold X7;have x2:=Z0 ro 0;have x4:=XP ((Zp ag).length:Int) 0;have x5:=Ve ((Zp ag).length:Int) 0;have x6:=XP ((Za te).length:Int) 0;have x7:=Ve ((Za te).length:Int) 12;generalize decide (ro=0)=x2v at x2 ⊢;generalize decide ((0:Int)≤  ((Zp ag).length:Int))=x4v at x4 ⊢;generalize decide (((Zp ag).length:Int)≤0)=x5v at x5 ⊢;generalize decide ((0:Int)≤  ((Za te).length:Int))=x6v at x6 ⊢;generalize decide (((Za te).length:Int)≤12)=x7v at x7 ⊢;rcases ff5 x2v x4v x5v x6v x7v with rfl|⟨rfl,rfl⟩|⟨rfl,rfl,rfl⟩|⟨rfl,rfl,rfl,rfl⟩|⟨rfl,rfl,rfl,rfl,rfl⟩|⟨rfl,rfl,rfl,rfl,rfl⟩;all_goals
  repeat' first|refine KF ?_|refine Jd (hsh _) ?_|refine Kq ?_|refine Jh ?_|refine Kl ?_|fail
  all_goals rfl
theorem ZsP (nu ro go:Int) (an tn:Bool) (ag:List Z3) (te:List Tm):∀H,CO 55 [.agg [.int .i64 5,.int .i64 nu,.int .i64 ro,slV an 1 (Zp ag),.int .i64 go,slV tn 4 (Za te)]] H (.bool (X7 true false true 0 0 0 12 nu ro go ag.length te.length)) H:=by
 have hsh:=WT;unfold shC at hsh;rw[show(ag.length:Int)=((Zp ag).length:Int) by rw[Zu],show(te.length:Int)=((Za te).length:Int) by rw[Zb]];refine ZS (own:=fun d=>Nat.beq d 30006) tOk fe55.ok (by simp only[ZG,frzG,Wm,ZM];rfl) rfl ?_;refine Wp.seq ?_;unfold X7;have x2:=Z0 ro 0;have x4:=XP ((Zp ag).length:Int) 0;have x5:=Ve ((Zp ag).length:Int) 0;have x6:=XP ((Za te).length:Int) 0;have x7:=Ve ((Za te).length:Int) 12;generalize decide (ro=0)=x2v at x2 ⊢;generalize decide ((0:Int)≤  ((Zp ag).length:Int))=x4v at x4 ⊢;generalize decide (((Zp ag).length:Int)≤0)=x5v at x5 ⊢;generalize decide ((0:Int)≤  ((Za te).length:Int))=x6v at x6 ⊢;generalize decide (((Za te).length:Int)≤12)=x7v at x7 ⊢;rcases ff5 x2v x4v x5v x6v x7v with rfl|⟨rfl,rfl⟩|⟨rfl,rfl,rfl⟩|⟨rfl,rfl,rfl,rfl⟩|⟨rfl,rfl,rfl,rfl,rfl⟩|⟨rfl,rfl,rfl,rfl,rfl⟩;all_goals
  repeat' first|refine KF ?_|refine Jd (hsh _) ?_|refine Kq ?_|refine Jh ?_|refine Kl ?_|fail
  all_goals rfl
theorem ZsL (nu ro go:Int) (an tn:Bool) (ag:List Z3) (te:List Tm):∀H,CO 55 [.agg [.int .i64 6,.int .i64 nu,.int .i64 ro,slV an 1 (Zp ag),.int .i64 go,slV tn 4 (Za te)]] H (.bool (X7 false false false 1 1 0 0 nu ro go ag.length te.length)) H:=by
 have hsh:=WT;unfold shC at hsh;rw[show(ag.length:Int)=((Zp ag).length:Int) by rw[Zu],show(te.length:Int)=((Za te).length:Int) by rw[Zb]];refine ZS (own:=fun d=>Nat.beq d 30006) tOk fe55.ok (by simp only[ZG,frzG,Wm,ZM];rfl) rfl ?_;refine Wp.seq ?_;unfold X7;have x1:=Z0 nu 0;have x2:=Z0 ro 0;have x3:=Z0 go 0;have x4:=XP ((Zp ag).length:Int) 1;have x5:=Ve ((Zp ag).length:Int) 1;have x6:=XP ((Za te).length:Int) 0;have x7:=Ve ((Za te).length:Int) 0;generalize decide (nu=0)=x1v at x1 ⊢;generalize decide (ro=0)=x2v at x2 ⊢;generalize decide (go=0)=x3v at x3 ⊢;generalize decide ((1:Int)≤  ((Zp ag).length:Int))=x4v at x4 ⊢;generalize decide (((Zp ag).length:Int)≤1)=x5v at x5 ⊢;generalize decide ((0:Int)≤  ((Za te).length:Int))=x6v at x6 ⊢;generalize decide (((Za te).length:Int)≤0)=x7v at x7 ⊢;rcases ff7 x1v x2v x3v x4v x5v x6v x7v with rfl|⟨rfl,rfl⟩|⟨rfl,rfl,rfl⟩|⟨rfl,rfl,rfl,rfl⟩|⟨rfl,rfl,rfl,rfl,rfl⟩|⟨rfl,rfl,rfl,rfl,rfl,rfl⟩|⟨rfl,rfl,rfl,rfl,rfl,rfl,rfl⟩|⟨rfl,rfl,rfl,rfl,rfl,rfl,rfl⟩;all_goals
  repeat' first|refine KF ?_|refine Jd (hsh _) ?_|refine Kq ?_|refine Jh ?_|refine Kl ?_|fail
  all_goals rfl
theorem Zso (nu ro go:Int) (an tn:Bool) (ag:List Z3) (te:List Tm):∀H,CO 55 [.agg [.int .i64 7,.int .i64 nu,.int .i64 ro,slV an 1 (Zp ag),.int .i64 go,slV tn 4 (Za te)]] H (.bool (X7 true false false 0 0 0 0 nu ro go ag.length te.length)) H:=by
 have hsh:=WT;unfold shC at hsh;rw[show(ag.length:Int)=((Zp ag).length:Int) by rw[Zu],show(te.length:Int)=((Za te).length:Int) by rw[Zb]];refine ZS (own:=fun d=>Nat.beq d 30006) tOk fe55.ok (by simp only[ZG,frzG,Wm,ZM];rfl) rfl ?_;refine Wp.seq ?_;unfold X7;have x2:=Z0 ro 0;have x3:=Z0 go 0;have x4:=XP ((Zp ag).length:Int) 0;have x5:=Ve ((Zp ag).length:Int) 0;have x6:=XP ((Za te).length:Int) 0;have x7:=Ve ((Za te).length:Int) 0;generalize decide (ro=0)=x2v at x2 ⊢;generalize decide (go=0)=x3v at x3 ⊢;generalize decide ((0:Int)≤  ((Zp ag).length:Int))=x4v at x4 ⊢;generalize decide (((Zp ag).length:Int)≤0)=x5v at x5 ⊢;generalize decide ((0:Int)≤  ((Za te).length:Int))=x6v at x6 ⊢;generalize decide (((Za te).length:Int)≤0)=x7v at x7 ⊢;rcases ff6 x2v x3v x4v x5v x6v x7v with rfl|⟨rfl,rfl⟩|⟨rfl,rfl,rfl⟩|⟨rfl,rfl,rfl,rfl⟩|⟨rfl,rfl,rfl,rfl,rfl⟩|⟨rfl,rfl,rfl,rfl,rfl,rfl⟩|⟨rfl,rfl,rfl,rfl,rfl,rfl⟩;all_goals
  repeat' first|refine KF ?_|refine Jd (hsh _) ?_|refine Kq ?_|refine Jh ?_|refine Kl ?_|fail
  all_goals rfl
theorem Zt5 {kd:Int} (hk:kd<1∨7<kd) (nu ro go:Int) (an tn:Bool) (ag:List Z3) (te:List Tm):∀H,CO 55 [.agg [.int .i64 kd,.int .i64 nu,.int .i64 ro,slV an 1 (Zp ag),.int .i64 go,slV tn 4 (Za te)]] H (.bool false) H:=by
 refine ZS (own:=fun d=>Nat.beq d 30006) tOk fe55.ok (by simp only[ZG,frzG,Wm,ZM];rfl) rfl ?_;refine Wp.seq ?_;have x1:=Zv kd 1;have x2:=Y7 kd 7;by_cases h:kd<1
 ·rw[decide_eq_true h]at x1;repeat' first|refine KF ?_|fail
  all_goals rfl
 ·rw[decide_eq_false h]at x1;rw[decide_eq_true (by omega)]at x2;repeat' first|refine Kd ?_|fail
  all_goals rfl
theorem c55 (m:Mo):∀H,CO 55 [.agg m.cells] H (.bool (Vy m)) H:=by
 obtain⟨kd,nu,ro,an,ag,go,tn,te⟩:=m;simp only[Mo.cells,Vy];split;{rename_i h;exact Zt5 h _ _ _ _ _ _ _}
 ·rename_i h;by_cases h1:kd=1;{subst h1;exact ZsI _ _ _ _ _ _ _};rw[if_neg h1];by_cases h1:kd=2;{subst h1;exact Zt0 _ _ _ _ _ _ _};rw[if_neg h1];by_cases h1:kd=3;{subst h1;exact Ztk _ _ _ _ _ _ _};rw[if_neg h1];by_cases h1:kd=4;{subst h1;exact ZtY _ _ _ _ _ _ _};rw[if_neg h1];by_cases h1:kd=5;{subst h1;exact ZsP _ _ _ _ _ _ _};rw[if_neg h1];by_cases h1:kd=6;{subst h1;exact ZsL _ _ _ _ _ _ _};rw[if_neg h1];have h1:kd=7:=by omega
  subst h1;exact Zso _ _ _ _ _ _ _
end Go.Vm.Seat
namespace Go.Proofs
open Go.Shelf
def Tryz.sortTm_ren:Go.Shelf.Ren:=⟨fun|6=>34|15=>73|14=>72|28=>112|29=>113|20=>104|21=>105|22=>106|23=>107|24=>108|25=>109|26=>110|27=>111|46=>148|47=>149|48=>150|49=>151|50=>152|57=>182|n=>n,fun|22=>30|24=>39|25=>72|3=>3|39=>110|0=>0|53=>142|55=>144|4=>4|46=>136|45=>135|50=>127|5=>5|9=>9|66=>164|70=>90|76=>190|77=>191|n=>n,fun|n=>n⟩
theorem Tryz.sortTm:Go.Proofs.SlLaysF0.n6 Tryz.prog Tryz.sortTm_ren:={
 mixed:=by kernel_rfl
 f6:=⟨Tryz.f34.name,by decide,Tryz.func34.trans (congrArg some (by kernel_rfl))⟩
 f14:=⟨Tryz.f72.name,by decide,Tryz.func72.trans (congrArg some (by kernel_rfl))⟩
 f15:=Tryz.func73.trans (congrArg some (by kernel_rfl))
 f20:=⟨Tryz.f104.name,by decide,Tryz.func104.trans (congrArg some (by kernel_rfl))⟩
 f21:=⟨Tryz.f105.name,by decide,Tryz.func105.trans (congrArg some (by kernel_rfl))⟩
 f22:=⟨Tryz.f106.name,by decide,Tryz.func106.trans (congrArg some (by kernel_rfl))⟩
 f23:=⟨Tryz.f107.name,by decide,Tryz.func107.trans (congrArg some (by kernel_rfl))⟩
 f24:=⟨Tryz.f108.name,by decide,Tryz.func108.trans (congrArg some (by kernel_rfl))⟩
 f25:=⟨Tryz.f109.name,by decide,Tryz.func109.trans (congrArg some (by kernel_rfl))⟩
 f26:=⟨Tryz.f110.name,by decide,Tryz.func110.trans (congrArg some (by kernel_rfl))⟩
 f27:=⟨Tryz.f111.name,by decide,Tryz.func111.trans (congrArg some (by kernel_rfl))⟩
 f28:=Tryz.func112.trans (congrArg some (by kernel_rfl))
 f29:=Tryz.func113.trans (congrArg some (by kernel_rfl))
 f46:=⟨Tryz.f148.name,by decide,Tryz.func148.trans (congrArg some (by kernel_rfl))⟩
 f47:=Tryz.func149.trans (congrArg some (by kernel_rfl))
 f48:=Tryz.func150.trans (congrArg some (by kernel_rfl))
 f49:=⟨Tryz.f151.name,by decide,Tryz.func151.trans (congrArg some (by kernel_rfl))⟩
 f50:=⟨Tryz.f152.name,by decide,Tryz.func152.trans (congrArg some (by kernel_rfl))⟩
 f57:=⟨Tryz.f182.name,by decide,Tryz.func182.trans (congrArg some (by kernel_rfl))⟩
 t0:=Tryz.underlying0
 a0:=Tryz.isAgg0
 z0:=Tryz.sizeOf0
 v0:=Tryz.zeroValue0
 t3:=Tryz.underlying3
 a3:=Tryz.isAgg3
 z3:=Tryz.sizeOf3
 v3:=Tryz.zeroValue3
 t4:=Tryz.underlying4
 a4:=Tryz.isAgg4
 z4:=Tryz.sizeOf4
 v4:=Tryz.zeroValue4
 t5:=Tryz.underlying5
 a5:=Tryz.isAgg5
 z5:=Tryz.sizeOf5
 v5:=Tryz.zeroValue5
 t9:=Tryz.underlying9
 a9:=Tryz.isAgg9
 z9:=Tryz.sizeOf9
 v9:=Tryz.zeroValue9
 t22:=Tryz.underlying30
 a22:=Tryz.isAgg30
 z22:=Tryz.sizeOf30
 v22:=Tryz.zeroValue30
 t25:=Tryz.underlying72
 a25:=Tryz.isAgg72
 z25:=Tryz.sizeOf72
 v25:=Tryz.zeroValue72
 t39:=Tryz.underlying110
 a39:=Tryz.isAgg110
 z39:=Tryz.sizeOf110
 v39:=Tryz.zeroValue110
 t45:=Tryz.underlying135
 a45:=Tryz.isAgg135
 z45:=Tryz.sizeOf135
 v45:=Tryz.zeroValue135
 t46:=Tryz.underlying136
 a46:=Tryz.isAgg136
 z46:=Tryz.sizeOf136
 v46:=Tryz.zeroValue136
 t50:=Tryz.underlying127
 a50:=Tryz.isAgg127
 z50:=Tryz.sizeOf127
 v50:=Tryz.zeroValue127
 t53:=Tryz.underlying142
 a53:=Tryz.isAgg142
 z53:=Tryz.sizeOf142
 v53:=Tryz.zeroValue142
 t55:=Tryz.underlying144
 a55:=Tryz.isAgg144
 z55:=Tryz.sizeOf144
 v55:=Tryz.zeroValue144
 t66:=Tryz.underlying164
 a66:=Tryz.isAgg164
 z66:=Tryz.sizeOf164
 v66:=Tryz.zeroValue164
 t70:=Tryz.underlying90
 a70:=Tryz.isAgg90
 z70:=Tryz.sizeOf90
 v70:=Tryz.zeroValue90
 t76:=Tryz.underlying190
 a76:=Tryz.isAgg190
 z76:=Tryz.sizeOf190
 v76:=Tryz.zeroValue190
 t77:=Tryz.underlying191
 a77:=Tryz.isAgg191
 z77:=Tryz.sizeOf191
 v77:=Tryz.zeroValue191}
end Go.Proofs
namespace Go.Vm.Seat
variable {bx:List Box} {L:List Tm} {t:Tm}
open Go.Proofs
theorem Zn1 {id : Nat} (hid : bx[id]? = some (.cells 4 (Za L))) (hL : L ≠ []) (hok : ∀x, x ∈ L → x.Ok ∧ x.size ≤ 100000) (hlen : L.length ≤ 100000) :
  CO 34 [.own id 4 0 L.length,.fn 35 []] ⟨bx,0,[],0⟩ (.tup []) ⟨bx.set id (.cells 4 (Za (Un L))),0,[],0⟩:=
 Zok (E:=E0) (E1:=E1) (H:=⟨bx,0,[],0⟩) fe34.ok fe35.ok ⟨rfl,rfl⟩ rfl
  (fun enc h4 h1 cf hO blk off cap d w eg hcmp hH hblk hsz=>AnyQ.slices_SortFunc_eq Tryz.sortTm 4 Tryz.isAgg39 Tryz.sizeOf39 enc h4 h1 cf hO 35 #[] blk off cap d w eg hcmp hH hblk hsz)
  hL (N:=100000) (fun t ht=>(hok t ht).2) (fun a b ha hb=>d35 (hok a ha).1 (hok b hb).1 (by have:=(hok a ha).2;omega) (by have:=(hok b hb).2;omega) _) (by omega) hid (Nat.zero_le _)
def ZsM (id:Nat) (r:PV) (H:Heap):Prop:=∃(M:List Tm) (D:List (List PV)),r= .own id 4 0 M.length∧M≠ []∧nth H.bx id=some (.cells 4 (Za M++D))
theorem Zq1 {id:Nat} (hid:bx[id]? = some (.cells 4 (Za L))) (hL:L≠ []) (hok:∀x,x∈L→x.Ok∧x.size≤100000) (hlen:L.length≤100000):∃r H',CO 189 [.own id 4 0 L.length] ⟨bx,0,[],0⟩ r H'∧ZsM id r H':=by
 have hlt:=Zy hid;have hs:=Zn1 hid hL hok hlen;have hp:=ZhD hL (N:=100000) fun t ht=>(hok t ht).2;have hsl:(Un L).length=L.length:=hp.length_eq;have hsne:Un L≠ []:=fun h=>by rw[h]at hsl;exact hL (List.length_eq_zero_iff.1 hsl.symm)
 have hsm:∀x,x∈Un L→x∈L:=fun x hx=>hp.mem_iff.1 hx;obtain⟨r1,H1,hc,M,D,rfl,rfl,hMl,hMne,hMm⟩:=Zhn (id:=id) (bx:=bx.set id (.cells 4 (Za (Un L)))) (L:=Un L) (by simp[hlt]) (fun x hx=>hok x (hsm x hx)) (by omega);rw[hsl]at hc;rw[List.set_set]at hc;have hMne:=hMne hsne;refine Zw (own:=fun _=>false) tOk fe189.ok ?_;refine Wp.seq ?_;repeat' first|refine Jc hs ?_|refine Jc hc ?_|refine Jo ?_|fail
 refine Wp.while (fun m tm H=>∃(i:Nat) (base:TM),i+m=M.length∧tm=ovr base [(0,.own id 4 0 M.length),(9,.int .i64 (M.length:Int)),(10,.int .i64 (i:Int))]∧H=⟨bx.set id (.cells 4 (Za (clL (M.take i)++M.drop i)++D)),0,[],0⟩)
  (fun m tm H hI=>?_) M.length _ _ ⟨0,_,by omega,Zd ⟨rfl,rfl,rfl,trivial⟩,by simp[clL]⟩
 obtain⟨i,base,hi,rfl,rfl⟩:=hI;have hnb:nth (bx.set id (.cells 4 (Za (clL (M.take i)++M.drop i)++D))) id=some (.cells 4 (Za (clL (M.take i)++M.drop i)++D)):=by rw[Zj];simp[hlt]
 by_cases hilt:i<M.length
 ·obtain⟨x,hx⟩:∃x,M[i]? = some x:=⟨M[i],by simp⟩;have hxm:=hMm x (List.mem_of_getElem? hx);have hxo:=hok x (hsm x hxm);have hlen1:(clL (M.take i)).length=i:=by rw[WG,List.length_take];omega
  have hat:(clL (M.take i)++M.drop i)[i]? = some x:=by rw[List.getElem?_append_right (by omega),hlen1,Nat.sub_self,List.getElem?_drop];simpa using hx
  have hnext:(clL (M.take i)++M.drop i).set i x.cl=clL (M.take (i+1))++M.drop (i+1):=by rw[ZcD hx,ZB hx,List.set_append_right _ _ (by omega),hlen1,Nat.sub_self];simp
  have hcell:nth (Za (clL (M.take i)++M.drop i)++D) i=some x.cells:=by obtain⟨k,nm,s,b,kz⟩:=x;rw[Zj,List.getElem?_append_left (by rw[Zb];exact Zy hat)];exact Zk hat
  have hi1:=Zfv (id:=id) (ix:=0) (len:=M.length) hilt;have hl1:Z2 E0 39 (.ptr id 4 (0+i) 0) ⟨bx.set id (.cells 4 (Za (clL (M.take i)++M.drop i)++D)),0,[],0⟩=some (.agg x.cells):=by rw[Nat.zero_add];exact Vc rfl rfl hnb hcell (by obtain⟨k,nm,s,b,kz⟩:=x;rfl)
  have hcl:=Zuv hxo.1 hxo.2;have hst:Heap.wr ⟨bx.set id (.cells 4 (Za (clL (M.take i)++M.drop i)++D)),0,[],0⟩ (.ptr id 4 (0+i) 0) x.cl.cells=some ⟨bx.set id (.cells 4 (Za (clL (M.take (i+1))++M.drop (i+1))++D)),0,[],0⟩:=by rw[Nat.zero_add,Qq hnb hcell (by obtain⟨k,nm,s,b,kz⟩:=x;simp[Tm.cells,Tm.cl]) (Nat.zero_le _),List.set_set, ← hnext, ← ZbT,List.set_append_left _ _ (by rw[Zb];exact Zy hat)];obtain⟨k,nm,s,b,kz⟩:=x;simp[Tm.cells,Tm.cl]
  obtain⟨k,nm,s,b,kz⟩:=x;simp only[Tm.cl,Tm.cells]at hst hl1 hcl;repeat' first|refine Jc (hcl _) ?_|refine JJ ?_|refine Ki ?_|refine Jz ?_ ?_|refine Jo ?_|intro hb
  {exact LoopI.go (m-1) (by omega) ⟨i+1,_,by omega,Zd ⟨rfl,rfl,Zg (Ze (n:=i+1) (by omega)),trivial⟩,rfl⟩};{exfalso;simp at hb;omega}
 ·have e:i=M.length:=by omega
  subst e;rw[List.take_length,List.drop_length,List.append_nil]at hnb;rw[List.take_length,List.drop_length,List.append_nil];repeat' first|refine Jz ?_ ?_|refine Jo ?_|intro hb
  {exfalso;simp at hb};{refine RetR.ret rfl ⟨clL M,D,by rw[WG];rfl,fun h=>?_,hnb⟩;have:=WG M;rw[h]at this;exact hMne (List.length_eq_zero_iff.1 this.symm)}
theorem ZoW:∀H,CO 189 [.nils] H .nils H:=
 XD (x:=⟨189,[.nils],.nils⟩) tOk follows fOk zOk (fuel:=100) (k:=60) (by kernel_rfl)
theorem Zri {H:Heap} {id:Nat} {M:List Tm} {D:List (List PV)} (hM:M≠ []) (hH:nth H.bx id=some (.cells 4 (Za M++D))):frz3 0 H (.own id 4 0 M.length)=some (slV true 4 (Za M)):=by
 have e:slV true 4 (Za M)= .sl .none 4 (Za M):=by
  cases M with
  | nil=>exact absurd rfl hM
  | cons a r =>
    obtain⟨k,nm,s,b,kz⟩:=a
    exact Zr _ _ _ _
 rw[e];have h1:((Za M++D).drop 0).take M.length=Za M:=by rw[List.drop_zero, ← Zb M,List.take_left]
 show frzC 0 H (.own id 4 0 M.length)=_;simp only[frzC,Nat.not_lt_zero,if_false,hH,true_and,Nat.zero_add,List.length_append,Zb,Nat.le_add_right,if_true,h1,Vk]
theorem Zwj (ht:t.Ok) (hsz:t.size≤90000) (kk:Int):∃M:List Tm,(M= []↔UD kk t.all= [])∧∀H,CO 160 [.agg t.cells,.int .i64 kk] H (slV true 4 (Za M)) H:=by
 have hao:=Zkj ht;have hal:=t.all_len;have hkl:=Zae kk t.all;obtain⟨H1,hc,v',rest',rfl,hG,hF⟩:=Zny kk (.cells 4 [t.cells]) ht (rest:=[]) (v:= .nils) (L:=[]) .nil (by simp;omega);rw[List.nil_append]at hG;have hkm:∀x,x∈UD kk t.all→x.Ok∧x.size≤100000:=fun x hx=>by have:=hao x (List.mem_filter.1 hx).1;exact⟨this.1,by omega⟩
 generalize UD kk t.all=L at hG hkl hkm ⊢;unfold Wh at hc;obtain⟨k,nm,s,b,kz⟩:=t;simp only[Tm.cells]at hc;cases hG with
 |nil=>
  refine⟨[],by simp,?_⟩;rw[show slV true 4 (Za [])= .nils from Zi 4];have ho:=ZoW ⟨.cells 4 [[.int .i64 k,.str nm,.int .i64 s,slV b 4 (Za kz)]]:: .cells 1 [[.int .i64 kk]]:: .cells 1 [[.nils]]::rest',0,[],0⟩;refine Jw tOk fe160.ok rfl ?_ (by simp[ZG,frzG,Tm.cells,XK,frz1]);repeat' first|refine Jc hc ?_|refine Jc ho ?_|refine Jo ?_|fail
  all_goals rfl
 |own o L hob hL=>
  obtain⟨r,H',ho,M,D,rfl,hMne,hnb⟩:=Zq1 (id:=o+3) (bx:= .cells 4 [[.int .i64 k,.str nm,.int .i64 s,slV b 4 (Za kz)]]:: .cells 1 [[.int .i64 kk]]:: .cells 1 [[.own (o+3) 4 0 L.length]]::rest') (L:=L) (by simpa using hob) hL hkm (by omega);refine⟨M,by simp[hMne,hL],?_⟩;have hfin:=Zri hMne hnb;obtain⟨bx',ro',lv',nt'⟩:=H';refine Jw tOk fe160.ok (ZJ _ _ _ _ _) ?_ (by simp[ZG,frzG,Tm.cells,XK,frz1]);repeat' first|refine Jc hc ?_|refine Jc ho ?_|refine Jo ?_|fail
  exact hfin
theorem Zw0 (ht:t.Ok) (hsz:t.size≤90000):∃M:List Tm,(M= []↔UD 1 t.all= [])∧∀H,CO 120 [.agg t.cells] H (slV true 4 (Za M)) H:=by
 obtain⟨M,hM,hc⟩:=Zwj ht hsz 1;refine⟨M,hM,?_⟩;obtain⟨k,nm,s,tb,kz⟩:=t;refine Jw tOk fe120.ok (ZJ _ _ _ _ _) ?_;repeat' first|refine Jc (hc _) ?_|refine Jo ?_|fail
 exact ZJ _ _ _ _ _
