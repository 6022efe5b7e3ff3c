/-
  What the shelf knows of slices.SortFunc at this program's terms.
-/
import Derived.Test.YtnghnjdabbjcnaaGreatDoorVOu
import Derived.Test.YtnghnjdabbjcnaaGreatDoorProg
set_option maxHeartbeats 0
set_option maxRecDepth 100000
namespace Go.Vm
def YH (s:Bs):Bool:=decide ((Tm.mk 2 s 0 true []).valid=0)
def ixN:List Bs→Nat→Int
 | [],_=> -1
 |s::r,i=>if YH s=false then(i:Int) else ixN r (i+1)
theorem Zeq:∀(l:List Bs) (i:Nat),decide (0≤ixN l i)=l.any fun s=> !YH s
 | [],i=>by simp[ixN]
 |s::r,i=>by
  have e:ixN (s::r) i=if YH s=false then(i:Int) else ixN r (i+1):=rfl
  have ih:=Zeq r (i+1);by_cases h:YH s=false;{rw[if_pos h]at e;rw[e,List.any_cons,h];simp};{rw[if_neg h]at e;rw[e,List.any_cons,ih,show YH s=true by simpa using h];rfl}
theorem ZfR {l:List Bs} {i:Nat} {a:Bs} (h:l[i]? = some a):ixN (l.drop i) i=if YH a=false then(i:Int) else ixN (l.drop (i+1)) (i+1):=by rw[Zw h];rfl
end Go.Vm
namespace Go.Vm.Seat
variable {s:Bs} {l:List Bs}
open Go.Proofs
theorem ZnL (s:Bs) (hs:s.length≤maxLen):(Tm.mk 2 s 0 true []).Ok:= .mk (by decide) (by decide) hs (by decide) fun t ht=>by simp at ht
theorem c58 (hs:s.length≤maxLen):∀H,CO 58 [.str s] H (.bool (YH s)) H:=by
 have hV:=c65 (ZnL s hs) (by simp[Tm.size,Zk]);unfold YH;generalize (Tm.mk 2 s 0 true []).valid=v at hV ⊢;rw[show(Tm.mk 2 s 0 true []).cells= [.int .i64 2,.str s,.int .i64 0,.nils] by simp only[Tm.cells,Za,Zi]]at hV;by_cases h:v=0
 ·subst h;refine Jw tOk fe58.ok rfl ?_;repeat' first|refine Jc (hV _) ?_|refine Ka ?_|fail
  all_goals rfl
 ·rw[decide_eq_false h];have heq:=Zpj h;refine Jw tOk fe58.ok rfl ?_;repeat' first|refine Jc (hV _) ?_|refine Kg ?_|fail
  all_goals rfl
theorem c83 (hs:s.length≤maxLen):∀H,CO 83 [.str s] H (.bool (!YH s)) H:=by
 have hc:=c58 hs;generalize YH s=B at hc ⊢;cases B;all_goals
  refine Jw tOk fe83.ok rfl ?_
  repeat' first|refine Jc (hc _) ?_|refine Ka ?_|fail
  all_goals rfl
theorem Zt3 (hl:∀s,s∈l→s.length≤maxLen) (hlen:l.length≤100000) (b:Bool):∀H,CO 91 [slV b 1 (ZD l),.fn 83 []] H (.int .i64 (ixN l 0)) H:=by
 have hsl:=ZC l;refine Jw tOk fe91.ok rfl ?_;repeat' first|refine KN ?_|fail
 refine Wp.while (fun m tm H=>∃(i:Nat) (base:TM),i+m=l.length∧ixN l 0=ixN (l.drop i) i∧tm=ovr base [(0,slV b 1 (ZD l)),(1,.fn 83 []),(7,.int .i64 (l.length:Int)),(8,.int .i64 (i:Int))]∧H=⟨[],0,[],0⟩)
  (fun m tm H hI=>?_) l.length _ _ ⟨0,_,by omega,by simp,Ze ⟨rfl,rfl,Zg (by rw[hsl]),rfl,trivial⟩,rfl⟩
 obtain⟨i,base,hi,hgo,rfl,rfl⟩:=hI;rw[hgo];by_cases hlt:i<l.length;{obtain⟨a,ha⟩:∃a,l[i]? = some a:=⟨l[i],by simp⟩;have hj:=Xf ha;have hc:=c83 (hl a (List.mem_of_getElem? ha));have hlx:=Zu (i:Int) (l.length:Int);rw[decide_eq_true (by omega)]at hlx;rw[ZfR ha];by_cases hd:YH a=false;{rw[if_pos hd];rw[hd]at hc;have hc:∀H,CO 83 [.str a] H (.bool true) H:=hc;(repeat' first|refine Jc (hc _) ?_|refine KH ?_|fail);all_goals rfl};{rw[if_neg hd];rw[show YH a=true by simpa using hd]at hc;have hc:∀H,CO 83 [.str a] H (.bool false) H:=hc;(repeat' first|refine Jc (hc _) ?_|refine KH ?_|fail);exact LoopI.go (m-1) (by omega) ⟨i+1,_,by omega,rfl,Ze ⟨rfl,rfl,rfl,Zg (Zd (n:=i+1) (by omega)),trivial⟩,rfl⟩}}
 ·have e:i=l.length:=by omega
  subst e;have hlx:=Zu (l.length:Int) (l.length:Int);rw[decide_eq_false (by omega)]at hlx;rw[List.drop_length];repeat' first|refine Ki ?_|fail
  all_goals rfl
theorem ZvP (hl:∀s,s∈l→s.length≤maxLen) (hlen:l.length≤100000) (b:Bool):∀H,CO 56 [slV b 1 (ZD l),.fn 83 []] H (.bool (l.any fun s=> !YH s)) H:=by
 have hc:=Zt3 hl hlen b;rw[← Zeq l 0];have hge:=XY (ixN l 0) 0;generalize ixN l 0=x at hc hge ⊢;generalize decide (0≤x)=A at hge ⊢;refine Jw tOk fe56.ok rfl ?_;cases A;all_goals
  repeat' first|refine Jc (hc _) ?_|refine Kg ?_|fail
  all_goals rfl
end Go.Vm.Seat
namespace Go.Vm
def XE (num role goal:Bool) (la ma lt mt nu ro go a t:Int):Bool:=(num||decide (nu=0))&&((role||decide (ro=0))&&((goal||decide (go=0))&&(decide (la≤a)&&(decide (a≤ma)&&(decide (lt≤t)&&decide (t≤mt))))))
def Wv (m:Mo):Bool:=if m.kind<1∨7<m.kind then false else
 if m.kind=1 then XE true true false 2 4 0 0 m.num m.role m.goal m.agents.length m.terms.length else
 if m.kind=2 then XE true false false 0 0 1 1 m.num m.role m.goal m.agents.length m.terms.length else
 if m.kind=3 then XE true false false 0 0 1 1 m.num m.role m.goal m.agents.length m.terms.length else
 if m.kind=4 then XE true false true 0 0 0 12 m.num m.role m.goal m.agents.length m.terms.length else
 if m.kind=5 then XE true false true 0 0 0 12 m.num m.role m.goal m.agents.length m.terms.length else
 if m.kind=6 then XE false false false 1 1 0 0 m.num m.role m.goal m.agents.length m.terms.length else
 XE true false false 0 0 0 0 m.num m.role m.goal m.agents.length m.terms.length
theorem ff5 (b0 b1 b2 b3 b4:Bool):(b0=false)∨(b0=true∧b1=false)∨(b0=true∧b1=true∧b2=false)∨(b0=true∧b1=true∧b2=true∧b3=false)∨(b0=true∧b1=true∧b2=true∧b3=true∧b4=false)∨(b0=true∧b1=true∧b2=true∧b3=true∧b4=true):=by cases b0<;>cases b1<;>cases b2<;>cases b3<;>cases b4<;>simp
theorem ff6 (b0 b1 b2 b3 b4 b5:Bool):(b0=false)∨(b0=true∧b1=false)∨(b0=true∧b1=true∧b2=false)∨(b0=true∧b1=true∧b2=true∧b3=false)∨(b0=true∧b1=true∧b2=true∧b3=true∧b4=false)∨(b0=true∧b1=true∧b2=true∧b3=true∧b4=true∧b5=false)∨(b0=true∧b1=true∧b2=true∧b3=true∧b4=true∧b5=true):=by cases b0<;>cases b1<;>cases b2<;>cases b3<;>cases b4<;>cases b5<;>simp
theorem ff7 (b0 b1 b2 b3 b4 b5 b6:Bool):(b0=false)∨(b0=true∧b1=false)∨(b0=true∧b1=true∧b2=false)∨(b0=true∧b1=true∧b2=true∧b3=false)∨(b0=true∧b1=true∧b2=true∧b3=true∧b4=false)∨(b0=true∧b1=true∧b2=true∧b3=true∧b4=true∧b5=false)∨(b0=true∧b1=true∧b2=true∧b3=true∧b4=true∧b5=true∧b6=false)∨(b0=true∧b1=true∧b2=true∧b3=true∧b4=true∧b5=true∧b6=true):=by cases b0<;>cases b1<;>cases b2<;>cases b3<;>cases b4<;>cases b5<;>cases b6<;>simp
end Go.Vm
namespace Go.Vm.Seat
open Go.Proofs
def shC:List (List PV):=[[.str [],.bool false,.bool false,.bool false,.int .i64 0,.int .i64 0,.int .i64 0,.int .i64 0],[.str [115,116,97,114,116],.bool true,.bool true,.bool false,.int .i64 2,.int .i64 4,.int .i64 0,.int .i64 0],[.str [114,101,99,101,105,118,101],.bool true,.bool false,.bool false,.int .i64 0,.int .i64 0,.int .i64 1,.int .i64 1],[.str [115,101,110,100],.bool true,.bool false,.bool false,.int .i64 0,.int .i64 0,.int .i64 1,.int .i64 1],[.str [98,101,103,105,110],.bool true,.bool false,.bool true,.int .i64 0,.int .i64 0,.int .i64 0,.int .i64 12],[.str [99,108,97,105,109],.bool true,.bool false,.bool true,.int .i64 0,.int .i64 0,.int .i64 0,.int .i64 12],[.str [114,101,118,101,97,108],.bool false,.bool false,.bool false,.int .i64 1,.int .i64 1,.int .i64 0,.int .i64 0],[.str [116,105,109,101,111,117,116],.bool true,.bool false,.bool false,.int .i64 0,.int .i64 0,.int .i64 0,.int .i64 0]]
theorem Zvs:VY E0 100 60 ⟨40,[],.sl .none 8 shC⟩=true:=by kernel_rfl
theorem WG:∀H,CO 40 [] H (.sl .none 8 shC) H:=XB tOk follows fOk zOk Zvs
theorem VP (a b:Int):XM E0 .leq 3 (.int .i64 a) (.int .i64 b)=some (.bool (decide (a≤b))):=rfl
theorem ZqX (nu ro go:Int) (an tn:Bool) (ag:List ZY) (te:List Tm):∀H,CO 55 [.agg [.int .i64 1,.int .i64 nu,.int .i64 ro,slV an 1 (ZD ag),.int .i64 go,slV tn 4 (Za te)]] H (.bool (XE true true false 2 4 0 0 nu ro go ag.length te.length)) H:=by
 have hsh:=WG;unfold shC at hsh;rw[show(ag.length:Int)=((ZD ag).length:Int) by rw[ZC],show(te.length:Int)=((Za te).length:Int) by rw[Zb]];refine Yt (own:=fun d=>Nat.beq d 30006) tOk fe55.ok (by simp only[ZH,frzG,Vn,ZX];rfl) rfl ?_;refine Wp.seq ?_;unfold XE;have x3:=Z8 go 0;have x4:=XY ((ZD ag).length:Int) 2;have x5:=VP ((ZD ag).length:Int) 4;have x6:=XY ((Za te).length:Int) 0;have x7:=VP ((Za te).length:Int) 0;generalize decide (go=0)=x3v at x3 ⊢;generalize decide ((2:Int)≤  ((ZD ag).length:Int))=x4v at x4 ⊢;generalize decide (((ZD ag).length:Int)≤4)=x5v at x5 ⊢;generalize decide ((0:Int)≤  ((Za te).length:Int))=x6v at x6 ⊢;generalize decide (((Za te).length:Int)≤0)=x7v at x7 ⊢;rcases ff5 x3v x4v x5v x6v x7v with rfl|⟨rfl,rfl⟩|⟨rfl,rfl,rfl⟩|⟨rfl,rfl,rfl,rfl⟩|⟨rfl,rfl,rfl,rfl,rfl⟩|⟨rfl,rfl,rfl,rfl,rfl⟩;all_goals
  repeat' first|refine Jk ?_|refine Kg ?_|refine Jd (hsh _) ?_|refine Km ?_|refine Jh ?_|refine Kj ?_|fail
  all_goals rfl
theorem Zq5 (nu ro go:Int) (an tn:Bool) (ag:List ZY) (te:List Tm):∀H,CO 55 [.agg [.int .i64 2,.int .i64 nu,.int .i64 ro,slV an 1 (ZD ag),.int .i64 go,slV tn 4 (Za te)]] H (.bool (XE true false false 0 0 1 1 nu ro go ag.length te.length)) H:=by
 have hsh:=WG;unfold shC at hsh;rw[show(ag.length:Int)=((ZD ag).length:Int) by rw[ZC],show(te.length:Int)=((Za te).length:Int) by rw[Zb]];refine Yt (own:=fun d=>Nat.beq d 30006) tOk fe55.ok (by simp only[ZH,frzG,Vn,ZX];rfl) rfl ?_;refine Wp.seq ?_;unfold XE;have x2:=Z8 ro 0;have x3:=Z8 go 0;have x4:=XY ((ZD ag).length:Int) 0;have x5:=VP ((ZD ag).length:Int) 0;have x6:=XY ((Za te).length:Int) 1;have x7:=VP ((Za te).length:Int) 1;generalize decide (ro=0)=x2v at x2 ⊢;generalize decide (go=0)=x3v at x3 ⊢;generalize decide ((0:Int)≤  ((ZD ag).length:Int))=x4v at x4 ⊢;generalize decide (((ZD ag).length:Int)≤0)=x5v at x5 ⊢;generalize decide ((1:Int)≤  ((Za te).length:Int))=x6v at x6 ⊢;generalize decide (((Za te).length:Int)≤1)=x7v at x7 ⊢;rcases ff6 x2v x3v x4v x5v x6v x7v with rfl|⟨rfl,rfl⟩|⟨rfl,rfl,rfl⟩|⟨rfl,rfl,rfl,rfl⟩|⟨rfl,rfl,rfl,rfl,rfl⟩|⟨rfl,rfl,rfl,rfl,rfl,rfl⟩|⟨rfl,rfl,rfl,rfl,rfl,rfl⟩;all_goals
  repeat' first|refine Jk ?_|refine Kg ?_|refine Jd (hsh _) ?_|refine Km ?_|refine Jh ?_|refine Kj ?_|fail
  all_goals rfl
theorem Zq6 (nu ro go:Int) (an tn:Bool) (ag:List ZY) (te:List Tm):∀H,CO 55 [.agg [.int .i64 3,.int .i64 nu,.int .i64 ro,slV an 1 (ZD ag),.int .i64 go,slV tn 4 (Za te)]] H (.bool (XE true false false 0 0 1 1 nu ro go ag.length te.length)) H:=by
 have hsh:=WG;unfold shC at hsh;rw[show(ag.length:Int)=((ZD ag).length:Int) by rw[ZC],show(te.length:Int)=((Za te).length:Int) by rw[Zb]];refine Yt (own:=fun d=>Nat.beq d 30006) tOk fe55.ok (by simp only[ZH,frzG,Vn,ZX];rfl) rfl ?_;refine Wp.seq ?_;unfold XE;have x2:=Z8 ro 0;have x3:=Z8 go 0;have x4:=XY ((ZD ag).length:Int) 0;have x5:=VP ((ZD ag).length:Int) 0;have x6:=XY ((Za te).length:Int) 1;have x7:=VP ((Za te).length:Int) 1;generalize decide (ro=0)=x2v at x2 ⊢;generalize decide (go=0)=x3v at x3 ⊢;generalize decide ((0:Int)≤  ((ZD ag).length:Int))=x4v at x4 ⊢;generalize decide (((ZD ag).length:Int)≤0)=x5v at x5 ⊢;generalize decide ((1:Int)≤  ((Za te).length:Int))=x6v at x6 ⊢;generalize decide (((Za te).length:Int)≤1)=x7v at x7 ⊢;rcases ff6 x2v x3v x4v x5v x6v x7v with rfl|⟨rfl,rfl⟩|⟨rfl,rfl,rfl⟩|⟨rfl,rfl,rfl,rfl⟩|⟨rfl,rfl,rfl,rfl,rfl⟩|⟨rfl,rfl,rfl,rfl,rfl,rfl⟩|⟨rfl,rfl,rfl,rfl,rfl,rfl⟩;all_goals
  repeat' first|refine Jk ?_|refine Kg ?_|refine Jd (hsh _) ?_|refine Km ?_|refine Jh ?_|refine Kj ?_|fail
  all_goals rfl
theorem Zs3 (nu ro go:Int) (an tn:Bool) (ag:List ZY) (te:List Tm):∀H,CO 55 [.agg [.int .i64 4,.int .i64 nu,.int .i64 ro,slV an 1 (ZD ag),.int .i64 go,slV tn 4 (Za te)]] H (.bool (XE true false true 0 0 0 12 nu ro go ag.length te.length)) H:=by
 have hsh:=WG;unfold shC at hsh;rw[show(ag.length:Int)=((ZD ag).length:Int) by rw[ZC],show(te.length:Int)=((Za te).length:Int) by rw[Zb]];refine Yt (own:=fun d=>Nat.beq d 30006) tOk fe55.ok (by simp only[ZH,frzG,Vn,ZX];rfl) rfl ?_;refine Wp.seq ?_;unfold XE;have x2:=Z8 ro 0;have x4:=XY ((ZD ag).length:Int) 0;have x5:=VP ((ZD ag).length:Int) 0;have x6:=XY ((Za te).length:Int) 0;have x7:=VP ((Za te).length:Int) 12;generalize decide (ro=0)=x2v at x2 ⊢;generalize decide ((0:Int)≤  ((ZD ag).length:Int))=x4v at x4 ⊢;generalize decide (((ZD ag).length:Int)≤0)=x5v at x5 ⊢;generalize decide ((0:Int)≤  ((Za te).length:Int))=x6v at x6 ⊢;generalize decide (((Za te).length:Int)≤12)=x7v at x7 ⊢;rcases ff5 x2v x4v x5v x6v x7v with rfl|⟨rfl,rfl⟩|⟨rfl,rfl,rfl⟩|⟨rfl,rfl,rfl,rfl⟩|⟨rfl,rfl,rfl,rfl,rfl⟩|⟨rfl,rfl,rfl,rfl,rfl⟩;all_goals
  repeat' first|refine Jk ?_|refine Kg ?_|refine Jd (hsh _) ?_|refine Km ?_|refine Jh ?_|refine Kj ?_|fail
  all_goals rfl
theorem ZsE (nu ro go:Int) (an tn:Bool) (ag:List ZY) (te:List Tm):∀H,CO 55 [.agg [.int .i64 5,.int .i64 nu,.int .i64 ro,slV an 1 (ZD ag),.int .i64 go,slV tn 4 (Za te)]] H (.bool (XE true false true 0 0 0 12 nu ro go ag.length te.length)) H:=by
 have hsh:=WG;unfold shC at hsh;rw[show(ag.length:Int)=((ZD ag).length:Int) by rw[ZC],show(te.length:Int)=((Za te).length:Int) by rw[Zb]];refine Yt (own:=fun d=>Nat.beq d 30006) tOk fe55.ok (by simp only[ZH,frzG,Vn,ZX];rfl) rfl ?_;refine Wp.seq ?_;unfold XE;have x2:=Z8 ro 0;have x4:=XY ((ZD ag).length:Int) 0;have x5:=VP ((ZD ag).length:Int) 0;have x6:=XY ((Za te).length:Int) 0;have x7:=VP ((Za te).length:Int) 12;generalize decide (ro=0)=x2v at x2 ⊢;generalize decide ((0:Int)≤  ((ZD ag).length:Int))=x4v at x4 ⊢;generalize decide (((ZD ag).length:Int)≤0)=x5v at x5 ⊢;generalize decide ((0:Int)≤  ((Za te).length:Int))=x6v at x6 ⊢;generalize decide (((Za te).length:Int)≤12)=x7v at x7 ⊢;rcases ff5 x2v x4v x5v x6v x7v with rfl|⟨rfl,rfl⟩|⟨rfl,rfl,rfl⟩|⟨rfl,rfl,rfl,rfl⟩|⟨rfl,rfl,rfl,rfl,rfl⟩|⟨rfl,rfl,rfl,rfl,rfl⟩;all_goals
  repeat' first|refine Jk ?_|refine Kg ?_|refine Jd (hsh _) ?_|refine Km ?_|refine Jh ?_|refine Kj ?_|fail
  all_goals rfl
theorem ZrC (nu ro go:Int) (an tn:Bool) (ag:List ZY) (te:List Tm):∀H,CO 55 [.agg [.int .i64 6,.int .i64 nu,.int .i64 ro,slV an 1 (ZD ag),.int .i64 go,slV tn 4 (Za te)]] H (.bool (XE false false false 1 1 0 0 nu ro go ag.length te.length)) H:=by
 have hsh:=WG;unfold shC at hsh;rw[show(ag.length:Int)=((ZD ag).length:Int) by rw[ZC],show(te.length:Int)=((Za te).length:Int) by rw[Zb]];refine Yt (own:=fun d=>Nat.beq d 30006) tOk fe55.ok (by simp only[ZH,frzG,Vn,ZX];rfl) rfl ?_;refine Wp.seq ?_;unfold XE;have x1:=Z8 nu 0;have x2:=Z8 ro 0;have x3:=Z8 go 0;have x4:=XY ((ZD ag).length:Int) 1;have x5:=VP ((ZD ag).length:Int) 1;have x6:=XY ((Za te).length:Int) 0;have x7:=VP ((Za te).length:Int) 0;generalize decide (nu=0)=x1v at x1 ⊢;generalize decide (ro=0)=x2v at x2 ⊢;generalize decide (go=0)=x3v at x3 ⊢;generalize decide ((1:Int)≤  ((ZD ag).length:Int))=x4v at x4 ⊢;generalize decide (((ZD ag).length:Int)≤1)=x5v at x5 ⊢;generalize decide ((0:Int)≤  ((Za te).length:Int))=x6v at x6 ⊢;generalize decide (((Za te).length:Int)≤0)=x7v at x7 ⊢;rcases ff7 x1v x2v x3v x4v x5v x6v x7v with rfl|⟨rfl,rfl⟩|⟨rfl,rfl,rfl⟩|⟨rfl,rfl,rfl,rfl⟩|⟨rfl,rfl,rfl,rfl,rfl⟩|⟨rfl,rfl,rfl,rfl,rfl,rfl⟩|⟨rfl,rfl,rfl,rfl,rfl,rfl,rfl⟩|⟨rfl,rfl,rfl,rfl,rfl,rfl,rfl⟩;all_goals
  repeat' first|refine Jk ?_|refine Kg ?_|refine Jd (hsh _) ?_|refine Km ?_|refine Jh ?_|refine Kj ?_|fail
  all_goals rfl
theorem ZrV (nu ro go:Int) (an tn:Bool) (ag:List ZY) (te:List Tm):∀H,CO 55 [.agg [.int .i64 7,.int .i64 nu,.int .i64 ro,slV an 1 (ZD ag),.int .i64 go,slV tn 4 (Za te)]] H (.bool (XE true false false 0 0 0 0 nu ro go ag.length te.length)) H:=by
 have hsh:=WG;unfold shC at hsh;rw[show(ag.length:Int)=((ZD ag).length:Int) by rw[ZC],show(te.length:Int)=((Za te).length:Int) by rw[Zb]];refine Yt (own:=fun d=>Nat.beq d 30006) tOk fe55.ok (by simp only[ZH,frzG,Vn,ZX];rfl) rfl ?_;refine Wp.seq ?_;unfold XE;have x2:=Z8 ro 0;have x3:=Z8 go 0;have x4:=XY ((ZD ag).length:Int) 0;have x5:=VP ((ZD ag).length:Int) 0;have x6:=XY ((Za te).length:Int) 0;have x7:=VP ((Za te).length:Int) 0;generalize decide (ro=0)=x2v at x2 ⊢;generalize decide (go=0)=x3v at x3 ⊢;generalize decide ((0:Int)≤  ((ZD ag).length:Int))=x4v at x4 ⊢;generalize decide (((ZD ag).length:Int)≤0)=x5v at x5 ⊢;generalize decide ((0:Int)≤  ((Za te).length:Int))=x6v at x6 ⊢;generalize decide (((Za te).length:Int)≤0)=x7v at x7 ⊢;rcases ff6 x2v x3v x4v x5v x6v x7v with rfl|⟨rfl,rfl⟩|⟨rfl,rfl,rfl⟩|⟨rfl,rfl,rfl,rfl⟩|⟨rfl,rfl,rfl,rfl,rfl⟩|⟨rfl,rfl,rfl,rfl,rfl,rfl⟩|⟨rfl,rfl,rfl,rfl,rfl,rfl⟩;all_goals
  repeat' first|refine Jk ?_|refine Kg ?_|refine Jd (hsh _) ?_|refine Km ?_|refine Jh ?_|refine Kj ?_|fail
  all_goals rfl
theorem Zsh {kd:Int} (hk:kd<1∨7<kd) (nu ro go:Int) (an tn:Bool) (ag:List ZY) (te:List Tm):∀H,CO 55 [.agg [.int .i64 kd,.int .i64 nu,.int .i64 ro,slV an 1 (ZD ag),.int .i64 go,slV tn 4 (Za te)]] H (.bool false) H:=by
 refine Yt (own:=fun d=>Nat.beq d 30006) tOk fe55.ok (by simp only[ZH,frzG,Vn,ZX];rfl) rfl ?_;refine Wp.seq ?_;have x1:=Zu kd 1;have x2:=Xq kd 7;by_cases h:kd<1
 ·rw[decide_eq_true h]at x1;repeat' first|refine Jk ?_|refine Kg ?_|fail
  all_goals rfl
 ·rw[decide_eq_false h]at x1;rw[decide_eq_true (by omega)]at x2;repeat' first|refine Kg ?_|fail
  all_goals rfl
theorem c55 (m:Mo):∀H,CO 55 [.agg m.cells] H (.bool (Wv m)) H:=by
 obtain⟨kd,nu,ro,an,ag,go,tn,te⟩:=m;simp only[Mo.cells,Wv];split;{rename_i h;exact Zsh h _ _ _ _ _ _ _}
 ·rename_i h;by_cases h1:kd=1;{subst h1;exact ZqX _ _ _ _ _ _ _};rw[if_neg h1];by_cases h1:kd=2;{subst h1;exact Zq5 _ _ _ _ _ _ _};rw[if_neg h1];by_cases h1:kd=3;{subst h1;exact Zq6 _ _ _ _ _ _ _};rw[if_neg h1];by_cases h1:kd=4;{subst h1;exact Zs3 _ _ _ _ _ _ _};rw[if_neg h1];by_cases h1:kd=5;{subst h1;exact ZsE _ _ _ _ _ _ _};rw[if_neg h1];by_cases h1:kd=6;{subst h1;exact ZrC _ _ _ _ _ _ _};rw[if_neg h1];have h1:kd=7:=by omega
  subst h1;exact ZrV _ _ _ _ _ _ _
end Go.Vm.Seat
namespace Go.Proofs
open Go.Shelf
def Tryz.sortTm_ren:Go.Shelf.Ren:=⟨fun|6=>34|15=>73|14=>72|28=>112|29=>113|20=>104|21=>105|22=>106|23=>107|24=>108|25=>109|26=>110|27=>111|46=>148|47=>149|48=>150|49=>151|50=>152|57=>182|n=>n,fun|22=>30|24=>39|25=>72|3=>3|39=>110|0=>0|53=>142|55=>144|4=>4|46=>136|45=>135|50=>127|5=>5|9=>9|66=>164|70=>90|76=>190|77=>191|n=>n,fun|n=>n⟩
theorem Tryz.sortTm:Go.Proofs.SlLaysF0.n6 Tryz.prog Tryz.sortTm_ren:={
 mixed:=by kernel_rfl
 f6:=⟨Tryz.f34.name,by decide,Tryz.func34.trans (congrArg some (by kernel_rfl))⟩
 f14:=⟨Tryz.f72.name,by decide,Tryz.func72.trans (congrArg some (by kernel_rfl))⟩
 f15:=Tryz.func73.trans (congrArg some (by kernel_rfl))
 f20:=⟨Tryz.f104.name,by decide,Tryz.func104.trans (congrArg some (by kernel_rfl))⟩
 f21:=⟨Tryz.f105.name,by decide,Tryz.func105.trans (congrArg some (by kernel_rfl))⟩
 f22:=⟨Tryz.f106.name,by decide,Tryz.func106.trans (congrArg some (by kernel_rfl))⟩
 f23:=⟨Tryz.f107.name,by decide,Tryz.func107.trans (congrArg some (by kernel_rfl))⟩
 f24:=⟨Tryz.f108.name,by decide,Tryz.func108.trans (congrArg some (by kernel_rfl))⟩
 f25:=⟨Tryz.f109.name,by decide,Tryz.func109.trans (congrArg some (by kernel_rfl))⟩
 f26:=⟨Tryz.f110.name,by decide,Tryz.func110.trans (congrArg some (by kernel_rfl))⟩
 f27:=⟨Tryz.f111.name,by decide,Tryz.func111.trans (congrArg some (by kernel_rfl))⟩
 f28:=Tryz.func112.trans (congrArg some (by kernel_rfl))
 f29:=Tryz.func113.trans (congrArg some (by kernel_rfl))
 f46:=⟨Tryz.f148.name,by decide,Tryz.func148.trans (congrArg some (by kernel_rfl))⟩
 f47:=Tryz.func149.trans (congrArg some (by kernel_rfl))
 f48:=Tryz.func150.trans (congrArg some (by kernel_rfl))
 f49:=⟨Tryz.f151.name,by decide,Tryz.func151.trans (congrArg some (by kernel_rfl))⟩
 f50:=⟨Tryz.f152.name,by decide,Tryz.func152.trans (congrArg some (by kernel_rfl))⟩
 f57:=⟨Tryz.f182.name,by decide,Tryz.func182.trans (congrArg some (by kernel_rfl))⟩
 t0:=Tryz.underlying0
 a0:=Tryz.isAgg0
 z0:=Tryz.sizeOf0
 v0:=Tryz.zeroValue0
 t3:=Tryz.underlying3
 a3:=Tryz.isAgg3
 z3:=Tryz.sizeOf3
 v3:=Tryz.zeroValue3
 t4:=Tryz.underlying4
 a4:=Tryz.isAgg4
 z4:=Tryz.sizeOf4
 v4:=Tryz.zeroValue4
 t5:=Tryz.underlying5
 a5:=Tryz.isAgg5
 z5:=Tryz.sizeOf5
 v5:=Tryz.zeroValue5
 t9:=Tryz.underlying9
 a9:=Tryz.isAgg9
 z9:=Tryz.sizeOf9
 v9:=Tryz.zeroValue9
 t22:=Tryz.underlying30
 a22:=Tryz.isAgg30
 z22:=Tryz.sizeOf30
 v22:=Tryz.zeroValue30
 t25:=Tryz.underlying72
 a25:=Tryz.isAgg72
 z25:=Tryz.sizeOf72
 v25:=Tryz.zeroValue72
 t39:=Tryz.underlying110
 a39:=Tryz.isAgg110
 z39:=Tryz.sizeOf110
 v39:=Tryz.zeroValue110
 t45:=Tryz.underlying135
 a45:=Tryz.isAgg135
 z45:=Tryz.sizeOf135
 v45:=Tryz.zeroValue135
 t46:=Tryz.underlying136
 a46:=Tryz.isAgg136
 z46:=Tryz.sizeOf136
 v46:=Tryz.zeroValue136
 t50:=Tryz.underlying127
 a50:=Tryz.isAgg127
 z50:=Tryz.sizeOf127
 v50:=Tryz.zeroValue127
 t53:=Tryz.underlying142
 a53:=Tryz.isAgg142
 z53:=Tryz.sizeOf142
 v53:=Tryz.zeroValue142
 t55:=Tryz.underlying144
 a55:=Tryz.isAgg144
 z55:=Tryz.sizeOf144
 v55:=Tryz.zeroValue144
 t66:=Tryz.underlying164
 a66:=Tryz.isAgg164
 z66:=Tryz.sizeOf164
 v66:=Tryz.zeroValue164
 t70:=Tryz.underlying90
 a70:=Tryz.isAgg90
 z70:=Tryz.sizeOf90
 v70:=Tryz.zeroValue90
 t76:=Tryz.underlying190
 a76:=Tryz.isAgg190
 z76:=Tryz.sizeOf190
 v76:=Tryz.zeroValue190
 t77:=Tryz.underlying191
 a77:=Tryz.isAgg191
 z77:=Tryz.sizeOf191
 v77:=Tryz.zeroValue191}
