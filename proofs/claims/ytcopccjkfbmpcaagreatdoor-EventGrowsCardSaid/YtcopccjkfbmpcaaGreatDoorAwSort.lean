/-
  What the shelf knows of slices.SortFunc at this program's terms.
-/
import Derived.Test.YtcopccjkfbmpcaaGreatDoorOu
import Derived.Test.YtcopccjkfbmpcaaGreatDoorProg
set_option maxHeartbeats 0
set_option maxRecDepth 100000
namespace Go.Vm
def Wa (s:Bs):Bool:=decide ((Tm.mk 2 s 0 true []).valid=0)
def ixN:List Bs→Nat→Int
 | [],_=> -1
 |s::r,i=>if Wa s=false then (i:Int) else ixN r (i+1)
theorem Zji:∀ (l:List Bs) (i:Nat),decide (0≤ixN l i)=l.any fun s=> !Wa s
 | [],i=>by simp [ixN]
 | s :: r, i => by
   have e:ixN (s::r) i=if Wa s=false then (i:Int) else ixN r (i+1):=rfl
   have ih:=Zji r (i+1)
   by_cases h:Wa s=false
   · rw [if_pos h] at e
     rw [e,List.any_cons,h]
     simp
   · rw [if_neg h] at e
     rw [e,List.any_cons,ih,show Wa s=true by simpa using h]
     rfl
theorem Zk7 {l:List Bs} {i:Nat} {a:Bs} (h:l[i]? = some a):ixN (l.drop i) i=if Wa a=false then (i:Int) else ixN (l.drop (i+1)) (i+1):=by
 rw [Zy h];rfl
end Go.Vm
namespace Go.Vm.Seat
variable {s:Bs} {l:List Bs}
open Go.Proofs
theorem Zi3 (s:Bs) (hs:s.length≤maxLen):(Tm.mk 2 s 0 true []).Ok:= .mk (by decide) (by decide) hs (by decide) fun t ht=>by simp at ht
theorem ZvK (hs:s.length≤maxLen):∀ H,CallOk E0 Tryz.prog 115 [.str s] H (.bool (Wa s)) H:=by
 have hV:=c46 (Zi3 s hs) (by simp [Tm.size,Zl])
 unfold Wa
 generalize (Tm.mk 2 s 0 true []).valid=v at hV ⊢
 rw [show (Tm.mk 2 s 0 true []).cells= [.int .i64 2,.str s,.int .i64 0,.nils] by simp only [Tm.cells,Za,Zg]] at hV
 by_cases h:v=0
 · subst h
   refine Jw tOk fe115.ok rfl ?_
   repeat' first|refine Jc (hV _) ?_|refine Jt ?_|refine Jo ?_|fail
   all_goals rfl
 · rw [decide_eq_false h]
   have heq:=Zp5 h
   refine Jw tOk fe115.ok rfl ?_
   repeat' first|refine Jc (hV _) ?_|refine Ji ?_|refine Jt ?_|refine Jo ?_|fail
   all_goals rfl
theorem Zu9 (hs:s.length≤maxLen):∀ H,CallOk E0 Tryz.prog 114 [.str s] H (.bool (!Wa s)) H:=by
 have hc:=ZvK hs
 generalize Wa s=B at hc ⊢
 cases B
 all_goals
  refine Jw tOk fe114.ok rfl ?_
  repeat' first|refine Jc (hc _) ?_|refine Jt ?_|refine Jo ?_|fail
  all_goals rfl
theorem Zu5 (hl:∀ s,s∈l→s.length≤maxLen) (hlen:l.length≤100000) (b:Bool):∀ H,CallOk E0 Tryz.prog 139 [slV b 1 (Zp l),.fn 114 []] H (.int .i64 (ixN l 0)) H:=by
 have hsl:=ZI l
 refine Jw tOk fe139.ok rfl ?_
 repeat' first|refine Jl ?_|refine Jo ?_|fail
 refine Wp.while (fun m tm H=>∃ (i:Nat) (base:TM),i+m=l.length∧ixN l 0=ixN (l.drop i) i∧tm=ovr base [(0,slV b 1 (Zp l)),(1,.fn 114 []),(7,.int .i64 (l.length:Int)),(8,.int .i64 (i:Int))]∧H=⟨[],0,[],0⟩)
  (fun m tm H hI=>?_) l.length _ _ ⟨0,_,by omega,by simp,Zf ⟨rfl,rfl,Ze (by rw [hsl]),rfl,trivial⟩,rfl⟩
 obtain ⟨i,base,hi,hgo,rfl,rfl⟩:=hI
 rw [hgo]
 by_cases hlt:i<l.length
 · obtain ⟨a, ha⟩ : ∃ a, l[i]? = some a := ⟨l[i], by simp⟩
   have hj:=ZZ ha
   have hc:=Zu9 (hl a (List.mem_of_getElem? ha))
   have hlx:=Zq (i:Int) (l.length:Int)
   rw [decide_eq_true (by omega)] at hlx
   rw [Zk7 ha]
   by_cases hd:Wa a=false
   · rw [if_pos hd]
     rw [hd] at hc
     have hc:∀ H,CallOk E0 Tryz.prog 114 [.str a] H (.bool true) H:=hc
     repeat' first|refine Jc (hc _) ?_|refine Ji ?_|refine Jx ?_|refine Jo ?_|fail
     all_goals rfl
   · rw [if_neg hd]
     rw [show Wa a=true by simpa using hd] at hc
     have hc:∀ H,CallOk E0 Tryz.prog 114 [.str a] H (.bool false) H:=hc
     repeat' first|refine Jc (hc _) ?_|refine Ji ?_|refine Jx ?_|refine Jo ?_|fail
     exact LoopI.go (m-1) (by omega) ⟨i+1,_,by omega,rfl,Zf ⟨rfl,rfl,rfl,Ze (Zd (n:=i+1) (by omega)),trivial⟩,rfl⟩
 · have e : i = l.length := by omega
   subst e
   have hlx:=Zq (l.length:Int) (l.length:Int)
   rw [decide_eq_false (by omega)] at hlx
   rw [List.drop_length]
   repeat' first|refine Ji ?_|refine Jo ?_|fail
   all_goals rfl
theorem ZvR (hl:∀ s,s∈l→s.length≤maxLen) (hlen:l.length≤100000) (b:Bool):∀ H,CallOk E0 Tryz.prog 113 [slV b 1 (Zp l),.fn 114 []] H (.bool (l.any fun s=> !Wa s)) H:=by
 have hc:=Zu5 hl hlen b
 rw [← Zji l 0]
 have hge:=Y0 (ixN l 0) 0
 generalize ixN l 0=x at hc hge ⊢
 generalize decide (0≤x)=A at hge ⊢
 refine Jw tOk fe113.ok rfl ?_
 cases A
 all_goals
  repeat' first|refine Jc (hc _) ?_|refine Ji ?_|refine Jt ?_|refine Jo ?_|fail
  all_goals rfl
end Go.Vm.Seat
namespace Go.Vm
def X7 (num role goal:Bool) (la ma lt mt nu ro go a t:Int):Bool:=(num||decide (nu=0))&&((role||decide (ro=0))&&((goal||decide (go=0))&&(decide (la≤a)&&(decide (a≤ma)&&(decide (lt≤t)&&decide (t≤mt))))))
def ZcG (m:Mo):Bool:=if m.kind<1∨7<m.kind then false else
 if m.kind=1 then X7 true true false 2 4 0 0 m.num m.role m.goal m.agents.length m.terms.length else
 if m.kind=2 then X7 true false false 0 0 1 1 m.num m.role m.goal m.agents.length m.terms.length else
 if m.kind=3 then X7 true false false 0 0 1 1 m.num m.role m.goal m.agents.length m.terms.length else
 if m.kind=4 then X7 true false true 0 0 0 12 m.num m.role m.goal m.agents.length m.terms.length else
 if m.kind=5 then X7 true false true 0 0 0 12 m.num m.role m.goal m.agents.length m.terms.length else
 if m.kind=6 then X7 false false false 1 1 0 0 m.num m.role m.goal m.agents.length m.terms.length else
 X7 true false false 0 0 0 0 m.num m.role m.goal m.agents.length m.terms.length
theorem ff5 (b0 b1 b2 b3 b4:Bool):(b0=false)∨(b0=true∧b1=false)∨(b0=true∧b1=true∧b2=false)∨(b0=true∧b1=true∧b2=true∧b3=false)∨(b0=true∧b1=true∧b2=true∧b3=true∧b4=false)∨(b0=true∧b1=true∧b2=true∧b3=true∧b4=true):=by
 cases b0<;>cases b1<;>cases b2<;>cases b3<;>cases b4<;>simp
theorem ff6 (b0 b1 b2 b3 b4 b5:Bool):(b0=false)∨(b0=true∧b1=false)∨(b0=true∧b1=true∧b2=false)∨(b0=true∧b1=true∧b2=true∧b3=false)∨(b0=true∧b1=true∧b2=true∧b3=true∧b4=false)∨(b0=true∧b1=true∧b2=true∧b3=true∧b4=true∧b5=false)∨(b0=true∧b1=true∧b2=true∧b3=true∧b4=true∧b5=true):=by
 cases b0<;>cases b1<;>cases b2<;>cases b3<;>cases b4<;>cases b5<;>simp
theorem ff7 (b0 b1 b2 b3 b4 b5 b6:Bool):(b0=false)∨(b0=true∧b1=false)∨(b0=true∧b1=true∧b2=false)∨(b0=true∧b1=true∧b2=true∧b3=false)∨(b0=true∧b1=true∧b2=true∧b3=true∧b4=false)∨(b0=true∧b1=true∧b2=true∧b3=true∧b4=true∧b5=false)∨(b0=true∧b1=true∧b2=true∧b3=true∧b4=true∧b5=true∧b6=false)∨(b0=true∧b1=true∧b2=true∧b3=true∧b4=true∧b5=true∧b6=true):=by
 cases b0<;>cases b1<;>cases b2<;>cases b3<;>cases b4<;>cases b5<;>cases b6<;>simp
end Go.Vm
namespace Go.Vm.Seat
open Go.Proofs
def shC:List (List PV):=[[.str [],.bool false,.bool false,.bool false,.int .i64 0,.int .i64 0,.int .i64 0,.int .i64 0],[.str [115,116,97,114,116],.bool true,.bool true,.bool false,.int .i64 2,.int .i64 4,.int .i64 0,.int .i64 0],[.str [114,101,99,101,105,118,101],.bool true,.bool false,.bool false,.int .i64 0,.int .i64 0,.int .i64 1,.int .i64 1],[.str [115,101,110,100],.bool true,.bool false,.bool false,.int .i64 0,.int .i64 0,.int .i64 1,.int .i64 1],[.str [98,101,103,105,110],.bool true,.bool false,.bool true,.int .i64 0,.int .i64 0,.int .i64 0,.int .i64 12],[.str [99,108,97,105,109],.bool true,.bool false,.bool true,.int .i64 0,.int .i64 0,.int .i64 0,.int .i64 12],[.str [114,101,118,101,97,108],.bool false,.bool false,.bool false,.int .i64 1,.int .i64 1,.int .i64 0,.int .i64 0],[.str [116,105,109,101,111,117,116],.bool true,.bool false,.bool false,.int .i64 0,.int .i64 0,.int .i64 0,.int .i64 0]]
theorem Zwk:XY E0 100 60 ⟨71,[],.sl .none 8 shC⟩=true:=by kernel_rfl
theorem WU:∀ H,CallOk E0 Tryz.prog 71 [] H (.sl .none 8 shC) H:=Ys tOk follows fOk zOk Zwk
theorem Vg (a b:Int):Xo E0 .leq 3 (.int .i64 a) (.int .i64 b)=some (.bool (decide (a≤b))):=rfl
theorem Zs2 (nu ro go:Int) (an tn:Bool) (ag:List ZgH) (te:List Tm):∀ H,CallOk E0 Tryz.prog 112 [.agg [.int .i64 1,.int .i64 nu,.int .i64 ro,slV an 1 (Zp ag),.int .i64 go,slV tn 4 (Za te)]] H (.bool (X7 true true false 2 4 0 0 nu ro go ag.length te.length)) H:=by
 have hsh:=WU
 unfold shC at hsh
 rw [show (ag.length:Int)=((Zp ag).length:Int) by rw [ZI],show (te.length:Int)=((Za te).length:Int) by rw [Zb]]
 refine ZH (own:=fun d=>Nat.beq d 30006) tOk fe112.ok (by simp only [Zx,frzG,XM,ZE];rfl) rfl ?_
 refine Wp.seq ?_
 unfold X7
 have x3:=Z6 go 0
 have x4:=Y0 ((Zp ag).length:Int) 2
 have x5:=Vg ((Zp ag).length:Int) 4
 have x6:=Y0 ((Za te).length:Int) 0
 have x7:=Vg ((Za te).length:Int) 0
 generalize decide (go=0)=x3v at x3 ⊢
 generalize decide ((2:Int)≤  ((Zp ag).length:Int))=x4v at x4 ⊢
 generalize decide (((Zp ag).length:Int)≤4)=x5v at x5 ⊢
 generalize decide ((0:Int)≤  ((Za te).length:Int))=x6v at x6 ⊢
 generalize decide (((Za te).length:Int)≤0)=x7v at x7 ⊢
 rcases ff5 x3v x4v x5v x6v x7v with rfl|⟨rfl,rfl⟩|⟨rfl,rfl,rfl⟩|⟨rfl,rfl,rfl,rfl⟩|⟨rfl,rfl,rfl,rfl,rfl⟩|⟨rfl,rfl,rfl,rfl,rfl⟩
 all_goals
  repeat' first|refine Jk ?_|refine Ji ?_|refine Jt ?_|refine Jo ?_|refine Jd (hsh _) ?_|(apply dAl;rfl;rfl;rfl;rfl;exact IsV.ptrM;exact IsH.mkN)|(apply dLn;rfl;rfl;rfl;rfl;rfl)|refine Jh ?_|(apply dWS tOk follows;rfl;kernel_rfl;rfl)|(apply dWB tOk follows;rfl;kernel_rfl;rfl;exact IsH.mkN)|fail
  all_goals rfl
theorem ZrO (nu ro go:Int) (an tn:Bool) (ag:List ZgH) (te:List Tm):∀ H,CallOk E0 Tryz.prog 112 [.agg [.int .i64 2,.int .i64 nu,.int .i64 ro,slV an 1 (Zp ag),.int .i64 go,slV tn 4 (Za te)]] H (.bool (X7 true false false 0 0 1 1 nu ro go ag.length te.length)) H:=by
 have hsh:=WU
 unfold shC at hsh
 rw [show (ag.length:Int)=((Zp ag).length:Int) by rw [ZI],show (te.length:Int)=((Za te).length:Int) by rw [Zb]]
 refine ZH (own:=fun d=>Nat.beq d 30006) tOk fe112.ok (by simp only [Zx,frzG,XM,ZE];rfl) rfl ?_
 refine Wp.seq ?_
 unfold X7
 have x2:=Z6 ro 0
 have x3:=Z6 go 0
 have x4:=Y0 ((Zp ag).length:Int) 0
 have x5:=Vg ((Zp ag).length:Int) 0
 have x6:=Y0 ((Za te).length:Int) 1
 have x7:=Vg ((Za te).length:Int) 1
 generalize decide (ro=0)=x2v at x2 ⊢
 generalize decide (go=0)=x3v at x3 ⊢
 generalize decide ((0:Int)≤  ((Zp ag).length:Int))=x4v at x4 ⊢
 generalize decide (((Zp ag).length:Int)≤0)=x5v at x5 ⊢
 generalize decide ((1:Int)≤  ((Za te).length:Int))=x6v at x6 ⊢
 generalize decide (((Za te).length:Int)≤1)=x7v at x7 ⊢
 rcases ff6 x2v x3v x4v x5v x6v x7v with rfl|⟨rfl,rfl⟩|⟨rfl,rfl,rfl⟩|⟨rfl,rfl,rfl,rfl⟩|⟨rfl,rfl,rfl,rfl,rfl⟩|⟨rfl,rfl,rfl,rfl,rfl,rfl⟩|⟨rfl,rfl,rfl,rfl,rfl,rfl⟩
 all_goals
  repeat' first|refine Jk ?_|refine Ji ?_|refine Jt ?_|refine Jo ?_|refine Jd (hsh _) ?_|(apply dAl;rfl;rfl;rfl;rfl;exact IsV.ptrM;exact IsH.mkN)|(apply dLn;rfl;rfl;rfl;rfl;rfl)|refine Jh ?_|(apply dWS tOk follows;rfl;kernel_rfl;rfl)|(apply dWB tOk follows;rfl;kernel_rfl;rfl;exact IsH.mkN)|fail
  all_goals rfl
theorem ZsX (nu ro go:Int) (an tn:Bool) (ag:List ZgH) (te:List Tm):∀ H,CallOk E0 Tryz.prog 112 [.agg [.int .i64 3,.int .i64 nu,.int .i64 ro,slV an 1 (Zp ag),.int .i64 go,slV tn 4 (Za te)]] H (.bool (X7 true false false 0 0 1 1 nu ro go ag.length te.length)) H:=by
 have hsh:=WU
 unfold shC at hsh
 rw [show (ag.length:Int)=((Zp ag).length:Int) by rw [ZI],show (te.length:Int)=((Za te).length:Int) by rw [Zb]]
 refine ZH (own:=fun d=>Nat.beq d 30006) tOk fe112.ok (by simp only [Zx,frzG,XM,ZE];rfl) rfl ?_
 refine Wp.seq ?_
 unfold X7
 have x2:=Z6 ro 0
 have x3:=Z6 go 0
 have x4:=Y0 ((Zp ag).length:Int) 0
 have x5:=Vg ((Zp ag).length:Int) 0
 have x6:=Y0 ((Za te).length:Int) 1
 have x7:=Vg ((Za te).length:Int) 1
 generalize decide (ro=0)=x2v at x2 ⊢
 generalize decide (go=0)=x3v at x3 ⊢
 generalize decide ((0:Int)≤  ((Zp ag).length:Int))=x4v at x4 ⊢
 generalize decide (((Zp ag).length:Int)≤0)=x5v at x5 ⊢
 generalize decide ((1:Int)≤  ((Za te).length:Int))=x6v at x6 ⊢
 generalize decide (((Za te).length:Int)≤1)=x7v at x7 ⊢
 rcases ff6 x2v x3v x4v x5v x6v x7v with rfl|⟨rfl,rfl⟩|⟨rfl,rfl,rfl⟩|⟨rfl,rfl,rfl,rfl⟩|⟨rfl,rfl,rfl,rfl,rfl⟩|⟨rfl,rfl,rfl,rfl,rfl,rfl⟩|⟨rfl,rfl,rfl,rfl,rfl,rfl⟩
 all_goals
  repeat' first|refine Jk ?_|refine Ji ?_|refine Jt ?_|refine Jo ?_|refine Jd (hsh _) ?_|(apply dAl;rfl;rfl;rfl;rfl;exact IsV.ptrM;exact IsH.mkN)|(apply dLn;rfl;rfl;rfl;rfl;rfl)|refine Jh ?_|(apply dWS tOk follows;rfl;kernel_rfl;rfl)|(apply dWB tOk follows;rfl;kernel_rfl;rfl;exact IsH.mkN)|fail
  all_goals rfl
theorem ZsJ (nu ro go:Int) (an tn:Bool) (ag:List ZgH) (te:List Tm):∀ H,CallOk E0 Tryz.prog 112 [.agg [.int .i64 4,.int .i64 nu,.int .i64 ro,slV an 1 (Zp ag),.int .i64 go,slV tn 4 (Za te)]] H (.bool (X7 true false true 0 0 0 12 nu ro go ag.length te.length)) H:=by
 have hsh:=WU
 unfold shC at hsh
 rw [show (ag.length:Int)=((Zp ag).length:Int) by rw [ZI],show (te.length:Int)=((Za te).length:Int) by rw [Zb]]
 refine ZH (own:=fun d=>Nat.beq d 30006) tOk fe112.ok (by simp only [Zx,frzG,XM,ZE];rfl) rfl ?_
 refine Wp.seq ?_
 unfold X7
 have x2:=Z6 ro 0
 have x4:=Y0 ((Zp ag).length:Int) 0
 have x5:=Vg ((Zp ag).length:Int) 0
 have x6:=Y0 ((Za te).length:Int) 0
 have x7:=Vg ((Za te).length:Int) 12
 generalize decide (ro=0)=x2v at x2 ⊢
 generalize decide ((0:Int)≤  ((Zp ag).length:Int))=x4v at x4 ⊢
 generalize decide (((Zp ag).length:Int)≤0)=x5v at x5 ⊢
 generalize decide ((0:Int)≤  ((Za te).length:Int))=x6v at x6 ⊢
 generalize decide (((Za te).length:Int)≤12)=x7v at x7 ⊢
 rcases ff5 x2v x4v x5v x6v x7v with rfl|⟨rfl,rfl⟩|⟨rfl,rfl,rfl⟩|⟨rfl,rfl,rfl,rfl⟩|⟨rfl,rfl,rfl,rfl,rfl⟩|⟨rfl,rfl,rfl,rfl,rfl⟩
 all_goals
  repeat' first|refine Jk ?_|refine Ji ?_|refine Jt ?_|refine Jo ?_|refine Jd (hsh _) ?_|(apply dAl;rfl;rfl;rfl;rfl;exact IsV.ptrM;exact IsH.mkN)|(apply dLn;rfl;rfl;rfl;rfl;rfl)|refine Jh ?_|(apply dWS tOk follows;rfl;kernel_rfl;rfl)|(apply dWB tOk follows;rfl;kernel_rfl;rfl;exact IsH.mkN)|fail
  all_goals rfl
theorem Zs8 (nu ro go:Int) (an tn:Bool) (ag:List ZgH) (te:List Tm):∀ H,CallOk E0 Tryz.prog 112 [.agg [.int .i64 5,.int .i64 nu,.int .i64 ro,slV an 1 (Zp ag),.int .i64 go,slV tn 4 (Za te)]] H (.bool (X7 true false true 0 0 0 12 nu ro go ag.length te.length)) H:=by
 have hsh:=WU
 unfold shC at hsh
 rw [show (ag.length:Int)=((Zp ag).length:Int) by rw [ZI],show (te.length:Int)=((Za te).length:Int) by rw [Zb]]
 refine ZH (own:=fun d=>Nat.beq d 30006) tOk fe112.ok (by simp only [Zx,frzG,XM,ZE];rfl) rfl ?_
 refine Wp.seq ?_
 unfold X7
 have x2:=Z6 ro 0
 have x4:=Y0 ((Zp ag).length:Int) 0
 have x5:=Vg ((Zp ag).length:Int) 0
 have x6:=Y0 ((Za te).length:Int) 0
 have x7:=Vg ((Za te).length:Int) 12
 generalize decide (ro=0)=x2v at x2 ⊢
 generalize decide ((0:Int)≤  ((Zp ag).length:Int))=x4v at x4 ⊢
 generalize decide (((Zp ag).length:Int)≤0)=x5v at x5 ⊢
 generalize decide ((0:Int)≤  ((Za te).length:Int))=x6v at x6 ⊢
 generalize decide (((Za te).length:Int)≤12)=x7v at x7 ⊢
 rcases ff5 x2v x4v x5v x6v x7v with rfl|⟨rfl,rfl⟩|⟨rfl,rfl,rfl⟩|⟨rfl,rfl,rfl,rfl⟩|⟨rfl,rfl,rfl,rfl,rfl⟩|⟨rfl,rfl,rfl,rfl,rfl⟩
 all_goals
  repeat' first|refine Jk ?_|refine Ji ?_|refine Jt ?_|refine Jo ?_|refine Jd (hsh _) ?_|(apply dAl;rfl;rfl;rfl;rfl;exact IsV.ptrM;exact IsH.mkN)|(apply dLn;rfl;rfl;rfl;rfl;rfl)|refine Jh ?_|(apply dWS tOk follows;rfl;kernel_rfl;rfl)|(apply dWB tOk follows;rfl;kernel_rfl;rfl;exact IsH.mkN)|fail
  all_goals rfl
theorem Zs9 (nu ro go:Int) (an tn:Bool) (ag:List ZgH) (te:List Tm):∀ H,CallOk E0 Tryz.prog 112 [.agg [.int .i64 6,.int .i64 nu,.int .i64 ro,slV an 1 (Zp ag),.int .i64 go,slV tn 4 (Za te)]] H (.bool (X7 false false false 1 1 0 0 nu ro go ag.length te.length)) H:=by
 have hsh:=WU
 unfold shC at hsh
 rw [show (ag.length:Int)=((Zp ag).length:Int) by rw [ZI],show (te.length:Int)=((Za te).length:Int) by rw [Zb]]
 refine ZH (own:=fun d=>Nat.beq d 30006) tOk fe112.ok (by simp only [Zx,frzG,XM,ZE];rfl) rfl ?_
 refine Wp.seq ?_
 unfold X7
 have x1:=Z6 nu 0
 have x2:=Z6 ro 0
 have x3:=Z6 go 0
 have x4:=Y0 ((Zp ag).length:Int) 1
 have x5:=Vg ((Zp ag).length:Int) 1
 have x6:=Y0 ((Za te).length:Int) 0
 have x7:=Vg ((Za te).length:Int) 0
 generalize decide (nu=0)=x1v at x1 ⊢
 generalize decide (ro=0)=x2v at x2 ⊢
 generalize decide (go=0)=x3v at x3 ⊢
 generalize decide ((1:Int)≤  ((Zp ag).length:Int))=x4v at x4 ⊢
 generalize decide (((Zp ag).length:Int)≤1)=x5v at x5 ⊢
 generalize decide ((0:Int)≤  ((Za te).length:Int))=x6v at x6 ⊢
 generalize decide (((Za te).length:Int)≤0)=x7v at x7 ⊢
 rcases ff7 x1v x2v x3v x4v x5v x6v x7v with rfl|⟨rfl,rfl⟩|⟨rfl,rfl,rfl⟩|⟨rfl,rfl,rfl,rfl⟩|⟨rfl,rfl,rfl,rfl,rfl⟩|⟨rfl,rfl,rfl,rfl,rfl,rfl⟩|⟨rfl,rfl,rfl,rfl,rfl,rfl,rfl⟩|⟨rfl,rfl,rfl,rfl,rfl,rfl,rfl⟩
 all_goals
  repeat' first|refine Jk ?_|refine Ji ?_|refine Jt ?_|refine Jo ?_|refine Jd (hsh _) ?_|(apply dAl;rfl;rfl;rfl;rfl;exact IsV.ptrM;exact IsH.mkN)|(apply dLn;rfl;rfl;rfl;rfl;rfl)|refine Jh ?_|(apply dWS tOk follows;rfl;kernel_rfl;rfl)|(apply dWB tOk follows;rfl;kernel_rfl;rfl;exact IsH.mkN)|fail
  all_goals rfl
theorem Zs1 (nu ro go:Int) (an tn:Bool) (ag:List ZgH) (te:List Tm):∀ H,CallOk E0 Tryz.prog 112 [.agg [.int .i64 7,.int .i64 nu,.int .i64 ro,slV an 1 (Zp ag),.int .i64 go,slV tn 4 (Za te)]] H (.bool (X7 true false false 0 0 0 0 nu ro go ag.length te.length)) H:=by
 have hsh:=WU
 unfold shC at hsh
 rw [show (ag.length:Int)=((Zp ag).length:Int) by rw [ZI],show (te.length:Int)=((Za te).length:Int) by rw [Zb]]
 refine ZH (own:=fun d=>Nat.beq d 30006) tOk fe112.ok (by simp only [Zx,frzG,XM,ZE];rfl) rfl ?_
 refine Wp.seq ?_
 unfold X7
 have x2:=Z6 ro 0
 have x3:=Z6 go 0
 have x4:=Y0 ((Zp ag).length:Int) 0
 have x5:=Vg ((Zp ag).length:Int) 0
 have x6:=Y0 ((Za te).length:Int) 0
 have x7:=Vg ((Za te).length:Int) 0
 generalize decide (ro=0)=x2v at x2 ⊢
 generalize decide (go=0)=x3v at x3 ⊢
 generalize decide ((0:Int)≤  ((Zp ag).length:Int))=x4v at x4 ⊢
 generalize decide (((Zp ag).length:Int)≤0)=x5v at x5 ⊢
 generalize decide ((0:Int)≤  ((Za te).length:Int))=x6v at x6 ⊢
 generalize decide (((Za te).length:Int)≤0)=x7v at x7 ⊢
 rcases ff6 x2v x3v x4v x5v x6v x7v with rfl|⟨rfl,rfl⟩|⟨rfl,rfl,rfl⟩|⟨rfl,rfl,rfl,rfl⟩|⟨rfl,rfl,rfl,rfl,rfl⟩|⟨rfl,rfl,rfl,rfl,rfl,rfl⟩|⟨rfl,rfl,rfl,rfl,rfl,rfl⟩
 all_goals
  repeat' first|refine Jk ?_|refine Ji ?_|refine Jt ?_|refine Jo ?_|refine Jd (hsh _) ?_|(apply dAl;rfl;rfl;rfl;rfl;exact IsV.ptrM;exact IsH.mkN)|(apply dLn;rfl;rfl;rfl;rfl;rfl)|refine Jh ?_|(apply dWS tOk follows;rfl;kernel_rfl;rfl)|(apply dWB tOk follows;rfl;kernel_rfl;rfl;exact IsH.mkN)|fail
  all_goals rfl
theorem Zto {kd:Int} (hk:kd<1∨7<kd) (nu ro go:Int) (an tn:Bool) (ag:List ZgH) (te:List Tm):∀ H,CallOk E0 Tryz.prog 112 [.agg [.int .i64 kd,.int .i64 nu,.int .i64 ro,slV an 1 (Zp ag),.int .i64 go,slV tn 4 (Za te)]] H (.bool false) H:=by
 refine ZH (own:=fun d=>Nat.beq d 30006) tOk fe112.ok (by simp only [Zx,frzG,XM,ZE];rfl) rfl ?_
 refine Wp.seq ?_
 have x1:=Zq kd 1
 have x2:=Xt kd 7
 by_cases h:kd<1
 · rw [decide_eq_true h] at x1
   repeat' first|refine Jk ?_|refine Ji ?_|refine Jt ?_|refine Jo ?_|fail
   all_goals rfl
 · rw [decide_eq_false h] at x1
   rw [decide_eq_true (by omega)] at x2
   repeat' first|refine Ji ?_|refine Jt ?_|refine Jo ?_|fail
   all_goals rfl
theorem ZuG (m:Mo):∀ H,CallOk E0 Tryz.prog 112 [.agg m.cells] H (.bool (ZcG m)) H:=by
 obtain ⟨kd,nu,ro,an,ag,go,tn,te⟩:=m
 simp only [Mo.cells,ZcG]
 split
 · rename_i h;exact Zto h _ _ _ _ _ _ _
 · rename_i h
   by_cases h1:kd=1
   · subst h1;exact Zs2 _ _ _ _ _ _ _
   rw [if_neg h1]
   by_cases h1:kd=2
   · subst h1;exact ZrO _ _ _ _ _ _ _
   rw [if_neg h1]
   by_cases h1:kd=3
   · subst h1;exact ZsX _ _ _ _ _ _ _
   rw [if_neg h1]
   by_cases h1:kd=4
   · subst h1;exact ZsJ _ _ _ _ _ _ _
   rw [if_neg h1]
   by_cases h1:kd=5
   · subst h1;exact Zs8 _ _ _ _ _ _ _
   rw [if_neg h1]
   by_cases h1:kd=6
   · subst h1;exact Zs9 _ _ _ _ _ _ _
   rw [if_neg h1]
   have h1:kd=7:=by omega
   subst h1;exact Zs1 _ _ _ _ _ _ _
end Go.Vm.Seat
namespace Go.Proofs
open Go.Shelf
def Tryz.sortTm_ren:Go.Shelf.Ren:=⟨fun|6=>27|15=>55|14=>54|28=>90|29=>91|20=>82|21=>83|22=>84|23=>85|24=>86|25=>87|26=>88|27=>89|46=>121|47=>122|48=>123|49=>124|50=>125|57=>148|n=>n,fun|22=>29|24=>48|25=>61|3=>3|39=>90|0=>0|53=>122|55=>124|4=>4|46=>115|45=>114|50=>119|5=>5|9=>9|66=>141|70=>111|76=>153|77=>154|n=>n,fun|n=>n⟩
theorem Tryz.sortTm:Go.Proofs.SlLaysF0.n6 Tryz.prog Tryz.sortTm_ren:={
 mixed:=by kernel_rfl
 f6:=⟨Tryz.f27.name,by decide,Tryz.func27.trans (congrArg some (by kernel_rfl))⟩
 f14:=⟨Tryz.f54.name,by decide,Tryz.func54.trans (congrArg some (by kernel_rfl))⟩
 f15:=Tryz.func55.trans (congrArg some (by kernel_rfl))
 f20:=⟨Tryz.f82.name,by decide,Tryz.func82.trans (congrArg some (by kernel_rfl))⟩
 f21:=⟨Tryz.f83.name,by decide,Tryz.func83.trans (congrArg some (by kernel_rfl))⟩
 f22:=⟨Tryz.f84.name,by decide,Tryz.func84.trans (congrArg some (by kernel_rfl))⟩
 f23:=⟨Tryz.f85.name,by decide,Tryz.func85.trans (congrArg some (by kernel_rfl))⟩
 f24:=⟨Tryz.f86.name,by decide,Tryz.func86.trans (congrArg some (by kernel_rfl))⟩
 f25:=⟨Tryz.f87.name,by decide,Tryz.func87.trans (congrArg some (by kernel_rfl))⟩
 f26:=⟨Tryz.f88.name,by decide,Tryz.func88.trans (congrArg some (by kernel_rfl))⟩
 f27:=⟨Tryz.f89.name,by decide,Tryz.func89.trans (congrArg some (by kernel_rfl))⟩
 f28:=Tryz.func90.trans (congrArg some (by kernel_rfl))
 f29:=Tryz.func91.trans (congrArg some (by kernel_rfl))
 f46:=⟨Tryz.f121.name,by decide,Tryz.func121.trans (congrArg some (by kernel_rfl))⟩
 f47:=Tryz.func122.trans (congrArg some (by kernel_rfl))
 f48:=Tryz.func123.trans (congrArg some (by kernel_rfl))
 f49:=⟨Tryz.f124.name,by decide,Tryz.func124.trans (congrArg some (by kernel_rfl))⟩
 f50:=⟨Tryz.f125.name,by decide,Tryz.func125.trans (congrArg some (by kernel_rfl))⟩
 f57:=⟨Tryz.f148.name,by decide,Tryz.func148.trans (congrArg some (by kernel_rfl))⟩
 t0:=Tryz.underlying0
 a0:=Tryz.isAgg0
 z0:=Tryz.sizeOf0
 v0:=Tryz.zeroValue0
 t3:=Tryz.underlying3
 a3:=Tryz.isAgg3
 z3:=Tryz.sizeOf3
 v3:=Tryz.zeroValue3
 t4:=Tryz.underlying4
 a4:=Tryz.isAgg4
 z4:=Tryz.sizeOf4
 v4:=Tryz.zeroValue4
 t5:=Tryz.underlying5
 a5:=Tryz.isAgg5
 z5:=Tryz.sizeOf5
 v5:=Tryz.zeroValue5
 t9:=Tryz.underlying9
 a9:=Tryz.isAgg9
 z9:=Tryz.sizeOf9
 v9:=Tryz.zeroValue9
 t22:=Tryz.underlying29
 a22:=Tryz.isAgg29
 z22:=Tryz.sizeOf29
 v22:=Tryz.zeroValue29
 t25:=Tryz.underlying61
 a25:=Tryz.isAgg61
 z25:=Tryz.sizeOf61
 v25:=Tryz.zeroValue61
 t39:=Tryz.underlying90
 a39:=Tryz.isAgg90
 z39:=Tryz.sizeOf90
 v39:=Tryz.zeroValue90
 t45:=Tryz.underlying114
 a45:=Tryz.isAgg114
 z45:=Tryz.sizeOf114
 v45:=Tryz.zeroValue114
 t46:=Tryz.underlying115
 a46:=Tryz.isAgg115
 z46:=Tryz.sizeOf115
 v46:=Tryz.zeroValue115
 t50:=Tryz.underlying119
 a50:=Tryz.isAgg119
 z50:=Tryz.sizeOf119
 v50:=Tryz.zeroValue119
 t53:=Tryz.underlying122
 a53:=Tryz.isAgg122
 z53:=Tryz.sizeOf122
 v53:=Tryz.zeroValue122
 t55:=Tryz.underlying124
 a55:=Tryz.isAgg124
 z55:=Tryz.sizeOf124
 v55:=Tryz.zeroValue124
 t66:=Tryz.underlying141
 a66:=Tryz.isAgg141
 z66:=Tryz.sizeOf141
 v66:=Tryz.zeroValue141
 t70:=Tryz.underlying111
 a70:=Tryz.isAgg111
 z70:=Tryz.sizeOf111
 v70:=Tryz.zeroValue111
 t76:=Tryz.underlying153
 a76:=Tryz.isAgg153
 z76:=Tryz.sizeOf153
 v76:=Tryz.zeroValue153
 t77:=Tryz.underlying154
 a77:=Tryz.isAgg154
 z77:=Tryz.sizeOf154
 v77:=Tryz.zeroValue154}
