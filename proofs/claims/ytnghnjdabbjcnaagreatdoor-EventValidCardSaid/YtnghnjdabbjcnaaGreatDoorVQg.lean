/-
  The first wrong moment of a trace: the second text.
-/
import Derived.Test.YtnghnjdabbjcnaaGreatDoorVQd
import Derived.Test.YtnghnjdabbjcnaaGreatDoorVFj
set_option maxHeartbeats 0
set_option maxRecDepth 100000
namespace Go.Vm
theorem Zjn (s:Bs):YH s=YA s:=by
 unfold YH Tm.valid;have h:(Tm.mk 2 s 0 true []).nodes=if YA s=true then 0 else 2:=by
  have e:Xj 2 s 0 0=if YA s=true then 0 else 2:=by unfold Xj;cases YA s<;>simp
  simp only[Tm.nodes,List.length_nil,e,Yk];cases YA s<;>simp
 rw[h];cases YA s<;>simp[Tm.size,Zk,Tm.depth,Yv]
def ZoT (m:Mo):Bool:=
 if m.kind=1 then decide (2≤(m.agents.length:Int))&&(decide ((m.agents.length:Int)≤4)&&(decide ((m.terms.length:Int)=0)&&decide (m.goal=0))) else
 if m.kind=2∨m.kind=3 then decide ((m.agents.length:Int)=0)&&(decide ((m.terms.length:Int)=1)&&(decide (m.goal=0)&&decide (m.role=0))) else
 if m.kind=4∨m.kind=5 then decide ((m.agents.length:Int)=0)&&(decide ((m.terms.length:Int)≤12)&&decide (m.role=0)) else
 if m.kind=6 then decide ((m.agents.length:Int)=1)&&(decide ((m.terms.length:Int)=0)&&(decide (m.goal=0)&&(decide (m.role=0)&&decide (m.num=0)))) else
 if m.kind=7 then decide ((m.agents.length:Int)=0)&&(decide ((m.terms.length:Int)=0)&&(decide (m.goal=0)&&decide (m.role=0))) else false
theorem ZfM (m:Mo):ZoT m=Wv m:=by
 obtain⟨kd,nu,ro,an,ag,go,tn,te⟩:=m;unfold ZoT Wv XE;simp only;by_cases h:kd<1∨7<kd;{rw[if_pos h];repeat (rw[if_neg (by omega)])};rw[if_neg h];have ha:(0:Int)≤(ag.length:Int):=by omega
 have ht:(0:Int)≤(te.length:Int):=by omega
 generalize (ag.length:Int)=a at ha ⊢;generalize (te.length:Int)=t at ht ⊢;rw[Bool.eq_iff_iff];by_cases h1:kd=1;{simp only[h1,if_true,Bool.and_eq_true,decide_eq_true_eq,Bool.false_or,Bool.true_or,Bool.true_and];omega};by_cases h2:kd=2;{subst h2;simp[Bool.and_eq_true,decide_eq_true_eq];omega};by_cases h3:kd=3;{subst h3;simp[Bool.and_eq_true,decide_eq_true_eq];omega};by_cases h4:kd=4;{subst h4;simp[Bool.and_eq_true,decide_eq_true_eq];omega};by_cases h5:kd=5;{subst h5;simp[Bool.and_eq_true,decide_eq_true_eq];omega};by_cases h6:kd=6;{subst h6;simp[Bool.and_eq_true,decide_eq_true_eq];omega};have h7:kd=7:=by omega
 subst h7;simp[Bool.and_eq_true,decide_eq_true_eq];omega
theorem ff3 (b0 b1 b2:Bool):(b0=false)∨(b0=true∧b1=false)∨(b0=true∧b1=true∧b2=false)∨(b0=true∧b1=true∧b2=true):=by cases b0<;>cases b1<;>cases b2<;>simp
theorem ff4 (b0 b1 b2 b3:Bool):(b0=false)∨(b0=true∧b1=false)∨(b0=true∧b1=true∧b2=false)∨(b0=true∧b1=true∧b2=true∧b3=false)∨(b0=true∧b1=true∧b2=true∧b3=true):=by cases b0<;>cases b1<;>cases b2<;>cases b3<;>simp
theorem Zi1 {l:List Bs} {i:Nat} {a:Bs} (h:l[i]? = some a):((l.drop i).any fun s=> !YH s)=(!YH a||(l.drop (i+1)).any fun s=> !YH s):=by rw[Zw h];rfl
end Go.Vm
namespace Go.Vm.Seat
open Go.Proofs
theorem c64 (m:Mo):∀H,CO 64 [.agg m.cells] H (.bool (ZoT m)) H:=by
 obtain⟨kd,nu,ro,an,ag,go,tn,te⟩:=m;simp only[Mo.cells,ZoT];rw[show(ag.length:Int)=((ZD ag).length:Int) by rw[ZC],show(te.length:Int)=((Za te).length:Int) by rw[Zb]];have k1:=Z8 kd 1;have k2:=Z8 kd 2;have k3:=Z8 kd 3;have k4:=Z8 kd 4;have k5:=Z8 kd 5;have k6:=Z8 kd 6;have k7:=Z8 kd 7;have a1:=XY ((ZD ag).length:Int) 2;have a2:=VP ((ZD ag).length:Int) 4;have a3:=Z8 ((ZD ag).length:Int) 0;have a4:=Z8 ((ZD ag).length:Int) 1;have t1:=Z8 ((Za te).length:Int) 0;have t2:=Z8 ((Za te).length:Int) 1;have t3:=VP ((Za te).length:Int) 12;have w1:=Z8 go 0;have w2:=Z8 ro 0;have w3:=Z8 nu 0;generalize decide ((2:Int)≤((ZD ag).length:Int))=A1 at a1 ⊢;generalize decide (((ZD ag).length:Int)≤4)=A2 at a2 ⊢;generalize decide (((ZD ag).length:Int)=0)=A3 at a3 ⊢;generalize decide (((ZD ag).length:Int)=1)=A4 at a4 ⊢;generalize decide (((Za te).length:Int)=0)=T1 at t1 ⊢;generalize decide (((Za te).length:Int)=1)=T2 at t2 ⊢;generalize decide (((Za te).length:Int)≤12)=T3 at t3 ⊢;generalize decide (go=0)=W1 at w1 ⊢;generalize decide (ro=0)=W2 at w2 ⊢;generalize decide (nu=0)=W3 at w3 ⊢;refine Jw tOk fe64.ok rfl ?_;by_cases h1:kd=1
 ·rw[decide_eq_true h1]at k1;rw[if_pos h1];rcases ff4 A1 A2 T1 W1 with rfl|⟨rfl,rfl⟩|⟨rfl,rfl,rfl⟩|⟨rfl,rfl,rfl,rfl⟩|⟨rfl,rfl,rfl,rfl⟩;all_goals
   repeat' first|refine Jk ?_|refine Ko ?_|fail
   all_goals rfl
 rw[decide_eq_false h1]at k1;rw[if_neg h1];by_cases h2:kd=2
 ·rw[decide_eq_true h2]at k2;rw[if_pos (.inl h2)];rcases ff4 A3 T2 W1 W2 with rfl|⟨rfl,rfl⟩|⟨rfl,rfl,rfl⟩|⟨rfl,rfl,rfl,rfl⟩|⟨rfl,rfl,rfl,rfl⟩;all_goals
   repeat' first|refine Jk ?_|refine Ko ?_|fail
   all_goals rfl
 rw[decide_eq_false h2]at k2;by_cases h3:kd=3
 ·rw[decide_eq_true h3]at k3;rw[if_pos (.inr h3)];rcases ff4 A3 T2 W1 W2 with rfl|⟨rfl,rfl⟩|⟨rfl,rfl,rfl⟩|⟨rfl,rfl,rfl,rfl⟩|⟨rfl,rfl,rfl,rfl⟩;all_goals
   repeat' first|refine Jk ?_|refine Ko ?_|fail
   all_goals rfl
 rw[decide_eq_false h3]at k3;rw[if_neg (by omega)];by_cases h4:kd=4
 ·rw[decide_eq_true h4]at k4;rw[if_pos (.inl h4)];rcases ff3 A3 T3 W2 with rfl|⟨rfl,rfl⟩|⟨rfl,rfl,rfl⟩|⟨rfl,rfl,rfl⟩;all_goals
   repeat' first|refine Jk ?_|refine Ko ?_|fail
   all_goals rfl
 rw[decide_eq_false h4]at k4;by_cases h5:kd=5
 ·rw[decide_eq_true h5]at k5;rw[if_pos (.inr h5)];rcases ff3 A3 T3 W2 with rfl|⟨rfl,rfl⟩|⟨rfl,rfl,rfl⟩|⟨rfl,rfl,rfl⟩;all_goals
   repeat' first|refine Jk ?_|refine Ko ?_|fail
   all_goals rfl
 rw[decide_eq_false h5]at k5;rw[if_neg (by omega)];by_cases h6:kd=6
 ·rw[decide_eq_true h6]at k6;rw[if_pos h6];rcases ff5 A4 T1 W1 W2 W3 with rfl|⟨rfl,rfl⟩|⟨rfl,rfl,rfl⟩|⟨rfl,rfl,rfl,rfl⟩|⟨rfl,rfl,rfl,rfl,rfl⟩|⟨rfl,rfl,rfl,rfl,rfl⟩;all_goals
   repeat' first|refine Jk ?_|refine Ko ?_|fail
   all_goals rfl
 rw[decide_eq_false h6]at k6;rw[if_neg h6];by_cases h7:kd=7
 ·rw[decide_eq_true h7]at k7;rw[if_pos h7];rcases ff4 A3 T1 W1 W2 with rfl|⟨rfl,rfl⟩|⟨rfl,rfl,rfl⟩|⟨rfl,rfl,rfl,rfl⟩|⟨rfl,rfl,rfl,rfl⟩;all_goals
   repeat' first|refine Jk ?_|refine Ko ?_|fail
   all_goals rfl
 rw[decide_eq_false h7]at k7;rw[if_neg h7];repeat' first|refine Ko ?_|fail
 all_goals rfl
theorem c46 {m:Mo} (hm:m.Sm):∀H,CO 46 [.agg m.cells] H (.int .i64 m.alone) H:=by
 have hF:=c64 m;rw[ZfM]at hF;have hags:=hm.ok.ags;have hal:=hm.al;have hts:=hm.ts;have htl:=hm.tl;unfold Mo.alone;generalize Wv m=F at hF ⊢;obtain⟨kd,nu,ro,an,ag,go,tn,te⟩:=m;simp only[Mo.cells,ZlU]at hF hags hal hts htl ⊢;have hr4:decide (4≤ro)=decide (3<ro):=by congr 1
 rw[hr4];have x1:=Zu nu 0;have x2:=Xq nu 99;have x3:=Zu ro 0;have x4:=Xq ro 3;have x5:=Zu go 0;have x6:=Xq go 7;generalize decide (nu<0)=b1 at x1 ⊢;generalize decide (99<nu)=b2 at x2 ⊢;generalize decide (ro<0)=b3 at x3 ⊢;generalize decide (3<ro)=b4 at x4 ⊢;generalize decide (go<0)=b5 at x5 ⊢;generalize decide (7<go)=b6 at x6 ⊢;refine Jw tOk fe46.ok rfl ?_;cases F with
 |false=>
  repeat' first|refine Jc (hF _) ?_|refine Ka ?_|fail
  all_goals rfl
 |true=>
  rw[if_neg (by simp)];rcases or6 b1 b2 b3 b4 b5 b6 with rfl|⟨rfl,rfl⟩|⟨rfl,rfl,rfl⟩|⟨rfl,rfl,rfl,rfl⟩|⟨rfl,rfl,rfl,rfl,rfl⟩|⟨rfl,rfl,rfl,rfl,rfl,rfl⟩|⟨rfl,rfl,rfl,rfl,rfl,rfl⟩;iterate 6
   repeat' first|refine Jk ?_|refine Jc (hF _) ?_|refine Kg ?_|fail
   · rfl
  rw[if_neg (by simp)];have hcl:=Zb te;have hsl:=ZC ag;skip;refine Wp.while (fun m2 tm H=>∃(i:Nat) (base:TM),i+m2=ag.length∧(ag.any fun s=> !YH s)=((ag.drop i).any fun s=> !YH s)∧tm=ovr base [(1,.ptr 0 6 0 0),(3,.int .i64 (i:Int))]∧H=⟨[.cells 6 [[.int .i64 kd,.int .i64 nu,.int .i64 ro,slV an 1 (ZD ag),.int .i64 go,slV tn 4 (Za te)]]],0,[],0⟩)
   (fun m2 tm H hI=>?_) ag.length _ _ ⟨0,_,by omega,by simp,Ze ⟨rfl,rfl,trivial⟩,rfl⟩
  obtain⟨i,base,hi,hgo,rfl,rfl⟩:=hI;rw[hgo];by_cases hlt:i<ag.length
  ·obtain⟨a,ha⟩:∃a,ag[i]? = some a:=⟨ag[i],by simp⟩;have hj:=Xf ha;have hI:=c62 a (hags a (List.mem_of_getElem? ha));rw[← Zjn]at hI;have hlx:=Zu (i:Int) ((ZD ag).length:Int);rw[decide_eq_true (by omega)]at hlx;rw[Zi1 ha];generalize YH a=B at hI ⊢;cases B with
   | true=>rw[Bool.not_true,Bool.false_or];(repeat' first|refine Jc (hI _) ?_|refine KE ?_|fail);exact LoopI.go (m2-1) (by omega) ⟨i+1,_,by omega,rfl,Ze ⟨rfl,Zg (Zd (n:=i+1) (by omega)),trivial⟩,rfl⟩
   | false=>rw[Bool.not_false,Bool.true_or,if_pos rfl];(repeat' first|refine Jc (hI _) ?_|refine KE ?_|fail);all_goals rfl
  ·(have e : i = ag.length := by omega);subst e;have hlx:=Zu (ag.length:Int) ((ZD ag).length:Int);rw[decide_eq_false (by omega)]at hlx;rw[List.drop_length,List.any_nil,if_neg (by simp)];clear hgo;(repeat' first|refine Ks ?_|fail);refine Wp.while (fun m2 tm H=>∃(i:Nat) (base:TM),i+m2=te.length∧ZfQ te=ZfQ (te.drop i)∧tm=ovr base [(1,.ptr 0 6 0 0),(4,.int .i64 (i:Int))]∧H=⟨[.cells 6 [[.int .i64 kd,.int .i64 nu,.int .i64 ro,slV an 1 (ZD ag),.int .i64 go,slV tn 4 (Za te)]]],0,[],0⟩)
    (fun m2 tm H hI=>?_) te.length _ _ ⟨0,_,by omega,by simp,Ze ⟨rfl,rfl,trivial⟩,rfl⟩
   obtain⟨i,base,hi,hgo,rfl,rfl⟩:=hI;rw[hgo];by_cases hlt:i<te.length;{obtain⟨t,ht⟩:∃t,te[i]? = some t:=⟨te[i],by simp⟩;have hR:=hts t (List.mem_of_getElem? ht);have hR:=c85 hR.1 hR.2;have hlx:=Zu (i:Int) ((Za te).length:Int);rw[decide_eq_true (by omega)]at hlx;rw[ZdN ht];have n1:=WZ t.rgt 0;generalize t.rgt=e at hR n1 ⊢;obtain⟨k',nm',s',b',kz'⟩:=t;have hj:=Zj ht;simp only[Tm.cells]at hR;by_cases c1:e=0;{rw[decide_eq_true c1]at n1;rw[if_neg (by omega)];(repeat' first|refine Jc (hR _) ?_|refine KK ?_|fail);exact LoopI.go (m2-1) (by omega) ⟨i+1,_,by omega,rfl,Ze ⟨rfl,Zg (Zd (n:=i+1) (by omega)),trivial⟩,rfl⟩};{rw[decide_eq_false c1]at n1;rw[if_pos c1];(repeat' first|refine Jc (hR _) ?_|refine KK ?_|fail);all_goals rfl}};{(have e:i=te.length:=by omega);subst e;have hlx:=Zu (te.length:Int) ((Za te).length:Int);rw[decide_eq_false (by omega)]at hlx;rw[List.drop_length];(repeat' first|refine Ks ?_|fail);all_goals rfl}
end Go.Vm.Seat
namespace Go.Vm
variable {m:Mo}
def Mo.hd (m:Mo):Bs:=m.agents.headD []
structure FSt where
 a:List (Int×Bool)
 b:List (Int×Bool)
 r:List (Bs×Bool)
variable {S:FSt}
def FSt.bhd (S:FSt) (m:Mo):Int:=if m.kind=6 then(if lkB m.hd S.r=true then 5 else 0) else if m.kind=1 then(if lkB m.num S.a=true then 5 else 0) else if lkB m.num S.a=false∨lkB m.num S.b=true then 9 else 0
def FSt.err (S:FSt) (m:Mo):Int:=if m.alone≠0 then m.alone else S.bhd m
def FSt.nxt (S:FSt) (m:Mo):FSt:=if m.kind=6 then⟨S.a,S.b,upB m.hd true S.r⟩ else if m.kind=1 then⟨upB m.num true S.a,S.b,S.r⟩ else⟨S.a,upB m.num (decide (m.kind=7)) S.b,S.r⟩
def ZcA:FSt→List Mo→Nat→Int×Int
 |_,[],_=>(0,0)
 |S,m::r,i=>if S.err m≠0 then((i:Int),S.err m) else ZcA (S.nxt m) r (i+1)
def ZI (l:List Mo):Int×Int:=if 400<l.length then(-1,3) else ZcA ⟨[],[],[]⟩ l 0
theorem Zis {l:List Mo} {i:Nat} (h:l[i]? = some m):ZcA S (l.drop i) i=if S.err m≠0 then((i:Int),S.err m) else ZcA (S.nxt m) (l.drop (i+1)) (i+1):=by rw[Zw h];rfl
theorem Zhg (h:m.alone≠0):S.err m=m.alone:=if_pos h
theorem Zr3 (h:m.alone=0) (h6:m.kind=6):S.err m=if lkB m.hd S.r=true then 5 else 0:=by unfold FSt.err FSt.bhd;rw[if_neg (by omega),if_pos h6]
theorem ZrK (h:m.alone=0) (h6:¬ m.kind=6) (h1:m.kind=1):S.err m=if lkB m.num S.a=true then 5 else 0:=by unfold FSt.err FSt.bhd;rw[if_neg (by omega),if_neg h6,if_pos h1]
theorem ZsR (h:m.alone=0) (h6:¬ m.kind=6) (h1:¬ m.kind=1):S.err m=if lkB m.num S.a=false∨lkB m.num S.b=true then 9 else 0:=by unfold FSt.err FSt.bhd;rw[if_neg (by omega),if_neg h6,if_neg h1]
theorem Zq1 (h6:m.kind=6):S.nxt m=⟨S.a,S.b,upB m.hd true S.r⟩:=if_pos h6
theorem Zr1 (h6:¬ m.kind=6) (h1:m.kind=1):S.nxt m=⟨upB m.num true S.a,S.b,S.r⟩:=by unfold FSt.nxt;rw[if_neg h6,if_pos h1]
theorem Ztc (h6:¬ m.kind=6) (h1:¬ m.kind=1):S.nxt m=⟨S.a,upB m.num (decide (m.kind=7)) S.b,S.r⟩:=by unfold FSt.nxt;rw[if_neg h6,if_neg h1]
theorem form_6 {m:Mo} (h:m.alone=0) (hk:m.kind=6):∃a,m.agents= [a]:=by
 unfold Mo.alone at h;split at h;{cases h};rename_i h1;have h1:Wv m=true:=by simpa using h1
 unfold Wv XE at h1;rw[if_neg (by omega),if_neg (by omega),if_neg (by omega),if_neg (by omega),if_neg (by omega),if_neg (by omega),if_pos hk]at h1;simp only[Bool.and_eq_true,decide_eq_true_eq]at h1;match hm:m.agents with
 | []=>rw[hm]at h1;simp at h1
 | [a]=>exact⟨a,rfl⟩
 |a::b::r=>rw[hm]at h1;simp at h1;omega
end Go.Vm
namespace Go.Vm.Seat
variable {H:Heap} {l:List (Int×Bool)}
open Go.Proofs
theorem lkI {id:Nat} (n:Int) (hb:nth H.bx id=some (.map (mpI l))):Wg E0 84 (.map id) (.int .i64 n) false H=some (.bool (lkB n l)):=Zvz rfl rfl rfl rfl rfl hb
theorem lkS {id:Nat} {l:List (Bs×Bool)} (n:Bs) (hb:nth H.bx id=some (.map (mpS l))):Wg E0 85 (.map id) (.str n) false H=some (.bool (lkB n l)):=ZtV rfl rfl rfl rfl rfl hb
theorem upI {id:Nat} (n:Int) (v:Bool) (hb:nth H.bx id=some (.map (mpI l))) (hr:H.ro≤id):Yj E0 84 (.map id) (.int .i64 n) (.bool v) H=some {H with bx:=H.bx.set id (.map (mpI (upB n v l)))}:=ZvL v rfl rfl rfl hb hr
theorem upS {id:Nat} {l:List (Bs×Bool)} (n:Bs) (v:Bool) (hb:nth H.bx id=some (.map (mpS l))) (hr:H.ro≤id):Yj E0 85 (.map id) (.str n) (.bool v) H=some {H with bx:=H.bx.set id (.map (mpS (upB n v l)))}:=Zut v rfl rfl rfl hb hr
def TrS (l:List Mo):Prop:=l.length≤1000∧∀m,m∈l→m.Sm
theorem c22 {l:List Mo} (hl:TrS l) (b:Bool):∀H,CO 22 [slV b 6 (moC l)] H (.tup [.int .i64 (ZI l).1,.int .i64 (ZI l).2]) H:=by
 obtain⟨hl,hm⟩:=hl;have hcl:=Y3 l;have gq:=Xq ((moC l).length:Int) 400;unfold ZI;refine Jw tOk fe22.ok rfl ?_;by_cases h:400<l.length
 ·rw[decide_eq_true (by omega)]at gq;rw[if_pos h];repeat' first|refine Ks ?_|fail
  all_goals rfl
 rw[decide_eq_false (by omega)]at gq;rw[if_neg h];repeat' first|refine Ks ?_|fail
 refine Wp.while (fun m2 tm H=>∃(i:Nat) (base:TM) (S:FSt),i+m2=l.length∧ZcA ⟨[],[],[]⟩ l 0=ZcA S (l.drop i) i∧tm=ovr base [(4,.map 0),(5,.map 1),(6,.map 2),(16,slV b 6 (moC l)),(17,.int .i64 (l.length:Int)),(18,.int .i64 (i:Int))]∧H=⟨[.map (mpI S.a),.map (mpI S.b),.map (mpS S.r)],0,[],0⟩)
  (fun m2 tm H hI=>Wp.drop ?_) l.length _ _ ⟨0,_,⟨[],[],[]⟩,by omega,by simp,Ze ⟨rfl,rfl,rfl,rfl,Zg (by rw[hcl]),rfl,trivial⟩,rfl⟩
 obtain⟨i,base,S,hi,hgo,rfl,rfl⟩:=hI;rw[hgo];by_cases hlt:i<l.length;{obtain⟨m,hx⟩:∃m,l[i]? = some m:=⟨l[i],by simp⟩;have hj:=Vs hx;have hA:=c45 (hm m (List.mem_of_getElem? hx));have h6:=@form_6 m;have hlx:=Zu (i:Int) (l.length:Int);rw[decide_eq_true (by omega)]at hlx;rw[Zis hx];have n1:=WZ m.alone 0;by_cases c1:m.alone=0;{rw[decide_eq_true c1]at n1;rw[c1]at hA n1;have k6:=Z8 m.kind 6;have k1:=Z8 m.kind 1;have k7:=Z8 m.kind 7;by_cases e6:m.kind=6;{rw[decide_eq_true e6]at k6;obtain⟨a,ha1⟩:=h6 c1 e6;(have hhd:m.hd=a:=by unfold Mo.hd;rw[ha1];rfl);rw[Zr3 c1 e6,Zq1 e6,hhd];clear h6 e6 hhd k1 k7 c1;obtain⟨kd,nu,ro,an,ag,go,tn,te⟩:=m;simp only[Mo.cells]at hj hA k6 ha1;subst ha1;have ha:=Xf (l:=[a]) (i:=0) rfl;have hk:=lkS (id:=2) (H:=⟨[.map (mpI S.a),.map (mpI S.b),.map (mpS S.r),.cells 6 [[.int .i64 kd,.int .i64 nu,.int .i64 ro,slV an 1 (ZD [a]),.int .i64 go,slV tn 4 (Za te)]]],0,[],0⟩) (l:=S.r) a rfl;have hu:=upS (id:=2) (H:=⟨[.map (mpI S.a),.map (mpI S.b),.map (mpS S.r),.cells 6 [[.int .i64 kd,.int .i64 nu,.int .i64 ro,slV an 1 (ZD [a]),.int .i64 go,slV tn 4 (Za te)]]],0,[],0⟩) (l:=S.r) a true rfl (Nat.zero_le _);by_cases hL:lkB a S.r=true;{rw[hL]at hk;rw[if_pos hL,if_pos (by decide)];(repeat' first|refine Jc (hA _) ?_|refine KD ?_|refine KF ?_|fail);all_goals rfl};{rw[show lkB a S.r=false by simpa using hL]at hk;rw[if_neg hL,if_neg (by decide)];(repeat' first|refine Jc (hA _) ?_|refine KD ?_|(apply qMu;rfl;rfl;rfl;rfl;assumption)|refine KF ?_|fail);refine DropQ.go [(4,.map 0),(5,.map 1),(6,.map 2),(16,slV b 6 (moC l)),(17,.int .i64 (l.length:Int)),(18,.int .i64 ((i+1:Nat):Int))] ?_ ?_ rfl ?_ ?_;{exact⟨rfl,rfl,rfl,rfl,rfl,Zg (Zd (n:=i+1) (by omega)),trivial⟩};{simp[Zl,under]};{simp[ZiZ,ZiE]};{exact LoopI.go (m2-1) (by omega) ⟨i+1,_,⟨S.a,S.b,upB a true S.r⟩,by omega,rfl,rfl,rfl⟩}}};clear h6;rw[decide_eq_false e6]at k6;by_cases e1:m.kind=1;{rw[decide_eq_true e1]at k1;rw[ZrK c1 e6 e1,Zr1 e6 e1];clear e6 e1 k7 c1;obtain⟨kd,nu,ro,an,ag,go,tn,te⟩:=m;simp only[Mo.cells]at hj hA k6 k1 ⊢;have hk:=lkI (id:=0) (H:=⟨[.map (mpI S.a),.map (mpI S.b),.map (mpS S.r),.cells 6 [[.int .i64 kd,.int .i64 nu,.int .i64 ro,slV an 1 (ZD ag),.int .i64 go,slV tn 4 (Za te)]]],0,[],0⟩) (l:=S.a) nu rfl;have hu:=upI (id:=0) (H:=⟨[.map (mpI S.a),.map (mpI S.b),.map (mpS S.r),.cells 6 [[.int .i64 kd,.int .i64 nu,.int .i64 ro,slV an 1 (ZD ag),.int .i64 go,slV tn 4 (Za te)]]],0,[],0⟩) (l:=S.a) nu true rfl (Nat.zero_le _);by_cases hL:lkB nu S.a=true;{rw[hL]at hk;rw[if_pos hL,if_pos (by decide)];(repeat' first|refine Jc (hA _) ?_|refine KD ?_|refine KF ?_|fail);all_goals rfl};{rw[show lkB nu S.a=false by simpa using hL]at hk;rw[if_neg hL,if_neg (by decide)];(repeat' first|refine Jc (hA _) ?_|refine KD ?_|(apply qMu;rfl;rfl;rfl;rfl;assumption)|refine KF ?_|fail);refine DropQ.go [(4,.map 0),(5,.map 1),(6,.map 2),(16,slV b 6 (moC l)),(17,.int .i64 (l.length:Int)),(18,.int .i64 ((i+1:Nat):Int))] ?_ ?_ rfl ?_ ?_;{exact⟨rfl,rfl,rfl,rfl,rfl,Zg (Zd (n:=i+1) (by omega)),trivial⟩};{simp[Zl,under]};{simp[ZiZ,ZiE]};{exact LoopI.go (m2-1) (by omega) ⟨i+1,_,⟨upB nu true S.a,S.b,S.r⟩,by omega,rfl,rfl,rfl⟩}}};rw[decide_eq_false e1]at k1;rw[ZsR c1 e6 e1,Ztc e6 e1];clear e6 e1 c1;obtain⟨kd,nu,ro,an,ag,go,tn,te⟩:=m;simp only[Mo.cells]at hj hA k6 k1 k7 ⊢;generalize decide (kd=7)=D at k7 ⊢;have hk:=lkI (id:=0) (H:=⟨[.map (mpI S.a),.map (mpI S.b),.map (mpS S.r),.cells 6 [[.int .i64 kd,.int .i64 nu,.int .i64 ro,slV an 1 (ZD ag),.int .i64 go,slV tn 4 (Za te)]]],0,[],0⟩) (l:=S.a) nu rfl;have hk2:=lkI (id:=1) (H:=⟨[.map (mpI S.a),.map (mpI S.b),.map (mpS S.r),.cells 6 [[.int .i64 kd,.int .i64 nu,.int .i64 ro,slV an 1 (ZD ag),.int .i64 go,slV tn 4 (Za te)]]],0,[],0⟩) (l:=S.b) nu rfl;have hu:=upI (id:=1) (H:=⟨[.map (mpI S.a),.map (mpI S.b),.map (mpS S.r),.cells 6 [[.int .i64 kd,.int .i64 nu,.int .i64 ro,slV an 1 (ZD ag),.int .i64 go,slV tn 4 (Za te)]]],0,[],0⟩) (l:=S.b) nu D rfl (Nat.zero_le _);by_cases hL:lkB nu S.a=true;{rw[hL]at hk;by_cases hL2:lkB nu S.b=true;{rw[hL2]at hk2;rw[if_pos (show lkB nu S.a=false∨lkB nu S.b=true from .inr hL2),if_pos (by decide)];(repeat' first|refine Jc (hA _) ?_|refine KD ?_|refine KF ?_|fail);all_goals rfl};{rw[show lkB nu S.b=false by simpa using hL2]at hk2;rw[if_neg (show ¬ (lkB nu S.a=false∨lkB nu S.b=true) by simp[hL,hL2]),if_neg (by decide)];(repeat' first|refine Jc (hA _) ?_|refine KD ?_|(apply qMu;rfl;rfl;rfl;rfl;assumption)|refine KF ?_|fail);refine DropQ.go [(4,.map 0),(5,.map 1),(6,.map 2),(16,slV b 6 (moC l)),(17,.int .i64 (l.length:Int)),(18,.int .i64 ((i+1:Nat):Int))] ?_ ?_ rfl ?_ ?_;{exact⟨rfl,rfl,rfl,rfl,rfl,Zg (Zd (n:=i+1) (by omega)),trivial⟩};{simp[Zl,under]};{simp[ZiZ,ZiE]};{exact LoopI.go (m2-1) (by omega) ⟨i+1,_,⟨S.a,upB nu D S.b,S.r⟩,by omega,rfl,rfl,rfl⟩}}};{(have hL:lkB nu S.a=false:=by simpa using hL);rw[hL]at hk;rw[if_pos (show lkB nu S.a=false∨lkB nu S.b=true from .inl hL),if_pos (by decide)];(repeat' first|refine Jk ?_|refine Jc (hA _) ?_|refine KD ?_|refine KF ?_|fail);all_goals rfl}};{rw[decide_eq_false c1]at n1;rw[Zhg c1,if_pos c1];clear h6;generalize m.alone=e at hA n1 ⊢;obtain⟨kd,nu,ro,an,ag,go,tn,te⟩:=m;simp only[Mo.cells]at hj hA;(repeat' first|refine Jc (hA _) ?_|refine KH ?_|fail);all_goals rfl}}
 ·have e:i=l.length:=by omega
  subst e;have hlx:=Zu (l.length:Int) (l.length:Int);rw[decide_eq_false (by omega)]at hlx;rw[List.drop_length];repeat' first|refine Ki ?_|fail
  all_goals rfl
theorem c10 {l:List Mo} (hl:TrS l) (b:Bool):∀H,CO 10 [slV b 6 (moC l)] H (.int .i64 (ZI l).2) H:=by
 have hc:=c22 hl b;generalize ZI l=f at hc ⊢;obtain⟨f1,f2⟩:=f;refine Jw tOk fe10.ok rfl ?_;repeat' first|refine Jc (hc _) ?_|refine Jo ?_|fail
 all_goals rfl
end Go.Vm.Seat
namespace Go.Vm
variable {S:FSt} {p:List Mo}
def VB:List Mo→Mo→Bool→Bool→Int
 | [],m,s,e=>if(decide (m.kind=1)&&s)=true then 5 else if(!decide (m.kind=1)&&(!decide (m.kind=6)&&(!s||e)))=true then 9 else 0
 |x::r,m,s,e=>if m.kind=6∧x.kind=6∧x.hd=m.hd then 5 else if x.num=m.num then VB r m (s||decide (x.kind=1)) (e||decide (x.kind=7)) else VB r m s e
def ZlC:List Mo→List Mo→Int×Int
 |_,[]=>(-1,0)
 |p,m::r=>if m.alone≠0 then((p.length:Int),m.alone) else if VB p m false false≠0 then((p.length:Int),VB p m false false) else ZlC (p++ [m]) r
def Za6 (l:List Mo):Int×Int:=if 400<l.length then(-1,3) else ZlC [] l
def Zd5 (p:List Mo) (k n:Int):Bool:=p.any fun x=>decide (x.num=n)&&decide (x.kind=k)
def Zha (p:List Mo) (a:Bs):Bool:=p.any fun x=>decide (x.kind=6)&&decide (x.hd=a)
theorem ZhC (m:Mo):∀(p:List Mo) (s e:Bool),VB p m s e=if m.kind=6 then(if Zha p m.hd=true then 5 else 0) else if m.kind=1 then(if(s||Zd5 p 1 m.num)=true then 5 else 0) else if(!(s||Zd5 p 1 m.num)||(e||Zd5 p 7 m.num))=true then 9 else 0
 | [],s,e=>by
  have a1:¬ Zha [] m.hd=true:=by simp[Zha]
  have a2:∀k,Zd5 [] k m.num=false:=fun _=>rfl;rw[if_neg a1,a2,a2,Bool.or_false,Bool.or_false];simp only[VB];by_cases h6:m.kind=6;{rw[if_neg (by simp[h6]),if_neg (by simp[h6]),if_pos h6]};rw[if_neg h6];by_cases h1:m.kind=1;{rw[if_pos h1];cases s;{rw[if_neg (by simp),if_neg (by simp[h1])];rfl};{rw[if_pos (by simp[h1])];rfl}};rw[if_neg h1,if_neg (by simp[h1])];simp only[h1,h6,decide_false,Bool.not_false,Bool.true_and]
 |x::r,s,e=>by
  simp only[VB];have ih:=ZhC m r;by_cases h6:m.kind=6
  ·rw[if_pos h6];by_cases hx:x.kind=6∧x.hd=m.hd;{rw[if_pos ⟨h6,hx⟩,if_pos];simp[Zha,hx.1,hx.2]}
   ·rw[if_neg fun h => hx h.2];have e1:Zha (x::r) m.hd=Zha r m.hd:=by
     simp only[Zha,List.any_cons];rw[show(decide (x.kind=6)&&decide (x.hd=m.hd))=false by
      cases h:(decide (x.kind=6)&&decide (x.hd=m.hd)) with
      | false=>rfl
      | true=>rw[Bool.and_eq_true,decide_eq_true_eq,decide_eq_true_eq]at h;exact absurd h hx,Bool.false_or]
    rw[e1,ih,ih,if_pos h6,if_pos h6,ite_self]
  {rw[if_neg fun h=>h6 h.1,ih,ih,if_neg h6,if_neg h6,if_neg h6];have e1:∀k,Zd5 (x::r) k m.num=((decide (x.num=m.num)&&decide (x.kind=k))||Zd5 r k m.num):=fun k=>rfl;rw[e1,e1];by_cases hn:x.num=m.num;{rw[if_pos hn];simp only[hn,decide_true,Bool.true_and,Bool.or_assoc]};{rw[if_neg hn];simp only[hn,decide_false,Bool.false_and,Bool.false_or]}}
structure Kn (S:FSt) (p:List Mo):Prop where
 a:∀n,lkB n S.a=Zd5 p 1 n
 b:∀n,lkB n S.b=Zd5 p 7 n
 r:∀s,lkB s S.r=Zha p s
theorem ZmB (h:Kn S p) (m:Mo):S.bhd m=VB p m false false:=by rw[ZhC];unfold FSt.bhd;rw[h.a,h.b,h.r,Bool.false_or,Bool.false_or];congr 2;cases Zd5 p 1 m.num<;>cases Zd5 p 7 m.num<;>simp
theorem Wy (p:List Mo) (m:Mo) (k n:Int):Zd5 (p++ [m]) k n=(Zd5 p k n||(decide (m.num=n)&&decide (m.kind=k))):=by simp[Zd5]
theorem ZdR (p:List Mo) (m:Mo) (a:Bs):Zha (p++ [m]) a=(Zha p a||(decide (m.kind=6)&&decide (m.hd=a))):=by simp[Zha]
theorem Zp7 (h:Kn S p) {m:Mo} (hb:S.bhd m=0):Kn (S.nxt m) (p++ [m]):=by
 obtain⟨h1,h2,h3⟩:=h;unfold FSt.bhd at hb;unfold FSt.nxt;by_cases h6:m.kind=6;{rw[if_pos h6];refine⟨fun n=>?_,fun n=>?_,fun s=>?_⟩;{rw[Wy,h1,h6];simp};{rw[Wy,h2,h6];simp};{rw[ZdR];show lkB s (upB m.hd true S.r)=_;rw[Zld,h3,h6];by_cases e:s=m.hd;{rw[if_pos e,e];simp};{rw[if_neg e];have:¬ m.hd=s:=fun h=>e h.symm;simp[this]}}};rw[if_neg h6]at hb ⊢;have hH:∀s,lkB s S.r=Zha (p++ [m]) s:=fun s=>by rw[ZdR,h3];simp[h6]
 by_cases e1:m.kind=1;{rw[if_pos e1];refine⟨fun n=>?_,fun n=>?_,hH⟩;{rw[Wy];show lkB n (upB m.num true S.a)=_;rw[Zld,h1,e1];by_cases e:n=m.num;{rw[if_pos e,e];simp};{rw[if_neg e];have:¬ m.num=n:=fun h=>e h.symm;simp[this]}};{rw[Wy,h2,e1];simp}};rw[if_neg e1]at hb ⊢;refine⟨fun n=>?_,fun n=>?_,hH⟩;{rw[Wy,h1];simp[e1]}
 ·rw[Wy];show lkB n (upB m.num (decide (m.kind=7)) S.b)=_;rw[Zld,h2];by_cases e:n=m.num
  ·rw[if_pos e, e];have hb2:Zd5 p 7 m.num=false:=by
    rw[h1,h2]at hb;split at hb;{cases hb}
    ·rename_i hx;cases hy:Zd5 p 7 m.num with
     | false=>rfl
     | true=>exact absurd (.inr hy) hx
   rw[hb2];simp
  {rw[if_neg e];have:¬ m.num=n:=fun h=>e h.symm;simp[this]}
theorem Zgf:∀(l p:List Mo) (S:FSt),Kn S p→(ZcA S l p.length).2=(ZlC p l).2
 | [],p,S,_=>rfl
 |m::r,p,S,h=>by simp only[ZcA,ZlC];by_cases c:m.alone≠0;{rw[Zhg c,if_pos c,if_pos c]};have e:S.err m=S.bhd m:=if_neg c;rw[e,ZmB h,if_neg c];by_cases c2:VB p m false false≠0;{rw[if_pos c2,if_pos c2]};rw[if_neg c2,if_neg c2];have h2:=Zp7 h (m:=m) (by rw[ZmB h];exact Classical.not_not.1 c2);have:=Zgf r (p++ [m]) _ h2;rwa [List.length_append]at this
theorem ZgQ (l:List Mo):(ZI l).2=(Za6 l).2:=by unfold ZI Za6;split;{rfl};{exact Zgf l [] _ ⟨fun _=>rfl,fun _=>rfl,fun _=>rfl⟩}
