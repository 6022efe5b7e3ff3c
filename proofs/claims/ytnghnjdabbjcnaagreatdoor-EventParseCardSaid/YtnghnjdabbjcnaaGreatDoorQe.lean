/-
  Moments alone: the second text.
-/
import Derived.Test.YtnghnjdabbjcnaaGreatDoorVo
set_option maxHeartbeats 0
set_option maxRecDepth 100000
namespace Go.Vm
variable {l:List Tm} {i:Nat} {t:Tm}
def dsN (nm:Bs):Bool:= !decide ((YI nm).kind=3)
mutual
def Tm.dsR:Tm→Bool
 | .mk k nm _ _ kz=>(if k=3 then dsN nm else true)&&ZkQ kz
def ZkQ:List Tm→Bool
 | []=>true
 |t::r=>t.dsR&&ZkQ r
end
def ds1 (x:Tm):Bool:=match x with| .mk k nm _ _ _=> !(decide (k=3)&&decide ((YI nm).kind=3))
mutual
theorem Zna:∀t:Tm,t.dsR=t.all.all ds1
 | .mk k nm s b kz=>by rw[Tm.dsR,Tm.all,List.all_cons,Zkm kz];congr 1;show _= !(decide (k=3)&&decide ((YI nm).kind=3));unfold dsN;by_cases h:k=3<;>simp[h]
theorem Zkm:∀l:List Tm,ZkQ l=(Ug l).all ds1
 | []=>rfl
 |t::r=>by rw[ZkQ,Ug,List.all_append,Zna t,Zkm r]
end
theorem ZnE (t:Tm):t.dsR=t.dsB:=Zna t
theorem Zi7 {e:Bool} (h:l[i]? = some t) (he:t.dsR=e):ZkQ (l.drop i)=(e&&ZkQ (l.drop (i+1))):=by rw[ZB h];simp only[ZkQ,he]
theorem ZlI (h:l[i]? = some t):(l.drop i).all ds1=(ds1 t&&(l.drop (i+1)).all ds1):=by rw[ZB h];rfl
theorem ZkL (a b:Tm):decide (a.cmp b=0)=decide (b.cmp a=0):=by by_cases h:a.cmp b=0;{rw[decide_eq_true h,decide_eq_true (WW.2 (WW.1 h).symm)]};{rw[decide_eq_false h,decide_eq_false fun h2=>h (WW.2 (WW.1 h2).symm)]}
theorem ZuC {c:Bool} (ht:t.Ok) (h:(t.nf c).2=0):(t.nf c).1.Ok∧(t.nf c).1.size≤400:=by revert h;unfold Tm.nf;split;{rename_i h1;intro h;exact absurd h h1};rename_i h1;split;{rename_i h2;intro h;exact absurd h h2};rename_i h2;split;{rename_i h3;intro h;exact absurd h h3};split;{rename_i h4;intro h;exact absurd h h4};rename_i h4;intro _;have hs:=Y9 (Classical.not_not.1 h1);exact⟨cls_ok.nrm t (Classical.not_not.1 h2) (by omega) ht,Y9 (Classical.not_not.1 h4)⟩
def Tm.rgt (t:Tm):Int:=if(if t.valid≠0 then t.valid else t.th)≠0 then(if t.valid≠0 then t.valid else t.th) else if t.ground=false then 13 else if t.plainB true=false then 10 else 0
end Go.Vm
namespace Go.Vm.Seat
variable {t:Tm}
open Go.Proofs
theorem ZvU (nm:Bs):∀H,CO 164 [.str nm] H (.bool (dsN nm)) H:=by
 have hc:=Zux nm;unfold dsN;generalize YI nm=y at hc;obtain⟨sn,sl,sm,sk⟩:=y;have hn:=ZfI sk 3;generalize decide (sk=3)=D at hn ⊢;simp only[Sym.cells]at hc;refine Jw tOk fe164.ok rfl ?_;cases D;all_goals
  repeat' first|refine Jc (hc _) ?_|refine Kd ?_|fail
  all_goals rfl
theorem evP (ht:t.Ok):∀H,CO 163 [.agg t.cells,.fn 164 []] H (.bool t.dsR) H:=by
 induction ht with
 | @mk k nm s b kz hk hs hn hl hok ih=>
 have hc:=ZvU nm;simp only[Tm.dsR];generalize dsN nm=e at hc;refine Jw tOk fe163.ok rfl ?_;repeat' first|refine Jk ?_|refine Jc (hc _) ?_|refine Ky ?_|refine Jb ?_ ?_|refine Jo ?_|intro hb
 {have h1:= ‹(k==3)=true›;simp at h1 hb;simp[h1,hb]};all_goals
  have he:(if k=3 then e else true)=true:=by
   first
    | (have h1:= ‹(k==3)=true›;simp at h1 hb;simp[h1,hb];done)
    | (simp at hb;simp[hb];done)
  rw[he,Bool.true_and]
  clear hc
  unfold maxLen at hl
  refine Wp.while (fun m tm H=>∃(i:Nat),∃base,i+m=kz.length∧ZkQ kz=ZkQ (kz.drop i)∧tm=ovr base [(1,.fn 164 []),(18,slV b 4 (Za kz)),(19,.int .i64 (kz.length:Int)),(20,.int .i64 (i:Int))]∧H=⟨[.cells 4 [[.int .i64 k,.str nm,.int .i64 s,slV b 4 (Za kz)]]],0,[],0⟩)
   (fun m tm H hI=>Wp.drop ?_) kz.length _ _ ⟨0,_,by omega,by simp,Zd ⟨rfl,rfl,Zg (by rw[Zb]),rfl,trivial⟩,rfl⟩
  obtain⟨i,base,hi,hgo,rfl,rfl⟩:=hI
  rw[hgo]
  by_cases hlt:i<kz.length
  · obtain⟨t', ht'⟩ : ∃t', kz[i]? = some t' := ⟨kz[i], by simp⟩
    have hm:t'∈kz:=List.mem_of_getElem? ht'
    have hc:=ih t' hm
    obtain⟨e1,he1⟩:∃e1,t'.dsR=e1:=⟨_,rfl⟩
    rw[he1]at hc
    rw[Zi7 ht' he1]
    obtain⟨k',nm',s',b',kz'⟩:=t'
    have hj:=Zk ht'
    repeat' first|refine Jc (hc _) ?_|refine Jx ?_|refine Jt ?_|refine Jb ?_ ?_|refine Jz ?_ ?_|refine Jo ?_|intro hb
    · simp at hb;simp[hb]
    · have h1 : e1 = true := by simpa using hb
      rw[h1,Bool.true_and]
      exact DropQ.go [(1,.fn 164 []),(18,slV b 4 (Za kz)),(19,.int .i64 (kz.length:Int)),(20,.int .i64 ((i+1:Nat):Int))] ⟨rfl,rfl,rfl,Zg (Ze (n:=i+1) (by omega)),trivial⟩
       (by simp[Zl,under,ZC]) rfl (by simp[Ys,ZC,Zl,under]) (LoopI.go (m-1) (by omega) ⟨i+1,_,by omega,rfl,rfl,rfl⟩)
    · exfalso;simp at hb;omega
  · have e : i = kz.length := by omega
    subst e
    repeat' first|refine Jt ?_|refine Jz ?_ ?_|refine Jo ?_|intro hb
    · exfalso;simp at hb
    · simp[ZkQ]
theorem Zsq (a b:Int):YS E0 .eql 25 (.int .i64 a) (.int .i64 b)=some (.bool (decide (a=b))):=by show some (PV.bool (a==b))=_;by_cases h:a=b<;>simp[h]
theorem Up (a b:Int):YS E0 .neq 25 (.int .i64 a) (.int .i64 b)=some (.bool (!decide (a=b))):=by show some (PV.bool (!(a==b)))=_;by_cases h:a=b<;>simp[h]
theorem Zvp (ht:t.Ok) (hs:t.size≤100000):∀H,CO 121 [.agg t.cells] H (.bool (t.plainB true)) H:=by
 have hN:=ZvY ht hs;have hE:=evP ht;rw[ZnE]at hE;unfold Tm.plainB;have hq:=Zsq (t.nf true).2 0;by_cases h:(t.nf true).2=0
 ·obtain⟨n1,n2⟩:=ZuC (c:=true) ht h;have hS:=ZrN ⟨n1,by omega⟩ ⟨ht,hs⟩;generalize decide ((t.nf true).1.cmp t=0)=S at hS ⊢;generalize t.dsB=D at hE ⊢;rw[decide_eq_true h,h]at hq;rw[decide_eq_true h,Bool.true_and];rw[h]at hN;generalize (t.nf true).1=U at hN hS;obtain⟨k,nm,s,b,kz⟩:=t;obtain⟨k2,nm2,s2,b2,kz2⟩:=U;simp only[Tm.cells]at hN hE hS ⊢;refine Jw tOk fe121.ok rfl ?_;cases S;{skip;(repeat' first|refine Jk ?_|refine Jc (hN _) ?_|refine Jc (hS _) ?_|refine Kd ?_|fail);all_goals rfl}
  ·cases D;all_goals
    repeat' first|(apply qCl;rfl;rfl;rfl;rfl;first|exact hN _|exact hS _|exact hE _)|refine Kd ?_|fail
    all_goals rfl
 ·rw[decide_eq_false h]at hq;rw[decide_eq_false h];generalize (t.nf true).2=v at hN hq;generalize (t.nf true).1=U at hN ⊢;obtain⟨k,nm,s,b,kz⟩:=t;obtain⟨k2,nm2,s2,b2,kz2⟩:=U;simp only[Tm.cells]at hN ⊢;refine Jw tOk fe121.ok rfl ?_;repeat' first|refine Jk ?_|refine Jc (hN _) ?_|refine Kd ?_|fail
  all_goals rfl
theorem ZwQ (ht:t.Ok) (hs:t.size≤100000):∀H,CO 124 [.agg t.cells] H (.bool (t.plainB false)) H:=by
 have hN:=c168 ht hs;have hA:=ZuU ht hs;have hal:=t.all_len;have hB:t.dsB=t.all.all ds1:=rfl;unfold Tm.plainB;rw[hB];have hq:=Up (t.nf false).2 0;by_cases h:(t.nf false).2=0
 ·obtain⟨n1,n2⟩:=ZuC (c:=false) ht h;have hS:=ZhF ⟨ht,by omega⟩ ⟨n1,by omega⟩;rw[ZkL]at hS;generalize decide ((t.nf false).1.cmp t=0)=S at hS ⊢;rw[decide_eq_true h,h,Bool.not_true]at hq;rw[decide_eq_true h,Bool.true_and];rw[h]at hN;generalize (t.nf false).1=U at hN hS;generalize t.all=l at hA hal ⊢;obtain⟨k,nm,s,b,kz⟩:=t;obtain⟨k2,nm2,s2,b2,kz2⟩:=U;simp only[Tm.cells]at hN hA hS ⊢;refine Jw tOk fe124.ok rfl ?_;cases S;{skip;(repeat' first|refine Jc (hN _) ?_|refine Jc (hS _) ?_|refine Kd ?_|fail);all_goals rfl}
  ·rw[Bool.true_and];(repeat' first|(apply qCl;rfl;rfl;rfl;rfl;first|exact hN _|exact hS _|exact hA _)|refine Kd ?_|fail);refine Wp.while (fun m tm H=>∃(i:Nat),∃base,i+m=l.length∧l.all ds1=(l.drop i).all ds1∧tm=ovr base [(5,slV false 4 (Za l)),(6,.int .i64 (i:Int))]∧H=⟨[.cells 4 [[.int .i64 k,.str nm,.int .i64 s,slV b 4 (Za kz)]],.cells 4 [[.int .i64 k2,.str nm2,.int .i64 s2,slV b2 4 (Za kz2)]]],0,[],0⟩)
    (fun m tm H hI=>?_) l.length _ _ ⟨0,_,by omega,by simp,Zd ⟨rfl,rfl,trivial⟩,rfl⟩
   obtain⟨i,base,hi,hall,rfl,rfl⟩:=hI;rw[hall];have hcl:=Zb l;by_cases hlt:i<l.length;{obtain⟨x,hx⟩:∃x,l[i]? = some x:=⟨l[i],by simp⟩;rw[ZlI hx];obtain⟨k',nm',s',b',kz'⟩:=x;have hj:=Zk hx;have hc2:=Zue nm';have hlx:=Zv (i:Int) ((Za l).length:Int);rw[decide_eq_true (by omega)]at hlx;have q1:=Z0 k' 3;have q2:=Z0 (YI nm').kind 3;simp only[ds1];generalize (YI nm').kind=B at hc2 q2 ⊢;generalize decide (k'=3)=C1 at q1 ⊢;generalize decide (B=3)=C2 at q2 ⊢;cases C1;{skip;(repeat' first|refine Jk ?_|refine KI ?_|fail);exact LoopI.go (m-1) (by omega) ⟨i+1,_,by omega,rfl,Zd ⟨rfl,Zg (Ze (n:=i+1) (by omega)),trivial⟩,rfl⟩};{cases C2;{skip;(repeat' first|refine Jc (hc2 _) ?_|refine KI ?_|fail);exact LoopI.go (m-1) (by omega) ⟨i+1,_,by omega,rfl,Zd ⟨rfl,Zg (Ze (n:=i+1) (by omega)),trivial⟩,rfl⟩};{skip;(repeat' first|refine Jc (hc2 _) ?_|refine KI ?_|fail);all_goals rfl}}};{(have e:i=l.length:=by omega);subst e;have hlx:=Zv (l.length:Int) ((Za l).length:Int);rw[decide_eq_false (by omega)]at hlx;(repeat' first|refine Kw ?_|fail);rw[List.drop_length];rfl}
 ·rw[decide_eq_false h,Bool.not_false]at hq;rw[decide_eq_false h];generalize (t.nf false).2=v at hN hq;generalize (t.nf false).1=U at hN ⊢;obtain⟨k,nm,s,b,kz⟩:=t;obtain⟨k2,nm2,s2,b2,kz2⟩:=U;simp only[Tm.cells]at hN ⊢;refine Jw tOk fe124.ok rfl ?_;repeat' first|refine Jk ?_|refine Jc (hN _) ?_|refine Kd ?_|fail
  all_goals rfl
theorem ZiX {M:List Tm} (hM:M= []↔UD 1 t.all= []):t.ground=decide (M.length=0):=by
 unfold Tm.ground;cases h:UD 1 t.all with
 |nil=>rw[hM.2 h];rfl
 |cons a r=>
  have h2:M≠ []:=fun e=>by rw[hM.1 e]at h;cases h
  simp[h2]
theorem c84 (ht:t.Ok) (hs:t.size≤90000):∀H,CO 84 [.agg t.cells] H (.int .i64 t.rgt) H:=by
 have h1:=Zuo ht (by omega);obtain⟨M,hM,h2⟩:=Zw0 ht hs;have h3:=Zvp ht (by omega);have hg:=ZiX hM;unfold Tm.rgt;rw[hg];have n1:=Up (if t.valid≠0 then t.valid else t.th) 0;have hcl:=Zb M;have n2:=Y7 ((Za M).length:Int) 0;generalize (if t.valid≠0 then t.valid else t.th)=e1 at h1 n1 ⊢;generalize t.plainB true=f at h3 ⊢;clear hg hM;obtain⟨k,nm,s,tb,kz⟩:=t;simp only[Tm.cells]at h1 h2 h3 ⊢;refine Jw tOk fe84.ok rfl ?_;by_cases c1:e1=0
 ·rw[decide_eq_true c1]at n1;rw[if_neg (by omega)];subst c1;by_cases c2:M.length=0
  ·rw[decide_eq_true c2, if_neg (by simp)];rw[decide_eq_false (by omega)]at n2;cases f;all_goals
    repeat' first|(apply qCl;rfl;rfl;rfl;rfl;first|exact h1 _|exact h2 _|exact h3 _)|refine Kw ?_|fail
    all_goals rfl
  {rw[decide_eq_false c2,if_pos rfl];rw[decide_eq_true (by omega)]at n2;(repeat' first|refine Jc (h1 _) ?_|refine Jc (h2 _) ?_|refine KA ?_|fail);all_goals rfl}
 ·rw[decide_eq_false c1]at n1;rw[if_pos c1];repeat' first|refine Jc (h1 _) ?_|refine Kk ?_|fail
  all_goals rfl
theorem c85 (ht:t.Ok) (hs:t.size≤90000):∀H,CO 85 [.agg t.cells] H (.int .i64 t.rgt) H:=by
 have h1:=ZuW ht (by omega);have h2:=Zvl ht (by omega);have h3:=ZwQ ht (by omega);rw[← ZhK]at h3;unfold Tm.rgt;have n1:=Up (if t.valid≠0 then t.valid else t.th) 0;generalize (if t.valid≠0 then t.valid else t.th)=e1 at h1 n1 ⊢;generalize t.plainB true=f at h3 ⊢;generalize t.ground=g at h2 ⊢;obtain⟨k,nm,s,tb,kz⟩:=t;simp only[Tm.cells]at h1 h2 h3 ⊢;refine Jw tOk fe85.ok rfl ?_;by_cases c1:e1=0
 ·rw[decide_eq_true c1]at n1;rw[if_neg (by omega)];subst c1;cases g;{skip;(repeat' first|refine Jc (h1 _) ?_|refine Jc (h2 _) ?_|refine Kd ?_|fail);all_goals rfl}
  ·cases f;all_goals
    repeat' first|(apply qCl;rfl;rfl;rfl;rfl;first|exact h1 _|exact h2 _|exact h3 _)|refine Kd ?_|fail
    all_goals rfl
 ·rw[decide_eq_false c1]at n1;rw[if_pos c1];repeat' first|refine Jc (h1 _) ?_|refine Kk ?_|fail
  all_goals rfl
end Go.Vm.Seat
namespace Go.Vm
def ZsJ (m:Mo):Bool:=decide (m.num<0)||(decide (99<m.num)||(decide (m.role<0)||(decide (4≤m.role)||(decide (m.goal<0)||decide (7<m.goal)))))
theorem or6 (b0 b1 b2 b3 b4 b5:Bool):b0=true∨(b0=false∧b1=true)∨(b0=false∧b1=false∧b2=true)∨(b0=false∧b1=false∧b2=false∧b3=true)∨(b0=false∧b1=false∧b2=false∧b3=false∧b4=true)∨(b0=false∧b1=false∧b2=false∧b3=false∧b4=false∧b5=true)∨(b0=false∧b1=false∧b2=false∧b3=false∧b4=false∧b5=false):=by cases b0<;>cases b1<;>cases b2<;>cases b3<;>cases b4<;>cases b5<;>simp
def ZmK:List Tm→Int
 | []=>0
 |t::r=>if t.rgt≠0 then t.rgt else ZmK r
theorem Zev {l:List Tm} {i:Nat} {t:Tm} (h:l[i]? = some t):ZmK (l.drop i)=if t.rgt≠0 then t.rgt else ZmK (l.drop (i+1)):=by rw[ZB h];rfl
def Mo.alone (m:Mo):Int:=if Vy m=false then 1 else if ZsJ m=true then 7 else if(m.agents.any fun s=> !YV s)=true then 2 else ZmK m.terms
structure Mo.Sm (m:Mo):Prop where
 ok:m.Ok
 al:m.agents.length≤1000
 tl:m.terms.length≤1000
 ts:∀t,t∈m.terms→t.Ok∧t.size≤90000
end Go.Vm
namespace Go.Vm.Seat
open Go.Proofs
theorem c45 {m:Mo} (hm:m.Sm):∀H,CO 45 [.agg m.cells] H (.int .i64 m.alone) H:=by
 have hF:=c55 m;have hN:=Zvx hm.ok.ags (by have:=hm.al;omega) m.an;have hts:=hm.ts;have htl:=hm.tl;unfold Mo.alone;generalize Vy m=F at hF ⊢;obtain⟨kd,nu,ro,an,ag,go,tn,te⟩:=m;simp only[Mo.cells,ZsJ]at hF hN hts htl ⊢;generalize (ag.any fun s=> !YV s)=A at hN ⊢;have x1:=Zv nu 0;have x2:=Y7 nu 99;have x3:=Zv ro 0;have x4:=XP ro 4;have x5:=Zv go 0;have x6:=Y7 go 7;generalize decide (nu<0)=b1 at x1 ⊢;generalize decide (99<nu)=b2 at x2 ⊢;generalize decide (ro<0)=b3 at x3 ⊢;generalize decide (4≤ro)=b4 at x4 ⊢;generalize decide (go<0)=b5 at x5 ⊢;generalize decide (7<go)=b6 at x6 ⊢;refine Jw tOk fe45.ok rfl ?_;cases F with
 |false=>
  repeat' first|refine Jc (hF _) ?_|refine Ka ?_|fail
  all_goals rfl
 |true=>
  rw[if_neg (by simp)];rcases or6 b1 b2 b3 b4 b5 b6 with rfl|⟨rfl,rfl⟩|⟨rfl,rfl,rfl⟩|⟨rfl,rfl,rfl,rfl⟩|⟨rfl,rfl,rfl,rfl,rfl⟩|⟨rfl,rfl,rfl,rfl,rfl,rfl⟩|⟨rfl,rfl,rfl,rfl,rfl,rfl⟩;iterate 6
   repeat' first|refine Jk ?_|refine Jc (hF _) ?_|refine Kd ?_|fail
   · rfl
  rw[if_neg (by simp)];cases A with
  | true=>(repeat' first|refine Jc (hN _) ?_|refine Jo ?_|fail);all_goals rfl
  | false=>
   rw[if_neg (by simp)];have hcl:=Zb te;(repeat' first|refine Jc (hN _) ?_|refine KS ?_|fail);refine Wp.while (fun m2 tm H=>∃(i:Nat) (base:TM),i+m2=te.length∧ZmK te=ZmK (te.drop i)∧tm=ovr base [(41,slV tn 4 (Za te)),(42,.int .i64 (te.length:Int)),(43,.int .i64 (i:Int))]∧H=⟨[.cells 6 [[.int .i64 kd,.int .i64 nu,.int .i64 ro,slV an 1 (Zp ag),.int .i64 go,slV tn 4 (Za te)]]],0,[],0⟩)
    (fun m2 tm H hI=>Wp.drop ?_) te.length _ _ ⟨0,_,by omega,by simp,Zd ⟨rfl,Zg (by rw[hcl]),rfl,trivial⟩,rfl⟩
   obtain⟨i,base,hi,hgo,rfl,rfl⟩:=hI;rw[hgo];by_cases hlt:i<te.length;{obtain⟨t,ht⟩:∃t,te[i]? = some t:=⟨te[i],by simp⟩;have hR:=hts t (List.mem_of_getElem? ht);have hR:=c84 hR.1 hR.2;have hlx:=Zv (i:Int) (te.length:Int);rw[decide_eq_true (by omega)]at hlx;rw[Zev ht];have n1:=Up t.rgt 0;generalize t.rgt=e at hR n1 ⊢;obtain⟨k',nm',s',b',kz'⟩:=t;have hj:=Zk ht;simp only[Tm.cells]at hR;by_cases c1:e=0;{rw[decide_eq_true c1]at n1;rw[if_neg (by omega)];(repeat' first|refine Jc (hR _) ?_|refine KQ ?_|fail);refine DropQ.go [(41,slV tn 4 (Za te)),(42,.int .i64 (te.length:Int)),(43,.int .i64 ((i+1:Nat):Int))] ?_ ?_ rfl ?_ ?_;{exact⟨rfl,rfl,Zg (Ze (n:=i+1) (by omega)),trivial⟩};{simp[Zl,under]};{simp[Ys,ZC,Zl,under]};{exact LoopI.go (m2-1) (by omega) ⟨i+1,_,by omega,rfl,rfl,rfl⟩}};{rw[decide_eq_false c1]at n1;rw[if_pos c1];(repeat' first|refine Jc (hR _) ?_|refine KQ ?_|fail);all_goals rfl}};{(have e:i=te.length:=by omega);subst e;have hlx:=Zv (te.length:Int) (te.length:Int);rw[decide_eq_false (by omega)]at hlx;rw[List.drop_length];(repeat' first|refine Kk ?_|fail);all_goals rfl}
end Go.Vm.Seat
namespace Go.Vm
theorem ZjV (s:Bs):YV s=Z5 s:=by
 unfold YV Tm.valid;have h:(Tm.mk 2 s 0 true []).nodes=if Z5 s=true then 0 else 2:=by
  have e:YW 2 s 0 0=if Z5 s=true then 0 else 2:=by unfold YW;cases Z5 s<;>simp
  simp only[Tm.nodes,List.length_nil,e,Yy];cases Z5 s<;>simp
 rw[h];cases Z5 s<;>simp[Tm.size,Zm,Tm.depth,YB]
def Zqv (m:Mo):Bool:=
 if m.kind=1 then decide (2≤(m.agents.length:Int))&&(decide ((m.agents.length:Int)≤4)&&(decide ((m.terms.length:Int)=0)&&decide (m.goal=0))) else
 if m.kind=2∨m.kind=3 then decide ((m.agents.length:Int)=0)&&(decide ((m.terms.length:Int)=1)&&(decide (m.goal=0)&&decide (m.role=0))) else
 if m.kind=4∨m.kind=5 then decide ((m.agents.length:Int)=0)&&(decide ((m.terms.length:Int)≤12)&&decide (m.role=0)) else
 if m.kind=6 then decide ((m.agents.length:Int)=1)&&(decide ((m.terms.length:Int)=0)&&(decide (m.goal=0)&&(decide (m.role=0)&&decide (m.num=0)))) else
 if m.kind=7 then decide ((m.agents.length:Int)=0)&&(decide ((m.terms.length:Int)=0)&&(decide (m.goal=0)&&decide (m.role=0))) else false
theorem Zb4 (m:Mo):Zqv m=Vy m:=by
 obtain⟨kd,nu,ro,an,ag,go,tn,te⟩:=m;unfold Zqv Vy X7;simp only;by_cases h:kd<1∨7<kd;{rw[if_pos h];repeat (rw[if_neg (by omega)])};rw[if_neg h];have ha:(0:Int)≤(ag.length:Int):=by omega
 have ht:(0:Int)≤(te.length:Int):=by omega
 generalize (ag.length:Int)=a at ha ⊢;generalize (te.length:Int)=t at ht ⊢;rw[Bool.eq_iff_iff];by_cases h1:kd=1;{simp only[h1,if_true,Bool.and_eq_true,decide_eq_true_eq,Bool.false_or,Bool.true_or,Bool.true_and];omega};by_cases h2:kd=2;{subst h2;simp[Bool.and_eq_true,decide_eq_true_eq];omega};by_cases h3:kd=3;{subst h3;simp[Bool.and_eq_true,decide_eq_true_eq];omega};by_cases h4:kd=4;{subst h4;simp[Bool.and_eq_true,decide_eq_true_eq];omega};by_cases h5:kd=5;{subst h5;simp[Bool.and_eq_true,decide_eq_true_eq];omega};by_cases h6:kd=6;{subst h6;simp[Bool.and_eq_true,decide_eq_true_eq];omega};have h7:kd=7:=by omega
 subst h7;simp[Bool.and_eq_true,decide_eq_true_eq];omega
theorem ff3 (b0 b1 b2:Bool):(b0=false)∨(b0=true∧b1=false)∨(b0=true∧b1=true∧b2=false)∨(b0=true∧b1=true∧b2=true):=by cases b0<;>cases b1<;>cases b2<;>simp
theorem ff4 (b0 b1 b2 b3:Bool):(b0=false)∨(b0=true∧b1=false)∨(b0=true∧b1=true∧b2=false)∨(b0=true∧b1=true∧b2=true∧b3=false)∨(b0=true∧b1=true∧b2=true∧b3=true):=by cases b0<;>cases b1<;>cases b2<;>cases b3<;>simp
theorem Zix {l:List Bs} {i:Nat} {a:Bs} (h:l[i]? = some a):((l.drop i).any fun s=> !YV s)=(!YV a||(l.drop (i+1)).any fun s=> !YV s):=by rw[ZB h];rfl
end Go.Vm
namespace Go.Vm.Seat
open Go.Proofs
theorem c64 (m:Mo):∀H,CO 64 [.agg m.cells] H (.bool (Zqv m)) H:=by
 obtain⟨kd,nu,ro,an,ag,go,tn,te⟩:=m;simp only[Mo.cells,Zqv];rw[show(ag.length:Int)=((Zp ag).length:Int) by rw[Zu],show(te.length:Int)=((Za te).length:Int) by rw[Zb]];have k1:=Z0 kd 1;have k2:=Z0 kd 2;have k3:=Z0 kd 3;have k4:=Z0 kd 4;have k5:=Z0 kd 5;have k6:=Z0 kd 6;have k7:=Z0 kd 7;have a1:=XP ((Zp ag).length:Int) 2;have a2:=Ve ((Zp ag).length:Int) 4;have a3:=Z0 ((Zp ag).length:Int) 0;have a4:=Z0 ((Zp ag).length:Int) 1;have t1:=Z0 ((Za te).length:Int) 0;have t2:=Z0 ((Za te).length:Int) 1;have t3:=Ve ((Za te).length:Int) 12;have w1:=Z0 go 0;have w2:=Z0 ro 0;have w3:=Z0 nu 0;generalize decide ((2:Int)≤((Zp ag).length:Int))=A1 at a1 ⊢;generalize decide (((Zp ag).length:Int)≤4)=A2 at a2 ⊢;generalize decide (((Zp ag).length:Int)=0)=A3 at a3 ⊢;generalize decide (((Zp ag).length:Int)=1)=A4 at a4 ⊢;generalize decide (((Za te).length:Int)=0)=T1 at t1 ⊢;generalize decide (((Za te).length:Int)=1)=T2 at t2 ⊢;generalize decide (((Za te).length:Int)≤12)=T3 at t3 ⊢;generalize decide (go=0)=W1 at w1 ⊢;generalize decide (ro=0)=W2 at w2 ⊢;generalize decide (nu=0)=W3 at w3 ⊢;refine Jw tOk fe64.ok rfl ?_;by_cases h1:kd=1
 ·rw[decide_eq_true h1]at k1;rw[if_pos h1];rcases ff4 A1 A2 T1 W1 with rfl|⟨rfl,rfl⟩|⟨rfl,rfl,rfl⟩|⟨rfl,rfl,rfl,rfl⟩|⟨rfl,rfl,rfl,rfl⟩;all_goals
   repeat' first|refine Jk ?_|refine Kw ?_|fail
   all_goals rfl
 rw[decide_eq_false h1]at k1;rw[if_neg h1];by_cases h2:kd=2
 ·rw[decide_eq_true h2]at k2;rw[if_pos (.inl h2)];rcases ff4 A3 T2 W1 W2 with rfl|⟨rfl,rfl⟩|⟨rfl,rfl,rfl⟩|⟨rfl,rfl,rfl,rfl⟩|⟨rfl,rfl,rfl,rfl⟩;all_goals
   repeat' first|refine Jk ?_|refine Kw ?_|fail
   all_goals rfl
 rw[decide_eq_false h2]at k2;by_cases h3:kd=3
 ·rw[decide_eq_true h3]at k3;rw[if_pos (.inr h3)];rcases ff4 A3 T2 W1 W2 with rfl|⟨rfl,rfl⟩|⟨rfl,rfl,rfl⟩|⟨rfl,rfl,rfl,rfl⟩|⟨rfl,rfl,rfl,rfl⟩;all_goals
   repeat' first|refine Jk ?_|refine Kw ?_|fail
   all_goals rfl
 rw[decide_eq_false h3]at k3;rw[if_neg (by omega)];by_cases h4:kd=4
 ·rw[decide_eq_true h4]at k4;rw[if_pos (.inl h4)];rcases ff3 A3 T3 W2 with rfl|⟨rfl,rfl⟩|⟨rfl,rfl,rfl⟩|⟨rfl,rfl,rfl⟩;all_goals
   repeat' first|refine Jk ?_|refine Kw ?_|fail
   all_goals rfl
 rw[decide_eq_false h4]at k4;by_cases h5:kd=5
 ·rw[decide_eq_true h5]at k5;rw[if_pos (.inr h5)];rcases ff3 A3 T3 W2 with rfl|⟨rfl,rfl⟩|⟨rfl,rfl,rfl⟩|⟨rfl,rfl,rfl⟩;all_goals
   repeat' first|refine Jk ?_|refine Kw ?_|fail
   all_goals rfl
 rw[decide_eq_false h5]at k5;rw[if_neg (by omega)];by_cases h6:kd=6
 ·rw[decide_eq_true h6]at k6;rw[if_pos h6];rcases ff5 A4 T1 W1 W2 W3 with rfl|⟨rfl,rfl⟩|⟨rfl,rfl,rfl⟩|⟨rfl,rfl,rfl,rfl⟩|⟨rfl,rfl,rfl,rfl,rfl⟩|⟨rfl,rfl,rfl,rfl,rfl⟩;all_goals
   repeat' first|refine Jk ?_|refine Kw ?_|fail
   all_goals rfl
 rw[decide_eq_false h6]at k6;rw[if_neg h6];by_cases h7:kd=7
 ·rw[decide_eq_true h7]at k7;rw[if_pos h7];rcases ff4 A3 T1 W1 W2 with rfl|⟨rfl,rfl⟩|⟨rfl,rfl,rfl⟩|⟨rfl,rfl,rfl,rfl⟩|⟨rfl,rfl,rfl,rfl⟩;all_goals
   repeat' first|refine Jk ?_|refine Kw ?_|fail
   all_goals rfl
 rw[decide_eq_false h7]at k7;rw[if_neg h7];repeat' first|refine Kw ?_|fail
 all_goals rfl
theorem c46 {m:Mo} (hm:m.Sm):∀H,CO 46 [.agg m.cells] H (.int .i64 m.alone) H:=by
 have hF:=c64 m;rw[Zb4]at hF;have hags:=hm.ok.ags;have hal:=hm.al;have hts:=hm.ts;have htl:=hm.tl;unfold Mo.alone;generalize Vy m=F at hF ⊢;obtain⟨kd,nu,ro,an,ag,go,tn,te⟩:=m;simp only[Mo.cells,ZsJ]at hF hags hal hts htl ⊢;have hr4:decide (4≤ro)=decide (3<ro):=by congr 1
 rw[hr4];have x1:=Zv nu 0;have x2:=Y7 nu 99;have x3:=Zv ro 0;have x4:=Y7 ro 3;have x5:=Zv go 0;have x6:=Y7 go 7;generalize decide (nu<0)=b1 at x1 ⊢;generalize decide (99<nu)=b2 at x2 ⊢;generalize decide (ro<0)=b3 at x3 ⊢;generalize decide (3<ro)=b4 at x4 ⊢;generalize decide (go<0)=b5 at x5 ⊢;generalize decide (7<go)=b6 at x6 ⊢;refine Jw tOk fe46.ok rfl ?_;cases F with
 |false=>
  repeat' first|refine Jc (hF _) ?_|refine Ka ?_|fail
  all_goals rfl
 |true=>
  rw[if_neg (by simp)];rcases or6 b1 b2 b3 b4 b5 b6 with rfl|⟨rfl,rfl⟩|⟨rfl,rfl,rfl⟩|⟨rfl,rfl,rfl,rfl⟩|⟨rfl,rfl,rfl,rfl,rfl⟩|⟨rfl,rfl,rfl,rfl,rfl,rfl⟩|⟨rfl,rfl,rfl,rfl,rfl,rfl⟩;iterate 6
   repeat' first|refine Jk ?_|refine Jc (hF _) ?_|refine Kd ?_|fail
   · rfl
  rw[if_neg (by simp)];have hcl:=Zb te;have hsl:=Zu ag;skip;refine Wp.while (fun m2 tm H=>∃(i:Nat) (base:TM),i+m2=ag.length∧(ag.any fun s=> !YV s)=((ag.drop i).any fun s=> !YV s)∧tm=ovr base [(1,.ptr 0 6 0 0),(3,.int .i64 (i:Int))]∧H=⟨[.cells 6 [[.int .i64 kd,.int .i64 nu,.int .i64 ro,slV an 1 (Zp ag),.int .i64 go,slV tn 4 (Za te)]]],0,[],0⟩)
   (fun m2 tm H hI=>?_) ag.length _ _ ⟨0,_,by omega,by simp,Zd ⟨rfl,rfl,trivial⟩,rfl⟩
  obtain⟨i,base,hi,hgo,rfl,rfl⟩:=hI;rw[hgo];by_cases hlt:i<ag.length
  ·obtain⟨a,ha⟩:∃a,ag[i]? = some a:=⟨ag[i],by simp⟩;have hj:=YU ha;have hI:=c62 a (hags a (List.mem_of_getElem? ha));rw[← ZjV]at hI;have hlx:=Zv (i:Int) ((Zp ag).length:Int);rw[decide_eq_true (by omega)]at hlx;rw[Zix ha];generalize YV a=B at hI ⊢;cases B with
   | true=>rw[Bool.not_true,Bool.false_or];(repeat' first|refine Jc (hI _) ?_|refine KI ?_|fail);exact LoopI.go (m2-1) (by omega) ⟨i+1,_,by omega,rfl,Zd ⟨rfl,Zg (Ze (n:=i+1) (by omega)),trivial⟩,rfl⟩
   | false=>rw[Bool.not_false,Bool.true_or,if_pos rfl];(repeat' first|refine Jc (hI _) ?_|refine KI ?_|fail);all_goals rfl
  ·(have e : i = ag.length := by omega);subst e;have hlx:=Zv (ag.length:Int) ((Zp ag).length:Int);rw[decide_eq_false (by omega)]at hlx;rw[List.drop_length,List.any_nil,if_neg (by simp)];clear hgo;(repeat' first|refine KA ?_|fail);refine Wp.while (fun m2 tm H=>∃(i:Nat) (base:TM),i+m2=te.length∧ZmK te=ZmK (te.drop i)∧tm=ovr base [(1,.ptr 0 6 0 0),(4,.int .i64 (i:Int))]∧H=⟨[.cells 6 [[.int .i64 kd,.int .i64 nu,.int .i64 ro,slV an 1 (Zp ag),.int .i64 go,slV tn 4 (Za te)]]],0,[],0⟩)
    (fun m2 tm H hI=>?_) te.length _ _ ⟨0,_,by omega,by simp,Zd ⟨rfl,rfl,trivial⟩,rfl⟩
   obtain⟨i,base,hi,hgo,rfl,rfl⟩:=hI;rw[hgo];by_cases hlt:i<te.length;{obtain⟨t,ht⟩:∃t,te[i]? = some t:=⟨te[i],by simp⟩;have hR:=hts t (List.mem_of_getElem? ht);have hR:=c85 hR.1 hR.2;have hlx:=Zv (i:Int) ((Za te).length:Int);rw[decide_eq_true (by omega)]at hlx;rw[Zev ht];have n1:=Up t.rgt 0;generalize t.rgt=e at hR n1 ⊢;obtain⟨k',nm',s',b',kz'⟩:=t;have hj:=Zk ht;simp only[Tm.cells]at hR;by_cases c1:e=0;{rw[decide_eq_true c1]at n1;rw[if_neg (by omega)];(repeat' first|refine Jc (hR _) ?_|refine Kf ?_|refine KB ?_|fail);exact LoopI.go (m2-1) (by omega) ⟨i+1,_,by omega,rfl,Zd ⟨rfl,Zg (Ze (n:=i+1) (by omega)),trivial⟩,rfl⟩};{rw[decide_eq_false c1]at n1;rw[if_pos c1];(repeat' first|refine Jc (hR _) ?_|refine Kf ?_|refine KB ?_|fail);all_goals rfl}};{(have e:i=te.length:=by omega);subst e;have hlx:=Zv (te.length:Int) ((Za te).length:Int);rw[decide_eq_false (by omega)]at hlx;rw[List.drop_length];(repeat' first|refine KA ?_|fail);all_goals rfl}
