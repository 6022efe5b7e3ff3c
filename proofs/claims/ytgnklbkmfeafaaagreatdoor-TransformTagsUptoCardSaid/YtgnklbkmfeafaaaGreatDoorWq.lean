/-
  Wrapping: the program's text.
-/
import Derived.Test.YtgnklbkmfeafaaaGreatDoorWf
set_option maxHeartbeats 0
set_option maxRecDepth 100000
namespace Go.Vm
variable {n:Na} {x:Sp}
theorem Zbw {step:Int} (h:n.inE step≠0):n.wrapF step=(.none,n.inE step):=if_pos h
abbrev VM (x:Sp):Tm:=apT Vb [x.msg,apT nPk [apT nSk [atT x.to]]]
theorem Zbo {i:Nat} (h:n.inE i=0) (hx:n.steps[i]? = some x):n.wrapF i=(n.repl i (VM x)).chkd:=by
 unfold Na.wrapF
 rw [if_neg (by omega),Int.toNat_natCast,hx]
theorem Qd {s:Zg} (hs:s.length≤1048600):(atT s).Ok:= .mk (by decide) (by decide) (Nat.le_trans hs (by decide)) (by simp) (by simp)
theorem Qs (h:x.msg.Ok) (hs:x.to.length≤1048600):(VM x).Ok:=by
 refine X2 (by decide) (by simp) fun t ht=>?_
 rcases List.mem_cons.1 ht with rfl|ht
 · exact h
 rw [List.mem_singleton.1 ht]
 refine X2 (by decide) (by simp) fun t ht=>?_
 rw [List.mem_singleton.1 ht]
 refine X2 (by decide) (by simp) fun t ht=>?_
 rw [List.mem_singleton.1 ht]
 exact Qd hs
theorem Vf (x:Sp):(VM x).size=x.msg.size+4:=by
 simp only [VM,apT,atT,Tm.size,ZW]
 omega
end Go.Vm
namespace Go.Vm.Seat
variable {n:Na} {l:List Sp} {i:Nat} {x:Sp}
open Go.Proofs
theorem Zja (h : n.Sm) {oF oT sv gv : PV} {B0 B1 B2 B3 B4 B5 B6 : Box} {lv : List Nat} {nt : Nat} (hok : [PV.str n.name, slV n.rn 1 (Zi n.roles), oF, oT, sv, gv].all Zp = true)
  (hf:∀ ex,Z1 0 ⟨[B0,B1,B2,B3,B4,B5,B6]++ex,0,lv,nt⟩ [.str n.name,slV n.rn 1 (Zi n.roles),oF,oT,sv,gv]=some n.cells) :
  CallOk E0 Tryz.prog 31 [.agg [.str n.name,slV n.rn 1 (Zi n.roles),oF,oT,sv,gv]] ⟨[B0,B1,B2,B3,B4,B5,B6],0,lv,nt⟩
   (if n.chk.2=0 then .tup [.agg [.str n.name,slV n.rn 1 (Zi n.roles),oF,oT,sv,gv],.int .i64 0] else .tup [.agg Na.none.cells,.int .i64 n.chk.2])
   ⟨[B0,B1,B2,B3,B4,B5,B6,cpB n.name (slV n.rn 1 (Zi n.roles)) oF oT sv gv,if n.chk.2=0 then cpB n.name (slV n.rn 1 (Zi n.roles)) oF oT sv gv else zB],0,lv,nt⟩:=by
 have hck:=YD (c25 h hNil) (Uf (hf [cpB n.name (slV n.rn 1 (Zi n.roles)) oF oT sv gv,zB])) rfl
 rw [Zu]
 clear hf h
 have n1:=ZK n.chk.2 0
 generalize n.chk.2=e at hck n1 ⊢
 generalize n.chk.1=ln at hck
 generalize slV n.rn 1 (Zi n.roles)=R at hok hck ⊢
 by_cases c:e=0
 · rw [decide_eq_true c] at n1
   subst c
   rw [if_pos rfl,if_pos rfl]
   refine Zs (own:=fun _=>false) tOk fe31.ok ?_
   refine Wp.seq ?_
   repeat' first|refine Jc hck ?_|refine Ji ?_|refine Jt ?_|refine Jb ?_ ?_|refine Jo ?_|intro hb
   all_goals exact RetE.ret rfl rfl rfl
 · rw [decide_eq_false c] at n1
   rw [if_neg c,if_neg c]
   refine Zs (own:=fun _=>false) tOk fe31.ok ?_
   refine Wp.seq ?_
   repeat' first|refine Jc hck ?_|refine Ji ?_|refine Jt ?_|refine Jb ?_ ?_|refine Jo ?_|intro hb
   all_goals exact RetE.ret rfl rfl rfl
theorem Zfy {A B C D F G:Box} (h:l[i]? = some x) (m:Tm) (lv:List Nat) (nt:Nat):Heap.wr ⟨[A,B,C,D,.cells 7 (spC l),F,G],0,lv,nt⟩ (.ptr 4 7 i 2) m.cells=some ⟨[A,B,C,D,.cells 7 (spC (l.set i {x with msg:=m})),F,G],0,lv,nt⟩:=by
 have hn:=(Zr _ _).trans (ZX h)
 rw [Ze4 (H:=⟨[A,B,C,D,.cells 7 (spC l),F,G],0,lv,nt⟩) (el:=spC l) rfl hn (by
  obtain ⟨f,t,⟨k,m1,s,b,kz⟩,ln⟩:=x
  obtain ⟨k',m',s',b',kz'⟩:=m
  simp [Sp.cells,Tm.cells]) (Nat.zero_le _)]
 have e:x.cells.take 2++(m.cells++x.cells.drop (2+m.cells.length))=({x with msg:=m}:Sp).cells:=by
  obtain ⟨f,t,⟨k,m1,s,b,kz⟩,ln⟩:=x
  obtain ⟨k',m',s',b',kz'⟩:=m
  rfl
 rw [e,ZbG]
 rfl
theorem ZhC {H:Heap} (hb:nth H.bx 4=some (.cells 7 (spC l))) (h:l[i]? = some x):XC E0 9 (.ptr 4 7 i 1) H=some (.str x.to):=
 ZfD (ti:=⟨.string,1,16,.str []⟩) rfl rfl hb ((Zr _ _).trans (ZX h)) rfl
theorem c11 (h:n.Ti) (step:Int):∀ H,CallOk E0 Tryz.prog 11 [.agg n.cells,.int .i64 step] H (.tup [.agg (n.wrapF step).1.cells,.int .i64 (n.wrapF step).2]) H:=by
 have cW:=c41 h.sm step
 have n1:=ZK (n.inE step) 0
 by_cases c:n.inE step=0
 case neg=>
  rw [Zbw c]
  rw [decide_eq_false c] at n1
  simp only [Zu]
  generalize n.inE step=e at cW n1 ⊢
  clear h c
  obtain ⟨nm,rn,rs,fn,fr,tn,ts,sn,ss,gn,gs⟩:=n
  simp only [Na.cells] at cW ⊢
  refine Jw tOk fe11.ok rfl ?_ (by simp only [Zt,Zj];rfl)
  repeat' first|refine Jc (cW _) ?_|refine Js ?_|refine Ji ?_|refine JJ ?_|refine Jx ?_|refine Jt ?_|refine Jb ?_ ?_|refine Jo ?_|refine Jd (cW _) ?_|refine JB ?_|refine JD ?_|refine JK ?_|refine JI ?_|(apply dT (ty:=4);rfl;rfl;rfl;rfl)|(apply dF (ty:=4);rfl;rfl;rfl;rfl)|(apply dB (ty:=4);rfl;rfl;rfl;rfl)|refine Jh ?_|(apply Wp.drawS tOk follows;kernel_rfl;rfl)|intro hb
  all_goals rfl
 obtain ⟨k1,k2,k3⟩:=U0 c
 rw [decide_eq_true c] at n1
 rw [c] at cW n1
 obtain ⟨i,rfl⟩:∃ i:Nat,step=i:=⟨step.toNat,by omega⟩
 have hil:i<n.steps.length:=by omega
 obtain ⟨s,hs⟩:∃ s,n.steps[i]? = some s:=⟨n.steps[i],by simp⟩
 rw [Zbo c hs,XN]
 have hne:=(XB k1).1
 obtain ⟨B0,hB0⟩:∃ B0,B0=naB n.name n.rn n.roles n.fn n.fresh n.tn n.tags n.sn n.steps n.gn n.goals:=⟨_,rfl⟩
 obtain ⟨oF,oT,gv,GB,lv,nt,cC,hV⟩:=c26 h.sm hne B0 zB
 obtain ⟨N,hN⟩:∃ N,N=n.repl i (VM s):=⟨_,rfl⟩
 have hNe:=hN.trans (Vk hs _)
 have hss:=h.sm.ss s (List.mem_of_getElem? hs)
 have hms:=h.ms s (List.mem_of_getElem? hs)
 have hNs:N.Sm:=by
  rw [hN]
  exact WH h.sm hs (Qs hss.2.2.1 hss.2.1) (by rw [Vf];omega)
 rw [← hN]
 have hNst:N.steps=n.steps.set i {s with msg:=VM s}:=by rw [hNe]
 have hNn:N.steps≠ []:=by rw [hNst];intro e;have:=congrArg List.length e;simp at this;exact hne this
 obtain ⟨q1,q2⟩:=Zk n.rn 1 (Zi n.roles)
 obtain ⟨q3,q4⟩:=Yw hV.hF
 obtain ⟨q7,q8⟩:=Yw hV.hT
 have qg:[gv].all Zp=true:=by
  rcases hV.gl with ⟨_,rfl,_⟩|⟨_,rfl,_⟩
  · exact (Zk _ _ _).2
  · rfl
 have qa:=UH n.name q2 q4 q8 (show [PV.own 4 7 0 (spC n.steps).length].all Zp=true from rfl) qg
 have qb:=UH n.name q2 q4 q8 (show [PV.own 4 7 0 (spC N.steps).length].all Zp=true from rfl) qg
 have hlen:(spC N.steps).length=(spC n.steps).length:=by rw [hNst,ZI,ZI,List.length_set]
 have hfz:∀ (b0 b1 b2 b3 b6:Box) ex,Z1 0 ⟨[b0,b1,b2,b3,.cells 7 (spC N.steps),GB,b6]++ex,0,lv,nt⟩ [.str N.name,slV N.rn 1 (Zi N.roles),oF,oT,.own 4 7 0 (spC N.steps).length,gv]=some N.cells:=fun b0 b1 b2 b3 b6 ex=>by
  refine Zd6 (tn:=n.tn) (lv:=lv) (nt:=nt) (by rw [hNe];exact hV.hF) (by rw [hNe];exact hV.hT) (.inl (by rw [hNe])) rfl hNn ?_
  have hg:=hV.gl
  have e1:N.goals=n.goals:=by rw [hNe]
  have e2:N.gn=n.gn:=by rw [hNe]
  rw [e1,e2]
  rcases hg with ⟨a,b,c⟩|⟨a,b,c⟩
  · exact .inl ⟨a,b⟩
  · exact .inr ⟨a,b,by rw [c];rfl⟩
 have e1:N.name=n.name:=by rw [hNe]
 have e2:N.rn=n.rn:=by rw [hNe]
 have e3:N.roles=n.roles:=by rw [hNe]
 have cK:=fun (b0 b1 b2 b3 b6:Box)=>Zja hNs (oF:=oF) (oT:=oT) (sv:= .own 4 7 0 (spC N.steps).length) (gv:=gv) (B0:=b0) (B1:=b1) (B2:=b2) (B3:=b3) (B4:= .cells 7 (spC N.steps)) (B5:=GB) (B6:=b6) (lv:=lv) (nt:=nt) (by rw [e1,e2,e3];exact qb) (hfz b0 b1 b2 b3 b6)
 have fin:=fun (b0 b1 b2 b3 b6:Box) ex=>Vr (e:=0) (hfz b0 b1 b2 b3 b6 ex)
 rw [e1,e2,e3,hlen] at cK fin
 rw [hlen] at qb
 clear hfz e1 e2 e3 hNn hNs hlen hNe hN hV q1 q2 q3 q4 q7 q8 qg
 rw [hNst] at cK fin
 clear hNst
 have hia:=ZeH (n:=(spC n.steps).length) (i:=i) (by rw [ZI];exact hil)
 obtain ⟨r,hr⟩:∃ r,r=PV.tup [.agg (if N.chk.2=0 then (N,(0:Int)) else (.none,N.chk.2)).1.cells,.int .i64 (if N.chk.2=0 then (N,(0:Int)) else (.none,N.chk.2)).2]:=⟨_,rfl⟩
 rw [← hr]
 have hfr:frz3 0 hNil r=some r:=by rw [hr];exact Vh _ _
 simp only [Zu] at cK
 subst hB0
 have a1:=c30 s.to
 have a2:=Zix nSk (atT s.to)
 have a3:=Zix nPk (apT nSk [atT s.to])
 have a4:=Zhd Vb s.msg (apT nPk [apT nSk [atT s.to]])
 clear h hne hss hms c k1 k2 k3 hil
 obtain ⟨nm,rn,rs,fn,fr,tn,ts,sn,ss,gn,gs⟩:=n
 simp only [Na.cells] at cW cC cK fin hs hia qa qb ⊢
 have hldm:=Zdn (H:=⟨[naB nm rn rs fn fr tn ts sn ss gn gs,zB,cpB nm (slV rn 1 (Zi rs)) oF oT (.own 4 7 0 (spC ss).length) gv,cpB nm (slV rn 1 (Zi rs)) oF oT (.own 4 7 0 (spC ss).length) gv,.cells 7 (spC ss),GB,cpB nm (slV rn 1 (Zi rs)) oF oT (.own 4 7 0 (spC ss).length) gv],0,lv,nt⟩) rfl hs
 have hldt:=ZhC (H:=⟨[naB nm rn rs fn fr tn ts sn ss gn gs,zB,cpB nm (slV rn 1 (Zi rs)) oF oT (.own 4 7 0 (spC ss).length) gv,cpB nm (slV rn 1 (Zi rs)) oF oT (.own 4 7 0 (spC ss).length) gv,.cells 7 (spC ss),GB,cpB nm (slV rn 1 (Zi rs)) oF oT (.own 4 7 0 (spC ss).length) gv],0,lv,nt⟩) rfl hs
 have hwr:=Zfy (A:=naB nm rn rs fn fr tn ts sn ss gn gs) (B:=zB) (C:=cpB nm (slV rn 1 (Zi rs)) oF oT (.own 4 7 0 (spC ss).length) gv) (D:=cpB nm (slV rn 1 (Zi rs)) oF oT (.own 4 7 0 (spC ss).length) gv) (F:=GB) (G:=cpB nm (slV rn 1 (Zi rs)) oF oT (.own 4 7 0 (spC ss).length) gv) hs (VM s) lv nt
 generalize ss.set i {frm:=s.frm,to:=s.to,msg:=VM s,line:=s.line}=SS at hwr fin cK
 have cK:=cK (naB nm rn rs fn fr tn ts sn ss gn gs) zB (cpB nm (slV rn 1 (Zi rs)) oF oT (.own 4 7 0 (spC ss).length) gv) (cpB nm (slV rn 1 (Zi rs)) oF oT (.own 4 7 0 (spC ss).length) gv) (cpB nm (slV rn 1 (Zi rs)) oF oT (.own 4 7 0 (spC ss).length) gv)
 clear hs
 obtain ⟨sf,st,⟨Yk,Ym,Ys,Yb,Yl⟩,sln⟩:=s
 simp only [VM,atT,apT,Tm.cells] at a1 a2 a3 a4 hldm hldt hwr
 refine Jw tOk fe11.ok hfr ?_ (by simp only [Zt,Zj];rfl)
 by_cases cc:N.chk.2=0
 · rw [if_pos cc] at hr
   simp only [if_pos cc] at cK
   subst hr
   repeat' first|(apply qCl;rfl;rfl;rfl;rfl;first|exact cW _|exact cC|exact a1 _|exact a2 _|exact a3 _|exact a4 _|exact cK)|refine Js ?_|refine Ji ?_|refine JJ ?_|(apply qLd;rfl;rfl;rfl;assumption;exact IsV.any _)|refine Jx ?_|refine Jt ?_|refine Jb ?_ ?_|refine Jo ?_|(apply qSt;rfl;rfl;assumption;exact IsL.n;rfl;assumption;(first|rfl|assumption);exact IsH.mkN)|(apply dCl;rfl;rfl;rfl;rfl;rfl;first|exact cW _|exact cC|exact a1 _|exact a2 _|exact a3 _|exact a4 _|exact cK)|refine JB ?_|refine JD ?_|refine JK ?_|(apply dLd;rfl;rfl;rfl;assumption;exact IsV.any _;(first|rfl|(show Nat.blt _ _=true;first|assumption|(simp [Nat.blt];done))))|refine JI ?_|(apply dT (ty:=4);rfl;rfl;rfl;rfl)|(apply dF (ty:=4);rfl;rfl;rfl;rfl)|(apply dB (ty:=4);rfl;rfl;rfl;rfl)|(apply dSt;rfl;rfl;rfl;assumption;exact IsL.n;rfl;assumption;(first|rfl|assumption);exact IsH.mkN;(first|rfl|(simp [Zr];done));rfl;rfl)|(apply dSt;rfl;rfl;rfl;rfl;exact IsL.n;rfl;(first|rfl|assumption|(simp only [List.all_cons,List.all_nil,Z4,Bool.and_true];rfl));assumption;exact IsH.mkN;assumption;assumption;rfl)|refine Jh ?_|(apply Wp.drawS tOk follows;kernel_rfl;rfl)|intro hb
   exact fin _ _ _ _ _ [_,_]
 · rw [if_neg cc] at hr
   simp only [if_neg cc,Zu] at cK hr
   subst hr
   generalize N.chk.2=e at cK
   repeat' first|(apply qCl;rfl;rfl;rfl;rfl;first|exact cW _|exact cC|exact a1 _|exact a2 _|exact a3 _|exact a4 _|exact cK)|refine Js ?_|refine Ji ?_|refine JJ ?_|(apply qLd;rfl;rfl;rfl;assumption;exact IsV.any _)|refine Jx ?_|refine Jt ?_|refine Jb ?_ ?_|refine Jo ?_|(apply qSt;rfl;rfl;assumption;exact IsL.n;rfl;assumption;(first|rfl|assumption);exact IsH.mkN)|(apply dCl;rfl;rfl;rfl;rfl;rfl;first|exact cW _|exact cC|exact a1 _|exact a2 _|exact a3 _|exact a4 _|exact cK)|refine JB ?_|refine JD ?_|refine JK ?_|(apply dLd;rfl;rfl;rfl;assumption;exact IsV.any _;(first|rfl|(show Nat.blt _ _=true;first|assumption|(simp [Nat.blt];done))))|refine JI ?_|(apply dT (ty:=4);rfl;rfl;rfl;rfl)|(apply dF (ty:=4);rfl;rfl;rfl;rfl)|(apply dB (ty:=4);rfl;rfl;rfl;rfl)|(apply dSt;rfl;rfl;rfl;assumption;exact IsL.n;rfl;assumption;(first|rfl|assumption);exact IsH.mkN;(first|rfl|(simp [Zr];done));rfl;rfl)|(apply dSt;rfl;rfl;rfl;rfl;exact IsL.n;rfl;(first|rfl|assumption|(simp only [List.all_cons,List.all_nil,Z4,Bool.and_true];rfl));assumption;exact IsH.mkN;assumption;assumption;rfl)|refine Jh ?_|(apply Wp.drawS tOk follows;kernel_rfl;rfl)|intro hb
   all_goals rfl
