/-
  Padding: the program's text, whole.
-/
import Derived.Test.YtgnklbkmfeafaaaGreatDoorWe
set_option maxHeartbeats 0
set_option maxRecDepth 100000
namespace Go.Vm
variable {n:Na} {size step:Int}
theorem Zdv (h:n.inE step≠0):n.pad step size=(.none,n.inE step):=if_pos h
theorem Zdc (h:n.inE step=0) (h2:size<1∨6<size):n.pad step size=(.none,7):=by unfold Na.pad;rw [if_neg (by omega),if_pos h2]
theorem ZdU {i : Nat} {s : Sp} (h : n.inE i = 0) (h2 : ¬ (size < 1 ∨ 6 < size)) (hs : n.steps[i]? = some s) :
  n.pad i size=((n.with (nnF n.nms ZcU)).repl i (apT ZN [s.msg,WF (atT (nnF n.nms ZcU)) (size.toNat-1)])).chkd:=by
 unfold Na.pad
 rw [if_neg (by omega),if_neg h2,Int.toNat_natCast,hs]
 rfl
theorem U0 (h:n.inE step=0):n.chk.2=0∧0≤step∧step<n.steps.length:=by
 unfold Na.inE at h
 split at h
 · contradiction
 rename_i h1
 split at h
 · contradiction
 · exact ⟨by simpa using h1,by omega,by omega⟩
theorem XN (n:Na):n.chkd=if n.chk.2=0 then (n,0) else (.none,n.chk.2):=by
 unfold Na.chkd
 by_cases h:n.chk.2=0
 · rw [if_neg (by omega),if_pos h]
 · rw [if_pos h,if_neg h]
end Go.Vm
namespace Go.Vm.Seat
variable {i:Nat} {l:List Sp} {x:Sp}
open Go.Proofs
theorem ZeH {n:Nat} (h:i<n):ZP E0 24 (.own 4 7 0 n) (.int .i64 (i:Int))=some (.ptr 4 7 i 0):=by
 have:=ZfP (E:=E0) (t:=24) (id:=4) (es:=7) (ix:=0) (k:= .i64) rfl rfl rfl rfl h
 rwa [Nat.zero_add] at this
theorem Zdn {H:Heap} (hb:nth H.bx 4=some (.cells 7 (spC l))) (h:l[i]? = some x):XC E0 49 (.ptr 4 7 i 2) H=some (.agg x.msg.cells):=by
 obtain ⟨ti,ht,hk,hs⟩:∃ ti,E0.T 49=some ti∧VG ti.tk=true∧ti.size=4:=⟨_,rfl,rfl,rfl⟩
 have hn:=(Zr _ _).trans (ZX h)
 obtain ⟨f,t,⟨k,m,s,b,kz⟩,ln⟩:=x
 simp only [XC,ht,hk,if_true]
 rw [ZhF hb hn (by rw [hs];simp [Sp.cells,Tm.cells])]
 simp only [Zfn,hk,if_true,hs]
 rfl
theorem ZhS {A B C D F G I:Box} (h:l[i]? = some x) (m:Tm) (lv:List Nat) (nt:Nat):Heap.wr ⟨[A,B,C,D,.cells 7 (spC l),F,G,I],0,lv,nt⟩ (.ptr 4 7 i 2) m.cells=some ⟨[A,B,C,D,.cells 7 (spC (l.set i {x with msg:=m})),F,G,I],0,lv,nt⟩:=by
 have hn:=(Zr _ _).trans (ZX h)
 rw [Ze4 (H:=⟨[A,B,C,D,.cells 7 (spC l),F,G,I],0,lv,nt⟩) (el:=spC l) rfl hn (by
  obtain ⟨f,t,⟨k,m1,s,b,kz⟩,ln⟩:=x
  obtain ⟨k',m',s',b',kz'⟩:=m
  simp [Sp.cells,Tm.cells]) (Nat.zero_le _)]
 have e:x.cells.take 2++(m.cells++x.cells.drop (2+m.cells.length))=({x with msg:=m}:Sp).cells:=by
  obtain ⟨f,t,⟨k,m1,s,b,kz⟩,ln⟩:=x
  obtain ⟨k',m',s',b',kz'⟩:=m
  rfl
 rw [e,ZbG]
 rfl
theorem Vh (n:Na) (e:Int):frz3 0 hNil (.tup [.agg n.cells,.int .i64 e])=some (.tup [.agg n.cells,.int .i64 e]):=by
 refine Vr ?_
 simp only [Na.cells,Z1,Ye]
 rfl
theorem c16 {n:Na} (h:n.Ti) (step size:Int):∀ H,CallOk E0 Tryz.prog 16 [.agg n.cells,.int .i64 step,.int .i64 size] H (.tup [.agg (n.pad step size).1.cells,.int .i64 (n.pad step size).2]) H:=by
 have cW:=c41 h.sm step
 have n1:=ZK (n.inE step) 0
 have l1:=Zn size 1
 have l6:=Yv size 6
 by_cases c:n.inE step=0
 case neg=>
  rw [Zdv c]
  rw [decide_eq_false c] at n1
  simp only [Zu]
  generalize n.inE step=e at cW n1 ⊢
  clear h c
  obtain ⟨nm,rn,rs,fn,fr,tn,ts,sn,ss,gn,gs⟩:=n
  simp only [Na.cells] at cW ⊢
  refine Jw tOk fe16.ok rfl ?_ (by simp only [Zt,Zj];rfl)
  repeat' first|refine Jk ?_|refine Jc (cW _) ?_|refine Js ?_|refine JA ?_|refine Ji ?_|refine JJ ?_|refine Jx ?_|refine Jt ?_|refine Jb ?_ ?_|refine Jo ?_|(apply dK;rfl;rfl;rfl)|refine Jd (cW _) ?_|refine JB ?_|(apply dAq;rfl;rfl;rfl;rfl;rfl;rfl;(first|assumption|solve_by_elim))|(apply dAp;rfl;rfl;rfl;rfl;rfl;(first|assumption|solve_by_elim);rfl)|refine JD ?_|refine JK ?_|refine JI ?_|(apply dT (ty:=4);rfl;rfl;rfl;rfl)|(apply dF (ty:=4);rfl;rfl;rfl;rfl)|(apply dB (ty:=4);rfl;rfl;rfl;rfl)|refine Jh ?_|(apply Wp.drawS tOk follows;kernel_rfl;rfl)|intro hb
  all_goals rfl
 obtain ⟨k1,k2,k3⟩:=U0 c
 by_cases c2:size<1∨6<size
 · rw [Zdc c c2]
   rw [decide_eq_true c] at n1
   rw [c] at cW n1
   simp only [Zu]
   clear h c k1 k2 k3
   obtain ⟨nm,rn,rs,fn,fr,tn,ts,sn,ss,gn,gs⟩:=n
   simp only [Na.cells] at cW ⊢
   refine Jw tOk fe16.ok rfl ?_ (by simp only [Zt,Zj];rfl)
   by_cases c3:size<1
   · rw [decide_eq_true c3] at l1
     repeat' first|refine Jk ?_|refine Jc (cW _) ?_|refine Js ?_|refine JA ?_|refine Ji ?_|refine JJ ?_|refine Jx ?_|refine Jt ?_|refine Jb ?_ ?_|refine Jo ?_|(apply dK;rfl;rfl;rfl)|refine Jd (cW _) ?_|refine JB ?_|(apply dAq;rfl;rfl;rfl;rfl;rfl;rfl;(first|assumption|solve_by_elim))|(apply dAp;rfl;rfl;rfl;rfl;rfl;(first|assumption|solve_by_elim);rfl)|refine JD ?_|refine JK ?_|refine JI ?_|(apply dT (ty:=4);rfl;rfl;rfl;rfl)|(apply dF (ty:=4);rfl;rfl;rfl;rfl)|(apply dB (ty:=4);rfl;rfl;rfl;rfl)|refine Jh ?_|(apply Wp.drawS tOk follows;kernel_rfl;rfl)|intro hb
     all_goals rfl
   · rw [decide_eq_false c3] at l1
     rw [decide_eq_true (by omega)] at l6
     repeat' first|refine Jk ?_|refine Jc (cW _) ?_|refine Js ?_|refine JA ?_|refine Ji ?_|refine JJ ?_|refine Jx ?_|refine Jt ?_|refine Jb ?_ ?_|refine Jo ?_|(apply dK;rfl;rfl;rfl)|refine Jd (cW _) ?_|refine JB ?_|(apply dAq;rfl;rfl;rfl;rfl;rfl;rfl;(first|assumption|solve_by_elim))|(apply dAp;rfl;rfl;rfl;rfl;rfl;(first|assumption|solve_by_elim);rfl)|refine JD ?_|refine JK ?_|refine JI ?_|(apply dT (ty:=4);rfl;rfl;rfl;rfl)|(apply dF (ty:=4);rfl;rfl;rfl;rfl)|(apply dB (ty:=4);rfl;rfl;rfl;rfl)|refine Jh ?_|(apply Wp.drawS tOk follows;kernel_rfl;rfl)|intro hb
     all_goals rfl
 rw [decide_eq_false (by omega)] at l1 l6
 rw [decide_eq_true c] at n1
 rw [c] at cW n1
 obtain ⟨i,rfl⟩:∃ i:Nat,step=i:=⟨step.toNat,by omega⟩
 have hil:i<n.steps.length:=by omega
 obtain ⟨s,hs⟩:∃ s,n.steps[i]? = some s:=⟨n.steps[i],by simp⟩
 rw [ZdU c c2 hs,XN]
 have hnm:=Xg k1
 have cN:=c27 h.sm (fun s hs=>by have:=hnm s hs;omega) (w:=ZcU) (by decide)
 have hne:=(XB k1).1
 have htl:=Za5 (N:=n.nms) (w:=ZcU) (fun s hs=>by have:=hnm s hs;omega) (by decide)
 obtain ⟨B0,hB0⟩:∃ B0,B0=naB n.name n.rn n.roles n.fn n.fresh n.tn n.tags n.sn n.steps n.gn n.goals:=⟨_,rfl⟩
 obtain ⟨oF,oT,gv,GB,lv,nt,cC,hV⟩:=c26 h.sm hne B0 zB
 generalize nnF n.nms ZcU=t at cN htl ⊢
 obtain ⟨oT',lv',nt',hap,hT',hK⟩:=hV.hT.app XW (.sl .full 1 [[.str t]]) (YJ [t]) (ZH (by rw [ZC];have:=h.tl;simp;omega) (by decide)) (Yz [t])
 rw [show Zi n.tags++ [[.str t]]=Zi (n.tags++ [t]) by simp [Zi]] at hT'
 obtain ⟨hF', -⟩:=hK _ _ _ _ hV.hF hV.ne
 clear hK
 obtain ⟨z,hz⟩:∃ z:Nat,size=((z+1:Nat):Int):=⟨size.toNat-1,by omega⟩
 rw [show size.toNat-1=z by omega]
 obtain ⟨N,hN⟩:∃ N,N=(n.with t).repl i (apT ZN [s.msg,WF (atT t) z]):=⟨_,rfl⟩
 have hNe:=hN.trans (Vk (n:=n.with t) hs _)
 have hss:=h.sm.ss s (List.mem_of_getElem? hs)
 have hms:=h.ms s (List.mem_of_getElem? hs)
 have hNs:N.Sm:=by
  rw [hN]
  refine WH (Vl h.sm (Nat.le_trans h.tl (by decide)) (by omega)) hs (X2 (by decide) (by simp) fun x hx=>?_) ?_
  · rcases List.mem_cons.1 hx with rfl | hx
    · exact hss.2.2.1
    · rw [List.mem_singleton.1 hx];exact Qa (by omega) z
  · have := W9 t z
    simp only [apT,Tm.size,ZW,this]
    omega
 rw [← hN]
 have hNst:N.steps=n.steps.set i {s with msg:=apT ZN [s.msg,WF (atT t) z]}:=by rw [hNe];rfl
 have hNn:N.steps≠ []:=by rw [hNst];intro e;have:=congrArg List.length e;simp at this;exact hne this
 obtain ⟨q1,q2⟩:=Zk n.rn 1 (Zi n.roles)
 obtain ⟨q3,q4⟩:=Yw hF'
 obtain ⟨q5,q6⟩:=Yw hT'
 obtain ⟨q7,q8⟩:=Yw hV.hT
 have qg:[gv].all Zp=true:=by
  rcases hV.gl with ⟨_,rfl,_⟩|⟨_,rfl,_⟩
  · exact (Zk _ _ _).2
  · rfl
 have qa:=UH n.name q2 q4 q8 (show [PV.own 4 7 0 (spC n.steps).length].all Zp=true from rfl) qg
 have qb:=UH n.name q2 q4 q6 (show [PV.own 4 7 0 (spC N.steps).length].all Zp=true from rfl) qg
 have hlen:(spC N.steps).length=(spC n.steps).length:=by rw [hNst,ZI,ZI,List.length_set]
 have hfz:∀ (b0 b1 b2 b3 b6 b7:Box) ex,Z1 0 ⟨[b0,b1,b2,b3,.cells 7 (spC N.steps),GB,b6,b7]++ex,0,lv',nt'⟩ [.str N.name,slV N.rn 1 (Zi N.roles),oF,oT',.own 4 7 0 (spC N.steps).length,gv]=some N.cells:=fun b0 b1 b2 b3 b6 b7 ex=>by
  refine Zd6 (tn:=n.tn) (lv:=lv') (nt:=nt') (by rw [hNe];exact hF') (by rw [hNe];exact hT') (.inr (by rw [hNe];simp [Na.with])) rfl hNn ?_
  have hg:=hV.gl
  have e1:N.goals=n.goals:=by rw [hNe];rfl
  have e2:N.gn=n.gn:=by rw [hNe];rfl
  rw [e1,e2]
  rcases hg with ⟨a,b,c⟩|⟨a,b,c⟩
  · exact .inl ⟨a,b⟩
  · exact .inr ⟨a,b,by rw [c];rfl⟩
 have e1:N.name=n.name:=by rw [hNe];rfl
 have e2:N.rn=n.rn:=by rw [hNe];rfl
 have e3:N.roles=n.roles:=by rw [hNe];rfl
 have cK:=fun (b0 b1 b2 b3 b6 b7:Box)=>ZjL hNs (oF:=oF) (oT:=oT') (sv:= .own 4 7 0 (spC N.steps).length) (gv:=gv) (B0:=b0) (B1:=b1) (B2:=b2) (B3:=b3) (B4:= .cells 7 (spC N.steps)) (B5:=GB) (B6:=b6) (B7:=b7) (lv:=lv') (nt:=nt') (by rw [e1,e2,e3];exact qb) (hfz b0 b1 b2 b3 b6 b7)
 have fin:=fun (b0 b1 b2 b3 b6 b7:Box) ex=>Vr (e:=0) (hfz b0 b1 b2 b3 b6 b7 ex)
 rw [e1,e2,e3,hlen] at cK fin
 rw [hlen] at qb
 clear hfz hF' hT' e1 e2 e3 hNn hNs hlen hNe hN hV q1 q2 q3 q4 q7 q8 qg
 rw [hNst] at cK fin
 clear hNst
 have hsb:=ZgD (a:=size) (b:=1) (by omega) (by omega)
 rw [show size-1=(z:Int) by omega] at hsb
 have hat:=c30 t
 have ha2:=fun x y=>Zhd ZN x y
 have hia:=ZeH (n:=(spC n.steps).length) (i:=i) (by rw [ZI];exact hil)
 obtain ⟨r,hr⟩:∃ r,r=PV.tup [.agg (if N.chk.2=0 then (N,(0:Int)) else (.none,N.chk.2)).1.cells,.int .i64 (if N.chk.2=0 then (N,(0:Int)) else (.none,N.chk.2)).2]:=⟨_,rfl⟩
 rw [← hr]
 have hfr:frz3 0 hNil r=some r:=by rw [hr];exact Vh _ _
 have hz6:z<6:=by omega
 simp only [atT,Tm.cells] at hat
 simp only [Zu] at cK
 subst hB0
 clear h hnm hne htl hss hms c c2 k1 k2 k3 hil
 obtain ⟨nm,rn,rs,fn,fr,tn,ts,sn,ss,gn,gs⟩:=n
 simp only [Na.cells] at cW cN cC cK fin hs hia qa qb ⊢
 refine Jw tOk fe16.ok hfr ?_ (by simp only [Zt,Zj];rfl)
 repeat' first|refine Jk ?_|(apply qCl;rfl;rfl;rfl;rfl;first|exact cW _|exact cC|exact cN _|exact hat _)|refine Js ?_|refine JA ?_|refine Ji ?_|refine JJ ?_|refine Jx ?_|refine Jt ?_|refine Jb ?_ ?_|refine Jo ?_|(apply qSt;rfl;rfl;assumption;exact IsL.n;rfl;assumption;(first|rfl|assumption);exact IsH.mkN)|(apply dK;rfl;rfl;rfl)|(apply dCl;rfl;rfl;rfl;rfl;rfl;first|exact cW _|exact cC|exact cN _|exact hat _)|refine JB ?_|(apply dAq;rfl;rfl;rfl;rfl;rfl;rfl;(first|assumption|solve_by_elim))|(apply dAp;rfl;rfl;rfl;rfl;rfl;(first|assumption|solve_by_elim);rfl)|refine JD ?_|refine JK ?_|refine JI ?_|(apply dT (ty:=4);rfl;rfl;rfl;rfl)|(apply dF (ty:=4);rfl;rfl;rfl;rfl)|(apply dB (ty:=4);rfl;rfl;rfl;rfl)|(apply dSt;rfl;rfl;rfl;assumption;exact IsL.n;rfl;assumption;(first|rfl|assumption);exact IsH.mkN;(first|rfl|(simp [Zr];done));rfl;rfl)|refine Jh ?_|(apply Wp.drawS tOk follows;kernel_rfl;rfl)|intro hb
 clear cW cN cC hap n1 l1 l6
 obtain ⟨CP,hCP⟩:∃ CP,CP=cpB nm (slV rn 1 (Zi rs)) oF oT (.own 4 7 0 (spC ss).length) gv:=⟨_,rfl⟩
 refine Wp.while (fun m2 tm H => ∃ (k : Nat) (base : TM), k + m2 = z ∧ tm = ovr base [(1, .int .i64 (i : Int)), (6, .ptr 1 6 0 0), (9, .ptr 6 6 0 0), (10, .str t), (11, .ptr 7 4 0 0), (39, .int .i64 (z : Int)), (40, .int .i64 (k : Int))] ∧
   H=⟨[naB nm rn rs fn fr tn ts sn ss gn gs,zB,CP,CP,.cells 7 (spC ss),GB,cpB nm (slV rn 1 (Zi rs)) oF oT' (.own 4 7 0 (spC ss).length) gv,.cells 4 [(WF (atT t) k).cells]],0,lv',nt'⟩)
  (fun m2 tm H hI=>?_) z _ _ ⟨0,_,by omega,Zf ⟨rfl,rfl,rfl,rfl,rfl,rfl,rfl,trivial⟩,by rw [hCP];simp only [WF,atT,Tm.cells]⟩
 clear hCP
 obtain ⟨k,base,hk,rfl,rfl⟩:=hI
 have hlx:=Zn (k:Int) (z:Int)
 by_cases hlt:k<z
 · rw [decide_eq_true (by omega)] at hlx
   have hii:=Zy (a:=(k:Int)) (b:=1) (by omega) (by omega)
   rw [show (k:Int)+1=((k+1:Nat):Int) by omega] at hii
   have hap:=ha2 (atT t) (WF (atT t) k)
   have hnx:(WF (atT t) (k+1)).cells=(apT ZN [atT t,WF (atT t) k]).cells:=rfl
   generalize WF (atT t) k=X at hap hnx ⊢
   obtain ⟨Xk,Xm,Xs,Xb,Xl⟩:=X
   simp only [apT,atT,Tm.cells] at hap hnx ⊢
   generalize Zb [Tm.mk 2 t 0 true [],Tm.mk Xk Xm Xs Xb Xl]=L at hap hnx
   repeat' first|refine Jk ?_|refine Jc (hat _) ?_|refine Jc (hap _) ?_|refine Js ?_|refine JA ?_|refine Ji ?_|refine JJ ?_|refine Jx ?_|refine Jt ?_|refine Jb ?_ ?_|refine Jo ?_|(apply dK;rfl;rfl;rfl)|refine Jd (hat _) ?_|refine Jd (hap _) ?_|refine JB ?_|(apply dAq;rfl;rfl;rfl;rfl;rfl;rfl;(first|assumption|solve_by_elim))|(apply dAp;rfl;rfl;rfl;rfl;rfl;(first|assumption|solve_by_elim);rfl)|refine JD ?_|refine JK ?_|refine JI ?_|(apply dT (ty:=4);rfl;rfl;rfl;rfl)|(apply dF (ty:=4);rfl;rfl;rfl;rfl)|(apply dB (ty:=4);rfl;rfl;rfl;rfl)|refine Jh ?_|(apply Wp.drawS tOk follows;kernel_rfl;rfl)|intro hb
   exact LoopI.go (m2-1) (by omega) ⟨k+1,_,by omega,Zf ⟨rfl,rfl,rfl,rfl,rfl,rfl,rfl,trivial⟩,by rw [hnx]⟩
 · have e : k = z := by omega
   subst e
   rw [decide_eq_false (by omega)] at hlx
   have hap:=ha2 s.msg (WF (atT t) k)
   have hld:=Zdn (H:=⟨[naB nm rn rs fn fr tn ts sn ss gn gs,zB,CP,CP,.cells 7 (spC ss),GB,cpB nm (slV rn 1 (Zi rs)) oF oT' (.own 4 7 0 (spC ss).length) gv,.cells 4 [(WF (atT t) k).cells]],0,lv',nt'⟩) rfl hs
   have hwr:=ZhS (A:=naB nm rn rs fn fr tn ts sn ss gn gs) (B:=zB) (C:=CP) (D:=CP) (F:=GB) (G:=cpB nm (slV rn 1 (Zi rs)) oF oT' (.own 4 7 0 (spC ss).length) gv) (I:= .cells 4 [(WF (atT t) k).cells]) hs (apT ZN [s.msg,WF (atT t) k]) lv' nt'
   generalize ss.set i {frm:=s.frm,to:=s.to,msg:=apT ZN [s.msg,WF (atT t) k],line:=s.line}=SS at hwr fin cK
   generalize WF (atT t) k=X at hap hld hwr ⊢
   generalize s.msg=Y at hap hld hwr
   obtain ⟨Xk,Xm,Xs,Xb,Xl⟩:=X
   obtain ⟨Yk,Ym,Ys,Yb,Yl⟩:=Y
   simp only [apT,Tm.cells] at hap hld hwr ⊢
   generalize Zb [Tm.mk Yk Ym Ys Yb Yl,Tm.mk Xk Xm Xs Xb Xl]=L at hap hwr
   have cK:=cK (naB nm rn rs fn fr tn ts sn ss gn gs) zB CP CP (cpB nm (slV rn 1 (Zi rs)) oF oT' (.own 4 7 0 (spC ss).length) gv) (.cells 4 [[.int .i64 Xk,.str Xm,.int .i64 Xs,slV Xb 4 (Zb Xl)]])
   by_cases cc:N.chk.2=0
   · rw [if_pos cc] at hr
     simp only [if_pos cc] at cK
     subst hr
     repeat' first|refine Jk ?_|refine Jc (hap _) ?_|refine Jc cK ?_|refine Js ?_|refine JA ?_|refine Ji ?_|refine JJ ?_|(apply qLd;rfl;rfl;rfl;assumption;exact IsV.any _)|refine Jx ?_|refine Jt ?_|refine Jb ?_ ?_|refine Jo ?_|(apply dK;rfl;rfl;rfl)|refine Jd (hap _) ?_|refine Jd cK ?_|refine JB ?_|(apply dAq;rfl;rfl;rfl;rfl;rfl;rfl;(first|assumption|solve_by_elim))|(apply dAp;rfl;rfl;rfl;rfl;rfl;(first|assumption|solve_by_elim);rfl)|refine JD ?_|refine JK ?_|(apply dLd;rfl;rfl;rfl;assumption;exact IsV.any _;(first|rfl|(show Nat.blt _ _=true;first|assumption|(simp [Nat.blt];done))))|refine JI ?_|(apply dT (ty:=4);rfl;rfl;rfl;rfl)|(apply dF (ty:=4);rfl;rfl;rfl;rfl)|(apply dB (ty:=4);rfl;rfl;rfl;rfl)|(apply dSt;rfl;rfl;rfl;rfl;exact IsL.n;rfl;(first|rfl|assumption|(simp only [List.all_cons,List.all_nil,Z4,Bool.and_true];rfl));assumption;exact IsH.mkN;assumption;assumption;rfl)|refine Jh ?_|(apply Wp.drawS tOk follows;kernel_rfl;rfl)|intro hb
     exact fin _ _ _ _ _ _ [_,_]
   · rw [if_neg cc] at hr
     simp only [if_neg cc,Zu] at cK hr
     subst hr
     generalize N.chk.2=e at cK
     repeat' first|refine Jk ?_|refine Jc (hap _) ?_|refine Jc cK ?_|refine Js ?_|refine JA ?_|refine Ji ?_|refine JJ ?_|(apply qLd;rfl;rfl;rfl;assumption;exact IsV.any _)|refine Jx ?_|refine Jt ?_|refine Jb ?_ ?_|refine Jo ?_|(apply dK;rfl;rfl;rfl)|refine Jd (hap _) ?_|refine Jd cK ?_|refine JB ?_|(apply dAq;rfl;rfl;rfl;rfl;rfl;rfl;(first|assumption|solve_by_elim))|(apply dAp;rfl;rfl;rfl;rfl;rfl;(first|assumption|solve_by_elim);rfl)|refine JD ?_|refine JK ?_|(apply dLd;rfl;rfl;rfl;assumption;exact IsV.any _;(first|rfl|(show Nat.blt _ _=true;first|assumption|(simp [Nat.blt];done))))|refine JI ?_|(apply dT (ty:=4);rfl;rfl;rfl;rfl)|(apply dF (ty:=4);rfl;rfl;rfl;rfl)|(apply dB (ty:=4);rfl;rfl;rfl;rfl)|(apply dSt;rfl;rfl;rfl;rfl;exact IsL.n;rfl;(first|rfl|assumption|(simp only [List.all_cons,List.all_nil,Z4,Bool.and_true];rfl));assumption;exact IsH.mkN;assumption;assumption;rfl)|refine Jh ?_|(apply Wp.drawS tOk follows;kernel_rfl;rfl)|intro hb
     all_goals rfl
