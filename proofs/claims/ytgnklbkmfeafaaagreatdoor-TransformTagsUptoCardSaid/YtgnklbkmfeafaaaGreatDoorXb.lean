/-
  Tagging: the reference's text.
-/
import Derived.Test.YtgnklbkmfeafaaaGreatDoorWh
import Derived.Test.YtgnklbkmfeafaaaGreatDoorXa
set_option maxHeartbeats 0
set_option maxRecDepth 100000
namespace Go.Vm.Seat
variable {n:Na}
open Go.Proofs
theorem c35 (hl:n.steps.length≤1000) {j:Nat} (hj:j<n.steps.length) (t:Tm):∀ H,CallOk E0 Tryz.prog 35 [.agg n.cells,.int .i64 (j:Int),.agg t.cells] H (.agg (n.repl j t).cells) H:=by
 obtain ⟨x,hx⟩:∃ x,n.steps[j]? = some x:=⟨n.steps[j],by simp⟩
 rw [Vk hx]
 obtain ⟨SS,hSS⟩:∃ SS,SS=n.steps.set j {x with msg:=t}:=⟨_,rfl⟩
 rw [← hSS]
 have hSl:SS.length=n.steps.length:=by rw [hSS,List.length_set]
 have hSj:SS[j]? = some {x with msg:=t}:=by rw [hSS,List.getElem?_set_self hj]
 have hSo:∀ i,i≠j→SS[i]? = n.steps[i]? :=fun i hi=>by rw [hSS,List.getElem?_set_ne (Ne.symm hi)]
 have hSn:SS≠ []:=fun e=>by rw [e] at hSl;simp at hSl;omega
 clear hSS
 obtain ⟨r,hr⟩:∃ r,r=PV.agg ({n with steps:=SS}:Na).cells:=⟨_,rfl⟩
 have hfr:frz3 0 hNil r=some r:=by rw [hr];exact Qp _ _ _
 rw [← hr]
 obtain ⟨nm,rn,rs,fn,fr,tn,ts,sn,ss,gn,gs⟩:=n
 simp only [Na.cells] at hl hj hx hSl hSo hr ⊢
 have e4:=ZI ss
 have fz:=Zbx t
 obtain ⟨tk,tm1,ts1,tb,tl⟩:=t
 simp only [Tm.cells] at fz ⊢
 refine Jw tOk fe35.ok hfr ?_ (by simp only [Zt,Zj,fz];rfl)
 repeat' first|refine Js ?_|refine JA ?_|refine Ji ?_|refine JJ ?_|refine Jl ?_|refine Jx ?_|refine Jt ?_|refine Jb ?_ ?_|refine Jo ?_|intro hb
 refine Wp.while (fun m2 tm H => ∃ (i : Nat) (base : TM) (o : PV) (lv : List Nat) (nt : Nat), i + m2 = ss.length ∧ ApV true 7 (spC (SS.take i)) o lv nt ∧
   tm=ovr base [(1,.int .i64 (j:Int)),(3,.ptr 0 6 0 0),(5,.ptr 1 4 0 0),(6,.ptr 2 6 0 0),(7,o),(8,.int .i64 (i:Int))]∧H=⟨[naB nm rn rs fn fr tn ts sn ss gn gs,.cells 4 [[.int .i64 tk,.str tm1,.int .i64 ts1,slV tb 4 (Zb tl)]],zB],0,lv,nt⟩)
  (fun m2 tm H hI=>Wp.drop ?_) ss.length _ _ ⟨0,_,_,_,_,by omega,.nil [] 0 rfl,Zf ⟨rfl,rfl,rfl,rfl,rfl,rfl,trivial⟩,rfl⟩
 obtain ⟨i,base,o,lv,nt,hi,hA,rfl,rfl⟩:=hI
 have hlx:=Zn (i:Int) ((spC ss).length:Int)
 by_cases hlt:i<ss.length
 · rw [decide_eq_true (by omega)] at hlx
   obtain ⟨y,hy⟩:∃ y,ss[i]? = some y:=⟨ss[i],by simp⟩
   have hgy:=ZX hy
   have hii:=Zy (a:=(i:Int)) (b:=1) (by omega) (by omega)
   rw [show (i:Int)+1=((i+1:Nat):Int) by omega] at hii
   have hq:=Z6 (i:Int) (j:Int)
   obtain ⟨z,hz⟩:∃ z,SS[i]? = some z:=⟨SS[i],by simp⟩
   obtain ⟨o2,lv2,nt2,hap,hA2, -⟩:=hA.app Zc0 (.sl .full 7 [z.cells]) (Qy [z]) (ZH (by rw [ZI];simp;omega) (by decide)) (Zby [z])
   rw [show spC (SS.take i)++ [z.cells]=spC (SS.take (i+1)) by rw [List.take_add_one,hz];simp [spC]] at hA2
   clear hA
   by_cases c:i=j
   · rw [decide_eq_true (by omega)] at hq
     obtain rfl:z={x with msg:= .mk tk tm1 ts1 tb tl}:=Option.some.inj (hz.symm.trans (by rw [c];exact hSj))
     obtain rfl:y=x:=Option.some.inj (hy.symm.trans (by rw [c];exact hx))
     obtain ⟨xf,xt,⟨k',nm',s',b',kz'⟩,xl⟩:=y
     simp only [Sp.cells,Tm.cells,List.cons_append,List.nil_append] at hgy hap
     clear hSj hSo hz hx hy
     repeat' first|refine Js ?_|refine JA ?_|refine Ji ?_|refine JJ ?_|refine Jl ?_|refine Jx ?_|refine Jt ?_|refine Jb ?_ ?_|refine Jo ?_|intro hb
     refine DropQ.go [(1,.int .i64 (j:Int)),(3,.ptr 0 6 0 0),(5,.ptr 1 4 0 0),(6,.ptr 2 6 0 0),(7,o2),(8,.int .i64 ((i+1:Nat):Int))] ⟨rfl,rfl,rfl,rfl,rfl,rfl,trivial⟩ ?_ rfl ?_ ?_
     · simp [under,hA2.under]
     · simp [ZO,Zo,Ze,under]
     · exact LoopI.go (m2-1) (by omega) ⟨i+1,_,o2,lv2,nt2,by omega,hA2,rfl,rfl⟩
   · rw [decide_eq_false (by omega)] at hq
     obtain rfl:z=y:=Option.some.inj (hz.symm.trans ((hSo i c).trans hy))
     obtain ⟨xf,xt,⟨k',nm',s',b',kz'⟩,xl⟩:=z
     simp only [Sp.cells,Tm.cells,List.cons_append,List.nil_append] at hgy hap
     clear hSj hSo hz hx hy
     repeat' first|refine Js ?_|refine JA ?_|refine Ji ?_|refine JJ ?_|refine Jl ?_|refine Jx ?_|refine Jt ?_|refine Jb ?_ ?_|refine Jo ?_|intro hb
     refine DropQ.go [(1,.int .i64 (j:Int)),(3,.ptr 0 6 0 0),(5,.ptr 1 4 0 0),(6,.ptr 2 6 0 0),(7,o2),(8,.int .i64 ((i+1:Nat):Int))] ⟨rfl,rfl,rfl,rfl,rfl,rfl,trivial⟩ ?_ rfl ?_ ?_
     · simp [under,hA2.under]
     · simp [ZO,Zo,Ze,under]
     · exact LoopI.go (m2-1) (by omega) ⟨i+1,_,o2,lv2,nt2,by omega,hA2,rfl,rfl⟩
 · have e : i = ss.length := by omega
   subst e
   rw [decide_eq_false (by omega)] at hlx
   rw [List.take_of_length_le (by omega)] at hA
   obtain ⟨q1,q2⟩:=Yw hA
   have fin:∀ m H,frz3 m H (.agg [.str nm,slV rn 1 (Zi rs),slV fn 3 (frC fr),slV tn 1 (Zi ts),o,slV gn 5 (glC gs)])=some r:=fun m H=>by
    rw [hr]
    refine ZdP ?_
    simp only [Z1,Ye,hA.frzC,ZbT hSn]
    rfl
   have qb:=UH nm (Zk rn 1 (Zi rs)).2 (Zk fn 3 (frC fr)).2 (Zk tn 1 (Zi ts)).2 q2 (Zk gn 5 (glC gs)).2
   clear hr hA hfr
   repeat' first|refine Js ?_|refine JA ?_|refine Ji ?_|refine JJ ?_|refine Jl ?_|refine Jx ?_|refine Jt ?_|refine Jb ?_ ?_|refine Jo ?_|(apply qSt;rfl;rfl;assumption;exact IsL.n;rfl;assumption;(first|rfl|assumption);exact IsH.mkN)|intro hb
   all_goals exact fin _ _
theorem c17 (h:n.Ti) (step size:Int):∀ H,CallOk E0 Tryz.prog 17 [.agg n.cells,.int .i64 step,.int .i64 size] H (.tup [.agg (n.pad step size).1.cells,.int .i64 (n.pad step size).2]) H:=by
 have cW:=c42 h.sm step
 have n1:=ZK (n.inE step) 0
 have l1:=Zn size 1
 have l6:=Yv size 6
 by_cases c:n.inE step=0
 case neg=>
  rw [Zdv c]
  rw [decide_eq_false c] at n1
  simp only [Zu]
  generalize n.inE step=e at cW n1 ⊢
  clear h c
  obtain ⟨nm,rn,rs,fn,fr,tn,ts,sn,ss,gn,gs⟩:=n
  simp only [Na.cells] at cW ⊢
  refine Jw tOk fe17.ok rfl ?_ (by simp only [Zt,Zj];rfl)
  repeat' first|refine Jk ?_|refine Jc (cW _) ?_|refine Js ?_|refine Ji ?_|refine JJ ?_|refine Jx ?_|refine Jt ?_|refine Jb ?_ ?_|refine Jo ?_|(apply dK;rfl;rfl;rfl)|refine Jd (cW _) ?_|(apply dAl;rfl;rfl;rfl;rfl;exact IsV.ptrM;exact IsH.mkN)|refine JB ?_|refine JD ?_|refine JK ?_|refine JI ?_|(apply dT (ty:=4);rfl;rfl;rfl;rfl)|(apply dF (ty:=4);rfl;rfl;rfl;rfl)|(apply dB (ty:=4);rfl;rfl;rfl;rfl)|refine Jh ?_|(apply dWS tOk follows;rfl;kernel_rfl;rfl)|(apply dWB tOk follows;rfl;kernel_rfl;rfl;exact IsH.mkN)|intro hb
  all_goals rfl
 obtain ⟨k1,k2,k3⟩:=U0 c
 by_cases c2:size<1∨6<size
 · rw [Zdc c c2]
   rw [decide_eq_true c] at n1
   rw [c] at cW n1
   simp only [Zu]
   clear h c k1 k2 k3
   obtain ⟨nm,rn,rs,fn,fr,tn,ts,sn,ss,gn,gs⟩:=n
   simp only [Na.cells] at cW ⊢
   refine Jw tOk fe17.ok rfl ?_ (by simp only [Zt,Zj];rfl)
   by_cases c3:size<1
   · rw [decide_eq_true c3] at l1
     repeat' first|refine Jk ?_|refine Jc (cW _) ?_|refine Js ?_|refine Ji ?_|refine JJ ?_|refine Jx ?_|refine Jt ?_|refine Jb ?_ ?_|refine Jo ?_|(apply dK;rfl;rfl;rfl)|refine Jd (cW _) ?_|(apply dAl;rfl;rfl;rfl;rfl;exact IsV.ptrM;exact IsH.mkN)|refine JB ?_|refine JD ?_|refine JK ?_|refine JI ?_|(apply dT (ty:=4);rfl;rfl;rfl;rfl)|(apply dF (ty:=4);rfl;rfl;rfl;rfl)|(apply dB (ty:=4);rfl;rfl;rfl;rfl)|refine Jh ?_|(apply dWS tOk follows;rfl;kernel_rfl;rfl)|(apply dWB tOk follows;rfl;kernel_rfl;rfl;exact IsH.mkN)|intro hb
     all_goals rfl
   · rw [decide_eq_false c3] at l1
     rw [decide_eq_true (by omega)] at l6
     repeat' first|refine Jk ?_|refine Jc (cW _) ?_|refine Js ?_|refine Ji ?_|refine JJ ?_|refine Jx ?_|refine Jt ?_|refine Jb ?_ ?_|refine Jo ?_|(apply dK;rfl;rfl;rfl)|refine Jd (cW _) ?_|(apply dAl;rfl;rfl;rfl;rfl;exact IsV.ptrM;exact IsH.mkN)|refine JB ?_|refine JD ?_|refine JK ?_|refine JI ?_|(apply dT (ty:=4);rfl;rfl;rfl;rfl)|(apply dF (ty:=4);rfl;rfl;rfl;rfl)|(apply dB (ty:=4);rfl;rfl;rfl;rfl)|refine Jh ?_|(apply dWS tOk follows;rfl;kernel_rfl;rfl)|(apply dWB tOk follows;rfl;kernel_rfl;rfl;exact IsH.mkN)|intro hb
     all_goals rfl
 rw [decide_eq_false (by omega)] at l1 l6
 rw [decide_eq_true c] at n1
 rw [c] at cW n1
 obtain ⟨i,rfl⟩:∃ i:Nat,step=i:=⟨step.toNat,by omega⟩
 have hil:i<n.steps.length:=by omega
 obtain ⟨s,hs⟩:∃ s,n.steps[i]? = some s:=⟨n.steps[i],by simp⟩
 rw [ZdU c c2 hs]
 have hnm:=Xg k1
 have cN:=c33 h.sm (fun s hs=>by have:=hnm s hs;omega) (w:=ZcU) (by decide)
 have htl:=Za5 (N:=n.nms) (w:=ZcU) (fun s hs=>by have:=hnm s hs;omega) (by decide)
 generalize nnF n.nms ZcU=t at cN htl ⊢
 obtain ⟨z,hz⟩:∃ z:Nat,size=((z+1:Nat):Int):=⟨size.toNat-1,by omega⟩
 rw [show size.toNat-1=z by omega]
 have cA:=c38 t
 have cC:=c46 (atT t) z (by omega)
 rw [← hz] at cC
 have cP:=U9 ZN s.msg (WF (atT t) z)
 have cT:=c36 (n:=n) (Nat.le_trans h.tl (by decide)) t
 have cR:=c35 (n:=n.with t) (Nat.le_trans h.sl (by decide)) hil (apT ZN [s.msg,WF (atT t) z])
 have hss:=h.sm.ss s (List.mem_of_getElem? hs)
 have hms:=h.ms s (List.mem_of_getElem? hs)
 obtain ⟨N,hN⟩:∃ N,N=(n.with t).repl i (apT ZN [s.msg,WF (atT t) z]):=⟨_,rfl⟩
 have hNs:N.Sm:=by
  rw [hN]
  refine WH (Vl h.sm (Nat.le_trans h.tl (by decide)) (by omega)) hs (X2 (by decide) (by simp) fun x hx=>?_) ?_
  · rcases List.mem_cons.1 hx with rfl | hx
    · exact hss.2.2.1
    · rw [List.mem_singleton.1 hx];exact Qa (by omega) z
  · have := W9 t z
    simp only [apT,Tm.size,ZW,this]
    omega
 rw [← hN] at cR ⊢
 have cK:=c32 hNs
 obtain ⟨M,hM⟩:∃ M,M=N.chkd.1:=⟨_,rfl⟩
 rw [← hM] at cK ⊢
 generalize N.chkd.2=e at cK ⊢
 have hfr:∀ m H,frz3 m H (.tup [.agg M.cells,.int .i64 e])=some (.tup [.agg M.cells,.int .i64 e]):=fun m H=>by
  have h2:frz2 m H (.agg M.cells)=some (.agg M.cells):=by
   show (match Z1 m H M.cells with|some cs'=>some (PV.agg cs')|none=>none)=_
   simp only [Na.cells,Z1,Ye];rfl
  rw [YL]
  simp only [Xn,h2]
  rfl
 have qb:=UH M.name (Zk M.rn 1 (Zi M.roles)).2 (Zk M.fn 3 (frC M.fresh)).2 (Zk M.tn 1 (Zi M.tags)).2 (Zk M.sn 7 (spC M.steps)).2 (Zk M.gn 5 (glC M.goals)).2
 have hgs:=ZX hs
 clear h hN hNs hM hnm htl hss hms c c2 k1 k2 k3 hil hs
 generalize WF (atT t) z=X at cC cP cR
 generalize n.with t=W at cT cR
 obtain ⟨sf,st,⟨Yk,Ym,Ys,Yb,Yl⟩,sl⟩:=s
 obtain ⟨Xk,Xm,Xs,Xb,Xl⟩:=X
 obtain ⟨nm,rn,rs,fn,fr,tn,ts,sn,ss,gn,gs⟩:=n
 simp only [Na.cells,Sp.cells,atT,apT,Tm.cells,List.cons_append,List.nil_append] at cW cN cA cC cP cT cR cK hgs qb hfr ⊢
 generalize Zb [Tm.mk Yk Ym Ys Yb Yl,Tm.mk Xk Xm Xs Xb Xl]=L at cP cR
 refine Xh (own:=(fun d=>[30013].any (Nat.beq d))) tOk fe17.ok (by simp only [Zt,Zj];rfl) (hfr _ _) ?_
 refine Wp.seq ?_
 repeat' first|refine Jk ?_|(apply qCl;rfl;rfl;rfl;rfl;first|exact cW _|exact cN _|exact cA _|exact cC _|exact cP _|exact cT _|exact cR _|exact cK _)|refine Js ?_|refine Ji ?_|refine JJ ?_|refine Jx ?_|refine Jt ?_|refine Jb ?_ ?_|refine Jo ?_|(apply dK;rfl;rfl;rfl)|(apply dCl;rfl;rfl;rfl;rfl;rfl;first|exact cW _|exact cN _|exact cA _|exact cC _|exact cP _|exact cT _|exact cR _|exact cK _)|(apply dAl;rfl;rfl;rfl;rfl;exact IsV.ptrM;exact IsH.mkN)|refine JB ?_|refine JD ?_|refine JK ?_|refine JI ?_|(apply dT (ty:=4);rfl;rfl;rfl;rfl)|(apply dF (ty:=4);rfl;rfl;rfl;rfl)|(apply dB (ty:=4);rfl;rfl;rfl;rfl)|refine Jh ?_|(apply dWS tOk follows;rfl;kernel_rfl;rfl)|(apply dWB tOk follows;rfl;kernel_rfl;rfl;exact IsH.mkN)|intro hb
 all_goals exact hfr _ _
theorem Zel (f:Zg) (x:Tm):∀ H,CallOk E0 Tryz.prog 37 [.str f,.sl .full 4 [x.cells]] H (.agg (apT f [x]).cells) H:=fun H=>by
 have h:=ZhB f x.cells [] (by
  have:=Z9 [x]
  obtain ⟨k,m,s,b,kz⟩:=x
  simpa only [Zb,Tm.cells] using this) (ZH (by simp) (by decide)) (by
  have:=X9 [x]
  obtain ⟨k,m,s,b,kz⟩:=x
  simpa only [Zb,Tm.cells] using this) H
 obtain ⟨k,m,s,b,kz⟩:=x
 simp only [apT,Tm.cells,Zb,Zx] at h ⊢
 exact Xa h rfl
theorem c12 (h:n.Ti) (step:Int):∀ H,CallOk E0 Tryz.prog 12 [.agg n.cells,.int .i64 step] H (.tup [.agg (n.wrapF step).1.cells,.int .i64 (n.wrapF step).2]) H:=by
 have cW:=c42 h.sm step
 have n1:=ZK (n.inE step) 0
 by_cases c:n.inE step=0
 case neg=>
  rw [Zbw c]
  rw [decide_eq_false c] at n1
  simp only [Zu]
  generalize n.inE step=e at cW n1 ⊢
  clear h c
  obtain ⟨nm,rn,rs,fn,fr,tn,ts,sn,ss,gn,gs⟩:=n
  simp only [Na.cells] at cW ⊢
  refine Jw tOk fe12.ok rfl ?_ (by simp only [Zt,Zj];rfl)
  repeat' first|refine Jc (cW _) ?_|refine Js ?_|refine Ji ?_|refine JJ ?_|refine Jx ?_|refine Jt ?_|refine Jb ?_ ?_|refine Jo ?_|refine Jd (cW _) ?_|(apply dAl;rfl;rfl;rfl;rfl;exact IsV.ptrM;exact IsH.mkN)|refine JB ?_|refine JD ?_|refine JK ?_|refine JI ?_|(apply dT (ty:=4);rfl;rfl;rfl;rfl)|(apply dF (ty:=4);rfl;rfl;rfl;rfl)|(apply dB (ty:=4);rfl;rfl;rfl;rfl)|refine Jh ?_|(apply dWS tOk follows;rfl;kernel_rfl;rfl)|(apply dWB tOk follows;rfl;kernel_rfl;rfl;exact IsH.mkN)|intro hb
  all_goals rfl
 obtain ⟨k1,k2,k3⟩:=U0 c
 rw [decide_eq_true c] at n1
 rw [c] at cW n1
 obtain ⟨i,rfl⟩:∃ i:Nat,step=i:=⟨step.toNat,by omega⟩
 have hil:i<n.steps.length:=by omega
 obtain ⟨s,hs⟩:∃ s,n.steps[i]? = some s:=⟨n.steps[i],by simp⟩
 rw [Zbo c hs]
 have a1:=c38 s.to
 have a2:=Zel nSk (atT s.to)
 have a3:=Zel nPk (apT nSk [atT s.to])
 have a4:=U9 Vb s.msg (apT nPk [apT nSk [atT s.to]])
 have cR:=c35 (n:=n) (Nat.le_trans h.sl (by decide)) hil (VM s)
 have hss:=h.sm.ss s (List.mem_of_getElem? hs)
 have hms:=h.ms s (List.mem_of_getElem? hs)
 obtain ⟨N,hN⟩:∃ N,N=n.repl i (VM s):=⟨_,rfl⟩
 have hNs:N.Sm:=by
  rw [hN]
  exact WH h.sm hs (Qs hss.2.2.1 hss.2.1) (by rw [Vf];omega)
 rw [← hN] at cR ⊢
 have cK:=c32 hNs
 obtain ⟨M,hM⟩:∃ M,M=N.chkd.1:=⟨_,rfl⟩
 rw [← hM] at cK ⊢
 generalize N.chkd.2=e at cK ⊢
 have hfr:∀ m H,frz3 m H (.tup [.agg M.cells,.int .i64 e])=some (.tup [.agg M.cells,.int .i64 e]):=fun m H=>by
  have h2:frz2 m H (.agg M.cells)=some (.agg M.cells):=by
   show (match Z1 m H M.cells with|some cs'=>some (PV.agg cs')|none=>none)=_
   simp only [Na.cells,Z1,Ye];rfl
  rw [YL]
  simp only [Xn,h2]
  rfl
 have qb:=UH M.name (Zk M.rn 1 (Zi M.roles)).2 (Zk M.fn 3 (frC M.fresh)).2 (Zk M.tn 1 (Zi M.tags)).2 (Zk M.sn 7 (spC M.steps)).2 (Zk M.gn 5 (glC M.goals)).2
 have hgs:=ZX hs
 clear h hN hNs hM hss hms c k1 k2 k3 hil hs
 obtain ⟨sf,st,⟨Yk,Ym,Ys,Yb,Yl⟩,sl⟩:=s
 obtain ⟨nm,rn,rs,fn,fr,tn,ts,sn,ss,gn,gs⟩:=n
 simp only [Na.cells,Sp.cells,VM,atT,apT,Tm.cells,List.cons_append,List.nil_append] at cW a1 a2 a3 a4 cR cK hgs qb hfr ⊢
 refine Xh (own:=(fun d=>[30012].any (Nat.beq d))) tOk fe12.ok (by simp only [Zt,Zj];rfl) (hfr _ _) ?_
 refine Wp.seq ?_
 repeat' first|(apply qCl;rfl;rfl;rfl;rfl;first|exact cW _|exact a1 _|exact a2 _|exact a3 _|exact a4 _|exact cR _|exact cK _)|refine Js ?_|refine Ji ?_|refine JJ ?_|refine Jx ?_|refine Jt ?_|refine Jb ?_ ?_|refine Jo ?_|(apply dCl;rfl;rfl;rfl;rfl;rfl;first|exact cW _|exact a1 _|exact a2 _|exact a3 _|exact a4 _|exact cR _|exact cK _)|(apply dAl;rfl;rfl;rfl;rfl;exact IsV.ptrM;exact IsH.mkN)|refine JB ?_|refine JD ?_|refine JK ?_|refine JI ?_|(apply dT (ty:=4);rfl;rfl;rfl;rfl)|(apply dF (ty:=4);rfl;rfl;rfl;rfl)|(apply dB (ty:=4);rfl;rfl;rfl;rfl)|refine Jh ?_|(apply dWS tOk follows;rfl;kernel_rfl;rfl)|(apply dWB tOk follows;rfl;kernel_rfl;rfl;exact IsH.mkN)|intro hb
 all_goals exact hfr _ _
theorem Zkk:((List.range 8).all fun i=>Y3 E0 60 60 ⟨34,[.int .i64 (i:Int)],.str (ZaP i)⟩)=true:=by kernel_rfl
theorem c34 {i:Nat} (h:i<8):∀ H,CallOk E0 Tryz.prog 34 [.int .i64 (i:Int)] H (.str (ZaP i)) H:=
 Va tOk follows fOk zOk (List.all_eq_true.1 Zkk i (List.mem_range.2 h))
theorem Ze0 (M:Na) (e:Int) (m:Nat) (H:Heap):frz3 m H (.tup [.agg M.cells,.int .i64 e])=some (.tup [.agg M.cells,.int .i64 e]):=by
 have h2:frz2 m H (.agg M.cells)=some (.agg M.cells):=by
  show (match Z1 m H M.cells with|some cs'=>some (PV.agg cs')|none=>none)=_
  simp only [Na.cells,Z1,Ye];rfl
 rw [YL]
 simp only [Xn,h2]
 rfl
theorem Ui (M:Na):M.cells.all Zp=true:=UH M.name (Zk M.rn 1 (Zi M.roles)).2 (Zk M.fn 3 (frC M.fresh)).2 (Zk M.tn 1 (Zi M.tags)).2 (Zk M.sn 7 (spC M.steps)).2 (Zk M.gn 5 (glC M.goals)).2
theorem c8 (h:n.Ti):∀ H,CallOk E0 Tryz.prog 8 [.agg n.cells] H (.tup [.agg n.tagsF.1.cells,.int .i64 n.tagsF.2]) H:=by
 have cS:=c32 h.sm
 have n1:=ZK n.chk.2 0
 by_cases c:n.chk.2=0
 case neg=>
  rw [Zbf c]
  rw [QA c] at cS
  rw [decide_eq_false c] at n1
  simp only [Zu] at cS ⊢
  generalize n.chk.2=e at cS n1 ⊢
  clear h c
  obtain ⟨nm,rn,rs,fn,fr,tn,ts,sn,ss,gn,gs⟩:=n
  simp only [Na.cells] at cS ⊢
  refine Jw tOk fe8.ok rfl ?_ (by simp only [Zt,Zj])
  repeat' first|refine Jc (cS _) ?_|refine Js ?_|refine Ji ?_|refine JJ ?_|refine Jl ?_|refine Jx ?_|refine Jt ?_|refine Jb ?_ ?_|refine Jo ?_|refine Jd (cS _) ?_|refine JB ?_|refine JD ?_|refine JK ?_|(apply dLn;rfl;rfl;rfl;rfl;rfl)|refine JI ?_|(apply dT (ty:=4);rfl;rfl;rfl;rfl)|(apply dF (ty:=4);rfl;rfl;rfl;rfl)|(apply dB (ty:=4);rfl;rfl;rfl;rfl)|refine Jh ?_|(apply Wp.drawS tOk follows;kernel_rfl;rfl)|intro hb
  all_goals rfl
 have hT0:=ZbH h c
 have h8:=Za6 c
 have hgo:=fun N=>Zbv (n:=n) (N:=N) c
 obtain ⟨r,hr⟩:∃ r,r=PV.tup [.agg n.tagsF.1.cells,.int .i64 n.tagsF.2]:=⟨_,rfl⟩
 rw [← hr]
 have hfr:∀ m H,frz3 m H r=some r:=fun m H=>by rw [hr];exact Ze0 _ _ _ _
 rw [Ql c] at cS
 rw [c] at n1
 rw [decide_eq_true rfl] at n1
 have e4:=ZI n.steps
 have qa:=Ui n
 clear h c
 obtain ⟨nm,rn,rs,fn,fr,tn,ts,sn,ss,gn,gs⟩:=n
 simp only [Na.cells] at cS hT0 h8 hgo hr e4 qa ⊢
 refine Jw tOk fe8.ok (hfr _ _) ?_ (by simp only [Zt,Zj])
 repeat' first|refine Jc (cS _) ?_|refine Js ?_|refine Ji ?_|refine JJ ?_|refine Jl ?_|refine Jx ?_|refine Jt ?_|refine Jb ?_ ?_|refine Jo ?_|refine Jd (cS _) ?_|refine JB ?_|refine JD ?_|refine JK ?_|(apply dLn;rfl;rfl;rfl;rfl;rfl)|refine JI ?_|(apply dT (ty:=4);rfl;rfl;rfl;rfl)|(apply dF (ty:=4);rfl;rfl;rfl;rfl)|(apply dB (ty:=4);rfl;rfl;rfl;rfl)|refine Jh ?_|(apply Wp.drawS tOk follows;kernel_rfl;rfl)|intro hb
 clear cS n1 qa
 refine Wp.while (fun m2 tm H => ∃ (k : Nat) (base : TM) (tn2 : Bool) (ts2 : List Zg) (ss2 : List Sp) (sn2 : Bool), k + m2 = ss.length ∧ Na.Tg ⟨nm, rn, rs, fn, fr, tn, ts, sn, ss, gn, gs⟩ ⟨nm, rn, rs, fn, fr, tn2, ts2, sn2, ss2, gn, gs⟩ k ∧
   tm=ovr base [(1,.ptr 0 6 0 0),(2,.ptr 1 6 0 0),(6,.ptr 3 6 0 0),(7,.int .i64 (k:Int))]∧
   H=⟨[naB nm rn rs fn fr tn ts sn ss gn gs,zB,naB nm rn rs fn fr tn ts sn ss gn gs,naB nm rn rs fn fr tn2 ts2 sn2 ss2 gn gs],0,[],0⟩)
  (fun m2 tm H hI=>?_) ss.length _ _ ⟨0,_,tn,ts,ss,sn,by omega,hT0,Zf ⟨rfl,rfl,rfl,rfl,trivial⟩,rfl⟩
 clear hT0
 obtain ⟨k,base,tn2,ts2,ss2,sn2,hk,hT,rfl,rfl⟩:=hI
 have hlx:=Zn (k:Int) ((spC ss).length:Int)
 by_cases hlt:k<ss.length
 · rw [decide_eq_true (by omega)] at hlx
   have hii:=Zy (a:=(k:Int)) (b:=1) (by omega) (by omega)
   rw [show (k:Int)+1=((k+1:Nat):Int) by omega] at hii
   have hln:=hT.ln
   simp only at hln
   obtain ⟨s,hs⟩:∃ s,ss2[k]? = some s:=⟨ss2[k]'(by omega),by simp⟩
   have hso:ss[k]? = some s:=(hT.un k (Nat.le_refl k)).symm.trans hs
   have hst:=Za7 hT hlt h8 hs
   have hw:(VP k).length≤61:=by simp [VP,ZaP]
   have ci:=c34 (i:=k) (by omega)
   have ha:WL E0 .add 9 (.str [115]) (.str (ZaP k))=some (.str (VP k)):=QZ (a:=[115]) (b:=ZaP k) (by simp [ZaP])
   have cN:=c33 hT.sm (fun x hx=>by have:=hT.nl x hx;omega) hw
   have htl:=Za2 hT
   have hct:=hT.sm.tl
   simp only at hct
   have cW:=fun t=>c36 (n:=⟨nm,rn,rs,fn,fr,tn2,ts2,sn2,ss2,gn,gs⟩) (Nat.le_trans hct (by decide)) t
   have hcs:=hT.sm.sl
   simp only at hcs
   generalize nnF (Na.nms ⟨nm,rn,rs,fn,fr,tn2,ts2,sn2,ss2,gn,gs⟩) (VP k)=t at hst cN htl
   have cW:=cW t
   have cR:=c35 (n:=Na.with ⟨nm,rn,rs,fn,fr,tn2,ts2,sn2,ss2,gn,gs⟩ t) (j:=k) (Nat.le_trans hcs (by decide)) (show k<ss2.length by omega) (apT ZN [atT t,s.msg])
   rw [Vk (n:=Na.with ⟨nm,rn,rs,fn,fr,tn2,ts2,sn2,ss2,gn,gs⟩ t) (i:=k) hs] at cR
   have cA:=c38 t
   have cP:=U9 ZN (atT t) s.msg
   have hgs:=ZX hso
   have hnx:k+1+(m2-1)=ss.length:=by omega
   have hml:m2-1<m2:=by omega
   generalize ZaP k=D at ci ha
   generalize VP k=w at ha cN
   simp only [Na.with] at cW cR
   generalize ss2.set k {frm:=s.frm,to:=s.to,msg:=apT ZN [atT t,s.msg],line:=s.line}=SS at hst cR
   have qb:=Ui ⟨nm,rn,rs,fn,fr,false,ts2++ [t],sn2,SS,gn,gs⟩
   clear hT hs hso hlt hk hw hgo hr hfr hln hct hcs htl
   obtain ⟨sf,st,⟨Yk,Ym,Ys,Yb,Yl⟩,sln⟩:=s
   simp only [Na.cells,Sp.cells,atT,apT,Tm.cells,List.cons_append,List.nil_append] at cN cW cR cA cP hgs qb
   generalize Zb [Tm.mk 2 t 0 true [],Tm.mk Yk Ym Ys Yb Yl]=L at cP cR
   repeat' first|(apply qCl;rfl;rfl;rfl;rfl;first|exact ci _|exact cN _|exact cW _|exact cA _|exact cP _|exact cR _)|refine Js ?_|refine Ji ?_|refine JJ ?_|refine Jl ?_|refine Jx ?_|refine Jt ?_|refine Jb ?_ ?_|refine Jo ?_|(apply dCl;rfl;rfl;rfl;rfl;rfl;first|exact ci _|exact cN _|exact cW _|exact cA _|exact cP _|exact cR _)|refine JB ?_|refine JD ?_|refine JK ?_|(apply dLn;rfl;rfl;rfl;rfl;rfl)|refine JI ?_|(apply dT (ty:=4);rfl;rfl;rfl;rfl)|(apply dF (ty:=4);rfl;rfl;rfl;rfl)|(apply dB (ty:=4);rfl;rfl;rfl;rfl)|refine Jh ?_|(apply Wp.drawS tOk follows;kernel_rfl;rfl)|intro hb
   exact LoopI.go (m2-1) hml ⟨k+1,_,false,ts2++ [t],SS,sn2,hnx,hst,Zf ⟨rfl,rfl,rfl,rfl,trivial⟩,rfl⟩
 · have e : k = ss.length := by omega
   subst e
   rw [decide_eq_false (by omega)] at hlx
   have hN:=hgo _ hT
   have cK:=c32 hT.sm
   rw [hN] at hr
   obtain ⟨M,hM⟩:∃ M,M=(Na.chkd ⟨nm,rn,rs,fn,fr,tn2,ts2,sn2,ss2,gn,gs⟩).1:=⟨_,rfl⟩
   rw [← hM] at cK hr
   generalize (Na.chkd ⟨nm,rn,rs,fn,fr,tn2,ts2,sn2,ss2,gn,gs⟩).2=e at cK hr
   have qb:=Ui M
   clear hM hT hgo hN
   simp only [Na.cells] at cK hr qb
   subst hr
   repeat' first|refine Jc (cK _) ?_|refine Js ?_|refine Ji ?_|refine JJ ?_|refine Jl ?_|refine Jx ?_|refine Jt ?_|refine Jb ?_ ?_|refine Jo ?_|refine Jd (cK _) ?_|refine JB ?_|refine JD ?_|refine JK ?_|(apply dLn;rfl;rfl;rfl;rfl;rfl)|refine JI ?_|(apply dT (ty:=4);rfl;rfl;rfl;rfl)|(apply dF (ty:=4);rfl;rfl;rfl;rfl)|(apply dB (ty:=4);rfl;rfl;rfl;rfl)|refine Jh ?_|(apply Wp.drawS tOk follows;kernel_rfl;rfl)|intro hb
   all_goals exact hfr _ _
