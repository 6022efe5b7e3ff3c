/-
  Padding and sizes: the reference's text.
-/
import Derived.Test.YtgnklbkmfeafaaaGreatDoorWh
set_option maxHeartbeats 0
set_option maxRecDepth 100000
namespace Go.Vm.Seat
variable {n:Na}
open Go.Proofs
theorem c35 (hl:n.steps.length≤1000) {j:Nat} (hj:j<n.steps.length) (t:Tm):∀ H,CallOk E0 Tryz.prog 35 [.agg n.cells,.int .i64 (j:Int),.agg t.cells] H (.agg (n.repl j t).cells) H:=by
 obtain ⟨x,hx⟩:∃ x,n.steps[j]? = some x:=⟨n.steps[j],by simp⟩
 rw [ZcY hx]
 obtain ⟨SS,hSS⟩:∃ SS,SS=n.steps.set j {x with msg:=t}:=⟨_,rfl⟩
 rw [← hSS]
 have hSl:SS.length=n.steps.length:=by rw [hSS,List.length_set]
 have hSj:SS[j]? = some {x with msg:=t}:=by rw [hSS,List.getElem?_set_self hj]
 have hSo:∀ i,i≠j→SS[i]? = n.steps[i]? :=fun i hi=>by rw [hSS,List.getElem?_set_ne (Ne.symm hi)]
 have hSn:SS≠ []:=fun e=>by rw [e] at hSl;simp at hSl;omega
 clear hSS
 obtain ⟨r,hr⟩:∃ r,r=PV.agg ({n with steps:=SS}:Na).cells:=⟨_,rfl⟩
 have hfr:frz3 0 hNil r=some r:=by rw [hr];exact Qb _ _ _
 rw [← hr]
 obtain ⟨nm,rn,rs,fn,fr,tn,ts,sn,ss,gn,gs⟩:=n
 simp only [Na.cells] at hl hj hx hSl hSo hr ⊢
 have e4:=ZV ss
 have fz:=ZaI t
 obtain ⟨tk,tm1,ts1,tb,tl⟩:=t
 simp only [Tm.cells] at fz ⊢
 refine Jw tOk fe35.ok hfr ?_ (by simp only [Zv,Zl,fz];rfl)
 repeat' first|refine Js ?_|refine JA ?_|refine Ji ?_|refine JJ ?_|refine Jl ?_|refine Jx ?_|refine Jt ?_|refine Jb ?_ ?_|refine Jo ?_|intro hb
 refine Wp.while (fun m2 tm H => ∃ (i : Nat) (base : TM) (o : PV) (lv : List Nat) (nt : Nat), i + m2 = ss.length ∧ ApV true 7 (spC (SS.take i)) o lv nt ∧
   tm=ovr base [(1,.int .i64 (j:Int)),(3,.ptr 0 6 0 0),(5,.ptr 1 4 0 0),(6,.ptr 2 6 0 0),(7,o),(8,.int .i64 (i:Int))]∧H=⟨[naB nm rn rs fn fr tn ts sn ss gn gs,.cells 4 [[.int .i64 tk,.str tm1,.int .i64 ts1,slV tb 4 (Zb tl)]],zB],0,lv,nt⟩)
  (fun m2 tm H hI=>Wp.drop ?_) ss.length _ _ ⟨0,_,_,_,_,by omega,.nil [] 0 rfl,Ze ⟨rfl,rfl,rfl,rfl,rfl,rfl,trivial⟩,rfl⟩
 obtain ⟨i,base,o,lv,nt,hi,hA,rfl,rfl⟩:=hI
 have hlx:=Zk (i:Int) ((spC ss).length:Int)
 by_cases hlt:i<ss.length
 · rw [decide_eq_true (by omega)] at hlx
   obtain ⟨y,hy⟩:∃ y,ss[i]? = some y:=⟨ss[i],by simp⟩
   have hgy:=Yz hy
   have hii:=Zw (a:=(i:Int)) (b:=1) (by omega) (by omega)
   rw [show (i:Int)+1=((i+1:Nat):Int) by omega] at hii
   have hq:=Z1 (i:Int) (j:Int)
   obtain ⟨z,hz⟩:∃ z,SS[i]? = some z:=⟨SS[i],by simp⟩
   obtain ⟨o2,lv2,nt2,hap,hA2, -⟩:=hA.app Ze2 (.sl .full 7 [z.cells]) (Zcx [z]) (ZJ (by rw [ZV];simp;omega) (by decide)) (ZfU [z])
   rw [show spC (SS.take i)++ [z.cells]=spC (SS.take (i+1)) by rw [List.take_add_one,hz];simp [spC]] at hA2
   clear hA
   by_cases c:i=j
   · rw [decide_eq_true (by omega)] at hq
     obtain rfl:z={x with msg:= .mk tk tm1 ts1 tb tl}:=Option.some.inj (hz.symm.trans (by rw [c];exact hSj))
     obtain rfl:y=x:=Option.some.inj (hy.symm.trans (by rw [c];exact hx))
     obtain ⟨xf,xt,⟨k',nm',s',b',kz'⟩,xl⟩:=y
     simp only [Sp.cells,Tm.cells,List.cons_append,List.nil_append] at hgy hap
     clear hSj hSo hz hx hy
     repeat' first|refine Js ?_|refine JA ?_|refine Ji ?_|refine JJ ?_|refine Jl ?_|refine Jx ?_|refine Jt ?_|refine Jb ?_ ?_|refine Jo ?_|intro hb
     refine DropQ.go [(1,.int .i64 (j:Int)),(3,.ptr 0 6 0 0),(5,.ptr 1 4 0 0),(6,.ptr 2 6 0 0),(7,o2),(8,.int .i64 ((i+1:Nat):Int))] ⟨rfl,rfl,rfl,rfl,rfl,rfl,trivial⟩ ?_ rfl ?_ ?_
     · simp [under,hA2.under]
     · simp [ZS,Zp,Zf,under]
     · exact LoopI.go (m2-1) (by omega) ⟨i+1,_,o2,lv2,nt2,by omega,hA2,rfl,rfl⟩
   · rw [decide_eq_false (by omega)] at hq
     obtain rfl:z=y:=Option.some.inj (hz.symm.trans ((hSo i c).trans hy))
     obtain ⟨xf,xt,⟨k',nm',s',b',kz'⟩,xl⟩:=z
     simp only [Sp.cells,Tm.cells,List.cons_append,List.nil_append] at hgy hap
     clear hSj hSo hz hx hy
     repeat' first|refine Js ?_|refine JA ?_|refine Ji ?_|refine JJ ?_|refine Jl ?_|refine Jx ?_|refine Jt ?_|refine Jb ?_ ?_|refine Jo ?_|intro hb
     refine DropQ.go [(1,.int .i64 (j:Int)),(3,.ptr 0 6 0 0),(5,.ptr 1 4 0 0),(6,.ptr 2 6 0 0),(7,o2),(8,.int .i64 ((i+1:Nat):Int))] ⟨rfl,rfl,rfl,rfl,rfl,rfl,trivial⟩ ?_ rfl ?_ ?_
     · simp [under,hA2.under]
     · simp [ZS,Zp,Zf,under]
     · exact LoopI.go (m2-1) (by omega) ⟨i+1,_,o2,lv2,nt2,by omega,hA2,rfl,rfl⟩
 · have e : i = ss.length := by omega
   subst e
   rw [decide_eq_false (by omega)] at hlx
   rw [List.take_of_length_le (by omega)] at hA
   obtain ⟨q1,q2⟩:=VG hA
   have fin:∀ m H,frz3 m H (.agg [.str nm,slV rn 1 (Zo rs),slV fn 3 (frC fr),slV tn 1 (Zo ts),o,slV gn 5 (glC gs)])=some r:=fun m H=>by
    rw [hr]
    refine ZcA ?_
    simp only [YT,YY,hA.frzC,Zdc hSn]
    rfl
   have qb:=Zcb nm (Zz rn 1 (Zo rs)).2 (Zz fn 3 (frC fr)).2 (Zz tn 1 (Zo ts)).2 q2 (Zz gn 5 (glC gs)).2
   clear hr hA hfr
   repeat' first|refine Js ?_|refine JA ?_|refine Ji ?_|refine JJ ?_|refine Jl ?_|refine Jx ?_|refine Jt ?_|refine Jb ?_ ?_|refine Jo ?_|(apply qSt;rfl;rfl;assumption;exact IsL.n;rfl;assumption;(first|rfl|assumption);exact IsH.mkN)|intro hb
   all_goals exact fin _ _
theorem c17 (h:n.Ti) (step size:Int):∀ H,CallOk E0 Tryz.prog 17 [.agg n.cells,.int .i64 step,.int .i64 size] H (.tup [.agg (n.pad step size).1.cells,.int .i64 (n.pad step size).2]) H:=by
 have cW:=c42 h.sm step
 have n1:=ZK (n.inE step) 0
 have l1:=Zk size 1
 have l6:=Yp size 6
 by_cases c:n.inE step=0
 case neg=>
  rw [ZdG c]
  rw [decide_eq_false c] at n1
  simp only [Yn]
  generalize n.inE step=e at cW n1 ⊢
  clear h c
  obtain ⟨nm,rn,rs,fn,fr,tn,ts,sn,ss,gn,gs⟩:=n
  simp only [Na.cells] at cW ⊢
  refine Jw tOk fe17.ok rfl ?_ (by simp only [Zv,Zl];rfl)
  repeat' first|refine Jk ?_|refine Jc (cW _) ?_|refine Js ?_|refine Ji ?_|refine JJ ?_|refine Jx ?_|refine Jt ?_|refine Jb ?_ ?_|refine Jo ?_|(apply dK;rfl;rfl;rfl)|refine Jd (cW _) ?_|(apply dAl;rfl;rfl;rfl;rfl;exact IsV.ptrM;exact IsH.mkN)|refine JB ?_|refine JD ?_|refine JK ?_|refine JI ?_|(apply dT (ty:=4);rfl;rfl;rfl;rfl)|(apply dF (ty:=4);rfl;rfl;rfl;rfl)|(apply dB (ty:=4);rfl;rfl;rfl;rfl)|refine Jh ?_|(apply dWS tOk follows;rfl;kernel_rfl;rfl)|(apply dWB tOk follows;rfl;kernel_rfl;rfl;exact IsH.mkN)|intro hb
  all_goals rfl
 obtain ⟨k1,k2,k3⟩:=Zcg c
 by_cases c2:size<1∨6<size
 · rw [ZcK c c2]
   rw [decide_eq_true c] at n1
   rw [c] at cW n1
   simp only [Yn]
   clear h c k1 k2 k3
   obtain ⟨nm,rn,rs,fn,fr,tn,ts,sn,ss,gn,gs⟩:=n
   simp only [Na.cells] at cW ⊢
   refine Jw tOk fe17.ok rfl ?_ (by simp only [Zv,Zl];rfl)
   by_cases c3:size<1
   · rw [decide_eq_true c3] at l1
     repeat' first|refine Jk ?_|refine Jc (cW _) ?_|refine Js ?_|refine Ji ?_|refine JJ ?_|refine Jx ?_|refine Jt ?_|refine Jb ?_ ?_|refine Jo ?_|(apply dK;rfl;rfl;rfl)|refine Jd (cW _) ?_|(apply dAl;rfl;rfl;rfl;rfl;exact IsV.ptrM;exact IsH.mkN)|refine JB ?_|refine JD ?_|refine JK ?_|refine JI ?_|(apply dT (ty:=4);rfl;rfl;rfl;rfl)|(apply dF (ty:=4);rfl;rfl;rfl;rfl)|(apply dB (ty:=4);rfl;rfl;rfl;rfl)|refine Jh ?_|(apply dWS tOk follows;rfl;kernel_rfl;rfl)|(apply dWB tOk follows;rfl;kernel_rfl;rfl;exact IsH.mkN)|intro hb
     all_goals rfl
   · rw [decide_eq_false c3] at l1
     rw [decide_eq_true (by omega)] at l6
     repeat' first|refine Jk ?_|refine Jc (cW _) ?_|refine Js ?_|refine Ji ?_|refine JJ ?_|refine Jx ?_|refine Jt ?_|refine Jb ?_ ?_|refine Jo ?_|(apply dK;rfl;rfl;rfl)|refine Jd (cW _) ?_|(apply dAl;rfl;rfl;rfl;rfl;exact IsV.ptrM;exact IsH.mkN)|refine JB ?_|refine JD ?_|refine JK ?_|refine JI ?_|(apply dT (ty:=4);rfl;rfl;rfl;rfl)|(apply dF (ty:=4);rfl;rfl;rfl;rfl)|(apply dB (ty:=4);rfl;rfl;rfl;rfl)|refine Jh ?_|(apply dWS tOk follows;rfl;kernel_rfl;rfl)|(apply dWB tOk follows;rfl;kernel_rfl;rfl;exact IsH.mkN)|intro hb
     all_goals rfl
 rw [decide_eq_false (by omega)] at l1 l6
 rw [decide_eq_true c] at n1
 rw [c] at cW n1
 obtain ⟨i,rfl⟩:∃ i:Nat,step=i:=⟨step.toNat,by omega⟩
 have hil:i<n.steps.length:=by omega
 obtain ⟨s,hs⟩:∃ s,n.steps[i]? = some s:=⟨n.steps[i],by simp⟩
 rw [Zcz c c2 hs]
 have hnm:=VE k1
 have cN:=c33 h.sm (fun s hs=>by have:=hnm s hs;omega) (w:=Zb7) (by decide)
 have htl:=Zam (N:=n.nms) (w:=Zb7) (fun s hs=>by have:=hnm s hs;omega) (by decide)
 generalize nnF n.nms Zb7=t at cN htl ⊢
 obtain ⟨z,hz⟩:∃ z:Nat,size=((z+1:Nat):Int):=⟨size.toNat-1,by omega⟩
 rw [show size.toNat-1=z by omega]
 have cA:=c38 t
 have cC:=c46 (atT t) z (by omega)
 rw [← hz] at cC
 have cP:=Ze4 Y7 s.msg (Wu (atT t) z)
 have cT:=c36 (n:=n) (Nat.le_trans h.tl (by decide)) t
 have cR:=c35 (n:=n.with t) (Nat.le_trans h.sl (by decide)) hil (apT Y7 [s.msg,Wu (atT t) z])
 have hss:=h.sm.ss s (List.mem_of_getElem? hs)
 have hms:=h.ms s (List.mem_of_getElem? hs)
 obtain ⟨N,hN⟩:∃ N,N=(n.with t).repl i (apT Y7 [s.msg,Wu (atT t) z]):=⟨_,rfl⟩
 have hNs:N.Sm:=by
  rw [hN]
  refine ZaG (ZaD h.sm (Nat.le_trans h.tl (by decide)) (by omega)) hs (ZbF (by decide) (by simp) fun x hx=>?_) ?_
  · rcases List.mem_cons.1 hx with rfl | hx
    · exact hss.2.2.1
    · rw [List.mem_singleton.1 hx];exact Qd (by omega) z
  · have := WR t z
    simp only [apT,Tm.size,ZZ,this]
    omega
 rw [← hN] at cR ⊢
 have cK:=c32 hNs
 obtain ⟨M,hM⟩:∃ M,M=N.chkd.1:=⟨_,rfl⟩
 rw [← hM] at cK ⊢
 generalize N.chkd.2=e at cK ⊢
 have hfr:∀ m H,frz3 m H (.tup [.agg M.cells,.int .i64 e])=some (.tup [.agg M.cells,.int .i64 e]):=fun m H=>by
  have h2:frz2 m H (.agg M.cells)=some (.agg M.cells):=by
   show (match YT m H M.cells with|some cs'=>some (PV.agg cs')|none=>none)=_
   simp only [Na.cells,YT,YY];rfl
  rw [YU]
  simp only [XN,h2]
  rfl
 have qb:=Zcb M.name (Zz M.rn 1 (Zo M.roles)).2 (Zz M.fn 3 (frC M.fresh)).2 (Zz M.tn 1 (Zo M.tags)).2 (Zz M.sn 7 (spC M.steps)).2 (Zz M.gn 5 (glC M.goals)).2
 have hgs:=Yz hs
 clear h hN hNs hM hnm htl hss hms c c2 k1 k2 k3 hil hs
 generalize Wu (atT t) z=X at cC cP cR
 generalize n.with t=W at cT cR
 obtain ⟨sf,st,⟨Yk,Ym,Ys,Yb,Yl⟩,sl⟩:=s
 obtain ⟨Xk,Xm,Xs,Xb,Xl⟩:=X
 obtain ⟨nm,rn,rs,fn,fr,tn,ts,sn,ss,gn,gs⟩:=n
 simp only [Na.cells,Sp.cells,atT,apT,Tm.cells,List.cons_append,List.nil_append] at cW cN cA cC cP cT cR cK hgs qb hfr ⊢
 generalize Zb [Tm.mk Yk Ym Ys Yb Yl,Tm.mk Xk Xm Xs Xb Xl]=L at cP cR
 refine WI (own:=(fun d=>[30013].any (Nat.beq d))) tOk fe17.ok (by simp only [Zv,Zl];rfl) (hfr _ _) ?_
 refine Wp.seq ?_
 repeat' first|refine Jk ?_|(apply qCl;rfl;rfl;rfl;rfl;first|exact cW _|exact cN _|exact cA _|exact cC _|exact cP _|exact cT _|exact cR _|exact cK _)|refine Js ?_|refine Ji ?_|refine JJ ?_|refine Jx ?_|refine Jt ?_|refine Jb ?_ ?_|refine Jo ?_|(apply dK;rfl;rfl;rfl)|(apply dCl;rfl;rfl;rfl;rfl;rfl;first|exact cW _|exact cN _|exact cA _|exact cC _|exact cP _|exact cT _|exact cR _|exact cK _)|(apply dAl;rfl;rfl;rfl;rfl;exact IsV.ptrM;exact IsH.mkN)|refine JB ?_|refine JD ?_|refine JK ?_|refine JI ?_|(apply dT (ty:=4);rfl;rfl;rfl;rfl)|(apply dF (ty:=4);rfl;rfl;rfl;rfl)|(apply dB (ty:=4);rfl;rfl;rfl;rfl)|refine Jh ?_|(apply dWS tOk follows;rfl;kernel_rfl;rfl)|(apply dWB tOk follows;rfl;kernel_rfl;rfl;exact IsH.mkN)|intro hb
 all_goals exact hfr _ _
