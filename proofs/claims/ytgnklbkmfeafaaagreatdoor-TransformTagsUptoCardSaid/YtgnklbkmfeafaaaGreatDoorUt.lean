/-
  Steps and goals in their scope: the reference's text.
-/
import Derived.Test.YtgnklbkmfeafaaaGreatDoorUs
set_option maxHeartbeats 0
set_option maxRecDepth 100000
namespace Go.Vm.Seat
variable {n:Na}
open Go.Proofs
theorem ZkQ (h:n.Sm) {s:Sp} (hm:s.msg.Ok):∀ H,CallOk E0 Tryz.prog 114 [.agg n.cells,.agg s.cells] H (.int .i64 (s.sce n.roles n.nms)) H:=by
 have hT:=Zjs h hm
 have hR:n.roles.length≤1100000:=Nat.le_trans h.rl (by decide)
 have cI:=fun v=>ZgZ hR v n.rn
 clear h hm
 have z0:=fun v=>Zn (XS (isR v) n.roles 0) 0
 have z0:=fun v=>(Zfh n.roles v) ▸ z0 v
 rw [Sp.sce]
 have cA:=cI s.frm
 have cB:=cI s.to
 have zA:=z0 s.frm
 have zB:=z0 s.to
 have hsx:=Y1 s.frm s.to
 clear cI z0 hR
 generalize XS (isR s.frm) n.roles 0=FA at cA zA
 generalize XS (isR s.to) n.roles 0=FB at cB zB
 generalize ZU n.roles s.frm=A at zA ⊢
 generalize ZU n.roles s.to=B at zB ⊢
 generalize s.msg.sc n.roles n.nms=e at hT ⊢
 have hfz:frzG (.agg s.cells)=some (.agg s.cells):=by
  obtain ⟨f,t,⟨k,m,s',b,kz⟩,ln⟩:=s
  simp only [Sp.cells,Tm.cells,List.cons_append,List.nil_append,frzG,Uy,Yy];rfl
 obtain ⟨nm,rn,rs,fn,fr,tn,ts,sn,ss,gn,gs⟩:=n
 obtain ⟨f,t,⟨k,m,s',b,kz⟩,ln⟩:=s
 simp only [Na.cells,Sp.cells,Tm.cells,List.cons_append,List.nil_append] at hT cA cB hfz ⊢
 refine Jw tOk fe114.ok rfl ?_ (by simp only [Zt,Zj,hfz])
 cases A with
 | false =>
   rw [if_pos (.inl rfl)]
   repeat' first|refine Jk ?_|refine Jc (cA _) ?_|refine Ji ?_|refine Jt ?_|refine Jb ?_ ?_|refine Jo ?_|intro hb
   all_goals rfl
 |true=>
 cases B with
 | false =>
   rw [if_pos (.inr rfl)]
   repeat' first|refine Jk ?_|refine Jc (cA _) ?_|refine Jc (cB _) ?_|refine Ji ?_|refine Jt ?_|refine Jb ?_ ?_|refine Jo ?_|intro hb
   all_goals rfl
 |true=>
 rw [if_neg (by simp)]
 simp only at hsx
 by_cases c:f=t
 · rw [decide_eq_true c] at hsx
   rw [if_pos c]
   repeat' first|refine Jk ?_|refine Jc (cA _) ?_|refine Jc (cB _) ?_|refine Ji ?_|refine Jt ?_|refine Jb ?_ ?_|refine Jo ?_|intro hb
   all_goals rfl
 · rw [decide_eq_false c] at hsx
   rw [if_neg c]
   repeat' first|refine Jk ?_|(apply qCl;rfl;rfl;rfl;rfl;first|exact cA _|exact cB _|exact hT _)|refine Ji ?_|refine Jt ?_|refine Jb ?_ ?_|refine Jo ?_|intro hb
   all_goals rfl
theorem Zks (h:n.Sm) {g:Gl} (hl:g.data.length≤1000) (hd:∀ t,t∈g.data→t.Ok):∀ H,CallOk E0 Tryz.prog 115 [.agg n.cells,.agg g.cells] H (.int .i64 (g.sce n.roles n.nms)) H:=by
 have hT:=fun {t:Tm} (ht:t∈g.data)=>Zjs h (hd t ht)
 have hR:n.roles.length≤1100000:=Nat.le_trans h.rl (by decide)
 have cI:=fun v=>ZgZ hR v n.rn
 clear h hd
 have z0:=fun v=>Zn (XS (isR v) n.roles 0) 0
 have z0:=fun v=>(Zfh n.roles v) ▸ z0 v
 rw [Gl.sce]
 have cA:=cI g.role
 have cB:=cI g.wth
 have zA:=z0 g.role
 have zB:=z0 g.wth
 clear cI z0 hR
 generalize XS (isR g.role) n.roles 0=FA at cA zA
 generalize XS (isR g.wth) n.roles 0=FB at cB zB
 generalize ZU n.roles g.role=A at zA ⊢
 generalize ZU n.roles g.wth=B at zB ⊢
 generalize n.nms=N at hT ⊢
 have hfz:=Zeo g
 have hcl:=Za g.data
 obtain ⟨k,r,w,b,d,ln⟩:=g
 obtain ⟨R,hRe⟩:∃ R,R=n.roles:=⟨_,rfl⟩
 rw [← hRe] at hT ⊢
 clear hRe
 obtain ⟨nm,rn,rs,fn,fr,tn,ts,sn,ss,gn,gs⟩:=n
 simp only [Na.cells,Gl.cells] at hl hcl hT cA cB hfz ⊢
 have hsx:=Y1 w r
 have z2:=Z6 k 2
 have z3:=Z6 k 3
 have hag:Zce k=(decide (k=2)||decide (k=3)):=rfl
 rw [hag]
 clear hag
 generalize decide (k=2)=P at z2 ⊢
 generalize decide (k=3)=Q at z3 ⊢
 refine Jw tOk fe115.ok rfl ?_ (by simp only [Zt,Zj,hfz])
 cases A with
 | false =>
   rw [if_pos rfl]
   repeat' first|refine Jk ?_|refine Jc (cA _) ?_|refine Ji ?_|refine JJ ?_|refine Jl ?_|refine Jx ?_|refine Jt ?_|refine Jb ?_ ?_|refine Jo ?_|(apply dK;rfl;rfl;rfl)|refine Jd (cA _) ?_|refine JD ?_|refine JK ?_|(apply dLn;rfl;rfl;rfl;rfl;rfl)|refine JI ?_|(apply dT (ty:=4);rfl;rfl;rfl;rfl)|(apply dF (ty:=4);rfl;rfl;rfl;rfl)|(apply dB (ty:=4);rfl;rfl;rfl;rfl)|refine Jh ?_|(apply Wp.draw tOk follows;kernel_rfl)|intro hb
   all_goals rfl
 |true=>
 rw [if_neg (by simp)]
 cases hPQ:(P||Q) with
 | false =>
   obtain ⟨rfl,rfl⟩:P=false∧Q=false:=by revert hPQ;cases P<;>cases Q<;>simp
   rw [if_neg (by simp),if_neg (by simp)]
   clear zB cB hsx hPQ
   repeat' first|refine Jk ?_|refine Jc (cA _) ?_|refine Ji ?_|refine JJ ?_|refine Jl ?_|refine Jx ?_|refine Jt ?_|refine Jb ?_ ?_|refine Jo ?_|(apply dK;rfl;rfl;rfl)|refine Jd (cA _) ?_|refine JD ?_|refine JK ?_|(apply dLn;rfl;rfl;rfl;rfl;rfl)|refine JI ?_|(apply dT (ty:=4);rfl;rfl;rfl;rfl)|(apply dF (ty:=4);rfl;rfl;rfl;rfl)|(apply dB (ty:=4);rfl;rfl;rfl;rfl)|refine Jh ?_|(apply Wp.draw tOk follows;kernel_rfl)|intro hb
   refine Wp.while (fun m2 tm H=>∃ (i:Nat) (base:TM),i+m2=d.length∧Zv (Tm.sc R N) d=Zv (Tm.sc R N) (d.drop i)∧tm=ovr base [(2,.ptr 0 6 0 0),(3,.ptr 1 5 0 0),  (5,.int .i64 (i:Int))]∧H=⟨[naB nm rn rs fn fr tn ts sn ss gn gs,.cells 5 [[.int .i64 k,.str r,.str w,slV b 4 (Zb d),.int .i64 ln]]],0,[],0⟩)
    (fun m2 tm H hI=>?_) d.length _ _ ⟨0,_,by omega,by simp,Zf ⟨rfl,rfl,  rfl,trivial⟩,rfl⟩
   obtain ⟨i,base,hi,hgo,rfl,rfl⟩:=hI
   rw [hgo]
   have hlx:=Zn (i:Int) (((Zb d).length):Int)
   by_cases hlt:i<d.length
   · obtain ⟨t, ht⟩ : ∃ t, d[i]? = some t := ⟨d[i], by simp⟩
     have hq:=hT (List.mem_of_getElem? ht)
     rw [decide_eq_true (by omega)] at hlx
     have hii:=Zy (a:=(i:Int)) (b:=1) (by omega) (by omega)
     rw [show (i:Int)+1=((i+1:Nat):Int) by omega] at hii
     rw [Zl ht rfl]
     have n1:=ZK (t.sc R N) 0
     generalize t.sc R N=e at hq n1 ⊢
     obtain ⟨k',nm',s',b',kz'⟩:=t
     have hj:=Zh (ht)
     simp only [Tm.cells] at hq
     by_cases c1:e=0
     · rw [decide_eq_true c1] at n1
       rw [if_neg (by omega)]
       repeat' first|refine Jk ?_|refine Jc (hq _) ?_|refine Ji ?_|refine JJ ?_|refine Jl ?_|refine Jx ?_|refine Jt ?_|refine Jb ?_ ?_|refine Jo ?_|(apply dK;rfl;rfl;rfl)|refine Jd (hq _) ?_|refine JD ?_|refine JK ?_|(apply dLn;rfl;rfl;rfl;rfl;rfl)|refine JI ?_|(apply dT (ty:=4);rfl;rfl;rfl;rfl)|(apply dF (ty:=4);rfl;rfl;rfl;rfl)|(apply dB (ty:=4);rfl;rfl;rfl;rfl)|refine Jh ?_|(apply Wp.draw tOk follows;kernel_rfl)|intro hb
       exact LoopI.go (m2-1) (by omega) ⟨i+1,_,by omega,rfl,Zf ⟨rfl,rfl,  rfl,trivial⟩,rfl⟩
     · rw [decide_eq_false c1] at n1
       rw [if_pos c1]
       repeat' first|refine Jk ?_|refine Jc (hq _) ?_|refine Ji ?_|refine JJ ?_|refine Jl ?_|refine Jx ?_|refine Jt ?_|refine Jb ?_ ?_|refine Jo ?_|(apply dK;rfl;rfl;rfl)|refine Jd (hq _) ?_|refine JD ?_|refine JK ?_|(apply dLn;rfl;rfl;rfl;rfl;rfl)|refine JI ?_|(apply dT (ty:=4);rfl;rfl;rfl;rfl)|(apply dF (ty:=4);rfl;rfl;rfl;rfl)|(apply dB (ty:=4);rfl;rfl;rfl;rfl)|refine Jh ?_|(apply Wp.draw tOk follows;kernel_rfl)|intro hb
       all_goals rfl
   · have e : i = d.length := by omega
     subst e
     rw [decide_eq_false (by omega)] at hlx
     rw [List.drop_length]
     repeat' first|refine Jk ?_|refine Ji ?_|refine JJ ?_|refine Jl ?_|refine Jx ?_|refine Jt ?_|refine Jb ?_ ?_|refine Jo ?_|(apply dK;rfl;rfl;rfl)|refine JD ?_|refine JK ?_|(apply dLn;rfl;rfl;rfl;rfl;rfl)|refine JI ?_|(apply dT (ty:=4);rfl;rfl;rfl;rfl)|(apply dF (ty:=4);rfl;rfl;rfl;rfl)|(apply dB (ty:=4);rfl;rfl;rfl;rfl)|refine Jh ?_|(apply Wp.draw tOk follows;kernel_rfl)|intro hb
     all_goals rfl
 |true=>
 cases B with
 | false =>
   rw [if_pos ⟨rfl,rfl⟩]
   cases P with
   | true =>
     repeat' first|refine Jk ?_|refine Jc (cA _) ?_|refine Jc (cB _) ?_|refine Ji ?_|refine JJ ?_|refine Jl ?_|refine Jx ?_|refine Jt ?_|refine Jb ?_ ?_|refine Jo ?_|(apply dK;rfl;rfl;rfl)|refine Jd (cA _) ?_|refine Jd (cB _) ?_|refine JD ?_|refine JK ?_|(apply dLn;rfl;rfl;rfl;rfl;rfl)|refine JI ?_|(apply dT (ty:=4);rfl;rfl;rfl;rfl)|(apply dF (ty:=4);rfl;rfl;rfl;rfl)|(apply dB (ty:=4);rfl;rfl;rfl;rfl)|refine Jh ?_|(apply Wp.draw tOk follows;kernel_rfl)|intro hb
     all_goals rfl
   | false =>
     obtain rfl:Q=true:=by simpa using hPQ
     repeat' first|refine Jk ?_|refine Jc (cA _) ?_|refine Jc (cB _) ?_|refine Ji ?_|refine JJ ?_|refine Jl ?_|refine Jx ?_|refine Jt ?_|refine Jb ?_ ?_|refine Jo ?_|(apply dK;rfl;rfl;rfl)|refine Jd (cA _) ?_|refine Jd (cB _) ?_|refine JD ?_|refine JK ?_|(apply dLn;rfl;rfl;rfl;rfl;rfl)|refine JI ?_|(apply dT (ty:=4);rfl;rfl;rfl;rfl)|(apply dF (ty:=4);rfl;rfl;rfl;rfl)|(apply dB (ty:=4);rfl;rfl;rfl;rfl)|refine Jh ?_|(apply Wp.draw tOk follows;kernel_rfl)|intro hb
     all_goals rfl
 |true=>
 rw [if_neg (by simp)]
 by_cases c:r=w
 · rw [decide_eq_true c.symm] at hsx
   rw [if_pos ⟨rfl,c⟩]
   cases P with
   | true =>
     repeat' first|refine Jk ?_|refine Jc (cA _) ?_|refine Jc (cB _) ?_|refine Ji ?_|refine JJ ?_|refine Jl ?_|refine Jx ?_|refine Jt ?_|refine Jb ?_ ?_|refine Jo ?_|(apply dK;rfl;rfl;rfl)|refine Jd (cA _) ?_|refine Jd (cB _) ?_|refine JD ?_|refine JK ?_|(apply dLn;rfl;rfl;rfl;rfl;rfl)|refine JI ?_|(apply dT (ty:=4);rfl;rfl;rfl;rfl)|(apply dF (ty:=4);rfl;rfl;rfl;rfl)|(apply dB (ty:=4);rfl;rfl;rfl;rfl)|refine Jh ?_|(apply Wp.draw tOk follows;kernel_rfl)|intro hb
     all_goals rfl
   | false =>
     obtain rfl:Q=true:=by simpa using hPQ
     repeat' first|refine Jk ?_|refine Jc (cA _) ?_|refine Jc (cB _) ?_|refine Ji ?_|refine JJ ?_|refine Jl ?_|refine Jx ?_|refine Jt ?_|refine Jb ?_ ?_|refine Jo ?_|(apply dK;rfl;rfl;rfl)|refine Jd (cA _) ?_|refine Jd (cB _) ?_|refine JD ?_|refine JK ?_|(apply dLn;rfl;rfl;rfl;rfl;rfl)|refine JI ?_|(apply dT (ty:=4);rfl;rfl;rfl;rfl)|(apply dF (ty:=4);rfl;rfl;rfl;rfl)|(apply dB (ty:=4);rfl;rfl;rfl;rfl)|refine Jh ?_|(apply Wp.draw tOk follows;kernel_rfl)|intro hb
     all_goals rfl
 · rw [decide_eq_false (fun h => c h.symm)] at hsx
   rw [if_neg (fun h=>c h.2)]
   cases P with
   | true =>
     repeat' first|refine Jk ?_|refine Jc (cA _) ?_|refine Jc (cB _) ?_|refine Ji ?_|refine JJ ?_|refine Jl ?_|refine Jx ?_|refine Jt ?_|refine Jb ?_ ?_|refine Jo ?_|(apply dK;rfl;rfl;rfl)|refine Jd (cA _) ?_|refine Jd (cB _) ?_|refine JD ?_|refine JK ?_|(apply dLn;rfl;rfl;rfl;rfl;rfl)|refine JI ?_|(apply dT (ty:=4);rfl;rfl;rfl;rfl)|(apply dF (ty:=4);rfl;rfl;rfl;rfl)|(apply dB (ty:=4);rfl;rfl;rfl;rfl)|refine Jh ?_|(apply Wp.draw tOk follows;kernel_rfl)|intro hb
     refine Wp.while (fun m2 tm H=>∃ (i:Nat) (base:TM),i+m2=d.length∧Zv (Tm.sc R N) d=Zv (Tm.sc R N) (d.drop i)∧tm=ovr base [(2,.ptr 0 6 0 0),(3,.ptr 1 5 0 0),  (5,.int .i64 (i:Int))]∧H=⟨[naB nm rn rs fn fr tn ts sn ss gn gs,.cells 5 [[.int .i64 k,.str r,.str w,slV b 4 (Zb d),.int .i64 ln]]],0,[],0⟩)
      (fun m2 tm H hI=>?_) d.length _ _ ⟨0,_,by omega,by simp,Zf ⟨rfl,rfl,  rfl,trivial⟩,rfl⟩
     obtain ⟨i,base,hi,hgo,rfl,rfl⟩:=hI
     rw [hgo]
     have hlx:=Zn (i:Int) (((Zb d).length):Int)
     by_cases hlt:i<d.length
     · obtain ⟨t, ht⟩ : ∃ t, d[i]? = some t := ⟨d[i], by simp⟩
       have hq:=hT (List.mem_of_getElem? ht)
       rw [decide_eq_true (by omega)] at hlx
       have hii:=Zy (a:=(i:Int)) (b:=1) (by omega) (by omega)
       rw [show (i:Int)+1=((i+1:Nat):Int) by omega] at hii
       rw [Zl ht rfl]
       have n1:=ZK (t.sc R N) 0
       generalize t.sc R N=e at hq n1 ⊢
       obtain ⟨k',nm',s',b',kz'⟩:=t
       have hj:=Zh (ht)
       simp only [Tm.cells] at hq
       by_cases c1:e=0
       · rw [decide_eq_true c1] at n1
         rw [if_neg (by omega)]
         repeat' first|refine Jk ?_|refine Jc (hq _) ?_|refine Ji ?_|refine JJ ?_|refine Jl ?_|refine Jx ?_|refine Jt ?_|refine Jb ?_ ?_|refine Jo ?_|(apply dK;rfl;rfl;rfl)|refine Jd (hq _) ?_|refine JD ?_|refine JK ?_|(apply dLn;rfl;rfl;rfl;rfl;rfl)|refine JI ?_|(apply dT (ty:=4);rfl;rfl;rfl;rfl)|(apply dF (ty:=4);rfl;rfl;rfl;rfl)|(apply dB (ty:=4);rfl;rfl;rfl;rfl)|refine Jh ?_|(apply Wp.draw tOk follows;kernel_rfl)|intro hb
         exact LoopI.go (m2-1) (by omega) ⟨i+1,_,by omega,rfl,Zf ⟨rfl,rfl,  rfl,trivial⟩,rfl⟩
       · rw [decide_eq_false c1] at n1
         rw [if_pos c1]
         repeat' first|refine Jk ?_|refine Jc (hq _) ?_|refine Ji ?_|refine JJ ?_|refine Jl ?_|refine Jx ?_|refine Jt ?_|refine Jb ?_ ?_|refine Jo ?_|(apply dK;rfl;rfl;rfl)|refine Jd (hq _) ?_|refine JD ?_|refine JK ?_|(apply dLn;rfl;rfl;rfl;rfl;rfl)|refine JI ?_|(apply dT (ty:=4);rfl;rfl;rfl;rfl)|(apply dF (ty:=4);rfl;rfl;rfl;rfl)|(apply dB (ty:=4);rfl;rfl;rfl;rfl)|refine Jh ?_|(apply Wp.draw tOk follows;kernel_rfl)|intro hb
         all_goals rfl
     · have e : i = d.length := by omega
       subst e
       rw [decide_eq_false (by omega)] at hlx
       rw [List.drop_length]
       repeat' first|refine Jk ?_|refine Ji ?_|refine JJ ?_|refine Jl ?_|refine Jx ?_|refine Jt ?_|refine Jb ?_ ?_|refine Jo ?_|(apply dK;rfl;rfl;rfl)|refine JD ?_|refine JK ?_|(apply dLn;rfl;rfl;rfl;rfl;rfl)|refine JI ?_|(apply dT (ty:=4);rfl;rfl;rfl;rfl)|(apply dF (ty:=4);rfl;rfl;rfl;rfl)|(apply dB (ty:=4);rfl;rfl;rfl;rfl)|refine Jh ?_|(apply Wp.draw tOk follows;kernel_rfl)|intro hb
       all_goals rfl
   | false =>
     obtain rfl:Q=true:=by simpa using hPQ
     repeat' first|refine Jk ?_|refine Jc (cA _) ?_|refine Jc (cB _) ?_|refine Ji ?_|refine JJ ?_|refine Jl ?_|refine Jx ?_|refine Jt ?_|refine Jb ?_ ?_|refine Jo ?_|(apply dK;rfl;rfl;rfl)|refine Jd (cA _) ?_|refine Jd (cB _) ?_|refine JD ?_|refine JK ?_|(apply dLn;rfl;rfl;rfl;rfl;rfl)|refine JI ?_|(apply dT (ty:=4);rfl;rfl;rfl;rfl)|(apply dF (ty:=4);rfl;rfl;rfl;rfl)|(apply dB (ty:=4);rfl;rfl;rfl;rfl)|refine Jh ?_|(apply Wp.draw tOk follows;kernel_rfl)|intro hb
     refine Wp.while (fun m2 tm H=>∃ (i:Nat) (base:TM),i+m2=d.length∧Zv (Tm.sc R N) d=Zv (Tm.sc R N) (d.drop i)∧tm=ovr base [(2,.ptr 0 6 0 0),(3,.ptr 1 5 0 0),  (5,.int .i64 (i:Int))]∧H=⟨[naB nm rn rs fn fr tn ts sn ss gn gs,.cells 5 [[.int .i64 k,.str r,.str w,slV b 4 (Zb d),.int .i64 ln]]],0,[],0⟩)
      (fun m2 tm H hI=>?_) d.length _ _ ⟨0,_,by omega,by simp,Zf ⟨rfl,rfl,  rfl,trivial⟩,rfl⟩
     obtain ⟨i,base,hi,hgo,rfl,rfl⟩:=hI
     rw [hgo]
     have hlx:=Zn (i:Int) (((Zb d).length):Int)
     by_cases hlt:i<d.length
     · obtain ⟨t, ht⟩ : ∃ t, d[i]? = some t := ⟨d[i], by simp⟩
       have hq:=hT (List.mem_of_getElem? ht)
       rw [decide_eq_true (by omega)] at hlx
       have hii:=Zy (a:=(i:Int)) (b:=1) (by omega) (by omega)
       rw [show (i:Int)+1=((i+1:Nat):Int) by omega] at hii
       rw [Zl ht rfl]
       have n1:=ZK (t.sc R N) 0
       generalize t.sc R N=e at hq n1 ⊢
       obtain ⟨k',nm',s',b',kz'⟩:=t
       have hj:=Zh (ht)
       simp only [Tm.cells] at hq
       by_cases c1:e=0
       · rw [decide_eq_true c1] at n1
         rw [if_neg (by omega)]
         repeat' first|refine Jk ?_|refine Jc (hq _) ?_|refine Ji ?_|refine JJ ?_|refine Jl ?_|refine Jx ?_|refine Jt ?_|refine Jb ?_ ?_|refine Jo ?_|(apply dK;rfl;rfl;rfl)|refine Jd (hq _) ?_|refine JD ?_|refine JK ?_|(apply dLn;rfl;rfl;rfl;rfl;rfl)|refine JI ?_|(apply dT (ty:=4);rfl;rfl;rfl;rfl)|(apply dF (ty:=4);rfl;rfl;rfl;rfl)|(apply dB (ty:=4);rfl;rfl;rfl;rfl)|refine Jh ?_|(apply Wp.draw tOk follows;kernel_rfl)|intro hb
         exact LoopI.go (m2-1) (by omega) ⟨i+1,_,by omega,rfl,Zf ⟨rfl,rfl,  rfl,trivial⟩,rfl⟩
       · rw [decide_eq_false c1] at n1
         rw [if_pos c1]
         repeat' first|refine Jk ?_|refine Jc (hq _) ?_|refine Ji ?_|refine JJ ?_|refine Jl ?_|refine Jx ?_|refine Jt ?_|refine Jb ?_ ?_|refine Jo ?_|(apply dK;rfl;rfl;rfl)|refine Jd (hq _) ?_|refine JD ?_|refine JK ?_|(apply dLn;rfl;rfl;rfl;rfl;rfl)|refine JI ?_|(apply dT (ty:=4);rfl;rfl;rfl;rfl)|(apply dF (ty:=4);rfl;rfl;rfl;rfl)|(apply dB (ty:=4);rfl;rfl;rfl;rfl)|refine Jh ?_|(apply Wp.draw tOk follows;kernel_rfl)|intro hb
         all_goals rfl
     · have e : i = d.length := by omega
       subst e
       rw [decide_eq_false (by omega)] at hlx
       rw [List.drop_length]
       repeat' first|refine Jk ?_|refine Ji ?_|refine JJ ?_|refine Jl ?_|refine Jx ?_|refine Jt ?_|refine Jb ?_ ?_|refine Jo ?_|(apply dK;rfl;rfl;rfl)|refine JD ?_|refine JK ?_|(apply dLn;rfl;rfl;rfl;rfl;rfl)|refine JI ?_|(apply dT (ty:=4);rfl;rfl;rfl;rfl)|(apply dF (ty:=4);rfl;rfl;rfl;rfl)|(apply dB (ty:=4);rfl;rfl;rfl;rfl)|refine Jh ?_|(apply Wp.draw tOk follows;kernel_rfl)|intro hb
       all_goals rfl
