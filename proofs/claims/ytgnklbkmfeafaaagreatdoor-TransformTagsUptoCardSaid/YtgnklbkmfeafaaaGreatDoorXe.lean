/-
  The law of tags, cookies and wrapping: its function answers true.
-/
import Derived.Test.YtgnklbkmfeafaaaGreatDoorWj
import Derived.Test.YtgnklbkmfeafaaaGreatDoorWk
import Derived.Test.YtgnklbkmfeafaaaGreatDoorWo
import Derived.Test.YtgnklbkmfeafaaaGreatDoorXd
set_option maxHeartbeats 0
set_option maxRecDepth 100000
namespace Go.Vm.Seat
variable {n:Na}
open Go.Proofs
theorem c19 (h:n.Sm):∀ H,CallOk E0 Tryz.prog 19 [.agg n.cells] H (.tup [slV true 1 (Xy n.szE.1),.int .i64 n.szE.2]) H:=by
 have cC:=c32 h
 have hsl:=h.sl
 have cS:=fun {s:Sp} (hs:s∈n.steps)=>c48 (h.ss s hs).2.2.1 (by have:=(h.ss s hs).2.2.2;omega)
 clear h
 rw [Na.szE,Na.szs]
 rw [Zhw] at cC
 have n1:=ZK n.chk.2 0
 obtain ⟨M,hM⟩:∃ M,M=n.chkd.1:=⟨_,rfl⟩
 rw [← hM] at cC
 clear hM
 have qb:=UH M.name (Zk M.rn 1 (Zi M.roles)).2 (Zk M.fn 3 (frC M.fresh)).2 (Zk M.tn 1 (Zi M.tags)).2 (Zk M.sn 7 (spC M.steps)).2 (Zk M.gn 5 (glC M.goals)).2
 generalize n.chk.2=e at cC n1 ⊢
 have e4:=ZI n.steps
 obtain ⟨nm,rn,rs,fn,fr,tn,ts,sn,ss,gn,gs⟩:=n
 simp only [Na.cells] at cC cS e4 hsl qb ⊢
 refine Jw tOk fe19.ok (by rw [YL];simp only [Xn,QD];rfl) ?_ (by simp only [Zt,Zj])
 by_cases c:e=0
 case neg=>
  rw [decide_eq_false c] at n1
  rw [if_pos c]
  repeat' first|refine Jc (cC _) ?_|refine Js ?_|refine JA ?_|refine Ji ?_|refine JJ ?_|refine Jl ?_|refine Jx ?_|refine Jt ?_|refine Jb ?_ ?_|refine Jo ?_|intro hb
  all_goals exact Zcv (L:=[]) (.nil [] 0 rfl) _ _ _
 rw [decide_eq_true c] at n1
 rw [if_neg (show ¬ e≠0 by omega)]
 repeat' first|refine Jc (cC _) ?_|refine Js ?_|refine JA ?_|refine Ji ?_|refine JJ ?_|refine Jl ?_|refine Jx ?_|refine Jt ?_|refine Jb ?_ ?_|refine Jo ?_|intro hb
 clear cC n1
 refine Wp.while (fun m2 tm H => ∃ (i : Nat) (base : TM) (o : PV) (lv : List Nat) (nt : Nat), i + m2 = ss.length ∧ ApV true 1 (Xy ((ss.map fun s => (s.msg.size : Int)).take i)) o lv nt ∧
   tm=ovr base [(1,.ptr 0 6 0 0),(6,o),(7,.int .i64 (i:Int))]∧H=⟨[naB nm rn rs fn fr tn ts sn ss gn gs,cpB M.name (slV M.rn 1 (Zi M.roles)) (slV M.fn 3 (frC M.fresh)) (slV M.tn 1 (Zi M.tags)) (slV M.sn 7 (spC M.steps)) (slV M.gn 5 (glC M.goals))],0,lv,nt⟩)
  (fun m2 tm H hI=>?_) ss.length _ _ ⟨0,_,_,_,_,by omega,.nil [] 0 rfl,Zf ⟨rfl,rfl,rfl,trivial⟩,rfl⟩
 obtain ⟨i,base,o,lv,nt,hi,hA,rfl,rfl⟩:=hI
 have hlx:=Zn (i:Int) ((spC ss).length:Int)
 by_cases hlt:i<ss.length
 · rw [decide_eq_true (by omega)] at hlx
   obtain ⟨x,hx⟩:∃ x,ss[i]? = some x:=⟨ss[i],by simp⟩
   have hj:=ZX hx
   have hq:=cS (List.mem_of_getElem? hx)
   have hii:=Zy (a:=(i:Int)) (b:=1) (by omega) (by omega)
   rw [show (i:Int)+1=((i+1:Nat):Int) by omega] at hii
   obtain ⟨o2,lv2,nt2,hap,hA2, -⟩:=hA.app ZaH (.sl .full 1 [[.int .i64 (x.msg.size:Int)]]) (WP [_]) (ZH (by rw [Wl];simp;omega) (by decide)) (WW [_])
   rw [show Xy ((ss.map fun s=>(s.msg.size:Int)).take i)++ [[.int .i64 (x.msg.size:Int)]]=Xy ((ss.map fun s=>(s.msg.size:Int)).take (i+1)) by rw [ZbO hx,W3];rfl] at hA2
   generalize (x.msg.size:Int)=z at hq hap
   obtain ⟨xf,xt,⟨k',nm',s',b',kz'⟩,xl⟩:=x
   simp only [Sp.cells,Tm.cells,List.cons_append,List.nil_append] at hj hq
   clear hA
   repeat' first|refine Jc (hq _) ?_|refine Js ?_|refine JA ?_|refine Ji ?_|refine JJ ?_|refine Jl ?_|refine Jx ?_|refine Jt ?_|refine Jb ?_ ?_|refine Jo ?_|intro hb
   exact LoopI.go (m2-1) (by omega) ⟨i+1,_,o2,lv2,nt2,by omega,hA2,Zf ⟨rfl,rfl,rfl,trivial⟩,rfl⟩
 · have e : i = ss.length := by omega
   subst e
   rw [decide_eq_false (by omega)] at hlx
   rw [List.take_of_length_le (by simp)] at hA
   have hfr:=fun m H=>Zcv hA m H 0
   repeat' first|refine Js ?_|refine JA ?_|refine Ji ?_|refine JJ ?_|refine Jl ?_|refine Jx ?_|refine Jt ?_|refine Jb ?_ ?_|refine Jo ?_|intro hb
   all_goals exact hfr _ _
theorem c15 (h:n.Sm):∀ H,CallOk E0 Tryz.prog 15 [.agg n.cells] H (slV true 1 (Xy n.lines)) H:=by
 have hsl:=h.sl
 have hgl:=h.gl
 clear h
 rw [Na.lines]
 have e4:=ZI n.steps
 have e5:=YR n.goals
 obtain ⟨nm,rn,rs,fn,fr,tn,ts,sn,ss,gn,gs⟩:=n
 simp only [Na.cells] at e4 e5 hsl hgl ⊢
 refine Jw tOk fe15.ok (WU _ _ _ _ _) ?_ (by simp only [Zt,Zj])
 repeat' first|refine Js ?_|refine JA ?_|refine Ji ?_|refine JJ ?_|refine Jl ?_|refine Jx ?_|refine Jt ?_|refine Jb ?_ ?_|refine Jo ?_|intro hb
 refine Wp.while (fun m2 tm H => ∃ (i : Nat) (base : TM) (o : PV) (lv : List Nat) (nt : Nat), i + m2 = ss.length ∧ ApV true 1 (Xy ((ss.map (·.line)).take i)) o lv nt ∧
   tm=ovr base [(1,.ptr 0 6 0 0),(3,o),(4,.int .i64 (i:Int))]∧H=⟨[naB nm rn rs fn fr tn ts sn ss gn gs],0,lv,nt⟩)
  (fun m2 tm H hI=>?_) ss.length _ _ ⟨0,_,_,_,_,by omega,.nil [] 0 rfl,Zf ⟨rfl,rfl,rfl,trivial⟩,rfl⟩
 obtain ⟨i,base,o,lv,nt,hi,hA,rfl,rfl⟩:=hI
 have hlx:=Zn (i:Int) ((spC ss).length:Int)
 by_cases hlt:i<ss.length
 · rw [decide_eq_true (by omega)] at hlx
   obtain ⟨x,hx⟩:∃ x,ss[i]? = some x:=⟨ss[i],by simp⟩
   have hj:=ZX hx
   have hii:=Zy (a:=(i:Int)) (b:=1) (by omega) (by omega)
   rw [show (i:Int)+1=((i+1:Nat):Int) by omega] at hii
   obtain ⟨o2,lv2,nt2,hap,hA2, -⟩:=hA.app ZaH (.sl .full 1 [[.int .i64 x.line]]) (WP [_]) (ZH (by rw [Wl];simp;omega) (by decide)) (WW [_])
   rw [show Xy ((ss.map (·.line)).take i)++ [[.int .i64 x.line]]=Xy ((ss.map (·.line)).take (i+1)) by rw [show (ss.map (·.line)).take (i+1)=(ss.map (·.line)).take i++ [x.line] by rw [List.take_add_one,List.getElem?_map,hx];rfl];simp only [W3];rfl] at hA2
   clear hA
   obtain ⟨xf,xt,⟨k',nm',s',b',kz'⟩,xl⟩:=x;simp only [Sp.cells,Tm.cells,List.cons_append,List.nil_append] at hj
   repeat' first|refine Js ?_|refine JA ?_|refine Ji ?_|refine JJ ?_|refine Jl ?_|refine Jx ?_|refine Jt ?_|refine Jb ?_ ?_|refine Jo ?_|intro hb
   exact LoopI.go (m2-1) (by omega) ⟨i+1,_,o2,lv2,nt2,by omega,hA2,Zf ⟨rfl,rfl,rfl,trivial⟩,rfl⟩
 have e:i=ss.length:=by omega
 subst e
 rw [decide_eq_false (by omega)] at hlx
 rw [List.take_of_length_le (by simp)] at hA
 repeat' first|refine Js ?_|refine JA ?_|refine Ji ?_|refine JJ ?_|refine Jl ?_|refine Jx ?_|refine Jt ?_|refine Jb ?_ ?_|refine Jo ?_|intro hb
 clear hlx hi hlt
 refine Wp.while (fun m2 tm H => ∃ (i : Nat) (base : TM) (o : PV) (lv : List Nat) (nt : Nat), i + m2 = gs.length ∧ ApV true 1 (Xy (ss.map (·.line) ++ (gs.map (·.line)).take i)) o lv nt ∧
   tm=ovr base [(1,.ptr 0 6 0 0),(3,o),(5,.int .i64 (i:Int))]∧H=⟨[naB nm rn rs fn fr tn ts sn ss gn gs],0,lv,nt⟩)
  (fun m2 tm H hI=>?_) gs.length _ _ ⟨0,_,o,lv,nt,by omega,by simpa using hA,Zf ⟨rfl,rfl,rfl,trivial⟩,rfl⟩
 clear hA
 obtain ⟨i,base,o,lv,nt,hi,hA,rfl,rfl⟩:=hI
 have hlx:=Zn (i:Int) ((glC gs).length:Int)
 by_cases hlt:i<gs.length
 · rw [decide_eq_true (by omega)] at hlx
   obtain ⟨x,hx⟩:∃ x,gs[i]? = some x:=⟨gs[i],by simp⟩
   have hj:=XO hx
   have hii:=Zy (a:=(i:Int)) (b:=1) (by omega) (by omega)
   rw [show (i:Int)+1=((i+1:Nat):Int) by omega] at hii
   obtain ⟨o2,lv2,nt2,hap,hA2, -⟩:=hA.app ZaH (.sl .full 1 [[.int .i64 x.line]]) (WP [_]) (ZH (by rw [Wl];simp;omega) (by decide)) (WW [_])
   rw [show Xy (ss.map (·.line)++(gs.map (·.line)).take i)++ [[.int .i64 x.line]]=Xy (ss.map (·.line)++(gs.map (·.line)).take (i+1)) by rw [show (gs.map (·.line)).take (i+1)=(gs.map (·.line)).take i++ [x.line] by rw [List.take_add_one,List.getElem?_map,hx];rfl];simp only [W3,List.append_assoc];rfl] at hA2
   clear hA
   skip
   repeat' first|refine Js ?_|refine JA ?_|refine Ji ?_|refine JJ ?_|refine Jl ?_|refine Jx ?_|refine Jt ?_|refine Jb ?_ ?_|refine Jo ?_|intro hb
   exact LoopI.go (m2-1) (by omega) ⟨i+1,_,o2,lv2,nt2,by omega,hA2,Zf ⟨rfl,rfl,rfl,trivial⟩,rfl⟩
 have e:i=gs.length:=by omega
 subst e
 rw [decide_eq_false (by omega)] at hlx
 rw [List.take_of_length_le (by simp)] at hA
 repeat' first|refine Js ?_|refine JA ?_|refine Ji ?_|refine JJ ?_|refine Jl ?_|refine Jx ?_|refine Jt ?_|refine Jb ?_ ?_|refine Jo ?_|intro hb
 all_goals exact hA.frz3 _ _
end Go.Vm.Seat
namespace Go.Vm
variable {n:Na}
theorem ZdO:∀ (l:List Tm) (n:Int),ZfU l n=true→∀ t,t∈l→(t.size:Int)≤n
 | [],_,_=>fun t ht=>absurd ht (by simp)
 | x :: r, n, h => fun t ht => by
   simp only [ZfU] at h
   split at h
   · cases h
   · rename_i hb
     have hx:=x.budget_eq n (by omega)
     have hp:=ZeF x
     rcases List.mem_cons.1 ht with rfl|ht
     · omega
     · have := ZdO r _ h t ht
       omega
theorem ZgK {l:List Tm} {n m:Int} (h:Zdd l n m=true):(l.length:Int)≤n∧∀ t,t∈l→(t.size:Int)≤m:=by
 unfold Zdd at h
 split at h
 · cases h
 · exact ⟨by omega,ZdO l m h⟩
theorem Ze9 (h:n.few=true):n.roles.length≤16∧n.fresh.length≤16∧n.tags.length≤16∧n.steps.length≤16∧n.goals.length≤16:=by
 unfold Na.few at h
 split at h
 · cases h
 · omega
theorem Zfj {α β:Type} {f:α→List β} {l:List α} {x:α} (h:x∈l):(f x).length≤(l.flatMap f).length:=by
 induction l with
 |nil=>cases h
 | cons y r ih =>
   rw [List.flatMap_cons,List.length_append]
   rcases List.mem_cons.1 h with rfl|h
   · omega
   · have:=ih h;omega
theorem Zck (h:n.Ok) (hs:n.small=true):n.Ti:=by
 simp only [Na.small,Bool.and_eq_true] at hs
 obtain ⟨h1, -, -,h2⟩:=hs
 obtain ⟨a,b,c,d,e⟩:=Ze9 h1
 obtain ⟨f,g⟩:=ZgK h2
 have hst:∀ s,s∈n.steps→s.msg.size≤80:=fun s hs=>by
  have:=g s.msg (List.mem_append_left _ (List.mem_map.2 ⟨s,hs,rfl⟩))
  omega
 have hgo:∀ x,x∈n.goals→x.data.length≤40∧∀ t,t∈x.data→t.size≤80:=fun x hx=>by
  refine ⟨?_,fun t ht=>?_⟩
  · have := Zfj (f := fun g : Gl => g.data) hx
    simp only [Na.tms,List.length_append,List.length_map] at f
    omega
  · have := g t (List.mem_append_right _ (List.mem_flatMap.2 ⟨x, hx, ht⟩))
    omega
 refine ⟨⟨Nat.le_trans h.nm (by decide),by omega,by omega,by omega,by omega,by omega,fun s hs=>Nat.le_trans (h.rs s hs) (by decide),fun x hx=>?_,fun s hs=>Nat.le_trans (h.ts s hs) (by decide),fun s hs=>?_,fun x hx=>?_⟩,by omega,by omega,by omega,fun s hs=>by have:=hst s hs;omega⟩
 · have:=h.fs x hx;omega
 · have k1 := h.ss s hs
   have k2:=hst s hs
   exact ⟨by omega,by omega,k1.2.2,by omega⟩
 · have k1 := h.gs x hx
   obtain ⟨k2,k3⟩:=hgo x hx
   exact ⟨by omega,by omega,by omega,fun t ht=>⟨k1.2.2 t ht,by have:=k3 t ht;omega⟩⟩
theorem Vd:Na.none.Sm:=by
 refine ⟨?_,?_,?_,?_,?_,?_,?_,?_,?_,?_,?_⟩<;>simp [Na.none]
theorem Qk (h:n.Sm):n.chkd.1.Sm:=by
 rw [XN]
 split
 · exact h
 · exact Vd
theorem Zhu (h:n.Ti) (step size:Int):(n.pad step size).1.Sm:=by
 by_cases c:n.inE step=0
 case neg=>rw [Zdv c];exact Vd
 by_cases c2:size<1∨6<size
 · rw [Zdc c c2];exact Vd
 obtain ⟨k1,k2,k3⟩:=U0 c
 obtain ⟨i,rfl⟩:∃ i:Nat,step=i:=⟨step.toNat,by omega⟩
 have hil:i<n.steps.length:=by omega
 obtain ⟨s,hs⟩:∃ s,n.steps[i]? = some s:=⟨n.steps[i],by simp⟩
 rw [ZdU c c2 hs]
 have hnm:=Xg k1
 have htl:=Za5 (N:=n.nms) (w:=ZcU) (fun s hs=>by have:=hnm s hs;omega) (by decide)
 generalize nnF n.nms ZcU=t at htl ⊢
 obtain ⟨z,hz⟩:∃ z:Nat,size=((z+1:Nat):Int):=⟨size.toNat-1,by omega⟩
 rw [show size.toNat-1=z by omega]
 have hss:=h.sm.ss s (List.mem_of_getElem? hs)
 have hms:=h.ms s (List.mem_of_getElem? hs)
 refine Qk (WH (Vl h.sm (Nat.le_trans h.tl (by decide)) (by omega)) hs (X2 (by decide) (by simp) fun x hx=>?_) ?_)
 · rcases List.mem_cons.1 hx with rfl | hx
   · exact hss.2.2.1
   · rw [List.mem_singleton.1 hx];exact Qa (by omega) z
 · have := W9 t z
   simp only [apT,Tm.size,ZW,this]
   omega
theorem ZgS (h:n.Sm):n.szE.1.length≤40:=by
 unfold Na.szE
 split
 · simp
 · simp only [Na.szs,List.length_map];exact h.sl
theorem W6 (h:n.Sm):n.lines.length≤80:=by
 have h1:=h.sl;have h2:=h.gl
 simp only [Na.lines,List.length_append,List.length_map];omega
end Go.Vm
namespace Go.Vm.Seat
open Go.Proofs
theorem c4 {n:Na} (h:n.Ok) (step size:Int):∀ H,CallOk E0 Tryz.prog 4 [.agg n.cells,.int .i64 step,.int .i64 size] H (.bool true) H:=by
 have hAw:∀ H,CallOk E0 Tryz.prog 5 [] H (.bool true) H:=fun H=>QT H
 have cS:=c6 h
 cases hsm:n.small with
 | false =>
   rw [hsm] at cS
   clear h hsm
   obtain ⟨nm,rn,rs,fn,fr,tn,ts,sn,ss,gn,gs⟩:=n
   simp only [Na.cells] at cS ⊢
   refine Jw tOk fe4.ok rfl ?_ (by simp only [Zt,Zj];rfl)
   repeat' first|refine Jk ?_|refine Jc (hAw _) ?_|refine Jc (cS _) ?_|refine Ji ?_|refine Jt ?_|refine Jb ?_ ?_|refine Jo ?_|(apply dK;rfl;rfl;rfl)|refine Jd (hAw _) ?_|refine Jd (cS _) ?_|refine JD ?_|(apply dT (ty:=4);rfl;rfl;rfl;rfl)|(apply dF (ty:=4);rfl;rfl;rfl;rfl)|(apply dB (ty:=4);rfl;rfl;rfl;rfl)|refine Jh ?_|(apply Wp.draw tOk follows;kernel_rfl)|intro hb
   all_goals rfl
 |true=>
 rw [hsm] at cS
 have ht:=Zck h hsm
 have c1:=c16 ht step size
 have c2:=c17 ht step size
 have c3:=c18 ht.sm
 have c4:=c19 ht.sm
 have hM:=Zhu ht step size
 have hL:=ZgS ht.sm
 clear h hsm ht
 generalize (n.pad step size).2=e at c1 c2
 generalize (n.pad step size).1=M at c1 c2 hM
 generalize n.szE.2=e2 at c3 c4
 generalize n.szE.1=L at c3 c4 hL
 have c5:=c13 hM
 have c6:=c14 (l:=L) (by omega) true
 have c7:=c15 hM
 have hl:=W6 hM
 generalize M.lines=LN at c7 hl
 have c8:=c14 (l:=LN) (by omega) true
 have q1:=ZbB e e
 have q2:=ZbB e2 e2
 rw [decide_eq_true rfl] at q1 q2
 clear hM hL hl
 have qb:=UH M.name (Zk M.rn 1 (Zi M.roles)).2 (Zk M.fn 3 (frC M.fresh)).2 (Zk M.tn 1 (Zi M.tags)).2 (Zk M.sn 7 (spC M.steps)).2 (Zk M.gn 5 (glC M.goals)).2
 obtain ⟨nm,rn,rs,fn,fr,tn,ts,sn,ss,gn,gs⟩:=n
 simp only [Na.cells] at cS c1 c2 c3 c4 c5 c7 qb ⊢
 refine Jw tOk fe4.ok rfl ?_ (by simp only [Zt,Zj];rfl)
 repeat' first|refine Jk ?_|(apply qCl;rfl;rfl;rfl;rfl;first|exact hAw _|exact cS _|exact c1 _|exact c2 _|exact c3 _|exact c4 _|exact c5 _|exact c6 _|exact c7 _|exact c8 _)|refine Ji ?_|refine Jt ?_|refine Jb ?_ ?_|refine Jo ?_|(apply dK;rfl;rfl;rfl)|(apply dCl;rfl;rfl;rfl;rfl;rfl;first|exact hAw _|exact cS _|exact c1 _|exact c2 _|exact c3 _|exact c4 _|exact c5 _|exact c6 _|exact c7 _|exact c8 _)|refine JD ?_|(apply dT (ty:=4);rfl;rfl;rfl;rfl)|(apply dF (ty:=4);rfl;rfl;rfl;rfl)|(apply dB (ty:=4);rfl;rfl;rfl;rfl)|refine Jh ?_|(apply Wp.draw tOk follows;kernel_rfl)|intro hb
 all_goals rfl
end Go.Vm.Seat
namespace Go.Vm
variable {n:Na}
theorem Zc9 {n:Na} (h8:n.steps.length≤8):∀ (m:Nat) (N:Na) (k:Nat),n.Tg N k→k+m=n.steps.length→n.Tg (N.tagL k m) n.steps.length
 |0,N,k,h,e=>by rw [Na.tagL];rw [show n.steps.length=k by omega];exact h
 | m + 1, N, k, h, e => by
   obtain ⟨s,hs⟩:∃ s,N.steps[k]? = some s:=⟨N.steps[k]'(by have:=h.ln;omega),by simp⟩
   rw [Na.tagL]
   refine Zc9 h8 m _ _ ?_ (by omega)
   rw [Zc1 hs]
   exact Za7 h (by omega) h8 hs
theorem Zf7 (h:n.Ti):n.tagsF.1.Sm:=by
 by_cases c:n.chk.2=0
 case neg=>rw [Zbf c];exact Vd
 have ht:=Zc9 (Za6 c) n.steps.length n 0 (ZbH h c) (by omega)
 rw [Zbv c ht]
 exact Qk ht.sm
theorem Zf5 (h:n.Ti):n.cookF.1.Sm:=by
 by_cases c:n.chk.2=0
 case neg=>rw [Zbz c];exact Vd
 obtain ⟨x,rest,hxr⟩:∃ x rest,n.steps=x::rest:=List.exists_cons_of_ne_nil (XB c).1
 have hs:n.steps[0]? = some x:=by rw [hxr];rfl
 have hnm:=Xg c
 have hl1:=XI (w:=ZcT) hnm (by decide)
 rw [Zbj c hs]
 generalize nnF n.nms ZcT=rq at hl1 ⊢
 have hl2:=XI (w:=wCk) (Qb (fun s hs=>Nat.le_trans (hnm s hs) (by decide:24≤25)) hl1) (by decide)
 exact Qk (Qc h (by rw [hxr];simp) (by omega) (by omega))
theorem Zgb (h:n.Ti) (step:Int):(n.wrapF step).1.Sm:=by
 by_cases c:n.inE step=0
 case neg=>rw [Zbw c];exact Vd
 obtain ⟨k1,k2,k3⟩:=U0 c
 obtain ⟨i,rfl⟩:∃ i:Nat,step=i:=⟨step.toNat,by omega⟩
 obtain ⟨s,hs⟩:∃ s,n.steps[i]? = some s:=⟨n.steps[i]'(by omega),by simp⟩
 rw [Zbo c hs]
 have hss:=h.sm.ss s (List.mem_of_getElem? hs)
 have hms:=h.ms s (List.mem_of_getElem? hs)
 exact Qk (WH h.sm hs (Qs hss.2.2.1 hss.2.1) (by rw [Vf];omega))
end Go.Vm
namespace Go.Vm.Seat
open Go.Proofs
theorem c3 {n:Na} (h:n.Ok) (step:Int):∀ H,CallOk E0 Tryz.prog 3 [.agg n.cells,.int .i64 step] H (.bool true) H:=by
 have hAw:∀ H,CallOk E0 Tryz.prog 5 [] H (.bool true) H:=fun H=>QT H
 have cS:=c6 h
 cases hsm:n.small with
 | false =>
   rw [hsm] at cS
   clear h hsm
   obtain ⟨nm,rn,rs,fn,fr,tn,ts,sn,ss,gn,gs⟩:=n
   simp only [Na.cells] at cS ⊢
   refine Jw tOk fe3.ok rfl ?_ (by simp only [Zt,Zj];rfl)
   repeat' first|refine Jk ?_|refine Jc (hAw _) ?_|refine Jc (cS _) ?_|refine Ji ?_|refine Jt ?_|refine Jb ?_ ?_|refine Jo ?_|(apply dK;rfl;rfl;rfl)|refine Jd (hAw _) ?_|refine Jd (cS _) ?_|refine JD ?_|(apply dT (ty:=4);rfl;rfl;rfl;rfl)|(apply dF (ty:=4);rfl;rfl;rfl;rfl)|(apply dB (ty:=4);rfl;rfl;rfl;rfl)|refine Jh ?_|(apply Wp.draw tOk follows;kernel_rfl)|intro hb
   all_goals rfl
 |true=>
 rw [hsm] at cS
 have ht:=Zck h hsm
 have c1:=c7 ht
 have c2:=c8 ht
 have c3:=c9 ht
 have c4:=c10 ht
 have c5:=c11 ht step
 have c6:=c12 ht step
 have hM1:=Zf7 ht
 have hM2:=Zf5 ht
 have hM3:=Zgb ht step
 clear h hsm ht
 generalize n.tagsF.2=e1 at c1 c2
 generalize n.tagsF.1=M1 at c1 c2 hM1
 generalize n.cookF.2=e2 at c3 c4
 generalize n.cookF.1=M2 at c3 c4 hM2
 generalize (n.wrapF step).2=e3 at c5 c6
 generalize (n.wrapF step).1=M3 at c5 c6 hM3
 have s1:=c13 hM1
 have s2:=c13 hM2
 have s3:=c13 hM3
 have l1:=c15 hM1
 have l2:=c15 hM2
 have l3:=c15 hM3
 have k1:=W6 hM1
 have k2:=W6 hM2
 have k3:=W6 hM3
 generalize M1.lines=L1 at l1 k1
 generalize M2.lines=L2 at l2 k2
 generalize M3.lines=L3 at l3 k3
 have x1:=c14 (l:=L1) (by omega) true
 have x2:=c14 (l:=L2) (by omega) true
 have x3:=c14 (l:=L3) (by omega) true
 have q1:=ZbB e1 e1
 have q2:=ZbB e2 e2
 have q3:=ZbB e3 e3
 rw [decide_eq_true rfl] at q1 q2 q3
 clear hM1 hM2 hM3 k1 k2 k3
 have qb1:=Ui M1
 have qb2:=Ui M2
 have qb3:=Ui M3
 obtain ⟨nm,rn,rs,fn,fr,tn,ts,sn,ss,gn,gs⟩:=n
 simp only [Na.cells] at cS c1 c2 c3 c4 c5 c6 s1 s2 s3 l1 l2 l3 qb1 qb2 qb3 ⊢
 refine Jw tOk fe3.ok rfl ?_ (by simp only [Zt,Zj];rfl)
 repeat' first|refine Jk ?_|(apply qCl;rfl;rfl;rfl;rfl;first|exact hAw _|exact cS _|exact c1 _|exact c2 _|exact c3 _|exact c4 _|exact c5 _|exact c6 _|exact s1 _|exact s2 _|exact s3 _|exact l1 _|exact l2 _|exact l3 _|exact x1 _|exact x2 _|exact x3 _)|refine Ji ?_|refine Jt ?_|refine Jb ?_ ?_|refine Jo ?_|(apply dK;rfl;rfl;rfl)|(apply dCl;rfl;rfl;rfl;rfl;rfl;first|exact hAw _|exact cS _|exact c1 _|exact c2 _|exact c3 _|exact c4 _|exact c5 _|exact c6 _|exact s1 _|exact s2 _|exact s3 _|exact l1 _|exact l2 _|exact l3 _|exact x1 _|exact x2 _|exact x3 _)|refine JD ?_|(apply dT (ty:=4);rfl;rfl;rfl;rfl)|(apply dF (ty:=4);rfl;rfl;rfl;rfl)|(apply dB (ty:=4);rfl;rfl;rfl;rfl)|refine Jh ?_|(apply Wp.draw tOk follows;kernel_rfl)|intro hb
 all_goals rfl
