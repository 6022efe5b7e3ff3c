/-
  Which narrations are small: the reference's text and the law's.
-/
import Derived.Test.YtgnklbkmfeafaaaGreatDoorXb
set_option maxHeartbeats 0
set_option maxRecDepth 100000
namespace Go.Vm
variable {n:Na}
theorem Y9 (t:Tm):Zb [t]= [t.cells]:=rfl
theorem Zd4 {α β:Type} {f:α→List β} (l:List α) (k:Nat):((l.take k).flatMap f).length≤(l.flatMap f).length:=by
 have h:=congrArg List.length (congrArg (List.flatMap f) (List.take_append_drop k l))
 rw [List.flatMap_append,List.length_append] at h
 omega
theorem Zc6 (h:n.Ok):n.tms.length≤3000000:=by
 have h1:=h.sl;have h2:=h.ds
 simp only [Na.tms,List.length_append,List.length_map];omega
theorem ZfY (h:n.Ok):∀ t,t∈n.tms→t.Ok:=by
 intro t ht
 rcases List.mem_append.1 ht with ht|ht
 · obtain ⟨s, hs, rfl⟩ := List.mem_map.1 ht
   exact (h.ss s hs).2.2
 · obtain ⟨g, hg, ht⟩ := List.mem_flatMap.1 ht
   exact (h.gs g hg).2.2 t ht
theorem Zdh (n : Na) : (16 < n.roles.length ∧ n.few = false) ∨ (¬ 16 < n.roles.length ∧ 16 < n.fresh.length ∧ n.few = false) ∨ (¬ 16 < n.roles.length ∧ ¬ 16 < n.fresh.length ∧ 16 < n.tags.length ∧ n.few = false) ∨
  (¬ 16<n.roles.length∧¬ 16<n.fresh.length∧¬ 16<n.tags.length∧16<n.steps.length∧n.few=false)∨(¬ 16<n.roles.length∧¬ 16<n.fresh.length∧¬ 16<n.tags.length∧¬ 16<n.steps.length∧16<n.goals.length∧n.few=false)∨
  (¬ 16<n.roles.length∧¬ 16<n.fresh.length∧¬ 16<n.tags.length∧¬ 16<n.steps.length∧¬ 16<n.goals.length∧n.few=Zdd n.tms 100 900):=by
 unfold Na.few
 by_cases d1:16<n.roles.length
 · exact .inl ⟨d1,if_pos (.inl d1)⟩
 by_cases d2:16<n.fresh.length
 · exact .inr (.inl ⟨d1,d2,if_pos (.inr (.inl d2))⟩)
 by_cases d3:16<n.tags.length
 · exact .inr (.inr (.inl ⟨d1,d2,d3,if_pos (.inr (.inr (.inl d3)))⟩))
 by_cases d4:16<n.steps.length
 · exact .inr (.inr (.inr (.inl ⟨d1,d2,d3,d4,if_pos (.inr (.inr (.inr (.inl d4))))⟩)))
 by_cases d5:16<n.goals.length
 · exact .inr (.inr (.inr (.inr (.inl ⟨d1,d2,d3,d4,d5,if_pos (.inr (.inr (.inr (.inr d5))))⟩))))
 · exact .inr (.inr (.inr (.inr (.inr ⟨d1,d2,d3,d4,d5,if_neg (by omega)⟩))))
end Go.Vm
namespace Go.Vm.Seat
variable {n:Na}
open Go.Proofs
theorem c23 (h:n.Ok):∀ H,CallOk E0 Tryz.prog 23 [.agg n.cells] H (.bool n.few) H:=by
 have cF:=fun b=>c24 (ZfY h) (Nat.le_trans (Zc6 h) (by decide)) b (n:=100) (most:=900) (by decide) (by decide)
 have hsl:=h.sl
 have hgl:=h.gl
 have hds:=h.ds
 have hcs:=Zdh n
 clear h
 rw [Na.tms] at cF hcs
 generalize n.few=R at hcs ⊢
 obtain ⟨nm,rn,rs,fn,fr,tn,ts,sn,ss,gn,gs⟩:=n
 simp only [Na.cells] at cF hsl hgl hds hcs ⊢
 have r1:=Yv ((Zi rs).length:Int) 16
 have r2:=Yv ((frC fr).length:Int) 16
 have r3:=Yv ((Zi ts).length:Int) 16
 have r4:=Yv ((spC ss).length:Int) 16
 have r5:=Yv ((glC gs).length:Int) 16
 have e1:=ZC rs
 have e2:=YI fr
 have e3:=ZC ts
 have e4:=ZI ss
 have e5:=YR gs
 refine Jw tOk fe23.ok rfl ?_ (by simp only [Zt,Zj])
 rcases hcs with ⟨d1,rfl⟩|⟨d1,d2,rfl⟩|⟨d1,d2,d3,rfl⟩|⟨d1,d2,d3,d4,rfl⟩|⟨d1,d2,d3,d4,d5,rfl⟩|⟨d1,d2,d3,d4,d5,rfl⟩
 · rw [decide_eq_true (by omega)] at r1
   repeat' first|refine Jk ?_|refine Js ?_|refine JA ?_|refine Ji ?_|refine JJ ?_|refine Jl ?_|refine Jx ?_|refine Jt ?_|refine Jb ?_ ?_|refine Jo ?_|intro hb
   all_goals rfl
 · rw [decide_eq_false (by omega)] at r1
   rw [decide_eq_true (by omega)] at r2
   repeat' first|refine Jk ?_|refine Js ?_|refine JA ?_|refine Ji ?_|refine JJ ?_|refine Jl ?_|refine Jx ?_|refine Jt ?_|refine Jb ?_ ?_|refine Jo ?_|intro hb
   all_goals rfl
 · rw [decide_eq_false (by omega)] at r1 r2
   rw [decide_eq_true (by omega)] at r3
   repeat' first|refine Jk ?_|refine Js ?_|refine JA ?_|refine Ji ?_|refine JJ ?_|refine Jl ?_|refine Jx ?_|refine Jt ?_|refine Jb ?_ ?_|refine Jo ?_|intro hb
   all_goals rfl
 · rw [decide_eq_false (by omega)] at r1 r2 r3
   rw [decide_eq_true (by omega)] at r4
   repeat' first|refine Jk ?_|refine Js ?_|refine JA ?_|refine Ji ?_|refine JJ ?_|refine Jl ?_|refine Jx ?_|refine Jt ?_|refine Jb ?_ ?_|refine Jo ?_|intro hb
   all_goals rfl
 · rw [decide_eq_false (by omega)] at r1 r2 r3 r4
   rw [decide_eq_true (by omega)] at r5
   repeat' first|refine Jk ?_|refine Js ?_|refine JA ?_|refine Ji ?_|refine JJ ?_|refine Jl ?_|refine Jx ?_|refine Jt ?_|refine Jb ?_ ?_|refine Jo ?_|intro hb
   all_goals rfl
 rw [decide_eq_false (by omega)] at r1 r2 r3 r4 r5
 generalize Zdd (ss.map (·.msg)++gs.flatMap (·.data)) 100 900=B at cF ⊢
 repeat' first|refine Jk ?_|refine Js ?_|refine JA ?_|refine Ji ?_|refine JJ ?_|refine Jl ?_|refine Jx ?_|refine Jt ?_|refine Jb ?_ ?_|refine Jo ?_|intro hb
 clear r1 r2 r3 r4 r5
 refine Wp.while (fun m2 tm H => ∃ (i : Nat) (base : TM) (o : PV) (lv : List Nat) (nt : Nat), i + m2 = ss.length ∧ ApV true 4 (Zb ((ss.map (·.msg)).take i)) o lv nt ∧
   tm=ovr base [(1,.ptr 0 6 0 0),(4,.int .i64 (i:Int)),(3,o)]∧H=⟨[naB nm rn rs fn fr tn ts sn ss gn gs],0,lv,nt⟩)
  (fun m2 tm H hI=>Wp.drop ?_) ss.length _ _ ⟨0,_,_,_,_,by omega,.nil [] 0 rfl,Zf ⟨rfl,rfl,rfl,trivial⟩,rfl⟩
 obtain ⟨i,base,o,lv,nt,hi,hA,rfl,rfl⟩:=hI
 have hlx:=Zn (i:Int) ((spC ss).length:Int)
 by_cases hlt:i<ss.length
 · rw [decide_eq_true (by omega)] at hlx
   obtain ⟨x,hx⟩:∃ x,ss[i]? = some x:=⟨ss[i],by simp⟩
   have hj:=ZX hx
   have hii:=Zy (a:=(i:Int)) (b:=1) (by omega) (by omega)
   rw [show (i:Int)+1=((i+1:Nat):Int) by omega] at hii
   obtain ⟨o2,lv2,nt2,hap,hA2, -⟩:=hA.app Vv (.sl .full 4 [x.msg.cells]) (by have:=Z9 [x.msg];rwa [Y9] at this) (ZH (by rw [Za];simp;omega) (by decide)) (by have:=X9 [x.msg];rwa [Y9] at this)
   rw [show Zb ((ss.map (·.msg)).take i)++ [x.msg.cells]=Zb ((ss.map (·.msg)).take (i+1)) by rw [← Y9, ← Y6,List.take_add_one,List.getElem?_map,hx];rfl] at hA2
   clear hA
   obtain ⟨xf,xt,⟨k',nm',s',b',kz'⟩,xl⟩:=x
   simp only [Sp.cells,Tm.cells,List.cons_append,List.nil_append] at hj hap
   repeat' first|refine Jk ?_|refine Js ?_|refine JA ?_|refine Ji ?_|refine JJ ?_|refine Jl ?_|refine Jx ?_|refine Jt ?_|refine Jb ?_ ?_|refine Jo ?_|intro hb
   refine DropQ.go [(1,.ptr 0 6 0 0),(4,.int .i64 ((i+1:Nat):Int)),(3,o2)] ⟨rfl,rfl,rfl,trivial⟩ ?_ rfl ?_ ?_
   · simp [under,hA2.under]
   · simp [ZO,Zo,Ze,under]
   · exact LoopI.go (m2-1) (by omega) ⟨i+1,_,o2,lv2,nt2,by omega,hA2,rfl,rfl⟩
 have e:i=ss.length:=by omega
 subst e
 rw [decide_eq_false (by omega)] at hlx
 rw [List.take_of_length_le (by simp)] at hA
 repeat' first|refine Jk ?_|refine Js ?_|refine JA ?_|refine Ji ?_|refine JJ ?_|refine Jl ?_|refine Jx ?_|refine Jt ?_|refine Jb ?_ ?_|refine Jo ?_|intro hb
 clear hlx hi hlt
 refine Wp.while (fun m2 tm H => ∃ (i : Nat) (base : TM) (o : PV) (lv : List Nat) (nt : Nat), i + m2 = gs.length ∧ ApV true 4 (Zb (ss.map (·.msg) ++ (gs.take i).flatMap (·.data))) o lv nt ∧
   tm=ovr base [(1,.ptr 0 6 0 0),(5,.int .i64 (i:Int)),(3,o)]∧H=⟨[naB nm rn rs fn fr tn ts sn ss gn gs],0,lv,nt⟩)
  (fun m2 tm H hI=>Wp.drop ?_) gs.length _ _ ⟨0,_,o,lv,nt,by omega,by simpa using hA,Zf ⟨rfl,rfl,rfl,trivial⟩,rfl⟩
 clear hA
 obtain ⟨i,base,o,lv,nt,hi,hA,rfl,rfl⟩:=hI
 have hlx:=Zn (i:Int) ((glC gs).length:Int)
 by_cases hlt:i<gs.length
 · rw [decide_eq_true (by omega)] at hlx
   obtain ⟨x,hx⟩:∃ x,gs[i]? = some x:=⟨gs[i],by simp⟩
   have hj:=XO hx
   have hii:=Zy (a:=(i:Int)) (b:=1) (by omega) (by omega)
   rw [show (i:Int)+1=((i+1:Nat):Int) by omega] at hii
   have hfm:(gs.take (i+1)).flatMap (·.data)=(gs.take i).flatMap (·.data)++x.data:=by rw [List.take_add_one,hx];simp
   have hfl:=Zd4 (f:=fun g:Gl=>g.data) gs (i+1)
   rw [hfm,List.length_append] at hfl
   obtain ⟨o2,lv2,nt2,hap,hA2, -⟩:=hA.app Vv (.slV x.dn 4 (Zb x.data)) (Z9 _) (ZH (by simp only [Za,List.length_append,List.length_map];omega) (by decide)) (X9 _)
   rw [← Y6,List.append_assoc, ← hfm] at hA2
   clear hA hfm hfl
   obtain ⟨xk,xr,xw,xb,xd,xl⟩:=x
   simp only at hj hap
   repeat' first|refine Jk ?_|refine Js ?_|refine JA ?_|refine Ji ?_|refine JJ ?_|refine Jl ?_|refine Jx ?_|refine Jt ?_|refine Jb ?_ ?_|refine Jo ?_|intro hb
   refine DropQ.go [(1,.ptr 0 6 0 0),(5,.int .i64 ((i+1:Nat):Int)),(3,o2)] ⟨rfl,rfl,rfl,trivial⟩ ?_ rfl ?_ ?_
   · simp [under,hA2.under]
   · simp [ZO,Zo,Ze,under]
   · exact LoopI.go (m2-1) (by omega) ⟨i+1,_,o2,lv2,nt2,by omega,hA2,rfl,rfl⟩
 have e:i=gs.length:=by omega
 subst e
 rw [decide_eq_false (by omega)] at hlx
 rw [List.take_length] at hA
 have cF:=fun H=>Xa (cF true H) (args:=[o,.int .i64 100,.int .i64 900]) (by simp only [Zt,hA.frzG];rfl)
 cases B
 all_goals
  repeat' first|refine Jk ?_|refine Jc (cF _) ?_|refine Js ?_|refine JA ?_|refine Ji ?_|refine JJ ?_|refine Jl ?_|refine Jx ?_|refine Jt ?_|refine Jb ?_ ?_|refine Jo ?_|intro hb
  all_goals rfl
theorem c6 (h:n.Ok):∀ H,CallOk E0 Tryz.prog 6 [.agg n.cells] H (.bool n.small) H:=by
 have cF:=fun b=>c24 (ZfY h) (Nat.le_trans (Zc6 h) (by decide)) b (n:=40) (most:=80) (by decide) (by decide)
 have cW:=c23 h
 have hsl:=h.sl
 have hgl:=h.gl
 have hds:=h.ds
 clear h
 rw [Na.small]
 rw [Na.tms] at cF ⊢
 generalize n.few=R at cW ⊢
 have r4:=ZgQ ((spC n.steps).length:Int) 8
 have r5:=ZgQ ((glC n.goals).length:Int) 5
 have e4:=ZI n.steps
 have e5:=YR n.goals
 rw [show decide (((spC n.steps).length:Int)≤8)=decide (n.steps.length≤8) by rw [e4];exact decide_eq_decide.2 (by omega)] at r4
 rw [show decide (((glC n.goals).length:Int)≤5)=decide (n.goals.length≤5) by rw [e5];exact decide_eq_decide.2 (by omega)] at r5
 generalize decide (n.steps.length≤8)=P at r4 ⊢
 generalize decide (n.goals.length≤5)=Q at r5 ⊢
 obtain ⟨nm,rn,rs,fn,fr,tn,ts,sn,ss,gn,gs⟩:=n
 simp only [Na.cells] at cF cW hsl hgl hds r4 r5 e4 e5 ⊢
 generalize Zdd (ss.map (·.msg)++gs.flatMap (·.data)) 40 80=B at cF ⊢
 refine Jw tOk fe6.ok rfl ?_ (by simp only [Zt,Zj])
 repeat' first|refine Jk ?_|refine Js ?_|refine JA ?_|refine Ji ?_|refine JJ ?_|refine Jl ?_|refine Jx ?_|refine Jt ?_|refine Jb ?_ ?_|(apply qT (ty:=0);rfl;rfl;rfl)|(apply qF (ty:=0);rfl;rfl;rfl)|refine Jz ?_ ?_|refine Jo ?_|intro hb
 refine Wp.while (fun m2 tm H => ∃ (i : Nat) (base : TM) (o : PV) (lv : List Nat) (nt : Nat), i + m2 = ss.length ∧ ApV true 4 (Zb ((ss.map (·.msg)).take i)) o lv nt ∧
   tm=ovr base [(1,.ptr 0 6 0 0),(9,slV sn 7 (spC ss)),(10,.int .i64 ((spC ss).length:Int)),(11,.int .i64 (i:Int)),(3,o)]∧H=⟨[naB nm rn rs fn fr tn ts sn ss gn gs],0,lv,nt⟩)
  (fun m2 tm H hI=>Wp.drop ?_) ss.length _ _ ⟨0,_,_,_,_,by omega,.nil [] 0 rfl,Zf ⟨rfl,rfl,rfl,rfl,rfl,trivial⟩,rfl⟩
 obtain ⟨i,base,o,lv,nt,hi,hA,rfl,rfl⟩:=hI
 have hlx:=Zn (i:Int) ((spC ss).length:Int)
 by_cases hlt:i<ss.length
 · rw [decide_eq_true (by omega)] at hlx
   obtain ⟨x,hx⟩:∃ x,ss[i]? = some x:=⟨ss[i],by simp⟩
   have hj:=ZX hx
   have hii:=Zy (a:=(i:Int)) (b:=1) (by omega) (by omega)
   rw [show (i:Int)+1=((i+1:Nat):Int) by omega] at hii
   obtain ⟨o2,lv2,nt2,hap,hA2, -⟩:=hA.app Vv (.sl .full 4 [x.msg.cells]) (by have:=Z9 [x.msg];rwa [Y9] at this) (ZH (by rw [Za];simp;omega) (by decide)) (by have:=X9 [x.msg];rwa [Y9] at this)
   rw [show Zb ((ss.map (·.msg)).take i)++ [x.msg.cells]=Zb ((ss.map (·.msg)).take (i+1)) by rw [← Y9, ← Y6,List.take_add_one,List.getElem?_map,hx];rfl] at hA2
   clear hA
   obtain ⟨xf,xt,⟨k',nm',s',b',kz'⟩,xl⟩:=x
   simp only [Sp.cells,Tm.cells,List.cons_append,List.nil_append] at hj hap
   repeat' first|refine Jk ?_|refine Js ?_|refine JA ?_|refine Ji ?_|refine JJ ?_|refine Jl ?_|refine Jx ?_|refine Jt ?_|refine Jb ?_ ?_|(apply qT (ty:=0);rfl;rfl;rfl)|(apply qF (ty:=0);rfl;rfl;rfl)|refine Jz ?_ ?_|refine Jo ?_|intro hb
   refine DropQ.go [(1,.ptr 0 6 0 0),(9,slV sn 7 (spC ss)),(10,.int .i64 ((spC ss).length:Int)),(11,.int .i64 ((i+1:Nat):Int)),(3,o2)] ⟨rfl,rfl,rfl,rfl,rfl,trivial⟩ ?_ rfl ?_ ?_
   · simp [Ze,under,hA2.under]
   · simp [ZO,Zo,Ze,under]
   · exact LoopI.go (m2-1) (by omega) ⟨i+1,_,o2,lv2,nt2,by omega,hA2,rfl,rfl⟩
 have e:i=ss.length:=by omega
 subst e
 rw [decide_eq_false (by omega)] at hlx
 rw [List.take_of_length_le (by simp)] at hA
 repeat' first|refine Jk ?_|refine Js ?_|refine JA ?_|refine Ji ?_|refine JJ ?_|refine Jl ?_|refine Jx ?_|refine Jt ?_|refine Jb ?_ ?_|(apply qT (ty:=0);rfl;rfl;rfl)|(apply qF (ty:=0);rfl;rfl;rfl)|refine Jz ?_ ?_|refine Jo ?_|intro hb
 clear hlx hi hlt
 refine Wp.while (fun m2 tm H => ∃ (i : Nat) (base : TM) (o : PV) (lv : List Nat) (nt : Nat), i + m2 = gs.length ∧ ApV true 4 (Zb (ss.map (·.msg) ++ (gs.take i).flatMap (·.data))) o lv nt ∧
   tm=ovr base [(1,.ptr 0 6 0 0),(22,slV gn 5 (glC gs)),(23,.int .i64 ((glC gs).length:Int)),(24,.int .i64 (i:Int)),(3,o)]∧H=⟨[naB nm rn rs fn fr tn ts sn ss gn gs],0,lv,nt⟩)
  (fun m2 tm H hI=>Wp.drop ?_) gs.length _ _ ⟨0,_,o,lv,nt,by omega,by simpa using hA,Zf ⟨rfl,rfl,rfl,rfl,rfl,trivial⟩,rfl⟩
 clear hA
 obtain ⟨i,base,o,lv,nt,hi,hA,rfl,rfl⟩:=hI
 have hlx:=Zn (i:Int) ((glC gs).length:Int)
 by_cases hlt:i<gs.length
 · rw [decide_eq_true (by omega)] at hlx
   obtain ⟨x,hx⟩:∃ x,gs[i]? = some x:=⟨gs[i],by simp⟩
   have hj:=XO hx
   have hii:=Zy (a:=(i:Int)) (b:=1) (by omega) (by omega)
   rw [show (i:Int)+1=((i+1:Nat):Int) by omega] at hii
   have hfm:(gs.take (i+1)).flatMap (·.data)=(gs.take i).flatMap (·.data)++x.data:=by rw [List.take_add_one,hx];simp
   have hfl:=Zd4 (f:=fun g:Gl=>g.data) gs (i+1)
   rw [hfm,List.length_append] at hfl
   obtain ⟨o2,lv2,nt2,hap,hA2, -⟩:=hA.app Vv (.slV x.dn 4 (Zb x.data)) (Z9 _) (ZH (by simp only [Za,List.length_append,List.length_map];omega) (by decide)) (X9 _)
   rw [← Y6,List.append_assoc, ← hfm] at hA2
   clear hA hfm hfl
   obtain ⟨xk,xr,xw,xb,xd,xl⟩:=x
   simp only at hj hap
   repeat' first|refine Jk ?_|refine Js ?_|refine JA ?_|refine Ji ?_|refine JJ ?_|refine Jl ?_|refine Jx ?_|refine Jt ?_|refine Jb ?_ ?_|(apply qT (ty:=0);rfl;rfl;rfl)|(apply qF (ty:=0);rfl;rfl;rfl)|refine Jz ?_ ?_|refine Jo ?_|intro hb
   refine DropQ.go [(1,.ptr 0 6 0 0),(22,slV gn 5 (glC gs)),(23,.int .i64 ((glC gs).length:Int)),(24,.int .i64 ((i+1:Nat):Int)),(3,o2)] ⟨rfl,rfl,rfl,rfl,rfl,trivial⟩ ?_ rfl ?_ ?_
   · simp [Ze,under,hA2.under]
   · simp [ZO,Zo,Ze,under]
   · exact LoopI.go (m2-1) (by omega) ⟨i+1,_,o2,lv2,nt2,by omega,hA2,rfl,rfl⟩
 have e:i=gs.length:=by omega
 subst e
 rw [decide_eq_false (by omega)] at hlx
 rw [List.take_length] at hA
 have cF:=fun H=>Xa (cF true H) (args:=[o,.int .i64 40,.int .i64 80]) (by simp only [Zt,hA.frzG];rfl)
 cases R<;>cases P<;>cases Q<;>cases B
 all_goals
  repeat' first|refine Jk ?_|refine Jc (cW _) ?_|refine Jc (cF _) ?_|refine Js ?_|refine JA ?_|refine Ji ?_|refine JJ ?_|refine Jl ?_|refine Jx ?_|refine Jt ?_|refine Jb ?_ ?_|(apply qT (ty:=0);rfl;rfl;rfl)|(apply qF (ty:=0);rfl;rfl;rfl)|refine Jz ?_ ?_|refine Jo ?_|intro hb
  all_goals rfl
