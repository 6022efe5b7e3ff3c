/-
  Sizes and lines: the reference's text.
-/
import Derived.Test.YtgnklbkmfeafaaaGreatDoorWj
set_option maxHeartbeats 0
set_option maxRecDepth 100000
namespace Go.Vm.Seat
variable {n:Na}
open Go.Proofs
theorem c19 (h:n.Sm):∀ H,CallOk E0 Tryz.prog 19 [.agg n.cells] H (.tup [slV true 1 (Xt n.szE.1),.int .i64 n.szE.2]) H:=by
 have cC:=c32 h
 have hsl:=h.sl
 have cS:=fun {s:Sp} (hs:s∈n.steps)=>c48 (h.ss s hs).2.2.1 (by have:=(h.ss s hs).2.2.2;omega)
 clear h
 rw [Na.szE,Na.szs]
 rw [Zgv] at cC
 have n1:=ZK n.chk.2 0
 obtain ⟨M,hM⟩:∃ M,M=n.chkd.1:=⟨_,rfl⟩
 rw [← hM] at cC
 clear hM
 have qb:=Zcb M.name (Zz M.rn 1 (Zo M.roles)).2 (Zz M.fn 3 (frC M.fresh)).2 (Zz M.tn 1 (Zo M.tags)).2 (Zz M.sn 7 (spC M.steps)).2 (Zz M.gn 5 (glC M.goals)).2
 generalize n.chk.2=e at cC n1 ⊢
 have e4:=ZV n.steps
 obtain ⟨nm,rn,rs,fn,fr,tn,ts,sn,ss,gn,gs⟩:=n
 simp only [Na.cells] at cC cS e4 hsl qb ⊢
 refine Jw tOk fe19.ok (by rw [YU];simp only [XN,US];rfl) ?_ (by simp only [Zv,Zl])
 by_cases c:e=0
 case neg=>
  rw [decide_eq_false c] at n1
  rw [if_pos c]
  repeat' first|refine Jc (cC _) ?_|refine Js ?_|refine JA ?_|refine Ji ?_|refine JJ ?_|refine Jl ?_|refine Jx ?_|refine Jt ?_|refine Jb ?_ ?_|refine Jo ?_|intro hb
  all_goals exact ZaW (L:=[]) (.nil [] 0 rfl) _ _ _
 rw [decide_eq_true c] at n1
 rw [if_neg (show ¬ e≠0 by omega)]
 repeat' first|refine Jc (cC _) ?_|refine Js ?_|refine JA ?_|refine Ji ?_|refine JJ ?_|refine Jl ?_|refine Jx ?_|refine Jt ?_|refine Jb ?_ ?_|refine Jo ?_|intro hb
 clear cC n1
 refine Wp.while (fun m2 tm H => ∃ (i : Nat) (base : TM) (o : PV) (lv : List Nat) (nt : Nat), i + m2 = ss.length ∧ ApV true 1 (Xt ((ss.map fun s => (s.msg.size : Int)).take i)) o lv nt ∧
   tm=ovr base [(1,.ptr 0 6 0 0),(6,o),(7,.int .i64 (i:Int))]∧H=⟨[naB nm rn rs fn fr tn ts sn ss gn gs,cpB M.name (slV M.rn 1 (Zo M.roles)) (slV M.fn 3 (frC M.fresh)) (slV M.tn 1 (Zo M.tags)) (slV M.sn 7 (spC M.steps)) (slV M.gn 5 (glC M.goals))],0,lv,nt⟩)
  (fun m2 tm H hI=>?_) ss.length _ _ ⟨0,_,_,_,_,by omega,.nil [] 0 rfl,Ze ⟨rfl,rfl,rfl,trivial⟩,rfl⟩
 obtain ⟨i,base,o,lv,nt,hi,hA,rfl,rfl⟩:=hI
 have hlx:=Zk (i:Int) ((spC ss).length:Int)
 by_cases hlt:i<ss.length
 · rw [decide_eq_true (by omega)] at hlx
   obtain ⟨x,hx⟩:∃ x,ss[i]? = some x:=⟨ss[i],by simp⟩
   have hj:=Yz hx
   have hq:=cS (List.mem_of_getElem? hx)
   have hii:=Zw (a:=(i:Int)) (b:=1) (by omega) (by omega)
   rw [show (i:Int)+1=((i+1:Nat):Int) by omega] at hii
   obtain ⟨o2,lv2,nt2,hap,hA2, -⟩:=hA.app QW (.sl .full 1 [[.int .i64 (x.msg.size:Int)]]) (WV [_]) (ZJ (by rw [X9];simp;omega) (by decide)) (WD [_])
   rw [show Xt ((ss.map fun s=>(s.msg.size:Int)).take i)++ [[.int .i64 (x.msg.size:Int)]]=Xt ((ss.map fun s=>(s.msg.size:Int)).take (i+1)) by rw [Zbh hx,WX];rfl] at hA2
   generalize (x.msg.size:Int)=z at hq hap
   obtain ⟨xf,xt,⟨k',nm',s',b',kz'⟩,xl⟩:=x
   simp only [Sp.cells,Tm.cells,List.cons_append,List.nil_append] at hj hq
   clear hA
   repeat' first|refine Jc (hq _) ?_|refine Js ?_|refine JA ?_|refine Ji ?_|refine JJ ?_|refine Jl ?_|refine Jx ?_|refine Jt ?_|refine Jb ?_ ?_|refine Jo ?_|intro hb
   exact LoopI.go (m2-1) (by omega) ⟨i+1,_,o2,lv2,nt2,by omega,hA2,Ze ⟨rfl,rfl,rfl,trivial⟩,rfl⟩
 · have e : i = ss.length := by omega
   subst e
   rw [decide_eq_false (by omega)] at hlx
   rw [List.take_of_length_le (by simp)] at hA
   have hfr:=fun m H=>ZaW hA m H 0
   repeat' first|refine Js ?_|refine JA ?_|refine Ji ?_|refine JJ ?_|refine Jl ?_|refine Jx ?_|refine Jt ?_|refine Jb ?_ ?_|refine Jo ?_|intro hb
   all_goals exact hfr _ _
theorem c15 (h:n.Sm):∀ H,CallOk E0 Tryz.prog 15 [.agg n.cells] H (slV true 1 (Xt n.lines)) H:=by
 have hsl:=h.sl
 have hgl:=h.gl
 clear h
 rw [Na.lines]
 have e4:=ZV n.steps
 have e5:=YJ n.goals
 obtain ⟨nm,rn,rs,fn,fr,tn,ts,sn,ss,gn,gs⟩:=n
 simp only [Na.cells] at e4 e5 hsl hgl ⊢
 refine Jw tOk fe15.ok (WS _ _ _ _ _) ?_ (by simp only [Zv,Zl])
 repeat' first|refine Js ?_|refine JA ?_|refine Ji ?_|refine JJ ?_|refine Jl ?_|refine Jx ?_|refine Jt ?_|refine Jb ?_ ?_|refine Jo ?_|intro hb
 refine Wp.while (fun m2 tm H => ∃ (i : Nat) (base : TM) (o : PV) (lv : List Nat) (nt : Nat), i + m2 = ss.length ∧ ApV true 1 (Xt ((ss.map (·.line)).take i)) o lv nt ∧
   tm=ovr base [(1,.ptr 0 6 0 0),(3,o),(4,.int .i64 (i:Int))]∧H=⟨[naB nm rn rs fn fr tn ts sn ss gn gs],0,lv,nt⟩)
  (fun m2 tm H hI=>?_) ss.length _ _ ⟨0,_,_,_,_,by omega,.nil [] 0 rfl,Ze ⟨rfl,rfl,rfl,trivial⟩,rfl⟩
 obtain ⟨i,base,o,lv,nt,hi,hA,rfl,rfl⟩:=hI
 have hlx:=Zk (i:Int) ((spC ss).length:Int)
 by_cases hlt:i<ss.length
 · rw [decide_eq_true (by omega)] at hlx
   obtain ⟨x,hx⟩:∃ x,ss[i]? = some x:=⟨ss[i],by simp⟩
   have hj:=Yz hx
   have hii:=Zw (a:=(i:Int)) (b:=1) (by omega) (by omega)
   rw [show (i:Int)+1=((i+1:Nat):Int) by omega] at hii
   obtain ⟨o2,lv2,nt2,hap,hA2, -⟩:=hA.app QW (.sl .full 1 [[.int .i64 x.line]]) (WV [_]) (ZJ (by rw [X9];simp;omega) (by decide)) (WD [_])
   rw [show Xt ((ss.map (·.line)).take i)++ [[.int .i64 x.line]]=Xt ((ss.map (·.line)).take (i+1)) by rw [show (ss.map (·.line)).take (i+1)=(ss.map (·.line)).take i++ [x.line] by rw [List.take_add_one,List.getElem?_map,hx];rfl];simp only [WX];rfl] at hA2
   clear hA
   obtain ⟨xf,xt,⟨k',nm',s',b',kz'⟩,xl⟩:=x;simp only [Sp.cells,Tm.cells,List.cons_append,List.nil_append] at hj
   repeat' first|refine Js ?_|refine JA ?_|refine Ji ?_|refine JJ ?_|refine Jl ?_|refine Jx ?_|refine Jt ?_|refine Jb ?_ ?_|refine Jo ?_|intro hb
   exact LoopI.go (m2-1) (by omega) ⟨i+1,_,o2,lv2,nt2,by omega,hA2,Ze ⟨rfl,rfl,rfl,trivial⟩,rfl⟩
 have e:i=ss.length:=by omega
 subst e
 rw [decide_eq_false (by omega)] at hlx
 rw [List.take_of_length_le (by simp)] at hA
 repeat' first|refine Js ?_|refine JA ?_|refine Ji ?_|refine JJ ?_|refine Jl ?_|refine Jx ?_|refine Jt ?_|refine Jb ?_ ?_|refine Jo ?_|intro hb
 clear hlx hi hlt
 refine Wp.while (fun m2 tm H => ∃ (i : Nat) (base : TM) (o : PV) (lv : List Nat) (nt : Nat), i + m2 = gs.length ∧ ApV true 1 (Xt (ss.map (·.line) ++ (gs.map (·.line)).take i)) o lv nt ∧
   tm=ovr base [(1,.ptr 0 6 0 0),(3,o),(5,.int .i64 (i:Int))]∧H=⟨[naB nm rn rs fn fr tn ts sn ss gn gs],0,lv,nt⟩)
  (fun m2 tm H hI=>?_) gs.length _ _ ⟨0,_,o,lv,nt,by omega,by simpa using hA,Ze ⟨rfl,rfl,rfl,trivial⟩,rfl⟩
 clear hA
 obtain ⟨i,base,o,lv,nt,hi,hA,rfl,rfl⟩:=hI
 have hlx:=Zk (i:Int) ((glC gs).length:Int)
 by_cases hlt:i<gs.length
 · rw [decide_eq_true (by omega)] at hlx
   obtain ⟨x,hx⟩:∃ x,gs[i]? = some x:=⟨gs[i],by simp⟩
   have hj:=XI hx
   have hii:=Zw (a:=(i:Int)) (b:=1) (by omega) (by omega)
   rw [show (i:Int)+1=((i+1:Nat):Int) by omega] at hii
   obtain ⟨o2,lv2,nt2,hap,hA2, -⟩:=hA.app QW (.sl .full 1 [[.int .i64 x.line]]) (WV [_]) (ZJ (by rw [X9];simp;omega) (by decide)) (WD [_])
   rw [show Xt (ss.map (·.line)++(gs.map (·.line)).take i)++ [[.int .i64 x.line]]=Xt (ss.map (·.line)++(gs.map (·.line)).take (i+1)) by rw [show (gs.map (·.line)).take (i+1)=(gs.map (·.line)).take i++ [x.line] by rw [List.take_add_one,List.getElem?_map,hx];rfl];simp only [WX,List.append_assoc];rfl] at hA2
   clear hA
   skip
   repeat' first|refine Js ?_|refine JA ?_|refine Ji ?_|refine JJ ?_|refine Jl ?_|refine Jx ?_|refine Jt ?_|refine Jb ?_ ?_|refine Jo ?_|intro hb
   exact LoopI.go (m2-1) (by omega) ⟨i+1,_,o2,lv2,nt2,by omega,hA2,Ze ⟨rfl,rfl,rfl,trivial⟩,rfl⟩
 have e:i=gs.length:=by omega
 subst e
 rw [decide_eq_false (by omega)] at hlx
 rw [List.take_of_length_le (by simp)] at hA
 repeat' first|refine Js ?_|refine JA ?_|refine Ji ?_|refine JJ ?_|refine Jl ?_|refine Jx ?_|refine Jt ?_|refine Jb ?_ ?_|refine Jo ?_|intro hb
 all_goals exact hA.frz3 _ _
