/-
  The reference's App, copies, with, replaced, checked, within, Sizes.
-/
import Derived.Test.YtgnklbkmfeafaaaGreatDoorWf
set_option maxHeartbeats 0
set_option maxRecDepth 100000
namespace Go.Vm
def Na.szs (n:Na):List Int:=n.steps.map fun s=>(s.msg.size:Int)
def Na.szE (n:Na):List Int×Int:=if n.chk.2≠0 then ([],n.chk.2) else (n.szs,0)
theorem ZbO {l:List Sp} {i:Nat} {x:Sp} (h:l[i]? = some x):(l.map fun s=>(s.msg.size:Int)).take (i+1)=(l.map fun s=>(s.msg.size:Int)).take i++ [(x.msg.size:Int)]:=by
 rw [List.take_add_one,List.getElem?_map,h];rfl
theorem Zhw (n:Na):n.chkd.2=n.chk.2:=by
 rw [XN]
 by_cases h:n.chk.2=0
 · rw [if_pos h,h]
 · rw [if_neg h]
end Go.Vm
namespace Go.Vm.Seat
variable {n:Na}
open Go.Proofs
theorem Zcv {L:List Int} {o:PV} {lv:List Nat} {nt:Nat} (h:ApV true 1 (Xy L) o lv nt) (m:Nat) (H:Heap) (e:Int):frz3 m H (.tup [o,.int .i64 e])=some (.tup [slV true 1 (Xy L),.int .i64 e]):=by
 rw [YL]
 simp only [Xn,h.frz2]
 rfl
theorem c18 (h:n.Sm):∀ H,CallOk E0 Tryz.prog 18 [.agg n.cells] H (.tup [slV true 1 (Xy n.szE.1),.int .i64 n.szE.2]) H:=by
 have cC:=c25 h
 have hsl:=h.sl
 have cS:=fun {s:Sp} (hs:s∈n.steps)=>c47 (h.ss s hs).2.2.1 (by have:=(h.ss s hs).2.2.2;omega)
 clear h
 rw [Na.szE,Na.szs]
 have n1:=ZK n.chk.2 0
 generalize n.chk.2=e at cC n1 ⊢
 generalize n.chk.1=ln at cC
 have e4:=ZI n.steps
 obtain ⟨nm,rn,rs,fn,fr,tn,ts,sn,ss,gn,gs⟩:=n
 simp only [Na.cells] at cC cS e4 hsl ⊢
 refine Jw tOk fe18.ok (by rw [YL];simp only [Xn,QD];rfl) ?_ (by simp only [Zt,Zj])
 by_cases c:e=0
 case neg=>
  rw [decide_eq_false c] at n1
  rw [if_pos c]
  repeat' first|refine Jc (cC _) ?_|refine Js ?_|refine JA ?_|refine Ji ?_|refine JJ ?_|refine Jl ?_|refine Jx ?_|refine Jt ?_|refine Jb ?_ ?_|(apply qT (ty:=0);rfl;rfl;rfl)|(apply qF (ty:=0);rfl;rfl;rfl)|refine Jz ?_ ?_|refine Jo ?_|intro hb
  all_goals exact Zcv (L:=[]) (.nil [] 0 rfl) _ _ _
 rw [decide_eq_true c] at n1
 rw [if_neg (show ¬ e≠0 by omega)]
 repeat' first|refine Jc (cC _) ?_|refine Js ?_|refine JA ?_|refine Ji ?_|refine JJ ?_|refine Jl ?_|refine Jx ?_|refine Jt ?_|refine Jb ?_ ?_|(apply qT (ty:=0);rfl;rfl;rfl)|(apply qF (ty:=0);rfl;rfl;rfl)|refine Jz ?_ ?_|refine Jo ?_|intro hb
 clear cC n1
 refine Wp.while (fun m2 tm H => ∃ (i : Nat) (base : TM) (o : PV) (lv : List Nat) (nt : Nat), i + m2 = ss.length ∧ ApV true 1 (Xy ((ss.map fun s => (s.msg.size : Int)).take i)) o lv nt ∧
   tm=ovr base [(6,o),(18,slV sn 7 (spC ss)),(19,.int .i64 (ss.length:Int)),(20,.int .i64 (i:Int))]∧H=⟨[naB nm rn rs fn fr tn ts sn ss gn gs],0,lv,nt⟩)
  (fun m2 tm H hI=>Wp.drop ?_) ss.length _ _ ⟨0,_,_,_,_,by omega,.nil [] 0 rfl,Zf ⟨rfl,rfl,Zz (by rw [e4]),rfl,trivial⟩,rfl⟩
 obtain ⟨i,base,o,lv,nt,hi,hA,rfl,rfl⟩:=hI
 have hlx:=Zn (i:Int) (ss.length:Int)
 by_cases hlt:i<ss.length
 · rw [decide_eq_true (by omega)] at hlx
   obtain ⟨x,hx⟩:∃ x,ss[i]? = some x:=⟨ss[i],by simp⟩
   have hj:=ZX hx
   have hq:=cS (List.mem_of_getElem? hx)
   have hii:=Zy (a:=(i:Int)) (b:=1) (by omega) (by omega)
   rw [show (i:Int)+1=((i+1:Nat):Int) by omega] at hii
   obtain ⟨o2,lv2,nt2,hap,hA2, -⟩:=hA.app ZaH (.sl .full 1 [[.int .i64 (x.msg.size:Int)]]) (WP [_]) (ZH (by rw [Wl];simp;omega) (by decide)) (WW [_])
   rw [show Xy ((ss.map fun s=>(s.msg.size:Int)).take i)++ [[.int .i64 (x.msg.size:Int)]]=Xy ((ss.map fun s=>(s.msg.size:Int)).take (i+1)) by rw [ZbO hx,W3];rfl] at hA2
   generalize (x.msg.size:Int)=z at hq hap
   obtain ⟨xf,xt,⟨k',nm',s',b',kz'⟩,xl⟩:=x
   simp only [Sp.cells,Tm.cells,List.cons_append,List.nil_append] at hj hq
   clear hA
   repeat' first|refine Jc (hq _) ?_|refine Js ?_|refine JA ?_|refine Ji ?_|refine JJ ?_|refine Jl ?_|refine Jx ?_|refine Jt ?_|refine Jb ?_ ?_|(apply qT (ty:=0);rfl;rfl;rfl)|(apply qF (ty:=0);rfl;rfl;rfl)|refine Jz ?_ ?_|refine Jo ?_|intro hb
   refine DropQ.go [(6,o2),(18,slV sn 7 (spC ss)),(19,.int .i64 (ss.length:Int)),(20,.int .i64 ((i+1:Nat):Int))] ⟨rfl,rfl,rfl,rfl,trivial⟩ ?_ rfl ?_ ?_
   · simp [Ze,under,hA2.under]
   · simp [ZO,Zo,Ze,under]
   · exact LoopI.go (m2-1) (by omega) ⟨i+1,_,o2,lv2,nt2,by omega,hA2,rfl,rfl⟩
 · have e : i = ss.length := by omega
   subst e
   rw [decide_eq_false (by omega)] at hlx
   rw [List.take_of_length_le (by simp)] at hA
   have hfr:=fun m H=>Zcv hA m H 0
   repeat' first|refine Js ?_|refine JA ?_|refine Ji ?_|refine JJ ?_|refine Jl ?_|refine Jx ?_|refine Jt ?_|refine Jb ?_ ?_|(apply qT (ty:=0);rfl;rfl;rfl)|(apply qF (ty:=0);rfl;rfl;rfl)|refine Jz ?_ ?_|refine Jo ?_|intro hb
   all_goals exact hfr _ _
theorem c75 {l:List Zg} (hlen:l.length≤1100000) (v:Zg) (b:Bool):∀ H,CallOk E0 Tryz.prog 75 [slV b 1 (Zi l),.str v] H (.bool (ZU l v)) H:=by
 have hsl:=ZC l
 refine Jw tOk fe75.ok rfl ?_
 repeat' first|refine Ji ?_|refine JJ ?_|refine Jl ?_|refine Jx ?_|refine Jt ?_|refine Jb ?_ ?_|refine Jo ?_|intro hb
 refine Wp.while (fun m tm H=>∃ (i:Nat) (base:TM),i+m=l.length∧ZU l v=ZU (l.drop i) v∧tm=ovr base [(0,slV b 1 (Zi l)),(1,.str v),(5,.int .i64 (i:Int))]∧H=⟨[],0,[],0⟩)
  (fun m tm H hI=>?_) l.length _ _ ⟨0,_,by omega,by simp,Zf ⟨rfl,rfl,rfl,trivial⟩,rfl⟩
 obtain ⟨i,base,hi,hgo,rfl,rfl⟩:=hI
 rw [hgo]
 have hlx:=Zn (i:Int) ((Zi l).length:Int)
 by_cases hlt:i<l.length
 · obtain ⟨a, ha⟩ : ∃ a, l[i]? = some a := ⟨l[i], by simp⟩
   have hj:=Yf ha
   have he:=Y1 a v
   rw [decide_eq_true (by omega)] at hlx
   have hii:=Zy (a:=(i:Int)) (b:=1) (by omega) (by omega)
   rw [show (i:Int)+1=((i+1:Nat):Int) by omega] at hii
   rw [ZA ha,show ZU (a::l.drop (i+1)) v=(decide (a=v)||ZU (l.drop (i+1)) v) from rfl]
   generalize decide (a=v)=B at he ⊢
   cases B with
   | true =>
     rw [Bool.true_or]
     repeat' first|refine Ji ?_|refine JJ ?_|refine Jl ?_|refine Jx ?_|refine Jt ?_|refine Jb ?_ ?_|refine Jo ?_|intro hb
     all_goals rfl
   | false =>
     rw [Bool.false_or]
     repeat' first|refine Ji ?_|refine JJ ?_|refine Jl ?_|refine Jx ?_|refine Jt ?_|refine Jb ?_ ?_|refine Jo ?_|intro hb
     exact LoopI.go (m-1) (by omega) ⟨i+1,_,by omega,rfl,Zf ⟨rfl,rfl,rfl,trivial⟩,rfl⟩
 · have e : i = l.length := by omega
   subst e
   rw [decide_eq_false (by omega)] at hlx
   rw [List.drop_length]
   repeat' first|refine Ji ?_|refine JJ ?_|refine Jl ?_|refine Jx ?_|refine Jt ?_|refine Jb ?_ ?_|refine Jo ?_|intro hb
   all_goals rfl
theorem c33 (h:n.Sm) (hN:∀ s,s∈n.nms→s.length≤60) {w:Zg} (hw:w.length≤61):∀ H,CallOk E0 Tryz.prog 33 [.agg n.cells,.str w] H (.str (nnF n.nms w)) H:=by
 obtain ⟨so,cN⟩:=c74 h
 have hNl:n.nms.length≤120:=by
  have h1:=h.rl;have h2:=h.fl;have h3:=h.tl
  simp only [Na.nms,List.length_append,List.length_map];omega
 clear h
 generalize n.nms=N at cN hN hNl ⊢
 have k1:=fun v=>c75 (l:=N) (by omega) v true
 obtain ⟨nm,rn,rs,fn,fr,tn,ts,sn,ss,gn,gs⟩:=n
 simp only [Na.cells] at cN ⊢
 refine Jw tOk fe33.ok rfl ?_ (by simp only [Zt,Zj];rfl)
 repeat' first|refine Jc (cN _) ?_|refine Ji ?_|refine Jt ?_|refine Jb ?_ ?_|refine Jo ?_|intro hb
 refine Wp.while (fun m tm H=>∃ (cur:Zg) (base:TM),cur.length+m=61∧nnF N w=nnW N m cur∧tm=ovr base [(1,.str cur),(5,slV true 1 (Zi N))]∧H=⟨[naB nm rn rs fn fr tn ts sn ss gn gs],0,[],0⟩)
  (fun m tm H hI=>?_) (61-w.length) _ _ ⟨w,_,by omega,rfl,Zf ⟨rfl,rfl,trivial⟩,rfl⟩
 obtain ⟨cur,base,hi,hgo,rfl,rfl⟩:=hI
 rw [hgo]
 have k2:=k1 cur
 have ha:=QZ (a:=cur) (b:=[95]) (by simp;omega)
 cases hA:ZU N cur with
 | true =>
   have hl:=hN cur (V3.1 hA)
   rw [hA] at k2
   rw [Zb6 N m cur hA (by omega)]
   repeat' first|refine Jc (k2 _) ?_|refine Ji ?_|refine Jt ?_|refine Jb ?_ ?_|refine Jo ?_|intro hb
   exact LoopI.go (m-1) (by omega) ⟨cur++ [95],_,by simp;omega,rfl,Zf ⟨rfl,rfl,trivial⟩,rfl⟩
 | false =>
   rw [hA] at k2
   rw [Zex N m cur hA]
   repeat' first|refine Jc (k2 _) ?_|refine Ji ?_|refine Jt ?_|refine Jb ?_ ?_|refine Jo ?_|intro hb
   all_goals rfl
theorem c76 (s:Zg):∀ H,CallOk E0 Tryz.prog 76 [.str s,.int .i64 0] H (.agg (atT s).cells) H:=by
 simp only [atT,Tm.cells,Zb,Zq]
 refine Jw tOk fe76.ok rfl ?_
 repeat' first|refine Jo ?_|intro hb
 all_goals rfl
theorem c38 (s:Zg):∀ H,CallOk E0 Tryz.prog 38 [.str s] H (.agg (atT s).cells) H:=by
 have h:=c76 s
 simp only [atT,Tm.cells,Zb,Zq] at h ⊢
 refine Jw tOk fe38.ok rfl ?_
 repeat' first|refine Jc (h _) ?_|refine Ji ?_|refine Jo ?_|intro hb
 all_goals rfl
end Go.Vm.Seat
namespace Go.Vm
variable {n:Na}
theorem Zby (l:List Sp):noB (spC l)=true:=Zek (f:=Sp.cells) (fun _=>rfl) l
theorem Zgl (n:Na) (t:Zg):n.with t={n with tn:=false,tags:=n.tags++ [t]}:=rfl
theorem Ql (h:n.chk.2=0):n.chkd=(n,0):=by rw [XN,if_pos h]
theorem QA (h:n.chk.2≠0):n.chkd=(.none,n.chk.2):=by rw [XN,if_neg h]
end Go.Vm
namespace Go.Vm.Seat
variable {n:Na}
open Go.Proofs
theorem ZhB (nm : Zg) (c : List PV) (r : List (List PV)) (hok : (c :: r).all (fun c => c.all Zp) = true) (hf : XH 0 (c :: r).length 56 = true) (hB : noB (c :: r) = true) :
  ∀ H,CallOk E0 Tryz.prog 37 [.str nm,.sl .none 4 (c::r)] H (.agg [.int .i64 3,.str nm,.int .i64 0,.sl .none 4 (c::r)]) H:=by
 have hap:=fun bx ro=>ZgT Vv (by simp) hok hf hB bx ro [] 0
 refine Jw tOk fe37.ok rfl ?_
 repeat' first|refine Js ?_|refine JA ?_|refine Jo ?_|intro hb
 all_goals rfl
theorem U9 (f:Zg) (x y:Tm):∀ H,CallOk E0 Tryz.prog 37 [.str f,.sl .full 4 [x.cells,y.cells]] H (.agg (apT f [x,y]).cells) H:=fun H=>by
 have h:=ZhB f x.cells [y.cells] (by
  have:=Z9 [x,y]
  obtain ⟨k,m,s,b,kz⟩:=x
  obtain ⟨k',m',s',b',kz'⟩:=y
  simpa only [Zb,Tm.cells] using this) (ZH (by simp) (by decide)) (by
  have:=X9 [x,y]
  obtain ⟨k,m,s,b,kz⟩:=x
  obtain ⟨k',m',s',b',kz'⟩:=y
  simpa only [Zb,Tm.cells] using this) H
 obtain ⟨k,m,s,b,kz⟩:=x
 obtain ⟨k',m',s',b',kz'⟩:=y
 simp only [apT,Tm.cells,Zb,Zx] at h ⊢
 exact Xa h rfl
theorem c46 (t:Tm):∀ k:Nat,k≤100→∀ H,CallOk E0 Tryz.prog 46 [.agg t.cells,.int .i64 ((k+1:Nat):Int)] H (.agg (WF t k).cells) H
 | 0, hk => by
   have hq:=Z6 ((0+1:Nat):Int) 1
   rw [decide_eq_true (by omega)] at hq
   rw [WF]
   obtain ⟨k1,m,s,b,kz⟩:=t
   simp only [Tm.cells]
   refine Jw tOk fe46.ok (Wj _ _ _ _ _ _ _) ?_ (by simp only [Zt,ZR];rfl)
   repeat' first|refine Js ?_|refine Ji ?_|refine Jt ?_|refine Jb ?_ ?_|refine Jo ?_|refine JB ?_|refine JD ?_|(apply dT (ty:=4);rfl;rfl;rfl;rfl)|(apply dF (ty:=4);rfl;rfl;rfl;rfl)|(apply dB (ty:=4);rfl;rfl;rfl;rfl)|refine Jh ?_|(apply Wp.drawS tOk follows;kernel_rfl;rfl)|intro hb
   all_goals exact Wj _ _ _ _ _ _ _
 | k + 1, hk => by
   have ih:=c46 t k (by omega)
   have hq:=Z6 ((k+1+1:Nat):Int) 1
   rw [decide_eq_false (by omega)] at hq
   have hsb:=ZgD (a:=((k+1+1:Nat):Int)) (b:=1) (by omega) (by omega)
   rw [show ((k+1+1:Nat):Int)-1=((k+1:Nat):Int) by omega] at hsb
   have ha:=U9 ZN t (WF t k)
   rw [show WF t (k+1)=apT ZN [t,WF t k] from rfl]
   generalize WF t k=X at ih ha ⊢
   obtain ⟨k1,m,s,b,kz⟩:=t
   obtain ⟨Xk,Xm,Xs,Xb,Xl⟩:=X
   simp only [apT,Tm.cells] at ih ha ⊢
   refine Jw tOk fe46.ok (Wj _ _ _ _ _ _ _) ?_ (by simp only [Zt,ZR];rfl)
   repeat' first|refine Jc (ih _) ?_|refine Jc (ha _) ?_|refine Js ?_|refine Ji ?_|refine Jt ?_|refine Jb ?_ ?_|refine Jo ?_|refine Jd (ih _) ?_|refine Jd (ha _) ?_|refine JB ?_|refine JD ?_|(apply dT (ty:=4);rfl;rfl;rfl;rfl)|(apply dF (ty:=4);rfl;rfl;rfl;rfl)|(apply dB (ty:=4);rfl;rfl;rfl;rfl)|refine Jh ?_|(apply Wp.drawS tOk follows;kernel_rfl;rfl)|intro hb
   all_goals exact Wj _ _ _ _ _ _ _
theorem Qp (n:Na) (m:Nat) (H:Heap):frz3 m H (.agg n.cells)=some (.agg n.cells):=by
 show (match Z1 m H n.cells with|some cs'=>some (PV.agg cs')|none=>none)=_
 simp only [Na.cells,Z1,Ye]
 rfl
theorem ZdP {m:Nat} {H:Heap} {C C':List PV} (h:Z1 m H C=some C'):frz3 m H (.agg C)=some (.agg C'):=by
 show (match Z1 m H C with|some cs'=>some (PV.agg cs')|none=>none)=_
 rw [h]
theorem c36 (hl:n.tags.length≤1000) (t:Zg):∀ H,CallOk E0 Tryz.prog 36 [.agg n.cells,.str t] H (.agg (n.with t).cells) H:=by
 obtain ⟨o1,lv1,nt1,hap1,hA1, -⟩:=(ApV.full (es:=1) [] [] 0 (rfl:false=false) rfl).app XW (.slV n.tn 1 (Zi n.tags)) (YJ n.tags) (ZH (by simp [ZC];omega) (by decide)) (Yz n.tags)
 obtain ⟨o2,lv2,nt2,hap2,hA2, -⟩:=hA1.app XW (.sl .full 1 [[.str t]]) (YJ [t]) (ZH (by simp [ZC];omega) (by decide)) (Yz [t])
 rw [List.nil_append,show Zi n.tags++ [[.str t]]=Zi (n.tags++ [t]) by simp [Zi]] at hA2
 obtain ⟨q1,q2⟩:=Yw hA2
 have hw:=Zgl n t
 obtain ⟨r,hr⟩:∃ r,r=PV.agg (n.with t).cells:=⟨_,rfl⟩
 have hfr:frz3 0 hNil r=some r:=by rw [hr];exact Qp _ _ _
 have fin:∀ m H,frz3 m H (.agg [.str n.name,slV n.rn 1 (Zi n.roles),slV n.fn 3 (frC n.fresh),o2,slV n.sn 7 (spC n.steps),slV n.gn 5 (glC n.goals)])=some r:=fun m H=>by
  rw [hr,hw]
  refine ZdP ?_
  simp only [Na.cells,Z1,Ye,hA2.frzC]
  rfl
 have qb:=UH n.name (Zk n.rn 1 (Zi n.roles)).2 (Zk n.fn 3 (frC n.fresh)).2 q2 (Zk n.sn 7 (spC n.steps)).2 (Zk n.gn 5 (glC n.goals)).2
 rw [← hr]
 clear hr hw hA1 hA2 hl
 obtain ⟨nm,rn,rs,fn,fr,tn,ts,sn,ss,gn,gs⟩:=n
 simp only [Na.cells] at hap1 hap2 fin qb ⊢
 refine Jw tOk fe36.ok hfr ?_ (by simp only [Zt,Zj];rfl)
 repeat' first|refine Js ?_|refine JA ?_|refine Jo ?_|(apply qSt;rfl;rfl;assumption;exact IsL.n;rfl;assumption;(first|rfl|assumption);exact IsH.mkN)|intro hb
 all_goals exact fin _ _
theorem c32 (h:n.Sm):∀ H,CallOk E0 Tryz.prog 32 [.agg n.cells] H (.tup [.agg n.chkd.1.cells,.int .i64 n.chkd.2]) H:=by
 have cC:=c73 h
 clear h
 have n1:=ZK n.chk.2 0
 by_cases c:n.chk.2=0
 · rw [Ql c]
   rw [decide_eq_true c] at n1
   rw [c] at cC n1
   have hfr:=Vh n 0
   have hf2:=fun m H=>(Qp n m H)
   generalize n.chk.1=ln at cC
   have fin:∀ m H,frz3 m H (.tup [.agg n.cells,.int .i64 0])=some (.tup [.agg n.cells,.int .i64 0]):=fun m H=>by
    have h2:frz2 m H (.agg n.cells)=some (.agg n.cells):=by
     show (match Z1 m H n.cells with|some cs'=>some (PV.agg cs')|none=>none)=_
     simp only [Na.cells,Z1,Ye];rfl
    rw [YL]
    simp only [Xn,h2]
    rfl
   have qb:=UH n.name (Zk n.rn 1 (Zi n.roles)).2 (Zk n.fn 3 (frC n.fresh)).2 (Zk n.tn 1 (Zi n.tags)).2 (Zk n.sn 7 (spC n.steps)).2 (Zk n.gn 5 (glC n.goals)).2
   clear c hf2
   obtain ⟨nm,rn,rs,fn,fr,tn,ts,sn,ss,gn,gs⟩:=n
   simp only [Na.cells] at cC hfr fin qb ⊢
   refine Jw tOk fe32.ok hfr ?_ (by simp only [Zt,Zj])
   repeat' first|refine Jc (cC _) ?_|refine Ji ?_|refine Jt ?_|refine Jb ?_ ?_|refine Jo ?_|intro hb
   all_goals exact fin _ _
 · rw [QA c]
   rw [decide_eq_false c] at n1
   simp only [Zu]
   generalize n.chk.1=ln at cC
   generalize n.chk.2=e at cC n1 ⊢
   obtain ⟨nm,rn,rs,fn,fr,tn,ts,sn,ss,gn,gs⟩:=n
   simp only [Na.cells] at cC ⊢
   refine Jw tOk fe32.ok rfl ?_ (by simp only [Zt,Zj])
   repeat' first|refine Jc (cC _) ?_|refine Ji ?_|refine Jt ?_|refine Jb ?_ ?_|refine Jo ?_|intro hb
   all_goals rfl
theorem c42 (h:n.Sm) (step:Int):∀ H,CallOk E0 Tryz.prog 42 [.agg n.cells,.int .i64 step] H (.int .i64 (n.inE step)) H:=by
 have k1:=c32 h
 clear h
 rw [Na.inE]
 have n1:=ZK n.chk.2 0
 have l1:=Zn step 0
 have e4:=ZI n.steps
 have g2:=Us step ((spC n.steps).length:Int)
 have qb:=UH n.name (Zk n.rn 1 (Zi n.roles)).2 (Zk n.fn 3 (frC n.fresh)).2 (Zk n.tn 1 (Zi n.tags)).2 (Zk n.sn 7 (spC n.steps)).2 (Zk n.gn 5 (glC n.goals)).2
 by_cases c:n.chk.2=0
 · rw [Ql c] at k1
   rw [decide_eq_true c] at n1
   rw [if_neg (show ¬ n.chk.2≠0 by omega)]
   rw [c] at n1
   clear c
   obtain ⟨nm,rn,rs,fn,fr,tn,ts,sn,ss,gn,gs⟩:=n
   simp only [Na.cells] at k1 e4 g2 qb ⊢
   rw [← e4]
   refine Jw tOk fe42.ok rfl ?_ (by simp only [Zt,Zj];rfl)
   by_cases c1:step<0
   · rw [decide_eq_true c1] at l1
     rw [if_pos (.inl c1)]
     repeat' first|refine Jk ?_|refine Jc (k1 _) ?_|refine Ji ?_|refine Jl ?_|refine Jt ?_|refine Jb ?_ ?_|refine Jo ?_|intro hb
     all_goals rfl
   · rw [decide_eq_false c1] at l1
     by_cases c2:((spC ss).length:Int)≤step
     · rw [decide_eq_true c2] at g2
       rw [if_pos (.inr c2)]
       repeat' first|refine Jk ?_|refine Jc (k1 _) ?_|refine Ji ?_|refine Jl ?_|refine Jt ?_|refine Jb ?_ ?_|refine Jo ?_|intro hb
       all_goals rfl
     · rw [decide_eq_false c2] at g2
       rw [if_neg (fun h=>h.elim c1 c2)]
       repeat' first|refine Jk ?_|refine Jc (k1 _) ?_|refine Ji ?_|refine Jl ?_|refine Jt ?_|refine Jb ?_ ?_|refine Jo ?_|intro hb
       all_goals rfl
 · rw [QA c] at k1
   rw [decide_eq_false c] at n1
   rw [if_pos c]
   simp only [Zu] at k1
   generalize n.chk.2=e at k1 n1 ⊢
   clear c e4 g2 qb
   obtain ⟨nm,rn,rs,fn,fr,tn,ts,sn,ss,gn,gs⟩:=n
   simp only [Na.cells] at k1 ⊢
   refine Jw tOk fe42.ok rfl ?_ (by simp only [Zt,Zj];rfl)
   repeat' first|refine Jk ?_|refine Jc (k1 _) ?_|refine Ji ?_|refine Jl ?_|refine Jt ?_|refine Jb ?_ ?_|refine Jo ?_|intro hb
   all_goals rfl
