/-
  Asking for a cookie: the second text.
-/
import Derived.Test.YtgnklbkmfeafaaaGreatDoorXc
import Derived.Test.YtgnklbkmfeafaaaGreatDoorXb
set_option maxHeartbeats 0
set_option maxRecDepth 100000
namespace Go.Vm.Seat
variable {n:Na}
open Go.Proofs
theorem Zka (h : n.Sm) {oF oT sv gv : PV} {C0 C1 C2 C3 C4 C5 C6 C7 C8 C9 C10 C11 C12 C13 C14 C15 : Box} {lv : List Nat} {nt : Nat} (hok : [PV.str n.name, slV n.rn 1 (Zi n.roles), oF, oT, sv, gv].all Zp = true)
  (hf:∀ ex,Z1 0 ⟨[C0,C1,C2,C3,C4,C5,C6,C7,C8,C9,C10,C11,C12,C13,C14,C15]++ex,0,lv,nt⟩ [.str n.name,slV n.rn 1 (Zi n.roles),oF,oT,sv,gv]=some n.cells) :
  CallOk E0 Tryz.prog 32 [.agg [.str n.name,slV n.rn 1 (Zi n.roles),oF,oT,sv,gv]] ⟨[C0,C1,C2,C3,C4,C5,C6,C7,C8,C9,C10,C11,C12,C13,C14,C15],0,lv,nt⟩
   (if n.chk.2=0 then .tup [.agg [.str n.name,slV n.rn 1 (Zi n.roles),oF,oT,sv,gv],.int .i64 0] else .tup [.agg Na.none.cells,.int .i64 n.chk.2])
   ⟨[C0,C1,C2,C3,C4,C5,C6,C7,C8,C9,C10,C11,C12,C13,C14,C15,cpB n.name (slV n.rn 1 (Zi n.roles)) oF oT sv gv,if n.chk.2=0 then cpB n.name (slV n.rn 1 (Zi n.roles)) oF oT sv gv else zB],0,lv,nt⟩:=by
 have hck:=YD (c73 h hNil) (Uf (hf [cpB n.name (slV n.rn 1 (Zi n.roles)) oF oT sv gv,zB])) rfl
 rw [Zu]
 clear hf h
 have n1:=ZK n.chk.2 0
 generalize n.chk.2=e at hck n1 ⊢
 generalize n.chk.1=ln at hck
 generalize slV n.rn 1 (Zi n.roles)=R at hok hck ⊢
 by_cases c:e=0
 · rw [decide_eq_true c] at n1
   subst c
   rw [if_pos rfl,if_pos rfl]
   refine Zs (own:=fun _=>false) tOk fe32.ok ?_
   refine Wp.seq ?_
   repeat' first|refine Jc hck ?_|refine Ji ?_|refine Jt ?_|refine Jb ?_ ?_|refine Jo ?_|intro hb
   all_goals exact RetE.ret rfl rfl rfl
 · rw [decide_eq_false c] at n1
   rw [if_neg c,if_neg c]
   refine Zs (own:=fun _=>false) tOk fe32.ok ?_
   refine Wp.seq ?_
   repeat' first|refine Jc hck ?_|refine Ji ?_|refine Jt ?_|refine Jb ?_ ?_|refine Jo ?_|intro hb
   all_goals exact RetE.ret rfl rfl rfl
theorem c10 (h:n.Ti):∀ H,CallOk E0 Tryz.prog 10 [.agg n.cells] H (.tup [.agg n.cookF.1.cells,.int .i64 n.cookF.2]) H:=by
 have cS:=c32 h.sm
 have n1:=ZK n.chk.2 0
 by_cases c:n.chk.2=0
 case neg=>
  rw [Zbz c]
  rw [QA c] at cS
  rw [decide_eq_false c] at n1
  simp only [Zu] at cS ⊢
  generalize n.chk.2=e at cS n1 ⊢
  clear h c
  obtain ⟨nm,rn,rs,fn,fr,tn,ts,sn,ss,gn,gs⟩:=n
  simp only [Na.cells] at cS ⊢
  refine Jw tOk fe10.ok rfl ?_ (by simp only [Zt,Zj])
  repeat' first|refine Jc (cS _) ?_|refine Js ?_|refine JA ?_|refine Ji ?_|refine JJ ?_|refine Jl ?_|refine Jx ?_|refine Jt ?_|refine Jb ?_ ?_|refine Jo ?_|refine Jd (cS _) ?_|(apply dAl;rfl;rfl;rfl;rfl;exact IsV.ptrM;exact IsH.mkN)|refine JB ?_|(apply dAq;rfl;rfl;rfl;rfl;rfl;rfl;(first|assumption|solve_by_elim))|(apply dAp;rfl;rfl;rfl;rfl;rfl;(first|assumption|solve_by_elim);rfl)|refine JD ?_|refine JK ?_|(apply dLn;rfl;rfl;rfl;rfl;rfl)|refine JI ?_|(apply dT (ty:=4);rfl;rfl;rfl;rfl)|(apply dF (ty:=4);rfl;rfl;rfl;rfl)|(apply dB (ty:=4);rfl;rfl;rfl;rfl)|refine Jh ?_|(apply dWS tOk follows;rfl;kernel_rfl;rfl)|(apply dWB tOk follows;rfl;kernel_rfl;rfl;exact IsH.mkN)|intro hb
  all_goals rfl
 have hne:=(XB c).1
 obtain ⟨x,rest,hxr⟩:∃ x rest,n.steps=x::rest:=List.exists_cons_of_ne_nil hne
 have hs:n.steps[0]? = some x:=by rw [hxr];rfl
 have hxm:x∈n.steps:=by rw [hxr];simp
 rw [Zbj c hs]
 have hnm:=Xg c
 have cN1:=c33 h.sm (fun s hs=>by have:=hnm s hs;omega) (w:=ZcT) (by decide)
 have hl1:=XI (w:=ZcT) hnm (by decide)
 generalize nnF n.nms ZcT=rq at cN1 hl1 ⊢
 have hnm2:=Qb (fun s hs=>Nat.le_trans (hnm s hs) (by decide:24≤25)) hl1
 have hws:=Vl h.sm (Nat.le_trans h.tl (by decide)) (t:=rq) (by omega)
 have cN2:=c33 hws (fun s hs=>by have:=hnm2 s hs;omega) (w:=wCk) (by decide)
 have hl2:=XI (w:=wCk) hnm2 (by decide)
 generalize nnF (n.with rq).nms wCk=key at cN2 hl2 ⊢
 have cW:=c36 (n:=n) (Nat.le_trans h.tl (by decide)) rq
 obtain ⟨oA,lvA,ntA,hap1,hFA, -⟩:=(ApV.full (es:=3) [] [] 0 (rfl:false=false) rfl).app ZaK (.slV n.fn 3 (frC n.fresh)) (Qm n.fresh) (ZH (by rw [YI];have:=h.fl;simp;omega) (by decide)) (Uw n.fresh)
 rw [List.nil_append] at hFA
 obtain ⟨oF,lv,nt,hap2,hF, -⟩:=hFA.app ZaK (.sl .full 3 [Fr.cells ⟨x.to,key,3⟩]) (Qm [⟨x.to,key,3⟩]) (ZH (by rw [YI];have:=h.fl;simp;omega) (by decide)) (Uw [⟨x.to,key,3⟩])
 rw [show frC n.fresh++ [Fr.cells ⟨x.to,key,3⟩]=frC (n.fresh++ [⟨x.to,key,3⟩]) by simp [frC]] at hF
 obtain ⟨N,hN⟩:∃ N,N=n.cookW x rq key:=⟨_,rfl⟩
 have hNs:N.Sm:=by rw [hN];exact Qc h hxm (by omega) (by omega)
 have hNst:N.steps=⟨x.frm,x.to,atT rq,0⟩::⟨x.to,x.frm,ckT key x.frm,0⟩::{x with msg:=apT ZN [ckT key x.frm,x.msg]}::rest:=by rw [hN,Na.cookW,hxr];rfl
 have hN2:∀ i y,n.steps[i]? = some y→i≠0→N.steps[i+2]? = some y:=fun i y hy hi=>by
  obtain ⟨j,rfl⟩:∃ j,i=j+1:=⟨i-1,by omega⟩
  rw [hxr] at hy
  rw [hNst]
  simpa using hy
 have hN0:N.steps[0+2]? = some {x with msg:=apT ZN [ckT key x.frm,x.msg]}:=by rw [hNst];rfl
 have hNl:N.steps.length=n.steps.length+2:=by rw [hNst,hxr];simp
 have hNt:N.steps.take 2= [⟨x.frm,x.to,atT rq,0⟩,⟨x.to,x.frm,ckT key x.frm,0⟩]:=by rw [hNst];rfl
 have hNc:N.cells= [.str n.name,slV n.rn 1 (Zi n.roles),slV false 3 (frC (n.fresh++ [⟨x.to,key,3⟩])),slV false 1 (Zi (n.tags++ [rq])),slV false 7 (spC N.steps),slV n.gn 5 (glC n.goals)]:=by rw [hN];rfl
 rw [← hN]
 obtain ⟨q1,q2⟩:=Yw hF
 have hnl:n.steps.length≤20:=h.sl
 have hln:(spC n.steps).length=n.steps.length:=ZI _
 have hgx:=ZX hs
 have a1:=c38 key
 have a2:=c38 x.frm
 have a3:=c38 rq
 have p1:=U9 ZN (atT key) (atT x.frm)
 have p2:=Zel WA (apT ZN [atT key,atT x.frm])
 have p3:=U9 ZN (ckT key x.frm) x.msg
 obtain ⟨r,hr⟩:∃ r,r=PV.tup [.agg N.chkd.1.cells,.int .i64 N.chkd.2]:=⟨_,rfl⟩
 rw [← hr]
 have hfr:frz3 0 hNil r=some r:=by rw [hr];exact Vh _ _
 have qn:=Ui n
 have qw:=UH n.name (Zk n.rn 1 (Zi n.roles)).2 (Zk n.fn 3 (frC n.fresh)).2 (Zk false 1 (Zi (n.tags++ [rq]))).2 (Zk n.sn 7 (spC n.steps)).2 (Zk n.gn 5 (glC n.goals)).2
 rw [Ql c] at cS
 rw [decide_eq_true c] at n1
 rw [c] at n1
 simp only [Na.with] at cW cN2
 obtain ⟨NS,hNS⟩:∃ NS,NS=N.steps:=⟨_,rfl⟩
 rw [← hNS] at hN2 hN0 hNl hNt hNc
 have hA0:ApV false 7 (spC (NS.take (0+2))) (.sl .full 7 [Sp.cells ⟨x.frm,x.to,atT rq,0⟩,Sp.cells ⟨x.to,x.frm,ckT key x.frm,0⟩]) lv nt:=by
  rw [show NS.take (0+2)=_ from hNt]
  exact .full _ _ _ rfl (Zby [_,_])
 have hNnm:N.name=n.name:=by rw [hN];rfl
 have hNrn:slV N.rn 1 (Zi N.roles)=slV n.rn 1 (Zi n.roles):=by rw [hN];rfl
 clear h c hFA hN hNst hnm hnm2 hws hl1 hl2 hxm hne hxr hNS
 obtain ⟨nm,rn,rs,fn,fr,tn,ts,sn,ss,gn,gs⟩:=n
 simp only [Na.cells] at cS cW cN1 cN2 hs hgx hnl hln hNl hN2 hNc hNnm hNrn hF hap1 hap2 qn qw ⊢
 obtain ⟨sf,st,⟨Yk,Ym,Ys,Yb,Yl⟩,sln⟩:=x
 simp only [Sp.cells,Fr.cells,ckT,atT,apT,Tm.cells,Zb,Zx,Zq,List.cons_append,List.nil_append] at hgx a1 a2 a3 p1 p2 p3 hA0 hap2
 refine Xh (own:=(fun d=>[5036,5042,30010].any (Nat.beq d))) tOk fe10.ok (by simp only [Zt,Zj]) hfr ?_
 refine Wp.seq ?_
 repeat' first|(apply qCl;rfl;rfl;rfl;rfl;first|exact cS _|exact cN1 _|exact cN2 _|exact cW _|exact a1 _|exact a2 _|exact a3 _|exact p1 _|exact p2 _)|refine Js ?_|refine JA ?_|refine Ji ?_|refine JJ ?_|refine Jl ?_|refine Jx ?_|refine Jt ?_|refine Jb ?_ ?_|refine Jo ?_|(apply qSt;rfl;rfl;assumption;exact IsL.n;rfl;assumption;(first|rfl|assumption);exact IsH.mkN)|(apply dCl;rfl;rfl;rfl;rfl;rfl;first|exact cS _|exact cN1 _|exact cN2 _|exact cW _|exact a1 _|exact a2 _|exact a3 _|exact p1 _|exact p2 _)|(apply dAl;rfl;rfl;rfl;rfl;exact IsV.ptrM;exact IsH.mkN)|refine JB ?_|(apply dAq;rfl;rfl;rfl;rfl;rfl;rfl;(first|assumption|solve_by_elim))|(apply dAp;rfl;rfl;rfl;rfl;rfl;(first|assumption|solve_by_elim);rfl)|refine JD ?_|refine JK ?_|(apply dLn;rfl;rfl;rfl;rfl;rfl)|refine JI ?_|(apply dT (ty:=4);rfl;rfl;rfl;rfl)|(apply dF (ty:=4);rfl;rfl;rfl;rfl)|(apply dB (ty:=4);rfl;rfl;rfl;rfl)|(apply dSt;rfl;rfl;rfl;assumption;exact IsL.n;rfl;assumption;(first|rfl|assumption);exact IsH.mkN;(first|rfl|(simp [Zr];done));rfl;rfl)|refine Jh ?_|(apply dWS tOk follows;rfl;kernel_rfl;rfl)|(apply dWB tOk follows;rfl;kernel_rfl;rfl;exact IsH.mkN)|intro hb
 clear cS cN1 cN2 cW a1 a2 a3 p1 p2 hap1 hap2 qn qw hgx q1 q2 n1
 refine Wp.while (fun m2 tm H => ∃ (k : Nat) (base : TM) (o : PV) (lv2 : List Nat) (nt2 : Nat), k + m2 = ss.length ∧ ApV false 7 (spC (NS.take (k + 2))) o lv2 nt2 ∧ ApV false 3 (frC (fr ++ [⟨st, key, 3⟩])) oF lv2 nt2 ∧ (Z7 oF = none ∨ Z7 oF ≠ Z7 o) ∧
   tm=ovr base [(1,.ptr 0 6 0 0),(2,.ptr 1 6 0 0),(8,.ptr 4 6 0 0),(10,.ptr 14 4 0 0),(11,.int .i64 (k:Int))]∧
   H=⟨[naB nm rn rs fn fr tn ts sn ss gn gs,zB,naB nm rn rs fn fr tn ts sn ss gn gs,.cells 7 [[.str sf,.str st,.int .i64 Yk,.str Ym,.int .i64 Ys,slV Yb 4 (Zb Yl),.int .i64 sln]],cpB nm (slV rn 1 (Zi rs)) oF (slV false 1 (Zi (ts++ [rq]))) o (slV gn 5 (glC gs)),
    .dead,.dead,.dead,.dead,.dead,.dead,.dead,.dead,.dead,.cells 4 [ckC key sf],.dead],0,lv2,nt2⟩)
  (fun m2 tm H hI=>Wp.drop ?_) ss.length _ _ ⟨0,_,_,_,_,by omega,hA0,hF,Uh rfl,Zf ⟨rfl,rfl,rfl,rfl,rfl,trivial⟩,rfl⟩
 clear hA0 hF hNt lv nt
 obtain ⟨k,base,o,lv,nt,hk,hA,hF,hE,rfl,rfl⟩:=hI
 have hlx:=Zn (k:Int) ((spC ss).length:Int)
 by_cases hlt:k<ss.length
 · rw [decide_eq_true (by omega)] at hlx
   obtain ⟨y,hy⟩:∃ y,ss[k]? = some y:=⟨ss[k],by simp⟩
   have hgy:=ZX hy
   have hii:=Zy (a:=(k:Int)) (b:=1) (by omega) (by omega)
   rw [show (k:Int)+1=((k+1:Nat):Int) by omega] at hii
   have hq:=Z6 (k:Int) 0
   obtain ⟨z,hz⟩:∃ z,NS[k+2]? = some z:=⟨NS[k+2]'(by omega),by simp⟩
   obtain ⟨o2,lv2,nt2,hap,hA2,hK⟩:=hA.app Zc0 (.sl .full 7 [z.cells]) (Qy [z]) (ZH (by rw [ZI];simp;omega) (by decide)) (Zby [z])
   obtain ⟨hF2,hE2⟩:=hK _ _ _ _ hF hE
   have etk:NS.take (k+1+2)=NS.take (k+2)++ [z]:=by
    have e:=List.take_add_one (l:=NS) (i:=k+2)
    rw [hz] at e
    exact e
   rw [show spC (NS.take (k+2))++ [z.cells]=spC (NS.take (k+1+2)) by rw [etk];simp [spC]] at hA2
   clear etk
   obtain ⟨q5,q6⟩:=Yw hA2
   clear hA hF hE hK hr hfr hNc
   by_cases c:k=0
   · rw [decide_eq_true (by omega)] at hq
     obtain rfl:z=_:=Option.some.inj (hz.symm.trans (by rw [c];exact hN0))
     obtain rfl:y=_:=Option.some.inj (hy.symm.trans (by rw [c];exact hs))
     clear hN2 hN0 hs hz hy
     simp only [Sp.cells,ckT,atT,apT,Tm.cells,Zb,Zx,Zq,List.cons_append,List.nil_append] at hgy hap
     repeat' first|refine Jc (p3 _) ?_|refine Js ?_|refine JA ?_|refine Ji ?_|refine JJ ?_|refine Jl ?_|refine Jx ?_|refine Jt ?_|refine Jb ?_ ?_|refine Jo ?_|(apply qSt;rfl;rfl;assumption;exact IsL.n;rfl;assumption;(first|rfl|assumption);exact IsH.mkN)|refine Jd (p3 _) ?_|(apply dAl;rfl;rfl;rfl;rfl;exact IsV.ptrM;exact IsH.mkN)|refine JB ?_|(apply dAq;rfl;rfl;rfl;rfl;rfl;rfl;(first|assumption|solve_by_elim))|(apply dAp;rfl;rfl;rfl;rfl;rfl;(first|assumption|solve_by_elim);rfl)|refine JD ?_|refine JK ?_|(apply dLn;rfl;rfl;rfl;rfl;rfl)|refine JI ?_|(apply dT (ty:=4);rfl;rfl;rfl;rfl)|(apply dF (ty:=4);rfl;rfl;rfl;rfl)|(apply dB (ty:=4);rfl;rfl;rfl;rfl)|(apply dSt;rfl;rfl;rfl;assumption;exact IsL.n;rfl;assumption;(first|rfl|assumption);exact IsH.mkN;(first|rfl|(simp [Zr];done));rfl;rfl)|refine Jh ?_|(apply dWS tOk follows;rfl;kernel_rfl;rfl)|(apply dWB tOk follows;rfl;kernel_rfl;rfl;exact IsH.mkN)|intro hb
     refine DropQ.go [(1,.ptr 0 6 0 0),(2,.ptr 1 6 0 0),(8,.ptr 4 6 0 0),(10,.ptr 14 4 0 0),(11,.int .i64 ((k+1:Nat):Int))] ⟨rfl,rfl,rfl,rfl,rfl,trivial⟩ (by simp [under]) rfl ?_ ?_
     · simp [ZO,Zo,Ze,under,hA2.under,hF2.under]
     · exact LoopI.go (m2-1) (by omega) ⟨k+1,_,o2,lv2,nt2,by omega,hA2,hF2,hE2,rfl,rfl⟩
   · rw [decide_eq_false (by omega)] at hq
     obtain rfl:z=y:=Option.some.inj (hz.symm.trans (hN2 k y hy c))
     clear hN2 hN0 hs hz hy
     obtain ⟨xf,xt,⟨k',nm',s',b',kz'⟩,xl⟩:=z
     simp only [Sp.cells,Tm.cells,List.cons_append,List.nil_append] at hgy hap
     repeat' first|refine Js ?_|refine JA ?_|refine Ji ?_|refine JJ ?_|refine Jl ?_|refine Jx ?_|refine Jt ?_|refine Jb ?_ ?_|refine Jo ?_|(apply qSt;rfl;rfl;assumption;exact IsL.n;rfl;assumption;(first|rfl|assumption);exact IsH.mkN)|(apply dAl;rfl;rfl;rfl;rfl;exact IsV.ptrM;exact IsH.mkN)|refine JB ?_|(apply dAq;rfl;rfl;rfl;rfl;rfl;rfl;(first|assumption|solve_by_elim))|(apply dAp;rfl;rfl;rfl;rfl;rfl;(first|assumption|solve_by_elim);rfl)|refine JD ?_|refine JK ?_|(apply dLn;rfl;rfl;rfl;rfl;rfl)|refine JI ?_|(apply dT (ty:=4);rfl;rfl;rfl;rfl)|(apply dF (ty:=4);rfl;rfl;rfl;rfl)|(apply dB (ty:=4);rfl;rfl;rfl;rfl)|(apply dSt;rfl;rfl;rfl;assumption;exact IsL.n;rfl;assumption;(first|rfl|assumption);exact IsH.mkN;(first|rfl|(simp [Zr];done));rfl;rfl)|refine Jh ?_|(apply dWS tOk follows;rfl;kernel_rfl;rfl)|(apply dWB tOk follows;rfl;kernel_rfl;rfl;exact IsH.mkN)|intro hb
     refine DropQ.go [(1,.ptr 0 6 0 0),(2,.ptr 1 6 0 0),(8,.ptr 4 6 0 0),(10,.ptr 14 4 0 0),(11,.int .i64 ((k+1:Nat):Int))] ⟨rfl,rfl,rfl,rfl,rfl,trivial⟩ (by simp [under]) rfl ?_ ?_
     · simp [ZO,Zo,Ze,under,hA2.under,hF2.under]
     · exact LoopI.go (m2-1) (by omega) ⟨k+1,_,o2,lv2,nt2,by omega,hA2,hF2,hE2,rfl,rfl⟩
 · have e : k = ss.length := by omega
   subst e
   rw [decide_eq_false (by omega)] at hlx
   rw [List.take_of_length_le (by omega)] at hA
   have hf:∀ H:Heap,Z1 0 H [.str N.name,slV N.rn 1 (Zi N.roles),oF,slV false 1 (Zi (ts++ [rq])),o,slV gn 5 (glC gs)]=some N.cells:=fun H=>by
    rw [show N.cells=_ from hNc]
    rw [hNnm,hNrn]
    simp only [Z1,Ye,hF.frzC,hA.frzC]
    rfl
   obtain ⟨q1,q2⟩:=Yw hF
   obtain ⟨q5,q6⟩:=Yw hA
   have qb:=UH nm (Zk rn 1 (Zi rs)).2 q2 (Zk false 1 (Zi (ts++ [rq]))).2 q6 (Zk gn 5 (glC gs)).2
   have cK:=fun (D0 D1 D2 D3 D4 D5:Box)=>Zka hNs (oF:=oF) (oT:=slV false 1 (Zi (ts++ [rq]))) (sv:=o) (gv:=slV gn 5 (glC gs)) (C0:=D0) (C1:=D1) (C2:=D2) (C3:=D3) (C4:=D4) (C5:= .dead) (C6:= .dead) (C7:= .dead) (C8:= .dead) (C9:= .dead) (C10:= .dead) (C11:= .dead) (C12:= .dead) (C13:= .dead) (C14:=D5) (C15:= .dead) (lv:=lv) (nt:=nt) (by rw [hNnm,hNrn];exact qb) (fun _=>hf _)
   have fin:=fun H=>Vr (e:=0) (hf H)
   rw [hNnm,hNrn] at cK fin
   rw [XN] at hr
   simp only [Zu] at cK
   clear hf hNc hNnm hNrn hNs hA hF hE hN2 hN0 q1 q2 q5 q6
   have cK:=cK (naB nm rn rs fn fr tn ts sn ss gn gs) zB (naB nm rn rs fn fr tn ts sn ss gn gs) (.cells 7 [[.str sf,.str st,.int .i64 Yk,.str Ym,.int .i64 Ys,slV Yb 4 (Zb Yl),.int .i64 sln]]) (cpB nm (slV rn 1 (Zi rs)) oF (slV false 1 (Zi (ts++ [rq]))) o (slV gn 5 (glC gs))) (.cells 4 [ckC key sf])
   by_cases cc:N.chk.2=0
   · rw [if_pos cc] at hr
     simp only [if_pos cc] at cK
     subst hr
     repeat' first|refine Jc cK ?_|refine Js ?_|refine JA ?_|refine Ji ?_|refine JJ ?_|refine Jl ?_|refine Jx ?_|refine Jt ?_|refine Jb ?_ ?_|refine Jo ?_|(apply qSt;rfl;rfl;assumption;exact IsL.n;rfl;assumption;(first|rfl|assumption);exact IsH.mkN)|refine Jd cK ?_|(apply dAl;rfl;rfl;rfl;rfl;exact IsV.ptrM;exact IsH.mkN)|refine JB ?_|(apply dAq;rfl;rfl;rfl;rfl;rfl;rfl;(first|assumption|solve_by_elim))|(apply dAp;rfl;rfl;rfl;rfl;rfl;(first|assumption|solve_by_elim);rfl)|refine JD ?_|refine JK ?_|(apply dLn;rfl;rfl;rfl;rfl;rfl)|refine JI ?_|(apply dT (ty:=4);rfl;rfl;rfl;rfl)|(apply dF (ty:=4);rfl;rfl;rfl;rfl)|(apply dB (ty:=4);rfl;rfl;rfl;rfl)|(apply dSt;rfl;rfl;rfl;assumption;exact IsL.n;rfl;assumption;(first|rfl|assumption);exact IsH.mkN;(first|rfl|(simp [Zr];done));rfl;rfl)|refine Jh ?_|(apply dWS tOk follows;rfl;kernel_rfl;rfl)|(apply dWB tOk follows;rfl;kernel_rfl;rfl;exact IsH.mkN)|intro hb
     exact fin _
   · rw [if_neg cc] at hr
     simp only [if_neg cc,Zu] at cK hr
     subst hr
     generalize N.chk.2=e at cK
     repeat' first|refine Jc cK ?_|refine Js ?_|refine JA ?_|refine Ji ?_|refine JJ ?_|refine Jl ?_|refine Jx ?_|refine Jt ?_|refine Jb ?_ ?_|refine Jo ?_|(apply qSt;rfl;rfl;assumption;exact IsL.n;rfl;assumption;(first|rfl|assumption);exact IsH.mkN)|refine Jd cK ?_|(apply dAl;rfl;rfl;rfl;rfl;exact IsV.ptrM;exact IsH.mkN)|refine JB ?_|(apply dAq;rfl;rfl;rfl;rfl;rfl;rfl;(first|assumption|solve_by_elim))|(apply dAp;rfl;rfl;rfl;rfl;rfl;(first|assumption|solve_by_elim);rfl)|refine JD ?_|refine JK ?_|(apply dLn;rfl;rfl;rfl;rfl;rfl)|refine JI ?_|(apply dT (ty:=4);rfl;rfl;rfl;rfl)|(apply dF (ty:=4);rfl;rfl;rfl;rfl)|(apply dB (ty:=4);rfl;rfl;rfl;rfl)|(apply dSt;rfl;rfl;rfl;assumption;exact IsL.n;rfl;assumption;(first|rfl|assumption);exact IsH.mkN;(first|rfl|(simp [Zr];done));rfl;rfl)|refine Jh ?_|(apply dWS tOk follows;rfl;kernel_rfl;rfl)|(apply dWB tOk follows;rfl;kernel_rfl;rfl;exact IsH.mkN)|intro hb
     all_goals rfl
