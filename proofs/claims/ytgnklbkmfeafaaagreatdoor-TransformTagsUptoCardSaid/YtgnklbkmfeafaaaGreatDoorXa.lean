/-
  Tagging: the program's text.
-/
import Derived.Test.YtgnklbkmfeafaaaGreatDoorWq
set_option maxHeartbeats 0
set_option maxRecDepth 100000
namespace Go.Vm
variable {N n:Na} {k:Nat} {s:Sp}
theorem Za6 (h:n.chk.2=0):n.steps.length≤8:=by
 obtain ⟨-,h1, -⟩:=Ub (QH (Zdt h))
 have h2:=Vj n
 omega
structure Na.Tg (n N:Na) (k:Nat):Prop where
 sm:N.Sm
 nl:∀ s,s∈N.nms→s.length≤24+k
 tl:N.tags.length≤20+k
 ln:N.steps.length=n.steps.length
 ms:∀ s,s∈N.steps→s.msg.size≤100+2*k
 un:∀ j,k≤j→N.steps[j]? = n.steps[j]?
 tt:n.tn=N.tn∨N.tags≠ []
 go:N.tagL k (n.steps.length-k)=n.tagL 0 n.steps.length
theorem ZbH (h:n.Ti) (hc:n.chk.2=0):n.Tg n 0:=
 ⟨h.sm,Xg hc,h.tl,rfl,fun s hs=>h.ms s hs,fun _ _=>rfl,.inl rfl,rfl⟩
theorem Zc1 (hs : N.steps[k]? = some s) :
  N.tag1 k={N with tn:=false,tags:=N.tags++ [nnF N.nms (VP k)],steps:=N.steps.set k {s with msg:=apT ZN [atT (nnF N.nms (VP k)),s.msg]}}:=by
 have e:(N.with (nnF N.nms (VP k))).steps[k]? = some s:=hs
 rw [Na.tag1,Vk e,hs]
 rfl
theorem Za2 (h:n.Tg N k):(nnF N.nms (VP k)).length≤25+k:=by
 have:=Uc N.nms (24+k) h.nl (61-(VP k).length) (VP k) (by simp [VP,ZaP];omega)
 rw [nnF]
 omega
theorem Za7 (h : n.Tg N k) (hk : k < n.steps.length) (h8 : n.steps.length ≤ 8) (hs : N.steps[k]? = some s) :
  n.Tg {N with tn:=false,tags:=N.tags++ [nnF N.nms (VP k)],steps:=N.steps.set k {s with msg:=apT ZN [atT (nnF N.nms (VP k)),s.msg]}} (k+1):=by
 have hl:=Za2 h
 have hg:=h.go
 have hsub:n.steps.length-k=(n.steps.length-(k+1))+1:=by omega
 rw [hsub,Na.tagL,Zc1 hs] at hg
 have hm:=h.ms s (List.mem_of_getElem? hs)
 have hss:=h.sm.ss s (List.mem_of_getElem? hs)
 generalize nnF N.nms (VP k)=t at hl hg ⊢
 have hz:(apT ZN [atT t,s.msg]).size=s.msg.size+2:=by simp only [apT,atT,Tm.size,ZW];omega
 have ha:({N with tn:=false,tags:=N.tags++ [t],steps:=N.steps.set k {s with msg:=apT ZN [atT t,s.msg]}}:Na)=(N.with t).repl k (apT ZN [atT t,s.msg]):=by
  rw [Vk (n:=N.with t) hs];rfl
 refine ⟨?_,fun x hx=>?_,?_,by simp [h.ln],fun x hx=>?_,fun j hj=>?_,.inr (by simp),hg⟩
 · rw [ha]
   refine WH (Vl h.sm (by have:=h.tl;omega) (by omega)) hs (X2 (by decide) (by simp) fun x hx=>?_) (by omega)
   rcases List.mem_cons.1 hx with rfl|hx
   · exact ZdK (by omega)
   · rw [List.mem_singleton.1 hx];exact hss.2.2.1
 · have hx2 : x ∈ N.nms ∨ x = t := by
     simp only [Na.nms,List.mem_append,List.mem_singleton] at hx ⊢
     rcases hx with h1|h1|h1|h1
     · exact .inl (.inl h1)
     · exact .inl (.inr (.inl h1))
     · exact .inl (.inr (.inr h1))
     · exact .inr h1
   rcases hx2 with h1|rfl
   · have:=h.nl x h1;omega
   · omega
 · have := h.tl
   simp only [List.length_append,List.length_cons,List.length_nil];omega
 · rcases Zda hx with h1 | rfl
   · have:=h.ms x h1;omega
   · show (apT ZN [atT t, s.msg]).size ≤ _
     omega
 · rw [List.getElem?_set_ne (by omega)]
   exact h.un j (by omega)
theorem Zbf (h:n.chk.2≠0):n.tagsF=(.none,n.chk.2):=if_pos h
theorem Zbv (h:n.chk.2=0) (hN:n.Tg N n.steps.length):n.tagsF=N.chkd:=by
 have e:=hN.go
 rw [Nat.sub_self,Na.tagL] at e
 rw [Na.tagsF,if_neg (by omega),e]
end Go.Vm
namespace Go.Vm.Seat
variable {n:Na}
open Go.Proofs
theorem Qz {H:Heap} {C:List PV} {w:Zg} (h:Z1 0 H C=some n.cells):Xn 0 H [.agg C,.str w]=some [.agg n.cells,.str w]:=by
 have:frz2 0 H (.agg C)=some (.agg n.cells):=by
  show (match Z1 0 H C with|some cs'=>some (PV.agg cs')|none=>none)=_
  rw [h]
 simp only [Xn,this]
 rfl
theorem Zig:((List.range 8).all fun i=>Y3 E0 60 60 ⟨28,[.int .i64 (i:Int)],.str (ZaP i)⟩)=true:=by kernel_rfl
theorem c28 {i:Nat} (h:i<8):∀ H,CallOk E0 Tryz.prog 28 [.int .i64 (i:Int)] H (.str (ZaP i)) H:=
 Va tOk follows fOk zOk (List.all_eq_true.1 Zig i (List.mem_range.2 h))
theorem c7 (h:n.Ti):∀ H,CallOk E0 Tryz.prog 7 [.agg n.cells] H (.tup [.agg n.tagsF.1.cells,.int .i64 n.tagsF.2]) H:=by
 have cS:=c25 h.sm
 have n1:=ZK n.chk.2 0
 by_cases c:n.chk.2=0
 case neg=>
  rw [Zbf c]
  rw [decide_eq_false c] at n1
  simp only [Zu]
  generalize n.chk.2=e at cS n1 ⊢
  generalize n.chk.1=ln at cS
  clear h c
  obtain ⟨nm,rn,rs,fn,fr,tn,ts,sn,ss,gn,gs⟩:=n
  simp only [Na.cells] at cS ⊢
  refine Jw tOk fe7.ok rfl ?_ (by simp only [Zt,Zj])
  repeat' first|refine Jc (cS _) ?_|refine Js ?_|refine JA ?_|refine Ji ?_|refine JJ ?_|refine Jl ?_|refine Jx ?_|refine Jt ?_|refine Jb ?_ ?_|(apply qT (ty:=0);rfl;rfl;rfl)|(apply qF (ty:=0);rfl;rfl;rfl)|refine Jz ?_ ?_|refine Jo ?_|refine Jd (cS _) ?_|refine JB ?_|(apply dAq;rfl;rfl;rfl;rfl;rfl;rfl;(first|assumption|solve_by_elim))|(apply dAp;rfl;rfl;rfl;rfl;rfl;(first|assumption|solve_by_elim);rfl)|refine JD ?_|refine JK ?_|(apply dLn;rfl;rfl;rfl;rfl;rfl)|refine JI ?_|(apply dT (ty:=4);rfl;rfl;rfl;rfl)|(apply dF (ty:=4);rfl;rfl;rfl;rfl)|(apply dB (ty:=4);rfl;rfl;rfl;rfl)|(apply dT (ty:=0);rfl;rfl;rfl;rfl)|(apply dF (ty:=0);rfl;rfl;rfl;rfl)|(apply dB (ty:=0);rfl;rfl;rfl;rfl)|refine Jh ?_|(apply Wp.drawS tOk follows;kernel_rfl;rfl)|intro hb
  all_goals rfl
 have hT0:=ZbH h c
 have h8:=Za6 c
 have hne:=(XB c).1
 have hgo:=fun N=>Zbv (n:=n) (N:=N) c
 obtain ⟨B0,hB0⟩:∃ B0,B0=naB n.name n.rn n.roles n.fn n.fresh n.tn n.tags n.sn n.steps n.gn n.goals:=⟨_,rfl⟩
 obtain ⟨oF,oT,gv,GB,lv,nt,cC,hV⟩:=c26 h.sm hne B0 zB
 obtain ⟨q1,q2⟩:=Zk n.rn 1 (Zi n.roles)
 obtain ⟨q3,q4⟩:=Yw hV.hF
 obtain ⟨q7,q8⟩:=Yw hV.hT
 have qg:[gv].all Zp=true:=by
  rcases hV.gl with ⟨_,rfl,_⟩|⟨_,rfl,_⟩
  · exact (Zk _ _ _).2
  · rfl
 have qa:=UH n.name q2 q4 q8 (show [PV.own 4 7 0 (spC n.steps).length].all Zp=true from rfl) qg
 have hGB:=hV.gl
 have hF0:=hV.hF
 have hA0:=hV.hT
 have hE0:=hV.ne
 obtain ⟨r,hr⟩:∃ r,r=PV.tup [.agg n.tagsF.1.cells,.int .i64 n.tagsF.2]:=⟨_,rfl⟩
 rw [← hr]
 have hfr:frz3 0 hNil r=some r:=by rw [hr];exact Vh _ _
 rw [decide_eq_true c] at n1
 rw [c] at cS n1
 generalize n.chk.1=ln at cS
 have e4:=ZI n.steps
 subst hB0
 clear h hV c q1 q3 q7
 obtain ⟨nm,rn,rs,fn,fr,tn,ts,sn,ss,gn,gs⟩:=n
 simp only [Na.cells] at cS cC hT0 h8 hne hgo qa hGB hF0 hA0 hE0 q2 q4 q8 e4 ⊢
 refine Jw tOk fe7.ok hfr ?_ (by simp only [Zt,Zj])
 repeat' first|refine Jc (cS _) ?_|refine Jc cC ?_|refine Js ?_|refine JA ?_|refine Ji ?_|refine JJ ?_|refine Jl ?_|refine Jx ?_|refine Jt ?_|refine Jb ?_ ?_|(apply qT (ty:=0);rfl;rfl;rfl)|(apply qF (ty:=0);rfl;rfl;rfl)|refine Jz ?_ ?_|refine Jo ?_|(apply qSt;rfl;rfl;assumption;exact IsL.n;rfl;assumption;(first|rfl|assumption);exact IsH.mkN)|refine Jd (cS _) ?_|refine Jd cC ?_|refine JB ?_|(apply dAq;rfl;rfl;rfl;rfl;rfl;rfl;(first|assumption|solve_by_elim))|(apply dAp;rfl;rfl;rfl;rfl;rfl;(first|assumption|solve_by_elim);rfl)|refine JD ?_|refine JK ?_|(apply dLn;rfl;rfl;rfl;rfl;rfl)|refine JI ?_|(apply dT (ty:=4);rfl;rfl;rfl;rfl)|(apply dF (ty:=4);rfl;rfl;rfl;rfl)|(apply dB (ty:=4);rfl;rfl;rfl;rfl)|(apply dT (ty:=0);rfl;rfl;rfl;rfl)|(apply dF (ty:=0);rfl;rfl;rfl;rfl)|(apply dB (ty:=0);rfl;rfl;rfl;rfl)|(apply dSt;rfl;rfl;rfl;assumption;exact IsL.n;rfl;assumption;(first|rfl|assumption);exact IsH.mkN;(first|rfl|(simp [Zr];done));rfl;rfl)|refine Jh ?_|(apply Wp.drawS tOk follows;kernel_rfl;rfl)|intro hb
 clear cS cC n1
 obtain ⟨CP,hCP⟩:∃ CP,CP=cpB nm (slV rn 1 (Zi rs)) oF oT (.own 4 7 0 (spC ss).length) gv:=⟨_,rfl⟩
 refine Wp.while (fun m2 tm H => ∃ (k : Nat) (base : TM) (tn2 : Bool) (ts2 : List Zg) (ss2 : List Sp) (o : PV) (lv2 : List Nat) (nt2 : Nat), k + m2 = ss.length ∧ Na.Tg ⟨nm, rn, rs, fn, fr, tn, ts, sn, ss, gn, gs⟩ ⟨nm, rn, rs, fn, fr, tn2, ts2, sn, ss2, gn, gs⟩ k ∧
   ApV fn 3 (frC fr) oF lv2 nt2∧ApV tn 1 (Zi ts2) o lv2 nt2∧(Z7 oF=none∨Z7 oF≠Z7 o)∧tm=ovr base [(2,.ptr 1 6 0 0),(6,.ptr 6 6 0 0),(22,.int .i64 (ss.length:Int)),(23,.int .i64 (k:Int))]∧
   H=⟨[naB nm rn rs fn fr tn ts sn ss gn gs,zB,CP,CP,.cells 7 (spC ss2),GB,cpB nm (slV rn 1 (Zi rs)) oF o (.own 4 7 0 (spC ss).length) gv],0,lv2,nt2⟩)
  (fun m2 tm H hI=>?_) ss.length _ _ ⟨0,_,tn,ts,ss,oT,lv,nt,by omega,hT0,hF0,hA0,hE0,Zf ⟨rfl,rfl,Zz (by rw [e4];rfl),rfl,trivial⟩,by rw [hCP]⟩
 clear hCP hT0 hF0 hA0 hE0 qa q8 oT lv nt
 obtain ⟨k,base,tn2,ts2,ss2,o,lv,nt,hk,hT,hF,hA,hE,rfl,rfl⟩:=hI
 have hlx:=Zn (k:Int) (ss.length:Int)
 have hN2:ss2≠ []:=fun e=>by have:=hT.ln;rw [e] at this;simp at this;exact hne (List.length_eq_zero_iff.1 this.symm)
 have e5:(spC ss2).length=(spC ss).length:=by rw [ZI,ZI];exact hT.ln
 have hfz : ∀ (o2 : PV) (ts3 : List Zg) (tn3 : Bool) (ss3 : List Sp) (lv3 : List Nat) (nt3 : Nat), ApV fn 3 (frC fr) oF lv3 nt3 → ApV tn 1 (Zi ts3) o2 lv3 nt3 → (tn = tn3 ∨ ts3 ≠ []) → ss3 ≠ [] → (spC ss3).length = (spC ss).length → ∀ (b0 b1 b2 b3 b6 : Box) ex,
   Z1 0 ⟨[b0,b1,b2,b3,.cells 7 (spC ss3),GB,b6]++ex,0,lv3,nt3⟩ [.str nm,slV rn 1 (Zi rs),oF,o2,.own 4 7 0 (spC ss).length,gv]=some (Na.cells ⟨nm,rn,rs,fn,fr,tn3,ts3,sn,ss3,gn,gs⟩):=fun o2 ts3 tn3 ss3 lv3 nt3 x1 x2 x3 x4 x5 b0 b1 b2 b3 b6 ex=>by
  rw [← x5]
  refine Zd6 (n:=⟨nm,rn,rs,fn,fr,tn3,ts3,sn,ss3,gn,gs⟩) (tn:=tn) (lv:=lv3) (nt:=nt3) x1 x2 x3 rfl x4 ?_
  rcases hGB with ⟨a,b,c⟩|⟨a,b,c⟩
  · exact .inl ⟨a,b⟩
  · exact .inr ⟨a,b,by rw [c];rfl⟩
 by_cases hlt:k<ss.length
 · rw [decide_eq_true (by omega)] at hlx
   have hii:=Zy (a:=(k:Int)) (b:=1) (by omega) (by omega)
   rw [show (k:Int)+1=((k+1:Nat):Int) by omega] at hii
   obtain ⟨s,hs⟩:∃ s,ss2[k]? = some s:=⟨ss2[k]'(by have:=hT.ln;simp only at this;omega),by simp⟩
   have hst:=Za7 hT hlt h8 hs
   have hw:(VP k).length≤61:=by simp [VP,ZaP]
   have ci:=c28 (i:=k) (by omega)
   have ha:WL E0 .add 9 (.str [115]) (.str (ZaP k))=some (.str (VP k)):=QZ (a:=[115]) (b:=ZaP k) (by simp [ZaP])
   have cN:=YD (c27 hT.sm (fun x hx=>by have:=hT.nl x hx;omega) hw hNil) (Qz (w:=VP k) (hfz o ts2 tn2 ss2 lv nt hF hA hT.tt hN2 e5 (naB nm rn rs fn fr tn ts sn ss gn gs) zB CP CP (cpB nm (slV rn 1 (Zi rs)) oF o (.own 4 7 0 (spC ss).length) gv) [])) rfl
   have htl:=Za2 hT
   obtain ⟨o2,lv2,nt2,hap,hA2,hK⟩:=hA.app XW (.sl .full 1 [[.str (nnF (Na.nms ⟨nm,rn,rs,fn,fr,tn2,ts2,sn,ss2,gn,gs⟩) (VP k))]]) (YJ [_]) (ZH (by rw [ZC];have:=hT.tl;simp only at this;simp;omega) (by decide)) (Yz [_])
   obtain ⟨hF2,hE2⟩:=hK _ _ _ _ hF hE
   rw [show ∀ t,Zi ts2++ [[PV.str t]]=Zi (ts2++ [t]) from fun t=>by simp [Zi]] at hA2
   obtain ⟨q5,q6⟩:=Yw hA2
   clear hK hF hA hE
   generalize nnF (Na.nms ⟨nm,rn,rs,fn,fr,tn2,ts2,sn,ss2,gn,gs⟩) (VP k)=t at hst cN htl hap hA2
   have hat:=c30 t
   have hp2:=Zhd ZN (atT t) s.msg
   have hia:=ZeH (n:=(spC ss).length) (i:=k) (by omega)
   have hld:=Zdn (H:=⟨[naB nm rn rs fn fr tn ts sn ss gn gs,zB,CP,CP,.cells 7 (spC ss2),GB,cpB nm (slV rn 1 (Zi rs)) oF o2 (.own 4 7 0 (spC ss).length) gv],0,lv2,nt2⟩) rfl hs
   have hwr:=Zfy (A:=naB nm rn rs fn fr tn ts sn ss gn gs) (B:=zB) (C:=CP) (D:=CP) (F:=GB) (G:=cpB nm (slV rn 1 (Zi rs)) oF o2 (.own 4 7 0 (spC ss).length) gv) hs (apT ZN [atT t,s.msg]) lv2 nt2
   have hnx:k+1+(m2-1)=ss.length:=by omega
   have hml:m2-1<m2:=by omega
   generalize ZaP k=D at ci ha
   generalize VP k=w at ha cN
   generalize ss2.set k {frm:=s.frm,to:=s.to,msg:=apT ZN [atT t,s.msg],line:=s.line}=SS at hst hwr
   clear hfz hT hN2 e5 hs hlt hk hw hgo hr hfr
   obtain ⟨sf,st,⟨Yk,Ym,Ys,Yb,Yl⟩,sln⟩:=s
   simp only [atT,apT,Tm.cells] at hat hp2 hld hwr
   repeat' first|(apply qCl;rfl;rfl;rfl;rfl;first|exact ci _|exact cN|exact hat _|exact hp2 _)|refine Js ?_|refine JA ?_|refine Ji ?_|refine JJ ?_|(apply qLd;rfl;rfl;rfl;assumption;exact IsV.any _)|refine Jl ?_|refine Jx ?_|refine Jt ?_|refine Jb ?_ ?_|(apply qT (ty:=0);rfl;rfl;rfl)|(apply qF (ty:=0);rfl;rfl;rfl)|refine Jz ?_ ?_|refine Jo ?_|(apply qSt;rfl;rfl;assumption;exact IsL.n;rfl;assumption;(first|rfl|assumption);exact IsH.mkN)|(apply dCl;rfl;rfl;rfl;rfl;rfl;first|exact ci _|exact cN|exact hat _|exact hp2 _)|refine JB ?_|(apply dAq;rfl;rfl;rfl;rfl;rfl;rfl;(first|assumption|solve_by_elim))|(apply dAp;rfl;rfl;rfl;rfl;rfl;(first|assumption|solve_by_elim);rfl)|refine JD ?_|refine JK ?_|(apply dLd;rfl;rfl;rfl;assumption;exact IsV.any _;(first|rfl|(show Nat.blt _ _=true;first|assumption|(simp [Nat.blt];done))))|(apply dLn;rfl;rfl;rfl;rfl;rfl)|refine JI ?_|(apply dT (ty:=4);rfl;rfl;rfl;rfl)|(apply dF (ty:=4);rfl;rfl;rfl;rfl)|(apply dB (ty:=4);rfl;rfl;rfl;rfl)|(apply dT (ty:=0);rfl;rfl;rfl;rfl)|(apply dF (ty:=0);rfl;rfl;rfl;rfl)|(apply dB (ty:=0);rfl;rfl;rfl;rfl)|(apply dSt;rfl;rfl;rfl;assumption;exact IsL.n;rfl;assumption;(first|rfl|assumption);exact IsH.mkN;(first|rfl|(simp [Zr];done));rfl;rfl)|(apply dSt;rfl;rfl;rfl;rfl;exact IsL.n;rfl;(first|rfl|assumption|(simp only [List.all_cons,List.all_nil,Z4,Bool.and_true];rfl));assumption;exact IsH.mkN;assumption;assumption;rfl)|refine Jh ?_|(apply Wp.drawS tOk follows;kernel_rfl;rfl)|intro hb
   exact LoopI.go (m2-1) hml ⟨k+1,_,false,ts2++ [t],SS,o2,lv2,nt2,hnx,hst,hF2,hA2,hE2,Zf ⟨rfl,rfl,rfl,rfl,trivial⟩,rfl⟩
 · have e : k = ss.length := by omega
   subst e
   rw [decide_eq_false (by omega)] at hlx
   have hN:=hgo _ hT
   have hfz:=hfz o ts2 tn2 ss2 lv nt hF hA hT.tt hN2 e5
   obtain ⟨q7,q8⟩:=Yw hA
   have qb:=UH nm q2 q4 q8 (show [PV.own 4 7 0 (spC ss).length].all Zp=true from rfl) qg
   have cK:=fun (b0 b1 b2 b3 b6:Box)=>Zja (n:=⟨nm,rn,rs,fn,fr,tn2,ts2,sn,ss2,gn,gs⟩) hT.sm (oF:=oF) (oT:=o) (sv:= .own 4 7 0 (spC ss).length) (gv:=gv) (B0:=b0) (B1:=b1) (B2:=b2) (B3:=b3) (B4:= .cells 7 (spC ss2)) (B5:=GB) (B6:=b6) (lv:=lv) (nt:=nt) qb (hfz b0 b1 b2 b3 b6)
   have fin:=fun (b0 b1 b2 b3 b6:Box) ex=>Vr (e:=0) (hfz b0 b1 b2 b3 b6 ex)
   have cK:=cK (naB nm rn rs fn fr tn ts sn ss gn gs) zB CP CP (cpB nm (slV rn 1 (Zi rs)) oF o (.own 4 7 0 (spC ss).length) gv)
   simp only [Zu] at cK
   rw [hN,XN] at hr
   generalize hNN:(⟨nm,rn,rs,fn,fr,tn2,ts2,sn,ss2,gn,gs⟩:Na)=N at hr cK fin
   clear hNN hfz hT hF hA hE hN hgo q2 q4 q7 q8 qg
   by_cases cc:N.chk.2=0
   · rw [if_pos cc] at hr
     simp only [if_pos cc] at cK
     subst hr
     repeat' first|refine Jc cK ?_|refine Js ?_|refine JA ?_|refine Ji ?_|refine JJ ?_|refine Jl ?_|refine Jx ?_|refine Jt ?_|refine Jb ?_ ?_|(apply qT (ty:=0);rfl;rfl;rfl)|(apply qF (ty:=0);rfl;rfl;rfl)|refine Jz ?_ ?_|refine Jo ?_|(apply qSt;rfl;rfl;assumption;exact IsL.n;rfl;assumption;(first|rfl|assumption);exact IsH.mkN)|refine Jd cK ?_|refine JB ?_|(apply dAq;rfl;rfl;rfl;rfl;rfl;rfl;(first|assumption|solve_by_elim))|(apply dAp;rfl;rfl;rfl;rfl;rfl;(first|assumption|solve_by_elim);rfl)|refine JD ?_|refine JK ?_|(apply dLn;rfl;rfl;rfl;rfl;rfl)|refine JI ?_|(apply dT (ty:=4);rfl;rfl;rfl;rfl)|(apply dF (ty:=4);rfl;rfl;rfl;rfl)|(apply dB (ty:=4);rfl;rfl;rfl;rfl)|(apply dT (ty:=0);rfl;rfl;rfl;rfl)|(apply dF (ty:=0);rfl;rfl;rfl;rfl)|(apply dB (ty:=0);rfl;rfl;rfl;rfl)|(apply dSt;rfl;rfl;rfl;assumption;exact IsL.n;rfl;assumption;(first|rfl|assumption);exact IsH.mkN;(first|rfl|(simp [Zr];done));rfl;rfl)|refine Jh ?_|(apply Wp.drawS tOk follows;kernel_rfl;rfl)|intro hb
     exact fin _ _ _ _ _ [_,_]
   · rw [if_neg cc] at hr
     simp only [if_neg cc,Zu] at cK hr
     subst hr
     generalize N.chk.2=e at cK
     repeat' first|refine Jc cK ?_|refine Js ?_|refine JA ?_|refine Ji ?_|refine JJ ?_|refine Jl ?_|refine Jx ?_|refine Jt ?_|refine Jb ?_ ?_|(apply qT (ty:=0);rfl;rfl;rfl)|(apply qF (ty:=0);rfl;rfl;rfl)|refine Jz ?_ ?_|refine Jo ?_|(apply qSt;rfl;rfl;assumption;exact IsL.n;rfl;assumption;(first|rfl|assumption);exact IsH.mkN)|refine Jd cK ?_|refine JB ?_|(apply dAq;rfl;rfl;rfl;rfl;rfl;rfl;(first|assumption|solve_by_elim))|(apply dAp;rfl;rfl;rfl;rfl;rfl;(first|assumption|solve_by_elim);rfl)|refine JD ?_|refine JK ?_|(apply dLn;rfl;rfl;rfl;rfl;rfl)|refine JI ?_|(apply dT (ty:=4);rfl;rfl;rfl;rfl)|(apply dF (ty:=4);rfl;rfl;rfl;rfl)|(apply dB (ty:=4);rfl;rfl;rfl;rfl)|(apply dT (ty:=0);rfl;rfl;rfl;rfl)|(apply dF (ty:=0);rfl;rfl;rfl;rfl)|(apply dB (ty:=0);rfl;rfl;rfl;rfl)|(apply dSt;rfl;rfl;rfl;assumption;exact IsL.n;rfl;assumption;(first|rfl|assumption);exact IsH.mkN;(first|rfl|(simp [Zr];done));rfl;rfl)|refine Jh ?_|(apply Wp.drawS tOk follows;kernel_rfl;rfl)|intro hb
     all_goals rfl
