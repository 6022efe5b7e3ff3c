/-
  A narration that is copied: rooms for what is appended to, boxes for what is wri
-/
import Derived.Test.YtgnklbkmfeafaaaGreatDoorWa
set_option maxHeartbeats 0
set_option maxRecDepth 100000
namespace Go.Vm
theorem Zdc {l:List Sp} (h:l≠ []) (b:Bool):slV b 7 (spC l)= .sl .none 7 (spC l):=by
 cases l with
 |nil=>exact absurd rfl h
 |cons a r=>exact ZC _ _ _ _
theorem Zfd {l:List Gl} (h:l≠ []) (b:Bool):slV b 5 (glC l)= .sl .none 5 (glC l):=by
 cases l with
 |nil=>exact absurd rfl h
 |cons a r=>exact ZC _ _ _ _
theorem Zz (b:Bool) (es:Nat) (L:List (List PV)):PV.cells (slV b es L)= [slV b es L]∧[slV b es L].all Zr=true:=by
 cases L with
 | nil => cases b
          · rw [Zu];exact ⟨rfl,rfl⟩
          · rw [Zq];exact ⟨rfl,rfl⟩
 |cons c r=>rw [ZC];exact ⟨rfl,rfl⟩
theorem VG {b:Bool} {es:Nat} {L:List (List PV)} {out:PV} {lv:List Nat} {nt:Nat} (h:ApV b es L out lv nt):PV.cells out= [out]∧[out].all Zr=true:=by
 cases h<;>exact ⟨rfl,rfl⟩
theorem Zcb (nm:Zg) {a b c d e:PV} (h1:[a].all Zr=true) (h2:[b].all Zr=true) (h3:[c].all Zr=true) (h4:[d].all Zr=true) (h5:[e].all Zr=true):[.str nm,a,b,c,d,e].all Zr=true:=by
 simp only [List.all_cons,List.all_nil,Bool.and_true] at h1 h2 h3 h4 h5 ⊢
 rw [h1,h2,h3,h4,h5];rfl
theorem ZeB {α:Type} {l:List α} {i:Nat} {x:α} (h:l[i]? = some x):l.set i x=l:=by
 obtain ⟨hlt,rfl⟩:=List.getElem?_eq_some_iff.1 h
 exact List.set_getElem_self hlt
abbrev cpB (nm:Zg) (a b c d e:PV):Box:= .cells 6 [[.str nm,a,b,c,d,e]]
structure CpV (n:Na) (oF oT gv:PV) (GB:Box) (lv:List Nat) (nt:Nat):Prop where
 hF:ApV n.fn 3 (frC n.fresh) oF lv nt
 hT:ApV n.tn 1 (Zo n.tags) oT lv nt
 ne:Yj oF=none∨Yj oF≠Yj oT
 gl:(n.goals= []∧gv=slV n.gn 5 (glC n.goals)∧GB= .dead)∨(n.goals≠ []∧gv= .own 5 5 0 (glC n.goals).length∧GB= .cells 5 (glC n.goals))
abbrev cpH (n:Na) (B0 B1:Box) (oF oT gv:PV) (GB:Box) (lv:List Nat) (nt:Nat):Heap:=
 ⟨[B0,B1,cpB n.name (slV n.rn 1 (Zo n.roles)) oF oT (.own 4 7 0 (spC n.steps).length) gv,cpB n.name (slV n.rn 1 (Zo n.roles)) oF oT (.own 4 7 0 (spC n.steps).length) gv,.cells 7 (spC n.steps),GB],0,lv,nt⟩
abbrev cpR (n:Na) (oF oT gv:PV):PV:= .agg [.str n.name,slV n.rn 1 (Zo n.roles),oF,oT,.own 4 7 0 (spC n.steps).length,gv]
end Go.Vm
namespace Go.Vm.Seat
open Go.Proofs
theorem Zkf (b:Bool) (H:Heap):CallOk E0 Tryz.prog 69 [slV b 5 (glC [])] H (slV b 5 (glC [])) {H with bx:=H.bx++ [.dead]}:=by
 refine CallOk.slot (L:=[]) (k:=0) (B:= .dead) (j:=0) (H1:=hNil) (args0:=[slV b 5 (glC [])]) (r:=slV b 5 (glC [])) ?_ (.inl rfl) (fun g g0 v hS _ x=>ZdB hS (by simp only [Zv,WY]) x) (.inl rfl) (fun g1 g2 v hS hs x=>Qw hS (WY _ _ _) x)
 have hap:ZH E0 25 25 (.sl .full 5 []) (.sl .none 5 []) hNil=some (.sl .full 5 [],hNil):=by
  have he:=ZY (s:= .sl .full 5 []) Zfi (ElV.sl .none 5 []) rfl rfl rfl hNil
  simp only [ZH,he]
 refine WI (own:=fun _=>false) tOk fe69.ok (by simp only [Zv,WY]) (WS _ _ _ _ _) ?_ hNil
 refine Wp.seq ?_
 rw [show glC []= [] from rfl]
 cases b with
 | true =>
   rw [Zq]
   repeat' first|refine Js ?_|refine JA ?_|refine Jt ?_|refine Jb ?_ ?_|refine Jo ?_|intro hb
   all_goals rfl
 | false =>
   rw [Zu]
   repeat' first|refine Js ?_|refine JA ?_|refine Jt ?_|refine Jb ?_ ?_|refine Jo ?_|intro hb
   all_goals rfl
theorem c26 {n:Na} (h:n.Sm) (hne:n.steps≠ []) (B0 B1:Box):∃ oF oT gv GB lv nt,CallOk E0 Tryz.prog 26 [.agg n.cells] ⟨[B0,B1],0,[],0⟩ (cpR n oF oT gv) (cpH n B0 B1 oF oT gv GB lv nt)∧CpV n oF oT gv GB lv nt:=by
 have hrl:=h.rl
 have hfl:=h.fl
 have htl:=h.tl
 have hsl:=h.sl
 have hgl:=h.gl
 have hgs:=fun g hg=>(h.gs g hg).2.2.1
 clear h
 obtain ⟨oF,lv1,nt1,f1,f2, -⟩:=clF (l:=n.fresh) (by omega) n.fn [] 0
 obtain ⟨oT,lv,nt,t1,t2,t3⟩:=clA (l:=n.tags) (by omega) n.tn lv1 nt1
 obtain ⟨f3,f4⟩:=t3 _ _ _ _ f2
 have cR:=clR (l:=n.roles) (by omega) n.rn
 have cF:=fun bx ro=>f1.over (by simp [Zp,Zf]) bx ro
 have cA:=fun bx ro=>t1.over (by simp [Zp,Zf]) bx ro
 have cS:=clS hne (by omega)
 have hse:=Zdc hne n.sn
 obtain ⟨q1,q2⟩:=Zz n.rn 1 (Zo n.roles)
 obtain ⟨q3,q4⟩:=VG f3
 obtain ⟨q5,q6⟩:=VG t2
 clear f1 t1 t3 f2
 by_cases hg:n.goals= []
 · refine ⟨oF, oT, slV n.gn 5 (glC n.goals), .dead, lv, nt, ?_, ⟨f3, t2, f4, .inl ⟨hg, rfl, rfl⟩⟩⟩
   have cG:=Zkf n.gn
   clear f3 t2 f4 hne hgs
   obtain ⟨nm,rn,rs,fn,fr,tn,ts,sn,ss,gn,gs⟩:=n
   simp only at q1 q2 hg hsl hse cR cF cA cS cG hrl hfl htl hgl ⊢
   subst hg
   obtain ⟨q7,q8⟩:=Zz gn 5 (glC [])
   have q9:=Zcb nm q2 q4 q6 (show [PV.own 4 7 0 (spC ss).length].all Zr=true from rfl) q8
   simp only [Na.cells,hse]
   refine Zy (own:=(fun d=>[5006,5009,5012,5018,5021].any (Nat.beq d))) tOk fe26.ok ?_
   refine Wp.seq ?_
   repeat' first|refine Ji ?_|refine JJ ?_|refine Jl ?_|refine Jx ?_|(apply qT (ty:=0);rfl;rfl;rfl)|(apply qF (ty:=0);rfl;rfl;rfl)|refine Jz ?_ ?_|refine Jo ?_|(apply qSt;rfl;rfl;assumption;exact IsL.n;rfl;assumption;(first|rfl|assumption);exact IsH.mkN)|(apply dCt;rfl;rfl;rfl;rfl;rfl;exact (cR _))|(apply dCt;rfl;rfl;rfl;rfl;rfl;exact (cF _ _))|(apply dCt;rfl;rfl;rfl;rfl;rfl;exact (cA _ _))|(apply dCu;rfl;rfl;rfl;rfl;rfl;exact (cS _))|(apply dCu;rfl;rfl;rfl;rfl;rfl;exact (cG _))|refine JD ?_|refine JK ?_|(apply dLn;rfl;rfl;rfl;rfl;rfl)|refine JI ?_|(apply dT (ty:=0);rfl;rfl;rfl;rfl)|(apply dF (ty:=0);rfl;rfl;rfl;rfl)|(apply dB (ty:=0);rfl;rfl;rfl;rfl)|(apply dSt;rfl;rfl;rfl;assumption;exact IsL.n;rfl;assumption;(first|rfl|assumption);exact IsH.mkN;(first|rfl|(simp [Zx];done));rfl;rfl)|refine Jh ?_|(apply Wp.drawS tOk follows;kernel_rfl;rfl)|intro hb
   refine Wp.loop ?_
   repeat' first|refine Ji ?_|refine JJ ?_|refine Jl ?_|refine Jx ?_|(apply qT (ty:=0);rfl;rfl;rfl)|(apply qF (ty:=0);rfl;rfl;rfl)|refine Jz ?_ ?_|refine Jo ?_|refine JD ?_|refine JK ?_|(apply dLn;rfl;rfl;rfl;rfl;rfl)|refine JI ?_|(apply dT (ty:=0);rfl;rfl;rfl;rfl)|(apply dF (ty:=0);rfl;rfl;rfl;rfl)|(apply dB (ty:=0);rfl;rfl;rfl;rfl)|refine Jh ?_|(apply Wp.drawS tOk follows;kernel_rfl;rfl)|intro hb
   refine LoopQ.exit ?_
   repeat' first|refine Ji ?_|refine JJ ?_|refine Jl ?_|refine Jx ?_|(apply qT (ty:=0);rfl;rfl;rfl)|(apply qF (ty:=0);rfl;rfl;rfl)|refine Jz ?_ ?_|refine Jo ?_|refine JD ?_|refine JK ?_|(apply dLn;rfl;rfl;rfl;rfl;rfl)|refine JI ?_|(apply dT (ty:=0);rfl;rfl;rfl;rfl)|(apply dF (ty:=0);rfl;rfl;rfl;rfl)|(apply dB (ty:=0);rfl;rfl;rfl;rfl)|refine Jh ?_|(apply Wp.drawS tOk follows;kernel_rfl;rfl)|intro hb
   all_goals exact RetE.ret rfl rfl rfl
 · have cG := clG hg (by omega)
   have hge:=Zfd hg n.gn
   refine ⟨oF,oT,.own 5 5 0 (glC n.goals).length,.cells 5 (glC n.goals),lv,nt,?_,⟨f3,t2,f4,.inr ⟨hg,rfl,rfl⟩⟩⟩
   clear f3 t2 f4 hne hg
   obtain ⟨nm,rn,rs,fn,fr,tn,ts,sn,ss,gn,gs⟩:=n
   simp only at q1 q2 hge hsl hse cR cF cA cS cG hrl hfl htl hgl hgs ⊢
   simp only [Na.cells,hse,hge]
   have e5:=YJ gs
   have q9:=Zcb nm q2 q4 q6 (show [PV.own 4 7 0 (spC ss).length].all Zr=true from rfl) (show [PV.own 5 5 0 (glC gs).length].all Zr=true from rfl)
   refine Zy (own:=(fun d=>[5006,5009,5012,5018,5021].any (Nat.beq d))) tOk fe26.ok ?_
   refine Wp.seq ?_
   repeat' first|refine Ji ?_|refine JJ ?_|refine Jl ?_|refine Jx ?_|(apply qT (ty:=0);rfl;rfl;rfl)|(apply qF (ty:=0);rfl;rfl;rfl)|refine Jz ?_ ?_|refine Jo ?_|(apply qSt;rfl;rfl;assumption;exact IsL.n;rfl;assumption;(first|rfl|assumption);exact IsH.mkN)|(apply dCt;rfl;rfl;rfl;rfl;rfl;exact (cR _))|(apply dCt;rfl;rfl;rfl;rfl;rfl;exact (cF _ _))|(apply dCt;rfl;rfl;rfl;rfl;rfl;exact (cA _ _))|(apply dCu;rfl;rfl;rfl;rfl;rfl;exact (cS _))|(apply dCu;rfl;rfl;rfl;rfl;rfl;exact (cG _))|refine JD ?_|refine JK ?_|(apply dLn;rfl;rfl;rfl;rfl;rfl)|refine JI ?_|(apply dT (ty:=0);rfl;rfl;rfl;rfl)|(apply dF (ty:=0);rfl;rfl;rfl;rfl)|(apply dB (ty:=0);rfl;rfl;rfl;rfl)|(apply dSt;rfl;rfl;rfl;assumption;exact IsL.n;rfl;assumption;(first|rfl|assumption);exact IsH.mkN;(first|rfl|(simp [Zx];done));rfl;rfl)|refine Jh ?_|(apply Wp.drawS tOk follows;kernel_rfl;rfl)|intro hb
   refine Wp.while (fun m2 tm H => ∃ (i : Nat) (base : TM), i + m2 = gs.length ∧ tm = ovr base [(1, .ptr 2 6 0 0), (2, .ptr 3 6 0 0), (26, .int .i64 ((glC gs).length : Int)), (27, .int .i64 (i : Int))] ∧
     H=⟨[B0,B1,cpB nm (slV rn 1 (Zo rs)) oF oT (.own 4 7 0 (spC ss).length) (.own 5 5 0 (glC gs).length),.cells 6 [[.str [],.nils,.nils,.nils,.nils,.nils]],.cells 7 (spC ss),.cells 5 (glC gs)],0,lv,nt⟩)
    (fun m2 tm H hI=>?_) gs.length _ _ ⟨0,_,by omega,Ze ⟨rfl,rfl,rfl,rfl,trivial⟩,rfl⟩
   obtain ⟨i,base,hi,rfl,rfl⟩:=hI
   have hlx:=Zk (i:Int) ((glC gs).length:Int)
   by_cases hlt:i<gs.length
   · rw [decide_eq_true (by omega)] at hlx
     obtain ⟨x,hx⟩:∃ x,gs[i]? = some x:=⟨gs[i],by simp⟩
     have hgx:=XI hx
     have hii:=Zw (a:=(i:Int)) (b:=1) (by omega) (by omega)
     rw [show (i:Int)+1=((i+1:Nat):Int) by omega] at hii
     have hia:ZQ E0 25 (.own 5 5 0 (glC gs).length) (.int .i64 (i:Int))=some (.ptr 5 5 (0+i) 0):=Ze8 rfl rfl rfl rfl (by omega)
     rw [Nat.zero_add] at hia
     have cT:=clT (l:=x.data) (by have:=hgs x (List.mem_of_getElem? hx);omega) x.dn
     obtain ⟨q7,q8⟩:=Zz x.dn 4 (Zb x.data)
     obtain ⟨H1,hH1⟩:∃ H1:Heap,H1=⟨[B0,B1,cpB nm (slV rn 1 (Zo rs)) oF oT (.own 4 7 0 (spC ss).length) (.own 5 5 0 (glC gs).length),.cells 6 [[.str [],.nils,.nils,.nils,.nils,.nils]],.cells 7 (spC ss),.cells 5 (glC gs)],0,lv,nt⟩:=⟨_,rfl⟩
     have hnx:nth (glC gs) i=some [.int .i64 x.kind,.str x.role,.str x.wth,slV x.dn 4 (Zb x.data),.int .i64 x.line]:=(Zx _ _).trans hgx
     have hld:XE E0 47 (.ptr 5 5 i 3) H1=some (slV x.dn 4 (Zb x.data)):=by
      rw [hH1]
      exact ZgP rfl rfl (el:=glC gs) rfl hnx rfl
     have hwr:H1.wr (.ptr 5 5 i 3) [slV x.dn 4 (Zb x.data)]=some H1:=by
      rw [hH1,ZgI (el:=glC gs) rfl hnx (by simp) (Nat.zero_le _)]
      congr 1
      have e:(glC gs).set i [.int .i64 x.kind,.str x.role,.str x.wth,slV x.dn 4 (Zb x.data),.int .i64 x.line]=glC gs:=ZeB hgx
      show Heap.mk [_,_,_,_,_,.cells 5 ((glC gs).set i [.int .i64 x.kind,.str x.role,.str x.wth,slV x.dn 4 (Zb x.data),.int .i64 x.line])] _ _ _=_
      rw [e]
     subst hH1
     clear hgx hnx
     repeat' first|refine Jc (cT _) ?_|refine Ji ?_|refine JJ ?_|(apply qLd;rfl;rfl;rfl;assumption;exact IsV.any _)|refine Jl ?_|refine Jx ?_|(apply qT (ty:=0);rfl;rfl;rfl)|(apply qF (ty:=0);rfl;rfl;rfl)|refine Jz ?_ ?_|refine Jo ?_|(apply qSt;rfl;rfl;assumption;exact IsL.n;rfl;assumption;(first|rfl|assumption);exact IsH.mkN)|refine Jd (cT _) ?_|refine JD ?_|refine JK ?_|(apply dLd;rfl;rfl;rfl;assumption;exact IsV.any _;(first|rfl|(show Nat.blt _ _=true;first|assumption|(simp [Nat.blt];done))))|(apply dLn;rfl;rfl;rfl;rfl;rfl)|refine JI ?_|(apply dT (ty:=0);rfl;rfl;rfl;rfl)|(apply dF (ty:=0);rfl;rfl;rfl;rfl)|(apply dB (ty:=0);rfl;rfl;rfl;rfl)|(apply dSt;rfl;rfl;rfl;assumption;exact IsL.n;rfl;assumption;(first|rfl|assumption);exact IsH.mkN;(first|rfl|(simp [Zx];done));rfl;rfl)|refine Jh ?_|(apply Wp.drawS tOk follows;kernel_rfl;rfl)|intro hb
     exact LoopI.go (m2-1) (by omega) ⟨i+1,_,by omega,Ze ⟨rfl,rfl,rfl,rfl,trivial⟩,rfl⟩
   · have e : i = gs.length := by omega
     subst e
     rw [decide_eq_false (by omega)] at hlx
     repeat' first|refine Ji ?_|refine JJ ?_|refine Jl ?_|refine Jx ?_|(apply qT (ty:=0);rfl;rfl;rfl)|(apply qF (ty:=0);rfl;rfl;rfl)|refine Jz ?_ ?_|refine Jo ?_|refine JD ?_|refine JK ?_|(apply dLn;rfl;rfl;rfl;rfl;rfl)|refine JI ?_|(apply dT (ty:=0);rfl;rfl;rfl;rfl)|(apply dF (ty:=0);rfl;rfl;rfl;rfl)|(apply dB (ty:=0);rfl;rfl;rfl;rfl)|refine Jh ?_|(apply Wp.drawS tOk follows;kernel_rfl;rfl)|intro hb
     all_goals exact RetE.ret rfl rfl rfl
