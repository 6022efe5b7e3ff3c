/-
  New names, narrations that are checked: both texts.
-/
import Derived.Test.YtgnklbkmfeafaaaGreatDoorWa
set_option maxHeartbeats 0
set_option maxRecDepth 100000
namespace Go.Vm
theorem ZbT {l:List Sp} (h:l≠ []) (b:Bool):slV b 7 (spC l)= .sl .none 7 (spC l):=by
 cases l with
 |nil=>exact absurd rfl h
 |cons a r=>exact Zx _ _ _ _
theorem Zdr {l:List Gl} (h:l≠ []) (b:Bool):slV b 5 (glC l)= .sl .none 5 (glC l):=by
 cases l with
 |nil=>exact absurd rfl h
 |cons a r=>exact Zx _ _ _ _
theorem Zk (b:Bool) (es:Nat) (L:List (List PV)):PV.cells (slV b es L)= [slV b es L]∧[slV b es L].all Zp=true:=by
 cases L with
 | nil => cases b
          · rw [ZB];exact ⟨rfl,rfl⟩
          · rw [Zq];exact ⟨rfl,rfl⟩
 |cons c r=>rw [Zx];exact ⟨rfl,rfl⟩
theorem Yw {b:Bool} {es:Nat} {L:List (List PV)} {out:PV} {lv:List Nat} {nt:Nat} (h:ApV b es L out lv nt):PV.cells out= [out]∧[out].all Zp=true:=by
 cases h<;>exact ⟨rfl,rfl⟩
theorem UH (nm:Zg) {a b c d e:PV} (h1:[a].all Zp=true) (h2:[b].all Zp=true) (h3:[c].all Zp=true) (h4:[d].all Zp=true) (h5:[e].all Zp=true):[.str nm,a,b,c,d,e].all Zp=true:=by
 simp only [List.all_cons,List.all_nil,Bool.and_true] at h1 h2 h3 h4 h5 ⊢
 rw [h1,h2,h3,h4,h5];rfl
theorem ZeP {α:Type} {l:List α} {i:Nat} {x:α} (h:l[i]? = some x):l.set i x=l:=by
 obtain ⟨hlt,rfl⟩:=List.getElem?_eq_some_iff.1 h
 exact List.set_getElem_self hlt
abbrev cpB (nm:Zg) (a b c d e:PV):Box:= .cells 6 [[.str nm,a,b,c,d,e]]
structure CpV (n:Na) (oF oT gv:PV) (GB:Box) (lv:List Nat) (nt:Nat):Prop where
 hF:ApV n.fn 3 (frC n.fresh) oF lv nt
 hT:ApV n.tn 1 (Zi n.tags) oT lv nt
 ne:Z7 oF=none∨Z7 oF≠Z7 oT
 gl:(n.goals= []∧gv=slV n.gn 5 (glC n.goals)∧GB= .dead)∨(n.goals≠ []∧gv= .own 5 5 0 (glC n.goals).length∧GB= .cells 5 (glC n.goals))
abbrev cpH (n:Na) (B0 B1:Box) (oF oT gv:PV) (GB:Box) (lv:List Nat) (nt:Nat):Heap:=
 ⟨[B0,B1,cpB n.name (slV n.rn 1 (Zi n.roles)) oF oT (.own 4 7 0 (spC n.steps).length) gv,cpB n.name (slV n.rn 1 (Zi n.roles)) oF oT (.own 4 7 0 (spC n.steps).length) gv,.cells 7 (spC n.steps),GB],0,lv,nt⟩
abbrev cpR (n:Na) (oF oT gv:PV):PV:= .agg [.str n.name,slV n.rn 1 (Zi n.roles),oF,oT,.own 4 7 0 (spC n.steps).length,gv]
end Go.Vm
namespace Go.Vm.Seat
open Go.Proofs
theorem ZjR (b:Bool) (H:Heap):CallOk E0 Tryz.prog 69 [slV b 5 (glC [])] H (slV b 5 (glC [])) {H with bx:=H.bx++ [.dead]}:=by
 refine CallOk.slot (L:=[]) (k:=0) (B:= .dead) (j:=0) (H1:=hNil) (args0:=[slV b 5 (glC [])]) (r:=slV b 5 (glC [])) ?_ (.inl rfl) (fun g g0 v hS _ x=>Zc7 hS (by simp only [Zt,WZ]) x) (.inl rfl) (fun g1 g2 v hS hs x=>ZaB hS (WZ _ _ _) x)
 have hap:ZL E0 25 25 (.sl .full 5 []) (.sl .none 5 []) hNil=some (.sl .full 5 [],hNil):=by
  have he:=Z2 (s:= .sl .full 5 []) ZfA (ElV.sl .none 5 []) rfl rfl rfl hNil
  simp only [ZL,he]
 refine Xh (own:=fun _=>false) tOk fe69.ok (by simp only [Zt,WZ]) (WU _ _ _ _ _) ?_ hNil
 refine Wp.seq ?_
 rw [show glC []= [] from rfl]
 cases b with
 | true =>
   rw [Zq]
   repeat' first|refine Js ?_|refine JA ?_|refine Jt ?_|refine Jb ?_ ?_|refine Jo ?_|intro hb
   all_goals rfl
 | false =>
   rw [ZB]
   repeat' first|refine Js ?_|refine JA ?_|refine Jt ?_|refine Jb ?_ ?_|refine Jo ?_|intro hb
   all_goals rfl
theorem c26 {n:Na} (h:n.Sm) (hne:n.steps≠ []) (B0 B1:Box):∃ oF oT gv GB lv nt,CallOk E0 Tryz.prog 26 [.agg n.cells] ⟨[B0,B1],0,[],0⟩ (cpR n oF oT gv) (cpH n B0 B1 oF oT gv GB lv nt)∧CpV n oF oT gv GB lv nt:=by
 have hrl:=h.rl
 have hfl:=h.fl
 have htl:=h.tl
 have hsl:=h.sl
 have hgl:=h.gl
 have hgs:=fun g hg=>(h.gs g hg).2.2.1
 clear h
 obtain ⟨oF,lv1,nt1,f1,f2, -⟩:=clF (l:=n.fresh) (by omega) n.fn [] 0
 obtain ⟨oT,lv,nt,t1,t2,t3⟩:=clA (l:=n.tags) (by omega) n.tn lv1 nt1
 obtain ⟨f3,f4⟩:=t3 _ _ _ _ f2
 have cR:=clR (l:=n.roles) (by omega) n.rn
 have cF:=fun bx ro=>f1.over (by simp [Zo,Ze]) bx ro
 have cA:=fun bx ro=>t1.over (by simp [Zo,Ze]) bx ro
 have cS:=clS hne (by omega)
 have hse:=ZbT hne n.sn
 obtain ⟨q1,q2⟩:=Zk n.rn 1 (Zi n.roles)
 obtain ⟨q3,q4⟩:=Yw f3
 obtain ⟨q5,q6⟩:=Yw t2
 clear f1 t1 t3 f2
 by_cases hg:n.goals= []
 · refine ⟨oF, oT, slV n.gn 5 (glC n.goals), .dead, lv, nt, ?_, ⟨f3, t2, f4, .inl ⟨hg, rfl, rfl⟩⟩⟩
   have cG:=ZjR n.gn
   clear f3 t2 f4 hne hgs
   obtain ⟨nm,rn,rs,fn,fr,tn,ts,sn,ss,gn,gs⟩:=n
   simp only at q1 q2 hg hsl hse cR cF cA cS cG hrl hfl htl hgl ⊢
   subst hg
   obtain ⟨q7,q8⟩:=Zk gn 5 (glC [])
   have q9:=UH nm q2 q4 q6 (show [PV.own 4 7 0 (spC ss).length].all Zp=true from rfl) q8
   simp only [Na.cells,hse]
   refine Zs (own:=(fun d=>[5006,5009,5012,5018,5021].any (Nat.beq d))) tOk fe26.ok ?_
   refine Wp.seq ?_
   repeat' first|refine Ji ?_|refine JJ ?_|refine Jl ?_|refine Jx ?_|(apply qT (ty:=0);rfl;rfl;rfl)|(apply qF (ty:=0);rfl;rfl;rfl)|refine Jz ?_ ?_|refine Jo ?_|(apply qSt;rfl;rfl;assumption;exact IsL.n;rfl;assumption;(first|rfl|assumption);exact IsH.mkN)|(apply dCt;rfl;rfl;rfl;rfl;rfl;exact (cR _))|(apply dCt;rfl;rfl;rfl;rfl;rfl;exact (cF _ _))|(apply dCt;rfl;rfl;rfl;rfl;rfl;exact (cA _ _))|(apply dCu;rfl;rfl;rfl;rfl;rfl;exact (cS _))|(apply dCu;rfl;rfl;rfl;rfl;rfl;exact (cG _))|refine JD ?_|refine JK ?_|(apply dLn;rfl;rfl;rfl;rfl;rfl)|refine JI ?_|(apply dT (ty:=0);rfl;rfl;rfl;rfl)|(apply dF (ty:=0);rfl;rfl;rfl;rfl)|(apply dB (ty:=0);rfl;rfl;rfl;rfl)|(apply dSt;rfl;rfl;rfl;assumption;exact IsL.n;rfl;assumption;(first|rfl|assumption);exact IsH.mkN;(first|rfl|(simp [Zr];done));rfl;rfl)|refine Jh ?_|(apply Wp.drawS tOk follows;kernel_rfl;rfl)|intro hb
   refine Wp.loop ?_
   repeat' first|refine Ji ?_|refine JJ ?_|refine Jl ?_|refine Jx ?_|(apply qT (ty:=0);rfl;rfl;rfl)|(apply qF (ty:=0);rfl;rfl;rfl)|refine Jz ?_ ?_|refine Jo ?_|refine JD ?_|refine JK ?_|(apply dLn;rfl;rfl;rfl;rfl;rfl)|refine JI ?_|(apply dT (ty:=0);rfl;rfl;rfl;rfl)|(apply dF (ty:=0);rfl;rfl;rfl;rfl)|(apply dB (ty:=0);rfl;rfl;rfl;rfl)|refine Jh ?_|(apply Wp.drawS tOk follows;kernel_rfl;rfl)|intro hb
   refine LoopQ.exit ?_
   repeat' first|refine Ji ?_|refine JJ ?_|refine Jl ?_|refine Jx ?_|(apply qT (ty:=0);rfl;rfl;rfl)|(apply qF (ty:=0);rfl;rfl;rfl)|refine Jz ?_ ?_|refine Jo ?_|refine JD ?_|refine JK ?_|(apply dLn;rfl;rfl;rfl;rfl;rfl)|refine JI ?_|(apply dT (ty:=0);rfl;rfl;rfl;rfl)|(apply dF (ty:=0);rfl;rfl;rfl;rfl)|(apply dB (ty:=0);rfl;rfl;rfl;rfl)|refine Jh ?_|(apply Wp.drawS tOk follows;kernel_rfl;rfl)|intro hb
   all_goals exact RetE.ret rfl rfl rfl
 · have cG := clG hg (by omega)
   have hge:=Zdr hg n.gn
   refine ⟨oF,oT,.own 5 5 0 (glC n.goals).length,.cells 5 (glC n.goals),lv,nt,?_,⟨f3,t2,f4,.inr ⟨hg,rfl,rfl⟩⟩⟩
   clear f3 t2 f4 hne hg
   obtain ⟨nm,rn,rs,fn,fr,tn,ts,sn,ss,gn,gs⟩:=n
   simp only at q1 q2 hge hsl hse cR cF cA cS cG hrl hfl htl hgl hgs ⊢
   simp only [Na.cells,hse,hge]
   have e5:=YR gs
   have q9:=UH nm q2 q4 q6 (show [PV.own 4 7 0 (spC ss).length].all Zp=true from rfl) (show [PV.own 5 5 0 (glC gs).length].all Zp=true from rfl)
   refine Zs (own:=(fun d=>[5006,5009,5012,5018,5021].any (Nat.beq d))) tOk fe26.ok ?_
   refine Wp.seq ?_
   repeat' first|refine Ji ?_|refine JJ ?_|refine Jl ?_|refine Jx ?_|(apply qT (ty:=0);rfl;rfl;rfl)|(apply qF (ty:=0);rfl;rfl;rfl)|refine Jz ?_ ?_|refine Jo ?_|(apply qSt;rfl;rfl;assumption;exact IsL.n;rfl;assumption;(first|rfl|assumption);exact IsH.mkN)|(apply dCt;rfl;rfl;rfl;rfl;rfl;exact (cR _))|(apply dCt;rfl;rfl;rfl;rfl;rfl;exact (cF _ _))|(apply dCt;rfl;rfl;rfl;rfl;rfl;exact (cA _ _))|(apply dCu;rfl;rfl;rfl;rfl;rfl;exact (cS _))|(apply dCu;rfl;rfl;rfl;rfl;rfl;exact (cG _))|refine JD ?_|refine JK ?_|(apply dLn;rfl;rfl;rfl;rfl;rfl)|refine JI ?_|(apply dT (ty:=0);rfl;rfl;rfl;rfl)|(apply dF (ty:=0);rfl;rfl;rfl;rfl)|(apply dB (ty:=0);rfl;rfl;rfl;rfl)|(apply dSt;rfl;rfl;rfl;assumption;exact IsL.n;rfl;assumption;(first|rfl|assumption);exact IsH.mkN;(first|rfl|(simp [Zr];done));rfl;rfl)|refine Jh ?_|(apply Wp.drawS tOk follows;kernel_rfl;rfl)|intro hb
   refine Wp.while (fun m2 tm H => ∃ (i : Nat) (base : TM), i + m2 = gs.length ∧ tm = ovr base [(1, .ptr 2 6 0 0), (2, .ptr 3 6 0 0), (26, .int .i64 ((glC gs).length : Int)), (27, .int .i64 (i : Int))] ∧
     H=⟨[B0,B1,cpB nm (slV rn 1 (Zi rs)) oF oT (.own 4 7 0 (spC ss).length) (.own 5 5 0 (glC gs).length),.cells 6 [[.str [],.nils,.nils,.nils,.nils,.nils]],.cells 7 (spC ss),.cells 5 (glC gs)],0,lv,nt⟩)
    (fun m2 tm H hI=>?_) gs.length _ _ ⟨0,_,by omega,Zf ⟨rfl,rfl,rfl,rfl,trivial⟩,rfl⟩
   obtain ⟨i,base,hi,rfl,rfl⟩:=hI
   have hlx:=Zn (i:Int) ((glC gs).length:Int)
   by_cases hlt:i<gs.length
   · rw [decide_eq_true (by omega)] at hlx
     obtain ⟨x,hx⟩:∃ x,gs[i]? = some x:=⟨gs[i],by simp⟩
     have hgx:=XO hx
     have hii:=Zy (a:=(i:Int)) (b:=1) (by omega) (by omega)
     rw [show (i:Int)+1=((i+1:Nat):Int) by omega] at hii
     have hia:ZP E0 25 (.own 5 5 0 (glC gs).length) (.int .i64 (i:Int))=some (.ptr 5 5 (0+i) 0):=ZfP rfl rfl rfl rfl (by omega)
     rw [Nat.zero_add] at hia
     have cT:=clT (l:=x.data) (by have:=hgs x (List.mem_of_getElem? hx);omega) x.dn
     obtain ⟨q7,q8⟩:=Zk x.dn 4 (Zb x.data)
     obtain ⟨H1,hH1⟩:∃ H1:Heap,H1=⟨[B0,B1,cpB nm (slV rn 1 (Zi rs)) oF oT (.own 4 7 0 (spC ss).length) (.own 5 5 0 (glC gs).length),.cells 6 [[.str [],.nils,.nils,.nils,.nils,.nils]],.cells 7 (spC ss),.cells 5 (glC gs)],0,lv,nt⟩:=⟨_,rfl⟩
     have hnx:nth (glC gs) i=some [.int .i64 x.kind,.str x.role,.str x.wth,slV x.dn 4 (Zb x.data),.int .i64 x.line]:=(Zr _ _).trans hgx
     have hld:XC E0 47 (.ptr 5 5 i 3) H1=some (slV x.dn 4 (Zb x.data)):=by
      rw [hH1]
      exact ZfD rfl rfl (el:=glC gs) rfl hnx rfl
     have hwr:H1.wr (.ptr 5 5 i 3) [slV x.dn 4 (Zb x.data)]=some H1:=by
      rw [hH1,Ze4 (el:=glC gs) rfl hnx (by simp) (Nat.zero_le _)]
      congr 1
      have e:(glC gs).set i [.int .i64 x.kind,.str x.role,.str x.wth,slV x.dn 4 (Zb x.data),.int .i64 x.line]=glC gs:=ZeP hgx
      show Heap.mk [_,_,_,_,_,.cells 5 ((glC gs).set i [.int .i64 x.kind,.str x.role,.str x.wth,slV x.dn 4 (Zb x.data),.int .i64 x.line])] _ _ _=_
      rw [e]
     subst hH1
     clear hgx hnx
     repeat' first|refine Jc (cT _) ?_|refine Ji ?_|refine JJ ?_|(apply qLd;rfl;rfl;rfl;assumption;exact IsV.any _)|refine Jl ?_|refine Jx ?_|(apply qT (ty:=0);rfl;rfl;rfl)|(apply qF (ty:=0);rfl;rfl;rfl)|refine Jz ?_ ?_|refine Jo ?_|(apply qSt;rfl;rfl;assumption;exact IsL.n;rfl;assumption;(first|rfl|assumption);exact IsH.mkN)|refine Jd (cT _) ?_|refine JD ?_|refine JK ?_|(apply dLd;rfl;rfl;rfl;assumption;exact IsV.any _;(first|rfl|(show Nat.blt _ _=true;first|assumption|(simp [Nat.blt];done))))|(apply dLn;rfl;rfl;rfl;rfl;rfl)|refine JI ?_|(apply dT (ty:=0);rfl;rfl;rfl;rfl)|(apply dF (ty:=0);rfl;rfl;rfl;rfl)|(apply dB (ty:=0);rfl;rfl;rfl;rfl)|(apply dSt;rfl;rfl;rfl;assumption;exact IsL.n;rfl;assumption;(first|rfl|assumption);exact IsH.mkN;(first|rfl|(simp [Zr];done));rfl;rfl)|refine Jh ?_|(apply Wp.drawS tOk follows;kernel_rfl;rfl)|intro hb
     exact LoopI.go (m2-1) (by omega) ⟨i+1,_,by omega,Zf ⟨rfl,rfl,rfl,rfl,trivial⟩,rfl⟩
   · have e : i = gs.length := by omega
     subst e
     rw [decide_eq_false (by omega)] at hlx
     repeat' first|refine Ji ?_|refine JJ ?_|refine Jl ?_|refine Jx ?_|(apply qT (ty:=0);rfl;rfl;rfl)|(apply qF (ty:=0);rfl;rfl;rfl)|refine Jz ?_ ?_|refine Jo ?_|refine JD ?_|refine JK ?_|(apply dLn;rfl;rfl;rfl;rfl;rfl)|refine JI ?_|(apply dT (ty:=0);rfl;rfl;rfl;rfl)|(apply dF (ty:=0);rfl;rfl;rfl;rfl)|(apply dB (ty:=0);rfl;rfl;rfl;rfl)|refine Jh ?_|(apply Wp.drawS tOk follows;kernel_rfl;rfl)|intro hb
     all_goals exact RetE.ret rfl rfl rfl
end Go.Vm.Seat
namespace Go.Vm
def Ze7 (fr:List Fr) (w:Zg):Bool:=fr.any fun f=>decide (f.name=w)
theorem ZhQ (fr:List Fr) (w:Zg):Ze7 fr w=ZU (fr.map (·.name)) w:=by simp [Ze7,ZU,List.any_map,Function.comp_def]
def Zd7 (w:Zg):List Fr→Int→Int
 | [],_=> -1
 |f::r,i=>if f.name=w then i else Zd7 w r (i+1)
theorem ZdN {w:Zg} {l:List Fr} {i:Nat} {f:Fr} (h:l[i]? = some f):Zd7 w (l.drop i) i=if f.name=w then (i:Int) else Zd7 w (l.drop (i+1)) ((i+1:Nat):Int):=by
 rw [ZA h];rfl
theorem Zcs (w:Zg):∀ (l:List Fr) (i:Int),0≤i→decide (0≤Zd7 w l i)=Ze7 l w
 | [],i,h=>rfl
 | f :: r, i, h => by
   have e:Zd7 w (f::r) i=if f.name=w then i else Zd7 w r (i+1):=rfl
   rw [e,show Ze7 (f::r) w=(decide (f.name=w)||Ze7 r w) from rfl]
   clear e
   by_cases c:f.name=w
   · rw [if_pos c,decide_eq_true c,decide_eq_true h];rfl
   · rw [if_neg c, decide_eq_false c, Bool.false_or]
     exact Zcs w r (i+1) (by omega)
theorem Zb6 (N:List Zg) (m:Nat) (w:Zg) (h:ZU N w=true) (hm:0<m):nnW N m w=nnW N (m-1) (w++ [95]):=by
 obtain ⟨k,rfl⟩:∃ k,m=k+1:=⟨m-1,by omega⟩
 rw [nnW,if_pos h];rfl
theorem Zex (N:List Zg) (m:Nat) (w:Zg) (h:ZU N w=false):nnW N m w=w:=by
 cases m with
 |zero=>rfl
 |succ k=>rw [nnW,if_neg (by rw [h];simp)]
end Go.Vm
namespace Go.Vm.Seat
variable {B0:Box} {l:List Fr} {n:Na}
open Go.Proofs
abbrev hUs (B0:Box) (w:Zg):Heap:=⟨[B0,.cells 1 [[.str w]]],0,[],0⟩
theorem Zkw (hB:ZO 2 B0=true) (x:Fr) (w:Zg):CallOk E0 Tryz.prog 111 [.agg x.cells,.ptr 1 1 0 0] (hUs B0 w) (.bool (decide (x.name=w))) (hUs B0 w):=by
 have he:=Y1 x.name w
 generalize decide (x.name=w)=A at he ⊢
 obtain ⟨r,nm,s⟩:=x
 have hb:[B0,Box.cells 1 [[.str w]]].all (ZO 2)=true:=by
  simp only [List.all_cons,List.all_nil,hB];rfl
 refine U4 (own:=fun _=>false) tOk fe111.ok ?_
 refine Wp.seq ?_
 cases A
 all_goals
  repeat' first|refine Ji ?_|refine Jt ?_|refine Jb ?_ ?_|refine Jo ?_|intro hb
  exact DropF.ret [(3,_)] ⟨rfl,trivial⟩ rfl rfl hb (RetE.ret rfl rfl rfl)
theorem ZjE (hB : ZO 2 B0 = true) (hlen : l.length ≤ 1000) (b : Bool) (w : Zg) :
  CallOk E0 Tryz.prog 136 [slV b 3 (frC l),.fn 111 [.ptr 1 1 0 0]] (hUs B0 w) (.int .i64 (Zd7 w l 0)) (hUs B0 w):=by
 have e2:=YI l
 refine Zs (own:=fun _=>false) tOk fe136.ok ?_
 refine Wp.seq ?_
 repeat' first|refine Ji ?_|refine JJ ?_|refine Jl ?_|refine Jx ?_|refine Jt ?_|refine Jb ?_ ?_|(apply qT (ty:=0);rfl;rfl;rfl)|(apply qF (ty:=0);rfl;rfl;rfl)|refine Jz ?_ ?_|refine Jo ?_|intro hb
 refine Wp.while (fun m tm H=>∃ (i:Nat) (base:TM),i+m=l.length∧Zd7 w l 0=Zd7 w (l.drop i) i∧tm=ovr base [(0,slV b 3 (frC l)),(1,.fn 111 [.ptr 1 1 0 0]),(7,.int .i64 ((frC l).length:Int)),(8,.int .i64 (i:Int))]∧H=hUs B0 w)
  (fun m tm H hI=>?_) l.length _ _ ⟨0,_,by omega,by simp,Zf ⟨rfl,rfl,rfl,rfl,trivial⟩,rfl⟩
 obtain ⟨i,base,hi,hgo,rfl,rfl⟩:=hI
 rw [hgo]
 have hlx:=Zn (i:Int) ((frC l).length:Int)
 by_cases hlt:i<l.length
 · rw [decide_eq_true (by omega)] at hlx
   obtain ⟨x,hx⟩:∃ x,l[i]? = some x:=⟨l[i],by simp⟩
   have hj:=Wb hx
   have hii:=Zy (a:=(i:Int)) (b:=1) (by omega) (by omega)
   rw [show (i:Int)+1=((i+1:Nat):Int) by omega] at hii
   have hc:=Zkw hB x w
   rw [ZdN hx]
   by_cases c:x.name=w
   · rw [decide_eq_true c] at hc
     rw [if_pos c]
     obtain ⟨xr,xn,xs⟩:=x
     simp only [Fr.cells] at hc
     repeat' first|refine Jc hc ?_|refine Ji ?_|refine JJ ?_|refine Jl ?_|refine Jx ?_|refine Jt ?_|refine Jb ?_ ?_|(apply qT (ty:=0);rfl;rfl;rfl)|(apply qF (ty:=0);rfl;rfl;rfl)|refine Jz ?_ ?_|refine Jo ?_|intro hb
     all_goals exact RetE.ret rfl rfl rfl
   · rw [decide_eq_false c] at hc
     rw [if_neg c]
     obtain ⟨xr,xn,xs⟩:=x
     simp only [Fr.cells] at hc
     repeat' first|refine Jc hc ?_|refine Ji ?_|refine JJ ?_|refine Jl ?_|refine Jx ?_|refine Jt ?_|refine Jb ?_ ?_|(apply qT (ty:=0);rfl;rfl;rfl)|(apply qF (ty:=0);rfl;rfl;rfl)|refine Jz ?_ ?_|refine Jo ?_|intro hb
     exact LoopI.go (m-1) (by omega) ⟨i+1,_,by omega,rfl,Zf ⟨rfl,rfl,rfl,rfl,trivial⟩,rfl⟩
 · have e : i = l.length := by omega
   subst e
   rw [decide_eq_false (by omega)] at hlx
   rw [List.drop_length]
   repeat' first|refine Ji ?_|refine JJ ?_|refine Jl ?_|refine Jx ?_|refine Jt ?_|refine Jb ?_ ?_|(apply qT (ty:=0);rfl;rfl;rfl)|(apply qF (ty:=0);rfl;rfl;rfl)|refine Jz ?_ ?_|refine Jo ?_|intro hb
   all_goals exact RetE.ret rfl rfl rfl
theorem ZkI (hB : ZO 2 B0 = true) (hlen : l.length ≤ 1000) (b : Bool) (w : Zg) :
  CallOk E0 Tryz.prog 110 [slV b 3 (frC l),.fn 111 [.ptr 1 1 0 0]] (hUs B0 w) (.bool (Ze7 l w)) (hUs B0 w):=by
 have hc:=ZjE hB hlen b w
 have hg:=Us (Zd7 w l 0) 0
 rw [Zcs w l 0 (by omega)] at hg
 generalize Zd7 w l 0=F at hc hg
 generalize Ze7 l w=A at hg ⊢
 refine Zs (own:=fun _=>false) tOk fe110.ok ?_
 refine Wp.seq ?_
 cases A
 all_goals
  repeat' first|refine Jc hc ?_|refine Ji ?_|refine Jt ?_|refine Jb ?_ ?_|refine Jo ?_|intro hb
  all_goals exact RetE.ret rfl rfl rfl
theorem c71 (h:n.Sm) (w:Zg):∀ H,CallOk E0 Tryz.prog 71 [.agg n.cells,.str w] H (.bool (ZU n.nms w)) H:=by
 have k1:=ZfT (l:=n.roles) (Nat.le_trans h.rl (by decide)) w n.rn
 have k2:=ZfT (l:=n.tags) (Nat.le_trans h.tl (by decide)) w n.tn
 have k3:=ZkI (B0:=naB n.name n.rn n.roles n.fn n.fresh n.tn n.tags n.sn n.steps n.gn n.goals) (X0 _ _ _ _ _ _ _ _ _ _ _ _) (l:=n.fresh) (Nat.le_trans h.fl (by decide)) n.fn w
 have e:ZU n.nms w=(ZU n.roles w||(Ze7 n.fresh w||ZU n.tags w)):=by rw [Na.nms,XR,XR,ZhQ]
 rw [e]
 clear e h
 generalize ZU n.roles w=A at k1 ⊢
 generalize ZU n.tags w=C at k2 ⊢
 generalize Ze7 n.fresh w=D at k3 ⊢
 obtain ⟨nm,rn,rs,fn,fr,tn,ts,sn,ss,gn,gs⟩:=n
 simp only [Na.cells] at k1 k2 k3 ⊢
 refine Jw tOk fe71.ok rfl ?_ (by simp only [Zt,Zj];rfl)
 cases A<;>cases C<;>cases D
 all_goals
  repeat' first|refine Jk ?_|(apply qCl;rfl;rfl;rfl;rfl;first|exact k1 _|exact k2 _|exact k3)|refine Ji ?_|refine Jt ?_|refine Jb ?_ ?_|refine Jo ?_|intro hb
  all_goals rfl
theorem c27 (h:n.Sm) (hN:∀ s,s∈n.nms→s.length≤60) {w:Zg} (hw:w.length≤61):∀ H,CallOk E0 Tryz.prog 27 [.agg n.cells,.str w] H (.str (nnF n.nms w)) H:=by
 have k1:=c71 h
 clear h
 generalize n.nms=N at k1 hN ⊢
 obtain ⟨nm,rn,rs,fn,fr,tn,ts,sn,ss,gn,gs⟩:=n
 simp only [Na.cells] at k1 ⊢
 refine Jw tOk fe27.ok rfl ?_ (by simp only [Zt,Zj];rfl)
 repeat' first|refine Ji ?_|refine Jt ?_|refine Jb ?_ ?_|refine Jo ?_|intro hb
 refine Wp.while (fun m tm H=>∃ (cur:Zg) (base:TM),cur.length+m=61∧nnF N w=nnW N m cur∧tm=ovr base [(1,.str cur),(2,.ptr 0 6 0 0)]∧H=⟨[naB nm rn rs fn fr tn ts sn ss gn gs],0,[],0⟩)
  (fun m tm H hI=>?_) (61-w.length) _ _ ⟨w,_,by omega,rfl,Zf ⟨rfl,rfl,trivial⟩,rfl⟩
 obtain ⟨cur,base,hi,hgo,rfl,rfl⟩:=hI
 rw [hgo]
 have k2:=k1 cur
 have ha:=QZ (a:=cur) (b:=[95]) (by simp;omega)
 cases hA:ZU N cur with
 | true =>
   have hl:=hN cur (V3.1 hA)
   rw [hA] at k2
   rw [Zb6 N m cur hA (by omega)]
   repeat' first|refine Jc (k2 _) ?_|refine Ji ?_|refine Jt ?_|refine Jb ?_ ?_|refine Jo ?_|intro hb
   exact LoopI.go (m-1) (by omega) ⟨cur++ [95],_,by simp;omega,rfl,Zf ⟨rfl,rfl,trivial⟩,rfl⟩
 | false =>
   rw [hA] at k2
   rw [Zex N m cur hA]
   repeat' first|refine Jc (k2 _) ?_|refine Ji ?_|refine Jt ?_|refine Jb ?_ ?_|refine Jo ?_|intro hb
   all_goals rfl
theorem c41 (h:n.Sm) (step:Int):∀ H,CallOk E0 Tryz.prog 41 [.agg n.cells,.int .i64 step] H (.int .i64 (n.inE step)) H:=by
 have k1:=c25 h
 clear h
 rw [Na.inE]
 have n1:=ZK n.chk.2 0
 have l1:=Zn step 0
 have e4:=ZI n.steps
 have g2:=Us step ((spC n.steps).length:Int)
 generalize n.chk.2=e at k1 n1 ⊢
 generalize n.chk.1=ln at k1
 obtain ⟨nm,rn,rs,fn,fr,tn,ts,sn,ss,gn,gs⟩:=n
 simp only [Na.cells] at k1 e4 g2 ⊢
 rw [← e4]
 refine Jw tOk fe41.ok rfl ?_ (by simp only [Zt,Zj];rfl)
 by_cases c:e=0
 · rw [decide_eq_true c] at n1
   rw [if_neg (show ¬ e≠0 by omega)]
   by_cases c1:step<0
   · rw [decide_eq_true c1] at l1
     rw [if_pos (.inl c1)]
     repeat' first|refine Jk ?_|refine Jc (k1 _) ?_|refine Ji ?_|refine Jl ?_|refine Jt ?_|refine Jb ?_ ?_|refine Jo ?_|intro hb
     all_goals rfl
   · rw [decide_eq_false c1] at l1
     by_cases c2:((spC ss).length:Int)≤step
     · rw [decide_eq_true c2] at g2
       rw [if_pos (.inr c2)]
       repeat' first|refine Jk ?_|refine Jc (k1 _) ?_|refine Ji ?_|refine Jl ?_|refine Jt ?_|refine Jb ?_ ?_|refine Jo ?_|intro hb
       all_goals rfl
     · rw [decide_eq_false c2] at g2
       rw [if_neg (fun h=>h.elim c1 c2)]
       repeat' first|refine Jk ?_|refine Jc (k1 _) ?_|refine Ji ?_|refine Jl ?_|refine Jt ?_|refine Jb ?_ ?_|refine Jo ?_|intro hb
       all_goals rfl
 · rw [decide_eq_false c] at n1
   rw [if_pos c]
   repeat' first|refine Jk ?_|refine Jc (k1 _) ?_|refine Ji ?_|refine Jl ?_|refine Jt ?_|refine Jb ?_ ?_|refine Jo ?_|intro hb
   all_goals rfl
