/-
  The scope of a narration: the program's text.
-/
import Derived.Test.YtgnklbkmfeafaaaGreatDoorUn
set_option maxHeartbeats 0
set_option maxRecDepth 100000
namespace Go.Vm.Seat
variable {R seen:List Zg} {i:Nat} {T:List (Zg×Option Zg)}
open Go.Proofs
abbrev rIt (l:List Zg):List (Zg×Option Zg):=l.map fun s=>(s,none)
abbrev fIt (l:List Fr):List (Zg×Option Zg):=l.map fun f=>(f.name,some f.role)
theorem Zhh {l : List Zg} {x : Zg} (h : l[i]? = some x) :
  itL R seen (rIt (l.drop i)++T)=if nxE seen x false≠0 then nxE seen x false else itL R (seen++ [x]) (rIt (l.drop (i+1))++T):=by
 rw [ZA h]
 show (if itE R seen (x,none)≠0 then _ else _)=_
 rw [ZfV]
 show (if (if nxE seen x false≠0 then nxE seen x false else 0)≠0 then (if nxE seen x false≠0 then nxE seen x false else 0) else _)=_
 by_cases c:nxE seen x false=0
 · simp only [c, ne_eq, not_true_eq_false, if_false]
   rfl
 · simp only [ne_eq,c,not_false_eq_true,if_true]
theorem ZhK {l : List Fr} {x : Fr} (h : l[i]? = some x) :
  itL R seen (fIt (l.drop i)++T)=if nxE seen x.name true≠0 then nxE seen x.name true else if ZU R x.role=false then 13 else itL R (seen++ [x.name]) (fIt (l.drop (i+1))++T):=by
 rw [ZA h]
 show (if itE R seen (x.name,some x.role)≠0 then _ else _)=_
 rw [ZfV]
 show (if (if nxE seen x.name true≠0 then nxE seen x.name true else if ZU R x.role=true then 0 else 13)≠0 then (if nxE seen x.name true≠0 then nxE seen x.name true else if ZU R x.role=true then 0 else 13) else _)=_
 by_cases c:nxE seen x.name true=0
 · cases d : ZU R x.role with
   | true =>
     simp only [c,ne_eq,not_true_eq_false,if_false,if_true,Bool.true_eq_false]
     rfl
   | false =>
     simp only [c,ne_eq,not_true_eq_false,if_false,if_true,Bool.false_eq_true]
     rw [if_pos (by decide)]
 · simp only [ne_eq,c,not_false_eq_true,if_true]
abbrev ZdR (out:PV):Box:= .cells 1 [[out]]
theorem c61 {n:Na} (h:n.Sm):∀ H,CallOk E0 Tryz.prog 61 [.agg n.cells] H (.int .i64 n.dec) H:=by
 have hrl:=h.rl
 have hfl:=h.fl
 have htl:=h.tl
 clear h
 obtain ⟨nm,rn,rs,fn,fr,tn,ts,sn,ss,gn,gs⟩:=n
 simp only [Na.cells,Na.dec,Na.items] at hrl hfl htl ⊢
 have e1:=ZC rs
 have e2:=YI fr
 have e3:=ZC ts
 refine Jw tOk fe61.ok rfl ?_ (by simp only [Zt,Zj])
 repeat' first|refine Ji ?_|refine JJ ?_|refine Jl ?_|refine Jx ?_|refine Jt ?_|refine Jb ?_ ?_|(apply qT (ty:=0);rfl;rfl;rfl)|(apply qF (ty:=0);rfl;rfl;rfl)|refine Jz ?_ ?_|refine Jo ?_|intro hb
 refine Wp.while (fun m2 tm H => ∃ (i : Nat) (base : TM) (seen : List Zg) (out : PV) (lv : List Nat) (nt : Nat), i + m2 = rs.length ∧ seen.length ≤ i ∧ ApV true 1 (Zi seen) out lv nt ∧ itL rs [] (rIt rs ++ (fIt fr ++ rIt ts)) = itL rs seen (rIt (rs.drop i) ++ (fIt fr ++ rIt ts)) ∧
   tm=ovr base [(1,.ptr 0 6 0 0),(4,.fn 103 [.ptr 1 1 0 0]),(16,slV rn 1 (Zi rs)),(17,.int .i64 (rs.length:Int)),(18,.int .i64 (i:Int))]∧H=⟨[naB nm rn rs fn fr tn ts sn ss gn gs,ZdR out],0,lv,nt⟩)
  (fun m2 tm H hI=>?_) rs.length _ _ ⟨0,_,[],_,_,_,by omega,by simp,.nil _ _ rfl,by simp,Zf ⟨rfl,rfl,rfl,Zz (by rw [e1]),rfl,trivial⟩,rfl⟩
 obtain ⟨i,base,seen,out,lv,nt,hi,hsl,hA,hgo,rfl,rfl⟩:=hI
 rw [show (rs.map fun s=>(s,none))++((fr.map fun f=>(f.name,some f.role))++ts.map fun s=>(s,none))=rIt rs++(fIt fr++rIt ts) from rfl,hgo]
 have hlx:=Zn (i:Int) (rs.length:Int)
 by_cases hlt:i<rs.length
 · rw [decide_eq_true (by omega)] at hlx
   obtain ⟨x,hx⟩:∃ x,rs[i]? = some x:=⟨rs[i],by simp⟩
   have hj:=Yf hx
   have hii:=Zy (a:=(i:Int)) (b:=1) (by omega) (by omega)
   rw [show (i:Int)+1=((i+1:Nat):Int) by omega] at hii
   obtain ⟨o2,lv2,nt2,seen2,hc,hA2,hs2⟩:=ZgN (naB nm rn rs fn fr tn ts sn ss gn gs) hA (by omega) x false
   rw [Zhh hx]
   have n1:=ZK (nxE seen x false) 0
   by_cases c:nxE seen x false=0
   · rw [decide_eq_true c] at n1
     rw [if_neg (by omega)]
     rw [hs2 c] at hA2
     generalize nxE seen x false=e at hc n1
     clear hs2 hA
     repeat' first|refine Jc hc ?_|refine Ji ?_|refine JJ ?_|refine Jl ?_|refine Jx ?_|refine Jt ?_|refine Jb ?_ ?_|(apply qT (ty:=0);rfl;rfl;rfl)|(apply qF (ty:=0);rfl;rfl;rfl)|refine Jz ?_ ?_|refine Jo ?_|intro hb
     exact LoopI.go (m2-1) (by omega) ⟨i+1,_,seen++ [x],o2,lv2,nt2,by omega,by simp;omega,hA2,rfl,Zf ⟨rfl,rfl,rfl,rfl,rfl,trivial⟩,rfl⟩
   · rw [decide_eq_false c] at n1
     rw [if_pos c]
     generalize nxE seen x false=e at hc n1 ⊢
     repeat' first|refine Jc hc ?_|refine Ji ?_|refine JJ ?_|refine Jl ?_|refine Jx ?_|refine Jt ?_|refine Jb ?_ ?_|(apply qT (ty:=0);rfl;rfl;rfl)|(apply qF (ty:=0);rfl;rfl;rfl)|refine Jz ?_ ?_|refine Jo ?_|intro hb
     all_goals rfl
 have e:i=rs.length:=by omega
 subst e
 rw [decide_eq_false (by omega)] at hlx
 rw [List.drop_length,show rIt []= [] from rfl,List.nil_append] at hgo ⊢
 have hU:=hA.under
 repeat' first|refine Ji ?_|refine JJ ?_|refine Jl ?_|refine Jx ?_|refine Jt ?_|refine Jb ?_ ?_|(apply qT (ty:=0);rfl;rfl;rfl)|(apply qF (ty:=0);rfl;rfl;rfl)|refine Jz ?_ ?_|refine Jo ?_|intro hb
 generalize itL rs [] (rIt rs++(fIt fr++rIt ts))=Z at hgo
 refine Wp.while (fun m2 tm H => ∃ (i : Nat) (base : TM) (seen2 : List Zg) (out : PV) (lv : List Nat) (nt : Nat), i + m2 = fr.length ∧ seen2.length ≤ 100 + i ∧ ApV true 1 (Zi seen2) out lv nt ∧ itL rs seen (fIt fr ++ rIt ts) = itL rs seen2 (fIt (fr.drop i) ++ rIt ts) ∧
   tm=ovr base [(1,.ptr 0 6 0 0),(4,.fn 103 [.ptr 1 1 0 0]),(30,slV fn 3 (frC fr)),(31,.int .i64 (fr.length:Int)),(32,.int .i64 (i:Int))]∧H=⟨[naB nm rn rs fn fr tn ts sn ss gn gs,ZdR out],0,lv,nt⟩)
  (fun m2 tm H hI=>Wp.drop ?_) fr.length _ _ ⟨0,_,seen,out,lv,nt,by omega,by omega,hA,by simp,Zf ⟨rfl,rfl,rfl,Zz (by rw [e2]),rfl,trivial⟩,rfl⟩
 clear hA hlx hi hlt hsl hU hgo
 obtain ⟨i,base,seen,out,lv,nt,hi,hsl,hA,hgo,rfl,rfl⟩:=hI
 rw [hgo]
 have hlx:=Zn (i:Int) (fr.length:Int)
 by_cases hlt:i<fr.length
 · rw [decide_eq_true (by omega)] at hlx
   obtain ⟨x,hx⟩:∃ x,fr[i]? = some x:=⟨fr[i],by simp⟩
   have hj:=Wb hx
   have hii:=Zy (a:=(i:Int)) (b:=1) (by omega) (by omega)
   rw [show (i:Int)+1=((i+1:Nat):Int) by omega] at hii
   obtain ⟨o2,lv2,nt2,seen2,hc,hA2,hs2⟩:=ZgN (naB nm rn rs fn fr tn ts sn ss gn gs) hA (by omega) x.name true
   have hc:=hc.ext (ext:=[.cells 3 [[.str x.role,.str x.name,.int .i64 x.sort]]]) rfl (by simp [Zo,under]) (by
    show (ZO 2 _&&(ZO 2 _&&true))=true
    rw [X0,show ZO 2 (ZdR out)=true by simp [ZO,Zo,hA.under]];rfl) (Nat.zero_le _)
   have hR:=ZfT (l:=rs) (by omega) x.role rn
   rw [ZhK hx]
   have n1:=ZK (nxE seen x.name true) 0
   by_cases c:nxE seen x.name true=0
   · rw [decide_eq_true c] at n1
     rw [if_neg (by omega)]
     rw [hs2 c] at hA2
     have hU2:=hA2.under
     cases d:ZU rs x.role with
     | false =>
       rw [d] at hR
       rw [if_pos rfl]
       generalize nxE seen x.name true=e at hc n1
       repeat' first|refine Jc hc ?_|refine Jc (hR _) ?_|refine Ji ?_|refine JJ ?_|refine Jl ?_|refine Jx ?_|refine Jt ?_|refine Jb ?_ ?_|(apply qT (ty:=0);rfl;rfl;rfl)|(apply qF (ty:=0);rfl;rfl;rfl)|refine Jz ?_ ?_|refine Jo ?_|intro hb
       all_goals rfl
     | true =>
       rw [d] at hR
       rw [if_neg (by simp)]
       have hg2:itL rs seen (fIt (fr.drop i)++rIt ts)=itL rs (seen++ [x.name]) (fIt (fr.drop (i+1))++rIt ts):=by rw [ZhK hx,if_neg (by omega),if_neg (by rw [d];simp)]
       generalize nxE seen x.name true=e at hc n1
       clear hs2 hA
       repeat' first|refine Jc hc ?_|refine Jc (hR _) ?_|refine Ji ?_|refine JJ ?_|refine Jl ?_|refine Jx ?_|refine Jt ?_|refine Jb ?_ ?_|(apply qT (ty:=0);rfl;rfl;rfl)|(apply qF (ty:=0);rfl;rfl;rfl)|refine Jz ?_ ?_|refine Jo ?_|intro hb
       refine DropQ.go [(1,.ptr 0 6 0 0),(4,.fn 103 [.ptr 1 1 0 0]),(30,slV fn 3 (frC fr)),(31,.int .i64 (fr.length:Int)),(32,.int .i64 ((i+1:Nat):Int))] ⟨rfl,rfl,rfl,rfl,rfl,trivial⟩ ?_ rfl ?_ ?_
       · simp [under,Ze,Zo]
       · show (ZO 2 _ && (ZO 2 _ && true)) = true
         rw [X0,show ZO 2 (ZdR o2)=true by simp [ZO,Zo,hU2]];rfl
       · exact LoopI.go (m2-1) (by omega) ⟨i+1,_,seen++ [x.name],o2,lv2,nt2,by omega,by simp;omega,hA2,rfl,rfl,rfl⟩
   · rw [decide_eq_false c] at n1
     rw [if_pos c]
     generalize nxE seen x.name true=e at hc n1 ⊢
     repeat' first|refine Jc hc ?_|refine Ji ?_|refine JJ ?_|refine Jl ?_|refine Jx ?_|refine Jt ?_|refine Jb ?_ ?_|(apply qT (ty:=0);rfl;rfl;rfl)|(apply qF (ty:=0);rfl;rfl;rfl)|refine Jz ?_ ?_|refine Jo ?_|intro hb
     all_goals rfl
 have e:i=fr.length:=by omega
 subst e
 rw [decide_eq_false (by omega)] at hlx
 rw [List.drop_length,show fIt []= [] from rfl,List.nil_append] at hgo ⊢
 repeat' first|refine Ji ?_|refine JJ ?_|refine Jl ?_|refine Jx ?_|refine Jt ?_|refine Jb ?_ ?_|(apply qT (ty:=0);rfl;rfl;rfl)|(apply qF (ty:=0);rfl;rfl;rfl)|refine Jz ?_ ?_|refine Jo ?_|intro hb
 refine Wp.while (fun m2 tm H => ∃ (i : Nat) (base : TM) (seen2 : List Zg) (out : PV) (lv : List Nat) (nt : Nat), i + m2 = ts.length ∧ seen2.length ≤ 200 + i ∧ ApV true 1 (Zi seen2) out lv nt ∧ itL rs seen (rIt ts) = itL rs seen2 (rIt (ts.drop i)) ∧
   tm=ovr base [(4,.fn 103 [.ptr 1 1 0 0]),(51,slV tn 1 (Zi ts)),(52,.int .i64 (ts.length:Int)),(53,.int .i64 (i:Int))]∧H=⟨[naB nm rn rs fn fr tn ts sn ss gn gs,ZdR out],0,lv,nt⟩)
  (fun m2 tm H hI=>?_) ts.length _ _ ⟨0,_,seen,out,lv,nt,by omega,by omega,hA,by simp,Zf ⟨rfl,rfl,Zz (by rw [e3]),rfl,trivial⟩,rfl⟩
 clear hA hlx hi hlt hsl hgo
 obtain ⟨i,base,seen,out,lv,nt,hi,hsl,hA,hgo,rfl,rfl⟩:=hI
 rw [hgo]
 have hlx:=Zn (i:Int) (ts.length:Int)
 have itT:∀ {seen:List Zg} {i:Nat} {x:Zg},ts[i]? = some x→itL rs seen (rIt (ts.drop i))=if nxE seen x false≠0 then nxE seen x false else itL rs (seen++ [x]) (rIt (ts.drop (i+1))):=fun {seen i x} h=>by
  have:=Zhh (R:=rs) (seen:=seen) (T:=[]) h
  simpa only [List.append_nil] using this
 by_cases hlt:i<ts.length
 · rw [decide_eq_true (by omega)] at hlx
   obtain ⟨x,hx⟩:∃ x,ts[i]? = some x:=⟨ts[i],by simp⟩
   have hj:=Yf hx
   have hii:=Zy (a:=(i:Int)) (b:=1) (by omega) (by omega)
   rw [show (i:Int)+1=((i+1:Nat):Int) by omega] at hii
   obtain ⟨o2,lv2,nt2,seen2,hc,hA2,hs2⟩:=ZgN (naB nm rn rs fn fr tn ts sn ss gn gs) hA (by omega) x false
   rw [itT hx]
   have n1:=ZK (nxE seen x false) 0
   by_cases c:nxE seen x false=0
   · rw [decide_eq_true c] at n1
     rw [if_neg (by omega)]
     rw [hs2 c] at hA2
     have hg2:itL rs seen (rIt (ts.drop i))=itL rs (seen++ [x]) (rIt (ts.drop (i+1))):=by rw [itT hx,if_neg (by omega)]
     generalize nxE seen x false=e at hc n1
     clear hs2 hA itT
     repeat' first|refine Jc hc ?_|refine Ji ?_|refine JJ ?_|refine Jl ?_|refine Jx ?_|refine Jt ?_|refine Jb ?_ ?_|(apply qT (ty:=0);rfl;rfl;rfl)|(apply qF (ty:=0);rfl;rfl;rfl)|refine Jz ?_ ?_|refine Jo ?_|intro hb
     exact LoopI.go (m2-1) (by omega) ⟨i+1,_,seen++ [x],o2,lv2,nt2,by omega,by simp;omega,hA2,rfl,Zf ⟨rfl,rfl,rfl,rfl,trivial⟩,rfl⟩
   · rw [decide_eq_false c] at n1
     rw [if_pos c]
     generalize nxE seen x false=e at hc n1 ⊢
     repeat' first|refine Jc hc ?_|refine Ji ?_|refine JJ ?_|refine Jl ?_|refine Jx ?_|refine Jt ?_|refine Jb ?_ ?_|(apply qT (ty:=0);rfl;rfl;rfl)|(apply qF (ty:=0);rfl;rfl;rfl)|refine Jz ?_ ?_|refine Jo ?_|intro hb
     all_goals rfl
 have e:i=ts.length:=by omega
 subst e
 rw [decide_eq_false (by omega)] at hlx
 rw [List.drop_length,show rIt []= [] from rfl,show itL rs seen []=0 from rfl]
 repeat' first|refine Ji ?_|refine JJ ?_|refine Jl ?_|refine Jx ?_|refine Jt ?_|refine Jb ?_ ?_|(apply qT (ty:=0);rfl;rfl;rfl)|(apply qF (ty:=0);rfl;rfl;rfl)|refine Jz ?_ ?_|refine Jo ?_|intro hb
 all_goals rfl
end Go.Vm.Seat
namespace Go.Vm
variable {n:Na}
def twE (R:List Zg) (a b:Zg):Int:=if ZU R a=false∨ZU R b=false then 13 else if a=b then 1 else 0
theorem ZhH (R N:List Zg) (s:Sp):s.sce R N=if twE R s.frm s.to≠0 then twE R s.frm s.to else s.msg.sc R N:=by
 unfold Sp.sce twE
 by_cases c1:ZU R s.frm=false∨ZU R s.to=false
 · simp only [if_pos c1];rfl
 · simp only [if_neg c1]
   by_cases c2:s.frm=s.to
   · simp only [if_pos c2];rfl
   · simp only [if_neg c2];rfl
theorem Zbk (h:n.syn≠0):n.chk=(0,n.syn):=if_pos h
theorem Zdq (h:n.syn=0) (h2:n.dec≠0):n.chk=(0,n.dec):=by unfold Na.chk;rw [if_neg (by omega),if_pos h2]
theorem ZfW (h:n.syn=0) (h2:n.dec=0):n.chk=if (YT (Sp.sce n.roles n.nms) (·.line) n.steps).2≠0 then YT (Sp.sce n.roles n.nms) (·.line) n.steps else YT (Gl.sce n.roles n.nms) (·.line) n.goals:=by
 unfold Na.chk;rw [if_neg (by omega),if_neg (by omega)]
end Go.Vm
namespace Go.Vm.Seat
open Go.Proofs
theorem ZgA (l:List (Zg×Int)):(mpN l).all (fun x=>Zf2 x.1&&Zf2 x.2)=true:=by
 rw [mpN,List.all_map,List.all_eq_true]
 intro x _
 rfl
theorem Zbx (t:Tm):frzG (.agg t.cells)=some (.agg t.cells):=by
 obtain ⟨k,nm,s,b,kz⟩:=t
 simp [frzG,Tm.cells,Zay]
theorem Zeo (g:Gl):frzG (.agg g.cells)=some (.agg g.cells):=by
 obtain ⟨k,r,w,b,d,ln⟩:=g
 simp only [Gl.cells,frzG,Uy,Yy];rfl
theorem Zcd (rn:Bool) (R:List Zg):ZO 6 (QC rn R)=true:=by simp [ZO,Zo,Ze,under]
theorem c25 {n:Na} (h:n.Sm):∀ H,CallOk E0 Tryz.prog 25 [.agg n.cells] H (.tup [.int .i64 n.chk.1,.int .i64 n.chk.2]) H:=by
 have cV:=c60 h
 have cD:=c61 h
 obtain ⟨l,hky,cN⟩:=c62 h (B0:=naB n.name n.rn n.roles n.fn n.fresh n.tn n.tags n.sn n.steps n.gn n.goals) (X0 _ _ _ _ _ _ _ _ _ _ _ _)
 have hR:n.roles.length≤100:=Nat.le_trans h.rl (by decide)
 have c2:=fun (a b:Zg) (H:Heap) (hb:H.bx[3]? = some (.map (mpN l)))=>Wa (c63 (es:=mpN l) hR n.rn a b) hb (ZgA l) (Yy _ _ _) (rest:=[.str a,.str b]) rfl rfl
 have cT:=fun (t:Tm) (ht:t.Ok) (H:Heap) (hb:H.bx[3]? = some (.map (mpN l)))=>Wa (c64 hR hky n.rn ht) hb (ZgA l) (Yy _ _ _) (rest:=[.agg t.cells]) (by simp only [Zt,Zbx]) rfl
 have cG:=fun (g:Gl) (hl:g.data.length≤1000) (hd:∀ t,t∈g.data→t.Ok) (H:Heap) (hb:H.bx[3]? = some (.map (mpN l)))=>Wa (c65 hR hky n.rn hl hd) hb (ZgA l) (Yy _ _ _) (rest:=[.agg g.cells]) (by simp only [Zt,Zeo]) rfl
 have hss:=h.ss
 have hsl:=h.sl
 have hgs:=h.gs
 have hgl:=h.gl
 clear h
 have n1:=ZK n.syn 0
 have n2:=ZK n.dec 0
 have g1:n.syn≠0→n.chk=(0,n.syn):=Zbk
 have g2:n.syn=0→n.dec≠0→n.chk=(0,n.dec):=Zdq
 have g3:n.syn=0→n.dec=0→n.chk=if (YT (Sp.sce n.roles n.nms) (·.line) n.steps).2≠0 then YT (Sp.sce n.roles n.nms) (·.line) n.steps else YT (Gl.sce n.roles n.nms) (·.line) n.goals:=ZfW
 generalize n.chk=C at g1 g2 g3 ⊢
 generalize n.syn=e at cV n1 g1 g2 g3
 generalize n.dec=e2 at cD n2 g2 g3
 clear hky
 generalize n.nms=N at g3 cT cG
 obtain ⟨nm,rn,rs,fn,fr,tn,ts,sn,ss,gn,gs⟩:=n
 simp only [Na.cells] at cV cD cN c2 cT cG hss hsl hgs hgl g3 ⊢
 have e4:=ZI ss
 have e5:=YR gs
 refine Jw tOk fe25.ok rfl ?_ (by simp only [Zt,Zj])
 by_cases d1:e=0
 case neg=>
  rw [decide_eq_false d1] at n1
  rw [g1 d1]
  clear g1 g2 g3
  repeat' first|refine Jc (cV _) ?_|refine Ji ?_|refine JJ ?_|refine Jl ?_|refine Jx ?_|refine Jt ?_|refine Jb ?_ ?_|(apply qT (ty:=0);rfl;rfl;rfl)|(apply qF (ty:=0);rfl;rfl;rfl)|refine Jz ?_ ?_|refine Jo ?_|intro hb
  all_goals rfl
 rw [decide_eq_true d1] at n1
 by_cases d2:e2=0
 case neg=>
  rw [decide_eq_false d2] at n2
  rw [g2 d1 d2]
  clear g1 g2 g3
  repeat' first|refine Jc (cV _) ?_|refine Jc (cD _) ?_|refine Ji ?_|refine JJ ?_|refine Jl ?_|refine Jx ?_|refine Jt ?_|refine Jb ?_ ?_|(apply qT (ty:=0);rfl;rfl;rfl)|(apply qF (ty:=0);rfl;rfl;rfl)|refine Jz ?_ ?_|refine Jo ?_|intro hb
  all_goals rfl
 rw [decide_eq_true d2] at n2
 rw [g3 d1 d2]
 clear g1 g2 g3
 repeat' first|(apply qCl;rfl;rfl;rfl;rfl;first|exact cV _|exact cD _|exact cN)|refine Ji ?_|refine JJ ?_|refine Jl ?_|refine Jx ?_|refine Jt ?_|refine Jb ?_ ?_|(apply qT (ty:=0);rfl;rfl;rfl)|(apply qF (ty:=0);rfl;rfl;rfl)|refine Jz ?_ ?_|refine Jo ?_|intro hb
 clear cV cD cN n1 n2
 obtain ⟨ers,hers⟩:∃ ers,ers=YT (Sp.sce rs N) (·.line) ss:=⟨_,rfl⟩
 rw [← hers]
 refine Wp.while (fun m2 tm H => ∃ (i : Nat) (base : TM), i + m2 = ss.length ∧ ers = YT (Sp.sce rs N) (·.line) (ss.drop i) ∧ tm = ovr base [(1, .ptr 0 6 0 0), (6, .ptr 5 2 0 0), (26, slV sn 7 (spC ss)), (27, .int .i64 (ss.length : Int)), (28, .int .i64 (i : Int))] ∧
   H=⟨[naB nm rn rs fn fr tn ts sn ss gn gs,naB nm rn rs fn fr tn ts sn ss gn gs,QC rn rs,.map (mpN l),QC rn rs,QC rn rs],0,[],0⟩)
  (fun m2 tm H hI=>Wp.drop ?_) ss.length _ _ ⟨0,_,by omega,by simpa using hers,Zf ⟨rfl,rfl,rfl,Zz (by rw [e4]),rfl,trivial⟩,rfl⟩
 clear hers
 obtain ⟨i,base,hi,hgo,rfl,rfl⟩:=hI
 rw [hgo]
 have hlx:=Zn (i:Int) (ss.length:Int)
 by_cases hlt:i<ss.length
 · rw [decide_eq_true (by omega)] at hlx
   obtain ⟨x,hx⟩:∃ x,ss[i]? = some x:=⟨ss[i],by simp⟩
   have hxl:=hss x (List.mem_of_getElem? hx)
   have hj:=ZX hx
   have hii:=Zy (a:=(i:Int)) (b:=1) (by omega) (by omega)
   rw [show (i:Int)+1=((i+1:Nat):Int) by omega] at hii
   have q2:=c2 x.frm x.to
   rw [show (if ZU rs x.frm=false∨ZU rs x.to=false then (13:Int) else if x.frm=x.to then 1 else 0)=twE rs x.frm x.to from rfl] at q2
   have qT:=cT x.msg hxl.2.2.1
   have hse:=ZhH rs N x
   have z1:=ZbB (twE rs x.frm x.to) 0
   have z2:=ZK (twE rs x.frm x.to) 0
   have z3:=ZK (x.msg.sc rs N) 0
   have hld:=fun e=>Wk (f:=Sp.sce rs N) (ln:=(·.line)) (e:=e) hx
   clear c2 cT cG hxl
   generalize twE rs x.frm x.to=t at q2 hse z1 z2
   generalize x.msg.sc rs N=u at qT hse z3
   by_cases d3:t=0
   · rw [decide_eq_true d3] at z1
     rw [if_neg (by omega)] at hse
     by_cases d4:u=0
     · rw [decide_eq_true d4] at z3
       rw [hld u hse,if_neg (show ¬ (u≠0) by omega)]
       clear hld hse hgo
       obtain ⟨xf,xt,⟨k',nm',s',b',kz'⟩,xl⟩:=x
       simp only [Sp.cells,Tm.cells,List.cons_append,List.nil_append] at hj qT q2
       repeat' first|refine Jc (q2 _ rfl) ?_|refine Jc (qT _ rfl) ?_|refine Ji ?_|refine JJ ?_|refine Jl ?_|refine Jx ?_|refine Jt ?_|refine Jb ?_ ?_|(apply qT (ty:=0);rfl;rfl;rfl)|(apply qF (ty:=0);rfl;rfl;rfl)|refine Jz ?_ ?_|refine Jo ?_|intro hb
       refine DropQ.go [(1,.ptr 0 6 0 0),(6,.ptr 5 2 0 0),(26,slV sn 7 (spC ss)),(27,.int .i64 (ss.length:Int)),(28,.int .i64 ((i+1:Nat):Int))] ⟨rfl,rfl,rfl,rfl,rfl,trivial⟩ ?_ rfl ?_ ?_
       · simp [under,Ze]
       · show (ZO 6 _ && (ZO 6 _ && (ZO 6 _ && (ZO 6 _ && (ZO 6 _ && (ZO 6 _ && true)))))) = true
         rw [X0,Xw,Zcd];rfl
       · exact LoopI.go (m2-1) (by omega) ⟨i+1,_,by omega,rfl,rfl,rfl⟩
     · rw [decide_eq_false d4] at z3
       rw [hld u hse,if_pos d4,if_pos d4]
       clear hld hse hgo
       obtain ⟨xf,xt,⟨k',nm',s',b',kz'⟩,xl⟩:=x
       simp only [Sp.cells,Tm.cells,List.cons_append,List.nil_append] at hj qT q2
       repeat' first|refine Jc (q2 _ rfl) ?_|refine Jc (qT _ rfl) ?_|refine Ji ?_|refine JJ ?_|refine Jl ?_|refine Jx ?_|refine Jt ?_|refine Jb ?_ ?_|(apply qT (ty:=0);rfl;rfl;rfl)|(apply qF (ty:=0);rfl;rfl;rfl)|refine Jz ?_ ?_|refine Jo ?_|intro hb
       all_goals rfl
   · rw [decide_eq_false d3] at z1 z2
     rw [if_pos d3] at hse
     rw [hld t hse,if_pos d3,if_pos d3]
     clear hld hse hgo
     obtain ⟨xf,xt,⟨k',nm',s',b',kz'⟩,xl⟩:=x
     simp only [Sp.cells,Tm.cells,List.cons_append,List.nil_append] at hj qT q2
     repeat' first|refine Jc (q2 _ rfl) ?_|refine Ji ?_|refine JJ ?_|refine Jl ?_|refine Jx ?_|refine Jt ?_|refine Jb ?_ ?_|(apply qT (ty:=0);rfl;rfl;rfl)|(apply qF (ty:=0);rfl;rfl;rfl)|refine Jz ?_ ?_|refine Jo ?_|intro hb
     all_goals rfl
 have e:i=ss.length:=by omega
 subst e
 rw [decide_eq_false (by omega)] at hlx
 rw [List.drop_length,show YT (Sp.sce rs N) (·.line) []=(0,0) from rfl] at hgo ⊢
 rw [if_neg (by simp)]
 repeat' first|refine Ji ?_|refine JJ ?_|refine Jl ?_|refine Jx ?_|refine Jt ?_|refine Jb ?_ ?_|(apply qT (ty:=0);rfl;rfl;rfl)|(apply qF (ty:=0);rfl;rfl;rfl)|refine Jz ?_ ?_|refine Jo ?_|intro hb
 clear hlx hi hlt hgo c2 cT
 obtain ⟨erg,herg⟩:∃ erg,erg=YT (Gl.sce rs N) (·.line) gs:=⟨_,rfl⟩
 rw [← herg]
 refine Wp.while (fun m2 tm H => ∃ (i : Nat) (base : TM), i + m2 = gs.length ∧ erg = YT (Gl.sce rs N) (·.line) (gs.drop i) ∧ tm = ovr base [(6, .ptr 5 2 0 0), (51, slV gn 5 (glC gs)), (52, .int .i64 (gs.length : Int)), (53, .int .i64 (i : Int))] ∧
   H=⟨[naB nm rn rs fn fr tn ts sn ss gn gs,naB nm rn rs fn fr tn ts sn ss gn gs,QC rn rs,.map (mpN l),QC rn rs,QC rn rs],0,[],0⟩)
  (fun m2 tm H hI=>Wp.drop ?_) gs.length _ _ ⟨0,_,by omega,by simpa using herg,Zf ⟨rfl,rfl,Zz (by rw [e5]),rfl,trivial⟩,rfl⟩
 clear herg
 obtain ⟨i,base,hi,hgo,rfl,rfl⟩:=hI
 rw [hgo]
 have hlx:=Zn (i:Int) (gs.length:Int)
 by_cases hlt:i<gs.length
 · rw [decide_eq_true (by omega)] at hlx
   obtain ⟨x,hx⟩:∃ x,gs[i]? = some x:=⟨gs[i],by simp⟩
   have hxl:=hgs x (List.mem_of_getElem? hx)
   have hj:=XO hx
   have hii:=Zy (a:=(i:Int)) (b:=1) (by omega) (by omega)
   rw [show (i:Int)+1=((i+1:Nat):Int) by omega] at hii
   have qG:=cG x (by have:=hxl.2.2.1;omega) (fun t ht=>(hxl.2.2.2 t ht).1)
   have z3:=ZK (x.sce rs N) 0
   have hld:=fun e=>Wk (f:=Gl.sce rs N) (ln:=(·.line)) (e:=e) hx
   clear cG hxl
   rw [hld _ rfl]
   clear hld hgo
   generalize x.sce rs N=u at qG z3 ⊢
   obtain ⟨xk,xr,xw,xb,xd,xl⟩:=x
   simp only [Gl.cells] at hj qG
   by_cases d4:u=0
   · rw [decide_eq_true d4] at z3
     rw [if_neg (show ¬ (u≠0) by omega)]
     repeat' first|refine Jc (qG _ rfl) ?_|refine Ji ?_|refine JJ ?_|refine Jl ?_|refine Jx ?_|refine Jt ?_|refine Jb ?_ ?_|(apply qT (ty:=0);rfl;rfl;rfl)|(apply qF (ty:=0);rfl;rfl;rfl)|refine Jz ?_ ?_|refine Jo ?_|intro hb
     refine DropQ.go [(6,.ptr 5 2 0 0),(51,slV gn 5 (glC gs)),(52,.int .i64 (gs.length:Int)),(53,.int .i64 ((i+1:Nat):Int))] ⟨rfl,rfl,rfl,rfl,trivial⟩ ?_ rfl ?_ ?_
     · simp [under,Ze]
     · show (ZO 6 _ && (ZO 6 _ && (ZO 6 _ && (ZO 6 _ && (ZO 6 _ && (ZO 6 _ && true)))))) = true
       rw [X0,Xw,Zcd];rfl
     · exact LoopI.go (m2-1) (by omega) ⟨i+1,_,by omega,rfl,rfl,rfl⟩
   · rw [decide_eq_false d4] at z3
     rw [if_pos d4]
     repeat' first|refine Jc (qG _ rfl) ?_|refine Ji ?_|refine JJ ?_|refine Jl ?_|refine Jx ?_|refine Jt ?_|refine Jb ?_ ?_|(apply qT (ty:=0);rfl;rfl;rfl)|(apply qF (ty:=0);rfl;rfl;rfl)|refine Jz ?_ ?_|refine Jo ?_|intro hb
     all_goals rfl
 have e:i=gs.length:=by omega
 subst e
 rw [decide_eq_false (by omega)] at hlx
 rw [List.drop_length,show YT (Gl.sce rs N) (·.line) []=(0,0) from rfl]
 repeat' first|refine Ji ?_|refine JJ ?_|refine Jl ?_|refine Jx ?_|refine Jt ?_|refine Jb ?_ ?_|(apply qT (ty:=0);rfl;rfl;rfl)|(apply qF (ty:=0);rfl;rfl;rfl)|refine Jz ?_ ?_|refine Jo ?_|intro hb
 all_goals rfl
