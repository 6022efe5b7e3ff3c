/-
  What is declared, whole; the scope of a narration: the program's text.
-/
import Derived.Test.YtgnklbkmfeafaaaGreatDoorUn
set_option maxHeartbeats 0
set_option maxRecDepth 100000
namespace Go.Vm.Seat
variable {R seen:List Zg} {i:Nat} {T:List (Zg×Option Zg)}
open Go.Proofs
abbrev rIt (l:List Zg):List (Zg×Option Zg):=l.map fun s=>(s,none)
abbrev fIt (l:List Fr):List (Zg×Option Zg):=l.map fun f=>(f.name,some f.role)
theorem ZgK {l : List Zg} {x : Zg} (h : l[i]? = some x) :
  itL R seen (rIt (l.drop i)++T)=if nxE seen x false≠0 then nxE seen x false else itL R (seen++ [x]) (rIt (l.drop (i+1))++T):=by
 rw [Zs h]
 show (if itE R seen (x,none)≠0 then _ else _)=_
 rw [ZeL]
 show (if (if nxE seen x false≠0 then nxE seen x false else 0)≠0 then (if nxE seen x false≠0 then nxE seen x false else 0) else _)=_
 by_cases c:nxE seen x false=0
 · simp only [c, ne_eq, not_true_eq_false, if_false]
   rfl
 · simp only [ne_eq,c,not_false_eq_true,if_true]
theorem ZgQ {l : List Fr} {x : Fr} (h : l[i]? = some x) :
  itL R seen (fIt (l.drop i)++T)=if nxE seen x.name true≠0 then nxE seen x.name true else if ZP R x.role=false then 13 else itL R (seen++ [x.name]) (fIt (l.drop (i+1))++T):=by
 rw [Zs h]
 show (if itE R seen (x.name,some x.role)≠0 then _ else _)=_
 rw [ZeL]
 show (if (if nxE seen x.name true≠0 then nxE seen x.name true else if ZP R x.role=true then 0 else 13)≠0 then (if nxE seen x.name true≠0 then nxE seen x.name true else if ZP R x.role=true then 0 else 13) else _)=_
 by_cases c:nxE seen x.name true=0
 · cases d : ZP R x.role with
   | true =>
     simp only [c,ne_eq,not_true_eq_false,if_false,if_true,Bool.true_eq_false]
     rfl
   | false =>
     simp only [c,ne_eq,not_true_eq_false,if_false,if_true,Bool.false_eq_true]
     rw [if_pos (by decide)]
 · simp only [ne_eq,c,not_false_eq_true,if_true]
abbrev Zdu (out:PV):Box:= .cells 1 [[out]]
theorem c61 {n:Na} (h:n.Sm):∀ H,CallOk E0 Tryz.prog 61 [.agg n.cells] H (.int .i64 n.dec) H:=by
 have hrl:=h.rl
 have hfl:=h.fl
 have htl:=h.tl
 clear h
 obtain ⟨nm,rn,rs,fn,fr,tn,ts,sn,ss,gn,gs⟩:=n
 simp only [Na.cells,Na.dec,Na.items] at hrl hfl htl ⊢
 have e1:=ZA rs
 have e2:=Y9 fr
 have e3:=ZA ts
 refine Jw tOk fe61.ok rfl ?_ (by simp only [Zv,Zl])
 repeat' first|refine Ji ?_|refine JJ ?_|refine Jl ?_|refine Jx ?_|refine Jt ?_|refine Jb ?_ ?_|(apply qT (ty:=0);rfl;rfl;rfl)|(apply qF (ty:=0);rfl;rfl;rfl)|refine Jz ?_ ?_|refine Jo ?_|intro hb
 refine Wp.while (fun m2 tm H => ∃ (i : Nat) (base : TM) (seen : List Zg) (out : PV) (lv : List Nat) (nt : Nat), i + m2 = rs.length ∧ seen.length ≤ i ∧ ApV true 1 (Zo seen) out lv nt ∧ itL rs [] (rIt rs ++ (fIt fr ++ rIt ts)) = itL rs seen (rIt (rs.drop i) ++ (fIt fr ++ rIt ts)) ∧
   tm=ovr base [(1,.ptr 0 6 0 0),(4,.fn 103 [.ptr 1 1 0 0]),(16,slV rn 1 (Zo rs)),(17,.int .i64 (rs.length:Int)),(18,.int .i64 (i:Int))]∧H=⟨[naB nm rn rs fn fr tn ts sn ss gn gs,Zdu out],0,lv,nt⟩)
  (fun m2 tm H hI=>?_) rs.length _ _ ⟨0,_,[],_,_,_,by omega,by simp,.nil _ _ rfl,by simp,Ze ⟨rfl,rfl,rfl,Zt (by rw [e1]),rfl,trivial⟩,rfl⟩
 obtain ⟨i,base,seen,out,lv,nt,hi,hsl,hA,hgo,rfl,rfl⟩:=hI
 rw [show (rs.map fun s=>(s,none))++((fr.map fun f=>(f.name,some f.role))++ts.map fun s=>(s,none))=rIt rs++(fIt fr++rIt ts) from rfl,hgo]
 have hlx:=Zk (i:Int) (rs.length:Int)
 by_cases hlt:i<rs.length
 · rw [decide_eq_true (by omega)] at hlx
   obtain ⟨x,hx⟩:∃ x,rs[i]? = some x:=⟨rs[i],by simp⟩
   have hj:=Z7 hx
   have hii:=Zw (a:=(i:Int)) (b:=1) (by omega) (by omega)
   rw [show (i:Int)+1=((i+1:Nat):Int) by omega] at hii
   obtain ⟨o2,lv2,nt2,seen2,hc,hA2,hs2⟩:=Zf7 (naB nm rn rs fn fr tn ts sn ss gn gs) hA (by omega) x false
   rw [ZgK hx]
   have n1:=ZK (nxE seen x false) 0
   by_cases c:nxE seen x false=0
   · rw [decide_eq_true c] at n1
     rw [if_neg (by omega)]
     rw [hs2 c] at hA2
     generalize nxE seen x false=e at hc n1
     clear hs2 hA
     repeat' first|refine Jc hc ?_|refine Ji ?_|refine JJ ?_|refine Jl ?_|refine Jx ?_|refine Jt ?_|refine Jb ?_ ?_|(apply qT (ty:=0);rfl;rfl;rfl)|(apply qF (ty:=0);rfl;rfl;rfl)|refine Jz ?_ ?_|refine Jo ?_|intro hb
     exact LoopI.go (m2-1) (by omega) ⟨i+1,_,seen++ [x],o2,lv2,nt2,by omega,by simp;omega,hA2,rfl,Ze ⟨rfl,rfl,rfl,rfl,rfl,trivial⟩,rfl⟩
   · rw [decide_eq_false c] at n1
     rw [if_pos c]
     generalize nxE seen x false=e at hc n1 ⊢
     repeat' first|refine Jc hc ?_|refine Ji ?_|refine JJ ?_|refine Jl ?_|refine Jx ?_|refine Jt ?_|refine Jb ?_ ?_|(apply qT (ty:=0);rfl;rfl;rfl)|(apply qF (ty:=0);rfl;rfl;rfl)|refine Jz ?_ ?_|refine Jo ?_|intro hb
     all_goals rfl
 have e:i=rs.length:=by omega
 subst e
 rw [decide_eq_false (by omega)] at hlx
 rw [List.drop_length,show rIt []= [] from rfl,List.nil_append] at hgo ⊢
 have hU:=hA.under
 repeat' first|refine Ji ?_|refine JJ ?_|refine Jl ?_|refine Jx ?_|refine Jt ?_|refine Jb ?_ ?_|(apply qT (ty:=0);rfl;rfl;rfl)|(apply qF (ty:=0);rfl;rfl;rfl)|refine Jz ?_ ?_|refine Jo ?_|intro hb
 generalize itL rs [] (rIt rs++(fIt fr++rIt ts))=Z at hgo
 refine Wp.while (fun m2 tm H => ∃ (i : Nat) (base : TM) (seen2 : List Zg) (out : PV) (lv : List Nat) (nt : Nat), i + m2 = fr.length ∧ seen2.length ≤ 100 + i ∧ ApV true 1 (Zo seen2) out lv nt ∧ itL rs seen (fIt fr ++ rIt ts) = itL rs seen2 (fIt (fr.drop i) ++ rIt ts) ∧
   tm=ovr base [(1,.ptr 0 6 0 0),(4,.fn 103 [.ptr 1 1 0 0]),(30,slV fn 3 (frC fr)),(31,.int .i64 (fr.length:Int)),(32,.int .i64 (i:Int))]∧H=⟨[naB nm rn rs fn fr tn ts sn ss gn gs,Zdu out],0,lv,nt⟩)
  (fun m2 tm H hI=>Wp.drop ?_) fr.length _ _ ⟨0,_,seen,out,lv,nt,by omega,by omega,hA,by simp,Ze ⟨rfl,rfl,rfl,Zt (by rw [e2]),rfl,trivial⟩,rfl⟩
 clear hA hlx hi hlt hsl hU hgo
 obtain ⟨i,base,seen,out,lv,nt,hi,hsl,hA,hgo,rfl,rfl⟩:=hI
 rw [hgo]
 have hlx:=Zk (i:Int) (fr.length:Int)
 by_cases hlt:i<fr.length
 · rw [decide_eq_true (by omega)] at hlx
   obtain ⟨x,hx⟩:∃ x,fr[i]? = some x:=⟨fr[i],by simp⟩
   have hj:=XV hx
   have hii:=Zw (a:=(i:Int)) (b:=1) (by omega) (by omega)
   rw [show (i:Int)+1=((i+1:Nat):Int) by omega] at hii
   obtain ⟨o2,lv2,nt2,seen2,hc,hA2,hs2⟩:=Zf7 (naB nm rn rs fn fr tn ts sn ss gn gs) hA (by omega) x.name true
   have hc:=hc.ext (ext:=[.cells 3 [[.str x.role,.str x.name,.int .i64 x.sort]]]) rfl (by simp [Zp,under]) (by
    show (ZS 2 _&&(ZS 2 _&&true))=true
    rw [Ws,show ZS 2 (Zdu out)=true by simp [ZS,Zp,hA.under]];rfl) (Nat.zero_le _)
   have hR:=ZeQ (l:=rs) (by omega) x.role rn
   rw [ZgQ hx]
   have n1:=ZK (nxE seen x.name true) 0
   by_cases c:nxE seen x.name true=0
   · rw [decide_eq_true c] at n1
     rw [if_neg (by omega)]
     rw [hs2 c] at hA2
     have hU2:=hA2.under
     cases d:ZP rs x.role with
     | false =>
       rw [d] at hR
       rw [if_pos rfl]
       generalize nxE seen x.name true=e at hc n1
       repeat' first|refine Jc hc ?_|refine Jc (hR _) ?_|refine Ji ?_|refine JJ ?_|refine Jl ?_|refine Jx ?_|refine Jt ?_|refine Jb ?_ ?_|(apply qT (ty:=0);rfl;rfl;rfl)|(apply qF (ty:=0);rfl;rfl;rfl)|refine Jz ?_ ?_|refine Jo ?_|intro hb
       all_goals rfl
     | true =>
       rw [d] at hR
       rw [if_neg (by simp)]
       have hg2:itL rs seen (fIt (fr.drop i)++rIt ts)=itL rs (seen++ [x.name]) (fIt (fr.drop (i+1))++rIt ts):=by rw [ZgQ hx,if_neg (by omega),if_neg (by rw [d];simp)]
       generalize nxE seen x.name true=e at hc n1
       clear hs2 hA
       repeat' first|refine Jc hc ?_|refine Jc (hR _) ?_|refine Ji ?_|refine JJ ?_|refine Jl ?_|refine Jx ?_|refine Jt ?_|refine Jb ?_ ?_|(apply qT (ty:=0);rfl;rfl;rfl)|(apply qF (ty:=0);rfl;rfl;rfl)|refine Jz ?_ ?_|refine Jo ?_|intro hb
       refine DropQ.go [(1,.ptr 0 6 0 0),(4,.fn 103 [.ptr 1 1 0 0]),(30,slV fn 3 (frC fr)),(31,.int .i64 (fr.length:Int)),(32,.int .i64 ((i+1:Nat):Int))] ⟨rfl,rfl,rfl,rfl,rfl,trivial⟩ ?_ rfl ?_ ?_
       · simp [under,Zf,Zp]
       · show (ZS 2 _ && (ZS 2 _ && true)) = true
         rw [Ws,show ZS 2 (Zdu o2)=true by simp [ZS,Zp,hU2]];rfl
       · exact LoopI.go (m2-1) (by omega) ⟨i+1,_,seen++ [x.name],o2,lv2,nt2,by omega,by simp;omega,hA2,rfl,rfl,rfl⟩
   · rw [decide_eq_false c] at n1
     rw [if_pos c]
     generalize nxE seen x.name true=e at hc n1 ⊢
     repeat' first|refine Jc hc ?_|refine Ji ?_|refine JJ ?_|refine Jl ?_|refine Jx ?_|refine Jt ?_|refine Jb ?_ ?_|(apply qT (ty:=0);rfl;rfl;rfl)|(apply qF (ty:=0);rfl;rfl;rfl)|refine Jz ?_ ?_|refine Jo ?_|intro hb
     all_goals rfl
 have e:i=fr.length:=by omega
 subst e
 rw [decide_eq_false (by omega)] at hlx
 rw [List.drop_length,show fIt []= [] from rfl,List.nil_append] at hgo ⊢
 repeat' first|refine Ji ?_|refine JJ ?_|refine Jl ?_|refine Jx ?_|refine Jt ?_|refine Jb ?_ ?_|(apply qT (ty:=0);rfl;rfl;rfl)|(apply qF (ty:=0);rfl;rfl;rfl)|refine Jz ?_ ?_|refine Jo ?_|intro hb
 refine Wp.while (fun m2 tm H => ∃ (i : Nat) (base : TM) (seen2 : List Zg) (out : PV) (lv : List Nat) (nt : Nat), i + m2 = ts.length ∧ seen2.length ≤ 200 + i ∧ ApV true 1 (Zo seen2) out lv nt ∧ itL rs seen (rIt ts) = itL rs seen2 (rIt (ts.drop i)) ∧
   tm=ovr base [(4,.fn 103 [.ptr 1 1 0 0]),(51,slV tn 1 (Zo ts)),(52,.int .i64 (ts.length:Int)),(53,.int .i64 (i:Int))]∧H=⟨[naB nm rn rs fn fr tn ts sn ss gn gs,Zdu out],0,lv,nt⟩)
  (fun m2 tm H hI=>?_) ts.length _ _ ⟨0,_,seen,out,lv,nt,by omega,by omega,hA,by simp,Ze ⟨rfl,rfl,Zt (by rw [e3]),rfl,trivial⟩,rfl⟩
 clear hA hlx hi hlt hsl hgo
 obtain ⟨i,base,seen,out,lv,nt,hi,hsl,hA,hgo,rfl,rfl⟩:=hI
 rw [hgo]
 have hlx:=Zk (i:Int) (ts.length:Int)
 have itT:∀ {seen:List Zg} {i:Nat} {x:Zg},ts[i]? = some x→itL rs seen (rIt (ts.drop i))=if nxE seen x false≠0 then nxE seen x false else itL rs (seen++ [x]) (rIt (ts.drop (i+1))):=fun {seen i x} h=>by
  have:=ZgK (R:=rs) (seen:=seen) (T:=[]) h
  simpa only [List.append_nil] using this
 by_cases hlt:i<ts.length
 · rw [decide_eq_true (by omega)] at hlx
   obtain ⟨x,hx⟩:∃ x,ts[i]? = some x:=⟨ts[i],by simp⟩
   have hj:=Z7 hx
   have hii:=Zw (a:=(i:Int)) (b:=1) (by omega) (by omega)
   rw [show (i:Int)+1=((i+1:Nat):Int) by omega] at hii
   obtain ⟨o2,lv2,nt2,seen2,hc,hA2,hs2⟩:=Zf7 (naB nm rn rs fn fr tn ts sn ss gn gs) hA (by omega) x false
   rw [itT hx]
   have n1:=ZK (nxE seen x false) 0
   by_cases c:nxE seen x false=0
   · rw [decide_eq_true c] at n1
     rw [if_neg (by omega)]
     rw [hs2 c] at hA2
     have hg2:itL rs seen (rIt (ts.drop i))=itL rs (seen++ [x]) (rIt (ts.drop (i+1))):=by rw [itT hx,if_neg (by omega)]
     generalize nxE seen x false=e at hc n1
     clear hs2 hA itT
     repeat' first|refine Jc hc ?_|refine Ji ?_|refine JJ ?_|refine Jl ?_|refine Jx ?_|refine Jt ?_|refine Jb ?_ ?_|(apply qT (ty:=0);rfl;rfl;rfl)|(apply qF (ty:=0);rfl;rfl;rfl)|refine Jz ?_ ?_|refine Jo ?_|intro hb
     exact LoopI.go (m2-1) (by omega) ⟨i+1,_,seen++ [x],o2,lv2,nt2,by omega,by simp;omega,hA2,rfl,Ze ⟨rfl,rfl,rfl,rfl,trivial⟩,rfl⟩
   · rw [decide_eq_false c] at n1
     rw [if_pos c]
     generalize nxE seen x false=e at hc n1 ⊢
     repeat' first|refine Jc hc ?_|refine Ji ?_|refine JJ ?_|refine Jl ?_|refine Jx ?_|refine Jt ?_|refine Jb ?_ ?_|(apply qT (ty:=0);rfl;rfl;rfl)|(apply qF (ty:=0);rfl;rfl;rfl)|refine Jz ?_ ?_|refine Jo ?_|intro hb
     all_goals rfl
 have e:i=ts.length:=by omega
 subst e
 rw [decide_eq_false (by omega)] at hlx
 rw [List.drop_length,show rIt []= [] from rfl,show itL rs seen []=0 from rfl]
 repeat' first|refine Ji ?_|refine JJ ?_|refine Jl ?_|refine Jx ?_|refine Jt ?_|refine Jb ?_ ?_|(apply qT (ty:=0);rfl;rfl;rfl)|(apply qF (ty:=0);rfl;rfl;rfl)|refine Jz ?_ ?_|refine Jo ?_|intro hb
 all_goals rfl
