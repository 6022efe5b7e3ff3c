/-
  Terms that are sorted and made compact, exactly; sets of the program's casts.
-/
import Derived.Test.YtcopccjkfbmpcaaGreatDoorQi
set_option maxHeartbeats 0
set_option maxRecDepth 100000
namespace Go.Vm.Seat
variable {i:Nat} {c:Ca} {L:List Tm} {f:FuncId} {bx:List Box} {t u:Tm}
open Go.Proofs
theorem Zqi (b:Bool) {l:List Bs} (h:i<l.length):Xb E0 22 (slV b 1 (Zp l)) none (some (.int .i64 (i:Int))) none=some (slV false 1 (Zp (l.take i))):=by
 rw [← Zhs]
 have hl:=Zw l
 exact Zk3 (E:=E0) (t:=22) (L:=Zp l) (es:=1) rfl rfl rfl rfl b (fun h2=>by rw [h2] at hl;simp at hl;omega) (by omega)
theorem Uf {α:Type} {l:List α} {x:α} (h:l[i]? = some x):l.take (i+1)=l.take i++ [x]:=by rw [List.take_add_one,h];rfl
theorem c22 (hc:c.Sm):∀ H,CallOk E0 Tryz.prog 22 [.agg c.cells] H (.int .i64 c.err) H:=by
 obtain ⟨la,lb,na,nb⟩:=hc
 unfold Ca.err
 obtain ⟨an,ag,bn,bad⟩:=c
 simp only [Ca.cells] at la lb na nb ⊢
 have hsl:=Zw ag
 have hsb:=Zw bad
 have x1:=Z2 ((Zp ag).length:Int) 0
 have x2:=XN ((Zp ag).length:Int) 6
 refine Jw tOk fe22.ok rfl ?_ (by simp only [Zz,frzG,XS,ZC])
 by_cases h0:ag.length=0
 · rw [decide_eq_true (by omega)] at x1
   rw [if_pos h0]
   repeat' first|refine Ji ?_|refine Jl ?_|refine Jt ?_|refine Jo ?_|fail
   all_goals rfl
 rw [decide_eq_false (by omega)] at x1
 rw [if_neg h0]
 by_cases h6:6<ag.length
 · rw [decide_eq_true (by omega)] at x2
   rw [if_pos h6]
   repeat' first|refine Ji ?_|refine Jl ?_|refine Jt ?_|refine Jo ?_|fail
   all_goals rfl
 rw [decide_eq_false (by omega)] at x2
 rw [if_neg h6]
 clear x1 x2
 have x1:=Z2 ((Zp ag).length:Int) 0
 have x2:=XN ((Zp ag).length:Int) 6
 rw [decide_eq_false (by omega)] at x1 x2
 repeat' first|refine Ji ?_|refine Jl ?_|refine Jt ?_|refine Jo ?_|fail
 refine Wp.while (fun m2 tm H=>∃ (i:Nat) (base:TM),i+m2=ag.length∧agE [] ag=agE (ag.take i) (ag.drop i)∧tm=ovr base [(1,.ptr 0 2 0 0),(20,slV an 1 (Zp ag)),(21,.int .i64 (ag.length:Int)),(22,.int .i64 (i:Int))]∧H=⟨[.cells 2 [[slV an 1 (Zp ag),slV bn 1 (Zp bad)]]],0,[],0⟩)
  (fun m2 tm H hI=>?_) ag.length _ _ ⟨0,_,by omega,by simp,Zf ⟨rfl,rfl,Ze (by rw [hsl]),rfl,trivial⟩,rfl⟩
 obtain ⟨i,base,hi,hgo,rfl,rfl⟩:=hI
 rw [hgo]
 by_cases hlt:i<ag.length
 · obtain ⟨a, ha⟩ : ∃ a, ag[i]? = some a := ⟨ag[i], by simp⟩
   have hj:=ZW ha
   have hn:=na a (List.mem_of_getElem? ha)
   have k1:=c47 a
   have k2:=c46 (t:=agT a) (.mk (by decide) (by decide) (by unfold maxLen;omega) (by decide) fun t ht=>by simp at ht) (by simp [agT,Tm.size,Zl])
   rw [ZgX] at k2
   rw [Us] at k1 k2
   have k3:=c48 a
   have k4:=c49 (l:=ag.take i) (by rw [List.length_take];omega) a false
   have hs:=Zqi an hlt
   have hlx:=Zr (i:Int) (ag.length:Int)
   rw [decide_eq_true (by omega)] at hlx
   rw [Zfa ha, ← Uf ha]
   generalize XA a=N at k2 ⊢
   generalize Uy a=D at k3 ⊢
   generalize Xt a (ag.take i)=M at k4 ⊢
   cases N with
   | false =>
     rw [Bool.not_false,Bool.true_or,if_pos rfl]
     repeat' first|refine Jk ?_|refine Jc (k1 _) ?_|refine Jc (k2 _) ?_|refine Ji ?_|refine Jx ?_|refine Jt ?_|refine Jo ?_|fail
     all_goals rfl
   | true =>
     rw [Bool.not_true,Bool.false_or]
     cases D with
     | true =>
       rw [if_pos rfl]
       repeat' first|(apply qCl;rfl;rfl;rfl;rfl;first|exact k1 _|exact k2 _|exact k3 _)|refine Ji ?_|refine Jx ?_|refine Jt ?_|refine Jo ?_|fail
       all_goals rfl
     | false =>
       rw [if_neg (by simp)]
       cases M with
       | true =>
         rw [if_pos rfl]
         repeat' first|(apply qCl;rfl;rfl;rfl;rfl;first|exact k1 _|exact k2 _|exact k3 _|exact k4 _)|refine JS ?_|refine Ji ?_|refine Jx ?_|refine Jt ?_|refine Jo ?_|fail
         all_goals rfl
       | false =>
         rw [if_neg (by simp)]
         repeat' first|(apply qCl;rfl;rfl;rfl;rfl;first|exact k1 _|exact k2 _|exact k3 _|exact k4 _)|refine JS ?_|refine Ji ?_|refine Jx ?_|refine Jt ?_|refine Jo ?_|fail
         exact LoopI.go (m2-1) (by omega) ⟨i+1,_,by omega,rfl,Zf ⟨rfl,rfl,rfl,Ze (Zd (n:=i+1) (by omega)),trivial⟩,rfl⟩
 · have e : i = ag.length := by omega
   subst e
   have hlx:=Zr (ag.length:Int) (ag.length:Int)
   rw [decide_eq_false (by omega)] at hlx
   rw [List.drop_length,List.take_length,show agE ag []=0 from rfl,if_neg (by simp)]
   repeat' first|refine Ji ?_|refine Jl ?_|refine Jo ?_|fail
   clear hgo hlx
   refine Wp.while (fun m2 tm H=>∃ (i:Nat) (base:TM) (last:Int),i+m2=bad.length∧bdE ag bad (-1)=bdE ag (bad.drop i) last∧tm=ovr base [(1,.ptr 0 2 0 0),(5,.int .i64 last),(43,slV bn 1 (Zp bad)),(44,.int .i64 (bad.length:Int)),(45,.int .i64 (i:Int))]∧H=⟨[.cells 2 [[slV an 1 (Zp ag),slV bn 1 (Zp bad)]]],0,[],0⟩)
    (fun m2 tm H hI=>?_) bad.length _ _ ⟨0,_, -1,by omega,by simp,Zf ⟨rfl,rfl,rfl,Ze (by rw [hsb]),rfl,trivial⟩,rfl⟩
   obtain ⟨i,base,last,hi,hgo,rfl,rfl⟩:=hI
   rw [hgo]
   by_cases hlt:i<bad.length
   · obtain ⟨a, ha⟩ : ∃ a, bad[i]? = some a := ⟨bad[i], by simp⟩
     have hj:=ZW ha
     have k1:=c50 (l:=ag) (by omega) a an
     have hlx:=Zr (i:Int) (bad.length:Int)
     rw [decide_eq_true (by omega)] at hlx
     rw [ZfO ha]
     generalize ixS a ag 0=K at k1 ⊢
     have y1:=Zr K 0
     have y2:=WL K last
     by_cases c1:K<0
     · rw [decide_eq_true c1] at y1
       rw [if_pos c1]
       repeat' first|refine Jc (k1 _) ?_|refine Ji ?_|refine Jx ?_|refine Jo ?_|fail
       all_goals rfl
     rw [decide_eq_false c1] at y1
     rw [if_neg c1]
     by_cases c2:K≤last
     · rw [decide_eq_true c2] at y2
       rw [if_pos c2]
       repeat' first|refine Jc (k1 _) ?_|refine Ji ?_|refine Jx ?_|refine Jo ?_|fail
       all_goals rfl
     rw [decide_eq_false c2] at y2
     rw [if_neg c2]
     repeat' first|refine Jc (k1 _) ?_|refine Ji ?_|refine Jx ?_|refine Jo ?_|fail
     exact LoopI.go (m2-1) (by omega) ⟨i+1,_,_,by omega,rfl,Zf ⟨rfl,rfl,rfl,rfl,Ze (Zd (n:=i+1) (by omega)),trivial⟩,rfl⟩
   · have e : i = bad.length := by omega
     subst e
     have hlx:=Zr (bad.length:Int) (bad.length:Int)
     rw [decide_eq_false (by omega)] at hlx
     rw [List.drop_length]
     repeat' first|refine Ji ?_|refine Jo ?_|fail
     all_goals rfl
theorem c31 (hc:c.Sm):∀ H,CallOk E0 Tryz.prog 31 [.agg c.cells] H (.int .i64 c.err) H:=by
 obtain ⟨la,lb,na,nb⟩:=hc
 unfold Ca.err
 obtain ⟨an,ag,bn,bad⟩:=c
 simp only [Ca.cells] at la lb na nb ⊢
 have hsl:=Zw ag
 have hsb:=Zw bad
 have x1:=Z2 ((Zp ag).length:Int) 0
 have x2:=XN ((Zp ag).length:Int) 6
 refine Jw tOk fe31.ok rfl ?_ (by simp only [Zz,frzG,XS,ZC])
 by_cases h0:ag.length=0
 · rw [decide_eq_true (by omega)] at x1
   rw [if_pos h0]
   repeat' first|refine Ji ?_|refine Jl ?_|refine Jo ?_|fail
   all_goals rfl
 rw [decide_eq_false (by omega)] at x1
 rw [if_neg h0]
 by_cases h6:6<ag.length
 · rw [decide_eq_true (by omega)] at x2
   rw [if_pos h6]
   repeat' first|refine Ji ?_|refine Jl ?_|refine Jo ?_|fail
   all_goals rfl
 rw [decide_eq_false (by omega)] at x2
 rw [if_neg h6]
 repeat' first|refine Ji ?_|refine Jl ?_|refine Jo ?_|fail
 refine Wp.while (fun m2 tm H=>∃ (i:Nat) (base:TM),i+m2=ag.length∧agE [] ag=agE (ag.take i) (ag.drop i)∧tm=ovr base [(1,.ptr 0 2 0 0),(3,.int .i64 (i:Int))]∧H=⟨[.cells 2 [[slV an 1 (Zp ag),slV bn 1 (Zp bad)]]],0,[],0⟩)
  (fun m2 tm H hI=>?_) ag.length _ _ ⟨0,_,by omega,by simp,Zf ⟨rfl,rfl,trivial⟩,rfl⟩
 obtain ⟨i,base,hi,hgo,rfl,rfl⟩:=hI
 rw [hgo]
 by_cases hlt:i<ag.length
 · obtain ⟨a, ha⟩ : ∃ a, ag[i]? = some a := ⟨ag[i], by simp⟩
   have hj:=ZW ha
   have hn:=na a (List.mem_of_getElem? ha)
   have k2:=c59 a (by unfold maxLen;omega)
   have k3:=c60 hn
   have k4:=c61 (l:=ag.take i) (by rw [List.length_take];omega) a false
   have hs:=Zqi an hlt
   have hlx:=Zr (i:Int) ((Zp ag).length:Int)
   rw [decide_eq_true (by omega)] at hlx
   rw [Zfa ha, ← Uf ha]
   unfold Xt
   generalize XA a=N at k2 ⊢
   generalize Uy a=D at k3 ⊢
   have y1:=Xd (ixS a (ag.take i) 0) 0
   generalize ixS a (ag.take i) 0=K at k4 y1 ⊢
   generalize decide (0≤K)=M at y1 ⊢
   cases N with
   | false =>
     rw [Bool.not_false,Bool.true_or,if_pos rfl]
     repeat' first|refine Jk ?_|refine Jc (k2 _) ?_|refine Ji ?_|refine Jl ?_|refine Jx ?_|refine Jt ?_|refine Jo ?_|fail
     all_goals rfl
   | true =>
     rw [Bool.not_true,Bool.false_or]
     cases D with
     | true =>
       rw [if_pos rfl]
       repeat' first|refine Jc (k2 _) ?_|refine Jc (k3 _) ?_|refine Ji ?_|refine Jl ?_|refine Jx ?_|refine Jt ?_|refine Jo ?_|fail
       all_goals rfl
     | false =>
       rw [if_neg (by simp)]
       cases M with
       | true =>
         rw [if_pos rfl]
         repeat' first|refine Jc (k2 _) ?_|refine Jc (k3 _) ?_|refine Ji ?_|refine Jl ?_|refine Jx ?_|refine Jt ?_|refine Jo ?_|refine Jd (k4 _) ?_|(apply dSl;rfl;rfl;rfl;rfl;rfl;rfl;assumption;exact IsV.any _;rfl)|refine JD ?_|refine JI ?_|refine Jh ?_|(apply Wp.draw tOk follows;kernel_rfl)|fail
         all_goals rfl
       | false =>
         rw [if_neg (by simp)]
         repeat' first|refine Jc (k2 _) ?_|refine Jc (k3 _) ?_|refine Ji ?_|refine Jl ?_|refine Jx ?_|refine Jt ?_|refine Jo ?_|refine Jd (k4 _) ?_|(apply dSl;rfl;rfl;rfl;rfl;rfl;rfl;assumption;exact IsV.any _;rfl)|refine JD ?_|refine JI ?_|refine Jh ?_|(apply Wp.draw tOk follows;kernel_rfl)|fail
         exact LoopI.go (m2-1) (by omega) ⟨i+1,_,by omega,rfl,Zf ⟨rfl,Ze (Zd (n:=i+1) (by omega)),trivial⟩,rfl⟩
 · have e : i = ag.length := by omega
   subst e
   have hlx:=Zr (ag.length:Int) ((Zp ag).length:Int)
   rw [decide_eq_false (by omega)] at hlx
   rw [List.drop_length,List.take_length,show agE ag []=0 from rfl,if_neg (by simp)]
   repeat' first|refine Ji ?_|refine Jl ?_|refine Jo ?_|fail
   clear hgo hlx
   refine Wp.while (fun m2 tm H=>∃ (i:Nat) (base:TM) (last:Int),i+m2=bad.length∧bdE ag bad (-1)=bdE ag (bad.drop i) last∧tm=ovr base [(1,.ptr 0 2 0 0),(4,.int .i64 last),(5,.int .i64 (i:Int))]∧H=⟨[.cells 2 [[slV an 1 (Zp ag),slV bn 1 (Zp bad)]]],0,[],0⟩)
    (fun m2 tm H hI=>?_) bad.length _ _ ⟨0,_, -1,by omega,by simp,Zf ⟨rfl,rfl,rfl,trivial⟩,rfl⟩
   obtain ⟨i,base,last,hi,hgo,rfl,rfl⟩:=hI
   rw [hgo]
   by_cases hlt:i<bad.length
   · obtain ⟨a, ha⟩ : ∃ a, bad[i]? = some a := ⟨bad[i], by simp⟩
     have hj:=ZW ha
     have k1:=c61 (l:=ag) (by omega) a an
     have hlx:=Zr (i:Int) ((Zp bad).length:Int)
     rw [decide_eq_true (by omega)] at hlx
     rw [ZfO ha]
     generalize ixS a ag 0=K at k1 ⊢
     have y1:=Zr K 0
     have y2:=WL K last
     by_cases c1:K<0
     · rw [decide_eq_true c1] at y1
       rw [if_pos c1]
       repeat' first|refine Ji ?_|refine Jl ?_|refine Jo ?_|refine Jd (k1 _) ?_|refine JI ?_|refine Jh ?_|(apply Wp.draw tOk follows;kernel_rfl)|fail
       all_goals rfl
     rw [decide_eq_false c1] at y1
     rw [if_neg c1]
     by_cases c2:K≤last
     · rw [decide_eq_true c2] at y2
       rw [if_pos c2]
       repeat' first|refine Ji ?_|refine Jl ?_|refine Jo ?_|refine Jd (k1 _) ?_|refine JI ?_|refine Jh ?_|(apply Wp.draw tOk follows;kernel_rfl)|fail
       all_goals rfl
     rw [decide_eq_false c2] at y2
     rw [if_neg c2]
     repeat' first|refine Ji ?_|refine Jl ?_|refine Jo ?_|refine Jd (k1 _) ?_|refine JI ?_|refine Jh ?_|(apply Wp.draw tOk follows;kernel_rfl)|fail
     exact LoopI.go (m2-1) (by omega) ⟨i+1,_,_,by omega,rfl,Zf ⟨rfl,rfl,Ze (Zd (n:=i+1) (by omega)),trivial⟩,rfl⟩
   · have e : i = bad.length := by omega
     subst e
     have hlx:=Zr (bad.length:Int) ((Zp bad).length:Int)
     rw [decide_eq_false (by omega)] at hlx
     rw [List.drop_length]
     repeat' first|refine Ji ?_|refine Jl ?_|refine Jo ?_|fail
     all_goals rfl
theorem ZjJ (h:L≠ []):kpF L 1=L.take 1:=by
 cases L with
 |nil=>exact absurd rfl h
 |cons a r=>rw [Zlb];rfl
def ZmV (id:Nat) (bx:List Box) (L:List Tm) (r:PV) (H:Heap):Prop:=∃ D:List (List PV),r= .own id 4 0 (kpF L L.length).length∧H=⟨bx.set id (.cells 4 (Za (kpF L L.length)++D)),0,[],0⟩
theorem Zkr {id : Nat} (hid : bx[id]? = some (.cells 4 (Za L))) (hcmp : ∀ x y, x ∈ L → y ∈ L → ∀ H, CallOk E0 Tryz.prog f [.agg x.cells, .agg y.cells] H (.bool (decide (x.cmp y = 0))) H) (hlen : L.length ≤ 100000) (hne : L ≠ []) :
  ∃ r H',CallOk E0 Tryz.prog 29 [.own id 4 0 L.length,.fn f []] ⟨bx,0,[],0⟩ r H'∧ZmV id bx L r H':=by
 have hlt:=Zv hid
 have hself:bx.set id (.cells 4 (Za L))=bx:=by
  refine List.ext_getElem? fun k=>?_
  rw [List.getElem?_set]
  split
  · rename_i e
    subst e
    first
     | exact hid.symm
     | (rw [if_pos hlt];exact hid.symm)
  · rfl
 refine ZP (own:=fun _=>false) tOk fe29.ok ?_
 refine Wp.seq ?_
 have hblt:∀ b:Box,Nat.blt id (bx.set id b).length=true:=fun b=>by rw [List.length_set];exact Nat.ble_eq_true_of_le hlt
 have hsame:kpF L L.length=L→ZmV id bx L (.own id 4 0 L.length) ⟨bx,0,[],0⟩:=fun h=>⟨[],by rw [h],by rw [h,List.append_nil,hself]⟩
 repeat' first|refine Jb ?_ ?_|refine Jo ?_|intro hb
 · refine RetR.ret rfl (hsame ?_)
   have h1:L.length=1:=by
    have:=List.length_pos_iff.2 hne
    have:L.length<2:=by simp at hb;omega
    omega
   obtain ⟨a,rfl⟩:=List.length_eq_one_iff.1 h1
   rfl
 have h2:2≤L.length:=by simp at hb;omega
 refine Wp.while (fun m tm H=>∃ (k:Nat) (base:TM),k+m=L.length∧1≤k∧kpF L k=L.take k∧tm=ovr base [(0,.own id 4 0 L.length),(1,.fn f []),(5,.int .i64 (k:Int))]∧H=⟨bx,0,[],0⟩)
  (fun m tm H hI=>?_) (L.length-1) _ _ ⟨1,_,by omega,by omega,ZjJ hne,Zf ⟨rfl,rfl,rfl,trivial⟩,rfl⟩
 obtain ⟨k,base,hi,hk1,hkp,rfl,rfl⟩:=hI
 by_cases hklt:k<L.length
 · obtain ⟨x, hx⟩ : ∃ x, L[k]? = some x := ⟨L[k], by simp⟩
   obtain ⟨y,hy⟩:∃ y,L[k-1]? = some y:=⟨L[k-1]'(by omega),by simp⟩
   have hnb:nth bx id=some (.cells 4 (Za L)):=(Zs _ _).trans hid
   have hwr:IntKind.i64.wrap ((k:Int)-1)=((k-1:Nat):Int):=by
    rw [show (k:Int)-1=((k-1:Nat):Int) by omega]
    exact IntWalk.i64_in _ (by omega)
   have hi1:=Ql (id:=id) (ix:=0) (len:=L.length) hklt
   have hi2:ZB E0 29 (.own id 4 0 L.length) (.int .i64 (IntKind.i64.wrap ((k:Int)-1)))=some (.ptr id 4 (0+(k-1)) 0):=by rw [hwr];exact Ql (by omega)
   have hl1:Yh E0 48 (.ptr id 4 (0+k) 0) ⟨bx,0,[],0⟩=some (.agg x.cells):=by rw [Nat.zero_add];exact ZbY hnb hx
   have hl2:Yh E0 48 (.ptr id 4 (0+(k-1)) 0) ⟨bx,0,[],0⟩=some (.agg y.cells):=by rw [Nat.zero_add];exact ZbY hnb hy
   have hc:=hcmp x y (List.mem_of_getElem? hx) (List.mem_of_getElem? hy)
   have hsn:=Zd8 (by omega) hx hy
   rw [hkp] at hsn
   have hBB:∃ B,B=decide (x.cmp y=0):=⟨_,rfl⟩
   obtain ⟨B,hB⟩:=hBB
   rw [← hB] at hc
   have hsl:=ZjI (id:=id) (Nat.le_of_lt hklt)
   have hblt0:Nat.blt id bx.length=true:=by have:=hblt (.cells 4 (Za L));rwa [hself] at this
   cases B with
   | false =>
     repeat' first|refine Jb ?_ ?_|refine Jo ?_|refine Jd (hc _) ?_|refine JK ?_|(apply dLd;rfl;rfl;rfl;assumption;exact IsV.any _;(first|rfl|(show Nat.blt _ _=true;first|assumption|(simp [Nat.blt];done))))|refine Jh ?_|(apply Wp.draw tOk follows;kernel_rfl)|intro hb
     · have hsn2 : kpF L (k + 1) = L.take (k + 1) := by
         rw [hsn,if_neg (of_decide_eq_false hB.symm),List.take_add_one,hx];rfl
       exact LoopI.go (m-1) (by omega) ⟨k+1,_,by omega,by omega,hsn2,Zf ⟨rfl,rfl,Ze (Zd (n:=k+1) (by omega)),trivial⟩,rfl⟩
     · exfalso;simp at hb;omega
   | true =>
     repeat' first|refine JS ?_|refine Jb ?_ ?_|refine Jo ?_|refine Jd (hc _) ?_|refine JK ?_|(apply dLd;rfl;rfl;rfl;assumption;exact IsV.any _;(first|rfl|(show Nat.blt _ _=true;first|assumption|(simp [Nat.blt];done))))|refine Jh ?_|(apply Wp.draw tOk follows;kernel_rfl)|intro hb
     rotate_left
     · exfalso;simp at hb;omega
     rw [if_pos (of_decide_eq_true hB.symm),List.append_nil] at hsn
     clear hc hl1 hl2 hi1 hi2 hx hy hwr hB
     refine Wp.while (fun m2 tm H => ∃ (kk k2 : Nat) (M : List Tm) (base : TM), k + k2 + m2 = L.length ∧ k ≤ kk ∧ kk < k + k2 ∧ M.length = L.length ∧ (∀ x, x ∈ M → x ∈ L) ∧ kpF L (k + k2) = M.take kk ∧ (∀ j, k + k2 - 1 ≤ j → M[j]? = L[j]?) ∧
       tm=ovr base [(0,.own id 4 0 L.length),(1,.fn f []),(5,.int .i64 (kk:Int)),(6,.own id 4 (0+k) (L.length-k)),(7,.int .i64 (k2:Int))]∧H=⟨bx.set id (.cells 4 (Za M)),0,[],0⟩)
      (fun m2 tm H hI=>?_) (L.length-k-1) _ _ ⟨k,1,L,_,by omega,by omega,by omega,rfl,fun _ h=>h,hsn,fun _ _=>rfl,Zf ⟨rfl,rfl,rfl,rfl,rfl,trivial⟩,by rw [hself]⟩
     obtain ⟨kk,k2,M,base2,hi2,hk2,hk3,hM,hMm,hkM,hrest,rfl,rfl⟩:=hI
     have hnb:nth (bx.set id (.cells 4 (Za M))) id=some (.cells 4 (Za M)):=by rw [Zs];simp [hlt]
     by_cases hlt2:k2<L.length-k
     · obtain ⟨x, hx⟩ : ∃ x, M[k + k2]? = some x := ⟨M[k + k2]'(by omega), by simp⟩
       obtain ⟨y,hy⟩:∃ y,M[k+(k2-1)]? = some y:=⟨M[k+(k2-1)]'(by omega),by simp⟩
       obtain ⟨u,hu⟩:∃ u,M[kk]? = some u:=⟨M[kk]'(by omega),by simp⟩
       have hwr:IntKind.i64.wrap ((k2:Int)-1)=((k2-1:Nat):Int):=by
        rw [show (k2:Int)-1=((k2-1:Nat):Int) by omega]
        exact IntWalk.i64_in _ (by omega)
       have hi1:=Ql (id:=id) (ix:=0+k) hlt2
       have hi2:ZB E0 29 (.own id 4 (0+k) (L.length-k)) (.int .i64 (IntKind.i64.wrap ((k2:Int)-1)))=some (.ptr id 4 (0+k+(k2-1)) 0):=by rw [hwr];exact Ql (by omega)
       have hi3:=Ql (id:=id) (ix:=0) (len:=L.length) (j:=kk) (by omega)
       have hl1:Yh E0 48 (.ptr id 4 (0+k+k2) 0) ⟨bx.set id (.cells 4 (Za M)),0,[],0⟩=some (.agg x.cells):=by rw [Nat.zero_add];exact ZbY hnb hx
       have hl2:Yh E0 48 (.ptr id 4 (0+k+(k2-1)) 0) ⟨bx.set id (.cells 4 (Za M)),0,[],0⟩=some (.agg y.cells):=by rw [Nat.zero_add];exact ZbY hnb hy
       have hc:=hcmp x y (hMm x (List.mem_of_getElem? hx)) (hMm y (List.mem_of_getElem? hy))
       have hLx:L[k+k2]? = some x:=by rw [← hrest _ (by omega)];exact hx
       have hLy:L[k+k2-1]? = some y:=by rw [← hrest _ (by omega),show k+k2-1=k+(k2-1) by omega];exact hy
       have hsn3:=Zd8 (by omega) hLx hLy
       rw [hkM] at hsn3
       have hBB:∃ B,B=decide (x.cmp y=0):=⟨_,rfl⟩
       obtain ⟨B,hB⟩:=hBB
       rw [← hB] at hc
       have hst:Heap.wr ⟨bx.set id (.cells 4 (Za M)),0,[],0⟩ (.ptr id 4 (0+kk) 0) x.cells=some ⟨bx.set id (.cells 4 (Za (M.set kk x))),0,[],0⟩:=by
        rw [Nat.zero_add,Zmx hnb hu (Nat.zero_le _),List.set_set]
       have hblt2:=hblt (.cells 4 (Za M))
       have hset:∀ z,z∈M.set kk x→z∈L:=fun z hz=>by
        rcases List.mem_or_eq_of_mem_set hz with h|h
        · exact hMm z h
        · rw [h];exact hMm x (List.mem_of_getElem? hx)
       have hA1:B=false→kpF L (k+(k2+1))=(M.set kk x).take (kk+1):=fun h=>by
        rw [show k+(k2+1)=k+k2+1 by omega,hsn3,if_neg (of_decide_eq_false (hB.symm.trans h)),List.take_add_one,List.getElem?_set_self (by omega),List.take_set_of_le (Nat.le_refl _)];rfl
       have hA2:∀ j,k+(k2+1)-1≤j→(M.set kk x)[j]? = L[j]? :=fun j hj=>by
        rw [List.getElem?_set_ne (by omega)];exact hrest j (by omega)
       have hA3:B=true→kpF L (k+(k2+1))=M.take kk:=fun h=>by
        rw [show k+(k2+1)=k+k2+1 by omega,hsn3,if_pos (of_decide_eq_true (hB.symm.trans h)),List.append_nil]
       have hA4:∀ j,k+(k2+1)-1≤j→M[j]? = L[j]? :=fun j hj=>hrest j (by omega)
       clear hB hsn3 hLx hLy
       obtain ⟨k',nm',s',b',kz'⟩:=x
       simp only [Tm.cells] at hst hl1 hc
       cases B with
       | false =>
         repeat' first|refine JJ ?_|(apply qLd;rfl;rfl;rfl;assumption;exact IsV.any _)|refine Jb ?_ ?_|refine Jo ?_|refine Jd (hc _) ?_|refine JK ?_|(apply dLd;rfl;rfl;rfl;assumption;exact IsV.any _;(first|rfl|(show Nat.blt _ _=true;first|assumption|(simp [Nat.blt];done))))|(apply dT (ty:=4);rfl;rfl;rfl;rfl)|refine Jh ?_|(apply Wp.draw tOk follows;kernel_rfl)|intro hb
         · exact LoopI.go (m2-1) (by omega) ⟨kk+1,k2+1,_,_,by omega,by omega,by omega,by rw [List.length_set];exact hM,hset,hA1 rfl,hA2,Zf ⟨rfl,rfl,Ze (Zd (n:=kk+1) (by omega)),rfl,Ze (Zd (n:=k2+1) (by omega)),trivial⟩,rfl⟩
         · exfalso;simp at hb;omega
       | true =>
         repeat' first|refine Jb ?_ ?_|refine Jo ?_|refine Jd (hc _) ?_|refine JK ?_|(apply dLd;rfl;rfl;rfl;assumption;exact IsV.any _;(first|rfl|(show Nat.blt _ _=true;first|assumption|(simp [Nat.blt];done))))|(apply dF (ty:=4);rfl;rfl;rfl;rfl)|refine Jh ?_|(apply Wp.draw tOk follows;kernel_rfl)|intro hb
         · exact LoopI.go (m2-1) (by omega) ⟨kk,k2+1,M,_,by omega,by omega,by omega,hM,hMm,hA3 rfl,hA4,Zf ⟨rfl,rfl,rfl,rfl,Ze (Zd (n:=k2+1) (by omega)),trivial⟩,rfl⟩
         · exfalso;simp at hb;omega
     · have e2 : k2 = L.length - k := by omega
       subst e2
       have hsl2:=ZjI (id:=id) (k:=kk) (n:=L.length) (by omega)
       have hsl3:=Zny (id:=id) (k:=kk) (n:=L.length) (by omega)
       have hclr:∃ D,U6 E0 29 (.own id 4 (0+kk) (L.length-kk)) ⟨bx.set id (.cells 4 (Za M)),0,[],0⟩=some (.tup [],⟨bx.set id (.cells 4 (Za (M.take kk)++D)),0,[],0⟩):=by
        have h:=ZfM (E:=E0) (t:=29) (e:=48) (es:=4) (el:=Za M) (ix:=0+kk) (len:=L.length-kk) (H:=⟨bx.set id (.cells 4 (Za M)),0,[],0⟩) rfl rfl rfl rfl rfl (by decide) rfl hnb (Nat.zero_le _) (by rw [Zb];omega)
        rw [List.set_set,Nat.zero_add,Zbe] at h
        rw [Nat.zero_add]
        exact ⟨_,h⟩
       obtain ⟨D,hclr⟩:=hclr
       have hlt3:(M.take kk).length=kk:=by rw [List.length_take];omega
       repeat' first|refine JS ?_|(apply Zqu;rfl;rfl;assumption)|refine Jb ?_ ?_|refine Jo ?_|refine Jh ?_|(apply Wp.draw tOk follows;kernel_rfl)|intro hb
       · exfalso;simp at hb
       · have hfin : kpF L L.length = M.take kk := by rw [← hkM, show k + (L.length - k) = L.length by omega]
         refine RetR.ret rfl ⟨D,by rw [hfin,hlt3];rfl,by rw [hfin]⟩
 · have e : k = L.length := by omega
   subst e
   repeat' first|refine Jb ?_ ?_|refine Jo ?_|refine Jh ?_|(apply Wp.draw tOk follows;kernel_rfl)|intro hb
   · exfalso;simp at hb
   · refine RetR.ret rfl (hsame ?_)
     rw [hkp,List.take_length]
theorem ZsJ (ht:t.Ok) (hu:u.Ok) (h1:t.size<4611686018427387904) (h2:u.size<4611686018427387904):∀ H,CallOk E0 Tryz.prog 120 [.agg t.cells,.agg u.cells] H (.bool (decide (t.cmp u=0))) H:=by
 have hc:=fun H=>ZlX (d28 ht hu h1 h2 H)
 have he:=Z2 (t.cmp u) 0
 generalize decide (t.cmp u=0)=D at he ⊢
 generalize t.cmp u=c at hc he
 obtain ⟨k,nm,s,b,kz⟩:=t
 obtain ⟨k',nm',s',b',kz'⟩:=u
 simp only [Tm.cells] at hc ⊢
 refine Jw tOk fe120.ok rfl ?_
 repeat' first|refine Jc (hc _) ?_|refine Ji ?_|refine Jt ?_|refine Jo ?_|fail
 all_goals rfl
theorem c30 (ht:t.Ok) (hu:u.Ok) (h1:t.size<4611686018427387904) (h2:u.size<4611686018427387904):∀ H,CallOk E0 Tryz.prog 30 [.agg t.cells,.agg u.cells] H (.bool (decide (t.cmp u=0))) H:=by
 have hc:=fun H=>ZlX (d28 ht hu h1 h2 H)
 have he:=Z2 (t.cmp u) 0
 generalize decide (t.cmp u=0)=D at he ⊢
 generalize t.cmp u=c at hc he
 obtain ⟨k,nm,s,b,kz⟩:=t
 obtain ⟨k',nm',s',b',kz'⟩:=u
 simp only [Tm.cells] at hc ⊢
 refine Jw tOk fe30.ok rfl ?_
 repeat' first|refine Jc (hc _) ?_|refine Ji ?_|refine Jt ?_|refine Jo ?_|fail
 all_goals rfl
theorem ZhA (hf : ∀ {t u : Tm}, t.Ok → u.Ok → t.size < 4611686018427387904 → u.size < 4611686018427387904 → ∀ H, CallOk E0 Tryz.prog f [.agg t.cells, .agg u.cells] H (.bool (decide (t.cmp u = 0))) H)
  {id:Nat} (hid:bx[id]? = some (.cells 4 (Za L))) (hL:L≠ []) (hok:∀ x,x∈L→x.Ok∧x.size≤100000) (hlen:L.length≤100000) :
  CallOk E0 Tryz.prog 27 [.own id 4 0 L.length,.fn 28 []] ⟨bx,0,[],0⟩ (.tup []) ⟨bx.set id (.cells 4 (Za (YV L))),0,[],0⟩∧
  ∃ D,CallOk E0 Tryz.prog 29 [.own id 4 0 L.length,.fn f []] ⟨bx.set id (.cells 4 (Za (YV L))),0,[],0⟩ (.own id 4 0 (WN L).length) ⟨bx.set id (.cells 4 (Za (WN L)++D)),0,[],0⟩:=by
 have hlt:=Zv hid
 have hp:=Vo hL (N:=100000) fun t ht=>(hok t ht).2
 have hsl:(YV L).length=L.length:=hp.length_eq
 have hsne:YV L≠ []:=fun h=>by rw [h] at hsl;exact hL (List.length_eq_zero_iff.1 hsl.symm)
 have hsm:∀ x,x∈YV L→x∈L:=fun x hx=>hp.mem_iff.1 hx
 refine ⟨Zix hid hL hok hlen,?_⟩
 obtain ⟨r,H',hc,D,rfl,rfl⟩:=Zkr (f:=f) (id:=id) (bx:=bx.set id (.cells 4 (Za (YV L)))) (L:=YV L) (by simp [hlt]) (fun x y hx hy=>hf (hok x (hsm x hx)).1 (hok y (hsm y hy)).1 (by have:=(hok x (hsm x hx)).2;omega) (by have:=(hok y (hsm y hy)).2;omega)) (by omega) hsne
 rw [hsl,List.set_set] at hc
 exact ⟨D,hc⟩
theorem c79 {id : Nat} (hid : bx[id]? = some (.cells 4 (Za L))) (hL : L ≠ []) (hok : ∀ x, x ∈ L → x.Ok ∧ x.size ≤ 100000) (hlen : L.length ≤ 100000) :
  ∃ D,CallOk E0 Tryz.prog 79 [.own id 4 0 L.length] ⟨bx,0,[],0⟩ (.own id 4 0 (WN L).length) ⟨bx.set id (.cells 4 (Za (WN L)++D)),0,[],0⟩:=by
 obtain ⟨hs,D,hk⟩:=ZhA (f:=120) ZsJ hid hL hok hlen
 refine ⟨D,?_⟩
 refine YM (own:=fun _=>false) tOk fe79.ok ?_
 refine Wp.seq ?_
 repeat' first|refine Jc hs ?_|refine Jc hk ?_|refine Jo ?_|fail
 all_goals exact RetE.ret rfl rfl rfl
