/-
  The cast behind a trace: the second text.
-/
import Derived.Test.YtcopccjkfbmpcaaGreatDoorQn
set_option maxHeartbeats 0
set_option maxRecDepth 100000
namespace Go.Vm
variable {a:Bs} {c:Ca}
def rvF (a:Bs) (bad:List Bs) (b:Bs):Bool:=decide (b=a)||Xt b bad
def Ca.rv (c:Ca) (a:Bs):Ca:=⟨true,c.ag,true,c.ag.filter (rvF a c.bad)⟩
def Ca.zero:Ca:=⟨true,[],true,[]⟩
def Vn (c:Ca) (a:Bs):Ca×Int:=if c.err≠0 then (.zero,c.err) else if Xt a c.ag=false then (.zero,4) else if Xt a c.bad=true then (.zero,5) else (c.rv a,0)
theorem Zhd {bad ag:List Bs} {i:Nat} {b:Bs} (h:ag[i]? = some b):(ag.take (i+1)).filter (rvF a bad)=(ag.take i).filter (rvF a bad)++(if rvF a bad b=true then [b] else []):=by
 rw [List.take_add_one,h,List.filter_append]
 simp only [Option.toList_some,List.filter_cons,List.filter_nil]
theorem Zbv:Ca.zero.Sm:=⟨by decide,by decide,fun s h=>(by cases h),fun s h=>(by cases h)⟩
theorem ZgH (h:c.err≠0):Vn c a=(.zero,c.err):=if_pos h
theorem ZhN (h:c.err=0) (h2:Xt a c.ag=false):Vn c a=(.zero,4):=by unfold Vn;rw [if_neg (by omega),if_pos h2]
theorem Zip (h:c.err=0) (h2:Xt a c.ag=true) (h3:Xt a c.bad=true):Vn c a=(.zero,5):=by unfold Vn;rw [if_neg (by omega),if_neg (by simp [h2]),if_pos h3]
theorem Zh7 (h:c.err=0) (h2:Xt a c.ag=true) (h3:Xt a c.bad=false):Vn c a=(c.rv a,0):=by unfold Vn;rw [if_neg (by omega),if_neg (by simp [h2]),if_neg (by simp [h3])]
theorem Zmm (hc:c.Sm) (a:Bs):(Vn c a).1.Sm:=by
 unfold Vn
 split
 · exact Zbv
 split
 · exact Zbv
 split
 · exact Zbv
 · exact ⟨hc.la,Nat.le_trans (List.length_filter_le _ _) hc.la,hc.na,fun s h=>hc.na s (List.mem_filter.1 h).1⟩
end Go.Vm
namespace Go.Vm.Seat
variable {l:List Bs} {out:PV} {lv:List Nat} {nt:Nat} {b:Bool} {L M:List (List PV)} {c:Ca}
open Go.Proofs
theorem Zax:ApT E0 22 22 1 16:=⟨_,_,_,_,_,rfl,rfl,rfl,rfl,rfl,rfl,rfl,by decide,rfl⟩
theorem UG (l:List Bs):noB (Zp l)=true:=by
 simp only [Zp,noB,List.all_map,List.all_eq_true]
 intro x _
 rfl
theorem Zaq (l:List Bs):(Zp l).all (fun c=>c.all ZX)=true:=by
 simp only [Zp,List.all_map,List.all_eq_true]
 intro x _
 rfl
theorem V1 (a b:List Bs):Zp (a++b)=Zp a++Zp b:=by simp [Zp]
theorem UR (h:l≠ []) (b:Bool):slV b 1 (Zp l)= .sl .none 1 (Zp l):=by
 cases l with
 |nil=>exact absurd rfl h
 |cons x r=>exact Zm _ _ _ _
theorem Zqv (h : ApV true 1 (Zp l) out lv nt) (s : Bs) (hl : l.length ≤ 100000) :
  ∃ k lv' nt',(∀ bx ro,ZO E0 22 22 out (.sl .full 1 [[.str s]]) ⟨bx,ro,lv,nt⟩=some (.sl (.tok k) 1 (Zp (l++ [s])),⟨bx,ro,lv',nt'⟩))∧ApV true 1 (Zp (l++ [s])) (.sl (.tok k) 1 (Zp (l++ [s]))) lv' nt'∧
   ∀ b2 es2 L2 out2,ApV b2 es2 L2 out2 lv nt→(Z7 out2=none∨Z7 out2≠Z7 out)→ApV b2 es2 L2 out2 lv' nt'∧(Z7 out2=none∨Z7 out2≠some k):=by
 obtain ⟨out',lv',nt',hap,hA',hR⟩:=h.app Zax (.sl .full 1 (Zp [s])) (Zaq _) (ZJ (by simp only [Zw,List.length_cons,List.length_nil];omega) (by decide)) (UG _)
 rw [← V1] at hA'
 obtain ⟨k,rfl⟩:=UV hA' (fun e=>by have:=congrArg List.length e;rw [Zw] at this;simp at this)
 exact ⟨k,lv',nt',hap,hA',hR⟩
theorem ZmX (hne:l≠ []) (hl:l.length≤1000) (b:Bool):∀ H,CallOk E0 Tryz.prog 51 [slV b 1 (Zp l)] H (slV true 1 (Zp l)) H:=by
 refine Jw tOk fe51.ok (ZD _ _ _ _ _) ?_
 obtain ⟨out',lv',nt',hap,hA, -⟩:=(ApV.full (es:=1) [] [] 0 (rfl:false=false) rfl).app Zax (.slV b 1 (Zp l)) (Zaq l) (ZJ (by simp [Zw];omega) (by decide)) (UG l)
 rw [UR hne] at hap ⊢
 rw [UR hne]
 repeat' first|refine Js ?_|refine JA ?_|refine Jt ?_|refine Jo ?_|fail
 exact (hA.frz3 _ _).trans (by rw [List.nil_append,UR hne])
theorem Zoh {o1:PV} (h1:ApV b 1 L o1 lv nt) (h2:ApV true 1 M out lv nt) (m:Nat) (H:Heap) (e:Int):frz3 m H (.tup [.agg [o1,out],.int .i64 e])=some (.tup [.agg [slV b 1 L,slV true 1 M],.int .i64 e]):=by
 show (match WB m H [.agg [o1,out],.int .i64 e] with|some vs'=>some (PV.tup vs')|none=>none)=_
 have:frz2 m H (.agg [o1,out])=some (.agg [slV b 1 L,slV true 1 M]):=by
  show (match WK m H [o1,out] with|some cs'=>some (PV.agg cs')|none=>none)=_
  simp only [WK,h1.frzC,h2.frzC]
 simp only [WB,this]
 rfl
theorem Zm2 (b:Bool) (L:List (List PV)) (h2:ApV true 1 M out lv nt) (m:Nat) (H:Heap) (e:Int):frz3 m H (.tup [.agg [slV b 1 L,out],.int .i64 e])=some (.tup [.agg [slV b 1 L,slV true 1 M],.int .i64 e]):=by
 show (match WB m H [.agg [slV b 1 L,out],.int .i64 e] with|some vs'=>some (PV.tup vs')|none=>none)=_
 have:frz2 m H (.agg [slV b 1 L,out])=some (.agg [slV b 1 L,slV true 1 M]):=by
  show (match WK m H [slV b 1 L,out] with|some cs'=>some (PV.agg cs')|none=>none)=_
  simp only [WK,Ui,h2.frzC]
 simp only [WB,this]
 rfl
theorem Zhq (b b2:Bool) (L M:List (List PV)) (m:Nat) (H:Heap) (e:Int):frz3 m H (.tup [.agg [slV b 1 L,slV b2 1 M],.int .i64 e])=some (.tup [.agg [slV b 1 L,slV b2 1 M],.int .i64 e]):=by
 show (match WB m H [.agg [slV b 1 L,slV b2 1 M],.int .i64 e] with|some vs'=>some (PV.tup vs')|none=>none)=_
 have:frz2 m H (.agg [slV b 1 L,slV b2 1 M])=some (.agg [slV b 1 L,slV b2 1 M]):=by
  show (match WK m H [slV b 1 L,slV b2 1 M] with|some cs'=>some (PV.agg cs')|none=>none)=_
  simp only [WK,Ui]
 simp only [WB,this]
 rfl
theorem Wz (e:Int):PV.tup [.agg (Ca.zero,e).1.cells,.int .i64 (Ca.zero,e).2]= .tup [.agg [.nils,.nils],.int .i64 e]:=by
 show PV.tup [.agg [slV true 1 [],slV true 1 []],.int .i64 e]=_
 rw [Zh]
theorem Zdt {es:Nat} (h:ApV b es L out lv nt) (A:PV) (hA:ZX A=true):[A,out].all ZX=true:=by
 have h2:ZX out=true:=by cases h<;>rfl
 simp only [List.all_cons,List.all_nil,hA,h2]
 rfl
theorem c23 (hc:c.Sm) (a:Bs):∀ H,CallOk E0 Tryz.prog 23 [.agg c.cells,.str a] H (.tup [.agg (Vn c a).1.cells,.int .i64 (Vn c a).2]) H:=by
 have k1:=c22 hc
 by_cases he:c.err=0
 · rw [he] at k1
   have hne:=(err_len he).1
   obtain ⟨la,lb,na,nb⟩:=hc
   have k2:=c49 (l:=c.ag) (by omega) a c.an
   have k3:=c49 (l:=c.bad) (by omega) a c.bn
   have k4:=ZmX hne (by omega) c.an
   by_cases h2:Xt a c.ag=true
   · rw [h2] at k2
     by_cases h3:Xt a c.bad=true
     · rw [h3] at k3
       rw [Zip he h2 h3,Wz]
       obtain ⟨an,ag,bn,bad⟩:=c
       simp only [Ca.cells] at k1 k2 k3 k4 la lb na nb hne ⊢
       refine Jw tOk fe23.ok rfl ?_
       repeat' first|(apply qCl;rfl;rfl;rfl;rfl;first|exact k1 _|exact k2 _|exact k3 _)|refine Jt ?_|refine Jo ?_|fail
       all_goals rfl
     · have h3 : Xt a c.bad = false := by simpa using h3
       rw [h3] at k3
       rw [Zh7 he h2 h3]
       clear he h2 h3
       obtain ⟨an,ag,bn,bad⟩:=c
       simp only [Ca.cells,Ca.rv] at k1 k2 k3 k4 la lb na nb hne ⊢
       have hsl:=Zw ag
       show ∀ H,CallOk E0 Tryz.prog 23 [.agg [slV an 1 (Zp ag),slV bn 1 (Zp bad)],.str a] H (.tup [.agg [slV true 1 (Zp ag),slV true 1 (Zp (ag.filter (rvF a bad)))],.int .i64 0]) H
       refine Jw tOk fe23.ok (Zhq _ _ _ _ _ _ _) ?_
       have hbd:U7 E0 24 [(0,slV true 1 (Zp ag))]=some (.agg [slV true 1 (Zp ag),.nils]):=by
        rw [UR hne];rfl
       have hco0:[slV true 1 (Zp ag),PV.nils].all ZX=true:=by simp only [List.all_cons,Yo];rfl
       repeat' first|(apply qCl;rfl;rfl;rfl;rfl;first|exact k1 _|exact k2 _|exact k3 _|exact k4 _)|(apply qBd;rfl;rfl;rfl;assumption;exact IsV.aggN)|refine Jl ?_|refine Jt ?_|refine Jo ?_|fail
       refine Wp.while (fun m tm H => ∃ (i : Nat) (base : TM) (out : PV) (lv : List Nat) (nt : Nat), i + m = ag.length ∧ ApV true 1 (Zp ((ag.take i).filter (rvF a bad))) out lv nt ∧
         tm=ovr base [(1,.str a),(2,.ptr 0 2 0 0),(4,.ptr 1 2 0 0),(7,.ptr 2 2 0 0),(32,slV an 1 (Zp ag)),(33,.int .i64 (ag.length:Int)),(34,.int .i64 (i:Int))]∧H=⟨[.cells 2 [[slV an 1 (Zp ag),slV bn 1 (Zp bad)]],.cells 2 [[.nils,.nils]],.cells 2 [[slV true 1 (Zp ag),out]]],0,lv,nt⟩)
        (fun m tm H hI=>?_) ag.length _ _ ⟨0,_,_,_,_,by omega,.nil _ _ rfl,Zf ⟨rfl,rfl,rfl,rfl,rfl,Ze (by rw [hsl]),rfl,trivial⟩,rfl⟩
       obtain ⟨i,base,out,lv,nt,hi,hA,rfl,rfl⟩:=hI
       by_cases hlt:i<ag.length
       · obtain ⟨d, hd⟩ : ∃ d, ag[i]? = some d := ⟨ag[i], by simp⟩
         have hj:=ZW hd
         have hlx:=Zr (i:Int) (ag.length:Int)
         rw [decide_eq_true (by omega)] at hlx
         have k5:=c49 (l:=bad) (by omega) d bn
         have q1:=Zhv d a
         have hsn:=Zhd (a:=a) (bad:=bad) hd
         obtain ⟨k,lv',nt',hap,hA', -⟩:=Zqv hA d (by have:=List.length_filter_le (rvF a bad) (ag.take i);rw [List.length_take] at this;omega)
         unfold rvF at hsn
         have hor:(decide (d=a)||Xt d bad)=true∨(decide (d=a)=false∧Xt d bad=false):=by
          cases decide (d=a)<;>cases Xt d bad<;>simp
         generalize hD:decide (d=a)=D at q1 hsn hor
         generalize hM:Xt d bad=M at k5 hsn hor
         rcases hor with hor|⟨rfl,rfl⟩
         · have hsn2 : (ag.take (i + 1)).filter (rvF a bad) = (ag.take i).filter (rvF a bad) ++ [d] := by
             unfold rvF;rw [hsn,if_pos hor]
           rw [← hsn2] at hA' hap
           have hco:=Zfo hA'
           cases D
           · rw [show M = true by simpa using hor] at k5
             repeat' first|refine Jc (k5 _) ?_|refine Js ?_|refine JA ?_|refine Ji ?_|refine Jx ?_|refine Jt ?_|refine Jo ?_|fail
             exact LoopI.go (m-1) (by omega) ⟨i+1,_,_,lv',nt',by omega,hA',Zf ⟨rfl,rfl,rfl,rfl,rfl,rfl,Ze (Zd (n:=i+1) (by omega)),trivial⟩,rfl⟩
           · skip
             repeat' first|refine Jk ?_|refine Js ?_|refine JA ?_|refine Ji ?_|refine Jx ?_|refine Jt ?_|refine Jo ?_|fail
             exact LoopI.go (m-1) (by omega) ⟨i+1,_,_,lv',nt',by omega,hA',Zf ⟨rfl,rfl,rfl,rfl,rfl,rfl,Ze (Zd (n:=i+1) (by omega)),trivial⟩,rfl⟩
         · have hsn2 : (ag.take (i + 1)).filter (rvF a bad) = (ag.take i).filter (rvF a bad) := by
             unfold rvF;rw [hsn,if_neg (by simp),List.append_nil]
           rw [← hsn2] at hA
           clear hap hA' hsn hsn2
           repeat' first|refine Jc (k5 _) ?_|refine Ji ?_|refine Jx ?_|refine Jt ?_|refine Jo ?_|fail
           exact LoopI.go (m-1) (by omega) ⟨i+1,_,out,lv,nt,by omega,hA,Zf ⟨rfl,rfl,rfl,rfl,rfl,rfl,Ze (Zd (n:=i+1) (by omega)),trivial⟩,rfl⟩
       · have e : i = ag.length := by omega
         subst e
         rw [List.take_length] at hA
         have hlx:=Zr (ag.length:Int) (ag.length:Int)
         rw [decide_eq_false (by omega)] at hlx
         have hco:=Zdt hA (slV true 1 (Zp ag)) (Yo _ _ _)
         repeat' first|refine Ji ?_|refine Jo ?_|fail
         exact Zm2 _ _ hA _ _ _
   · have h2 : Xt a c.ag = false := by simpa using h2
     rw [h2] at k2
     rw [ZhN he h2,Wz]
     obtain ⟨an,ag,bn,bad⟩:=c
     simp only [Ca.cells] at k1 k2 k3 k4 la lb na nb hne ⊢
     refine Jw tOk fe23.ok rfl ?_
     repeat' first|refine Jc (k1 _) ?_|refine Jc (k2 _) ?_|refine Jt ?_|refine Jo ?_|fail
     all_goals rfl
 · rw [ZgH he, Wz]
   have n1:=X8 c.err 0
   rw [decide_eq_false he] at n1
   generalize c.err=e at k1 n1 ⊢
   obtain ⟨an,ag,bn,bad⟩:=c
   simp only [Ca.cells] at k1 ⊢
   refine Jw tOk fe23.ok rfl ?_
   repeat' first|refine Jc (k1 _) ?_|refine Ji ?_|refine Jo ?_|fail
   all_goals rfl
theorem c63 (hc:c.Sm) (a:Bs):∀ H,CallOk E0 Tryz.prog 63 [.agg c.cells,.str a] H (.tup [.agg (Vn c a).1.cells,.int .i64 (Vn c a).2]) H:=by
 have k1:=c31 hc
 by_cases he:c.err=0
 · rw [he] at k1
   have hne:=(err_len he).1
   obtain ⟨la,lb,na,nb⟩:=hc
   have k2:=c61 (l:=c.ag) (by omega) a c.an
   have k3:=c61 (l:=c.bad) (by omega) a c.bn
   have y1:=Zr (ixS a c.ag 0) 0
   have y2:=Xd (ixS a c.bad 0) 0
   have hlt0:decide (ixS a c.ag 0<0)= !Xt a c.ag:=by
    unfold Xt
    by_cases h:ixS a c.ag 0<0
    · rw [decide_eq_true h,decide_eq_false (by omega)];rfl
    · rw [decide_eq_false h,decide_eq_true (by omega)];rfl
   have hge0:decide (0≤ixS a c.bad 0)=Xt a c.bad:=rfl
   rw [hlt0] at y1
   rw [hge0] at y2
   clear hlt0 hge0
   by_cases h2:Xt a c.ag=true
   · rw [h2] at y1
     by_cases h3:Xt a c.bad=true
     · rw [h3] at y2
       rw [Zip he h2 h3,Wz]
       generalize ixS a c.ag 0=I1 at k2 y1
       generalize ixS a c.bad 0=I2 at k3 y2
       obtain ⟨an,ag,bn,bad⟩:=c
       simp only [Ca.cells] at k1 k2 k3 la lb na nb hne ⊢
       refine Jw tOk fe63.ok rfl ?_
       repeat' first|(apply qCl;rfl;rfl;rfl;rfl;first|exact k1 _|exact k2 _|exact k3 _)|refine Ji ?_|refine Jt ?_|refine Jo ?_|fail
       all_goals rfl
     · have h3 : Xt a c.bad = false := by simpa using h3
       rw [h3] at y2
       rw [Zh7 he h2 h3]
       clear he h2 h3
       generalize ixS a c.ag 0=I1 at k2 y1
       generalize ixS a c.bad 0=I2 at k3 y2
       obtain ⟨an,ag,bn,bad⟩:=c
       simp only [Ca.cells,Ca.rv] at k1 k2 k3 la lb na nb hne ⊢
       have hsl:=Zw ag
       have hsb:=Zw bad
       refine Jw tOk fe63.ok (Zhq _ _ _ _ _ _ _) ?_
       obtain ⟨o1,lv1,nt1,hap1,hA1, -⟩:=(ApV.full (es:=1) [] [] 0 (rfl:false=false) rfl).app Zax (.slV an 1 (Zp ag)) (Zaq ag) (ZJ (by simp [Zw];omega) (by decide)) (UG ag)
       rw [List.nil_append] at hA1
       obtain ⟨tl,rfl⟩:=QK hA1
       repeat' first|(apply qCl;rfl;rfl;rfl;rfl;first|exact k1 _|exact k2 _|exact k3 _)|refine Js ?_|refine JA ?_|refine Ji ?_|refine Jt ?_|refine Jo ?_|fail
       refine Wp.while (fun m tm H => ∃ (i : Nat) (base : TM) (out : PV) (lv : List Nat) (nt : Nat), i + m = ag.length ∧ ApV true 1 (Zp ((ag.take i).filter (rvF a bad))) out lv nt ∧ ApV false 1 (Zp ag) (.sl tl 1 (Zp ag)) lv nt ∧ (Z7 (.sl tl 1 (Zp ag)) = none ∨ Z7 (.sl tl 1 (Zp ag)) ≠ Z7 out) ∧
         tm=ovr base [(1,.str a),(2,.ptr 0 2 0 0),(4,.ptr 1 2 0 0),(7,.ptr 2 2 0 0),(8,.int .i64 (i:Int))]∧H=⟨[.cells 2 [[slV an 1 (Zp ag),slV bn 1 (Zp bad)]],.cells 2 [[.nils,.nils]],.cells 2 [[.sl tl 1 (Zp ag),out]]],0,lv,nt⟩)
        (fun m tm H hI=>?_) ag.length _ _ ⟨0,_,_,_,_,by omega,.nil _ _ rfl,hA1,(by cases tl<;>simp [Z7]),Zf ⟨rfl,rfl,rfl,rfl,rfl,trivial⟩,rfl⟩
       obtain ⟨i,base,out,lv,nt,hi,hA,hK,hne2,rfl,rfl⟩:=hI
       by_cases hlt:i<ag.length
       · obtain ⟨d, hd⟩ : ∃ d, ag[i]? = some d := ⟨ag[i], by simp⟩
         have hj:=ZW hd
         have hlx:=Zr (i:Int) ((Zp ag).length:Int)
         rw [decide_eq_true (by omega)] at hlx
         have k5:=c61 (l:=bad) (by omega) d bn
         have y3:=Xd (ixS d bad 0) 0
         have q1:=Zhv d a
         have hsn:=Zhd (a:=a) (bad:=bad) hd
         obtain ⟨k,lv',nt',hap,hA',hR⟩:=Zqv hA d (by have:=List.length_filter_le (rvF a bad) (ag.take i);rw [List.length_take] at this;omega)
         obtain ⟨hK',hne'⟩:=hR _ _ _ _ hK hne2
         unfold rvF Xt at hsn
         have hor:(decide (d=a)||decide (0≤ixS d bad 0))=true∨(decide (d=a)=false∧decide (0≤ixS d bad 0)=false):=by
          cases decide (d=a)<;>cases decide (0≤ixS d bad 0)<;>simp
         generalize hD:decide (d=a)=D at q1 hsn hor
         generalize ixS d bad 0=I5 at k5 y3 hsn hor
         generalize hM:decide (0≤I5)=M at y3 hsn hor
         rcases hor with hor|⟨rfl,rfl⟩
         · have hsn2 : (ag.take (i + 1)).filter (rvF a bad) = (ag.take i).filter (rvF a bad) ++ [d] := by
             unfold rvF Xt;rw [hsn,if_pos hor]
           rw [← hsn2] at hA' hap
           have hco:=Zfo hA'
           cases D
           · rw [show M = true by simpa using hor] at y3
             repeat' first|refine Ji ?_|refine Jl ?_|refine Jo ?_|refine Jd (k5 _) ?_|refine JB ?_|(apply dAp;rfl;rfl;rfl;rfl;rfl;(first|assumption|solve_by_elim);rfl)|refine JD ?_|refine JI ?_|(apply dT (ty:=4);rfl;rfl;rfl;rfl)|(apply dF (ty:=4);rfl;rfl;rfl;rfl)|refine Jh ?_|(apply Wp.drawS tOk follows;kernel_rfl;rfl)|fail
             exact LoopI.go (m-1) (by omega) ⟨i+1,_,_,lv',nt',by omega,hA',hK',hne',Zf ⟨rfl,rfl,rfl,rfl,Ze (Zd (n:=i+1) (by omega)),trivial⟩,rfl⟩
           · skip
             repeat' first|refine Ji ?_|refine Jl ?_|refine Jo ?_|(apply dK;rfl;rfl;rfl)|refine JB ?_|(apply dAp;rfl;rfl;rfl;rfl;rfl;(first|assumption|solve_by_elim);rfl)|refine JD ?_|refine JI ?_|(apply dT (ty:=4);rfl;rfl;rfl;rfl)|refine Jh ?_|(apply Wp.drawS tOk follows;kernel_rfl;rfl)|fail
             exact LoopI.go (m-1) (by omega) ⟨i+1,_,_,lv',nt',by omega,hA',hK',hne',Zf ⟨rfl,rfl,rfl,rfl,Ze (Zd (n:=i+1) (by omega)),trivial⟩,rfl⟩
         · have hsn2 : (ag.take (i + 1)).filter (rvF a bad) = (ag.take i).filter (rvF a bad) := by
             unfold rvF Xt;rw [hsn,if_neg (by simp),List.append_nil]
           rw [← hsn2] at hA
           clear hap hA' hsn hsn2
           repeat' first|refine Ji ?_|refine Jl ?_|refine Jo ?_|refine Jd (k5 _) ?_|refine JD ?_|refine JI ?_|(apply dF (ty:=4);rfl;rfl;rfl;rfl)|refine Jh ?_|(apply Wp.drawS tOk follows;kernel_rfl;rfl)|fail
           exact LoopI.go (m-1) (by omega) ⟨i+1,_,out,lv,nt,by omega,hA,hK,hne2,Zf ⟨rfl,rfl,rfl,rfl,Ze (Zd (n:=i+1) (by omega)),trivial⟩,rfl⟩
       · have e : i = ag.length := by omega
         subst e
         rw [List.take_length] at hA
         have hlx:=Zr (ag.length:Int) ((Zp ag).length:Int)
         rw [decide_eq_false (by omega)] at hlx
         have hco:=Zdt hA (.sl tl 1 (Zp ag)) rfl
         repeat' first|refine Ji ?_|refine Jl ?_|refine Jo ?_|fail
         refine (Zoh hK hA _ _ _).trans ?_
         rw [UR hne,UR hne]
   · have h2 : Xt a c.ag = false := by simpa using h2
     rw [h2] at y1
     rw [ZhN he h2,Wz]
     generalize ixS a c.ag 0=I1 at k2 y1
     obtain ⟨an,ag,bn,bad⟩:=c
     simp only [Ca.cells] at k1 k2 k3 la lb na nb hne ⊢
     refine Jw tOk fe63.ok rfl ?_
     repeat' first|refine Jc (k1 _) ?_|refine Jc (k2 _) ?_|refine Ji ?_|refine Jt ?_|refine Jo ?_|fail
     all_goals rfl
 · rw [ZgH he, Wz]
   have n1:=X8 c.err 0
   rw [decide_eq_false he] at n1
   generalize c.err=e at k1 n1 ⊢
   obtain ⟨an,ag,bn,bad⟩:=c
   simp only [Ca.cells] at k1 ⊢
   refine Jw tOk fe63.ok rfl ?_
   repeat' first|refine Jc (k1 _) ?_|refine Ji ?_|refine Jo ?_|fail
   all_goals rfl
end Go.Vm.Seat
namespace Go.Vm
variable {c:Ca} {l:List Mo} {i:Nat} {m:Mo}
def WM:Ca→List Mo→Ca×Int
 |c,[]=>(c,0)
 |c,m::r=>if m.kind=6 then (if (Vn c m.hd).2≠0 then (.zero,(Vn c m.hd).2) else WM (Vn c m.hd).1 r) else WM c r
theorem Zk7 (h:l[i]? = some m) (h6:¬ m.kind=6):WM c (l.drop i)=WM c (l.drop (i+1)):=by
 rw [Zu h,WM,if_neg h6]
theorem Zk4 (h:l[i]? = some m) (h6:m.kind=6) (he:(Vn c m.hd).2≠0):WM c (l.drop i)=(.zero,(Vn c m.hd).2):=by
 rw [Zu h,WM,if_pos h6,if_pos he]
theorem Zlk (h:l[i]? = some m) (h6:m.kind=6) (he:(Vn c m.hd).2=0):WM c (l.drop i)=WM (Vn c m.hd).1 (l.drop (i+1)):=by
 rw [Zu h,WM,if_pos h6,if_neg (by omega)]
theorem UY:∀ (l:List Mo) (c:Ca),c.Sm→(WM c l).1.Sm
 | [],c,h=>h
 | m :: r, c, h => by
   simp only [WM]
   split
   · split
     · exact Zbv
     · exact UY r _ (Zmm h _)
   · exact UY r c h
end Go.Vm
namespace Go.Vm.Seat
open Go.Proofs
theorem Zhm (c:Ca) (m:Nat) (H:Heap) (e:Int):frz3 m H (.tup [.agg c.cells,.int .i64 e])=some (.tup [.agg c.cells,.int .i64 e]):=Zhq _ _ _ _ _ _ _
theorem ZdT (b b2:Bool) (L M:List (List PV)):[slV b 1 L,slV b2 1 M].all ZX=true:=by
 simp only [List.all_cons,List.all_nil,Yo,Bool.and_true]
theorem c33 {c : Ca} (hc : c.Sm) {l : List Mo} (hl : l.length ≤ 1000) (h6 : ∀ x, x ∈ l → x.kind = 6 → ∃ a, x.agents = [a]) (b : Bool) :
  ∀ H,CallOk E0 Tryz.prog 33 [.agg c.cells,slV b 6 (moC l)] H (.tup [.agg (WM c l).1.cells,.int .i64 (WM c l).2]) H:=by
 have hcl:=Y4 l
 have hfz:Zz [.agg c.cells,slV b 6 (moC l)]=some [.agg c.cells,slV b 6 (moC l)]:=by
  obtain ⟨an,ag,bn,bad⟩:=c
  simp only [Ca.cells,Zz,Yk];simp only [frzG,XS,ZC]
 refine ZU (own:=fun d=>Nat.beq d 30013) tOk fe33.ok hfz (Zhm _ _ _ _) ?_
 refine Wp.seq ?_
 have hsta:c.cells= [slV c.an 1 (Zp c.ag),slV c.bn 1 (Zp c.bad)]:=rfl
 rw [hsta]
 repeat' first|refine Jo ?_|fail
 refine Wp.while (fun m2 tm H=>∃ (i:Nat) (base:TM) (d:Ca),i+m2=l.length∧d.Sm∧WM c l=WM d (l.drop i)∧tm=ovr base [(1,slV b 6 (moC l)),(2,.ptr 0 2 0 0),(4,.ptr 1 2 0 0),(6,.int .i64 (i:Int))]∧H=⟨[.cells 2 [[slV d.an 1 (Zp d.ag),slV d.bn 1 (Zp d.bad)]],.cells 2 [[.nils,.nils]]],0,[],0⟩)
  (fun m2 tm H hI=>Wp.drop ?_) l.length _ _ ⟨0,_,c,by omega,hc,by simp,Zf ⟨rfl,rfl,rfl,rfl,trivial⟩,rfl⟩
 obtain ⟨i,base,d,hi,hd,hgo,rfl,rfl⟩:=hI
 rw [hgo]
 by_cases hlt:i<l.length
 · obtain ⟨m, hx⟩ : ∃ m, l[i]? = some m := ⟨l[i], by simp⟩
   have hj:=Va hx
   have hm6:=h6 m (List.mem_of_getElem? hx)
   have hlx:=Zr (i:Int) ((moC l).length:Int)
   rw [decide_eq_true (by omega)] at hlx
   have q6:=Z2 m.kind 6
   by_cases e6:m.kind=6
   · rw [decide_eq_true e6] at q6
     obtain ⟨a,ha⟩:=hm6 e6
     have hhd:m.hd=a:=by unfold Mo.hd;rw [ha];rfl
     have kR:=c63 hd a
     have hsa:=ZW (l:=[a]) (i:=0) rfl
     have n1:=X8 (Vn d a).2 0
     by_cases he:(Vn d a).2=0
     · rw [Zlk hx e6 (by rw [hhd]; exact he), hhd]
       have hsm:=Zmm hd a
       rw [decide_eq_true he] at n1
       rw [he] at kR n1
       generalize (Vn d a).1=d2 at kR hsm ⊢
       clear he hhd e6 hm6
       obtain ⟨kd,nu,ro,an,ag,go,tn,te⟩:=m
       simp only at ha
       subst ha
       obtain ⟨dn,dg,dm,dd⟩:=d
       obtain ⟨dn2,dg2,dm2,dd2⟩:=d2
       have hco:=ZdT dn2 dm2 (Zp dg2) (Zp dd2)
       simp only [Mo.cells,Ca.cells] at hj kR q6 ⊢
       repeat' first|refine Ji ?_|refine Jl ?_|refine Jx ?_|refine Jo ?_|refine Jd (kR _) ?_|(apply dAl;rfl;rfl;rfl;rfl;exact IsV.ptrM;exact IsH.mkN)|refine JI ?_|refine Jh ?_|(apply dWB tOk follows;rfl;kernel_rfl;rfl;exact IsH.mkN)|fail
       refine DropQ.go [(1,slV b 6 (moC l)),(2,.ptr 0 2 0 0),(4,.ptr 1 2 0 0),(6,.int .i64 ((i+1:Nat):Int))] ?_ ?_ rfl ?_ ?_
       · exact ⟨rfl,rfl,rfl,Ze (Zd (n:=i+1) (by omega)),trivial⟩
       · simp [Zj,under]
       · simp [YS,ZN,Zj,under]
       · exact LoopI.go (m2-1) (by omega) ⟨i+1,_,⟨dn2,dg2,dm2,dd2⟩,by omega,hsm,rfl,rfl,rfl⟩
     · rw [Zk4 hx e6 (by rw [hhd]; exact he), hhd, Wz]
       rw [decide_eq_false he] at n1
       generalize (Vn d a).2=e at kR n1 ⊢
       generalize (Vn d a).1=d2 at kR
       clear he hhd e6 hm6
       obtain ⟨kd,nu,ro,an,ag,go,tn,te⟩:=m
       simp only at ha
       subst ha
       obtain ⟨dn,dg,dm,dd⟩:=d
       obtain ⟨dn2,dg2,dm2,dd2⟩:=d2
       have hco:=ZdT dn2 dm2 (Zp dg2) (Zp dd2)
       simp only [Mo.cells,Ca.cells] at hj kR q6 ⊢
       repeat' first|refine Ji ?_|refine Jl ?_|refine Jx ?_|refine Jo ?_|refine Jd (kR _) ?_|(apply dAl;rfl;rfl;rfl;rfl;exact IsV.ptrM;exact IsH.mkN)|refine JI ?_|refine Jh ?_|(apply dWB tOk follows;rfl;kernel_rfl;rfl;exact IsH.mkN)|fail
       all_goals rfl
   · rw [decide_eq_false e6] at q6
     rw [Zk7 hx e6]
     clear e6 hm6
     obtain ⟨kd,nu,ro,an,ag,go,tn,te⟩:=m
     simp only [Mo.cells] at hj q6
     repeat' first|refine Ji ?_|refine Jl ?_|refine Jx ?_|refine Jo ?_|fail
     refine DropQ.go [(1,slV b 6 (moC l)),(2,.ptr 0 2 0 0),(4,.ptr 1 2 0 0),(6,.int .i64 ((i+1:Nat):Int))] ?_ ?_ rfl ?_ ?_
     · exact ⟨rfl,rfl,rfl,Ze (Zd (n:=i+1) (by omega)),trivial⟩
     · simp [Zj,under]
     · simp [YS,ZN,Zj,under]
     · exact LoopI.go (m2-1) (by omega) ⟨i+1,_,d,by omega,hd,rfl,rfl,rfl⟩
 · have e : i = l.length := by omega
   subst e
   have hlx:=Zr (l.length:Int) ((moC l).length:Int)
   rw [decide_eq_false (by omega)] at hlx
   rw [List.drop_length]
   have hco:=ZdT d.an d.bn (Zp d.ag) (Zp d.bad)
   repeat' first|refine Ji ?_|refine Jl ?_|refine Jo ?_|fail
   exact Zhm d _ _ _
