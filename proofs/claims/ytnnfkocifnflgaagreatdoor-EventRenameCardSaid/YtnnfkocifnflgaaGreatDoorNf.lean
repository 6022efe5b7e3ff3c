/-
  Destructors: all of them at once (the program's text).
-/
import Derived.Test.YtnnfkocifnflgaaGreatDoorNd
set_option maxHeartbeats 0
set_option maxRecDepth 100000
namespace Go.Vm.Seat
variable {a key:Tm} {nm:Bs} {α:Type}
open Go.Proofs
theorem Y1 (h:a.okA=true) (hp:isA a nm=true) (hn:((nm==Xf)||(nm==ZcE)||(nm==WU)||(nm==Y4)||(nm==Yx))=true):∃ b x y,a= .mk 3 nm 0 b [x,y]:=by
 obtain ⟨k,nm',s,b,kz⟩:=a
 simp only [isA,Bool.and_eq_true,decide_eq_true_eq,beq_iff_eq] at hp
 obtain ⟨rfl,rfl⟩:=hp
 simp only [Tm.okA,if_pos,Bool.and_eq_true,decide_eq_true_eq] at h
 obtain ⟨⟨rfl,h1⟩,_⟩:=h
 simp only [ZjD,Bool.and_eq_true,hn,if_true,decide_eq_true_eq] at h1
 match kz,h1.1 with
 | [x,y],_=>exact ⟨b,x,y,rfl⟩
theorem WN (b:Bool) (x y:Tm):slV b 4 (Za [x,y])= .sl .none 4 [x.cells,y.cells]:=Zp _ _ _ _
theorem QX (b:Bool) (x:Tm):slV b 4 (Za [x])= .sl .none 4 [x.cells]:=Zp _ _ _ _
theorem ZjR (ha:a.okA=true) (b:Bool):∀ H,CallOk E0 Tryz.prog 66 [.agg (Tm.mk 3 Vb 0 b [a]).cells] H (.agg (Xc (.mk 3 Vb 0 b [a])).cells) H:=by
 have hi:=Zie a Xf
 have hd:Xc (.mk 3 Vb 0 b [a])=if isA a Xf=true then a.kd 0 else .mk 3 Vb 0 b [a]:=by
  unfold Xc Zbf
  simp [Zcn,Tm.nm,Tm.kd,Vb,WZ,WV,Yu,Ys,YI]
 rw [hd]
 cases hp:isA a Xf with
 | true =>
   rw [hp] at hi
   obtain ⟨b1,x,y,rfl⟩:=Y1 ha hp rfl
   rw [if_pos rfl]
   show ∀ H,CallOk E0 Tryz.prog 66 _ H (.agg (Tm.cells x)) H
   obtain ⟨k1,n1,s1,f1,l1⟩:=x
   obtain ⟨k2,n2,s2,f2,l2⟩:=y
   simp only [Tm.cells,WN,QX,Vb,Xf] at hi ⊢
   refine Jw tOk fe66.ok (ZS _ _ _ _ _ _ _) ?_
   repeat' first|refine Jk ?_|refine Jc (hi _) ?_|refine JJ ?_|refine Jl ?_|refine Jx ?_|refine Jt ?_|refine Jb ?_ ?_|refine Jo ?_|(apply dK;rfl;rfl;rfl)|refine Jd (hi _) ?_|refine JK ?_|(apply dLn;rfl;rfl;rfl;rfl;rfl)|refine JI ?_|(apply dT (ty:=4);rfl;rfl;rfl;rfl)|(apply dF (ty:=4);rfl;rfl;rfl;rfl)|(apply dB (ty:=4);rfl;rfl;rfl;rfl)|refine Jh ?_|(apply Wp.draw tOk follows;kernel_rfl)|intro hb
   all_goals first
    | exact ZS _ _ _ _ _ _ _
    | (exfalso;simp at hb;done)
 | false =>
   rw [hp] at hi
   rw [if_neg (by decide)]
   obtain ⟨k1,n1,s1,f1,l1⟩:=a
   simp only [Tm.cells,QX,Vb] at hi ⊢
   refine Jw tOk fe66.ok rfl ?_
   repeat' first|refine Jk ?_|refine Jc (hi _) ?_|refine JJ ?_|refine Jl ?_|refine Jx ?_|refine Jt ?_|refine Jb ?_ ?_|refine Jo ?_|(apply dK;rfl;rfl;rfl)|refine Jd (hi _) ?_|refine JK ?_|(apply dLn;rfl;rfl;rfl;rfl;rfl)|refine JI ?_|(apply dT (ty:=4);rfl;rfl;rfl;rfl)|(apply dF (ty:=4);rfl;rfl;rfl;rfl)|(apply dB (ty:=4);rfl;rfl;rfl;rfl)|refine Jh ?_|(apply Wp.draw tOk follows;kernel_rfl)|intro hb
   all_goals first
    | rfl
    | (exfalso;simp at hb;done)
theorem Zj5 (ha:a.okA=true) (b:Bool):∀ H,CallOk E0 Tryz.prog 66 [.agg (Tm.mk 3 WZ 0 b [a]).cells] H (.agg (Xc (.mk 3 WZ 0 b [a])).cells) H:=by
 have hi:=Zie a Xf
 have hd:Xc (.mk 3 WZ 0 b [a])=if isA a Xf=true then a.kd 1 else .mk 3 WZ 0 b [a]:=by
  unfold Xc Zbf
  simp [Zcn,Tm.nm,Tm.kd,Vb,WZ,WV,Yu,Ys,YI]
 rw [hd]
 cases hp:isA a Xf with
 | true =>
   rw [hp] at hi
   obtain ⟨b1,x,y,rfl⟩:=Y1 ha hp rfl
   rw [if_pos rfl]
   show ∀ H,CallOk E0 Tryz.prog 66 _ H (.agg (Tm.cells y)) H
   obtain ⟨k1,n1,s1,f1,l1⟩:=x
   obtain ⟨k2,n2,s2,f2,l2⟩:=y
   simp only [Tm.cells,WN,QX,WZ,Xf] at hi ⊢
   refine Jw tOk fe66.ok (ZS _ _ _ _ _ _ _) ?_
   repeat' first|refine Jk ?_|refine Jc (hi _) ?_|refine JJ ?_|refine Jl ?_|refine Jx ?_|refine Jt ?_|refine Jb ?_ ?_|refine Jo ?_|(apply dK;rfl;rfl;rfl)|refine Jd (hi _) ?_|refine JK ?_|(apply dLn;rfl;rfl;rfl;rfl;rfl)|refine JI ?_|(apply dT (ty:=4);rfl;rfl;rfl;rfl)|(apply dF (ty:=4);rfl;rfl;rfl;rfl)|(apply dB (ty:=4);rfl;rfl;rfl;rfl)|refine Jh ?_|(apply Wp.draw tOk follows;kernel_rfl)|intro hb
   all_goals first
    | exact ZS _ _ _ _ _ _ _
    | (exfalso;simp at hb;done)
 | false =>
   rw [hp] at hi
   rw [if_neg (by decide)]
   obtain ⟨k1,n1,s1,f1,l1⟩:=a
   simp only [Tm.cells,QX,WZ] at hi ⊢
   refine Jw tOk fe66.ok rfl ?_
   repeat' first|refine Jk ?_|refine Jc (hi _) ?_|refine JJ ?_|refine Jl ?_|refine Jx ?_|refine Jt ?_|refine Jb ?_ ?_|refine Jo ?_|(apply dK;rfl;rfl;rfl)|refine Jd (hi _) ?_|refine JK ?_|(apply dLn;rfl;rfl;rfl;rfl;rfl)|refine JI ?_|(apply dT (ty:=4);rfl;rfl;rfl;rfl)|(apply dF (ty:=4);rfl;rfl;rfl;rfl)|(apply dB (ty:=4);rfl;rfl;rfl;rfl)|refine Jh ?_|(apply Wp.draw tOk follows;kernel_rfl)|intro hb
   all_goals first
    | rfl
    | (exfalso;simp at hb;done)
theorem Zh4 (ha:a.okA=true) (b:Bool):∀ H,CallOk E0 Tryz.prog 66 [.agg (Tm.mk 3 YI 0 b [a]).cells] H (.agg (Xc (.mk 3 YI 0 b [a])).cells) H:=by
 have hi:=Zie a Y4
 have hd:Xc (.mk 3 YI 0 b [a])=if isA a Y4=true then a.kd 0 else .mk 3 YI 0 b [a]:=by
  unfold Xc Zbf
  simp [Zcn,Tm.nm,Tm.kd,Vb,WZ,WV,Yu,Ys,YI]
 rw [hd]
 cases hp:isA a Y4 with
 | true =>
   rw [hp] at hi
   obtain ⟨b1,x,y,rfl⟩:=Y1 ha hp rfl
   rw [if_pos rfl]
   show ∀ H,CallOk E0 Tryz.prog 66 _ H (.agg (Tm.cells x)) H
   obtain ⟨k1,n1,s1,f1,l1⟩:=x
   obtain ⟨k2,n2,s2,f2,l2⟩:=y
   simp only [Tm.cells,WN,QX,YI,Y4] at hi ⊢
   refine Jw tOk fe66.ok (ZS _ _ _ _ _ _ _) ?_
   repeat' first|refine Jk ?_|refine Jc (hi _) ?_|refine JJ ?_|refine Jl ?_|refine Jx ?_|refine Jt ?_|refine Jb ?_ ?_|refine Jo ?_|(apply dK;rfl;rfl;rfl)|refine Jd (hi _) ?_|refine JK ?_|(apply dLn;rfl;rfl;rfl;rfl;rfl)|refine JI ?_|(apply dT (ty:=4);rfl;rfl;rfl;rfl)|(apply dF (ty:=4);rfl;rfl;rfl;rfl)|(apply dB (ty:=4);rfl;rfl;rfl;rfl)|refine Jh ?_|(apply Wp.draw tOk follows;kernel_rfl)|intro hb
   all_goals first
    | exact ZS _ _ _ _ _ _ _
    | (exfalso;simp at hb;done)
 | false =>
   rw [hp] at hi
   rw [if_neg (by decide)]
   obtain ⟨k1,n1,s1,f1,l1⟩:=a
   simp only [Tm.cells,QX,YI] at hi ⊢
   refine Jw tOk fe66.ok rfl ?_
   repeat' first|refine Jk ?_|refine Jc (hi _) ?_|refine JJ ?_|refine Jl ?_|refine Jx ?_|refine Jt ?_|refine Jb ?_ ?_|refine Jo ?_|(apply dK;rfl;rfl;rfl)|refine Jd (hi _) ?_|refine JK ?_|(apply dLn;rfl;rfl;rfl;rfl;rfl)|refine JI ?_|(apply dT (ty:=4);rfl;rfl;rfl;rfl)|(apply dF (ty:=4);rfl;rfl;rfl;rfl)|(apply dB (ty:=4);rfl;rfl;rfl;rfl)|refine Jh ?_|(apply Wp.draw tOk follows;kernel_rfl)|intro hb
   all_goals first
    | rfl
    | (exfalso;simp at hb;done)
theorem W4 {k:Int} {s:Int} {b:Bool} {kz:List Tm} (h:(Tm.mk k nm s b kz).Ok∧(Tm.mk k nm s b kz).size≤100000) {x:Tm} (hx:x∈kz):x.Ok∧x.size≤100000:=⟨h.1.kid hx,by
 have h1:=ZJ hx
 have h2:=h.2
 rw [Tm.size] at h2
 omega⟩
theorem ZjI (ha:a.okA=true) (hk:key.okA=true) (ha':a.Ok∧a.size≤100000) (hk':key.Ok∧key.size≤100000) (b:Bool):∀ H,CallOk E0 Tryz.prog 66 [.agg (Tm.mk 3 WV 0 b [a,key]).cells] H (.agg (Xc (.mk 3 WV 0 b [a,key])).cells) H:=by
 have hi:=Zie a ZcE
 have hd:Xc (.mk 3 WV 0 b [a,key])=if (isA a ZcE&&decide ((a.kd 1).cmp key=0))=true then a.kd 0 else .mk 3 WV 0 b [a,key]:=by
  unfold Xc Zbf
  simp [Zcn,Tm.nm,Tm.kd,Vb,WZ,WV,Yu,Ys,YI]
 rw [hd]
 cases hp:isA a ZcE with
 | false =>
   rw [hp] at hi
   rw [if_neg (by simp)]
   obtain ⟨k1,n1,s1,f1,l1⟩:=a
   obtain ⟨k2,n2,s2,f2,l2⟩:=key
   simp only [Tm.cells,WN,WV] at hi ⊢
   refine Jw tOk fe66.ok rfl ?_
   repeat' first|refine Jk ?_|refine Jc (hi _) ?_|refine JJ ?_|refine Jl ?_|refine Jx ?_|refine Jt ?_|refine Jb ?_ ?_|refine Jo ?_|(apply dK;rfl;rfl;rfl)|refine Jd (hi _) ?_|refine JK ?_|(apply dLn;rfl;rfl;rfl;rfl;rfl)|refine JI ?_|(apply dT (ty:=4);rfl;rfl;rfl;rfl)|(apply dF (ty:=4);rfl;rfl;rfl;rfl)|(apply dB (ty:=4);rfl;rfl;rfl;rfl)|refine Jh ?_|(apply Wp.draw tOk follows;kernel_rfl)|intro hb
   all_goals first
    | exact ZS _ _ _ _ _ _ _
    | rfl
    | (exfalso;simp at hb;done)
 | true =>
   rw [hp] at hi
   obtain ⟨b1,x,y,rfl⟩:=Y1 ha hp rfl
   have hs:=ZmT (W4 ha' (x:=y) (by simp)) hk'
   show ∀ H,CallOk E0 Tryz.prog 66 _ H (.agg (Tm.cells (if (true&&decide (y.cmp key=0))=true then x else _))) H
   rw [Bool.true_and]
   generalize decide (y.cmp key=0)=c at hs ⊢
   obtain ⟨k1,n1,s1,f1,l1⟩:=x
   obtain ⟨k2,n2,s2,f2,l2⟩:=y
   obtain ⟨k3,n3,s3,f3,l3⟩:=key
   cases c
   · rw [if_neg (by decide)]
     simp only [Tm.cells,WN,WV,ZcE] at hi hs ⊢
     refine Jw tOk fe66.ok rfl ?_
     repeat' first|refine Jk ?_|refine Jc (hi _) ?_|refine Jc (hs _) ?_|refine JJ ?_|refine Jl ?_|refine Jx ?_|refine Jt ?_|refine Jb ?_ ?_|refine Jo ?_|(apply dK;rfl;rfl;rfl)|refine Jd (hi _) ?_|refine Jd (hs _) ?_|refine JK ?_|(apply dLn;rfl;rfl;rfl;rfl;rfl)|refine JI ?_|(apply dT (ty:=4);rfl;rfl;rfl;rfl)|(apply dF (ty:=4);rfl;rfl;rfl;rfl)|(apply dB (ty:=4);rfl;rfl;rfl;rfl)|refine Jh ?_|(apply Wp.draw tOk follows;kernel_rfl)|intro hb
     all_goals first
      | exact ZS _ _ _ _ _ _ _
      | rfl
      | (exfalso;simp at hb;done)
   · rw [if_pos rfl]
     simp only [Tm.cells,WN,WV,ZcE] at hi hs ⊢
     refine Jw tOk fe66.ok (ZS _ _ _ _ _ _ _) ?_
     repeat' first|refine Jk ?_|refine Jc (hi _) ?_|refine Jc (hs _) ?_|refine JJ ?_|refine Jl ?_|refine Jx ?_|refine Jt ?_|refine Jb ?_ ?_|refine Jo ?_|(apply dK;rfl;rfl;rfl)|refine Jd (hi _) ?_|refine Jd (hs _) ?_|refine JK ?_|(apply dLn;rfl;rfl;rfl;rfl;rfl)|refine JI ?_|(apply dT (ty:=4);rfl;rfl;rfl;rfl)|(apply dF (ty:=4);rfl;rfl;rfl;rfl)|(apply dB (ty:=4);rfl;rfl;rfl;rfl)|refine Jh ?_|(apply Wp.draw tOk follows;kernel_rfl)|intro hb
     all_goals first
      | exact ZS _ _ _ _ _ _ _
      | rfl
      | (exfalso;simp at hb;done)
theorem Zih (ha:a.okA=true) (hk:key.okA=true) (ha':a.Ok∧a.size≤100000) (hk':key.Ok∧key.size≤100000) (b:Bool):∀ H,CallOk E0 Tryz.prog 66 [.agg (Tm.mk 3 Yu 0 b [a,key]).cells] H (.agg (Xc (.mk 3 Yu 0 b [a,key])).cells) H:=by
 have hi:=Zie a WU
 have hd:Xc (.mk 3 Yu 0 b [a,key])=if (isA a WU&&isA (a.kd 1) pkN&&decide (((a.kd 1).kd 0).cmp key=0))=true then a.kd 0 else .mk 3 Yu 0 b [a,key]:=by
  unfold Xc Zbf
  simp [Zcn,Tm.nm,Tm.kd,Vb,WZ,WV,Yu,Ys,YI]
 rw [hd]
 cases hp:isA a WU with
 | false =>
   rw [hp] at hi
   rw [if_neg (by simp)]
   obtain ⟨k1,n1,s1,f1,l1⟩:=a
   obtain ⟨k2,n2,s2,f2,l2⟩:=key
   simp only [Tm.cells,WN,Yu] at hi ⊢
   refine Jw tOk fe66.ok rfl ?_
   repeat' first|refine Jk ?_|refine Jc (hi _) ?_|refine JJ ?_|refine Jl ?_|refine Jx ?_|refine Jt ?_|refine Jb ?_ ?_|refine Jo ?_|(apply dK;rfl;rfl;rfl)|refine Jd (hi _) ?_|refine JK ?_|(apply dLn;rfl;rfl;rfl;rfl;rfl)|refine JI ?_|(apply dT (ty:=4);rfl;rfl;rfl;rfl)|(apply dF (ty:=4);rfl;rfl;rfl;rfl)|(apply dB (ty:=4);rfl;rfl;rfl;rfl)|refine Jh ?_|(apply Wp.draw tOk follows;kernel_rfl)|intro hb
   all_goals first
    | exact ZS _ _ _ _ _ _ _
    | rfl
    | (exfalso;simp at hb;done)
 | true =>
   rw [hp] at hi
   obtain ⟨b1,x,y,rfl⟩:=Y1 ha hp rfl
   have hy:=W4 ha' (x:=y) (by simp)
   have hyA:=VC ha y (by simp)
   have hj:=Zie y pkN
   show ∀ H,CallOk E0 Tryz.prog 66 _ H (.agg (Tm.cells (if (true&&isA y pkN&&decide ((y.kd 0).cmp key=0))=true then x else _))) H
   rw [Bool.true_and]
   cases hq:isA y pkN with
   | false =>
     rw [hq] at hj
     rw [if_neg (by simp)]
     obtain ⟨k1,n1,s1,f1,l1⟩:=x
     obtain ⟨k2,n2,s2,f2,l2⟩:=y
     obtain ⟨k3,n3,s3,f3,l3⟩:=key
     simp only [Tm.cells,WN,Yu,WU] at hi hj ⊢
     refine Jw tOk fe66.ok rfl ?_
     repeat' first|refine Jk ?_|refine Jc (hi _) ?_|refine Jc (hj _) ?_|refine JJ ?_|refine Jl ?_|refine Jx ?_|refine Jt ?_|refine Jb ?_ ?_|refine Jo ?_|(apply dK;rfl;rfl;rfl)|refine Jd (hi _) ?_|refine Jd (hj _) ?_|refine JK ?_|(apply dLn;rfl;rfl;rfl;rfl;rfl)|refine JI ?_|(apply dT (ty:=4);rfl;rfl;rfl;rfl)|(apply dF (ty:=4);rfl;rfl;rfl;rfl)|(apply dB (ty:=4);rfl;rfl;rfl;rfl)|refine Jh ?_|(apply Wp.draw tOk follows;kernel_rfl)|intro hb
     all_goals first
      | exact ZS _ _ _ _ _ _ _
      | rfl
      | (exfalso;simp at hb;done)
   | true =>
     rw [hq] at hj
     obtain ⟨b2,z,rfl⟩:=ZfM hyA hq
     have hs:=ZmT (W4 hy (x:=z) (by simp)) hk'
     rw [Bool.true_and]
     show ∀ H,CallOk E0 Tryz.prog 66 _ H (.agg (Tm.cells (if decide (z.cmp key=0)=true then x else _))) H
     generalize decide (z.cmp key=0)=c at hs ⊢
     obtain ⟨k1,n1,s1,f1,l1⟩:=x
     obtain ⟨k2,n2,s2,f2,l2⟩:=z
     obtain ⟨k3,n3,s3,f3,l3⟩:=key
     cases c
     · rw [if_neg (by decide)]
       simp only [Tm.cells,WN,QX,Yu,WU,pkN] at hi hj hs ⊢
       refine Jw tOk fe66.ok rfl ?_
       repeat' first|refine Jk ?_|(apply qCl;rfl;rfl;rfl;rfl;first|exact hi _|exact hj _|exact hs _)|refine JJ ?_|refine Jl ?_|refine Jx ?_|refine Jt ?_|refine Jb ?_ ?_|refine Jo ?_|(apply dK;rfl;rfl;rfl)|(apply dCl;rfl;rfl;rfl;rfl;rfl;first|exact hi _|exact hj _|exact hs _)|refine JK ?_|(apply dLn;rfl;rfl;rfl;rfl;rfl)|refine JI ?_|(apply dT (ty:=4);rfl;rfl;rfl;rfl)|(apply dF (ty:=4);rfl;rfl;rfl;rfl)|(apply dB (ty:=4);rfl;rfl;rfl;rfl)|refine Jh ?_|(apply Wp.draw tOk follows;kernel_rfl)|intro hb
       all_goals first
        | exact ZS _ _ _ _ _ _ _
        | rfl
        | (exfalso;simp at hb;done)
     · rw [if_pos rfl]
       simp only [Tm.cells,WN,QX,Yu,WU,pkN] at hi hj hs ⊢
       refine Jw tOk fe66.ok (ZS _ _ _ _ _ _ _) ?_
       repeat' first|refine Jk ?_|(apply qCl;rfl;rfl;rfl;rfl;first|exact hi _|exact hj _|exact hs _)|refine JJ ?_|refine Jl ?_|refine Jx ?_|refine Jt ?_|refine Jb ?_ ?_|refine Jo ?_|(apply dK;rfl;rfl;rfl)|(apply dCl;rfl;rfl;rfl;rfl;rfl;first|exact hi _|exact hj _|exact hs _)|refine JK ?_|(apply dLn;rfl;rfl;rfl;rfl;rfl)|refine JI ?_|(apply dT (ty:=4);rfl;rfl;rfl;rfl)|(apply dF (ty:=4);rfl;rfl;rfl;rfl)|(apply dB (ty:=4);rfl;rfl;rfl;rfl)|refine Jh ?_|(apply Wp.draw tOk follows;kernel_rfl)|intro hb
       all_goals first
        | exact ZS _ _ _ _ _ _ _
        | rfl
        | (exfalso;simp at hb;done)
theorem Zia (ha:a.okA=true) (hk:key.okA=true) (ha':a.Ok∧a.size≤100000) (hk':key.Ok∧key.size≤100000) (b:Bool):∀ H,CallOk E0 Tryz.prog 66 [.agg (Tm.mk 3 Ys 0 b [a,key]).cells] H (.agg (Xc (.mk 3 Ys 0 b [a,key])).cells) H:=by
 have hi:=Zie a Y4
 have hd:Xc (.mk 3 Ys 0 b [a,key])=if (isA a Y4&&isA key pkN&&decide ((a.kd 1).cmp (key.kd 0)=0))=true then a.kd 0 else .mk 3 Ys 0 b [a,key]:=by
  unfold Xc Zbf
  simp [Zcn,Tm.nm,Tm.kd,Vb,WZ,WV,Yu,Ys,YI]
 rw [hd]
 cases hp:isA a Y4 with
 | false =>
   rw [hp] at hi
   rw [if_neg (by simp)]
   obtain ⟨k1,n1,s1,f1,l1⟩:=a
   obtain ⟨k2,n2,s2,f2,l2⟩:=key
   simp only [Tm.cells,WN,Ys] at hi ⊢
   refine Jw tOk fe66.ok rfl ?_
   repeat' first|refine Jk ?_|refine Jc (hi _) ?_|refine JJ ?_|refine Jl ?_|refine Jx ?_|refine Jt ?_|refine Jb ?_ ?_|refine Jo ?_|(apply dK;rfl;rfl;rfl)|refine Jd (hi _) ?_|refine JK ?_|(apply dLn;rfl;rfl;rfl;rfl;rfl)|refine JI ?_|(apply dT (ty:=4);rfl;rfl;rfl;rfl)|(apply dF (ty:=4);rfl;rfl;rfl;rfl)|(apply dB (ty:=4);rfl;rfl;rfl;rfl)|refine Jh ?_|(apply Wp.draw tOk follows;kernel_rfl)|intro hb
   all_goals first
    | exact ZS _ _ _ _ _ _ _
    | rfl
    | (exfalso;simp at hb;done)
 | true =>
   rw [hp] at hi
   obtain ⟨b1,x,y,rfl⟩:=Y1 ha hp rfl
   have hj:=Zie key pkN
   show ∀ H,CallOk E0 Tryz.prog 66 _ H (.agg (Tm.cells (if (true&&isA key pkN&&decide (y.cmp (key.kd 0)=0))=true then x else _))) H
   rw [Bool.true_and]
   cases hq:isA key pkN with
   | false =>
     rw [hq] at hj
     rw [if_neg (by simp)]
     obtain ⟨k1,n1,s1,f1,l1⟩:=x
     obtain ⟨k2,n2,s2,f2,l2⟩:=y
     obtain ⟨k3,n3,s3,f3,l3⟩:=key
     simp only [Tm.cells,WN,Ys,Y4] at hi hj ⊢
     refine Jw tOk fe66.ok rfl ?_
     repeat' first|refine Jk ?_|refine Jc (hi _) ?_|refine Jc (hj _) ?_|refine JJ ?_|refine Jl ?_|refine Jx ?_|refine Jt ?_|refine Jb ?_ ?_|refine Jo ?_|(apply dK;rfl;rfl;rfl)|refine Jd (hi _) ?_|refine Jd (hj _) ?_|refine JK ?_|(apply dLn;rfl;rfl;rfl;rfl;rfl)|refine JI ?_|(apply dT (ty:=4);rfl;rfl;rfl;rfl)|(apply dF (ty:=4);rfl;rfl;rfl;rfl)|(apply dB (ty:=4);rfl;rfl;rfl;rfl)|refine Jh ?_|(apply Wp.draw tOk follows;kernel_rfl)|intro hb
     all_goals first
      | exact ZS _ _ _ _ _ _ _
      | rfl
      | (exfalso;simp at hb;done)
   | true =>
     rw [hq] at hj
     obtain ⟨b2,z,rfl⟩:=ZfM hk hq
     have hs:=ZmT (W4 ha' (x:=y) (by simp)) (W4 hk' (x:=z) (by simp))
     rw [Bool.true_and]
     show ∀ H,CallOk E0 Tryz.prog 66 _ H (.agg (Tm.cells (if decide (y.cmp z=0)=true then x else _))) H
     generalize decide (y.cmp z=0)=c at hs ⊢
     obtain ⟨k1,n1,s1,f1,l1⟩:=x
     obtain ⟨k2,n2,s2,f2,l2⟩:=y
     obtain ⟨k3,n3,s3,f3,l3⟩:=z
     cases c
     · rw [if_neg (by decide)]
       simp only [Tm.cells,WN,QX,Ys,Y4,pkN] at hi hj hs ⊢
       refine Jw tOk fe66.ok rfl ?_
       repeat' first|refine Jk ?_|(apply qCl;rfl;rfl;rfl;rfl;first|exact hi _|exact hj _|exact hs _)|refine JJ ?_|refine Jl ?_|refine Jx ?_|refine Jt ?_|refine Jb ?_ ?_|refine Jo ?_|(apply dK;rfl;rfl;rfl)|(apply dCl;rfl;rfl;rfl;rfl;rfl;first|exact hi _|exact hj _|exact hs _)|refine JK ?_|(apply dLn;rfl;rfl;rfl;rfl;rfl)|refine JI ?_|(apply dT (ty:=4);rfl;rfl;rfl;rfl)|(apply dF (ty:=4);rfl;rfl;rfl;rfl)|(apply dB (ty:=4);rfl;rfl;rfl;rfl)|refine Jh ?_|(apply Wp.draw tOk follows;kernel_rfl)|intro hb
       all_goals first
        | exact ZS _ _ _ _ _ _ _
        | rfl
        | (exfalso;simp at hb;done)
     · rw [if_pos rfl]
       simp only [Tm.cells,WN,QX,Ys,Y4,pkN] at hi hj hs ⊢
       refine Jw tOk fe66.ok (ZS _ _ _ _ _ _ _) ?_
       repeat' first|refine Jk ?_|(apply qCl;rfl;rfl;rfl;rfl;first|exact hi _|exact hj _|exact hs _)|refine JJ ?_|refine Jl ?_|refine Jx ?_|refine Jt ?_|refine Jb ?_ ?_|refine Jo ?_|(apply dK;rfl;rfl;rfl)|(apply dCl;rfl;rfl;rfl;rfl;rfl;first|exact hi _|exact hj _|exact hs _)|refine JK ?_|(apply dLn;rfl;rfl;rfl;rfl;rfl)|refine JI ?_|(apply dT (ty:=4);rfl;rfl;rfl;rfl)|(apply dF (ty:=4);rfl;rfl;rfl;rfl)|(apply dB (ty:=4);rfl;rfl;rfl;rfl)|refine Jh ?_|(apply Wp.draw tOk follows;kernel_rfl)|intro hb
       all_goals first
        | exact ZS _ _ _ _ _ _ _
        | rfl
        | (exfalso;simp at hb;done)
theorem Znv {l:List α} (h:l.length=1):∃ a,l= [a]:=by
 match l,h with
 | [a],_=>exact ⟨a,rfl⟩
theorem ZlH {l:List α} (h:l.length=2):∃ a b,l= [a,b]:=by
 match l,h with
 | [a,b],_=>exact ⟨a,b,rfl⟩
theorem Za8 (h:(YG nm).kind=3):((nm=Vb∨nm=WZ∨nm=YI)∧(YG nm).least=1∧(YG nm).most=1)∨((nm=WV∨nm=Yu∨nm=Ys)∧(YG nm).least=2∧(YG nm).most=2):=by
 rcases Qq nm with e|⟨e1,e2⟩
 · rw [e] at h;exact absurd h (by decide)
 · rw [← e2]
   rw [e2]
   revert h
   have e3:=e2
   generalize YG nm=s at e1 e2 e3 ⊢
   simp only [QK,List.mem_cons,List.not_mem_nil,or_false] at e1
   rcases e1 with rfl|rfl|rfl|rfl|rfl|rfl|rfl|rfl|rfl|rfl|rfl|rfl|rfl|rfl|rfl|rfl|rfl|rfl|rfl|rfl|rfl<;>intro h<;>first|exact absurd h (by decide)|(subst e2;first|exact .inl ⟨.inl rfl,rfl,rfl⟩|exact .inl ⟨.inr (.inl rfl),rfl,rfl⟩|exact .inl ⟨.inr (.inr rfl),rfl,rfl⟩|exact .inr ⟨.inl rfl,rfl,rfl⟩|exact .inr ⟨.inr (.inl rfl),rfl,rfl⟩|exact .inr ⟨.inr (.inr rfl),rfl,rfl⟩)
theorem c66 {ks:List Tm} (h0:(YG nm).kind=3) (h1:(YG nm).least≤ks.length) (h2:(ks.length:Int)≤(YG nm).most) (hA:∀ x,x∈ks→x.okA=true) (hS:SmL ks) (b:Bool):∀ H,CallOk E0 Tryz.prog 66 [.agg (Tm.mk 3 nm 0 b ks).cells] H (.agg (Xc (.mk 3 nm 0 b ks)).cells) H:=by
 rcases Za8 h0 with ⟨hn,e1,e2⟩|⟨hn,e1,e2⟩
 · rw [e1] at h1
   rw [e2] at h2
   obtain ⟨a,rfl⟩:=Znv (l:=ks) (by omega)
   have ha:=hA a (by simp)
   rcases hn with rfl|rfl|rfl
   · exact ZjR ha b
   · exact Zj5 ha b
   · exact Zh4 ha b
 · rw [e1] at h1
   rw [e2] at h2
   obtain ⟨a,key,rfl⟩:=ZlH (l:=ks) (by omega)
   have ha:=hA a (by simp)
   have hk:=hA key (by simp)
   have ha':=hS a (by simp)
   have hk':=hS key (by simp)
   rcases hn with rfl|rfl|rfl
   · exact ZjI ha hk ha' hk' b
   · exact Zih ha hk ha' hk' b
   · exact Zia ha hk ha' hk' b
