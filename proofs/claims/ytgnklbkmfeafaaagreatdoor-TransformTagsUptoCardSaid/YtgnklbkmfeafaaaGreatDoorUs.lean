/-
  Terms, steps and goals in their scope: the reference's text.
-/
import Derived.Test.YtgnklbkmfeafaaaGreatDoorUr
set_option maxHeartbeats 0
set_option maxRecDepth 100000
namespace Go.Vm
variable {R:List Zg} {m:Zg} {s:Int} {b:Bool} {kz:List Tm}
theorem Ze1 (h:m=WA):scI R (.mk 3 m s b kz)=if kz.length=1 then 1 else -1:=by subst h;exact Zfb
theorem ZeT (h:m=Vb):scI R (.mk 3 m s b kz)=if kz.length=2∧(kz.drop 1).all (WJ R)=true then 1 else -1:=by subst h;exact ZeZ
theorem Zfa (h:m=VK):scI R (.mk 3 m s b kz)=if kz.length=2∧(kz.drop 1).all (VW R)=true then 1 else -1:=by subst h;exact Zfs
theorem Zgo (h:m=ZbZ):scI R (.mk 3 m s b kz)=if kz.length=2∧kz.all (WM R)=true∧(kz.map Tm.nam).head? ≠((kz.drop 1).map Tm.nam).head? then 0 else -1:=by subst h;exact Zge
end Go.Vm
namespace Go.Vm.Seat
variable {n:Na}
open Go.Proofs
theorem ZkK (hR:n.roles.length≤100) (m:Zg) (s:Int) (b:Bool) (kz:List Tm):∀ H,CallOk E0 Tryz.prog 160 [.agg n.cells,.agg (Tm.mk 3 m s b kz).cells] H (.int .i64 (scI n.roles (.mk 3 m s b kz))) H:=by
 have z1:=Z6 ((Zb kz).length:Int) 1
 have z2:=Z6 ((Zb kz).length:Int) 2
 have hcl:=Za kz
 have w1:=Y1 m ZN
 have w2:=Y1 m Ze5
 have w3:=Y1 m WA
 have w4:=Y1 m Vb
 have w5:=Y1 m VK
 have w6:=Y1 m ZbZ
 have hP:=Zjw hR (.mk 3 m s b kz)
 have cR:=Zjl hR
 have cV:=Zjf hR
 have cP:=Zjw hR
 by_cases d1:m=ZN∨m=Ze5
 · rw [Wq (by rcases d1 with h | h <;> rw [h] <;> decide)] at hP
   rw [ZgM d1]
   clear cR cV cP
   obtain ⟨nm,rn,rs,fn,fr,tn,ts,sn,ss,gn,gs⟩:=n
   simp only [Na.cells,Tm.cells] at hP ⊢
   refine Jw tOk fe160.ok rfl ?_ (by simp only [Zt,Zj,ZR])
   rcases d1 with h|h
   · rw [decide_eq_true h] at w1
     rw [dn h (by decide)] at w2 w3 w4 w5 w6
     by_cases c:kz.length=2
     · rw [decide_eq_true (by omega)] at z2
       rw [if_pos c]
       repeat' first|refine Jk ?_|refine Ji ?_|refine JJ ?_|refine Jl ?_|refine Jx ?_|refine Jt ?_|refine Jb ?_ ?_|refine Jo ?_|(apply dK;rfl;rfl;rfl)|refine JD ?_|refine JK ?_|(apply dLn;rfl;rfl;rfl;rfl;rfl)|refine JI ?_|(apply dT (ty:=4);rfl;rfl;rfl;rfl)|(apply dF (ty:=4);rfl;rfl;rfl;rfl)|(apply dB (ty:=4);rfl;rfl;rfl;rfl)|refine Jh ?_|(apply Wp.draw tOk follows;kernel_rfl)|intro hb
       all_goals rfl
     · rw [decide_eq_false (by omega)] at z2
       rw [if_neg c]
       repeat' first|refine Jk ?_|refine Jc (hP _) ?_|refine Ji ?_|refine JJ ?_|refine Jl ?_|refine Jx ?_|refine Jt ?_|refine Jb ?_ ?_|refine Jo ?_|(apply dK;rfl;rfl;rfl)|refine Jd (hP _) ?_|refine JD ?_|refine JK ?_|(apply dLn;rfl;rfl;rfl;rfl;rfl)|refine JI ?_|(apply dT (ty:=4);rfl;rfl;rfl;rfl)|(apply dF (ty:=4);rfl;rfl;rfl;rfl)|(apply dB (ty:=4);rfl;rfl;rfl;rfl)|refine Jh ?_|(apply Wp.draw tOk follows;kernel_rfl)|intro hb
       all_goals rfl
   · rw [decide_eq_true h] at w2
     rw [dn h (by decide)] at w1 w3 w4 w5 w6
     by_cases c:kz.length=2
     · rw [decide_eq_true (by omega)] at z2
       rw [if_pos c]
       repeat' first|refine Jk ?_|refine Ji ?_|refine JJ ?_|refine Jl ?_|refine Jx ?_|refine Jt ?_|refine Jb ?_ ?_|refine Jo ?_|(apply dK;rfl;rfl;rfl)|refine JD ?_|refine JK ?_|(apply dLn;rfl;rfl;rfl;rfl;rfl)|refine JI ?_|(apply dT (ty:=4);rfl;rfl;rfl;rfl)|(apply dF (ty:=4);rfl;rfl;rfl;rfl)|(apply dB (ty:=4);rfl;rfl;rfl;rfl)|refine Jh ?_|(apply Wp.draw tOk follows;kernel_rfl)|intro hb
       all_goals rfl
     · rw [decide_eq_false (by omega)] at z2
       rw [if_neg c]
       repeat' first|refine Jk ?_|refine Jc (hP _) ?_|refine Ji ?_|refine JJ ?_|refine Jl ?_|refine Jx ?_|refine Jt ?_|refine Jb ?_ ?_|refine Jo ?_|(apply dK;rfl;rfl;rfl)|refine Jd (hP _) ?_|refine JD ?_|refine JK ?_|(apply dLn;rfl;rfl;rfl;rfl;rfl)|refine JI ?_|(apply dT (ty:=4);rfl;rfl;rfl;rfl)|(apply dF (ty:=4);rfl;rfl;rfl;rfl)|(apply dB (ty:=4);rfl;rfl;rfl;rfl)|refine Jh ?_|(apply Wp.draw tOk follows;kernel_rfl)|intro hb
       all_goals rfl
 obtain ⟨d1,d2⟩:m≠ZN∧m≠Ze5:=⟨fun h=>d1 (.inl h),fun h=>d1 (.inr h)⟩
 rw [decide_eq_false d1] at w1
 rw [decide_eq_false d2] at w2
 by_cases d3:m=WA
 · rw [decide_eq_true d3] at w3
   rw [dn d3 (by decide)] at w4 w5 w6
   rw [Wq (by rw [d3];decide)] at hP
   rw [Ze1 d3]
   clear cR cV cP
   obtain ⟨nm,rn,rs,fn,fr,tn,ts,sn,ss,gn,gs⟩:=n
   simp only [Na.cells,Tm.cells] at hP ⊢
   refine Jw tOk fe160.ok rfl ?_ (by simp only [Zt,Zj,ZR])
   by_cases c:kz.length=1
   · rw [decide_eq_true (by omega)] at z1
     rw [if_pos c]
     repeat' first|refine Jk ?_|refine Ji ?_|refine JJ ?_|refine Jl ?_|refine Jx ?_|refine Jt ?_|refine Jb ?_ ?_|refine Jo ?_|(apply dK;rfl;rfl;rfl)|refine JD ?_|refine JK ?_|(apply dLn;rfl;rfl;rfl;rfl;rfl)|refine JI ?_|(apply dT (ty:=4);rfl;rfl;rfl;rfl)|(apply dF (ty:=4);rfl;rfl;rfl;rfl)|(apply dB (ty:=4);rfl;rfl;rfl;rfl)|refine Jh ?_|(apply Wp.draw tOk follows;kernel_rfl)|intro hb
     all_goals rfl
   · rw [decide_eq_false (by omega)] at z1
     rw [if_neg c]
     repeat' first|refine Jk ?_|refine Jc (hP _) ?_|refine Ji ?_|refine JJ ?_|refine Jl ?_|refine Jx ?_|refine Jt ?_|refine Jb ?_ ?_|refine Jo ?_|(apply dK;rfl;rfl;rfl)|refine Jd (hP _) ?_|refine JD ?_|refine JK ?_|(apply dLn;rfl;rfl;rfl;rfl;rfl)|refine JI ?_|(apply dT (ty:=4);rfl;rfl;rfl;rfl)|(apply dF (ty:=4);rfl;rfl;rfl;rfl)|(apply dB (ty:=4);rfl;rfl;rfl;rfl)|refine Jh ?_|(apply Wp.draw tOk follows;kernel_rfl)|intro hb
     all_goals rfl
 rw [decide_eq_false d3] at w3
 by_cases d4:m=Vb
 · rw [decide_eq_true d4] at w4
   rw [dn d4 (by decide)] at w5 w6
   rw [Wq (by rw [d4];decide)] at hP
   rw [ZeT d4]
   clear cR cV
   by_cases c:kz.length=2
   · obtain ⟨x, y, rfl⟩ := sh2 c
     have cP:=cP y
     rw [show ([x,y].drop 1).all (WJ n.roles)=WJ n.roles y by simp]
     generalize WJ n.roles y=B at cP ⊢
     rw [decide_eq_true (by omega)] at z2
     obtain ⟨nm,rn,rs,fn,fr,tn,ts,sn,ss,gn,gs⟩:=n
     obtain ⟨k',m',s',b',kz'⟩:=y
     have hj2:=Zh (l:=[x,.mk k' m' s' b' kz']) (i:=1) rfl
     simp only [Na.cells,Tm.cells] at hP cP ⊢
     refine Jw tOk fe160.ok rfl ?_ (by simp only [Zt,Zj,ZR])
     cases B with
     | true =>
       rw [if_pos ⟨c,rfl⟩]
       repeat' first|refine Jk ?_|refine Jc (cP _) ?_|refine Ji ?_|refine JJ ?_|refine Jl ?_|refine Jx ?_|refine Jt ?_|refine Jb ?_ ?_|refine Jo ?_|(apply dK;rfl;rfl;rfl)|refine Jd (cP _) ?_|refine JD ?_|refine JK ?_|(apply dLn;rfl;rfl;rfl;rfl;rfl)|refine JI ?_|(apply dT (ty:=4);rfl;rfl;rfl;rfl)|(apply dF (ty:=4);rfl;rfl;rfl;rfl)|(apply dB (ty:=4);rfl;rfl;rfl;rfl)|refine Jh ?_|(apply Wp.draw tOk follows;kernel_rfl)|intro hb
       all_goals rfl
     | false =>
       rw [if_neg (by simp)]
       repeat' first|refine Jk ?_|refine Jc (cP _) ?_|refine Jc (hP _) ?_|refine Ji ?_|refine JJ ?_|refine Jl ?_|refine Jx ?_|refine Jt ?_|refine Jb ?_ ?_|refine Jo ?_|(apply dK;rfl;rfl;rfl)|refine Jd (cP _) ?_|refine Jd (hP _) ?_|refine JD ?_|refine JK ?_|(apply dLn;rfl;rfl;rfl;rfl;rfl)|refine JI ?_|(apply dT (ty:=4);rfl;rfl;rfl;rfl)|(apply dF (ty:=4);rfl;rfl;rfl;rfl)|(apply dB (ty:=4);rfl;rfl;rfl;rfl)|refine Jh ?_|(apply Wp.draw tOk follows;kernel_rfl)|intro hb
       all_goals rfl
   · rw [decide_eq_false (by omega)] at z2
     rw [if_neg (fun h=>c h.1)]
     obtain ⟨nm,rn,rs,fn,fr,tn,ts,sn,ss,gn,gs⟩:=n
     simp only [Na.cells,Tm.cells] at hP ⊢
     refine Jw tOk fe160.ok rfl ?_ (by simp only [Zt,Zj,ZR])
     repeat' first|refine Jk ?_|refine Jc (hP _) ?_|refine Ji ?_|refine JJ ?_|refine Jl ?_|refine Jx ?_|refine Jt ?_|refine Jb ?_ ?_|refine Jo ?_|(apply dK;rfl;rfl;rfl)|refine Jd (hP _) ?_|refine JD ?_|refine JK ?_|(apply dLn;rfl;rfl;rfl;rfl;rfl)|refine JI ?_|(apply dT (ty:=4);rfl;rfl;rfl;rfl)|(apply dF (ty:=4);rfl;rfl;rfl;rfl)|(apply dB (ty:=4);rfl;rfl;rfl;rfl)|refine Jh ?_|(apply Wp.draw tOk follows;kernel_rfl)|intro hb
     all_goals rfl
 rw [decide_eq_false d4] at w4
 by_cases d5:m=VK
 · rw [decide_eq_true d5] at w5
   rw [dn d5 (by decide)] at w6
   rw [Wq (by rw [d5];decide)] at hP
   rw [Zfa d5]
   clear cR cP
   by_cases c:kz.length=2
   · obtain ⟨x, y, rfl⟩ := sh2 c
     have cV:=cV y
     rw [show ([x,y].drop 1).all (VW n.roles)=VW n.roles y by simp]
     generalize VW n.roles y=B at cV ⊢
     rw [decide_eq_true (by omega)] at z2
     obtain ⟨nm,rn,rs,fn,fr,tn,ts,sn,ss,gn,gs⟩:=n
     obtain ⟨k',m',s',b',kz'⟩:=y
     have hj2:=Zh (l:=[x,.mk k' m' s' b' kz']) (i:=1) rfl
     simp only [Na.cells,Tm.cells] at hP cV ⊢
     refine Jw tOk fe160.ok rfl ?_ (by simp only [Zt,Zj,ZR])
     cases B with
     | true =>
       rw [if_pos ⟨c,rfl⟩]
       repeat' first|refine Jk ?_|refine Jc (cV _) ?_|refine Ji ?_|refine JJ ?_|refine Jl ?_|refine Jx ?_|refine Jt ?_|refine Jb ?_ ?_|refine Jo ?_|(apply dK;rfl;rfl;rfl)|refine Jd (cV _) ?_|refine JD ?_|refine JK ?_|(apply dLn;rfl;rfl;rfl;rfl;rfl)|refine JI ?_|(apply dT (ty:=4);rfl;rfl;rfl;rfl)|(apply dF (ty:=4);rfl;rfl;rfl;rfl)|(apply dB (ty:=4);rfl;rfl;rfl;rfl)|refine Jh ?_|(apply Wp.draw tOk follows;kernel_rfl)|intro hb
       all_goals rfl
     | false =>
       rw [if_neg (by simp)]
       repeat' first|refine Jk ?_|refine Jc (cV _) ?_|refine Jc (hP _) ?_|refine Ji ?_|refine JJ ?_|refine Jl ?_|refine Jx ?_|refine Jt ?_|refine Jb ?_ ?_|refine Jo ?_|(apply dK;rfl;rfl;rfl)|refine Jd (cV _) ?_|refine Jd (hP _) ?_|refine JD ?_|refine JK ?_|(apply dLn;rfl;rfl;rfl;rfl;rfl)|refine JI ?_|(apply dT (ty:=4);rfl;rfl;rfl;rfl)|(apply dF (ty:=4);rfl;rfl;rfl;rfl)|(apply dB (ty:=4);rfl;rfl;rfl;rfl)|refine Jh ?_|(apply Wp.draw tOk follows;kernel_rfl)|intro hb
       all_goals rfl
   · rw [decide_eq_false (by omega)] at z2
     rw [if_neg (fun h=>c h.1)]
     obtain ⟨nm,rn,rs,fn,fr,tn,ts,sn,ss,gn,gs⟩:=n
     simp only [Na.cells,Tm.cells] at hP ⊢
     refine Jw tOk fe160.ok rfl ?_ (by simp only [Zt,Zj,ZR])
     repeat' first|refine Jk ?_|refine Jc (hP _) ?_|refine Ji ?_|refine JJ ?_|refine Jl ?_|refine Jx ?_|refine Jt ?_|refine Jb ?_ ?_|refine Jo ?_|(apply dK;rfl;rfl;rfl)|refine Jd (hP _) ?_|refine JD ?_|refine JK ?_|(apply dLn;rfl;rfl;rfl;rfl;rfl)|refine JI ?_|(apply dT (ty:=4);rfl;rfl;rfl;rfl)|(apply dF (ty:=4);rfl;rfl;rfl;rfl)|(apply dB (ty:=4);rfl;rfl;rfl;rfl)|refine Jh ?_|(apply Wp.draw tOk follows;kernel_rfl)|intro hb
     all_goals rfl
 rw [decide_eq_false d5] at w5
 clear cP cV
 by_cases d6:m=ZbZ
 · rw [decide_eq_true d6] at w6
   rw [Wq (by rw [d6];decide)] at hP
   rw [Zgo d6]
   by_cases c:kz.length=2
   · obtain ⟨x, y, rfl⟩ := sh2 c
     have cX:=cR x
     have cY:=cR y
     have hall:[x,y].all (WM n.roles)=(WM n.roles x&&WM n.roles y):=by simp
     rw [hall]
     clear hall cR
     generalize WM n.roles x=A at cX ⊢
     generalize WM n.roles y=B at cY ⊢
     rw [decide_eq_true (by omega)] at z2
     obtain ⟨nm,rn,rs,fn,fr,tn,ts,sn,ss,gn,gs⟩:=n
     obtain ⟨k1,m1,s1,b1,kz1⟩:=x
     obtain ⟨k',m',s',b',kz'⟩:=y
     have hns:=ZaT m1 m'
     rw [show ([Tm.mk k1 m1 s1 b1 kz1,Tm.mk k' m' s' b' kz'].map Tm.nam).head? = some m1 from rfl,show (([Tm.mk k1 m1 s1 b1 kz1,Tm.mk k' m' s' b' kz'].drop 1).map Tm.nam).head? = some m' from rfl]
     have hj1:=Zh (l:=[.mk k1 m1 s1 b1 kz1,.mk k' m' s' b' kz']) (i:=0) rfl
     have hj2:=Zh (l:=[.mk k1 m1 s1 b1 kz1,.mk k' m' s' b' kz']) (i:=1) rfl
     simp only [Na.cells,Tm.cells] at hP cX cY ⊢
     refine Jw tOk fe160.ok rfl ?_ (by simp only [Zt,Zj,ZR])
     cases A with
     | false =>
       rw [if_neg (by simp)]
       repeat' first|refine Jk ?_|refine Jc (cX _) ?_|refine Jc (hP _) ?_|refine Ji ?_|refine JJ ?_|refine Jl ?_|refine Jx ?_|refine Jt ?_|refine Jb ?_ ?_|refine Jo ?_|(apply dK;rfl;rfl;rfl)|refine Jd (cX _) ?_|refine Jd (hP _) ?_|refine JD ?_|refine JK ?_|(apply dLn;rfl;rfl;rfl;rfl;rfl)|refine JI ?_|(apply dT (ty:=4);rfl;rfl;rfl;rfl)|(apply dF (ty:=4);rfl;rfl;rfl;rfl)|(apply dB (ty:=4);rfl;rfl;rfl;rfl)|refine Jh ?_|(apply Wp.draw tOk follows;kernel_rfl)|intro hb
       all_goals rfl
     | true=>
     cases B with
     | false =>
       rw [if_neg (by simp)]
       repeat' first|refine Jk ?_|(apply qCl;rfl;rfl;rfl;rfl;first|exact cX _|exact cY _|exact hP _)|refine Ji ?_|refine JJ ?_|refine Jl ?_|refine Jx ?_|refine Jt ?_|refine Jb ?_ ?_|refine Jo ?_|(apply dK;rfl;rfl;rfl)|(apply dCl;rfl;rfl;rfl;rfl;rfl;first|exact cX _|exact cY _|exact hP _)|refine JD ?_|refine JK ?_|(apply dLn;rfl;rfl;rfl;rfl;rfl)|refine JI ?_|(apply dT (ty:=4);rfl;rfl;rfl;rfl)|(apply dF (ty:=4);rfl;rfl;rfl;rfl)|(apply dB (ty:=4);rfl;rfl;rfl;rfl)|refine Jh ?_|(apply Wp.draw tOk follows;kernel_rfl)|intro hb
       all_goals rfl
     | true=>
     by_cases c2:m1=m'
     · rw [decide_eq_true c2] at hns
       rw [if_neg (by simp [c2])]
       repeat' first|refine Jk ?_|(apply qCl;rfl;rfl;rfl;rfl;first|exact cX _|exact cY _|exact hP _)|refine Ji ?_|refine JJ ?_|refine Jl ?_|refine Jx ?_|refine Jt ?_|refine Jb ?_ ?_|refine Jo ?_|(apply dK;rfl;rfl;rfl)|(apply dCl;rfl;rfl;rfl;rfl;rfl;first|exact cX _|exact cY _|exact hP _)|refine JD ?_|refine JK ?_|(apply dLn;rfl;rfl;rfl;rfl;rfl)|refine JI ?_|(apply dT (ty:=4);rfl;rfl;rfl;rfl)|(apply dF (ty:=4);rfl;rfl;rfl;rfl)|(apply dB (ty:=4);rfl;rfl;rfl;rfl)|refine Jh ?_|(apply Wp.draw tOk follows;kernel_rfl)|intro hb
       all_goals rfl
     · rw [decide_eq_false c2] at hns
       rw [if_pos ⟨c,rfl,fun h=>c2 (Option.some.inj h)⟩]
       repeat' first|refine Jk ?_|(apply qCl;rfl;rfl;rfl;rfl;first|exact cX _|exact cY _|exact hP _)|refine Ji ?_|refine JJ ?_|refine Jl ?_|refine Jx ?_|refine Jt ?_|refine Jb ?_ ?_|refine Jo ?_|(apply dK;rfl;rfl;rfl)|(apply dCl;rfl;rfl;rfl;rfl;rfl;first|exact cX _|exact cY _|exact hP _)|refine JD ?_|refine JK ?_|(apply dLn;rfl;rfl;rfl;rfl;rfl)|refine JI ?_|(apply dT (ty:=4);rfl;rfl;rfl;rfl)|(apply dF (ty:=4);rfl;rfl;rfl;rfl)|(apply dB (ty:=4);rfl;rfl;rfl;rfl)|refine Jh ?_|(apply Wp.draw tOk follows;kernel_rfl)|intro hb
       all_goals rfl
   · rw [decide_eq_false (by omega)] at z2
     rw [if_neg (fun h=>c h.1)]
     clear cR
     obtain ⟨nm,rn,rs,fn,fr,tn,ts,sn,ss,gn,gs⟩:=n
     simp only [Na.cells,Tm.cells] at hP ⊢
     refine Jw tOk fe160.ok rfl ?_ (by simp only [Zt,Zj,ZR])
     repeat' first|refine Jk ?_|refine Jc (hP _) ?_|refine Ji ?_|refine JJ ?_|refine Jl ?_|refine Jx ?_|refine Jt ?_|refine Jb ?_ ?_|refine Jo ?_|(apply dK;rfl;rfl;rfl)|refine Jd (hP _) ?_|refine JD ?_|refine JK ?_|(apply dLn;rfl;rfl;rfl;rfl;rfl)|refine JI ?_|(apply dT (ty:=4);rfl;rfl;rfl;rfl)|(apply dF (ty:=4);rfl;rfl;rfl;rfl)|(apply dB (ty:=4);rfl;rfl;rfl;rfl)|refine Jh ?_|(apply Wp.draw tOk follows;kernel_rfl)|intro hb
     all_goals rfl
 rw [decide_eq_false d6] at w6
 clear cR
 rw [Zft d1 d2 d3 d4 d5 d6]
 generalize WJ n.roles (.mk 3 m s b kz)=B at hP ⊢
 obtain ⟨nm,rn,rs,fn,fr,tn,ts,sn,ss,gn,gs⟩:=n
 simp only [Na.cells,Tm.cells] at hP ⊢
 refine Jw tOk fe160.ok rfl ?_ (by simp only [Zt,Zj,ZR])
 cases B with
 | true =>
   rw [if_pos rfl]
   repeat' first|refine Jk ?_|refine Jc (hP _) ?_|refine Ji ?_|refine JJ ?_|refine Jl ?_|refine Jx ?_|refine Jt ?_|refine Jb ?_ ?_|refine Jo ?_|(apply dK;rfl;rfl;rfl)|refine Jd (hP _) ?_|refine JD ?_|refine JK ?_|(apply dLn;rfl;rfl;rfl;rfl;rfl)|refine JI ?_|(apply dT (ty:=4);rfl;rfl;rfl;rfl)|(apply dF (ty:=4);rfl;rfl;rfl;rfl)|(apply dB (ty:=4);rfl;rfl;rfl;rfl)|refine Jh ?_|(apply Wp.draw tOk follows;kernel_rfl)|intro hb
   all_goals rfl
 | false =>
   rw [if_neg (by simp)]
   repeat' first|refine Jk ?_|refine Jc (hP _) ?_|refine Ji ?_|refine JJ ?_|refine Jl ?_|refine Jx ?_|refine Jt ?_|refine Jb ?_ ?_|refine Jo ?_|(apply dK;rfl;rfl;rfl)|refine Jd (hP _) ?_|refine JD ?_|refine JK ?_|(apply dLn;rfl;rfl;rfl;rfl;rfl)|refine JI ?_|(apply dT (ty:=4);rfl;rfl;rfl;rfl)|(apply dF (ty:=4);rfl;rfl;rfl;rfl)|(apply dB (ty:=4);rfl;rfl;rfl;rfl)|refine Jh ?_|(apply Wp.draw tOk follows;kernel_rfl)|intro hb
   all_goals rfl
theorem Zjs (h:n.Sm) {t:Tm} (ht:t.Ok):∀ H,CallOk E0 Tryz.prog 142 [.agg n.cells,.agg t.cells] H (.int .i64 (t.sc n.roles n.nms)) H:=by
 obtain ⟨so,cN⟩:=c74 h
 have hR:n.roles.length≤100:=Nat.le_trans h.rl (by decide)
 have cK:=ZkK hR
 have hNl:n.nms.length≤1100000:=by
  have h1:=h.rl;have h2:=h.fl;have h3:=h.tl
  simp only [Na.nms,List.length_append,List.length_map];omega
 have cI:=fun v=>ZgZ hNl v true
 clear h
 induction ht with
 | @mk k nm' s' b' kz hk hs hn hl hok ih=>
 have hkl:=VC hl
 have n3:=Ue k 3
 by_cases c3:k=3
 case neg=>
  have cJ:=cI nm'
  clear cI
  rw [decide_eq_false c3] at n3
  rw [Tm.sc,if_pos c3]
  have z0:=Zn (XS (isR nm') n.nms 0) 0
  rw [Zfh] at z0
  generalize XS (isR nm') n.nms 0=F at cJ z0
  generalize ZU n.nms nm'=B at z0 ⊢
  generalize n.nms=N at cN cJ
  obtain ⟨nm,rn,rs,fn,fr,tn,ts,sn,ss,gn,gs⟩:=n
  simp only [Na.cells,Tm.cells] at cN ⊢
  refine Jw tOk fe142.ok rfl ?_ (by simp only [Zt,Zj,ZR])
  cases B
  all_goals
   repeat' first|refine Jc (cN _) ?_|refine Jc (cJ _) ?_|refine Ji ?_|refine JJ ?_|refine Jx ?_|refine Jt ?_|refine Jb ?_ ?_|refine Jo ?_|refine Jd (cN _) ?_|refine Jd (cJ _) ?_|refine JD ?_|refine JK ?_|refine JI ?_|(apply dT (ty:=4);rfl;rfl;rfl;rfl)|(apply dF (ty:=4);rfl;rfl;rfl;rfl)|(apply dB (ty:=4);rfl;rfl;rfl;rfl)|refine Jh ?_|(apply Wp.draw tOk follows;kernel_rfl)|intro hb
   all_goals rfl
 subst c3
 rw [decide_eq_true rfl] at n3
 have cK:=cK nm' s' b' kz
 have hle:=ZhR n.roles (.mk 3 nm' s' b' kz)
 have hkd:(Tm.mk 3 nm' s' b' kz).kds=kz:=rfl
 rw [hkd] at hle
 clear hkd
 have z1:=Zn (scI n.roles (.mk 3 nm' s' b' kz)) 0
 have hsi:scI n.roles (.mk 3 nm' s' b' kz)=if scK n.roles (.mk 3 nm' s' b' kz)=9 then -1 else (scK n.roles (.mk 3 nm' s' b' kz):Int):=rfl
 obtain ⟨K,hK⟩:∃ K,scK n.roles (.mk 3 nm' s' b' kz)=K:=⟨_,rfl⟩
 rw [hK] at hle hsi
 by_cases c9:K=9
 · rw [Zdi (hK.trans c9)]
   rw [if_pos c9] at hsi
   rw [hsi] at cK z1
   rw [decide_eq_true (by omega)] at z1
   clear hK hle hsi ih cI cN
   obtain ⟨nm,rn,rs,fn,fr,tn,ts,sn,ss,gn,gs⟩:=n
   simp only [Na.cells,Tm.cells] at cK ⊢
   refine Jw tOk fe142.ok rfl ?_ (by simp only [Zt,Zj,ZR])
   repeat' first|refine Jc (cK _) ?_|refine Ji ?_|refine JJ ?_|refine Jx ?_|refine Jt ?_|refine Jb ?_ ?_|refine Jo ?_|refine Jd (cK _) ?_|refine JD ?_|refine JK ?_|refine JI ?_|(apply dT (ty:=4);rfl;rfl;rfl;rfl)|(apply dF (ty:=4);rfl;rfl;rfl;rfl)|(apply dB (ty:=4);rfl;rfl;rfl;rfl)|refine Jh ?_|(apply Wp.draw tOk follows;kernel_rfl)|intro hb
   all_goals rfl
 · have hle := hle c9
   rw [ZfO hK c9]
   rw [if_neg c9] at hsi
   rw [hsi] at cK z1
   rw [decide_eq_false (by omega)] at z1
   clear hK hsi cI cN c9
   generalize n.nms=N at ih ⊢
   obtain ⟨R,hRe⟩:∃ R,R=n.roles:=⟨_,rfl⟩
   rw [← hRe] at ih ⊢
   clear hRe hR
   obtain ⟨nm,rn,rs,fn,fr,tn,ts,sn,ss,gn,gs⟩:=n
   simp only [Na.cells] at cK ih ⊢
   obtain ⟨L,hL⟩:∃ L,L=kz.take K:=⟨_,rfl⟩
   have hLl:L.length=K:=by rw [hL,List.length_take];omega
   have hLg:∀ {i:Nat} {t:Tm},L[i]? = some t→kz[i]? = some t:=fun {i t} hh=>by
    rw [hL,List.getElem?_take] at hh
    split at hh
    · exact hh
    · cases hh
   rw [← hL]
   clear hL
   simp only [Tm.cells] at cK ⊢
   refine Jw tOk fe142.ok rfl ?_ (by simp only [Zt,Zj,ZR])
   repeat' first|refine Jc (cK _) ?_|refine Ji ?_|refine JJ ?_|refine Jx ?_|refine Jt ?_|refine Jb ?_ ?_|refine Jo ?_|refine Jd (cK _) ?_|refine JD ?_|refine JK ?_|refine JI ?_|(apply dT (ty:=4);rfl;rfl;rfl;rfl)|(apply dF (ty:=4);rfl;rfl;rfl;rfl)|(apply dB (ty:=4);rfl;rfl;rfl;rfl)|refine Jh ?_|(apply Wp.draw tOk follows;kernel_rfl)|intro hb
   refine Wp.while (fun m2 tm H=>∃ (i:Nat) (base:TM),i+m2=L.length∧Zv (Tm.sc R N) L=Zv (Tm.sc R N) (L.drop i)∧tm=ovr base [(2,.ptr 0 6 0 0),(3,.ptr 1 4 0 0),(7,.int .i64 (K:Int)),(8,.int .i64 (i:Int))]∧H=⟨[naB nm rn rs fn fr tn ts sn ss gn gs,.cells 4 [[.int .i64 3,.str nm',.int .i64 s',slV b' 4 (Zb kz)]]],0,[],0⟩)
    (fun m2 tm H hI=>?_) L.length _ _ ⟨0,_,by omega,by simp,Zf ⟨rfl,rfl,rfl,rfl,trivial⟩,rfl⟩
   obtain ⟨i,base,hi,hgo,rfl,rfl⟩:=hI
   rw [hgo]
   have hlx:=Zn (i:Int) (K:Int)
   by_cases hlt:i<L.length
   · obtain ⟨t, ht⟩ : ∃ t, L[i]? = some t := ⟨L[i], by simp⟩
     have hq:=ih t (List.mem_of_getElem? (hLg ht))
     rw [decide_eq_true (by omega)] at hlx
     have hii:=Zy (a:=(i:Int)) (b:=1) (by omega) (by omega)
     rw [show (i:Int)+1=((i+1:Nat):Int) by omega] at hii
     rw [Zl ht rfl]
     have n1:=ZK (t.sc R N) 0
     generalize t.sc R N=e at hq n1 ⊢
     obtain ⟨k',nm',s',b',kz'⟩:=t
     have hj:=Zh (hLg ht)
     simp only [Tm.cells] at hq
     by_cases c1:e=0
     · rw [decide_eq_true c1] at n1
       rw [if_neg (by omega)]
       repeat' first|refine Jc (hq _) ?_|refine Ji ?_|refine JJ ?_|refine Jx ?_|refine Jt ?_|refine Jb ?_ ?_|refine Jo ?_|refine Jd (hq _) ?_|refine JD ?_|refine JK ?_|refine JI ?_|(apply dT (ty:=4);rfl;rfl;rfl;rfl)|(apply dF (ty:=4);rfl;rfl;rfl;rfl)|(apply dB (ty:=4);rfl;rfl;rfl;rfl)|refine Jh ?_|(apply Wp.draw tOk follows;kernel_rfl)|intro hb
       exact LoopI.go (m2-1) (by omega) ⟨i+1,_,by omega,rfl,Zf ⟨rfl,rfl,rfl,rfl,trivial⟩,rfl⟩
     · rw [decide_eq_false c1] at n1
       rw [if_pos c1]
       repeat' first|refine Jc (hq _) ?_|refine Ji ?_|refine JJ ?_|refine Jx ?_|refine Jt ?_|refine Jb ?_ ?_|refine Jo ?_|refine Jd (hq _) ?_|refine JD ?_|refine JK ?_|refine JI ?_|(apply dT (ty:=4);rfl;rfl;rfl;rfl)|(apply dF (ty:=4);rfl;rfl;rfl;rfl)|(apply dB (ty:=4);rfl;rfl;rfl;rfl)|refine Jh ?_|(apply Wp.draw tOk follows;kernel_rfl)|intro hb
       all_goals rfl
   · have e : i = L.length := by omega
     subst e
     rw [decide_eq_false (by omega)] at hlx
     rw [List.drop_length]
     repeat' first|refine Ji ?_|refine JJ ?_|refine Jx ?_|refine Jt ?_|refine Jb ?_ ?_|refine Jo ?_|refine JD ?_|refine JK ?_|refine JI ?_|(apply dT (ty:=4);rfl;rfl;rfl;rfl)|(apply dF (ty:=4);rfl;rfl;rfl;rfl)|(apply dB (ty:=4);rfl;rfl;rfl;rfl)|refine Jh ?_|(apply Wp.draw tOk follows;kernel_rfl)|intro hb
     all_goals rfl
