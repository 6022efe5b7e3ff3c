/-
  Keys of roles, terms, steps and goals in their scope: the reference's text.
-/
import Derived.Test.YtgnklbkmfeafaaaGreatDoorUp
set_option maxHeartbeats 0
set_option maxRecDepth 100000
namespace Go.Vm
variable {R:List Zg} {m:Zg} {s:Int} {b:Bool} {kz:List Tm}
theorem ZdD (k:Int) (m:Zg) (s:Int) (b:Bool) (kz:List Tm) (w:Zg) (n:Nat):isA (.mk k m s b kz) w n=(isF k m w&&decide (kz.length=n)):=by
 show (decide (k=3)&&(decide (m=w)&&decide (kz.length=n)))=((decide (k=3)&&(m==w))&&decide (kz.length=n))
 rw [Bool.and_assoc,show (m==w)=decide (m=w) by by_cases h:m=w<;>simp [h]]
theorem Zhm (R:List Zg) (k:Int) (m:Zg) (s:Int) (b:Bool) (kz:List Tm):VW R (.mk k m s b kz)=(isF k m nSk&&decide (kz.length=1)&&kz.all (WM R)):=by
 rw [VW,ZdD];rfl
theorem ZfH (R:List Zg) (k:Int) (m:Zg) (s:Int) (b:Bool) (kz:List Tm):WJ R (.mk k m s b kz)=(isF k m nPk&&decide (kz.length=1)&&kz.all (VW R)):=by
 rw [WJ,ZdD];rfl
theorem Zal (m:Zg) (s:Int) (b:Bool) (kz:List Tm) (w:Zg) (n:Nat):isA (.mk 3 m s b kz) w n=(decide (m=w)&&decide (kz.length=n)):=by
 show (decide ((3:Int)=3)&&(decide (m=w)&&decide (kz.length=n)))=_
 rw [decide_eq_true rfl,Bool.true_and]
theorem Wq {k:Int} (h:m≠nPk):WJ R (.mk k m s b kz)=false:=by
 rw [ZfH,isF]
 simp [h]
theorem dn {a b:Zg} (h:m=a) (hab:a≠b):decide (m=b)=false:=by rw [h];exact decide_eq_false hab
def scI (R:List Zg) (t:Tm):Int:=if scK R t=9 then -1 else (scK R t:Int)
theorem ZgM (h:m=ZN∨m=Ze5):scI R (.mk 3 m s b kz)=if kz.length=2 then 2 else -1:=by
 unfold scI scK
 by_cases c:kz.length=2
 · rcases h with rfl|rfl<;>simp [Zal,c]
 · rcases h with rfl|rfl<;>simp [Zal,c,Wq]
theorem Zfb:scI R (.mk 3 WA s b kz)=if kz.length=1 then 1 else -1:=by
 unfold scI scK
 by_cases c:kz.length=1
 · simp [Zal,c]
 · simp [Zal,c,Wq]
theorem ZeZ:scI R (.mk 3 Vb s b kz)=if kz.length=2∧(kz.drop 1).all (WJ R)=true then 1 else -1:=by
 have h:(Tm.mk 3 Vb s b kz).kds=kz:=rfl
 unfold scI scK
 rw [h,Wq (by decide)]
 simp only [Zal]
 generalize (kz.drop 1).all (WJ R)=P
 generalize (kz.drop 1).all (VW R)=Q
 generalize kz.all (WM R)=W
 generalize (kz.map Tm.nam).head? = A
 generalize ((kz.drop 1).map Tm.nam).head? = B
 by_cases c:kz.length=2<;>cases P<;>simp [c]
theorem Zfs:scI R (.mk 3 VK s b kz)=if kz.length=2∧(kz.drop 1).all (VW R)=true then 1 else -1:=by
 have h:(Tm.mk 3 VK s b kz).kds=kz:=rfl
 unfold scI scK
 rw [h,Wq (by decide)]
 simp only [Zal]
 generalize (kz.drop 1).all (WJ R)=P
 generalize (kz.drop 1).all (VW R)=Q
 generalize kz.all (WM R)=W
 generalize (kz.map Tm.nam).head? = A
 generalize ((kz.drop 1).map Tm.nam).head? = B
 by_cases c:kz.length=2<;>cases Q<;>simp [c]
theorem Zge:scI R (.mk 3 ZbZ s b kz)=if kz.length=2∧kz.all (WM R)=true∧(kz.map Tm.nam).head? ≠((kz.drop 1).map Tm.nam).head? then 0 else -1:=by
 have h:(Tm.mk 3 ZbZ s b kz).kds=kz:=rfl
 unfold scI scK
 rw [h,Wq (by decide)]
 simp only [Zal]
 generalize (kz.drop 1).all (WJ R)=P
 generalize (kz.drop 1).all (VW R)=Q
 generalize kz.all (WM R)=W
 generalize (kz.map Tm.nam).head? = A
 generalize ((kz.drop 1).map Tm.nam).head? = B
 by_cases c:kz.length=2<;>cases W<;>by_cases c2:A=B<;>simp [c,c2]
theorem Zft (h1:m≠ZN) (h2:m≠Ze5) (h3:m≠WA) (h4:m≠Vb) (h5:m≠VK) (h6:m≠ZbZ):scI R (.mk 3 m s b kz)=if WJ R (.mk 3 m s b kz)=true then 0 else -1:=by
 unfold scI scK
 simp only [Zal,h1,h2,h3,h4,h5,h6,decide_false,Bool.false_and]
 by_cases c:WJ R (.mk 3 m s b kz)=true<;>simp [c]
theorem ZhR (R:List Zg) (t:Tm):scK R t≠9→scK R t≤t.kds.length:=by
 unfold scK
 split
 · rename_i h1;rcases h1 with h1|h1<;>have:=(Yn h1).1<;>omega
 split
 · rename_i h1;have:=(Yn h1).1;omega
 split
 · rename_i h1;have:=(Yn h1.1).1;omega
 split
 · rename_i h1;have:=(Yn h1.1).1;omega
 split
 · omega
 split
 · omega
 · intro h;exact absurd rfl h
end Go.Vm
namespace Go.Vm.Seat
variable {n:Na}
open Go.Proofs
theorem ZR (k:Int) (m:Zg) (s:Int) (b:Bool) (kz:List Tm):frzG (.agg [.int .i64 k,.str m,.int .i64 s,slV b 4 (Zb kz)])=some (.agg [.int .i64 k,.str m,.int .i64 s,slV b 4 (Zb kz)]):=Zbx (.mk k m s b kz)
theorem Zjl (hR:n.roles.length≤100) (t:Tm):∀ H,CallOk E0 Tryz.prog 172 [.agg n.cells,.agg t.cells] H (.bool (WM n.roles t)) H:=by
 have hi:=ZgZ (l:=n.roles) (by omega) t.nam n.rn
 obtain ⟨nm,rn,rs,fn,fr,tn,ts,sn,ss,gn,gs⟩:=n
 obtain ⟨k,m,s,b,kz⟩:=t
 simp only [Na.cells,Tm.cells,Tm.nam] at hi ⊢
 have z1:=Z6 k 2
 have z2:=Us (XS (isR m) rs 0) 0
 rw [ZgB] at z2
 rw [show WM rs (.mk k m s b kz)=(decide (k=2)&&ZU rs m) from rfl]
 generalize XS (isR m) rs 0=F at hi z2
 generalize decide (k=2)=A at z1 ⊢
 generalize ZU rs m=B at z2 ⊢
 refine Jw tOk fe172.ok rfl ?_ (by simp only [Zt,Zj,ZR])
 cases A<;>cases B
 all_goals
  repeat' first|refine Jk ?_|refine Jc (hi _) ?_|refine Ji ?_|refine Jt ?_|refine Jb ?_ ?_|refine Jo ?_|intro hb
  all_goals rfl
theorem Zjf (hR:n.roles.length≤100) (t:Tm):∀ H,CallOk E0 Tryz.prog 171 [.agg n.cells,.agg t.cells] H (.bool (VW n.roles t)) H:=by
 have hI:=fun k m s b kz=>Zjy k m s b kz nSk
 obtain ⟨k,m,s,b,kz⟩:=t
 have hI:=hI k m s b kz
 have z1:=Z6 ((Zb kz).length:Int) 1
 have hcl:=Za kz
 rw [Zhm]
 by_cases c:kz.length=1
 · rw [decide_eq_true (by omega)] at z1
   obtain ⟨x,rfl⟩:=sh1 c
   have hr:=Zjl hR x
   rw [decide_eq_true c,show ∀ p:Tm→Bool,[x].all p=p x from fun p=>by simp]
   generalize isF k m nSk=A at hI ⊢
   generalize WM n.roles x=B at hr ⊢
   obtain ⟨nm,rn,rs,fn,fr,tn,ts,sn,ss,gn,gs⟩:=n
   obtain ⟨k',m',s',b',kz'⟩:=x
   have hj:=Zh (l:=[.mk k' m' s' b' kz']) (i:=0) rfl
   simp only [Na.cells,Tm.cells] at hr ⊢
   refine Jw tOk fe171.ok rfl ?_ (by simp only [Zt,Zj,ZR])
   cases A<;>cases B
   all_goals
    repeat' first|refine Jk ?_|refine Jc (hI _) ?_|refine Jc (hr _) ?_|refine Ji ?_|refine JJ ?_|refine Jl ?_|refine Jx ?_|refine Jt ?_|refine Jb ?_ ?_|refine Jo ?_|(apply dK;rfl;rfl;rfl)|refine Jd (hI _) ?_|refine Jd (hr _) ?_|refine JD ?_|refine JK ?_|(apply dLn;rfl;rfl;rfl;rfl;rfl)|refine JI ?_|(apply dT (ty:=4);rfl;rfl;rfl;rfl)|(apply dF (ty:=4);rfl;rfl;rfl;rfl)|(apply dB (ty:=4);rfl;rfl;rfl;rfl)|refine Jh ?_|(apply Wp.draw tOk follows;kernel_rfl)|intro hb
    all_goals rfl
 · rw [decide_eq_false (by omega)] at z1
   rw [decide_eq_false c,Bool.and_false,Bool.false_and]
   generalize isF k m nSk=A at hI
   obtain ⟨nm,rn,rs,fn,fr,tn,ts,sn,ss,gn,gs⟩:=n
   simp only [Na.cells,Tm.cells]
   refine Jw tOk fe171.ok rfl ?_ (by simp only [Zt,Zj,ZR])
   cases A
   all_goals
    repeat' first|refine Jk ?_|refine Jc (hI _) ?_|refine Ji ?_|refine JJ ?_|refine Jl ?_|refine Jx ?_|refine Jt ?_|refine Jb ?_ ?_|refine Jo ?_|(apply dK;rfl;rfl;rfl)|refine Jd (hI _) ?_|refine JD ?_|refine JK ?_|(apply dLn;rfl;rfl;rfl;rfl;rfl)|refine JI ?_|(apply dT (ty:=4);rfl;rfl;rfl;rfl)|(apply dF (ty:=4);rfl;rfl;rfl;rfl)|(apply dB (ty:=4);rfl;rfl;rfl;rfl)|refine Jh ?_|(apply Wp.draw tOk follows;kernel_rfl)|intro hb
    all_goals rfl
theorem Zjw (hR:n.roles.length≤100) (t:Tm):∀ H,CallOk E0 Tryz.prog 170 [.agg n.cells,.agg t.cells] H (.bool (WJ n.roles t)) H:=by
 have hI:=fun k m s b kz=>Zjy k m s b kz nPk
 obtain ⟨k,m,s,b,kz⟩:=t
 have hI:=hI k m s b kz
 have z1:=Z6 ((Zb kz).length:Int) 1
 have hcl:=Za kz
 rw [ZfH]
 by_cases c:kz.length=1
 · rw [decide_eq_true (by omega)] at z1
   obtain ⟨x,rfl⟩:=sh1 c
   have hr:=Zjf hR x
   rw [decide_eq_true c,show ∀ p:Tm→Bool,[x].all p=p x from fun p=>by simp]
   generalize isF k m nPk=A at hI ⊢
   generalize VW n.roles x=B at hr ⊢
   obtain ⟨nm,rn,rs,fn,fr,tn,ts,sn,ss,gn,gs⟩:=n
   obtain ⟨k',m',s',b',kz'⟩:=x
   have hj:=Zh (l:=[.mk k' m' s' b' kz']) (i:=0) rfl
   simp only [Na.cells,Tm.cells] at hr ⊢
   refine Jw tOk fe170.ok rfl ?_ (by simp only [Zt,Zj,ZR])
   cases A<;>cases B
   all_goals
    repeat' first|refine Jk ?_|refine Jc (hI _) ?_|refine Jc (hr _) ?_|refine Ji ?_|refine JJ ?_|refine Jl ?_|refine Jx ?_|refine Jt ?_|refine Jb ?_ ?_|refine Jo ?_|(apply dK;rfl;rfl;rfl)|refine Jd (hI _) ?_|refine Jd (hr _) ?_|refine JD ?_|refine JK ?_|(apply dLn;rfl;rfl;rfl;rfl;rfl)|refine JI ?_|(apply dT (ty:=4);rfl;rfl;rfl;rfl)|(apply dF (ty:=4);rfl;rfl;rfl;rfl)|(apply dB (ty:=4);rfl;rfl;rfl;rfl)|refine Jh ?_|(apply Wp.draw tOk follows;kernel_rfl)|intro hb
    all_goals rfl
 · rw [decide_eq_false (by omega)] at z1
   rw [decide_eq_false c,Bool.and_false,Bool.false_and]
   generalize isF k m nPk=A at hI
   obtain ⟨nm,rn,rs,fn,fr,tn,ts,sn,ss,gn,gs⟩:=n
   simp only [Na.cells,Tm.cells]
   refine Jw tOk fe170.ok rfl ?_ (by simp only [Zt,Zj,ZR])
   cases A
   all_goals
    repeat' first|refine Jk ?_|refine Jc (hI _) ?_|refine Ji ?_|refine JJ ?_|refine Jl ?_|refine Jx ?_|refine Jt ?_|refine Jb ?_ ?_|refine Jo ?_|(apply dK;rfl;rfl;rfl)|refine Jd (hI _) ?_|refine JD ?_|refine JK ?_|(apply dLn;rfl;rfl;rfl;rfl;rfl)|refine JI ?_|(apply dT (ty:=4);rfl;rfl;rfl;rfl)|(apply dF (ty:=4);rfl;rfl;rfl;rfl)|(apply dB (ty:=4);rfl;rfl;rfl;rfl)|refine Jh ?_|(apply Wp.draw tOk follows;kernel_rfl)|intro hb
    all_goals rfl
