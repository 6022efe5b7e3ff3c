/-
  Keys of roles, terms, steps and goals in their scope: the reference's text.
-/
import Derived.Test.YtgnklbkmfeafaaaGreatDoorUp
set_option maxHeartbeats 0
set_option maxRecDepth 100000
namespace Go.Vm
variable {R:List Zg} {m:Zg} {s:Int} {b:Bool} {kz:List Tm}
theorem ZdK (k:Int) (m:Zg) (s:Int) (b:Bool) (kz:List Tm) (w:Zg) (n:Nat):isA (.mk k m s b kz) w n=(isF k m w&&decide (kz.length=n)):=by
 show (decide (k=3)&&(decide (m=w)&&decide (kz.length=n)))=((decide (k=3)&&(m==w))&&decide (kz.length=n))
 rw [Bool.and_assoc,show (m==w)=decide (m=w) by by_cases h:m=w<;>simp [h]]
theorem ZgE (R:List Zg) (k:Int) (m:Zg) (s:Int) (b:Bool) (kz:List Tm):Vw R (.mk k m s b kz)=(isF k m nSk&&decide (kz.length=1)&&kz.all (Wz R)):=by
 rw [Vw,ZdK];rfl
theorem Ze7 (R:List Zg) (k:Int) (m:Zg) (s:Int) (b:Bool) (kz:List Tm):Ww R (.mk k m s b kz)=(isF k m nPk&&decide (kz.length=1)&&kz.all (Vw R)):=by
 rw [Ww,ZdK];rfl
theorem Qu (m:Zg) (s:Int) (b:Bool) (kz:List Tm) (w:Zg) (n:Nat):isA (.mk 3 m s b kz) w n=(decide (m=w)&&decide (kz.length=n)):=by
 show (decide ((3:Int)=3)&&(decide (m=w)&&decide (kz.length=n)))=_
 rw [decide_eq_true rfl,Bool.true_and]
theorem We {k:Int} (h:m≠nPk):Ww R (.mk k m s b kz)=false:=by
 rw [Ze7,isF]
 simp [h]
theorem dn {a b:Zg} (h:m=a) (hab:a≠b):decide (m=b)=false:=by rw [h];exact decide_eq_false hab
def scI (R:List Zg) (t:Tm):Int:=if scK R t=9 then -1 else (scK R t:Int)
theorem ZfO (h:m=Y7∨m=ZdQ):scI R (.mk 3 m s b kz)=if kz.length=2 then 2 else -1:=by
 unfold scI scK
 by_cases c:kz.length=2
 · rcases h with rfl|rfl<;>simp [Qu,c]
 · rcases h with rfl|rfl<;>simp [Qu,c,We]
theorem Zen:scI R (.mk 3 U5 s b kz)=if kz.length=1 then 1 else -1:=by
 unfold scI scK
 by_cases c:kz.length=1
 · simp [Qu,c]
 · simp [Qu,c,We]
theorem Zeu:scI R (.mk 3 Ub s b kz)=if kz.length=2∧(kz.drop 1).all (Ww R)=true then 1 else -1:=by
 have h:(Tm.mk 3 Ub s b kz).kds=kz:=rfl
 unfold scI scK
 rw [h,We (by decide)]
 simp only [Qu]
 generalize (kz.drop 1).all (Ww R)=P
 generalize (kz.drop 1).all (Vw R)=Q
 generalize kz.all (Wz R)=W
 generalize (kz.map Tm.nam).head? = A
 generalize ((kz.drop 1).map Tm.nam).head? = B
 by_cases c:kz.length=2<;>cases P<;>simp [c]
theorem Zeq:scI R (.mk 3 Vr s b kz)=if kz.length=2∧(kz.drop 1).all (Vw R)=true then 1 else -1:=by
 have h:(Tm.mk 3 Vr s b kz).kds=kz:=rfl
 unfold scI scK
 rw [h,We (by decide)]
 simp only [Qu]
 generalize (kz.drop 1).all (Ww R)=P
 generalize (kz.drop 1).all (Vw R)=Q
 generalize kz.all (Wz R)=W
 generalize (kz.map Tm.nam).head? = A
 generalize ((kz.drop 1).map Tm.nam).head? = B
 by_cases c:kz.length=2<;>cases Q<;>simp [c]
theorem Zfo:scI R (.mk 3 Za4 s b kz)=if kz.length=2∧kz.all (Wz R)=true∧(kz.map Tm.nam).head? ≠((kz.drop 1).map Tm.nam).head? then 0 else -1:=by
 have h:(Tm.mk 3 Za4 s b kz).kds=kz:=rfl
 unfold scI scK
 rw [h,We (by decide)]
 simp only [Qu]
 generalize (kz.drop 1).all (Ww R)=P
 generalize (kz.drop 1).all (Vw R)=Q
 generalize kz.all (Wz R)=W
 generalize (kz.map Tm.nam).head? = A
 generalize ((kz.drop 1).map Tm.nam).head? = B
 by_cases c:kz.length=2<;>cases W<;>by_cases c2:A=B<;>simp [c,c2]
theorem Zef (h1:m≠Y7) (h2:m≠ZdQ) (h3:m≠U5) (h4:m≠Ub) (h5:m≠Vr) (h6:m≠Za4):scI R (.mk 3 m s b kz)=if Ww R (.mk 3 m s b kz)=true then 0 else -1:=by
 unfold scI scK
 simp only [Qu,h1,h2,h3,h4,h5,h6,decide_false,Bool.false_and]
 by_cases c:Ww R (.mk 3 m s b kz)=true<;>simp [c]
theorem Zg1 (R:List Zg) (t:Tm):scK R t≠9→scK R t≤t.kds.length:=by
 unfold scK
 split
 · rename_i h1;rcases h1 with h1|h1<;>have:=(Ye h1).1<;>omega
 split
 · rename_i h1;have:=(Ye h1).1;omega
 split
 · rename_i h1;have:=(Ye h1.1).1;omega
 split
 · rename_i h1;have:=(Ye h1.1).1;omega
 split
 · omega
 split
 · omega
 · intro h;exact absurd rfl h
end Go.Vm
namespace Go.Vm.Seat
variable {n:Na}
open Go.Proofs
theorem ZM (k:Int) (m:Zg) (s:Int) (b:Bool) (kz:List Tm):frzG (.agg [.int .i64 k,.str m,.int .i64 s,slV b 4 (Zb kz)])=some (.agg [.int .i64 k,.str m,.int .i64 s,slV b 4 (Zb kz)]):=ZaI (.mk k m s b kz)
theorem Zix (hR:n.roles.length≤100) (t:Tm):∀ H,CallOk E0 Tryz.prog 172 [.agg n.cells,.agg t.cells] H (.bool (Wz n.roles t)) H:=by
 have hi:=Zgi (l:=n.roles) (by omega) t.nam n.rn
 obtain ⟨nm,rn,rs,fn,fr,tn,ts,sn,ss,gn,gs⟩:=n
 obtain ⟨k,m,s,b,kz⟩:=t
 simp only [Na.cells,Tm.cells,Tm.nam] at hi ⊢
 have z1:=Z1 k 2
 have z2:=VX (XM (isR m) rs 0) 0
 rw [Zf5] at z2
 rw [show Wz rs (.mk k m s b kz)=(decide (k=2)&&ZP rs m) from rfl]
 generalize XM (isR m) rs 0=F at hi z2
 generalize decide (k=2)=A at z1 ⊢
 generalize ZP rs m=B at z2 ⊢
 refine Jw tOk fe172.ok rfl ?_ (by simp only [Zv,Zl,ZM])
 cases A<;>cases B
 all_goals
  repeat' first|refine Jk ?_|refine Jc (hi _) ?_|refine Ji ?_|refine Jt ?_|refine Jb ?_ ?_|refine Jo ?_|intro hb
  all_goals rfl
theorem Ziy (hR:n.roles.length≤100) (t:Tm):∀ H,CallOk E0 Tryz.prog 171 [.agg n.cells,.agg t.cells] H (.bool (Vw n.roles t)) H:=by
 have hI:=fun k m s b kz=>Ziz k m s b kz nSk
 obtain ⟨k,m,s,b,kz⟩:=t
 have hI:=hI k m s b kz
 have z1:=Z1 ((Zb kz).length:Int) 1
 have hcl:=Za kz
 rw [ZgE]
 by_cases c:kz.length=1
 · rw [decide_eq_true (by omega)] at z1
   obtain ⟨x,rfl⟩:=sh1 c
   have hr:=Zix hR x
   rw [decide_eq_true c,show ∀ p:Tm→Bool,[x].all p=p x from fun p=>by simp]
   generalize isF k m nSk=A at hI ⊢
   generalize Wz n.roles x=B at hr ⊢
   obtain ⟨nm,rn,rs,fn,fr,tn,ts,sn,ss,gn,gs⟩:=n
   obtain ⟨k',m',s',b',kz'⟩:=x
   have hj:=Zh (l:=[.mk k' m' s' b' kz']) (i:=0) rfl
   simp only [Na.cells,Tm.cells] at hr ⊢
   refine Jw tOk fe171.ok rfl ?_ (by simp only [Zv,Zl,ZM])
   cases A<;>cases B
   all_goals
    repeat' first|refine Jk ?_|refine Jc (hI _) ?_|refine Jc (hr _) ?_|refine Ji ?_|refine JJ ?_|refine Jl ?_|refine Jx ?_|refine Jt ?_|refine Jb ?_ ?_|refine Jo ?_|(apply dK;rfl;rfl;rfl)|refine Jd (hI _) ?_|refine Jd (hr _) ?_|refine JD ?_|refine JK ?_|(apply dLn;rfl;rfl;rfl;rfl;rfl)|refine JI ?_|(apply dT (ty:=4);rfl;rfl;rfl;rfl)|(apply dF (ty:=4);rfl;rfl;rfl;rfl)|(apply dB (ty:=4);rfl;rfl;rfl;rfl)|refine Jh ?_|(apply Wp.draw tOk follows;kernel_rfl)|intro hb
    all_goals rfl
 · rw [decide_eq_false (by omega)] at z1
   rw [decide_eq_false c,Bool.and_false,Bool.false_and]
   generalize isF k m nSk=A at hI
   obtain ⟨nm,rn,rs,fn,fr,tn,ts,sn,ss,gn,gs⟩:=n
   simp only [Na.cells,Tm.cells]
   refine Jw tOk fe171.ok rfl ?_ (by simp only [Zv,Zl,ZM])
   cases A
   all_goals
    repeat' first|refine Jk ?_|refine Jc (hI _) ?_|refine Ji ?_|refine JJ ?_|refine Jl ?_|refine Jx ?_|refine Jt ?_|refine Jb ?_ ?_|refine Jo ?_|(apply dK;rfl;rfl;rfl)|refine Jd (hI _) ?_|refine JD ?_|refine JK ?_|(apply dLn;rfl;rfl;rfl;rfl;rfl)|refine JI ?_|(apply dT (ty:=4);rfl;rfl;rfl;rfl)|(apply dF (ty:=4);rfl;rfl;rfl;rfl)|(apply dB (ty:=4);rfl;rfl;rfl;rfl)|refine Jh ?_|(apply Wp.draw tOk follows;kernel_rfl)|intro hb
    all_goals rfl
theorem ZiN (hR:n.roles.length≤100) (t:Tm):∀ H,CallOk E0 Tryz.prog 170 [.agg n.cells,.agg t.cells] H (.bool (Ww n.roles t)) H:=by
 have hI:=fun k m s b kz=>Ziz k m s b kz nPk
 obtain ⟨k,m,s,b,kz⟩:=t
 have hI:=hI k m s b kz
 have z1:=Z1 ((Zb kz).length:Int) 1
 have hcl:=Za kz
 rw [Ze7]
 by_cases c:kz.length=1
 · rw [decide_eq_true (by omega)] at z1
   obtain ⟨x,rfl⟩:=sh1 c
   have hr:=Ziy hR x
   rw [decide_eq_true c,show ∀ p:Tm→Bool,[x].all p=p x from fun p=>by simp]
   generalize isF k m nPk=A at hI ⊢
   generalize Vw n.roles x=B at hr ⊢
   obtain ⟨nm,rn,rs,fn,fr,tn,ts,sn,ss,gn,gs⟩:=n
   obtain ⟨k',m',s',b',kz'⟩:=x
   have hj:=Zh (l:=[.mk k' m' s' b' kz']) (i:=0) rfl
   simp only [Na.cells,Tm.cells] at hr ⊢
   refine Jw tOk fe170.ok rfl ?_ (by simp only [Zv,Zl,ZM])
   cases A<;>cases B
   all_goals
    repeat' first|refine Jk ?_|refine Jc (hI _) ?_|refine Jc (hr _) ?_|refine Ji ?_|refine JJ ?_|refine Jl ?_|refine Jx ?_|refine Jt ?_|refine Jb ?_ ?_|refine Jo ?_|(apply dK;rfl;rfl;rfl)|refine Jd (hI _) ?_|refine Jd (hr _) ?_|refine JD ?_|refine JK ?_|(apply dLn;rfl;rfl;rfl;rfl;rfl)|refine JI ?_|(apply dT (ty:=4);rfl;rfl;rfl;rfl)|(apply dF (ty:=4);rfl;rfl;rfl;rfl)|(apply dB (ty:=4);rfl;rfl;rfl;rfl)|refine Jh ?_|(apply Wp.draw tOk follows;kernel_rfl)|intro hb
    all_goals rfl
 · rw [decide_eq_false (by omega)] at z1
   rw [decide_eq_false c,Bool.and_false,Bool.false_and]
   generalize isF k m nPk=A at hI
   obtain ⟨nm,rn,rs,fn,fr,tn,ts,sn,ss,gn,gs⟩:=n
   simp only [Na.cells,Tm.cells]
   refine Jw tOk fe170.ok rfl ?_ (by simp only [Zv,Zl,ZM])
   cases A
   all_goals
    repeat' first|refine Jk ?_|refine Jc (hI _) ?_|refine Ji ?_|refine JJ ?_|refine Jl ?_|refine Jx ?_|refine Jt ?_|refine Jb ?_ ?_|refine Jo ?_|(apply dK;rfl;rfl;rfl)|refine Jd (hI _) ?_|refine JD ?_|refine JK ?_|(apply dLn;rfl;rfl;rfl;rfl;rfl)|refine JI ?_|(apply dT (ty:=4);rfl;rfl;rfl;rfl)|(apply dF (ty:=4);rfl;rfl;rfl;rfl)|(apply dB (ty:=4);rfl;rfl;rfl;rfl)|refine Jh ?_|(apply Wp.draw tOk follows;kernel_rfl)|intro hb
    all_goals rfl
