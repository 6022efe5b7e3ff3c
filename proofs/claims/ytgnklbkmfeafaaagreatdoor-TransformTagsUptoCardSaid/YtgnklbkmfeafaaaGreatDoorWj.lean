/-
  Lists and narrations are the same as they are; the lines of a narration.
-/
import Derived.Test.YtgnklbkmfeafaaaGreatDoorXb
set_option maxHeartbeats 0
set_option maxRecDepth 100000
namespace Go.Vm
end Go.Vm
namespace Go.Vm.Seat
variable {l:List Tm}
open Go.Proofs
theorem cgt {i:Nat} {x:Tm} (h:l[i]? = some x):(Zb l)[i]? = some x.cells:=by
 obtain ⟨k,m,s,b,kz⟩:=x
 exact Zh h
theorem Zkb (x:Fr):WL E0 .neq 66 (.agg [.str x.role,.str x.name,.int .i64 x.sort]) (.agg [.str x.role,.str x.name,.int .i64 x.sort])=some (.bool false):=by
 have h:Zgu E0 66 (.agg [.str x.role,.str x.name,.int .i64 x.sort]) (.agg [.str x.role,.str x.name,.int .i64 x.sort])=some true:=by
  obtain ⟨ti,ht,hk⟩:∃ ti,E0.T 66=some ti∧ti.tk= .struct [(0,9),(1,9),(2,3)]:=⟨_,rfl,rfl⟩
  obtain ⟨si,hs,hsk⟩:∃ ti,E0.T 9=some ti∧ti.tk= .string:=⟨_,rfl,rfl⟩
  obtain ⟨ii,hi,hik⟩:∃ ti,E0.T 3=some ti∧ti.tk= .int .i64:=⟨_,rfl,rfl⟩
  simp only [Zgu,ht,hk]
  rw [if_pos (show E0.Q 66=true from rfl)]
  simp [ZfI,ZaX,hs,hsk,hi,hik,VG,nth]
 show (Zgu E0 66 (.agg [.str x.role,.str x.name,.int .i64 x.sort]) (.agg [.str x.role,.str x.name,.int .i64 x.sort])).map (fun b=>PV.bool (!b))=_
 rw [h];rfl
theorem ZgW (a:Zg):WL E0 .neq 9 (.str a) (.str a)=some (.bool false):=by rw [ZaT,decide_eq_true rfl];rfl
theorem ZfC (a:Int):WL E0 .neq 3 (.int .i64 a) (.int .i64 a)=some (.bool false):=by rw [Ue,decide_eq_true rfl];rfl
theorem c43 {l:List Zg} (hl:l.length≤1000000) (b:Bool):∀ H,CallOk E0 Tryz.prog 43 [slV b 1 (Zi l),slV b 1 (Zi l)] H (.bool true) H:=by
 have e1:=ZC l
 have hn:=ZfC ((Zi l).length:Int)
 refine Jw tOk fe43.ok rfl ?_
 repeat' first|refine Ji ?_|refine JJ ?_|refine Jl ?_|refine Jx ?_|refine Jt ?_|refine Jb ?_ ?_|refine Jo ?_|refine JD ?_|refine JK ?_|(apply dLn;rfl;rfl;rfl;rfl;rfl)|refine JI ?_|(apply dT (ty:=4);rfl;rfl;rfl;rfl)|(apply dF (ty:=4);rfl;rfl;rfl;rfl)|(apply dB (ty:=4);rfl;rfl;rfl;rfl)|refine Jh ?_|(apply Wp.draw tOk follows;kernel_rfl)|intro hb
 refine Wp.while (fun m tm H=>∃ (i:Nat) (base:TM),i+m=l.length∧tm=ovr base [(0,slV b 1 (Zi l)),(1,slV b 1 (Zi l)),(5,.int .i64 (i:Int))]∧H=⟨[],0,[],0⟩)
  (fun m tm H hI=>?_) l.length _ _ ⟨0,_,by omega,Zf ⟨rfl,rfl,rfl,trivial⟩,rfl⟩
 obtain ⟨i,base,hi,rfl,rfl⟩:=hI
 have hlx:=Zn (i:Int) ((Zi l).length:Int)
 by_cases hlt:i<l.length
 · obtain ⟨x, hx⟩ : ∃ x, l[i]? = some x := ⟨l[i], by simp⟩
   have hj:=Yf hx
   rw [decide_eq_true (by omega)] at hlx
   have hii:=Zy (a:=(i:Int)) (b:=1) (by omega) (by omega)
   rw [show (i:Int)+1=((i+1:Nat):Int) by omega] at hii
   have hs:=ZgW x
   skip
   repeat' first|refine Ji ?_|refine JJ ?_|refine Jl ?_|refine Jx ?_|refine Jt ?_|refine Jb ?_ ?_|refine Jo ?_|refine JD ?_|refine JK ?_|(apply dLn;rfl;rfl;rfl;rfl;rfl)|refine JI ?_|(apply dT (ty:=4);rfl;rfl;rfl;rfl)|(apply dF (ty:=4);rfl;rfl;rfl;rfl)|(apply dB (ty:=4);rfl;rfl;rfl;rfl)|refine Jh ?_|(apply Wp.draw tOk follows;kernel_rfl)|intro hb
   exact LoopI.go (m-1) (by omega) ⟨i+1,_,by omega,Zf ⟨rfl,rfl,rfl,trivial⟩,rfl⟩
 have e:i=l.length:=by omega
 subst e
 rw [decide_eq_false (by omega)] at hlx
 repeat' first|refine Ji ?_|refine JJ ?_|refine Jl ?_|refine Jx ?_|refine Jt ?_|refine Jb ?_ ?_|refine Jo ?_|refine JD ?_|refine JK ?_|(apply dLn;rfl;rfl;rfl;rfl;rfl)|refine JI ?_|(apply dT (ty:=4);rfl;rfl;rfl;rfl)|(apply dF (ty:=4);rfl;rfl;rfl;rfl)|(apply dB (ty:=4);rfl;rfl;rfl;rfl)|refine Jh ?_|(apply Wp.draw tOk follows;kernel_rfl)|intro hb
 all_goals rfl
theorem c14 {l:List Int} (hl:l.length≤1000000) (b:Bool):∀ H,CallOk E0 Tryz.prog 14 [slV b 1 (Xy l),slV b 1 (Xy l)] H (.bool true) H:=by
 have e1:=Wl l
 have hn:=ZfC ((Xy l).length:Int)
 refine Jw tOk fe14.ok rfl ?_
 repeat' first|refine Ji ?_|refine JJ ?_|refine Jl ?_|refine Jx ?_|refine Jt ?_|refine Jb ?_ ?_|(apply qT (ty:=0);rfl;rfl;rfl)|(apply qF (ty:=0);rfl;rfl;rfl)|refine Jz ?_ ?_|refine Jo ?_|refine JD ?_|refine JK ?_|(apply dLn;rfl;rfl;rfl;rfl;rfl)|refine JI ?_|(apply dT (ty:=4);rfl;rfl;rfl;rfl)|(apply dF (ty:=4);rfl;rfl;rfl;rfl)|(apply dB (ty:=4);rfl;rfl;rfl;rfl)|(apply dT (ty:=0);rfl;rfl;rfl;rfl)|(apply dF (ty:=0);rfl;rfl;rfl;rfl)|(apply dB (ty:=0);rfl;rfl;rfl;rfl)|refine Jh ?_|(apply Wp.draw tOk follows;kernel_rfl)|intro hb
 refine Wp.while (fun m tm H=>∃ (i:Nat) (base:TM),i+m=l.length∧tm=ovr base [(0,slV b 1 (Xy l)),(1,slV b 1 (Xy l)),(12,.int .i64 ((Xy l).length:Int)),(13,.int .i64 (i:Int))]∧H=⟨[],0,[],0⟩)
  (fun m tm H hI=>?_) l.length _ _ ⟨0,_,by omega,Zf ⟨rfl,rfl,rfl,rfl,trivial⟩,rfl⟩
 obtain ⟨i,base,hi,rfl,rfl⟩:=hI
 have hlx:=Zn (i:Int) ((Xy l).length:Int)
 by_cases hlt:i<l.length
 · obtain ⟨x, hx⟩ : ∃ x, l[i]? = some x := ⟨l[i], by simp⟩
   have hj:=Ze2 hx
   rw [decide_eq_true (by omega)] at hlx
   have hii:=Zy (a:=(i:Int)) (b:=1) (by omega) (by omega)
   rw [show (i:Int)+1=((i+1:Nat):Int) by omega] at hii
   have hs:=ZfC x
   skip
   repeat' first|refine Ji ?_|refine JJ ?_|refine Jl ?_|refine Jx ?_|refine Jt ?_|refine Jb ?_ ?_|(apply qT (ty:=0);rfl;rfl;rfl)|(apply qF (ty:=0);rfl;rfl;rfl)|refine Jz ?_ ?_|refine Jo ?_|refine JD ?_|refine JK ?_|(apply dLn;rfl;rfl;rfl;rfl;rfl)|refine JI ?_|(apply dT (ty:=4);rfl;rfl;rfl;rfl)|(apply dF (ty:=4);rfl;rfl;rfl;rfl)|(apply dB (ty:=4);rfl;rfl;rfl;rfl)|(apply dT (ty:=0);rfl;rfl;rfl;rfl)|(apply dF (ty:=0);rfl;rfl;rfl;rfl)|(apply dB (ty:=0);rfl;rfl;rfl;rfl)|refine Jh ?_|(apply Wp.draw tOk follows;kernel_rfl)|intro hb
   exact LoopI.go (m-1) (by omega) ⟨i+1,_,by omega,Zf ⟨rfl,rfl,rfl,rfl,trivial⟩,rfl⟩
 have e:i=l.length:=by omega
 subst e
 rw [decide_eq_false (by omega)] at hlx
 repeat' first|refine Ji ?_|refine JJ ?_|refine Jl ?_|refine Jx ?_|refine Jt ?_|refine Jb ?_ ?_|(apply qT (ty:=0);rfl;rfl;rfl)|(apply qF (ty:=0);rfl;rfl;rfl)|refine Jz ?_ ?_|refine Jo ?_|refine JD ?_|refine JK ?_|(apply dLn;rfl;rfl;rfl;rfl;rfl)|refine JI ?_|(apply dT (ty:=4);rfl;rfl;rfl;rfl)|(apply dF (ty:=4);rfl;rfl;rfl;rfl)|(apply dB (ty:=4);rfl;rfl;rfl;rfl)|(apply dT (ty:=0);rfl;rfl;rfl;rfl)|(apply dF (ty:=0);rfl;rfl;rfl;rfl)|(apply dB (ty:=0);rfl;rfl;rfl;rfl)|refine Jh ?_|(apply Wp.draw tOk follows;kernel_rfl)|intro hb
 all_goals rfl
theorem c80 (hl:l.length≤1000000) (ho:∀ t,t∈l→t.Ok∧t.size<4611686018427387904) (b:Bool):∀ H,CallOk E0 Tryz.prog 80 [slV b 4 (Zb l),slV b 4 (Zb l)] H (.bool true) H:=by
 have e1:=Za l
 have hn:=ZfC ((Zb l).length:Int)
 have cS:=fun {t:Tm} (ht:t∈l)=>Zjr (ho t ht).1 (ho t ht).2
 clear ho
 refine Jw tOk fe80.ok rfl ?_
 repeat' first|refine Ji ?_|refine JJ ?_|refine Jl ?_|refine Jx ?_|refine Jt ?_|refine Jb ?_ ?_|refine Jo ?_|refine JD ?_|refine JK ?_|(apply dLn;rfl;rfl;rfl;rfl;rfl)|refine JI ?_|(apply dT (ty:=4);rfl;rfl;rfl;rfl)|(apply dF (ty:=4);rfl;rfl;rfl;rfl)|(apply dB (ty:=4);rfl;rfl;rfl;rfl)|refine Jh ?_|(apply Wp.draw tOk follows;kernel_rfl)|intro hb
 refine Wp.while (fun m tm H=>∃ (i:Nat) (base:TM),i+m=l.length∧tm=ovr base [(0,slV b 4 (Zb l)),(1,slV b 4 (Zb l)),(5,.int .i64 (i:Int))]∧H=⟨[],0,[],0⟩)
  (fun m tm H hI=>?_) l.length _ _ ⟨0,_,by omega,Zf ⟨rfl,rfl,rfl,trivial⟩,rfl⟩
 obtain ⟨i,base,hi,rfl,rfl⟩:=hI
 have hlx:=Zn (i:Int) ((Zb l).length:Int)
 by_cases hlt:i<l.length
 · obtain ⟨x, hx⟩ : ∃ x, l[i]? = some x := ⟨l[i], by simp⟩
   have hj:=cgt hx
   rw [decide_eq_true (by omega)] at hlx
   have hii:=Zy (a:=(i:Int)) (b:=1) (by omega) (by omega)
   rw [show (i:Int)+1=((i+1:Nat):Int) by omega] at hii
   have hq:=cS (List.mem_of_getElem? hx)
   obtain ⟨k',nm',s',b',kz'⟩:=x;simp only [Tm.cells] at hq hj
   repeat' first|refine Jc (hq _) ?_|refine Ji ?_|refine JJ ?_|refine Jl ?_|refine Jx ?_|refine Jt ?_|refine Jb ?_ ?_|refine Jo ?_|refine Jd (hq _) ?_|refine JD ?_|refine JK ?_|(apply dLn;rfl;rfl;rfl;rfl;rfl)|refine JI ?_|(apply dT (ty:=4);rfl;rfl;rfl;rfl)|(apply dF (ty:=4);rfl;rfl;rfl;rfl)|(apply dB (ty:=4);rfl;rfl;rfl;rfl)|refine Jh ?_|(apply Wp.draw tOk follows;kernel_rfl)|intro hb
   exact LoopI.go (m-1) (by omega) ⟨i+1,_,by omega,Zf ⟨rfl,rfl,rfl,trivial⟩,rfl⟩
 have e:i=l.length:=by omega
 subst e
 rw [decide_eq_false (by omega)] at hlx
 repeat' first|refine Ji ?_|refine JJ ?_|refine Jl ?_|refine Jx ?_|refine Jt ?_|refine Jb ?_ ?_|refine Jo ?_|refine JD ?_|refine JK ?_|(apply dLn;rfl;rfl;rfl;rfl;rfl)|refine JI ?_|(apply dT (ty:=4);rfl;rfl;rfl;rfl)|(apply dF (ty:=4);rfl;rfl;rfl;rfl)|(apply dB (ty:=4);rfl;rfl;rfl;rfl)|refine Jh ?_|(apply Wp.draw tOk follows;kernel_rfl)|intro hb
 all_goals rfl
theorem c45 {l:List Gl} (hl:l.length≤1000000) (ho:∀ g,g∈l→g.data.length≤1000000∧∀ t,t∈g.data→t.Ok∧t.size<4611686018427387904) (b:Bool):∀ H,CallOk E0 Tryz.prog 45 [slV b 5 (glC l),slV b 5 (glC l)] H (.bool true) H:=by
 have e1:=YR l
 have hn:=ZfC ((glC l).length:Int)
 have cS:=fun {g:Gl} (hg:g∈l)=>c80 (ho g hg).1 (ho g hg).2 g.dn
 clear ho
 refine Jw tOk fe45.ok rfl ?_
 repeat' first|refine Jk ?_|refine Ji ?_|refine JJ ?_|refine Jl ?_|refine Jx ?_|refine Jt ?_|refine Jb ?_ ?_|refine Jo ?_|(apply dK;rfl;rfl;rfl)|refine JD ?_|refine JK ?_|(apply dLn;rfl;rfl;rfl;rfl;rfl)|refine JI ?_|(apply dT (ty:=4);rfl;rfl;rfl;rfl)|(apply dF (ty:=4);rfl;rfl;rfl;rfl)|(apply dB (ty:=4);rfl;rfl;rfl;rfl)|refine Jh ?_|(apply Wp.draw tOk follows;kernel_rfl)|intro hb
 refine Wp.while (fun m tm H=>∃ (i:Nat) (base:TM),i+m=l.length∧tm=ovr base [(0,slV b 5 (glC l)),(1,slV b 5 (glC l)),(5,.int .i64 (i:Int))]∧H=⟨[],0,[],0⟩)
  (fun m tm H hI=>?_) l.length _ _ ⟨0,_,by omega,Zf ⟨rfl,rfl,rfl,trivial⟩,rfl⟩
 obtain ⟨i,base,hi,rfl,rfl⟩:=hI
 have hlx:=Zn (i:Int) ((glC l).length:Int)
 by_cases hlt:i<l.length
 · obtain ⟨x, hx⟩ : ∃ x, l[i]? = some x := ⟨l[i], by simp⟩
   have hj:=XO hx
   rw [decide_eq_true (by omega)] at hlx
   have hii:=Zy (a:=(i:Int)) (b:=1) (by omega) (by omega)
   rw [show (i:Int)+1=((i+1:Nat):Int) by omega] at hii
   have hq:=cS (List.mem_of_getElem? hx)
   have hs1:=ZgW x.role;have hs2:=ZgW x.wth;have hs3:=ZfC x.kind
   repeat' first|refine Jk ?_|refine Jc (hq _) ?_|refine Ji ?_|refine JJ ?_|refine Jl ?_|refine Jx ?_|refine Jt ?_|refine Jb ?_ ?_|refine Jo ?_|(apply dK;rfl;rfl;rfl)|refine Jd (hq _) ?_|refine JD ?_|refine JK ?_|(apply dLn;rfl;rfl;rfl;rfl;rfl)|refine JI ?_|(apply dT (ty:=4);rfl;rfl;rfl;rfl)|(apply dF (ty:=4);rfl;rfl;rfl;rfl)|(apply dB (ty:=4);rfl;rfl;rfl;rfl)|refine Jh ?_|(apply Wp.draw tOk follows;kernel_rfl)|intro hb
   exact LoopI.go (m-1) (by omega) ⟨i+1,_,by omega,Zf ⟨rfl,rfl,rfl,trivial⟩,rfl⟩
 have e:i=l.length:=by omega
 subst e
 rw [decide_eq_false (by omega)] at hlx
 repeat' first|refine Jk ?_|refine Ji ?_|refine JJ ?_|refine Jl ?_|refine Jx ?_|refine Jt ?_|refine Jb ?_ ?_|refine Jo ?_|(apply dK;rfl;rfl;rfl)|refine JD ?_|refine JK ?_|(apply dLn;rfl;rfl;rfl;rfl;rfl)|refine JI ?_|(apply dT (ty:=4);rfl;rfl;rfl;rfl)|(apply dF (ty:=4);rfl;rfl;rfl;rfl)|(apply dB (ty:=4);rfl;rfl;rfl;rfl)|refine Jh ?_|(apply Wp.draw tOk follows;kernel_rfl)|intro hb
 all_goals rfl
theorem c13 {n:Na} (h:n.Sm):∀ H,CallOk E0 Tryz.prog 13 [.agg n.cells,.agg n.cells] H (.bool true) H:=by
 have k1:=c43 (l:=n.roles) (Nat.le_trans h.rl (by decide)) n.rn
 have k2:=c43 (l:=n.tags) (Nat.le_trans h.tl (by decide)) n.tn
 have k3:=c45 (l:=n.goals) (Nat.le_trans h.gl (by decide)) (fun g hg=>⟨Nat.le_trans (h.gs g hg).2.2.1 (by decide),fun t ht=>⟨((h.gs g hg).2.2.2 t ht).1,by have:=((h.gs g hg).2.2.2 t ht).2;omega⟩⟩) n.gn
 have cS:=fun {s:Sp} (hs:s∈n.steps)=>Zjr (h.ss s hs).2.2.1 (by have:=(h.ss s hs).2.2.2;omega)
 have hfl:=h.fl
 have hsl:=h.sl
 clear h
 obtain ⟨nm,rn,rs,fn,fr,tn,ts,sn,ss,gn,gs⟩:=n
 simp only [Na.cells] at k1 k2 k3 cS hfl hsl ⊢
 have e1:=YI fr
 have e2:=ZI ss
 have q1:=ZgW nm
 have q2:=ZfC ((frC fr).length:Int)
 have q3:=ZfC ((spC ss).length:Int)
 refine Jw tOk fe13.ok rfl ?_ (by simp only [Zt,Zj])
 repeat' first|refine Jk ?_|refine Jc (k1 _) ?_|refine Jc (k2 _) ?_|refine Ji ?_|refine JJ ?_|refine Jl ?_|refine Jx ?_|refine Jt ?_|refine Jb ?_ ?_|refine Jo ?_|(apply dK;rfl;rfl;rfl)|refine Jd (k1 _) ?_|refine Jd (k2 _) ?_|refine JD ?_|refine JK ?_|(apply dLn;rfl;rfl;rfl;rfl;rfl)|refine JI ?_|(apply dT (ty:=4);rfl;rfl;rfl;rfl)|(apply dF (ty:=4);rfl;rfl;rfl;rfl)|(apply dB (ty:=4);rfl;rfl;rfl;rfl)|refine Jh ?_|(apply Wp.draw tOk follows;kernel_rfl)|intro hb
 clear k1 k2
 refine Wp.while (fun m tm H=>∃ (i:Nat) (base:TM),i+m=fr.length∧tm=ovr base [(2,.ptr 0 6 0 0),(3,.ptr 1 6 0 0),(5,.int .i64 (i:Int))]∧H=⟨[naB nm rn rs fn fr tn ts sn ss gn gs,naB nm rn rs fn fr tn ts sn ss gn gs],0,[],0⟩)
  (fun m tm H hI=>?_) fr.length _ _ ⟨0,_,by omega,Zf ⟨rfl,rfl,rfl,trivial⟩,rfl⟩
 obtain ⟨i,base,hi,rfl,rfl⟩:=hI
 have hlx:=Zn (i:Int) ((frC fr).length:Int)
 by_cases hlt:i<fr.length
 · obtain ⟨x, hx⟩ : ∃ x, fr[i]? = some x := ⟨fr[i], by simp⟩
   have hj:=Wb hx
   rw [decide_eq_true (by omega)] at hlx
   have hii:=Zy (a:=(i:Int)) (b:=1) (by omega) (by omega)
   rw [show (i:Int)+1=((i+1:Nat):Int) by omega] at hii
   have hs:=Zkb x
   skip
   repeat' first|refine Jk ?_|refine Ji ?_|refine JJ ?_|refine Jl ?_|refine Jx ?_|refine Jt ?_|refine Jb ?_ ?_|refine Jo ?_|(apply dK;rfl;rfl;rfl)|refine JD ?_|refine JK ?_|(apply dLn;rfl;rfl;rfl;rfl;rfl)|refine JI ?_|(apply dT (ty:=4);rfl;rfl;rfl;rfl)|(apply dF (ty:=4);rfl;rfl;rfl;rfl)|(apply dB (ty:=4);rfl;rfl;rfl;rfl)|refine Jh ?_|(apply Wp.draw tOk follows;kernel_rfl)|intro hb
   exact LoopI.go (m-1) (by omega) ⟨i+1,_,by omega,Zf ⟨rfl,rfl,rfl,trivial⟩,rfl⟩
 have e:i=fr.length:=by omega
 subst e
 rw [decide_eq_false (by omega)] at hlx
 repeat' first|refine Jk ?_|refine Ji ?_|refine JJ ?_|refine Jl ?_|refine Jx ?_|refine Jt ?_|refine Jb ?_ ?_|refine Jo ?_|(apply dK;rfl;rfl;rfl)|refine JD ?_|refine JK ?_|(apply dLn;rfl;rfl;rfl;rfl;rfl)|refine JI ?_|(apply dT (ty:=4);rfl;rfl;rfl;rfl)|(apply dF (ty:=4);rfl;rfl;rfl;rfl)|(apply dB (ty:=4);rfl;rfl;rfl;rfl)|refine Jh ?_|(apply Wp.draw tOk follows;kernel_rfl)|intro hb
 clear hlx hi hlt
 refine Wp.while (fun m tm H=>∃ (i:Nat) (base:TM),i+m=ss.length∧tm=ovr base [(2,.ptr 0 6 0 0),(3,.ptr 1 6 0 0),(6,.int .i64 (i:Int))]∧H=⟨[naB nm rn rs fn fr tn ts sn ss gn gs,naB nm rn rs fn fr tn ts sn ss gn gs],0,[],0⟩)
  (fun m tm H hI=>?_) ss.length _ _ ⟨0,_,by omega,Zf ⟨rfl,rfl,rfl,trivial⟩,rfl⟩
 obtain ⟨i,base,hi,rfl,rfl⟩:=hI
 have hlx:=Zn (i:Int) ((spC ss).length:Int)
 by_cases hlt:i<ss.length
 · obtain ⟨x, hx⟩ : ∃ x, ss[i]? = some x := ⟨ss[i], by simp⟩
   have hj:=ZX hx
   rw [decide_eq_true (by omega)] at hlx
   have hii:=Zy (a:=(i:Int)) (b:=1) (by omega) (by omega)
   rw [show (i:Int)+1=((i+1:Nat):Int) by omega] at hii
   have hq:=cS (List.mem_of_getElem? hx);have hs1:=ZgW x.frm;have hs2:=ZgW x.to
   obtain ⟨xf,xt,⟨k',nm',s',b',kz'⟩,xl⟩:=x;simp only [Sp.cells,Tm.cells,List.cons_append,List.nil_append] at hq hj
   repeat' first|refine Jk ?_|refine Jc (hq _) ?_|refine Ji ?_|refine JJ ?_|refine Jl ?_|refine Jx ?_|refine Jt ?_|refine Jb ?_ ?_|refine Jo ?_|(apply dK;rfl;rfl;rfl)|refine Jd (hq _) ?_|refine JD ?_|refine JK ?_|(apply dLn;rfl;rfl;rfl;rfl;rfl)|refine JI ?_|(apply dT (ty:=4);rfl;rfl;rfl;rfl)|(apply dF (ty:=4);rfl;rfl;rfl;rfl)|(apply dB (ty:=4);rfl;rfl;rfl;rfl)|refine Jh ?_|(apply Wp.draw tOk follows;kernel_rfl)|intro hb
   exact LoopI.go (m-1) (by omega) ⟨i+1,_,by omega,Zf ⟨rfl,rfl,rfl,trivial⟩,rfl⟩
 have e:i=ss.length:=by omega
 subst e
 rw [decide_eq_false (by omega)] at hlx
 repeat' first|refine Jk ?_|refine Jc (k3 _) ?_|refine Ji ?_|refine JJ ?_|refine Jl ?_|refine Jx ?_|refine Jt ?_|refine Jb ?_ ?_|refine Jo ?_|(apply dK;rfl;rfl;rfl)|refine Jd (k3 _) ?_|refine JD ?_|refine JK ?_|(apply dLn;rfl;rfl;rfl;rfl;rfl)|refine JI ?_|(apply dT (ty:=4);rfl;rfl;rfl;rfl)|(apply dF (ty:=4);rfl;rfl;rfl;rfl)|(apply dB (ty:=4);rfl;rfl;rfl;rfl)|refine Jh ?_|(apply Wp.draw tOk follows;kernel_rfl)|intro hb
 all_goals rfl
