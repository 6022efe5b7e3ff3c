/-
  The law of padding: its function answers true.
-/
import Derived.Test.YtgnklbkmfeafaaaGreatDoorWk
import Derived.Test.YtgnklbkmfeafaaaGreatDoorWl
import Derived.Test.YtgnklbkmfeafaaaGreatDoorWo
set_option maxHeartbeats 0
set_option maxRecDepth 100000
namespace Go.Vm
variable {n:Na}
theorem Zcr:∀ (l:List Tm) (n:Int),Ze6 l n=true→∀ t,t∈l→(t.size:Int)≤n
 | [],_,_=>fun t ht=>absurd ht (by simp)
 | x :: r, n, h => fun t ht => by
   simp only [Ze6] at h
   split at h
   · cases h
   · rename_i hb
     have hx:=x.budget_eq n (by omega)
     have hp:=Zd0 x
     rcases List.mem_cons.1 ht with rfl|ht
     · omega
     · have := Zcr r _ h t ht
       omega
theorem Zfy {l:List Tm} {n m:Int} (h:Zc4 l n m=true):(l.length:Int)≤n∧∀ t,t∈l→(t.size:Int)≤m:=by
 unfold Zc4 at h
 split at h
 · cases h
 · exact ⟨by omega,Zcr l m h⟩
theorem ZdY (h:n.few=true):n.roles.length≤16∧n.fresh.length≤16∧n.tags.length≤16∧n.steps.length≤16∧n.goals.length≤16:=by
 unfold Na.few at h
 split at h
 · cases h
 · omega
theorem ZdW {α β:Type} {f:α→List β} {l:List α} {x:α} (h:x∈l):(f x).length≤(l.flatMap f).length:=by
 induction l with
 |nil=>cases h
 | cons y r ih =>
   rw [List.flatMap_cons,List.length_append]
   rcases List.mem_cons.1 h with rfl|h
   · omega
   · have:=ih h;omega
theorem ZdR (h:n.Ok) (hs:n.small=true):n.Ti:=by
 simp only [Na.small,Bool.and_eq_true] at hs
 obtain ⟨h1, -, -,h2⟩:=hs
 obtain ⟨a,b,c,d,e⟩:=ZdY h1
 obtain ⟨f,g⟩:=Zfy h2
 have hst:∀ s,s∈n.steps→s.msg.size≤80:=fun s hs=>by
  have:=g s.msg (List.mem_append_left _ (List.mem_map.2 ⟨s,hs,rfl⟩))
  omega
 have hgo:∀ x,x∈n.goals→x.data.length≤40∧∀ t,t∈x.data→t.size≤80:=fun x hx=>by
  refine ⟨?_,fun t ht=>?_⟩
  · have := ZdW (f := fun g : Gl => g.data) hx
    simp only [Na.tms,List.length_append,List.length_map] at f
    omega
  · have := g t (List.mem_append_right _ (List.mem_flatMap.2 ⟨x, hx, ht⟩))
    omega
 refine ⟨⟨Nat.le_trans h.nm (by decide),by omega,by omega,by omega,by omega,by omega,fun s hs=>Nat.le_trans (h.rs s hs) (by decide),fun x hx=>?_,fun s hs=>Nat.le_trans (h.ts s hs) (by decide),fun s hs=>?_,fun x hx=>?_⟩,by omega,by omega,by omega,fun s hs=>by have:=hst s hs;omega⟩
 · have:=h.fs x hx;omega
 · have k1 := h.ss s hs
   have k2:=hst s hs
   exact ⟨by omega,by omega,k1.2.2,by omega⟩
 · have k1 := h.gs x hx
   obtain ⟨k2,k3⟩:=hgo x hx
   exact ⟨by omega,by omega,by omega,fun t ht=>⟨k1.2.2 t ht,by have:=k3 t ht;omega⟩⟩
theorem Zat:Na.none.Sm:=by
 refine ⟨?_,?_,?_,?_,?_,?_,?_,?_,?_,?_,?_⟩<;>simp [Na.none]
theorem Zf4 (h:n.Sm):n.chkd.1.Sm:=by
 rw [VF]
 split
 · exact h
 · exact Zat
theorem Zgp (h:n.Ti) (step size:Int):(n.pad step size).1.Sm:=by
 by_cases c:n.inE step=0
 case neg=>rw [ZdG c];exact Zat
 by_cases c2:size<1∨6<size
 · rw [ZcK c c2];exact Zat
 obtain ⟨k1,k2,k3⟩:=Zcg c
 obtain ⟨i,rfl⟩:∃ i:Nat,step=i:=⟨step.toNat,by omega⟩
 have hil:i<n.steps.length:=by omega
 obtain ⟨s,hs⟩:∃ s,n.steps[i]? = some s:=⟨n.steps[i],by simp⟩
 rw [Zcz c c2 hs]
 have hnm:=VE k1
 have htl:=Zam (N:=n.nms) (w:=Zb7) (fun s hs=>by have:=hnm s hs;omega) (by decide)
 generalize nnF n.nms Zb7=t at htl ⊢
 obtain ⟨z,hz⟩:∃ z:Nat,size=((z+1:Nat):Int):=⟨size.toNat-1,by omega⟩
 rw [show size.toNat-1=z by omega]
 have hss:=h.sm.ss s (List.mem_of_getElem? hs)
 have hms:=h.ms s (List.mem_of_getElem? hs)
 refine Zf4 (ZaG (ZaD h.sm (Nat.le_trans h.tl (by decide)) (by omega)) hs (ZbF (by decide) (by simp) fun x hx=>?_) ?_)
 · rcases List.mem_cons.1 hx with rfl | hx
   · exact hss.2.2.1
   · rw [List.mem_singleton.1 hx];exact Qd (by omega) z
 · have := WR t z
   simp only [apT,Tm.size,ZZ,this]
   omega
theorem ZfD (h:n.Sm):n.szE.1.length≤40:=by
 unfold Na.szE
 split
 · simp
 · simp only [Na.szs,List.length_map];exact h.sl
theorem Zdk (h:n.Sm):n.lines.length≤80:=by
 have h1:=h.sl;have h2:=h.gl
 simp only [Na.lines,List.length_append,List.length_map];omega
end Go.Vm
namespace Go.Vm.Seat
open Go.Proofs
theorem c4 {n:Na} (h:n.Ok) (step size:Int):∀ H,CallOk E0 Tryz.prog 4 [.agg n.cells,.int .i64 step,.int .i64 size] H (.bool true) H:=by
 have hAw:∀ H,CallOk E0 Tryz.prog 5 [] H (.bool true) H:=fun H=>Zco H
 have cS:=c6 h
 cases hsm:n.small with
 | false =>
   rw [hsm] at cS
   clear h hsm
   obtain ⟨nm,rn,rs,fn,fr,tn,ts,sn,ss,gn,gs⟩:=n
   simp only [Na.cells] at cS ⊢
   refine Jw tOk fe4.ok rfl ?_ (by simp only [Zv,Zl];rfl)
   repeat' first|refine Jk ?_|refine Jc (hAw _) ?_|refine Jc (cS _) ?_|refine Ji ?_|refine Jt ?_|refine Jb ?_ ?_|refine Jo ?_|(apply dK;rfl;rfl;rfl)|refine Jd (hAw _) ?_|refine Jd (cS _) ?_|refine JD ?_|(apply dT (ty:=4);rfl;rfl;rfl;rfl)|(apply dF (ty:=4);rfl;rfl;rfl;rfl)|(apply dB (ty:=4);rfl;rfl;rfl;rfl)|refine Jh ?_|(apply Wp.draw tOk follows;kernel_rfl)|intro hb
   all_goals rfl
 |true=>
 rw [hsm] at cS
 have ht:=ZdR h hsm
 have c1:=c16 ht step size
 have c2:=c17 ht step size
 have c3:=c18 ht.sm
 have c4:=c19 ht.sm
 have hM:=Zgp ht step size
 have hL:=ZfD ht.sm
 clear h hsm ht
 generalize (n.pad step size).2=e at c1 c2
 generalize (n.pad step size).1=M at c1 c2 hM
 generalize n.szE.2=e2 at c3 c4
 generalize n.szE.1=L at c3 c4 hL
 have c5:=c13 hM
 have c6:=c14 (l:=L) (by omega) true
 have c7:=c15 hM
 have hl:=Zdk hM
 generalize M.lines=LN at c7 hl
 have c8:=c14 (l:=LN) (by omega) true
 have q1:=Zed e e
 have q2:=Zed e2 e2
 rw [decide_eq_true rfl] at q1 q2
 clear hM hL hl
 have qb:=Zcb M.name (Zz M.rn 1 (Zo M.roles)).2 (Zz M.fn 3 (frC M.fresh)).2 (Zz M.tn 1 (Zo M.tags)).2 (Zz M.sn 7 (spC M.steps)).2 (Zz M.gn 5 (glC M.goals)).2
 obtain ⟨nm,rn,rs,fn,fr,tn,ts,sn,ss,gn,gs⟩:=n
 simp only [Na.cells] at cS c1 c2 c3 c4 c5 c7 qb ⊢
 refine Jw tOk fe4.ok rfl ?_ (by simp only [Zv,Zl];rfl)
 repeat' first|refine Jk ?_|(apply qCl;rfl;rfl;rfl;rfl;first|exact hAw _|exact cS _|exact c1 _|exact c2 _|exact c3 _|exact c4 _|exact c5 _|exact c6 _|exact c7 _|exact c8 _)|refine Ji ?_|refine Jt ?_|refine Jb ?_ ?_|refine Jo ?_|(apply dK;rfl;rfl;rfl)|(apply dCl;rfl;rfl;rfl;rfl;rfl;first|exact hAw _|exact cS _|exact c1 _|exact c2 _|exact c3 _|exact c4 _|exact c5 _|exact c6 _|exact c7 _|exact c8 _)|refine JD ?_|(apply dT (ty:=4);rfl;rfl;rfl;rfl)|(apply dF (ty:=4);rfl;rfl;rfl;rfl)|(apply dB (ty:=4);rfl;rfl;rfl;rfl)|refine Jh ?_|(apply Wp.draw tOk follows;kernel_rfl)|intro hb
 all_goals rfl
