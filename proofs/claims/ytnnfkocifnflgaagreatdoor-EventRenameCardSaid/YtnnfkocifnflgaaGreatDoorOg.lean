/-
  Powers: which lists are right (the program's text).
-/
import Derived.Test.YtnnfkocifnflgaaGreatDoorOa
set_option maxHeartbeats 0
set_option maxRecDepth 100000
namespace Go.Vm
theorem Zfv {B:Int} (hB:0≤B):∀ (b:List Pw) {l:List Pw} {C:Int},0≤C→PwB C l→PwB B b→PwB (C+b.length*B) (insF l b)∧(insF l b).length≤l.length+b.length
 | [],l,C,hC,hl,_=>⟨by simpa [insF] using hl,by simp [insF]⟩
 | x :: r, l, C, hC, hl, hb => by
   have hx:=hb x List.mem_cons_self
   have h1:=hl.ins (t:=x.1) (n:=x.2) (c:=B) hx.1 hx.2 hC hB
   obtain ⟨h2,h3⟩:=Zfv hB r (l:=Wh l x.1 x.2) (C:=C+B) (by omega) h1 hb.tail
   have h4:=ZaF l x.1 x.2
   refine ⟨?_,?_⟩
   · have e : C + ((x :: r).length : Int) * B = C + B + (r.length : Int) * B := by
       rw [List.length_cons]
       push_cast
       rw [Int.add_mul]
       omega
     rw [e]
     exact h2
   · show (insF (Wh l x.1 x.2) r).length ≤ _
     rw [List.length_cons]
     omega
theorem ZgF {b:List Pw} {i:Nat} {x:Pw} (a:List Pw) (h:b[i]? = some x):QQ a (b.take (i+1))=Zg7 (QQ a (b.take i)) x.1 x.2:=XZ (f:=fun l (x:Pw)=>Zg7 l x.1 x.2) h
theorem QS {a b:List Pw} {B:Int} (hB:0≤B) (ha:PwB B a) (hb:PwB B b) (h1:pvG a=0) (h2:pvG b=0) (i:Nat) (hi:i≤b.length):PwB (B+i*B) (QQ a (b.take i))∧(QQ a (b.take i)).length≤a.length+i:=by
 rw [Zan _ _ (V6 h1).1 fun x hx=>(V6 h2).2 x (List.mem_of_mem_take hx)]
 have h:=Zfv hB (b.take i) (l:=a) (C:=B) hB ha fun x hx=>hb x (List.mem_of_mem_take hx)
 rw [List.length_take,Nat.min_eq_left hi] at h
 exact h
theorem Ve {l:List Pw} (h:pvG l=0):l.length≤200:=by
 unfold pvG at h
 split at h
 · exact absurd h (by decide)
 · omega
end Go.Vm
namespace Go.Vm.Seat
open Go.Proofs
theorem YK {v:Int} (h:v≠0):Xs E0 .neq 36 (.int .i64 v) (.int .i64 0)=some (.bool true):=by
 show some (PV.bool (!(v==0)))=_
 simp [h]
theorem Zn0 {a b:List Pw} (ha:PwB 1000000 a) (hb':PwB 1000000 b) (hla:a.length≤100000) (hlb:b.length≤100000) (ba bb:Bool):∃ f,∀ H,CallOk E0 Tryz.prog 133 [slV ba 5 (pwL a),slV bb 5 (pwL b)] H (.tup [slV f 5 (pwL (Zbd a b).1),.int .i64 (Zbd a b).2]) H:=by
 have hVa:=Zms (fun x hx=>(ha x hx).1) (by omega) ba
 have hVb:=Zms (fun x hx=>(hb' x hx).1) (by omega) bb
 have hnil:slV true 5 (pwL [])= .nils:=Zk 5
 unfold Zbd Zis
 by_cases hP1:pvG a≠0
 · rw [if_pos hP1]
   refine ⟨true,?_⟩
   rw [hnil]
   generalize pvG a=v at hVa hP1 ⊢
   refine Jw tOk fe133.ok rfl ?_
   have hne:=YK hP1
   repeat' first|refine Jc (hVa _) ?_|refine Jc (hVb _) ?_|refine Js ?_|refine JA ?_|refine Ji ?_|refine JJ ?_|refine Jl ?_|refine Jx ?_|refine Jt ?_|refine Jb ?_ ?_|refine Jo ?_|refine Jd (hVa _) ?_|refine Jd (hVb _) ?_|refine JB ?_|(apply dAq;rfl;rfl;rfl;rfl;rfl;rfl;(first|assumption|solve_by_elim))|(apply dAp;rfl;rfl;rfl;rfl;rfl;(first|assumption|solve_by_elim);rfl)|refine JD ?_|refine JK ?_|(apply dLn;rfl;rfl;rfl;rfl;rfl)|refine JI ?_|(apply dT (ty:=4);rfl;rfl;rfl;rfl)|(apply dF (ty:=4);rfl;rfl;rfl;rfl)|(apply dB (ty:=4);rfl;rfl;rfl;rfl)|refine Jh ?_|(apply Wp.draw tOk follows;kernel_rfl)|intro hb
   all_goals rfl
 rw [if_neg hP1]
 have hP1:=Classical.not_not.1 hP1
 rw [hP1] at hVa
 by_cases hP2:pvG b≠0
 · rw [if_pos hP2]
   refine ⟨true,?_⟩
   rw [hnil]
   generalize pvG b=v at hVb hP2 ⊢
   refine Jw tOk fe133.ok rfl ?_
   have hne:=YK hP2
   repeat' first|refine Jc (hVa _) ?_|refine Jc (hVb _) ?_|refine Js ?_|refine JA ?_|refine Ji ?_|refine JJ ?_|refine Jl ?_|refine Jx ?_|refine Jt ?_|refine Jb ?_ ?_|refine Jo ?_|refine Jd (hVa _) ?_|refine Jd (hVb _) ?_|refine JB ?_|(apply dAq;rfl;rfl;rfl;rfl;rfl;rfl;(first|assumption|solve_by_elim))|(apply dAp;rfl;rfl;rfl;rfl;rfl;(first|assumption|solve_by_elim);rfl)|refine JD ?_|refine JK ?_|(apply dLn;rfl;rfl;rfl;rfl;rfl)|refine JI ?_|(apply dT (ty:=4);rfl;rfl;rfl;rfl)|(apply dF (ty:=4);rfl;rfl;rfl;rfl)|(apply dB (ty:=4);rfl;rfl;rfl;rfl)|refine Jh ?_|(apply Wp.draw tOk follows;kernel_rfl)|intro hb
   all_goals rfl
 rw [if_neg hP2]
 have hP2:=Classical.not_not.1 hP2
 rw [hP2] at hVb
 have hb200:=Ve hP2
 have ha200:=Ve hP1
 have hpl:=ZK b
 have hfacts:=QS (by decide) ha hb' hP1 hP2
 rw [Zfc]
 have hA0:ApV false 5 [] (.sl .full 5 []) [] 0:= .full [] _ _ rfl rfl
 obtain ⟨out',lv',nt',hap,hA', -⟩:=hA0.app apT_pw (.slV ba 5 (pwL a)) (Qa _) (ZX (by simp only [ZK,List.length_nil];omega) (by decide)) (Zgb _)
 rw [List.nil_append] at hA'
 obtain ⟨tl,rfl⟩:=Zei hA'
 obtain ⟨hfN1,hfN2⟩:=hfacts b.length (Nat.le_refl _)
 rw [List.take_length] at hfN1 hfN2
 have hR:=Znx (l:=QQ a b) (!b.isEmpty) (by omega)
 have hRt:b= []→∀ H,CallOk E0 Tryz.prog 166 [.sl tl 5 (pwL a)] H (.int .i64 (Zhh (QQ a b))) H:=fun e H=>by
  have:=Znx (l:=a) false (by omega) H
  rw [Z0] at this
  rw [e]
  exact ZV this rfl
 generalize Zhh (QQ a b)=R at hR hRt ⊢
 obtain ⟨f,hf⟩:∃ f,f=if R≠0 then true else !b.isEmpty:=⟨_,rfl⟩
 obtain ⟨M,hM⟩:∃ M,M=if R≠0 then [] else QQ a b:=⟨_,rfl⟩
 refine ⟨f,?_⟩
 rw [← hM]
 refine Jw tOk fe133.ok (Qp _ _ _ _ _) ?_
 repeat' first|refine Jc (hVa _) ?_|refine Jc (hVb _) ?_|refine Js ?_|refine JA ?_|refine Ji ?_|refine JJ ?_|refine Jl ?_|refine Jx ?_|refine Jt ?_|refine Jb ?_ ?_|refine Jo ?_|refine Jd (hVa _) ?_|refine Jd (hVb _) ?_|refine JB ?_|(apply dAq;rfl;rfl;rfl;rfl;rfl;rfl;(first|assumption|solve_by_elim))|(apply dAp;rfl;rfl;rfl;rfl;rfl;(first|assumption|solve_by_elim);rfl)|refine JD ?_|refine JK ?_|(apply dLn;rfl;rfl;rfl;rfl;rfl)|refine JI ?_|(apply dT (ty:=4);rfl;rfl;rfl;rfl)|(apply dF (ty:=4);rfl;rfl;rfl;rfl)|(apply dB (ty:=4);rfl;rfl;rfl;rfl)|refine Jh ?_|(apply Wp.draw tOk follows;kernel_rfl)|intro hb
 refine Wp.while (fun m tm H => ∃ (i : Nat) (base : TM) (V : PV), i + m = b.length ∧ (i = 0 ∧ V = .sl tl 5 (pwL a) ∨ 0 < i ∧ V = slV true 5 (pwL (QQ a (b.take i)))) ∧
   tm=ovr base [(8,V),(1,slV bb 5 (pwL b)),(9,.int .i64 (i:Int))]∧H=⟨[],0,lv',nt'⟩)
  (fun m tm H hI=>?_) b.length _ _ ⟨0,_,_,by omega,.inl ⟨rfl,rfl⟩,Zf ⟨rfl,rfl,rfl,trivial⟩,rfl⟩
 obtain ⟨i,base,V,hi,hV,rfl,rfl⟩:=hI
 clear hap
 by_cases hlt:i<b.length
 · obtain ⟨x, hx⟩ : ∃ x, b[i]? = some x := ⟨b[i], by simp⟩
   have hxs:=hb' x (List.mem_of_getElem? hx)
   have hsn:=ZgF a hx
   obtain ⟨gA,gB⟩:=hfacts i (by omega)
   have hlx:=Zt (i:Int) ((pwL b).length:Int)
   rw [decide_eq_true (by rw [hpl];omega)] at hlx
   have hct:=ZnJ (l:=QQ a (b.take i)) (t:=x.1) (n:=x.2) (gA.mono (by omega)) hxs.1 (by omega) (by omega)
   rw [← hsn] at hct
   have hj:=YY hx
   clear hR hRt hVa hVb
   rcases hV with ⟨hI0,rfl⟩|⟨hI0,rfl⟩
   · have hct1 := hct false
     have e0:QQ a (b.take i)=a:=by rw [hI0];rfl
     rw [e0,Z0] at hct1
     have hct2:∀ H,CallOk E0 Tryz.prog 165 [.sl tl 5 (pwL a),.agg x.1.cells,.int .i64 x.2] H (slV true 5 (pwL (QQ a (b.take (i+1))))) H:=fun H=>by
      have:=hct1 H
      obtain ⟨⟨k',nm',s',b',kz'⟩,xn⟩:=x
      simp only [Tm.cells] at this ⊢
      exact ZV this (by simp only [ZP,frzG,Uq,Yq];rfl)
     obtain ⟨⟨k',nm',s',b',kz'⟩,xn⟩:=x
     simp only [pwC,Tm.cells,List.cons_append,List.nil_append] at hj hct1 hct2
     clear gA gB
     repeat' first|refine Jc (hct1 _) ?_|refine Jc (hct2 _) ?_|refine Js ?_|refine JA ?_|refine Ji ?_|refine JJ ?_|refine Jl ?_|refine Jx ?_|refine Jt ?_|refine Jb ?_ ?_|refine Jo ?_|refine Jd (hct1 _) ?_|refine Jd (hct2 _) ?_|refine JB ?_|(apply dAq;rfl;rfl;rfl;rfl;rfl;rfl;(first|assumption|solve_by_elim))|(apply dAp;rfl;rfl;rfl;rfl;rfl;(first|assumption|solve_by_elim);rfl)|refine JD ?_|refine JK ?_|(apply dLn;rfl;rfl;rfl;rfl;rfl)|refine JI ?_|(apply dT (ty:=4);rfl;rfl;rfl;rfl)|(apply dF (ty:=4);rfl;rfl;rfl;rfl)|(apply dB (ty:=4);rfl;rfl;rfl;rfl)|refine Jh ?_|(apply Wp.draw tOk follows;kernel_rfl)|intro hb
     all_goals exact LoopI.go (m-1) (by omega) ⟨i+1,_,_,by omega,.inr ⟨by omega,rfl⟩,Zf ⟨rfl,rfl,Ze (Zc (n:=i+1) (by omega)),trivial⟩,rfl⟩
   · have hct1 := hct true
     obtain ⟨⟨k',nm',s',b',kz'⟩,xn⟩:=x
     simp only [pwC,Tm.cells,List.cons_append,List.nil_append] at hj hct1
     clear gA gB
     repeat' first|refine Jc (hct1 _) ?_|refine Js ?_|refine JA ?_|refine Ji ?_|refine JJ ?_|refine Jl ?_|refine Jx ?_|refine Jt ?_|refine Jb ?_ ?_|refine Jo ?_|refine Jd (hct1 _) ?_|refine JB ?_|(apply dAq;rfl;rfl;rfl;rfl;rfl;rfl;(first|assumption|solve_by_elim))|(apply dAp;rfl;rfl;rfl;rfl;rfl;(first|assumption|solve_by_elim);rfl)|refine JD ?_|refine JK ?_|(apply dLn;rfl;rfl;rfl;rfl;rfl)|refine JI ?_|(apply dT (ty:=4);rfl;rfl;rfl;rfl)|(apply dF (ty:=4);rfl;rfl;rfl;rfl)|(apply dB (ty:=4);rfl;rfl;rfl;rfl)|refine Jh ?_|(apply Wp.draw tOk follows;kernel_rfl)|intro hb
     all_goals exact LoopI.go (m-1) (by omega) ⟨i+1,_,_,by omega,.inr ⟨by omega,rfl⟩,Zf ⟨rfl,rfl,Ze (Zc (n:=i+1) (by omega)),trivial⟩,rfl⟩
 · have e : i = b.length := by omega
   subst e
   have hlx:=Zt (b.length:Int) ((pwL b).length:Int)
   rw [decide_eq_false (by rw [hpl];omega)] at hlx
   rw [List.take_length] at hV
   rcases hV with ⟨hI0,rfl⟩|⟨hI0,rfl⟩
   · have e0 := List.length_eq_zero_iff.1 hI0
     have hRt:=hRt e0
     have hRt2:∀ H,CallOk E0 Tryz.prog 166 [.sl .none 5 (pwL a)] H (.int .i64 R) H:=fun H=>by
      have:=hR H
      rw [e0] at this
      rw [show slV (![].isEmpty) 5 (pwL (QQ a []))= .sl .none 5 (pwL a) from Z0 _ _] at this
      exact this
     by_cases hRz:R≠0
     · rw [if_pos hRz] at hf hM
       rw [hf,hM,hnil]
       have hne:=YK hRz
       repeat' first|refine Jc (hRt _) ?_|refine Jc (hRt2 _) ?_|refine Js ?_|refine JA ?_|refine Ji ?_|refine JJ ?_|refine Jl ?_|refine Jx ?_|refine Jt ?_|refine Jb ?_ ?_|refine Jo ?_|refine Jd (hRt _) ?_|refine Jd (hRt2 _) ?_|refine JB ?_|(apply dAq;rfl;rfl;rfl;rfl;rfl;rfl;(first|assumption|solve_by_elim))|(apply dAp;rfl;rfl;rfl;rfl;rfl;(first|assumption|solve_by_elim);rfl)|refine JD ?_|refine JK ?_|(apply dLn;rfl;rfl;rfl;rfl;rfl)|refine JI ?_|(apply dT (ty:=4);rfl;rfl;rfl;rfl)|(apply dF (ty:=4);rfl;rfl;rfl;rfl)|(apply dB (ty:=4);rfl;rfl;rfl;rfl)|refine Jh ?_|(apply Wp.draw tOk follows;kernel_rfl)|intro hb
       all_goals rfl
     · have hRz := Classical.not_not.1 hRz
       subst hRz
       rw [if_neg (by simp)] at hf hM
       rw [hf,hM,e0,show slV (![].isEmpty) 5 (pwL (QQ a []))= .sl .none 5 (pwL a) from Z0 _ _]
       repeat' first|refine Jc (hRt _) ?_|refine Jc (hRt2 _) ?_|refine Js ?_|refine JA ?_|refine Ji ?_|refine JJ ?_|refine Jl ?_|refine Jx ?_|refine Jt ?_|refine Jb ?_ ?_|refine Jo ?_|refine Jd (hRt _) ?_|refine Jd (hRt2 _) ?_|refine JB ?_|(apply dAq;rfl;rfl;rfl;rfl;rfl;rfl;(first|assumption|solve_by_elim))|(apply dAp;rfl;rfl;rfl;rfl;rfl;(first|assumption|solve_by_elim);rfl)|refine JD ?_|refine JK ?_|(apply dLn;rfl;rfl;rfl;rfl;rfl)|refine JI ?_|(apply dT (ty:=4);rfl;rfl;rfl;rfl)|(apply dF (ty:=4);rfl;rfl;rfl;rfl)|(apply dB (ty:=4);rfl;rfl;rfl;rfl)|refine Jh ?_|(apply Wp.draw tOk follows;kernel_rfl)|intro hb
       all_goals rfl
   · have hbe : (!b.isEmpty) = true := by
       cases b with
       | nil=>exact absurd hI0 (by simp)
       | cons y r=>rfl
     rw [hbe] at hR hf
     by_cases hRz:R≠0
     · rw [if_pos hRz] at hf hM
       rw [hf,hM,hnil]
       have hne:=YK hRz
       repeat' first|refine Jc (hR _) ?_|refine Js ?_|refine JA ?_|refine Ji ?_|refine JJ ?_|refine Jl ?_|refine Jx ?_|refine Jt ?_|refine Jb ?_ ?_|refine Jo ?_|refine Jd (hR _) ?_|refine JB ?_|(apply dAq;rfl;rfl;rfl;rfl;rfl;rfl;(first|assumption|solve_by_elim))|(apply dAp;rfl;rfl;rfl;rfl;rfl;(first|assumption|solve_by_elim);rfl)|refine JD ?_|refine JK ?_|(apply dLn;rfl;rfl;rfl;rfl;rfl)|refine JI ?_|(apply dT (ty:=4);rfl;rfl;rfl;rfl)|(apply dF (ty:=4);rfl;rfl;rfl;rfl)|(apply dB (ty:=4);rfl;rfl;rfl;rfl)|refine Jh ?_|(apply Wp.draw tOk follows;kernel_rfl)|intro hb
       all_goals rfl
     · have hRz := Classical.not_not.1 hRz
       subst hRz
       rw [if_neg (by simp)] at hf hM
       rw [hf,hM]
       repeat' first|refine Jc (hR _) ?_|refine Js ?_|refine JA ?_|refine Ji ?_|refine JJ ?_|refine Jl ?_|refine Jx ?_|refine Jt ?_|refine Jb ?_ ?_|refine Jo ?_|refine Jd (hR _) ?_|refine JB ?_|(apply dAq;rfl;rfl;rfl;rfl;rfl;rfl;(first|assumption|solve_by_elim))|(apply dAp;rfl;rfl;rfl;rfl;rfl;(first|assumption|solve_by_elim);rfl)|refine JD ?_|refine JK ?_|(apply dLn;rfl;rfl;rfl;rfl;rfl)|refine JI ?_|(apply dT (ty:=4);rfl;rfl;rfl;rfl)|(apply dF (ty:=4);rfl;rfl;rfl;rfl)|(apply dB (ty:=4);rfl;rfl;rfl;rfl)|refine Jh ?_|(apply Wp.draw tOk follows;kernel_rfl)|intro hb
       all_goals exact Qp _ _ _ _ _
theorem Zma {l:List Pw} (hl:∀ x,x∈l→x.1.Ok∧x.1.size≤100000) (hlen:l.length≤1000000) (b:Bool):∀ H,CallOk E0 Tryz.prog 115 [slV b 5 (pwL l)] H (.int .i64 (pvG l)) H:=by
 have hpl:=ZK l
 unfold pvG
 refine Jw tOk fe115.ok rfl ?_
 by_cases h2:200<l.length
 · rw [if_pos h2]
   repeat' first|refine Jk ?_|refine Ji ?_|refine JJ ?_|refine Jl ?_|refine Jx ?_|refine Jt ?_|refine Jb ?_ ?_|(apply qT (ty:=0);rfl;rfl;rfl)|(apply qF (ty:=0);rfl;rfl;rfl)|refine Jz ?_ ?_|refine Jo ?_|(apply dK;rfl;rfl;rfl)|refine JD ?_|refine JK ?_|(apply dLn;rfl;rfl;rfl;rfl;rfl)|refine JI ?_|(apply dT (ty:=4);rfl;rfl;rfl;rfl)|(apply dF (ty:=4);rfl;rfl;rfl;rfl)|(apply dB (ty:=4);rfl;rfl;rfl;rfl)|(apply dT (ty:=0);rfl;rfl;rfl;rfl)|(apply dF (ty:=0);rfl;rfl;rfl;rfl)|(apply dB (ty:=0);rfl;rfl;rfl;rfl)|refine Jh ?_|(apply Wp.draw tOk follows;kernel_rfl)|intro hb
   all_goals first
    | rfl
    | (exfalso;rw [hpl] at hb;simp only [decide_eq_false_iff_not] at hb;omega)
 · rw [if_neg h2]
   repeat' first|refine Jk ?_|refine Ji ?_|refine JJ ?_|refine Jl ?_|refine Jx ?_|refine Jt ?_|refine Jb ?_ ?_|(apply qT (ty:=0);rfl;rfl;rfl)|(apply qF (ty:=0);rfl;rfl;rfl)|refine Jz ?_ ?_|refine Jo ?_|(apply dK;rfl;rfl;rfl)|refine JD ?_|refine JK ?_|(apply dLn;rfl;rfl;rfl;rfl;rfl)|refine JI ?_|(apply dT (ty:=4);rfl;rfl;rfl;rfl)|(apply dF (ty:=4);rfl;rfl;rfl;rfl)|(apply dB (ty:=4);rfl;rfl;rfl;rfl)|(apply dT (ty:=0);rfl;rfl;rfl;rfl)|(apply dF (ty:=0);rfl;rfl;rfl;rfl)|(apply dB (ty:=0);rfl;rfl;rfl;rfl)|refine Jh ?_|(apply Wp.draw tOk follows;kernel_rfl)|intro hb
   · exfalso;rw [hpl] at hb;simp only [decide_eq_true_eq] at hb;omega
   refine Wp.while (fun m tm H => ∃ (i : Nat) (base : TM), i + m = l.length ∧ pvL none l = pvL (Ww l i) (l.drop i) ∧
     tm=ovr base [(0,slV b 5 (pwL l)),(9,slV b 5 (pwL l)),(10,.int .i64 (l.length:Int)),(11,.int .i64 (i:Int))]∧H=hNil)
    (fun m tm H hI=>Wp.drop ?_) l.length _ _ ⟨0,_,by omega,by rw [List.drop_zero];rfl,Zf ⟨rfl,rfl,Ze (by rw [hpl]),rfl,trivial⟩,rfl⟩
   obtain ⟨i,base,hi,hgo,rfl,rfl⟩:=hI
   rw [hgo]
   clear hb hgo
   by_cases hlt:i<l.length
   · obtain ⟨x, hx⟩ : ∃ x, l[i]? = some x := ⟨l[i], by simp⟩
     have hxs:=hl x (List.mem_of_getElem? hx)
     have hV:=c39 hxs.1 (by have:=hxs.2;omega)
     have hsp:=ZnL x.1
     have hd:=Zdu hx
     have hlx:=Zt (i:Int) (l.length:Int)
     rw [decide_eq_true (by omega)] at hlx
     have hZ:=Uf x.2 0
     have hL:=Zt x.2 (-1000)
     have hG:=XK x.2 1000
     have hC:∀ (j:Nat) (y:Pw),l[j]? = some y→∃ c,(∀ H,CallOk E0 Tryz.prog 32 [.agg y.1.cells,.agg x.1.cells] H (.int .i64 c) H)∧(i=j+1→VW (Ww l i) x.1=decide (0≤c)):=fun j y hy=>⟨_,ZlD (hl y (List.mem_of_getElem? hy)) hxs,fun e=>by rw [e,QT hy];rfl⟩
     have hC0:i=0→VW (Ww l i) x.1=false:=fun e=>by rw [e];rfl
     have hj:=YY hx
     unfold Z4 at hd
     generalize pvL (Ww l i) (l.drop i)=R at hd ⊢
     generalize VW (Ww l i) x.1=LB at hd hC hC0
     generalize decide (x.2=0)=bZ at hZ hd
     generalize decide (x.2< -1000)=bL at hL hd
     generalize decide ((1000:Int)<x.2)=bG at hG hd
     generalize x.1.valid=v at hV hd
     generalize x.1.sym=sy at hsp hd
     obtain ⟨⟨k',nm',s',b',kz'⟩,xn⟩:=x
     simp only [pwC,Tm.cells,List.cons_append,List.nil_append] at hV hsp hj hC
     by_cases hv:v≠0
     · rw [if_pos hv] at hd
       have hne:=YK hv
       repeat' first|refine Jk ?_|refine Jc (hV _) ?_|refine Jc (hsp _) ?_|refine Ji ?_|refine JJ ?_|refine Jl ?_|refine Jx ?_|refine Jt ?_|refine Jb ?_ ?_|(apply qT (ty:=0);rfl;rfl;rfl)|(apply qF (ty:=0);rfl;rfl;rfl)|refine Jz ?_ ?_|refine Jo ?_|(apply dK;rfl;rfl;rfl)|refine Jd (hV _) ?_|refine Jd (hsp _) ?_|refine JD ?_|refine JK ?_|(apply dLn;rfl;rfl;rfl;rfl;rfl)|refine JI ?_|(apply dT (ty:=4);rfl;rfl;rfl;rfl)|(apply dF (ty:=4);rfl;rfl;rfl;rfl)|(apply dB (ty:=4);rfl;rfl;rfl;rfl)|(apply dT (ty:=0);rfl;rfl;rfl;rfl)|(apply dF (ty:=0);rfl;rfl;rfl;rfl)|(apply dB (ty:=0);rfl;rfl;rfl;rfl)|refine Jh ?_|(apply Wp.draw tOk follows;kernel_rfl)|intro hb
       all_goals rw [hd]
     have hv:=Classical.not_not.1 hv
     subst hv
     rw [if_neg (by simp)] at hd
     cases sy
     rotate_left
     · rw [if_pos rfl] at hd
       repeat' first|refine Jk ?_|refine Jc (hV _) ?_|refine Jc (hsp _) ?_|refine Ji ?_|refine JJ ?_|refine Jl ?_|refine Jx ?_|refine Jt ?_|refine Jb ?_ ?_|(apply qT (ty:=0);rfl;rfl;rfl)|(apply qF (ty:=0);rfl;rfl;rfl)|refine Jz ?_ ?_|refine Jo ?_|(apply dK;rfl;rfl;rfl)|refine Jd (hV _) ?_|refine Jd (hsp _) ?_|refine JD ?_|refine JK ?_|(apply dLn;rfl;rfl;rfl;rfl;rfl)|refine JI ?_|(apply dT (ty:=4);rfl;rfl;rfl;rfl)|(apply dF (ty:=4);rfl;rfl;rfl;rfl)|(apply dB (ty:=4);rfl;rfl;rfl;rfl)|(apply dT (ty:=0);rfl;rfl;rfl;rfl)|(apply dF (ty:=0);rfl;rfl;rfl;rfl)|(apply dB (ty:=0);rfl;rfl;rfl;rfl)|refine Jh ?_|(apply Wp.draw tOk follows;kernel_rfl)|intro hb
       all_goals rw [hd]
     rw [if_neg (by decide)] at hd
     by_cases hbad:(bZ||(bL||bG))=true
     · rw [if_pos hbad] at hd
       cases bZ<;>cases bL<;>cases bG<;>first|(exact absurd hbad (by decide))|skip
       all_goals
        repeat' first|refine Jk ?_|refine Jc (hV _) ?_|refine Jc (hsp _) ?_|refine Ji ?_|refine JJ ?_|refine Jl ?_|refine Jx ?_|refine Jt ?_|refine Jb ?_ ?_|(apply qT (ty:=0);rfl;rfl;rfl)|(apply qF (ty:=0);rfl;rfl;rfl)|refine Jz ?_ ?_|refine Jo ?_|(apply dK;rfl;rfl;rfl)|refine Jd (hV _) ?_|refine Jd (hsp _) ?_|refine JD ?_|refine JK ?_|(apply dLn;rfl;rfl;rfl;rfl;rfl)|refine JI ?_|(apply dT (ty:=4);rfl;rfl;rfl;rfl)|(apply dF (ty:=4);rfl;rfl;rfl;rfl)|(apply dB (ty:=4);rfl;rfl;rfl;rfl)|(apply dT (ty:=0);rfl;rfl;rfl;rfl)|(apply dF (ty:=0);rfl;rfl;rfl;rfl)|(apply dB (ty:=0);rfl;rfl;rfl;rfl)|refine Jh ?_|(apply Wp.draw tOk follows;kernel_rfl)|intro hb
        all_goals rw [hd]
     · rw [if_neg hbad] at hd
       obtain rfl:bZ=false:=by cases bZ<;>simp_all
       obtain rfl:bL=false:=by cases bL<;>simp_all
       obtain rfl:bG=false:=by cases bG<;>simp_all
       match i,hi,hlt,hx,hj,hC0,hC,hlx with
       | 0, hi, hlt, hx, hj, hC0, hC, hlx =>
         rw [hC0 rfl,if_neg (by decide)] at hd
         repeat' first|refine Jk ?_|refine Jc (hV _) ?_|refine Jc (hsp _) ?_|refine Ji ?_|refine JJ ?_|refine Jl ?_|refine Jx ?_|refine Jt ?_|refine Jb ?_ ?_|(apply qT (ty:=0);rfl;rfl;rfl)|(apply qF (ty:=0);rfl;rfl;rfl)|refine Jz ?_ ?_|refine Jo ?_|(apply dK;rfl;rfl;rfl)|refine Jd (hV _) ?_|refine Jd (hsp _) ?_|refine JD ?_|refine JK ?_|(apply dLn;rfl;rfl;rfl;rfl;rfl)|refine JI ?_|(apply dT (ty:=4);rfl;rfl;rfl;rfl)|(apply dF (ty:=4);rfl;rfl;rfl;rfl)|(apply dB (ty:=4);rfl;rfl;rfl;rfl)|(apply dT (ty:=0);rfl;rfl;rfl;rfl)|(apply dF (ty:=0);rfl;rfl;rfl;rfl)|(apply dB (ty:=0);rfl;rfl;rfl;rfl)|refine Jh ?_|(apply Wp.draw tOk follows;kernel_rfl)|intro hb
         all_goals
          refine DropQ.go [(0,slV b 5 (pwL l)),(9,slV b 5 (pwL l)),(10,.int .i64 (l.length:Int)),(11,.int .i64 ((0+1:Nat):Int))] ?_ ?_ rfl rfl ?_
          · exact ⟨rfl,rfl,rfl,Ze (Zc (n:=0+1) (by omega)),trivial⟩
          · simp [Zj,under]
          · exact LoopI.go (m-1) (by omega) ⟨0+1,_,by omega,by rw [hd],rfl,rfl⟩
       | j + 1, hi, hlt, hx, hj, hC0, hC, hlx =>
         obtain ⟨y,hy⟩:∃ y,l[j]? = some y:=⟨l[j],by simp⟩
         obtain ⟨c,hCy,hLB⟩:=hC j y hy
         have hLB:=hLB rfl
         have hg0:=XK ((j+1:Nat):Int) 0
         rw [decide_eq_true (by omega)] at hg0
         have hsb:Xs E0 .sub 3 (.int .i64 ((j+1:Nat):Int)) (.int .i64 1)=some (.int .i64 (j:Int)):=by
          rw [Zet (by omega) (by omega)]
          congr 2
          omega
         have hjy:=YY hy
         have hge:=QI c 0
         rw [← hLB] at hge
         obtain ⟨⟨k2,nm2,s2,b2,kz2⟩,yn⟩:=y
         simp only [pwC,Tm.cells,List.cons_append,List.nil_append] at hCy hjy
         cases LB
         · rw [if_neg (by decide)] at hd
           repeat' first|refine Jk ?_|(apply qCl;rfl;rfl;rfl;rfl;first|exact hV _|exact hsp _|exact hCy _)|refine Ji ?_|refine JJ ?_|refine Jl ?_|refine Jx ?_|refine Jt ?_|refine Jb ?_ ?_|(apply qT (ty:=0);rfl;rfl;rfl)|(apply qF (ty:=0);rfl;rfl;rfl)|refine Jz ?_ ?_|refine Jo ?_|(apply dK;rfl;rfl;rfl)|(apply dCl;rfl;rfl;rfl;rfl;rfl;first|exact hV _|exact hsp _|exact hCy _)|refine JD ?_|refine JK ?_|(apply dLn;rfl;rfl;rfl;rfl;rfl)|refine JI ?_|(apply dT (ty:=4);rfl;rfl;rfl;rfl)|(apply dF (ty:=4);rfl;rfl;rfl;rfl)|(apply dB (ty:=4);rfl;rfl;rfl;rfl)|(apply dT (ty:=0);rfl;rfl;rfl;rfl)|(apply dF (ty:=0);rfl;rfl;rfl;rfl)|(apply dB (ty:=0);rfl;rfl;rfl;rfl)|refine Jh ?_|(apply Wp.draw tOk follows;kernel_rfl)|intro hb
           all_goals
            refine DropQ.go [(0,slV b 5 (pwL l)),(9,slV b 5 (pwL l)),(10,.int .i64 (l.length:Int)),(11,.int .i64 ((j+1+1:Nat):Int))] ?_ ?_ rfl rfl ?_
            · exact ⟨rfl,rfl,rfl,Ze (Zc (n:=j+1+1) (by omega)),trivial⟩
            · simp [Zj,under]
            · exact LoopI.go (m-1) (by omega) ⟨j+1+1,_,by omega,by rw [hd],rfl,rfl⟩
         · rw [if_pos rfl] at hd
           repeat' first|refine Jk ?_|(apply qCl;rfl;rfl;rfl;rfl;first|exact hV _|exact hsp _|exact hCy _)|refine Ji ?_|refine JJ ?_|refine Jl ?_|refine Jx ?_|refine Jt ?_|refine Jb ?_ ?_|(apply qT (ty:=0);rfl;rfl;rfl)|(apply qF (ty:=0);rfl;rfl;rfl)|refine Jz ?_ ?_|refine Jo ?_|(apply dK;rfl;rfl;rfl)|(apply dCl;rfl;rfl;rfl;rfl;rfl;first|exact hV _|exact hsp _|exact hCy _)|refine JD ?_|refine JK ?_|(apply dLn;rfl;rfl;rfl;rfl;rfl)|refine JI ?_|(apply dT (ty:=4);rfl;rfl;rfl;rfl)|(apply dF (ty:=4);rfl;rfl;rfl;rfl)|(apply dB (ty:=4);rfl;rfl;rfl;rfl)|(apply dT (ty:=0);rfl;rfl;rfl;rfl)|(apply dF (ty:=0);rfl;rfl;rfl;rfl)|(apply dB (ty:=0);rfl;rfl;rfl;rfl)|refine Jh ?_|(apply Wp.draw tOk follows;kernel_rfl)|intro hb
           all_goals rw [hd]
   · have e : i = l.length := by omega
     subst e
     have hlx:=Zt (l.length:Int) (l.length:Int)
     rw [decide_eq_false (by omega)] at hlx
     repeat' first|refine Jk ?_|refine Ji ?_|refine JJ ?_|refine Jl ?_|refine Jx ?_|refine Jt ?_|refine Jb ?_ ?_|(apply qT (ty:=0);rfl;rfl;rfl)|(apply qF (ty:=0);rfl;rfl;rfl)|refine Jz ?_ ?_|refine Jo ?_|(apply dK;rfl;rfl;rfl)|refine JD ?_|refine JK ?_|(apply dLn;rfl;rfl;rfl;rfl;rfl)|refine JI ?_|(apply dT (ty:=4);rfl;rfl;rfl;rfl)|(apply dF (ty:=4);rfl;rfl;rfl;rfl)|(apply dB (ty:=4);rfl;rfl;rfl;rfl)|(apply dT (ty:=0);rfl;rfl;rfl;rfl)|(apply dF (ty:=0);rfl;rfl;rfl;rfl)|(apply dB (ty:=0);rfl;rfl;rfl;rfl)|refine Jh ?_|(apply Wp.draw tOk follows;kernel_rfl)|intro hb
     rw [List.drop_length]
     rfl
