/-
  Powers: which lists are right (the program's text).
-/
import Derived.Test.YtfiflgphoepgeaaGreatDoorOa
set_option maxHeartbeats 0
set_option maxRecDepth 100000
namespace Go.Vm
theorem Zha {B:Int} (hB:0≤B):∀ (b:List Pw) {l:List Pw} {C:Int},0≤C→PwB C l→PwB B b→PwB (C+b.length*B) (insF l b)∧(insF l b).length≤l.length+b.length
 | [],l,C,hC,hl,_=>⟨by simpa [insF] using hl,by simp [insF]⟩
 | x :: r, l, C, hC, hl, hb => by
   have hx:=hb x List.mem_cons_self
   have h1:=hl.ins (t:=x.1) (n:=x.2) (c:=B) hx.1 hx.2 hC hB
   obtain ⟨h2,h3⟩:=Zha hB r (l:=Ww l x.1 x.2) (C:=C+B) (by omega) h1 hb.tail
   have h4:=Zbu l x.1 x.2
   refine ⟨?_,?_⟩
   · have e : C + ((x :: r).length : Int) * B = C + B + (r.length : Int) * B := by
       rw [List.length_cons]
       push_cast
       rw [Int.add_mul]
       omega
     rw [e]
     exact h2
   · show (insF (Ww l x.1 x.2) r).length ≤ _
     rw [List.length_cons]
     omega
theorem Zis {b:List Pw} {i:Nat} {x:Pw} (a:List Pw) (h:b[i]? = some x):Zam a (b.take (i+1))=Zi9 (Zam a (b.take i)) x.1 x.2:=XA (f:=fun l (x:Pw)=>Zi9 l x.1 x.2) h
theorem ZaF {a b:List Pw} {B:Int} (hB:0≤B) (ha:PwB B a) (hb:PwB B b) (h1:pvG a=0) (h2:pvG b=0) (i:Nat) (hi:i≤b.length):PwB (B+i*B) (Zam a (b.take i))∧(Zam a (b.take i)).length≤a.length+i:=by
 rw [Zbj _ _ (UA h1).1 fun x hx=>(UA h2).2 x (List.mem_of_mem_take hx)]
 have h:=Zha hB (b.take i) (l:=a) (C:=B) hB ha fun x hx=>hb x (List.mem_of_mem_take hx)
 rw [List.length_take,Nat.min_eq_left hi] at h
 exact h
theorem Vs {l:List Pw} (h:pvG l=0):l.length≤200:=by
 unfold pvG at h
 split at h
 · exact absurd h (by decide)
 · omega
end Go.Vm
namespace Go.Vm.Seat
open Go.Proofs
theorem YQ {v:Int} (h:v≠0):Y2 E0 .neq 35 (.int .i64 v) (.int .i64 0)=some (.bool true):=by
 show some (PV.bool (!(v==0)))=_
 simp [h]
theorem Ztp {a b:List Pw} (ha:PwB 1000000 a) (hb':PwB 1000000 b) (hla:a.length≤100000) (hlb:b.length≤100000) (ba bb:Bool):∃ f,∀ H,CallOk E0 Tryz.prog 189 [slV ba 5 (pwL a),slV bb 5 (pwL b)] H (.tup [slV f 5 (pwL (ZbO a b).1),.int .i64 (ZbO a b).2]) H:=by
 have hVa:=ZpL (fun x hx=>(ha x hx).1) (by omega) ba
 have hVb:=ZpL (fun x hx=>(hb' x hx).1) (by omega) bb
 have hnil:slV true 5 (pwL [])= .nils:=Zh 5
 unfold ZbO Zlu
 by_cases hP1:pvG a≠0
 · rw [if_pos hP1]
   refine ⟨true,?_⟩
   rw [hnil]
   generalize pvG a=v at hVa hP1 ⊢
   refine Jw tOk fe189.ok rfl ?_
   have hne:=YQ hP1
   repeat' first|refine Jc (hVa _) ?_|refine Ji ?_|refine Jo ?_|fail
   all_goals rfl
 rw [if_neg hP1]
 have hP1:=Classical.not_not.1 hP1
 rw [hP1] at hVa
 by_cases hP2:pvG b≠0
 · rw [if_pos hP2]
   refine ⟨true,?_⟩
   rw [hnil]
   generalize pvG b=v at hVb hP2 ⊢
   refine Jw tOk fe189.ok rfl ?_
   have hne:=YQ hP2
   repeat' first|refine Jc (hVa _) ?_|refine Jc (hVb _) ?_|refine Ji ?_|refine Jt ?_|refine Jo ?_|fail
   all_goals rfl
 rw [if_neg hP2]
 have hP2:=Classical.not_not.1 hP2
 rw [hP2] at hVb
 have hb200:=Vs hP2
 have ha200:=Vs hP1
 have hpl:=ZO b
 have hfacts:=ZaF (by decide) ha hb' hP1 hP2
 rw [ZgA]
 have hA0:ApV false 5 [] (.sl .full 5 []) [] 0:= .full [] _ _ rfl rfl
 obtain ⟨out',lv',nt',hap,hA', -⟩:=hA0.app apT_pw (.slV ba 5 (pwL a)) (Q6 _) (ZS (by simp only [ZO,List.length_nil];omega) (by decide)) (ZhG _)
 rw [List.nil_append] at hA'
 obtain ⟨tl,rfl⟩:=Ze6 hA'
 obtain ⟨hfN1,hfN2⟩:=hfacts b.length (Nat.le_refl _)
 rw [List.take_length] at hfN1 hfN2
 have hR:=Zro (l:=Zam a b) (!b.isEmpty) (by omega)
 have hRt:b= []→∀ H,CallOk E0 Tryz.prog 215 [.sl tl 5 (pwL a)] H (.int .i64 (Zjf (Zam a b))) H:=fun e H=>by
  have:=Zro (l:=a) false (by omega) H
  rw [Z3] at this
  rw [e]
  exact Zr this rfl
 generalize Zjf (Zam a b)=R at hR hRt ⊢
 obtain ⟨f,hf⟩:∃ f,f=if R≠0 then true else !b.isEmpty:=⟨_,rfl⟩
 obtain ⟨M,hM⟩:∃ M,M=if R≠0 then [] else Zam a b:=⟨_,rfl⟩
 refine ⟨f,?_⟩
 rw [← hM]
 refine Jw tOk fe189.ok (QM _ _ _ _ _) ?_
 repeat' first|refine Jc (hVa _) ?_|refine Jc (hVb _) ?_|refine Js ?_|refine JA ?_|refine Jt ?_|refine Jo ?_|fail
 refine Wp.while (fun m tm H => ∃ (i : Nat) (base : TM) (V : PV), i + m = b.length ∧ (i = 0 ∧ V = .sl tl 5 (pwL a) ∨ 0 < i ∧ V = slV true 5 (pwL (Zam a (b.take i)))) ∧
   tm=ovr base [(8,V),(1,slV bb 5 (pwL b)),(9,.int .i64 (i:Int))]∧H=⟨[],0,lv',nt'⟩)
  (fun m tm H hI=>?_) b.length _ _ ⟨0,_,_,by omega,.inl ⟨rfl,rfl⟩,Zf ⟨rfl,rfl,rfl,trivial⟩,rfl⟩
 obtain ⟨i,base,V,hi,hV,rfl,rfl⟩:=hI
 clear hap
 by_cases hlt:i<b.length
 · obtain ⟨x, hx⟩ : ∃ x, b[i]? = some x := ⟨b[i], by simp⟩
   have hxs:=hb' x (List.mem_of_getElem? hx)
   have hsn:=Zis a hx
   obtain ⟨gA,gB⟩:=hfacts i (by omega)
   have hlx:=Zt (i:Int) ((pwL b).length:Int)
   rw [decide_eq_true (by rw [hpl];omega)] at hlx
   have hct:=Zrd (l:=Zam a (b.take i)) (t:=x.1) (n:=x.2) (gA.mono (by omega)) hxs.1 (by omega) (by omega)
   rw [← hsn] at hct
   have hj:=Xb hx
   clear hR hRt hVa hVb
   rcases hV with ⟨hI0,rfl⟩|⟨hI0,rfl⟩
   · have hct1 := hct false
     have e0:Zam a (b.take i)=a:=by rw [hI0];rfl
     rw [e0,Z3] at hct1
     have hct2:∀ H,CallOk E0 Tryz.prog 214 [.sl tl 5 (pwL a),.agg x.1.cells,.int .i64 x.2] H (slV true 5 (pwL (Zam a (b.take (i+1))))) H:=fun H=>by
      have:=hct1 H
      obtain ⟨⟨k',nm',s',b',kz'⟩,xn⟩:=x
      simp only [Tm.cells] at this ⊢
      exact Zr this (by simp only [ZM,frzG,UU,YI];rfl)
     obtain ⟨⟨k',nm',s',b',kz'⟩,xn⟩:=x
     simp only [pwC,Tm.cells,List.cons_append,List.nil_append] at hj hct1 hct2
     clear gA gB
     repeat' first|refine Ji ?_|refine Jl ?_|refine Jo ?_|refine Jd (hct2 _) ?_|refine JI ?_|refine Jh ?_|(apply Wp.draw tOk follows;kernel_rfl)|fail
     all_goals exact LoopI.go (m-1) (by omega) ⟨i+1,_,_,by omega,.inr ⟨by omega,rfl⟩,Zf ⟨rfl,rfl,Zd (Zc (n:=i+1) (by omega)),trivial⟩,rfl⟩
   · have hct1 := hct true
     obtain ⟨⟨k',nm',s',b',kz'⟩,xn⟩:=x
     simp only [pwC,Tm.cells,List.cons_append,List.nil_append] at hj hct1
     clear gA gB
     repeat' first|refine Ji ?_|refine Jl ?_|refine Jo ?_|refine Jd (hct1 _) ?_|refine JI ?_|refine Jh ?_|(apply Wp.draw tOk follows;kernel_rfl)|fail
     all_goals exact LoopI.go (m-1) (by omega) ⟨i+1,_,_,by omega,.inr ⟨by omega,rfl⟩,Zf ⟨rfl,rfl,Zd (Zc (n:=i+1) (by omega)),trivial⟩,rfl⟩
 · have e : i = b.length := by omega
   subst e
   have hlx:=Zt (b.length:Int) ((pwL b).length:Int)
   rw [decide_eq_false (by rw [hpl];omega)] at hlx
   rw [List.take_length] at hV
   rcases hV with ⟨hI0,rfl⟩|⟨hI0,rfl⟩
   · have e0 := List.length_eq_zero_iff.1 hI0
     have hRt:=hRt e0
     have hRt2:∀ H,CallOk E0 Tryz.prog 215 [.sl .none 5 (pwL a)] H (.int .i64 R) H:=fun H=>by
      have:=hR H
      rw [e0] at this
      rw [show slV (![].isEmpty) 5 (pwL (Zam a []))= .sl .none 5 (pwL a) from Z3 _ _] at this
      exact this
     by_cases hRz:R≠0
     · rw [if_pos hRz] at hf hM
       rw [hf,hM,hnil]
       have hne:=YQ hRz
       repeat' first|refine Jc (hRt _) ?_|refine Ji ?_|refine Jl ?_|refine Jo ?_|fail
       all_goals rfl
     · have hRz := Classical.not_not.1 hRz
       subst hRz
       rw [if_neg (by simp)] at hf hM
       rw [hf,hM,e0,show slV (![].isEmpty) 5 (pwL (Zam a []))= .sl .none 5 (pwL a) from Z3 _ _]
       repeat' first|refine Jc (hRt _) ?_|refine Jl ?_|refine Jt ?_|refine Jo ?_|fail
       all_goals rfl
   · have hbe : (!b.isEmpty) = true := by
       cases b with
       | nil=>exact absurd hI0 (by simp)
       | cons y r=>rfl
     rw [hbe] at hR hf
     by_cases hRz:R≠0
     · rw [if_pos hRz] at hf hM
       rw [hf,hM,hnil]
       have hne:=YQ hRz
       repeat' first|refine Jc (hR _) ?_|refine Ji ?_|refine Jl ?_|refine Jo ?_|fail
       all_goals rfl
     · have hRz := Classical.not_not.1 hRz
       subst hRz
       rw [if_neg (by simp)] at hf hM
       rw [hf,hM]
       repeat' first|refine Jc (hR _) ?_|refine Ji ?_|refine Jl ?_|refine Jt ?_|refine Jo ?_|fail
       all_goals exact QM _ _ _ _ _
theorem Zpw {l:List Pw} (hl:∀ x,x∈l→x.1.Ok∧x.1.size≤100000) (hlen:l.length≤1000000) (b:Bool):∀ H,CallOk E0 Tryz.prog 120 [slV b 5 (pwL l)] H (.int .i64 (pvG l)) H:=by
 have hpl:=ZO l
 unfold pvG
 refine Jw tOk fe120.ok rfl ?_
 by_cases h2:200<l.length
 · rw [if_pos h2]
   repeat' first|refine Jl ?_|refine Jb ?_ ?_|refine Jo ?_|intro hb
   all_goals first
    | rfl
    | (exfalso;rw [hpl] at hb;simp only [decide_eq_false_iff_not] at hb;omega)
 · rw [if_neg h2]
   repeat' first|refine Jl ?_|refine Jb ?_ ?_|refine Jo ?_|intro hb
   · exfalso;rw [hpl] at hb;simp only [decide_eq_true_eq] at hb;omega
   refine Wp.while (fun m tm H => ∃ (i : Nat) (base : TM), i + m = l.length ∧ pvL none l = pvL (WN l i) (l.drop i) ∧
     tm=ovr base [(0,slV b 5 (pwL l)),(9,slV b 5 (pwL l)),(10,.int .i64 (l.length:Int)),(11,.int .i64 (i:Int))]∧H=hNil)
    (fun m tm H hI=>Wp.drop ?_) l.length _ _ ⟨0,_,by omega,by rw [List.drop_zero];rfl,Zf ⟨rfl,rfl,Zd (by rw [hpl]),rfl,trivial⟩,rfl⟩
   obtain ⟨i,base,hi,hgo,rfl,rfl⟩:=hI
   rw [hgo]
   clear hb hgo
   by_cases hlt:i<l.length
   · obtain ⟨x, hx⟩ : ∃ x, l[i]? = some x := ⟨l[i], by simp⟩
     have hxs:=hl x (List.mem_of_getElem? hx)
     have hV:=c41 hxs.1 (by have:=hxs.2;omega)
     have hsp:=Zrt x.1
     have hd:=ZeC hx
     have hlx:=Zt (i:Int) (l.length:Int)
     rw [decide_eq_true (by omega)] at hlx
     have hZ:=YB x.2 0
     have hL:=Zt x.2 (-1000)
     have hG:=Xw x.2 1000
     have hC:∀ (j:Nat) (y:Pw),l[j]? = some y→∃ c,(∀ H,CallOk E0 Tryz.prog 33 [.agg y.1.cells,.agg x.1.cells] H (.int .i64 c) H)∧(i=j+1→VY (WN l i) x.1=decide (0≤c)):=fun j y hy=>⟨_,Zpa (hl y (List.mem_of_getElem? hy)) hxs,fun e=>by rw [e,ZaN hy];rfl⟩
     have hC0:i=0→VY (WN l i) x.1=false:=fun e=>by rw [e];rfl
     have hj:=Xb hx
     unfold Z9 at hd
     generalize pvL (WN l i) (l.drop i)=R at hd ⊢
     generalize VY (WN l i) x.1=LB at hd hC hC0
     generalize decide (x.2=0)=bZ at hZ hd
     generalize decide (x.2< -1000)=bL at hL hd
     generalize decide ((1000:Int)<x.2)=bG at hG hd
     generalize x.1.valid=v at hV hd
     generalize x.1.sym=sy at hsp hd
     obtain ⟨⟨k',nm',s',b',kz'⟩,xn⟩:=x
     simp only [pwC,Tm.cells,List.cons_append,List.nil_append] at hV hsp hj hC
     by_cases hv:v≠0
     · rw [if_pos hv] at hd
       have hne:=YQ hv
       repeat' first|refine Jc (hV _) ?_|refine Ji ?_|refine Jx ?_|refine Jo ?_|fail
       all_goals rw [hd]
     have hv:=Classical.not_not.1 hv
     subst hv
     rw [if_neg (by simp)] at hd
     cases sy
     rotate_left
     · rw [if_pos rfl] at hd
       repeat' first|refine Jc (hV _) ?_|refine Jc (hsp _) ?_|refine Ji ?_|refine Jx ?_|refine Jt ?_|refine Jo ?_|fail
       all_goals rw [hd]
     rw [if_neg (by decide)] at hd
     by_cases hbad:(bZ||(bL||bG))=true
     · rw [if_pos hbad] at hd
       cases bZ<;>cases bL<;>cases bG<;>first|(exact absurd hbad (by decide))|skip
       all_goals
        repeat' first|refine Jk ?_|refine Jc (hV _) ?_|refine Jc (hsp _) ?_|refine Ji ?_|refine Jx ?_|refine Jt ?_|refine Jo ?_|fail
        all_goals rw [hd]
     · rw [if_neg hbad] at hd
       obtain rfl:bZ=false:=by cases bZ<;>simp_all
       obtain rfl:bL=false:=by cases bL<;>simp_all
       obtain rfl:bG=false:=by cases bG<;>simp_all
       match i,hi,hlt,hx,hj,hC0,hC,hlx with
       | 0, hi, hlt, hx, hj, hC0, hC, hlx =>
         rw [hC0 rfl,if_neg (by decide)] at hd
         repeat' first|refine Jc (hV _) ?_|refine Jc (hsp _) ?_|refine Ji ?_|refine Jx ?_|refine Jt ?_|refine Jo ?_|(apply dK;rfl;rfl;rfl)|(apply dF (ty:=4);rfl;rfl;rfl;rfl)|refine Jh ?_|(apply Wp.draw tOk follows;kernel_rfl)|fail
         all_goals
          refine DropQ.go [(0,slV b 5 (pwL l)),(9,slV b 5 (pwL l)),(10,.int .i64 (l.length:Int)),(11,.int .i64 ((0+1:Nat):Int))] ?_ ?_ rfl rfl ?_
          · exact ⟨rfl,rfl,rfl,Zd (Zc (n:=0+1) (by omega)),trivial⟩
          · simp [Zg,under]
          · exact LoopI.go (m-1) (by omega) ⟨0+1,_,by omega,by rw [hd],rfl,rfl⟩
       | j + 1, hi, hlt, hx, hj, hC0, hC, hlx =>
         obtain ⟨y,hy⟩:∃ y,l[j]? = some y:=⟨l[j],by simp⟩
         obtain ⟨c,hCy,hLB⟩:=hC j y hy
         have hLB:=hLB rfl
         have hg0:=Xw ((j+1:Nat):Int) 0
         rw [decide_eq_true (by omega)] at hg0
         have hsb:Y2 E0 .sub 3 (.int .i64 ((j+1:Nat):Int)) (.int .i64 1)=some (.int .i64 (j:Int)):=by
          rw [ZjP (by omega) (by omega)]
          congr 2
          omega
         have hjy:=Xb hy
         have hge:=UT c 0
         rw [← hLB] at hge
         obtain ⟨⟨k2,nm2,s2,b2,kz2⟩,yn⟩:=y
         simp only [pwC,Tm.cells,List.cons_append,List.nil_append] at hCy hjy
         cases LB
         · rw [if_neg (by decide)] at hd
           repeat' first|refine Jc (hV _) ?_|refine Jc (hsp _) ?_|refine Ji ?_|refine Jx ?_|refine Jt ?_|refine Jo ?_|refine Jd (hCy _) ?_|refine JD ?_|refine JI ?_|(apply dT (ty:=4);rfl;rfl;rfl;rfl)|(apply dF (ty:=4);rfl;rfl;rfl;rfl)|refine Jh ?_|(apply Wp.draw tOk follows;kernel_rfl)|fail
           all_goals
            refine DropQ.go [(0,slV b 5 (pwL l)),(9,slV b 5 (pwL l)),(10,.int .i64 (l.length:Int)),(11,.int .i64 ((j+1+1:Nat):Int))] ?_ ?_ rfl rfl ?_
            · exact ⟨rfl,rfl,rfl,Zd (Zc (n:=j+1+1) (by omega)),trivial⟩
            · simp [Zg,under]
            · exact LoopI.go (m-1) (by omega) ⟨j+1+1,_,by omega,by rw [hd],rfl,rfl⟩
         · rw [if_pos rfl] at hd
           repeat' first|refine Jc (hV _) ?_|refine Jc (hsp _) ?_|refine Ji ?_|refine Jx ?_|refine Jt ?_|refine Jo ?_|refine Jd (hCy _) ?_|refine JD ?_|refine JI ?_|(apply dT (ty:=4);rfl;rfl;rfl;rfl)|refine Jh ?_|(apply Wp.draw tOk follows;kernel_rfl)|fail
           all_goals rw [hd]
   · have e : i = l.length := by omega
     subst e
     have hlx:=Zt (l.length:Int) (l.length:Int)
     rw [decide_eq_false (by omega)] at hlx
     repeat' first|refine Ji ?_|refine Jo ?_|fail
     rw [List.drop_length]
     rfl
