/-
  Sums in the second text: two lists.
-/
import Derived.Test.YtnnfkocifnflgaaGreatDoorNj
set_option maxHeartbeats 0
set_option maxRecDepth 100000
namespace Go.Vm.Seat
variable {a key t x:Tm} {b l:List Tm} {i:Nat}
open Go.Proofs
theorem ZkV (h:x.Ok∧x.size≤100000):(Tm.mk 3 pkN 0 true [x]).Ok∧(Tm.mk 3 pkN 0 true [x]).size≤200000:=⟨cls_ok.app (by decide) (by simp) rfl (fun y hy=>by
 rw [List.mem_singleton] at hy
 rw [hy]
 exact h.1),by
 simp only [Tm.size,Zl]
 have:=h.2
 omega⟩
theorem Zfd (ha:a.okA=true) (hk:key.okA=true) (ha':a.Ok∧a.size≤100000) (hk':key.Ok∧key.size≤100000) (b:Bool):∀ H,CallOk E0 Tryz.prog 78 [.agg (Tm.mk 3 Yu 0 b [a,key]).cells] H (.tup [.agg (Xc (.mk 3 Yu 0 b [a,key])).cells,.bool (isA a WU&&decide ((a.kd 1).cmp (.mk 3 pkN 0 true [key])=0))]) H:=by
 have hi:=isR a WU
 have hd:Xc (.mk 3 Yu 0 b [a,key])=if (isA a WU&&decide ((a.kd 1).cmp (.mk 3 pkN 0 true [key])=0))=true then a.kd 0 else .mk 3 Yu 0 b [a,key]:=by
  rw [← Zed (t:= .mk 3 Yu 0 b [a,key]) (by simp only [Tm.okA,if_pos,ZeS,ha,hk];rfl)]
  unfold Zbf
  simp [Zk5,Tm.nm,Tm.kd,Vb,WZ,WV,Yu,Ys,YI,pkN]
 rw [hd]
 cases hp:isA a WU with
 | false =>
   rw [hp] at hi
   rw [if_neg (by simp),Bool.false_and]
   obtain ⟨k1,n1,s1,f1,l1⟩:=a
   obtain ⟨k2,n2,s2,f2,l2⟩:=key
   simp only [Tm.cells,WN,Yu] at hi ⊢
   refine Jw tOk fe78.ok rfl ?_
   repeat' first|refine Jk ?_|refine Jc (hi _) ?_|refine Js ?_|refine JJ ?_|refine Jx ?_|refine Jt ?_|refine Jb ?_ ?_|refine Jo ?_|(apply dK;rfl;rfl;rfl)|refine Jd (hi _) ?_|refine JB ?_|refine JK ?_|refine JI ?_|(apply dT (ty:=4);rfl;rfl;rfl;rfl)|(apply dF (ty:=4);rfl;rfl;rfl;rfl)|(apply dB (ty:=4);rfl;rfl;rfl;rfl)|refine Jh ?_|(apply Wp.draw tOk follows;kernel_rfl)|intro hb
   all_goals first
    | exact Z5 _ _ _ _ _ _ _ _
    | rfl
    | (exfalso;simp at hb;done)
 | true =>
   rw [hp] at hi
   obtain ⟨b1,x,y,rfl⟩:=Y1 ha hp rfl
   have hs:=Zcg (up2 (W4 ha' (x:=y) (by simp))) (ZkV hk')
   have hj:=ZjP pkN key
   show ∀ H,CallOk E0 Tryz.prog 78 _ H (.tup [.agg (Tm.cells (if (true&&decide (y.cmp (.mk 3 pkN 0 true [key])=0))=true then x else _)),.bool (true&&decide (y.cmp (.mk 3 pkN 0 true [key])=0))]) H
   rw [Bool.true_and]
   generalize decide (y.cmp (.mk 3 pkN 0 true [key])=0)=c at hs ⊢
   obtain ⟨k1,n1,s1,f1,l1⟩:=x
   obtain ⟨k2,n2,s2,f2,l2⟩:=y
   obtain ⟨k3,n3,s3,f3,l3⟩:=key
   cases c
   · rw [if_neg (by decide)]
     simp only [Tm.cells,WN,QX,Yu,WU,pkN] at hi hj hs ⊢
     refine Jw tOk fe78.ok rfl ?_
     repeat' first|refine Jk ?_|(apply qCl;rfl;rfl;rfl;rfl;first|exact hi _|exact hj _|exact hs _)|refine Js ?_|refine JJ ?_|refine Jx ?_|refine Jt ?_|refine Jb ?_ ?_|refine Jo ?_|(apply dK;rfl;rfl;rfl)|(apply dCl;rfl;rfl;rfl;rfl;rfl;first|exact hi _|exact hj _|exact hs _)|refine JB ?_|refine JK ?_|refine JI ?_|(apply dT (ty:=4);rfl;rfl;rfl;rfl)|(apply dF (ty:=4);rfl;rfl;rfl;rfl)|(apply dB (ty:=4);rfl;rfl;rfl;rfl)|refine Jh ?_|(apply Wp.draw tOk follows;kernel_rfl)|intro hb
     all_goals first
      | exact Z5 _ _ _ _ _ _ _ _
      | rfl
      | (exfalso;simp at hb;done)
   · rw [if_pos rfl]
     simp only [Tm.cells,WN,QX,Yu,WU,pkN] at hi hj hs ⊢
     refine Jw tOk fe78.ok (Z5 _ _ _ _ _ _ _ _) ?_
     repeat' first|refine Jk ?_|(apply qCl;rfl;rfl;rfl;rfl;first|exact hi _|exact hj _|exact hs _)|refine Js ?_|refine JJ ?_|refine Jx ?_|refine Jt ?_|refine Jb ?_ ?_|refine Jo ?_|(apply dK;rfl;rfl;rfl)|(apply dCl;rfl;rfl;rfl;rfl;rfl;first|exact hi _|exact hj _|exact hs _)|refine JB ?_|refine JK ?_|refine JI ?_|(apply dT (ty:=4);rfl;rfl;rfl;rfl)|(apply dF (ty:=4);rfl;rfl;rfl;rfl)|(apply dB (ty:=4);rfl;rfl;rfl;rfl)|refine Jh ?_|(apply Wp.draw tOk follows;kernel_rfl)|intro hb
     all_goals first
      | exact Z5 _ _ _ _ _ _ _ _
      | rfl
      | (exfalso;simp at hb;done)
theorem Zgz (ha:a.okA=true) (hk:key.okA=true) (ha':a.Ok∧a.size≤100000) (hk':key.Ok∧key.size≤100000) (b:Bool):∀ H,CallOk E0 Tryz.prog 78 [.agg (Tm.mk 3 Ys 0 b [a,key]).cells] H (.tup [.agg (Xc (.mk 3 Ys 0 b [a,key])).cells,.bool (isA a Y4&&decide (key.cmp (.mk 3 pkN 0 true [a.kd 1])=0))]) H:=by
 have hi:=isR a Y4
 have hd:Xc (.mk 3 Ys 0 b [a,key])=if (isA a Y4&&decide (key.cmp (.mk 3 pkN 0 true [a.kd 1])=0))=true then a.kd 0 else .mk 3 Ys 0 b [a,key]:=by
  rw [← Zed (t:= .mk 3 Ys 0 b [a,key]) (by simp only [Tm.okA,if_pos,ZeS,ha,hk];rfl)]
  unfold Zbf
  simp [Zk5,Tm.nm,Tm.kd,Vb,WZ,WV,Yu,Ys,YI,pkN]
 rw [hd]
 cases hp:isA a Y4 with
 | false =>
   rw [hp] at hi
   rw [if_neg (by simp),Bool.false_and]
   obtain ⟨k1,n1,s1,f1,l1⟩:=a
   obtain ⟨k2,n2,s2,f2,l2⟩:=key
   simp only [Tm.cells,WN,Ys] at hi ⊢
   refine Jw tOk fe78.ok rfl ?_
   repeat' first|refine Jk ?_|refine Jc (hi _) ?_|refine Js ?_|refine JJ ?_|refine Jx ?_|refine Jt ?_|refine Jb ?_ ?_|refine Jo ?_|(apply dK;rfl;rfl;rfl)|refine Jd (hi _) ?_|refine JB ?_|refine JK ?_|refine JI ?_|(apply dT (ty:=4);rfl;rfl;rfl;rfl)|(apply dF (ty:=4);rfl;rfl;rfl;rfl)|(apply dB (ty:=4);rfl;rfl;rfl;rfl)|refine Jh ?_|(apply Wp.draw tOk follows;kernel_rfl)|intro hb
   all_goals first
    | exact Z5 _ _ _ _ _ _ _ _
    | rfl
    | (exfalso;simp at hb;done)
 | true =>
   rw [hp] at hi
   obtain ⟨b1,x,y,rfl⟩:=Y1 ha hp rfl
   have hs:=Zcg (up2 hk') (ZkV (W4 ha' (x:=y) (by simp)))
   have hj:=ZjP pkN y
   show ∀ H,CallOk E0 Tryz.prog 78 _ H (.tup [.agg (Tm.cells (if (true&&decide (key.cmp (.mk 3 pkN 0 true [y])=0))=true then x else _)),.bool (true&&decide (key.cmp (.mk 3 pkN 0 true [y])=0))]) H
   rw [Bool.true_and]
   generalize decide (key.cmp (.mk 3 pkN 0 true [y])=0)=c at hs ⊢
   obtain ⟨k1,n1,s1,f1,l1⟩:=x
   obtain ⟨k2,n2,s2,f2,l2⟩:=y
   obtain ⟨k3,n3,s3,f3,l3⟩:=key
   cases c
   · rw [if_neg (by decide)]
     simp only [Tm.cells,WN,QX,Ys,Y4,pkN] at hi hj hs ⊢
     refine Jw tOk fe78.ok rfl ?_
     repeat' first|refine Jk ?_|(apply qCl;rfl;rfl;rfl;rfl;first|exact hi _|exact hj _|exact hs _)|refine Js ?_|refine JJ ?_|refine Jx ?_|refine Jt ?_|refine Jb ?_ ?_|refine Jo ?_|(apply dK;rfl;rfl;rfl)|(apply dCl;rfl;rfl;rfl;rfl;rfl;first|exact hi _|exact hj _|exact hs _)|refine JB ?_|refine JK ?_|refine JI ?_|(apply dT (ty:=4);rfl;rfl;rfl;rfl)|(apply dF (ty:=4);rfl;rfl;rfl;rfl)|(apply dB (ty:=4);rfl;rfl;rfl;rfl)|refine Jh ?_|(apply Wp.draw tOk follows;kernel_rfl)|intro hb
     all_goals first
      | exact Z5 _ _ _ _ _ _ _ _
      | rfl
      | (exfalso;simp at hb;done)
   · rw [if_pos rfl]
     simp only [Tm.cells,WN,QX,Ys,Y4,pkN] at hi hj hs ⊢
     refine Jw tOk fe78.ok (Z5 _ _ _ _ _ _ _ _) ?_
     repeat' first|refine Jk ?_|(apply qCl;rfl;rfl;rfl;rfl;first|exact hi _|exact hj _|exact hs _)|refine Js ?_|refine JJ ?_|refine Jx ?_|refine Jt ?_|refine Jb ?_ ?_|refine Jo ?_|(apply dK;rfl;rfl;rfl)|(apply dCl;rfl;rfl;rfl;rfl;rfl;first|exact hi _|exact hj _|exact hs _)|refine JB ?_|refine JK ?_|refine JI ?_|(apply dT (ty:=4);rfl;rfl;rfl;rfl)|(apply dF (ty:=4);rfl;rfl;rfl;rfl)|(apply dB (ty:=4);rfl;rfl;rfl;rfl)|refine Jh ?_|(apply Wp.draw tOk follows;kernel_rfl)|intro hb
     all_goals first
      | exact Z5 _ _ _ _ _ _ _ _
      | rfl
      | (exfalso;simp at hb;done)
theorem c78 {nm:Bs} {ks:List Tm} (h0:(YG nm).kind=3) (h1:(YG nm).least≤ks.length) (h2:(ks.length:Int)≤(YG nm).most) (hA:∀ x,x∈ks→x.okA=true) (hS:SmL ks) (b:Bool):∃ f,∀ H,CallOk E0 Tryz.prog 78 [.agg (Tm.mk 3 nm 0 b ks).cells] H (.tup [.agg (Xc (.mk 3 nm 0 b ks)).cells,.bool f]) H:=by
 rcases Za8 h0 with ⟨hn,e1,e2⟩|⟨hn,e1,e2⟩
 · rw [e1] at h1
   rw [e2] at h2
   obtain ⟨a,rfl⟩:=Znv (l:=ks) (by omega)
   have ha:=hA a (by simp)
   rcases hn with rfl|rfl|rfl
   · exact ⟨_,Zid ha b⟩
   · exact ⟨_,ZhF ha b⟩
   · exact ⟨_,Zgy ha b⟩
 · rw [e1] at h1
   rw [e2] at h2
   obtain ⟨a,key,rfl⟩:=ZlH (l:=ks) (by omega)
   have ha:=hA a (by simp)
   have hk:=hA key (by simp)
   have ha':=hS a (by simp)
   have hk':=hS key (by simp)
   rcases hn with rfl|rfl|rfl
   · exact ⟨_,Zik ha ha' hk' b⟩
   · exact ⟨_,Zfd ha hk ha' hk' b⟩
   · exact ⟨_,Zgz ha hk ha' hk' b⟩
theorem ZeX (t:Tm) (h:l[i]? = some x):ZcM (l.drop i) t=(decide (x.cmp t=0)||ZcM (l.drop (i+1)) t):=by
 rw [ZL h]
 rfl
theorem ZoE (hl:SmL l) (ht:t.Ok∧t.size≤100000) (hlen:l.length≤1000000) (b:Bool):∀ H,CallOk E0 Tryz.prog 189 [slV b 4 (Za l),.agg t.cells] H (.bool (ZcM l t)) H:=by
 have hcs:∀ x,x∈l→∀ H,CallOk E0 Tryz.prog 21 [.agg x.cells,.agg t.cells] H (.bool (decide (x.cmp t=0))) H:=fun x hx=>Zcg (up2 (hl x hx)) (up2 ht)
 obtain ⟨k,nm,s,f,kz⟩:=t
 simp only [Tm.cells] at hcs ⊢
 refine Jw tOk fe189.ok rfl ?_ (by rw [show ZP [slV b 4 (Za l),.agg [.int .i64 k,.str nm,.int .i64 s,slV f 4 (Za kz)]]=some [slV b 4 (Za l),.agg [.int .i64 k,.str nm,.int .i64 s,slV f 4 (Za kz)]] from by simp only [ZP,Xd];simp only [frzG,Xv]])
 repeat' first|refine Ji ?_|refine JJ ?_|refine Jl ?_|refine Jx ?_|refine Jt ?_|refine Jb ?_ ?_|refine Jo ?_|refine JD ?_|refine JK ?_|(apply dLn;rfl;rfl;rfl;rfl;rfl)|refine JI ?_|(apply dT (ty:=4);rfl;rfl;rfl;rfl)|(apply dF (ty:=4);rfl;rfl;rfl;rfl)|(apply dB (ty:=4);rfl;rfl;rfl;rfl)|refine Jh ?_|(apply Wp.draw tOk follows;kernel_rfl)|intro hb
 refine Wp.while (fun m tm H => ∃ (i : Nat) (base : TM), i + m = l.length ∧ ZcM l (.mk k nm s f kz) = ZcM (l.drop i) (.mk k nm s f kz) ∧
   tm=ovr base [(0,slV b 4 (Za l)),(3,.ptr 0 4 0 0),(5,.int .i64 (i:Int))]∧H=⟨[.cells 4 [[.int .i64 k,.str nm,.int .i64 s,slV f 4 (Za kz)]]],0,[],0⟩)
  (fun m tm H hI=>?_) l.length _ _ ⟨0,_,by omega,by rw [List.drop_zero],Zf ⟨rfl,rfl,rfl,trivial⟩,rfl⟩
 obtain ⟨i,base,hi,hgo,rfl,rfl⟩:=hI
 rw [hgo]
 by_cases hlt:i<l.length
 · obtain ⟨x, hx⟩ : ∃ x, l[i]? = some x := ⟨l[i], by simp⟩
   have hc:=hcs x (List.mem_of_getElem? hx)
   have hd:=ZeX (.mk k nm s f kz) hx
   generalize decide (x.cmp (.mk k nm s f kz)=0)=c at hc hd
   obtain ⟨k',nm',s',f',kz'⟩:=x
   have hj:=Zh hx
   simp only [Tm.cells] at hc
   cases c
   · rw [Bool.false_or] at hd
     repeat' first|refine Jc (hc _) ?_|refine Ji ?_|refine JJ ?_|refine Jl ?_|refine Jx ?_|refine Jt ?_|refine Jb ?_ ?_|refine Jo ?_|refine Jd (hc _) ?_|refine JD ?_|refine JK ?_|(apply dLn;rfl;rfl;rfl;rfl;rfl)|refine JI ?_|(apply dT (ty:=4);rfl;rfl;rfl;rfl)|(apply dF (ty:=4);rfl;rfl;rfl;rfl)|(apply dB (ty:=4);rfl;rfl;rfl;rfl)|refine Jh ?_|(apply Wp.draw tOk follows;kernel_rfl)|intro hb
     all_goals first
      | exact LoopI.go (m-1) (by omega) ⟨i+1,_,by omega,by rw [hd],Zf ⟨rfl,rfl,Ze (Zc (n:=i+1) (by omega)),trivial⟩,rfl⟩
      | (exfalso;simp at hb;done)
      | (exfalso;simp only [Zb,decide_eq_false_iff_not] at hb;omega)
   · rw [Bool.true_or] at hd
     repeat' first|refine Jc (hc _) ?_|refine Ji ?_|refine JJ ?_|refine Jl ?_|refine Jx ?_|refine Jt ?_|refine Jb ?_ ?_|refine Jo ?_|refine Jd (hc _) ?_|refine JD ?_|refine JK ?_|(apply dLn;rfl;rfl;rfl;rfl;rfl)|refine JI ?_|(apply dT (ty:=4);rfl;rfl;rfl;rfl)|(apply dF (ty:=4);rfl;rfl;rfl;rfl)|(apply dB (ty:=4);rfl;rfl;rfl;rfl)|refine Jh ?_|(apply Wp.draw tOk follows;kernel_rfl)|intro hb
     all_goals first
      | (exfalso;simp at hb;done)
      | (exfalso;simp only [Zb,decide_eq_false_iff_not] at hb;omega)
      | rw [hd]
 · have e : i = l.length := by omega
   subst e
   repeat' first|refine Ji ?_|refine JJ ?_|refine Jl ?_|refine Jx ?_|refine Jt ?_|refine Jb ?_ ?_|refine Jo ?_|refine JD ?_|refine JK ?_|(apply dLn;rfl;rfl;rfl;rfl;rfl)|refine JI ?_|(apply dT (ty:=4);rfl;rfl;rfl;rfl)|(apply dF (ty:=4);rfl;rfl;rfl;rfl)|(apply dB (ty:=4);rfl;rfl;rfl;rfl)|refine Jh ?_|(apply Wp.draw tOk follows;kernel_rfl)|intro hb
   · exfalso;rw [Zb] at hb;simp at hb
   · rw [List.drop_length]
     rfl
def Zit (t:Tm) (l:List Tm):List Tm:=l.filter fun x=> !decide (x.cmp t=0)
theorem Zf9 (t:Tm) (h:l[i]? = some x):Zit t (l.take (i+1))=Zit t (l.take i)++if decide (x.cmp t=0)=true then [] else [x]:=by
 have e:l.take (i+1)=l.take i++ [x]:=by rw [List.take_add_one,h];rfl
 rw [e]
 unfold Zit
 rw [List.filter_append,List.filter_cons,List.filter_nil]
 cases decide (x.cmp t=0)<;>rfl
theorem ZhU (t:Tm) (l:List Tm):(Zit t l).length≤l.length:=List.length_filter_le _ _
theorem Znw (hl:SmL l) (ht:t.Ok∧t.size≤100000) (hlen:l.length≤100000) (b:Bool):∀ H,CallOk E0 Tryz.prog 160 [slV b 4 (Za l),.agg t.cells] H (slV true 4 (Za (QC l t))) H:=by
 have hh:=ZoE hl ht (by omega) b
 have ha:=Zpv b hl ht.1 ht.2 hlen
 have hcs:∀ x,x∈l→∀ H,CallOk E0 Tryz.prog 21 [.agg x.cells,.agg t.cells] H (.bool (decide (x.cmp t=0))) H:=fun x hx=>Zcg (up2 (hl x hx)) (up2 ht)
 have hns:=fun (i:Nat) (x:Tm) (h:l[i]? = some x)=>Zf9 t h
 have hnl:=ZhU t
 have ht8:QC l t=if ZcM l t=true then Zit t l else ZdP l t:=rfl
 rw [ht8]
 generalize ZcM l t=C at hh ⊢
 generalize ZdP l t=AL at ha ⊢
 obtain ⟨T,hT⟩:∃ T,T=t:=⟨_,rfl⟩
 rw [show Zit t l=Zit T l from by rw [hT]]
 rw [← hT] at hns hnl
 obtain ⟨k,nm,s,f,kz⟩:=t
 simp only [Tm.cells] at hh ha hcs ⊢
 refine Jw tOk fe160.ok (Zv _ _ _ _ _) ?_ (by simp only [ZP,Xd];simp [frzG,Xv])
 cases C
 · rw [if_neg (by decide)]
   repeat' first|refine Jc (hh _) ?_|refine Jc (ha _) ?_|refine Js ?_|refine JA ?_|refine Ji ?_|refine JJ ?_|refine Jl ?_|refine Jx ?_|refine Jt ?_|refine Jb ?_ ?_|refine Jo ?_|refine Jd (hh _) ?_|refine Jd (ha _) ?_|refine JB ?_|(apply dAq;rfl;rfl;rfl;rfl;rfl;rfl;(first|assumption|solve_by_elim))|(apply dAp;rfl;rfl;rfl;rfl;rfl;(first|assumption|solve_by_elim);rfl)|refine JD ?_|refine JK ?_|(apply dLn;rfl;rfl;rfl;rfl;rfl)|refine JI ?_|(apply dT (ty:=4);rfl;rfl;rfl;rfl)|(apply dF (ty:=4);rfl;rfl;rfl;rfl)|(apply dB (ty:=4);rfl;rfl;rfl;rfl)|refine Jh ?_|(apply Wp.draw tOk follows;kernel_rfl)|intro hb
   all_goals exact Zv _ _ _ _ _
 · rw [if_pos rfl]
   repeat' first|refine Jc (hh _) ?_|refine Jc (ha _) ?_|refine Js ?_|refine JA ?_|refine Ji ?_|refine JJ ?_|refine Jl ?_|refine Jx ?_|refine Jt ?_|refine Jb ?_ ?_|refine Jo ?_|refine Jd (hh _) ?_|refine Jd (ha _) ?_|refine JB ?_|(apply dAq;rfl;rfl;rfl;rfl;rfl;rfl;(first|assumption|solve_by_elim))|(apply dAp;rfl;rfl;rfl;rfl;rfl;(first|assumption|solve_by_elim);rfl)|refine JD ?_|refine JK ?_|(apply dLn;rfl;rfl;rfl;rfl;rfl)|refine JI ?_|(apply dT (ty:=4);rfl;rfl;rfl;rfl)|(apply dF (ty:=4);rfl;rfl;rfl;rfl)|(apply dB (ty:=4);rfl;rfl;rfl;rfl)|refine Jh ?_|(apply Wp.draw tOk follows;kernel_rfl)|intro hb
   refine Wp.while (fun m tm H => ∃ (i : Nat) (base : TM) (out : PV) (lv : List Nat) (nt : Nat), i + m = l.length ∧ ApV true 4 (Za (Zit T (l.take i))) out lv nt ∧
     tm=ovr base [(5,out),(0,slV b 4 (Za l)),(3,.ptr 0 4 0 0),(6,.int .i64 (i:Int))]∧H=⟨[.cells 4 [[.int .i64 k,.str nm,.int .i64 s,slV f 4 (Za kz)]]],0,lv,nt⟩)
    (fun m tm H hI=>?_) l.length _ _ ⟨0,_,_,_,_,by omega,.nil _ _ rfl,Zf ⟨rfl,rfl,rfl,rfl,trivial⟩,rfl⟩
   obtain ⟨i,base,out,lv,nt,hi,hA,rfl,rfl⟩:=hI
   by_cases hlt:i<l.length
   · obtain ⟨x, hx⟩ : ∃ x, l[i]? = some x := ⟨l[i], by simp⟩
     have hc:=hcs x (List.mem_of_getElem? hx)
     have hd:=hns i x hx
     have hle:=hnl (l.take i)
     rw [List.length_take] at hle
     obtain ⟨o1,lv1,nt1,hap1,hA1⟩:=Ux hA x (by omega)
     rw [← hT] at hc
     generalize decide (x.cmp T=0)=c at hc hd
     obtain ⟨k',nm',s',f',kz'⟩:=x
     have hj:=Zh hx
     simp only [Tm.cells] at hc hap1
     cases c
     · rw [if_neg (by decide)] at hd
       rw [← hd] at hA1
       repeat' first|refine Jc (hc _) ?_|refine Js ?_|refine JA ?_|refine Ji ?_|refine JJ ?_|refine Jl ?_|refine Jx ?_|refine Jt ?_|refine Jb ?_ ?_|refine Jo ?_|refine Jd (hc _) ?_|refine JB ?_|(apply dAq;rfl;rfl;rfl;rfl;rfl;rfl;(first|assumption|solve_by_elim))|(apply dAp;rfl;rfl;rfl;rfl;rfl;(first|assumption|solve_by_elim);rfl)|refine JD ?_|refine JK ?_|(apply dLn;rfl;rfl;rfl;rfl;rfl)|refine JI ?_|(apply dT (ty:=4);rfl;rfl;rfl;rfl)|(apply dF (ty:=4);rfl;rfl;rfl;rfl)|(apply dB (ty:=4);rfl;rfl;rfl;rfl)|refine Jh ?_|(apply Wp.draw tOk follows;kernel_rfl)|intro hb
       all_goals first
        | (exfalso;simp at hb;done)
        | (exfalso;simp only [Zb,decide_eq_false_iff_not] at hb;omega)
        | exact LoopI.go (m-1) (by omega) ⟨i+1,_,o1,lv1,nt1,by omega,hA1,Zf ⟨rfl,rfl,rfl,Ze (Zc (n:=i+1) (by omega)),trivial⟩,rfl⟩
     · rw [if_pos rfl, List.append_nil] at hd
       rw [← hd] at hA
       repeat' first|refine Jc (hc _) ?_|refine Js ?_|refine JA ?_|refine Ji ?_|refine JJ ?_|refine Jl ?_|refine Jx ?_|refine Jt ?_|refine Jb ?_ ?_|refine Jo ?_|refine Jd (hc _) ?_|refine JB ?_|(apply dAq;rfl;rfl;rfl;rfl;rfl;rfl;(first|assumption|solve_by_elim))|(apply dAp;rfl;rfl;rfl;rfl;rfl;(first|assumption|solve_by_elim);rfl)|refine JD ?_|refine JK ?_|(apply dLn;rfl;rfl;rfl;rfl;rfl)|refine JI ?_|(apply dT (ty:=4);rfl;rfl;rfl;rfl)|(apply dF (ty:=4);rfl;rfl;rfl;rfl)|(apply dB (ty:=4);rfl;rfl;rfl;rfl)|refine Jh ?_|(apply Wp.draw tOk follows;kernel_rfl)|intro hb
       all_goals first
        | (exfalso;simp at hb;done)
        | (exfalso;simp only [Zb,decide_eq_false_iff_not] at hb;omega)
        | exact LoopI.go (m-1) (by omega) ⟨i+1,_,out,lv,nt,by omega,hA,Zf ⟨rfl,rfl,rfl,Ze (Zc (n:=i+1) (by omega)),trivial⟩,rfl⟩
   · have e : i = l.length := by omega
     subst e
     rw [List.take_length] at hA
     repeat' first|refine Js ?_|refine JA ?_|refine Ji ?_|refine JJ ?_|refine Jl ?_|refine Jx ?_|refine Jt ?_|refine Jb ?_ ?_|refine Jo ?_|refine JB ?_|(apply dAq;rfl;rfl;rfl;rfl;rfl;rfl;(first|assumption|solve_by_elim))|(apply dAp;rfl;rfl;rfl;rfl;rfl;(first|assumption|solve_by_elim);rfl)|refine JD ?_|refine JK ?_|(apply dLn;rfl;rfl;rfl;rfl;rfl)|refine JI ?_|(apply dT (ty:=4);rfl;rfl;rfl;rfl)|(apply dF (ty:=4);rfl;rfl;rfl;rfl)|(apply dB (ty:=4);rfl;rfl;rfl;rfl)|refine Jh ?_|(apply Wp.draw tOk follows;kernel_rfl)|intro hb
     · exfalso;rw [Zb] at hb;simp at hb
     · exact hA.frz3 _ _
theorem Zj6 (hl:SmL l) (ht:t.Ok∧t.size≤100000):SmL (QC l t):=fun x hx=>by
 unfold QC at hx
 split at hx
 · exact hl x (List.mem_filter.1 hx).1
 · rcases ZhT hx with h | h
   · exact hl x h
   · rw [h];exact ht
theorem Zh8 (l:List Tm) (t:Tm):(QC l t).length≤l.length+1:=by
 unfold QC
 split
 · exact Nat.le_succ_of_le (List.length_filter_le _ _)
 · exact Zhd l t
theorem Zel:∀ (b a:List Tm),SmL a→SmL b→SmL (UU a b)
 | [],_,ha,_=>ha
 |t::r,a,ha,hb=>Zel r (QC a t) (Zj6 ha hb.head) hb.tail
theorem Zbp:∀ (b a:List Tm),(UU a b).length≤a.length+b.length
 | [],_=>Nat.le_refl _
 | t :: r, a => by
   have h1:=Zbp r (QC a t)
   have h2:=Zh8 a t
   rw [List.length_cons]
   exact Nat.le_trans h1 (by omega)
theorem ZeH (a:List Tm) (h:b[i]? = some x):UU a (b.take (i+1))=QC (UU a (b.take i)) x:=XZ h
theorem ZnZ {a:List Tm} (ha:SmL a) (hb':SmL b) (hl:a.length+b.length≤100000) (ba bb:Bool):∀ H,CallOk E0 Tryz.prog 128 [slV ba 4 (Za a),slV bb 4 (Za b)] H (slV (!b.isEmpty) 4 (Za (UU a b))) H:=by
 have hA0:ApV false 4 [] (.sl .full 4 []) [] 0:= .full [] _ _ rfl rfl
 obtain ⟨out',lv',nt',hap,hA', -⟩:=hA0.app YX (.slV ba 4 (Za a)) (Zr _) (ZX (by simp only [Zb,List.length_nil];omega) (by decide)) (ZU _)
 rw [List.nil_append] at hA'
 obtain ⟨tl,rfl⟩:=Zei hA'
 refine Jw tOk fe128.ok (Zv _ _ _ _ _) ?_
 repeat' first|refine Js ?_|refine JA ?_|refine Ji ?_|refine JJ ?_|refine Jl ?_|refine Jx ?_|refine Jt ?_|refine Jb ?_ ?_|refine Jo ?_|intro hb
 refine Wp.while (fun m tm H => ∃ (i : Nat) (base : TM) (V : PV), i + m = b.length ∧ (i = 0 ∧ V = .sl tl 4 (Za a) ∨ 0 < i ∧ V = slV true 4 (Za (UU a (b.take i)))) ∧
   tm=ovr base [(5,V),(1,slV bb 4 (Za b)),(6,.int .i64 (i:Int))]∧H=⟨[],0,lv',nt'⟩)
  (fun m tm H hI=>?_) b.length _ _ ⟨0,_,_,by omega,.inl ⟨rfl,rfl⟩,Zf ⟨rfl,rfl,rfl,trivial⟩,rfl⟩
 obtain ⟨i,base,V,hi,hV,rfl,rfl⟩:=hI
 by_cases hlt:i<b.length
 · obtain ⟨x, hx⟩ : ∃ x, b[i]? = some x := ⟨b[i], by simp⟩
   have hxs:=hb' x (List.mem_of_getElem? hx)
   have hsn:=ZeH a hx
   have h1:=Zbp (b.take i) a
   rw [List.length_take] at h1
   have hct:∀ H,CallOk E0 Tryz.prog 160 [V,.agg x.cells] H (slV true 4 (Za (UU a (b.take (i+1))))) H:=by
    rw [hsn]
    rcases hV with ⟨h0,rfl⟩|⟨_,rfl⟩
    · intro H
      have:=Znw (l:=a) ha hxs (by omega) false H
      rw [h0,List.take_zero,show UU a []=a from rfl]
      obtain ⟨k',nm',s',f',kz'⟩:=x
      simp only [Tm.cells,Z0] at this ⊢
      exact ZV this (by simp only [ZP,frzG,Uq,Yq];rfl)
    · exact Znw (Zel _ _ ha fun t ht=>hb' t (List.mem_of_mem_take ht)) hxs (by omega) true
   obtain ⟨k',nm',s',f',kz'⟩:=x
   have hj:=Zh hx
   simp only [Tm.cells] at hct
   repeat' first|refine Jc (hct _) ?_|refine Js ?_|refine JA ?_|refine Ji ?_|refine JJ ?_|refine Jl ?_|refine Jx ?_|refine Jt ?_|refine Jb ?_ ?_|refine Jo ?_|intro hb
   all_goals first
    | (exfalso;simp at hb;done)
    | (exfalso;simp only [Zb,decide_eq_false_iff_not] at hb;omega)
    | exact LoopI.go (m-1) (by omega) ⟨i+1,_,_,by omega,.inr ⟨by omega,rfl⟩,Zf ⟨rfl,rfl,Ze (Zc (n:=i+1) (by omega)),trivial⟩,rfl⟩
 · have e : i = b.length := by omega
   subst e
   repeat' first|refine Js ?_|refine JA ?_|refine Ji ?_|refine JJ ?_|refine Jl ?_|refine Jx ?_|refine Jt ?_|refine Jb ?_ ?_|refine Jo ?_|intro hb
   · exfalso;rw [Zb] at hb;simp at hb
   · rcases hV with ⟨h0, rfl⟩ | ⟨h0, rfl⟩
     · have e0 := List.length_eq_zero_iff.1 h0
       subst e0
       show _=some (slV false 4 (Za a))
       rw [Z0]
       rfl
     · rw [List.take_length]
       cases b with
       | nil=>exact absurd h0 (by simp)
       | cons y r=>exact Zv _ _ _ _ _
